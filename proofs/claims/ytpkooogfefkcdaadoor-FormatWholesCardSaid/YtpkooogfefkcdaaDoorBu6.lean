/- Several texts put together: DecSmall, NumI, FmtF, FmtG, FmtH. -/
import Derived.Test.YtpkooogfefkcdaaDoorBu5
import Derived.Test.YtpkooogfefkcdaaDoorBu1
import Derived.Laws.BytesArg
/- dec.small: a whole number of four words divided by one. -/
namespace Go.Proofs.YtpkooogfefkcdaaDoor
open Go.RowKit
set_option maxRecDepth 100000 in
set_option maxHeartbeats 400000 in
theorem small_raw (a b c d by_ : Int) (ha : Wd a) (hb : Wd b) (hc : Wd c) (hd : Wd d) (hy0 : 0 < by_) (hy : by_ < 18446744073709551616) (w : World) :
    Calls Tryd.prog 60 #[.agg #[.int .u64 a, .int .u64 b, .int .u64 c, .int .u64 d], .int .u64 by_] w fun e w' => 
      e = .returned (.tuple #[.agg #[.int .u64 (dq (dr (dr (dr 0 d by_) c by_) b by_) a by_), .int .u64 (dq (dr (dr 0 d by_) c by_) b by_), .int .u64 (dq (dr 0 d by_) c by_), .int .u64 (dq 0 d by_)], .int .u64 (dr (dr (dr (dr 0 d by_) c by_) b by_) a by_)]) ∧ Below w.heap.size w w' := by
  obtain ⟨a1, a2⟩ := ha; obtain ⟨b1, b2⟩ := hb; obtain ⟨c1, c2⟩ := hc; obtain ⟨d1, d2⟩ := hd
  obtain ⟨x1, x2⟩ := dr_range (lo := d) (Int.le_refl 0) hy0
  obtain ⟨x3, x4⟩ := dr_range (lo := c) x1 x2
  obtain ⟨x5, x6⟩ := dr_range (lo := b) x3 x4
  obtain ⟨x7, x8⟩ := dr_range (lo := a) x5 x6
  go_enter Tryd.func60, Tryd.ntmps60
  go_wp2_with fail
  refine wp_loop_rounds 5 ?_
  rw [rounds_succ]; go_wp2_with (go_at_call 69; refine (div64_any _ _ _ (by omega) (by omega) (by omega) (by omega) (by omega) _).mono ?_; rintro e w' ⟨rfl, n, rfl⟩)
  rw [rounds_succ]; go_wp2_with (go_at_call 69; refine (div64_any _ _ _ (by omega) (by omega) (by omega) (by omega) (by omega) _).mono ?_; rintro e w' ⟨rfl, n, rfl⟩)
  rw [rounds_succ]; go_wp2_with (go_at_call 69; refine (div64_any _ _ _ (by omega) (by omega) (by omega) (by omega) (by omega) _).mono ?_; rintro e w' ⟨rfl, n, rfl⟩)
  rw [rounds_succ]; go_wp2_with (go_at_call 69; refine (div64_any _ _ _ (by omega) (by omega) (by omega) (by omega) (by omega) _).mono ?_; rintro e w' ⟨rfl, n, rfl⟩)
  rw [rounds_succ]; go_wp2_with (go_at_call 69; refine (div64_any _ _ _ (by omega) (by omega) (by omega) (by omega) (by omega) _).mono ?_; rintro e w' ⟨rfl, n, rfl⟩)
  go_returns
  exact ⟨rfl, by (repeat' (first | (with_reducible exact Below.refl _ _) | (refine Below.trans ?_ (Below.mono (by with_reducible assumption) ?_)) | (with_reducible exact Below.refl _ _) | (with_reducible refine below_drewN ?_ _) | (with_reducible refine Below.drew ?_) | (with_reducible refine Below.setCell ?_ ?_ _) | (with_reducible refine Below.alloc ?_ ?_ _) | (with_reducible assumption) | (simp; done) | (simp; omega) | omega))⟩

theorem small_any (a b c d y : Int) (ha : Wd a) (hb : Wd b) (hc : Wd c) (hd : Wd d) (hy0 : 0 < y) (hy : y < 18446744073709551616) (w : World) :
    Calls Tryd.prog 60 #[.agg #[.int .u64 a, .int .u64 b, .int .u64 c, .int .u64 d], .int .u64 y] w fun e w' => ∃ q0 q1 q2 q3 r : Int,
      e = .returned (.tuple #[.agg #[.int .u64 q0, .int .u64 q1, .int .u64 q2, .int .u64 q3], .int .u64 r]) ∧ Wd q0 ∧ Wd q1 ∧ Wd q2 ∧ Wd q3 ∧ lim4 q0 q1 q2 q3 = lim4 a b c d / y ∧ r = lim4 a b c d % y ∧ Below w.heap.size w w' := by
  obtain ⟨q0, q1, q2, q3, r, e0, e1, e2, e3, e4, w0, w1, w2, w3, hq, hr⟩ := small_eq ha hb hc hd hy0
  refine (small_raw a b c d y ha hb hc hd hy0 hy w).mono ?_
  rintro e w' ⟨he, hw⟩
  exact ⟨q0, q1, q2, q3, r, by rw [he, e0, e1, e2, e3, e4], w0, w1, w2, w3, hq, hr, hw⟩
end Go.Proofs.YtpkooogfefkcdaaDoor

/- numeral.Text. -/
namespace Go.Proofs.YtpkooogfefkcdaaDoor
open Go.RowKit
/-- Memory while a text is made: the number's sign, and the text's bytes so far at the end of forty. -/
structure TxW (w : World) (n : Bool) (g : Nat) (T : List Nat) (wr : World) : Prop where
  neg : wr.cell? ⟨w.heap.size, 0, none⟩ = some (.bool n)
  old : ∀ j, j < 40 → ∃ v, wr.cell? ⟨g, j, none⟩ = some v
  fr : ∀ j, j < 40 → wr.frozen? ⟨g, j, none⟩ = false
  got : ∀ j (h : j < T.length), wr.cell? ⟨g, 40 - T.length + j, none⟩ = some (.int .u8 ((T[j] : Nat) : Int))
  sz : g < wr.heap.size
  gt : w.heap.size < g
  bel : Below w.heap.size w wr
theorem TxW.push {w : World} {n : Bool} {g : Nat} {T : List Nat} {wr : World} (h : TxW w n g T wr) (a x : Nat) (ha : a + 1 + T.length = 40) :
    TxW w n g (x :: T) (wr.setCell ⟨g, a, none⟩ (.int .u8 (x : Int))) := by
  have hgt := h.gt
  refine ⟨?_, ?_, ?_, ?_, ?_, hgt, ?_⟩
  · rw [World.cell?_setCell_other _ _ _ _ (by simp <;> omega)]; exact h.neg
  · intro j hj
    by_cases e : j = a
    · subst e
      obtain ⟨v, hv⟩ := h.old j hj
      exact ⟨_, World.cell?_setCell_same _ _ _ hv⟩
    · rw [World.cell?_setCell_other _ _ _ _ (by simp <;> omega)]; exact h.old j hj
  · intro j hj; rw [World.frozen?_setCell]; exact h.fr j hj
  · intro j hj
    rw [List.length_cons] at hj ⊢
    cases j with
    | zero =>
      obtain ⟨v, hv⟩ := h.old a (by omega)
      rw [show 40 - (T.length + 1) + 0 = a by omega]
      exact World.cell?_setCell_same _ _ _ hv
    | succ j =>
      rw [World.cell?_setCell_other _ _ _ _ (by simp <;> omega)]
      rw [show 40 - (T.length + 1) + (j + 1) = 40 - T.length + j by omega]
      simpa using h.got j (by omega)
  · rw [World.size_setCell]; exact h.sz
  · exact h.bel.setCell (by simp; omega) _
theorem TxW.drewN {w : World} {n : Bool} {g : Nat} {T : List Nat} {wr : World} (h : TxW w n g T wr) (k : Nat) : TxW w n g T (wr.drewN k) :=
  ⟨by simpa using h.neg, by simpa using h.old, by simpa using h.fr, by simpa using h.got, by simpa using h.sz, h.gt, below_drewN h.bel k⟩
theorem tx_start {w W : World} {n : Bool} {g : Nat} (hg : W.heap.size = g) (h1 : W.cell? ⟨w.heap.size, 0, none⟩ = some (.bool n)) (h2 : w.heap.size < W.heap.size) (h3 : Below w.heap.size w W) :
    TxW w n g [] (W.alloc (.cells #[Value.int .u8 0, Value.int .u8 0, Value.int .u8 0, Value.int .u8 0, Value.int .u8 0, Value.int .u8 0, Value.int .u8 0, Value.int .u8 0, Value.int .u8 0, Value.int .u8 0, Value.int .u8 0, Value.int .u8 0, Value.int .u8 0, Value.int .u8 0, Value.int .u8 0, Value.int .u8 0, Value.int .u8 0, Value.int .u8 0, Value.int .u8 0, Value.int .u8 0, Value.int .u8 0, Value.int .u8 0, Value.int .u8 0, Value.int .u8 0, Value.int .u8 0, Value.int .u8 0, Value.int .u8 0, Value.int .u8 0, Value.int .u8 0, Value.int .u8 0, Value.int .u8 0, Value.int .u8 0, Value.int .u8 0, Value.int .u8 0, Value.int .u8 0, Value.int .u8 0, Value.int .u8 0, Value.int .u8 0, Value.int .u8 0, Value.int .u8 0] 119)) := by
  subst hg
  have key : ∀ j, j < 40 → (W.alloc (.cells #[Value.int .u8 0, Value.int .u8 0, Value.int .u8 0, Value.int .u8 0, Value.int .u8 0, Value.int .u8 0, Value.int .u8 0, Value.int .u8 0, Value.int .u8 0, Value.int .u8 0, Value.int .u8 0, Value.int .u8 0, Value.int .u8 0, Value.int .u8 0, Value.int .u8 0, Value.int .u8 0, Value.int .u8 0, Value.int .u8 0, Value.int .u8 0, Value.int .u8 0, Value.int .u8 0, Value.int .u8 0, Value.int .u8 0, Value.int .u8 0, Value.int .u8 0, Value.int .u8 0, Value.int .u8 0, Value.int .u8 0, Value.int .u8 0, Value.int .u8 0, Value.int .u8 0, Value.int .u8 0, Value.int .u8 0, Value.int .u8 0, Value.int .u8 0, Value.int .u8 0, Value.int .u8 0, Value.int .u8 0, Value.int .u8 0, Value.int .u8 0] 119)).cell? ⟨W.heap.size, j, none⟩ = some (.int .u8 0) := by
    intro j hj
    rw [show (#[Value.int .u8 0, Value.int .u8 0, Value.int .u8 0, Value.int .u8 0, Value.int .u8 0, Value.int .u8 0, Value.int .u8 0, Value.int .u8 0, Value.int .u8 0, Value.int .u8 0, Value.int .u8 0, Value.int .u8 0, Value.int .u8 0, Value.int .u8 0, Value.int .u8 0, Value.int .u8 0, Value.int .u8 0, Value.int .u8 0, Value.int .u8 0, Value.int .u8 0, Value.int .u8 0, Value.int .u8 0, Value.int .u8 0, Value.int .u8 0, Value.int .u8 0, Value.int .u8 0, Value.int .u8 0, Value.int .u8 0, Value.int .u8 0, Value.int .u8 0, Value.int .u8 0, Value.int .u8 0, Value.int .u8 0, Value.int .u8 0, Value.int .u8 0, Value.int .u8 0, Value.int .u8 0, Value.int .u8 0, Value.int .u8 0, Value.int .u8 0] : Array Value) = Array.replicate 40 (Value.int .u8 0) from rfl]
    simp [go_sem, hj]
  refine ⟨?_, fun j hj => ⟨_, key j hj⟩, ?_, ?_, ?_, h2, ?_⟩
  · rw [World.cell?_alloc_old _ _ _ (Nat.ne_of_lt h2)]; exact h1
  · intro j hj
    simp [go_sem]
  · intro j hj; simp at hj
  · simp
  · exact h3.alloc (by omega) _
theorem mh_div {W : Nat} : mh (W / 10) = dq 0 (mh W) 10 ∧ ml (W / 10) = dq (dr 0 (mh W) 10) (ml W) 10 ∧ ((W % 10 : Nat) : Int) = dr (dr 0 (mh W) 10) (ml W) 10 := by
  unfold mh ml dq dr
  omega
theorem div_a (W : Nat) (hW : W < 10000000000000000000000000000000000000) (w : World) :
    Calls Tryd.prog 69 #[.int .u64 0, .int .u64 (mh W), .int .u64 10] w fun e w' => e = .returned (.tuple #[.int .u64 (mh (W / 10)), .int .u64 (dr 0 (mh W) 10)]) ∧ ∃ n, w' = w.drewN n := by
  rw [mh_div.1]
  exact div64_any 0 (mh W) 10 (by omega) (by omega) (by unfold mh; omega) (by unfold mh; omega) (by omega) w
theorem div_b (W : Nat) (w : World) :
    Calls Tryd.prog 69 #[.int .u64 (dr 0 (mh W) 10), .int .u64 (ml W), .int .u64 10] w fun e w' => e = .returned (.tuple #[.int .u64 (ml (W / 10)), .int .u64 ((W % 10 : Nat) : Int)]) ∧ ∃ n, w' = w.drewN n := by
  rw [mh_div.2.1, mh_div.2.2]
  have h := dr_range (hi := 0) (lo := mh W) (y := 10) (by omega) (by omega)
  exact div64_any _ (ml W) 10 h.1 h.2 (by unfold ml; omega) (by unfold ml; omega) (by omega) w
theorem mh_divm {N : Nat} : mh (N / 1000000) = dq 0 (mh N) 1000000 ∧ ml (N / 1000000) = dq (dr 0 (mh N) 1000000) (ml N) 1000000 ∧ ((N % 1000000 : Nat) : Int) = dr (dr 0 (mh N) 1000000) (ml N) 1000000 := by
  unfold mh ml dq dr
  omega
theorem div_mil (W : Nat) (hW : W < 1000000000000000000000000000000000000) (w : World) :
    Calls Tryd.prog 69 #[.int .u64 0, .int .u64 (mh W), .int .u64 1000000] w fun e w' => e = .returned (.tuple #[.int .u64 (mh (W / 1000000)), .int .u64 (dr 0 (mh W) 1000000)]) ∧ ∃ n, w' = w.drewN n := by
  rw [mh_divm.1]
  exact div64_any 0 (mh W) 1000000 (by omega) (by omega) (by unfold mh; omega) (by unfold mh; omega) (by omega) w
theorem div_d (W : Nat) (w : World) :
    Calls Tryd.prog 69 #[.int .u64 (dr 0 (mh W) 1000000), .int .u64 (ml W), .int .u64 1000000] w fun e w' => e = .returned (.tuple #[.int .u64 (ml (W / 1000000)), .int .u64 ((W % 1000000 : Nat) : Int)]) ∧ ∃ n, w' = w.drewN n := by
  rw [mh_divm.2.1, mh_divm.2.2]
  have h := dr_range (hi := 0) (lo := mh W) (y := 1000000) (by omega) (by omega)
  exact div64_any _ (ml W) 1000000 h.1 h.2 (by unfold ml; omega) (by unfold ml; omega) (by omega) w
set_option maxRecDepth 100000 in
set_option maxHeartbeats 400000 in
theorem text_bad (n : Bool) (h l : Int) (hg : goodB n h l = false) (w : World) :
    Calls Tryd.prog 62 #[.agg #[.bool n, .int .u64 h, .int .u64 l]] w fun e w' => e = .returned (.string (strN [])) ∧ Below w.heap.size w w' := by
  go_enter Tryd.func62, Tryd.ntmps62
  go_wp2_with (go_at_call 14; refine (good_any _ _ _ _).mono ?_; rintro e w1 ⟨rfl, rfl⟩)
  go_ret
  exact ⟨rfl, by (repeat' (first | (with_reducible exact Below.refl _ _) | (refine Below.trans ?_ (Below.mono (by with_reducible assumption) ?_)) | (with_reducible exact Below.refl _ _) | (with_reducible refine below_drewN ?_ _) | (with_reducible refine Below.drew ?_) | (with_reducible refine Below.setCell ?_ ?_ _) | (with_reducible refine Below.alloc ?_ ?_ _) | (with_reducible assumption) | (simp; done) | (simp; omega) | omega))⟩
theorem strN_nums (L : List Nat) : strOfNums (L.map Int.ofNat) = strN L := by
  unfold strOfNums strN
  rw [List.map_map]; rfl
theorem text_conv (W : World) (g a : Nat) (L : List Nat) (hL : a + L.length = 40) (h2 : ∀ j (h : j < L.length), W.cell? ⟨g, 40 - L.length + j, none⟩ = some (.int .u8 ((L[j] : Nat) : Int))) :
    (convert 46 9 (.slice (some ⟨g, a, none⟩) (40 - a) (40 - a))).run Tryd.prog W = .ok (.string (strN L)) W := by
  rw [← strN_nums]
  refine run_convert_bytes_arg (P := Tryd.prog) W 46 5 Tryd.underlying46 Tryd.underlying5 g a (40 - a) (40 - a) (L.map Int.ofNat) (by rw [List.length_map]; omega) (fun i hi => ?_) 9 Tryd.underlying9
  have hi' : i < L.length := by omega
  have := h2 i hi'
  rw [show a + i = 40 - L.length + i by omega, this]
  simp [List.getD_eq_getElem?_getD, List.getElem?_eq_getElem hi']
theorem text_slice (W : World) (g a : Nat) (ha : a < 40) : (Instr.sliceAt 119 (.pointer (some ⟨g, 0, none⟩)) (some (.int .i64 (a : Int))) none none).run Tryd.prog W = .ok (.slice (some ⟨g, a, none⟩) (40 - a) (40 - a)) W := by
  have hal : Tryd.prog.arrayLen 119 = 40 := by simp [Program.arrayLen, Tryd.underlying119]
  rw [run_sliceAt_array_l W 119 ⟨g, 0, none⟩ (by simp [Program.arrayLen, Program.elem, Tryd.underlying119]) .i64 (a : Int) (by omega) (by rw [hal]; omega)]
  have hne : ¬ (40 = a) := by omega
  simp [go_sem, hne]
/-- Where a text stands: in the last ones of forty cells. -/
def TxC (w : World) (n : Bool) (g : Nat) (T : List Nat) (t : Value) (wx : World) : Prop := ∃ a : Nat, t = .int .i64 (a : Int) ∧ a + T.length = 40 ∧ TxW w n g T wx
set_option maxRecDepth 100000 in
set_option maxHeartbeats 1600000 in
theorem text_ok (n : Bool) (h l z : Int) (ia : IsD n h l z) (w : World) :
    Calls Tryd.prog 62 #[.agg #[.bool n, .int .u64 h, .int .u64 l]] w fun e w' => e = .returned (.string (strN (textL z))) ∧ Below w.heap.size w w' := by
  have ga := good_of ia
  obtain ⟨N, hN⟩ : ∃ N, N = z.natAbs := ⟨_, rfl⟩
  obtain ⟨e1, e2, e3⟩ := ia.eq
  have hNl : N < 1000000000000000000000000000000000000 := by have := ia.2.2.2.2; unfold LIM at this; omega
  have eh : h = mh N := by rw [e2, hN]; unfold zh mh; omega
  have el : l = ml N := by rw [e3, hN]; unfold zl ml; omega
  have en : n = decide (z < 0) := e1
  have htx : textL z = (if n then [45] else []) ++ digs 31 (N / 1000000) (frP (N % 1000000)) := by
    unfold textL; rw [hN, en]; simp only [decide_eq_true_eq]
  rw [htx]
  have hA := fun W => div_mil N hNl W
  have hB := fun W => div_d N W
  subst eh el
  clear e1 e2 e3 en hN ia htx
  obtain ⟨R, hR⟩ : ∃ R, R = dr 0 (mh N) 1000000 := ⟨_, rfl⟩
  rw [← hR] at hA hB
  clear hR
  obtain ⟨F, hF⟩ : ∃ F, F = N % 1000000 := ⟨_, rfl⟩
  obtain ⟨V, hV⟩ : ∃ V, V = N / 1000000 := ⟨_, rfl⟩
  have hFl : F < 1000000 := by omega
  have hVl : V < 1000000000000000000000000000000 := by omega
  rw [← hV] at hA
  rw [← hF, ← hV] at hB
  rw [← hF, ← hV]
  have HA := Lib.hid hA
  have HB := Lib.hid hB
  have HVL := Lib.hid hVl
  obtain ⟨P, hP⟩ : ∃ P, P = frP F := ⟨_, rfl⟩
  rw [← hP]
  have hPl : P.length ≤ 7 := by rw [hP]; exact frP_len F
  have HP := Lib.hid hP
  clear hA hB hF hV hNl hVl hP
  go_enter Tryd.func62, Tryd.ntmps62
  go_upto_if 28 with (first
    | (go_at_call 14; refine (good_any _ _ _ _).mono ?_; rintro e w1 ⟨rfl, rfl⟩)
    | (go_at_call 69; (with_reducible refine (HA.out _).mono ?_); rintro e w1 ⟨rfl, n1, rfl⟩)
    | (go_at_call 69; (with_reducible refine (HB.out _).mono ?_); rintro e w1 ⟨rfl, n2, rfl⟩))
  clear ga
  go_cut [7] (fun t wx => TxC w n (w.heap.size + 1 + 1) P t wx)
  case first =>
    by_cases hF0 : F = 0
    · subst hF0
      clear hFl
      go_wp2_with fail
      go_meet
      rw [HP.out]
      exact ⟨40, rfl, rfl, tx_start (by simp) (by simp (maxDischargeDepth := 12) [go_sem]) (by simp; omega) (by (repeat' (first | (with_reducible exact Below.refl _ _) | (refine Below.trans ?_ (Below.mono (by with_reducible assumption) ?_)) | (with_reducible exact Below.refl _ _) | (with_reducible refine below_drewN ?_ _) | (with_reducible refine Below.drew ?_) | (with_reducible refine Below.setCell ?_ ?_ _) | (with_reducible refine Below.alloc ?_ ?_ _) | (with_reducible assumption) | (simp; done) | (simp; omega) | omega)))⟩
    · have hF1 : ((F : Int) != 0) = true := by rw [bne_iff_ne]; omega
      have hfp : P = 46 :: frs F 6 := by rw [HP.out]; unfold frP; rw [if_neg hF0]
      have HFP := Lib.hid hfp; clear hfp hF0
      go_wp2_with fail
      go_loopw [4, 7, 8] (fun r t i wr => ∃ (j k : Nat), j + k = 6 ∧ i = .int .i64 (j : Int) ∧ r = .int .u64 ((F / 10 ^ k : Nat) : Int) ∧ TxC w n (w.heap.size + 1 + 1) (frs F k) t wr) (fun _ _ i _ => (intOf i).toNat)
      case atStart => exact ⟨6, 0, rfl, rfl, by simp, 40, rfl, rfl, tx_start (by simp) (by simp (maxDischargeDepth := 12) [go_sem]) (by simp; omega) (by (repeat' (first | (with_reducible exact Below.refl _ _) | (refine Below.trans ?_ (Below.mono (by with_reducible assumption) ?_)) | (with_reducible exact Below.refl _ _) | (with_reducible refine below_drewN ?_ _) | (with_reducible refine Below.drew ?_) | (with_reducible refine Below.setCell ?_ ?_ _) | (with_reducible refine Below.alloc ?_ ?_ _) | (with_reducible assumption) | (simp; done) | (simp; omega) | omega)))⟩
      case round =>
        obtain ⟨j, k, hjk, rfl, rfl, a, rfl, ha, hT⟩ := hrel
        have hTl := frs_len F k
        have HT := Lib.hid hT
        obtain ⟨b, rfl⟩ : ∃ b, a = b + 1 := ⟨a - 1, by omega⟩
        obtain ⟨v, hv⟩ := hT.old b (by omega)
        have hf := hT.fr b (by omega)
        have hsz := hT.sz
        clear hT
        cases j with
        | zero =>
          obtain rfl : k = 6 := by omega
          go_wp2_with fail
          go_meet
          exact ⟨b, by go_num, by rw [HFP.out, List.length_cons]; omega, by rw [HFP.out]; exact HT.out.push b 46 (by omega)⟩
        | succ m =>
          have hd1 : F / 10 ^ (k + 1) = F / 10 ^ k / 10 := by rw [Nat.pow_succ, Nat.div_div_eq_div_mul]
          have hfs : frs F (k + 1) = if F / 10 ^ k % 10 ≠ 0 ∨ 0 < (frs F k).length then (48 + F / 10 ^ k % 10) :: frs F k else [] := rfl
          have hXl : F / 10 ^ k ≤ F := Nat.div_le_self _ _
          obtain ⟨X, hX⟩ : ∃ X, X = F / 10 ^ k := ⟨_, rfl⟩
          obtain ⟨Y, hY⟩ : ∃ Y, Y = F / 10 ^ k / 10 := ⟨_, rfl⟩
          obtain ⟨r, hr⟩ : ∃ r, r = F / 10 ^ k % 10 := ⟨_, rfl⟩
          rw [← hr] at hfs
          rw [← hY] at hd1
          rw [← hX]
          rw [← hX] at hY hr hXl
          clear hX
          have hm : (X : Int) % 10 = (r : Int) := by omega
          have hdv : (X : Int) / 10 = (Y : Int) := by omega
          have hr9 : r < 10 := by omega
          have HD := Lib.hid hd1
          clear hY hr hd1
          rcases Nat.eq_zero_or_pos r with hr0 | hr0
          · subst hr0
            rcases Nat.lt_or_ge b 39 with hb | hb
            · have hfs2 : frs F (k + 1) = 48 :: frs F k := by rw [hfs, if_pos (.inr (by omega))]
              have HFS := Lib.hid hfs2; clear hfs hfs2
              go_wp2_with fail
              go_roundw
              case rel => exact ⟨m, k + 1, by omega, rfl, by rw [HD.out], b, by go_num, by rw [HFS.out, List.length_cons]; omega, by rw [HFS.out]; exact HT.out.push b 48 (by omega)⟩
              case measure => simp [intOf]
            · obtain rfl : b = 39 := by omega
              have h0 : (frs F k).length = 0 := by omega
              have hfs2 : frs F (k + 1) = [] := by rw [hfs, if_neg (by omega)]
              have hfs3 : frs F k = [] := List.length_eq_zero_iff.1 h0
              have HFS := Lib.hid hfs2; have HFT := Lib.hid hfs3; clear hfs hfs2 hfs3 h0
              go_wp2_with fail
              go_roundw
              case rel => exact ⟨m, k + 1, by omega, rfl, by rw [HD.out], 40, by go_num, by rw [HFS.out]; rfl, by rw [HFS.out, ← HFT.out]; exact HT.out⟩
              case measure => simp [intOf]
          · have hfs2 : frs F (k + 1) = (48 + r) :: frs F k := by rw [hfs, if_pos (.inl (by omega))]
            have hr1 : ((r : Int) != 0) = true := by rw [bne_iff_ne]; omega
            have HFS := Lib.hid hfs2; clear hfs hfs2
            go_wp2_with fail
            go_roundw
            case rel => exact ⟨m, k + 1, by omega, rfl, by rw [HD.out], b, by go_num, by rw [HFS.out, List.length_cons]; omega, by rw [HFS.out]; exact HT.out.push b (48 + r) (by omega)⟩
            case measure => simp [intOf]
  case rest =>
    obtain ⟨a, rfl, ha, hT⟩ := hcut
    clear HP HA HB hFl
    have hneg := hT.neg
    have HT := Lib.hid hT
    clear hT
    go_upto_block 2 with fail
    go_cut [7] (fun t wx => TxC w n (w.heap.size + 1 + 1) (digs 31 V P) t wx ∧ (digs 31 V P).length ≤ 39)
    case first =>
      go_wp2_with fail
      go_loopg [3, 5, 7] 31 (fun k x y t wr => ∃ (U : Nat) (T : List Nat), x = .int .u64 (mh U) ∧ y = .int .u64 (ml U) ∧ U < 10000000000000000000000000000000000000 ∧ U < 10 ^ k ∧ 1 ≤ k ∧ digs k U T = digs 31 V P ∧ k + T.length ≤ 39 ∧ TxC w n (w.heap.size + 1 + 1) T t wr)
      case atStart =>
        have := HVL.out
        exact ⟨V, P, rfl, rfl, by omega, by omega, by omega, rfl, by omega, a, rfl, ha, HT.out⟩
      case round =>
        obtain ⟨U, T, rfl, rfl, hU, hUk, hk, hdg, hkl, c, rfl, hc, hT⟩ := hrel
        obtain ⟨b, rfl⟩ : ∃ b, c = b + 1 := ⟨c - 1, by omega⟩
        obtain ⟨v, hv⟩ := hT.old b (by omega)
        have hf := hT.fr b (by omega)
        have hsz := hT.sz
        have HA := Lib.hid (fun W => div_a U hU W)
        have HB := Lib.hid (fun W => div_b U W)
        have HTT := Lib.hid hT
        obtain ⟨k, rfl⟩ : ∃ j, gk = j + 1 := ⟨gk - 1, by omega⟩
        have hdg2 : digs 31 V P = if U / 10 = 0 then (48 + U % 10) :: T else digs k (U / 10) ((48 + U % 10) :: T) := hdg.symm
        have HDG := Lib.hid hdg2
        clear hT hdg hdg2
        by_cases hz : U / 10 = 0
        · have z1 : mh (U / 10) = 0 := by rw [hz]; rfl
          have z2 : ml (U / 10) = 0 := by rw [hz]; rfl
          have HZ := Lib.hid hz; clear hz
          have hr9 : U % 10 < 10 := by omega
          clear hU hUk
          go_wp2_with fail
          (with_reducible refine (HA.out _).mono ?_); rintro e w1 ⟨rfl, m1, rfl⟩
          go_wp2_with fail
          (with_reducible refine (HB.out _).mono ?_); rintro e w1 ⟨rfl, m2, rfl⟩
          go_wp2_with fail
          go_meet
          have hfin : digs 31 V P = (48 + U % 10) :: T := by rw [HDG.out, if_pos HZ.out]
          exact ⟨⟨b, by go_num, by rw [hfin, List.length_cons]; omega, by rw [hfin]; exact (HTT.out.drewN _).push b (48 + U % 10) (by omega)⟩, by rw [hfin, List.length_cons]; omega⟩
        · have hcas : (mh (U / 10) == 0) = false ∨ (mh (U / 10) = 0 ∧ (ml (U / 10) == 0) = false) := by
            by_cases g1 : mh (U / 10) = 0
            · right; refine ⟨g1, ?_⟩; rw [beq_eq_false_iff_ne]; unfold mh ml at *; omega
            · left; rw [beq_eq_false_iff_ne]; exact g1
          have hk1 : 1 ≤ k := by
            rcases Nat.eq_zero_or_pos k with h0 | h0
            · subst h0; omega
            · exact h0
          have hU2 : U / 10 < 10 ^ k := by rw [Nat.pow_succ] at hUk; omega
          have hU3 : U / 10 < 10000000000000000000000000000000000000 := by omega
          have HZ := Lib.hid hz; have HU2 := Lib.hid hU2; have HU3 := Lib.hid hU3
          clear hz hU2 hU3 hU hUk
          have hr9 : U % 10 < 10 := by omega
          rcases hcas with hw | ⟨hw1, hw⟩
          · go_wp2_with fail
            (with_reducible refine (HA.out _).mono ?_); rintro e w1 ⟨rfl, m1, rfl⟩
            go_wp2_with fail
            (with_reducible refine (HB.out _).mono ?_); rintro e w1 ⟨rfl, m2, rfl⟩
            go_wp2_with fail
            go_roundg k
            case measure => omega
            case rel => exact ⟨U / 10, (48 + U % 10) :: T, rfl, rfl, HU3.out, HU2.out, hk1, by rw [HDG.out, if_neg HZ.out], by rw [List.length_cons]; omega, b, by go_num, by rw [List.length_cons]; omega, (HTT.out.drewN _).push b (48 + U % 10) (by omega)⟩
          · have HW1 := Lib.hid hw1
            go_wp2_with fail
            (with_reducible refine (HA.out _).mono ?_); rintro e w1 ⟨rfl, m1, rfl⟩
            go_wp2_with fail
            (with_reducible refine (HB.out _).mono ?_); rintro e w1 ⟨rfl, m2, rfl⟩
            go_wp2_with fail
            go_roundg k
            case measure => omega
            case rel => exact ⟨U / 10, (48 + U % 10) :: T, by rw [HW1.out], rfl, HU3.out, HU2.out, hk1, by rw [HDG.out, if_neg HZ.out], by rw [List.length_cons]; omega, b, by go_num, by rw [List.length_cons]; omega, (HTT.out.drewN _).push b (48 + U % 10) (by omega)⟩
    case rest =>
      obtain ⟨⟨a, rfl, ha, hT⟩, hDl⟩ := hcut
      obtain ⟨D, hD⟩ : ∃ D, D = digs 31 V P := ⟨_, rfl⟩
      have hD1 := digs_pos 30 V P
      rw [← hD] at hD1
      rw [← hD] at ha hT hDl
      have HD := Lib.hid hD
      have hneg := hT.neg
      have HTT := Lib.hid hT
      have hT' := hT
      clear hT hD HVL hPl
      cases n
      · have hsl := fun W => text_slice W (w.heap.size + 1 + 1) a (by omega)
        have hcv := fun h => text_conv wc (w.heap.size + 1 + 1) a D ha h
        have hcv := hcv hT'.got
        clear hT'
        go_wp2
        go_ret
        exact ⟨by rw [HD.out]; rfl, HTT.out.bel⟩
      · obtain ⟨b, rfl⟩ : ∃ b, a = b + 1 := ⟨a - 1, by omega⟩
        obtain ⟨v, hv⟩ := hT'.old b (by omega)
        have hf := hT'.fr b (by omega)
        have hsz := hT'.sz
        have hsl := fun W => text_slice W (w.heap.size + 1 + 1) b (by omega)
        have hP2 := HTT.out.push b 45 (by omega)
        have hcv := text_conv _ (w.heap.size + 1 + 1) b (45 :: D) (by rw [List.length_cons]; omega) hP2.got
        have HP2 := Lib.hid hP2.bel
        rw [show ((45 : Nat) : Int) = 45 from rfl] at hcv
        clear hT' hP2
        go_wp2
        go_ret
        exact ⟨by rw [HD.out]; rfl, HP2.out⟩
end Go.Proofs.YtpkooogfefkcdaaDoor

/- Layer 8: strings.Repeat of one byte; filled, digits. -/
namespace Go.Proofs.YtpkooogfefkcdaaDoor
open Go.RowKit
theorem repeatL_one' (x : UInt8) : ∀ c, Lib.repeatL [x] c = List.replicate c x
  | 0 => rfl
  | c + 1 => by
    have ih := repeatL_one' x c
    simp [Lib.repeatL] at ih ⊢
    rw [List.replicate_succ, ← ih]
theorem repeat_any (x : Nat) (c : Nat) (hc : c ≤ 1000000) (w : World) : Calls Tryd.prog 30 #[.string { data := #[UInt8.ofNat x] }, .int .i64 (c : Int)] w fun e w' => e = .returned (.string (strN (List.replicate c x))) ∧ Below w.heap.size w w' := by
  refine (Tryd.strings_Repeat { data := #[UInt8.ofNat x] } c w (by omega) ?_).mono fun e w' h => ⟨?_, h.2⟩
  · show 1 * c ≤ _
    omega
  · rw [h.1]
    show Ending.returned (.string ⟨(Lib.repeatL [UInt8.ofNat x] c).toArray⟩) = _
    rw [repeatL_one']
    unfold strN
    simp
theorem IsD.abs {n : Bool} {h l z : Int} (i : IsD n h l z) : IsD false h l (z.natAbs : Int) := by
  obtain ⟨a, b, c, d, e⟩ := i
  exact ⟨a, b, by rw [c]; simp, by symm; exact decide_eq_false (by omega), by simpa using e⟩
set_option maxRecDepth 100000 in
set_option maxHeartbeats 1600000 in
theorem digits_any8 (n : Bool) (h l z : Int) (ia : IsD n h l z) (w : World) :
    Calls Tryd.prog 50 #[.agg #[.bool n, .int .u64 h, .int .u64 l]] w fun e w' => e = .returned (.tuple #[.string (strN (digitsF z).1), .string (strN (digitsF z).2)]) ∧ Below w.heap.size w w' := by
  have HT := Lib.hid (fun W => text_ok false h l (z.natAbs : Int) ia.abs W)
  have hcut := fun W => cut_any (textL (z.natAbs : Int)) (textL_bytes _) (by have := textL_len (z.natAbs : Int); omega) 46 (by decide) W
  have HC : Hid (∀ W, Calls Tryd.prog 61 #[.string (strN (textL (z.natAbs : Int))), .string { data := #[46] }] W fun e w' => e = .returned (.tuple #[.string (strN (cutL 46 (textL (z.natAbs : Int))).1), .string (strN (cutL 46 (textL (z.natAbs : Int))).2.1), .bool (cutL 46 (textL (z.natAbs : Int))).2.2]) ∧ Below W.heap.size W w') := Lib.hid hcut
  unfold digitsF
  generalize strN (textL (z.natAbs : Int)) = T at HT HC
  generalize cutL 46 (textL (z.natAbs : Int)) = R at HC ⊢
  clear hcut ia
  go_enter Tryd.func50, Tryd.ntmps50
  go_wp2_with (first
    | (go_at_call 62; (with_reducible refine (HT.out _).mono ?_); rintro e w2 ⟨rfl, b2⟩)
    | (go_at_call 61; (with_reducible refine (HC.out _).mono ?_); rintro e w3 ⟨rfl, b3⟩)
    | fail)
  (try simp only [Exit.inBlock, Exit.then]); refine bodyPost_ret (by simp [results, Tryd.results50, go_sem, *]; try rfl) rfl ?_
  exact ⟨rfl, below_step (below_step ((Below.refl _ w).alloc (Nat.le_refl _) _) b2) b3⟩
/-- A spec's value. -/
def specV (a : Nat) (s : SpecF) (next : Nat) : Array Value := specC a s.fl (s.width : Int) s.prec s.sw s.sp s.verb next
set_option maxRecDepth 100000 in
set_option maxHeartbeats 1600000 in
theorem filled_any (a next : Nat) (s : SpecF) (hp : -1000 < s.prec ∧ s.prec < 1000) (D : List Nat) (hD : D.length ≤ 100) (w : World) :
    Calls Tryd.prog 52 #[.agg (specV a s next), .string (strN D)] w fun e w' => e = .returned (.string (strN (filledF s.prec D))) ∧ Below w.heap.size w w' := by
  obtain ⟨c, hc⟩ : ∃ c : Nat, c = (s.prec - D.length).toNat := ⟨_, rfl⟩
  have hcm : c ≤ 1000 := by omega
  have HR := Lib.hid (fun W => show Calls Tryd.prog 30 #[.string { data := #[48] }, .int .i64 (c : Int)] W _ from repeat_any 48 c (by omega) W)
  have hap : strN (List.replicate c 48) ++ strN D = strN (filledF s.prec D) := by rw [strN_app]; unfold filledF; rw [hc]
  have hs1 : (strN (List.replicate c 48)).size ≤ 1000 := by rw [strN_size, List.length_replicate]; exact hcm
  have hs2 := strN_size D
  have hmx : max 0 (s.prec - (D.length : Int)) = (c : Int) := by omega
  generalize strN (List.replicate c 48) = A at HR hap hs1
  generalize strN D = B at hap hs2 ⊢
  simp only [specV, specC]
  clear hc
  go_enter Tryd.func52, Tryd.ntmps52
  go_wp2_with (first
    | (go_at_call 30; (with_reducible refine (HR.out _).mono ?_); rintro e w2 ⟨rfl, b2⟩)
    | fail)
  go_ret
  exact ⟨rfl, below_step ((Below.refl _ w).alloc (Nat.le_refl _) _) b2⟩
end Go.Proofs.YtpkooogfefkcdaaDoor

/- Layer 8: sign, zeros. -/
namespace Go.Proofs.YtpkooogfefkcdaaDoor
open Go.RowKit
set_option maxRecDepth 100000 in
set_option maxHeartbeats 1600000 in
theorem sign_any (a next : Nat) (s : SpecF) (n : Bool) (h l : Int) (w : World) :
    Calls Tryd.prog 51 #[.agg (specV a s next), .agg #[.bool n, .int .u64 h, .int .u64 l]] w fun e w' => e = .returned (.string (strN (signF s.fl n))) ∧ Below w.heap.size w w' := by
  obtain ⟨⟨fl, fz, fp, fb⟩, wd, pr, sw, sp, vb, ln⟩ := s
  simp only [specV, specC]
  cases n
  · cases fp
    · cases fb
      all_goals
        go_enter Tryd.func51, Tryd.ntmps51
        go_wp2
        go_ret
        exact ⟨rfl, by (repeat' (first | (with_reducible exact Below.refl _ _) | (refine Below.trans ?_ (Below.mono (by with_reducible assumption) ?_)) | (with_reducible exact Below.refl _ _) | (with_reducible refine below_drewN ?_ _) | (with_reducible refine Below.drew ?_) | (with_reducible refine Below.setCell ?_ ?_ _) | (with_reducible refine Below.alloc ?_ ?_ _) | (with_reducible assumption) | (simp; done) | (simp; omega) | omega))⟩
    · go_enter Tryd.func51, Tryd.ntmps51
      go_wp2
      go_ret
      exact ⟨rfl, by (repeat' (first | (with_reducible exact Below.refl _ _) | (refine Below.trans ?_ (Below.mono (by with_reducible assumption) ?_)) | (with_reducible exact Below.refl _ _) | (with_reducible refine below_drewN ?_ _) | (with_reducible refine Below.drew ?_) | (with_reducible refine Below.setCell ?_ ?_ _) | (with_reducible refine Below.alloc ?_ ?_ _) | (with_reducible assumption) | (simp; done) | (simp; omega) | omega))⟩
  · go_enter Tryd.func51, Tryd.ntmps51
    go_wp2
    go_ret
    exact ⟨rfl, by (repeat' (first | (with_reducible exact Below.refl _ _) | (refine Below.trans ?_ (Below.mono (by with_reducible assumption) ?_)) | (with_reducible exact Below.refl _ _) | (with_reducible refine below_drewN ?_ _) | (with_reducible refine Below.drew ?_) | (with_reducible refine Below.setCell ?_ ?_ _) | (with_reducible refine Below.alloc ?_ ?_ _) | (with_reducible assumption) | (simp; done) | (simp; omega) | omega))⟩
set_option maxRecDepth 100000 in
set_option maxHeartbeats 1600000 in
theorem zeros_any (a next : Nat) (s : SpecF) (hv : s.verb < 256) (hw : s.verb = 100 ∨ s.verb = 105 ∨ s.verb = 111 ∨ s.verb = 120 ∨ s.verb = 88 ∨ s.verb = 102 ∨ s.verb = 115 ∨ s.verb = 99) (w : World) :
    Calls Tryd.prog 34 #[.agg (specV a s next)] w fun e w' => e = .returned (.bool (zerosF s)) ∧ Below w.heap.size w w' := by
  obtain ⟨⟨fl, fz, fp, fb⟩, wd, pr, sw, sp, vb, ln⟩ := s
  simp only [specV, specC]
  dsimp only at hw hv
  rcases hw with rfl | rfl | rfl | rfl | rfl | rfl | rfl | rfl
  all_goals
    cases fz
    all_goals
      go_enter Tryd.func34, Tryd.ntmps34
      go_wp2
      all_goals
        go_ret
        exact ⟨by simp [zerosF] <;> omega, by (repeat' (first | (with_reducible exact Below.refl _ _) | (refine Below.trans ?_ (Below.mono (by with_reducible assumption) ?_)) | (with_reducible exact Below.refl _ _) | (with_reducible refine below_drewN ?_ _) | (with_reducible refine Below.drew ?_) | (with_reducible refine Below.setCell ?_ ?_ _) | (with_reducible refine Below.alloc ?_ ?_ _) | (with_reducible assumption) | (simp; done) | (simp; omega) | omega))⟩
end Go.Proofs.YtpkooogfefkcdaaDoor

/- Bytes of a call's own: appending a string's bytes to them. -/
namespace Go.Proofs.YtpkooogfefkcdaaDoor
open Go.RowKit
theorem extract_all (s : ByteArray) : (s.extract 0 s.size).data = s.data := by simp
/-- append(v, s...) of bytes and a string. -/
theorem run_appS (w : World) (base : Nat) (ty : TypeId) (hbase : base ≤ w.heap.size) (v : Value) (bs : List Nat) (hown : OB w base v bs) (L : List Nat) (hL : ∀ x ∈ L, x < 256) (hlen : bs.length + L.length ≤ 140737488351232) :
    ∃ v' w', (Builtin.append_ #[46, 9] ty #[v, .string (strN L)]).run Tryd.prog w = .ok v' w' ∧ OB w' base v' (bs ++ L) ∧ w.grownBy w' v.ownBlock ∧ (v'.ownBlock = v.ownBlock ∨ v'.ownBlock = some w.heap.size) := by
  obtain ⟨i, hi, hz, hz1, hz2⟩ := info_parts info_u8
  have hsz := strN_size L
  have hnews : ((strN L).data.map fun b : UInt8 => Value.int .u8 (b.toNat : Int)) = (L.map bv).toArray := by
    simp only [strN, List.map_toArray, List.map_map]
    rw [show L.map ((fun b : UInt8 => Value.int .u8 (b.toNat : Int)) ∘ fun x => UInt8.ofNat x) = L.map bv from List.map_congr_left fun x hx => by
      have e : (UInt8.ofNat x).toNat = x := by rw [UInt8.toNat_ofNat', Nat.mod_eq_of_lt (show x < 2 ^ 8 from hL x hx)]
      simp only [Function.comp, bv, e]]
  have hfirst : ∀ W : World, (Builtin.firstCells i.size L.length (.string (strN L))).run Tryd.prog W = .ok (L.map bv).toArray W := fun W => by
    have : ((strN L).extract 0 L.length).data = (strN L).data := by rw [← hsz]; exact extract_all _
    simp only [Builtin.firstCells, this, hnews]
    rfl
  have hbytes : ∀ y ∈ bs ++ L, y < 256 := fun y hy => by
    rcases List.mem_append.1 hy with hy | hy
    · exact hown.1 y hy
    · exact hL y hy
  have hxl : (bs.map bv ++ L.map bv).length = (bs.length + L.length) * 1 := by simp
  have grown : ∀ (old : Nat), old < bs.length + L.length → ∀ (row : Option Nat),
      OB (w.drew.alloc (.cells ((bs.map bv).toArray ++ (L.map bv).toArray ++ Builtin.zeroCells (Value.int .u8 0).cells (grownCap w (bs.length + L.length) old 5 - (bs.length + L.length))) 5)) base
        (.slice (some ⟨w.heap.size, 0, none⟩) (bs.length + L.length) (grownCap w (bs.length + L.length) old 5)) (bs ++ L) ∧
      w.grownBy (w.drew.alloc (.cells ((bs.map bv).toArray ++ (L.map bv).toArray ++ Builtin.zeroCells (Value.int .u8 0).cells (grownCap w (bs.length + L.length) old 5 - (bs.length + L.length))) 5)) row := by
    intro old ho row
    have hge := grownCap_ge w (bs.length + L.length) old 5
    have hcm : grownCap w (bs.length + L.length) old 5 ≤ maxLen := grownCap_le_maxLen w _ old 5 (by unfold maxLen; omega)
    refine ⟨⟨hbytes, ?_, .inr ⟨w.heap.size, _, _, by rw [List.length_append], hbase, heap_alloc_new w.drew _, by rw [List.length_append]; exact hge, hcm, ?_, ?_⟩⟩, ⟨rfl, rfl, rfl, by simp, fun k hk _ => Below.heap_alloc w.drew _ k hk⟩⟩
    · simp
    · simp only [Array.size_append, List.size_toArray, size_zeroCells, List.length_map]
      show bs.length + L.length + (_ - (bs.length + L.length)) * 1 = _
      omega
    · simp only [Array.toList_append, List.append_assoc]
      rw [← List.append_assoc, show (bs ++ L).length * 1 = (bs.map bv ++ L.map bv).length by simp, List.map_append]
      exact List.take_left
  obtain ⟨hb, hl0, h0 | ⟨g, cap, cur, rfl, hbg, hg, hnc, hcm, hcs, htake⟩⟩ := hown
  · obtain ⟨rfl, hbl⟩ := h0
    have hbs : bs = [] := List.length_eq_zero_iff.1 hbl
    subst hbs
    by_cases hm : L.length = 0
    · have hLn : L = [] := List.length_eq_zero_iff.1 hm
      subst hLn
      refine ⟨.slice none 0 0, w, ?_, OB.nil w base, ⟨rfl, rfl, rfl, Nat.le_refl _, fun _ _ _ => rfl⟩, .inl rfl⟩
      simp [Builtin.append_, run_underlying Tryd.underlying46, run_underlying Tryd.underlying9, sizeOf, typeInfo, hi, Builtin.lenOf, Builtin.firstCells, strN, ByteArray.size]
    · have hgr := grown 0 (by simp; omega) (Value.ownBlock (.slice none 0 0))
      simp only [List.length_nil, Nat.zero_add, List.nil_append, List.map_nil] at hgr
      have hn : ¬ (L.length ≤ 0) := by omega
      have h48' : ¬ (281474976710656 < Builtin.nextslicecap L.length 0 * i.bytes) := by rw [nextslicecap_zero (by omega), hz2]; simp at hlen; omega
      refine ⟨_, _, ?_, hgr.1, hgr.2, .inr rfl⟩
      have hf2 := hfirst w.drew
      rw [hz1] at hf2
      have h63 : ¬ (9223372036854775807 < (L.length : Int)) := by simp at hlen; omega
      simp [Builtin.append_, run_underlying Tryd.underlying46, run_underlying Tryd.underlying9, sizeOf, typeInfo, zeroValue, hi, hz, hz1, Builtin.lenOf, hm, h63, h48', Question.forced, run_firstCells_none, hsz, hf2, newRow, grownCap]
  · by_cases hroom : bs.length + L.length ≤ cap
    · have hst := run_storeCells_at Tryd.prog g (bs.length * 1) 5 (L.map bv) 0 cur w hg (by rw [hcs]; simp; omega) (fun u hu => by
        obtain ⟨y, _, rfl⟩ := List.mem_map.1 hu
        rfl)
      simp only [Nat.add_zero, Nat.mul_one] at hst
      have hf2 := hfirst w
      rw [hz1] at hf2
      have hv : (.slice (some ⟨g, 0, none⟩) (bs.length + L.length) cap : Value) = .slice (some ⟨g, 0, none⟩) (bs ++ L).length cap := by rw [List.length_append]
      refine ⟨.slice (some ⟨g, 0, none⟩) (bs.length + L.length) cap, w.setRow g (cur.toList.take bs.length ++ L.map bv ++ cur.toList.drop (bs.length + (L.map bv).length)).toArray, ?c1, ⟨hbytes, by simp, .inr ⟨g, cap, (cur.toList.take bs.length ++ L.map bv ++ cur.toList.drop (bs.length + (L.map bv).length)).toArray, hv, hbg, setRow_heap w g cur _ 5 _ hg, by rw [List.length_append]; exact hroom, hcm, ?c2, ?c3⟩⟩, ⟨rfl, rfl, rfl, by simp, fun k _ hk => setRow_other w g k _ (fun e => hk (by simp [Value.ownBlock, e]))⟩, .inl rfl⟩
      case c1 =>
        simp [Builtin.append_, run_underlying Tryd.underlying46, run_underlying Tryd.underlying9, sizeOf, typeInfo, hi, hz1, Builtin.lenOf, hsz, hroom, hf2, Addr.add_lit, hst]
      case c2 =>
        simp only [List.size_toArray, List.length_append, List.length_take, List.length_drop, Array.length_toList, List.length_map]
        omega
      case c3 =>
        have ht : cur.toList.take bs.length = bs.map bv := by rw [← htake, Nat.mul_one]
        rw [ht, show (bs ++ L).length * 1 = (bs.map bv ++ L.map bv).length by simp, List.map_append]
        exact List.take_left
    · have hgr := grown cap (by omega) (Value.ownBlock (.slice (some ⟨g, 0, none⟩) bs.length cap))
      have hn : ¬ (bs.length + L.length ≤ cap) := hroom
      have h63 : ¬ (9223372036854775807 < ((bs.length : Int) + (L.length : Int))) := by omega
      have h48' : ¬ (281474976710656 < Builtin.nextslicecap (bs.length + L.length) cap * i.bytes) := by
        have := growslice_fits (need := bs.length + L.length) (old := cap) (bytes := i.bytes) (by omega) (by rw [hz2]; omega)
        omega
      have hf2 := hfirst w.drew
      rw [hz1] at hf2
      have holds : ∀ j u, (bs.map bv)[j]? = some u → w.drew.cell? ((⟨g, 0, none⟩ : Addr).add j) = some u := fun j u hu => by
        rw [World.cell?_drew]
        exact World.ownsRow.cells (w := w) (base := base) (e := 5) (size := 1) (v := .slice (some ⟨g, 0, none⟩) bs.length cap) (n := bs.length) (xs := bs.map bv) ⟨hl0, .inr ⟨g, cap, cur, rfl, hbg, hg, hnc, hcm, hcs, htake⟩⟩ (g := g) rfl j u hu
      have hfo := run_firstCells_some (P := Tryd.prog) w.drew 1 bs.length ⟨g, 0, none⟩ bs.length cap (bs.map bv) (by simp) holds
      refine ⟨_, _, ?_, hgr.1, hgr.2, .inr rfl⟩
      simp [Builtin.append_, run_underlying Tryd.underlying46, run_underlying Tryd.underlying9, sizeOf, typeInfo, zeroValue, hi, hz, hz1, Builtin.lenOf, hn, h63, h48', Question.forced, hsz, hf2, hfo, newRow, grownCap]
      have harr : ∀ Z : Array Value, (bs.map bv).toArray ++ ((L.map bv).toArray ++ Z) = (bs.map bv ++ L.map bv).toArray ++ Z := fun Z => by
        apply Array.ext'; simp
      rw [harr]
theorem wpList_appS {w : World} {ops : Array Oper} {rest : List Oper} {o : Oper} {a : Act} {Q : Exit → Act → World → Prop} (hgd : o.guard = none) (s x : Operand)
    (ho : o.op = .call { callee := .builtin .append, args := #[s, x], argTypes := #[46, 9] }) (base : Nat) (hbase : base ≤ w.heap.size) (v : Value) (bs : List Nat) (hs : a.eval s = v) (hown : OB w base v bs)
    (L : List Nat) (hL : ∀ x ∈ L, x < 256) (hx : a.eval x = .string (strN L)) (hlen : bs.length + L.length ≤ 140737488351232)
    (h : ∀ v' w', OB w' base v' (bs ++ L) → w.grownBy w' v.ownBlock → (v'.ownBlock = v.ownBlock ∨ v'.ownBlock = some w.heap.size) → wpList Tryd.prog ops Q rest (a.put o.dst v') w') : wpList Tryd.prog ops Q (o :: rest) a w := by
  refine wpList_plain hgd fun K hK => ?_
  obtain ⟨v', w', hr, h2, h3, h4⟩ := run_appS w base o.type hbase v bs hown L hL hlen
  unfold Oper.wp execOp
  simp only [ho, resolve, invoke, builtin, Sem.run_bind, Sem.run_pure, Result.andThen_ok, List.map_toArray, List.map_cons, List.map_nil, hs, hx, hr]
  exact hK _ _ (h v' w' h2 h3 h4)
/-- In a region that draws. -/
theorem if_appS {w : World} {ops : Array Oper} {o : Oper} {a : Act} {K : Act → World → Prop} {Q : Exit → Act → World → Prop} (hw : Region.wanted o (yielded ops a.tmps) = true) (s x : Operand)
    (ho : o.op = .call { callee := .builtin .append, args := #[s, x], argTypes := #[46, 9] }) (base : Nat) (hbase : base ≤ w.heap.size) (v : Value) (bs : List Nat) (hs : a.eval s = v) (hown : OB w base v bs)
    (L : List Nat) (hL : ∀ x ∈ L, x < 256) (hx : a.eval x = .string (strN L)) (hlen : bs.length + L.length ≤ 140737488351232)
    (h : ∀ v' w', OB w' base v' (bs ++ L) → w.grownBy w' v.ownBlock → (v'.ownBlock = v.ownBlock ∨ v'.ownBlock = some w.heap.size) → K (a.put o.dst v') w') : if Region.wanted o (yielded ops a.tmps) = true then Oper.wp Tryd.prog o a w K Q else K (a.put o.dst undef) w := by
  rw [if_pos hw]
  obtain ⟨v', w', hr, h2, h3, h4⟩ := run_appS w base o.type hbase v bs hown L hL hlen
  unfold Oper.wp execOp
  simp only [ho, resolve, invoke, builtin, Sem.run_bind, Sem.run_pure, Result.andThen_ok, List.map_toArray, List.map_cons, List.map_nil, hs, hx, hr]
  exact h v' w' h2 h3 h4
end Go.Proofs.YtpkooogfefkcdaaDoor
