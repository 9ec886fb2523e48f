/- Several texts put together: DecSmall, NumI, NumJ, RefC. -/
import Derived.Test.YtkhhjibpppmekaaBu7
import Derived.Test.YtkhhjibpppmekaaBu4
import Derived.Test.YtkhhjibpppmekaaBu5
import Derived.Laws.BytesArg
import Derived.Test.YtkhhjibpppmekaaBu3
import Derived.Lib.SlBytesConst
/- dec.small: a whole number of four words divided by one. -/
namespace Go.Proofs.Ytkhhjibpppmekaa
open Go.RowKit
set_option maxRecDepth 100000 in
set_option maxHeartbeats 400000 in
theorem small_raw (a b c d by_ : Int) (ha : Wd a) (hb : Wd b) (hc : Wd c) (hd : Wd d) (hy0 : 0 < by_) (hy : by_ < 18446744073709551616) (w : World) :
    Calls Try.prog 78 #[.agg #[.int .u64 a, .int .u64 b, .int .u64 c, .int .u64 d], .int .u64 by_] w fun e w' => 
      e = .returned (.tuple #[.agg #[.int .u64 (dq (dr (dr (dr 0 d by_) c by_) b by_) a by_), .int .u64 (dq (dr (dr 0 d by_) c by_) b by_), .int .u64 (dq (dr 0 d by_) c by_), .int .u64 (dq 0 d by_)], .int .u64 (dr (dr (dr (dr 0 d by_) c by_) b by_) a by_)]) ∧ Below w.heap.size w w' := by
  obtain ⟨a1, a2⟩ := ha; obtain ⟨b1, b2⟩ := hb; obtain ⟨c1, c2⟩ := hc; obtain ⟨d1, d2⟩ := hd
  obtain ⟨x1, x2⟩ := dr_range (lo := d) (Int.le_refl 0) hy0
  obtain ⟨x3, x4⟩ := dr_range (lo := c) x1 x2
  obtain ⟨x5, x6⟩ := dr_range (lo := b) x3 x4
  obtain ⟨x7, x8⟩ := dr_range (lo := a) x5 x6
  go_enter Try.func78, Try.ntmps78
  go_wp2_with fail
  refine wp_loop_rounds 5 ?_
  rw [rounds_succ]; go_wp2_with (go_at_call 64; refine (div64_any _ _ _ (by omega) (by omega) (by omega) (by omega) (by omega) _).mono ?_; rintro e w' ⟨rfl, n, rfl⟩)
  rw [rounds_succ]; go_wp2_with (go_at_call 64; refine (div64_any _ _ _ (by omega) (by omega) (by omega) (by omega) (by omega) _).mono ?_; rintro e w' ⟨rfl, n, rfl⟩)
  rw [rounds_succ]; go_wp2_with (go_at_call 64; refine (div64_any _ _ _ (by omega) (by omega) (by omega) (by omega) (by omega) _).mono ?_; rintro e w' ⟨rfl, n, rfl⟩)
  rw [rounds_succ]; go_wp2_with (go_at_call 64; refine (div64_any _ _ _ (by omega) (by omega) (by omega) (by omega) (by omega) _).mono ?_; rintro e w' ⟨rfl, n, rfl⟩)
  rw [rounds_succ]; go_wp2_with (go_at_call 64; refine (div64_any _ _ _ (by omega) (by omega) (by omega) (by omega) (by omega) _).mono ?_; rintro e w' ⟨rfl, n, rfl⟩)
  go_returns
  exact ⟨rfl, by (repeat' (first | (with_reducible exact Below.refl _ _) | (refine Below.trans ?_ (Below.mono (by with_reducible assumption) ?_)) | (with_reducible exact Below.refl _ _) | (with_reducible refine below_drewN ?_ _) | (with_reducible refine Below.drew ?_) | (with_reducible refine Below.setCell ?_ ?_ _) | (with_reducible refine Below.alloc ?_ ?_ _) | (with_reducible assumption) | (simp; done) | (simp; omega) | omega))⟩

theorem small_any (a b c d y : Int) (ha : Wd a) (hb : Wd b) (hc : Wd c) (hd : Wd d) (hy0 : 0 < y) (hy : y < 18446744073709551616) (w : World) :
    Calls Try.prog 78 #[.agg #[.int .u64 a, .int .u64 b, .int .u64 c, .int .u64 d], .int .u64 y] w fun e w' => ∃ q0 q1 q2 q3 r : Int,
      e = .returned (.tuple #[.agg #[.int .u64 q0, .int .u64 q1, .int .u64 q2, .int .u64 q3], .int .u64 r]) ∧ Wd q0 ∧ Wd q1 ∧ Wd q2 ∧ Wd q3 ∧ lim4 q0 q1 q2 q3 = lim4 a b c d / y ∧ r = lim4 a b c d % y ∧ Below w.heap.size w w' := by
  obtain ⟨q0, q1, q2, q3, r, e0, e1, e2, e3, e4, w0, w1, w2, w3, hq, hr⟩ := small_eq ha hb hc hd hy0
  refine (small_raw a b c d y ha hb hc hd hy0 hy w).mono ?_
  rintro e w' ⟨he, hw⟩
  exact ⟨q0, q1, q2, q3, r, by rw [he, e0, e1, e2, e3, e4], w0, w1, w2, w3, hq, hr, hw⟩
end Go.Proofs.Ytkhhjibpppmekaa

/- numeral.Text. -/
namespace Go.Proofs.Ytkhhjibpppmekaa
open Go.RowKit
/-- Memory while a text is made: the number's sign, and the text's bytes so far at the end of forty. -/
structure TxW (w : World) (n : Bool) (g : Nat) (T : List Nat) (wr : World) : Prop where
  neg : wr.cell? ⟨w.heap.size, 0, none⟩ = some (.bool n)
  old : ∀ j, j < 40 → ∃ v, wr.cell? ⟨g, j, none⟩ = some v
  fr : ∀ j, j < 40 → wr.frozen? ⟨g, j, none⟩ = false
  got : ∀ j (h : j < T.length), wr.cell? ⟨g, 40 - T.length + j, none⟩ = some (.int .u8 ((T[j] : Nat) : Int))
  sz : g < wr.heap.size
  gt : w.heap.size < g
  bel : Below w.heap.size w wr
theorem TxW.push {w : World} {n : Bool} {g : Nat} {T : List Nat} {wr : World} (h : TxW w n g T wr) (a x : Nat) (ha : a + 1 + T.length = 40) :
    TxW w n g (x :: T) (wr.setCell ⟨g, a, none⟩ (.int .u8 (x : Int))) := by
  have hgt := h.gt
  refine ⟨?_, ?_, ?_, ?_, ?_, hgt, ?_⟩
  · rw [World.cell?_setCell_other _ _ _ _ (by simp <;> omega)]; exact h.neg
  · intro j hj
    by_cases e : j = a
    · subst e
      obtain ⟨v, hv⟩ := h.old j hj
      exact ⟨_, World.cell?_setCell_same _ _ _ hv⟩
    · rw [World.cell?_setCell_other _ _ _ _ (by simp <;> omega)]; exact h.old j hj
  · intro j hj; rw [World.frozen?_setCell]; exact h.fr j hj
  · intro j hj
    rw [List.length_cons] at hj ⊢
    cases j with
    | zero =>
      obtain ⟨v, hv⟩ := h.old a (by omega)
      rw [show 40 - (T.length + 1) + 0 = a by omega]
      exact World.cell?_setCell_same _ _ _ hv
    | succ j =>
      rw [World.cell?_setCell_other _ _ _ _ (by simp <;> omega)]
      rw [show 40 - (T.length + 1) + (j + 1) = 40 - T.length + j by omega]
      simpa using h.got j (by omega)
  · rw [World.size_setCell]; exact h.sz
  · exact h.bel.setCell (by simp; omega) _
theorem TxW.drewN {w : World} {n : Bool} {g : Nat} {T : List Nat} {wr : World} (h : TxW w n g T wr) (k : Nat) : TxW w n g T (wr.drewN k) :=
  ⟨by simpa using h.neg, by simpa using h.old, by simpa using h.fr, by simpa using h.got, by simpa using h.sz, h.gt, below_drewN h.bel k⟩
theorem tx_start {w W : World} {n : Bool} {g : Nat} (hg : W.heap.size = g) (h1 : W.cell? ⟨w.heap.size, 0, none⟩ = some (.bool n)) (h2 : w.heap.size < W.heap.size) (h3 : Below w.heap.size w W) :
    TxW w n g [] (W.alloc (.cells #[Value.int .u8 0, Value.int .u8 0, Value.int .u8 0, Value.int .u8 0, Value.int .u8 0, Value.int .u8 0, Value.int .u8 0, Value.int .u8 0, Value.int .u8 0, Value.int .u8 0, Value.int .u8 0, Value.int .u8 0, Value.int .u8 0, Value.int .u8 0, Value.int .u8 0, Value.int .u8 0, Value.int .u8 0, Value.int .u8 0, Value.int .u8 0, Value.int .u8 0, Value.int .u8 0, Value.int .u8 0, Value.int .u8 0, Value.int .u8 0, Value.int .u8 0, Value.int .u8 0, Value.int .u8 0, Value.int .u8 0, Value.int .u8 0, Value.int .u8 0, Value.int .u8 0, Value.int .u8 0, Value.int .u8 0, Value.int .u8 0, Value.int .u8 0, Value.int .u8 0, Value.int .u8 0, Value.int .u8 0, Value.int .u8 0, Value.int .u8 0] 99)) := by
  subst hg
  have key : ∀ j, j < 40 → (W.alloc (.cells #[Value.int .u8 0, Value.int .u8 0, Value.int .u8 0, Value.int .u8 0, Value.int .u8 0, Value.int .u8 0, Value.int .u8 0, Value.int .u8 0, Value.int .u8 0, Value.int .u8 0, Value.int .u8 0, Value.int .u8 0, Value.int .u8 0, Value.int .u8 0, Value.int .u8 0, Value.int .u8 0, Value.int .u8 0, Value.int .u8 0, Value.int .u8 0, Value.int .u8 0, Value.int .u8 0, Value.int .u8 0, Value.int .u8 0, Value.int .u8 0, Value.int .u8 0, Value.int .u8 0, Value.int .u8 0, Value.int .u8 0, Value.int .u8 0, Value.int .u8 0, Value.int .u8 0, Value.int .u8 0, Value.int .u8 0, Value.int .u8 0, Value.int .u8 0, Value.int .u8 0, Value.int .u8 0, Value.int .u8 0, Value.int .u8 0, Value.int .u8 0] 99)).cell? ⟨W.heap.size, j, none⟩ = some (.int .u8 0) := by
    intro j hj
    rw [show (#[Value.int .u8 0, Value.int .u8 0, Value.int .u8 0, Value.int .u8 0, Value.int .u8 0, Value.int .u8 0, Value.int .u8 0, Value.int .u8 0, Value.int .u8 0, Value.int .u8 0, Value.int .u8 0, Value.int .u8 0, Value.int .u8 0, Value.int .u8 0, Value.int .u8 0, Value.int .u8 0, Value.int .u8 0, Value.int .u8 0, Value.int .u8 0, Value.int .u8 0, Value.int .u8 0, Value.int .u8 0, Value.int .u8 0, Value.int .u8 0, Value.int .u8 0, Value.int .u8 0, Value.int .u8 0, Value.int .u8 0, Value.int .u8 0, Value.int .u8 0, Value.int .u8 0, Value.int .u8 0, Value.int .u8 0, Value.int .u8 0, Value.int .u8 0, Value.int .u8 0, Value.int .u8 0, Value.int .u8 0, Value.int .u8 0, Value.int .u8 0] : Array Value) = Array.replicate 40 (Value.int .u8 0) from rfl]
    simp [go_sem, hj]
  refine ⟨?_, fun j hj => ⟨_, key j hj⟩, ?_, ?_, ?_, h2, ?_⟩
  · rw [World.cell?_alloc_old _ _ _ (Nat.ne_of_lt h2)]; exact h1
  · intro j hj
    simp [go_sem]
  · intro j hj; simp at hj
  · simp
  · exact h3.alloc (by omega) _
theorem mh_div {W : Nat} : mh (W / 10) = dq 0 (mh W) 10 ∧ ml (W / 10) = dq (dr 0 (mh W) 10) (ml W) 10 ∧ ((W % 10 : Nat) : Int) = dr (dr 0 (mh W) 10) (ml W) 10 := by
  unfold mh ml dq dr
  omega
theorem div_a (W : Nat) (hW : W < 10000000000000000000000000000000000000) (w : World) :
    Calls Try.prog 64 #[.int .u64 0, .int .u64 (mh W), .int .u64 10] w fun e w' => e = .returned (.tuple #[.int .u64 (mh (W / 10)), .int .u64 (dr 0 (mh W) 10)]) ∧ ∃ n, w' = w.drewN n := by
  rw [mh_div.1]
  exact div64_any 0 (mh W) 10 (by omega) (by omega) (by unfold mh; omega) (by unfold mh; omega) (by omega) w
theorem div_b (W : Nat) (w : World) :
    Calls Try.prog 64 #[.int .u64 (dr 0 (mh W) 10), .int .u64 (ml W), .int .u64 10] w fun e w' => e = .returned (.tuple #[.int .u64 (ml (W / 10)), .int .u64 ((W % 10 : Nat) : Int)]) ∧ ∃ n, w' = w.drewN n := by
  rw [mh_div.2.1, mh_div.2.2]
  have h := dr_range (hi := 0) (lo := mh W) (y := 10) (by omega) (by omega)
  exact div64_any _ (ml W) 10 h.1 h.2 (by unfold ml; omega) (by unfold ml; omega) (by omega) w
theorem mh_divm {N : Nat} : mh (N / 1000000) = dq 0 (mh N) 1000000 ∧ ml (N / 1000000) = dq (dr 0 (mh N) 1000000) (ml N) 1000000 ∧ ((N % 1000000 : Nat) : Int) = dr (dr 0 (mh N) 1000000) (ml N) 1000000 := by
  unfold mh ml dq dr
  omega
theorem div_mil (W : Nat) (hW : W < 1000000000000000000000000000000000000) (w : World) :
    Calls Try.prog 64 #[.int .u64 0, .int .u64 (mh W), .int .u64 1000000] w fun e w' => e = .returned (.tuple #[.int .u64 (mh (W / 1000000)), .int .u64 (dr 0 (mh W) 1000000)]) ∧ ∃ n, w' = w.drewN n := by
  rw [mh_divm.1]
  exact div64_any 0 (mh W) 1000000 (by omega) (by omega) (by unfold mh; omega) (by unfold mh; omega) (by omega) w
theorem div_d (W : Nat) (w : World) :
    Calls Try.prog 64 #[.int .u64 (dr 0 (mh W) 1000000), .int .u64 (ml W), .int .u64 1000000] w fun e w' => e = .returned (.tuple #[.int .u64 (ml (W / 1000000)), .int .u64 ((W % 1000000 : Nat) : Int)]) ∧ ∃ n, w' = w.drewN n := by
  rw [mh_divm.2.1, mh_divm.2.2]
  have h := dr_range (hi := 0) (lo := mh W) (y := 1000000) (by omega) (by omega)
  exact div64_any _ (ml W) 1000000 h.1 h.2 (by unfold ml; omega) (by unfold ml; omega) (by omega) w
set_option maxRecDepth 100000 in
set_option maxHeartbeats 400000 in
theorem text_bad (n : Bool) (h l : Int) (hg : goodB n h l = false) (w : World) :
    Calls Try.prog 28 #[.agg #[.bool n, .int .u64 h, .int .u64 l]] w fun e w' => e = .returned (.string (strN [])) ∧ Below w.heap.size w w' := by
  go_enter Try.func28, Try.ntmps28
  go_wp2_with (go_at_call 31; refine (good_any _ _ _ _).mono ?_; rintro e w1 ⟨rfl, rfl⟩)
  go_ret
  exact ⟨rfl, by (repeat' (first | (with_reducible exact Below.refl _ _) | (refine Below.trans ?_ (Below.mono (by with_reducible assumption) ?_)) | (with_reducible exact Below.refl _ _) | (with_reducible refine below_drewN ?_ _) | (with_reducible refine Below.drew ?_) | (with_reducible refine Below.setCell ?_ ?_ _) | (with_reducible refine Below.alloc ?_ ?_ _) | (with_reducible assumption) | (simp; done) | (simp; omega) | omega))⟩
theorem strN_nums (L : List Nat) : strOfNums (L.map Int.ofNat) = strN L := by
  unfold strOfNums strN
  rw [List.map_map]; rfl
theorem text_conv (W : World) (g a : Nat) (L : List Nat) (hL : a + L.length = 40) (h2 : ∀ j (h : j < L.length), W.cell? ⟨g, 40 - L.length + j, none⟩ = some (.int .u8 ((L[j] : Nat) : Int))) :
    (convert 62 9 (.slice (some ⟨g, a, none⟩) (40 - a) (40 - a))).run Try.prog W = .ok (.string (strN L)) W := by
  rw [← strN_nums]
  refine run_convert_bytes_arg (P := Try.prog) W 62 5 Try.underlying62 Try.underlying5 g a (40 - a) (40 - a) (L.map Int.ofNat) (by rw [List.length_map]; omega) (fun i hi => ?_) 9 Try.underlying9
  have hi' : i < L.length := by omega
  have := h2 i hi'
  rw [show a + i = 40 - L.length + i by omega, this]
  simp [List.getD_eq_getElem?_getD, List.getElem?_eq_getElem hi']
theorem text_slice (W : World) (g a : Nat) (ha : a < 40) : (Instr.sliceAt 99 (.pointer (some ⟨g, 0, none⟩)) (some (.int .i64 (a : Int))) none none).run Try.prog W = .ok (.slice (some ⟨g, a, none⟩) (40 - a) (40 - a)) W := by
  have hal : Try.prog.arrayLen 99 = 40 := by simp [Program.arrayLen, Try.underlying99]
  rw [run_sliceAt_array_l W 99 ⟨g, 0, none⟩ (by simp [Program.arrayLen, Program.elem, Try.underlying99]) .i64 (a : Int) (by omega) (by rw [hal]; omega)]
  have hne : ¬ (40 = a) := by omega
  simp [go_sem, hne]
/-- Where a text stands: in the last ones of forty cells. -/
def TxC (w : World) (n : Bool) (g : Nat) (T : List Nat) (t : Value) (wx : World) : Prop := ∃ a : Nat, t = .int .i64 (a : Int) ∧ a + T.length = 40 ∧ TxW w n g T wx
set_option maxRecDepth 100000 in
set_option maxHeartbeats 1600000 in
theorem text_ok (n : Bool) (h l z : Int) (ia : IsD n h l z) (w : World) :
    Calls Try.prog 28 #[.agg #[.bool n, .int .u64 h, .int .u64 l]] w fun e w' => e = .returned (.string (strN (textL z))) ∧ Below w.heap.size w w' := by
  have ga := good_of ia
  obtain ⟨N, hN⟩ : ∃ N, N = z.natAbs := ⟨_, rfl⟩
  obtain ⟨e1, e2, e3⟩ := ia.eq
  have hNl : N < 1000000000000000000000000000000000000 := by have := ia.2.2.2.2; unfold LIM at this; omega
  have eh : h = mh N := by rw [e2, hN]; unfold zh mh; omega
  have el : l = ml N := by rw [e3, hN]; unfold zl ml; omega
  have en : n = decide (z < 0) := e1
  have htx : textL z = (if n then [45] else []) ++ digs 31 (N / 1000000) (frP (N % 1000000)) := by
    unfold textL; rw [hN, en]; simp only [decide_eq_true_eq]
  rw [htx]
  have hA := fun W => div_mil N hNl W
  have hB := fun W => div_d N W
  subst eh el
  clear e1 e2 e3 en hN ia htx
  obtain ⟨R, hR⟩ : ∃ R, R = dr 0 (mh N) 1000000 := ⟨_, rfl⟩
  rw [← hR] at hA hB
  clear hR
  obtain ⟨F, hF⟩ : ∃ F, F = N % 1000000 := ⟨_, rfl⟩
  obtain ⟨V, hV⟩ : ∃ V, V = N / 1000000 := ⟨_, rfl⟩
  have hFl : F < 1000000 := by omega
  have hVl : V < 1000000000000000000000000000000 := by omega
  rw [← hV] at hA
  rw [← hF, ← hV] at hB
  rw [← hF, ← hV]
  have HA := Lib.hid hA
  have HB := Lib.hid hB
  have HVL := Lib.hid hVl
  obtain ⟨P, hP⟩ : ∃ P, P = frP F := ⟨_, rfl⟩
  rw [← hP]
  have hPl : P.length ≤ 7 := by rw [hP]; exact frP_len F
  have HP := Lib.hid hP
  clear hA hB hF hV hNl hVl hP
  go_enter Try.func28, Try.ntmps28
  go_upto_if 28 with (first
    | (go_at_call 31; refine (good_any _ _ _ _).mono ?_; rintro e w1 ⟨rfl, rfl⟩)
    | (go_at_call 64; (with_reducible refine (HA.out _).mono ?_); rintro e w1 ⟨rfl, n1, rfl⟩)
    | (go_at_call 64; (with_reducible refine (HB.out _).mono ?_); rintro e w1 ⟨rfl, n2, rfl⟩))
  clear ga
  go_cut [7] (fun t wx => TxC w n (w.heap.size + 1 + 1) P t wx)
  case first =>
    by_cases hF0 : F = 0
    · subst hF0
      clear hFl
      go_wp2_with fail
      go_meet
      rw [HP.out]
      exact ⟨40, rfl, rfl, tx_start (by simp) (by simp (maxDischargeDepth := 12) [go_sem]) (by simp; omega) (by (repeat' (first | (with_reducible exact Below.refl _ _) | (refine Below.trans ?_ (Below.mono (by with_reducible assumption) ?_)) | (with_reducible exact Below.refl _ _) | (with_reducible refine below_drewN ?_ _) | (with_reducible refine Below.drew ?_) | (with_reducible refine Below.setCell ?_ ?_ _) | (with_reducible refine Below.alloc ?_ ?_ _) | (with_reducible assumption) | (simp; done) | (simp; omega) | omega)))⟩
    · have hF1 : ((F : Int) != 0) = true := by rw [bne_iff_ne]; omega
      have hfp : P = 46 :: frs F 6 := by rw [HP.out]; unfold frP; rw [if_neg hF0]
      have HFP := Lib.hid hfp; clear hfp hF0
      go_wp2_with fail
      go_loopw [4, 7, 8] (fun r t i wr => ∃ (j k : Nat), j + k = 6 ∧ i = .int .i64 (j : Int) ∧ r = .int .u64 ((F / 10 ^ k : Nat) : Int) ∧ TxC w n (w.heap.size + 1 + 1) (frs F k) t wr) (fun _ _ i _ => (intOf i).toNat)
      case atStart => exact ⟨6, 0, rfl, rfl, by simp, 40, rfl, rfl, tx_start (by simp) (by simp (maxDischargeDepth := 12) [go_sem]) (by simp; omega) (by (repeat' (first | (with_reducible exact Below.refl _ _) | (refine Below.trans ?_ (Below.mono (by with_reducible assumption) ?_)) | (with_reducible exact Below.refl _ _) | (with_reducible refine below_drewN ?_ _) | (with_reducible refine Below.drew ?_) | (with_reducible refine Below.setCell ?_ ?_ _) | (with_reducible refine Below.alloc ?_ ?_ _) | (with_reducible assumption) | (simp; done) | (simp; omega) | omega)))⟩
      case round =>
        obtain ⟨j, k, hjk, rfl, rfl, a, rfl, ha, hT⟩ := hrel
        have hTl := frs_len F k
        have HT := Lib.hid hT
        obtain ⟨b, rfl⟩ : ∃ b, a = b + 1 := ⟨a - 1, by omega⟩
        obtain ⟨v, hv⟩ := hT.old b (by omega)
        have hf := hT.fr b (by omega)
        have hsz := hT.sz
        clear hT
        cases j with
        | zero =>
          obtain rfl : k = 6 := by omega
          go_wp2_with fail
          go_meet
          exact ⟨b, by go_num, by rw [HFP.out, List.length_cons]; omega, by rw [HFP.out]; exact HT.out.push b 46 (by omega)⟩
        | succ m =>
          have hd1 : F / 10 ^ (k + 1) = F / 10 ^ k / 10 := by rw [Nat.pow_succ, Nat.div_div_eq_div_mul]
          have hfs : frs F (k + 1) = if F / 10 ^ k % 10 ≠ 0 ∨ 0 < (frs F k).length then (48 + F / 10 ^ k % 10) :: frs F k else [] := rfl
          have hXl : F / 10 ^ k ≤ F := Nat.div_le_self _ _
          obtain ⟨X, hX⟩ : ∃ X, X = F / 10 ^ k := ⟨_, rfl⟩
          obtain ⟨Y, hY⟩ : ∃ Y, Y = F / 10 ^ k / 10 := ⟨_, rfl⟩
          obtain ⟨r, hr⟩ : ∃ r, r = F / 10 ^ k % 10 := ⟨_, rfl⟩
          rw [← hr] at hfs
          rw [← hY] at hd1
          rw [← hX]
          rw [← hX] at hY hr hXl
          clear hX
          have hm : (X : Int) % 10 = (r : Int) := by omega
          have hdv : (X : Int) / 10 = (Y : Int) := by omega
          have hr9 : r < 10 := by omega
          have HD := Lib.hid hd1
          clear hY hr hd1
          rcases Nat.eq_zero_or_pos r with hr0 | hr0
          · subst hr0
            rcases Nat.lt_or_ge b 39 with hb | hb
            · have hfs2 : frs F (k + 1) = 48 :: frs F k := by rw [hfs, if_pos (.inr (by omega))]
              have HFS := Lib.hid hfs2; clear hfs hfs2
              go_wp2_with fail
              go_roundw
              case rel => exact ⟨m, k + 1, by omega, rfl, by rw [HD.out], b, by go_num, by rw [HFS.out, List.length_cons]; omega, by rw [HFS.out]; exact HT.out.push b 48 (by omega)⟩
              case measure => simp [intOf]
            · obtain rfl : b = 39 := by omega
              have h0 : (frs F k).length = 0 := by omega
              have hfs2 : frs F (k + 1) = [] := by rw [hfs, if_neg (by omega)]
              have hfs3 : frs F k = [] := List.length_eq_zero_iff.1 h0
              have HFS := Lib.hid hfs2; have HFT := Lib.hid hfs3; clear hfs hfs2 hfs3 h0
              go_wp2_with fail
              go_roundw
              case rel => exact ⟨m, k + 1, by omega, rfl, by rw [HD.out], 40, by go_num, by rw [HFS.out]; rfl, by rw [HFS.out, ← HFT.out]; exact HT.out⟩
              case measure => simp [intOf]
          · have hfs2 : frs F (k + 1) = (48 + r) :: frs F k := by rw [hfs, if_pos (.inl (by omega))]
            have hr1 : ((r : Int) != 0) = true := by rw [bne_iff_ne]; omega
            have HFS := Lib.hid hfs2; clear hfs hfs2
            go_wp2_with fail
            go_roundw
            case rel => exact ⟨m, k + 1, by omega, rfl, by rw [HD.out], b, by go_num, by rw [HFS.out, List.length_cons]; omega, by rw [HFS.out]; exact HT.out.push b (48 + r) (by omega)⟩
            case measure => simp [intOf]
  case rest =>
    obtain ⟨a, rfl, ha, hT⟩ := hcut
    clear HP HA HB hFl
    have hneg := hT.neg
    have HT := Lib.hid hT
    clear hT
    go_upto_block 2 with fail
    go_cut [7] (fun t wx => TxC w n (w.heap.size + 1 + 1) (digs 31 V P) t wx ∧ (digs 31 V P).length ≤ 39)
    case first =>
      go_wp2_with fail
      go_loopg [3, 5, 7] 31 (fun k x y t wr => ∃ (U : Nat) (T : List Nat), x = .int .u64 (mh U) ∧ y = .int .u64 (ml U) ∧ U < 10000000000000000000000000000000000000 ∧ U < 10 ^ k ∧ 1 ≤ k ∧ digs k U T = digs 31 V P ∧ k + T.length ≤ 39 ∧ TxC w n (w.heap.size + 1 + 1) T t wr)
      case atStart =>
        have := HVL.out
        exact ⟨V, P, rfl, rfl, by omega, by omega, by omega, rfl, by omega, a, rfl, ha, HT.out⟩
      case round =>
        obtain ⟨U, T, rfl, rfl, hU, hUk, hk, hdg, hkl, c, rfl, hc, hT⟩ := hrel
        obtain ⟨b, rfl⟩ : ∃ b, c = b + 1 := ⟨c - 1, by omega⟩
        obtain ⟨v, hv⟩ := hT.old b (by omega)
        have hf := hT.fr b (by omega)
        have hsz := hT.sz
        have HA := Lib.hid (fun W => div_a U hU W)
        have HB := Lib.hid (fun W => div_b U W)
        have HTT := Lib.hid hT
        obtain ⟨k, rfl⟩ : ∃ j, gk = j + 1 := ⟨gk - 1, by omega⟩
        have hdg2 : digs 31 V P = if U / 10 = 0 then (48 + U % 10) :: T else digs k (U / 10) ((48 + U % 10) :: T) := hdg.symm
        have HDG := Lib.hid hdg2
        clear hT hdg hdg2
        by_cases hz : U / 10 = 0
        · have z1 : mh (U / 10) = 0 := by rw [hz]; rfl
          have z2 : ml (U / 10) = 0 := by rw [hz]; rfl
          have HZ := Lib.hid hz; clear hz
          have hr9 : U % 10 < 10 := by omega
          clear hU hUk
          go_wp2_with fail
          (with_reducible refine (HA.out _).mono ?_); rintro e w1 ⟨rfl, m1, rfl⟩
          go_wp2_with fail
          (with_reducible refine (HB.out _).mono ?_); rintro e w1 ⟨rfl, m2, rfl⟩
          go_wp2_with fail
          go_meet
          have hfin : digs 31 V P = (48 + U % 10) :: T := by rw [HDG.out, if_pos HZ.out]
          exact ⟨⟨b, by go_num, by rw [hfin, List.length_cons]; omega, by rw [hfin]; exact (HTT.out.drewN _).push b (48 + U % 10) (by omega)⟩, by rw [hfin, List.length_cons]; omega⟩
        · have hcas : (mh (U / 10) == 0) = false ∨ (mh (U / 10) = 0 ∧ (ml (U / 10) == 0) = false) := by
            by_cases g1 : mh (U / 10) = 0
            · right; refine ⟨g1, ?_⟩; rw [beq_eq_false_iff_ne]; unfold mh ml at *; omega
            · left; rw [beq_eq_false_iff_ne]; exact g1
          have hk1 : 1 ≤ k := by
            rcases Nat.eq_zero_or_pos k with h0 | h0
            · subst h0; omega
            · exact h0
          have hU2 : U / 10 < 10 ^ k := by rw [Nat.pow_succ] at hUk; omega
          have hU3 : U / 10 < 10000000000000000000000000000000000000 := by omega
          have HZ := Lib.hid hz; have HU2 := Lib.hid hU2; have HU3 := Lib.hid hU3
          clear hz hU2 hU3 hU hUk
          have hr9 : U % 10 < 10 := by omega
          rcases hcas with hw | ⟨hw1, hw⟩
          · go_wp2_with fail
            (with_reducible refine (HA.out _).mono ?_); rintro e w1 ⟨rfl, m1, rfl⟩
            go_wp2_with fail
            (with_reducible refine (HB.out _).mono ?_); rintro e w1 ⟨rfl, m2, rfl⟩
            go_wp2_with fail
            go_roundg k
            case measure => omega
            case rel => exact ⟨U / 10, (48 + U % 10) :: T, rfl, rfl, HU3.out, HU2.out, hk1, by rw [HDG.out, if_neg HZ.out], by rw [List.length_cons]; omega, b, by go_num, by rw [List.length_cons]; omega, (HTT.out.drewN _).push b (48 + U % 10) (by omega)⟩
          · have HW1 := Lib.hid hw1
            go_wp2_with fail
            (with_reducible refine (HA.out _).mono ?_); rintro e w1 ⟨rfl, m1, rfl⟩
            go_wp2_with fail
            (with_reducible refine (HB.out _).mono ?_); rintro e w1 ⟨rfl, m2, rfl⟩
            go_wp2_with fail
            go_roundg k
            case measure => omega
            case rel => exact ⟨U / 10, (48 + U % 10) :: T, by rw [HW1.out], rfl, HU3.out, HU2.out, hk1, by rw [HDG.out, if_neg HZ.out], by rw [List.length_cons]; omega, b, by go_num, by rw [List.length_cons]; omega, (HTT.out.drewN _).push b (48 + U % 10) (by omega)⟩
    case rest =>
      obtain ⟨⟨a, rfl, ha, hT⟩, hDl⟩ := hcut
      obtain ⟨D, hD⟩ : ∃ D, D = digs 31 V P := ⟨_, rfl⟩
      have hD1 := digs_pos 30 V P
      rw [← hD] at hD1
      rw [← hD] at ha hT hDl
      have HD := Lib.hid hD
      have hneg := hT.neg
      have HTT := Lib.hid hT
      have hT' := hT
      clear hT hD HVL hPl
      cases n
      · have hsl := fun W => text_slice W (w.heap.size + 1 + 1) a (by omega)
        have hcv := fun h => text_conv wc (w.heap.size + 1 + 1) a D ha h
        have hcv := hcv hT'.got
        clear hT'
        go_wp2
        go_ret
        exact ⟨by rw [HD.out]; rfl, HTT.out.bel⟩
      · obtain ⟨b, rfl⟩ : ∃ b, a = b + 1 := ⟨a - 1, by omega⟩
        obtain ⟨v, hv⟩ := hT'.old b (by omega)
        have hf := hT'.fr b (by omega)
        have hsz := hT'.sz
        have hsl := fun W => text_slice W (w.heap.size + 1 + 1) b (by omega)
        have hP2 := HTT.out.push b 45 (by omega)
        have hcv := text_conv _ (w.heap.size + 1 + 1) b (45 :: D) (by rw [List.length_cons]; omega) hP2.got
        have HP2 := Lib.hid hP2.bel
        rw [show ((45 : Nat) : Int) = 45 from rfl] at hcv
        clear hT' hP2
        go_wp2
        go_ret
        exact ⟨by rw [HD.out]; rfl, HP2.out⟩
end Go.Proofs.Ytkhhjibpppmekaa

/- fieldfarelaw02.awake. -/
namespace Go.Proofs.Ytkhhjibpppmekaa
open Go.RowKit
def c1 : List Nat := [32, 45, 49, 50, 46, 53, 48, 120]
theorem prefix_c1 (w : World) (f : Nat × Nat) :
    Calls Try.prog 66 #[.slice (some ⟨w.heap.size, 0, none⟩) 8 8] (w.alloc (.cells #[.int .u8 32, .int .u8 45, .int .u8 49, .int .u8 50, .int .u8 46, .int .u8 53, .int .u8 48, .int .u8 120] 5 f)) fun e w' => e = .returned (.tuple #[.agg #[.bool true, .int .u64 0, .int .u64 12500000], .int .i64 7, .nilIface]) ∧ Below w.heap.size w w' := by
  have h := prefix_any (some ⟨w.heap.size, 0, none⟩) 8 c1 (w.alloc (.cells (nums c1) 5 f)) (w.heap.size + 1) (by simp) (rb_row w c1 (by decide) _ f) (by decide) (by decide)
  refine Calls.mono h fun e w' ⟨he, hb⟩ => ⟨?_, ((Below.refl _ _).alloc (Nat.le_refl _) _).trans (hb.mono (by simp))⟩
  rcases he with ⟨h, _⟩ | ⟨_, h, _⟩ | ⟨_, _, he⟩
  · exact absurd h (by decide)
  · exact absurd h (by decide)
  · rw [he, show pz c1 = -12500000 by decide, show nI3 c1 = 7 by decide]
    rfl
def c2 : List Nat := [32, 51, 32]
def c3 : List Nat := [51, 120]
theorem looks_c2 (w : World) (f : Nat × Nat) :
    Calls Try.prog 35 #[.slice (some ⟨w.heap.size, 0, none⟩) 3 3] (w.alloc (.cells #[.int .u8 32, .int .u8 51, .int .u8 32] 5 f)) fun e w' => e = .returned (.bool true) ∧ Below w.heap.size w w' := by
  have h := looks_any (some ⟨w.heap.size, 0, none⟩) 3 c2 (w.alloc (.cells (nums c2) 5 f)) (w.heap.size + 1) (by simp) (rb_row w c2 (by decide) _ f) (by decide) (by decide)
  rw [show looksB c2 = true by decide] at h
  exact Calls.mono h fun e w' ⟨he, hb⟩ => ⟨he, ((Below.refl _ _).alloc (Nat.le_refl _) _).trans (hb.mono (by simp))⟩
theorem looks_c3 (w : World) (f : Nat × Nat) :
    Calls Try.prog 35 #[.slice (some ⟨w.heap.size, 0, none⟩) 2 2] (w.alloc (.cells #[.int .u8 51, .int .u8 120] 5 f)) fun e w' => e = .returned (.bool false) ∧ Below w.heap.size w w' := by
  have h := looks_any (some ⟨w.heap.size, 0, none⟩) 2 c3 (w.alloc (.cells (nums c3) 5 f)) (w.heap.size + 1) (by simp) (rb_row w c3 (by decide) _ f) (by decide) (by decide)
  rw [show looksB c3 = false by decide] at h
  exact Calls.mono h fun e w' ⟨he, hb⟩ => ⟨he, ((Below.refl _ _).alloc (Nat.le_refl _) _).trans (hb.mono (by simp))⟩
theorem text_c4 (w : World) :
    Calls Try.prog 28 #[.agg #[.bool false, .int .u64 0, .int .u64 500000]] w fun e w' => e = .returned (.string { data := #[48, 46, 53] }) ∧ Below w.heap.size w w' := by
  have i : IsD false 0 500000 500000 := ⟨⟨by decide, by decide⟩, ⟨by decide, by decide⟩, by decide, by decide, by decide⟩
  have h := text_ok false 0 500000 500000 i w
  rw [show strN (textL 500000) = { data := #[48, 46, 53] } by decide] at h
  exact h
end Go.Proofs.Ytkhhjibpppmekaa

/- fieldfareref01: Less, Good, Same. -/
namespace Go.Proofs.Ytkhhjibpppmekaa
open Go.RowKit
theorem RI.drewN {w : World} {B : Nat} {A : Option Addr} {bs : List Nat} (h : RI w B A bs) (n : Nat) : RI (w.drewN n) B A bs := h.keep fun _ _ => by simp
theorem drew3 (w : World) (a b c : Nat) : ∃ n, ((w.drewN a).drewN b).drewN c = w.drewN n := ⟨a + b + c, by simp [Nat.add_assoc]⟩
set_option maxRecDepth 100000 in
set_option maxHeartbeats 800000 in
theorem less_any (A A' : Option Addr) (c c' a b : Nat) (w : World) (B0 : Nat) (hr : RI w B0 A (dg a)) (hr' : RI w B0 A' (dg b)) (hm : (dg a).length ≤ 1000000) :
    Calls Try.prog 70 #[.slice A (dg a).length c, .slice A' (dg b).length c'] w fun e w' => e = .returned (.bool (decide (a < b))) ∧ ∃ n, w' = w.drewN n := by
  obtain ⟨ds, hds⟩ : ∃ ds, ds = dg a := ⟨_, rfl⟩
  obtain ⟨es, hes⟩ : ∃ es, es = dg b := ⟨_, rfl⟩
  have hda := dg_dig a; have hdb := dg_dig b
  have hva := val_dg a; have hvb := val_dg b
  have hll := @less_len a b; have hlg := @less_len b a
  rw [← hds] at hr hm hda hva hll hlg
  rw [← hes] at hr' hdb hvb hll hlg
  rw [← hds, ← hes]
  have HR := Lib.hid hr; have HR' := Lib.hid hr'; have HDA := Lib.hid hda; have HDB := Lib.hid hdb; have HVA := Lib.hid hva; have HVB := Lib.hid hvb
  have HDS := Lib.hid hds; have HES := Lib.hid hes
  clear hr hr' hda hdb hva hvb hds hes
  rcases Nat.lt_trichotomy ds.length es.length with hlt | heq | hgt
  · have hd : decide (a < b) = true := by rw [decide_eq_true_eq]; exact hll hlt
    rw [hd]; clear hd hll hlg
    have h1 : (((ds.length : Nat) : Int) != ((es.length : Nat) : Int)) = true := by rw [bne_iff_ne]; omega
    go_enter Try.func70, Try.ntmps70
    go_wp2
    go_ret
    exact ⟨by simp <;> omega, 0, rfl⟩
  · clear hll hlg
    have HEQ := Lib.hid heq
    obtain ⟨n, hn⟩ : ∃ n, n = ds.length := ⟨_, rfl⟩
    rw [← heq, ← hn]
    rw [← hn] at hm heq
    have HN := Lib.hid hn
    clear hn heq
    go_enter Try.func70, Try.ntmps70
    go_wp2
    go_loopw [5] (fun i wr => ∃ k : Nat, k ≤ n ∧ i = .int .i64 ((k : Int) - 1) ∧ Hid (ds.drop k = es.drop k) ∧ ∃ m, w.drewN m = wr) (fun i _ => (intOf i + 1).toNat)
    case atStart => exact ⟨n, Nat.le_refl _, rfl, Lib.hid (by rw [HN.out, List.drop_length, HEQ.out, List.drop_length]), 0, rfl⟩
    case round =>
      obtain ⟨k, hk, rfl, hE, m, rfl⟩ := hrel
      cases k with
      | zero =>
        have hfin : decide (a < b) = false := by
          have : ds = es := by simpa using hE.out
          rw [decide_eq_false_iff_not, ← HVA.out, ← HVB.out, this]; omega
        have HF := Lib.hid hfin
        clear hfin
        go_wp2
        go_ret
        exact ⟨by rw [HF.out]; rfl, _, rfl⟩
      | succ k =>
        have hlt : k < ds.length := by rw [← HN.out]; omega
        have hlt' : k < es.length := by rw [← HEQ.out]; exact hlt
        obtain ⟨ad, rfl, hb, hcell⟩ := HR.out (by omega)
        obtain ⟨ad', rfl, hb', hcell'⟩ := HR'.out (by omega)
        have hcl := hcell k hlt
        have hcl' := hcell' k hlt'
        have hst := drop_step k hlt hlt' hE.out
        have hl1 := less_at HDA.out k hlt hlt' hE.out
        have hl2 := less_at HDB.out k hlt' hlt hE.out.symm
        obtain ⟨x, hx⟩ : ∃ x, x = ds[k] := ⟨_, rfl⟩
        obtain ⟨y, hy⟩ : ∃ y, y = es[k] := ⟨_, rfl⟩
        rw [← hx] at hcl hst hl1 hl2
        rw [← hy] at hcl' hst hl1 hl2
        rw [HVA.out, HVB.out] at hl1
        rw [HVA.out, HVB.out] at hl2
        clear hx hy hcell hcell' hb hb'
        have hkn : (k : Int) < (n : Int) := by omega
        clear hlt hlt'
        rcases Nat.lt_trichotomy x y with hxy | hxy | hxy
        · have hfin : decide (a < b) = true := by rw [decide_eq_true_eq]; exact hl1 hxy
          have HF := Lib.hid hfin
          have h1 : ((x : Int) != (y : Int)) = true := by rw [bne_iff_ne]; omega
          clear hfin hl1 hl2 hst
          go_wp2_with fail
          go_quiet (fail)
          go_wp2_with fail
          go_quiet (fail)
          go_wp2_with fail
          go_ret
          exact ⟨by rw [HF.out]; simp <;> omega, drew3 _ _ _ _⟩
        · subst hxy
          have HS := Lib.hid (hst rfl)
          clear hl1 hl2 hst
          go_wp2_with fail
          go_quiet (fail)
          go_wp2_with fail
          go_roundw
          case rel => exact ⟨k, by omega, by go_num, HS, _, rfl⟩
          case measure => simp [intOf]
        · have hfin : decide (a < b) = false := by rw [decide_eq_false_iff_not]; have := hl2 hxy; omega
          have HF := Lib.hid hfin
          have h1 : ((x : Int) != (y : Int)) = true := by rw [bne_iff_ne]; omega
          clear hfin hl1 hl2 hst
          go_wp2_with fail
          go_quiet (fail)
          go_wp2_with fail
          go_quiet (fail)
          go_wp2_with fail
          go_ret
          exact ⟨by rw [HF.out]; simp <;> omega, drew3 _ _ _ _⟩
  · have hd : decide (a < b) = false := by rw [decide_eq_false_iff_not]; have := hlg hgt; omega
    rw [hd]; clear hd hll hlg
    have h1 : (((ds.length : Nat) : Int) != ((es.length : Nat) : Int)) = true := by rw [bne_iff_ne]; omega
    go_enter Try.func70, Try.ntmps70
    go_wp2
    go_ret
    exact ⟨by simp <;> omega, 0, rfl⟩
theorem good_dg (n : Bool) (x y : Nat) (hx : x < 18446744073709551616) (hy : y < 18446744073709551616) :
    goodB n (x : Int) (y : Int) = (decide ((dg (x * 18446744073709551616 + y)).length ≤ 36) && !(n && decide ((dg (x * 18446744073709551616 + y)).length = 0))) := by
  have hX : Wd (x : Int) := ⟨by omega, by omega⟩
  have hY : Wd (y : Int) := ⟨by omega, by omega⟩
  obtain ⟨N, hN⟩ : ∃ N, N = x * 18446744073709551616 + y := ⟨_, rfl⟩
  rw [← hN]
  have h1 : blw (x : Int) (y : Int) 54210108624275221 12919594847110692864 = decide ((dg N).length ≤ 36) := by
    rw [Bool.eq_iff_iff, blw_iff hY hX, decide_eq_true_eq]
    constructor
    · intro h
      refine dg_len_le ?_
      unfold LIM at h; omega
    · intro h
      have h2 := dg_lt N
      have h3 : 10 ^ (dg N).length ≤ 10 ^ 36 := Nat.pow_le_pow_right (by decide) h
      unfold LIM; omega
  have h2 : ((x : Int) == 0 && (y : Int) == 0) = decide ((dg N).length = 0) := by
    rw [Bool.eq_iff_iff, decide_eq_true_eq, Bool.and_eq_true, beq_iff_eq, beq_iff_eq]
    constructor
    · rintro ⟨h, h'⟩
      have : N = 0 := by omega
      rw [this]; rfl
    · intro h
      have := dg_nil h
      omega
  unfold goodB
  rw [h1, Bool.and_assoc, h2]
set_option maxRecDepth 100000 in
set_option maxHeartbeats 800000 in
theorem rgood_any (n : Bool) (x y : Nat) (w : World) (wx : x < 18446744073709551616) (wy : y < 18446744073709551616) :
    Calls Try.prog 15 #[.agg #[.bool n, .int .u64 (x : Int), .int .u64 (y : Int)]] w fun e w' => e = .returned (.bool (goodB n (x : Int) (y : Int))) ∧ Below w.heap.size w w' := by
  have hg := good_dg n x y wx wy
  have OF := fun W => of_any n x y W wx wy
  obtain ⟨ds, hds⟩ : ∃ ds, ds = dg (x * 18446744073709551616 + y) := ⟨_, rfl⟩
  obtain ⟨G, hG⟩ : ∃ G, G = goodB n (x : Int) (y : Int) := ⟨_, rfl⟩
  rw [← hds] at hg OF
  rw [← hG] at hg
  rw [← hG]
  clear hG
  have HG := Lib.hid hg; have OF := Lib.hid OF
  clear hds hg wx wy
  have hcas : (ds.length = 0) ∨ (1 ≤ ds.length ∧ ds.length ≤ 36) ∨ 36 < ds.length := by omega
  rcases hcas with h | ⟨h1, h2⟩ | h
  · have HF := Lib.hid (show G = !n by rw [HG.out]; simp [h])
    obtain rfl : ds = [] := List.length_eq_zero_iff.1 h
    clear h
    cases n
    all_goals
      go_enter Try.func15, Try.ntmps15
      go_wp2_with (go_at_call 18; refine (OF.out _).mono ?_; rintro e w1 ⟨⟨v, rfl, ho⟩, b1⟩; obtain ⟨A, c, rfl, hc, hri, han⟩ := ho.slice; clear hri han ho; have hs_b1 := Below.size b1; (try simp at hs_b1))
      go_returns
      exact ⟨by rw [HF.out]; rfl, by (repeat' (first | (with_reducible exact Below.refl _ _) | (refine Below.trans ?_ (Below.mono (by with_reducible assumption) ?_)) | (with_reducible exact Below.refl _ _) | (with_reducible refine below_drewN ?_ _) | (with_reducible refine Below.drew ?_) | (with_reducible refine Below.setCell ?_ ?_ _) | (with_reducible refine Below.alloc ?_ ?_ _) | (with_reducible assumption) | (simp; done) | (simp; omega) | omega))⟩
  · have HF := Lib.hid (show G = true by rw [HG.out, decide_eq_true h2, decide_eq_false (show ¬ ds.length = 0 by omega), Bool.and_false]; rfl)
    have h3 : ((ds.length : Int) == 0) = false := by rw [beq_eq_false_iff_ne]; omega
    cases n
    all_goals
      go_enter Try.func15, Try.ntmps15
      go_wp2_with (go_at_call 18; refine (OF.out _).mono ?_; rintro e w1 ⟨⟨v, rfl, ho⟩, b1⟩; obtain ⟨A, c, rfl, hc, hri, han⟩ := ho.slice; clear hri han ho; have hs_b1 := Below.size b1; (try simp at hs_b1))
      go_returns
      exact ⟨by rw [HF.out]; rfl, by (repeat' (first | (with_reducible exact Below.refl _ _) | (refine Below.trans ?_ (Below.mono (by with_reducible assumption) ?_)) | (with_reducible exact Below.refl _ _) | (with_reducible refine below_drewN ?_ _) | (with_reducible refine Below.drew ?_) | (with_reducible refine Below.setCell ?_ ?_ _) | (with_reducible refine Below.alloc ?_ ?_ _) | (with_reducible assumption) | (simp; done) | (simp; omega) | omega))⟩
  · have HF := Lib.hid (show G = false by rw [HG.out, decide_eq_false (show ¬ ds.length ≤ 36 by omega)]; rfl)
    go_enter Try.func15, Try.ntmps15
    go_wp2_with (go_at_call 18; refine (OF.out _).mono ?_; rintro e w1 ⟨⟨v, rfl, ho⟩, b1⟩; obtain ⟨A, c, rfl, hc, hri, han⟩ := ho.slice; clear hri han ho; have hs_b1 := Below.size b1; (try simp at hs_b1))
    go_returns
    exact ⟨by rw [HF.out]; rfl, by (repeat' (first | (with_reducible exact Below.refl _ _) | (refine Below.trans ?_ (Below.mono (by with_reducible assumption) ?_)) | (with_reducible exact Below.refl _ _) | (with_reducible refine below_drewN ?_ _) | (with_reducible refine Below.drew ?_) | (with_reducible refine Below.setCell ?_ ?_ _) | (with_reducible refine Below.alloc ?_ ?_ _) | (with_reducible assumption) | (simp; done) | (simp; omega) | omega))⟩
set_option maxRecDepth 100000 in
set_option maxHeartbeats 800000 in
theorem same_any (n m : Bool) (A A' : Option Addr) (c c' a b : Nat) (w : World) (B0 : Nat) (hB0 : B0 ≤ w.heap.size) (hr : RI w B0 A (dg a)) (hr' : RI w B0 A' (dg b)) (hm : (dg a).length ≤ 1000000) (hm' : (dg b).length ≤ 1000000) :
    Calls Try.prog 38 #[.agg #[.bool n, .slice A (dg a).length c], .agg #[.bool m, .slice A' (dg b).length c']] w fun e w' => e = .returned (.bool (n == m && decide (a = b))) ∧ Below w.heap.size w w' := by
  have L1 := Lib.hid (fun W hr hr' => less_any A A' c c' a b W B0 hr hr' hm)
  have L2 := Lib.hid (fun W hr hr' => less_any A' A c' c b a W B0 hr hr' hm')
  obtain ⟨la, hla⟩ : ∃ la, la = (dg a).length := ⟨_, rfl⟩
  obtain ⟨lb, hlb⟩ : ∃ lb, lb = (dg b).length := ⟨_, rfl⟩
  rw [← hla, ← hlb] at L1 L2
  rw [← hla, ← hlb]
  have hb2 : Below w.heap.size w ((w.alloc (.cells #[.bool n, .slice A la c] 34)).alloc (.cells #[.bool m, .slice A' lb c'] 34)) := by (repeat' (first | (with_reducible exact Below.refl _ _) | (refine Below.trans ?_ (Below.mono (by with_reducible assumption) ?_)) | (with_reducible exact Below.refl _ _) | (with_reducible refine below_drewN ?_ _) | (with_reducible refine Below.drew ?_) | (with_reducible refine Below.setCell ?_ ?_ _) | (with_reducible refine Below.alloc ?_ ?_ _) | (with_reducible assumption) | (simp; done) | (simp; omega) | omega))
  have HR := Lib.hid (hr.below (hb2.mono hB0)); have HR' := Lib.hid (hr'.below (hb2.mono hB0))
  clear hr hr' hm hm' hla hlb hb2
  obtain ⟨p, hp⟩ : ∃ p, p = decide (a < b) := ⟨_, rfl⟩
  obtain ⟨q, hq⟩ : ∃ q, q = decide (b < a) := ⟨_, rfl⟩
  have hpq : decide (a = b) = (!p && !q) := by
    rw [hp, hq, Bool.eq_iff_iff]; simp; omega
  rw [← hp] at L1
  rw [← hq] at L2
  rw [hpq]
  clear hp hq hpq
  cases n <;> cases m <;> cases p <;> cases q
  all_goals
    go_enter Try.func38, Try.ntmps38
    go_wp2_with (first
      | (go_at_call 70; (with_reducible refine (L1.out _ (by first | exact HR.out | exact HR.out.drewN _) (by first | exact HR'.out | exact HR'.out.drewN _)).mono ?_); rintro e w1 ⟨rfl, k1, rfl⟩)
      | (go_at_call 70; (with_reducible refine (L2.out _ (by first | exact HR'.out | exact HR'.out.drewN _) (by first | exact HR.out | exact HR.out.drewN _)).mono ?_); rintro e w1 ⟨rfl, k2, rfl⟩))
    go_returns
    exact ⟨by rfl, by (repeat' (first | (with_reducible exact Below.refl _ _) | (refine Below.trans ?_ (Below.mono (by with_reducible assumption) ?_)) | (with_reducible exact Below.refl _ _) | (with_reducible refine below_drewN ?_ _) | (with_reducible refine Below.drew ?_) | (with_reducible refine Below.setCell ?_ ?_ _) | (with_reducible refine Below.alloc ?_ ?_ _) | (with_reducible assumption) | (simp; done) | (simp; omega) | omega))⟩
end Go.Proofs.Ytkhhjibpppmekaa
