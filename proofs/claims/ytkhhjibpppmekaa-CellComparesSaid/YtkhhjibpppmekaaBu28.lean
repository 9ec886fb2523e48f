/- Several texts put together: RefG, NumP, RefH, RefW. -/
import Derived.Test.YtkhhjibpppmekaaBu5
import Derived.Test.YtkhhjibpppmekaaBu8
import Derived.Test.YtkhhjibpppmekaaBu4
import Derived.Test.YtkhhjibpppmekaaBu13
import Derived.Laws.BytesArg
import Derived.Test.YtkhhjibpppmekaaBu27
/- Plain: a number's text out of its digits. -/
namespace Go.Proofs.Ytkhhjibpppmekaa
open Go.RowKit
/-- The digits of the whole part: one at least. -/
def whD (V : Nat) : List Nat := if V = 0 then [0] else dg V
def chars (l : List Nat) : List Nat := l.map (48 + ·)
theorem digs_whD : ∀ (k V : Nat) (T : List Nat), V < 10 ^ (k + 1) → digs (k + 1) V T = (chars (whD V)).reverse ++ T := by
  intro k
  induction k with
  | zero =>
    intro V T h
    rw [digs_succ, if_pos (by omega)]
    have : V % 10 = V := by omega
    rw [this]
    unfold whD
    split
    · rename_i h0; rw [h0]; rfl
    · rename_i h0; rw [dg_one h0 (by omega)]; rfl
  | succ k ih =>
    intro V T h
    rw [Nat.pow_succ] at h
    rw [digs_succ]
    split
    · rename_i h0
      have : V % 10 = V := by omega
      rw [this]
      unfold whD
      split
      · rename_i h1; rw [h1]; rfl
      · rename_i h1; rw [dg_one h1 (by omega)]; rfl
    · rename_i h0
      rw [ih _ _ (by omega)]
      unfold whD
      rw [if_neg (by omega), if_neg (by omega), dg_succ (show V ≠ 0 by omega)]
      simp [chars]
/-- Digits with zeros behind, seven at least. -/
def padD (N : Nat) : List Nat := dg N ++ List.replicate (7 - (dg N).length) 0
theorem val_zerosG (k : Nat) : val (List.replicate k 0) = 0 := by
  induction k with
  | zero => rfl
  | succ k ih => rw [List.replicate_succ]; simp [val, ih]
theorem dig_zeros (k : Nat) : Dig10 (List.replicate k 0) := fun x hx => by rw [(List.mem_replicate.1 hx).2]; decide
theorem padD_dig (N : Nat) : Dig10 (padD N) := (dg_dig N).app (dig_zeros _)
theorem padD_val (N : Nat) : val (padD N) = N := by unfold padD; rw [val_app, val_zerosG, val_dg]; simp
theorem padD_len (N : Nat) : 7 ≤ (padD N).length ∧ (dg N).length ≤ (padD N).length ∧ (padD N).length ≤ (dg N).length + 7 := by
  unfold padD; rw [List.length_append, List.length_replicate]; omega
theorem val_take_mod {l : List Nat} (h : Dig10 l) (k : Nat) (hk : k ≤ l.length) : val (l.take k) = val l % 10 ^ k ∧ val (l.drop k) = val l / 10 ^ k := by
  have h1 := val_lt (h.take k)
  rw [List.length_take, Nat.min_eq_left hk] at h1
  have h2 : val l = val (l.take k) + 10 ^ k * val (l.drop k) := by
    conv => lhs; rw [← List.take_append_drop k l]
    rw [val_app, List.length_take, Nat.min_eq_left hk]
  have hp : 0 < 10 ^ k := Nat.pow_pos (by decide)
  constructor
  · rw [h2, Nat.add_mul_mod_self_left, Nat.mod_eq_of_lt h1]
  · rw [h2, Nat.add_mul_div_left _ _ hp, Nat.div_eq_of_lt h1, Nat.zero_add]
theorem padD_drop (N : Nat) : (padD N).drop 6 = whD (N / 1000000) := by
  have hl := padD_len N
  have hv := (val_take_mod (padD_dig N) 6 (by omega)).2
  rw [padD_val] at hv
  unfold whD
  split
  · rename_i h0
    -- N < 10^6: six digits at most
    have h6 : (dg N).length ≤ 6 := dg_len_le (by omega)
    have h7 : (padD N).length = 7 := by unfold padD; rw [List.length_append, List.length_replicate]; omega
    have h8 : ((padD N).drop 6).length = 1 := by rw [List.length_drop, h7]
    obtain ⟨x, hx⟩ := List.length_eq_one_iff.1 h8
    rw [hx] at hv ⊢
    simp only [val] at hv
    congr 1
    have : N / 10 ^ 6 = 0 := by omega
    omega
  · rename_i h0
    have hd : Dig10 ((padD N).drop 6) := (padD_dig N).drop 6
    rw [show N / 1000000 = N / 10 ^ 6 from rfl, ← hv]
    refine (dg_val hd (.inr ?_)).symm
    have h7 : 7 ≤ (dg N).length := by
      rcases Nat.lt_or_ge (dg N).length 7 with h | h
      · have := dg_lt N
        have h2 : 10 ^ (dg N).length ≤ 10 ^ 6 := Nat.pow_le_pow_right (by decide) (by omega)
        omega
      · exact h
    have h8 : padD N = dg N := by unfold padD; rw [show 7 - (dg N).length = 0 by omega]; simp
    have h9 := dg_ge N (by omega)
    rw [hv, h8, List.length_drop, show (dg N).length - 6 - 1 = (dg N).length - 7 by omega]
    obtain ⟨m, hm⟩ : ∃ m, (dg N).length = m + 7 := ⟨(dg N).length - 7, by omega⟩
    rw [hm] at h9 ⊢
    rw [show m + 7 - 1 = m + 6 by omega, Nat.pow_add] at h9
    rw [show m + 7 - 7 = m by omega]
    exact (Nat.le_div_iff_mul_le (by decide)).2 h9
theorem padD_get (N i : Nat) (h : i < (padD N).length) : (padD N)[i] = N / 10 ^ i % 10 := by
  have h1 := (val_take_mod (padD_dig N) i (by omega)).2
  rw [padD_val, List.drop_eq_getElem_cons h] at h1
  have h2 := padD_dig N _ (List.getElem_mem h)
  simp only [val] at h1
  omega
/-- The digits from 'from' on below k, the greatest first, as text. -/
def dn (F f : Nat) : Nat → List Nat
  | 0 => []
  | k + 1 => if f ≤ k then (48 + F / 10 ^ k % 10) :: dn F f k else []
theorem dn_nil {F f : Nat} : ∀ k, k ≤ f → dn F f k = [] := by
  intro k
  cases k with
  | zero => intro _; rfl
  | succ k => intro h; simp only [dn]; rw [if_neg (by omega)]
theorem frs_dn (F f : Nat) (hz : ∀ i, i < f → F / 10 ^ i % 10 = 0) (hf : F / 10 ^ f % 10 ≠ 0) : ∀ k, frs F k = dn F f k := by
  intro k
  induction k with
  | zero => rfl
  | succ k ih =>
    simp only [frs, dn]
    rw [ih]
    rcases Nat.lt_trichotomy f k with h | h | h
    · have hp : 0 < (dn F f k).length := by
        obtain ⟨m, rfl⟩ : ∃ m, k = m + 1 := ⟨k - 1, by omega⟩
        simp only [dn]; rw [if_pos (by omega)]; simp
      have hc : F / 10 ^ k % 10 ≠ 0 ∨ 0 < (dn F f k).length := .inr hp
      have hk : f ≤ k := by omega
      simp only [hc, hk, if_true]
    · subst h
      have hc : F / 10 ^ f % 10 ≠ 0 ∨ 0 < (dn F f f).length := .inl hf
      simp only [hc, Nat.le_refl, if_true]
    · have hn := dn_nil (F := F) (f := f) k (by omega)
      have hk : ¬ f ≤ k := by omega
      have hc : ¬ (F / 10 ^ k % 10 ≠ 0 ∨ 0 < (dn F f k).length) := by
        rw [hn]
        rintro (hh | hh)
        · exact hh (hz k h)
        · simp at hh
      simp only [hc, hk, if_false]
theorem low_zeroG (F : Nat) (h : F < 1000000) (hz : ∀ i, i < 6 → F / 10 ^ i % 10 = 0) : F = 0 := by
  have g0 := hz 0 (by decide); have g1 := hz 1 (by decide); have g2 := hz 2 (by decide); have g3 := hz 3 (by decide); have g4 := hz 4 (by decide); have g5 := hz 5 (by decide)
  simp only [Nat.reducePow] at g0 g1 g2 g3 g4 g5
  omega
theorem digit_mod (N i : Nat) (h : i < 6) : N / 10 ^ i % 10 = N % 1000000 / 10 ^ i % 10 := by
  have : i = 0 ∨ i = 1 ∨ i = 2 ∨ i = 3 ∨ i = 4 ∨ i = 5 := by omega
  rcases this with rfl | rfl | rfl | rfl | rfl | rfl <;> simp only [Nat.reducePow] <;> omega
end Go.Proofs.Ytkhhjibpppmekaa

/- fieldfarelaw02.NumeralInts: the walk. -/
namespace Go.Proofs.Ytkhhjibpppmekaa
open Go.RowKit
theorem conv_one (W : World) (x : Nat) (v : Int) (hv : v = (x : Int)) : (convert 62 9 (.slice (some ⟨W.heap.size, 0, none⟩) 1 1)).run Try.prog (W.alloc (.cells #[.int .u8 v] 5)) = .ok (.string (strN [x])) (W.alloc (.cells #[.int .u8 v] 5)) := by
  subst hv
  have := run_convert_bytes_arg (P := Try.prog) (W.alloc (.cells #[.int .u8 (x : Int)] 5)) 62 5 Try.underlying62 Try.underlying5 W.heap.size 0 1 1 [(x : Int)] rfl (fun i hi => by
    obtain rfl : i = 0 := by omega
    simp) 9 Try.underlying9
  rw [this]; rfl
theorem textL_int (n : Int) : textL (n * 1000000) = (if n < 0 then [45] else []) ++ digs 31 n.natAbs [] := by
  unfold textL
  have e1 : (n * 1000000).natAbs / 1000000 = n.natAbs := by omega
  have e2 : (n * 1000000).natAbs % 1000000 = 0 := by omega
  have e3 : frP 0 = [] := rfl
  rw [e1, e2, e3]
  have : n * 1000000 < 0 ↔ n < 0 := by omega
  simp only [this]
end Go.Proofs.Ytkhhjibpppmekaa

/- fieldfareref02.Text. -/
namespace Go.Proofs.Ytkhhjibpppmekaa
open Go.RowKit
/-- v is a slice that reads as these numbers. -/
def DS (w : World) (v : Value) (ds : List Nat) : Prop := ∃ (A : Option Addr) (c : Nat), v = .slice A ds.length c ∧ ds.length ≤ c ∧ RI w w.heap.size A ds ∧ (A = none → ds = [] ∧ c = 0)
theorem DS.below {w w' : World} {v : Value} {ds : List Nat} (h : DS w v ds) (q : Below w.heap.size w w') : DS w' v ds := by
  obtain ⟨A, c, e, h1, h2, h3⟩ := h
  exact ⟨A, c, e, h1, (h2.below q).more q.size, h3⟩
/-- Memory while the reference makes a text: the number's sign, its digits. -/
structure RtW (w : World) (gx : Nat) (n : Bool) (v : Value) (D : List Nat) (wr : World) : Prop where
  neg : wr.cell? ⟨gx, 0, none⟩ = some (.bool n)
  rd : DS wr v D
  zg : gx < wr.heap.size
  zw : w.heap.size ≤ gx
  bel : Below w.heap.size w wr
theorem RtW.below {w : World} {gx : Nat} {n : Bool} {v : Value} {D : List Nat} {wr w2 : World} (h : RtW w gx n v D wr) (q : Below wr.heap.size wr w2) : RtW w gx n v D w2 := by
  have zg := h.zg; have zw := h.zw
  have hs := q.size
  exact ⟨(q.cell zg).trans h.neg, h.rd.below q, by omega, zw, h.bel.trans (q.mono (by omega))⟩
theorem RtW.read {w : World} {gx : Nat} {n : Bool} {v v' : Value} {D D' : List Nat} {wr : World} (h : RtW w gx n v D wr) (r : DS wr v' D') : RtW w gx n v' D' wr := ⟨h.neg, r, h.zg, h.zw, h.bel⟩
set_option maxRecDepth 100000 in
set_option maxHeartbeats 400000 in
theorem rtext_bad (n : Bool) (x y : Nat) (w : World) (wx : x < 18446744073709551616) (wy : y < 18446744073709551616) (hg : goodB n (x : Int) (y : Int) = false) :
    Calls Try.prog 71 #[.agg #[.bool n, .int .u64 (x : Int), .int .u64 (y : Int)]] w fun e w' => e = .returned (.string (strN [])) ∧ Below w.heap.size w w' := by
  have rg := fun W => rgood_any n x y W wx wy
  rw [hg] at rg
  have RG := Lib.hid rg
  clear rg hg wx wy
  go_enter Try.func71, Try.ntmps71
  go_wp2_with (go_at_call 15; refine (RG.out _).mono ?_; rintro e w1 ⟨rfl, b1⟩)
  go_ret
  exact ⟨rfl, by (repeat' (first | (with_reducible exact Below.refl _ _) | (refine Below.trans ?_ (Below.mono (by with_reducible assumption) ?_)) | (with_reducible exact Below.refl _ _) | (with_reducible refine below_drewN ?_ _) | (with_reducible refine Below.drew ?_) | (with_reducible refine Below.setCell ?_ ?_ _) | (with_reducible refine Below.alloc ?_ ?_ _) | (with_reducible assumption) | (simp; done) | (simp; omega) | omega))⟩
set_option maxRecDepth 100000 in
set_option maxHeartbeats 3000000 in
theorem rtext_ok (n : Bool) (x y : Nat) (z : Int) (w : World) (wx : x < 18446744073709551616) (wy : y < 18446744073709551616) (ia : IsD n (x : Int) (y : Int) z) :
    Calls Try.prog 71 #[.agg #[.bool n, .int .u64 (x : Int), .int .u64 (y : Int)]] w fun e w' => e = .returned (.string (strN (textL z))) ∧ Below w.heap.size w w' := by
  have rg := fun W => rgood_any n x y W wx wy
  rw [good_of ia] at rg
  have RG := Lib.hid rg
  obtain ⟨N, hN⟩ : ∃ N, N = x * 18446744073709551616 + y := ⟨_, rfl⟩
  have of := fun W => of_any n x y W wx wy
  rw [← hN] at of
  have OF := Lib.hid of
  have hNz : N = z.natAbs := by have := ia.2.2.1; omega
  have hNl : N < 1000000000000000000000000000000000000 := by have := ia.2.2.2.2; unfold LIM at this; omega
  have hn : n = decide (z < 0) := ia.2.2.2.1
  have hpl := padD_len N
  have hdl : (dg N).length ≤ 36 := dg_len_le (by omega)
  obtain ⟨F, hF⟩ : ∃ F, F = N % 1000000 := ⟨_, rfl⟩
  have hFl : F < 1000000 := by omega
  obtain ⟨U, hU⟩ : ∃ U, U = (chars ((padD N).drop 6)).reverse := ⟨_, rfl⟩
  have htx : textL z = (if n then [45] else []) ++ (U ++ frP F) := by
    unfold textL
    rw [hU, padD_drop, hF, hNz, digs_whD 30 _ _ (by omega), hn]
    simp only [decide_eq_true_eq]
  rw [htx]
  have hUl : U.length ≤ 100 := by
    rw [hU]; simp [chars]; omega
  have hget : ∀ i (h : i < (padD N).length), (padD N)[i] < 10 := fun i h => padD_dig N _ (List.getElem_mem h)
  have hgF : ∀ i (h : i < (padD N).length), i < 6 → (padD N)[i] = F / 10 ^ i % 10 := fun i h hi => by
    rw [padD_get N i h, digit_mod N i hi, hF]
  obtain ⟨D, hD⟩ : ∃ D, D = padD N := ⟨_, rfl⟩
  have hDp : D = dg N ++ List.replicate (7 - (dg N).length) 0 := hD
  rw [← hD] at hpl hU hget hgF
  have HU := Lib.hid hU; have HG := Lib.hid hget; have HGF := Lib.hid hgF; have HDP := Lib.hid hDp
  obtain ⟨d0, hd0⟩ : ∃ d0, d0 = dg N := ⟨_, rfl⟩
  rw [← hd0] at OF HDP hpl hdl
  have HFL := Lib.hid hFl
  clear rg of ia hN hNz hNl hn hU hF htx hD hDp hget hgF hd0 wx wy hFl
  go_enter Try.func71, Try.ntmps71
  go_upto_block 0 with (first
    | (go_at_call 15; refine (RG.out _).mono ?_; rintro e w1 ⟨rfl, b1⟩; have hs_b1 := Below.size b1; (try simp at hs_b1); have kb1_wheapsize_0 : w1.cell? ⟨w.heap.size, 0, none⟩ = some (.bool n) := (Below.cell b1 (by first | (simp; done) | (simp; omega) | omega)).trans (by first | (simp (maxDischargeDepth := 12) [go_sem]; done) | simp (maxDischargeDepth := 12) [go_sem, *]); have gb1_wheapsize_0 : w1.frozen? ⟨w.heap.size, 0, none⟩ = false := (Below.frozen b1 (by first | (simp; done) | (simp; omega) | omega)).trans (by first | (simp (maxDischargeDepth := 12) [go_sem]; done) | simp (maxDischargeDepth := 12) [go_sem, *]); have kb1_wheapsize_1 : w1.cell? ⟨w.heap.size, 1, none⟩ = some (.int .u64 (x : Int)) := (Below.cell b1 (by first | (simp; done) | (simp; omega) | omega)).trans (by first | (simp (maxDischargeDepth := 12) [go_sem]; done) | simp (maxDischargeDepth := 12) [go_sem, *]); have gb1_wheapsize_1 : w1.frozen? ⟨w.heap.size, 1, none⟩ = false := (Below.frozen b1 (by first | (simp; done) | (simp; omega) | omega)).trans (by first | (simp (maxDischargeDepth := 12) [go_sem]; done) | simp (maxDischargeDepth := 12) [go_sem, *]); have kb1_wheapsize_2 : w1.cell? ⟨w.heap.size, 2, none⟩ = some (.int .u64 (y : Int)) := (Below.cell b1 (by first | (simp; done) | (simp; omega) | omega)).trans (by first | (simp (maxDischargeDepth := 12) [go_sem]; done) | simp (maxDischargeDepth := 12) [go_sem, *]); have gb1_wheapsize_2 : w1.frozen? ⟨w.heap.size, 2, none⟩ = false := (Below.frozen b1 (by first | (simp; done) | (simp; omega) | omega)).trans (by first | (simp (maxDischargeDepth := 12) [go_sem]; done) | simp (maxDischargeDepth := 12) [go_sem, *]); have lb1_wheapsize : w.heap.size < w1.heap.size := (by first | omega | (have := Below.size b1; simp at this; omega)); have lb1_wheapsize' : w.heap.size < w1.heap.size + 1 := Nat.lt_succ_of_lt lb1_wheapsize; have lb1_wheapsize'' : w.heap.size < w1.heap.size + 1 + 1 := Nat.lt_succ_of_lt lb1_wheapsize')
    | (go_at_call 18; refine (OF.out _).mono ?_; rintro e w2 ⟨⟨v, rfl, ho⟩, b2⟩; obtain ⟨A, c, rfl, hc, hri, hn⟩ := ho.slice; have HO := Lib.hid ho; clear ho hri hn; have hs_b2 := Below.size b2; (try simp at hs_b2)))
  have hrt : RtW w w2.heap.size n (.slice A d0.length c) d0 (w2.alloc (.cells #[.bool n, .slice A d0.length c] 34)) := by
    have hq : Below w2.heap.size w2 (w2.alloc (.cells #[.bool n, .slice A d0.length c] 34)) := by (repeat' (first | (with_reducible exact Below.refl _ _) | (refine Below.trans ?_ (Below.mono (by with_reducible assumption) ?_)) | (with_reducible exact Below.refl _ _) | (with_reducible refine below_drewN ?_ _) | (with_reducible refine Below.drew ?_) | (with_reducible refine Below.setCell ?_ ?_ _) | (with_reducible refine Below.alloc ?_ ?_ _) | (with_reducible assumption) | (simp; done) | (simp; omega) | omega))
    refine ⟨by simp, DS.below (HO.out.slice) hq, by simp, by omega, ?_⟩
    exact (Below.trans (by (repeat' (first | (with_reducible exact Below.refl _ _) | (refine Below.trans ?_ (Below.mono (by with_reducible assumption) ?_)) | (with_reducible exact Below.refl _ _) | (with_reducible refine below_drewN ?_ _) | (with_reducible refine Below.drew ?_) | (with_reducible refine Below.setCell ?_ ?_ _) | (with_reducible refine Below.alloc ?_ ?_ _) | (with_reducible assumption) | (simp; done) | (simp; omega) | omega))) (b2.mono (by omega))).trans (hq.mono (by omega))
  have HRT := Lib.hid hrt
  obtain ⟨gx, hgx⟩ : ∃ gx, gx = w2.heap.size := ⟨_, rfl⟩
  rw [← hgx] at HRT
  rw [← hgx]
  obtain ⟨W, hW⟩ : ∃ W, W = w2.alloc (.cells #[.bool n, .slice A d0.length c] 34) := ⟨_, rfl⟩
  rw [← hW] at HRT
  rw [← hW]
  clear b1 b2 hrt hgx hW HO RG OF kb1_wheapsize_0 kb1_wheapsize_1 kb1_wheapsize_2 gb1_wheapsize_0 gb1_wheapsize_1 gb1_wheapsize_2 hs_b1 hs_b2 lb1_wheapsize lb1_wheapsize' lb1_wheapsize''
  go_cut [4] from 16 to 23 (fun v wx => RtW w gx n v D wx)
  case first =>
    go_wp2_with fail
    go_loopg [4] (7 - d0.length) (fun g v wr => ∃ j : Nat, g + j = 7 - d0.length ∧ Hid (RtW w gx n v (d0 ++ List.replicate j 0) wr))
    case atStart => exact ⟨0, rfl, by simpa using HRT⟩
    case round =>
      obtain ⟨j, hj, hR⟩ := hrel
      have hr := hR.out
      obtain ⟨L, hL⟩ : ∃ L, L = d0 ++ List.replicate j 0 := ⟨_, rfl⟩
      have hLl : L.length = d0.length + j := by rw [hL]; simp
      rw [← hL] at hR hr
      have hd := hr.rd
      obtain ⟨A5, c5, rfl, hc5, hri5, hn5⟩ := hd
      by_cases hlt : L.length < 7
      · have hn : d0 ++ List.replicate (j + 1) 0 = [] ++ L ++ [0] := by rw [hL, List.replicate_succ']; simp
        have ho6 := OI.lit wr [] (base := wr.heap.size) (Nat.le_refl _) (by decide)
        have hb6 : Below wr.heap.size wr (wr.alloc (.cells (inums []) 3)) := by (repeat' (first | (with_reducible exact Below.refl _ _) | (refine Below.trans ?_ (Below.mono (by with_reducible assumption) ?_)) | (with_reducible exact Below.refl _ _) | (with_reducible refine below_drewN ?_ _) | (with_reducible refine Below.drew ?_) | (with_reducible refine Below.setCell ?_ ?_ _) | (with_reducible refine Below.alloc ?_ ?_ _) | (with_reducible assumption) | (simp; done) | (simp; omega) | omega))
        have hr6 := hri5.below hb6
        have HO6 := Lib.hid ho6; have HB6 := Lib.hid hb6; have HR6 := Lib.hid hr6; have HN := Lib.hid hn; have HN5 := Lib.hid hn5; have HLL := Lib.hid hLl
        clear ho6 hb6 hr6 hn hn5 hri5 hr hL hLl
        go_wp2_with (first
          | (at_builtin; refine wpList_appI rfl (.tmp 19) (.tmp 20) rfl wr.heap.size (by simp) _ [] rfl HO6.out A5 L.length c5 L _ rfl rfl HN5.out HR6.out (by simp; omega) ?_; intro v2 w5 ho5 hg5; have hz5 : wr.heap.size ≤ w5.heap.size := Nat.le_trans (by simp) hg5.size; have HB5 := Lib.hid (HO6.out.below hg5 HB6.out (Nat.le_refl _) (by simp)); have HO5 := Lib.hid ho5; have hb5' : Below wr.heap.size wr (w5.alloc (.cells (inums [0]) 3)) := (by refine HB5.out.trans ?_; (repeat' (first | (with_reducible exact Below.refl _ _) | (refine Below.trans ?_ (Below.mono (by with_reducible assumption) ?_)) | (with_reducible exact Below.refl _ _) | (with_reducible refine below_drewN ?_ _) | (with_reducible refine Below.drew ?_) | (with_reducible refine Below.setCell ?_ ?_ _) | (with_reducible refine Below.alloc ?_ ?_ _) | (with_reducible assumption) | (simp; done) | (simp; omega) | omega))); have HB5' := Lib.hid hb5'; clear ho5 hg5 hb5')
          | (at_builtin; refine wpList_appI rfl (.tmp 21) (.tmp 22) rfl wr.heap.size (by simp; omega) v2 ([] ++ L) rfl (HO5.out.alloc _) (some ⟨w5.heap.size, 0, none⟩) 1 1 [0] _ rfl rfl (by intro e; cases e) (ri_row w5 [0] _ _) (by simp; omega) ?_; intro v3 w6 ho7 hg7; have HB7 := Lib.hid ((HO5.out.alloc (.cells (inums [0]) 3)).below hg7 HB5'.out (Nat.le_refl _) (by simp; omega)); have HO7 := Lib.hid ho7; clear ho7 hg7))
        have := HLL.out
        go_roundg (7 - d0.length - (j + 1))
        case measure => omega
        case rel => exact ⟨j + 1, by omega, Lib.hid (by rw [HN.out]; exact (hR.out.below HB7.out).read HO7.out.slice)⟩
      · have hDD : L = D := by
          rw [hL, HDP.out]; congr 2; omega
        have HDD := Lib.hid hDD
        clear hr hL hLl hDD hri5 hn5
        go_wp2_with fail
        go_meet
        rw [← HDD.out]
        exact hR.out
  case rest =>
  have hr := hcut
  obtain ⟨A5, c5, rfl, hc5, hri5, hn5⟩ := hr.rd
  have HRT2 := Lib.hid hr
  clear hcut hr hri5 hn5 HRT
  go_upto_block 2 with fail
  go_cut [5, 6] from 24 to 39 (fun s _ wx => s = .string (strN U) ∧ Hid (RtW w gx n (.slice A5 D.length c5) D wx))
  case first =>
    go_wp2_with fail
    go_loopw [5, 6] (fun s i wr => ∃ j : Nat, 6 + j ≤ D.length ∧ i = .int .i64 ((6 + j : Nat) : Int) ∧ s = .string (strN (chars ((D.drop 6).take j)).reverse) ∧ Hid (RtW w gx n (.slice A5 D.length c5) D wr)) (fun _ i _ => D.length - (intOf i).toNat)
    case atStart => exact ⟨0, by omega, rfl, rfl, HRT2⟩
    case round =>
      obtain ⟨j, hj, rfl, rfl, hR⟩ := hrel
      obtain ⟨Z, hZ⟩ : ∃ Z, Z = strN (chars ((D.drop 6).take j)).reverse := ⟨_, rfl⟩
      have hZs : Z.size ≤ 1000 := by rw [hZ, strN_size]; simp [chars]; omega
      rw [← hZ]
      obtain ⟨m, hm⟩ : ∃ m, m = 6 + j := ⟨_, rfl⟩
      rw [← hm] at hj
      rw [← hm]
      by_cases hlt : m < D.length
      · obtain ⟨A6, c6, e6, hc6, hri6, hn6⟩ := hR.out.rd
        simp only [Value.slice.injEq] at e6
        obtain ⟨e6, -, ec⟩ := e6
        subst e6
        subst ec
        obtain ⟨ad, rfl, hb, hcell⟩ := hri6 (by omega)
        have hcl := hcell m hlt
        have hdlt := HG.out m hlt
        obtain ⟨d, hd⟩ : ∃ d, d = D[m] := ⟨_, rfl⟩
        rw [← hd] at hcl hdlt
        have hst : strN (chars ((D.drop 6).take (j + 1))).reverse = strN [48 + d] ++ Z := by
          have h6 : j < (D.drop 6).length := by rw [List.length_drop]; omega
          rw [List.take_succ_eq_append_getElem h6, hZ, strN_app]
          have : (D.drop 6)[j] = d := by rw [hd, List.getElem_drop]; congr 1; exact hm.symm
          rw [this]; simp [chars]
        have hz1 : (strN [48 + d]).size ≤ 1 := by rw [strN_size]; simp
        have hcv := fun W => conv_one W (48 + d) (48 + (d : Int)) (by omega)
        have HST := Lib.hid hst; have HM := Lib.hid hm
        clear hst hZ hm hd hcell hb hri6 hc6 hn6
        go_wp2_with fail
        refine ⟨⟨j + 1, by have := HM.out; omega, congrArg (Value.int .i64) (by have := HM.out; omega), by rw [HST.out], Lib.hid (hR.out.below (by (repeat' (first | (with_reducible exact Below.refl _ _) | (refine Below.trans ?_ (Below.mono (by with_reducible assumption) ?_)) | (with_reducible exact Below.refl _ _) | (with_reducible refine below_drewN ?_ _) | (with_reducible refine Below.drew ?_) | (with_reducible refine Below.setCell ?_ ?_ _) | (with_reducible refine Below.alloc ?_ ?_ _) | (with_reducible assumption) | (simp; done) | (simp; omega) | omega))))⟩, by simp [intOf]; omega⟩
      · have hU2 : strN U = Z := by
          rw [HU.out, hZ, List.take_of_length_le (by rw [List.length_drop]; omega)]
        have HU2 := Lib.hid hU2
        clear hU2 hZ hm
        go_wp2_with fail
        go_meet
        exact ⟨by rw [HU2.out], hR⟩
  case rest =>
  obtain ⟨rfl, hR⟩ := hcut
  obtain ⟨w3, rfl⟩ : ∃ w3, w3 = wc := ⟨_, rfl⟩
  clear HRT2
  obtain ⟨A6, c6, e6, hc6, hri6, hn6⟩ := hR.out.rd
  simp only [Value.slice.injEq] at e6
  obtain ⟨e6, -, ec⟩ := e6
  subst e6
  subst ec
  have HRI := Lib.hid hri6
  clear hri6 hc6 hn6
  go_upto_block 4 with fail
  go_cut [7] from 40 to 50 (fun f wx => ∃ k : Nat, k ≤ 6 ∧ f = .int .i64 (k : Int) ∧ Hid (∀ i, i < k → F / 10 ^ i % 10 = 0) ∧ Hid (k < 6 → F / 10 ^ k % 10 ≠ 0) ∧ w3 = wx)
  case first =>
    go_wp2_with fail
    go_loop [7] (fun f => ∃ k : Nat, k ≤ 6 ∧ f = .int .i64 (k : Int) ∧ Hid (∀ i, i < k → F / 10 ^ i % 10 = 0)) (fun f => 6 - (intOf f).toNat)
    case atStart => exact ⟨0, by omega, rfl, Lib.hid (fun _ h => absurd h (by omega))⟩
    case round =>
      obtain ⟨k, hk, rfl, hz⟩ := hrel
      by_cases hlt : k < 6
      · obtain ⟨ad, rfl, hb, hcell⟩ := HRI.out (by omega)
        have hkD : k < D.length := by omega
        have hcl := hcell k hkD
        have hd6 := HGF.out k hkD hlt
        obtain ⟨d, hd⟩ : ∃ d, d = D[k] := ⟨_, rfl⟩
        rw [← hd] at hcl hd6
        have HD6 := Lib.hid hd6
        clear hd hd6 hcell hb
        by_cases h0 : d = 0
        · subst h0
          have HZ2 := Lib.hid (show ∀ i, i < k + 1 → F / 10 ^ i % 10 = 0 from fun i hi => by
            by_cases e : i = k
            · subst e; exact HD6.out.symm
            · exact hz.out i (by omega))
          go_wp2_with fail
          go_round
          case rel => exact ⟨k + 1, by omega, by go_num, HZ2⟩
          case measure => simp [intOf]; omega
        · have h1 : ((d : Int) == 0) = false := by rw [beq_eq_false_iff_ne]; omega
          have HNZ := Lib.hid (show k < 6 → F / 10 ^ k % 10 ≠ 0 from fun _ => by rw [← HD6.out]; exact h0)
          clear h0
          go_wp2_with fail
          go_meet
          exact ⟨k, hk, rfl, hz, HNZ, rfl⟩
      · obtain rfl : k = 6 := by omega
        have HNZ := Lib.hid (show 6 < 6 → F / 10 ^ 6 % 10 ≠ 0 from fun h => absurd h (by omega))
        go_wp2_with fail
        go_meet
        exact ⟨6, hk, rfl, hz, HNZ, rfl⟩
  case rest =>
  obtain ⟨k, hk, rfl, hz, hnz, rfl⟩ := hcut
  obtain ⟨T, hT⟩ : ∃ T, T = U ++ frP F := ⟨_, rfl⟩
  have hTl : T.length ≤ 107 := by rw [hT, List.length_append]; have := frP_len F; omega
  have hTc : (k = 6 ∧ T = U) ∨ (k < 6 ∧ T = U ++ [46] ++ dn F k 6) := by
    rcases Nat.lt_or_ge k 6 with h | h
    · right
      refine ⟨h, ?_⟩
      have hF0 : F ≠ 0 := by
        intro e
        have := hnz.out h
        rw [e, Nat.zero_div] at this
        exact this rfl
      rw [hT]; unfold frP
      rw [if_neg hF0, frs_dn F k hz.out (hnz.out h) 6, List.append_assoc]; rfl
    · left
      have e : k = 6 := by omega
      refine ⟨e, ?_⟩
      have := low_zeroG F HFL.out (by rw [← e]; exact hz.out)
      rw [hT, this]; simp [frP]
  have HT := Lib.hid hT; have HTC := Lib.hid hTc
  clear hT hTc
  obtain ⟨Z, hZ⟩ : ∃ Z, Z = strN U := ⟨_, rfl⟩
  have hZs : Z.size ≤ 100 := by rw [hZ, strN_size]; exact hUl
  rw [← hZ]
  have HZ := Lib.hid hZ
  clear hZ
  go_upto_if 52 with fail
  go_cut [5, 8] from 52 to 69 (fun s _ wx => s = .string (strN T) ∧ Hid (RtW w gx n (.slice A5 D.length c5) D wx))
  case first =>
    rcases Nat.lt_or_ge k 6 with hk6 | hk6
    · have hT2 : T = U ++ [46] ++ dn F k 6 := by
        rcases HTC.out with ⟨h, _⟩ | ⟨_, h⟩
        · omega
        · exact h
      have HT2 := Lib.hid hT2
      clear hT2
      go_wp2_with fail
      go_loopw [5, 8] (fun s i wr => ∃ (m : Nat) (L : List Nat), k ≤ m ∧ m ≤ 6 ∧ i = .int .i64 ((m : Int) - 1) ∧ s = .string (strN L) ∧ L.length ≤ 107 ∧ Hid (L ++ dn F k m = T) ∧ Hid (RtW w gx n (.slice A5 D.length c5) D wr)) (fun _ i _ => (intOf i + 1).toNat)
      case atStart => exact ⟨6, U ++ [46], by omega, by omega, rfl, by rw [HZ.out, ← strN_app]; rfl, by simp; omega, Lib.hid HT2.out.symm, hR⟩
      case round =>
        obtain ⟨m, L, hkm, hm6, rfl, rfl, hLl, hL, hR⟩ := hrel
        obtain ⟨Y, hY⟩ : ∃ Y, Y = strN L := ⟨_, rfl⟩
        have hYs : Y.size ≤ 107 := by rw [hY, strN_size]; exact hLl
        rw [← hY]
        by_cases hlt : k < m
        · obtain ⟨q, rfl⟩ : ∃ q, m = q + 1 := ⟨m - 1, by omega⟩
          obtain ⟨A7, c7, e7, hc7, hri7, hn7⟩ := hR.out.rd
          simp only [Value.slice.injEq] at e7
          obtain ⟨e7, -, ec⟩ := e7
          subst e7
          subst ec
          obtain ⟨ad, rfl, hb, hcell⟩ := hri7 (by omega)
          have hqD : q < D.length := by omega
          have hcl := hcell q hqD
          have hdlt := HG.out q hqD
          have hd6 := HGF.out q hqD (by omega)
          obtain ⟨d, hd⟩ : ∃ d, d = D[q] := ⟨_, rfl⟩
          rw [← hd] at hcl hdlt hd6
          have hdn : dn F k (q + 1) = (48 + d) :: dn F k q := by
            have hkq : k ≤ q := by omega
            simp only [dn, hkq, if_true]; rw [hd6]
          have hL2 : (L ++ [48 + d]) ++ dn F k q = T := by
            rw [← hL.out, hdn, List.append_assoc]; rfl
          have hLl2 : (L ++ [48 + d]).length ≤ 107 := by
            have := congrArg List.length hL2
            rw [List.length_append] at this; omega
          have hst : strN (L ++ [48 + d]) = Y ++ strN [48 + d] := by rw [hY, strN_app]
          have hz1 : (strN [48 + d]).size ≤ 1 := by rw [strN_size]; simp
          have hcv := fun W => conv_one W (48 + d) (48 + (d : Int)) (by omega)
          have HST := Lib.hid hst; have HL2 := Lib.hid hL2; have HLL := Lib.hid hLl2
          clear hst hL2 hLl2 hdn hd6 hd hcell hb hri7 hc7 hn7 hY
          go_wp2_with fail
          refine ⟨⟨q, L ++ [48 + d], by omega, by omega, by go_num, by rw [HST.out], HLL.out, HL2, Lib.hid (hR.out.below (by (repeat' (first | (with_reducible exact Below.refl _ _) | (refine Below.trans ?_ (Below.mono (by with_reducible assumption) ?_)) | (with_reducible exact Below.refl _ _) | (with_reducible refine below_drewN ?_ _) | (with_reducible refine Below.drew ?_) | (with_reducible refine Below.setCell ?_ ?_ _) | (with_reducible refine Below.alloc ?_ ?_ _) | (with_reducible assumption) | (simp; done) | (simp; omega) | omega))))⟩, by simp [intOf]⟩
        · obtain rfl : m = k := by omega
          have hLT : L = T := by rw [← hL.out, dn_nil m (Nat.le_refl _), List.append_nil]
          have HLT := Lib.hid hLT; have HY := Lib.hid hY
          clear hLT hY
          go_wp2_with fail
          go_meet
          exact ⟨by rw [HY.out, HLT.out], hR⟩
    · have hT2 : T = U := by
        rcases HTC.out with ⟨_, h⟩ | ⟨h, _⟩
        · exact h
        · omega
      have HT2 := Lib.hid hT2
      clear hT2
      go_wp2_with fail
      go_meet
      exact ⟨by rw [HZ.out, HT2.out], hR⟩
  case rest =>
  obtain ⟨rfl, hR2⟩ := hcut
  have hneg := hR2.out.neg
  obtain ⟨Y, hY⟩ : ∃ Y, Y = strN T := ⟨_, rfl⟩
  have hYs : Y.size ≤ 107 := by rw [hY, strN_size]; exact hTl
  rw [← hY]
  have HY := Lib.hid hY
  clear hY
  cases n
  · go_wp2
    go_ret
    exact ⟨by rw [HY.out, HT.out]; rfl, hR2.out.bel⟩
  · go_wp2
    go_ret
    exact ⟨by rw [HY.out, HT.out]; exact congrArg (fun s => Ending.returned (Value.string s)) (strN_app [45] (U ++ frP F)), hR2.out.bel⟩
end Go.Proofs.Ytkhhjibpppmekaa

/- fieldfareref09: Good at any cell; Number, String, Truth. -/
namespace Go.Proofs.Ytkhhjibpppmekaa
open Go.RowKit
theorem rcgood_any (k : Int) (bs : List Nat) (n : Bool) (h l : Int) (w : World) (hb : ∀ x ∈ bs, x < 256) (hl : bs.length ≤ 100000) (wh : Wd h) (wl : Wd l) :
    Calls Try.prog 37 #[.agg #[.int .i64 k, .string (strN bs), .bool n, .int .u64 h, .int .u64 l]] w fun e w' => e = .returned (.bool (goodC k bs n h l)) ∧ Below w.heap.size w w' := by
  cases hg : goodB n h l
  · have : goodC k bs n h l = false := by
      cases hc : goodC k bs n h l
      · rfl
      · rw [goodC_goodB hc] at hg; cases hg
    rw [this]
    exact rcgood_bad w wh wl hg
  · have ht : (strN bs).toList.isEmpty = decide (bs = []) := by rw [Bool.eq_iff_iff, decide_eq_true_eq, List.isEmpty_iff]; exact strN_nil bs
    by_cases h3 : k = 3
    · subst h3
      have e : goodC 3 bs n h l = (likeB bs && decide (n = pP bs ∧ h = mh (pM bs) ∧ l = ml (pM bs))) := by unfold goodC; rw [if_neg (by decide), if_neg (by decide), if_neg (by decide), if_pos rfl]
      have RL := fun W => rlike_any bs W hb hl
      cases hk : likeB bs
      · rw [hk] at RL
        rw [e, hk]
        exact rcgood_nolike w wh wl hg RL
      · rw [hk] at RL
        rw [e, hk, Bool.true_and]
        have ia := of_good wh wl hg
        have hM : (dg (pM bs)).length ≤ 1000 := Nat.le_trans ((dg_len_LIM _).2 (by have := pM_lt bs; unfold LIM; omega)) (by decide)
        exact rcgood_like w ia hM (same_like ia) RL (fun W => rprefix_q bs W hb hl)
    · refine rcgood_small w wh wl hg _ ?_
      unfold goodC
      by_cases h0 : k = 0
      · left; rw [if_pos h0, ht]; exact ⟨h0, rfl⟩
      by_cases h1 : k = 1
      · right; left; rw [if_neg h0, if_pos h1, ht, hg, Bool.and_true]; exact ⟨h1, rfl⟩
      by_cases h2 : k = 2
      · right; right; left; rw [if_neg h0, if_neg h1, if_pos h2]; exact ⟨h2, rfl⟩
      · right; right; right; rw [if_neg h0, if_neg h1, if_neg h2, if_neg h3]
        exact ⟨⟨beq_eq_false_iff_ne.2 h0, beq_eq_false_iff_ne.2 h1, beq_eq_false_iff_ne.2 h2, beq_eq_false_iff_ne.2 h3⟩, rfl⟩
/-- What the reference's functions of a cell start with. -/
def RGood (k : Int) (bs : List Nat) (n : Bool) (h l : Int) (g : Bool) : Prop := ∀ W, Calls Try.prog 37 #[.agg #[.int .i64 k, .string (strN bs), .bool n, .int .u64 h, .int .u64 l]] W fun e w' => e = .returned (.bool g) ∧ Below W.heap.size W w'
set_option maxRecDepth 100000 in
set_option maxHeartbeats 800000 in
theorem rstr_x {k : Int} {S P : ByteArray} {n : Bool} {h l : Int} {g : Bool} (w : World)
    (RG0 : ∀ W, Calls Try.prog 37 #[.agg #[.int .i64 k, .string S, .bool n, .int .u64 h, .int .u64 l]] W fun e w' => e = .returned (.bool g) ∧ Below W.heap.size W w')
    (TX0 : g = true → k = 1 → ∀ W, Calls Try.prog 71 #[.agg #[.bool n, .int .u64 h, .int .u64 l]] W fun e w' => e = .returned (.string P) ∧ Below W.heap.size W w')
    (hp : (g = false ∧ P = { data := #[] }) ∨ (g = true ∧ k = 1) ∨ (g = true ∧ (k == 1) = false ∧ P = S)) :
    Calls Try.prog 39 #[.agg #[.int .i64 k, .string S, .bool n, .int .u64 h, .int .u64 l]] w fun e w' => e = .returned (.string P) ∧ Below w.heap.size w w' := by
  have RG := Lib.hid RG0; have TX := Lib.hid TX0
  have HA := Lib.hid (Box5.make w (.int .i64 k) (.string S) (.bool n) (.int .u64 h) (.int .u64 l) 41 rfl)
  clear RG0 TX0
  rcases hp with ⟨rfl, rfl⟩ | ⟨rfl, rfl⟩ | ⟨rfl, e1, rfl⟩
  · go_enter Try.func39, Try.ntmps39
    go_wp2_with (go_at_call 37; refine (RG.out _).mono ?_; rintro e w2 ⟨rfl, q2⟩; have b5a_2 := Lib.hid (HA.out.below q2); have b5a_20 := b5a_2.out.c0; have b5a_21 := b5a_2.out.c1; have b5a_22 := b5a_2.out.c2; have b5a_23 := b5a_2.out.c3; have b5a_24 := b5a_2.out.c4; have b5a_2f0 := b5a_2.out.f0; have b5a_2f1 := b5a_2.out.f1; have b5a_2f2 := b5a_2.out.f2; have b5a_2f3 := b5a_2.out.f3; have b5a_2f4 := b5a_2.out.f4; have b5a_2z := b5a_2.out.z)
    go_ret
    exact ⟨by simp, by (repeat' (first | (with_reducible exact Below.refl _ _) | (refine Below.trans ?_ (Below.mono (by with_reducible assumption) ?_)) | (with_reducible exact Below.refl _ _) | (with_reducible refine below_drewN ?_ _) | (with_reducible refine Below.drew ?_) | (with_reducible refine Below.setCell ?_ ?_ _) | (with_reducible refine Below.alloc ?_ ?_ _) | (with_reducible assumption) | (simp; done) | (simp; omega) | omega))⟩
  · have TY := Lib.hid (TX.out rfl rfl)
    clear TX
    go_enter Try.func39, Try.ntmps39
    go_wp2_with (first
      | (go_at_call 37; refine (RG.out _).mono ?_; rintro e w2 ⟨rfl, q2⟩; have b5a_2 := Lib.hid (HA.out.below q2); have b5a_20 := b5a_2.out.c0; have b5a_21 := b5a_2.out.c1; have b5a_22 := b5a_2.out.c2; have b5a_23 := b5a_2.out.c3; have b5a_24 := b5a_2.out.c4; have b5a_2f0 := b5a_2.out.f0; have b5a_2f1 := b5a_2.out.f1; have b5a_2f2 := b5a_2.out.f2; have b5a_2f3 := b5a_2.out.f3; have b5a_2f4 := b5a_2.out.f4; have b5a_2z := b5a_2.out.z)
      | (go_at_call 71; refine (TY.out _).mono ?_; rintro e w3 ⟨rfl, q3⟩))
    go_ret
    exact ⟨by simp, by (repeat' (first | (with_reducible exact Below.refl _ _) | (refine Below.trans ?_ (Below.mono (by with_reducible assumption) ?_)) | (with_reducible exact Below.refl _ _) | (with_reducible refine below_drewN ?_ _) | (with_reducible refine Below.drew ?_) | (with_reducible refine Below.setCell ?_ ?_ _) | (with_reducible refine Below.alloc ?_ ?_ _) | (with_reducible assumption) | (simp; done) | (simp; omega) | omega))⟩
  · go_enter Try.func39, Try.ntmps39
    go_wp2_with (go_at_call 37; refine (RG.out _).mono ?_; rintro e w2 ⟨rfl, q2⟩; have b5a_2 := Lib.hid (HA.out.below q2); have b5a_20 := b5a_2.out.c0; have b5a_21 := b5a_2.out.c1; have b5a_22 := b5a_2.out.c2; have b5a_23 := b5a_2.out.c3; have b5a_24 := b5a_2.out.c4; have b5a_2f0 := b5a_2.out.f0; have b5a_2f1 := b5a_2.out.f1; have b5a_2f2 := b5a_2.out.f2; have b5a_2f3 := b5a_2.out.f3; have b5a_2f4 := b5a_2.out.f4; have b5a_2z := b5a_2.out.z)
    go_ret
    exact ⟨by simp, by (repeat' (first | (with_reducible exact Below.refl _ _) | (refine Below.trans ?_ (Below.mono (by with_reducible assumption) ?_)) | (with_reducible exact Below.refl _ _) | (with_reducible refine below_drewN ?_ _) | (with_reducible refine Below.drew ?_) | (with_reducible refine Below.setCell ?_ ?_ _) | (with_reducible refine Below.alloc ?_ ?_ _) | (with_reducible assumption) | (simp; done) | (simp; omega) | omega))⟩
set_option maxRecDepth 100000 in
set_option maxHeartbeats 800000 in
theorem rtruth_x {k : Int} {S : ByteArray} {n : Bool} {h l : Int} {g b : Bool} (w : World)
    (RG0 : ∀ W, Calls Try.prog 37 #[.agg #[.int .i64 k, .string S, .bool n, .int .u64 h, .int .u64 l]] W fun e w' => e = .returned (.bool g) ∧ Below W.heap.size W w')
    (hp : (g = false ∧ b = false) ∨ (g = true ∧ k = 2 ∧ b = !S.toList.isEmpty) ∨ (g = true ∧ (k == 2) = false ∧ b = !(!n && (decide (h = 0) && decide (l = 0))))) :
    Calls Try.prog 40 #[.agg #[.int .i64 k, .string S, .bool n, .int .u64 h, .int .u64 l]] w fun e w' => e = .returned (.bool b) ∧ Below w.heap.size w w' := by
  have RG := Lib.hid RG0
  have HA := Lib.hid (Box5.make w (.int .i64 k) (.string S) (.bool n) (.int .u64 h) (.int .u64 l) 41 rfl)
  clear RG0
  rcases hp with ⟨rfl, hb⟩ | ⟨rfl, rfl, hb⟩ | ⟨rfl, e1, hb⟩
  all_goals
    have HB := Lib.hid hb
    clear hb
    go_enter Try.func40, Try.ntmps40
    go_wp2_with (go_at_call 37; refine (RG.out _).mono ?_; rintro e w2 ⟨rfl, q2⟩; have b5a_2 := Lib.hid (HA.out.below q2); have b5a_20 := b5a_2.out.c0; have b5a_21 := b5a_2.out.c1; have b5a_22 := b5a_2.out.c2; have b5a_23 := b5a_2.out.c3; have b5a_24 := b5a_2.out.c4; have b5a_2f0 := b5a_2.out.f0; have b5a_2f1 := b5a_2.out.f1; have b5a_2f2 := b5a_2.out.f2; have b5a_2f3 := b5a_2.out.f3; have b5a_2f4 := b5a_2.out.f4; have b5a_2z := b5a_2.out.z)
    all_goals
      go_ret
      exact ⟨by simp [HB.out, *], by (repeat' (first | (with_reducible exact Below.refl _ _) | (refine Below.trans ?_ (Below.mono (by with_reducible assumption) ?_)) | (with_reducible exact Below.refl _ _) | (with_reducible refine below_drewN ?_ _) | (with_reducible refine Below.drew ?_) | (with_reducible refine Below.setCell ?_ ?_ _) | (with_reducible refine Below.alloc ?_ ?_ _) | (with_reducible assumption) | (simp; done) | (simp; omega) | omega))⟩
end Go.Proofs.Ytkhhjibpppmekaa
