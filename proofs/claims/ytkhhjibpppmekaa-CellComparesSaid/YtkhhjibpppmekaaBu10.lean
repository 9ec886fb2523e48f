/- Several texts put together: DecE, DivM, DecC. -/
import Derived.Test.YtkhhjibpppmekaaBu8
import Derived.Test.YtkhhjibpppmekaaBu9
import Derived.WalkKit
/- dec.Mul, Trunc, Whole. -/
namespace Go.Proofs.Ytkhhjibpppmekaa
open Go.RowKit
theorem goodD {z : Int} (h : z.natAbs < LIM) : goodB (zn z) (zh z) (zl z) = true := good_of (IsD.of h)
/-- A product, cut behind the sixth place. -/
def mulZ (a b : Int) : Int := (a * b).tdiv 1000000
set_option maxRecDepth 100000 in
set_option maxHeartbeats 400000 in
theorem mul_any (n m rn : Bool) (ha la hb lb za zb rh rl : Int) (er : Value) (ia : IsD n ha la za) (ib : IsD m hb lb zb)
    (HR : Hid (∀ (a b c d : Int) W, Wd a → Wd b → Wd c → Wd d → lim4 a b c d = ((mulZ za zb).natAbs : Int) → Calls Try.prog 76 #[.bool (!n == m), .agg #[.int .u64 a, .int .u64 b, .int .u64 c, .int .u64 d]] W
      fun e w' => e = .returned (.tuple #[.agg #[.bool rn, .int .u64 rh, .int .u64 rl], er]) ∧ Below W.heap.size W w')) (w : World) :
    Calls Try.prog 51 #[.agg #[.bool n, .int .u64 ha, .int .u64 la], .agg #[.bool m, .int .u64 hb, .int .u64 lb]] w fun e w' => e = .returned (.tuple #[.agg #[.bool rn, .int .u64 rh, .int .u64 rl], er]) ∧ Below w.heap.size w w' := by
  have ga := good_of ia
  have gb := good_of ib
  obtain ⟨wa, xa⟩ := ia.words
  obtain ⟨wb, xb⟩ := ib.words
  have hm : ((ha * 18446744073709551616 + la) * (hb * 18446744073709551616 + lb)) / 1000000 = ((mulZ za zb).natAbs : Int) := by
    rw [ia.2.2.1, ib.2.2.1]
    unfold mulZ
    rw [Int.natAbs_tdiv, Int.natAbs_mul]
    show _ = (((za.natAbs * zb.natAbs) / 1000000 : Nat) : Int)
    simp
  have HM := Lib.hid hm; clear hm
  have P := Lib.hid (product_any n m ha la hb lb wa xa wb xb)
  clear wa xa wb xb ia ib
  go_enter Try.func51, Try.ntmps51
  go_wp2_with (first | (go_at_call 31; refine (good_any _ _ _ _).mono ?_; rintro e w1 ⟨rfl, rfl⟩) | (go_at_call 75; refine (P.out _).mono ?_; rintro e w1 ⟨p0, p1, p2, p3, rfl, o0, o1, o2, o3, hp, q1⟩; obtain ⟨hc_q1, hf_q1⟩ := bcell q1; have hs_q1 := Below.size q1; (try simp at hs_q1); have kq1_wheapsize_0 : w1.cell? ⟨w.heap.size, 0, none⟩ = some (.bool n) := (Below.cell q1 (by first | (simp; done) | (simp; omega) | omega)).trans (by first | (simp (maxDischargeDepth := 12) [go_sem]; done) | simp (maxDischargeDepth := 12) [go_sem, *]); have gq1_wheapsize_0 : w1.frozen? ⟨w.heap.size, 0, none⟩ = false := (Below.frozen q1 (by first | (simp; done) | (simp; omega) | omega)).trans (by first | (simp (maxDischargeDepth := 12) [go_sem]; done) | simp (maxDischargeDepth := 12) [go_sem, *]); have lq1_wheapsize : w.heap.size < w1.heap.size := (by first | omega | (have := Below.size q1; simp at this; omega)); have lq1_wheapsize' : w.heap.size < w1.heap.size + 1 := Nat.lt_succ_of_lt lq1_wheapsize; have lq1_wheapsize'' : w.heap.size < w1.heap.size + 1 + 1 := Nat.lt_succ_of_lt lq1_wheapsize'; have kq1_wheapsize1_0 : w1.cell? ⟨w.heap.size + 1, 0, none⟩ = some (.bool m) := (Below.cell q1 (by first | (simp; done) | (simp; omega) | omega)).trans (by first | (simp (maxDischargeDepth := 12) [go_sem]; done) | simp (maxDischargeDepth := 12) [go_sem, *]); have gq1_wheapsize1_0 : w1.frozen? ⟨w.heap.size + 1, 0, none⟩ = false := (Below.frozen q1 (by first | (simp; done) | (simp; omega) | omega)).trans (by first | (simp (maxDischargeDepth := 12) [go_sem]; done) | simp (maxDischargeDepth := 12) [go_sem, *]); have lq1_wheapsize1 : w.heap.size + 1 < w1.heap.size := (by first | omega | (have := Below.size q1; simp at this; omega)); have lq1_wheapsize1' : w.heap.size + 1 < w1.heap.size + 1 := Nat.lt_succ_of_lt lq1_wheapsize1; have lq1_wheapsize1'' : w.heap.size + 1 < w1.heap.size + 1 + 1 := Nat.lt_succ_of_lt lq1_wheapsize1'; have kq1_wheapsize11_0 : w1.cell? ⟨w.heap.size + 1 + 1, 0, none⟩ = some (.bool false) := (Below.cell q1 (by first | (simp; done) | (simp; omega) | omega)).trans (by first | (simp (maxDischargeDepth := 12) [go_sem]; done) | simp (maxDischargeDepth := 12) [go_sem, *]); have gq1_wheapsize11_0 : w1.frozen? ⟨w.heap.size + 1 + 1, 0, none⟩ = false := (Below.frozen q1 (by first | (simp; done) | (simp; omega) | omega)).trans (by first | (simp (maxDischargeDepth := 12) [go_sem]; done) | simp (maxDischargeDepth := 12) [go_sem, *]); have kq1_wheapsize11_1 : w1.cell? ⟨w.heap.size + 1 + 1, 1, none⟩ = some (.int .u64 0) := (Below.cell q1 (by first | (simp; done) | (simp; omega) | omega)).trans (by first | (simp (maxDischargeDepth := 12) [go_sem]; done) | simp (maxDischargeDepth := 12) [go_sem, *]); have gq1_wheapsize11_1 : w1.frozen? ⟨w.heap.size + 1 + 1, 1, none⟩ = false := (Below.frozen q1 (by first | (simp; done) | (simp; omega) | omega)).trans (by first | (simp (maxDischargeDepth := 12) [go_sem]; done) | simp (maxDischargeDepth := 12) [go_sem, *]); have kq1_wheapsize11_2 : w1.cell? ⟨w.heap.size + 1 + 1, 2, none⟩ = some (.int .u64 0) := (Below.cell q1 (by first | (simp; done) | (simp; omega) | omega)).trans (by first | (simp (maxDischargeDepth := 12) [go_sem]; done) | simp (maxDischargeDepth := 12) [go_sem, *]); have gq1_wheapsize11_2 : w1.frozen? ⟨w.heap.size + 1 + 1, 2, none⟩ = false := (Below.frozen q1 (by first | (simp; done) | (simp; omega) | omega)).trans (by first | (simp (maxDischargeDepth := 12) [go_sem]; done) | simp (maxDischargeDepth := 12) [go_sem, *]); have lq1_wheapsize11 : w.heap.size + 1 + 1 < w1.heap.size := (by first | omega | (have := Below.size q1; simp at this; omega)); have lq1_wheapsize11' : w.heap.size + 1 + 1 < w1.heap.size + 1 := Nat.lt_succ_of_lt lq1_wheapsize11; have lq1_wheapsize11'' : w.heap.size + 1 + 1 < w1.heap.size + 1 + 1 := Nat.lt_succ_of_lt lq1_wheapsize11') | (go_at_call 78; refine (small_any _ _ _ _ _ (by assumption) (by assumption) (by assumption) (by assumption) (by omega) (by omega) _).mono ?_; rintro e w2 ⟨s0, s1, s2, s3, s4, rfl, t0, t1, t2, t3, hs, hr, q2⟩; clear hr; have hs' : lim4 s0 s1 s2 s3 = ((mulZ za zb).natAbs : Int) := (by rw [hs, hp]; exact HM.out); obtain ⟨hc_q2, hf_q2⟩ := bcell q2; have hs_q2 := Below.size q2; (try simp at hs_q2); have kq2_wheapsize_0 : w2.cell? ⟨w.heap.size, 0, none⟩ = some (.bool n) := (Below.cell q2 (by first | (simp; done) | (simp; omega) | omega)).trans (by first | (simp (maxDischargeDepth := 12) [go_sem]; done) | simp (maxDischargeDepth := 12) [go_sem, *]); have gq2_wheapsize_0 : w2.frozen? ⟨w.heap.size, 0, none⟩ = false := (Below.frozen q2 (by first | (simp; done) | (simp; omega) | omega)).trans (by first | (simp (maxDischargeDepth := 12) [go_sem]; done) | simp (maxDischargeDepth := 12) [go_sem, *]); have lq2_wheapsize : w.heap.size < w2.heap.size := (by first | omega | (have := Below.size q2; simp at this; omega)); have lq2_wheapsize' : w.heap.size < w2.heap.size + 1 := Nat.lt_succ_of_lt lq2_wheapsize; have lq2_wheapsize'' : w.heap.size < w2.heap.size + 1 + 1 := Nat.lt_succ_of_lt lq2_wheapsize'; have kq2_wheapsize1_0 : w2.cell? ⟨w.heap.size + 1, 0, none⟩ = some (.bool m) := (Below.cell q2 (by first | (simp; done) | (simp; omega) | omega)).trans (by first | (simp (maxDischargeDepth := 12) [go_sem]; done) | simp (maxDischargeDepth := 12) [go_sem, *]); have gq2_wheapsize1_0 : w2.frozen? ⟨w.heap.size + 1, 0, none⟩ = false := (Below.frozen q2 (by first | (simp; done) | (simp; omega) | omega)).trans (by first | (simp (maxDischargeDepth := 12) [go_sem]; done) | simp (maxDischargeDepth := 12) [go_sem, *]); have lq2_wheapsize1 : w.heap.size + 1 < w2.heap.size := (by first | omega | (have := Below.size q2; simp at this; omega)); have lq2_wheapsize1' : w.heap.size + 1 < w2.heap.size + 1 := Nat.lt_succ_of_lt lq2_wheapsize1; have lq2_wheapsize1'' : w.heap.size + 1 < w2.heap.size + 1 + 1 := Nat.lt_succ_of_lt lq2_wheapsize1'; have kq2_wheapsize11_0 : w2.cell? ⟨w.heap.size + 1 + 1, 0, none⟩ = some (.bool false) := (Below.cell q2 (by first | (simp; done) | (simp; omega) | omega)).trans (by first | (simp (maxDischargeDepth := 12) [go_sem]; done) | simp (maxDischargeDepth := 12) [go_sem, *]); have gq2_wheapsize11_0 : w2.frozen? ⟨w.heap.size + 1 + 1, 0, none⟩ = false := (Below.frozen q2 (by first | (simp; done) | (simp; omega) | omega)).trans (by first | (simp (maxDischargeDepth := 12) [go_sem]; done) | simp (maxDischargeDepth := 12) [go_sem, *]); have kq2_wheapsize11_1 : w2.cell? ⟨w.heap.size + 1 + 1, 1, none⟩ = some (.int .u64 0) := (Below.cell q2 (by first | (simp; done) | (simp; omega) | omega)).trans (by first | (simp (maxDischargeDepth := 12) [go_sem]; done) | simp (maxDischargeDepth := 12) [go_sem, *]); have gq2_wheapsize11_1 : w2.frozen? ⟨w.heap.size + 1 + 1, 1, none⟩ = false := (Below.frozen q2 (by first | (simp; done) | (simp; omega) | omega)).trans (by first | (simp (maxDischargeDepth := 12) [go_sem]; done) | simp (maxDischargeDepth := 12) [go_sem, *]); have kq2_wheapsize11_2 : w2.cell? ⟨w.heap.size + 1 + 1, 2, none⟩ = some (.int .u64 0) := (Below.cell q2 (by first | (simp; done) | (simp; omega) | omega)).trans (by first | (simp (maxDischargeDepth := 12) [go_sem]; done) | simp (maxDischargeDepth := 12) [go_sem, *]); have gq2_wheapsize11_2 : w2.frozen? ⟨w.heap.size + 1 + 1, 2, none⟩ = false := (Below.frozen q2 (by first | (simp; done) | (simp; omega) | omega)).trans (by first | (simp (maxDischargeDepth := 12) [go_sem]; done) | simp (maxDischargeDepth := 12) [go_sem, *]); have lq2_wheapsize11 : w.heap.size + 1 + 1 < w2.heap.size := (by first | omega | (have := Below.size q2; simp at this; omega)); have lq2_wheapsize11' : w.heap.size + 1 + 1 < w2.heap.size + 1 := Nat.lt_succ_of_lt lq2_wheapsize11; have lq2_wheapsize11'' : w.heap.size + 1 + 1 < w2.heap.size + 1 + 1 := Nat.lt_succ_of_lt lq2_wheapsize11') | (go_at_call 76; refine (HR.out _ _ _ _ _ (by assumption) (by assumption) (by assumption) (by assumption) (by assumption)).mono ?_; rintro e w3 ⟨rfl, q3⟩; obtain ⟨hc_q3, hf_q3⟩ := bcell q3; have hs_q3 := Below.size q3; (try simp at hs_q3); have kq3_wheapsize11_0 : w3.cell? ⟨w.heap.size + 1 + 1, 0, none⟩ = some (.bool false) := (Below.cell q3 (by first | (simp; done) | (simp; omega) | omega)).trans (by first | (simp (maxDischargeDepth := 12) [go_sem]; done) | simp (maxDischargeDepth := 12) [go_sem, *]); have gq3_wheapsize11_0 : w3.frozen? ⟨w.heap.size + 1 + 1, 0, none⟩ = false := (Below.frozen q3 (by first | (simp; done) | (simp; omega) | omega)).trans (by first | (simp (maxDischargeDepth := 12) [go_sem]; done) | simp (maxDischargeDepth := 12) [go_sem, *]); have kq3_wheapsize11_1 : w3.cell? ⟨w.heap.size + 1 + 1, 1, none⟩ = some (.int .u64 0) := (Below.cell q3 (by first | (simp; done) | (simp; omega) | omega)).trans (by first | (simp (maxDischargeDepth := 12) [go_sem]; done) | simp (maxDischargeDepth := 12) [go_sem, *]); have gq3_wheapsize11_1 : w3.frozen? ⟨w.heap.size + 1 + 1, 1, none⟩ = false := (Below.frozen q3 (by first | (simp; done) | (simp; omega) | omega)).trans (by first | (simp (maxDischargeDepth := 12) [go_sem]; done) | simp (maxDischargeDepth := 12) [go_sem, *]); have kq3_wheapsize11_2 : w3.cell? ⟨w.heap.size + 1 + 1, 2, none⟩ = some (.int .u64 0) := (Below.cell q3 (by first | (simp; done) | (simp; omega) | omega)).trans (by first | (simp (maxDischargeDepth := 12) [go_sem]; done) | simp (maxDischargeDepth := 12) [go_sem, *]); have gq3_wheapsize11_2 : w3.frozen? ⟨w.heap.size + 1 + 1, 2, none⟩ = false := (Below.frozen q3 (by first | (simp; done) | (simp; omega) | omega)).trans (by first | (simp (maxDischargeDepth := 12) [go_sem]; done) | simp (maxDischargeDepth := 12) [go_sem, *]); have lq3_wheapsize11 : w.heap.size + 1 + 1 < w3.heap.size := (by first | omega | (have := Below.size q3; simp at this; omega)); have lq3_wheapsize11' : w.heap.size + 1 + 1 < w3.heap.size + 1 := Nat.lt_succ_of_lt lq3_wheapsize11; have lq3_wheapsize11'' : w.heap.size + 1 + 1 < w3.heap.size + 1 + 1 := Nat.lt_succ_of_lt lq3_wheapsize11'))
  (try simp only [Exit.inBlock, Exit.then]); refine bodyPost_ret (by simp [results, Try.results51, go_sem, *]; try rfl) rfl ?_
  exact ⟨rfl, by (repeat' (first | (with_reducible exact Below.refl _ _) | (refine Below.trans ?_ (Below.mono (by with_reducible assumption) ?_)) | (with_reducible exact Below.refl _ _) | (with_reducible refine below_drewN ?_ _) | (with_reducible refine Below.drew ?_) | (with_reducible refine Below.setCell ?_ ?_ _) | (with_reducible refine Below.alloc ?_ ?_ _) | (with_reducible assumption) | (simp; done) | (simp; omega) | omega))⟩

theorem tdiv_sign {p k : Int} (hk : 0 < k) (h : p.tdiv k ≠ 0) : p.tdiv k < 0 ↔ p < 0 := by
  by_cases hp : 0 ≤ p
  · have := Int.tdiv_nonneg hp (show 0 ≤ k by omega)
    omega
  · have e : p = -(-p) := by omega
    have := Int.tdiv_nonneg (show 0 ≤ -p by omega) (show 0 ≤ k by omega)
    rw [e, Int.neg_tdiv] at h ⊢
    omega
theorem mul_neg_iff {a b : Int} (h : a * b ≠ 0) : a * b < 0 ↔ (a < 0 ↔ ¬ b < 0) := by
  by_cases ha : a < 0 <;> by_cases hb : b < 0
  · have := Int.mul_pos_of_neg_of_neg ha hb
    simp [ha, hb]; omega
  · have := Int.mul_nonpos_of_nonpos_of_nonneg (show a ≤ 0 by omega) (show 0 ≤ b by omega)
    simp [ha, hb]; omega
  · have := Int.mul_nonpos_of_nonneg_of_nonpos (show 0 ≤ a by omega) (show b ≤ 0 by omega)
    simp [ha, hb]; omega
  · have := Int.mul_nonneg (show 0 ≤ a by omega) (show 0 ≤ b by omega)
    simp [ha, hb]; omega
theorem sign_of {n m : Bool} {za zb z : Int} (hn : n = decide (za < 0)) (hm : m = decide (zb < 0)) (h : z < 0 ↔ (za < 0 ↔ ¬ zb < 0)) : (!n == m) = decide (z < 0) := by
  subst hn hm
  by_cases a : za < 0 <;> by_cases b : zb < 0 <;> simp [a, b] at h ⊢ <;> omega
theorem mul_sign {n m : Bool} {za zb : Int} (hn : n = decide (za < 0)) (hm : m = decide (zb < 0)) : mulZ za zb = 0 ∨ (!n == m) = decide (mulZ za zb < 0) := by
  by_cases h : mulZ za zb = 0
  · exact .inl h
  · refine .inr (sign_of hn hm ?_)
    unfold mulZ at h ⊢
    rw [tdiv_sign (by decide) h]
    apply mul_neg_iff
    intro e; rw [e] at h; exact h rfl
theorem mul_ok (n m : Bool) (ha la hb lb za zb z : Int) (ia : IsD n ha la za) (ib : IsD m hb lb zb) (hz : z = mulZ za zb) (hl : z.natAbs < LIM) (w : World) :
    Calls Try.prog 51 #[.agg #[.bool n, .int .u64 ha, .int .u64 la], .agg #[.bool m, .int .u64 hb, .int .u64 lb]] w fun e w' => e = .returned (.tuple #[.agg #[.bool (zn (z)), .int .u64 (zh (z)), .int .u64 (zl (z))], .nilIface]) ∧ Below w.heap.size w w' := by
  subst hz
  exact mul_any n m _ ha la hb lb za zb _ _ _ ia ib (Lib.hid fun a b c d W wa wb wc wd hN => result_ok _ a b c d _ wa wb wc wd hN (mul_sign ia.2.2.2.1 ib.2.2.2.1) hl W) w
theorem mul_over (n m : Bool) (ha la hb lb za zb : Int) (ia : IsD n ha la za) (ib : IsD m hb lb zb) (hl : LIM ≤ (mulZ za zb).natAbs) (w : World) :
    Calls Try.prog 51 #[.agg #[.bool n, .int .u64 ha, .int .u64 la], .agg #[.bool m, .int .u64 hb, .int .u64 lb]] w fun e w' => e = .returned (.tuple #[.agg #[.bool false, .int .u64 0, .int .u64 0], .iface 83 (.int .i64 2)]) ∧ Below w.heap.size w w' :=
  mul_any n m _ ha la hb lb za zb _ _ _ ia ib (Lib.hid fun a b c d W wa wb wc wd hN => result_over _ a b c d wa wb wc wd (by rw [hN]; exact hl) W) w
set_option maxRecDepth 100000 in
set_option maxHeartbeats 400000 in
theorem mul_bad (n m : Bool) (ha la hb lb : Int) (hg : goodB n ha la = false ∨ goodB m hb lb = false) (w : World) :
    Calls Try.prog 51 #[.agg #[.bool n, .int .u64 ha, .int .u64 la], .agg #[.bool m, .int .u64 hb, .int .u64 lb]] w fun e w' => e = .returned (.tuple #[.agg #[.bool false, .int .u64 0, .int .u64 0], .iface 83 (.int .i64 1)]) ∧ Below w.heap.size w w' := by
  cases ga : goodB n ha la
  · clear hg
    go_enter Try.func51, Try.ntmps51
    go_wp2_with ((go_at_call 31; refine (good_any _ _ _ _).mono ?_; rintro e w1 ⟨rfl, rfl⟩))
    go_returns
    exact ⟨rfl, by (repeat' (first | (with_reducible exact Below.refl _ _) | (refine Below.trans ?_ (Below.mono (by with_reducible assumption) ?_)) | (with_reducible exact Below.refl _ _) | (with_reducible refine below_drewN ?_ _) | (with_reducible refine Below.drew ?_) | (with_reducible refine Below.setCell ?_ ?_ _) | (with_reducible refine Below.alloc ?_ ?_ _) | (with_reducible assumption) | (simp; done) | (simp; omega) | omega))⟩
  · have gb : goodB m hb lb = false := by rcases hg with h | h; rw [ga] at h; cases h; exact h
    clear hg
    go_enter Try.func51, Try.ntmps51
    go_wp2_with ((go_at_call 31; refine (good_any _ _ _ _).mono ?_; rintro e w1 ⟨rfl, rfl⟩))
    go_returns
    exact ⟨rfl, by (repeat' (first | (with_reducible exact Below.refl _ _) | (refine Below.trans ?_ (Below.mono (by with_reducible assumption) ?_)) | (with_reducible exact Below.refl _ _) | (with_reducible refine below_drewN ?_ _) | (with_reducible refine Below.drew ?_) | (with_reducible refine Below.setCell ?_ ?_ _) | (with_reducible refine Below.alloc ?_ ?_ _) | (with_reducible assumption) | (simp; done) | (simp; omega) | omega))⟩
end Go.Proofs.Ytkhhjibpppmekaa

/- Plain facts on a division bit by bit. No program. -/
namespace Go.Proofs.Ytkhhjibpppmekaa
/-- A number of four words. -/
def lim (W : Nat → Nat) : Nat := W 0 + W 1 * 18446744073709551616 + W 2 * 340282366920938463463374607431768211456 + W 3 * 6277101735386680763835789423207666416102355444464034512896
theorem word_high {W : Nat → Nat} (hW : ∀ i, W i < 18446744073709551616) (j : Nat) (hj : j < 4) : ∃ M, lim W / 2 ^ (64 * j) = W j + 18446744073709551616 * M := by
  have h0 := hW 0; have h1 := hW 1; have h2 := hW 2; have h3 := hW 3
  unfold lim
  match j, hj with
  | 0, _ => exact ⟨W 1 + W 2 * 18446744073709551616 + W 3 * 340282366920938463463374607431768211456, by rw [show 2 ^ (64 * 0) = 1 by rfl]; omega⟩
  | 1, _ => exact ⟨W 2 + W 3 * 18446744073709551616, by rw [show 2 ^ (64 * 1) = 18446744073709551616 by rfl]; omega⟩
  | 2, _ => exact ⟨W 3, by rw [show 2 ^ (64 * 2) = 340282366920938463463374607431768211456 by rfl]; omega⟩
  | 3, _ => exact ⟨0, by rw [show 2 ^ (64 * 3) = 6277101735386680763835789423207666416102355444464034512896 by rfl]; omega⟩
theorem pow_split (s : Nat) (hs : s < 64) : 2 ^ (s + 1) * 2 ^ (63 - s) = 18446744073709551616 := by
  rw [← Nat.pow_add, show s + 1 + (63 - s) = 64 by omega]
theorem bit_of {W : Nat → Nat} (hW : ∀ i, W i < 18446744073709551616) (k : Nat) (hk : k < 256) : W (k / 64) / 2 ^ (k % 64) % 2 = lim W / 2 ^ k % 2 := by
  obtain ⟨M, hM⟩ := word_high hW (k / 64) (by omega)
  have e : 2 ^ k = 2 ^ (64 * (k / 64)) * 2 ^ (k % 64) := by rw [← Nat.pow_add]; congr 1; omega
  rw [e, ← Nat.div_div_eq_div_mul, hM]
  have p := pow_split (k % 64) (by omega)
  have : 18446744073709551616 * M = 2 ^ (k % 64) * (2 * (2 ^ (63 - k % 64) * M)) := by
    rw [← p, Nat.pow_succ]; simp only [Nat.mul_assoc]
  rw [this, Nat.add_mul_div_left _ _ (Nat.pow_pos (by decide)), Nat.add_mul_mod_self_left]
theorem low_zero {Q : Nat → Nat} (hQ : ∀ i, Q i < 18446744073709551616) (k M : Nat) (hk : k < 256) (h : lim Q = M * 2 ^ (k + 1)) : ∃ m, Q (k / 64) = 2 ^ (k % 64 + 1) * m := by
  obtain ⟨X, hX⟩ := word_high hQ (k / 64) (by omega)
  have e : 2 ^ (k + 1) = 2 ^ (64 * (k / 64)) * 2 ^ (k % 64 + 1) := by rw [← Nat.pow_add]; congr 1; omega
  have p := pow_split (k % 64) (by omega)
  have a : lim Q / 2 ^ (64 * (k / 64)) = 2 ^ (k % 64 + 1) * M := by
    rw [h, e, Nat.mul_comm M, Nat.mul_assoc, Nat.mul_div_cancel_left _ (Nat.pow_pos (by decide))]
  rw [a, ← p, Nat.mul_assoc] at hX
  have : 2 ^ (k % 64 + 1) * (M - 2 ^ (63 - k % 64) * X) = Q (k / 64) := by
    rw [Nat.mul_sub]; omega
  exact ⟨_, this.symm⟩
theorem bit_set {Q : Nat → Nat} (hQ : ∀ i, Q i < 18446744073709551616) (k M : Nat) (hk : k < 256) (h : lim Q = M * 2 ^ (k + 1)) :
    Q (k / 64) ||| 2 ^ (k % 64) = Q (k / 64) + 2 ^ (k % 64) ∧ Q (k / 64) + 2 ^ (k % 64) < 18446744073709551616 := by
  obtain ⟨m, hm⟩ := low_zero hQ k M hk h
  have hlt : 2 ^ (k % 64) < 2 ^ (k % 64 + 1) := Nat.pow_lt_pow_right (by decide) (by omega)
  constructor
  · rw [hm, Nat.two_pow_add_eq_or_of_lt hlt]
  · have p := pow_split (k % 64) (by omega)
    have q := hQ (k / 64)
    rw [hm, ← p] at q
    have : m < 2 ^ (63 - k % 64) := Nat.lt_of_mul_lt_mul_left q
    have r := Nat.mul_le_mul_left (2 ^ (k % 64 + 1)) (show m + 1 ≤ 2 ^ (63 - k % 64) by omega)
    rw [p, Nat.mul_add, ← hm] at r
    omega
/-- A word is put in another one's place. -/
def upd (Q : Nat → Nat) (j v : Nat) : Nat → Nat := fun i => if i = j then v else Q i
theorem upd_lim (Q : Nat → Nat) (k : Nat) (hk : k < 256) : lim (upd Q (k / 64) (Q (k / 64) + 2 ^ (k % 64))) = lim Q + 2 ^ k := by
  have e : 2 ^ k = 2 ^ (64 * (k / 64)) * 2 ^ (k % 64) := by rw [← Nat.pow_add]; congr 1; omega
  rw [e]
  have hj : k / 64 < 4 := by omega
  generalize k / 64 = j at *
  generalize 2 ^ (k % 64) = p
  unfold lim upd
  match j, hj with
  | 0, _ => simp; omega
  | 1, _ => simp; omega
  | 2, _ => simp; omega
  | 3, _ => simp; omega
theorem next_quot (N y k : Nat) (hy : 0 < y) (b : Nat) (hb : b = N / 2 ^ k % 2) :
    N / 2 ^ k = 2 * (N / 2 ^ (k + 1)) + b ∧
    (2 * (N / 2 ^ (k + 1) % y) + b < y → N / 2 ^ k % y = 2 * (N / 2 ^ (k + 1) % y) + b ∧ N / 2 ^ k / y * 2 ^ k = N / 2 ^ (k + 1) / y * 2 ^ (k + 1)) ∧
    (y ≤ 2 * (N / 2 ^ (k + 1) % y) + b → N / 2 ^ k % y = 2 * (N / 2 ^ (k + 1) % y) + b - y ∧ N / 2 ^ k / y * 2 ^ k = N / 2 ^ (k + 1) / y * 2 ^ (k + 1) + 2 ^ k) := by
  have e : N / 2 ^ k = 2 * (N / 2 ^ (k + 1)) + b := by
    rw [Nat.pow_succ, ← Nat.div_div_eq_div_mul]; omega
  generalize hA : N / 2 ^ (k + 1) = A at *
  have d := Nat.div_add_mod A y
  have m := Nat.mod_lt A hy
  generalize A / y = q at *
  generalize A % y = r at *
  have e2 : N / 2 ^ k = y * (2 * q) + (2 * r + b) := by
    rw [e, ← d, Nat.mul_add, Nat.mul_left_comm]; omega
  refine ⟨e, fun h => ?_, fun h => ?_⟩
  · rw [e2, Nat.mul_add_mod, Nat.mod_eq_of_lt h, Nat.mul_add_div hy, Nat.div_eq_of_lt h, Nat.pow_succ, Nat.add_zero]
    exact ⟨rfl, by rw [Nat.mul_comm 2 q, Nat.mul_assoc, Nat.mul_comm 2]⟩
  · have b1 : b ≤ 1 := by omega
    have e3 : N / 2 ^ k = y * (2 * q + 1) + (2 * r + b - y) := by
      rw [e2, Nat.mul_add]; omega
    rw [e3, Nat.mul_add_mod, Nat.mod_eq_of_lt (by omega), Nat.mul_add_div hy, Nat.div_eq_of_lt (by omega), Nat.pow_succ, Nat.add_zero]
    refine ⟨rfl, ?_⟩
    rw [Nat.add_mul, Nat.one_mul, Nat.mul_comm 2 q, Nat.mul_assoc, Nat.mul_comm 2]
end Go.Proofs.Ytkhhjibpppmekaa

/- dec.Add: the sum of two numbers. -/
namespace Go.Proofs.Ytkhhjibpppmekaa
open Go.RowKit
/-- The words of a sum. -/
theorem sum_words {ha la hb lb : Int} (wa : Wd ha) (xa : Wd la) (wb : Wd hb) (xb : Wd lb) :
    Wd ((la + lb) % 18446744073709551616) ∧ Wd ((ha + hb + (la + lb) / 18446744073709551616) % 18446744073709551616) ∧ Wd ((ha + hb + (la + lb) / 18446744073709551616) / 18446744073709551616) ∧
    0 ≤ (la + lb) / 18446744073709551616 ∧ (la + lb) / 18446744073709551616 ≤ 1 ∧
    lim4 ((la + lb) % 18446744073709551616) ((ha + hb + (la + lb) / 18446744073709551616) % 18446744073709551616) ((ha + hb + (la + lb) / 18446744073709551616) / 18446744073709551616) 0 = (ha * 18446744073709551616 + la) + (hb * 18446744073709551616 + lb) := by
  obtain ⟨a1, a2⟩ := wa; obtain ⟨b1, b2⟩ := xa; obtain ⟨c1, c2⟩ := wb; obtain ⟨d1, d2⟩ := xb
  unfold Wd lim4
  omega
theorem dif_words {ha la hb lb : Int} (wa : Wd ha) (xa : Wd la) (wb : Wd hb) (xb : Wd lb) (h : hb * 18446744073709551616 + lb ≤ ha * 18446744073709551616 + la) :
    Wd ((la - lb) % 18446744073709551616) ∧ Wd ((ha - hb - bor la lb 0) % 18446744073709551616) ∧
    lim4 ((la - lb) % 18446744073709551616) ((ha - hb - bor la lb 0) % 18446744073709551616) 0 0 = (ha * 18446744073709551616 + la) - (hb * 18446744073709551616 + lb) := by
  obtain ⟨a1, a2⟩ := wa; obtain ⟨b1, b2⟩ := xa; obtain ⟨c1, c2⟩ := wb; obtain ⟨d1, d2⟩ := xb
  unfold Wd lim4 bor
  split <;> omega
theorem same_sum {n : Bool} {ha la hb lb za zb : Int} (ia : IsD n ha la za) (ib : IsD n hb lb zb) :
    lim4 ((la + lb) % 18446744073709551616) ((ha + hb + (la + lb) / 18446744073709551616) % 18446744073709551616) ((ha + hb + (la + lb) / 18446744073709551616) / 18446744073709551616) 0 = (za + zb).natAbs ∧
    (za + zb = 0 ∨ n = decide (za + zb < 0)) := by
  obtain ⟨wa, xa⟩ := ia.words
  obtain ⟨wb, xb⟩ := ib.words
  obtain ⟨s1, s2, s3, k0, k1, s4⟩ := sum_words wa xa wb xb
  have e1 := ia.2.2.2.1
  have e2 := ib.2.2.2.1
  have h3 : decide (za < 0) = decide (zb < 0) := by rw [← e1, ← e2]
  rw [decide_eq_decide] at h3
  constructor
  · rw [s4, ia.2.2.1, ib.2.2.1]
    omega
  · right
    rw [e1, decide_eq_decide]
    omega
end Go.Proofs.Ytkhhjibpppmekaa
