/- dec.Mod. -/
import Derived.Test.YtkhhjibpppmekaaDecE
import Derived.Test.YtkhhjibpppmekaaDivide
namespace Go.Proofs.Ytkhhjibpppmekaa
open Go.RowKit
set_option maxRecDepth 100000 in
set_option maxHeartbeats 800000 in
theorem mod_any (n m rn : Bool) (ha la hb lb za zb rh rl : Int) (er : Value) (ia : IsD n ha la za) (ib : IsD m hb lb zb) (hz : zb ≠ 0)
    (HR : Hid (∀ (a b : Int) W, Wd a → Wd b → b * 18446744073709551616 + a = ((za.tmod zb).natAbs : Int) → Calls Try.prog 76 #[.bool n, .agg #[.int .u64 a, .int .u64 b, .int .u64 0, .int .u64 0]] W
      fun e w' => e = .returned (.tuple #[.agg #[.bool rn, .int .u64 rh, .int .u64 rl], er]) ∧ Below W.heap.size W w')) (w : World) :
    Calls Try.prog 47 #[.agg #[.bool n, .int .u64 ha, .int .u64 la], .agg #[.bool m, .int .u64 hb, .int .u64 lb]] w fun e w' => e = .returned (.tuple #[.agg #[.bool rn, .int .u64 rh, .int .u64 rl], er]) ∧ Below w.heap.size w w' := by
  have ga := good_of ia
  have gb := good_of ib
  obtain ⟨wa, xa⟩ := ia.words
  obtain ⟨wb, xb⟩ := ib.words
  have hN : lim4 la ha 0 0 % (hb * 18446744073709551616 + lb) = ((za.tmod zb).natAbs : Int) := by
    rw [lim4_small, ia.2.2.1, ib.2.2.1, Int.natAbs_tmod]; simp
  have HNN := Lib.hid hN; clear hN
  have hy0 : 0 < hb * 18446744073709551616 + lb := by rw [ib.2.2.1]; omega
  have hy1 : hb * 18446744073709551616 + lb < LIM := by rw [ib.2.2.1]; exact ib.2.2.2.2
  have D := Lib.hid (fun W => divide_any m la ha 0 0 hb lb xa wa Wd.zero Wd.zero wb.1 xb hy0 hy1 W)
  have hne : hb ≠ 0 ∨ lb ≠ 0 := by omega
  clear wa xa wb xb ia ib hy0 hy1 hz
  rcases hne with h1 | h1
  all_goals
    have h2 := beq_eq_false_iff_ne.2 h1
    clear h1
    go_enter Try.func47, Try.ntmps47
    go_upto_region 6 with (first | (go_at_call 31; refine (good_any _ _ _ _).mono ?_; rintro e w1 ⟨rfl, rfl⟩) | (go_at_call 74; refine (D.out _).mono ?_; rintro e w2 ⟨s0, s1, s2, s3, r1, r0, rfl, t0, t1, t2, t3, t4, t5, hs, hr, q2⟩; have HS := Lib.hid (hr.trans HNN.out); clear hs hr; have hs_q2 := Below.size q2; (try simp at hs_q2); have kq2_wheapsize_0 : w2.cell? ⟨w.heap.size, 0, none⟩ = some (.bool n) := (Below.cell q2 (by first | (simp; done) | (simp; omega) | omega)).trans (by first | (simp (maxDischargeDepth := 12) [go_sem]; done) | simp (maxDischargeDepth := 12) [go_sem, *]); have gq2_wheapsize_0 : w2.frozen? ⟨w.heap.size, 0, none⟩ = false := (Below.frozen q2 (by first | (simp; done) | (simp; omega) | omega)).trans (by first | (simp (maxDischargeDepth := 12) [go_sem]; done) | simp (maxDischargeDepth := 12) [go_sem, *]); have lq2_wheapsize : w.heap.size < w2.heap.size := (by first | omega | (have := Below.size q2; simp at this; omega)); have lq2_wheapsize' : w.heap.size < w2.heap.size + 1 := Nat.lt_succ_of_lt lq2_wheapsize; have lq2_wheapsize'' : w.heap.size < w2.heap.size + 1 + 1 := Nat.lt_succ_of_lt lq2_wheapsize'; have kq2_wheapsize11_0 : w2.cell? ⟨w.heap.size + 1 + 1, 0, none⟩ = some (.bool false) := (Below.cell q2 (by first | (simp; done) | (simp; omega) | omega)).trans (by first | (simp (maxDischargeDepth := 12) [go_sem]; done) | simp (maxDischargeDepth := 12) [go_sem, *]); have gq2_wheapsize11_0 : w2.frozen? ⟨w.heap.size + 1 + 1, 0, none⟩ = false := (Below.frozen q2 (by first | (simp; done) | (simp; omega) | omega)).trans (by first | (simp (maxDischargeDepth := 12) [go_sem]; done) | simp (maxDischargeDepth := 12) [go_sem, *]); have kq2_wheapsize11_1 : w2.cell? ⟨w.heap.size + 1 + 1, 1, none⟩ = some (.int .u64 0) := (Below.cell q2 (by first | (simp; done) | (simp; omega) | omega)).trans (by first | (simp (maxDischargeDepth := 12) [go_sem]; done) | simp (maxDischargeDepth := 12) [go_sem, *]); have gq2_wheapsize11_1 : w2.frozen? ⟨w.heap.size + 1 + 1, 1, none⟩ = false := (Below.frozen q2 (by first | (simp; done) | (simp; omega) | omega)).trans (by first | (simp (maxDischargeDepth := 12) [go_sem]; done) | simp (maxDischargeDepth := 12) [go_sem, *]); have kq2_wheapsize11_2 : w2.cell? ⟨w.heap.size + 1 + 1, 2, none⟩ = some (.int .u64 0) := (Below.cell q2 (by first | (simp; done) | (simp; omega) | omega)).trans (by first | (simp (maxDischargeDepth := 12) [go_sem]; done) | simp (maxDischargeDepth := 12) [go_sem, *]); have gq2_wheapsize11_2 : w2.frozen? ⟨w.heap.size + 1 + 1, 2, none⟩ = false := (Below.frozen q2 (by first | (simp; done) | (simp; omega) | omega)).trans (by first | (simp (maxDischargeDepth := 12) [go_sem]; done) | simp (maxDischargeDepth := 12) [go_sem, *]); have lq2_wheapsize11 : w.heap.size + 1 + 1 < w2.heap.size := (by first | omega | (have := Below.size q2; simp at this; omega)); have lq2_wheapsize11' : w.heap.size + 1 + 1 < w2.heap.size + 1 := Nat.lt_succ_of_lt lq2_wheapsize11; have lq2_wheapsize11'' : w.heap.size + 1 + 1 < w2.heap.size + 1 + 1 := Nat.lt_succ_of_lt lq2_wheapsize11'))
    go_wp2_with (go_at_call 76; refine (HR.out _ _ _ (by assumption) (by assumption) HS.out).mono ?_; rintro e w3 ⟨rfl, q3⟩; have hs_q3 := Below.size q3; (try simp at hs_q3); have kq3_wheapsize11_0 : w3.cell? ⟨w.heap.size + 1 + 1, 0, none⟩ = some (.bool false) := (Below.cell q3 (by first | (simp; done) | (simp; omega) | omega)).trans (by first | (simp (maxDischargeDepth := 12) [go_sem]; done) | simp (maxDischargeDepth := 12) [go_sem, *]); have gq3_wheapsize11_0 : w3.frozen? ⟨w.heap.size + 1 + 1, 0, none⟩ = false := (Below.frozen q3 (by first | (simp; done) | (simp; omega) | omega)).trans (by first | (simp (maxDischargeDepth := 12) [go_sem]; done) | simp (maxDischargeDepth := 12) [go_sem, *]); have kq3_wheapsize11_1 : w3.cell? ⟨w.heap.size + 1 + 1, 1, none⟩ = some (.int .u64 0) := (Below.cell q3 (by first | (simp; done) | (simp; omega) | omega)).trans (by first | (simp (maxDischargeDepth := 12) [go_sem]; done) | simp (maxDischargeDepth := 12) [go_sem, *]); have gq3_wheapsize11_1 : w3.frozen? ⟨w.heap.size + 1 + 1, 1, none⟩ = false := (Below.frozen q3 (by first | (simp; done) | (simp; omega) | omega)).trans (by first | (simp (maxDischargeDepth := 12) [go_sem]; done) | simp (maxDischargeDepth := 12) [go_sem, *]); have kq3_wheapsize11_2 : w3.cell? ⟨w.heap.size + 1 + 1, 2, none⟩ = some (.int .u64 0) := (Below.cell q3 (by first | (simp; done) | (simp; omega) | omega)).trans (by first | (simp (maxDischargeDepth := 12) [go_sem]; done) | simp (maxDischargeDepth := 12) [go_sem, *]); have gq3_wheapsize11_2 : w3.frozen? ⟨w.heap.size + 1 + 1, 2, none⟩ = false := (Below.frozen q3 (by first | (simp; done) | (simp; omega) | omega)).trans (by first | (simp (maxDischargeDepth := 12) [go_sem]; done) | simp (maxDischargeDepth := 12) [go_sem, *]); have lq3_wheapsize11 : w.heap.size + 1 + 1 < w3.heap.size := (by first | omega | (have := Below.size q3; simp at this; omega)); have lq3_wheapsize11' : w.heap.size + 1 + 1 < w3.heap.size + 1 := Nat.lt_succ_of_lt lq3_wheapsize11; have lq3_wheapsize11'' : w.heap.size + 1 + 1 < w3.heap.size + 1 + 1 := Nat.lt_succ_of_lt lq3_wheapsize11')
    (try simp only [Exit.inBlock, Exit.then]); refine bodyPost_ret (by simp [results, Try.results47, go_sem, *]; try rfl) rfl ?_
    exact ⟨rfl, by (repeat' (first | (with_reducible exact Below.refl _ _) | (refine Below.trans ?_ (Below.mono (by with_reducible assumption) ?_)) | (with_reducible exact Below.refl _ _) | (with_reducible refine below_drewN ?_ _) | (with_reducible refine Below.drew ?_) | (with_reducible refine Below.setCell ?_ ?_ _) | (with_reducible refine Below.alloc ?_ ?_ _) | (with_reducible assumption) | (simp; done) | (simp; omega) | omega))⟩
theorem tmod_sign {n : Bool} {za zb : Int} (hn : n = decide (za < 0)) : za.tmod zb = 0 ∨ n = decide (za.tmod zb < 0) := by
  by_cases h : za.tmod zb = 0
  · exact .inl h
  · right
    rw [hn, decide_eq_decide]
    by_cases hz : 0 ≤ za
    · have := Int.tmod_nonneg zb hz
      omega
    · have e : za = -(-za) := by omega
      have := Int.tmod_nonneg zb (show 0 ≤ -za by omega)
      rw [e, Int.neg_tmod] at h ⊢
      omega
theorem mod_ok (n m : Bool) (ha la hb lb za zb z : Int) (ia : IsD n ha la za) (ib : IsD m hb lb zb) (hz : zb ≠ 0) (he : z = za.tmod zb) (w : World) :
    Calls Try.prog 47 #[.agg #[.bool n, .int .u64 ha, .int .u64 la], .agg #[.bool m, .int .u64 hb, .int .u64 lb]] w fun e w' => e = .returned (.tuple #[.agg #[.bool (zn (z)), .int .u64 (zh (z)), .int .u64 (zl (z))], .nilIface]) ∧ Below w.heap.size w w' := by
  subst he
  have hl : (((za.tmod zb).natAbs : Nat) : Int) < LIM := by
    have := ib.2.2.2.2
    rw [Int.natAbs_tmod]
    have := Nat.mod_lt za.natAbs (show 0 < zb.natAbs by omega)
    omega
  exact mod_any n m _ ha la hb lb za zb _ _ _ ia ib hz (Lib.hid fun a b W wa wb hN => result_ok _ a b 0 0 _ wa wb Wd.zero Wd.zero (by rw [lim4_small]; exact hN) (tmod_sign ia.2.2.2.1) hl W) w
set_option maxRecDepth 100000 in
set_option maxHeartbeats 400000 in
theorem mod_bad (n m : Bool) (ha la hb lb : Int) (hg : goodB n ha la = false ∨ goodB m hb lb = false) (w : World) :
    Calls Try.prog 47 #[.agg #[.bool n, .int .u64 ha, .int .u64 la], .agg #[.bool m, .int .u64 hb, .int .u64 lb]] w fun e w' => e = .returned (.tuple #[.agg #[.bool false, .int .u64 0, .int .u64 0], .iface 83 (.int .i64 1)]) ∧ Below w.heap.size w w' := by
  cases ga : goodB n ha la
  · clear hg
    go_enter Try.func47, Try.ntmps47
    go_wp2_with ((go_at_call 31; refine (good_any _ _ _ _).mono ?_; rintro e w1 ⟨rfl, rfl⟩))
    go_returns
    exact ⟨rfl, by (repeat' (first | (with_reducible exact Below.refl _ _) | (refine Below.trans ?_ (Below.mono (by with_reducible assumption) ?_)) | (with_reducible exact Below.refl _ _) | (with_reducible refine below_drewN ?_ _) | (with_reducible refine Below.drew ?_) | (with_reducible refine Below.setCell ?_ ?_ _) | (with_reducible refine Below.alloc ?_ ?_ _) | (with_reducible assumption) | (simp; done) | (simp; omega) | omega))⟩
  · have gb : goodB m hb lb = false := by rcases hg with h | h; rw [ga] at h; cases h; exact h
    clear hg
    go_enter Try.func47, Try.ntmps47
    go_wp2_with ((go_at_call 31; refine (good_any _ _ _ _).mono ?_; rintro e w1 ⟨rfl, rfl⟩))
    go_returns
    exact ⟨rfl, by (repeat' (first | (with_reducible exact Below.refl _ _) | (refine Below.trans ?_ (Below.mono (by with_reducible assumption) ?_)) | (with_reducible exact Below.refl _ _) | (with_reducible refine below_drewN ?_ _) | (with_reducible refine Below.drew ?_) | (with_reducible refine Below.setCell ?_ ?_ _) | (with_reducible refine Below.alloc ?_ ?_ _) | (with_reducible assumption) | (simp; done) | (simp; omega) | omega))⟩
set_option maxRecDepth 100000 in
set_option maxHeartbeats 400000 in
theorem mod_zero (n : Bool) (ha la : Int) (ga : goodB n ha la = true) (w : World) :
    Calls Try.prog 47 #[.agg #[.bool n, .int .u64 ha, .int .u64 la], .agg #[.bool false, .int .u64 0, .int .u64 0]] w fun e w' => e = .returned (.tuple #[.agg #[.bool false, .int .u64 0, .int .u64 0], .iface 83 (.int .i64 3)]) ∧ Below w.heap.size w w' := by
  have gb : goodB false 0 0 = true := by decide
  go_enter Try.func47, Try.ntmps47
  go_wp2_with ((go_at_call 31; refine (good_any _ _ _ _).mono ?_; rintro e w1 ⟨rfl, rfl⟩))
  go_returns
  exact ⟨rfl, by (repeat' (first | (with_reducible exact Below.refl _ _) | (refine Below.trans ?_ (Below.mono (by with_reducible assumption) ?_)) | (with_reducible exact Below.refl _ _) | (with_reducible refine below_drewN ?_ _) | (with_reducible refine Below.drew ?_) | (with_reducible refine Below.setCell ?_ ?_ _) | (with_reducible refine Below.alloc ?_ ?_ _) | (with_reducible assumption) | (simp; done) | (simp; omega) | omega))⟩
end Go.Proofs.Ytkhhjibpppmekaa
