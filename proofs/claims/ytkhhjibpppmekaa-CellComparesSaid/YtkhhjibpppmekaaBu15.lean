/- Several texts put together: DecJ, DecG, DecD, LawP. -/
import Derived.Test.YtkhhjibpppmekaaBu14
import Derived.Test.YtkhhjibpppmekaaBu10
import Derived.Test.YtkhhjibpppmekaaBu11
/- dec.Pow: where it answers with an error at once. -/
namespace Go.Proofs.Ytkhhjibpppmekaa
open Go.RowKit
set_option maxRecDepth 100000 in
set_option maxHeartbeats 400000 in
theorem pow_bad (n m : Bool) (ha la hb lb : Int) (hg : goodB n ha la = false ∨ goodB m hb lb = false) (w : World) :
    Calls Try.prog 14 #[.agg #[.bool n, .int .u64 ha, .int .u64 la], .agg #[.bool m, .int .u64 hb, .int .u64 lb]] w fun e w' => e = .returned (.tuple #[.agg #[.bool false, .int .u64 0, .int .u64 0], .iface 83 (.int .i64 1)]) ∧ Below w.heap.size w w' := by
  cases ga : goodB n ha la
  · clear hg
    go_enter Try.func14, Try.ntmps14
    go_upto_region 1 with fail
    go_region_with ((go_at_call 31; refine (good_any _ _ _ _).mono ?_; rintro e w1 ⟨rfl, rfl⟩))
    all_goals (go_wp2; (try simp only [Exit.inBlock, Exit.then]); refine bodyPost_ret (by simp [results, Try.results14, go_sem, *]; try rfl) rfl ?_; exact ⟨rfl, by (repeat' (first | (with_reducible exact Below.refl _ _) | (refine Below.trans ?_ (Below.mono (by with_reducible assumption) ?_)) | (with_reducible exact Below.refl _ _) | (with_reducible refine below_drewN ?_ _) | (with_reducible refine Below.drew ?_) | (with_reducible refine Below.setCell ?_ ?_ _) | (with_reducible refine Below.alloc ?_ ?_ _) | (with_reducible assumption) | (simp; done) | (simp; omega) | omega))⟩)
  · have gb : goodB m hb lb = false := by rcases hg with h | h; rw [ga] at h; cases h; exact h
    clear hg
    go_enter Try.func14, Try.ntmps14
    go_upto_region 1 with fail
    go_region_with ((go_at_call 31; refine (good_any _ _ _ _).mono ?_; rintro e w1 ⟨rfl, rfl⟩))
    all_goals (go_wp2; (try simp only [Exit.inBlock, Exit.then]); refine bodyPost_ret (by simp [results, Try.results14, go_sem, *]; try rfl) rfl ?_; exact ⟨rfl, by (repeat' (first | (with_reducible exact Below.refl _ _) | (refine Below.trans ?_ (Below.mono (by with_reducible assumption) ?_)) | (with_reducible exact Below.refl _ _) | (with_reducible refine below_drewN ?_ _) | (with_reducible refine Below.drew ?_) | (with_reducible refine Below.setCell ?_ ?_ _) | (with_reducible refine Below.alloc ?_ ?_ _) | (with_reducible assumption) | (simp; done) | (simp; omega) | omega))⟩)
theorem trunc_ne {n : Bool} {h l z : Int} (i : IsD n h l z) (hne : truncZ z ≠ z) : (zh (truncZ z) == h) = false ∨ (zl (truncZ z) == l) = false := by
  obtain ⟨e1, e2, e3⟩ := i.eq
  rcases Decidable.em (zh (truncZ z) = h) with h1 | h1
  · right
    rw [beq_eq_false_iff_ne]
    intro h2
    apply hne
    have ha := truncZ_abs z
    have hs : (truncZ z).natAbs = z.natAbs := by
      rw [e2] at h1; rw [e3] at h2
      unfold zh at h1; unfold zl at h2
      omega
    have hm : z.natAbs % 1000000 = 0 := by omega
    unfold truncZ
    have hd : (1000000 : Int) ∣ z := by
      have : (1000000 : Nat) ∣ z.natAbs := Nat.dvd_of_mod_eq_zero hm
      omega
    exact Int.tdiv_mul_cancel hd
  · left; rw [beq_eq_false_iff_ne]; exact h1
set_option maxRecDepth 100000 in
set_option maxHeartbeats 400000 in
theorem pow_part (n m : Bool) (ha la hb lb zb : Int) (ga : goodB n ha la = true) (ib : IsD m hb lb zb) (hw : truncZ zb ≠ zb) (w : World) :
    Calls Try.prog 14 #[.agg #[.bool n, .int .u64 ha, .int .u64 la], .agg #[.bool m, .int .u64 hb, .int .u64 lb]] w fun e w' => e = .returned (.tuple #[.agg #[.bool false, .int .u64 0, .int .u64 0], .iface 83 (.int .i64 1)]) ∧ Below w.heap.size w w' := by
  have gb := good_of ib
  have hne := trunc_ne ib hw
  have T := Lib.hid (fun W => trunc_ok m hb lb zb ib W)
  obtain ⟨t0, h0⟩ : ∃ t, t = zn (truncZ zb) := ⟨_, rfl⟩
  obtain ⟨t1, h1⟩ : ∃ t, t = zh (truncZ zb) := ⟨_, rfl⟩
  obtain ⟨t2, h2⟩ : ∃ t, t = zl (truncZ zb) := ⟨_, rfl⟩
  rw [← h0, ← h1, ← h2] at T
  rw [← h1, ← h2] at hne
  clear h0 h1 h2 ib hw
  rcases hne with h3 | h3
  all_goals
    go_enter Try.func14, Try.ntmps14
    go_upto_region 1 with fail
    go_region_held3 (fun w' => w'.cell? ⟨w.heap.size, 0, none⟩ = some (.bool n) ∧ w'.cell? ⟨w.heap.size, 1, none⟩ = some (.int .u64 ha) ∧ w'.cell? ⟨w.heap.size, 2, none⟩ = some (.int .u64 la) ∧ w'.cell? ⟨w.heap.size + 1, 0, none⟩ = some (.bool m) ∧ w'.cell? ⟨w.heap.size + 1, 1, none⟩ = some (.int .u64 hb) ∧ w'.cell? ⟨w.heap.size + 1, 2, none⟩ = some (.int .u64 lb)) ((refine ⟨?_, ?_, ?_, ?_, ?_, ?_⟩ <;> (first | assumption | (go_simp; done) | (simp (maxDischargeDepth := 12) [go_sem]; done) | (simp (maxDischargeDepth := 12) [go_sem, *]; done) | exact (Below.cell (by with_reducible assumption) (by first | (simp; done) | (simp; omega) | omega)).trans (by simp (maxDischargeDepth := 12) [go_sem]))))
        (first | (go_at_call 31; refine (good_any _ _ _ _).mono ?_; rintro e w1 ⟨rfl, rfl⟩) | (go_at_call 49; refine (T.out _).mono ?_; rintro e w1 ⟨rfl, q1⟩; have hs_q1 := Below.size q1; (try simp at hs_q1); have kq1_wheapsize_0 : w1.cell? ⟨w.heap.size, 0, none⟩ = some (.bool n) := (Below.cell q1 (by first | (simp; done) | (simp; omega) | omega)).trans (by first | (simp (maxDischargeDepth := 12) [go_sem]; done) | simp (maxDischargeDepth := 12) [go_sem, *]); have gq1_wheapsize_0 : w1.frozen? ⟨w.heap.size, 0, none⟩ = false := (Below.frozen q1 (by first | (simp; done) | (simp; omega) | omega)).trans (by first | (simp (maxDischargeDepth := 12) [go_sem]; done) | simp (maxDischargeDepth := 12) [go_sem, *]); have kq1_wheapsize_1 : w1.cell? ⟨w.heap.size, 1, none⟩ = some (.int .u64 ha) := (Below.cell q1 (by first | (simp; done) | (simp; omega) | omega)).trans (by first | (simp (maxDischargeDepth := 12) [go_sem]; done) | simp (maxDischargeDepth := 12) [go_sem, *]); have gq1_wheapsize_1 : w1.frozen? ⟨w.heap.size, 1, none⟩ = false := (Below.frozen q1 (by first | (simp; done) | (simp; omega) | omega)).trans (by first | (simp (maxDischargeDepth := 12) [go_sem]; done) | simp (maxDischargeDepth := 12) [go_sem, *]); have kq1_wheapsize_2 : w1.cell? ⟨w.heap.size, 2, none⟩ = some (.int .u64 la) := (Below.cell q1 (by first | (simp; done) | (simp; omega) | omega)).trans (by first | (simp (maxDischargeDepth := 12) [go_sem]; done) | simp (maxDischargeDepth := 12) [go_sem, *]); have gq1_wheapsize_2 : w1.frozen? ⟨w.heap.size, 2, none⟩ = false := (Below.frozen q1 (by first | (simp; done) | (simp; omega) | omega)).trans (by first | (simp (maxDischargeDepth := 12) [go_sem]; done) | simp (maxDischargeDepth := 12) [go_sem, *]); have lq1_wheapsize : w.heap.size < w1.heap.size := (by first | omega | (have := Below.size q1; simp at this; omega)); have lq1_wheapsize' : w.heap.size < w1.heap.size + 1 := Nat.lt_succ_of_lt lq1_wheapsize; have lq1_wheapsize'' : w.heap.size < w1.heap.size + 1 + 1 := Nat.lt_succ_of_lt lq1_wheapsize'; have kq1_wheapsize1_0 : w1.cell? ⟨w.heap.size + 1, 0, none⟩ = some (.bool m) := (Below.cell q1 (by first | (simp; done) | (simp; omega) | omega)).trans (by first | (simp (maxDischargeDepth := 12) [go_sem]; done) | simp (maxDischargeDepth := 12) [go_sem, *]); have gq1_wheapsize1_0 : w1.frozen? ⟨w.heap.size + 1, 0, none⟩ = false := (Below.frozen q1 (by first | (simp; done) | (simp; omega) | omega)).trans (by first | (simp (maxDischargeDepth := 12) [go_sem]; done) | simp (maxDischargeDepth := 12) [go_sem, *]); have kq1_wheapsize1_1 : w1.cell? ⟨w.heap.size + 1, 1, none⟩ = some (.int .u64 hb) := (Below.cell q1 (by first | (simp; done) | (simp; omega) | omega)).trans (by first | (simp (maxDischargeDepth := 12) [go_sem]; done) | simp (maxDischargeDepth := 12) [go_sem, *]); have gq1_wheapsize1_1 : w1.frozen? ⟨w.heap.size + 1, 1, none⟩ = false := (Below.frozen q1 (by first | (simp; done) | (simp; omega) | omega)).trans (by first | (simp (maxDischargeDepth := 12) [go_sem]; done) | simp (maxDischargeDepth := 12) [go_sem, *]); have kq1_wheapsize1_2 : w1.cell? ⟨w.heap.size + 1, 2, none⟩ = some (.int .u64 lb) := (Below.cell q1 (by first | (simp; done) | (simp; omega) | omega)).trans (by first | (simp (maxDischargeDepth := 12) [go_sem]; done) | simp (maxDischargeDepth := 12) [go_sem, *]); have gq1_wheapsize1_2 : w1.frozen? ⟨w.heap.size + 1, 2, none⟩ = false := (Below.frozen q1 (by first | (simp; done) | (simp; omega) | omega)).trans (by first | (simp (maxDischargeDepth := 12) [go_sem]; done) | simp (maxDischargeDepth := 12) [go_sem, *]); have lq1_wheapsize1 : w.heap.size + 1 < w1.heap.size := (by first | omega | (have := Below.size q1; simp at this; omega)); have lq1_wheapsize1' : w.heap.size + 1 < w1.heap.size + 1 := Nat.lt_succ_of_lt lq1_wheapsize1; have lq1_wheapsize1'' : w.heap.size + 1 < w1.heap.size + 1 + 1 := Nat.lt_succ_of_lt lq1_wheapsize1'; have kq1_wheapsize11_0 : w1.cell? ⟨w.heap.size + 1 + 1, 0, none⟩ = some (.bool false) := (Below.cell q1 (by first | (simp; done) | (simp; omega) | omega)).trans (by first | (simp (maxDischargeDepth := 12) [go_sem]; done) | simp (maxDischargeDepth := 12) [go_sem, *]); have gq1_wheapsize11_0 : w1.frozen? ⟨w.heap.size + 1 + 1, 0, none⟩ = false := (Below.frozen q1 (by first | (simp; done) | (simp; omega) | omega)).trans (by first | (simp (maxDischargeDepth := 12) [go_sem]; done) | simp (maxDischargeDepth := 12) [go_sem, *]); have kq1_wheapsize11_1 : w1.cell? ⟨w.heap.size + 1 + 1, 1, none⟩ = some (.int .u64 0) := (Below.cell q1 (by first | (simp; done) | (simp; omega) | omega)).trans (by first | (simp (maxDischargeDepth := 12) [go_sem]; done) | simp (maxDischargeDepth := 12) [go_sem, *]); have gq1_wheapsize11_1 : w1.frozen? ⟨w.heap.size + 1 + 1, 1, none⟩ = false := (Below.frozen q1 (by first | (simp; done) | (simp; omega) | omega)).trans (by first | (simp (maxDischargeDepth := 12) [go_sem]; done) | simp (maxDischargeDepth := 12) [go_sem, *]); have kq1_wheapsize11_2 : w1.cell? ⟨w.heap.size + 1 + 1, 2, none⟩ = some (.int .u64 0) := (Below.cell q1 (by first | (simp; done) | (simp; omega) | omega)).trans (by first | (simp (maxDischargeDepth := 12) [go_sem]; done) | simp (maxDischargeDepth := 12) [go_sem, *]); have gq1_wheapsize11_2 : w1.frozen? ⟨w.heap.size + 1 + 1, 2, none⟩ = false := (Below.frozen q1 (by first | (simp; done) | (simp; omega) | omega)).trans (by first | (simp (maxDischargeDepth := 12) [go_sem]; done) | simp (maxDischargeDepth := 12) [go_sem, *]); have lq1_wheapsize11 : w.heap.size + 1 + 1 < w1.heap.size := (by first | omega | (have := Below.size q1; simp at this; omega)); have lq1_wheapsize11' : w.heap.size + 1 + 1 < w1.heap.size + 1 := Nat.lt_succ_of_lt lq1_wheapsize11; have lq1_wheapsize11'' : w.heap.size + 1 + 1 < w1.heap.size + 1 + 1 := Nat.lt_succ_of_lt lq1_wheapsize11'))
    go_wp2_with fail
    (try simp only [Exit.inBlock, Exit.then]); refine bodyPost_ret (by simp [results, Try.results14, go_sem, *]; try rfl) rfl ?_
    exact ⟨rfl, by (repeat' (first | (with_reducible exact Below.refl _ _) | (refine Below.trans ?_ (Below.mono (by with_reducible assumption) ?_)) | (with_reducible exact Below.refl _ _) | (with_reducible refine below_drewN ?_ _) | (with_reducible refine Below.drew ?_) | (with_reducible refine Below.setCell ?_ ?_ _) | (with_reducible refine Below.alloc ?_ ?_ _) | (with_reducible assumption) | (simp; done) | (simp; omega) | omega))⟩
set_option maxRecDepth 100000 in
set_option maxHeartbeats 400000 in
theorem pow_zero (hb lb zb : Int) (ib : IsD true hb lb zb) (hw : truncZ zb = zb) (w : World) :
    Calls Try.prog 14 #[.agg #[.bool false, .int .u64 0, .int .u64 0], .agg #[.bool true, .int .u64 hb, .int .u64 lb]] w fun e w' => e = .returned (.tuple #[.agg #[.bool false, .int .u64 0, .int .u64 0], .iface 83 (.int .i64 3)]) ∧ Below w.heap.size w w' := by
  have gb := good_of ib
  have ga : goodB false 0 0 = true := by decide
  obtain ⟨e1, e2, e3⟩ := ib.eq
  have T := Lib.hid (fun W => trunc_ok true hb lb zb ib W)
  rw [hw, ← e1, ← e2, ← e3] at T
  clear e1 e2 e3 ib hw
  go_enter Try.func14, Try.ntmps14
  go_upto_region 1 with fail
  go_region_held3 (fun w' => w'.cell? ⟨w.heap.size, 0, none⟩ = some (.bool false) ∧ w'.cell? ⟨w.heap.size, 1, none⟩ = some (.int .u64 0) ∧ w'.cell? ⟨w.heap.size, 2, none⟩ = some (.int .u64 0) ∧ w'.cell? ⟨w.heap.size + 1, 0, none⟩ = some (.bool true) ∧ w'.cell? ⟨w.heap.size + 1, 1, none⟩ = some (.int .u64 hb) ∧ w'.cell? ⟨w.heap.size + 1, 2, none⟩ = some (.int .u64 lb)) ((refine ⟨?_, ?_, ?_, ?_, ?_, ?_⟩ <;> (first | assumption | (go_simp; done) | (simp (maxDischargeDepth := 12) [go_sem]; done) | (simp (maxDischargeDepth := 12) [go_sem, *]; done) | exact (Below.cell (by with_reducible assumption) (by first | (simp; done) | (simp; omega) | omega)).trans (by simp (maxDischargeDepth := 12) [go_sem]))))
      (first | (go_at_call 31; refine (good_any _ _ _ _).mono ?_; rintro e w1 ⟨rfl, rfl⟩) | (go_at_call 49; refine (T.out _).mono ?_; rintro e w1 ⟨rfl, q1⟩; have hs_q1 := Below.size q1; (try simp at hs_q1); have kq1_wheapsize_0 : w1.cell? ⟨w.heap.size, 0, none⟩ = some (.bool false) := (Below.cell q1 (by first | (simp; done) | (simp; omega) | omega)).trans (by first | (simp (maxDischargeDepth := 12) [go_sem]; done) | simp (maxDischargeDepth := 12) [go_sem, *]); have gq1_wheapsize_0 : w1.frozen? ⟨w.heap.size, 0, none⟩ = false := (Below.frozen q1 (by first | (simp; done) | (simp; omega) | omega)).trans (by first | (simp (maxDischargeDepth := 12) [go_sem]; done) | simp (maxDischargeDepth := 12) [go_sem, *]); have kq1_wheapsize_1 : w1.cell? ⟨w.heap.size, 1, none⟩ = some (.int .u64 0) := (Below.cell q1 (by first | (simp; done) | (simp; omega) | omega)).trans (by first | (simp (maxDischargeDepth := 12) [go_sem]; done) | simp (maxDischargeDepth := 12) [go_sem, *]); have gq1_wheapsize_1 : w1.frozen? ⟨w.heap.size, 1, none⟩ = false := (Below.frozen q1 (by first | (simp; done) | (simp; omega) | omega)).trans (by first | (simp (maxDischargeDepth := 12) [go_sem]; done) | simp (maxDischargeDepth := 12) [go_sem, *]); have kq1_wheapsize_2 : w1.cell? ⟨w.heap.size, 2, none⟩ = some (.int .u64 0) := (Below.cell q1 (by first | (simp; done) | (simp; omega) | omega)).trans (by first | (simp (maxDischargeDepth := 12) [go_sem]; done) | simp (maxDischargeDepth := 12) [go_sem, *]); have gq1_wheapsize_2 : w1.frozen? ⟨w.heap.size, 2, none⟩ = false := (Below.frozen q1 (by first | (simp; done) | (simp; omega) | omega)).trans (by first | (simp (maxDischargeDepth := 12) [go_sem]; done) | simp (maxDischargeDepth := 12) [go_sem, *]); have lq1_wheapsize : w.heap.size < w1.heap.size := (by first | omega | (have := Below.size q1; simp at this; omega)); have lq1_wheapsize' : w.heap.size < w1.heap.size + 1 := Nat.lt_succ_of_lt lq1_wheapsize; have lq1_wheapsize'' : w.heap.size < w1.heap.size + 1 + 1 := Nat.lt_succ_of_lt lq1_wheapsize'; have kq1_wheapsize1_0 : w1.cell? ⟨w.heap.size + 1, 0, none⟩ = some (.bool true) := (Below.cell q1 (by first | (simp; done) | (simp; omega) | omega)).trans (by first | (simp (maxDischargeDepth := 12) [go_sem]; done) | simp (maxDischargeDepth := 12) [go_sem, *]); have gq1_wheapsize1_0 : w1.frozen? ⟨w.heap.size + 1, 0, none⟩ = false := (Below.frozen q1 (by first | (simp; done) | (simp; omega) | omega)).trans (by first | (simp (maxDischargeDepth := 12) [go_sem]; done) | simp (maxDischargeDepth := 12) [go_sem, *]); have kq1_wheapsize1_1 : w1.cell? ⟨w.heap.size + 1, 1, none⟩ = some (.int .u64 hb) := (Below.cell q1 (by first | (simp; done) | (simp; omega) | omega)).trans (by first | (simp (maxDischargeDepth := 12) [go_sem]; done) | simp (maxDischargeDepth := 12) [go_sem, *]); have gq1_wheapsize1_1 : w1.frozen? ⟨w.heap.size + 1, 1, none⟩ = false := (Below.frozen q1 (by first | (simp; done) | (simp; omega) | omega)).trans (by first | (simp (maxDischargeDepth := 12) [go_sem]; done) | simp (maxDischargeDepth := 12) [go_sem, *]); have kq1_wheapsize1_2 : w1.cell? ⟨w.heap.size + 1, 2, none⟩ = some (.int .u64 lb) := (Below.cell q1 (by first | (simp; done) | (simp; omega) | omega)).trans (by first | (simp (maxDischargeDepth := 12) [go_sem]; done) | simp (maxDischargeDepth := 12) [go_sem, *]); have gq1_wheapsize1_2 : w1.frozen? ⟨w.heap.size + 1, 2, none⟩ = false := (Below.frozen q1 (by first | (simp; done) | (simp; omega) | omega)).trans (by first | (simp (maxDischargeDepth := 12) [go_sem]; done) | simp (maxDischargeDepth := 12) [go_sem, *]); have lq1_wheapsize1 : w.heap.size + 1 < w1.heap.size := (by first | omega | (have := Below.size q1; simp at this; omega)); have lq1_wheapsize1' : w.heap.size + 1 < w1.heap.size + 1 := Nat.lt_succ_of_lt lq1_wheapsize1; have lq1_wheapsize1'' : w.heap.size + 1 < w1.heap.size + 1 + 1 := Nat.lt_succ_of_lt lq1_wheapsize1'; have kq1_wheapsize11_0 : w1.cell? ⟨w.heap.size + 1 + 1, 0, none⟩ = some (.bool false) := (Below.cell q1 (by first | (simp; done) | (simp; omega) | omega)).trans (by first | (simp (maxDischargeDepth := 12) [go_sem]; done) | simp (maxDischargeDepth := 12) [go_sem, *]); have gq1_wheapsize11_0 : w1.frozen? ⟨w.heap.size + 1 + 1, 0, none⟩ = false := (Below.frozen q1 (by first | (simp; done) | (simp; omega) | omega)).trans (by first | (simp (maxDischargeDepth := 12) [go_sem]; done) | simp (maxDischargeDepth := 12) [go_sem, *]); have kq1_wheapsize11_1 : w1.cell? ⟨w.heap.size + 1 + 1, 1, none⟩ = some (.int .u64 0) := (Below.cell q1 (by first | (simp; done) | (simp; omega) | omega)).trans (by first | (simp (maxDischargeDepth := 12) [go_sem]; done) | simp (maxDischargeDepth := 12) [go_sem, *]); have gq1_wheapsize11_1 : w1.frozen? ⟨w.heap.size + 1 + 1, 1, none⟩ = false := (Below.frozen q1 (by first | (simp; done) | (simp; omega) | omega)).trans (by first | (simp (maxDischargeDepth := 12) [go_sem]; done) | simp (maxDischargeDepth := 12) [go_sem, *]); have kq1_wheapsize11_2 : w1.cell? ⟨w.heap.size + 1 + 1, 2, none⟩ = some (.int .u64 0) := (Below.cell q1 (by first | (simp; done) | (simp; omega) | omega)).trans (by first | (simp (maxDischargeDepth := 12) [go_sem]; done) | simp (maxDischargeDepth := 12) [go_sem, *]); have gq1_wheapsize11_2 : w1.frozen? ⟨w.heap.size + 1 + 1, 2, none⟩ = false := (Below.frozen q1 (by first | (simp; done) | (simp; omega) | omega)).trans (by first | (simp (maxDischargeDepth := 12) [go_sem]; done) | simp (maxDischargeDepth := 12) [go_sem, *]); have lq1_wheapsize11 : w.heap.size + 1 + 1 < w1.heap.size := (by first | omega | (have := Below.size q1; simp at this; omega)); have lq1_wheapsize11' : w.heap.size + 1 + 1 < w1.heap.size + 1 := Nat.lt_succ_of_lt lq1_wheapsize11; have lq1_wheapsize11'' : w.heap.size + 1 + 1 < w1.heap.size + 1 + 1 := Nat.lt_succ_of_lt lq1_wheapsize11'))
  go_wp2_with fail
  (try simp only [Exit.inBlock, Exit.then]); refine bodyPost_ret (by simp [results, Try.results14, go_sem, *]; try rfl) rfl ?_
  exact ⟨rfl, by (repeat' (first | (with_reducible exact Below.refl _ _) | (refine Below.trans ?_ (Below.mono (by with_reducible assumption) ?_)) | (with_reducible exact Below.refl _ _) | (with_reducible refine below_drewN ?_ _) | (with_reducible refine Below.drew ?_) | (with_reducible refine Below.setCell ?_ ?_ _) | (with_reducible refine Below.alloc ?_ ?_ _) | (with_reducible assumption) | (simp; done) | (simp; omega) | omega))⟩
end Go.Proofs.Ytkhhjibpppmekaa

/- dec.Mod. -/
namespace Go.Proofs.Ytkhhjibpppmekaa
open Go.RowKit
set_option maxRecDepth 100000 in
set_option maxHeartbeats 800000 in
theorem mod_any (n m rn : Bool) (ha la hb lb za zb rh rl : Int) (er : Value) (ia : IsD n ha la za) (ib : IsD m hb lb zb) (hz : zb ≠ 0)
    (HR : Hid (∀ (a b : Int) W, Wd a → Wd b → b * 18446744073709551616 + a = ((za.tmod zb).natAbs : Int) → Calls Try.prog 76 #[.bool n, .agg #[.int .u64 a, .int .u64 b, .int .u64 0, .int .u64 0]] W
      fun e w' => e = .returned (.tuple #[.agg #[.bool rn, .int .u64 rh, .int .u64 rl], er]) ∧ Below W.heap.size W w')) (w : World) :
    Calls Try.prog 47 #[.agg #[.bool n, .int .u64 ha, .int .u64 la], .agg #[.bool m, .int .u64 hb, .int .u64 lb]] w fun e w' => e = .returned (.tuple #[.agg #[.bool rn, .int .u64 rh, .int .u64 rl], er]) ∧ Below w.heap.size w w' := by
  have ga := good_of ia
  have gb := good_of ib
  obtain ⟨wa, xa⟩ := ia.words
  obtain ⟨wb, xb⟩ := ib.words
  have hN : lim4 la ha 0 0 % (hb * 18446744073709551616 + lb) = ((za.tmod zb).natAbs : Int) := by
    rw [lim4_small, ia.2.2.1, ib.2.2.1, Int.natAbs_tmod]; simp
  have HNN := Lib.hid hN; clear hN
  have hy0 : 0 < hb * 18446744073709551616 + lb := by rw [ib.2.2.1]; omega
  have hy1 : hb * 18446744073709551616 + lb < LIM := by rw [ib.2.2.1]; exact ib.2.2.2.2
  have D := Lib.hid (fun W => divide_any m la ha 0 0 hb lb xa wa Wd.zero Wd.zero wb.1 xb hy0 hy1 W)
  have hne : hb ≠ 0 ∨ lb ≠ 0 := by omega
  clear wa xa wb xb ia ib hy0 hy1 hz
  rcases hne with h1 | h1
  all_goals
    have h2 := beq_eq_false_iff_ne.2 h1
    clear h1
    go_enter Try.func47, Try.ntmps47
    go_upto_region 6 with (first | (go_at_call 31; refine (good_any _ _ _ _).mono ?_; rintro e w1 ⟨rfl, rfl⟩) | (go_at_call 74; refine (D.out _).mono ?_; rintro e w2 ⟨s0, s1, s2, s3, r1, r0, rfl, t0, t1, t2, t3, t4, t5, hs, hr, q2⟩; have HS := Lib.hid (hr.trans HNN.out); clear hs hr; have hs_q2 := Below.size q2; (try simp at hs_q2); have kq2_wheapsize_0 : w2.cell? ⟨w.heap.size, 0, none⟩ = some (.bool n) := (Below.cell q2 (by first | (simp; done) | (simp; omega) | omega)).trans (by first | (simp (maxDischargeDepth := 12) [go_sem]; done) | simp (maxDischargeDepth := 12) [go_sem, *]); have gq2_wheapsize_0 : w2.frozen? ⟨w.heap.size, 0, none⟩ = false := (Below.frozen q2 (by first | (simp; done) | (simp; omega) | omega)).trans (by first | (simp (maxDischargeDepth := 12) [go_sem]; done) | simp (maxDischargeDepth := 12) [go_sem, *]); have lq2_wheapsize : w.heap.size < w2.heap.size := (by first | omega | (have := Below.size q2; simp at this; omega)); have lq2_wheapsize' : w.heap.size < w2.heap.size + 1 := Nat.lt_succ_of_lt lq2_wheapsize; have lq2_wheapsize'' : w.heap.size < w2.heap.size + 1 + 1 := Nat.lt_succ_of_lt lq2_wheapsize'; have kq2_wheapsize11_0 : w2.cell? ⟨w.heap.size + 1 + 1, 0, none⟩ = some (.bool false) := (Below.cell q2 (by first | (simp; done) | (simp; omega) | omega)).trans (by first | (simp (maxDischargeDepth := 12) [go_sem]; done) | simp (maxDischargeDepth := 12) [go_sem, *]); have gq2_wheapsize11_0 : w2.frozen? ⟨w.heap.size + 1 + 1, 0, none⟩ = false := (Below.frozen q2 (by first | (simp; done) | (simp; omega) | omega)).trans (by first | (simp (maxDischargeDepth := 12) [go_sem]; done) | simp (maxDischargeDepth := 12) [go_sem, *]); have kq2_wheapsize11_1 : w2.cell? ⟨w.heap.size + 1 + 1, 1, none⟩ = some (.int .u64 0) := (Below.cell q2 (by first | (simp; done) | (simp; omega) | omega)).trans (by first | (simp (maxDischargeDepth := 12) [go_sem]; done) | simp (maxDischargeDepth := 12) [go_sem, *]); have gq2_wheapsize11_1 : w2.frozen? ⟨w.heap.size + 1 + 1, 1, none⟩ = false := (Below.frozen q2 (by first | (simp; done) | (simp; omega) | omega)).trans (by first | (simp (maxDischargeDepth := 12) [go_sem]; done) | simp (maxDischargeDepth := 12) [go_sem, *]); have kq2_wheapsize11_2 : w2.cell? ⟨w.heap.size + 1 + 1, 2, none⟩ = some (.int .u64 0) := (Below.cell q2 (by first | (simp; done) | (simp; omega) | omega)).trans (by first | (simp (maxDischargeDepth := 12) [go_sem]; done) | simp (maxDischargeDepth := 12) [go_sem, *]); have gq2_wheapsize11_2 : w2.frozen? ⟨w.heap.size + 1 + 1, 2, none⟩ = false := (Below.frozen q2 (by first | (simp; done) | (simp; omega) | omega)).trans (by first | (simp (maxDischargeDepth := 12) [go_sem]; done) | simp (maxDischargeDepth := 12) [go_sem, *]); have lq2_wheapsize11 : w.heap.size + 1 + 1 < w2.heap.size := (by first | omega | (have := Below.size q2; simp at this; omega)); have lq2_wheapsize11' : w.heap.size + 1 + 1 < w2.heap.size + 1 := Nat.lt_succ_of_lt lq2_wheapsize11; have lq2_wheapsize11'' : w.heap.size + 1 + 1 < w2.heap.size + 1 + 1 := Nat.lt_succ_of_lt lq2_wheapsize11'))
    go_wp2_with (go_at_call 76; refine (HR.out _ _ _ (by assumption) (by assumption) HS.out).mono ?_; rintro e w3 ⟨rfl, q3⟩; have hs_q3 := Below.size q3; (try simp at hs_q3); have kq3_wheapsize11_0 : w3.cell? ⟨w.heap.size + 1 + 1, 0, none⟩ = some (.bool false) := (Below.cell q3 (by first | (simp; done) | (simp; omega) | omega)).trans (by first | (simp (maxDischargeDepth := 12) [go_sem]; done) | simp (maxDischargeDepth := 12) [go_sem, *]); have gq3_wheapsize11_0 : w3.frozen? ⟨w.heap.size + 1 + 1, 0, none⟩ = false := (Below.frozen q3 (by first | (simp; done) | (simp; omega) | omega)).trans (by first | (simp (maxDischargeDepth := 12) [go_sem]; done) | simp (maxDischargeDepth := 12) [go_sem, *]); have kq3_wheapsize11_1 : w3.cell? ⟨w.heap.size + 1 + 1, 1, none⟩ = some (.int .u64 0) := (Below.cell q3 (by first | (simp; done) | (simp; omega) | omega)).trans (by first | (simp (maxDischargeDepth := 12) [go_sem]; done) | simp (maxDischargeDepth := 12) [go_sem, *]); have gq3_wheapsize11_1 : w3.frozen? ⟨w.heap.size + 1 + 1, 1, none⟩ = false := (Below.frozen q3 (by first | (simp; done) | (simp; omega) | omega)).trans (by first | (simp (maxDischargeDepth := 12) [go_sem]; done) | simp (maxDischargeDepth := 12) [go_sem, *]); have kq3_wheapsize11_2 : w3.cell? ⟨w.heap.size + 1 + 1, 2, none⟩ = some (.int .u64 0) := (Below.cell q3 (by first | (simp; done) | (simp; omega) | omega)).trans (by first | (simp (maxDischargeDepth := 12) [go_sem]; done) | simp (maxDischargeDepth := 12) [go_sem, *]); have gq3_wheapsize11_2 : w3.frozen? ⟨w.heap.size + 1 + 1, 2, none⟩ = false := (Below.frozen q3 (by first | (simp; done) | (simp; omega) | omega)).trans (by first | (simp (maxDischargeDepth := 12) [go_sem]; done) | simp (maxDischargeDepth := 12) [go_sem, *]); have lq3_wheapsize11 : w.heap.size + 1 + 1 < w3.heap.size := (by first | omega | (have := Below.size q3; simp at this; omega)); have lq3_wheapsize11' : w.heap.size + 1 + 1 < w3.heap.size + 1 := Nat.lt_succ_of_lt lq3_wheapsize11; have lq3_wheapsize11'' : w.heap.size + 1 + 1 < w3.heap.size + 1 + 1 := Nat.lt_succ_of_lt lq3_wheapsize11')
    (try simp only [Exit.inBlock, Exit.then]); refine bodyPost_ret (by simp [results, Try.results47, go_sem, *]; try rfl) rfl ?_
    exact ⟨rfl, by (repeat' (first | (with_reducible exact Below.refl _ _) | (refine Below.trans ?_ (Below.mono (by with_reducible assumption) ?_)) | (with_reducible exact Below.refl _ _) | (with_reducible refine below_drewN ?_ _) | (with_reducible refine Below.drew ?_) | (with_reducible refine Below.setCell ?_ ?_ _) | (with_reducible refine Below.alloc ?_ ?_ _) | (with_reducible assumption) | (simp; done) | (simp; omega) | omega))⟩
theorem tmod_sign {n : Bool} {za zb : Int} (hn : n = decide (za < 0)) : za.tmod zb = 0 ∨ n = decide (za.tmod zb < 0) := by
  by_cases h : za.tmod zb = 0
  · exact .inl h
  · right
    rw [hn, decide_eq_decide]
    by_cases hz : 0 ≤ za
    · have := Int.tmod_nonneg zb hz
      omega
    · have e : za = -(-za) := by omega
      have := Int.tmod_nonneg zb (show 0 ≤ -za by omega)
      rw [e, Int.neg_tmod] at h ⊢
      omega
theorem mod_ok (n m : Bool) (ha la hb lb za zb z : Int) (ia : IsD n ha la za) (ib : IsD m hb lb zb) (hz : zb ≠ 0) (he : z = za.tmod zb) (w : World) :
    Calls Try.prog 47 #[.agg #[.bool n, .int .u64 ha, .int .u64 la], .agg #[.bool m, .int .u64 hb, .int .u64 lb]] w fun e w' => e = .returned (.tuple #[.agg #[.bool (zn (z)), .int .u64 (zh (z)), .int .u64 (zl (z))], .nilIface]) ∧ Below w.heap.size w w' := by
  subst he
  have hl : (((za.tmod zb).natAbs : Nat) : Int) < LIM := by
    have := ib.2.2.2.2
    rw [Int.natAbs_tmod]
    have := Nat.mod_lt za.natAbs (show 0 < zb.natAbs by omega)
    omega
  exact mod_any n m _ ha la hb lb za zb _ _ _ ia ib hz (Lib.hid fun a b W wa wb hN => result_ok _ a b 0 0 _ wa wb Wd.zero Wd.zero (by rw [lim4_small]; exact hN) (tmod_sign ia.2.2.2.1) hl W) w
set_option maxRecDepth 100000 in
set_option maxHeartbeats 400000 in
theorem mod_bad (n m : Bool) (ha la hb lb : Int) (hg : goodB n ha la = false ∨ goodB m hb lb = false) (w : World) :
    Calls Try.prog 47 #[.agg #[.bool n, .int .u64 ha, .int .u64 la], .agg #[.bool m, .int .u64 hb, .int .u64 lb]] w fun e w' => e = .returned (.tuple #[.agg #[.bool false, .int .u64 0, .int .u64 0], .iface 83 (.int .i64 1)]) ∧ Below w.heap.size w w' := by
  cases ga : goodB n ha la
  · clear hg
    go_enter Try.func47, Try.ntmps47
    go_wp2_with ((go_at_call 31; refine (good_any _ _ _ _).mono ?_; rintro e w1 ⟨rfl, rfl⟩))
    go_returns
    exact ⟨rfl, by (repeat' (first | (with_reducible exact Below.refl _ _) | (refine Below.trans ?_ (Below.mono (by with_reducible assumption) ?_)) | (with_reducible exact Below.refl _ _) | (with_reducible refine below_drewN ?_ _) | (with_reducible refine Below.drew ?_) | (with_reducible refine Below.setCell ?_ ?_ _) | (with_reducible refine Below.alloc ?_ ?_ _) | (with_reducible assumption) | (simp; done) | (simp; omega) | omega))⟩
  · have gb : goodB m hb lb = false := by rcases hg with h | h; rw [ga] at h; cases h; exact h
    clear hg
    go_enter Try.func47, Try.ntmps47
    go_wp2_with ((go_at_call 31; refine (good_any _ _ _ _).mono ?_; rintro e w1 ⟨rfl, rfl⟩))
    go_returns
    exact ⟨rfl, by (repeat' (first | (with_reducible exact Below.refl _ _) | (refine Below.trans ?_ (Below.mono (by with_reducible assumption) ?_)) | (with_reducible exact Below.refl _ _) | (with_reducible refine below_drewN ?_ _) | (with_reducible refine Below.drew ?_) | (with_reducible refine Below.setCell ?_ ?_ _) | (with_reducible refine Below.alloc ?_ ?_ _) | (with_reducible assumption) | (simp; done) | (simp; omega) | omega))⟩
set_option maxRecDepth 100000 in
set_option maxHeartbeats 400000 in
theorem mod_zero (n : Bool) (ha la : Int) (ga : goodB n ha la = true) (w : World) :
    Calls Try.prog 47 #[.agg #[.bool n, .int .u64 ha, .int .u64 la], .agg #[.bool false, .int .u64 0, .int .u64 0]] w fun e w' => e = .returned (.tuple #[.agg #[.bool false, .int .u64 0, .int .u64 0], .iface 83 (.int .i64 3)]) ∧ Below w.heap.size w w' := by
  have gb : goodB false 0 0 = true := by decide
  go_enter Try.func47, Try.ntmps47
  go_wp2_with ((go_at_call 31; refine (good_any _ _ _ _).mono ?_; rintro e w1 ⟨rfl, rfl⟩))
  go_returns
  exact ⟨rfl, by (repeat' (first | (with_reducible exact Below.refl _ _) | (refine Below.trans ?_ (Below.mono (by with_reducible assumption) ?_)) | (with_reducible exact Below.refl _ _) | (with_reducible refine below_drewN ?_ _) | (with_reducible refine Below.drew ?_) | (with_reducible refine Below.setCell ?_ ?_ _) | (with_reducible refine Below.alloc ?_ ?_ _) | (with_reducible assumption) | (simp; done) | (simp; omega) | omega))⟩
end Go.Proofs.Ytkhhjibpppmekaa

/- dec.Sub, Cmp. -/
namespace Go.Proofs.Ytkhhjibpppmekaa
open Go.RowKit
theorem IsD.neg {n : Bool} {h l z : Int} (i : IsD n h l z) : IsD (zn (-z)) (zh (-z)) (zl (-z)) (-z) := IsD.of (by have := i.2.2.2.2; omega)
set_option maxRecDepth 100000 in
set_option maxHeartbeats 400000 in
theorem cmp_bad (n m : Bool) (ha la hb lb : Int) (hg : goodB n ha la = false ∨ goodB m hb lb = false) (w : World) :
    Calls Try.prog 48 #[.agg #[.bool n, .int .u64 ha, .int .u64 la], .agg #[.bool m, .int .u64 hb, .int .u64 lb]] w fun e w' => e = .returned (.int .i64 0) ∧ Below w.heap.size w w' := by
  cases ga : goodB n ha la
  · clear hg
    go_enter Try.func48, Try.ntmps48
    go_wp2_with ((go_at_call 31; refine (good_any _ _ _ _).mono ?_; rintro e w1 ⟨rfl, rfl⟩))
    go_returns
    exact ⟨rfl, by (repeat' (first | (with_reducible exact Below.refl _ _) | (refine Below.trans ?_ (Below.mono (by with_reducible assumption) ?_)) | (with_reducible exact Below.refl _ _) | (with_reducible refine below_drewN ?_ _) | (with_reducible refine Below.drew ?_) | (with_reducible refine Below.setCell ?_ ?_ _) | (with_reducible refine Below.alloc ?_ ?_ _) | (with_reducible assumption) | (simp; done) | (simp; omega) | omega))⟩
  · have gb : goodB m hb lb = false := by rcases hg with h | h; rw [ga] at h; cases h; exact h
    clear hg
    go_enter Try.func48, Try.ntmps48
    go_wp2_with ((go_at_call 31; refine (good_any _ _ _ _).mono ?_; rintro e w1 ⟨rfl, rfl⟩))
    go_returns
    exact ⟨rfl, by (repeat' (first | (with_reducible exact Below.refl _ _) | (refine Below.trans ?_ (Below.mono (by with_reducible assumption) ?_)) | (with_reducible exact Below.refl _ _) | (with_reducible refine below_drewN ?_ _) | (with_reducible refine Below.drew ?_) | (with_reducible refine Below.setCell ?_ ?_ _) | (with_reducible refine Below.alloc ?_ ?_ _) | (with_reducible assumption) | (simp; done) | (simp; omega) | omega))⟩
def cmpZ (a b : Int) : Int := if a < b then -1 else if a = b then 0 else 1
set_option maxRecDepth 100000 in
set_option maxHeartbeats 400000 in
theorem cmp_ok (n m : Bool) (ha la hb lb za zb : Int) (ia : IsD n ha la za) (ib : IsD m hb lb zb) (w : World) :
    Calls Try.prog 48 #[.agg #[.bool n, .int .u64 ha, .int .u64 la], .agg #[.bool m, .int .u64 hb, .int .u64 lb]] w fun e w' => e = .returned (.int .i64 (cmpZ za zb)) ∧ Below w.heap.size w w' := by
  have ga := good_of ia
  have gb := good_of ib
  obtain ⟨wa, xa⟩ := ia.words
  obtain ⟨wb, xb⟩ := ib.words
  have e1 := ia.2.2.2.1
  have e2 := ib.2.2.2.1
  have a1 := ia.2.2.1
  have b1 := ib.2.2.1
  by_cases hz : za = zb
  · subst hz
    obtain ⟨rfl, rfl, rfl⟩ := ia.eq
    obtain ⟨rfl, rfl, rfl⟩ := ib.eq
    have hc : cmpZ za za = 0 := by simp [cmpZ]
    rw [hc]; clear hc e1 e2 a1 b1 wa xa wb xb gb ia ib
    go_enter Try.func48, Try.ntmps48
    go_wp2_with ((go_at_call 31; refine (good_any _ _ _ _).mono ?_; rintro e w1 ⟨rfl, rfl⟩))
    go_returns
    exact ⟨rfl, by (repeat' (first | (with_reducible exact Below.refl _ _) | (refine Below.trans ?_ (Below.mono (by with_reducible assumption) ?_)) | (with_reducible exact Below.refl _ _) | (with_reducible refine below_drewN ?_ _) | (with_reducible refine Below.drew ?_) | (with_reducible refine Below.setCell ?_ ?_ _) | (with_reducible refine Below.alloc ?_ ?_ _) | (with_reducible assumption) | (simp; done) | (simp; omega) | omega))⟩
  · by_cases hnm : n = m
    · subst hnm
      have h3 : (za < 0) ↔ (zb < 0) := by
        have : decide (za < 0) = decide (zb < 0) := by rw [← e1, ← e2]
        rwa [decide_eq_decide] at this
      have hc : cmpZ za zb = (if blw ha la hb lb = n then 1 else -1) := by
        have hbw := blw2_iff xa wa xb wb
        unfold cmpZ
        rw [if_neg hz]
        cases n
        · have : ¬ za < 0 := by symm at e1; rwa [decide_eq_false_iff_not] at e1
          cases h : blw ha la hb lb
          · rw [h] at hbw; simp at hbw ⊢; omega
          · rw [h] at hbw; simp at hbw ⊢; omega
        · have : za < 0 := by symm at e1; rwa [decide_eq_true_eq] at e1
          cases h : blw ha la hb lb
          · rw [h] at hbw; simp at hbw ⊢; omega
          · rw [h] at hbw; simp at hbw ⊢; omega
      rw [hc]; clear hc
      have hne : ha ≠ hb ∨ la ≠ lb := by
        by_cases h1 : ha = hb
        · right; intro h2; subst h1; subst h2; omega
        · left; exact h1
      clear e1 e2 a1 b1 wa xa wb xb ia ib h3 hz
      cases hl : blw ha la hb lb <;> cases n <;> rcases hne with h1 | h1
      all_goals
        have h2 := beq_eq_false_iff_ne.2 h1
        clear h1
        go_enter Try.func48, Try.ntmps48
        go_wp2_with ((go_at_call 31; refine (good_any _ _ _ _).mono ?_; rintro e w1 ⟨rfl, rfl⟩))
        go_quiet ((go_at_call 65; exact Calls.quiet_of_same (below_q _ _ _ _ _)))
        go_wp2
        all_goals (go_returns; exact ⟨rfl, by (repeat' (first | (with_reducible exact Below.refl _ _) | (refine Below.trans ?_ (Below.mono (by with_reducible assumption) ?_)) | (with_reducible exact Below.refl _ _) | (with_reducible refine below_drewN ?_ _) | (with_reducible refine Below.drew ?_) | (with_reducible refine Below.setCell ?_ ?_ _) | (with_reducible refine Below.alloc ?_ ?_ _) | (with_reducible assumption) | (simp; done) | (simp; omega) | omega))⟩)
    · obtain rfl : m = !n := by revert hnm; cases n <;> cases m <;> simp
      have hc : cmpZ za zb = (if n then -1 else 1) := by
        unfold cmpZ
        cases n
        · have : ¬ za < 0 := by symm at e1; rwa [decide_eq_false_iff_not] at e1
          have : zb < 0 := by symm at e2; simpa using e2
          rw [if_neg (by omega), if_neg (by omega)]; rfl
        · have : za < 0 := by symm at e1; rwa [decide_eq_true_eq] at e1
          have : ¬ zb < 0 := by symm at e2; simpa using e2
          rw [if_pos (by omega)]; rfl
      rw [hc]; clear hc e1 e2 a1 b1 wa xa wb xb ia ib hz hnm
      cases n
      all_goals
        simp only [Bool.not_true, Bool.not_false] at gb
        simp only [Bool.not_true, Bool.not_false]
        go_enter Try.func48, Try.ntmps48
        go_wp2_with (first | (go_at_call 31; refine (good_any _ _ _ _).mono ?_; rintro e w1 ⟨rfl, rfl⟩) | (go_at_call 65; refine (below_any _ _ _ _ _).mono ?_; rintro e w1 ⟨rfl, rfl⟩))
        all_goals (go_returns; exact ⟨rfl, by (repeat' (first | (with_reducible exact Below.refl _ _) | (refine Below.trans ?_ (Below.mono (by with_reducible assumption) ?_)) | (with_reducible exact Below.refl _ _) | (with_reducible refine below_drewN ?_ _) | (with_reducible refine Below.drew ?_) | (with_reducible refine Below.setCell ?_ ?_ _) | (with_reducible refine Below.alloc ?_ ?_ _) | (with_reducible assumption) | (simp; done) | (simp; omega) | omega))⟩)
end Go.Proofs.Ytkhhjibpppmekaa

/- Plain facts that the statements of layer 1 say. -/
namespace Go.Proofs.Ytkhhjibpppmekaa
theorem mulZ_comm (a b : Int) : mulZ a b = mulZ b a := by unfold mulZ; rw [Int.mul_comm]
theorem mulZ_one (a : Int) : mulZ a 1000000 = a := Int.mul_tdiv_cancel a (by decide)
theorem one_mulZ (a : Int) : mulZ 1000000 a = a := by rw [mulZ_comm, mulZ_one]
theorem mulZ_neg (a b : Int) : mulZ (-a) b = -mulZ a b := by unfold mulZ; rw [Int.neg_mul, Int.neg_tdiv]
theorem divZ_one (a : Int) : divZ a 1000000 = a := Int.mul_tdiv_cancel a (by decide)
theorem divZ_self (a : Int) (h : a ≠ 0) : divZ a a = 1000000 := Int.mul_tdiv_cancel_left 1000000 h
theorem cmpZ_add (a b c : Int) : cmpZ (a + c) (b + c) = cmpZ a b := by
  unfold cmpZ
  by_cases h1 : a < b
  · rw [if_pos h1, if_pos (by omega)]
  · by_cases h2 : a = b
    · rw [if_neg h1, if_pos h2, if_neg (by omega), if_pos (by omega)]
    · rw [if_neg h1, if_neg h2, if_neg (by omega), if_neg (by omega)]
theorem cmpZ_swap (a b : Int) : cmpZ a b = -cmpZ b a := by
  unfold cmpZ
  by_cases h1 : a < b
  · rw [if_pos h1, if_neg (by omega), if_neg (by omega)]
  · by_cases h2 : a = b
    · rw [if_neg h1, if_pos h2, if_neg (by omega), if_pos h2.symm]; rfl
    · rw [if_neg h1, if_neg h2, if_pos (by omega)]; rfl
theorem cmpZ_cases (a b : Int) : cmpZ a b = -1 ∨ cmpZ a b = 0 ∨ cmpZ a b = 1 := by
  unfold cmpZ
  by_cases h1 : a < b
  · rw [if_pos h1]; exact .inl rfl
  · rw [if_neg h1]
    by_cases h2 : a = b
    · rw [if_pos h2]; exact .inr (.inl rfl)
    · rw [if_neg h2]; exact .inr (.inr rfl)
theorem rest_eq (a : Int) : a - truncZ a = a.tmod 1000000 := by
  unfold truncZ
  have := Int.mul_tdiv_add_tmod a 1000000
  omega
theorem trunc_trunc (a : Int) : truncZ (truncZ a) = truncZ a := by
  unfold truncZ
  rw [Int.mul_tdiv_cancel _ (by decide)]
theorem trunc_abs_le (a : Int) : ((truncZ a).natAbs : Int) ≤ a.natAbs := by
  have := truncZ_abs a
  omega
theorem tmod_abs_lt (a b : Int) (hb : b ≠ 0) : ((a.tmod b).natAbs : Int) < b.natAbs := by
  rw [Int.natAbs_tmod]
  have := Nat.mod_lt a.natAbs (show 0 < b.natAbs by omega)
  omega
theorem sub_tmod_mod (a b : Int) : (a - a.tmod b).tmod b = 0 := by
  have h : a - a.tmod b = b * a.tdiv b := by
    have := Int.mul_tdiv_add_tmod a b
    omega
  rw [h, Int.mul_tmod_right]
theorem sub_tmod_abs (a b : Int) : (((a - a.tmod b).natAbs : Nat) : Int) ≤ a.natAbs := by
  have h0 : (a.tmod b).natAbs ≤ a.natAbs := by
    rw [Int.natAbs_tmod]; exact Nat.mod_le _ _
  by_cases h : 0 ≤ a
  · have := Int.tmod_nonneg b h
    omega
  · have h1 := Int.tmod_nonneg b (show 0 ≤ -a by omega)
    rw [Int.neg_tmod] at h1
    omega
theorem one_tdiv : Int.tdiv 1000000 1000000 = 1 := by decide
theorem powS_one {za : Int} (hl : ((za.natAbs : Nat) : Int) < LIM) : powS za 1 = some za := by
  simp only [powS, one_mulZ]
  rw [if_pos hl]
theorem powPost_gen {za zb q : Int} {p : Int} {e : Ending} (h : PowPost za zb e) (h0 : zb.tdiv 1000000 = q) (h1 : -1000 ≤ q ∧ q ≤ 1000) (hp : powS za q.natAbs = some p) (hz : ¬ zb < 0) : e = .returned (.tuple #[.agg #[.bool (zn (p)), .int .u64 (zh (p)), .int .u64 (zl (p))], .nilIface]) := by
  unfold PowPost at h
  rw [h0, if_pos h1, hp] at h
  simp only [if_neg hz] at h
  exact h
theorem powPost_one {za zb : Int} (hb : zb = 1000000) (hl : ((za.natAbs : Nat) : Int) < LIM) {e : Ending} (h : PowPost za zb e) : e = .returned (.tuple #[.agg #[.bool (zn (za)), .int .u64 (zh (za)), .int .u64 (zl (za))], .nilIface]) :=
  powPost_gen (q := 1) (p := za) h (by rw [hb]; exact one_tdiv) (by decide) (powS_one hl) (by omega)
theorem powPost_zero {za zb : Int} (hb : zb = 0) {e : Ending} (h : PowPost za zb e) : e = .returned (.tuple #[.agg #[.bool false, .int .u64 0, .int .u64 1000000], .nilIface]) :=
  powPost_gen (q := 0) (p := 1000000) h (by rw [hb]; exact Int.zero_tdiv _) (by decide) rfl (by omega)
theorem powPost_2_10 {za zb : Int} (ha : za = 2000000) (hb : zb = 10000000) {e : Ending} (h : PowPost za zb e) : e = .returned (.tuple #[.agg #[.bool false, .int .u64 0, .int .u64 1024000000], .nilIface]) :=
  powPost_gen (q := 10) (p := 1024000000) h (by rw [hb]; decide) (by decide) (by rw [ha]; exact (show powS 2000000 10 = some 1024000000 by decide +kernel)) (by omega)
end Go.Proofs.Ytkhhjibpppmekaa
