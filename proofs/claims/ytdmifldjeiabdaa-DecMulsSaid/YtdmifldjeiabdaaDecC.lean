/- dec.Add: the sum of two numbers. -/
import Derived.Test.YtdmifldjeiabdaaDecB
namespace Go.Proofs.Ytdmifldjeiabdaa
open Go.RowKit
theorem IsD.words {n : Bool} {h l z : Int} (i : IsD n h l z) : Wd h ∧ Wd l := ⟨i.1, i.2.1⟩
/-- The words of a sum. -/
theorem sum_words {ha la hb lb : Int} (wa : Wd ha) (xa : Wd la) (wb : Wd hb) (xb : Wd lb) :
    Wd ((la + lb) % 18446744073709551616) ∧ Wd ((ha + hb + (la + lb) / 18446744073709551616) % 18446744073709551616) ∧ Wd ((ha + hb + (la + lb) / 18446744073709551616) / 18446744073709551616) ∧
    0 ≤ (la + lb) / 18446744073709551616 ∧ (la + lb) / 18446744073709551616 ≤ 1 ∧
    lim4 ((la + lb) % 18446744073709551616) ((ha + hb + (la + lb) / 18446744073709551616) % 18446744073709551616) ((ha + hb + (la + lb) / 18446744073709551616) / 18446744073709551616) 0 = (ha * 18446744073709551616 + la) + (hb * 18446744073709551616 + lb) := by
  obtain ⟨a1, a2⟩ := wa; obtain ⟨b1, b2⟩ := xa; obtain ⟨c1, c2⟩ := wb; obtain ⟨d1, d2⟩ := xb
  unfold Wd lim4
  omega
theorem dif_words {ha la hb lb : Int} (wa : Wd ha) (xa : Wd la) (wb : Wd hb) (xb : Wd lb) (h : hb * 18446744073709551616 + lb ≤ ha * 18446744073709551616 + la) :
    Wd ((la - lb) % 18446744073709551616) ∧ Wd ((ha - hb - bor la lb 0) % 18446744073709551616) ∧
    lim4 ((la - lb) % 18446744073709551616) ((ha - hb - bor la lb 0) % 18446744073709551616) 0 0 = (ha * 18446744073709551616 + la) - (hb * 18446744073709551616 + lb) := by
  obtain ⟨a1, a2⟩ := wa; obtain ⟨b1, b2⟩ := xa; obtain ⟨c1, c2⟩ := wb; obtain ⟨d1, d2⟩ := xb
  unfold Wd lim4 bor
  split <;> omega
set_option maxRecDepth 100000 in
set_option maxHeartbeats 400000 in
theorem add_same (n rn : Bool) (ha la hb lb rh rl : Int) (er : Value) (wa : Wd ha) (xa : Wd la) (wb : Wd hb) (xb : Wd lb) (ga : goodB n ha la = true) (gb : goodB n hb lb = true)
    (HR : Hid (∀ W, Calls Try.prog 66 #[.bool n, .agg #[.int .u64 ((la + lb) % 18446744073709551616), .int .u64 ((ha + hb + (la + lb) / 18446744073709551616) % 18446744073709551616), .int .u64 ((ha + hb + (la + lb) / 18446744073709551616) / 18446744073709551616), .int .u64 0]] W
      fun e w' => e = .returned (.tuple #[.agg #[.bool rn, .int .u64 rh, .int .u64 rl], er]) ∧ Below W.heap.size W w')) (w : World) :
    Calls Try.prog 39 #[.agg #[.bool n, .int .u64 ha, .int .u64 la], .agg #[.bool n, .int .u64 hb, .int .u64 lb]] w fun e w' => e = .returned (.tuple #[.agg #[.bool rn, .int .u64 rh, .int .u64 rl], er]) ∧ Below w.heap.size w w' := by
  obtain ⟨s1, s2, s3, k0, k1, s4⟩ := sum_words wa xa wb xb
  have e1 := fun W => add64_0 la lb xa.1 xb.1 W
  have e2 := fun W => add64 ha hb _ wa.1 wb.1 k0 k1 W
  clear s1 s2 s3 s4 wa xa wb xb
  go_enter Try.func39, Try.ntmps39
  go_wp2_with (first | (go_at_call 21; refine (good_any _ _ _ _).mono ?_; rintro e w1 ⟨rfl, rfl⟩) | (go_at_call 66; refine (HR.out _).mono ?_; rintro e w1 ⟨rfl, hb⟩; obtain ⟨hc_hb, hf_hb⟩ := bcell hb; have hs_hb := Below.size hb; (try simp at hs_hb)))
  (try simp only [Exit.inBlock, Exit.then]); refine bodyPost_ret (by simp [results, Try.results39, go_sem, *]; try rfl) rfl ?_
  exact ⟨rfl, by (repeat' (first | (with_reducible exact Below.refl _ _) | (refine Below.trans ?_ (Below.mono (by with_reducible assumption) ?_)) | (with_reducible exact Below.refl _ _) | (with_reducible refine below_drewN ?_ _) | (with_reducible refine Below.drew ?_) | (with_reducible refine Below.setCell ?_ ?_ _) | (with_reducible refine Below.alloc ?_ ?_ _) | (with_reducible assumption) | (simp; done) | (simp; omega) | omega))⟩
theorem same_sum {n : Bool} {ha la hb lb za zb : Int} (ia : IsD n ha la za) (ib : IsD n hb lb zb) :
    lim4 ((la + lb) % 18446744073709551616) ((ha + hb + (la + lb) / 18446744073709551616) % 18446744073709551616) ((ha + hb + (la + lb) / 18446744073709551616) / 18446744073709551616) 0 = (za + zb).natAbs ∧
    (za + zb = 0 ∨ n = decide (za + zb < 0)) := by
  obtain ⟨wa, xa⟩ := ia.words
  obtain ⟨wb, xb⟩ := ib.words
  obtain ⟨s1, s2, s3, k0, k1, s4⟩ := sum_words wa xa wb xb
  have e1 := ia.2.2.2.1
  have e2 := ib.2.2.2.1
  have h3 : decide (za < 0) = decide (zb < 0) := by rw [← e1, ← e2]
  rw [decide_eq_decide] at h3
  constructor
  · rw [s4, ia.2.2.1, ib.2.2.1]
    omega
  · right
    rw [e1, decide_eq_decide]
    omega
set_option maxRecDepth 100000 in
set_option maxHeartbeats 400000 in
theorem add_dif (n rn : Bool) (ha la hb lb rh rl : Int) (er : Value) (wa : Wd ha) (xa : Wd la) (wb : Wd hb) (xb : Wd lb) (ga : goodB n ha la = true) (gb : goodB (!n) hb lb = true)
    (hbl : blw ha la hb lb = false)
    (HR : Hid (∀ W, Calls Try.prog 66 #[.bool n, .agg #[.int .u64 ((la - lb) % 18446744073709551616), .int .u64 ((ha - hb - bor la lb 0) % 18446744073709551616), .int .u64 0, .int .u64 0]] W
      fun e w' => e = .returned (.tuple #[.agg #[.bool rn, .int .u64 rh, .int .u64 rl], er]) ∧ Below W.heap.size W w')) (w : World) :
    Calls Try.prog 39 #[.agg #[.bool n, .int .u64 ha, .int .u64 la], .agg #[.bool (!n), .int .u64 hb, .int .u64 lb]] w fun e w' => e = .returned (.tuple #[.agg #[.bool rn, .int .u64 rh, .int .u64 rl], er]) ∧ Below w.heap.size w w' := by
  obtain ⟨k0, k1⟩ := bor_range la lb 0
  have e1 := fun W => sub64_0 la lb xa.1 xb.1 xb.2 W
  have e2 := fun W => sub64 ha hb _ wa.1 wb.1 wb.2 k0 k1 W
  clear wa xa wb xb
  cases n
  all_goals
    simp only [Bool.not_true, Bool.not_false] at gb
    simp only [Bool.not_true, Bool.not_false]
    go_enter Try.func39, Try.ntmps39
    go_wp2_with (first | (go_at_call 21; refine (good_any _ _ _ _).mono ?_; rintro e w1 ⟨rfl, rfl⟩) | (go_at_call 54; refine (below_any _ _ _ _ _).mono ?_; rintro e w1 ⟨rfl, rfl⟩) | (go_at_call 66; refine (HR.out _).mono ?_; rintro e w1 ⟨rfl, hb⟩; obtain ⟨hc_hb, hf_hb⟩ := bcell hb; have hs_hb := Below.size hb; (try simp at hs_hb)))
    (try simp only [Exit.inBlock, Exit.then]); refine bodyPost_ret (by simp [results, Try.results39, go_sem, *]; try rfl) rfl ?_
    exact ⟨rfl, by (repeat' (first | (with_reducible exact Below.refl _ _) | (refine Below.trans ?_ (Below.mono (by with_reducible assumption) ?_)) | (with_reducible exact Below.refl _ _) | (with_reducible refine below_drewN ?_ _) | (with_reducible refine Below.drew ?_) | (with_reducible refine Below.setCell ?_ ?_ _) | (with_reducible refine Below.alloc ?_ ?_ _) | (with_reducible assumption) | (simp; done) | (simp; omega) | omega))⟩
set_option maxRecDepth 100000 in
set_option maxHeartbeats 400000 in
theorem add_swap (n rn : Bool) (ha la hb lb rh rl : Int) (er : Value) (wa : Wd ha) (xa : Wd la) (wb : Wd hb) (xb : Wd lb) (ga : goodB n ha la = true) (gb : goodB (!n) hb lb = true)
    (hbl : blw ha la hb lb = true)
    (HR : Hid (∀ W, Calls Try.prog 66 #[.bool (!n), .agg #[.int .u64 ((lb - la) % 18446744073709551616), .int .u64 ((hb - ha - bor lb la 0) % 18446744073709551616), .int .u64 0, .int .u64 0]] W
      fun e w' => e = .returned (.tuple #[.agg #[.bool rn, .int .u64 rh, .int .u64 rl], er]) ∧ Below W.heap.size W w')) (w : World) :
    Calls Try.prog 39 #[.agg #[.bool n, .int .u64 ha, .int .u64 la], .agg #[.bool (!n), .int .u64 hb, .int .u64 lb]] w fun e w' => e = .returned (.tuple #[.agg #[.bool rn, .int .u64 rh, .int .u64 rl], er]) ∧ Below w.heap.size w w' := by
  obtain ⟨k0, k1⟩ := bor_range lb la 0
  have e1 := fun W => sub64_0 lb la xb.1 xa.1 xa.2 W
  have e2 := fun W => sub64 hb ha _ wb.1 wa.1 wa.2 k0 k1 W
  clear wa xa wb xb
  cases n
  all_goals
    simp only [Bool.not_true, Bool.not_false] at gb HR
    simp only [Bool.not_true, Bool.not_false]
    go_enter Try.func39, Try.ntmps39
    go_wp2_with (first | (go_at_call 21; refine (good_any _ _ _ _).mono ?_; rintro e w1 ⟨rfl, rfl⟩) | (go_at_call 54; refine (below_any _ _ _ _ _).mono ?_; rintro e w1 ⟨rfl, rfl⟩) | (go_at_call 66; refine (HR.out _).mono ?_; rintro e w1 ⟨rfl, hb⟩; obtain ⟨hc_hb, hf_hb⟩ := bcell hb; have hs_hb := Below.size hb; (try simp at hs_hb)))
    (try simp only [Exit.inBlock, Exit.then]); refine bodyPost_ret (by simp [results, Try.results39, go_sem, *]; try rfl) rfl ?_
    exact ⟨rfl, by (repeat' (first | (with_reducible exact Below.refl _ _) | (refine Below.trans ?_ (Below.mono (by with_reducible assumption) ?_)) | (with_reducible exact Below.refl _ _) | (with_reducible refine below_drewN ?_ _) | (with_reducible refine Below.drew ?_) | (with_reducible refine Below.setCell ?_ ?_ _) | (with_reducible refine Below.alloc ?_ ?_ _) | (with_reducible assumption) | (simp; done) | (simp; omega) | omega))⟩
/-- Add, of right numbers. -/
theorem add_ok (n m : Bool) (ha la hb lb za zb z : Int) (ia : IsD n ha la za) (ib : IsD m hb lb zb) (hz : z = za + zb) (hl : z.natAbs < LIM) (w : World) :
    Calls Try.prog 39 #[.agg #[.bool n, .int .u64 ha, .int .u64 la], .agg #[.bool m, .int .u64 hb, .int .u64 lb]] w fun e w' => e = .returned (.tuple #[.agg #[.bool (zn (z)), .int .u64 (zh (z)), .int .u64 (zl (z))], .nilIface]) ∧ Below w.heap.size w w' := by
  subst hz
  have ga := good_of ia
  have gb := good_of ib
  obtain ⟨wa, xa⟩ := ia.words
  obtain ⟨wb, xb⟩ := ib.words
  by_cases hnm : n = m
  · subst hnm
    obtain ⟨s1, s2, s3, k0, k1, s4⟩ := sum_words wa xa wb xb
    obtain ⟨hN, hs⟩ := same_sum ia ib
    exact add_same n _ ha la hb lb _ _ _ wa xa wb xb ga gb (Lib.hid fun W => result_ok n _ _ _ _ (za + zb) s1 s2 s3 Wd.zero hN hs hl W) w
  · obtain rfl : m = !n := by revert hnm; cases n <;> cases m <;> simp
    have e1 := ia.2.2.2.1
    have e2 := ib.2.2.2.1
    have a1 := ia.2.2.1
    have b1 := ib.2.2.1
    have h3 : (za < 0) ↔ ¬ (zb < 0) := by
      rw [e1] at e2
      by_cases h : za < 0 <;> by_cases h' : zb < 0 <;> simp [h, h'] at e2 ⊢
    cases hbl : blw ha la hb lb
    · have hle : hb * 18446744073709551616 + lb ≤ ha * 18446744073709551616 + la := by
        have := (not_congr (blw2_iff xa wa xb wb)).1 (by rw [hbl]; simp)
        omega
      obtain ⟨s1, s2, s4⟩ := dif_words wa xa wb xb hle
      refine add_dif n _ ha la hb lb _ _ _ wa xa wb xb ga gb hbl (Lib.hid fun W => result_ok n _ _ _ _ (za + zb) s1 s2 Wd.zero Wd.zero ?_ ?_ hl W) w
      · rw [s4]; omega
      · rw [e1, decide_eq_decide]; omega
    · have hle : ha * 18446744073709551616 + la < hb * 18446744073709551616 + lb := (blw2_iff xa wa xb wb).1 hbl
      obtain ⟨s1, s2, s4⟩ := dif_words wb xb wa xa (by omega)
      refine add_swap n _ ha la hb lb _ _ _ wa xa wb xb ga gb hbl (Lib.hid fun W => result_ok (!n) _ _ _ _ (za + zb) s1 s2 Wd.zero Wd.zero ?_ ?_ hl W) w
      · rw [s4]; omega
      · rw [e2, decide_eq_decide]; omega
theorem add_over (n m : Bool) (ha la hb lb za zb : Int) (ia : IsD n ha la za) (ib : IsD m hb lb zb) (hl : LIM ≤ (za + zb).natAbs) (w : World) :
    Calls Try.prog 39 #[.agg #[.bool n, .int .u64 ha, .int .u64 la], .agg #[.bool m, .int .u64 hb, .int .u64 lb]] w fun e w' => e = .returned (.tuple #[.agg #[.bool false, .int .u64 0, .int .u64 0], .iface 72 (.int .i64 2)]) ∧ Below w.heap.size w w' := by
  have ga := good_of ia
  have gb := good_of ib
  obtain ⟨wa, xa⟩ := ia.words
  obtain ⟨wb, xb⟩ := ib.words
  by_cases hnm : n = m
  · subst hnm
    obtain ⟨s1, s2, s3, k0, k1, s4⟩ := sum_words wa xa wb xb
    obtain ⟨hN, hs⟩ := same_sum ia ib
    exact add_same n _ ha la hb lb _ _ _ wa xa wb xb ga gb (Lib.hid fun W => result_over n _ _ _ _ s1 s2 s3 Wd.zero (by rw [hN]; exact hl) W) w
  · exfalso
    have e1 := ia.2.2.2.1
    have e2 := ib.2.2.2.1
    have a1 := ia.2.2.2.2
    have b1 := ib.2.2.2.2
    have h3 : (za < 0) ↔ ¬ (zb < 0) := by
      have : ¬ (decide (za < 0) = decide (zb < 0)) := by rw [← e1, ← e2]; exact hnm
      rw [decide_eq_decide] at this
      omega
    omega
set_option maxRecDepth 100000 in
set_option maxHeartbeats 400000 in
theorem add_bad (n m : Bool) (ha la hb lb : Int) (hg : goodB n ha la = false ∨ goodB m hb lb = false) (w : World) :
    Calls Try.prog 39 #[.agg #[.bool n, .int .u64 ha, .int .u64 la], .agg #[.bool m, .int .u64 hb, .int .u64 lb]] w fun e w' => e = .returned (.tuple #[.agg #[.bool false, .int .u64 0, .int .u64 0], .iface 72 (.int .i64 1)]) ∧ Below w.heap.size w w' := by
  cases ga : goodB n ha la
  · clear hg
    go_enter Try.func39, Try.ntmps39
    go_wp2_with ((go_at_call 21; refine (good_any _ _ _ _).mono ?_; rintro e w1 ⟨rfl, rfl⟩))
    go_returns
    exact ⟨rfl, by (repeat' (first | (with_reducible exact Below.refl _ _) | (refine Below.trans ?_ (Below.mono (by with_reducible assumption) ?_)) | (with_reducible exact Below.refl _ _) | (with_reducible refine below_drewN ?_ _) | (with_reducible refine Below.drew ?_) | (with_reducible refine Below.setCell ?_ ?_ _) | (with_reducible refine Below.alloc ?_ ?_ _) | (with_reducible assumption) | (simp; done) | (simp; omega) | omega))⟩
  · have gb : goodB m hb lb = false := by rcases hg with h | h; rw [ga] at h; cases h; exact h
    clear hg
    go_enter Try.func39, Try.ntmps39
    go_wp2_with ((go_at_call 21; refine (good_any _ _ _ _).mono ?_; rintro e w1 ⟨rfl, rfl⟩))
    go_returns
    exact ⟨rfl, by (repeat' (first | (with_reducible exact Below.refl _ _) | (refine Below.trans ?_ (Below.mono (by with_reducible assumption) ?_)) | (with_reducible exact Below.refl _ _) | (with_reducible refine below_drewN ?_ _) | (with_reducible refine Below.drew ?_) | (with_reducible refine Below.setCell ?_ ?_ _) | (with_reducible refine Below.alloc ?_ ?_ _) | (with_reducible assumption) | (simp; done) | (simp; omega) | omega))⟩
end Go.Proofs.Ytdmifldjeiabdaa
