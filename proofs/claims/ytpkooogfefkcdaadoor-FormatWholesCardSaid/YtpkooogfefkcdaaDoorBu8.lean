/- Several texts put together: DecC, DecF. -/
import Derived.Test.YtpkooogfefkcdaaDoorBu7
/- dec.Add: the sum of two numbers. -/
namespace Go.Proofs.YtpkooogfefkcdaaDoor
open Go.RowKit
/-- The words of a sum. -/
theorem sum_words {ha la hb lb : Int} (wa : Wd ha) (xa : Wd la) (wb : Wd hb) (xb : Wd lb) :
    Wd ((la + lb) % 18446744073709551616) ∧ Wd ((ha + hb + (la + lb) / 18446744073709551616) % 18446744073709551616) ∧ Wd ((ha + hb + (la + lb) / 18446744073709551616) / 18446744073709551616) ∧
    0 ≤ (la + lb) / 18446744073709551616 ∧ (la + lb) / 18446744073709551616 ≤ 1 ∧
    lim4 ((la + lb) % 18446744073709551616) ((ha + hb + (la + lb) / 18446744073709551616) % 18446744073709551616) ((ha + hb + (la + lb) / 18446744073709551616) / 18446744073709551616) 0 = (ha * 18446744073709551616 + la) + (hb * 18446744073709551616 + lb) := by
  obtain ⟨a1, a2⟩ := wa; obtain ⟨b1, b2⟩ := xa; obtain ⟨c1, c2⟩ := wb; obtain ⟨d1, d2⟩ := xb
  unfold Wd lim4
  omega
theorem dif_words {ha la hb lb : Int} (wa : Wd ha) (xa : Wd la) (wb : Wd hb) (xb : Wd lb) (h : hb * 18446744073709551616 + lb ≤ ha * 18446744073709551616 + la) :
    Wd ((la - lb) % 18446744073709551616) ∧ Wd ((ha - hb - bor la lb 0) % 18446744073709551616) ∧
    lim4 ((la - lb) % 18446744073709551616) ((ha - hb - bor la lb 0) % 18446744073709551616) 0 0 = (ha * 18446744073709551616 + la) - (hb * 18446744073709551616 + lb) := by
  obtain ⟨a1, a2⟩ := wa; obtain ⟨b1, b2⟩ := xa; obtain ⟨c1, c2⟩ := wb; obtain ⟨d1, d2⟩ := xb
  unfold Wd lim4 bor
  split <;> omega
set_option maxRecDepth 100000 in
set_option maxHeartbeats 400000 in
theorem add_same (n rn : Bool) (ha la hb lb rh rl : Int) (er : Value) (wa : Wd ha) (xa : Wd la) (wb : Wd hb) (xb : Wd lb) (ga : goodB n ha la = true) (gb : goodB n hb lb = true)
    (HR : Hid (∀ W, Calls Tryd.prog 38 #[.bool n, .agg #[.int .u64 ((la + lb) % 18446744073709551616), .int .u64 ((ha + hb + (la + lb) / 18446744073709551616) % 18446744073709551616), .int .u64 ((ha + hb + (la + lb) / 18446744073709551616) / 18446744073709551616), .int .u64 0]] W
      fun e w' => e = .returned (.tuple #[.agg #[.bool rn, .int .u64 rh, .int .u64 rl], er]) ∧ Below W.heap.size W w')) (w : World) :
    Calls Tryd.prog 26 #[.agg #[.bool n, .int .u64 ha, .int .u64 la], .agg #[.bool n, .int .u64 hb, .int .u64 lb]] w fun e w' => e = .returned (.tuple #[.agg #[.bool rn, .int .u64 rh, .int .u64 rl], er]) ∧ Below w.heap.size w w' := by
  obtain ⟨s1, s2, s3, k0, k1, s4⟩ := sum_words wa xa wb xb
  have e1 := fun W => add64_0 la lb xa.1 xb.1 W
  have e2 := fun W => add64 ha hb _ wa.1 wb.1 k0 k1 W
  clear s1 s2 s3 s4 wa xa wb xb
  go_enter Tryd.func26, Tryd.ntmps26
  go_wp2_with (first | (go_at_call 14; refine (good_any _ _ _ _).mono ?_; rintro e w1 ⟨rfl, rfl⟩) | (go_at_call 38; refine (HR.out _).mono ?_; rintro e w1 ⟨rfl, hb⟩; obtain ⟨hc_hb, hf_hb⟩ := bcell hb; have hs_hb := Below.size hb; (try simp at hs_hb)))
  (try simp only [Exit.inBlock, Exit.then]); refine bodyPost_ret (by simp [results, Tryd.results26, go_sem, *]; try rfl) rfl ?_
  exact ⟨rfl, by (repeat' (first | (with_reducible exact Below.refl _ _) | (refine Below.trans ?_ (Below.mono (by with_reducible assumption) ?_)) | (with_reducible exact Below.refl _ _) | (with_reducible refine below_drewN ?_ _) | (with_reducible refine Below.drew ?_) | (with_reducible refine Below.setCell ?_ ?_ _) | (with_reducible refine Below.alloc ?_ ?_ _) | (with_reducible assumption) | (simp; done) | (simp; omega) | omega))⟩
theorem same_sum {n : Bool} {ha la hb lb za zb : Int} (ia : IsD n ha la za) (ib : IsD n hb lb zb) :
    lim4 ((la + lb) % 18446744073709551616) ((ha + hb + (la + lb) / 18446744073709551616) % 18446744073709551616) ((ha + hb + (la + lb) / 18446744073709551616) / 18446744073709551616) 0 = (za + zb).natAbs ∧
    (za + zb = 0 ∨ n = decide (za + zb < 0)) := by
  obtain ⟨wa, xa⟩ := ia.words
  obtain ⟨wb, xb⟩ := ib.words
  obtain ⟨s1, s2, s3, k0, k1, s4⟩ := sum_words wa xa wb xb
  have e1 := ia.2.2.2.1
  have e2 := ib.2.2.2.1
  have h3 : decide (za < 0) = decide (zb < 0) := by rw [← e1, ← e2]
  rw [decide_eq_decide] at h3
  constructor
  · rw [s4, ia.2.2.1, ib.2.2.1]
    omega
  · right
    rw [e1, decide_eq_decide]
    omega
set_option maxRecDepth 100000 in
set_option maxHeartbeats 400000 in
theorem add_dif (n rn : Bool) (ha la hb lb rh rl : Int) (er : Value) (wa : Wd ha) (xa : Wd la) (wb : Wd hb) (xb : Wd lb) (ga : goodB n ha la = true) (gb : goodB (!n) hb lb = true)
    (hbl : blw ha la hb lb = false)
    (HR : Hid (∀ W, Calls Tryd.prog 38 #[.bool n, .agg #[.int .u64 ((la - lb) % 18446744073709551616), .int .u64 ((ha - hb - bor la lb 0) % 18446744073709551616), .int .u64 0, .int .u64 0]] W
      fun e w' => e = .returned (.tuple #[.agg #[.bool rn, .int .u64 rh, .int .u64 rl], er]) ∧ Below W.heap.size W w')) (w : World) :
    Calls Tryd.prog 26 #[.agg #[.bool n, .int .u64 ha, .int .u64 la], .agg #[.bool (!n), .int .u64 hb, .int .u64 lb]] w fun e w' => e = .returned (.tuple #[.agg #[.bool rn, .int .u64 rh, .int .u64 rl], er]) ∧ Below w.heap.size w w' := by
  obtain ⟨k0, k1⟩ := bor_range la lb 0
  have e1 := fun W => sub64_0 la lb xa.1 xb.1 xb.2 W
  have e2 := fun W => sub64 ha hb _ wa.1 wb.1 wb.2 k0 k1 W
  clear wa xa wb xb
  cases n
  all_goals
    simp only [Bool.not_true, Bool.not_false] at gb
    simp only [Bool.not_true, Bool.not_false]
    go_enter Tryd.func26, Tryd.ntmps26
    go_wp2_with (first | (go_at_call 14; refine (good_any _ _ _ _).mono ?_; rintro e w1 ⟨rfl, rfl⟩) | (go_at_call 23; refine (below_any _ _ _ _ _).mono ?_; rintro e w1 ⟨rfl, rfl⟩) | (go_at_call 38; refine (HR.out _).mono ?_; rintro e w1 ⟨rfl, hb⟩; obtain ⟨hc_hb, hf_hb⟩ := bcell hb; have hs_hb := Below.size hb; (try simp at hs_hb)))
    (try simp only [Exit.inBlock, Exit.then]); refine bodyPost_ret (by simp [results, Tryd.results26, go_sem, *]; try rfl) rfl ?_
    exact ⟨rfl, by (repeat' (first | (with_reducible exact Below.refl _ _) | (refine Below.trans ?_ (Below.mono (by with_reducible assumption) ?_)) | (with_reducible exact Below.refl _ _) | (with_reducible refine below_drewN ?_ _) | (with_reducible refine Below.drew ?_) | (with_reducible refine Below.setCell ?_ ?_ _) | (with_reducible refine Below.alloc ?_ ?_ _) | (with_reducible assumption) | (simp; done) | (simp; omega) | omega))⟩
set_option maxRecDepth 100000 in
set_option maxHeartbeats 400000 in
theorem add_swap (n rn : Bool) (ha la hb lb rh rl : Int) (er : Value) (wa : Wd ha) (xa : Wd la) (wb : Wd hb) (xb : Wd lb) (ga : goodB n ha la = true) (gb : goodB (!n) hb lb = true)
    (hbl : blw ha la hb lb = true)
    (HR : Hid (∀ W, Calls Tryd.prog 38 #[.bool (!n), .agg #[.int .u64 ((lb - la) % 18446744073709551616), .int .u64 ((hb - ha - bor lb la 0) % 18446744073709551616), .int .u64 0, .int .u64 0]] W
      fun e w' => e = .returned (.tuple #[.agg #[.bool rn, .int .u64 rh, .int .u64 rl], er]) ∧ Below W.heap.size W w')) (w : World) :
    Calls Tryd.prog 26 #[.agg #[.bool n, .int .u64 ha, .int .u64 la], .agg #[.bool (!n), .int .u64 hb, .int .u64 lb]] w fun e w' => e = .returned (.tuple #[.agg #[.bool rn, .int .u64 rh, .int .u64 rl], er]) ∧ Below w.heap.size w w' := by
  obtain ⟨k0, k1⟩ := bor_range lb la 0
  have e1 := fun W => sub64_0 lb la xb.1 xa.1 xa.2 W
  have e2 := fun W => sub64 hb ha _ wb.1 wa.1 wa.2 k0 k1 W
  clear wa xa wb xb
  cases n
  all_goals
    simp only [Bool.not_true, Bool.not_false] at gb HR
    simp only [Bool.not_true, Bool.not_false]
    go_enter Tryd.func26, Tryd.ntmps26
    go_wp2_with (first | (go_at_call 14; refine (good_any _ _ _ _).mono ?_; rintro e w1 ⟨rfl, rfl⟩) | (go_at_call 23; refine (below_any _ _ _ _ _).mono ?_; rintro e w1 ⟨rfl, rfl⟩) | (go_at_call 38; refine (HR.out _).mono ?_; rintro e w1 ⟨rfl, hb⟩; obtain ⟨hc_hb, hf_hb⟩ := bcell hb; have hs_hb := Below.size hb; (try simp at hs_hb)))
    (try simp only [Exit.inBlock, Exit.then]); refine bodyPost_ret (by simp [results, Tryd.results26, go_sem, *]; try rfl) rfl ?_
    exact ⟨rfl, by (repeat' (first | (with_reducible exact Below.refl _ _) | (refine Below.trans ?_ (Below.mono (by with_reducible assumption) ?_)) | (with_reducible exact Below.refl _ _) | (with_reducible refine below_drewN ?_ _) | (with_reducible refine Below.drew ?_) | (with_reducible refine Below.setCell ?_ ?_ _) | (with_reducible refine Below.alloc ?_ ?_ _) | (with_reducible assumption) | (simp; done) | (simp; omega) | omega))⟩
/-- Add, of right numbers. -/
theorem add_ok (n m : Bool) (ha la hb lb za zb z : Int) (ia : IsD n ha la za) (ib : IsD m hb lb zb) (hz : z = za + zb) (hl : z.natAbs < LIM) (w : World) :
    Calls Tryd.prog 26 #[.agg #[.bool n, .int .u64 ha, .int .u64 la], .agg #[.bool m, .int .u64 hb, .int .u64 lb]] w fun e w' => e = .returned (.tuple #[.agg #[.bool (zn (z)), .int .u64 (zh (z)), .int .u64 (zl (z))], .nilIface]) ∧ Below w.heap.size w w' := by
  subst hz
  have ga := good_of ia
  have gb := good_of ib
  obtain ⟨wa, xa⟩ := ia.words
  obtain ⟨wb, xb⟩ := ib.words
  by_cases hnm : n = m
  · subst hnm
    obtain ⟨s1, s2, s3, k0, k1, s4⟩ := sum_words wa xa wb xb
    obtain ⟨hN, hs⟩ := same_sum ia ib
    exact add_same n _ ha la hb lb _ _ _ wa xa wb xb ga gb (Lib.hid fun W => result_ok n _ _ _ _ (za + zb) s1 s2 s3 Wd.zero hN hs hl W) w
  · obtain rfl : m = !n := by revert hnm; cases n <;> cases m <;> simp
    have e1 := ia.2.2.2.1
    have e2 := ib.2.2.2.1
    have a1 := ia.2.2.1
    have b1 := ib.2.2.1
    have h3 : (za < 0) ↔ ¬ (zb < 0) := by
      rw [e1] at e2
      by_cases h : za < 0 <;> by_cases h' : zb < 0 <;> simp [h, h'] at e2 ⊢
    cases hbl : blw ha la hb lb
    · have hle : hb * 18446744073709551616 + lb ≤ ha * 18446744073709551616 + la := by
        have := (not_congr (blw2_iff xa wa xb wb)).1 (by rw [hbl]; simp)
        omega
      obtain ⟨s1, s2, s4⟩ := dif_words wa xa wb xb hle
      refine add_dif n _ ha la hb lb _ _ _ wa xa wb xb ga gb hbl (Lib.hid fun W => result_ok n _ _ _ _ (za + zb) s1 s2 Wd.zero Wd.zero ?_ ?_ hl W) w
      · rw [s4]; omega
      · rw [e1, decide_eq_decide]; omega
    · have hle : ha * 18446744073709551616 + la < hb * 18446744073709551616 + lb := (blw2_iff xa wa xb wb).1 hbl
      obtain ⟨s1, s2, s4⟩ := dif_words wb xb wa xa (by omega)
      refine add_swap n _ ha la hb lb _ _ _ wa xa wb xb ga gb hbl (Lib.hid fun W => result_ok (!n) _ _ _ _ (za + zb) s1 s2 Wd.zero Wd.zero ?_ ?_ hl W) w
      · rw [s4]; omega
      · rw [e2, decide_eq_decide]; omega
theorem add_over (n m : Bool) (ha la hb lb za zb : Int) (ia : IsD n ha la za) (ib : IsD m hb lb zb) (hl : LIM ≤ (za + zb).natAbs) (w : World) :
    Calls Tryd.prog 26 #[.agg #[.bool n, .int .u64 ha, .int .u64 la], .agg #[.bool m, .int .u64 hb, .int .u64 lb]] w fun e w' => e = .returned (.tuple #[.agg #[.bool false, .int .u64 0, .int .u64 0], .iface 67 (.int .i64 2)]) ∧ Below w.heap.size w w' := by
  have ga := good_of ia
  have gb := good_of ib
  obtain ⟨wa, xa⟩ := ia.words
  obtain ⟨wb, xb⟩ := ib.words
  by_cases hnm : n = m
  · subst hnm
    obtain ⟨s1, s2, s3, k0, k1, s4⟩ := sum_words wa xa wb xb
    obtain ⟨hN, hs⟩ := same_sum ia ib
    exact add_same n _ ha la hb lb _ _ _ wa xa wb xb ga gb (Lib.hid fun W => result_over n _ _ _ _ s1 s2 s3 Wd.zero (by rw [hN]; exact hl) W) w
  · exfalso
    have e1 := ia.2.2.2.1
    have e2 := ib.2.2.2.1
    have a1 := ia.2.2.2.2
    have b1 := ib.2.2.2.2
    have h3 : (za < 0) ↔ ¬ (zb < 0) := by
      have : ¬ (decide (za < 0) = decide (zb < 0)) := by rw [← e1, ← e2]; exact hnm
      rw [decide_eq_decide] at this
      omega
    omega
set_option maxRecDepth 100000 in
set_option maxHeartbeats 400000 in
theorem add_bad (n m : Bool) (ha la hb lb : Int) (hg : goodB n ha la = false ∨ goodB m hb lb = false) (w : World) :
    Calls Tryd.prog 26 #[.agg #[.bool n, .int .u64 ha, .int .u64 la], .agg #[.bool m, .int .u64 hb, .int .u64 lb]] w fun e w' => e = .returned (.tuple #[.agg #[.bool false, .int .u64 0, .int .u64 0], .iface 67 (.int .i64 1)]) ∧ Below w.heap.size w w' := by
  cases ga : goodB n ha la
  · clear hg
    go_enter Tryd.func26, Tryd.ntmps26
    go_wp2_with ((go_at_call 14; refine (good_any _ _ _ _).mono ?_; rintro e w1 ⟨rfl, rfl⟩))
    go_returns
    exact ⟨rfl, by (repeat' (first | (with_reducible exact Below.refl _ _) | (refine Below.trans ?_ (Below.mono (by with_reducible assumption) ?_)) | (with_reducible exact Below.refl _ _) | (with_reducible refine below_drewN ?_ _) | (with_reducible refine Below.drew ?_) | (with_reducible refine Below.setCell ?_ ?_ _) | (with_reducible refine Below.alloc ?_ ?_ _) | (with_reducible assumption) | (simp; done) | (simp; omega) | omega))⟩
  · have gb : goodB m hb lb = false := by rcases hg with h | h; rw [ga] at h; cases h; exact h
    clear hg
    go_enter Tryd.func26, Tryd.ntmps26
    go_wp2_with ((go_at_call 14; refine (good_any _ _ _ _).mono ?_; rintro e w1 ⟨rfl, rfl⟩))
    go_returns
    exact ⟨rfl, by (repeat' (first | (with_reducible exact Below.refl _ _) | (refine Below.trans ?_ (Below.mono (by with_reducible assumption) ?_)) | (with_reducible exact Below.refl _ _) | (with_reducible refine below_drewN ?_ _) | (with_reducible refine Below.drew ?_) | (with_reducible refine Below.setCell ?_ ?_ _) | (with_reducible refine Below.alloc ?_ ?_ _) | (with_reducible assumption) | (simp; done) | (simp; omega) | omega))⟩
end Go.Proofs.YtpkooogfefkcdaaDoor

/- dec.Trunc, Whole. -/
namespace Go.Proofs.YtpkooogfefkcdaaDoor
open Go.RowKit
/-- A number's whole part, in millionths. -/
def truncZ (z : Int) : Int := z.tdiv 1000000 * 1000000
theorem truncZ_abs (z : Int) : ((truncZ z).natAbs : Int) = z.natAbs - (z.natAbs : Int) % 1000000 := by
  unfold truncZ
  rw [Int.natAbs_mul, Int.natAbs_tdiv]
  show (((z.natAbs / 1000000) * 1000000 : Nat) : Int) = _
  omega
theorem truncZ_sign {n : Bool} {z : Int} (hn : n = decide (z < 0)) : truncZ z = 0 ∨ n = decide (truncZ z < 0) := by
  by_cases h : z.tdiv 1000000 = 0
  · left; unfold truncZ; rw [h]; rfl
  · right
    rw [hn, decide_eq_decide]
    have := tdiv_sign (p := z) (k := 1000000) (by decide) h
    unfold truncZ
    omega
theorem tdiv_abs (z : Int) : ((z.tdiv 1000000).natAbs : Int) = (z.natAbs : Int) / 1000000 := by
  rw [Int.natAbs_tdiv]
  show (((z.natAbs / 1000000) : Nat) : Int) = _
  omega
set_option maxRecDepth 100000 in
set_option maxHeartbeats 400000 in
theorem trunc_bad (n : Bool) (h l : Int) (hg : goodB n h l = false) (w : World) :
    Calls Tryd.prog 49 #[.agg #[.bool n, .int .u64 h, .int .u64 l]] w fun e w' => e = .returned (.agg #[.bool false, .int .u64 0, .int .u64 0]) ∧ Below w.heap.size w w' := by
  go_enter Tryd.func49, Tryd.ntmps49
  go_wp2_with ((go_at_call 14; refine (good_any _ _ _ _).mono ?_; rintro e w1 ⟨rfl, rfl⟩))
  go_returns
  exact ⟨rfl, by (repeat' (first | (with_reducible exact Below.refl _ _) | (refine Below.trans ?_ (Below.mono (by with_reducible assumption) ?_)) | (with_reducible exact Below.refl _ _) | (with_reducible refine below_drewN ?_ _) | (with_reducible refine Below.drew ?_) | (with_reducible refine Below.setCell ?_ ?_ _) | (with_reducible refine Below.alloc ?_ ?_ _) | (with_reducible assumption) | (simp; done) | (simp; omega) | omega))⟩
set_option maxRecDepth 100000 in
set_option maxHeartbeats 400000 in
theorem trunc_any (n : Bool) (h l z r : Int) (i : IsD n h l z) (hr : r = (z.natAbs : Int) % 1000000)
    (HR : Hid (∀ W, Calls Tryd.prog 38 #[.bool n, .agg #[.int .u64 ((l - r) % 18446744073709551616), .int .u64 ((h - bor l r 0) % 18446744073709551616), .int .u64 0, .int .u64 0]] W
      fun e w' => e = .returned (.tuple #[.agg #[.bool (zn (truncZ z)), .int .u64 (zh (truncZ z)), .int .u64 (zl (truncZ z))], .nilIface]) ∧ Below W.heap.size W w')) (w : World) :
    Calls Tryd.prog 49 #[.agg #[.bool n, .int .u64 h, .int .u64 l]] w fun e w' => e = .returned (.agg #[.bool (zn (truncZ z)), .int .u64 (zh (truncZ z)), .int .u64 (zl (truncZ z))]) ∧ Below w.heap.size w w' := by
  have ga := good_of i
  obtain ⟨wh, wl⟩ := i.words
  have r0 : 0 ≤ r := by omega
  have r1 : r < 1000000 := by omega
  obtain ⟨k0, k1⟩ := bor_range l r 0
  have e1 := fun W => sub64_0 l r wl.1 r0 (by omega) W
  have e2 := fun W => (by have := sub64 h 0 (bor l r 0) wh.1 (by decide) (by decide) k0 k1 W; rw [Int.sub_zero] at this; exact this : (callFunc 39 #[.int .u64 h, .int .u64 0, .int .u64 (bor l r 0)]).run Tryd.prog W = .ok (.value (.tuple #[.int .u64 ((h - bor l r 0) % 18446744073709551616), .int .u64 (bor h 0 (bor l r 0))])) W)
  have hm : lim4 l h 0 0 % 1000000 = r := by rw [lim4_small, i.2.2.1, hr]
  have HM := Lib.hid hm; clear hm hr
  have S := Lib.hid (small_any l h 0 0 1000000 wl wh Wd.zero Wd.zero (by decide) (by decide))
  clear wh wl i
  go_enter Tryd.func49, Tryd.ntmps49
  go_wp2_with (first | (go_at_call 14; refine (good_any _ _ _ _).mono ?_; rintro e w1 ⟨rfl, rfl⟩) | (go_at_call 60; refine (S.out _).mono ?_; rintro e w2 ⟨s0, s1, s2, s3, s4, rfl, t0, t1, t2, t3, hs, hr, q2⟩; obtain rfl : s4 = r := hr.trans HM.out; clear hs hr; obtain ⟨hc_q2, hf_q2⟩ := bcell q2; have hs_q2 := Below.size q2; (try simp at hs_q2); have kq2_wheapsize_0 : w2.cell? ⟨w.heap.size, 0, none⟩ = some (.bool n) := (Below.cell q2 (by first | (simp; done) | (simp; omega) | omega)).trans (by first | (simp (maxDischargeDepth := 12) [go_sem]; done) | simp (maxDischargeDepth := 12) [go_sem, *]); have gq2_wheapsize_0 : w2.frozen? ⟨w.heap.size, 0, none⟩ = false := (Below.frozen q2 (by first | (simp; done) | (simp; omega) | omega)).trans (by first | (simp (maxDischargeDepth := 12) [go_sem]; done) | simp (maxDischargeDepth := 12) [go_sem, *]); have kq2_wheapsize_1 : w2.cell? ⟨w.heap.size, 1, none⟩ = some (.int .u64 h) := (Below.cell q2 (by first | (simp; done) | (simp; omega) | omega)).trans (by first | (simp (maxDischargeDepth := 12) [go_sem]; done) | simp (maxDischargeDepth := 12) [go_sem, *]); have gq2_wheapsize_1 : w2.frozen? ⟨w.heap.size, 1, none⟩ = false := (Below.frozen q2 (by first | (simp; done) | (simp; omega) | omega)).trans (by first | (simp (maxDischargeDepth := 12) [go_sem]; done) | simp (maxDischargeDepth := 12) [go_sem, *]); have kq2_wheapsize_2 : w2.cell? ⟨w.heap.size, 2, none⟩ = some (.int .u64 l) := (Below.cell q2 (by first | (simp; done) | (simp; omega) | omega)).trans (by first | (simp (maxDischargeDepth := 12) [go_sem]; done) | simp (maxDischargeDepth := 12) [go_sem, *]); have gq2_wheapsize_2 : w2.frozen? ⟨w.heap.size, 2, none⟩ = false := (Below.frozen q2 (by first | (simp; done) | (simp; omega) | omega)).trans (by first | (simp (maxDischargeDepth := 12) [go_sem]; done) | simp (maxDischargeDepth := 12) [go_sem, *]); have lq2_wheapsize : w.heap.size < w2.heap.size := (by first | omega | (have := Below.size q2; simp at this; omega)); have lq2_wheapsize' : w.heap.size < w2.heap.size + 1 := Nat.lt_succ_of_lt lq2_wheapsize; have lq2_wheapsize'' : w.heap.size < w2.heap.size + 1 + 1 := Nat.lt_succ_of_lt lq2_wheapsize'; have kq2_wheapsize1_0 : w2.cell? ⟨w.heap.size + 1, 0, none⟩ = some (.bool false) := (Below.cell q2 (by first | (simp; done) | (simp; omega) | omega)).trans (by first | (simp (maxDischargeDepth := 12) [go_sem]; done) | simp (maxDischargeDepth := 12) [go_sem, *]); have gq2_wheapsize1_0 : w2.frozen? ⟨w.heap.size + 1, 0, none⟩ = false := (Below.frozen q2 (by first | (simp; done) | (simp; omega) | omega)).trans (by first | (simp (maxDischargeDepth := 12) [go_sem]; done) | simp (maxDischargeDepth := 12) [go_sem, *]); have kq2_wheapsize1_1 : w2.cell? ⟨w.heap.size + 1, 1, none⟩ = some (.int .u64 0) := (Below.cell q2 (by first | (simp; done) | (simp; omega) | omega)).trans (by first | (simp (maxDischargeDepth := 12) [go_sem]; done) | simp (maxDischargeDepth := 12) [go_sem, *]); have gq2_wheapsize1_1 : w2.frozen? ⟨w.heap.size + 1, 1, none⟩ = false := (Below.frozen q2 (by first | (simp; done) | (simp; omega) | omega)).trans (by first | (simp (maxDischargeDepth := 12) [go_sem]; done) | simp (maxDischargeDepth := 12) [go_sem, *]); have kq2_wheapsize1_2 : w2.cell? ⟨w.heap.size + 1, 2, none⟩ = some (.int .u64 0) := (Below.cell q2 (by first | (simp; done) | (simp; omega) | omega)).trans (by first | (simp (maxDischargeDepth := 12) [go_sem]; done) | simp (maxDischargeDepth := 12) [go_sem, *]); have gq2_wheapsize1_2 : w2.frozen? ⟨w.heap.size + 1, 2, none⟩ = false := (Below.frozen q2 (by first | (simp; done) | (simp; omega) | omega)).trans (by first | (simp (maxDischargeDepth := 12) [go_sem]; done) | simp (maxDischargeDepth := 12) [go_sem, *]); have lq2_wheapsize1 : w.heap.size + 1 < w2.heap.size := (by first | omega | (have := Below.size q2; simp at this; omega)); have lq2_wheapsize1' : w.heap.size + 1 < w2.heap.size + 1 := Nat.lt_succ_of_lt lq2_wheapsize1; have lq2_wheapsize1'' : w.heap.size + 1 < w2.heap.size + 1 + 1 := Nat.lt_succ_of_lt lq2_wheapsize1') | (go_at_call 38; refine (HR.out _).mono ?_; rintro e w3 ⟨rfl, q3⟩; obtain ⟨hc_q3, hf_q3⟩ := bcell q3; have hs_q3 := Below.size q3; (try simp at hs_q3); have kq3_wheapsize1_0 : w3.cell? ⟨w.heap.size + 1, 0, none⟩ = some (.bool false) := (Below.cell q3 (by first | (simp; done) | (simp; omega) | omega)).trans (by first | (simp (maxDischargeDepth := 12) [go_sem]; done) | simp (maxDischargeDepth := 12) [go_sem, *]); have gq3_wheapsize1_0 : w3.frozen? ⟨w.heap.size + 1, 0, none⟩ = false := (Below.frozen q3 (by first | (simp; done) | (simp; omega) | omega)).trans (by first | (simp (maxDischargeDepth := 12) [go_sem]; done) | simp (maxDischargeDepth := 12) [go_sem, *]); have kq3_wheapsize1_1 : w3.cell? ⟨w.heap.size + 1, 1, none⟩ = some (.int .u64 0) := (Below.cell q3 (by first | (simp; done) | (simp; omega) | omega)).trans (by first | (simp (maxDischargeDepth := 12) [go_sem]; done) | simp (maxDischargeDepth := 12) [go_sem, *]); have gq3_wheapsize1_1 : w3.frozen? ⟨w.heap.size + 1, 1, none⟩ = false := (Below.frozen q3 (by first | (simp; done) | (simp; omega) | omega)).trans (by first | (simp (maxDischargeDepth := 12) [go_sem]; done) | simp (maxDischargeDepth := 12) [go_sem, *]); have kq3_wheapsize1_2 : w3.cell? ⟨w.heap.size + 1, 2, none⟩ = some (.int .u64 0) := (Below.cell q3 (by first | (simp; done) | (simp; omega) | omega)).trans (by first | (simp (maxDischargeDepth := 12) [go_sem]; done) | simp (maxDischargeDepth := 12) [go_sem, *]); have gq3_wheapsize1_2 : w3.frozen? ⟨w.heap.size + 1, 2, none⟩ = false := (Below.frozen q3 (by first | (simp; done) | (simp; omega) | omega)).trans (by first | (simp (maxDischargeDepth := 12) [go_sem]; done) | simp (maxDischargeDepth := 12) [go_sem, *]); have lq3_wheapsize1 : w.heap.size + 1 < w3.heap.size := (by first | omega | (have := Below.size q3; simp at this; omega)); have lq3_wheapsize1' : w.heap.size + 1 < w3.heap.size + 1 := Nat.lt_succ_of_lt lq3_wheapsize1; have lq3_wheapsize1'' : w.heap.size + 1 < w3.heap.size + 1 + 1 := Nat.lt_succ_of_lt lq3_wheapsize1'))
  (try simp only [Exit.inBlock, Exit.then]); refine bodyPost_ret (by simp [results, Tryd.results49, go_sem, *]; try rfl) rfl ?_
  exact ⟨rfl, by (repeat' (first | (with_reducible exact Below.refl _ _) | (refine Below.trans ?_ (Below.mono (by with_reducible assumption) ?_)) | (with_reducible exact Below.refl _ _) | (with_reducible refine below_drewN ?_ _) | (with_reducible refine Below.drew ?_) | (with_reducible refine Below.setCell ?_ ?_ _) | (with_reducible refine Below.alloc ?_ ?_ _) | (with_reducible assumption) | (simp; done) | (simp; omega) | omega))⟩
theorem trunc_ok (n : Bool) (h l z : Int) (i : IsD n h l z) (w : World) :
    Calls Tryd.prog 49 #[.agg #[.bool n, .int .u64 h, .int .u64 l]] w fun e w' => e = .returned (.agg #[.bool (zn (truncZ z)), .int .u64 (zh (truncZ z)), .int .u64 (zl (truncZ z))]) ∧ Below w.heap.size w w' := by
  obtain ⟨wh, wl⟩ := i.words
  have hz := i.2.2.1
  have hL := i.2.2.2.2
  have ha := truncZ_abs z
  have hw := dif_words (ha := h) (la := l) (hb := 0) (lb := (z.natAbs : Int) % 1000000) wh wl Wd.zero ⟨by omega, by omega⟩ (by omega)
  rw [Int.sub_zero] at hw
  obtain ⟨s1, s2, s4⟩ := hw
  refine trunc_any n h l z _ i rfl (Lib.hid fun W => result_ok n _ _ _ _ (truncZ z) s1 s2 Wd.zero Wd.zero ?_ (truncZ_sign i.2.2.2.1) (by omega) W) w
  rw [s4]; omega
set_option maxRecDepth 100000 in
set_option maxHeartbeats 400000 in
theorem whole_bad (n : Bool) (h l : Int) (hg : goodB n h l = false) (w : World) :
    Calls Tryd.prog 48 #[.agg #[.bool n, .int .u64 h, .int .u64 l]] w fun e w' => e = .returned (.tuple #[.int .i64 0, .bool false]) ∧ Below w.heap.size w w' := by
  go_enter Tryd.func48, Tryd.ntmps48
  go_wp2_with ((go_at_call 14; refine (good_any _ _ _ _).mono ?_; rintro e w1 ⟨rfl, rfl⟩))
  go_returns
  exact ⟨rfl, by (repeat' (first | (with_reducible exact Below.refl _ _) | (refine Below.trans ?_ (Below.mono (by with_reducible assumption) ?_)) | (with_reducible exact Below.refl _ _) | (with_reducible refine below_drewN ?_ _) | (with_reducible refine Below.drew ?_) | (with_reducible refine Below.setCell ?_ ?_ _) | (with_reducible refine Below.alloc ?_ ?_ _) | (with_reducible assumption) | (simp; done) | (simp; omega) | omega))⟩
/-- The quotient's two lower words. -/
theorem q_words {a b c d z : Int} (ha : Wd a) (hb : Wd b) (hc : Wd c) (hd : Wd d) (hz : lim4 a b c d = z.natAbs / 1000000) (hl : z.natAbs < LIM) : d = 0 ∧ c = 0 ∧ b * 18446744073709551616 + a = ((z.tdiv 1000000).natAbs : Int) := by
  have := tdiv_abs z
  obtain ⟨a1, a2⟩ := ha; obtain ⟨b1, b2⟩ := hb; obtain ⟨c1, c2⟩ := hc; obtain ⟨d1, d2⟩ := hd
  unfold lim4 at hz
  unfold LIM at hl
  omega
theorem wrap_back (a : Int) (h0 : 0 ≤ a) (h1 : a ≤ 9223372036854775808) : wrap64 (IntKind.u64.wrap (-a)) = -a := by
  simp only [IntKind.wrap_u64, wrap64]; omega
set_option maxRecDepth 100000 in
set_option maxHeartbeats 800000 in
theorem whole_any (n : Bool) (h l z : Int) (i : IsD n h l z) (w : World) :
    Calls Tryd.prog 48 #[.agg #[.bool n, .int .u64 h, .int .u64 l]] w fun e w' => (∃ (k : Int) (ok : Bool), e = .returned (.tuple #[.int .i64 k, .bool ok]) ∧ (if -9223372036854775808 ≤ z.tdiv 1000000 ∧ z.tdiv 1000000 < 9223372036854775808 then k = z.tdiv 1000000 ∧ ok = true else k = 0 ∧ ok = false)) ∧ Below w.heap.size w w' := by
  have ga := good_of i
  obtain ⟨wh, wl⟩ := i.words
  have hz : lim4 l h 0 0 / 1000000 = z.natAbs / 1000000 := by rw [lim4_small, i.2.2.1]
  have hL := i.2.2.2.2
  have hn := i.2.2.2.1
  refine Calls.mono (R := fun e w' => (∃ q0 q1 q2 q3 : Int, Wd q0 ∧ Wd q1 ∧ Wd q2 ∧ Wd q3 ∧ lim4 q0 q1 q2 q3 = z.natAbs / 1000000 ∧ e = .returned (.tuple (if q1 = 0 ∧ n = true ∧ q0 ≤ 9223372036854775808 then #[.int .i64 (-q0), .bool true] else if q1 = 0 ∧ n = false ∧ q0 < 9223372036854775808 then #[.int .i64 q0, .bool true] else #[.int .i64 0, .bool false]))) ∧ Below w.heap.size w w') ?_ ?_
  · have S := Lib.hid (small_any l h 0 0 1000000 wl wh Wd.zero Wd.zero (by decide) (by decide))
    have HZ := Lib.hid hz
    clear wh wl i hz hL hn
    cases n
    · go_enter Tryd.func48, Tryd.ntmps48
      go_wp2_with (first | (go_at_call 14; refine (good_any _ _ _ _).mono ?_; rintro e w1 ⟨rfl, rfl⟩) | (go_at_call 60; refine (S.out _).mono ?_; rintro e w2 ⟨q0, q1, q2, q3, s4, rfl, t0, t1, t2, t3, hs, hr, b2⟩; have HS := Lib.hid (hs.trans HZ.out); clear hs hr; have c0 := t0.1; have c1 := t0.2; obtain ⟨hc_b2, hf_b2⟩ := bcell b2; have hs_b2 := Below.size b2; (try simp at hs_b2); have kb2_wheapsize_0 : w2.cell? ⟨w.heap.size, 0, none⟩ = some (.bool false) := (Below.cell b2 (by first | (simp; done) | (simp; omega) | omega)).trans (by first | (simp (maxDischargeDepth := 12) [go_sem]; done) | simp (maxDischargeDepth := 12) [go_sem, *]); have gb2_wheapsize_0 : w2.frozen? ⟨w.heap.size, 0, none⟩ = false := (Below.frozen b2 (by first | (simp; done) | (simp; omega) | omega)).trans (by first | (simp (maxDischargeDepth := 12) [go_sem]; done) | simp (maxDischargeDepth := 12) [go_sem, *]); have kb2_wheapsize_1 : w2.cell? ⟨w.heap.size, 1, none⟩ = some (.int .u64 h) := (Below.cell b2 (by first | (simp; done) | (simp; omega) | omega)).trans (by first | (simp (maxDischargeDepth := 12) [go_sem]; done) | simp (maxDischargeDepth := 12) [go_sem, *]); have gb2_wheapsize_1 : w2.frozen? ⟨w.heap.size, 1, none⟩ = false := (Below.frozen b2 (by first | (simp; done) | (simp; omega) | omega)).trans (by first | (simp (maxDischargeDepth := 12) [go_sem]; done) | simp (maxDischargeDepth := 12) [go_sem, *]); have kb2_wheapsize_2 : w2.cell? ⟨w.heap.size, 2, none⟩ = some (.int .u64 l) := (Below.cell b2 (by first | (simp; done) | (simp; omega) | omega)).trans (by first | (simp (maxDischargeDepth := 12) [go_sem]; done) | simp (maxDischargeDepth := 12) [go_sem, *]); have gb2_wheapsize_2 : w2.frozen? ⟨w.heap.size, 2, none⟩ = false := (Below.frozen b2 (by first | (simp; done) | (simp; omega) | omega)).trans (by first | (simp (maxDischargeDepth := 12) [go_sem]; done) | simp (maxDischargeDepth := 12) [go_sem, *]); have lb2_wheapsize : w.heap.size < w2.heap.size := (by first | omega | (have := Below.size b2; simp at this; omega)); have lb2_wheapsize' : w.heap.size < w2.heap.size + 1 := Nat.lt_succ_of_lt lb2_wheapsize; have lb2_wheapsize'' : w.heap.size < w2.heap.size + 1 + 1 := Nat.lt_succ_of_lt lb2_wheapsize'))
      all_goals (go_returns; refine ⟨⟨q0, q1, q2, q3, t0, t1, t2, t3, HS.out, ?_⟩, by (repeat' (first | (with_reducible exact Below.refl _ _) | (refine Below.trans ?_ (Below.mono (by with_reducible assumption) ?_)) | (with_reducible exact Below.refl _ _) | (with_reducible refine below_drewN ?_ _) | (with_reducible refine Below.drew ?_) | (with_reducible refine Below.setCell ?_ ?_ _) | (with_reducible refine Below.alloc ?_ ?_ _) | (with_reducible assumption) | (simp; done) | (simp; omega) | omega))⟩)
      · have : ¬ q1 = 0 := by simpa using ‹(q1 != 0) = true›
        simp [this]
      · have : q1 = 0 := by simpa using ‹(q1 != 0) = false›
        have : q0 < 9223372036854775808 := by assumption
        simp [*]
      · have : q1 = 0 := by simpa using ‹(q1 != 0) = false›
        have : ¬ q0 < 9223372036854775808 := by omega
        simp [*]
    · have hw : ∀ q0, 0 ≤ q0 → q0 ≤ 9223372036854775808 → wrap64 (IntKind.u64.wrap (-q0)) = -q0 := wrap_back
      have HW := Lib.hid hw; clear hw
      go_enter Tryd.func48, Tryd.ntmps48
      go_wp2_with (first | (go_at_call 14; refine (good_any _ _ _ _).mono ?_; rintro e w1 ⟨rfl, rfl⟩) | (go_at_call 60; refine (S.out _).mono ?_; rintro e w2 ⟨q0, q1, q2, q3, s4, rfl, t0, t1, t2, t3, hs, hr, b2⟩; have HS := Lib.hid (hs.trans HZ.out); clear hs hr; have c0 := t0.1; have c1 := t0.2; obtain ⟨hc_b2, hf_b2⟩ := bcell b2; have hs_b2 := Below.size b2; (try simp at hs_b2); have kb2_wheapsize_0 : w2.cell? ⟨w.heap.size, 0, none⟩ = some (.bool true) := (Below.cell b2 (by first | (simp; done) | (simp; omega) | omega)).trans (by first | (simp (maxDischargeDepth := 12) [go_sem]; done) | simp (maxDischargeDepth := 12) [go_sem, *]); have gb2_wheapsize_0 : w2.frozen? ⟨w.heap.size, 0, none⟩ = false := (Below.frozen b2 (by first | (simp; done) | (simp; omega) | omega)).trans (by first | (simp (maxDischargeDepth := 12) [go_sem]; done) | simp (maxDischargeDepth := 12) [go_sem, *]); have kb2_wheapsize_1 : w2.cell? ⟨w.heap.size, 1, none⟩ = some (.int .u64 h) := (Below.cell b2 (by first | (simp; done) | (simp; omega) | omega)).trans (by first | (simp (maxDischargeDepth := 12) [go_sem]; done) | simp (maxDischargeDepth := 12) [go_sem, *]); have gb2_wheapsize_1 : w2.frozen? ⟨w.heap.size, 1, none⟩ = false := (Below.frozen b2 (by first | (simp; done) | (simp; omega) | omega)).trans (by first | (simp (maxDischargeDepth := 12) [go_sem]; done) | simp (maxDischargeDepth := 12) [go_sem, *]); have kb2_wheapsize_2 : w2.cell? ⟨w.heap.size, 2, none⟩ = some (.int .u64 l) := (Below.cell b2 (by first | (simp; done) | (simp; omega) | omega)).trans (by first | (simp (maxDischargeDepth := 12) [go_sem]; done) | simp (maxDischargeDepth := 12) [go_sem, *]); have gb2_wheapsize_2 : w2.frozen? ⟨w.heap.size, 2, none⟩ = false := (Below.frozen b2 (by first | (simp; done) | (simp; omega) | omega)).trans (by first | (simp (maxDischargeDepth := 12) [go_sem]; done) | simp (maxDischargeDepth := 12) [go_sem, *]); have lb2_wheapsize : w.heap.size < w2.heap.size := (by first | omega | (have := Below.size b2; simp at this; omega)); have lb2_wheapsize' : w.heap.size < w2.heap.size + 1 := Nat.lt_succ_of_lt lb2_wheapsize; have lb2_wheapsize'' : w.heap.size < w2.heap.size + 1 + 1 := Nat.lt_succ_of_lt lb2_wheapsize'))
      all_goals (go_returns; refine ⟨⟨q0, q1, q2, q3, t0, t1, t2, t3, HS.out, ?_⟩, by (repeat' (first | (with_reducible exact Below.refl _ _) | (refine Below.trans ?_ (Below.mono (by with_reducible assumption) ?_)) | (with_reducible exact Below.refl _ _) | (with_reducible refine below_drewN ?_ _) | (with_reducible refine Below.drew ?_) | (with_reducible refine Below.setCell ?_ ?_ _) | (with_reducible refine Below.alloc ?_ ?_ _) | (with_reducible assumption) | (simp; done) | (simp; omega) | omega))⟩)
      · have : ¬ q1 = 0 := by simpa using ‹(q1 != 0) = true›
        simp [this]
      · have : q1 = 0 := by simpa using ‹(q1 != 0) = false›
        have h9 : q0 ≤ 9223372036854775808 := by assumption
        have hv := HW.out q0 c0 h9
        simp [*]
      · have : q1 = 0 := by simpa using ‹(q1 != 0) = false›
        have : ¬ q0 ≤ 9223372036854775808 := by omega
        simp [*]
  · rintro e w' ⟨⟨q0, q1, q2, q3, t0, t1, t2, t3, hN, rfl⟩, hb⟩
    obtain ⟨rfl, rfl, hq⟩ := q_words t0 t1 t2 t3 hN hL
    have hs := fun hne => tdiv_sign (p := z) (k := 1000000) (by decide) hne
    refine ⟨?_, hb⟩
    obtain ⟨a1, a2⟩ := t0; obtain ⟨b1, b2⟩ := t1
    generalize hk : z.tdiv 1000000 = k at *
    by_cases hin : -9223372036854775808 ≤ k ∧ k < 9223372036854775808
    · obtain rfl : q1 = 0 := by omega
      by_cases hz0 : z < 0
      · obtain rfl : n = true := by rw [hn]; simpa using hz0
        have e1 : -q0 = k := by
          by_cases hk0 : k = 0
          · omega
          · have := (hs hk0).2 hz0; omega
        refine ⟨k, true, ?_, by rw [if_pos hin]; exact ⟨rfl, rfl⟩⟩
        rw [if_pos ⟨rfl, rfl, by omega⟩, e1]
      · obtain rfl : n = false := by rw [hn]; simpa using hz0
        have e1 : q0 = k := by
          by_cases hk0 : k = 0
          · omega
          · have := hs hk0; omega
        refine ⟨k, true, ?_, by rw [if_pos hin]; exact ⟨rfl, rfl⟩⟩
        rw [if_neg (by simp), if_pos ⟨rfl, rfl, by omega⟩, e1]
    · refine ⟨0, false, ?_, by rw [if_neg hin]; exact ⟨rfl, rfl⟩⟩
      rw [if_neg, if_neg]
      · rintro ⟨h1, h2, h3⟩
        subst h1; rw [h2] at hn
        have hz0 : ¬ z < 0 := by symm at hn; simpa using hn
        by_cases hk0 : k = 0
        · omega
        · have := hs hk0; omega
      · rintro ⟨h1, h2, h3⟩
        subst h1; rw [h2] at hn
        have hz0 : z < 0 := by symm at hn; simpa using hn
        by_cases hk0 : k = 0
        · omega
        · have := hs hk0; omega
end Go.Proofs.YtpkooogfefkcdaaDoor
