/- dec.Sub, Cmp. -/
import Derived.Test.YtkhhjibpppmekaaDecC
namespace Go.Proofs.Ytkhhjibpppmekaa
open Go.RowKit
theorem IsD.neg {n : Bool} {h l z : Int} (i : IsD n h l z) : IsD (zn (-z)) (zh (-z)) (zl (-z)) (-z) := IsD.of (by have := i.2.2.2.2; omega)
set_option maxRecDepth 100000 in
set_option maxHeartbeats 400000 in
theorem cmp_bad (n m : Bool) (ha la hb lb : Int) (hg : goodB n ha la = false ∨ goodB m hb lb = false) (w : World) :
    Calls Try.prog 48 #[.agg #[.bool n, .int .u64 ha, .int .u64 la], .agg #[.bool m, .int .u64 hb, .int .u64 lb]] w fun e w' => e = .returned (.int .i64 0) ∧ Below w.heap.size w w' := by
  cases ga : goodB n ha la
  · clear hg
    go_enter Try.func48, Try.ntmps48
    go_wp2_with ((go_at_call 31; refine (good_any _ _ _ _).mono ?_; rintro e w1 ⟨rfl, rfl⟩))
    go_returns
    exact ⟨rfl, by (repeat' (first | (with_reducible exact Below.refl _ _) | (refine Below.trans ?_ (Below.mono (by with_reducible assumption) ?_)) | (with_reducible exact Below.refl _ _) | (with_reducible refine below_drewN ?_ _) | (with_reducible refine Below.drew ?_) | (with_reducible refine Below.setCell ?_ ?_ _) | (with_reducible refine Below.alloc ?_ ?_ _) | (with_reducible assumption) | (simp; done) | (simp; omega) | omega))⟩
  · have gb : goodB m hb lb = false := by rcases hg with h | h; rw [ga] at h; cases h; exact h
    clear hg
    go_enter Try.func48, Try.ntmps48
    go_wp2_with ((go_at_call 31; refine (good_any _ _ _ _).mono ?_; rintro e w1 ⟨rfl, rfl⟩))
    go_returns
    exact ⟨rfl, by (repeat' (first | (with_reducible exact Below.refl _ _) | (refine Below.trans ?_ (Below.mono (by with_reducible assumption) ?_)) | (with_reducible exact Below.refl _ _) | (with_reducible refine below_drewN ?_ _) | (with_reducible refine Below.drew ?_) | (with_reducible refine Below.setCell ?_ ?_ _) | (with_reducible refine Below.alloc ?_ ?_ _) | (with_reducible assumption) | (simp; done) | (simp; omega) | omega))⟩
def cmpZ (a b : Int) : Int := if a < b then -1 else if a = b then 0 else 1
set_option maxRecDepth 100000 in
set_option maxHeartbeats 400000 in
theorem cmp_ok (n m : Bool) (ha la hb lb za zb : Int) (ia : IsD n ha la za) (ib : IsD m hb lb zb) (w : World) :
    Calls Try.prog 48 #[.agg #[.bool n, .int .u64 ha, .int .u64 la], .agg #[.bool m, .int .u64 hb, .int .u64 lb]] w fun e w' => e = .returned (.int .i64 (cmpZ za zb)) ∧ Below w.heap.size w w' := by
  have ga := good_of ia
  have gb := good_of ib
  obtain ⟨wa, xa⟩ := ia.words
  obtain ⟨wb, xb⟩ := ib.words
  have e1 := ia.2.2.2.1
  have e2 := ib.2.2.2.1
  have a1 := ia.2.2.1
  have b1 := ib.2.2.1
  by_cases hz : za = zb
  · subst hz
    obtain ⟨rfl, rfl, rfl⟩ := ia.eq
    obtain ⟨rfl, rfl, rfl⟩ := ib.eq
    have hc : cmpZ za za = 0 := by simp [cmpZ]
    rw [hc]; clear hc e1 e2 a1 b1 wa xa wb xb gb ia ib
    go_enter Try.func48, Try.ntmps48
    go_wp2_with ((go_at_call 31; refine (good_any _ _ _ _).mono ?_; rintro e w1 ⟨rfl, rfl⟩))
    go_returns
    exact ⟨rfl, by (repeat' (first | (with_reducible exact Below.refl _ _) | (refine Below.trans ?_ (Below.mono (by with_reducible assumption) ?_)) | (with_reducible exact Below.refl _ _) | (with_reducible refine below_drewN ?_ _) | (with_reducible refine Below.drew ?_) | (with_reducible refine Below.setCell ?_ ?_ _) | (with_reducible refine Below.alloc ?_ ?_ _) | (with_reducible assumption) | (simp; done) | (simp; omega) | omega))⟩
  · by_cases hnm : n = m
    · subst hnm
      have h3 : (za < 0) ↔ (zb < 0) := by
        have : decide (za < 0) = decide (zb < 0) := by rw [← e1, ← e2]
        rwa [decide_eq_decide] at this
      have hc : cmpZ za zb = (if blw ha la hb lb = n then 1 else -1) := by
        have hbw := blw2_iff xa wa xb wb
        unfold cmpZ
        rw [if_neg hz]
        cases n
        · have : ¬ za < 0 := by symm at e1; rwa [decide_eq_false_iff_not] at e1
          cases h : blw ha la hb lb
          · rw [h] at hbw; simp at hbw ⊢; omega
          · rw [h] at hbw; simp at hbw ⊢; omega
        · have : za < 0 := by symm at e1; rwa [decide_eq_true_eq] at e1
          cases h : blw ha la hb lb
          · rw [h] at hbw; simp at hbw ⊢; omega
          · rw [h] at hbw; simp at hbw ⊢; omega
      rw [hc]; clear hc
      have hne : ha ≠ hb ∨ la ≠ lb := by
        by_cases h1 : ha = hb
        · right; intro h2; subst h1; subst h2; omega
        · left; exact h1
      clear e1 e2 a1 b1 wa xa wb xb ia ib h3 hz
      cases hl : blw ha la hb lb <;> cases n <;> rcases hne with h1 | h1
      all_goals
        have h2 := beq_eq_false_iff_ne.2 h1
        clear h1
        go_enter Try.func48, Try.ntmps48
        go_wp2_with ((go_at_call 31; refine (good_any _ _ _ _).mono ?_; rintro e w1 ⟨rfl, rfl⟩))
        go_quiet ((go_at_call 65; exact Calls.quiet_of_same (below_q _ _ _ _ _)))
        go_wp2
        all_goals (go_returns; exact ⟨rfl, by (repeat' (first | (with_reducible exact Below.refl _ _) | (refine Below.trans ?_ (Below.mono (by with_reducible assumption) ?_)) | (with_reducible exact Below.refl _ _) | (with_reducible refine below_drewN ?_ _) | (with_reducible refine Below.drew ?_) | (with_reducible refine Below.setCell ?_ ?_ _) | (with_reducible refine Below.alloc ?_ ?_ _) | (with_reducible assumption) | (simp; done) | (simp; omega) | omega))⟩)
    · obtain rfl : m = !n := by revert hnm; cases n <;> cases m <;> simp
      have hc : cmpZ za zb = (if n then -1 else 1) := by
        unfold cmpZ
        cases n
        · have : ¬ za < 0 := by symm at e1; rwa [decide_eq_false_iff_not] at e1
          have : zb < 0 := by symm at e2; simpa using e2
          rw [if_neg (by omega), if_neg (by omega)]; rfl
        · have : za < 0 := by symm at e1; rwa [decide_eq_true_eq] at e1
          have : ¬ zb < 0 := by symm at e2; simpa using e2
          rw [if_pos (by omega)]; rfl
      rw [hc]; clear hc e1 e2 a1 b1 wa xa wb xb ia ib hz hnm
      cases n
      all_goals
        simp only [Bool.not_true, Bool.not_false] at gb
        simp only [Bool.not_true, Bool.not_false]
        go_enter Try.func48, Try.ntmps48
        go_wp2_with (first | (go_at_call 31; refine (good_any _ _ _ _).mono ?_; rintro e w1 ⟨rfl, rfl⟩) | (go_at_call 65; refine (below_any _ _ _ _ _).mono ?_; rintro e w1 ⟨rfl, rfl⟩))
        all_goals (go_returns; exact ⟨rfl, by (repeat' (first | (with_reducible exact Below.refl _ _) | (refine Below.trans ?_ (Below.mono (by with_reducible assumption) ?_)) | (with_reducible exact Below.refl _ _) | (with_reducible refine below_drewN ?_ _) | (with_reducible refine Below.drew ?_) | (with_reducible refine Below.setCell ?_ ?_ _) | (with_reducible refine Below.alloc ?_ ?_ _) | (with_reducible assumption) | (simp; done) | (simp; omega) | omega))⟩)
end Go.Proofs.Ytkhhjibpppmekaa
