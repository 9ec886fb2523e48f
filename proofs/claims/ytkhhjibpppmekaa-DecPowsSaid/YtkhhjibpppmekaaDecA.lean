/- The walks of dec.below and dec.Good: what each call returns, in whatever world. -/
import Derived.Test.YtkhhjibpppmekaaKit
namespace Go.Proofs.Ytkhhjibpppmekaa
open Go.RowKit

def blw (aH aL bH bL : Int) : Bool := decide (aH < bH) || (aH == bH && decide (aL < bL))

set_option maxHeartbeats 400000 in
theorem below_any (aH aL bH bL : Int) (w : World) :
    Calls Try.prog 65 #[.int .u64 aH, .int .u64 aL, .int .u64 bH, .int .u64 bL] w fun e w' => e = .returned (.bool (blw aH aL bH bL)) ∧ w = w' := by
  by_cases h1 : aH < bH
  · have e1 : blw aH aL bH bL = true := by simp [blw, h1]
    rw [e1]; clear e1
    go_enter Try.func65, Try.ntmps65
    go_wp2
    go_ret
    exact ⟨rfl, rfl⟩
  · by_cases h2 : aH = bH
    · subst h2
      have e1 : blw aH aL aH bL = decide (aL < bL) := by simp [blw]
      rw [e1]; clear e1 h1
      go_enter Try.func65, Try.ntmps65
      go_wp2
      go_ret
      exact ⟨rfl, rfl⟩
    · have e1 : blw aH aL bH bL = false := by simp [blw, h1, h2]
      rw [e1]; clear e1
      have h3 : (aH == bH) = false := by simpa using h2
      clear h2
      go_enter Try.func65, Try.ntmps65
      go_wp2
      go_ret
      exact ⟨rfl, rfl⟩
theorem below_q (aH aL bH bL : Int) (w : World) :
    Calls Try.prog 65 #[.int .u64 aH, .int .u64 aL, .int .u64 bH, .int .u64 bL] w fun e w' => e = .returned (.bool (blw aH aL bH bL)) ∧ w' = w :=
  (below_any aH aL bH bL w).mono fun _ _ ⟨he, hw⟩ => ⟨he, hw.symm⟩

def goodB (neg : Bool) (hi lo : Int) : Bool := blw hi lo 54210108624275221 12919594847110692864 && !(neg && hi == 0 && lo == 0)

set_option maxHeartbeats 400000 in
theorem good_any (neg : Bool) (hi lo : Int) (w : World) :
    Calls Try.prog 31 #[.agg #[.bool neg, .int .u64 hi, .int .u64 lo]] w fun e w' => e = .returned (.bool (goodB neg hi lo)) ∧ w.alloc (.cells #[.bool neg, .int .u64 hi, .int .u64 lo] 24) = w' := by
  have hg : goodB neg hi lo = (blw hi lo 54210108624275221 12919594847110692864 && !(neg && hi == 0 && lo == 0)) := rfl
  cases h1 : blw hi lo 54210108624275221 12919594847110692864
  all_goals
    rw [h1] at hg
    have HG := Lib.hid hg; clear hg
    go_enter Try.func31, Try.ntmps31
    go_wp2_with (go_at_call 65; refine (below_any _ _ _ _ _).mono ?_; rintro e w' ⟨rfl, rfl⟩)
    all_goals (go_ret; exact ⟨by rw [HG.out]; simp [*], by simp [*]⟩)
end Go.Proofs.Ytkhhjibpppmekaa
