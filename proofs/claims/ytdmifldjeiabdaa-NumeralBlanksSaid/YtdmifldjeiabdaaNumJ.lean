/- fieldfarelaw02.awake. -/
import Derived.Test.YtdmifldjeiabdaaNumI
import Derived.Test.YtdmifldjeiabdaaByt
import Derived.Test.YtdmifldjeiabdaaNumF
import Derived.Test.YtdmifldjeiabdaaNumG
import Derived.Lib.SlBytesConst
namespace Go.Proofs.Ytdmifldjeiabdaa
open Go.RowKit
def c1 : List Nat := [32, 45, 49, 50, 46, 53, 48, 120]
theorem prefix_c1 (w : World) (f : Nat × Nat) :
    Calls Try.prog 22 #[.slice (some ⟨w.heap.size, 0, none⟩) 8 8] (w.alloc (.cells #[.int .u8 32, .int .u8 45, .int .u8 49, .int .u8 50, .int .u8 46, .int .u8 53, .int .u8 48, .int .u8 120] 5 f)) fun e w' => e = .returned (.tuple #[.agg #[.bool true, .int .u64 0, .int .u64 12500000], .int .i64 7, .nilIface]) ∧ Below w.heap.size w w' := by
  have h := prefix_any (some ⟨w.heap.size, 0, none⟩) 8 c1 (w.alloc (.cells (nums c1) 5 f)) (w.heap.size + 1) (by simp) (rb_row w c1 (by decide) _ f) (by decide) (by decide)
  refine Calls.mono h fun e w' ⟨he, hb⟩ => ⟨?_, ((Below.refl _ _).alloc (Nat.le_refl _) _).trans (hb.mono (by simp))⟩
  rcases he with ⟨h, _⟩ | ⟨_, h, _⟩ | ⟨_, _, he⟩
  · exact absurd h (by decide)
  · exact absurd h (by decide)
  · rw [he, show pz c1 = -12500000 by decide, show nI3 c1 = 7 by decide]
    rfl
def c2 : List Nat := [32, 51, 32]
def c3 : List Nat := [51, 120]
theorem looks_c2 (w : World) (f : Nat × Nat) :
    Calls Try.prog 23 #[.slice (some ⟨w.heap.size, 0, none⟩) 3 3] (w.alloc (.cells #[.int .u8 32, .int .u8 51, .int .u8 32] 5 f)) fun e w' => e = .returned (.bool true) ∧ Below w.heap.size w w' := by
  have h := looks_any (some ⟨w.heap.size, 0, none⟩) 3 c2 (w.alloc (.cells (nums c2) 5 f)) (w.heap.size + 1) (by simp) (rb_row w c2 (by decide) _ f) (by decide) (by decide)
  rw [show looksB c2 = true by decide] at h
  exact Calls.mono h fun e w' ⟨he, hb⟩ => ⟨he, ((Below.refl _ _).alloc (Nat.le_refl _) _).trans (hb.mono (by simp))⟩
theorem looks_c3 (w : World) (f : Nat × Nat) :
    Calls Try.prog 23 #[.slice (some ⟨w.heap.size, 0, none⟩) 2 2] (w.alloc (.cells #[.int .u8 51, .int .u8 120] 5 f)) fun e w' => e = .returned (.bool false) ∧ Below w.heap.size w w' := by
  have h := looks_any (some ⟨w.heap.size, 0, none⟩) 2 c3 (w.alloc (.cells (nums c3) 5 f)) (w.heap.size + 1) (by simp) (rb_row w c3 (by decide) _ f) (by decide) (by decide)
  rw [show looksB c3 = false by decide] at h
  exact Calls.mono h fun e w' ⟨he, hb⟩ => ⟨he, ((Below.refl _ _).alloc (Nat.le_refl _) _).trans (hb.mono (by simp))⟩
theorem text_c4 (w : World) :
    Calls Try.prog 19 #[.agg #[.bool false, .int .u64 0, .int .u64 500000]] w fun e w' => e = .returned (.string { data := #[48, 46, 53] }) ∧ Below w.heap.size w w' := by
  have i : IsD false 0 500000 500000 := ⟨⟨by decide, by decide⟩, ⟨by decide, by decide⟩, by decide, by decide, by decide⟩
  have h := text_ok false 0 500000 500000 i w
  rw [show strN (textL 500000) = { data := #[48, 46, 53] } by decide] at h
  exact h
set_option maxRecDepth 100000 in
set_option maxHeartbeats 400000 in
theorem awake2_any (w : World) :
    Calls Try.prog 18 #[] w fun e w' => e = .returned (.bool true) ∧ Below w.heap.size w w' := by
  have kc := fun (w : World) (C : Array Value) (n c : Nat) => Lib.run_convert_bytes_const (P := Try.prog) w 32 5 C n c Try.underlying32 Try.underlying5
  go_enter Try.func18, Try.ntmps18
  go_upto_region 2 with (go_at_call 22; refine (prefix_c1 w _).mono ?_; rintro e w1 ⟨rfl, b1⟩)
  have hs1 := Below.size b1
  go_wp2_with
    (first
      | (go_at_call 19; refine (text_c4 _).mono ?_; rintro e w2 ⟨rfl, b2⟩; have hs_b2 := Below.size b2; (try simp at hs_b2))
      | (go_at_call 23; (with_reducible refine (looks_c2 _ _).mono ?_); rintro e w3 ⟨rfl, b3⟩; have hs_b3 := Below.size b3; (try simp at hs_b3))
      | (go_at_call 23; (with_reducible refine (looks_c3 _ _).mono ?_); rintro e w4 ⟨rfl, b4⟩; have hs_b4 := Below.size b4; (try simp at hs_b4)))
  go_returns
  exact ⟨rfl, by (repeat' (first | (with_reducible exact Below.refl _ _) | (refine Below.trans ?_ (Below.mono (by with_reducible assumption) ?_)) | (with_reducible exact Below.refl _ _) | (with_reducible refine below_drewN ?_ _) | (with_reducible refine Below.drew ?_) | (with_reducible refine Below.setCell ?_ ?_ _) | (with_reducible refine Below.alloc ?_ ?_ _) | (with_reducible assumption) | (simp; done) | (simp; omega) | omega))⟩
end Go.Proofs.Ytdmifldjeiabdaa
