/- numeral.more: a magnitude with one more digit. -/
import Derived.Test.YtdmifldjeiabdaaBits
namespace Go.Proofs.Ytdmifldjeiabdaa
open Go.RowKit
/-- The words of a magnitude that is a natural number. -/
def mh (N : Nat) : Int := ((N / 18446744073709551616 : Nat) : Int)
def ml (N : Nat) : Int := ((N % 18446744073709551616 : Nat) : Int)
set_option maxRecDepth 100000 in
set_option maxHeartbeats 400000 in
theorem more_any (n : Bool) (N c : Nat) (hN : N < 10000000000000000000000000000000000000) (hc : 48 ≤ c) (hc2 : c ≤ 57) (w : World) :
    Calls Try.prog 56 #[.agg #[.bool n, .int .u64 (mh N), .int .u64 (ml N)], .int .u8 (c : Int)] w fun e w' => e = .returned (.agg #[.bool false, .int .u64 (mh (N * 10 + (c - 48))), .int .u64 (ml (N * 10 + (c - 48)))]) ∧ Below w.heap.size w w' := by
  obtain ⟨H, hH⟩ : ∃ H, H = N / 18446744073709551616 := ⟨_, rfl⟩
  obtain ⟨L, hL⟩ : ∃ L, L = N % 18446744073709551616 := ⟨_, rfl⟩
  have e1 : mh N = (H : Int) := by unfold mh; rw [hH]
  have e2 : ml N = (L : Int) := by unfold ml; rw [hL]
  rw [e1, e2]
  have bH : H < 1000000000000000000 := by omega
  have bL : L < 18446744073709551616 := by omega
  have pr := pl_range (L : Int) 10
  have qr := ph_range (x := (L : Int)) (y := 10) (by omega) (by omega) (by decide) (by decide)
  have pq := phl (L : Int) 10
  obtain ⟨S, hS⟩ : ∃ S : Int, S = (pl (L : Int) 10 + ((c : Int) - 48)) % 18446744073709551616 := ⟨_, rfl⟩
  obtain ⟨C, hC⟩ : ∃ C : Int, C = (pl (L : Int) 10 + ((c : Int) - 48)) / 18446744073709551616 := ⟨_, rfl⟩
  have f2 : ml (N * 10 + (c - 48)) = S := by
    unfold ml; omega
  have f1 : mh (N * 10 + (c - 48)) = (H : Int) * 10 + ph (L : Int) 10 + C := by
    unfold mh; omega
  rw [f1, f2]
  have ea := fun W => add64_0 (pl (L : Int) 10) ((c : Int) - 48) pr.1 (by omega) W
  rw [← hS, ← hC] at ea
  have hC1 : C ≤ 1 := by omega
  have hC0 : 0 ≤ C := by omega
  have hq1 : ph (L : Int) 10 < 20 := by unfold ph; omega
  have hq0 := qr.1
  clear hH hL e1 e2 f1 f2 hS hC pq qr hN pr
  go_enter Try.func56, Try.ntmps56
  go_wp2_with (go_at_call 58; refine (mul64 _ _ (by omega) (by omega) (by omega) (by omega) _).mono ?_; rintro e w' ⟨rfl, rfl⟩)
  go_outline
  go_returns
  exact ⟨rfl, by (repeat' (first | (with_reducible exact Below.refl _ _) | (refine Below.trans ?_ (Below.mono (by with_reducible assumption) ?_)) | (with_reducible exact Below.refl _ _) | (with_reducible refine below_drewN ?_ _) | (with_reducible refine Below.drew ?_) | (with_reducible refine Below.setCell ?_ ?_ _) | (with_reducible refine Below.alloc ?_ ?_ _) | (with_reducible assumption) | (simp; done) | (simp; omega) | omega))⟩
end Go.Proofs.Ytdmifldjeiabdaa
