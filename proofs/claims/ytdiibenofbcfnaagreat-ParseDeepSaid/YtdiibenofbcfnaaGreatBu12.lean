/- Several texts put together: LexG. -/
import Derived.Test.YtdiibenofbcfnaaGreatBu11
set_option linter.unusedSimpArgs false
set_option linter.unusedVariables false
namespace Go.Proofs.YtdiibenofbcfnaaGreat
open Go.RowKit
def escs : List Nat := [110, 116, 114, 102, 118, 97, 98]
set_option maxRecDepth 100000 in
set_option maxHeartbeats 1600000 in
theorem escape_any (c : Nat) (hc : c < 256) (w : World) : Calls Tryz.prog 36 #[.int .u8 (c : Int)] w fun e w' => e = .returned (.int .u8 (escB c : Int)) ∧ w' = w := by
  go_enter Tryz.func36, Tryz.ntmps36
  go_wp2_with fail
  go_loopw [4] (fun i wr => ∃ k : Nat, i = .int .i64 (k : Int) ∧ k ≤ 7 ∧ (∀ j, j < k → escs.getD j 0 ≠ c) ∧ wr = w) (fun i _ => 7 - (intOf i).toNat)
  case atStart => exact ⟨0, rfl, by omega, fun j hj => absurd hj (by omega), rfl⟩
  case round =>
    obtain ⟨k, rfl, hk, hne, rfl⟩ := hrel
    have h7 : k = 0 ∨ k = 1 ∨ k = 2 ∨ k = 3 ∨ k = 4 ∨ k = 5 ∨ k = 6 ∨ k = 7 := by omega
    rcases h7 with rfl | rfl | rfl | rfl | rfl | rfl | rfl | rfl
    all_goals go_wp2_with fail
    all_goals first
      | (rename_i h
         have hcc := Int.ofNat_inj.1 (eq_of_beq h)
         subst hcc
         go_ret
         exact ⟨rfl, rfl⟩)
      | (rename_i h
         go_roundw
         case rel =>
           refine ⟨_, rfl, by decide, fun j hj e => ?_, trivial⟩
           rcases Nat.lt_succ_iff_lt_or_eq.1 hj with h1 | h1
           · exact hne j h1 e
           · subst h1; rw [← e] at h; exact absurd h (by decide)
         case measure => decide)
      | (go_ret
         refine ⟨?_, rfl⟩
         have e0 := hne 0 (by decide); have e1 := hne 1 (by decide); have e2 := hne 2 (by decide); have e3 := hne 3 (by decide); have e4 := hne 4 (by decide); have e5 := hne 5 (by decide); have e6 := hne 6 (by decide)
         simp only [escs, List.getD_cons_zero, List.getD_cons_succ] at e0 e1 e2 e3 e4 e5 e6
         have he : escB c = c := by unfold escB; rw [if_neg (Ne.symm e5), if_neg (Ne.symm e6), if_neg (Ne.symm e3), if_neg (Ne.symm e0), if_neg (Ne.symm e2), if_neg (Ne.symm e1), if_neg (Ne.symm e4)]
         rw [he]; rfl)
end Go.Proofs.YtdiibenofbcfnaaGreat
