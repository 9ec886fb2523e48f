/- fieldfarelaw01.DecMoves: the walk. -/
import Derived.Test.YtkhhjibpppmekaaLawB
namespace Go.Proofs.Ytkhhjibpppmekaa
open Go.RowKit
/-- An answer: a number and no error, or none and the error of what is too great. -/
def OkV (z : Int) (rn : Bool) (rh rl : Int) (er : Value) : Prop := (er = .nilIface ∧ IsD rn rh rl z) ∨ (er = .iface 83 (.int .i64 2) ∧ rn = false ∧ rh = 0 ∧ rl = 0 ∧ LIM ≤ ((z.natAbs : Nat) : Int))
theorem mul_gen {n m : Bool} {ha la hb lb za zb : Int} (ia : IsD n ha la za) (ib : IsD m hb lb zb) : ∃ rn rh rl er, (∀ W, Calls Try.prog 51 #[.agg #[.bool n, .int .u64 ha, .int .u64 la], .agg #[.bool m, .int .u64 hb, .int .u64 lb]] W fun e w' => e = .returned (.tuple #[.agg #[.bool rn, .int .u64 rh, .int .u64 rl], er]) ∧ Below W.heap.size W w') ∧ OkV (mulZ za zb) rn rh rl er := by
  by_cases h : (((mulZ za zb).natAbs : Nat) : Int) < LIM
  · exact ⟨_, _, _, _, fun W => mul_ok n m ha la hb lb za zb _ ia ib rfl h W, .inl ⟨rfl, IsD.of h⟩⟩
  · exact ⟨_, _, _, _, fun W => mul_over n m ha la hb lb za zb ia ib (by omega) W, .inr ⟨rfl, rfl, rfl, rfl, by omega⟩⟩
theorem div_gen {n m : Bool} {ha la hb lb za zb : Int} (ia : IsD n ha la za) (ib : IsD m hb lb zb) (hz : zb ≠ 0) : ∃ rn rh rl er, (∀ W, Calls Try.prog 45 #[.agg #[.bool n, .int .u64 ha, .int .u64 la], .agg #[.bool m, .int .u64 hb, .int .u64 lb]] W fun e w' => e = .returned (.tuple #[.agg #[.bool rn, .int .u64 rh, .int .u64 rl], er]) ∧ Below W.heap.size W w') ∧ OkV (divZ za zb) rn rh rl er := by
  by_cases h : (((divZ za zb).natAbs : Nat) : Int) < LIM
  · exact ⟨_, _, _, _, fun W => div_ok n m ha la hb lb za zb _ ia ib hz rfl h W, .inl ⟨rfl, IsD.of h⟩⟩
  · exact ⟨_, _, _, _, fun W => div_over n m ha la hb lb za zb ia ib hz (by omega) W, .inr ⟨rfl, rfl, rfl, rfl, by omega⟩⟩
theorem good_split (n : Bool) (h l : Int) (hh : Wd h) (hl : Wd l) : goodB n h l = false ∨ ∃ z, IsD n h l z := by
  cases hg : goodB n h l
  · exact .inl rfl
  · exact .inr ⟨_, of_good hh hl hg⟩
end Go.Proofs.Ytkhhjibpppmekaa
