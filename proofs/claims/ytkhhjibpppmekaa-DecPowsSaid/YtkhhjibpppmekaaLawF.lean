/- fieldfarelaw01.DecSigns: the walk. -/
import Derived.Test.YtkhhjibpppmekaaLawC
import Derived.Test.YtkhhjibpppmekaaErrs
namespace Go.Proofs.Ytkhhjibpppmekaa
open Go.RowKit
theorem code_b0 (W : World) : Calls Try.prog 16 #[.nilIface] W fun e w' => e = .returned (.int .i64 0) ∧ Below W.heap.size W w' := by
  refine (code_nil W).mono ?_
  rintro e w' ⟨rfl, rfl⟩
  exact ⟨rfl, Below.refl _ _⟩
theorem code_bk (k : Int) (h1 : 1 ≤ k) (h2 : k ≤ 25) (W : World) : Calls Try.prog 16 #[.iface 83 (.int .i64 k)] W fun e w' => e = .returned (.int .i64 k) ∧ Below W.heap.size W w' := by
  refine (code_errno k h1 h2 W).mono ?_
  rintro e w' ⟨rfl, rfl⟩
  exact ⟨rfl, Below.refl _ _⟩
/-- What the error of an answer counts. -/
theorem OkV.code {z : Int} {rn : Bool} {rh rl : Int} {er : Value} (h : OkV z rn rh rl er) : ∃ K : Int, ∀ W, Calls Try.prog 16 #[er] W fun e w' => e = .returned (.int .i64 K) ∧ Below W.heap.size W w' := by
  rcases h with ⟨rfl, _⟩ | ⟨rfl, _⟩
  · exact ⟨0, code_b0⟩
  · exact ⟨2, code_bk 2 (by decide) (by decide)⟩
theorem OkV.uniq {z : Int} {rn sn : Bool} {rh rl sh sl : Int} {er fr : Value} (h : OkV z rn rh rl er) (h' : OkV z sn sh sl fr) : sn = rn ∧ sh = rh ∧ sl = rl ∧ fr = er := by
  rcases h with ⟨rfl, i⟩ | ⟨rfl, rfl, rfl, rfl, hl⟩ <;> rcases h' with ⟨rfl, j⟩ | ⟨rfl, rfl, rfl, rfl, hl'⟩
  · obtain ⟨a, b, c⟩ := i.eq
    obtain ⟨a', b', c'⟩ := j.eq
    exact ⟨a'.trans a.symm, b'.trans b.symm, c'.trans c.symm, rfl⟩
  · have := i.2.2.2.2; omega
  · have := j.2.2.2.2; omega
  · exact ⟨rfl, rfl, rfl, rfl⟩
end Go.Proofs.Ytkhhjibpppmekaa
