/- fieldfareref01: Add. -/
import Derived.Test.YtkhhjibpppmekaaRefP
namespace Go.Proofs.Ytkhhjibpppmekaa
open Go.RowKit
theorem BoxN.set2 {w : World} {g : Nat} {n m : Bool} {A A' : Option Addr} {l l' c c' : Nat} (b : BoxN w g n (.slice A l c)) : BoxN ((w.setCell ⟨g, 0, none⟩ (.bool m)).setCell ⟨g, 1, none⟩ (.slice A' l' c')) g m (.slice A' l' c') := b.set
/-- The sign and the magnitude of a sum. -/
theorem add_same_zn {za zb : Int} (h : zn za = zn zb) : (zn za && decide (0 < za.natAbs + zb.natAbs)) = zn (za + zb) ∧ za.natAbs + zb.natAbs = (za + zb).natAbs := by
  unfold zn at h ⊢
  rw [decide_eq_decide] at h
  constructor
  · rw [Bool.eq_iff_iff, Bool.and_eq_true, decide_eq_true_eq, decide_eq_true_eq, decide_eq_true_eq]; omega
  · omega
theorem add_lt_zn {za zb : Int} (h : zn za ≠ zn zb) (hlt : za.natAbs < zb.natAbs) : (zn zb && decide (0 < zb.natAbs - za.natAbs)) = zn (za + zb) ∧ zb.natAbs - za.natAbs = (za + zb).natAbs := by
  unfold zn at h ⊢
  rw [Ne, decide_eq_decide] at h
  constructor
  · rw [Bool.eq_iff_iff, Bool.and_eq_true, decide_eq_true_eq, decide_eq_true_eq, decide_eq_true_eq]; omega
  · omega
theorem add_ge_zn {za zb : Int} (h : zn za ≠ zn zb) (hge : ¬ za.natAbs < zb.natAbs) : (zn za && decide (0 < za.natAbs - zb.natAbs)) = zn (za + zb) ∧ za.natAbs - zb.natAbs = (za + zb).natAbs := by
  unfold zn at h ⊢
  rw [Ne, decide_eq_decide] at h
  constructor
  · rw [Bool.eq_iff_iff, Bool.and_eq_true, decide_eq_true_eq, decide_eq_true_eq, decide_eq_true_eq]; omega
  · omega
end Go.Proofs.Ytkhhjibpppmekaa
