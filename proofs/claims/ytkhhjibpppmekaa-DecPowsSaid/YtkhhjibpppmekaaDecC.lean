/- dec.Add: the sum of two numbers. -/
import Derived.Test.YtkhhjibpppmekaaDecB
namespace Go.Proofs.Ytkhhjibpppmekaa
open Go.RowKit
theorem IsD.words {n : Bool} {h l z : Int} (i : IsD n h l z) : Wd h ∧ Wd l := ⟨i.1, i.2.1⟩
/-- The words of a sum. -/
theorem sum_words {ha la hb lb : Int} (wa : Wd ha) (xa : Wd la) (wb : Wd hb) (xb : Wd lb) :
    Wd ((la + lb) % 18446744073709551616) ∧ Wd ((ha + hb + (la + lb) / 18446744073709551616) % 18446744073709551616) ∧ Wd ((ha + hb + (la + lb) / 18446744073709551616) / 18446744073709551616) ∧
    0 ≤ (la + lb) / 18446744073709551616 ∧ (la + lb) / 18446744073709551616 ≤ 1 ∧
    lim4 ((la + lb) % 18446744073709551616) ((ha + hb + (la + lb) / 18446744073709551616) % 18446744073709551616) ((ha + hb + (la + lb) / 18446744073709551616) / 18446744073709551616) 0 = (ha * 18446744073709551616 + la) + (hb * 18446744073709551616 + lb) := by
  obtain ⟨a1, a2⟩ := wa; obtain ⟨b1, b2⟩ := xa; obtain ⟨c1, c2⟩ := wb; obtain ⟨d1, d2⟩ := xb
  unfold Wd lim4
  omega
theorem dif_words {ha la hb lb : Int} (wa : Wd ha) (xa : Wd la) (wb : Wd hb) (xb : Wd lb) (h : hb * 18446744073709551616 + lb ≤ ha * 18446744073709551616 + la) :
    Wd ((la - lb) % 18446744073709551616) ∧ Wd ((ha - hb - bor la lb 0) % 18446744073709551616) ∧
    lim4 ((la - lb) % 18446744073709551616) ((ha - hb - bor la lb 0) % 18446744073709551616) 0 0 = (ha * 18446744073709551616 + la) - (hb * 18446744073709551616 + lb) := by
  obtain ⟨a1, a2⟩ := wa; obtain ⟨b1, b2⟩ := xa; obtain ⟨c1, c2⟩ := wb; obtain ⟨d1, d2⟩ := xb
  unfold Wd lim4 bor
  split <;> omega
theorem same_sum {n : Bool} {ha la hb lb za zb : Int} (ia : IsD n ha la za) (ib : IsD n hb lb zb) :
    lim4 ((la + lb) % 18446744073709551616) ((ha + hb + (la + lb) / 18446744073709551616) % 18446744073709551616) ((ha + hb + (la + lb) / 18446744073709551616) / 18446744073709551616) 0 = (za + zb).natAbs ∧
    (za + zb = 0 ∨ n = decide (za + zb < 0)) := by
  obtain ⟨wa, xa⟩ := ia.words
  obtain ⟨wb, xb⟩ := ib.words
  obtain ⟨s1, s2, s3, k0, k1, s4⟩ := sum_words wa xa wb xb
  have e1 := ia.2.2.2.1
  have e2 := ib.2.2.2.1
  have h3 : decide (za < 0) = decide (zb < 0) := by rw [← e1, ← e2]
  rw [decide_eq_decide] at h3
  constructor
  · rw [s4, ia.2.2.1, ib.2.2.1]
    omega
  · right
    rw [e1, decide_eq_decide]
    omega
end Go.Proofs.Ytkhhjibpppmekaa
