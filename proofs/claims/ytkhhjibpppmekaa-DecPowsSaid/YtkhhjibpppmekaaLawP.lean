/- Plain facts that the statements of layer 1 say. -/
import Derived.Test.YtkhhjibpppmekaaDecJ
import Derived.Test.YtkhhjibpppmekaaDecG
import Derived.Test.YtkhhjibpppmekaaDecD
namespace Go.Proofs.Ytkhhjibpppmekaa
theorem mulZ_comm (a b : Int) : mulZ a b = mulZ b a := by unfold mulZ; rw [Int.mul_comm]
theorem mulZ_one (a : Int) : mulZ a 1000000 = a := Int.mul_tdiv_cancel a (by decide)
theorem one_mulZ (a : Int) : mulZ 1000000 a = a := by rw [mulZ_comm, mulZ_one]
theorem mulZ_neg (a b : Int) : mulZ (-a) b = -mulZ a b := by unfold mulZ; rw [Int.neg_mul, Int.neg_tdiv]
theorem divZ_one (a : Int) : divZ a 1000000 = a := Int.mul_tdiv_cancel a (by decide)
theorem divZ_self (a : Int) (h : a ≠ 0) : divZ a a = 1000000 := Int.mul_tdiv_cancel_left 1000000 h
theorem cmpZ_add (a b c : Int) : cmpZ (a + c) (b + c) = cmpZ a b := by
  unfold cmpZ
  by_cases h1 : a < b
  · rw [if_pos h1, if_pos (by omega)]
  · by_cases h2 : a = b
    · rw [if_neg h1, if_pos h2, if_neg (by omega), if_pos (by omega)]
    · rw [if_neg h1, if_neg h2, if_neg (by omega), if_neg (by omega)]
theorem cmpZ_swap (a b : Int) : cmpZ a b = -cmpZ b a := by
  unfold cmpZ
  by_cases h1 : a < b
  · rw [if_pos h1, if_neg (by omega), if_neg (by omega)]
  · by_cases h2 : a = b
    · rw [if_neg h1, if_pos h2, if_neg (by omega), if_pos h2.symm]; rfl
    · rw [if_neg h1, if_neg h2, if_pos (by omega)]; rfl
theorem cmpZ_cases (a b : Int) : cmpZ a b = -1 ∨ cmpZ a b = 0 ∨ cmpZ a b = 1 := by
  unfold cmpZ
  by_cases h1 : a < b
  · rw [if_pos h1]; exact .inl rfl
  · rw [if_neg h1]
    by_cases h2 : a = b
    · rw [if_pos h2]; exact .inr (.inl rfl)
    · rw [if_neg h2]; exact .inr (.inr rfl)
theorem rest_eq (a : Int) : a - truncZ a = a.tmod 1000000 := by
  unfold truncZ
  have := Int.mul_tdiv_add_tmod a 1000000
  omega
theorem trunc_trunc (a : Int) : truncZ (truncZ a) = truncZ a := by
  unfold truncZ
  rw [Int.mul_tdiv_cancel _ (by decide)]
theorem trunc_abs_le (a : Int) : ((truncZ a).natAbs : Int) ≤ a.natAbs := by
  have := truncZ_abs a
  omega
theorem tmod_abs_lt (a b : Int) (hb : b ≠ 0) : ((a.tmod b).natAbs : Int) < b.natAbs := by
  rw [Int.natAbs_tmod]
  have := Nat.mod_lt a.natAbs (show 0 < b.natAbs by omega)
  omega
theorem sub_tmod_mod (a b : Int) : (a - a.tmod b).tmod b = 0 := by
  have h : a - a.tmod b = b * a.tdiv b := by
    have := Int.mul_tdiv_add_tmod a b
    omega
  rw [h, Int.mul_tmod_right]
theorem sub_tmod_abs (a b : Int) : (((a - a.tmod b).natAbs : Nat) : Int) ≤ a.natAbs := by
  have h0 : (a.tmod b).natAbs ≤ a.natAbs := by
    rw [Int.natAbs_tmod]; exact Nat.mod_le _ _
  by_cases h : 0 ≤ a
  · have := Int.tmod_nonneg b h
    omega
  · have h1 := Int.tmod_nonneg b (show 0 ≤ -a by omega)
    rw [Int.neg_tmod] at h1
    omega
theorem one_tdiv : Int.tdiv 1000000 1000000 = 1 := by decide
theorem powS_one {za : Int} (hl : ((za.natAbs : Nat) : Int) < LIM) : powS za 1 = some za := by
  simp only [powS, one_mulZ]
  rw [if_pos hl]
theorem powPost_gen {za zb q : Int} {p : Int} {e : Ending} (h : PowPost za zb e) (h0 : zb.tdiv 1000000 = q) (h1 : -1000 ≤ q ∧ q ≤ 1000) (hp : powS za q.natAbs = some p) (hz : ¬ zb < 0) : e = .returned (.tuple #[.agg #[.bool (zn (p)), .int .u64 (zh (p)), .int .u64 (zl (p))], .nilIface]) := by
  unfold PowPost at h
  rw [h0, if_pos h1, hp] at h
  simp only [if_neg hz] at h
  exact h
theorem powPost_one {za zb : Int} (hb : zb = 1000000) (hl : ((za.natAbs : Nat) : Int) < LIM) {e : Ending} (h : PowPost za zb e) : e = .returned (.tuple #[.agg #[.bool (zn (za)), .int .u64 (zh (za)), .int .u64 (zl (za))], .nilIface]) :=
  powPost_gen (q := 1) (p := za) h (by rw [hb]; exact one_tdiv) (by decide) (powS_one hl) (by omega)
theorem powPost_zero {za zb : Int} (hb : zb = 0) {e : Ending} (h : PowPost za zb e) : e = .returned (.tuple #[.agg #[.bool false, .int .u64 0, .int .u64 1000000], .nilIface]) :=
  powPost_gen (q := 0) (p := 1000000) h (by rw [hb]; exact Int.zero_tdiv _) (by decide) rfl (by omega)
theorem powPost_2_10 {za zb : Int} (ha : za = 2000000) (hb : zb = 10000000) {e : Ending} (h : PowPost za zb e) : e = .returned (.tuple #[.agg #[.bool false, .int .u64 0, .int .u64 1024000000], .nilIface]) :=
  powPost_gen (q := 10) (p := 1024000000) h (by rw [hb]; decide) (by decide) (by rw [ha]; exact (show powS 2000000 10 = some 1024000000 by decide +kernel)) (by omega)
end Go.Proofs.Ytkhhjibpppmekaa
