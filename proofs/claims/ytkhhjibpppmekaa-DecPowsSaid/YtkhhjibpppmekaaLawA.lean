/- fieldfarelaw01.awake. -/
import Derived.Test.YtkhhjibpppmekaaLawP
namespace Go.Proofs.Ytkhhjibpppmekaa
open Go.RowKit
theorem int_k (n : Int) (s : Bool) (h l : Int) (e1 : zn (n * 1000000) = s) (e2 : zh (n * 1000000) = h) (e3 : zl (n * 1000000) = l) (h0 : -9223372036854775808 ≤ n) (h1 : n < 9223372036854775808) (w : World) :
    Calls Try.prog 46 #[.int .i64 n] w fun e w' => e = .returned (.agg #[.bool s, .int .u64 h, .int .u64 l]) ∧ Below w.heap.size w w' := by
  subst e1 e2 e3; exact int_any n h0 h1 w
theorem int_1 (w : World) : Calls Try.prog 46 #[.int .i64 1] w fun e w' => e = .returned (.agg #[.bool false, .int .u64 0, .int .u64 1000000]) ∧ Below w.heap.size w w' := int_k 1 _ _ _ (by decide) (by decide) (by decide) (by decide) (by decide) w
theorem int_2 (w : World) : Calls Try.prog 46 #[.int .i64 2] w fun e w' => e = .returned (.agg #[.bool false, .int .u64 0, .int .u64 2000000]) ∧ Below w.heap.size w w' := int_k 2 _ _ _ (by decide) (by decide) (by decide) (by decide) (by decide) w
theorem int_3 (w : World) : Calls Try.prog 46 #[.int .i64 3] w fun e w' => e = .returned (.agg #[.bool false, .int .u64 0, .int .u64 3000000]) ∧ Below w.heap.size w w' := int_k 3 _ _ _ (by decide) (by decide) (by decide) (by decide) (by decide) w
theorem int_10 (w : World) : Calls Try.prog 46 #[.int .i64 10] w fun e w' => e = .returned (.agg #[.bool false, .int .u64 0, .int .u64 10000000]) ∧ Below w.heap.size w w' := int_k 10 _ _ _ (by decide) (by decide) (by decide) (by decide) (by decide) w
theorem int_1024 (w : World) : Calls Try.prog 46 #[.int .i64 1024] w fun e w' => e = .returned (.agg #[.bool false, .int .u64 0, .int .u64 1024000000]) ∧ Below w.heap.size w w' := int_k 1024 _ _ _ (by decide) (by decide) (by decide) (by decide) (by decide) w
theorem int_m1 (w : World) : Calls Try.prog 46 #[.int .i64 (-1)] w fun e w' => e = .returned (.agg #[.bool true, .int .u64 0, .int .u64 1000000]) ∧ Below w.heap.size w w' := int_k (-1) _ _ _ (by decide) (by decide) (by decide) (by decide) (by decide) w
theorem int_m7 (w : World) : Calls Try.prog 46 #[.int .i64 (-7)] w fun e w' => e = .returned (.agg #[.bool true, .int .u64 0, .int .u64 7000000]) ∧ Below w.heap.size w w' := int_k (-7) _ _ _ (by decide) (by decide) (by decide) (by decide) (by decide) w
theorem isD_k (z : Int) (s : Bool) (h l : Int) (e1 : zn z = s) (e2 : zh z = h) (e3 : zl z = l) (hl : ((z.natAbs : Nat) : Int) < LIM) : IsD s h l z := by
  subst e1 e2 e3; exact IsD.of hl
theorem isD_1 : IsD false 0 1000000 1000000 := isD_k _ _ _ _ (by decide) (by decide) (by decide) (by decide)
theorem isD_2 : IsD false 0 2000000 2000000 := isD_k _ _ _ _ (by decide) (by decide) (by decide) (by decide)
theorem isD_3 : IsD false 0 3000000 3000000 := isD_k _ _ _ _ (by decide) (by decide) (by decide) (by decide)
theorem isD_10 : IsD false 0 10000000 10000000 := isD_k _ _ _ _ (by decide) (by decide) (by decide) (by decide)
theorem isD_1024 : IsD false 0 1024000000 1024000000 := isD_k _ _ _ _ (by decide) (by decide) (by decide) (by decide)
theorem isD_m1 : IsD true 0 1000000 (-1000000) := isD_k _ _ _ _ (by decide) (by decide) (by decide) (by decide)
theorem isD_m7 : IsD true 0 7000000 (-7000000) := isD_k _ _ _ _ (by decide) (by decide) (by decide) (by decide)
theorem isD_0 : IsD false 0 0 0 := isD_k _ _ _ _ (by decide) (by decide) (by decide) (by decide)
theorem div_c (w : World) : Calls Try.prog 45 #[.agg #[.bool false, .int .u64 0, .int .u64 2000000], .agg #[.bool false, .int .u64 0, .int .u64 3000000]] w fun e w' => e = .returned (.tuple #[.agg #[.bool false, .int .u64 0, .int .u64 666666], .nilIface]) ∧ Below w.heap.size w w' := by
  have h := div_ok _ _ _ _ _ _ _ _ 666666 isD_2 isD_3 (by decide) (by decide) (by decide) w
  rw [show zn 666666 = false by decide, show zh 666666 = 0 by decide, show zl 666666 = 666666 by decide] at h
  exact h
theorem mod_c (w : World) : Calls Try.prog 47 #[.agg #[.bool true, .int .u64 0, .int .u64 7000000], .agg #[.bool false, .int .u64 0, .int .u64 2000000]] w fun e w' => e = .returned (.tuple #[.agg #[.bool true, .int .u64 0, .int .u64 1000000], .nilIface]) ∧ Below w.heap.size w w' := by
  have h := mod_ok _ _ _ _ _ _ _ _ (-1000000) isD_m7 isD_2 (by decide) (by decide) w
  rw [show zn (-1000000) = true by decide, show zh (-1000000) = 0 by decide, show zl (-1000000) = 1000000 by decide] at h
  exact h
theorem pow_c (w : World) : Calls Try.prog 14 #[.agg #[.bool false, .int .u64 0, .int .u64 2000000], .agg #[.bool false, .int .u64 0, .int .u64 10000000]] w fun e w' => e = .returned (.tuple #[.agg #[.bool false, .int .u64 0, .int .u64 1024000000], .nilIface]) ∧ Below w.heap.size w w' := by
  obtain ⟨za, ha⟩ : ∃ za : Int, za = 2000000 := ⟨_, rfl⟩
  obtain ⟨zb, hb⟩ : ∃ zb : Int, zb = 10000000 := ⟨_, rfl⟩
  exact (pow_core _ _ _ _ _ _ za zb (by rw [ha]; exact isD_2) (by rw [hb]; exact isD_10) (by rw [hb]; decide) (.inl (by omega)) w).mono fun _ _ ⟨h, q⟩ => ⟨powPost_2_10 ha hb h, q⟩
theorem pow_one (n : Bool) (ha la za : Int) (ia : IsD n ha la za) (w : World) : Calls Try.prog 14 #[.agg #[.bool n, .int .u64 ha, .int .u64 la], .agg #[.bool false, .int .u64 0, .int .u64 1000000]] w fun e w' => e = .returned (.tuple #[.agg #[.bool n, .int .u64 ha, .int .u64 la], .nilIface]) ∧ Below w.heap.size w w' := by
  obtain ⟨zb, hb⟩ : ∃ zb : Int, zb = 1000000 := ⟨_, rfl⟩
  have h1 := pow_core n _ ha la _ _ za zb ia (by rw [hb]; exact isD_1) (by rw [hb]; decide) (.inr (by omega)) w
  obtain ⟨e1, e2, e3⟩ := ia.eq
  have hl := ia.2.2.2.2
  rw [e1, e2, e3] at h1 ⊢
  exact h1.mono fun _ _ ⟨h, q⟩ => ⟨powPost_one hb hl h, q⟩
theorem pow_nought (n : Bool) (ha la za : Int) (ia : IsD n ha la za) (w : World) : Calls Try.prog 14 #[.agg #[.bool n, .int .u64 ha, .int .u64 la], .agg #[.bool false, .int .u64 0, .int .u64 0]] w fun e w' => e = .returned (.tuple #[.agg #[.bool false, .int .u64 0, .int .u64 1000000], .nilIface]) ∧ Below w.heap.size w w' := by
  obtain ⟨zb, hb⟩ : ∃ zb : Int, zb = 0 := ⟨_, rfl⟩
  exact (pow_core n _ ha la _ _ za zb ia (by rw [hb]; exact isD_0) (by rw [hb]; decide) (.inr (by omega)) w).mono fun _ _ ⟨h, q⟩ => ⟨powPost_zero hb h, q⟩
theorem cmp_c (w : World) : Calls Try.prog 48 #[.agg #[.bool true, .int .u64 0, .int .u64 1000000], .agg #[.bool false, .int .u64 0, .int .u64 1024000000]] w fun e w' => e = .returned (.int .i64 (-1)) ∧ Below w.heap.size w w' :=
  cmp_ok _ _ _ _ _ _ _ _ isD_m1 isD_1024 w
end Go.Proofs.Ytkhhjibpppmekaa
