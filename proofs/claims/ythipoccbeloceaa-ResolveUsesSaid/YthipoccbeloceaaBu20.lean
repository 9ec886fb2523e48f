/- Several texts put together: RpH. -/
import Derived.Test.YthipoccbeloceaaBu15
set_option linter.unusedSimpArgs false
set_option linter.unusedVariables false
namespace Go.Proofs.Ythipoccbeloceaa
open Go.RowKit
set_option maxRecDepth 100000 in
set_option maxHeartbeats 3200000 in
theorem rplace_any (p : RPar) (b c : Nat) (ts : List TokF) (d : Nat) (hd : d ≤ 64) (hz : p.z = decide (d = 64)) (HP : d < 64 → ROK p b c ts (d + 1)) (H_list : ∀ k e z, (∀ x ∈ e, x < 256) → k < ts.length → RC 80 #[.agg #[.slice (some ⟨b, 0, none⟩) ts.length c], .int .i64 (k : Int), .int .i64 (d : Int), .string (strN e), .bool z] (rlist ts p k e z) VGL b c ts (k + 1)) (k : Nat) (hk : k < ts.length) : RC 84 #[.agg #[.slice (some ⟨b, 0, none⟩) ts.length c], .int .i64 (k : Int), .int .i64 (d : Int)] (rplace ts p k) VG b c ts (k + 1) := by
  intro w h
  obtain ⟨R, hR⟩ : ∃ R, rplace ts p k = R := ⟨_, rfl⟩
  rw [hR]
  have HF := Lib.hid hR
  have HRS := Lib.hid h
  have HO := h.ownN
  have hlen := h.ok.len
  have hkI : (k : Int) < (ts.length : Int) := by omega
  clear h hR
  have C_list := Lib.hid H_list
  clear H_list
  unfold rplace at HF
  have hkd : rkd ts k 5 = (((tk ts k).k : Int) == 5) := rfl
  rw [hkd] at HF
  cases h5 : (((tk ts k).k : Int) == 5)
  case' false => have h5b : (((tk ts k).k : Int) != 5) = true := by rw [bne, h5]; rfl
  case' true => have h5b : (((tk ts k).k : Int) != 5) = false := by rw [bne, h5]; rfl
  case' true => have h5lt : k + 1 < ts.length := kdn_lt HRS.out.ok (by omega) h5 (by decide)
  all_goals simp only [h5, ↓reduceIte, Bool.false_eq_true, Bool.false_or, Bool.true_or, Bool.false_and, Bool.true_and] at HF
  all_goals clear hkd
  all_goals
    rcases Nat.lt_or_ge d 64 with hlt | hge
    case' inl =>
      have d0 : ((d : Int) == 64) = false := by rw [beq_eq_false_iff_ne]; omega
      have hw1 : wrap64 ((d : Int) + 1) = (d : Int) + 1 := IntWalk.wrap64_in _ (by omega)
      have C_step := Lib.hid (HP hlt).step
      have C_atom := Lib.hid (HP hlt).atom
      have hzz : p.z = false := by rw [hz]; exact decide_eq_false (by omega)
      simp only [hzz, Bool.false_eq_true, ↓reduceIte] at HF
      clear hz HP hzz hlt hd
      go_enter Try.func84, Try.ntmps84
      (repeat' (first | ((with_reducible refine zG ?_); first | refine oWx ?_ | (refine oWs ?_; clear HO; intro _ HO) | (refine oWj ?_; clear HO; intro _ HO HB)) | ((with_reducible refine to_load ?_); (first | first | refine oR6 HO rfl rfl rfl (by omega) ?_ | refine oR1 HO rfl rfl rfl rfl (by omega) ?_ | refine oR0 HO rfl rfl rfl (by omega) ?_); (try simp only [Act.put, pS])) | ((with_reducible refine zG ?_); refine oWn ?_; clear HO; intro _ HO) | ((go_big_may; first | (go_at_call 32; refine arm_is [36] (by decide) (by omega) HO rfl rfl ?_; clear HO; intro _ z hz hlt HO; cases z <;> (try simp only [hz, ↓reduceIte, bZ] at HF) <;> (first | (replace hlt := hlt rfl) | clear hlt)) | (go_at_call 61; refine arm_among [32, 43, 43, 32, 45, 45, 32] (by decide) (by decide) (by omega) HO rfl rfl ?_; clear HO; intro _ z hz hlt HO; cases z <;> (try simp only [hz, ↓reduceIte, bZ] at HF) <;> (first | (replace hlt := hlt rfl) | clear hlt)) | (go_at_call 83; (first | refine arm_rn rfl ?_ (C_step.out _ ?_) HO HF ?_ ?_ | refine arm_rn rfl ?_ (C_step.out _ ?_) HO (gr_eta HF) ?_ ?_); (first | with_reducible rfl | rfl | (rw [IntWalk.i64_in _ (by omega)]; rfl)); (omega); (clear HO HF; intro _ _ _ _ _ HO _ hle hlt HF); rotate_left; (clear HO HF; intro _ _ _ HO hq HE); rotate_left) | (go_at_call 85; (first | refine arm_rn rfl ?_ (C_atom.out _ ?_) HO HF ?_ ?_ | refine arm_rn rfl ?_ (C_atom.out _ ?_) HO (gr_eta HF) ?_ ?_); (first | with_reducible rfl | rfl | (rw [IntWalk.i64_in _ (by omega)]; rfl)); (omega); (clear HO HF; intro _ _ _ _ _ HO _ hle hlt HF); rotate_left; (clear HO HF; intro _ _ _ HO hq HE); rotate_left) | (go_at_call 32; refine arm_is [91] (by decide) (by omega) HO rfl rfl ?_; clear HO; intro _ z hz hlt HO; cases z <;> (try simp only [hz, ↓reduceIte, bZ] at HF) <;> (first | (replace hlt := hlt rfl) | clear hlt)) | (go_at_call 63; refine arm_bad HO rfl rfl ?_; clear HO; intro _ HO) | (go_at_call 80; refine arm_rl rfl ?_ (C_list.out _ _ _ ?_ ?_) HO HF ?_ ?_; (first | with_reducible rfl | rfl); (decide); (omega); (clear HO HF; intro lL AL cL aL _ HO hcL hle hlt HF); rotate_left; (clear HO HF; intro _ _ _ HO hq HE); rotate_left)) <;> (try dsimp only)) | go_values | go_skip | go_guarded | go_step | go_upon | (go_ite <;> go_prune <;> (try go_simp))))
      all_goals (refine oBc HO (t := 6) (ty := 116) rfl rfl rfl ?_; exact rFin)
    case' inr =>
      obtain rfl : d = 64 := by omega
      have hzz : p.z = true := by rw [hz]; rfl
      simp only [hzz, ↓reduceIte] at HF
      clear hz HP hzz
      go_enter Try.func84, Try.ntmps84
      (repeat' (first | ((with_reducible refine zG ?_); first | refine oWx ?_ | (refine oWs ?_; clear HO; intro _ HO) | (refine oWj ?_; clear HO; intro _ HO HB)) | ((with_reducible refine to_load ?_); (first | first | refine oR6 HO rfl rfl rfl (by omega) ?_ | refine oR1 HO rfl rfl rfl rfl (by omega) ?_ | refine oR0 HO rfl rfl rfl (by omega) ?_); (try simp only [Act.put, pS])) | ((with_reducible refine zG ?_); refine oWn ?_; clear HO; intro _ HO) | ((go_big_may; first | (go_at_call 32; refine arm_is [36] (by decide) (by omega) HO rfl rfl ?_; clear HO; intro _ z hz hlt HO; cases z <;> (try simp only [hz, ↓reduceIte, bZ] at HF) <;> (first | (replace hlt := hlt rfl) | clear hlt)) | (go_at_call 32; refine arm_is [91] (by decide) (by omega) HO rfl rfl ?_; clear HO; intro _ z hz hlt HO; cases z <;> (try simp only [hz, ↓reduceIte, bZ] at HF) <;> (first | (replace hlt := hlt rfl) | clear hlt)) | (go_at_call 63; refine arm_bad HO rfl rfl ?_; clear HO; intro _ HO) | (go_at_call 80; refine arm_rl rfl ?_ (C_list.out _ _ _ ?_ ?_) HO HF ?_ ?_; (first | with_reducible rfl | rfl); (decide); (omega); (clear HO HF; intro lL AL cL aL _ HO hcL hle hlt HF); rotate_left; (clear HO HF; intro _ _ _ HO hq HE); rotate_left)) <;> (try dsimp only)) | go_values | go_skip | go_guarded | go_step | go_upon | (go_ite <;> go_prune <;> (try go_simp))))
      all_goals (refine oBc HO (t := 6) (ty := 116) rfl rfl rfl ?_; exact rFin)
end Go.Proofs.Ythipoccbeloceaa
