/- Several texts put together: RpU. -/
import Derived.Test.YthipoccbeloceaaBu25
set_option linter.unusedSimpArgs false
set_option linter.unusedVariables false
namespace Go.Proofs.Ythipoccbeloceaa
open Go.RowKit
set_option maxRecDepth 100000 in
set_option maxHeartbeats 3200000 in
theorem rcond_any (p : RPar) (b c : Nat) (ts : List TokF) (d : Nat) (hd : d ≤ 64) (hz : p.z = decide (d = 64)) (HP : d < 64 → ROK p b c ts (d + 1)) (H_level : ∀ k, k < ts.length → RC 68 #[.agg #[.slice (some ⟨b, 0, none⟩) ts.length c], .int .i64 (k : Int), .int .i64 (d : Int), .int .i64 0] (rlev0 ts p k) VG b c ts (k + 1)) (H_expr : ∀ k, k < ts.length → RC 51 #[.agg #[.slice (some ⟨b, 0, none⟩) ts.length c], .int .i64 (k : Int), .int .i64 (d : Int)] (rexpr ts p k) VG b c ts (k + 1)) (k : Nat) (hk : k < ts.length) : RC 59 #[.agg #[.slice (some ⟨b, 0, none⟩) ts.length c], .int .i64 (k : Int), .int .i64 (d : Int)] (rcond ts p k) VG b c ts (k + 1) := by
  intro w h
  obtain ⟨R, hR⟩ : ∃ R, rcond ts p k = R := ⟨_, rfl⟩
  rw [hR]
  have HF := Lib.hid hR
  have HRS := Lib.hid h
  have HO := h.ownN
  have hlen := h.ok.len
  have hkI : (k : Int) < (ts.length : Int) := by omega
  clear h hR
  have C_level := Lib.hid H_level
  clear H_level
  have C_expr := Lib.hid H_expr
  clear H_expr
  unfold rcond at HF
  rcases Nat.lt_or_ge d 64 with hlt | hge
  case' inl =>
    have d0 : ((d : Int) == 64) = false := by rw [beq_eq_false_iff_ne]; omega
    have hw1 : wrap64 ((d : Int) + 1) = (d : Int) + 1 := IntWalk.wrap64_in _ (by omega)
    have C_cond := Lib.hid (HP hlt).cond
    have hzz : p.z = false := by rw [hz]; exact decide_eq_false (by omega)
    simp only [hzz, Bool.false_eq_true, ↓reduceIte] at HF
    clear hz HP hzz hlt hd
  case' inr =>
    obtain rfl : d = 64 := by omega
    have hzz : p.z = true := by rw [hz]; rfl
    simp only [hzz, ↓reduceIte] at HF
    clear hz HP hzz
  all_goals
    go_enter Try.func59, Try.ntmps59
    (repeat' (go_not_at_region 4; first | ((with_reducible refine zG ?_); first | refine oWx ?_ | (refine oWs ?_; clear HO; intro _ HO) | (refine oWj ?_; clear HO; intro _ HO HB)) | ((go_big_may; first | (go_at_call 68; (first | refine arm_rn rfl ?_ (C_level.out _ ?_) HO HF ?_ ?_ | refine arm_rn rfl ?_ (C_level.out _ ?_) HO (gr_eta HF) ?_ ?_); (first | with_reducible rfl | rfl | (rw [IntWalk.i64_in _ (by omega)]; rfl)); (omega); (clear HO HF; intro _ _ _ _ _ HO _ hle hlt HF); rotate_left; (clear HO HF; intro _ _ _ HO hq HE); rotate_left) | (go_at_call 32; refine arm_is [63] (by decide) (by omega) HO rfl rfl ?_; clear HO; intro _ z hz hlt HO; cases z <;> (try simp only [hz, ↓reduceIte, bZ] at HF) <;> (first | (replace hlt := hlt rfl) | clear hlt))) <;> (try dsimp only)) | go_values | go_skip | go_guarded | go_step | go_upon | (go_ite <;> go_prune <;> (try go_simp))))
    all_goals (first | (refine oBc HO (t := 6) (ty := 116) rfl rfl rfl ?_; exact rFin) | skip)
    have HO0 := HO
    have HF0 := HF
    go_cut [8] from 26 to 33 (fun v wx => CutG HO0 HF0 (k + 2) v wx)
    case first =>
      refine eBe HO [9] [2, 6, 0, 1, 3, 4, 8, 5, 7] [9] ?_
      clear HO
      intro _ HO
      (repeat' (first | ((with_reducible refine eGo ?_); first | (refine eFl HO rfl rfl rfl (by kernel_rfl) (by rfl) (by rfl) ?_ (fun K hK => ?_); (clear HO; intro _ HO); (try simp only [Act.put, pS]); rotate_left) | (refine eFm HO rfl rfl (by kernel_rfl) (by rfl) ?_; clear HO; intro _ HO; (try simp only [Act.put, pS]))) | ((with_reducible refine zG ?_); first | (refine oWf ?_; intro K hK) | refine oWe ?_ | refine oWr ?_ | refine oWp ?_) | ((with_reducible refine zG ?_); first | (refine oWg ?_; intro K hK) | (refine oWk ?_; clear hK K) | (refine oWs ?_; clear HO; intro _ HO)) | ((first | (go_at_call 52; refine arm_lines (by omega) HO rfl rfl ?_; clear HO; intro _ q hq hle hlt HO; (try simp only [hq] at HF)) | (go_at_call 51; (first | refine arm_rn rfl ?_ (C_expr.out _ ?_) HO HF ?_ ?_ | refine arm_rn rfl ?_ (C_expr.out _ ?_) HO (gr_eta HF) ?_ ?_); (first | with_reducible rfl | rfl | (rw [IntWalk.i64_in _ (by omega)]; rfl)); (omega); (clear HO HF; intro _ _ _ _ _ HO _ hle hlt HF); rotate_left; (clear HO HF; intro _ _ _ HO hq HE); rotate_left)) <;> (try dsimp only)) | ((with_reducible refine eOp ?_); go_simp)))
      all_goals (go_wp2_with fail; go_meet; first | exact .inl ⟨_, _, _, _, _, rfl, HO, by assumption, by omega, by omega, HF⟩ | exact .inr ⟨_, _, _, rfl, HO, by assumption, HE⟩)
    case' rest =>
      clear HO HF
      rcases hcut with ⟨B9, x9, A9, c9, k9, rfl, HO, hl9, hle9, hlt9, HF⟩ | ⟨B9, k9, q9, rfl, HO, hq9, HE⟩
    all_goals clear HO0 HF0
    all_goals
      (repeat' (first | ((with_reducible refine zG ?_); first | refine oWx ?_ | (refine oWs ?_; clear HO; intro _ HO) | (refine oWj ?_; clear HO; intro _ HO HB)) | ((with_reducible refine zG ?_); refine oWn ?_; clear HO; intro _ HO) | ((go_big_may; first | (go_at_call 32; refine arm_is [58] (by decide) (by omega) HO rfl rfl ?_; clear HO; intro _ z hz hlt HO; cases z <;> (try simp only [hz, ↓reduceIte, bZ] at HF) <;> (first | (replace hlt := hlt rfl) | clear hlt)) | (go_at_call 52; refine arm_lines (by omega) HO rfl rfl ?_; clear HO; intro _ q hq hle hlt HO; (try simp only [hq] at HF)) | (go_at_call 59; (first | refine arm_rn rfl ?_ (C_cond.out _ ?_) HO HF ?_ ?_ | refine arm_rn rfl ?_ (C_cond.out _ ?_) HO (gr_eta HF) ?_ ?_); (first | with_reducible rfl | rfl | (rw [IntWalk.i64_in _ (by omega)]; rfl)); (omega); (clear HO HF; intro _ _ _ _ _ HO _ hle hlt HF); rotate_left; (clear HO HF; intro _ _ _ HO hq HE); rotate_left) | (go_at_call 63; refine arm_bad HO rfl rfl ?_; clear HO; intro _ HO) | fail) <;> (try dsimp only)) | go_values | go_skip | go_guarded | go_step | go_upon | (go_ite <;> go_prune <;> (try go_simp))))
      all_goals (refine oBc HO (t := 6) (ty := 116) rfl rfl rfl ?_; exact rFin)
end Go.Proofs.Ythipoccbeloceaa
