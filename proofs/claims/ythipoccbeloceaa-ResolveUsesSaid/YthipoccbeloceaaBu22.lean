/- Several texts put together: RpI, RpL. -/
import Derived.Test.YthipoccbeloceaaBu15
import Derived.Test.YthipoccbeloceaaBu20
set_option linter.unusedSimpArgs false
set_option linter.unusedVariables false
namespace Go.Proofs.Ythipoccbeloceaa
open Go.RowKit
set_option maxRecDepth 100000 in
set_option maxHeartbeats 3200000 in
theorem rpower_any (p : RPar) (b c : Nat) (ts : List TokF) (d : Nat) (hd : d ≤ 64) (hz : p.z = decide (d = 64)) (HP : d < 64 → ROK p b c ts (d + 1)) (H_step : ∀ k, k < ts.length → RC 83 #[.agg #[.slice (some ⟨b, 0, none⟩) ts.length c], .int .i64 (k : Int), .int .i64 (d : Int)] (rstep ts p k) VG b c ts (k + 1)) (k : Nat) (hk : k < ts.length) : RC 81 #[.agg #[.slice (some ⟨b, 0, none⟩) ts.length c], .int .i64 (k : Int), .int .i64 (d : Int)] (rpower ts p k) VG b c ts (k + 1) := by
  intro w h
  obtain ⟨R, hR⟩ : ∃ R, rpower ts p k = R := ⟨_, rfl⟩
  rw [hR]
  have HF := Lib.hid hR
  have HRS := Lib.hid h
  have HO := h.ownN
  have hlen := h.ok.len
  have hkI : (k : Int) < (ts.length : Int) := by omega
  clear h hR
  have C_step := Lib.hid H_step
  clear H_step
  unfold rpower at HF
  rcases Nat.lt_or_ge d 64 with hlt | hge
  case' inl =>
    have d0 : ((d : Int) == 64) = false := by rw [beq_eq_false_iff_ne]; omega
    have hw1 : wrap64 ((d : Int) + 1) = (d : Int) + 1 := IntWalk.wrap64_in _ (by omega)
    have C_signed := Lib.hid (HP hlt).signed
    have hzz : p.z = false := by rw [hz]; exact decide_eq_false (by omega)
    simp only [hzz, Bool.false_eq_true, ↓reduceIte] at HF
    clear hz HP hzz hlt hd
    go_enter Try.func81, Try.ntmps81
    (repeat' (first | ((with_reducible refine zG ?_); first | refine oWx ?_ | (refine oWs ?_; clear HO; intro _ HO)) | ((go_big_may; first | (go_at_call 83; (first | refine arm_rn rfl ?_ (C_step.out _ ?_) HO HF ?_ ?_ | refine arm_rn rfl ?_ (C_step.out _ ?_) HO (gr_eta HF) ?_ ?_); (first | with_reducible rfl | rfl | (rw [IntWalk.i64_in _ (by omega)]; rfl)); (omega); (clear HO HF; intro _ _ _ _ _ HO _ hle hlt HF); rotate_left; (clear HO HF; intro _ _ _ HO hq HE); rotate_left) | (go_at_call 32; refine arm_is [94] (by decide) (by omega) HO rfl rfl ?_; clear HO; intro _ z hz hlt HO; cases z <;> (try simp only [hz, ↓reduceIte, bZ] at HF) <;> (first | (replace hlt := hlt rfl) | clear hlt)) | (go_at_call 78; (first | refine arm_rn rfl ?_ (C_signed.out _ ?_) HO HF ?_ ?_ | refine arm_rn rfl ?_ (C_signed.out _ ?_) HO (gr_eta HF) ?_ ?_); (first | with_reducible rfl | rfl | (rw [IntWalk.i64_in _ (by omega)]; rfl)); (omega); (clear HO HF; intro _ _ _ _ _ HO _ hle hlt HF); rotate_left; (clear HO HF; intro _ _ _ HO hq HE); rotate_left) | (go_at_call 62; refine arm_left (kind := 15) (s := [94]) HO rfl rfl rfl rfl mM mM (by assumption) (by assumption) ?_; clear HO; intro _ _ HO)) <;> (try dsimp only)) | go_values | go_skip | go_guarded | go_step | go_upon | (go_ite <;> go_prune <;> (try go_simp))))
    all_goals (refine oBc HO (t := 6) (ty := 116) rfl rfl rfl ?_; exact rFin)
  case' inr =>
    obtain rfl : d = 64 := by omega
    have hzz : p.z = true := by rw [hz]; rfl
    simp only [hzz, ↓reduceIte] at HF
    clear hz HP hzz
    go_enter Try.func81, Try.ntmps81
    (repeat' (first | ((with_reducible refine zG ?_); first | refine oWx ?_ | (refine oWs ?_; clear HO; intro _ HO)) | ((go_big_may; first | (go_at_call 83; (first | refine arm_rn rfl ?_ (C_step.out _ ?_) HO HF ?_ ?_ | refine arm_rn rfl ?_ (C_step.out _ ?_) HO (gr_eta HF) ?_ ?_); (first | with_reducible rfl | rfl | (rw [IntWalk.i64_in _ (by omega)]; rfl)); (omega); (clear HO HF; intro _ _ _ _ _ HO _ hle hlt HF); rotate_left; (clear HO HF; intro _ _ _ HO hq HE); rotate_left) | (go_at_call 32; refine arm_is [94] (by decide) (by omega) HO rfl rfl ?_; clear HO; intro _ z hz hlt HO; cases z <;> (try simp only [hz, ↓reduceIte, bZ] at HF) <;> (first | (replace hlt := hlt rfl) | clear hlt))) <;> (try dsimp only)) | go_values | go_skip | go_guarded | go_step | go_upon | (go_ite <;> go_prune <;> (try go_simp))))
    all_goals (refine oBc HO (t := 6) (ty := 116) rfl rfl rfl ?_; exact rFin)
set_option maxRecDepth 100000 in
set_option maxHeartbeats 3200000 in
theorem rclause_any (p : RPar) (b c : Nat) (ts : List TokF) (d : Nat) (H_expr : ∀ k, k < ts.length → RC 51 #[.agg #[.slice (some ⟨b, 0, none⟩) ts.length c], .int .i64 (k : Int), .int .i64 (d : Int)] (rexpr ts p k) VG b c ts (k + 1)) (k : Nat) (hk : k < ts.length) : RC 69 #[.agg #[.slice (some ⟨b, 0, none⟩) ts.length c], .int .i64 (k : Int), .int .i64 (d : Int)] (rclause ts p k) VG b c ts (k + 1) := by
  intro w h
  obtain ⟨R, hR⟩ : ∃ R, rclause ts p k = R := ⟨_, rfl⟩
  rw [hR]
  have HF := Lib.hid hR
  have HRS := Lib.hid h
  have HO := h.ownN
  have hlen := h.ok.len
  have hkI : (k : Int) < (ts.length : Int) := by omega
  clear h hR
  have C_expr := Lib.hid H_expr
  clear H_expr
  unfold rclause at HF
  go_enter Try.func69, Try.ntmps69
  (repeat' (first | ((with_reducible refine zG ?_); first | refine oWx ?_ | (refine oWs ?_; clear HO; intro _ HO)) | ((go_big_may; first | (go_at_call 32; refine arm_is [40] (by decide) (by omega) HO rfl rfl ?_; clear HO; intro _ z hz hlt HO; cases z <;> (try simp only [hz, ↓reduceIte, bZ] at HF) <;> (first | (replace hlt := hlt rfl) | clear hlt)) | (go_at_call 51; (first | refine arm_rn rfl ?_ (C_expr.out _ ?_) HO HF ?_ ?_ | refine arm_rn rfl ?_ (C_expr.out _ ?_) HO (gr_eta HF) ?_ ?_); (first | with_reducible rfl | rfl | (rw [IntWalk.i64_in _ (by omega)]; rfl)); (omega); (clear HO HF; intro _ _ _ _ _ HO _ hle hlt HF); rotate_left; (clear HO HF; intro _ _ _ HO hq HE); rotate_left) | (go_at_call 32; refine arm_is [41] (by decide) (by omega) HO rfl rfl ?_; clear HO; intro _ z hz hlt HO; cases z <;> (try simp only [hz, ↓reduceIte, bZ] at HF) <;> (first | (replace hlt := hlt rfl) | clear hlt)) | (go_at_call 63; refine arm_bad HO rfl rfl ?_; clear HO; intro _ HO)) <;> (try dsimp only)) | go_values | go_skip | go_guarded | go_step | go_upon | (go_ite <;> go_prune <;> (try go_simp))))
  all_goals (refine oBc HO (t := 6) (ty := 116) rfl rfl rfl ?_; exact rFin)
open Go.RowKit
set_option maxRecDepth 100000 in
set_option maxHeartbeats 3200000 in
theorem rsigned_any (p : RPar) (b c : Nat) (ts : List TokF) (d : Nat) (hd : d ≤ 64) (hz : p.z = decide (d = 64)) (HP : d < 64 → ROK p b c ts (d + 1)) (H_power : ∀ k, k < ts.length → RC 81 #[.agg #[.slice (some ⟨b, 0, none⟩) ts.length c], .int .i64 (k : Int), .int .i64 (d : Int)] (rpower ts p k) VG b c ts (k + 1)) (k : Nat) (hk : k < ts.length) : RC 78 #[.agg #[.slice (some ⟨b, 0, none⟩) ts.length c], .int .i64 (k : Int), .int .i64 (d : Int)] (rsigned ts p k) VG b c ts (k + 1) := by
  intro w h
  obtain ⟨R, hR⟩ : ∃ R, rsigned ts p k = R := ⟨_, rfl⟩
  rw [hR]
  have HF := Lib.hid hR
  have HRS := Lib.hid h
  have HO := h.ownN
  have hlen := h.ok.len
  have hkI : (k : Int) < (ts.length : Int) := by omega
  clear h hR
  have C_power := Lib.hid H_power
  clear H_power
  unfold rsigned at HF
  rcases Nat.lt_or_ge d 64 with hlt | hge
  case' inl =>
    have d0 : ((d : Int) == 64) = false := by rw [beq_eq_false_iff_ne]; omega
    have hw1 : wrap64 ((d : Int) + 1) = (d : Int) + 1 := IntWalk.wrap64_in _ (by omega)
    have C_signed := Lib.hid (HP hlt).signed
    have hzz : p.z = false := by rw [hz]; exact decide_eq_false (by omega)
    simp only [hzz, Bool.false_eq_true, ↓reduceIte] at HF
    clear hz HP hzz hlt hd
    go_enter Try.func78, Try.ntmps78
    (repeat' (first | ((with_reducible refine zG ?_); first | refine oWx ?_ | (refine oWs ?_; clear HO; intro _ HO) | (refine oWj ?_; clear HO; intro _ HO HB)) | ((go_big_may; first | (go_at_call 61; refine arm_among [32, 43, 32, 45, 32, 33, 32] (by decide) (by decide) (by omega) HO rfl rfl ?_; clear HO; intro _ z hz hlt HO; cases z <;> (try simp only [hz, ↓reduceIte, bZ] at HF) <;> (first | (replace hlt := hlt rfl) | clear hlt)) | (go_at_call 78; (first | refine arm_rn rfl ?_ (C_signed.out _ ?_) HO HF ?_ ?_ | refine arm_rn rfl ?_ (C_signed.out _ ?_) HO (gr_eta HF) ?_ ?_); (first | with_reducible rfl | rfl | (rw [IntWalk.i64_in _ (by omega)]; rfl)); (omega); (clear HO HF; intro _ _ _ _ _ HO _ hle hlt HF); rotate_left; (clear HO HF; intro _ _ _ HO hq HE); rotate_left) | (go_at_call 81; (first | refine arm_rn rfl ?_ (C_power.out _ ?_) HO HF ?_ ?_ | refine arm_rn rfl ?_ (C_power.out _ ?_) HO (gr_eta HF) ?_ ?_); (first | with_reducible rfl | rfl | (rw [IntWalk.i64_in _ (by omega)]; rfl)); (omega); (clear HO HF; intro _ _ _ _ _ HO _ hle hlt HF); rotate_left; (clear HO HF; intro _ _ _ HO hq HE); rotate_left)) <;> (try dsimp only)) | go_values | go_skip | go_guarded | go_step | go_upon | (go_ite <;> go_prune <;> (try go_simp))))
    all_goals (first | (refine oBc HO (t := 6) (ty := 116) rfl rfl rfl ?_; exact rFin) | skip)
    simp only [hw1]
    refine eBe HO [19] [0, 2, 6, 8, 12, 16, 1, 3, 4, 5, 7, 9, 10, 11, 13, 17, 14, 15, 18] [19] ?_
    clear HO
    intro _ HO
    (repeat' (first | ((with_reducible refine zG ?_); first | (refine oWf ?_; intro K hK) | refine oWe ?_ | refine oWr ?_ | refine oWp ?_) | ((with_reducible refine zG ?_); first | (refine oWg ?_; intro K hK) | (refine oWk ?_; clear hK K) | (refine oWs ?_; clear HO; intro _ HO)) | ((with_reducible refine zG ?_); refine oWn ?_; clear HO; intro _ HO) | ((with_reducible refine zG ?_); refine oWj ?_; clear HO; intro _ HO HB) | ((with_reducible refine eOp ?_); go_simp)))
    (repeat' (first | ((with_reducible refine zG ?_); first | refine oWx ?_ | (refine oWs ?_; clear HO; intro _ HO) | (refine oWj ?_; clear HO; intro _ HO HB)) | go_values | go_skip | go_guarded | go_step | go_upon | (go_ite <;> go_prune <;> (try go_simp))))
    all_goals (refine oBc HO (t := 6) (ty := 116) rfl rfl rfl ?_; exact rFin)
  case' inr =>
    obtain rfl : d = 64 := by omega
    have hzz : p.z = true := by rw [hz]; rfl
    simp only [hzz, ↓reduceIte] at HF
    clear hz HP hzz
    go_enter Try.func78, Try.ntmps78
    (repeat' (first | ((with_reducible refine zG ?_); first | refine oWx ?_ | (refine oWs ?_; clear HO; intro _ HO) | (refine oWj ?_; clear HO; intro _ HO HB)) | ((go_big_may; first | (go_at_call 61; refine arm_among [32, 43, 32, 45, 32, 33, 32] (by decide) (by decide) (by omega) HO rfl rfl ?_; clear HO; intro _ z hz hlt HO; cases z <;> (try simp only [hz, ↓reduceIte, bZ] at HF) <;> (first | (replace hlt := hlt rfl) | clear hlt)) | (go_at_call 81; (first | refine arm_rn rfl ?_ (C_power.out _ ?_) HO HF ?_ ?_ | refine arm_rn rfl ?_ (C_power.out _ ?_) HO (gr_eta HF) ?_ ?_); (first | with_reducible rfl | rfl | (rw [IntWalk.i64_in _ (by omega)]; rfl)); (omega); (clear HO HF; intro _ _ _ _ _ HO _ hle hlt HF); rotate_left; (clear HO HF; intro _ _ _ HO hq HE); rotate_left)) <;> (try dsimp only)) | go_values | go_skip | go_guarded | go_step | go_upon | (go_ite <;> go_prune <;> (try go_simp))))
    all_goals (refine oBc HO (t := 6) (ty := 116) rfl rfl rfl ?_; exact rFin)
end Go.Proofs.Ythipoccbeloceaa
