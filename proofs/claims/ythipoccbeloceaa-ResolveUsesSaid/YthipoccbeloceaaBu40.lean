/- Several texts put together: RqD, RqE. -/
import Derived.Test.YthipoccbeloceaaBu34
import Derived.Test.YthipoccbeloceaaBu35
import Derived.Test.YthipoccbeloceaaBu36
import Derived.Test.YthipoccbeloceaaBu25
set_option linter.unusedSimpArgs false
set_option linter.unusedVariables false
namespace Go.Proofs.Ythipoccbeloceaa
open Go.RowKit
theorem rsimple_any (p : RPar) (b c : Nat) (ts : List TokF) (d : Nat) (H_list : ∀ k e z, (∀ x ∈ e, x < 256) → k < ts.length → RC 80 #[.agg #[.slice (some ⟨b, 0, none⟩) ts.length c], .int .i64 (k : Int), .int .i64 (d : Int), .string (strN e), .bool z] (rlist ts p k e z) VGL b c ts (k + 1)) (H_expr : ∀ k, k < ts.length → RC 51 #[.agg #[.slice (some ⟨b, 0, none⟩) ts.length c], .int .i64 (k : Int), .int .i64 (d : Int)] (rexpr ts p k) VG b c ts (k + 1)) (H_level : ∀ k, k < ts.length → RC 68 #[.agg #[.slice (some ⟨b, 0, none⟩) ts.length c], .int .i64 (k : Int), .int .i64 (d : Int), .int .i64 6] (rlev6 ts p k) VG b c ts (k + 1)) (k : Nat) (hk : k < ts.length) : RC 72 #[.agg #[.slice (some ⟨b, 0, none⟩) ts.length c], .int .i64 (k : Int), .int .i64 (d : Int)] (rsimple ts p k) VG b c ts (k + 1) := by
  cases h7 : (((tk ts k).k : Int) == 7)
  · exact rsimpleR_any p b c ts d H_list H_expr H_level k (.inl h7) hk
  cases s6 : decide ((tk ts k).s = [112, 114, 105, 110, 116])
  · cases s7 : decide ((tk ts k).s = [112, 114, 105, 110, 116, 102])
    · exact rsimpleR_any p b c ts d H_list H_expr H_level k (.inr ⟨s6, s7⟩) hk
    · exact rsimpleQ_any p b c ts d H_list H_expr H_level k h7 s7 hk
  · exact rsimpleP_any p b c ts d H_list H_expr H_level k h7 s6 hk
open Go.RowKit
set_option maxRecDepth 100000 in
set_option maxHeartbeats 3200000 in
theorem rstmt_any (p : RPar) (b c : Nat) (ts : List TokF) (d : Nat) (hd : d ≤ 64) (hz : p.z = decide (d = 64)) (HP : d < 64 → ROK p b c ts (d + 1)) (k : Nat) (hk : k < ts.length) : RC 64 #[.agg #[.slice (some ⟨b, 0, none⟩) ts.length c], .int .i64 (k : Int), .int .i64 (d : Int)] (rstmt ts p k) VG b c ts (k + 1) := by
  intro w h
  obtain ⟨R, hR⟩ : ∃ R, rstmt ts p k = R := ⟨_, rfl⟩
  rw [hR]
  have HF := Lib.hid hR
  have HRS := Lib.hid h
  have HO := h.ownN
  have hlen := h.ok.len
  have hkI : (k : Int) < (ts.length : Int) := by omega
  clear h hR
  unfold rstmt at HF
  rcases Nat.lt_or_ge d 64 with hlt | hge
  rotate_left
  ·
    obtain rfl : d = 64 := by omega
    have hzz : p.z = true := by rw [hz]; rfl
    simp only [hzz, ↓reduceIte] at HF
    clear hz HP hzz
    go_enter Try.func64, Try.ntmps64
    (repeat' (first | ((with_reducible refine zG ?_); first | refine oWx ?_ | (refine oWs ?_; clear HO; intro _ HO) | (refine oWj ?_; clear HO; intro _ HO HB)) | go_values | go_skip | go_guarded | go_step | go_upon | (go_ite <;> go_prune <;> (try go_simp))))
    all_goals (refine oBc HO (t := 6) (ty := 116) rfl rfl rfl ?_; exact rFin)
  have hlt0 := hlt
  have d0 : ((d : Int) == 64) = false := by rw [beq_eq_false_iff_ne]; omega
  have hw1 : wrap64 ((d : Int) + 1) = (d : Int) + 1 := IntWalk.wrap64_in _ (by omega)
  have C_block := Lib.hid (HP hlt).block
  have C_clause := Lib.hid (HP hlt).clause
  have C_stmt := Lib.hid (HP hlt).stmt
  have C_loop := Lib.hid (HP hlt).loop
  have C_simple := Lib.hid (HP hlt).simple
  have hzz : p.z = false := by rw [hz]; exact decide_eq_false (by omega)
  simp only [hzz, Bool.false_eq_true, ↓reduceIte] at HF
  clear hz HP hzz hlt hd
  go_enter Try.func64, Try.ntmps64
  (repeat' (first | ((with_reducible refine zG ?_); first | refine oWx ?_ | (refine oWs ?_; clear HO; intro _ HO) | (refine oWj ?_; clear HO; intro _ HO HB)) | ((with_reducible refine to_load ?_); (first | first | refine oR6 HO rfl rfl rfl (by omega) ?_ | refine oR1 HO rfl rfl rfl rfl (by omega) ?_ | refine oR0 HO rfl rfl rfl (by omega) ?_); (try simp only [Act.put, pS])) | ((go_big_may; first | (go_at_call 32; refine arm_is [123] (by decide) (by omega) HO rfl rfl ?_; clear HO; intro _ z hz hlt HO; cases z <;> (try simp only [hz, ↓reduceIte, bZ] at HF) <;> (first | (replace hlt := hlt rfl) | clear hlt)) | (go_at_call 53; (first | refine arm_rn rfl ?_ (C_block.out _ ?_) HO HF ?_ ?_ | refine arm_rn rfl ?_ (C_block.out _ ?_) HO (gr_eta HF) ?_ ?_); (first | with_reducible rfl | rfl | (rw [IntWalk.i64_in _ (by omega)]; rfl)); (omega); (clear HO HF; intro _ _ _ _ _ HO _ hle hlt HF); rotate_left; (clear HO HF; intro _ _ _ HO hq HE); rotate_left) | (go_at_call 32; refine arm_is [59] (by decide) (by omega) HO rfl rfl ?_; clear HO; intro _ z hz hlt HO; cases z <;> (try simp only [hz, ↓reduceIte, bZ] at HF) <;> (first | (replace hlt := hlt rfl) | clear hlt)) | (go_at_call 32; refine arm_is [105, 102] (by decide) (by omega) HO rfl rfl ?_; clear HO; intro _ z hz hlt HO; cases z <;> (try simp only [hz, ↓reduceIte, bZ] at HF) <;> (first | (replace hlt := hlt rfl) | clear hlt)) | (go_at_call 32; refine arm_is [119, 104, 105, 108, 101] (by decide) (by omega) HO rfl rfl ?_; clear HO; intro _ z hz hlt HO; cases z <;> (try simp only [hz, ↓reduceIte, bZ] at HF) <;> (first | (replace hlt := hlt rfl) | clear hlt)) | (go_at_call 69; (first | refine arm_rn rfl ?_ (C_clause.out _ ?_) HO HF ?_ ?_ | refine arm_rn rfl ?_ (C_clause.out _ ?_) HO (gr_eta HF) ?_ ?_); (first | with_reducible rfl | rfl | (rw [IntWalk.i64_in _ (by omega)]; rfl)); (omega); (clear HO HF; intro _ _ _ _ _ HO _ hle hlt HF); rotate_left; (clear HO HF; intro _ _ _ HO hq HE); rotate_left) | (go_at_call 32; refine arm_is [100, 111] (by decide) (by omega) HO rfl rfl ?_; clear HO; intro _ z hz hlt HO; cases z <;> (try simp only [hz, ↓reduceIte, bZ] at HF) <;> (first | (replace hlt := hlt rfl) | clear hlt)) | (go_at_call 32; refine arm_is [102, 111, 114] (by decide) (by omega) HO rfl rfl ?_; clear HO; intro _ z hz hlt HO; cases z <;> (try simp only [hz, ↓reduceIte, bZ] at HF) <;> (first | (replace hlt := hlt rfl) | clear hlt)) | (go_at_call 71; (first | refine arm_rn rfl ?_ (C_loop.out _ ?_) HO HF ?_ ?_ | refine arm_rn rfl ?_ (C_loop.out _ ?_) HO (gr_eta HF) ?_ ?_); (first | with_reducible rfl | rfl | (rw [IntWalk.i64_in _ (by omega)]; rfl)); (omega); (clear HO HF; intro _ _ _ _ _ HO _ hle hlt HF); rotate_left; (clear HO HF; intro _ _ _ HO hq HE); rotate_left)) <;> (try dsimp only)) | go_values | go_skip | go_guarded | go_step | go_upon | (go_ite <;> go_prune <;> (try go_simp))))
  all_goals (first | (refine oBc HO (t := 6) (ty := 116) rfl rfl rfl ?_; exact rFin) | skip)
  all_goals (try simp only [hw1])
  ·
    refine eBe HO [6] [2, 3, 0, 1, 4, 5] [6] ?_
    clear HO
    intro _ HO
    (repeat' (first | ((with_reducible refine zG ?_); first | (refine oWf ?_; intro K hK) | refine oWe ?_ | refine oWr ?_ | refine oWp ?_) | ((with_reducible refine zG ?_); first | (refine oWg ?_; intro K hK) | (refine oWk ?_; clear hK K) | (refine oWs ?_; clear HO; intro _ HO)) | ((first | (go_at_call 72; (first | refine arm_rn rfl ?_ (C_simple.out _ ?_) HO HF ?_ ?_ | refine arm_rn rfl ?_ (C_simple.out _ ?_) HO (gr_eta HF) ?_ ?_); (first | with_reducible rfl | rfl | (rw [IntWalk.i64_in _ (by omega)]; rfl)); (omega); (clear HO HF; intro _ _ _ _ _ HO _ hle hlt HF); rotate_left; (clear HO HF; intro _ _ _ HO hq HE); rotate_left) | (go_at_call 70; first | (refine arm_shutE HO (by assumption) rfl rfl ?_; clear HO; intro _ HO) | ((first | refine arm_shut HO HF (by omega) rfl rfl ?_ ?_ | refine arm_shutZ HO HF (by omega) rfl rfl ?_ ?_); (clear HO HF; intro _ _ HO hle hlt HF); rotate_left; (clear HO HF; intro _ HO HE; have hq : ((4 : Int) != 0) = true := rfl); rotate_left))) <;> (try dsimp only)) | ((with_reducible refine eOp ?_); go_simp)))
    all_goals
      (repeat' (first | ((with_reducible refine zG ?_); first | refine oWx ?_ | (refine oWs ?_; clear HO; intro _ HO) | (refine oWj ?_; clear HO; intro _ HO HB)) | go_values | go_skip | go_guarded | go_step | go_upon | (go_ite <;> go_prune <;> (try go_simp))))
      all_goals (refine oBc HO (t := 6) (ty := 116) rfl rfl rfl ?_; exact rFin)
  ·
    have HO0 := HO
    have HF0 := HF
    go_cut [12] from 134 to 140 (fun v wx => CutG HO0 HF0 (k + 2) v wx)
    case first =>
      refine eBe HO [8] [2, 3, 5, 0, 1, 7, 4, 6] [8] ?_
      clear HO
      intro _ HO
      (repeat' (first | ((with_reducible refine eGo ?_); first | (refine eFl HO rfl rfl rfl (by kernel_rfl) (by rfl) (by rfl) ?_ (fun K hK => ?_); (clear HO; intro _ HO); (try simp only [Act.put, pS]); rotate_left) | (refine eFm HO rfl rfl (by kernel_rfl) (by rfl) ?_; clear HO; intro _ HO; (try simp only [Act.put, pS]))) | ((with_reducible refine zG ?_); first | (refine oWf ?_; intro K hK) | refine oWe ?_ | refine oWr ?_ | refine oWp ?_) | ((with_reducible refine zG ?_); first | (refine oWg ?_; intro K hK) | (refine oWk ?_; clear hK K) | (refine oWs ?_; clear HO; intro _ HO)) | ((first | (go_at_call 52; refine arm_lines (by omega) HO rfl rfl ?_; clear HO; intro _ q hq hle hlt HO; (try simp only [hq] at HF)) | (go_at_call 64; (first | refine arm_rn rfl ?_ (C_stmt.out _ ?_) HO HF ?_ ?_ | refine arm_rn rfl ?_ (C_stmt.out _ ?_) HO (gr_eta HF) ?_ ?_); (first | with_reducible rfl | rfl | (rw [IntWalk.i64_in _ (by omega)]; rfl)); (omega); (clear HO HF; intro _ _ _ _ _ HO _ hle hlt HF); rotate_left; (clear HO HF; intro _ _ _ HO hq HE); rotate_left)) <;> (try dsimp only)) | ((with_reducible refine eOp ?_); go_simp)))
      all_goals (go_wp2_with fail; go_meet; first | exact .inl ⟨_, _, _, _, _, rfl, HO, by assumption, by omega, by omega, HF⟩ | exact .inr ⟨_, _, _, rfl, HO, by assumption, HE⟩)
    case' rest =>
      clear HO HF
      rcases hcut with ⟨B9, x9, A9, c9, k9, rfl, HO, hl9, hle9, hlt9, HF⟩ | ⟨B9, k9, q9, rfl, HO, hq9, HE⟩
    all_goals clear HO0 HF0
    all_goals
      (repeat' (first | ((with_reducible refine zG ?_); first | refine oWx ?_ | (refine oWs ?_; clear HO; intro _ HO) | (refine oWj ?_; clear HO; intro _ HO HB)) | ((with_reducible refine zG ?_); refine oWn ?_; clear HO; intro _ HO) | ((go_big_may; first | (go_at_call 32; refine arm_is [119, 104, 105, 108, 101] (by decide) (by omega) HO rfl rfl ?_; clear HO; intro _ z hz hlt HO; cases z <;> (try simp only [hz, ↓reduceIte, bZ] at HF) <;> (first | (replace hlt := hlt rfl) | clear hlt)) | (go_at_call 63; refine arm_bad HO rfl rfl ?_; clear HO; intro _ HO) | (go_at_call 69; (first | refine arm_rn rfl ?_ (C_clause.out _ ?_) HO HF ?_ ?_ | refine arm_rn rfl ?_ (C_clause.out _ ?_) HO (gr_eta HF) ?_ ?_); (first | with_reducible rfl | rfl | (rw [IntWalk.i64_in _ (by omega)]; rfl)); (omega); (clear HO HF; intro _ _ _ _ _ HO _ hle hlt HF); rotate_left; (clear HO HF; intro _ _ _ HO hq HE); rotate_left) | (go_at_call 70; first | (refine arm_shutE HO (by assumption) rfl rfl ?_; clear HO; intro _ HO) | ((first | refine arm_shut HO HF (by omega) rfl rfl ?_ ?_ | refine arm_shutZ HO HF (by omega) rfl rfl ?_ ?_); (clear HO HF; intro _ _ HO hle hlt HF); rotate_left; (clear HO HF; intro _ HO HE; have hq : ((4 : Int) != 0) = true := rfl); rotate_left)) | fail) <;> (try dsimp only)) | go_values | go_skip | go_guarded | go_step | go_upon | (go_ite <;> go_prune <;> (try go_simp))))
      all_goals (refine oBc HO (t := 6) (ty := 116) rfl rfl rfl ?_; exact rFin)
  ·
    have HO0 := HO
    have HF0 := HF
    go_cut [10] from 73 to 79 (fun v wx => CutG HO0 HF0 (k + 2) v wx)
    case first =>
      refine eBe HO [8] [2, 5, 0, 1, 3, 7, 4, 6] [8] ?_
      clear HO
      intro _ HO
      (repeat' (first | ((with_reducible refine eGo ?_); first | (refine eFl HO rfl rfl rfl (by kernel_rfl) (by rfl) (by rfl) ?_ (fun K hK => ?_); (clear HO; intro _ HO); (try simp only [Act.put, pS]); rotate_left) | (refine eFm HO rfl rfl (by kernel_rfl) (by rfl) ?_; clear HO; intro _ HO; (try simp only [Act.put, pS]))) | ((with_reducible refine zG ?_); first | (refine oWf ?_; intro K hK) | refine oWe ?_ | refine oWr ?_ | refine oWp ?_) | ((with_reducible refine zG ?_); first | (refine oWg ?_; intro K hK) | (refine oWk ?_; clear hK K) | (refine oWs ?_; clear HO; intro _ HO)) | ((first | (go_at_call 52; refine arm_lines (by omega) HO rfl rfl ?_; clear HO; intro _ q hq hle hlt HO; (try simp only [hq] at HF)) | (go_at_call 64; (first | refine arm_rn rfl ?_ (C_stmt.out _ ?_) HO HF ?_ ?_ | refine arm_rn rfl ?_ (C_stmt.out _ ?_) HO (gr_eta HF) ?_ ?_); (first | with_reducible rfl | rfl | (rw [IntWalk.i64_in _ (by omega)]; rfl)); (omega); (clear HO HF; intro _ _ _ _ _ HO _ hle hlt HF); rotate_left; (clear HO HF; intro _ _ _ HO hq HE); rotate_left)) <;> (try dsimp only)) | ((with_reducible refine eOp ?_); go_simp)))
      all_goals (go_wp2_with fail; go_meet; first | exact .inl ⟨_, _, _, _, _, rfl, HO, by assumption, by omega, by omega, HF⟩ | exact .inr ⟨_, _, _, rfl, HO, by assumption, HE⟩)
    case' rest =>
      clear HO HF
      rcases hcut with ⟨B9, x9, A9, c9, k9, rfl, HO, hl9, hle9, hlt9, HF⟩ | ⟨B9, k9, q9, rfl, HO, hq9, HE⟩
    all_goals clear HO0 HF0
    all_goals
      (repeat' (go_not_at_region 27; first | ((with_reducible refine zG ?_); first | refine oWx ?_ | (refine oWs ?_; clear HO; intro _ HO) | (refine oWj ?_; clear HO; intro _ HO HB)) | ((with_reducible refine zG ?_); refine oWn ?_; clear HO; intro _ HO) | ((go_big_may; first | (go_at_call 32; refine arm_is [119, 104, 105, 108, 101] (by decide) (by omega) HO rfl rfl ?_; clear HO; intro _ z hz hlt HO; cases z <;> (try simp only [hz, ↓reduceIte, bZ] at HF) <;> (first | (replace hlt := hlt rfl) | clear hlt)) | (go_at_call 32; refine arm_is [101, 108, 115, 101] (by decide) (by omega) HO rfl rfl ?_; clear HO; intro _ z hz hlt HO; cases z <;> (try simp only [hz, ↓reduceIte, bZ] at HF) <;> (first | (replace hlt := hlt rfl) | clear hlt)) | fail) <;> (try dsimp only)) | go_values | go_skip | go_guarded | go_step | go_upon | (go_ite <;> go_prune <;> (try go_simp))))
      all_goals (try (exact absurd (show ris ts k [119, 104, 105, 108, 101] = true by assumption) (by rw [show ris ts k [119, 104, 105, 108, 101] = false by assumption]; decide)))
      all_goals (refine oBc HO (t := 6) (ty := 116) rfl rfl rfl ?_; exact rFin)
  ·
    have HO0 := HO
    have HF0 := HF
    go_cut [10] from 73 to 79 (fun v wx => CutG HO0 HF0 (k + 2) v wx)
    case first =>
      refine eBe HO [8] [2, 5, 0, 1, 3, 7, 4, 6] [8] ?_
      clear HO
      intro _ HO
      (repeat' (first | ((with_reducible refine eGo ?_); first | (refine eFl HO rfl rfl rfl (by kernel_rfl) (by rfl) (by rfl) ?_ (fun K hK => ?_); (clear HO; intro _ HO); (try simp only [Act.put, pS]); rotate_left) | (refine eFm HO rfl rfl (by kernel_rfl) (by rfl) ?_; clear HO; intro _ HO; (try simp only [Act.put, pS]))) | ((with_reducible refine zG ?_); first | (refine oWf ?_; intro K hK) | refine oWe ?_ | refine oWr ?_ | refine oWp ?_) | ((with_reducible refine zG ?_); first | (refine oWg ?_; intro K hK) | (refine oWk ?_; clear hK K) | (refine oWs ?_; clear HO; intro _ HO)) | ((first | (go_at_call 52; refine arm_lines (by omega) HO rfl rfl ?_; clear HO; intro _ q hq hle hlt HO; (try simp only [hq] at HF)) | (go_at_call 64; (first | refine arm_rn rfl ?_ (C_stmt.out _ ?_) HO HF ?_ ?_ | refine arm_rn rfl ?_ (C_stmt.out _ ?_) HO (gr_eta HF) ?_ ?_); (first | with_reducible rfl | rfl | (rw [IntWalk.i64_in _ (by omega)]; rfl)); (omega); (clear HO HF; intro _ _ _ _ _ HO _ hle hlt HF); rotate_left; (clear HO HF; intro _ _ _ HO hq HE); rotate_left)) <;> (try dsimp only)) | ((with_reducible refine eOp ?_); go_simp)))
      all_goals (go_wp2_with fail; go_meet; first | exact .inl ⟨_, _, _, _, _, rfl, HO, by assumption, by omega, by omega, HF⟩ | exact .inr ⟨_, _, _, rfl, HO, by assumption, HE⟩)
    case' rest =>
      clear HO HF
      rcases hcut with ⟨B9, x9, A9, c9, k9, rfl, HO, hl9, hle9, hlt9, HF⟩ | ⟨B9, k9, q9, rfl, HO, hq9, HE⟩
    all_goals clear HO0 HF0
    all_goals
      (repeat' (go_not_at_region 27; first | ((with_reducible refine zG ?_); first | refine oWx ?_ | (refine oWs ?_; clear HO; intro _ HO) | (refine oWj ?_; clear HO; intro _ HO HB)) | ((with_reducible refine nE2 HO ?_ ?_); (and_intros <;> (first | assumption | exact Nat.le_refl _)); clear HO; intro _ HO) | ((go_big_may; first | (go_at_call 32; refine arm_is [119, 104, 105, 108, 101] (by decide) (by omega) HO rfl rfl ?_; clear HO; intro _ z hz hlt HO; cases z <;> (try simp only [hz, ↓reduceIte, bZ] at HF) <;> (first | (replace hlt := hlt rfl) | clear hlt)) | (go_at_call 32; refine arm_is [101, 108, 115, 101] (by decide) (by omega) HO rfl rfl ?_; clear HO; intro _ z hz hlt HO; cases z <;> (try simp only [hz, ↓reduceIte, bZ] at HF) <;> (first | (replace hlt := hlt rfl) | clear hlt)) | fail) <;> (try dsimp only)) | go_values | go_skip | go_guarded | go_step | go_upon | (go_ite <;> go_prune <;> (try go_simp))))
      all_goals first
        | (refine oBc HO (t := 6) (ty := 116) rfl rfl rfl ?_
           first
           | exact rp_err HO (by assumption) HE
           | (refine rp_nodeE (els := [(_, _, _), (_, _, _)]) HO HF mH ?_ ?_ ?_; (show (_ : Nat) ≤ _; omega); (show (_ : Nat) < _; omega); (first | assumption | exact Nat.le_refl _)))
        | skip
    have HO0 := HO
    have HF0 := HF
    go_cut [11] from 107 to 114 (fun v wx => CutG HO0 HF0 (k + 2) v wx)
    case first =>
      refine eBe HO [9] [2, 6, 0, 1, 3, 4, 8, 5, 7] [9] ?_
      clear HO
      intro _ HO
      (repeat' (first | ((with_reducible refine eGo ?_); first | (refine eFl HO rfl rfl rfl (by kernel_rfl) (by rfl) (by rfl) ?_ (fun K hK => ?_); (clear HO; intro _ HO); (try simp only [Act.put, pS]); rotate_left) | (refine eFm HO rfl rfl (by kernel_rfl) (by rfl) ?_; clear HO; intro _ HO; (try simp only [Act.put, pS]))) | ((with_reducible refine zG ?_); first | (refine oWf ?_; intro K hK) | refine oWe ?_ | refine oWr ?_ | refine oWp ?_) | ((with_reducible refine zG ?_); first | (refine oWg ?_; intro K hK) | (refine oWk ?_; clear hK K) | (refine oWs ?_; clear HO; intro _ HO)) | ((first | (go_at_call 52; refine arm_lines (by omega) HO rfl rfl ?_; clear HO; intro _ q hq hle hlt HO; (try simp only [hq] at HF)) | (go_at_call 64; (first | refine arm_rn rfl ?_ (C_stmt.out _ ?_) HO HF ?_ ?_ | refine arm_rn rfl ?_ (C_stmt.out _ ?_) HO (gr_eta HF) ?_ ?_); (first | with_reducible rfl | rfl | (rw [IntWalk.i64_in _ (by omega)]; rfl)); (omega); (clear HO HF; intro _ _ _ _ _ HO _ hle hlt HF); rotate_left; (clear HO HF; intro _ _ _ HO hq HE); rotate_left)) <;> (try dsimp only)) | ((with_reducible refine eOp ?_); go_simp)))
      all_goals (go_wp2_with fail; go_meet; first | exact .inl ⟨_, _, _, _, _, rfl, HO, by assumption, by omega, by omega, HF⟩ | exact .inr ⟨_, _, _, rfl, HO, by assumption, HE⟩)
    case' rest =>
      clear HO HF
      rcases hcut with ⟨B9, x9, A9, c9, k9, rfl, HO, hl9, hle9, hlt9, HF⟩ | ⟨B9, k9, q9, rfl, HO, hq9, HE⟩
    all_goals clear HO0 HF0
    all_goals
      (repeat' (first | ((with_reducible refine zG ?_); first | refine oWx ?_ | (refine oWs ?_; clear HO; intro _ HO) | (refine oWj ?_; clear HO; intro _ HO HB)) | ((with_reducible refine zG ?_); refine oWn ?_; clear HO; intro _ HO) | ((with_reducible refine to_append ?_); refine wo_appN (els := [(_, _, _), (_, _, _)]) HO mM rfl rfl rfl mM (by first | omega | simp) ?_; clear HO; intro eN _ _ _ hmap hlen hcap HO; replace hlen := Lib.hid hlen; (try simp only [Act.put, pS])) | go_values | go_skip | go_guarded | go_step | go_upon | (go_ite <;> go_prune <;> (try go_simp))))
      all_goals
        refine oBc HO (t := 6) (ty := 116) rfl rfl rfl ?_
        first
        | exact rp_err HO (by assumption) HE
        | (refine rp_nodeE HO (by rw [hmap]; exact HF) mH ?_ ?_ ?_; (show (_ : Nat) ≤ _; omega); (show (_ : Nat) < _; omega); (first | assumption | exact Nat.le_refl _))
  ·
    refine eBe HO [6] [2, 3, 0, 1, 4, 5] [6] ?_
    clear HO
    intro _ HO
    (repeat' (first | ((with_reducible refine zG ?_); first | (refine oWf ?_; intro K hK) | refine oWe ?_ | refine oWr ?_ | refine oWp ?_) | ((with_reducible refine zG ?_); first | (refine oWg ?_; intro K hK) | (refine oWk ?_; clear hK K) | (refine oWs ?_; clear HO; intro _ HO)) | ((first | (go_at_call 30; refine arm_ends (by omega) HO rfl rfl ?_; clear HO; intro _ q hq hle hlt HO; (try simp only [hq] at HF))) <;> (try dsimp only)) | ((with_reducible refine eOp ?_); go_simp)))
    all_goals
      (repeat' (first | ((with_reducible refine zG ?_); first | refine oWx ?_ | (refine oWs ?_; clear HO; intro _ HO) | (refine oWj ?_; clear HO; intro _ HO HB)) | go_values | go_skip | go_guarded | go_step | go_upon | (go_ite <;> go_prune <;> (try go_simp))))
      all_goals (refine oBc HO (t := 6) (ty := 116) rfl rfl rfl ?_; exact rFin)
  ·
    refine eBe HO [7] [0, 3, 1, 2, 4, 5, 6] [7] ?_
    clear HO
    intro _ HO
    (repeat' (first | ((with_reducible refine zG ?_); first | (refine oWf ?_; intro K hK) | refine oWe ?_ | refine oWr ?_ | refine oWp ?_) | ((with_reducible refine zG ?_); first | (refine oWg ?_; intro K hK) | (refine oWk ?_; clear hK K) | (refine oWs ?_; clear HO; intro _ HO)) | ((first | (go_at_call 30; refine arm_ends (by omega) HO rfl rfl ?_; clear HO; intro _ q hq hle hlt HO; (try simp only [hq] at HF))) <;> (try dsimp only)) | ((with_reducible refine eOp ?_); go_simp)))
    all_goals
      (repeat' (first | ((with_reducible refine zG ?_); first | refine oWx ?_ | (refine oWs ?_; clear HO; intro _ HO) | (refine oWj ?_; clear HO; intro _ HO HB)) | go_values | go_skip | go_guarded | go_step | go_upon | (go_ite <;> go_prune <;> (try go_simp))))
      all_goals (refine oBc HO (t := 6) (ty := 116) rfl rfl rfl ?_; exact rFin)
end Go.Proofs.Ythipoccbeloceaa
