/- Several texts put together: RqC. -/
import Derived.Test.YthipoccbeloceaaBu25
set_option linter.unusedSimpArgs false
set_option linter.unusedVariables false
namespace Go.Proofs.Ythipoccbeloceaa
open Go.RowKit
set_option maxRecDepth 100000 in
set_option maxHeartbeats 3200000 in
theorem rsimpleR_any (p : RPar) (b c : Nat) (ts : List TokF) (d : Nat) (H_list : ∀ k e z, (∀ x ∈ e, x < 256) → k < ts.length → RC 80 #[.agg #[.slice (some ⟨b, 0, none⟩) ts.length c], .int .i64 (k : Int), .int .i64 (d : Int), .string (strN e), .bool z] (rlist ts p k e z) VGL b c ts (k + 1)) (H_expr : ∀ k, k < ts.length → RC 51 #[.agg #[.slice (some ⟨b, 0, none⟩) ts.length c], .int .i64 (k : Int), .int .i64 (d : Int)] (rexpr ts p k) VG b c ts (k + 1)) (H_level : ∀ k, k < ts.length → RC 68 #[.agg #[.slice (some ⟨b, 0, none⟩) ts.length c], .int .i64 (k : Int), .int .i64 (d : Int), .int .i64 6] (rlev6 ts p k) VG b c ts (k + 1)) (k : Nat) (hw : (((tk ts k).k : Int) == 7) = false ∨ (decide ((tk ts k).s = [112, 114, 105, 110, 116]) = false ∧ decide ((tk ts k).s = [112, 114, 105, 110, 116, 102]) = false)) (hk : k < ts.length) : RC 72 #[.agg #[.slice (some ⟨b, 0, none⟩) ts.length c], .int .i64 (k : Int), .int .i64 (d : Int)] (rsimple ts p k) VG b c ts (k + 1) := by
  intro w h
  obtain ⟨R, hR⟩ : ∃ R, rsimple ts p k = R := ⟨_, rfl⟩
  rw [hR]
  have HF := Lib.hid hR
  have HRS := Lib.hid h
  have HO := h.ownN
  have hlen := h.ok.len
  have hkI : (k : Int) < (ts.length : Int) := by omega
  clear h hR
  have C_list := Lib.hid H_list
  clear H_list
  have C_expr := Lib.hid H_expr
  clear H_expr
  have C_level := Lib.hid H_level
  clear H_level
  unfold rsimple at HF
  have hby : ∀ x ∈ (tk ts k).s, x < 256 := by rw [tk_eq hk]; exact HRS.out.ok.byte _ (List.getElem_mem hk)
  have w0 : ((strN (tk ts k).s).toList == [98, 114, 101, 97, 107]) = decide ((tk ts k).s = [98, 114, 101, 97, 107]) := wd_eq hby (y := [98, 114, 101, 97, 107]) (by decide)
  have w1 : ((strN (tk ts k).s).toList == [99, 111, 110, 116, 105, 110, 117, 101]) = decide ((tk ts k).s = [99, 111, 110, 116, 105, 110, 117, 101]) := wd_eq hby (y := [99, 111, 110, 116, 105, 110, 117, 101]) (by decide)
  have w2 : ((strN (tk ts k).s).toList == [110, 101, 120, 116]) = decide ((tk ts k).s = [110, 101, 120, 116]) := wd_eq hby (y := [110, 101, 120, 116]) (by decide)
  have w3 : ((strN (tk ts k).s).toList == [101, 120, 105, 116]) = decide ((tk ts k).s = [101, 120, 105, 116]) := wd_eq hby (y := [101, 120, 105, 116]) (by decide)
  have w4 : ((strN (tk ts k).s).toList == [114, 101, 116, 117, 114, 110]) = decide ((tk ts k).s = [114, 101, 116, 117, 114, 110]) := wd_eq hby (y := [114, 101, 116, 117, 114, 110]) (by decide)
  have w5 : ((strN (tk ts k).s).toList == [100, 101, 108, 101, 116, 101]) = decide ((tk ts k).s = [100, 101, 108, 101, 116, 101]) := wd_eq hby (y := [100, 101, 108, 101, 116, 101]) (by decide)
  have w6 : ((strN (tk ts k).s).toList == [112, 114, 105, 110, 116]) = decide ((tk ts k).s = [112, 114, 105, 110, 116]) := wd_eq hby (y := [112, 114, 105, 110, 116]) (by decide)
  have w7 : ((strN (tk ts k).s).toList == [112, 114, 105, 110, 116, 102]) = decide ((tk ts k).s = [112, 114, 105, 110, 116, 102]) := wd_eq hby (y := [112, 114, 105, 110, 116, 102]) (by decide)
  simp only [rkd, show ((7 : Nat) : Int) = 7 from rfl] at HF
  clear hby
  cases h7 : (((tk ts k).k : Int) == 7)
  · simp only [h7, Bool.false_and, Bool.false_eq_true, ↓reduceIte] at HF
    clear w0 w1 w2 w3 w4 w5 w6 w7
    go_enter Try.func72, Try.ntmps72
    (repeat' (first | ((with_reducible refine zG ?_); first | refine oWx ?_ | (refine oWs ?_; clear HO; intro _ HO) | (refine oWj ?_; clear HO; intro _ HO HB)) | ((with_reducible refine to_load ?_); (first | first | refine oR6 HO rfl rfl rfl (by omega) ?_ | refine oR1 HO rfl rfl rfl rfl (by omega) ?_ | refine oR0 HO rfl rfl rfl (by omega) ?_); (try simp only [Act.put, pS])) | ((with_reducible refine zG ?_); refine oWn ?_; clear HO; intro _ HO) | ((go_big_may; first | (go_at_call 51; (first | refine arm_rn rfl ?_ (C_expr.out _ ?_) HO HF ?_ ?_ | refine arm_rn rfl ?_ (C_expr.out _ ?_) HO (gr_eta HF) ?_ ?_); (first | with_reducible rfl | rfl | (rw [IntWalk.i64_in _ (by omega)]; rfl)); (omega); (clear HO HF; intro _ _ _ _ _ HO _ hle hlt HF); rotate_left; (clear HO HF; intro _ _ _ HO hq HE); rotate_left)) <;> (try dsimp only)) | go_values | go_skip | go_guarded | go_step | go_upon | (go_ite <;> go_prune <;> (try go_simp))))
    all_goals (refine oBc HO (t := 6) (ty := 116) rfl rfl rfl ?_; exact rFin)
  have hlt0 := kdn_lt HRS.out.ok hk h7 (by decide)
  cases s0 : decide ((tk ts k).s = [98, 114, 101, 97, 107])
  rotate_left
  · simp only [h7, s0, Bool.true_and, Bool.or_true, Bool.true_or, Bool.false_or, Bool.false_eq_true, ↓reduceIte] at HF
    rw [s0] at w0
    clear w1 w2 w3 w4 w5 w6 w7
    go_enter Try.func72, Try.ntmps72
    (repeat' (first | ((with_reducible refine zG ?_); first | refine oWx ?_ | (refine oWs ?_; clear HO; intro _ HO) | (refine oWj ?_; clear HO; intro _ HO HB)) | ((with_reducible refine to_load ?_); (first | first | refine oR6 HO rfl rfl rfl (by omega) ?_ | refine oR1 HO rfl rfl rfl rfl (by omega) ?_ | refine oR0 HO rfl rfl rfl (by omega) ?_); (try simp only [Act.put, pS])) | ((with_reducible refine zG ?_); refine oWn ?_; clear HO; intro _ HO) | go_values | go_skip | go_guarded | go_step | go_upon | (go_ite <;> go_prune <;> (try go_simp))))
    all_goals (refine oBc HO (t := 6) (ty := 116) rfl rfl rfl ?_; exact rFin)
  cases s1 : decide ((tk ts k).s = [99, 111, 110, 116, 105, 110, 117, 101])
  rotate_left
  · simp only [h7, s0, s1, Bool.true_and, Bool.or_true, Bool.true_or, Bool.false_or, Bool.false_eq_true, ↓reduceIte] at HF
    rw [s0] at w0
    rw [s1] at w1
    clear w2 w3 w4 w5 w6 w7
    go_enter Try.func72, Try.ntmps72
    (repeat' (first | ((with_reducible refine zG ?_); first | refine oWx ?_ | (refine oWs ?_; clear HO; intro _ HO) | (refine oWj ?_; clear HO; intro _ HO HB)) | ((with_reducible refine to_load ?_); (first | first | refine oR6 HO rfl rfl rfl (by omega) ?_ | refine oR1 HO rfl rfl rfl rfl (by omega) ?_ | refine oR0 HO rfl rfl rfl (by omega) ?_); (try simp only [Act.put, pS])) | ((with_reducible refine zG ?_); refine oWn ?_; clear HO; intro _ HO) | go_values | go_skip | go_guarded | go_step | go_upon | (go_ite <;> go_prune <;> (try go_simp))))
    all_goals (refine oBc HO (t := 6) (ty := 116) rfl rfl rfl ?_; exact rFin)
  cases s2 : decide ((tk ts k).s = [110, 101, 120, 116])
  rotate_left
  · simp only [h7, s0, s1, s2, Bool.true_and, Bool.or_true, Bool.true_or, Bool.false_or, Bool.false_eq_true, ↓reduceIte] at HF
    rw [s0] at w0
    rw [s1] at w1
    rw [s2] at w2
    clear w3 w4 w5 w6 w7
    go_enter Try.func72, Try.ntmps72
    (repeat' (first | ((with_reducible refine zG ?_); first | refine oWx ?_ | (refine oWs ?_; clear HO; intro _ HO) | (refine oWj ?_; clear HO; intro _ HO HB)) | ((with_reducible refine to_load ?_); (first | first | refine oR6 HO rfl rfl rfl (by omega) ?_ | refine oR1 HO rfl rfl rfl rfl (by omega) ?_ | refine oR0 HO rfl rfl rfl (by omega) ?_); (try simp only [Act.put, pS])) | ((with_reducible refine zG ?_); refine oWn ?_; clear HO; intro _ HO) | go_values | go_skip | go_guarded | go_step | go_upon | (go_ite <;> go_prune <;> (try go_simp))))
    all_goals (refine oBc HO (t := 6) (ty := 116) rfl rfl rfl ?_; exact rFin)
  cases s3 : decide ((tk ts k).s = [101, 120, 105, 116])
  rotate_left
  · simp only [h7, s0, s1, s2, s3, Bool.true_and, Bool.or_true, Bool.true_or, Bool.false_or, Bool.false_eq_true, ↓reduceIte] at HF
    rw [s0] at w0
    rw [s1] at w1
    rw [s2] at w2
    rw [s3] at w3
    have s4 : decide ((tk ts k).s = [114, 101, 116, 117, 114, 110]) = false := by rw [decide_eq_false_iff_not]; intro e; rw [decide_eq_true_eq] at s3; rw [s3] at e; cases e
    rw [s4] at w4
    unfold rjump at HF
    clear w5 w6 w7
    go_enter Try.func72, Try.ntmps72
    (repeat' (first | ((with_reducible refine zG ?_); first | refine oWx ?_ | (refine oWs ?_; clear HO; intro _ HO) | (refine oWj ?_; clear HO; intro _ HO HB)) | ((with_reducible refine to_load ?_); (first | first | refine oR6 HO rfl rfl rfl (by omega) ?_ | refine oR1 HO rfl rfl rfl rfl (by omega) ?_ | refine oR0 HO rfl rfl rfl (by omega) ?_); (try simp only [Act.put, pS])) | ((with_reducible refine zG ?_); refine oWn ?_; clear HO; intro _ HO) | ((go_big_may; first | (go_at_call 33; refine arm_stops (by omega) HO rfl rfl ?_; clear HO; intro _ z hz hlt HO; cases z <;> (try simp only [hz, ↓reduceIte, bZ] at HF) <;> (first | (replace hlt := hlt rfl) | clear hlt)) | (go_at_call 51; (first | refine arm_rn rfl ?_ (C_expr.out _ ?_) HO HF ?_ ?_ | refine arm_rn rfl ?_ (C_expr.out _ ?_) HO (gr_eta HF) ?_ ?_); (first | with_reducible rfl | rfl | (rw [IntWalk.i64_in _ (by omega)]; rfl)); (omega); (clear HO HF; intro _ _ _ _ _ HO _ hle hlt HF); rotate_left; (clear HO HF; intro _ _ _ HO hq HE); rotate_left)) <;> (try dsimp only)) | go_values | go_skip | go_guarded | go_step | go_upon | (go_ite <;> go_prune <;> (try go_simp))))
    all_goals (refine oBc HO (t := 6) (ty := 116) rfl rfl rfl ?_; exact rFin)
  cases s4 : decide ((tk ts k).s = [114, 101, 116, 117, 114, 110])
  rotate_left
  · simp only [h7, s0, s1, s2, s3, s4, Bool.true_and, Bool.or_true, Bool.true_or, Bool.false_or, Bool.false_eq_true, ↓reduceIte] at HF
    rw [s0] at w0
    rw [s1] at w1
    rw [s2] at w2
    rw [s3] at w3
    rw [s4] at w4
    unfold rjump at HF
    clear w5 w6 w7
    go_enter Try.func72, Try.ntmps72
    (repeat' (first | ((with_reducible refine zG ?_); first | refine oWx ?_ | (refine oWs ?_; clear HO; intro _ HO) | (refine oWj ?_; clear HO; intro _ HO HB)) | ((with_reducible refine to_load ?_); (first | first | refine oR6 HO rfl rfl rfl (by omega) ?_ | refine oR1 HO rfl rfl rfl rfl (by omega) ?_ | refine oR0 HO rfl rfl rfl (by omega) ?_); (try simp only [Act.put, pS])) | ((with_reducible refine zG ?_); refine oWn ?_; clear HO; intro _ HO) | ((go_big_may; first | (go_at_call 33; refine arm_stops (by omega) HO rfl rfl ?_; clear HO; intro _ z hz hlt HO; cases z <;> (try simp only [hz, ↓reduceIte, bZ] at HF) <;> (first | (replace hlt := hlt rfl) | clear hlt)) | (go_at_call 51; (first | refine arm_rn rfl ?_ (C_expr.out _ ?_) HO HF ?_ ?_ | refine arm_rn rfl ?_ (C_expr.out _ ?_) HO (gr_eta HF) ?_ ?_); (first | with_reducible rfl | rfl | (rw [IntWalk.i64_in _ (by omega)]; rfl)); (omega); (clear HO HF; intro _ _ _ _ _ HO _ hle hlt HF); rotate_left; (clear HO HF; intro _ _ _ HO hq HE); rotate_left)) <;> (try dsimp only)) | go_values | go_skip | go_guarded | go_step | go_upon | (go_ite <;> go_prune <;> (try go_simp))))
    all_goals (refine oBc HO (t := 6) (ty := 116) rfl rfl rfl ?_; exact rFin)
  cases s5 : decide ((tk ts k).s = [100, 101, 108, 101, 116, 101])
  rotate_left
  · simp only [h7, s0, s1, s2, s3, s4, s5, Bool.true_and, Bool.or_true, Bool.true_or, Bool.false_or, Bool.false_eq_true, ↓reduceIte] at HF
    rw [s0] at w0
    rw [s1] at w1
    rw [s2] at w2
    rw [s3] at w3
    rw [s4] at w4
    rw [s5] at w5
    unfold rdelete at HF
    clear w6 w7
    have hkd : rkd ts (k+1) 5 = (((tk ts (k+1)).k : Int) == 5) := rfl
    rw [hkd] at HF
    cases h5 : (((tk ts (k+1)).k : Int) == 5)
    case' false => have h5b : (((tk ts (k+1)).k : Int) != 5) = true := by rw [bne, h5]; rfl
    case' true => have h5b : (((tk ts (k+1)).k : Int) != 5) = false := by rw [bne, h5]; rfl
    all_goals simp only [h5, ↓reduceIte, Bool.false_eq_true, Bool.false_or, Bool.true_or, Bool.false_and, Bool.true_and] at HF
    all_goals clear hkd
    case' true => have hltd := kdn_lt HRS.out.ok hlt0 h5 (by decide)
    all_goals
      go_enter Try.func72, Try.ntmps72
      (repeat' (first | ((with_reducible refine zG ?_); first | refine oWx ?_ | (refine oWs ?_; clear HO; intro _ HO) | (refine oWj ?_; clear HO; intro _ HO HB)) | ((with_reducible refine to_load ?_); (first | first | refine oR6 HO rfl rfl rfl (by omega) ?_ | refine oR1 HO rfl rfl rfl rfl (by omega) ?_ | refine oR0 HO rfl rfl rfl (by omega) ?_); (try simp only [Act.put, pS])) | ((with_reducible refine zG ?_); refine oWn ?_; clear HO; intro _ HO) | ((go_big_may; first | (go_at_call 32; refine arm_is [91] (by decide) (by omega) HO rfl rfl ?_; clear HO; intro _ z hz hlt HO; cases z <;> (try simp only [hz, ↓reduceIte, bZ] at HF) <;> (first | (replace hlt := hlt rfl) | clear hlt)) | (go_at_call 80; refine arm_rl rfl ?_ (C_list.out _ _ _ ?_ ?_) HO HF ?_ ?_; (first | with_reducible rfl | rfl); (decide); (omega); (clear HO HF; intro lL AL cL aL _ HO hcL hle hlt HF); rotate_left; (clear HO HF; intro _ _ _ HO hq HE); rotate_left) | (go_at_call 63; refine arm_bad HO rfl rfl ?_; clear HO; intro _ HO)) <;> (try dsimp only)) | go_values | go_skip | go_guarded | go_step | go_upon | (go_ite <;> go_prune <;> (try go_simp))))
      all_goals (refine oBc HO (t := 6) (ty := 116) rfl rfl rfl ?_; exact rFin)
  have s6 : decide ((tk ts k).s = [112, 114, 105, 110, 116]) = false := hw.elim (fun h => absurd h (by rw [h7]; decide)) fun h => h.1
  have s7 : decide ((tk ts k).s = [112, 114, 105, 110, 116, 102]) = false := hw.elim (fun h => absurd h (by rw [h7]; decide)) fun h => h.2
  simp only [h7, s0, s1, s2, s3, s4, s5, s6, s7, Bool.true_and, Bool.false_or, Bool.or_false, Bool.false_eq_true, ↓reduceIte] at HF
  rw [s0] at w0
  rw [s1] at w1
  rw [s2] at w2
  rw [s3] at w3
  rw [s4] at w4
  rw [s5] at w5
  rw [s6] at w6
  rw [s7] at w7
  go_enter Try.func72, Try.ntmps72
  (repeat' (first | ((with_reducible refine zG ?_); first | refine oWx ?_ | (refine oWs ?_; clear HO; intro _ HO) | (refine oWj ?_; clear HO; intro _ HO HB)) | ((with_reducible refine to_load ?_); (first | first | refine oR6 HO rfl rfl rfl (by omega) ?_ | refine oR1 HO rfl rfl rfl rfl (by omega) ?_ | refine oR0 HO rfl rfl rfl (by omega) ?_); (try simp only [Act.put, pS])) | ((with_reducible refine zG ?_); refine oWn ?_; clear HO; intro _ HO) | ((go_big_may; first | (go_at_call 51; (first | refine arm_rn rfl ?_ (C_expr.out _ ?_) HO HF ?_ ?_ | refine arm_rn rfl ?_ (C_expr.out _ ?_) HO (gr_eta HF) ?_ ?_); (first | with_reducible rfl | rfl | (rw [IntWalk.i64_in _ (by omega)]; rfl)); (omega); (clear HO HF; intro _ _ _ _ _ HO _ hle hlt HF); rotate_left; (clear HO HF; intro _ _ _ HO hq HE); rotate_left)) <;> (try dsimp only)) | go_values | go_skip | go_guarded | go_step | go_upon | (go_ite <;> go_prune <;> (try go_simp))))
  all_goals (refine oBc HO (t := 6) (ty := 116) rfl rfl rfl ?_; exact rFin)
end Go.Proofs.Ythipoccbeloceaa
