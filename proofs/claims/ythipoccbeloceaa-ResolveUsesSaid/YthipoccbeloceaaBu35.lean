/- Several texts put together: RqB. -/
import Derived.Test.YthipoccbeloceaaBu25
set_option linter.unusedSimpArgs false
set_option linter.unusedVariables false
namespace Go.Proofs.Ythipoccbeloceaa
open Go.RowKit
set_option maxRecDepth 100000 in
set_option maxHeartbeats 3200000 in
theorem rsimpleQ_any (p : RPar) (b c : Nat) (ts : List TokF) (d : Nat) (H_list : ∀ k e z, (∀ x ∈ e, x < 256) → k < ts.length → RC 80 #[.agg #[.slice (some ⟨b, 0, none⟩) ts.length c], .int .i64 (k : Int), .int .i64 (d : Int), .string (strN e), .bool z] (rlist ts p k e z) VGL b c ts (k + 1)) (H_expr : ∀ k, k < ts.length → RC 51 #[.agg #[.slice (some ⟨b, 0, none⟩) ts.length c], .int .i64 (k : Int), .int .i64 (d : Int)] (rexpr ts p k) VG b c ts (k + 1)) (H_level : ∀ k, k < ts.length → RC 68 #[.agg #[.slice (some ⟨b, 0, none⟩) ts.length c], .int .i64 (k : Int), .int .i64 (d : Int), .int .i64 6] (rlev6 ts p k) VG b c ts (k + 1)) (k : Nat) (h7 : (((tk ts k).k : Int) == 7) = true) (s7 : decide ((tk ts k).s = [112, 114, 105, 110, 116, 102]) = true) (hk : k < ts.length) : RC 72 #[.agg #[.slice (some ⟨b, 0, none⟩) ts.length c], .int .i64 (k : Int), .int .i64 (d : Int)] (rsimple ts p k) VG b c ts (k + 1) := by
  intro w h
  obtain ⟨R, hR⟩ : ∃ R, rsimple ts p k = R := ⟨_, rfl⟩
  rw [hR]
  have HF := Lib.hid hR
  have HRS := Lib.hid h
  have HO := h.ownN
  have hlen := h.ok.len
  have hkI : (k : Int) < (ts.length : Int) := by omega
  clear h hR
  have C_list := Lib.hid H_list
  clear H_list
  have C_expr := Lib.hid H_expr
  clear H_expr
  have C_level := Lib.hid H_level
  clear H_level
  unfold rsimple at HF
  have hby : ∀ x ∈ (tk ts k).s, x < 256 := by rw [tk_eq hk]; exact HRS.out.ok.byte _ (List.getElem_mem hk)
  have w0 : ((strN (tk ts k).s).toList == [98, 114, 101, 97, 107]) = decide ((tk ts k).s = [98, 114, 101, 97, 107]) := wd_eq hby (y := [98, 114, 101, 97, 107]) (by decide)
  have w1 : ((strN (tk ts k).s).toList == [99, 111, 110, 116, 105, 110, 117, 101]) = decide ((tk ts k).s = [99, 111, 110, 116, 105, 110, 117, 101]) := wd_eq hby (y := [99, 111, 110, 116, 105, 110, 117, 101]) (by decide)
  have w2 : ((strN (tk ts k).s).toList == [110, 101, 120, 116]) = decide ((tk ts k).s = [110, 101, 120, 116]) := wd_eq hby (y := [110, 101, 120, 116]) (by decide)
  have w3 : ((strN (tk ts k).s).toList == [101, 120, 105, 116]) = decide ((tk ts k).s = [101, 120, 105, 116]) := wd_eq hby (y := [101, 120, 105, 116]) (by decide)
  have w4 : ((strN (tk ts k).s).toList == [114, 101, 116, 117, 114, 110]) = decide ((tk ts k).s = [114, 101, 116, 117, 114, 110]) := wd_eq hby (y := [114, 101, 116, 117, 114, 110]) (by decide)
  have w5 : ((strN (tk ts k).s).toList == [100, 101, 108, 101, 116, 101]) = decide ((tk ts k).s = [100, 101, 108, 101, 116, 101]) := wd_eq hby (y := [100, 101, 108, 101, 116, 101]) (by decide)
  have w6 : ((strN (tk ts k).s).toList == [112, 114, 105, 110, 116]) = decide ((tk ts k).s = [112, 114, 105, 110, 116]) := wd_eq hby (y := [112, 114, 105, 110, 116]) (by decide)
  have w7 : ((strN (tk ts k).s).toList == [112, 114, 105, 110, 116, 102]) = decide ((tk ts k).s = [112, 114, 105, 110, 116, 102]) := wd_eq hby (y := [112, 114, 105, 110, 116, 102]) (by decide)
  simp only [rkd, show ((7 : Nat) : Int) = 7 from rfl] at HF
  clear hby
  have hlt0 := kdn_lt HRS.out.ok hk h7 (by decide)
  have s0 : decide ((tk ts k).s = [98, 114, 101, 97, 107]) = false := by rw [decide_eq_false_iff_not]; intro e; rw [decide_eq_true_eq] at s7; rw [s7] at e; cases e
  have s1 : decide ((tk ts k).s = [99, 111, 110, 116, 105, 110, 117, 101]) = false := by rw [decide_eq_false_iff_not]; intro e; rw [decide_eq_true_eq] at s7; rw [s7] at e; cases e
  have s2 : decide ((tk ts k).s = [110, 101, 120, 116]) = false := by rw [decide_eq_false_iff_not]; intro e; rw [decide_eq_true_eq] at s7; rw [s7] at e; cases e
  have s3 : decide ((tk ts k).s = [101, 120, 105, 116]) = false := by rw [decide_eq_false_iff_not]; intro e; rw [decide_eq_true_eq] at s7; rw [s7] at e; cases e
  have s4 : decide ((tk ts k).s = [114, 101, 116, 117, 114, 110]) = false := by rw [decide_eq_false_iff_not]; intro e; rw [decide_eq_true_eq] at s7; rw [s7] at e; cases e
  have s5 : decide ((tk ts k).s = [100, 101, 108, 101, 116, 101]) = false := by rw [decide_eq_false_iff_not]; intro e; rw [decide_eq_true_eq] at s7; rw [s7] at e; cases e
  have s6 : decide ((tk ts k).s = [112, 114, 105, 110, 116]) = false := by rw [decide_eq_false_iff_not]; intro e; rw [decide_eq_true_eq] at s7; rw [s7] at e; cases e
  simp only [h7, s0, s1, s2, s3, s4, s5, s6, s7, Bool.true_and, Bool.or_true, Bool.true_or, Bool.false_or, Bool.false_eq_true, ↓reduceIte] at HF
  rw [s0] at w0
  rw [s1] at w1
  rw [s2] at w2
  rw [s3] at w3
  rw [s4] at w4
  rw [s5] at w5
  rw [s6] at w6
  rw [s7] at w7
  unfold rprint at HF
  delta rprintE at HF
  simp only [s7, Bool.false_or, Bool.true_or, ↓reduceIte] at HF
  go_enter Try.func72, Try.ntmps72
  (repeat' (first | ((with_reducible refine zG ?_); first | refine oWx ?_ | (refine oWs ?_; clear HO; intro _ HO) | (refine oWj ?_; clear HO; intro _ HO HB)) | ((with_reducible refine to_load ?_); (first | first | refine oR6 HO rfl rfl rfl (by omega) ?_ | refine oR1 HO rfl rfl rfl rfl (by omega) ?_ | refine oR0 HO rfl rfl rfl (by omega) ?_); (try simp only [Act.put, pS])) | ((with_reducible refine zG ?_); refine oWn ?_; clear HO; intro _ HO) | ((go_big_may; first | (go_at_call 33; refine arm_stops (by omega) HO rfl rfl ?_; clear HO; intro _ z hz hlt HO; cases z <;> (try simp only [hz, ↓reduceIte, bZ] at HF) <;> (first | (replace hlt := hlt rfl) | clear hlt)) | (go_at_call 32; refine arm_is [124, 38] (by decide) (by omega) HO rfl rfl ?_; clear HO; intro _ z hz hlt HO; cases z <;> (try simp only [hz, ↓reduceIte, bZ] at HF) <;> (first | (replace hlt := hlt rfl) | clear hlt)) | (go_at_call 80; refine arm_rlL rfl ?_ (C_list.out _ _ _ ?_ ?_) HO HF ?_ ?_; (first | with_reducible rfl | rfl); (decide); (omega); (clear HO HF; intro lL AL cL aL _ hrL HO hcL hle hlt HF; have hlL := rlist_len hrL; clear hrL); rotate_left; (clear HO HF; intro _ _ _ HO hq HE); rotate_left) | (go_at_call 68; (first | refine arm_rn rfl ?_ (C_level.out _ ?_) HO HF ?_ ?_ | refine arm_rn rfl ?_ (C_level.out _ ?_) HO (gr_eta HF) ?_ ?_); (first | with_reducible rfl | rfl | (rw [IntWalk.i64_in _ (by omega)]; rfl)); (omega); (clear HO HF; intro _ _ _ _ _ HO _ hle hlt HF); rotate_left; (clear HO HF; intro _ _ _ HO hq HE); rotate_left)) <;> (try dsimp only)) | go_values | go_skip | go_guarded | go_step | go_upon | (go_ite <;> go_prune <;> (try go_simp))))
  all_goals (first | (refine oBc HO (t := 6) (ty := 116) rfl rfl rfl ?_; exact rFin) | skip)
  all_goals (try (exact absurd (show ris ts (k + 1) [124, 38] = true by assumption) (by rw [show ris ts (k + 1) [124, 38] = false by assumption]; decide)))
  all_goals
    refine eBe HO [9] [1, 4, 2, 5, 9001, 6, 0, 4, 0, 3, 7, 8, 9001, 6, 3, 3, 3, 7, 8, 6, 7, 8] [9] ?_
    clear HO
    intro _ HO
    (repeat' (first | ((with_reducible refine eGo ?_); refine eFx rfl rfl (by kernel_rfl) (by rfl) (by rfl) (fun K hK => ?_) (fun K hK => ?_)) | ((with_reducible refine zG ?_); first | (refine oWf ?_; intro K hK) | refine oWe ?_ | refine oWr ?_ | refine oWp ?_) | ((with_reducible refine zG ?_); first | (refine oWg ?_; intro K hK) | (refine oWk ?_; clear hK K) | (refine oWs ?_; clear HO; intro _ HO)) | ((with_reducible refine to_append ?_); refine wo_appY HO rfl rfl rfl mM rfl (by first | omega | (simp; done) | (simp; omega)) ?_; clear HO; (first | intro eX _ _ _ hmX hcap HO); (try simp only [Nat.zero_add, List.nil_append] at HO hcap ⊢); (try simp only [Act.put, pS])) | ((with_reducible refine ab_row HO 45 8 0 ?_ ?_ ?_); (exact rfl); (decide); clear HO; intro _ HO) | ((with_reducible refine zG ?_); refine oWn ?_; clear HO; intro _ HO)| ((with_reducible refine zG ?_); refine oWj ?_; clear HO; intro _ HO HB) | ((with_reducible refine eOp ?_); go_simp)))
    all_goals
      (repeat' (first | ((with_reducible refine zG ?_); first | refine oWx ?_ | (refine oWs ?_; clear HO; intro _ HO) | (refine oWj ?_; clear HO; intro _ HO HB)) | go_values | go_skip | go_guarded | go_step | go_upon | (go_ite <;> go_prune <;> (try go_simp))))
      refine oBc HO (t := 6) (ty := 116) rfl rfl rfl ?_
      exact rp_nodeY HO (by simp) (by assumption) (by assumption) mM mM HF (by omega) (by omega) hcap
end Go.Proofs.Ythipoccbeloceaa
