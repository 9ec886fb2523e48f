/- Several texts put together: RpQ. -/
import Derived.Test.YthipoccbeloceaaBu25
set_option linter.unusedSimpArgs false
set_option linter.unusedVariables false
namespace Go.Proofs.Ythipoccbeloceaa
open Go.RowKit
set_option maxRecDepth 100000 in
set_option maxHeartbeats 3200000 in
theorem rlevW_any (p : RPar) (b c : Nat) (ts : List TokF) (d n kd : Nat) (s : List Nat) (lev next : Nat → GR NodeT) (hn : (n = 0 ∧ s = [124, 124] ∧ kd = 10) ∨ (n = 1 ∧ s = [38, 38] ∧ kd = 9)) (hlev : ∀ k, lev k = (next k).bind (loopG (fun _ k => ris ts k s) (wordS ts next kd) ts.length)) (H_level : ∀ k, k < ts.length → RC 68 #[.agg #[.slice (some ⟨b, 0, none⟩) ts.length c], .int .i64 (k : Int), .int .i64 (d : Int), .int .i64 ((n + 1 : Nat) : Int)] (next k) VG b c ts (k + 1)) (k : Nat) (hk : k < ts.length) : RC 68 #[.agg #[.slice (some ⟨b, 0, none⟩) ts.length c], .int .i64 (k : Int), .int .i64 (d : Int), .int .i64 (n : Int)] (lev k) VG b c ts (k + 1) := by
  rcases hn with ⟨rfl, rfl, rfl⟩ | ⟨rfl, rfl, rfl⟩
  all_goals
    intro w h
    obtain ⟨R, hR⟩ : ∃ R, lev k = R := ⟨_, rfl⟩
    rw [hR]
    rw [hlev] at hR
    have HF := Lib.hid hR
    have HRS := Lib.hid h
    have HO := h.ownN
    have hlen := h.ok.len
    have C_level := Lib.hid H_level
    clear h hR H_level hlev
    go_enter Try.func68, Try.ntmps68
    (repeat' (first | ((with_reducible refine zG ?_); first | refine oWx ?_ | (refine oWs ?_; clear HO; intro _ HO) | (refine oWj ?_; clear HO; intro _ HO HB)) | ((go_big_may; first | (go_at_call 68; (first | refine arm_rn rfl ?_ (C_level.out _ ?_) HO HF ?_ ?_ | refine arm_rn rfl ?_ (C_level.out _ ?_) HO (gr_eta HF) ?_ ?_); (first | with_reducible rfl | rfl | (rw [IntWalk.i64_in _ (by omega)]; rfl)); (omega); (clear HO HF; intro _ _ _ _ _ HO _ hle hlt HF); rotate_left; (clear HO HF; intro _ _ _ HO hq HE); rotate_left)) <;> (try dsimp only)) | go_values | go_skip | go_guarded | go_step | go_upon | (go_ite <;> go_prune <;> (try go_simp))))
    all_goals have HO0 := HO
    all_goals first
      | (have HE' := HE
         go_loopg [10] 0 (fun gk ov W => gk = 0 ∧ SameO HO0 W)
         case atStart => exact ⟨rfl, HO⟩
         case round =>
           clear HO
           obtain ⟨rfl, HO⟩ := hrel
           replace HO := Lib.hid HO.out
           (repeat' (first | ((with_reducible refine zG ?_); first | refine oWx ?_ | (refine oWs ?_; clear HO; intro _ HO) | (refine oWj ?_; clear HO; intro _ HO HB)) | go_values | go_skip | go_guarded | go_step | go_upon | (go_ite <;> go_prune <;> (try go_simp))))
           refine oBc HO (t := 8) (ty := 116) rfl rfl rfl ?_
           exact rp_err HO (by assumption) HE)
      | skip
    all_goals
      go_loopg [10] ts.length (fun gk ov W => LoopV HO0 (k + 1) (loopG (fun _ k => ris ts k _) (wordS ts next _)) R gk W)
      case atStart => exact ⟨_, _, _, _, hlt, hle, by omega, by assumption, HF, HO⟩
      case round =>
        clear HO HF
        obtain ⟨y, A1, e1, q, hq, hkq, hf, he1, HF, HO⟩ := hrel
        have hqI : (q : Int) < (ts.length : Int) := by omega
        obtain ⟨f, rfl⟩ : ∃ f', gk = f' + 1 := ⟨gk - 1, by omega⟩
        rw [loopG] at HF
        simp only [wordS, gr_assoc, gr_okb] at HF
        (repeat' (first | ((with_reducible refine zG ?_); first | refine oWx ?_ | (refine oWs ?_; clear HO; intro _ HO) | (refine oWj ?_; clear HO; intro _ HO HB)) | ((with_reducible refine to_load ?_); (first | first | refine oR6 HO rfl rfl rfl (by omega) ?_ | refine oR1 HO rfl rfl rfl rfl (by omega) ?_ | refine oR0 HO rfl rfl rfl (by omega) ?_); (try simp only [Act.put, pS])) | ((go_big_may; first | (go_at_call 32; refine arm_is [124, 124] (by decide) (by omega) HO rfl rfl ?_; clear HO; intro _ z hz hlt HO; cases z <;> (try simp only [hz, ↓reduceIte, bZ] at HF) <;> (first | (replace hlt := hlt rfl) | clear hlt)) | (go_at_call 32; refine arm_is [38, 38] (by decide) (by omega) HO rfl rfl ?_; clear HO; intro _ z hz hlt HO; cases z <;> (try simp only [hz, ↓reduceIte, bZ] at HF) <;> (first | (replace hlt := hlt rfl) | clear hlt))) <;> (try dsimp only)) | go_values | go_skip | go_guarded | go_step | go_upon | (go_ite <;> go_prune <;> (try go_simp))))
        all_goals (first | (refine oBc HO (t := 8) (ty := 116) rfl rfl rfl ?_; exact rFin) | skip)
        have HO0 := HO
        have HF0 := HF
        go_cut [14] from 94 to 103 (fun v wx => CutG HO0 HF0 (q + 2) v wx)
        case first =>
          refine eBe HO [11] [2, 6, 7, 8, 0, 1, 3, 4, 10, 5, 9] [11] ?_
          clear HO
          intro _ HO
          (repeat' (first | ((with_reducible refine eGo ?_); first | (refine eFl HO rfl rfl rfl (by kernel_rfl) (by rfl) (by rfl) ?_ (fun K hK => ?_); (clear HO; intro _ HO); (try simp only [Act.put, pS]); rotate_left) | (refine eFm HO rfl rfl (by kernel_rfl) (by rfl) ?_; clear HO; intro _ HO; (try simp only [Act.put, pS]))) | ((with_reducible refine zG ?_); first | (refine oWf ?_; intro K hK) | refine oWe ?_ | refine oWr ?_ | refine oWp ?_) | ((with_reducible refine zG ?_); first | (refine oWg ?_; intro K hK) | (refine oWk ?_; clear hK K) | (refine oWs ?_; clear HO; intro _ HO)) | ((first | (go_at_call 52; refine arm_lines (by omega) HO rfl rfl ?_; clear HO; intro _ q hq hle hlt HO; (try simp only [hq] at HF)) | (go_at_call 68; (first | refine arm_rn rfl ?_ (C_level.out _ ?_) HO HF ?_ ?_ | refine arm_rn rfl ?_ (C_level.out _ ?_) HO (gr_eta HF) ?_ ?_); (first | with_reducible rfl | rfl | (rw [IntWalk.i64_in _ (by omega)]; rfl)); (omega); (clear HO HF; intro _ _ _ _ _ HO _ hle hlt HF); rotate_left; (clear HO HF; intro _ _ _ HO hq HE); rotate_left)) <;> (try dsimp only)) | ((with_reducible refine eOp ?_); go_simp)))
          all_goals (go_wp2_with fail; go_meet; first | exact .inl ⟨_, _, _, _, _, rfl, HO, by assumption, by omega, by omega, HF⟩ | exact .inr ⟨_, _, _, rfl, HO, by assumption, HE⟩)
        case' rest =>
          clear HO HF
          rcases hcut with ⟨B9, x9, A9, c9, k9, rfl, HO, hl9, hle9, hlt9, HF⟩ | ⟨B9, k9, q9, rfl, HO, hq9, HE⟩
        all_goals clear HO0 HF0
        all_goals
          (repeat' (first | ((with_reducible refine zG ?_); first | refine oWx ?_ | (refine oWs ?_; clear HO; intro _ HO) | (refine oWj ?_; clear HO; intro _ HO HB)) | ((go_big_may; first | (go_at_call 62; first | (refine arm_left (kind := 10) (s := []) HO rfl rfl rfl rfl mM mM (by assumption) (by assumption) ?_; clear HO; intro _ _ HO) | (refine arm_left (kind := 9) (s := []) HO rfl rfl rfl rfl mM mM (by assumption) (by assumption) ?_; clear HO; intro _ _ HO))) <;> (try dsimp only)) | go_values | go_skip | go_guarded | go_step | go_upon | (go_ite <;> go_prune <;> (try go_simp))))
          all_goals (first | (refine oBc HO (t := 8) (ty := 116) rfl rfl rfl ?_; exact rFin) | skip)
        go_roundg f
        case rel => exact ⟨_, _, _, _, hlt9, by omega, by omega, Nat.le_refl _, HF, Lib.hid (HO.out.sub (by repeat (first | exact List.Sublist.refl _ | apply List.Sublist.cons)) (List.Sublist.refl _) (fun c hc => mem2 hc mH mM))⟩
        case measure => omega
end Go.Proofs.Ythipoccbeloceaa
