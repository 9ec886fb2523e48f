/- Several texts put together: RpT. -/
import Derived.Test.YthipoccbeloceaaBu25
set_option linter.unusedSimpArgs false
set_option linter.unusedVariables false
namespace Go.Proofs.Ythipoccbeloceaa
open Go.RowKit
instance : TN 138 8 := ⟨Try.isAgg138, Try.sizeOf138⟩
instance : TZ 138 [.string { data := #[] }, .string { data := #[] }, .string { data := #[] }, .string { data := #[] }, .string { data := #[] }, .string { data := #[] }, .string { data := #[] }, .string { data := #[] }] := ⟨Try.zeroValue138⟩
instance : TN 139 8 := ⟨Try.isAgg139, Try.sizeOf139⟩
instance : TZ 139 [.int .i64 0, .int .i64 0, .int .i64 0, .int .i64 0, .int .i64 0, .int .i64 0, .int .i64 0, .int .i64 0] := ⟨Try.zeroValue139⟩
section
variable {w0 w : World} {X : List Nat} {S : World → Prop} {bs : List Bx} {rs : List Rw} {F : List Cold} {ops : Array Oper} {late plan pl2 : List Nat} {Q : Exit → Act → World → Prop} {i f : Nat} {oi : Oper} {listed : Array Bool} {a : Act}
theorem eSk (HO : Hid (Own w0 X S bs rs F w)) (hi : (ops.toList.drop i).head? = some oi) (hk : ckO ops late listed i = true) (hwa : Region.wanted oi (yielded ops a.tmps) = false)
    (h : wpE w0 X bs late plan pl2 ops Q f (listed.setIfInBounds i true) (a.put oi.dst undef) w) : wpE w0 X bs late (i :: plan) pl2 ops Q (f + 1) listed a w := by
  have hk2 := Bool.and_eq_true_iff.1 hk
  have hr : Region.ready .any ops listed = [i] := beq_iff_eq.1 hk2.1
  have hil : late.contains i = false := by simpa using hk2.2
  refine ⟨⟨fun h0 => (by rw [hr] at h0; cases h0), fun j hj => ?_⟩⟩
  rw [hr] at hj
  obtain rfl := List.mem_singleton.1 hj
  refine ⟨fun _ => ?_, fun h => by rw [hil] at h; cases h⟩
  unfold wpOp
  simp only [e_at hi, hwa, Bool.false_eq_true, if_false]
  exact ⟨OwnB.of HO, h.h⟩
end
set_option maxRecDepth 100000 in
set_option maxHeartbeats 3200000 in
theorem rlevS_any (p : RPar) (b c : Nat) (ts : List TokF) (d n kd : Nat) (s : List Nat) (lev next : Nat → GR NodeT) (hn : (n = 3 ∧ s = [32, 126, 32, 33, 126, 32] ∧ kd = 12) ∨ (n = 6 ∧ s = [32, 43, 32, 45, 32] ∧ kd = 15) ∨ (n = 7 ∧ s = [32, 42, 32, 47, 32, 37, 32] ∧ kd = 15)) (hlev : ∀ k, lev k = (next k).bind (loopG (fun _ k => ramong ts k s) (signsS ts next kd) ts.length)) (H_level : ∀ k, k < ts.length → RC 68 #[.agg #[.slice (some ⟨b, 0, none⟩) ts.length c], .int .i64 (k : Int), .int .i64 (d : Int), .int .i64 ((n + 1 : Nat) : Int)] (next k) VG b c ts (k + 1)) (k : Nat) (hk : k < ts.length) : RC 68 #[.agg #[.slice (some ⟨b, 0, none⟩) ts.length c], .int .i64 (k : Int), .int .i64 (d : Int), .int .i64 (n : Int)] (lev k) VG b c ts (k + 1) := by
  rcases hn with ⟨rfl, rfl, rfl⟩ | ⟨rfl, rfl, rfl⟩ | ⟨rfl, rfl, rfl⟩
  all_goals
    intro w h
    obtain ⟨R, hR⟩ : ∃ R, lev k = R := ⟨_, rfl⟩
    rw [hR]
    rw [hlev] at hR
    have HF := Lib.hid hR
    have HRS := Lib.hid h
    have HO := h.ownN
    have hlen := h.ok.len
    have C_level := Lib.hid H_level
    clear h hR H_level hlev
    go_enter Try.func68, Try.ntmps68
    (repeat' (first | (with_reducible first | refine oXt ?_ | refine oXb ?_) | ((with_reducible refine ib_miss ?_ ?_); exact rfl) | ((first | ((with_reducible refine to_load ?_); first | refine oL1 HO rfl rfl ?_ | refine oL2 HO rfl rfl ?_ | refine oL3 HO rfl rfl ?_) | ((first | with_reducible refine oAl HO ?_ | ((with_reducible refine to_box ?_); refine wo_box HO rfl rfl ?_)); clear HO; intro _ HO)); (try simp only [Act.put, pS])) | ((first | ((with_reducible refine to_store ?_); first | refine oT1 HO rfl rfl rfl ?_ | refine oT2 HO rfl rfl rfl (by rfl) ?_ | refine oT3 HO rfl rfl rfl rfl ?_) | with_reducible refine ab_drew HO ?_); clear HO; intro _ HO) | ((with_reducible refine ab_junk HO 9 ?_); clear HO; intro _ HO HB) | ((go_big_may; first | (go_at_call 68; (first | refine arm_rn rfl ?_ (C_level.out _ ?_) HO HF ?_ ?_ | refine arm_rn rfl ?_ (C_level.out _ ?_) HO (gr_eta HF) ?_ ?_); (first | with_reducible rfl | rfl | (rw [IntWalk.i64_in _ (by omega)]; rfl)); (omega); (clear HO HF; intro _ _ _ _ _ HO _ hle hlt HF); rotate_left; (clear HO HF; intro _ _ _ HO hq HE); rotate_left)) <;> (try dsimp only)) | go_values | go_skip | go_guarded | go_step | go_upon | (go_ite <;> go_prune <;> (try go_simp))))
    all_goals have HO0 := HO
    all_goals first
      | (have HE' := HE
         go_loopg [10] 0 (fun gk ov W => gk = 0 ∧ SameO HO0 W)
         case atStart => exact ⟨rfl, HO⟩
         case round =>
           clear HO
           obtain ⟨rfl, HO⟩ := hrel
           replace HO := Lib.hid HO.out
           (repeat' (first | (with_reducible first | refine oXt ?_ | refine oXb ?_) | ((with_reducible refine ib_miss ?_ ?_); exact rfl) | ((first | ((with_reducible refine to_load ?_); first | refine oL1 HO rfl rfl ?_ | refine oL2 HO rfl rfl ?_ | refine oL3 HO rfl rfl ?_) | ((first | with_reducible refine oAl HO ?_ | ((with_reducible refine to_box ?_); refine wo_box HO rfl rfl ?_)); clear HO; intro _ HO)); (try simp only [Act.put, pS])) | ((first | ((with_reducible refine to_store ?_); first | refine oT1 HO rfl rfl rfl ?_ | refine oT2 HO rfl rfl rfl (by rfl) ?_ | refine oT3 HO rfl rfl rfl rfl ?_) | with_reducible refine ab_drew HO ?_); clear HO; intro _ HO) | ((with_reducible refine ab_junk HO 9 ?_); clear HO; intro _ HO HB) | go_values | go_skip | go_guarded | go_step | go_upon | (go_ite <;> go_prune <;> (try go_simp))))
           refine oBc HO (t := 8) (ty := 116) rfl rfl rfl ?_
           exact rp_err HO (by assumption) HE)
      | skip
    all_goals
      go_loopg [10] ts.length (fun gk ov W => LoopV HO0 (k + 1) (loopG (fun _ k => ramong ts k _) (signsS ts next _)) R gk W)
      case atStart => exact ⟨_, _, _, _, hlt, hle, by omega, by assumption, HF, HO⟩
      case round =>
        clear HO HF
        obtain ⟨y, A1, e1, q, hq, hkq, hf, he1, HF, HO⟩ := hrel
        have hqI : (q : Int) < (ts.length : Int) := by omega
        obtain ⟨f, rfl⟩ : ∃ f', gk = f' + 1 := ⟨gk - 1, by omega⟩
        rw [loopG] at HF
        simp only [signsS, gr_assoc, gr_okb] at HF
        (repeat' (go_not_at_region 11; first | (with_reducible first | refine oXt ?_ | refine oXb ?_) | ((with_reducible refine ib_miss ?_ ?_); exact rfl) | ((first | ((with_reducible refine to_load ?_); first | refine oL1 HO rfl rfl ?_ | refine oL2 HO rfl rfl ?_ | refine oL3 HO rfl rfl ?_ | first | refine oR6 HO rfl rfl rfl (by omega) ?_ | refine oR1 HO rfl rfl rfl rfl (by omega) ?_ | refine oR0 HO rfl rfl rfl (by omega) ?_) | ((first | with_reducible refine oAl HO ?_ | ((with_reducible refine to_box ?_); refine wo_box HO rfl rfl ?_)); clear HO; intro _ HO)); (try simp only [Act.put, pS])) | ((first | ((with_reducible refine to_store ?_); first | refine oT1 HO rfl rfl rfl ?_ | refine oT2 HO rfl rfl rfl (by rfl) ?_ | refine oT3 HO rfl rfl rfl rfl ?_) | with_reducible refine ab_drew HO ?_); clear HO; intro _ HO) | ((with_reducible refine ab_junk HO 9 ?_); clear HO; intro _ HO HB) | go_values | go_skip | go_guarded | go_step | go_upon | (go_ite <;> go_prune <;> (try go_simp))))
        refine eBe HO [] [1, 3, 4, 0, 2, 5, 6, 7, 8, 9, 10, 11, 12, 13, 14, 15] [] ?_
        clear HO
        intro _ HO
        (repeat' (first | ((with_reducible refine eGo ?_); first | refine eCa rfl rfl (by kernel_rfl) (by rfl) (fun K hK => ?_) | refine eSl rfl rfl (by kernel_rfl) (by rfl) (fun K hK => ?_) | ((first | refine eL1 HO rfl rfl rfl (by kernel_rfl) (fun _ _ _ h => h) (by rfl) ?_ | refine eL2 HO rfl rfl rfl (by kernel_rfl) (fun _ _ _ h => h) (by rfl) ?_ | refine eL3 HO rfl rfl rfl (by kernel_rfl) (fun _ _ _ h => h) (by rfl) ?_ | refine eR1 HO HRS rfl rfl rfl rfl rfl (by omega) (by kernel_rfl) (fun _ _ _ h => h) (by rfl) ?_ | refine eR0 HO HRS rfl rfl rfl rfl (by omega) (by kernel_rfl) (fun _ _ _ h => h) (by rfl) ?_ | refine ePu HO rfl (by kernel_rfl) (fun _ _ _ h => h) (by rfl) (eFi rfl rfl ⟨_, _, _, _, _, _, _, rfl, rfl, inferInstance⟩) ?_ | refine ePu HO rfl (by kernel_rfl) (fun _ _ _ h => h) (by rfl) (by intro _; go_simp; (try with_reducible rfl)) ?_); (try simp only [Act.put, pS])) | (refine eSk HO rfl (by kernel_rfl) (by rfl) ?_; (try simp only [Act.put, pS])) | refine eA1 rfl (by kernel_rfl) (by rfl) (fun K hK => ?_) | refine eA2 rfl (by kernel_rfl) (by rfl) (fun K hK => ?_) | refine eEe (by kernel_rfl) ?_) | ((with_reducible refine eHo ?_); first | (refine eA4 rfl (by kernel_rfl) (fun _ _ _ h => h) (by rfl) (by intro _; go_simp; (try with_reducible rfl)) ?_; (try simp only [Act.put, pS])) | refine eA3 rfl (by kernel_rfl) (by rfl) (fun K hK => ?_) | refine eDo (by kernel_rfl) ?_) | ((with_reducible show K _ _); (first | with_reducible refine hK.out _ _ (OwnB.of HO) ?_ | with_reducible refine hK.out _ _ ?_); clear hK K; (try simp only [Act.put, pS])) | ((first | (go_at_call 61; refine arm_among [32, 126, 32, 33, 126, 32] (by decide) (by decide) (by omega) HO rfl rfl ?_; clear HO; intro _ z hz hlt HO; cases z <;> (try simp only [hz, ↓reduceIte, bZ] at HF) <;> (first | (replace hlt := hlt rfl) | clear hlt)) | (go_at_call 61; refine arm_among [32, 43, 32, 45, 32] (by decide) (by decide) (by omega) HO rfl rfl ?_; clear HO; intro _ z hz hlt HO; cases z <;> (try simp only [hz, ↓reduceIte, bZ] at HF) <;> (first | (replace hlt := hlt rfl) | clear hlt)) | (go_at_call 61; refine arm_among [32, 42, 32, 47, 32, 37, 32] (by decide) (by decide) (by omega) HO rfl rfl ?_; clear HO; intro _ z hz hlt HO; cases z <;> (try simp only [hz, ↓reduceIte, bZ] at HF) <;> (first | (replace hlt := hlt rfl) | clear hlt))) <;> (try dsimp only)) | ((with_reducible refine eOp ?_); go_simp)))
        all_goals
          (repeat' (go_not_at_region 16; first | (with_reducible first | refine oXt ?_ | refine oXb ?_) | ((with_reducible refine ib_miss ?_ ?_); exact rfl) | ((first | ((with_reducible refine to_load ?_); first | refine oL1 HO rfl rfl ?_ | refine oL2 HO rfl rfl ?_ | refine oL3 HO rfl rfl ?_) | ((first | with_reducible refine oAl HO ?_ | ((with_reducible refine to_box ?_); refine wo_box HO rfl rfl ?_)); clear HO; intro _ HO)); (try simp only [Act.put, pS])) | ((first | ((with_reducible refine to_store ?_); first | refine oT1 HO rfl rfl rfl ?_ | refine oT2 HO rfl rfl rfl (by rfl) ?_ | refine oT3 HO rfl rfl rfl rfl ?_) | with_reducible refine ab_drew HO ?_); clear HO; intro _ HO) | ((with_reducible refine ab_junk HO 9 ?_); clear HO; intro _ HO HB) | ((go_big_may; first | (go_at_call 68; (first | refine arm_rn rfl ?_ (C_level.out _ ?_) HO HF ?_ ?_ | refine arm_rn rfl ?_ (C_level.out _ ?_) HO (gr_eta HF) ?_ ?_); (first | with_reducible rfl | rfl | (rw [IntWalk.i64_in _ (by omega)]; rfl)); (omega); (clear HO HF; intro _ _ _ _ _ HO _ hle hlt HF); rotate_left; (clear HO HF; intro _ _ _ HO hq HE); rotate_left)) <;> (try dsimp only)) | go_values | go_skip | go_guarded | go_step | go_upon | (go_ite <;> go_prune <;> (try go_simp))))
          all_goals (first | (refine oBc HO (t := 8) (ty := 116) rfl rfl rfl ?_; exact rFin) | skip)
        refine eBe HO [9] [0, 1, 3, 5, 2, 4, 6, 7, 8] [9] ?_
        clear HO
        intro _ HO
        (repeat' (first | ((with_reducible refine eGo ?_); first | refine eCa rfl rfl (by kernel_rfl) (by rfl) (fun K hK => ?_) | refine eSl rfl rfl (by kernel_rfl) (by rfl) (fun K hK => ?_) | ((first | refine eL1 HO rfl rfl rfl (by kernel_rfl) (fun _ _ _ h => h) (by rfl) ?_ | refine eL2 HO rfl rfl rfl (by kernel_rfl) (fun _ _ _ h => h) (by rfl) ?_ | refine eL3 HO rfl rfl rfl (by kernel_rfl) (fun _ _ _ h => h) (by rfl) ?_ | refine eR1 HO HRS rfl rfl rfl rfl rfl (by omega) (by kernel_rfl) (fun _ _ _ h => h) (by rfl) ?_ | refine eR0 HO HRS rfl rfl rfl rfl (by omega) (by kernel_rfl) (fun _ _ _ h => h) (by rfl) ?_ | refine ePu HO rfl (by kernel_rfl) (fun _ _ _ h => h) (by rfl) (eFi rfl rfl ⟨_, _, _, _, _, _, _, rfl, rfl, inferInstance⟩) ?_ | refine ePu HO rfl (by kernel_rfl) (fun _ _ _ h => h) (by rfl) (by intro _; go_simp; (try with_reducible rfl)) ?_); (try simp only [Act.put, pS])) | refine eA1 rfl (by kernel_rfl) (by rfl) (fun K hK => ?_) | refine eA2 rfl (by kernel_rfl) (by rfl) (fun K hK => ?_) | refine eEe (by kernel_rfl) ?_) | ((with_reducible refine eHo ?_); first | (refine eA4 rfl (by kernel_rfl) (fun _ _ _ h => h) (by rfl) (by intro _; go_simp; (try with_reducible rfl)) ?_; (try simp only [Act.put, pS])) | refine eA3 rfl (by kernel_rfl) (by rfl) (fun K hK => ?_) | refine eDo (by kernel_rfl) ?_) | ((with_reducible show K _ _); (first | with_reducible refine hK.out _ _ (OwnB.of HO) ?_ | with_reducible refine hK.out _ _ ?_); clear hK K; (try simp only [Act.put, pS])) | ((with_reducible refine to_store ?_); (first | refine oT1 HO rfl rfl rfl ?_ | refine oT2 HO rfl rfl rfl (by rfl) ?_ | refine oT3 HO rfl rfl rfl rfl ?_); clear HO; intro _ HO) | ((first | (go_at_call 62; refine arm_left (kind := 12) HO rfl rfl rfl rfl mM mM (by assumption) (by assumption) ?_; clear HO; intro _ _ HO) | (go_at_call 62; refine arm_left (kind := 15) HO rfl rfl rfl rfl mM mM (by assumption) (by assumption) ?_; clear HO; intro _ _ HO)) <;> (try dsimp only)) | ((with_reducible refine eOp ?_); go_simp)))
        all_goals
          (repeat' (first | (with_reducible first | refine oXt ?_ | refine oXb ?_) | ((with_reducible refine ib_miss ?_ ?_); exact rfl) | ((first | ((with_reducible refine to_load ?_); first | refine oL1 HO rfl rfl ?_ | refine oL2 HO rfl rfl ?_ | refine oL3 HO rfl rfl ?_) | ((first | with_reducible refine oAl HO ?_ | ((with_reducible refine to_box ?_); refine wo_box HO rfl rfl ?_)); clear HO; intro _ HO)); (try simp only [Act.put, pS])) | ((first | ((with_reducible refine to_store ?_); first | refine oT1 HO rfl rfl rfl ?_ | refine oT2 HO rfl rfl rfl (by rfl) ?_ | refine oT3 HO rfl rfl rfl rfl ?_) | with_reducible refine ab_drew HO ?_); clear HO; intro _ HO) | ((with_reducible refine ab_junk HO 9 ?_); clear HO; intro _ HO HB) | go_values | go_skip | go_guarded | go_step | go_upon | (go_ite <;> go_prune <;> (try go_simp))))
          go_roundg f
          case rel => exact ⟨_, _, _, _, hlt, by omega, by omega, Nat.le_refl _, HF, Lib.hid (HO.out.sub (by repeat (first | exact List.Sublist.refl _ | apply List.Sublist.cons)) (List.Sublist.refl _) (fun c hc => mem2 hc mH mM))⟩
          case measure => omega
end Go.Proofs.Ythipoccbeloceaa
