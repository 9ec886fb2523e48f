/- Several texts put together: ParT. -/
import Derived.Test.YtdiibenofbcfnaaGreatBu3
import Derived.Test.YtdiibenofbcfnaaGreatBu24
set_option linter.unusedSimpArgs false
set_option linter.unusedVariables false
namespace Go.Proofs.YtdiibenofbcfnaaGreat
open Go.RowKit
theorem iter_stepB {α β : Type} (go : Nat → Bool) (step : α → PP α) (f : Nat) (x : α) (k : α → PP β) (a d : Nat) : (iter go step (f + 1) x >>= k) a d = if go a = true then (step x >>= fun z => (iter go step f z >>= k)) a d else k x a d := by
  by_cases hg : go a = true
  · rw [if_pos hg]
    show PP.bind (iter go step (f + 1) x) k a d = PP.bind (step x) (fun z => PP.bind (iter go step f z) k) a d
    unfold PP.bind
    rw [iter_step, if_pos hg]
    show (match PP.bind (step x) (iter go step f) a d with | .ok x a' d' => k x a' d' | .err p q => .err p q) = _
    unfold PP.bind
    cases step x a d <;> rfl
  · rw [if_neg hg]
    show PP.bind (iter go step (f + 1) x) k a d = _
    unfold PP.bind
    rw [iter_step, if_neg hg]
    rfl
set_option maxRecDepth 100000 in
set_option maxHeartbeats 3200000 in
theorem pcat_any (p : Par) (HA : PAdv p) (g : Nat) (ts : List TokF) (n : Nat) (H_sum : FC 75 #[.pointer (some ⟨g, 0, none⟩)] (sumF ts p) VN g ts n) (H_place : FC 89 #[.pointer (some ⟨g, 0, none⟩)] (placeF ts p) VN g ts n) : FC 84 #[.pointer (some ⟨g, 0, none⟩)] (catF ts p) VN g ts n := by
  intro w a d m hn
  obtain ⟨R, hR⟩ : ∃ R, (catF ts p) a d = R := ⟨_, rfl⟩
  rw [hR]
  have HF := Lib.hid hR
  have HO := m.ownN
  have hg := m.lt
  unfold catF at HF
  clear hR m
  have hts := HO.out.st.ok.len
  have C_sum := Lib.hid H_sum
  have C_place := Lib.hid H_place
  go_enter Tryz.func84, Tryz.ntmps84
  (repeat' (first | (with_reducible first | refine oXt ?_ | refine oXb ?_) | ((with_reducible refine ib_miss ?_ ?_); exact rfl) | ((first | ((with_reducible refine to_load ?_); first | refine oL1 HO rfl rfl ?_ | refine oL2 HO rfl rfl ?_ | refine oL3 HO rfl rfl ?_) | ((first | with_reducible refine oAl HO ?_); clear HO; intro _ HO)); (try simp only [Act.put, pS0, pS1, pS2])) | ((first | ((with_reducible refine to_store ?_); first | refine oT1 HO rfl rfl rfl ?_ | refine oT2 HO rfl rfl rfl (by rfl) ?_ | refine oT3 HO rfl rfl rfl rfl ?_) | with_reducible refine ab_drew HO ?_); clear HO; intro _ HO) | ((with_reducible refine ab_junk HO 9 ?_); clear HO; intro _ HO HB) | ((go_big_may; first | (go_at_call 75; refine arm_node C_sum HO HF hg (by omega) ?_ ?_; rotate_left; (intro v pl e W h1 h2 h3; first | (exact bp_panic2 rfl h1 h2 h3) | ((try dsimp only); (repeat (first | go_big_open | (simp only [Exit.then, Exit.inBlock]))); exact bp_panic2 rfl h1 h2 h3)); clear HO HF; intro xN AN cN aN WN HO hl hle HF) | fail) <;> (try dsimp only)) | go_values | go_skip | go_guarded | go_step | go_upon | (go_ite <;> go_prune <;> (try go_simp))))
  obtain ⟨b3, hb3⟩ : ∃ b, b = WN.heap.size := ⟨_, rfl⟩
  rw [← hb3] at HO ⊢
  clear hb3
  go_loopw [] (fun W => ∃ (x : NodeT) (A : Option Addr) (c f q : Nat), x.l.length ≤ c ∧ a ≤ q ∧ ts.length ≤ f + q ∧ Hid ((iter (furtherA ts) (catS ts p) f x >>= fun n => iter (readsA ts) (catS2 ts p) ts.length n) q d = R) ∧ Hid (Own w [g] (PS g ts q d) [⟨b3, 39, [.int .i64 ((NodeT.k x : Nat) : Int), .int .i64 ((NodeT.at' x : Nat) : Int), .string (strN (NodeT.s x)), .bool (zn (NodeT.z x)), .int .u64 (zh (NodeT.z x)), .int .u64 (zl (NodeT.z x)), .int .i64 ((NodeT.i x : Nat) : Int), .slice A (NodeT.l x).length c]⟩, ⟨w.heap.size, 39, [.int .i64 0, .int .i64 0, .string { data := #[] }, .bool false, .int .u64 0, .int .u64 0, .int .i64 0, .slice none 0 0]⟩] [] [Cold.kids A x.l, Cold.kids none []] W)) (fun W => ts.length - (intOf ((W.cell? ⟨g, 1, none⟩).getD undef)).toNat)
  case atStart => exact ⟨xN, AN, cN, ts.length, aN, hl, hle, by omega, HF, HO⟩
  case round =>
    clear HO HF hl hle
    obtain ⟨x, A, c, f, q, hl, hab, hf, HF, HO⟩ := hrel
    have hq := HO.out.st.ha
    obtain ⟨f, rfl⟩ : ∃ f', f = f' + 1 := ⟨f - 1, by omega⟩
    have HS := Lib.hid HO.out.st
    rw [iter_stepB] at HF
    (repeat' (first | (with_reducible first | refine oXt ?_ | refine oXb ?_) | ((with_reducible refine ib_miss ?_ ?_); exact rfl) | ((first | ((with_reducible refine to_load ?_); first | refine oL1 HO rfl rfl ?_ | refine oL2 HO rfl rfl ?_ | refine oL3 HO rfl rfl ?_) | ((first | with_reducible refine oAl HO ?_); clear HO; intro _ HO)); (try simp only [Act.put, pS0, pS1, pS2])) | ((first | ((with_reducible refine to_store ?_); first | refine oT1 HO rfl rfl rfl ?_ | refine oT2 HO rfl rfl rfl (by rfl) ?_ | refine oT3 HO rfl rfl rfl rfl ?_) | with_reducible refine ab_drew HO ?_); clear HO; intro _ HO) | ((with_reducible refine ab_junk HO 9 ?_); clear HO; intro _ HO HB) | ((go_big_may; first | (go_at_call 87; refine arm_ask HO (fun w m => pfurther_any w m) rfl rfl ?_; clear HO; intro _ b hb HO; cases b) | fail) <;> (try dsimp only)) | go_values | go_skip | go_guarded | go_step | go_upon | (go_ite <;> go_prune <;> (try go_simp))))
    rotate_left
    · simp only [hb, if_true] at HF
      unfold catS at HF
      simp only [pp_assoc, pp_pureF] at HF
      refine eBe HO [4] [1, 0, 2, 3] [4] ?_
      clear HO
      intro _ HO
      (repeat' (first | ((with_reducible refine eGo ?_); first | refine eCa rfl rfl (by kernel_rfl) (by rfl) (fun K hK => ?_) | refine eSl rfl rfl (by kernel_rfl) (by rfl) (fun K hK => ?_) | ((first | refine eL1 HO rfl rfl rfl (by kernel_rfl) (fun _ _ _ h => h) (by rfl) ?_ | refine eL2 HO rfl rfl rfl (by kernel_rfl) (fun _ _ _ h => h) (by rfl) ?_ | refine ePu HO rfl (by kernel_rfl) (fun _ _ _ h => h) (by rfl) (eFi rfl rfl ⟨_, _, _, _, _, _, _, rfl, rfl, inferInstance⟩) ?_ | refine ePu HO rfl (by kernel_rfl) (fun _ _ _ h => h) (by rfl) (by intro _; go_simp; (try with_reducible rfl)) ?_); (try simp only [Act.put, pS0, pS1, pS2])) | refine eA1 rfl (by kernel_rfl) (by rfl) (fun K hK => ?_) | refine eA2 rfl (by kernel_rfl) (by rfl) (fun K hK => ?_) | refine eEe (by kernel_rfl) ?_) | ((with_reducible refine eHo ?_); first | (refine eA4 rfl (by kernel_rfl) (fun _ _ _ h => h) (by rfl) (by intro _; go_simp; (try with_reducible rfl)) ?_; (try simp only [Act.put, pS0, pS1, pS2])) | refine eA3 rfl (by kernel_rfl) (by rfl) (fun K hK => ?_) | refine eDo (by kernel_rfl) ?_) | ((with_reducible show K _ _); (first | with_reducible refine hK.out _ _ (OwnB.of HO) ?_ | with_reducible refine hK.out _ _ ?_); clear hK K; (try simp only [Act.put, pS0, pS1, pS2])) | ((with_reducible refine to_store ?_); (first | refine oT1 HO rfl rfl rfl ?_ | refine oT2 HO rfl rfl rfl (by rfl) ?_ | refine oT3 HO rfl rfl rfl rfl ?_); clear HO; intro _ HO) | ((first | (go_at_call 75; refine arm_nodeA (FC.at_ C_sum) HO HF hg (by omega) ?_ ?_; rotate_left; (intro v pl e W h1 h2 h3; first | (exact bp_panic2 rfl h1 h2 h3) | ((try dsimp only); (repeat (first | go_big_open | (simp only [Exit.then, Exit.inBlock]))); exact bp_panic2 rfl h1 h2 h3)); clear HO HF; intro xN AN cN aN WN hres HO hl hle HF) | (go_at_call 62; refine arm_two (kind := 14) (s := []) HO rfl rfl rfl rfl (by repeat (first | exact mH | apply mT)) (by repeat (first | exact mH | apply mT)) (by assumption) (by assumption) ?_; clear HO; intro _ _ HO)) <;> (try dsimp only)) | ((with_reducible refine eOp ?_); go_simp)))
      have hadv := adv_sum HA _ _ _ _ _ hres
      (repeat' (first | (with_reducible first | refine oXt ?_ | refine oXb ?_) | ((with_reducible refine ib_miss ?_ ?_); exact rfl) | ((first | ((with_reducible refine to_load ?_); first | refine oL1 HO rfl rfl ?_ | refine oL2 HO rfl rfl ?_ | refine oL3 HO rfl rfl ?_) | ((first | with_reducible refine oAl HO ?_); clear HO; intro _ HO)); (try simp only [Act.put, pS0, pS1, pS2])) | ((first | ((with_reducible refine to_store ?_); first | refine oT1 HO rfl rfl rfl ?_ | refine oT2 HO rfl rfl rfl (by rfl) ?_ | refine oT3 HO rfl rfl rfl rfl ?_) | with_reducible refine ab_drew HO ?_); clear HO; intro _ HO) | ((with_reducible refine ab_junk HO 9 ?_); clear HO; intro _ HO HB) | go_values | go_skip | go_guarded | go_step | go_upon | (go_ite <;> go_prune <;> (try go_simp))))
      go_roundw
      case rel => exact ⟨_, _, _, f, _, by first | exact Nat.le_refl _ | decide, by omega, by omega, HF, Lib.hid (HO.out.sub (List.Sublist.refl _) (List.Sublist.refl _) (fun c hc => mem2 hc (by repeat (first | exact mH | apply mT)) (by repeat (first | exact mH | apply mT))))⟩
      case measure => exact pmeas HS.out HO.out.st (by omega)
    · simp only [hb, Bool.false_eq_true, if_false] at HF
      clear hb HS
      go_loopw [] (fun W => ∃ (x : NodeT) (A : Option Addr) (c f q : Nat), x.l.length ≤ c ∧ a ≤ q ∧ ts.length ≤ f + q ∧ Hid (iter (readsA ts) (catS2 ts p) f x q d = R) ∧ Hid (Own w [g] (PS g ts q d) [⟨b3, 39, [.int .i64 ((NodeT.k x : Nat) : Int), .int .i64 ((NodeT.at' x : Nat) : Int), .string (strN (NodeT.s x)), .bool (zn (NodeT.z x)), .int .u64 (zh (NodeT.z x)), .int .u64 (zl (NodeT.z x)), .int .i64 ((NodeT.i x : Nat) : Int), .slice A (NodeT.l x).length c]⟩, ⟨w.heap.size, 39, [.int .i64 0, .int .i64 0, .string { data := #[] }, .bool false, .int .u64 0, .int .u64 0, .int .i64 0, .slice none 0 0]⟩] [] [Cold.kids A x.l, Cold.kids none []] W)) (fun W => ts.length - (intOf ((W.cell? ⟨g, 1, none⟩).getD undef)).toNat)
      case atStart => exact ⟨x, A, c, ts.length, q, hl, hab, by omega, HF, HO⟩
      case round =>
        clear HO HF hl hab hf hq
        obtain ⟨x, A, c, f, q, hl, hab, hf, HF, HO⟩ := hrel
        have hq := HO.out.st.ha
        obtain ⟨f, rfl⟩ : ∃ f', f = f' + 1 := ⟨f - 1, by omega⟩
        have HS := Lib.hid HO.out.st
        rw [iter_step] at HF
        have hby : ∀ z ∈ (ahead ts 1 q).s, z < 256 := by
          have h1 : min (q + 1) (ts.length - 1) < ts.length := by omega
          unfold ahead
          rw [tk_eq h1]
          exact HO.out.st.ok.byte _ (List.getElem_mem h1)
        have h8 := list8 hby [103, 101, 116, 108, 105, 110, 101] (by decide)
        simp only [List.map_cons, List.map_nil] at h8
        have h8' : ((strN (ahead ts 1 q).s).toList == [103, 101, 116, 108, 105, 110, 101]) = decide ((ahead ts 1 q).s = [103, 101, 116, 108, 105, 110, 101]) := by rw [Bool.eq_iff_iff, beq_iff_eq, decide_eq_true_eq]; exact h8
        clear h8 hby
        cases h7 : (((ahead ts 1 q).k : Int) == 7)
        · have h7' : (((ahead ts 1 q).k : Int) != 7) = true := by show (!(((ahead ts 1 q).k : Int) == 7)) = true; rw [h7]; rfl
          have hrd : readsA ts q = false := by unfold readsA; rw [h7]; simp
          simp only [hrd, Bool.false_eq_true, if_false] at HF
          clear h8'
          (repeat' (first | (with_reducible first | refine oXt ?_ | refine oXb ?_) | ((with_reducible refine ib_miss ?_ ?_); exact rfl) | ((first | ((with_reducible refine to_load ?_); first | refine oL1 HO rfl rfl ?_ | refine oL2 HO rfl rfl ?_ | refine oL3 HO rfl rfl ?_) | ((first | with_reducible refine oAl HO ?_); clear HO; intro _ HO)); (try simp only [Act.put, pS0, pS1, pS2])) | ((first | ((with_reducible refine to_store ?_); first | refine oT1 HO rfl rfl rfl ?_ | refine oT2 HO rfl rfl rfl (by rfl) ?_ | refine oT3 HO rfl rfl rfl rfl ?_) | with_reducible refine ab_drew HO ?_); clear HO; intro _ HO) | ((with_reducible refine ab_junk HO 9 ?_); clear HO; intro _ HO HB) | ((go_big_may; first | (go_at_call 28; refine arm_sgn HO rfl rfl HB (ss := [[124,38]]) rfl rfl (by decide) (by decide) ?_; clear HO HB; intro _ b hb HO; cases b) | (go_at_call 69; first | (refine arm_aheadF 1 HO HF rfl rfl rfl (by decide) ?_; clear HO HF; intro _ HO HF) | (refine arm_ahead 1 HO rfl rfl rfl (by decide) ?_; clear HO; intro _ HO)) | fail) <;> (try dsimp only)) | go_values | go_skip | go_guarded | go_step | go_upon | (go_ite <;> go_prune <;> (try go_simp))))
          all_goals (refine oBc HO (t := 2) (ty := 39) rfl rfl rfl ?_; refine bp_node HO HF rfl (by first | rfl | (rw [nv0]; first | done | rfl) | exact (nv0 _ _ _ _ _ _ _).symm) (by repeat (first | exact mH | apply mT)) (by first | assumption | exact Nat.le_refl _ | decide) (by omega))
        · have h7' : (((ahead ts 1 q).k : Int) != 7) = false := by show (!(((ahead ts 1 q).k : Int) == 7)) = false; rw [h7]; rfl
          cases hs : decide ((ahead ts 1 q).s = [103, 101, 116, 108, 105, 110, 101])
          · rw [hs] at h8'
            have hrd : readsA ts q = false := by unfold readsA; rw [hs]; simp
            simp only [hrd, Bool.false_eq_true, if_false] at HF
            (repeat' (first | (with_reducible first | refine oXt ?_ | refine oXb ?_) | ((with_reducible refine ib_miss ?_ ?_); exact rfl) | ((first | ((with_reducible refine to_load ?_); first | refine oL1 HO rfl rfl ?_ | refine oL2 HO rfl rfl ?_ | refine oL3 HO rfl rfl ?_) | ((first | with_reducible refine oAl HO ?_); clear HO; intro _ HO)); (try simp only [Act.put, pS0, pS1, pS2])) | ((first | ((with_reducible refine to_store ?_); first | refine oT1 HO rfl rfl rfl ?_ | refine oT2 HO rfl rfl rfl (by rfl) ?_ | refine oT3 HO rfl rfl rfl rfl ?_) | with_reducible refine ab_drew HO ?_); clear HO; intro _ HO) | ((with_reducible refine ab_junk HO 9 ?_); clear HO; intro _ HO HB) | ((go_big_may; first | (go_at_call 28; refine arm_sgn HO rfl rfl HB (ss := [[124,38]]) rfl rfl (by decide) (by decide) ?_; clear HO HB; intro _ b hb HO; cases b) | (go_at_call 69; first | (refine arm_aheadF 1 HO HF rfl rfl rfl (by decide) ?_; clear HO HF; intro _ HO HF) | (refine arm_ahead 1 HO rfl rfl rfl (by decide) ?_; clear HO; intro _ HO)) | fail) <;> (try dsimp only)) | go_values | go_skip | go_guarded | go_step | go_upon | (go_ite <;> go_prune <;> (try go_simp))))
            all_goals (refine oBc HO (t := 2) (ty := 39) rfl rfl rfl ?_; refine bp_node HO HF rfl (by first | rfl | (rw [nv0]; first | done | rfl) | exact (nv0 _ _ _ _ _ _ _).symm) (by repeat (first | exact mH | apply mT)) (by first | assumption | exact Nat.le_refl _ | decide) (by omega))
          · rw [hs] at h8'
            have hrd : readsA ts q = isS ts q [[124, 38]] := by unfold readsA; rw [hs, h7]; simp
            rw [hrd] at HF
            (repeat' (first | (with_reducible first | refine oXt ?_ | refine oXb ?_) | ((with_reducible refine ib_miss ?_ ?_); exact rfl) | ((first | ((with_reducible refine to_load ?_); first | refine oL1 HO rfl rfl ?_ | refine oL2 HO rfl rfl ?_ | refine oL3 HO rfl rfl ?_) | ((first | with_reducible refine oAl HO ?_); clear HO; intro _ HO)); (try simp only [Act.put, pS0, pS1, pS2])) | ((first | ((with_reducible refine to_store ?_); first | refine oT1 HO rfl rfl rfl ?_ | refine oT2 HO rfl rfl rfl (by rfl) ?_ | refine oT3 HO rfl rfl rfl rfl ?_) | with_reducible refine ab_drew HO ?_); clear HO; intro _ HO) | ((with_reducible refine ab_junk HO 9 ?_); clear HO; intro _ HO HB) | ((go_big_may; first | (go_at_call 28; refine arm_sgn HO rfl rfl HB (ss := [[124,38]]) rfl rfl (by decide) (by decide) ?_; clear HO HB; intro _ b hb HO; cases b) | (go_at_call 69; first | (refine arm_aheadF 1 HO HF rfl rfl rfl (by decide) ?_; clear HO HF; intro _ HO HF) | (refine arm_ahead 1 HO rfl rfl rfl (by decide) ?_; clear HO; intro _ HO)) | fail) <;> (try dsimp only)) | go_values | go_skip | go_guarded | go_step | go_upon | (go_ite <;> go_prune <;> (try go_simp))))
            · simp only [hb, Bool.false_eq_true, if_false] at HF
              all_goals (refine oBc HO (t := 2) (ty := 39) rfl rfl rfl ?_; refine bp_node HO HF rfl (by first | rfl | (rw [nv0]; first | done | rfl) | exact (nv0 _ _ _ _ _ _ _).symm) (by repeat (first | exact mH | apply mT)) (by first | assumption | exact Nat.le_refl _ | decide) (by omega))
            · have hnx := nx_isS hb
              simp only [hb, if_true] at HF
              unfold catS2 at HF
              simp only [pp_assoc, pp_pureF, pp_ite] at HF
              clear hb
              (repeat' (first | (with_reducible first | refine oXt ?_ | refine oXb ?_) | ((with_reducible refine ib_miss ?_ ?_); exact rfl) | ((first | ((with_reducible refine to_load ?_); first | refine oL1 HO rfl rfl ?_ | refine oL2 HO rfl rfl ?_ | refine oL3 HO rfl rfl ?_) | ((first | with_reducible refine oAl HO ?_); clear HO; intro _ HO)); (try simp only [Act.put, pS0, pS1, pS2])) | ((first | ((with_reducible refine to_store ?_); first | refine oT1 HO rfl rfl rfl ?_ | refine oT2 HO rfl rfl rfl (by rfl) ?_ | refine oT3 HO rfl rfl rfl rfl ?_) | with_reducible refine ab_drew HO ?_); clear HO; intro _ HO) | ((with_reducible refine ab_junk HO 9 ?_); clear HO; intro _ HO HB) | ((first | with_reducible refine nE1 HO ?_ ?_ | with_reducible refine nE2 HO ?_ ?_); (and_intros <;> (first | assumption | exact Nat.le_refl _)); clear HO; intro _ HO) | ((go_big_may; first | (go_at_call 29; first | (refine arm_nextF HO HF hg rfl rfl ?_; clear HO HF; intro _ hle HO HF) | (refine arm_next HO hg rfl rfl ?_; clear HO; intro _ HO)) | (go_at_call 88; first | (refine arm_askF HO HF (fun w m => pplaced_any w m) rfl rfl ?_; clear HO HF; intro _ b hb HO HF; cases b <;> (try simp only [↓reduceIte, Bool.false_eq_true, Bool.not_true, Bool.not_false, pp_pure] at HF)) | (refine arm_ask HO (fun w m => pplaced_any w m) rfl rfl ?_; clear HO; intro _ b hb HO; cases b)) | fail) <;> (try dsimp only)) | go_values | go_skip | go_guarded | go_step | go_upon | (go_ite <;> go_prune <;> (try go_simp))))
              · obtain ⟨A9, c9, e9, hc9, HO9⟩ := Own.freeze (els := [(x, A, c)]) HO.out (by repeat (first | exact mH | apply mT))
                injection e9 with e91 _ e92
                subst e91 e92
                go_roundw
                case rel => exact ⟨_, _, 1, f, _, by first | exact Nat.le_refl _ | decide, by omega, by omega, HF, Lib.hid (HO9.sub (by rw [nc0]; exact List.Sublist.cons _ (List.Sublist.refl _)) (List.Sublist.refl _) (fun c hc => mem2 hc (List.mem_cons_self) (by repeat (first | exact mH | apply mT))))⟩
                case measure => exact pmeas HS.out HO9.st (by omega)
              · skip
                refine eBe HO [7, 8, 9] [0, 2, 1, 6, 3, 4, 5] [7, 8, 9] ?_
                clear HO
                intro _ HO
                (repeat' (first | ((with_reducible refine eGo ?_); first | refine eCa rfl rfl (by kernel_rfl) (by rfl) (fun K hK => ?_) | refine eSl rfl rfl (by kernel_rfl) (by rfl) (fun K hK => ?_) | ((first | refine eL1 HO rfl rfl rfl (by kernel_rfl) (fun _ _ _ h => h) (by rfl) ?_ | refine eL2 HO rfl rfl rfl (by kernel_rfl) (fun _ _ _ h => h) (by rfl) ?_ | refine ePu HO rfl (by kernel_rfl) (fun _ _ _ h => h) (by rfl) (eFi rfl rfl ⟨_, _, _, _, _, _, _, rfl, rfl, inferInstance⟩) ?_ | refine ePu HO rfl (by kernel_rfl) (fun _ _ _ h => h) (by rfl) (by intro _; go_simp; (try with_reducible rfl)) ?_); (try simp only [Act.put, pS0, pS1, pS2])) | refine eA1 rfl (by kernel_rfl) (by rfl) (fun K hK => ?_) | refine eA2 rfl (by kernel_rfl) (by rfl) (fun K hK => ?_) | refine eEe (by kernel_rfl) ?_) | ((with_reducible refine eHo ?_); first | (refine eA4 rfl (by kernel_rfl) (fun _ _ _ h => h) (by rfl) (by intro _; go_simp; (try with_reducible rfl)) ?_; (try simp only [Act.put, pS0, pS1, pS2])) | refine eA3 rfl (by kernel_rfl) (by rfl) (fun K hK => ?_) | refine eDo (by kernel_rfl) ?_) | ((with_reducible show K _ _); (first | with_reducible refine hK.out _ _ (OwnB.of HO) ?_ | with_reducible refine hK.out _ _ ?_); clear hK K; (try simp only [Act.put, pS0, pS1, pS2])) | ((with_reducible refine to_store ?_); (first | refine oT1 HO rfl rfl rfl ?_ | refine oT2 HO rfl rfl rfl (by rfl) ?_ | refine oT3 HO rfl rfl rfl rfl ?_); clear HO; intro _ HO) | ((with_reducible refine to_append ?_); refine wo_appN (els := [(x, A, c)]) HO (by repeat (first | exact mH | apply mT)) rfl rfl rfl (by repeat (first | exact mH | apply mT)) (by first | omega | simp) ?_; clear HO; intro eN _ _ _ hmap hlen hcap HO; replace hlen := Lib.hid hlen; (try simp only [Act.put, pS0, pS1, pS2])) | ((first | with_reducible refine nd1 HO ?_ ?_ | with_reducible refine nd2 HO ?_ ?_ | with_reducible refine nd3 HO ?_ ?_ | with_reducible refine nd4 HO ?_ ?_); (and_intros <;> (first | assumption | exact Nat.le_refl _)); clear HO; intro _ HO) | ((with_reducible refine ab_junk HO 9 ?_); clear HO; intro _ HO HB) | ((first | (go_at_call 89; refine arm_node C_place HO HF hg (by omega) ?_ ?_; rotate_left; (intro v pl e W h1 h2 h3; first | (exact bp_panic2 rfl h1 h2 h3) | ((try dsimp only); (repeat (first | go_big_open | (simp only [Exit.then, Exit.inBlock]))); exact bp_panic2 rfl h1 h2 h3)); clear HO HF; intro xN AN cN aN WN HO hl hle HF)) <;> (try dsimp only)) | ((with_reducible refine eOp ?_); go_simp)))
                (repeat' (first | (with_reducible first | refine oXt ?_ | refine oXb ?_) | ((with_reducible refine ib_miss ?_ ?_); exact rfl) | ((first | ((with_reducible refine to_load ?_); first | refine oL1 HO rfl rfl ?_ | refine oL2 HO rfl rfl ?_ | refine oL3 HO rfl rfl ?_) | ((first | with_reducible refine oAl HO ?_); clear HO; intro _ HO)); (try simp only [Act.put, pS0, pS1, pS2])) | ((first | ((with_reducible refine to_store ?_); first | refine oT1 HO rfl rfl rfl ?_ | refine oT2 HO rfl rfl rfl (by rfl) ?_ | refine oT3 HO rfl rfl rfl rfl ?_) | with_reducible refine ab_drew HO ?_); clear HO; intro _ HO) | ((with_reducible refine ab_junk HO 9 ?_); clear HO; intro _ HO HB) | go_values | go_skip | go_guarded | go_step | go_upon | (go_ite <;> go_prune <;> (try go_simp))))
                simp only [List.map_cons, List.map_nil, List.cons_append, List.nil_append] at hmap
                rw [← hmap] at HF
                obtain ⟨A9, c9, e9, hc9, HO9⟩ := Own.freeze (els := eN) HO.out (by repeat (first | exact mH | apply mT))
                injection e9 with e91 _ e92
                subst e91 e92
                go_roundw
                case rel => exact ⟨_, _, _, f, _, (by show (eN.map (·.1)).length ≤ _; rw [List.length_map]; exact hcap), by omega, by omega, HF, Lib.hid (HO9.sub (by rw [nc0, List.length_map]; exact List.Sublist.cons _ (List.Sublist.refl _)) (List.Sublist.refl _) (fun c hc => mem2 hc (List.mem_cons_self) (by repeat (first | exact mH | apply mT))))⟩
                case measure => exact pmeas HS.out HO9.st (by omega)
end Go.Proofs.YtdiibenofbcfnaaGreat
