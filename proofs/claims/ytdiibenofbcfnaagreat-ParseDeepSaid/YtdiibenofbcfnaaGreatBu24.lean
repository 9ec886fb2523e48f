/- Several texts put together: ParN, ParR. -/
import Derived.Test.YtdiibenofbcfnaaGreatBu3
import Derived.Test.YtdiibenofbcfnaaGreatBu23
import Derived.Test.YtdiibenofbcfnaaGreatBu19
set_option linter.unusedSimpArgs false
set_option linter.unusedVariables false
namespace Go.Proofs.YtdiibenofbcfnaaGreat
open Go.RowKit
theorem nc0 (k a : Nat) (s : List Nat) (i : Nat) (l : List NodeT) (A : Option Addr) (c : Nat) : ([.int .i64 ((NodeT.k (NodeT.mk k a s 0 i l) : Nat) : Int), .int .i64 ((NodeT.at' (NodeT.mk k a s 0 i l) : Nat) : Int), .string (strN (NodeT.s (NodeT.mk k a s 0 i l))), .bool (zn (NodeT.z (NodeT.mk k a s 0 i l))), .int .u64 (zh (NodeT.z (NodeT.mk k a s 0 i l))), .int .u64 (zl (NodeT.z (NodeT.mk k a s 0 i l))), .int .i64 ((NodeT.i (NodeT.mk k a s 0 i l) : Nat) : Int), .slice A (NodeT.l (NodeT.mk k a s 0 i l)).length c] : List Value) = [.int .i64 (k : Int), .int .i64 (a : Int), .string (strN s), .bool false, .int .u64 0, .int .u64 0, .int .i64 (i : Int), .slice A l.length c] := by
  have h1 : zn (NodeT.z (NodeT.mk k a s 0 i l)) = false := by show zn 0 = false; decide
  have h2 : zh (NodeT.z (NodeT.mk k a s 0 i l)) = 0 := by show zh 0 = 0; decide
  have h3 : zl (NodeT.z (NodeT.mk k a s 0 i l)) = 0 := by show zl 0 = 0; decide
  rw [h1, h2, h3]
  rfl
set_option maxRecDepth 100000 in
set_option maxHeartbeats 3200000 in
theorem pisin_any (p : Par) (g : Nat) (ts : List TokF) (n : Nat) (H_match : FC 79 #[.pointer (some ⟨g, 0, none⟩)] (matchF ts p) VN g ts n) : FC 77 #[.pointer (some ⟨g, 0, none⟩)] (isinF ts p) VN g ts n := by
  intro w a d m hn
  obtain ⟨R, hR⟩ : ∃ R, (isinF ts p) a d = R := ⟨_, rfl⟩
  rw [hR]
  have HF := Lib.hid hR
  have HO := m.ownN
  have hg := m.lt
  unfold isinF at HF
  clear hR m
  have C_match := Lib.hid H_match
  go_enter Tryz.func77, Tryz.ntmps77
  (repeat' (first | (with_reducible first | refine oXt ?_ | refine oXb ?_) | ((with_reducible refine ib_miss ?_ ?_); exact rfl) | ((first | ((with_reducible refine to_load ?_); first | refine oL1 HO rfl rfl ?_ | refine oL2 HO rfl rfl ?_ | refine oL3 HO rfl rfl ?_) | ((with_reducible refine to_field ?_); refine oF1 rfl ?_; refine ⟨_, _, _, _, _, _, _, _, rfl, rfl, inferInstance, ?_⟩) | ((first | with_reducible refine oAl HO ?_); clear HO; intro _ HO)); (try simp only [Act.put, pS0, pS1, pS2])) | ((first | ((with_reducible refine to_store ?_); first | refine oT1 HO rfl rfl rfl ?_ | refine oT2 HO rfl rfl rfl (by rfl) ?_ | refine oT3 HO rfl rfl rfl rfl ?_) | with_reducible refine ab_drew HO ?_); clear HO; intro _ HO) | ((with_reducible refine ab_junk HO 9 ?_); clear HO; intro _ HO HB) | ((go_big_may; first | (go_at_call 79; refine arm_node C_match HO HF hg (by omega) ?_ ?_; rotate_left; (intro v pl e W h1 h2 h3; first | (exact bp_panic2 rfl h1 h2 h3) | ((try dsimp only); (repeat (first | go_big_open | (simp only [Exit.then, Exit.inBlock]))); exact bp_panic2 rfl h1 h2 h3)); clear HO HF; intro xN AN cN aN WN HO hl hle HF) | fail) <;> (try dsimp only)) | go_values | go_skip | go_guarded | go_step | go_upon | (go_ite <;> go_prune <;> (try go_simp))))
  obtain ⟨b3, hb3⟩ : ∃ b, b = WN.heap.size := ⟨_, rfl⟩
  rw [← hb3] at HO ⊢
  clear hb3
  go_loopw [] (fun W => ∃ (x : NodeT) (A : Option Addr) (c f q : Nat), x.l.length ≤ c ∧ a ≤ q ∧ ts.length ≤ f + q ∧ Hid (iter (fun a => isW ts a [[105, 110]]) (isinS ts) f x q d = R) ∧ Hid (Own w [g] (PS g ts q d) [⟨b3, 39, [.int .i64 ((NodeT.k x : Nat) : Int), .int .i64 ((NodeT.at' x : Nat) : Int), .string (strN (NodeT.s x)), .bool (zn (NodeT.z x)), .int .u64 (zh (NodeT.z x)), .int .u64 (zl (NodeT.z x)), .int .i64 ((NodeT.i x : Nat) : Int), .slice A (NodeT.l x).length c]⟩, ⟨w.heap.size, 39, [.int .i64 0, .int .i64 0, .string { data := #[] }, .bool false, .int .u64 0, .int .u64 0, .int .i64 0, .slice none 0 0]⟩] [] [Cold.kids A x.l, Cold.kids none []] W)) (fun W => ts.length - (intOf ((W.cell? ⟨g, 1, none⟩).getD undef)).toNat)
  case atStart => exact ⟨xN, AN, cN, ts.length, aN, hl, hle, by omega, HF, HO⟩
  case round =>
    clear HO HF hl hle
    obtain ⟨x, A, c, f, q, hl, hab, hf, HF, HO⟩ := hrel
    have hq := HO.out.st.ha
    obtain ⟨f, rfl⟩ : ∃ f', f = f' + 1 := ⟨f - 1, by omega⟩
    have HS := Lib.hid HO.out.st
    rw [iter_step] at HF
    unfold isinS at HF
    simp only [pp_assoc, pp_pureF] at HF
    (repeat' (first | (with_reducible first | refine oXt ?_ | refine oXb ?_) | ((with_reducible refine ib_miss ?_ ?_); exact rfl) | ((first | ((with_reducible refine to_load ?_); first | refine oL1 HO rfl rfl ?_ | refine oL2 HO rfl rfl ?_ | refine oL3 HO rfl rfl ?_) | ((with_reducible refine to_field ?_); refine oF1 rfl ?_; refine ⟨_, _, _, _, _, _, _, _, rfl, rfl, inferInstance, ?_⟩) | ((first | with_reducible refine oAl HO ?_); clear HO; intro _ HO)); (try simp only [Act.put, pS0, pS1, pS2])) | ((first | ((with_reducible refine to_store ?_); first | refine oT1 HO rfl rfl rfl ?_ | refine oT2 HO rfl rfl rfl (by rfl) ?_ | refine oT3 HO rfl rfl rfl rfl ?_) | with_reducible refine ab_drew HO ?_); clear HO; intro _ HO) | ((with_reducible refine ab_junk HO 9 ?_); clear HO; intro _ HO HB) | ((go_big_may; first | (go_at_call 30; refine arm_wrd HO rfl rfl HB (ss := [[105,110]]) rfl rfl (by decide) (by decide) ?_; clear HO HB; intro _ b hb HO; cases b) | fail) <;> (try dsimp only)) | go_values | go_skip | go_guarded | go_step | go_upon | (go_ite <;> go_prune <;> (try go_simp))))
    · simp only [hb, Bool.false_eq_true, if_false] at HF
      (repeat' (first | (with_reducible first | refine oXt ?_ | refine oXb ?_) | ((with_reducible refine ib_miss ?_ ?_); exact rfl) | ((first | ((with_reducible refine to_load ?_); first | refine oL1 HO rfl rfl ?_ | refine oL2 HO rfl rfl ?_ | refine oL3 HO rfl rfl ?_) | ((with_reducible refine to_field ?_); refine oF1 rfl ?_; refine ⟨_, _, _, _, _, _, _, _, rfl, rfl, inferInstance, ?_⟩) | ((first | with_reducible refine oAl HO ?_); clear HO; intro _ HO)); (try simp only [Act.put, pS0, pS1, pS2])) | ((first | ((with_reducible refine to_store ?_); first | refine oT1 HO rfl rfl rfl ?_ | refine oT2 HO rfl rfl rfl (by rfl) ?_ | refine oT3 HO rfl rfl rfl rfl ?_) | with_reducible refine ab_drew HO ?_); clear HO; intro _ HO) | ((with_reducible refine ab_junk HO 9 ?_); clear HO; intro _ HO HB) | go_values | go_skip | go_guarded | go_step | go_upon | (go_ite <;> go_prune <;> (try go_simp))))
      all_goals (refine oBc HO (t := 2) (ty := 39) rfl rfl rfl ?_; refine bp_node HO HF rfl (by first | rfl | (rw [nv0]; first | done | rfl) | exact (nv0 _ _ _ _ _ _ _).symm) (by repeat (first | exact mH | apply mT)) (by first | assumption | exact Nat.le_refl _ | decide) (by omega))
    · have hnx := nx_isW hb
      simp only [hb, if_true] at HF
      clear hb
      (repeat' (first | (with_reducible first | refine oXt ?_ | refine oXb ?_) | ((with_reducible refine ib_miss ?_ ?_); exact rfl) | ((first | ((with_reducible refine to_load ?_); first | refine oL1 HO rfl rfl ?_ | refine oL2 HO rfl rfl ?_ | refine oL3 HO rfl rfl ?_) | ((with_reducible refine to_field ?_); refine oF1 rfl ?_; refine ⟨_, _, _, _, _, _, _, _, rfl, rfl, inferInstance, ?_⟩) | ((first | with_reducible refine oAl HO ?_); clear HO; intro _ HO)); (try simp only [Act.put, pS0, pS1, pS2])) | ((first | ((with_reducible refine to_store ?_); first | refine oT1 HO rfl rfl rfl ?_ | refine oT2 HO rfl rfl rfl (by rfl) ?_ | refine oT3 HO rfl rfl rfl rfl ?_) | with_reducible refine ab_drew HO ?_); clear HO; intro _ HO) | ((with_reducible refine ab_junk HO 9 ?_); clear HO; intro _ HO HB) | ((go_big_may; first | (go_at_call 29; first | (refine arm_nextF HO HF hg rfl rfl ?_; clear HO HF; intro _ hle HO HF) | (refine arm_next HO hg rfl rfl ?_; clear HO; intro _ HO)) | fail) <;> (try dsimp only)) | go_values | go_skip | go_guarded | go_step | go_upon | (go_ite <;> go_prune <;> (try go_simp))))
      refine e_begin HO [8] (by kernel_rfl) ?_
      clear HO
      intro _ HO
      refine e_pure (i := 0) (v := ?v0) rfl (by kernel_rfl) (by kernel_rfl) (by kernel_rfl) (by kernel_rfl) (fun _ _ _ h => h) (by rfl) (OwnB.of HO) ?y0 ?r0
      case y0 => (intro wS; go_simp; (try with_reducible rfl))
      (try simp only [Act.put, pS0, pS1, pS2])
      refine e_pure (i := 2) (v := ?v1) rfl (by kernel_rfl) (by kernel_rfl) (by kernel_rfl) (by kernel_rfl) (fun _ _ _ h => h) (by rfl) (OwnB.of HO) ?y1 ?r1
      case y1 => (intro wS; go_simp; (try with_reducible rfl))
      (try simp only [Act.put, pS0, pS1, pS2])
      first | (refine e_load1 (i := 1) HO rfl (by kernel_rfl) (by kernel_rfl) (by kernel_rfl) (by kernel_rfl) (by kernel_rfl) rfl rfl (by repeat (first | exact mH | apply mT)) (by first | exact Tryz.isAgg3 | exact Tryz.isAgg9 | exact Tryz.isAgg4 | exact Tryz.isAgg37 | exact Tryz.isAgg74) (by rfl) (fun _ _ _ h => h) (by rfl) ?_) | (refine e_load (i := 1) HO rfl (by kernel_rfl) (by kernel_rfl) (by kernel_rfl) (by kernel_rfl) (by kernel_rfl) rfl rfl (by repeat (first | exact mH | apply mT)) Tryz.isAgg39 Tryz.sizeOf39 (by rfl) (fun _ _ _ h => h) (by rfl) ?_) | (refine e_load (i := 1) HO rfl (by kernel_rfl) (by kernel_rfl) (by kernel_rfl) (by kernel_rfl) (by kernel_rfl) rfl rfl (by repeat (first | exact mH | apply mT)) Tryz.isAgg59 Tryz.sizeOf59 (by rfl) (fun _ _ _ h => h) (by rfl) ?_)
      (try simp only [Act.put, pS0, pS1, pS2])
      first | (refine e_load1 (i := 5) HO rfl (by kernel_rfl) (by kernel_rfl) (by kernel_rfl) (by kernel_rfl) (by kernel_rfl) rfl rfl (by repeat (first | exact mH | apply mT)) (by first | exact Tryz.isAgg3 | exact Tryz.isAgg9 | exact Tryz.isAgg4 | exact Tryz.isAgg37 | exact Tryz.isAgg74) (by rfl) (fun _ _ _ h => h) (by rfl) ?_) | (refine e_load (i := 5) HO rfl (by kernel_rfl) (by kernel_rfl) (by kernel_rfl) (by kernel_rfl) (by kernel_rfl) rfl rfl (by repeat (first | exact mH | apply mT)) Tryz.isAgg39 Tryz.sizeOf39 (by rfl) (fun _ _ _ h => h) (by rfl) ?_) | (refine e_load (i := 5) HO rfl (by kernel_rfl) (by kernel_rfl) (by kernel_rfl) (by kernel_rfl) (by kernel_rfl) rfl rfl (by repeat (first | exact mH | apply mT)) Tryz.isAgg59 Tryz.sizeOf59 (by rfl) (fun _ _ _ h => h) (by rfl) ?_)
      (try simp only [Act.put, pS0, pS1, pS2])
      refine e_both (i := 3) (j := 6) (by kernel_rfl) rfl rfl (by kernel_rfl) (by kernel_rfl) (by rfl) (by rfl) (fun K hK => ?oa2) (fun K hK => ?ob2)
      case' oa2 =>
        go_simp
        (first | (go_at_call 41; refine arm_tokn (n := 65) (Lib.hid (pname_any _ _ _)) HO HF hg (by omega) ?_ ?_; rotate_left; (intro v pl e W h1 h2 h3; first | (exact bp_panic2 rfl h1 h2 h3) | ((try dsimp only); (repeat (first | go_big_open | (simp only [Exit.then, Exit.inBlock]))); exact bp_panic2 rfl h1 h2 h3)); clear HO HF; intro _ _ _ HO hle HF))
        all_goals (try dsimp only)
        refine hK.out _ _ (OwnB.of HO) ?_
        clear hK K
        (try simp only [Act.put, pS0, pS1, pS2])
        refine e_pure (i := 4) (v := ?v3) rfl (by kernel_rfl) (by kernel_rfl) (by kernel_rfl) (by kernel_rfl) (fun _ _ _ h => h) (by rfl) (OwnB.of HO) ?y3 ?r3
        case y3 => (intro wS; first | (exact run_field1 rfl rfl Tryz.underlying39 (by rfl) (by rfl) (by first | exact Tryz.isAgg3 | exact Tryz.isAgg9 | exact Tryz.isAgg4 | exact Tryz.isAgg37 | exact Tryz.isAgg74)) | (exact run_field1 rfl rfl Tryz.underlying59 (by rfl) (by rfl) (by first | exact Tryz.isAgg3 | exact Tryz.isAgg9 | exact Tryz.isAgg4 | exact Tryz.isAgg37 | exact Tryz.isAgg74)))
        (try simp only [Act.put, pS0, pS1, pS2])
        refine e_one (i := 6) (by kernel_rfl) rfl (by kernel_rfl) (by rfl) (fun K hK => ?_)
        go_simp
        (first | ((first | with_reducible refine nd1 HO ?_ ?_ | with_reducible refine nd2 HO ?_ ?_ | with_reducible refine nd3 HO ?_ ?_ | with_reducible refine nd4 HO ?_ ?_); (and_intros <;> (first | assumption | exact Nat.le_refl _)); clear HO; intro _ HO) | ((with_reducible refine ab_junk HO 9 ?_); clear HO; intro _ HO HB))
        refine hK.out _ _ (OwnB.of HO) ?_
        clear hK K
        (try simp only [Act.put, pS0, pS1, pS2])
        refine e_pure (i := 7) (v := ?v4) rfl (by kernel_rfl) (by kernel_rfl) (by kernel_rfl) (by kernel_rfl) (fun _ _ _ h => h) (by rfl) (OwnB.of HO) ?y4 ?r4
        case y4 => (intro wS; go_simp; (try with_reducible rfl))
        (try simp only [Act.put, pS0, pS1, pS2])
        refine e_late (i := 8) (by kernel_rfl) rfl (by kernel_rfl) (by rfl) (fun K hK => ?_)
        (with_reducible refine to_store ?_)
        first | (first | (refine wo_store1c HO rfl rfl rfl (by repeat (first | exact mH | apply mT)) (by (try simp only [List.set_cons_zero, List.set_cons_succ]); rfl) (by repeat (first | exact cH | apply cT)) (by first | exact Tryz.sizeOf3 | exact Tryz.sizeOf9 | exact Tryz.sizeOf4 | exact Tryz.sizeOf37 | exact Tryz.sizeOf74) (by simp) (by rfl) ?_) | (refine wo_store1t HO rfl rfl rfl (by rfl) (by repeat (first | exact mH | apply mT)) (by (try simp only [List.set_cons_zero, List.set_cons_succ]); rfl) (by repeat (first | exact cH | apply cT)) (by first | exact Tryz.sizeOf3 | exact Tryz.sizeOf9 | exact Tryz.sizeOf4 | exact Tryz.sizeOf37 | exact Tryz.sizeOf74) (by simp) (by rfl) ?_); clear HO; intro _ HO) | (refine wo_store HO rfl rfl rfl rfl (by repeat (first | exact cH | apply cT)) Tryz.sizeOf39 (by rfl) (by rfl) (by simp [Value.oneCell']) ?_; clear HO; intro _ HO) | (refine wo_store HO rfl rfl rfl rfl (by repeat (first | exact cH | apply cT)) Tryz.sizeOf59 (by rfl) (by rfl) (by simp [Value.oneCell']) ?_; clear HO; intro _ HO)
        refine hK.out _ _ ?_
        clear hK K
        (try simp only [Act.put, pS0, pS1, pS2])
        refine e_done (by kernel_rfl) ?_
      case' ob2 =>
        go_simp
        (first | ((first | with_reducible refine nd1 HO ?_ ?_ | with_reducible refine nd2 HO ?_ ?_ | with_reducible refine nd3 HO ?_ ?_ | with_reducible refine nd4 HO ?_ ?_); (and_intros <;> (first | assumption | exact Nat.le_refl _)); clear HO; intro _ HO) | ((with_reducible refine ab_junk HO 9 ?_); clear HO; intro _ HO HB))
        refine hK.out _ _ (OwnB.of HO) ?_
        clear hK K
        (try simp only [Act.put, pS0, pS1, pS2])
        refine e_one (i := 3) (by kernel_rfl) rfl (by kernel_rfl) (by rfl) (fun K hK => ?_)
        go_simp
        (first | (go_at_call 41; refine arm_tokn (n := 65) (Lib.hid (pname_any _ _ _)) HO HF hg (by omega) ?_ ?_; rotate_left; (intro v pl e W h1 h2 h3; first | (exact bp_panic2 rfl h1 h2 h3) | ((try dsimp only); (repeat (first | go_big_open | (simp only [Exit.then, Exit.inBlock]))); exact bp_panic2 rfl h1 h2 h3)); clear HO HF; intro _ _ _ HO hle HF))
        all_goals (try dsimp only)
        refine hK.out _ _ (OwnB.of HO) ?_
        clear hK K
        (try simp only [Act.put, pS0, pS1, pS2])
        refine e_pure (i := 4) (v := ?v5) rfl (by kernel_rfl) (by kernel_rfl) (by kernel_rfl) (by kernel_rfl) (fun _ _ _ h => h) (by rfl) (OwnB.of HO) ?y5 ?r5
        case y5 => (intro wS; first | (exact run_field1 rfl rfl Tryz.underlying39 (by rfl) (by rfl) (by first | exact Tryz.isAgg3 | exact Tryz.isAgg9 | exact Tryz.isAgg4 | exact Tryz.isAgg37 | exact Tryz.isAgg74)) | (exact run_field1 rfl rfl Tryz.underlying59 (by rfl) (by rfl) (by first | exact Tryz.isAgg3 | exact Tryz.isAgg9 | exact Tryz.isAgg4 | exact Tryz.isAgg37 | exact Tryz.isAgg74)))
        (try simp only [Act.put, pS0, pS1, pS2])
        refine e_pure (i := 7) (v := ?v6) rfl (by kernel_rfl) (by kernel_rfl) (by kernel_rfl) (by kernel_rfl) (fun _ _ _ h => h) (by rfl) (OwnB.of HO) ?y6 ?r6
        case y6 => (intro wS; go_simp; (try with_reducible rfl))
        (try simp only [Act.put, pS0, pS1, pS2])
        refine e_late (i := 8) (by kernel_rfl) rfl (by kernel_rfl) (by rfl) (fun K hK => ?_)
        (with_reducible refine to_store ?_)
        first | (first | (refine wo_store1c HO rfl rfl rfl (by repeat (first | exact mH | apply mT)) (by (try simp only [List.set_cons_zero, List.set_cons_succ]); rfl) (by repeat (first | exact cH | apply cT)) (by first | exact Tryz.sizeOf3 | exact Tryz.sizeOf9 | exact Tryz.sizeOf4 | exact Tryz.sizeOf37 | exact Tryz.sizeOf74) (by simp) (by rfl) ?_) | (refine wo_store1t HO rfl rfl rfl (by rfl) (by repeat (first | exact mH | apply mT)) (by (try simp only [List.set_cons_zero, List.set_cons_succ]); rfl) (by repeat (first | exact cH | apply cT)) (by first | exact Tryz.sizeOf3 | exact Tryz.sizeOf9 | exact Tryz.sizeOf4 | exact Tryz.sizeOf37 | exact Tryz.sizeOf74) (by simp) (by rfl) ?_); clear HO; intro _ HO) | (refine wo_store HO rfl rfl rfl rfl (by repeat (first | exact cH | apply cT)) Tryz.sizeOf39 (by rfl) (by rfl) (by simp [Value.oneCell']) ?_; clear HO; intro _ HO) | (refine wo_store HO rfl rfl rfl rfl (by repeat (first | exact cH | apply cT)) Tryz.sizeOf59 (by rfl) (by rfl) (by simp [Value.oneCell']) ?_; clear HO; intro _ HO)
        refine hK.out _ _ ?_
        clear hK K
        (try simp only [Act.put, pS0, pS1, pS2])
        refine e_done (by kernel_rfl) ?_
      all_goals (
        (repeat' (first | (with_reducible first | refine oXt ?_ | refine oXb ?_) | ((with_reducible refine ib_miss ?_ ?_); exact rfl) | ((first | ((with_reducible refine to_load ?_); first | refine oL1 HO rfl rfl ?_ | refine oL2 HO rfl rfl ?_ | refine oL3 HO rfl rfl ?_) | ((with_reducible refine to_field ?_); refine oF1 rfl ?_; refine ⟨_, _, _, _, _, _, _, _, rfl, rfl, inferInstance, ?_⟩) | ((first | with_reducible refine oAl HO ?_); clear HO; intro _ HO)); (try simp only [Act.put, pS0, pS1, pS2])) | ((first | ((with_reducible refine to_store ?_); first | refine oT1 HO rfl rfl rfl ?_ | refine oT2 HO rfl rfl rfl (by rfl) ?_ | refine oT3 HO rfl rfl rfl rfl ?_) | with_reducible refine ab_drew HO ?_); clear HO; intro _ HO) | ((with_reducible refine ab_junk HO 9 ?_); clear HO; intro _ HO HB) | go_values | go_skip | go_guarded | go_step | go_upon | (go_ite <;> go_prune <;> (try go_simp))))
        go_roundw
        case rel => exact ⟨_, _, 1, f, _, by first | exact Nat.le_refl _ | decide, by omega, by omega, HF, Lib.hid (HO.out.sub (by rw [nc0]; exact List.Sublist.refl _) (List.Sublist.refl _) (fun c hc => mem2 hc (by repeat (first | exact mH | apply mT)) (by repeat (first | exact mH | apply mT))))⟩
        case measure => exact pmeas HS.out HO.out.st (by omega))
open Go.RowKit
set_option maxRecDepth 100000 in
set_option maxHeartbeats 3200000 in
theorem pstep_any (p : Par) (g : Nat) (ts : List TokF) (n : Nat) (H_stepped : FCS (steppedF ts p) g ts n) (H_atom : FC 86 #[.pointer (some ⟨g, 0, none⟩)] (atomF ts p) VN g ts n) : FC 83 #[.pointer (some ⟨g, 0, none⟩)] (stepF ts p) VN g ts n := by
  intro w a d m hn
  obtain ⟨R, hR⟩ : ∃ R, (stepF ts p) a d = R := ⟨_, rfl⟩
  rw [hR]
  have HF := Lib.hid hR
  have HO := m.ownN
  have hg := m.lt
  unfold stepF at HF
  clear hR m
  have C_stepped := Lib.hid H_stepped
  have C_atom := Lib.hid H_atom
  go_enter Tryz.func83, Tryz.ntmps83
  (repeat' (first | (with_reducible first | refine oXt ?_ | refine oXb ?_) | ((with_reducible refine ib_miss ?_ ?_); exact rfl) | ((first | ((with_reducible refine to_load ?_); first | refine oL1 HO rfl rfl ?_ | refine oL2 HO rfl rfl ?_ | refine oL3 HO rfl rfl ?_) | ((with_reducible refine to_field ?_); refine oF1 rfl ?_; refine ⟨_, _, _, _, _, _, _, _, rfl, rfl, inferInstance, ?_⟩) | ((first | with_reducible refine oAl HO ?_); clear HO; intro _ HO)); (try simp only [Act.put, pS0, pS1, pS2])) | ((first | ((with_reducible refine to_store ?_); first | refine oT1 HO rfl rfl rfl ?_ | refine oT2 HO rfl rfl rfl (by rfl) ?_ | refine oT3 HO rfl rfl rfl rfl ?_) | with_reducible refine ab_drew HO ?_); clear HO; intro _ HO) | ((with_reducible refine ab_junk HO 9 ?_); clear HO; intro _ HO HB) | ((go_big_may; first | (go_at_call 28; refine arm_sgnF HO HF rfl rfl HB rfl rfl (by decide) (by decide) ?_; clear HO HF HB; intro _ b hb HO HF; cases b <;> (try simp only [↓reduceIte, Bool.false_eq_true, Bool.not_true, Bool.not_false, pp_pure] at HF)) | fail) <;> (try dsimp only)) | go_values | go_skip | go_guarded | go_step | go_upon | (go_ite <;> go_prune <;> (try go_simp))))
  rotate_left
  · replace HF := Lib.hid (pp_ret HF.out)
    (repeat' (first | (with_reducible first | refine oXt ?_ | refine oXb ?_) | ((with_reducible refine ib_miss ?_ ?_); exact rfl) | ((first | ((with_reducible refine to_load ?_); first | refine oL1 HO rfl rfl ?_ | refine oL2 HO rfl rfl ?_ | refine oL3 HO rfl rfl ?_) | ((with_reducible refine to_field ?_); refine oF1 rfl ?_; refine ⟨_, _, _, _, _, _, _, _, rfl, rfl, inferInstance, ?_⟩) | ((first | with_reducible refine oAl HO ?_); clear HO; intro _ HO)); (try simp only [Act.put, pS0, pS1, pS2])) | ((first | ((with_reducible refine to_store ?_); first | refine oT1 HO rfl rfl rfl ?_ | refine oT2 HO rfl rfl rfl (by rfl) ?_ | refine oT3 HO rfl rfl rfl rfl ?_) | with_reducible refine ab_drew HO ?_); clear HO; intro _ HO) | ((with_reducible refine ab_junk HO 9 ?_); clear HO; intro _ HO HB) | ((go_big_may; first | (go_at_call 85; refine arm_nodeA (FC.ofS C_stepped hb) HO HF hg (by omega) ?_ ?_; rotate_left; (intro v pl e W h1 h2 h3; first | (exact bp_panic2 rfl h1 h2 h3) | ((try dsimp only); (repeat (first | go_big_open | (simp only [Exit.then, Exit.inBlock]))); exact bp_panic2 rfl h1 h2 h3)); clear HO HF; intro xN AN cN aN WN hres HO hl hle HF) | fail) <;> (try dsimp only)) | go_values | go_skip | go_guarded | go_step | go_upon | (go_ite <;> go_prune <;> (try go_simp))))
    all_goals (refine oBc HO (t := 2) (ty := 39) rfl rfl rfl ?_; refine bp_node HO HF rfl (by first | rfl | (rw [nv0]; first | done | rfl) | exact (nv0 _ _ _ _ _ _ _).symm) (by repeat (first | exact mH | apply mT)) (by first | assumption | exact Nat.le_refl _ | decide) (by omega))
  · (repeat' (first | (with_reducible first | refine oXt ?_ | refine oXb ?_) | ((with_reducible refine ib_miss ?_ ?_); exact rfl) | ((first | ((with_reducible refine to_load ?_); first | refine oL1 HO rfl rfl ?_ | refine oL2 HO rfl rfl ?_ | refine oL3 HO rfl rfl ?_) | ((with_reducible refine to_field ?_); refine oF1 rfl ?_; refine ⟨_, _, _, _, _, _, _, _, rfl, rfl, inferInstance, ?_⟩) | ((first | with_reducible refine oAl HO ?_); clear HO; intro _ HO)); (try simp only [Act.put, pS0, pS1, pS2])) | ((first | ((with_reducible refine to_store ?_); first | refine oT1 HO rfl rfl rfl ?_ | refine oT2 HO rfl rfl rfl (by rfl) ?_ | refine oT3 HO rfl rfl rfl rfl ?_) | with_reducible refine ab_drew HO ?_); clear HO; intro _ HO) | ((with_reducible refine ab_junk HO 9 ?_); clear HO; intro _ HO HB) | ((go_big_may; first | (go_at_call 86; refine arm_node C_atom HO HF hg (by omega) ?_ ?_; rotate_left; (intro v pl e W h1 h2 h3; first | (exact bp_panic2 rfl h1 h2 h3) | ((try dsimp only); (repeat (first | go_big_open | (simp only [Exit.then, Exit.inBlock]))); exact bp_panic2 rfl h1 h2 h3)); clear HO HF; intro xN AN cN aN WN HO hl hle HF) | (go_at_call 61; refine arm_lval HO rfl rfl ?_; clear HO; intro _ b hb HO; cases b <;> (try simp only [hb, ↓reduceIte, Bool.false_eq_true, pp_pure] at HF)) | (go_at_call 28; refine arm_sgnF HO HF rfl rfl HB rfl rfl (by decide) (by decide) ?_; clear HO HF HB; intro _ b hb HO HF; cases b <;> (try simp only [↓reduceIte, Bool.false_eq_true, Bool.not_true, Bool.not_false, pp_pure] at HF)) | fail) <;> (try dsimp only)) | go_values | go_skip | go_guarded | go_step | go_upon | (go_ite <;> go_prune <;> (try go_simp))))
    all_goals (first | (refine oBc HO (t := 2) (ty := 39) rfl rfl rfl ?_; refine bp_node HO HF rfl (by first | rfl | (rw [nv0]; first | done | rfl) | exact (nv0 _ _ _ _ _ _ _).symm) (by repeat (first | exact mH | apply mT)) (by first | assumption | exact Nat.le_refl _ | decide) (by omega)) | skip)
    obtain ⟨T, hT⟩ : ∃ T, T = (tk ts aN).s := ⟨_, rfl⟩
    have hlen : 1 ≤ T.length := by rw [hT]; exact isS_len hb (by decide)
    have hsz : (1 : Int) ≤ ((strN T).size : Int) := by rw [strN_size]; omega
    have hsz2 : 1 ≤ (strN T).size := by rw [strN_size]; omega
    have hcat : ({ data := #[120] } : ByteArray) ++ (strN T).extract 0 1 = strN ([120] ++ T.take 1) := by
      rw [strN_extract' (by omega)]
      show strN [120] ++ strN _ = _
      exact strN_app _ _
    have hsz3 : ((strN T).extract 0 1).size ≤ 1 := by rw [strN_extract' (by omega), strN_size]; simp; omega
    rw [hT] at hsz hsz2 hsz3 hcat
    clear hT hlen hb
    (repeat' (first | (with_reducible first | refine oXt ?_ | refine oXb ?_) | ((with_reducible refine ib_miss ?_ ?_); exact rfl) | ((first | ((with_reducible refine to_load ?_); first | refine oL1 HO rfl rfl ?_ | refine oL2 HO rfl rfl ?_ | refine oL3 HO rfl rfl ?_) | ((with_reducible refine to_field ?_); refine oF1 rfl ?_; refine ⟨_, _, _, _, _, _, _, _, rfl, rfl, inferInstance, ?_⟩) | ((first | with_reducible refine oAl HO ?_); clear HO; intro _ HO)); (try simp only [Act.put, pS0, pS1, pS2])) | ((first | ((with_reducible refine to_store ?_); first | refine oT1 HO rfl rfl rfl ?_ | refine oT2 HO rfl rfl rfl (by rfl) ?_ | refine oT3 HO rfl rfl rfl rfl ?_) | with_reducible refine ab_drew HO ?_); clear HO; intro _ HO) | ((with_reducible refine ab_junk HO 9 ?_); clear HO; intro _ HO HB) | ((first | with_reducible refine nd1 HO ?_ ?_ | with_reducible refine nd2 HO ?_ ?_ | with_reducible refine nd3 HO ?_ ?_ | with_reducible refine nd4 HO ?_ ?_); (and_intros <;> (first | assumption | exact Nat.le_refl _)); clear HO; intro _ HO) | ((go_big_may; first | (go_at_call 29; first | (refine arm_nextF HO HF hg rfl rfl ?_; clear HO HF; intro _ hle HO HF) | (refine arm_next HO hg rfl rfl ?_; clear HO; intro _ HO)) | fail) <;> (try dsimp only)) | go_values | go_skip | go_guarded | go_step | go_upon | (go_ite <;> go_prune <;> (try go_simp))))
    all_goals (refine oBc HO (t := 2) (ty := 39) rfl rfl rfl ?_; refine bp_node HO HF rfl (by first | rfl | (rw [nv0]; first | done | rfl) | exact (nv0 _ _ _ _ _ _ _).symm) (by repeat (first | exact mH | apply mT)) (by first | assumption | exact Nat.le_refl _ | decide) (by omega))
end Go.Proofs.YtdiibenofbcfnaaGreat
