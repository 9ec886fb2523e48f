/- Several texts put together: ParV. -/
import Derived.Test.YtdiibenofbcfnaaGreatBu3
import Derived.Test.YtdiibenofbcfnaaGreatBu24
import Derived.Test.YtdiibenofbcfnaaGreatBu26
import Derived.Test.YtdiibenofbcfnaaGreatBu19
set_option linter.unusedSimpArgs false
set_option linter.unusedVariables false
namespace Go.Proofs.YtdiibenofbcfnaaGreat
open Go.RowKit
set_option maxRecDepth 100000 in
set_option maxHeartbeats 3200000 in
theorem pstmt_any (p : Par) (g : Nat) (ts : List TokF) (n : Nat) (H_statement : FC 58 #[.pointer (some ⟨g, 0, none⟩)] (p.statement) VN g ts n) : FC 50 #[.pointer (some ⟨g, 0, none⟩)] (stmtF ts p) VN g ts (n + 1) := by
  intro w a d m hn
  obtain ⟨R, hR⟩ : ∃ R, (stmtF ts p) a d = R := ⟨_, rfl⟩
  rw [hR]
  have HF := Lib.hid hR
  have HO := m.ownN
  have hg := m.lt
  unfold stmtF at HF
  clear hR m
  have C_statement := Lib.hid H_statement
  go_enter Tryz.func50, Tryz.ntmps50
  (repeat' (first | (with_reducible first | refine oXt ?_ | refine oXb ?_) | ((with_reducible refine ib_miss ?_ ?_); exact rfl) | ((first | ((with_reducible refine to_load ?_); first | refine oL1 HO rfl rfl ?_ | refine oL2 HO rfl rfl ?_ | refine oL3 HO rfl rfl ?_) | ((first | with_reducible refine oAl HO ?_); clear HO; intro _ HO)); (try simp only [Act.put, pS0, pS1, pS2])) | ((first | ((with_reducible refine to_store ?_); first | refine oT1 HO rfl rfl rfl ?_ | refine oT2 HO rfl rfl rfl (by rfl) ?_ | refine oT3 HO rfl rfl rfl rfl ?_) | with_reducible refine ab_drew HO ?_); clear HO; intro _ HO) | ((go_big_may; first | (go_at_call 57; refine arm_enter HO HF hg rfl rfl ?_ ?_; rotate_left; (intro v pl e W h1 h2 h3; first | (exact bp_panic2 rfl h1 h2 h3) | ((try dsimp only); (repeat (first | go_big_open | (simp only [Exit.then, Exit.inBlock]))); exact bp_panic2 rfl h1 h2 h3)); clear HO HF; intro _ hd64 HO HF) | (go_at_call 58; refine arm_node C_statement HO HF hg (by omega) ?_ ?_; rotate_left; (intro v pl e W h1 h2 h3; first | (exact bp_panic2 rfl h1 h2 h3) | ((try dsimp only); (repeat (first | go_big_open | (simp only [Exit.then, Exit.inBlock]))); exact bp_panic2 rfl h1 h2 h3)); clear HO HF; intro xN AN cN aN WN HO hl hle HF) | (go_at_call 59; refine arm_leave HO HF hg rfl rfl ?_; clear HO HF; intro _ HO HF) | fail) <;> (try dsimp only)) | go_values | go_skip | go_guarded | go_step | go_upon | (go_ite <;> go_prune <;> (try go_simp))))
  all_goals (refine oBc HO (t := 2) (ty := 39) rfl rfl rfl ?_; refine bp_node HO HF rfl (by first | rfl | (rw [nv0]; first | done | rfl) | exact (nv0 _ _ _ _ _ _ _).symm) (by repeat (first | exact mH | apply mT)) (by first | assumption | exact Nat.le_refl _ | decide) (by omega))
set_option maxRecDepth 100000 in
set_option maxHeartbeats 3200000 in
theorem pasked_any (p : Par) (g : Nat) (ts : List TokF) (n : Nat) (H_expr : FC 51 #[.pointer (some ⟨g, 0, none⟩)] (exprF ts p) VN g ts n) : FC 63 #[.pointer (some ⟨g, 0, none⟩)] (askedF ts p) VN g ts n := by
  intro w a d m hn
  obtain ⟨R, hR⟩ : ∃ R, (askedF ts p) a d = R := ⟨_, rfl⟩
  rw [hR]
  have HF := Lib.hid hR
  have HO := m.ownN
  have hg := m.lt
  unfold askedF at HF
  clear hR m
  have C_expr := Lib.hid H_expr
  go_enter Tryz.func63, Tryz.ntmps63
  (repeat' (first | (with_reducible first | refine oXt ?_ | refine oXb ?_) | ((with_reducible refine ib_miss ?_ ?_); exact rfl) | ((first | ((with_reducible refine to_load ?_); first | refine oL1 HO rfl rfl ?_ | refine oL2 HO rfl rfl ?_ | refine oL3 HO rfl rfl ?_) | ((first | with_reducible refine oAl HO ?_); clear HO; intro _ HO)); (try simp only [Act.put, pS0, pS1, pS2])) | ((first | ((with_reducible refine to_store ?_); first | refine oT1 HO rfl rfl rfl ?_ | refine oT2 HO rfl rfl rfl (by rfl) ?_ | refine oT3 HO rfl rfl rfl rfl ?_) | with_reducible refine ab_drew HO ?_); clear HO; intro _ HO) | ((go_big_may; first | (go_at_call 40; refine arm_take HO HF hg rfl rfl rfl (by decide) ?_ ?_; rotate_left; (intro v pl e W h1 h2 h3; first | (exact bp_panic2 rfl h1 h2 h3) | ((try dsimp only); (repeat (first | go_big_open | (simp only [Exit.then, Exit.inBlock]))); exact bp_panic2 rfl h1 h2 h3)); clear HO HF; intro _ _ HO hle HF) | (go_at_call 51; refine arm_node C_expr HO HF hg (by omega) ?_ ?_; rotate_left; (intro v pl e W h1 h2 h3; first | (exact bp_panic2 rfl h1 h2 h3) | ((try dsimp only); (repeat (first | go_big_open | (simp only [Exit.then, Exit.inBlock]))); exact bp_panic2 rfl h1 h2 h3)); clear HO HF; intro xN AN cN aN WN HO hl hle HF) | fail) <;> (try dsimp only)) | go_values | go_skip | go_guarded | go_step | go_upon | (go_ite <;> go_prune <;> (try go_simp))))
  all_goals (refine oBc HO (t := 2) (ty := 39) rfl rfl rfl ?_; refine bp_node HO HF rfl (by first | rfl | (rw [nv0]; first | done | rfl) | exact (nv0 _ _ _ _ _ _ _).symm) (by repeat (first | exact mH | apply mT)) (by first | assumption | exact Nat.le_refl _ | decide) (by omega))
set_option maxRecDepth 100000 in
set_option maxHeartbeats 3200000 in
theorem pbelow_any (p : Par) (g : Nat) (ts : List TokF) (n : Nat) (H_stmt : FC 50 #[.pointer (some ⟨g, 0, none⟩)] (stmtF ts p) VN g ts n) : FC 64 #[.pointer (some ⟨g, 0, none⟩)] (belowF ts p) VN g ts n := by
  intro w a d m hn
  obtain ⟨R, hR⟩ : ∃ R, (belowF ts p) a d = R := ⟨_, rfl⟩
  rw [hR]
  have HF := Lib.hid (pp_ret hR)
  have HO := m.ownN
  have hg := m.lt
  unfold belowF at HF
  simp only [pp_assoc] at HF
  clear hR m
  have C_stmt := Lib.hid H_stmt
  go_enter Tryz.func64, Tryz.ntmps64
  (repeat' (first | (with_reducible first | refine oXt ?_ | refine oXb ?_) | ((with_reducible refine ib_miss ?_ ?_); exact rfl) | ((first | ((first | with_reducible refine oAl HO ?_); clear HO; intro _ HO)); (try simp only [Act.put, pS0, pS1, pS2])) | ((first | ((with_reducible refine to_store ?_); first | refine oT1 HO rfl rfl rfl ?_ | refine oT2 HO rfl rfl rfl (by rfl) ?_ | refine oT3 HO rfl rfl rfl rfl ?_) | with_reducible refine ab_drew HO ?_); clear HO; intro _ HO) | ((go_big_may; first | (go_at_call 42; refine arm_unit (n := 65) (Lib.hid (plines_any _ _ _)) HO HF hg (by omega) ?_ ?_; rotate_left; (intro v pl e W h1 h2 h3; first | (exact bp_panic2 rfl h1 h2 h3) | ((try dsimp only); (repeat (first | go_big_open | (simp only [Exit.then, Exit.inBlock]))); exact bp_panic2 rfl h1 h2 h3)); clear HO HF; intro _ _ HO hle HF) | (go_at_call 50; refine arm_node C_stmt HO HF hg (by omega) ?_ ?_; rotate_left; (intro v pl e W h1 h2 h3; first | (exact bp_panic2 rfl h1 h2 h3) | ((try dsimp only); (repeat (first | go_big_open | (simp only [Exit.then, Exit.inBlock]))); exact bp_panic2 rfl h1 h2 h3)); clear HO HF; intro xN AN cN aN WN HO hl hle HF) | fail) <;> (try dsimp only)) | go_values | go_skip | go_guarded | go_step | go_upon | (go_ite <;> go_prune <;> (try go_simp))))
  all_goals (refine oBc HO (t := 2) (ty := 39) rfl rfl rfl ?_; refine bp_node HO HF rfl (by first | rfl | (rw [nv0]; first | done | rfl) | exact (nv0 _ _ _ _ _ _ _).symm) (by repeat (first | exact mH | apply mT)) (by first | assumption | exact Nat.le_refl _ | decide) (by omega))
set_option maxRecDepth 100000 in
set_option maxHeartbeats 3200000 in
theorem pperhaps_any (p : Par) (g : Nat) (ts : List TokF) (n : Nat) (H_simple : FC 67 #[.pointer (some ⟨g, 0, none⟩)] (simpleF ts p) VN g ts n) : FC 70 #[.pointer (some ⟨g, 0, none⟩)] (perhapsF ts p) VN g ts n := by
  intro w a d m hn
  obtain ⟨R, hR⟩ : ∃ R, (perhapsF ts p) a d = R := ⟨_, rfl⟩
  rw [hR]
  have HF := Lib.hid hR
  have HO := m.ownN
  have hg := m.lt
  unfold perhapsF at HF
  clear hR m
  have C_simple := Lib.hid H_simple
  go_enter Tryz.func70, Tryz.ntmps70
  (repeat' (first | (with_reducible first | refine oXt ?_ | refine oXb ?_) | ((with_reducible refine ib_miss ?_ ?_); exact rfl) | ((first | ((first | with_reducible refine oAl HO ?_); clear HO; intro _ HO)); (try simp only [Act.put, pS0, pS1, pS2])) | ((first | ((with_reducible refine to_store ?_); first | refine oT1 HO rfl rfl rfl ?_ | refine oT2 HO rfl rfl rfl (by rfl) ?_ | refine oT3 HO rfl rfl rfl rfl ?_) | with_reducible refine ab_drew HO ?_); clear HO; intro _ HO) | ((with_reducible refine ab_junk HO 9 ?_); clear HO; intro _ HO HB) | ((go_big_may; first | (go_at_call 28; refine arm_sgnF HO HF rfl rfl HB rfl rfl (by decide) (by decide) ?_; clear HO HF HB; intro _ b hb HO HF; cases b <;> (try simp only [↓reduceIte, Bool.false_eq_true, Bool.not_true, Bool.not_false, pp_pure] at HF)) | fail) <;> (try dsimp only)) | go_values | go_skip | go_guarded | go_step | go_upon | (go_ite <;> go_prune <;> (try go_simp))))
  · replace HF := Lib.hid (pp_ret HF.out)
    (repeat' (first | (with_reducible first | refine oXt ?_ | refine oXb ?_) | ((with_reducible refine ib_miss ?_ ?_); exact rfl) | ((first | ((first | with_reducible refine oAl HO ?_); clear HO; intro _ HO)); (try simp only [Act.put, pS0, pS1, pS2])) | ((first | ((with_reducible refine to_store ?_); first | refine oT1 HO rfl rfl rfl ?_ | refine oT2 HO rfl rfl rfl (by rfl) ?_ | refine oT3 HO rfl rfl rfl rfl ?_) | with_reducible refine ab_drew HO ?_); clear HO; intro _ HO) | ((with_reducible refine ab_junk HO 9 ?_); clear HO; intro _ HO HB) | ((go_big_may; first | (go_at_call 67; refine arm_node C_simple HO HF hg (by omega) ?_ ?_; rotate_left; (intro v pl e W h1 h2 h3; first | (exact bp_panic2 rfl h1 h2 h3) | ((try dsimp only); (repeat (first | go_big_open | (simp only [Exit.then, Exit.inBlock]))); exact bp_panic2 rfl h1 h2 h3)); clear HO HF; intro xN AN cN aN WN HO hl hle HF) | fail) <;> (try dsimp only)) | go_values | go_skip | go_guarded | go_step | go_upon | (go_ite <;> go_prune <;> (try go_simp))))
    all_goals (refine oBc HO (t := 2) (ty := 39) rfl rfl rfl ?_; refine bp_node HO HF rfl (by first | rfl | (rw [nv0]; first | done | rfl) | exact (nv0 _ _ _ _ _ _ _).symm) (by repeat (first | exact mH | apply mT)) (by first | assumption | exact Nat.le_refl _ | decide) (by omega))
  · all_goals (refine oBc HO (t := 2) (ty := 39) rfl rfl rfl ?_; refine bp_node HO HF rfl (by first | rfl | (rw [nv0]; first | done | rfl) | exact (nv0 _ _ _ _ _ _ _).symm) (by repeat (first | exact mH | apply mT)) (by first | assumption | exact Nat.le_refl _ | decide) (by omega))
set_option maxRecDepth 100000 in
set_option maxHeartbeats 3200000 in
theorem pblock_any (p : Par) (HA : PAdv p) (g : Nat) (ts : List TokF) (n : Nat) (H_stmt : FC 50 #[.pointer (some ⟨g, 0, none⟩)] (stmtF ts p) VN g ts n) : FC 43 #[.pointer (some ⟨g, 0, none⟩)] (blockF ts p) VN g ts n := by
  intro w a d m hn
  obtain ⟨R, hR⟩ : ∃ R, (blockF ts p) a d = R := ⟨_, rfl⟩
  rw [hR]
  have HF := Lib.hid hR
  have HO := m.ownN
  have hg := m.lt
  unfold blockF at HF
  clear hR m
  have hts := HO.out.st.ok.len
  have C_stmt := Lib.hid H_stmt
  go_enter Tryz.func43, Tryz.ntmps43
  (repeat' (first | (with_reducible first | refine oXt ?_ | refine oXb ?_) | ((with_reducible refine ib_miss ?_ ?_); exact rfl) | ((first | ((with_reducible refine to_load ?_); first | refine oL1 HO rfl rfl ?_ | refine oL2 HO rfl rfl ?_ | refine oL3 HO rfl rfl ?_) | ((with_reducible refine to_field ?_); refine oF1 rfl ?_; refine ⟨_, _, _, _, _, _, _, _, rfl, rfl, inferInstance, ?_⟩) | ((first | with_reducible refine oAl HO ?_); clear HO; intro _ HO)); (try simp only [Act.put, pS0, pS1, pS2])) | ((first | ((with_reducible refine to_store ?_); first | refine oT1 HO rfl rfl rfl ?_ | refine oT2 HO rfl rfl rfl (by rfl) ?_ | refine oT3 HO rfl rfl rfl rfl ?_) | with_reducible refine ab_drew HO ?_); clear HO; intro _ HO) | ((with_reducible refine ab_junk HO 9 ?_); clear HO; intro _ HO HB) | ((go_big_may; first | (go_at_call 15; first | (refine arm_tokF HO HF rfl rfl ?_; clear HO HF; intro _ HO HF) | (refine arm_tok HO rfl rfl ?_; clear HO; intro _ HO)) | (go_at_call 40; refine arm_take HO HF hg rfl rfl rfl (by decide) ?_ ?_; rotate_left; (intro v pl e W h1 h2 h3; first | (exact bp_panic2 rfl h1 h2 h3) | ((try dsimp only); (repeat (first | go_big_open | (simp only [Exit.then, Exit.inBlock]))); exact bp_panic2 rfl h1 h2 h3)); clear HO HF; intro _ _ HO hle HF) | (go_at_call 14; refine arm_unit (n := 65) (Lib.hid (pends_any _ _ _)) HO HF hg (by omega) ?_ ?_; rotate_left; (intro v pl e W h1 h2 h3; first | (exact bp_panic2 rfl h1 h2 h3) | ((try dsimp only); (repeat (first | go_big_open | (simp only [Exit.then, Exit.inBlock]))); exact bp_panic2 rfl h1 h2 h3)); clear HO HF; intro _ _ HO hle HF) | fail) <;> (try dsimp only)) | go_values | go_skip | go_guarded | go_step | go_upon | (go_ite <;> go_prune <;> (try go_simp))))
  rename_i W1 W2 W3 W4 a1 W5 a2 W6 K0 hK0
  obtain ⟨b3, hb3⟩ : ∃ b, b = W1.heap.size := ⟨_, rfl⟩
  rw [← hb3] at HO ⊢
  clear hb3
  go_loopw [] (fun W => ∃ (els : List El) (A : Option Addr) (c f q : Nat), els.length ≤ c ∧ els.length ≤ q ∧ a ≤ q ∧ ts.length ≤ f + q ∧ Hid ((iter (fun a => !isS ts a [[125]]) (blockS ts p) f (els.map (·.1)) >>= fun l => nextP ts >>= fun _ => pure (NodeT.mk 41 (tk ts a).at' [] 0 0 l)) q d = R) ∧ Hid (Own w [g] (PS g ts q d) [⟨b3, 39, [.int .i64 41, .int .i64 ((tk ts a).at' : Int), .string { data := #[] }, .bool false, .int .u64 0, .int .u64 0, .int .i64 0, .slice A els.length c]⟩, ⟨w.heap.size, 39, [.int .i64 0, .int .i64 0, .string { data := #[] }, .bool false, .int .u64 0, .int .u64 0, .int .i64 0, .slice none 0 0]⟩] [⟨39, 8, .slice A els.length c, els.length, flatE els⟩] [Cold.els els, Cold.kids none []] W)) (fun W => ts.length - (intOf ((W.cell? ⟨g, 1, none⟩).getD undef)).toNat)
  case atStart => exact ⟨[], none, 0, ts.length, a2, Nat.le_refl _, Nat.zero_le _, by omega, by omega, HF, Lib.hid ((HO.out.nilRow 39 8).elsNil)⟩
  case round =>
    clear HO HF
    obtain ⟨els, A, c, f, q, hl, hlq, hab, hf, HF, HO⟩ := hrel
    have hq := HO.out.st.ha
    obtain ⟨f, rfl⟩ : ∃ f', f = f' + 1 := ⟨f - 1, by omega⟩
    have HS := Lib.hid HO.out.st
    rw [iter_stepB] at HF
    (repeat' (first | (with_reducible first | refine oXt ?_ | refine oXb ?_) | ((with_reducible refine ib_miss ?_ ?_); exact rfl) | ((first | ((with_reducible refine to_load ?_); first | refine oL1 HO rfl rfl ?_ | refine oL2 HO rfl rfl ?_ | refine oL3 HO rfl rfl ?_) | ((with_reducible refine to_field ?_); refine oF1 rfl ?_; refine ⟨_, _, _, _, _, _, _, _, rfl, rfl, inferInstance, ?_⟩) | ((first | with_reducible refine oAl HO ?_); clear HO; intro _ HO)); (try simp only [Act.put, pS0, pS1, pS2])) | ((first | ((with_reducible refine to_store ?_); first | refine oT1 HO rfl rfl rfl ?_ | refine oT2 HO rfl rfl rfl (by rfl) ?_ | refine oT3 HO rfl rfl rfl rfl ?_) | with_reducible refine ab_drew HO ?_); clear HO; intro _ HO) | ((with_reducible refine ab_junk HO 9 ?_); clear HO; intro _ HO HB) | ((go_big_may; first | (go_at_call 28; refine arm_sgn HO rfl rfl HB (ss := [[125]]) rfl rfl (by decide) (by decide) ?_; clear HO HB; intro _ b hb HO; cases b) | fail) <;> (try dsimp only)) | go_values | go_skip | go_guarded | go_step | go_upon | (go_ite <;> go_prune <;> (try go_simp))))
    · simp only [hb, Bool.not_false, if_true] at HF
      unfold blockS at HF
      simp only [pp_assoc, pp_pureF] at HF
      refine eBe HO [7] [0, 2, 1, 3, 4, 5, 6] [7] ?_
      clear HO
      intro _ HO
      (repeat' (first | ((with_reducible refine eGo ?_); first | refine eCa rfl rfl (by kernel_rfl) (by rfl) (fun K hK => ?_) | refine eSl rfl rfl (by kernel_rfl) (by rfl) (fun K hK => ?_) | ((first | refine eL1 HO rfl rfl rfl (by kernel_rfl) (fun _ _ _ h => h) (by rfl) ?_ | refine eL2 HO rfl rfl rfl (by kernel_rfl) (fun _ _ _ h => h) (by rfl) ?_ | refine ePu HO rfl (by kernel_rfl) (fun _ _ _ h => h) (by rfl) (eFi rfl rfl ⟨_, _, _, _, _, _, _, rfl, rfl, inferInstance⟩) ?_ | refine ePu HO rfl (by kernel_rfl) (fun _ _ _ h => h) (by rfl) (by intro _; go_simp; (try with_reducible rfl)) ?_); (try simp only [Act.put, pS0, pS1, pS2])) | refine eA1 rfl (by kernel_rfl) (by rfl) (fun K hK => ?_) | refine eA2 rfl (by kernel_rfl) (by rfl) (fun K hK => ?_) | refine eEe (by kernel_rfl) ?_) | ((with_reducible refine eHo ?_); first | (refine eA4 rfl (by kernel_rfl) (fun _ _ _ h => h) (by rfl) (by intro _; go_simp; (try with_reducible rfl)) ?_; (try simp only [Act.put, pS0, pS1, pS2])) | refine eA3 rfl (by kernel_rfl) (by rfl) (fun K hK => ?_) | refine eDo (by kernel_rfl) ?_) | ((with_reducible show K _ _); (first | with_reducible refine hK.out _ _ (OwnB.of HO) ?_ | with_reducible refine hK.out _ _ ?_); clear hK K; (try simp only [Act.put, pS0, pS1, pS2])) | ((with_reducible refine to_store ?_); (first | refine oT1 HO rfl rfl rfl ?_ | refine oT2 HO rfl rfl rfl (by rfl) ?_ | refine oT3 HO rfl rfl rfl rfl ?_); clear HO; intro _ HO) | ((with_reducible refine to_append ?_); refine wo_appN HO (by repeat (first | exact mH | apply mT)) rfl rfl rfl (by repeat (first | exact mH | apply mT)) (by first | omega | simp) ?_; clear HO; intro eN _ _ _ hmap hlen hcap HO; replace hlen := Lib.hid hlen; (try simp only [Act.put, pS0, pS1, pS2])) | ((first | with_reducible refine nd1 HO ?_ ?_ | with_reducible refine nd2 HO ?_ ?_ | with_reducible refine nd3 HO ?_ ?_ | with_reducible refine nd4 HO ?_ ?_); (and_intros <;> (first | assumption | exact Nat.le_refl _)); clear HO; intro _ HO) | ((with_reducible refine ab_junk HO 9 ?_); clear HO; intro _ HO HB) | ((first | (go_at_call 50; refine arm_nodeA (FC.at_ C_stmt) HO HF hg (by omega) ?_ ?_; rotate_left; (intro v pl e W h1 h2 h3; first | (exact bp_panic2 rfl h1 h2 h3) | ((try dsimp only); (repeat (first | go_big_open | (simp only [Exit.then, Exit.inBlock]))); exact bp_panic2 rfl h1 h2 h3)); clear HO HF; intro xN AN cN aN WN hres HO hl hle HF)) <;> (try dsimp only)) | ((with_reducible refine eOp ?_); go_simp)))
      have hadv := adv_stmt HA _ _ _ _ _ hres
      rw [← hmap] at HF
      (repeat' (first | (with_reducible first | refine oXt ?_ | refine oXb ?_) | ((with_reducible refine ib_miss ?_ ?_); exact rfl) | ((first | ((with_reducible refine to_load ?_); first | refine oL1 HO rfl rfl ?_ | refine oL2 HO rfl rfl ?_ | refine oL3 HO rfl rfl ?_) | ((with_reducible refine to_field ?_); refine oF1 rfl ?_; refine ⟨_, _, _, _, _, _, _, _, rfl, rfl, inferInstance, ?_⟩) | ((first | with_reducible refine oAl HO ?_); clear HO; intro _ HO)); (try simp only [Act.put, pS0, pS1, pS2])) | ((first | ((with_reducible refine to_store ?_); first | refine oT1 HO rfl rfl rfl ?_ | refine oT2 HO rfl rfl rfl (by rfl) ?_ | refine oT3 HO rfl rfl rfl rfl ?_) | with_reducible refine ab_drew HO ?_); clear HO; intro _ HO) | ((with_reducible refine ab_junk HO 9 ?_); clear HO; intro _ HO HB) | go_values | go_skip | go_guarded | go_step | go_upon | (go_ite <;> go_prune <;> (try go_simp))))
      have hlen2 := hlen.out
      go_roundw
      case rel => exact ⟨_, _, _, f, _, hcap, by omega, by omega, by omega, HF, Lib.hid (HO.out.sub (List.Sublist.refl _) (List.Sublist.refl _) (fun c hc => mem2 hc (by repeat (first | exact mH | apply mT)) (by repeat (first | exact mH | apply mT))))⟩
      case measure => exact pmeas HS.out HO.out.st (by omega)
    · simp only [hb, Bool.not_true, Bool.false_eq_true, if_false] at HF
      (repeat' (first | (with_reducible first | refine oXt ?_ | refine oXb ?_) | ((with_reducible refine ib_miss ?_ ?_); exact rfl) | ((first | ((with_reducible refine to_load ?_); first | refine oL1 HO rfl rfl ?_ | refine oL2 HO rfl rfl ?_ | refine oL3 HO rfl rfl ?_) | ((with_reducible refine to_field ?_); refine oF1 rfl ?_; refine ⟨_, _, _, _, _, _, _, _, rfl, rfl, inferInstance, ?_⟩) | ((first | with_reducible refine oAl HO ?_); clear HO; intro _ HO)); (try simp only [Act.put, pS0, pS1, pS2])) | ((first | ((with_reducible refine to_store ?_); first | refine oT1 HO rfl rfl rfl ?_ | refine oT2 HO rfl rfl rfl (by rfl) ?_ | refine oT3 HO rfl rfl rfl rfl ?_) | with_reducible refine ab_drew HO ?_); clear HO; intro _ HO) | ((with_reducible refine ab_junk HO 9 ?_); clear HO; intro _ HO HB) | ((go_big_may; first | (go_at_call 29; first | (refine arm_nextF HO HF hg rfl rfl ?_; clear HO HF; intro _ hle HO HF) | (refine arm_next HO hg rfl rfl ?_; clear HO; intro _ HO)) | fail) <;> (try dsimp only)) | go_values | go_skip | go_guarded | go_step | go_upon | (go_ite <;> go_prune <;> (try go_simp))))
      (refine oBc HO (t := 2) (ty := 39) rfl rfl rfl ?_; obtain ⟨A9, c9, e9, hc9, HO9⟩ := HO.out.freeze (by repeat (first | exact mH | apply mT)); injection e9 with e91 _ e92; subst e91 e92; refine bp_node (Lib.hid HO9) HF rfl (by (first | rw [nv0, List.length_map] | rw [nv0, hmap'] | rw [nv0]); first | done | rfl) List.mem_cons_self (by first | (show (List.map _ _).length ≤ _; rw [List.length_map]; exact hc9) | simpa using hc9) (by omega))
end Go.Proofs.YtdiibenofbcfnaaGreat
