/- Several texts put together: PasE. -/
import Derived.Test.YtdiibenofbcfnaaGreatBu3
import Derived.Test.YtdiibenofbcfnaaGreatBu19
import Derived.Test.YtdiibenofbcfnaaGreatBu27
set_option linter.unusedSimpArgs false
set_option linter.unusedVariables false
namespace Go.Proofs.YtdiibenofbcfnaaGreat
open Go.RowKit
section
variable {w0 w W : World} {bs : List Bx} {rs : List Rw} {F : List Cold} {g d : Nat} {ts : List TokF}
theorem bp_ruleE {r : RuleT} {A : Option Addr} {c : Nat} {B : Option Addr} {e a0 a' d' : Nat} {R : PR RuleT} (HO : Hid (Own w0 [g] (PS g ts a' d) bs rs F W)) (HF : Hid ((pure r : PP RuleT) a' d = R)) (h1 : Cold.elsR [(r, A, c, B, e)] ∈ F) (ha : a0 ≤ a') (hd : d = d') : PPost g ts w0 a0 d' R VRule (.returned (.agg (ruleC r A c B e).toArray)) W :=
  bp_ok HO HF ha hd ⟨A, c, B, e, rfl, ElR.ok.st (fun b hb => ⟨⟨hb.1, hb.2.1⟩, rfl⟩) (HO.out.cold _ h1 _ List.mem_cons_self)⟩
end
set_option maxRecDepth 100000 in
set_option maxHeartbeats 3200000 in
theorem prule_any (p : Par) (g : Nat) (ts : List TokF) (n : Nat) (H_block : FC 43 #[.pointer (some ⟨g, 0, none⟩)] (blockF ts p) VN g ts n) (H_pattern : ∀ at' : Nat, FC 44 #[.pointer (some ⟨g, 0, none⟩), .agg #[.int .i64 0, .int .i64 (at' : Int), .slice none 0 0, .int .i64 0, .int .i64 0, .string { data := #[] }, .bool false, .int .u64 0, .int .u64 0, .int .i64 0, .slice none 0 0, .bool false]] (patternF ts p at') VRule g ts n) : FC 32 #[.pointer (some ⟨g, 0, none⟩)] (ruleF ts p) VRule g ts n := by
  intro w a d m hn
  obtain ⟨R, hR⟩ : ∃ R, (ruleF ts p) a d = R := ⟨_, rfl⟩
  rw [hR]
  have HF := Lib.hid hR
  have HO := m.ownN
  have hg := m.lt
  unfold ruleF at HF
  clear hR m
  have C_block := Lib.hid H_block
  have C_pattern := Lib.hid (H_pattern (tk ts a).at')
  unfold headF at HF
  go_enter Tryz.func32, Tryz.ntmps32
  (repeat' (first | (with_reducible first | refine oXt ?_ | refine oXb ?_) | ((with_reducible refine ib_miss ?_ ?_); exact rfl) | ((first | ((with_reducible refine to_load ?_); first | refine oL1 HO rfl rfl ?_ | refine oL2 HO rfl rfl ?_ | refine oL3 HO rfl rfl ?_) | ((with_reducible refine to_field ?_); refine oF1 rfl ?_; refine ⟨_, _, _, _, _, _, _, _, rfl, rfl, inferInstance, ?_⟩) | ((first | with_reducible refine oAl HO ?_); clear HO; intro _ HO)); (try simp only [Act.put, pS0, pS1, pS2])) | ((first | ((with_reducible refine to_store ?_); first | refine oT1 HO rfl rfl rfl ?_ | refine oT2 HO rfl rfl rfl (by rfl) ?_ | refine oT3 HO rfl rfl rfl rfl ?_) | with_reducible refine ab_drew HO ?_); clear HO; intro _ HO) | ((with_reducible refine to_store ?_); first | (refine wo_storeR HO rfl rfl rfl rfl (by repeat (first | exact mH | apply mT)) (by repeat (first | exact cH | apply cT)) Tryz.sizeOf39 (by simp [Value.oneCell']) ?_; clear HO; intro _ HO) | (refine wo_storeF HO rfl rfl rfl rfl (by repeat (first | exact mH | apply mT)) (by repeat (first | exact cH | apply cT)) Tryz.sizeOf39 (by simp [Value.oneCell']) ?_; clear HO; intro _ HO)) | ((with_reducible refine ab_junk HO 9 ?_); clear HO; intro _ HO HB) | ((go_big_may; first | (go_at_call 15; first | (refine arm_tokF HO HF rfl rfl ?_; clear HO HF; intro _ HO HF) | (refine arm_tok HO rfl rfl ?_; clear HO; intro _ HO)) | (go_at_call 30; refine arm_wrdF HO HF rfl rfl HB rfl rfl (by decide) (by decide) ?_; clear HO HF HB; intro _ b hb HO HF; cases b <;> (try simp only [↓reduceIte, Bool.false_eq_true, Bool.not_true, Bool.not_false, pp_pure] at HF)) | (go_at_call 28; refine arm_sgnF HO HF rfl rfl HB rfl rfl (by decide) (by decide) ?_; clear HO HF HB; intro _ b hb HO HF; cases b <;> (try simp only [↓reduceIte, Bool.false_eq_true, Bool.not_true, Bool.not_false, pp_pure] at HF)) | (go_at_call 29; first | (refine arm_nextF HO HF hg rfl rfl ?_; clear HO HF; intro _ hle HO HF) | (refine arm_next HO hg rfl rfl ?_; clear HO; intro _ HO)) | (go_at_call 43; refine arm_node C_block HO HF hg (by omega) ?_ ?_; rotate_left; (intro v pl e W h1 h2 h3; first | (exact bp_panic2 rfl h1 h2 h3) | ((try dsimp only); (repeat (first | go_big_open | (simp only [Exit.then, Exit.inBlock]))); exact bp_panic2 rfl h1 h2 h3)); clear HO HF; intro xN AN cN aN WN HO hl hle HF) | fail) <;> (try dsimp only)) | go_values | go_skip | go_guarded | go_step | go_upon | (go_ite <;> go_prune <;> (try go_simp))))
  · replace HF := Lib.hid (pp_ret HF.out)
    (repeat' (first | (with_reducible first | refine oXt ?_ | refine oXb ?_) | ((with_reducible refine ib_miss ?_ ?_); exact rfl) | ((first | ((with_reducible refine to_load ?_); first | refine oL1 HO rfl rfl ?_ | refine oL2 HO rfl rfl ?_ | refine oL3 HO rfl rfl ?_) | ((with_reducible refine to_field ?_); refine oF1 rfl ?_; refine ⟨_, _, _, _, _, _, _, _, rfl, rfl, inferInstance, ?_⟩) | ((first | with_reducible refine oAl HO ?_); clear HO; intro _ HO)); (try simp only [Act.put, pS0, pS1, pS2])) | ((first | ((with_reducible refine to_store ?_); first | refine oT1 HO rfl rfl rfl ?_ | refine oT2 HO rfl rfl rfl (by rfl) ?_ | refine oT3 HO rfl rfl rfl rfl ?_) | with_reducible refine ab_drew HO ?_); clear HO; intro _ HO) | ((with_reducible refine to_store ?_); first | (refine wo_storeR HO rfl rfl rfl rfl (by repeat (first | exact mH | apply mT)) (by repeat (first | exact cH | apply cT)) Tryz.sizeOf39 (by simp [Value.oneCell']) ?_; clear HO; intro _ HO) | (refine wo_storeF HO rfl rfl rfl rfl (by repeat (first | exact mH | apply mT)) (by repeat (first | exact cH | apply cT)) Tryz.sizeOf39 (by simp [Value.oneCell']) ?_; clear HO; intro _ HO)) | ((with_reducible refine ab_junk HO 9 ?_); clear HO; intro _ HO HB) | ((go_big_may; first | (go_at_call 44; refine arm_rule C_pattern HO HF hg (by omega) ?_ ?_; rotate_left; (intro v pl e W h1 h2 h3; first | (exact bp_panic2 rfl h1 h2 h3) | ((try dsimp only); (repeat (first | go_big_open | (simp only [Exit.then, Exit.inBlock]))); exact bp_panic2 rfl h1 h2 h3)); clear HO HF; intro rN AN cN BN eN aN WN hres HO hle HF) | fail) <;> (try dsimp only)) | go_values | go_skip | go_guarded | go_step | go_upon | (go_ite <;> go_prune <;> (try go_simp))))
    refine bp_cell HO (t := 2) (ty := 41) rfl rfl (by repeat (first | exact mH | apply mT)) Tryz.isAgg41 Tryz.sizeOf41 (by rfl) rfl ?_
    exact bp_ruleE HO HF List.mem_cons_self (by omega) rfl
  all_goals (refine oBc HO (t := 2) (ty := 41) rfl rfl rfl ?_; refine bp_rule (A := none) (c := 0) HO HF rfl (by repeat (first | exact mH | apply mT)) (Nat.le_refl 0) (by repeat (first | exact mH | apply mT)) (by first | assumption | exact Nat.le_refl _ | (show (List.map _ _).length ≤ _; rw [List.length_map]; exact hc9) | simpa using hc9) (by omega) rfl)
end Go.Proofs.YtdiibenofbcfnaaGreat
