/- Several texts put together: ParX. -/
import Derived.Test.YtdiibenofbcfnaaGreatBu3
import Derived.Test.YtdiibenofbcfnaaGreatBu27
set_option linter.unusedSimpArgs false
set_option linter.unusedVariables false
namespace Go.Proofs.YtdiibenofbcfnaaGreat
open Go.RowKit
theorem len_iter {ts : List TokF} {p : Par} (h : PAdv p) (f : Nat) : ∀ (l : List NodeT) (a d : Nat) (l' : List NodeT) (a' d' : Nat), iter (fun a => isS ts a [[44]]) (listS ts p) f l a d = .ok l' a' d' → l.length ≤ a → l'.length ≤ a' := by
  induction f with
  | zero =>
    intro l a d l' a' d' e hl
    have e' : PR.ok l a d = .ok l' a' d' := e
    injection e' with e1 e2 _
    subst e1 e2
    exact hl
  | succ f ih =>
    intro l a d l' a' d' e hl
    rw [iter_step] at e
    split at e
    · obtain ⟨x, a1, d1, h1, h2⟩ := bind_inv e
      refine ih x a1 d1 l' a' d' h2 ?_
      unfold listS at h1
      obtain ⟨_, a2, d2, g1, g2⟩ := bind_inv h1
      obtain ⟨_, a3, d3, g3, g4⟩ := bind_inv g2
      obtain ⟨y, a4, d4, g5, g6⟩ := bind_inv g4
      have e' : PR.ok (l ++ [y]) a4 d4 = .ok x a1 d1 := g6
      injection e' with e1 e2 _
      subst e1 e2
      have k1 := Mon.next _ _ _ _ _ g1
      have k2 := Mon.lines _ _ _ _ _ g3
      have k3 := adv_expr h _ _ _ _ _ g5
      rw [List.length_append, List.length_singleton]
      omega
    · have e' : PR.ok l a d = .ok l' a' d' := e
      injection e' with e1 e2 _
      subst e1 e2
      exact hl
theorem len_list {ts : List TokF} {p : Par} (h : PAdv p) {a d : Nat} {l : List NodeT} {a' d' : Nat} (e : listF ts p a d = .ok l a' d') : l.length ≤ a' := by
  unfold listF at e
  obtain ⟨x, a1, d1, h1, h2⟩ := bind_inv e
  have := adv_expr h _ _ _ _ _ h1
  exact len_iter h _ _ _ _ _ _ _ h2 (by simp; omega)
section
variable {α β : Type} {K : FuncId} {args : Array Value} {g : Nat} {ts : List TokF} {n a d : Nat} {R : PR β} {w0 w W : World} {bs : List Bx} {rs : List Rw} {F : List Cold} {T : Ending → World → Prop}
theorem arm_listA {f : PP (List NodeT)} {k : List NodeT → PP β} (HC : Hid (FC K args f VL g ts n)) (HL : Hid (∀ a d l a' d', f a d = .ok l a' d' → l.length ≤ a')) (HO : Hid (Own w0 [g] (PS g ts a d) bs rs F w)) (HF : Hid ((f >>= k) a d = R)) (hg : g < w0.heap.size) (hn : 65 ≤ d + n)
    (hok : ∀ (els : List El) A c a' W, Hid (Own w0 [g] (PS g ts a' d) bs (⟨39, 8, .slice A els.length c, els.length, flatE els⟩ :: rs) (Cold.els els :: F) W) → els.length ≤ c → els.length ≤ 1000000 → a ≤ a' → Hid (k (els.map (·.1)) a' d = R) → T (.returned (.slice A els.length c)) W)
    (herr : ∀ v pl e W, Hid (FailV W w0.heap.size v pl e) → Hid (Kept [g] w0 W) → Hid (R = .err pl e) → T (.panicked [{ v := v, recovered := false }]) W) : Calls Tryz.prog K args w T := by
  refine arm_fcA (FC.at_ HC) HO HF hg hn (fun v x a' W hv hk HO' ha hr HF' => ?_) herr
  obtain ⟨els, rfl, hrow, hcold⟩ := hv
  have hb := HL.out _ _ _ _ _ hr
  rw [List.length_map] at hb
  have hb2 : els.length ≤ 1000000 := by
    have h1 := HO'.out.st.ha
    have h2 := HO'.out.st.ok.len
    omega
  have h2 := HO.out.callRow HO'.out hk.size (fun b h1 h2 => hk.block b h2 (by simp; omega)) ⟨39, 8, v, els.length, flatE els⟩ hrow (Cold.els els) hcold
  have hv2 := hrow.2
  rcases hv2 with ⟨rfl, h0⟩ | ⟨gg, cap, cur, rfl, _, _, hn2, _⟩
  · have h0' : els.length = 0 := h0
    have := hok els none 0 a' W (by rw [h0'] at h2 ⊢; exact Lib.hid h2) (by omega) hb2 ha HF'
    rw [h0'] at this
    exact this
  · exact hok els _ _ a' W (Lib.hid h2) hn2 hb2 ha HF'
end
set_option maxRecDepth 100000 in
set_option maxHeartbeats 3200000 in
theorem pprint_any (p : Par) (HA : PAdv p) (g : Nat) (ts : List TokF) (n : Nat) (H_list : FC 74 #[.pointer (some ⟨g, 0, none⟩)] (listF ts p) VL g ts n) (H_sum : FC 75 #[.pointer (some ⟨g, 0, none⟩)] (sumF ts p) VN g ts n) : FC 71 #[.pointer (some ⟨g, 0, none⟩)] (printF ts p) VN g ts n := by
  intro w a d m hn
  obtain ⟨R, hR⟩ : ∃ R, (printF ts p) a d = R := ⟨_, rfl⟩
  rw [hR]
  have HF := Lib.hid hR
  have HO := m.ownN
  have hg := m.lt
  unfold printF at HF
  clear hR m
  have hts := HO.out.st.ok.len
  have C_list := Lib.hid H_list
  have L_list : Hid (∀ a d l a' d', listF ts p a d = .ok l a' d' → l.length ≤ a') := Lib.hid fun a d l a' d' e => len_list HA e
  have C_sum := Lib.hid H_sum
  have hby : ∀ x ∈ (tk ts a).s, x < 256 := by rw [tk_eq HO.out.st.ha]; exact HO.out.st.ok.byte _ (List.getElem_mem HO.out.st.ha)
  have h8 := list8 hby [112, 114, 105, 110, 116, 102] (by decide)
  simp only [List.map_cons, List.map_nil] at h8
  have h8' : ((strN (tk ts a).s).toList == [112, 114, 105, 110, 116, 102]) = decide ((tk ts a).s = [112, 114, 105, 110, 116, 102]) := by rw [Bool.eq_iff_iff, beq_iff_eq, decide_eq_true_eq]; exact h8
  clear h8 hby
  cases hs : decide ((tk ts a).s = [112, 114, 105, 110, 116, 102])
  · rw [hs] at h8'
    have hs' : ¬ (tk ts a).s = [112, 114, 105, 110, 116, 102] := by simpa using hs
    go_enter Tryz.func71, Tryz.ntmps71
    (repeat' (first | (with_reducible first | refine oXt ?_ | refine oXb ?_) | ((with_reducible refine ib_miss ?_ ?_); exact rfl) | ((first | ((with_reducible refine to_load ?_); first | refine oL1 HO rfl rfl ?_ | refine oL2 HO rfl rfl ?_ | refine oL3 HO rfl rfl ?_) | ((first | with_reducible refine oAl HO ?_); clear HO; intro _ HO)); (try simp only [Act.put, pS0, pS1, pS2])) | ((first | ((with_reducible refine to_store ?_); first | refine oT1 HO rfl rfl rfl ?_ | refine oT2 HO rfl rfl rfl (by rfl) ?_ | refine oT3 HO rfl rfl rfl rfl ?_) | with_reducible refine ab_drew HO ?_); clear HO; intro _ HO) | ((with_reducible refine ab_junk HO 9 ?_); clear HO; intro _ HO HB) | (simp only [hs', ↓reduceIte, pp_pureF, pp_assoc, pp_ite, Bool.not_true, Bool.not_false, Bool.false_eq_true] at HF) | ((go_big_may; first | (go_at_call 29; first | (refine arm_nextF HO HF hg rfl rfl ?_; clear HO HF; intro _ hle HO HF) | (refine arm_next HO hg rfl rfl ?_; clear HO; intro _ HO)) | (go_at_call 45; first | (refine arm_askF HO HF (fun w m => pover_any w m) rfl rfl ?_; clear HO HF; intro _ b hb HO HF; cases b <;> (try simp only [↓reduceIte, Bool.false_eq_true, Bool.not_true, Bool.not_false, pp_pure] at HF)) | (refine arm_ask HO (fun w m => pover_any w m) rfl rfl ?_; clear HO; intro _ b hb HO; cases b)) | (go_at_call 28; refine arm_sgnF HO HF rfl rfl HB rfl rfl (by decide) (by decide) ?_; clear HO HF HB; intro _ b hb HO HF; cases b <;> (try simp only [↓reduceIte, Bool.false_eq_true, Bool.not_true, Bool.not_false, pp_pure] at HF)) | (go_at_call 74; refine arm_listA C_list L_list HO HF hg (by omega) ?_ ?_; rotate_left; (intro v pl e W h1 h2 h3; first | (exact bp_panic2 rfl h1 h2 h3) | ((try dsimp only); (repeat (first | go_big_open | (simp only [Exit.then, Exit.inBlock]))); exact bp_panic2 rfl h1 h2 h3)); clear HO HF; intro _ _ _ _ _ HO hl hl2 hle HF) | fail) <;> (try dsimp only)) | go_values | go_skip | go_guarded | go_step | go_upon | (go_ite <;> go_prune <;> (try go_simp))))
    all_goals (try exact absurd (‹isS ts (nx ts a) [[124, 38]] = true›.symm.trans hb) (by decide))
    all_goals (first | (refine oBc HO (t := 2) (ty := 39) rfl rfl rfl ?_; refine bp_node HO HF rfl (by first | rfl | (rw [nv0]; first | done | rfl) | exact (nv0 _ _ _ _ _ _ _).symm) (by repeat (first | exact mH | apply mT)) (by first | assumption | exact Nat.le_refl _ | decide) (by omega)) | skip)
    all_goals (try (refine oBc HO (t := 2) (ty := 39) rfl rfl rfl ?_; obtain ⟨A9, c9, e9, hc9, HO9⟩ := HO.out.freeze (by repeat (first | exact mH | apply mT)); injection e9 with e91 _ e92; subst e91 e92; refine bp_node (Lib.hid HO9) HF rfl (by (first | rw [nv0, List.length_map] | rw [nv0, hmap'] | rw [nv0]); first | done | rfl) List.mem_cons_self (by first | (show (List.map _ _).length ≤ _; rw [List.length_map]; exact hc9) | simpa using hc9) (by omega)))
    · skip
      refine eBe HO [7, 8, 9] [0, 2, 1, 6, 3, 4, 5] [7, 8, 9] ?_
      clear HO
      intro _ HO
      (repeat' (first | ((with_reducible refine eGo ?_); first | refine eCa rfl rfl (by kernel_rfl) (by rfl) (fun K hK => ?_) | refine eSl rfl rfl (by kernel_rfl) (by rfl) (fun K hK => ?_) | ((first | refine eL1 HO rfl rfl rfl (by kernel_rfl) (fun _ _ _ h => h) (by rfl) ?_ | refine eL2 HO rfl rfl rfl (by kernel_rfl) (fun _ _ _ h => h) (by rfl) ?_ | refine ePu HO rfl (by kernel_rfl) (fun _ _ _ h => h) (by rfl) (eFi rfl rfl ⟨_, _, _, _, _, _, _, rfl, rfl, inferInstance⟩) ?_ | refine ePu HO rfl (by kernel_rfl) (fun _ _ _ h => h) (by rfl) (by intro _; go_simp; (try with_reducible rfl)) ?_); (try simp only [Act.put, pS0, pS1, pS2])) | refine eA1 rfl (by kernel_rfl) (by rfl) (fun K hK => ?_) | refine eA2 rfl (by kernel_rfl) (by rfl) (fun K hK => ?_) | refine eEe (by kernel_rfl) ?_) | ((with_reducible refine eHo ?_); first | (refine eA4 rfl (by kernel_rfl) (fun _ _ _ h => h) (by rfl) (by intro _; go_simp; (try with_reducible rfl)) ?_; (try simp only [Act.put, pS0, pS1, pS2])) | refine eA3 rfl (by kernel_rfl) (by rfl) (fun K hK => ?_) | refine eDo (by kernel_rfl) ?_) | ((with_reducible show K _ _); (first | with_reducible refine hK.out _ _ (OwnB.of HO) ?_ | with_reducible refine hK.out _ _ ?_); clear hK K; (try simp only [Act.put, pS0, pS1, pS2])) | ((with_reducible refine to_store ?_); (first | refine oT1 HO rfl rfl rfl ?_ | refine oT2 HO rfl rfl rfl (by rfl) ?_ | refine oT3 HO rfl rfl rfl rfl ?_); clear HO; intro _ HO) | ((with_reducible refine to_append ?_); refine wo_appN HO (by repeat (first | exact mH | apply mT)) rfl rfl rfl (by repeat (first | exact mH | apply mT)) (by first | omega | simp) ?_; clear HO; intro eN _ _ _ hmap hlen hcap HO; replace hlen := Lib.hid hlen; (try simp only [Act.put, pS0, pS1, pS2])) | ((first | with_reducible refine nd1 HO ?_ ?_ | with_reducible refine nd2 HO ?_ ?_ | with_reducible refine nd3 HO ?_ ?_ | with_reducible refine nd4 HO ?_ ?_); (and_intros <;> (first | assumption | exact Nat.le_refl _)); clear HO; intro _ HO) | ((with_reducible refine ab_junk HO 9 ?_); clear HO; intro _ HO HB) | ((first | (go_at_call 75; refine arm_node C_sum HO HF hg (by omega) ?_ ?_; rotate_left; (intro v pl e W h1 h2 h3; first | (exact bp_panic2 rfl h1 h2 h3) | ((try dsimp only); (repeat (first | go_big_open | (simp only [Exit.then, Exit.inBlock]))); exact bp_panic2 rfl h1 h2 h3)); clear HO HF; intro xN AN cN aN WN HO hl hle HF)) <;> (try dsimp only)) | ((with_reducible refine eOp ?_); go_simp)))
      rw [← hmap] at HF
      (repeat' (first | (with_reducible first | refine oXt ?_ | refine oXb ?_) | ((with_reducible refine ib_miss ?_ ?_); exact rfl) | ((first | ((with_reducible refine to_load ?_); first | refine oL1 HO rfl rfl ?_ | refine oL2 HO rfl rfl ?_ | refine oL3 HO rfl rfl ?_) | ((first | with_reducible refine oAl HO ?_); clear HO; intro _ HO)); (try simp only [Act.put, pS0, pS1, pS2])) | ((first | ((with_reducible refine to_store ?_); first | refine oT1 HO rfl rfl rfl ?_ | refine oT2 HO rfl rfl rfl (by rfl) ?_ | refine oT3 HO rfl rfl rfl rfl ?_) | with_reducible refine ab_drew HO ?_); clear HO; intro _ HO) | ((with_reducible refine ab_junk HO 9 ?_); clear HO; intro _ HO HB) | go_values | go_skip | go_guarded | go_step | go_upon | (go_ite <;> go_prune <;> (try go_simp))))
      (refine oBc HO (t := 2) (ty := 39) rfl rfl rfl ?_; obtain ⟨A9, c9, e9, hc9, HO9⟩ := HO.out.freeze (by repeat (first | exact mH | apply mT)); injection e9 with e91 _ e92; subst e91 e92; refine bp_node (Lib.hid HO9) HF rfl (by (first | rw [nv0, List.length_map] | rw [nv0, hmap'] | rw [nv0]); first | done | rfl) List.mem_cons_self (by first | (show (List.map _ _).length ≤ _; rw [List.length_map]; exact hc9) | simpa using hc9) (by omega))
    · replace HO := Lib.hid ((HO.out.nilRow 39 8).elsNil)
      refine eBe HO [7, 8, 9] [0, 2, 1, 6, 3, 4, 5] [7, 8, 9] ?_
      clear HO
      intro _ HO
      (repeat' (first | ((with_reducible refine eGo ?_); first | refine eCa rfl rfl (by kernel_rfl) (by rfl) (fun K hK => ?_) | refine eSl rfl rfl (by kernel_rfl) (by rfl) (fun K hK => ?_) | ((first | refine eL1 HO rfl rfl rfl (by kernel_rfl) (fun _ _ _ h => h) (by rfl) ?_ | refine eL2 HO rfl rfl rfl (by kernel_rfl) (fun _ _ _ h => h) (by rfl) ?_ | refine ePu HO rfl (by kernel_rfl) (fun _ _ _ h => h) (by rfl) (eFi rfl rfl ⟨_, _, _, _, _, _, _, rfl, rfl, inferInstance⟩) ?_ | refine ePu HO rfl (by kernel_rfl) (fun _ _ _ h => h) (by rfl) (by intro _; go_simp; (try with_reducible rfl)) ?_); (try simp only [Act.put, pS0, pS1, pS2])) | refine eA1 rfl (by kernel_rfl) (by rfl) (fun K hK => ?_) | refine eA2 rfl (by kernel_rfl) (by rfl) (fun K hK => ?_) | refine eEe (by kernel_rfl) ?_) | ((with_reducible refine eHo ?_); first | (refine eA4 rfl (by kernel_rfl) (fun _ _ _ h => h) (by rfl) (by intro _; go_simp; (try with_reducible rfl)) ?_; (try simp only [Act.put, pS0, pS1, pS2])) | refine eA3 rfl (by kernel_rfl) (by rfl) (fun K hK => ?_) | refine eDo (by kernel_rfl) ?_) | ((with_reducible show K _ _); (first | with_reducible refine hK.out _ _ (OwnB.of HO) ?_ | with_reducible refine hK.out _ _ ?_); clear hK K; (try simp only [Act.put, pS0, pS1, pS2])) | ((with_reducible refine to_store ?_); (first | refine oT1 HO rfl rfl rfl ?_ | refine oT2 HO rfl rfl rfl (by rfl) ?_ | refine oT3 HO rfl rfl rfl rfl ?_); clear HO; intro _ HO) | ((with_reducible refine to_append ?_); refine wo_appN (els := ([] : List El)) HO (by repeat (first | exact mH | apply mT)) rfl rfl rfl (by repeat (first | exact mH | apply mT)) (by first | omega | simp) ?_; clear HO; intro eN _ _ _ hmap hlen hcap HO; replace hlen := Lib.hid hlen; (try simp only [Act.put, pS0, pS1, pS2])) | ((first | with_reducible refine nd1 HO ?_ ?_ | with_reducible refine nd2 HO ?_ ?_ | with_reducible refine nd3 HO ?_ ?_ | with_reducible refine nd4 HO ?_ ?_); (and_intros <;> (first | assumption | exact Nat.le_refl _)); clear HO; intro _ HO) | ((with_reducible refine ab_junk HO 9 ?_); clear HO; intro _ HO HB) | ((first | (go_at_call 75; refine arm_node C_sum HO HF hg (by omega) ?_ ?_; rotate_left; (intro v pl e W h1 h2 h3; first | (exact bp_panic2 rfl h1 h2 h3) | ((try dsimp only); (repeat (first | go_big_open | (simp only [Exit.then, Exit.inBlock]))); exact bp_panic2 rfl h1 h2 h3)); clear HO HF; intro xN AN cN aN WN HO hl hle HF)) <;> (try dsimp only)) | ((with_reducible refine eOp ?_); go_simp)))
      replace HF := Lib.hid (Eq.trans (congrArg (fun l => (pure (NodeT.mk 53 (tk ts a).at' (tk ts a).s 0 1 l) : PP NodeT) aN d) hmap) HF.out)
      (repeat' (first | (with_reducible first | refine oXt ?_ | refine oXb ?_) | ((with_reducible refine ib_miss ?_ ?_); exact rfl) | ((first | ((with_reducible refine to_load ?_); first | refine oL1 HO rfl rfl ?_ | refine oL2 HO rfl rfl ?_ | refine oL3 HO rfl rfl ?_) | ((first | with_reducible refine oAl HO ?_); clear HO; intro _ HO)); (try simp only [Act.put, pS0, pS1, pS2])) | ((first | ((with_reducible refine to_store ?_); first | refine oT1 HO rfl rfl rfl ?_ | refine oT2 HO rfl rfl rfl (by rfl) ?_ | refine oT3 HO rfl rfl rfl rfl ?_) | with_reducible refine ab_drew HO ?_); clear HO; intro _ HO) | ((with_reducible refine ab_junk HO 9 ?_); clear HO; intro _ HO HB) | go_values | go_skip | go_guarded | go_step | go_upon | (go_ite <;> go_prune <;> (try go_simp))))
      (refine oBc HO (t := 2) (ty := 39) rfl rfl rfl ?_; obtain ⟨A9, c9, e9, hc9, HO9⟩ := HO.out.freeze (by repeat (first | exact mH | apply mT)); injection e9 with e91 _ e92; subst e91 e92; refine bp_node (Lib.hid HO9) HF rfl (by (first | rw [nv0, List.length_map] | rw [nv0, hmap'] | rw [nv0]); first | done | rfl) List.mem_cons_self (by first | (show (List.map _ _).length ≤ _; rw [List.length_map]; exact hc9) | simpa using hc9) (by omega))
    · replace HO := Lib.hid ((HO.out.nilRow 39 8).elsNil)
      refine eBe HO [7, 8, 9] [0, 2, 1, 6, 3, 4, 5] [7, 8, 9] ?_
      clear HO
      intro _ HO
      (repeat' (first | ((with_reducible refine eGo ?_); first | refine eCa rfl rfl (by kernel_rfl) (by rfl) (fun K hK => ?_) | refine eSl rfl rfl (by kernel_rfl) (by rfl) (fun K hK => ?_) | ((first | refine eL1 HO rfl rfl rfl (by kernel_rfl) (fun _ _ _ h => h) (by rfl) ?_ | refine eL2 HO rfl rfl rfl (by kernel_rfl) (fun _ _ _ h => h) (by rfl) ?_ | refine ePu HO rfl (by kernel_rfl) (fun _ _ _ h => h) (by rfl) (eFi rfl rfl ⟨_, _, _, _, _, _, _, rfl, rfl, inferInstance⟩) ?_ | refine ePu HO rfl (by kernel_rfl) (fun _ _ _ h => h) (by rfl) (by intro _; go_simp; (try with_reducible rfl)) ?_); (try simp only [Act.put, pS0, pS1, pS2])) | refine eA1 rfl (by kernel_rfl) (by rfl) (fun K hK => ?_) | refine eA2 rfl (by kernel_rfl) (by rfl) (fun K hK => ?_) | refine eEe (by kernel_rfl) ?_) | ((with_reducible refine eHo ?_); first | (refine eA4 rfl (by kernel_rfl) (fun _ _ _ h => h) (by rfl) (by intro _; go_simp; (try with_reducible rfl)) ?_; (try simp only [Act.put, pS0, pS1, pS2])) | refine eA3 rfl (by kernel_rfl) (by rfl) (fun K hK => ?_) | refine eDo (by kernel_rfl) ?_) | ((with_reducible show K _ _); (first | with_reducible refine hK.out _ _ (OwnB.of HO) ?_ | with_reducible refine hK.out _ _ ?_); clear hK K; (try simp only [Act.put, pS0, pS1, pS2])) | ((with_reducible refine to_store ?_); (first | refine oT1 HO rfl rfl rfl ?_ | refine oT2 HO rfl rfl rfl (by rfl) ?_ | refine oT3 HO rfl rfl rfl rfl ?_); clear HO; intro _ HO) | ((with_reducible refine to_append ?_); refine wo_appN (els := ([] : List El)) HO (by repeat (first | exact mH | apply mT)) rfl rfl rfl (by repeat (first | exact mH | apply mT)) (by first | omega | simp) ?_; clear HO; intro eN _ _ _ hmap hlen hcap HO; replace hlen := Lib.hid hlen; (try simp only [Act.put, pS0, pS1, pS2])) | ((first | with_reducible refine nd1 HO ?_ ?_ | with_reducible refine nd2 HO ?_ ?_ | with_reducible refine nd3 HO ?_ ?_ | with_reducible refine nd4 HO ?_ ?_); (and_intros <;> (first | assumption | exact Nat.le_refl _)); clear HO; intro _ HO) | ((with_reducible refine ab_junk HO 9 ?_); clear HO; intro _ HO HB) | ((first | (go_at_call 75; refine arm_node C_sum HO HF hg (by omega) ?_ ?_; rotate_left; (intro v pl e W h1 h2 h3; first | (exact bp_panic2 rfl h1 h2 h3) | ((try dsimp only); (repeat (first | go_big_open | (simp only [Exit.then, Exit.inBlock]))); exact bp_panic2 rfl h1 h2 h3)); clear HO HF; intro xN AN cN aN WN HO hl hle HF)) <;> (try dsimp only)) | ((with_reducible refine eOp ?_); go_simp)))
      replace HF := Lib.hid (Eq.trans (congrArg (fun l => (pure (NodeT.mk 53 (tk ts a).at' (tk ts a).s 0 1 l) : PP NodeT) aN d) hmap) HF.out)
      (repeat' (first | (with_reducible first | refine oXt ?_ | refine oXb ?_) | ((with_reducible refine ib_miss ?_ ?_); exact rfl) | ((first | ((with_reducible refine to_load ?_); first | refine oL1 HO rfl rfl ?_ | refine oL2 HO rfl rfl ?_ | refine oL3 HO rfl rfl ?_) | ((first | with_reducible refine oAl HO ?_); clear HO; intro _ HO)); (try simp only [Act.put, pS0, pS1, pS2])) | ((first | ((with_reducible refine to_store ?_); first | refine oT1 HO rfl rfl rfl ?_ | refine oT2 HO rfl rfl rfl (by rfl) ?_ | refine oT3 HO rfl rfl rfl rfl ?_) | with_reducible refine ab_drew HO ?_); clear HO; intro _ HO) | ((with_reducible refine ab_junk HO 9 ?_); clear HO; intro _ HO HB) | go_values | go_skip | go_guarded | go_step | go_upon | (go_ite <;> go_prune <;> (try go_simp))))
      (refine oBc HO (t := 2) (ty := 39) rfl rfl rfl ?_; obtain ⟨A9, c9, e9, hc9, HO9⟩ := HO.out.freeze (by repeat (first | exact mH | apply mT)); injection e9 with e91 _ e92; subst e91 e92; refine bp_node (Lib.hid HO9) HF rfl (by (first | rw [nv0, List.length_map] | rw [nv0, hmap'] | rw [nv0]); first | done | rfl) List.mem_cons_self (by first | (show (List.map _ _).length ≤ _; rw [List.length_map]; exact hc9) | simpa using hc9) (by omega))
  · rw [hs] at h8'
    have HS' := Lib.hid (show ((tk ts a).s = [112, 114, 105, 110, 116, 102]) = True by simpa using hs)
    go_enter Tryz.func71, Tryz.ntmps71
    (repeat' (first | (with_reducible first | refine oXt ?_ | refine oXb ?_) | ((with_reducible refine ib_miss ?_ ?_); exact rfl) | ((first | ((with_reducible refine to_load ?_); first | refine oL1 HO rfl rfl ?_ | refine oL2 HO rfl rfl ?_ | refine oL3 HO rfl rfl ?_) | ((first | with_reducible refine oAl HO ?_); clear HO; intro _ HO)); (try simp only [Act.put, pS0, pS1, pS2])) | ((first | ((with_reducible refine to_store ?_); first | refine oT1 HO rfl rfl rfl ?_ | refine oT2 HO rfl rfl rfl (by rfl) ?_ | refine oT3 HO rfl rfl rfl rfl ?_) | with_reducible refine ab_drew HO ?_); clear HO; intro _ HO) | ((with_reducible refine ab_junk HO 9 ?_); clear HO; intro _ HO HB) | (simp only [HS'.out, ↓reduceIte, pp_pureF, pp_assoc, pp_ite, Bool.not_true, Bool.not_false, Bool.false_eq_true] at HF) | ((go_big_may; first | (go_at_call 29; first | (refine arm_nextF HO HF hg rfl rfl ?_; clear HO HF; intro _ hle HO HF) | (refine arm_next HO hg rfl rfl ?_; clear HO; intro _ HO)) | (go_at_call 45; first | (refine arm_askF HO HF (fun w m => pover_any w m) rfl rfl ?_; clear HO HF; intro _ b hb HO HF; cases b <;> (try simp only [↓reduceIte, Bool.false_eq_true, Bool.not_true, Bool.not_false, pp_pure] at HF)) | (refine arm_ask HO (fun w m => pover_any w m) rfl rfl ?_; clear HO; intro _ b hb HO; cases b)) | (go_at_call 28; refine arm_sgnF HO HF rfl rfl HB rfl rfl (by decide) (by decide) ?_; clear HO HF HB; intro _ b hb HO HF; cases b <;> (try simp only [↓reduceIte, Bool.false_eq_true, Bool.not_true, Bool.not_false, pp_pure] at HF)) | (go_at_call 74; refine arm_listA C_list L_list HO HF hg (by omega) ?_ ?_; rotate_left; (intro v pl e W h1 h2 h3; first | (exact bp_panic2 rfl h1 h2 h3) | ((try dsimp only); (repeat (first | go_big_open | (simp only [Exit.then, Exit.inBlock]))); exact bp_panic2 rfl h1 h2 h3)); clear HO HF; intro _ _ _ _ _ HO hl hl2 hle HF) | fail) <;> (try dsimp only)) | go_values | go_skip | go_guarded | go_step | go_upon | (go_ite <;> go_prune <;> (try go_simp))))
    all_goals (try exact absurd (‹isS ts (nx ts a) [[124, 38]] = true›.symm.trans hb) (by decide))
    all_goals (first | (refine oBc HO (t := 2) (ty := 39) rfl rfl rfl ?_; refine bp_node HO HF rfl (by first | rfl | (rw [nv0]; first | done | rfl) | exact (nv0 _ _ _ _ _ _ _).symm) (by repeat (first | exact mH | apply mT)) (by first | assumption | exact Nat.le_refl _ | decide) (by omega)) | skip)
    all_goals (try (refine oBc HO (t := 2) (ty := 39) rfl rfl rfl ?_; obtain ⟨A9, c9, e9, hc9, HO9⟩ := HO.out.freeze (by repeat (first | exact mH | apply mT)); injection e9 with e91 _ e92; subst e91 e92; refine bp_node (Lib.hid HO9) HF rfl (by (first | rw [nv0, List.length_map] | rw [nv0, hmap'] | rw [nv0]); first | done | rfl) List.mem_cons_self (by first | (show (List.map _ _).length ≤ _; rw [List.length_map]; exact hc9) | simpa using hc9) (by omega)))
    · skip
      refine eBe HO [7, 8, 9] [0, 2, 1, 6, 3, 4, 5] [7, 8, 9] ?_
      clear HO
      intro _ HO
      (repeat' (first | ((with_reducible refine eGo ?_); first | refine eCa rfl rfl (by kernel_rfl) (by rfl) (fun K hK => ?_) | refine eSl rfl rfl (by kernel_rfl) (by rfl) (fun K hK => ?_) | ((first | refine eL1 HO rfl rfl rfl (by kernel_rfl) (fun _ _ _ h => h) (by rfl) ?_ | refine eL2 HO rfl rfl rfl (by kernel_rfl) (fun _ _ _ h => h) (by rfl) ?_ | refine ePu HO rfl (by kernel_rfl) (fun _ _ _ h => h) (by rfl) (eFi rfl rfl ⟨_, _, _, _, _, _, _, rfl, rfl, inferInstance⟩) ?_ | refine ePu HO rfl (by kernel_rfl) (fun _ _ _ h => h) (by rfl) (by intro _; go_simp; (try with_reducible rfl)) ?_); (try simp only [Act.put, pS0, pS1, pS2])) | refine eA1 rfl (by kernel_rfl) (by rfl) (fun K hK => ?_) | refine eA2 rfl (by kernel_rfl) (by rfl) (fun K hK => ?_) | refine eEe (by kernel_rfl) ?_) | ((with_reducible refine eHo ?_); first | (refine eA4 rfl (by kernel_rfl) (fun _ _ _ h => h) (by rfl) (by intro _; go_simp; (try with_reducible rfl)) ?_; (try simp only [Act.put, pS0, pS1, pS2])) | refine eA3 rfl (by kernel_rfl) (by rfl) (fun K hK => ?_) | refine eDo (by kernel_rfl) ?_) | ((with_reducible show K _ _); (first | with_reducible refine hK.out _ _ (OwnB.of HO) ?_ | with_reducible refine hK.out _ _ ?_); clear hK K; (try simp only [Act.put, pS0, pS1, pS2])) | ((with_reducible refine to_store ?_); (first | refine oT1 HO rfl rfl rfl ?_ | refine oT2 HO rfl rfl rfl (by rfl) ?_ | refine oT3 HO rfl rfl rfl rfl ?_); clear HO; intro _ HO) | ((with_reducible refine to_append ?_); refine wo_appN HO (by repeat (first | exact mH | apply mT)) rfl rfl rfl (by repeat (first | exact mH | apply mT)) (by first | omega | simp) ?_; clear HO; intro eN _ _ _ hmap hlen hcap HO; replace hlen := Lib.hid hlen; (try simp only [Act.put, pS0, pS1, pS2])) | ((first | with_reducible refine nd1 HO ?_ ?_ | with_reducible refine nd2 HO ?_ ?_ | with_reducible refine nd3 HO ?_ ?_ | with_reducible refine nd4 HO ?_ ?_); (and_intros <;> (first | assumption | exact Nat.le_refl _)); clear HO; intro _ HO) | ((with_reducible refine ab_junk HO 9 ?_); clear HO; intro _ HO HB) | ((first | (go_at_call 75; refine arm_node C_sum HO HF hg (by omega) ?_ ?_; rotate_left; (intro v pl e W h1 h2 h3; first | (exact bp_panic2 rfl h1 h2 h3) | ((try dsimp only); (repeat (first | go_big_open | (simp only [Exit.then, Exit.inBlock]))); exact bp_panic2 rfl h1 h2 h3)); clear HO HF; intro xN AN cN aN WN HO hl hle HF)) <;> (try dsimp only)) | ((with_reducible refine eOp ?_); go_simp)))
      rw [← hmap] at HF
      (repeat' (first | (with_reducible first | refine oXt ?_ | refine oXb ?_) | ((with_reducible refine ib_miss ?_ ?_); exact rfl) | ((first | ((with_reducible refine to_load ?_); first | refine oL1 HO rfl rfl ?_ | refine oL2 HO rfl rfl ?_ | refine oL3 HO rfl rfl ?_) | ((first | with_reducible refine oAl HO ?_); clear HO; intro _ HO)); (try simp only [Act.put, pS0, pS1, pS2])) | ((first | ((with_reducible refine to_store ?_); first | refine oT1 HO rfl rfl rfl ?_ | refine oT2 HO rfl rfl rfl (by rfl) ?_ | refine oT3 HO rfl rfl rfl rfl ?_) | with_reducible refine ab_drew HO ?_); clear HO; intro _ HO) | ((with_reducible refine ab_junk HO 9 ?_); clear HO; intro _ HO HB) | go_values | go_skip | go_guarded | go_step | go_upon | (go_ite <;> go_prune <;> (try go_simp))))
      (refine oBc HO (t := 2) (ty := 39) rfl rfl rfl ?_; obtain ⟨A9, c9, e9, hc9, HO9⟩ := HO.out.freeze (by repeat (first | exact mH | apply mT)); injection e9 with e91 _ e92; subst e91 e92; refine bp_node (Lib.hid HO9) HF rfl (by (first | rw [nv0, List.length_map] | rw [nv0, hmap'] | rw [nv0]); first | done | rfl) List.mem_cons_self (by first | (show (List.map _ _).length ≤ _; rw [List.length_map]; exact hc9) | simpa using hc9) (by omega))
end Go.Proofs.YtdiibenofbcfnaaGreat
