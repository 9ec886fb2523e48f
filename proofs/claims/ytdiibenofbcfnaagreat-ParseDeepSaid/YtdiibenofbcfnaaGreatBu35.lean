/- Several texts put together: PasH, PasI. -/
import Derived.Test.YtdiibenofbcfnaaGreatBu3
import Derived.Test.YtdiibenofbcfnaaGreatBu34
import Derived.Test.YtdiibenofbcfnaaGreatBu20
import Derived.Defers
import Derived.Recover
set_option linter.unusedSimpArgs false
set_option linter.unusedVariables false
namespace Go.Proofs.YtdiibenofbcfnaaGreat
open Go.RowKit
section
variable {ts : List TokF} {p : Par}
theorem mon_params : Mon (paramsF ts) := by
  unfold paramsF
  refine Mon.sgn.bind fun _ => Mon.ite (Mon.next.bind fun _ => Mon.pure _) (Mon.name.bind fun x => Mon.bind (Mon.iter (fun l => ?_) _ _) fun l => Mon.take.bind fun _ => Mon.pure _)
  unfold paramsS
  exact Mon.next.bind fun _ => Mon.lines.bind fun _ => Mon.name.bind fun _ => Mon.pure _
theorem adv_function (h : PAdv p) {a : Nat} (ha : isW ts a [[102, 117, 110, 99, 116, 105, 111, 110]] = true) : AdvAt (functionF ts p) a := by
  unfold functionF
  exact AdvAt.next (nx_isW ha) fun t => Mon.tok.bind fun n => Mon.ite (Mon.next.bind fun _ => Mon.take.bind fun _ => mon_params.bind fun _ => Mon.lines.bind fun _ => (adv_block h).mon.bind fun _ => Mon.pure _) (Mon.fail _)
theorem adv_rule (h : PAdv p) : Adv (ruleF ts p) := by
  unfold ruleF
  refine Adv.bind2 Mon.tok fun t => ?_
  have hd : ∀ (k x : Nat) (ss : List (List Nat)) (B : PP RuleT), Adv B → Adv (wrdP ts ss >>= fun b => if b = true then headF ts p k x else B) := fun k x ss B hB =>
    Adv.wrd (fun a ha => by simp only [if_true]; unfold headF; exact AdvAt.next (nx_isW ha) fun _ => (adv_block h).mon.bind fun _ => Mon.pure _) (by simp only [Bool.false_eq_true, if_false]; exact hB)
  refine hd _ _ _ _ (hd _ _ _ _ (hd _ _ _ _ (hd _ _ _ _ ?_)))
  refine Adv.sgn (fun a _ => by simp only [if_true]; exact AdvAt.bind1 (adv_block h a) fun _ => Mon.pure _) ?_
  simp only [Bool.false_eq_true, if_false]
  unfold patternF
  refine Adv.bind1 (adv_expr h) fun x => Mon.bind (Mon.sgn.bind fun _ => Mon.ite (Mon.next.bind fun _ => Mon.lines.bind fun _ => (adv_expr h).mon.bind fun _ => Mon.pure _) (Mon.pure _)) fun q => Mon.sgn.bind fun _ => Mon.ite ((adv_block h).mon.bind fun _ => Mon.pure _) (Mon.pure _)
theorem adv_item (h : PAdv p) (t : TreeT) : Adv (itemF ts p t) := by
  unfold itemF
  refine Adv.wrd (fun a ha => by simp only [if_true]; exact AdvAt.bind1 (adv_function h ha) fun _ => Mon.ends.bind fun _ => Mon.pure _) ?_
  simp only [Bool.false_eq_true, if_false]
  exact Adv.bind1 (adv_rule h) fun r => Mon.ite (Mon.close.bind fun _ => Mon.pure _) (Mon.ends.bind fun _ => Mon.pure _)
theorem item_len {t t' : TreeT} {a d a' d' : Nat} (h : itemF ts p t a d = .ok t' a' d') : t'.funcs.length ≤ t.funcs.length + 1 ∧ t'.rules.length ≤ t.rules.length + 1 := by
  unfold itemF at h
  obtain ⟨b, a1, d1, h1, h2⟩ := bind_inv h
  cases b
  · simp only [Bool.false_eq_true, if_false] at h2
    obtain ⟨r, a2, d2, h3, h4⟩ := bind_inv h2
    split at h4
    · obtain ⟨_, a3, d3, h5, h6⟩ := bind_inv h4
      have h' : PR.ok (⟨t.funcs, t.rules ++ [r]⟩ : TreeT) a3 d3 = .ok t' a' d' := h6
      injection h' with e _ _
      subst e
      simp
    · obtain ⟨_, a3, d3, h5, h6⟩ := bind_inv h4
      have h' : PR.ok (⟨t.funcs, t.rules ++ [r]⟩ : TreeT) a3 d3 = .ok t' a' d' := h6
      injection h' with e _ _
      subst e
      simp
  · simp only [if_true] at h2
    obtain ⟨f, a2, d2, h3, h4⟩ := bind_inv h2
    obtain ⟨_, a3, d3, h5, h6⟩ := bind_inv h4
    have h' : PR.ok (⟨t.funcs ++ [f], t.rules⟩ : TreeT) a3 d3 = .ok t' a' d' := h6
    injection h' with e _ _
    subst e
    simp
end
structure TreeAt (w : World) (F : Nat → Prop) (A : Option Addr) (B : Option Addr) (fe : List ElF) (re : List ElR) : Prop where
  rf : RowAt w F A (flatF fe)
  rr : RowAt w F B (flatR re)
  ef : ∀ x ∈ fe, ElF.ok w F x
  er : ∀ x ∈ re, ElR.ok w F x
theorem TreeAt.st {w w' : World} {F F' : Nat → Prop} {A B : Option Addr} {fe : List ElF} {re : List ElR} (hF : ∀ b, F b → F' b ∧ w'.heap[b]? = w.heap[b]?) (h : TreeAt w F A B fe re) : TreeAt w' F' A B fe re := ⟨h.rf.st hF, h.rr.st hF, fun x hx => (h.ef x hx).st hF, fun x hx => (h.er x hx).st hF⟩
def VTree : World → World → TreeT → Value → Prop := fun w0 W t v => ∃ (fe : List ElF) (re : List ElR) (A : Option Addr) (c : Nat) (B : Option Addr) (e : Nat), t = ⟨fe.map (·.1), re.map (·.1)⟩ ∧ v = .agg #[.slice A fe.length c, .slice B re.length e] ∧ fe.length ≤ c ∧ re.length ≤ e ∧ TreeAt W (fun b => w0.heap.size ≤ b ∧ b < W.heap.size) A B fe re
section
variable {w0 w W : World} {g h a d n : Nat} {ts : List TokF} {p : Par} {β : Type} {R : PR β} {T : Ending → World → Prop} {k : TreeT → PP β} {bs : List Bx} {fe : List ElF} {re : List ElR} {vF vR : Value}
theorem arm_item (H_function : Hid (FC 31 #[.pointer (some ⟨g, 0, none⟩)] (functionF ts p) VFunc g ts n)) (H_rule : Hid (FC 32 #[.pointer (some ⟨g, 0, none⟩)] (ruleF ts p) VRule g ts n))
    (HO : Hid (Own w0 [g] (PS g ts a d) (⟨h, 27, [vF, vR]⟩ :: bs) [⟨76, 11, vF, fe.length, flatF fe⟩, ⟨41, 12, vR, re.length, flatR re⟩] [Cold.elsF fe, Cold.elsR re, Cold.kids none []] w)) (HF : Hid ((itemF ts p ⟨fe.map (·.1), re.map (·.1)⟩ >>= k) a d = R)) (hg : g < w0.heap.size) (hn : 65 ≤ d + n) (hl1 : fe.length ≤ 100001) (hl2 : re.length ≤ 100001)
    (hok : ∀ (fe' : List ElF) (re' : List ElR) vF' vR' a' W, itemF ts p ⟨fe.map (·.1), re.map (·.1)⟩ a d = .ok ⟨fe'.map (·.1), re'.map (·.1)⟩ a' d → Hid (Own w0 [g] (PS g ts a' d) (⟨h, 27, [vF', vR']⟩ :: bs) [⟨76, 11, vF', fe'.length, flatF fe'⟩, ⟨41, 12, vR', re'.length, flatR re'⟩] [Cold.elsF fe', Cold.elsR re', Cold.kids none []] W) → a ≤ a' → Hid (k ⟨fe'.map (·.1), re'.map (·.1)⟩ a' d = R) → T (.returned (.tuple #[])) W)
    (herr : ∀ v pl e W, Hid (FailV W w0.heap.size v pl e) → Hid (Kept [g] w0 W) → Hid (R = .err pl e) → T (.panicked [{ v := v, recovered := false }]) W) : Calls Tryz.prog 16 #[.pointer (some ⟨g, 0, none⟩), .pointer (some ⟨h, 0, none⟩)] w T := by
  refine (pitem_any p g h ts n H_function.out H_rule.out HO hg hn hl1 hl2).mono fun e W hp => ?_
  unfold PPost at hp
  cases hr : itemF ts p ⟨fe.map (·.1), re.map (·.1)⟩ a d with
  | ok x a' d' =>
    rw [hr] at hp
    obtain ⟨v, rfl, ⟨rfl, fe', re', vF', vR', St, rfl, hO⟩, hs, hk, ha, rfl⟩ := hp
    exact hok fe' re' vF' vR' a' W hr (Lib.hid (own_st hO (PS.loc hg) hs)) ha (Lib.hid (bind_ok hr HF.out))
  | err pl q =>
    rw [hr] at hp
    obtain ⟨v, rfl, hv, hk⟩ := hp
    exact herr v pl q W (Lib.hid hv) (Lib.hid hk) (Lib.hid (bind_err hr HF.out))
theorem iter_stepP {α : Type} (go : Nat → Bool) (step : α → PP α) (f : Nat) (x : α) (a d : Nat) : iter go step (f + 1) x a d = if go a = true then (step x >>= fun z => iter go step f z) a d else (pure x : PP α) a d := rfl
theorem bp_tree {F : List Cold} {a0 : Nat} {R : PR TreeT} {v : Value} {d' : Nat} {A B : Option Addr} {c e : Nat} (HO : Hid (Own w0 [g] (PS g ts a d') bs [] F W)) (HF : Hid ((pure ⟨fe.map (·.1), re.map (·.1)⟩ : PP TreeT) a d' = R)) (hc : fe.length ≤ c) (he : re.length ≤ e) (m1 : Cold.elsF fe ∈ F) (m2 : Cold.elsR re ∈ F) (m3 : Cold.row A (flatF fe) ∈ F) (m4 : Cold.row B (flatR re) ∈ F) (hv : v = .agg #[.slice A fe.length c, .slice B re.length e]) (ha : a0 ≤ a) : PPost g ts w0 a0 d' R VTree (.returned v) W := by
  have hF : ∀ b, (w0.heap.size ≤ b ∧ b < W.heap.size ∧ b ∉ hot bs []) → (w0.heap.size ≤ b ∧ b < W.heap.size) ∧ W.heap[b]? = W.heap[b]? := fun b hb => ⟨⟨hb.1, hb.2.1⟩, rfl⟩
  refine bp_ok HO HF ha rfl ⟨fe, re, A, c, B, e, rfl, hv, hc, he, ?_, ?_, ?_, ?_⟩
  · exact RowAt.st hF (HO.out.cold _ m3)
  · exact RowAt.st hF (HO.out.cold _ m4)
  · exact fun x hx => ElF.ok.st hF (HO.out.cold _ m1 x hx)
  · exact fun x hx => ElR.ok.st hF (HO.out.cold _ m2 x hx)
end
set_option maxRecDepth 100000 in
set_option maxHeartbeats 3200000 in
theorem pprogram_any (p : Par) (HA : PAdv p) (g : Nat) (ts : List TokF) (n : Nat) (H_function : FC 31 #[.pointer (some ⟨g, 0, none⟩)] (functionF ts p) VFunc g ts n) (H_rule : FC 32 #[.pointer (some ⟨g, 0, none⟩)] (ruleF ts p) VRule g ts n) : FC 9 #[.pointer (some ⟨g, 0, none⟩)] (programF ts p) VTree g ts n := by
  intro w a d m hn
  obtain ⟨R, hR⟩ : ∃ R, (programF ts p) a d = R := ⟨_, rfl⟩
  rw [hR]
  have HF := Lib.hid hR
  have HO := m.ownN
  have hg := m.lt
  unfold programF at HF
  clear hR m
  have hts := HO.out.st.ok.len
  have C_function := Lib.hid H_function
  have C_rule := Lib.hid H_rule
  go_enter Tryz.func9, Tryz.ntmps9
  (repeat' (first | (with_reducible first | refine oXt ?_ | refine oXb ?_) | ((with_reducible refine ib_miss ?_ ?_); exact rfl) | ((first | ((with_reducible refine to_load ?_); first | refine oL1 HO rfl rfl ?_ | refine oL2 HO rfl rfl ?_ | refine oL3 HO rfl rfl ?_) | ((with_reducible refine to_field ?_); refine oF1 rfl ?_; refine ⟨_, _, _, _, _, _, _, _, rfl, rfl, inferInstance, ?_⟩) | ((first | with_reducible refine oAl HO ?_); clear HO; intro _ HO)); (try simp only [Act.put, pS0, pS1, pS2])) | ((first | ((with_reducible refine to_store ?_); first | refine oT1 HO rfl rfl rfl ?_ | refine oT2 HO rfl rfl rfl (by rfl) ?_ | refine oT3 HO rfl rfl rfl rfl ?_) | with_reducible refine ab_drew HO ?_); clear HO; intro _ HO) | ((with_reducible refine to_store ?_); first | (refine wo_storeR HO rfl rfl rfl rfl (by repeat (first | exact mH | apply mT)) (by repeat (first | exact cH | apply cT)) Tryz.sizeOf39 (by simp [Value.oneCell']) ?_; clear HO; intro _ HO) | (refine wo_storeF HO rfl rfl rfl rfl (by repeat (first | exact mH | apply mT)) (by repeat (first | exact cH | apply cT)) Tryz.sizeOf39 (by simp [Value.oneCell']) ?_; clear HO; intro _ HO)) | ((go_big_may; first | (go_at_call 14; refine arm_unit (n := 65) (Lib.hid (pends_any _ _ _)) HO HF hg (by omega) ?_ ?_; rotate_left; (intro v pl e W h1 h2 h3; first | (exact bp_panic2 rfl h1 h2 h3) | ((try dsimp only); (repeat (first | go_big_open | (simp only [Exit.then, Exit.inBlock]))); exact bp_panic2 rfl h1 h2 h3)); clear HO HF; intro _ _ HO hle HF) | fail) <;> (try dsimp only)) | go_values | go_skip | go_guarded | go_step | go_upon | (go_ite <;> go_prune <;> (try go_simp))))
  obtain ⟨b3, hb3⟩ := own_name HO
  rw [← hb3] at HO ⊢
  clear hb3
  have haq := HO.out.st.ha
  go_loopw [] (fun W => ∃ (fe : List ElF) (re : List ElR) (vF vR : Value) (f q : Nat), fe.length ≤ q ∧ re.length ≤ q ∧ a ≤ q ∧ ts.length ≤ f + q ∧ Hid (iter (fun a => !(((tk ts a).k : Int) == 0)) (itemF ts p) f ⟨fe.map (·.1), re.map (·.1)⟩ q d = R) ∧ Hid (Own w [g] (PS g ts q d) [⟨b3, 27, [vF, vR]⟩, ⟨w.heap.size, 27, [.slice none 0 0, .slice none 0 0]⟩] [⟨76, 11, vF, fe.length, flatF fe⟩, ⟨41, 12, vR, re.length, flatR re⟩] [Cold.elsF fe, Cold.elsR re, Cold.kids none []] W)) (fun W => ts.length - (intOf ((W.cell? ⟨g, 1, none⟩).getD undef)).toNat)
  case atStart => exact ⟨[], [], _, _, ts.length, _, Nat.zero_le _, Nat.zero_le _, by omega, by omega, HF, Lib.hid ((((HO.out.nilRow 41 12).nilRow 76 11).coldAll (Cold.elsR []) (fun x hx => by cases hx)).coldAll (Cold.elsF []) (fun x hx => by cases hx))⟩
  case round =>
    clear HO HF hle haq
    obtain ⟨fe, re, vF, vR, f, q, hl1, hl2, hab, hf, HF, HO⟩ := hrel
    have hq := HO.out.st.ha
    obtain ⟨f, rfl⟩ : ∃ f', f = f' + 1 := ⟨f - 1, by omega⟩
    have HS := Lib.hid HO.out.st
    rw [iter_stepP] at HF
    cases hk : (((tk ts q).k : Int) == 0)
    · have hn0 : (((tk ts q).k : Int) != 0) = true := by rw [bne, hk]; rfl
      simp only [hk, Bool.not_false, if_true] at HF
      (repeat' (first | (with_reducible first | refine oXt ?_ | refine oXb ?_) | ((with_reducible refine ib_miss ?_ ?_); exact rfl) | ((first | ((with_reducible refine to_load ?_); first | refine oL1 HO rfl rfl ?_ | refine oL2 HO rfl rfl ?_ | refine oL3 HO rfl rfl ?_) | ((with_reducible refine to_field ?_); refine oF1 rfl ?_; refine ⟨_, _, _, _, _, _, _, _, rfl, rfl, inferInstance, ?_⟩) | ((first | with_reducible refine oAl HO ?_); clear HO; intro _ HO)); (try simp only [Act.put, pS0, pS1, pS2])) | ((first | ((with_reducible refine to_store ?_); first | refine oT1 HO rfl rfl rfl ?_ | refine oT2 HO rfl rfl rfl (by rfl) ?_ | refine oT3 HO rfl rfl rfl rfl ?_) | with_reducible refine ab_drew HO ?_); clear HO; intro _ HO) | ((with_reducible refine to_store ?_); first | (refine wo_storeR HO rfl rfl rfl rfl (by repeat (first | exact mH | apply mT)) (by repeat (first | exact cH | apply cT)) Tryz.sizeOf39 (by simp [Value.oneCell']) ?_; clear HO; intro _ HO) | (refine wo_storeF HO rfl rfl rfl rfl (by repeat (first | exact mH | apply mT)) (by repeat (first | exact cH | apply cT)) Tryz.sizeOf39 (by simp [Value.oneCell']) ?_; clear HO; intro _ HO)) | ((go_big_may; first | (go_at_call 15; first | (refine arm_tokF HO HF rfl rfl ?_; clear HO HF; intro _ HO HF) | (refine arm_tok HO rfl rfl ?_; clear HO; intro _ HO)) | (go_at_call 16; refine arm_item C_function C_rule HO HF hg (by omega) (by omega) (by omega) ?_ ?_; rotate_left; (intro v pl e W h1 h2 h3; first | (exact bp_panic2 rfl h1 h2 h3) | ((try dsimp only); (repeat (first | go_big_open | (simp only [Exit.then, Exit.inBlock]))); exact bp_panic2 rfl h1 h2 h3)); clear HO HF; intro feN reN vFN vRN aN WN hres HO hle HF) | fail) <;> (try dsimp only)) | go_values | go_skip | go_guarded | go_step | go_upon | (go_ite <;> go_prune <;> (try go_simp))))
      have hadv := adv_item HA _ _ _ _ _ _ hres
      have hlen := item_len hres
      dsimp only at hlen
      simp only [List.length_map] at hlen
      go_roundw
      case rel => exact ⟨_, _, _, _, f, _, by omega, by omega, by omega, by omega, HF, HO⟩
      case measure => exact pmeas HS.out HO.out.st (by omega)
    · have hn0 : (((tk ts q).k : Int) != 0) = false := by rw [bne, hk]; rfl
      simp only [hk, Bool.not_true, Bool.false_eq_true, if_false] at HF
      obtain ⟨A9, c9, e9, hc9, HO9⟩ := HO.out.freezeG (fun h => by rw [List.length_eq_zero_iff.1 h]; rfl)
      obtain ⟨B9, c8, e8, hc8, HO8⟩ := HO9.freezeG (fun h => by rw [List.length_eq_zero_iff.1 h]; rfl)
      dsimp only at e9 e8 hc9 hc8
      subst e9 e8
      clear HO HO9
      have HO := Lib.hid HO8
      clear HO8
      (repeat' (first | (with_reducible first | refine oXt ?_ | refine oXb ?_) | ((with_reducible refine ib_miss ?_ ?_); exact rfl) | ((first | ((with_reducible refine to_load ?_); first | refine oL1 HO rfl rfl ?_ | refine oL2 HO rfl rfl ?_ | refine oL3 HO rfl rfl ?_) | ((with_reducible refine to_field ?_); refine oF1 rfl ?_; refine ⟨_, _, _, _, _, _, _, _, rfl, rfl, inferInstance, ?_⟩) | ((first | with_reducible refine oAl HO ?_); clear HO; intro _ HO)); (try simp only [Act.put, pS0, pS1, pS2])) | ((first | ((with_reducible refine to_store ?_); first | refine oT1 HO rfl rfl rfl ?_ | refine oT2 HO rfl rfl rfl (by rfl) ?_ | refine oT3 HO rfl rfl rfl rfl ?_) | with_reducible refine ab_drew HO ?_); clear HO; intro _ HO) | ((with_reducible refine to_store ?_); first | (refine wo_storeR HO rfl rfl rfl rfl (by repeat (first | exact mH | apply mT)) (by repeat (first | exact cH | apply cT)) Tryz.sizeOf39 (by simp [Value.oneCell']) ?_; clear HO; intro _ HO) | (refine wo_storeF HO rfl rfl rfl rfl (by repeat (first | exact mH | apply mT)) (by repeat (first | exact cH | apply cT)) Tryz.sizeOf39 (by simp [Value.oneCell']) ?_; clear HO; intro _ HO)) | ((go_big_may; first | (go_at_call 15; first | (refine arm_tokF HO HF rfl rfl ?_; clear HO HF; intro _ HO HF) | (refine arm_tok HO rfl rfl ?_; clear HO; intro _ HO)) | fail) <;> (try dsimp only)) | go_values | go_skip | go_guarded | go_step | go_upon | (go_ite <;> go_prune <;> (try go_simp))))
      refine bp_cell HO (t := 2) (ty := 27) rfl rfl (by repeat (first | exact mH | apply mT)) Tryz.isAgg27 Tryz.sizeOf27 (by rfl) rfl ?_
      exact bp_tree HO HF hc9 hc8 (by repeat (first | exact mH | apply mT)) (by repeat (first | exact mH | apply mT)) (by repeat (first | exact mH | apply mT)) (by repeat (first | exact mH | apply mT)) rfl (by omega)
open Go.RowKit
theorem assert_failure (v : Value) (xT : TypeId) (w : World) : (Instr.typeAssert (.iface 47 v) xT 47 true).run Tryz.prog w = .ok (.tuple #[v, .bool true]) w := by
  simp [Instr.typeAssert, run_underlying Tryz.underlying47, go_sem, Result.andThen]
section
variable {P : Program} {md : Region.Mode} {ops : Array Oper} {Q : Exit → Act → World → Prop} {late : List Nat}
def OwnM (w0 : World) (X : List Nat) (x : Bx) (w : World) : Prop := ∃ St bs rs F, Own w0 X St bs rs F w ∧ x ∈ bs
theorem OwnM.of {w0 w : World} {X : List Nat} {x : Bx} {St : World → Prop} {bs : List Bx} {rs : List Rw} {F : List Cold} (HO : Hid (Own w0 X St bs rs F w)) (hx : x ∈ bs) : OwnM w0 X x w := ⟨St, bs, rs, F, HO.out, hx⟩
theorem e_beginM {id : Nat} {a : Act} {w0 w : World} {X : List Nat} {St : World → Prop} {bs : List Bx} {rs : List Rw} {F : List Cold} (x : Bx) (HO : Hid (Own w0 X St bs rs F w)) (hm : P.follows .mixedOrders = true)
    (h : ∀ W, Hid (Own w0 X St bs rs F W) → wpAnyE P .any ops Q (OwnM w0 X x) [] ops.size (Array.replicate ops.size false) a W) : (Code.region id ops true).wp P Q a w :=
  e_start _ [] hm (h _ (Lib.hid HO.out.drew))
theorem e_loadM {w0 : World} {X : List Nat} {St : World → Prop} {bs : List Bx} {rs : List Rw} {F : List Cold} {i : Nat} {oi : Oper} {f : Nat} {listed : Array Bool} {a : Act} {w : World} {b k : Nat} {t : TypeId} {cs : List Value} (HO : Hid (Own w0 X St bs rs F w)) (hm : (⟨b, t, cs⟩ : Bx) ∈ bs) (hi : (ops.toList.drop i).head? = some oi)
    (hs : Region.noSelect ops = true) (hf : Region.free md ops listed i = true) (hr : (Region.ready md ops listed).contains i = true) (hil : late.contains i = false) (hw : waits md ops late listed i = true)
    {ty : TypeId} {x : Operand} (ho : oi.op = .load ty x) (hx : a.eval x = .pointer (some ⟨b, k, none⟩)) {v : Value}
    (hd : ∀ w, (isAgg ty).run P w = .ok false w) (hv : cs[k]? = some v)
    (hQ : ∀ c a w, Q (.panic c) (a.put oi.dst v) w → Q (.panic c) a w) (hwa : Region.wanted oi (yielded ops a.tmps) = true)
    (h : wpAnyE P md ops Q (OwnM w0 X ⟨b, t, cs⟩) late f (listed.setIfInBounds i true) (a.put oi.dst v) w) : wpAnyE P md ops Q (OwnM w0 X ⟨b, t, cs⟩) late (f + 1) listed a w := by
  refine e_take hi hs hf hr hil hw hQ hwa (OwnM.of HO hm) (fun w' hS => ?_) h
  obtain ⟨St', bs', rs', F', h', hm'⟩ := hS
  have hl : w'.cell? ⟨b, k, none⟩ = some v := h'.cells hm' k 0 v (by rw [List.getElem?_drop]; exact hv)
  unfold execOp
  simp only [ho, hx, Instr.loadAt, Instr.sureAddr, Sem.run_bind, Sem.run_pure, Result.andThen_ok, loadVar, hd w', Bool.false_eq_true, if_false, run_load, hl]
end
section
variable {w0 w : World} {X : List Nat} {S : World → Prop} {F : List Cold} {b2 b3 b : Nat} {x3 x y : Value}
set_option maxRecDepth 100000 in
set_option maxHeartbeats 3200000 in
theorem catch_p (HO : Hid (Own w0 X S [⟨b3, 29, [x3]⟩, ⟨b2, 27, [x, y]⟩] [] F w)) :
    CallsD Tryz.prog 8 #[.pointer (some ⟨b2, 0, none⟩), .pointer (some ⟨b3, 0, none⟩)] (.panicking ({ v := .iface 47 (.agg #[.pointer (some ⟨b, 0, none⟩)]), recovered := false } :: [])) w fun e u' w' =>
      e = .returned (.tuple #[]) ∧ u' = .panicking ({ v := .iface 47 (.agg #[.pointer (some ⟨b, 0, none⟩)]), recovered := true } :: []) ∧ Own w0 X S [⟨b3, 29, [.iface 45 (.pointer (some ⟨b, 0, none⟩))]⟩, ⟨b2, 27, [.slice none 0 0, .slice none 0 0]⟩] [] F w' := by
  refine callsD_of_wpS Tryz.func8 rfl fun c₀ cs hu => ?_
  apply wpS_seq
  apply wpS_region
  simp [wpOpsS, go_sem, recoverD, hu, Tryz.ntmps8, Exit.thenS]
  refine wpS_of_wp ?_
  have hta := fun w => assert_failure (.agg #[.pointer (some ⟨b, 0, none⟩)]) 20 w
  rw [show (#[Value.pointer (some ⟨b2, 0, none⟩), Value.pointer (some ⟨b3, 0, none⟩)] ++ (Array.replicate 13 undef).setIfInBounds 3 (Value.iface 47 (Value.agg #[Value.pointer (some ⟨b, 0, none⟩)]))) = #[Value.pointer (some ⟨b2, 0, none⟩), Value.pointer (some ⟨b3, 0, none⟩), undef, undef, undef, Value.iface 47 (Value.agg #[Value.pointer (some ⟨b, 0, none⟩)]), undef, undef, undef, undef, undef, undef, undef, undef, undef] from rfl]
  (repeat' (first | (with_reducible first | refine oXt ?_ | refine oXb ?_) | ((with_reducible refine ib_miss ?_ ?_); exact rfl) | ((first | ((with_reducible refine to_load ?_); first | refine oL1 HO rfl rfl ?_ | refine oL2 HO rfl rfl ?_ | refine oL3 HO rfl rfl ?_) | ((with_reducible refine to_field ?_); refine oF1 rfl ?_; refine ⟨_, _, _, _, _, _, _, _, rfl, rfl, inferInstance, ?_⟩) | ((first | with_reducible refine oAl HO ?_ | ((with_reducible refine to_box ?_); refine wo_box HO rfl rfl ?_)); clear HO; intro _ HO)); (try simp only [Act.put, pS0, pS1, pS2])) | ((first | ((with_reducible refine to_store ?_); first | refine oT1 HO rfl rfl rfl ?_ | refine oT2 HO rfl rfl rfl (by rfl) ?_ | refine oT3 HO rfl rfl rfl rfl ?_) | with_reducible refine ab_drew HO ?_); clear HO; intro _ HO) | ((with_reducible refine to_store ?_); first | (refine wo_storeR HO rfl rfl rfl rfl (by repeat (first | exact mH | apply mT)) (by repeat (first | exact cH | apply cT)) Tryz.sizeOf39 (by simp [Value.oneCell']) ?_; clear HO; intro _ HO) | (refine wo_storeF HO rfl rfl rfl rfl (by repeat (first | exact mH | apply mT)) (by repeat (first | exact cH | apply cT)) Tryz.sizeOf39 (by simp [Value.oneCell']) ?_; clear HO; intro _ HO)) | ((with_reducible refine ab_junk HO 9 ?_); clear HO; intro _ HO HB) | go_values | go_skip | go_guarded | go_step | go_upon | (go_ite <;> go_prune <;> (try go_simp))))
  clear hta
  refine e_beginM ⟨w.heap.size, 47, [.pointer (some ⟨b, 0, none⟩)]⟩ HO (by kernel_rfl) ?_
  clear HO
  intro _ HO
  refine e_pure (i := 0) (v := ?v0) rfl (by kernel_rfl) (by kernel_rfl) (by kernel_rfl) (by kernel_rfl) (fun _ _ _ h => h) (by rfl) (OwnM.of HO (by repeat (first | exact mH | apply mT))) ?y0 ?r0
  case y0 => (intro wS; go_simp; (try with_reducible rfl))
  (try simp only [Act.put, pS0, pS1, pS2])
  refine e_pure (i := 1) (v := ?v1) rfl (by kernel_rfl) (by kernel_rfl) (by kernel_rfl) (by kernel_rfl) (fun _ _ _ h => h) (by rfl) (OwnM.of HO (by repeat (first | exact mH | apply mT))) ?y1 ?r1
  case y1 => (intro wS; go_simp; (try with_reducible rfl))
  (try simp only [Act.put, pS0, pS1, pS2])
  refine e_loadM (i := 2) HO (by repeat (first | exact mH | apply mT)) rfl (by kernel_rfl) (by kernel_rfl) (by kernel_rfl) (by kernel_rfl) (by kernel_rfl) rfl rfl Tryz.isAgg45 (by rfl) (fun _ _ _ h => h) (by rfl) ?_
  (try simp only [Act.put, pS0, pS1, pS2])
  refine e_pure (i := 3) (v := ?v2) rfl (by kernel_rfl) (by kernel_rfl) (by kernel_rfl) (by kernel_rfl) (fun _ _ _ h => h) (by rfl) (OwnM.of HO (by repeat (first | exact mH | apply mT))) ?y2 ?r2
  case y2 => (intro wS; go_simp; (try with_reducible rfl))
  (try simp only [Act.put, pS0, pS1, pS2])
  refine e_one (i := 4) (by kernel_rfl) rfl (by kernel_rfl) (by rfl) (fun K hK => ?_)
  (with_reducible refine to_store ?_)
  (refine wo_store HO rfl rfl rfl rfl (by repeat (first | exact cH | apply cT)) Tryz.sizeOf27 (by rfl) (by rfl) (by simp [Value.oneCell']) ?_; clear HO; intro _ HO)
  refine hK.out _ _ (OwnM.of HO (by repeat (first | exact mH | apply mT))) ?_
  clear hK K
  (try simp only [Act.put, pS0, pS1, pS2])
  refine e_one (i := 5) (by kernel_rfl) rfl (by kernel_rfl) (by rfl) (fun K hK => ?_)
  (with_reducible refine to_store ?_)
  (refine wo_store1u HO rfl rfl rfl (by rfl) (by repeat (first | exact mH | apply mT)) (by (try simp only [List.set_cons_zero, List.set_cons_succ]); rfl) (by repeat (first | exact cH | apply cT)) Tryz.sizeOf29 (by simp) (by rfl) ?_; clear HO; intro _ HO)
  refine hK.out _ _ (OwnM.of HO (by repeat (first | exact mH | apply mT))) ?_
  clear hK K
  (try simp only [Act.put, pS0, pS1, pS2])
  refine ⟨(by kernel_rfl), ?_⟩
  (try with_reducible refine inBlock_normal ?_)
  exact ⟨rfl, _, rfl, .tuple #[], by simp [results, Tryz.results8], rfl, rfl, HO.out.sub (List.sublist_cons_self _ _) (List.Sublist.refl _) (fun c hc => hc)⟩
theorem catch_i (p q : Addr) (w : World) : CallsD Tryz.prog 8 #[.pointer (some p), .pointer (some q)] .returning w fun e u' w' => e = .returned (.tuple #[]) ∧ u' = .returning ∧ w' = w := by
  refine callsD_of_wpS Tryz.func8 rfl fun c₀ cs hu => ?_
  apply wpS_seq
  apply wpS_region
  simp [wpOpsS, go_sem, recoverD, hu, Tryz.ntmps8, Exit.thenS]
  refine wpS_of_wp ?_
  rw [show (#[Value.pointer (some p), Value.pointer (some q)] ++ (Array.replicate 13 undef).setIfInBounds 3 Value.nilIface) = #[Value.pointer (some p), Value.pointer (some q), undef, undef, undef, Value.nilIface, undef, undef, undef, undef, undef, undef, undef, undef, undef] from rfl]
  go_wp2
  exact ⟨rfl, .returning, by cases c₀; simp_all, .tuple #[], by simp [results, Tryz.results8], rfl, rfl, rfl⟩
end
end Go.Proofs.YtdiibenofbcfnaaGreat
