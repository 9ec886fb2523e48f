/- Several texts put together: PasH, SimG, SimH, PasI. -/
import Derived.Test.YtdiibenofbcfnaaBu3
import Derived.Test.YtdiibenofbcfnaaBu36
import Derived.Test.YtdiibenofbcfnaaBu19
import Derived.Test.YtdiibenofbcfnaaBu21
import Derived.Test.YtdiibenofbcfnaaBu13
import Derived.Defers
import Derived.Recover
set_option linter.unusedSimpArgs false
set_option linter.unusedVariables false
namespace Go.Proofs.Ytdiibenofbcfnaa
open Go.RowKit
section
variable {ts : List TokF} {p : Par}
theorem mon_params : Mon (paramsF ts) := by
  unfold paramsF
  refine Mon.sgn.bind fun _ => Mon.ite (Mon.next.bind fun _ => Mon.pure _) (Mon.name.bind fun x => Mon.bind (Mon.iter (fun l => ?_) _ _) fun l => Mon.take.bind fun _ => Mon.pure _)
  unfold paramsS
  exact Mon.next.bind fun _ => Mon.lines.bind fun _ => Mon.name.bind fun _ => Mon.pure _
theorem adv_function (h : PAdv p) {a : Nat} (ha : isW ts a [[102, 117, 110, 99, 116, 105, 111, 110]] = true) : AdvAt (functionF ts p) a := by
  unfold functionF
  exact AdvAt.next (nx_isW ha) fun t => Mon.tok.bind fun n => Mon.ite (Mon.next.bind fun _ => Mon.take.bind fun _ => mon_params.bind fun _ => Mon.lines.bind fun _ => (adv_block h).mon.bind fun _ => Mon.pure _) (Mon.fail _)
theorem adv_rule (h : PAdv p) : Adv (ruleF ts p) := by
  unfold ruleF
  refine Adv.bind2 Mon.tok fun t => ?_
  have hd : ∀ (k x : Nat) (ss : List (List Nat)) (B : PP RuleT), Adv B → Adv (wrdP ts ss >>= fun b => if b = true then headF ts p k x else B) := fun k x ss B hB =>
    Adv.wrd (fun a ha => by simp only [if_true]; unfold headF; exact AdvAt.next (nx_isW ha) fun _ => (adv_block h).mon.bind fun _ => Mon.pure _) (by simp only [Bool.false_eq_true, if_false]; exact hB)
  refine hd _ _ _ _ (hd _ _ _ _ (hd _ _ _ _ (hd _ _ _ _ ?_)))
  refine Adv.sgn (fun a _ => by simp only [if_true]; exact AdvAt.bind1 (adv_block h a) fun _ => Mon.pure _) ?_
  simp only [Bool.false_eq_true, if_false]
  unfold patternF
  refine Adv.bind1 (adv_expr h) fun x => Mon.bind (Mon.sgn.bind fun _ => Mon.ite (Mon.next.bind fun _ => Mon.lines.bind fun _ => (adv_expr h).mon.bind fun _ => Mon.pure _) (Mon.pure _)) fun q => Mon.sgn.bind fun _ => Mon.ite ((adv_block h).mon.bind fun _ => Mon.pure _) (Mon.pure _)
theorem adv_item (h : PAdv p) (t : TreeT) : Adv (itemF ts p t) := by
  unfold itemF
  refine Adv.wrd (fun a ha => by simp only [if_true]; exact AdvAt.bind1 (adv_function h ha) fun _ => Mon.ends.bind fun _ => Mon.pure _) ?_
  simp only [Bool.false_eq_true, if_false]
  exact Adv.bind1 (adv_rule h) fun r => Mon.ite (Mon.close.bind fun _ => Mon.pure _) (Mon.ends.bind fun _ => Mon.pure _)
theorem item_len {t t' : TreeT} {a d a' d' : Nat} (h : itemF ts p t a d = .ok t' a' d') : t'.funcs.length ≤ t.funcs.length + 1 ∧ t'.rules.length ≤ t.rules.length + 1 := by
  unfold itemF at h
  obtain ⟨b, a1, d1, h1, h2⟩ := bind_inv h
  cases b
  · simp only [Bool.false_eq_true, if_false] at h2
    obtain ⟨r, a2, d2, h3, h4⟩ := bind_inv h2
    split at h4
    · obtain ⟨_, a3, d3, h5, h6⟩ := bind_inv h4
      have h' : PR.ok (⟨t.funcs, t.rules ++ [r]⟩ : TreeT) a3 d3 = .ok t' a' d' := h6
      injection h' with e _ _
      subst e
      simp
    · obtain ⟨_, a3, d3, h5, h6⟩ := bind_inv h4
      have h' : PR.ok (⟨t.funcs, t.rules ++ [r]⟩ : TreeT) a3 d3 = .ok t' a' d' := h6
      injection h' with e _ _
      subst e
      simp
  · simp only [if_true] at h2
    obtain ⟨f, a2, d2, h3, h4⟩ := bind_inv h2
    obtain ⟨_, a3, d3, h5, h6⟩ := bind_inv h4
    have h' : PR.ok (⟨t.funcs ++ [f], t.rules⟩ : TreeT) a3 d3 = .ok t' a' d' := h6
    injection h' with e _ _
    subst e
    simp
end
structure TreeAt (w : World) (F : Nat → Prop) (A : Option Addr) (B : Option Addr) (fe : List ElF) (re : List ElR) : Prop where
  rf : RowAt w F A (flatF fe)
  rr : RowAt w F B (flatR re)
  ef : ∀ x ∈ fe, ElF.ok w F x
  er : ∀ x ∈ re, ElR.ok w F x
theorem TreeAt.st {w w' : World} {F F' : Nat → Prop} {A B : Option Addr} {fe : List ElF} {re : List ElR} (hF : ∀ b, F b → F' b ∧ w'.heap[b]? = w.heap[b]?) (h : TreeAt w F A B fe re) : TreeAt w' F' A B fe re := ⟨h.rf.st hF, h.rr.st hF, fun x hx => (h.ef x hx).st hF, fun x hx => (h.er x hx).st hF⟩
def VTree : World → World → TreeT → Value → Prop := fun w0 W t v => ∃ (fe : List ElF) (re : List ElR) (A : Option Addr) (c : Nat) (B : Option Addr) (e : Nat), t = ⟨fe.map (·.1), re.map (·.1)⟩ ∧ v = .agg #[.slice A fe.length c, .slice B re.length e] ∧ fe.length ≤ c ∧ re.length ≤ e ∧ TreeAt W (fun b => w0.heap.size ≤ b ∧ b < W.heap.size) A B fe re
section
variable {w0 w W : World} {g h a d n : Nat} {ts : List TokF} {p : Par} {β : Type} {R : PR β} {T : Ending → World → Prop} {k : TreeT → PP β} {bs : List Bx} {fe : List ElF} {re : List ElR} {vF vR : Value}
theorem arm_item (H_function : Hid (FC 30 #[.pointer (some ⟨g, 0, none⟩)] (functionF ts p) VFunc g ts n)) (H_rule : Hid (FC 31 #[.pointer (some ⟨g, 0, none⟩)] (ruleF ts p) VRule g ts n))
    (HO : Hid (Own w0 [g] (PS g ts a d) (⟨h, 27, [vF, vR]⟩ :: bs) [⟨55, 11, vF, fe.length, flatF fe⟩, ⟨42, 12, vR, re.length, flatR re⟩] [Cold.elsF fe, Cold.elsR re, Cold.kids none []] w)) (HF : Hid ((itemF ts p ⟨fe.map (·.1), re.map (·.1)⟩ >>= k) a d = R)) (hg : g < w0.heap.size) (hn : 65 ≤ d + n) (hl1 : fe.length ≤ 100001) (hl2 : re.length ≤ 100001)
    (hok : ∀ (fe' : List ElF) (re' : List ElR) vF' vR' a' W, itemF ts p ⟨fe.map (·.1), re.map (·.1)⟩ a d = .ok ⟨fe'.map (·.1), re'.map (·.1)⟩ a' d → Hid (Own w0 [g] (PS g ts a' d) (⟨h, 27, [vF', vR']⟩ :: bs) [⟨55, 11, vF', fe'.length, flatF fe'⟩, ⟨42, 12, vR', re'.length, flatR re'⟩] [Cold.elsF fe', Cold.elsR re', Cold.kids none []] W) → a ≤ a' → Hid (k ⟨fe'.map (·.1), re'.map (·.1)⟩ a' d = R) → T (.returned (.tuple #[])) W)
    (herr : ∀ v pl e W, Hid (FailV W w0.heap.size v pl e) → Hid (Kept [g] w0 W) → Hid (R = .err pl e) → T (.panicked [{ v := v, recovered := false }]) W) : Calls Try.prog 17 #[.pointer (some ⟨g, 0, none⟩), .pointer (some ⟨h, 0, none⟩)] w T := by
  refine (pitem_any p g h ts n H_function.out H_rule.out HO hg hn hl1 hl2).mono fun e W hp => ?_
  unfold PPost at hp
  cases hr : itemF ts p ⟨fe.map (·.1), re.map (·.1)⟩ a d with
  | ok x a' d' =>
    rw [hr] at hp
    obtain ⟨v, rfl, ⟨rfl, fe', re', vF', vR', St, rfl, hO⟩, hs, hk, ha, rfl⟩ := hp
    exact hok fe' re' vF' vR' a' W hr (Lib.hid (own_st hO (PS.loc hg) hs)) ha (Lib.hid (bind_ok hr HF.out))
  | err pl q =>
    rw [hr] at hp
    obtain ⟨v, rfl, hv, hk⟩ := hp
    exact herr v pl q W (Lib.hid hv) (Lib.hid hk) (Lib.hid (bind_err hr HF.out))
theorem iter_stepP {α : Type} (go : Nat → Bool) (step : α → PP α) (f : Nat) (x : α) (a d : Nat) : iter go step (f + 1) x a d = if go a = true then (step x >>= fun z => iter go step f z) a d else (pure x : PP α) a d := rfl
theorem bp_tree {F : List Cold} {a0 : Nat} {R : PR TreeT} {v : Value} {d' : Nat} {A B : Option Addr} {c e : Nat} (HO : Hid (Own w0 [g] (PS g ts a d') bs [] F W)) (HF : Hid ((pure ⟨fe.map (·.1), re.map (·.1)⟩ : PP TreeT) a d' = R)) (hc : fe.length ≤ c) (he : re.length ≤ e) (m1 : Cold.elsF fe ∈ F) (m2 : Cold.elsR re ∈ F) (m3 : Cold.row A (flatF fe) ∈ F) (m4 : Cold.row B (flatR re) ∈ F) (hv : v = .agg #[.slice A fe.length c, .slice B re.length e]) (ha : a0 ≤ a) : PPost g ts w0 a0 d' R VTree (.returned v) W := by
  have hF : ∀ b, (w0.heap.size ≤ b ∧ b < W.heap.size ∧ b ∉ hot bs []) → (w0.heap.size ≤ b ∧ b < W.heap.size) ∧ W.heap[b]? = W.heap[b]? := fun b hb => ⟨⟨hb.1, hb.2.1⟩, rfl⟩
  refine bp_ok HO HF ha rfl ⟨fe, re, A, c, B, e, rfl, hv, hc, he, ?_, ?_, ?_, ?_⟩
  · exact RowAt.st hF (HO.out.cold _ m3)
  · exact RowAt.st hF (HO.out.cold _ m4)
  · exact fun x hx => ElF.ok.st hF (HO.out.cold _ m1 x hx)
  · exact fun x hx => ElR.ok.st hF (HO.out.cold _ m2 x hx)
end
set_option maxRecDepth 100000 in
set_option maxHeartbeats 3200000 in
theorem pprogram_any (p : Par) (HA : PAdv p) (g : Nat) (ts : List TokF) (n : Nat) (H_function : FC 30 #[.pointer (some ⟨g, 0, none⟩)] (functionF ts p) VFunc g ts n) (H_rule : FC 31 #[.pointer (some ⟨g, 0, none⟩)] (ruleF ts p) VRule g ts n) : FC 10 #[.pointer (some ⟨g, 0, none⟩)] (programF ts p) VTree g ts n := by
  intro w a d m hn
  obtain ⟨R, hR⟩ : ∃ R, (programF ts p) a d = R := ⟨_, rfl⟩
  rw [hR]
  have HF := Lib.hid hR
  have HO := m.ownN
  have hg := m.lt
  unfold programF at HF
  clear hR m
  have hts := HO.out.st.ok.len
  have C_function := Lib.hid H_function
  have C_rule := Lib.hid H_rule
  go_enter Try.func10, Try.ntmps10
  (repeat' (first | (with_reducible first | refine oXt ?_ | refine oXb ?_) | ((with_reducible refine ib_miss ?_ ?_); exact rfl) | ((first | ((with_reducible refine to_load ?_); first | refine oL1 HO rfl rfl ?_ | refine oL2 HO rfl rfl ?_ | refine oL3 HO rfl rfl ?_) | ((with_reducible refine to_field ?_); refine oF1 rfl ?_; refine ⟨_, _, _, _, _, _, _, _, rfl, rfl, inferInstance, ?_⟩) | ((first | with_reducible refine oAl HO ?_); clear HO; intro _ HO)); (try simp only [Act.put, pS0, pS1, pS2])) | ((first | ((with_reducible refine to_store ?_); first | refine oT1 HO rfl rfl rfl ?_ | refine oT2 HO rfl rfl rfl (by rfl) ?_ | refine oT3 HO rfl rfl rfl rfl ?_) | with_reducible refine ab_drew HO ?_); clear HO; intro _ HO) | ((with_reducible refine to_store ?_); first | (refine wo_storeR HO rfl rfl rfl rfl (by repeat (first | exact mH | apply mT)) (by repeat (first | exact cH | apply cT)) Try.sizeOf40 (by simp [Value.oneCell']) ?_; clear HO; intro _ HO) | (refine wo_storeF HO rfl rfl rfl rfl (by repeat (first | exact mH | apply mT)) (by repeat (first | exact cH | apply cT)) Try.sizeOf40 (by simp [Value.oneCell']) ?_; clear HO; intro _ HO)) | ((go_big_may; first | (go_at_call 15; refine arm_unit (n := 65) (Lib.hid (pends_any _ _ _)) HO HF hg (by omega) ?_ ?_; rotate_left; (intro v pl e W h1 h2 h3; first | (exact bp_panic2 rfl h1 h2 h3) | ((try dsimp only); (repeat (first | go_big_open | (simp only [Exit.then, Exit.inBlock]))); exact bp_panic2 rfl h1 h2 h3)); clear HO HF; intro _ _ HO hle HF) | fail) <;> (try dsimp only)) | go_values | go_skip | go_guarded | go_step | go_upon | (go_ite <;> go_prune <;> (try go_simp))))
  obtain ⟨b3, hb3⟩ := own_name HO
  rw [← hb3] at HO ⊢
  clear hb3
  have haq := HO.out.st.ha
  go_loopw [] (fun W => ∃ (fe : List ElF) (re : List ElR) (vF vR : Value) (f q : Nat), fe.length ≤ q ∧ re.length ≤ q ∧ a ≤ q ∧ ts.length ≤ f + q ∧ Hid (iter (fun a => !(((tk ts a).k : Int) == 0)) (itemF ts p) f ⟨fe.map (·.1), re.map (·.1)⟩ q d = R) ∧ Hid (Own w [g] (PS g ts q d) [⟨b3, 27, [vF, vR]⟩, ⟨w.heap.size, 27, [.slice none 0 0, .slice none 0 0]⟩] [⟨55, 11, vF, fe.length, flatF fe⟩, ⟨42, 12, vR, re.length, flatR re⟩] [Cold.elsF fe, Cold.elsR re, Cold.kids none []] W)) (fun W => ts.length - (intOf ((W.cell? ⟨g, 1, none⟩).getD undef)).toNat)
  case atStart => exact ⟨[], [], _, _, ts.length, _, Nat.zero_le _, Nat.zero_le _, by omega, by omega, HF, Lib.hid ((((HO.out.nilRow 42 12).nilRow 55 11).coldAll (Cold.elsR []) (fun x hx => by cases hx)).coldAll (Cold.elsF []) (fun x hx => by cases hx))⟩
  case round =>
    clear HO HF hle haq
    obtain ⟨fe, re, vF, vR, f, q, hl1, hl2, hab, hf, HF, HO⟩ := hrel
    have hq := HO.out.st.ha
    obtain ⟨f, rfl⟩ : ∃ f', f = f' + 1 := ⟨f - 1, by omega⟩
    have HS := Lib.hid HO.out.st
    rw [iter_stepP] at HF
    cases hk : (((tk ts q).k : Int) == 0)
    · have hn0 : (((tk ts q).k : Int) != 0) = true := by rw [bne, hk]; rfl
      simp only [hk, Bool.not_false, if_true] at HF
      (repeat' (first | (with_reducible first | refine oXt ?_ | refine oXb ?_) | ((with_reducible refine ib_miss ?_ ?_); exact rfl) | ((first | ((with_reducible refine to_load ?_); first | refine oL1 HO rfl rfl ?_ | refine oL2 HO rfl rfl ?_ | refine oL3 HO rfl rfl ?_) | ((with_reducible refine to_field ?_); refine oF1 rfl ?_; refine ⟨_, _, _, _, _, _, _, _, rfl, rfl, inferInstance, ?_⟩) | ((first | with_reducible refine oAl HO ?_); clear HO; intro _ HO)); (try simp only [Act.put, pS0, pS1, pS2])) | ((first | ((with_reducible refine to_store ?_); first | refine oT1 HO rfl rfl rfl ?_ | refine oT2 HO rfl rfl rfl (by rfl) ?_ | refine oT3 HO rfl rfl rfl rfl ?_) | with_reducible refine ab_drew HO ?_); clear HO; intro _ HO) | ((with_reducible refine to_store ?_); first | (refine wo_storeR HO rfl rfl rfl rfl (by repeat (first | exact mH | apply mT)) (by repeat (first | exact cH | apply cT)) Try.sizeOf40 (by simp [Value.oneCell']) ?_; clear HO; intro _ HO) | (refine wo_storeF HO rfl rfl rfl rfl (by repeat (first | exact mH | apply mT)) (by repeat (first | exact cH | apply cT)) Try.sizeOf40 (by simp [Value.oneCell']) ?_; clear HO; intro _ HO)) | ((go_big_may; first | (go_at_call 16; first | (refine arm_tokF HO HF rfl rfl ?_; clear HO HF; intro _ HO HF) | (refine arm_tok HO rfl rfl ?_; clear HO; intro _ HO)) | (go_at_call 17; refine arm_item C_function C_rule HO HF hg (by omega) (by omega) (by omega) ?_ ?_; rotate_left; (intro v pl e W h1 h2 h3; first | (exact bp_panic2 rfl h1 h2 h3) | ((try dsimp only); (repeat (first | go_big_open | (simp only [Exit.then, Exit.inBlock]))); exact bp_panic2 rfl h1 h2 h3)); clear HO HF; intro feN reN vFN vRN aN WN hres HO hle HF) | fail) <;> (try dsimp only)) | go_values | go_skip | go_guarded | go_step | go_upon | (go_ite <;> go_prune <;> (try go_simp))))
      have hadv := adv_item HA _ _ _ _ _ _ hres
      have hlen := item_len hres
      dsimp only at hlen
      simp only [List.length_map] at hlen
      go_roundw
      case rel => exact ⟨_, _, _, _, f, _, by omega, by omega, by omega, by omega, HF, HO⟩
      case measure => exact pmeas HS.out HO.out.st (by omega)
    · have hn0 : (((tk ts q).k : Int) != 0) = false := by rw [bne, hk]; rfl
      simp only [hk, Bool.not_true, Bool.false_eq_true, if_false] at HF
      obtain ⟨A9, c9, e9, hc9, HO9⟩ := HO.out.freezeG (fun h => by rw [List.length_eq_zero_iff.1 h]; rfl)
      obtain ⟨B9, c8, e8, hc8, HO8⟩ := HO9.freezeG (fun h => by rw [List.length_eq_zero_iff.1 h]; rfl)
      dsimp only at e9 e8 hc9 hc8
      subst e9 e8
      clear HO HO9
      have HO := Lib.hid HO8
      clear HO8
      (repeat' (first | (with_reducible first | refine oXt ?_ | refine oXb ?_) | ((with_reducible refine ib_miss ?_ ?_); exact rfl) | ((first | ((with_reducible refine to_load ?_); first | refine oL1 HO rfl rfl ?_ | refine oL2 HO rfl rfl ?_ | refine oL3 HO rfl rfl ?_) | ((with_reducible refine to_field ?_); refine oF1 rfl ?_; refine ⟨_, _, _, _, _, _, _, _, rfl, rfl, inferInstance, ?_⟩) | ((first | with_reducible refine oAl HO ?_); clear HO; intro _ HO)); (try simp only [Act.put, pS0, pS1, pS2])) | ((first | ((with_reducible refine to_store ?_); first | refine oT1 HO rfl rfl rfl ?_ | refine oT2 HO rfl rfl rfl (by rfl) ?_ | refine oT3 HO rfl rfl rfl rfl ?_) | with_reducible refine ab_drew HO ?_); clear HO; intro _ HO) | ((with_reducible refine to_store ?_); first | (refine wo_storeR HO rfl rfl rfl rfl (by repeat (first | exact mH | apply mT)) (by repeat (first | exact cH | apply cT)) Try.sizeOf40 (by simp [Value.oneCell']) ?_; clear HO; intro _ HO) | (refine wo_storeF HO rfl rfl rfl rfl (by repeat (first | exact mH | apply mT)) (by repeat (first | exact cH | apply cT)) Try.sizeOf40 (by simp [Value.oneCell']) ?_; clear HO; intro _ HO)) | ((go_big_may; first | (go_at_call 16; first | (refine arm_tokF HO HF rfl rfl ?_; clear HO HF; intro _ HO HF) | (refine arm_tok HO rfl rfl ?_; clear HO; intro _ HO)) | fail) <;> (try dsimp only)) | go_values | go_skip | go_guarded | go_step | go_upon | (go_ite <;> go_prune <;> (try go_simp))))
      refine bp_cell HO (t := 2) (ty := 27) rfl rfl (by repeat (first | exact mH | apply mT)) Try.isAgg27 Try.sizeOf27 (by rfl) rfl ?_
      exact bp_tree HO HF hc9 hc8 (by repeat (first | exact mH | apply mT)) (by repeat (first | exact mH | apply mT)) (by repeat (first | exact mH | apply mT)) (by repeat (first | exact mH | apply mT)) rfl (by omega)
open Go.RowKit
def erF (f : FuncT) : List Nat × List (List Nat) × NodeT := (f.name, f.params, er f.body)
def erR (r : RuleT) : Nat × List NodeT × NodeT × Bool := (r.k, erL r.l, er r.body, r.bare)
theorem FR.er {f g : FuncT} (h : FR f g) : erF f = erF g := by unfold erF; rw [h.1, h.2.1, h.2.2]
theorem RR.er {f g : RuleT} (h : RR f g) : erR f = erR g := by unfold erR; rw [h.1, h.2.1, h.2.2.1, h.2.2.2]
structure TR (X t u : TreeT) : Prop where
  f : u.funcs.map erF = X.funcs.map erF ++ t.funcs.map erF
  r : u.rules.map erR = X.rules.map erR ++ t.rules.map erR
def nilT : TreeT := ⟨[], []⟩
def ItemR (ts : List TokF) (p : Par) (t : TreeT) (a d a2 : Nat) (t1 : TreeT) (d1 : Nat) : Prop :=
  (isW ts a [[102, 117, 110, 99, 116, 105, 111, 110]] = true ∧ ∃ f, functionF ts p a d = .ok f a2 d1 ∧ t1 = ⟨t.funcs ++ [f], t.rules⟩) ∨
  (isW ts a [[102, 117, 110, 99, 116, 105, 111, 110]] = false ∧ ∃ r, ruleF ts p a d = .ok r a2 d1 ∧ (r.bare = true → overA ts a2 = true) ∧ t1 = ⟨t.funcs, t.rules ++ [r]⟩)
theorem item_inv {ts : List TokF} {p : Par} {t t1 : TreeT} {a d a1 d1 : Nat} (h : itemF ts p t a d = .ok t1 a1 d1) : ∃ a2, a1 = endsF ts ts.length a2 ∧ ItemR ts p t a d a2 t1 d1 := by
  unfold itemF at h
  have h' : (fun b : Bool => if b = true then (functionF ts p >>= fun f => endsP ts >>= fun _ => pure (⟨t.funcs ++ [f], t.rules⟩ : TreeT)) else (ruleF ts p >>= fun r => if r.bare = true then closeP ts >>= fun _ => pure (⟨t.funcs, t.rules ++ [r]⟩ : TreeT) else endsP ts >>= fun _ => pure (⟨t.funcs, t.rules ++ [r]⟩ : TreeT))) (isW ts a [[102, 117, 110, 99, 116, 105, 111, 110]]) a d = .ok t1 a1 d1 := h
  dsimp only at h'
  cases hw : isW ts a [[102, 117, 110, 99, 116, 105, 111, 110]]
  · rw [hw] at h'
    simp only [Bool.false_eq_true, if_false] at h'
    obtain ⟨r, a2, d2, h1, h2⟩ := bind_inv h'
    have hend : ∀ (bb : Bool), (endsP ts >>= fun _ => pure (⟨t.funcs, t.rules ++ [r]⟩ : TreeT)) a2 d2 = .ok t1 a1 d1 → (bb = true → overA ts a2 = true) → r.bare = bb → ∃ a2, a1 = endsF ts ts.length a2 ∧ ItemR ts p t a d a2 t1 d1 := fun bb h3 h4 h5 => by
      have h' : PR.ok (⟨t.funcs, t.rules ++ [r]⟩ : TreeT) (endsF ts ts.length a2) d2 = .ok t1 a1 d1 := h3
      injection h' with e1 e2 e3
      subst e1 e2 e3
      exact ⟨a2, rfl, .inr ⟨hw, r, h1, fun h => h4 (h5 ▸ h), rfl⟩⟩
    cases hb : r.bare
    · rw [hb] at h2
      simp only [Bool.false_eq_true, if_false] at h2
      exact hend false h2 (fun h => by cases h) hb
    · rw [hb] at h2
      simp only [if_true] at h2
      obtain ⟨_, a3, d3, h3, h4⟩ := bind_inv h2
      unfold closeP at h3
      have h3' : (if overA ts a2 = true then endsP ts else failP ts 4) a2 d2 = .ok () a3 d3 := h3
      split at h3'
      · rename_i ho
        have h5 : PR.ok () (endsF ts ts.length a2) d2 = .ok () a3 d3 := h3'
        injection h5 with _ e2 e3
        subst e2 e3
        exact hend true h4 (fun _ => ho) hb
      · cases h3'
  · rw [hw] at h'
    simp only [if_true] at h'
    obtain ⟨f, a2, d2, h1, h2⟩ := bind_inv h'
    have h3 : PR.ok (⟨t.funcs ++ [f], t.rules⟩ : TreeT) (endsF ts ts.length a2) d2 = .ok t1 a1 d1 := h2
    injection h3 with e1 e2 e3
    subst e1 e2 e3
    exact ⟨a2, rfl, .inl ⟨hw, f, h1, rfl⟩⟩
theorem item_of {ts : List TokF} {p : Par} {t t1 : TreeT} {a d a2 d1 : Nat} (h : ItemR ts p t a d a2 t1 d1) : itemF ts p t a d = .ok t1 (endsF ts ts.length a2) d1 := by
  unfold itemF
  show (fun b : Bool => if b = true then (functionF ts p >>= fun f => endsP ts >>= fun _ => pure (⟨t.funcs ++ [f], t.rules⟩ : TreeT)) else (ruleF ts p >>= fun r => if r.bare = true then closeP ts >>= fun _ => pure (⟨t.funcs, t.rules ++ [r]⟩ : TreeT) else endsP ts >>= fun _ => pure (⟨t.funcs, t.rules ++ [r]⟩ : TreeT))) (isW ts a [[102, 117, 110, 99, 116, 105, 111, 110]]) a d = _
  dsimp only
  rcases h with ⟨hw, f, h1, rfl⟩ | ⟨hw, r, h1, h2, rfl⟩
  · rw [hw, if_pos rfl]
    show PP.bind _ _ a d = _
    unfold PP.bind
    rw [h1]
    rfl
  · rw [hw, if_neg (by decide)]
    show PP.bind _ _ a d = _
    unfold PP.bind
    rw [h1]
    dsimp only
    cases hb : r.bare
    · rfl
    · simp only [if_true]
      show PP.bind _ _ a2 d1 = _
      unfold PP.bind closeP
      have : (askP (overA ts) >>= fun b => if b = true then endsP ts else failP ts 4) a2 d1 = (if overA ts a2 = true then endsP ts else failP ts 4) a2 d1 := rfl
      rw [this, h2 hb, if_pos rfl]
      rfl
theorem k_word {ts : List TokF} {a : Nat} {ss : List (List Nat)} (h : isW ts a ss = true) : 2 ≤ (tk ts a).k := by rw [k_isW h]; decide
theorem item_sim {C : Cx} {p q : Par} (L : Lg C) (h : PSim C p q) (hA : PAdv p) (hB : PAdv q) {X t u t1 : TreeT} {b a d b2 d1 : Nat} (hrel : C.rel b a) (hu : TR X t u) (hi : ItemR C.fs p t b d b2 t1 d1) : ∃ a2 u1, C.rel b2 a2 ∧ b < b2 ∧ a < a2 ∧ ItemR C.gs q u a d a2 u1 d1 ∧ TR X t1 u1 := by
  rcases hi with ⟨hw, f, h1, rfl⟩ | ⟨hw, r, h1, h2, rfl⟩
  · have hw2 := L.isW hrel [[102, 117, 110, 99, 116, 105, 111, 110]]
    obtain ⟨g, a2, hg, hfg, hr2⟩ := (sim_function L h hA hB (b := b) (a := a) (k_word hw)).sim _ _ _ _ hrel h1 (.inl rfl)
    refine ⟨a2, ⟨u.funcs ++ [g], u.rules⟩, hr2, adv_function hA hw _ _ _ _ h1, adv_function hB (hw2 ▸ hw) _ _ _ _ hg, .inl ⟨hw2 ▸ hw, g, hg, rfl⟩, ⟨?_, hu.r⟩⟩
    rw [List.map_append, List.map_append, hu.f, List.append_assoc]
    simp [hfg.er]
  · have hw2 := L.isW hrel [[102, 117, 110, 99, 116, 105, 111, 110]]
    obtain ⟨s, a2, hg, hfg, hr2⟩ := (sim_rule L h hA hB b a).sim _ _ _ _ hrel h1 (.inl rfl)
    refine ⟨a2, ⟨u.funcs, u.rules ++ [s]⟩, hr2, adv_rule hA _ _ _ _ _ h1, adv_rule hB _ _ _ _ _ hg, .inr ⟨hw2 ▸ hw, s, hg, fun hb => ?_, rfl⟩, ⟨hu.f, ?_⟩⟩
    · rw [← L.over _ _ hr2]
      exact h2 (hfg.2.2.2 ▸ hb)
    · rw [List.map_append, List.map_append, hu.r, List.append_assoc]
      simp [hfg.er]
def goP (ts : List TokF) (a : Nat) : Bool := !(((tk ts a).k : Int) == 0)
theorem goP_ne {ts : List TokF} {a : Nat} (h : (tk ts a).k ≠ 0) : goP ts a = true := by
  unfold goP
  have : (((tk ts a).k : Int) == 0) = false := by rw [beq_eq_false_iff_ne]; omega
  rw [this]; rfl
theorem goP_zero {ts : List TokF} {a : Nat} (h : (tk ts a).k = 0) : goP ts a = false := by unfold goP; rw [h]; rfl
theorem iterP_step {ts : List TokF} {p : Par} {f : Nat} {t : TreeT} {a d : Nat} (h : goP ts a = true) : iter (goP ts) (itemF ts p) (f + 1) t a d = (itemF ts p t >>= fun z => iter (goP ts) (itemF ts p) f z) a d := by rw [iter_stepP, if_pos h]
theorem iterP_stop {ts : List TokF} {p : Par} {f : Nat} {t : TreeT} {a d : Nat} (h : goP ts a = false) : iter (goP ts) (itemF ts p) f t a d = .ok t a d := by
  cases f with
  | zero => rfl
  | succ f => rw [iter_stepP, if_neg (by rw [h]; decide)]; rfl
theorem bind_step {α β : Type} {m : PP α} {k : α → PP β} {a d : Nat} {x : α} {a1 d1 : Nat} (h : m a d = .ok x a1 d1) : (m >>= k) a d = k x a1 d1 := by
  show PP.bind m k a d = _
  unfold PP.bind
  rw [h]
section
variable {ts us : List TokF} {n m : Nat}
theorem Fst.ends (h : Fst ts us n m) {b : Nat} (hb : b ≤ n) : endsF ts ts.length b ≤ n ∧ endsF us us.length b = if endsF ts ts.length b < n then endsF ts ts.length b else endsF us us.length n := by
  rw [endsF_go, endsF_go, endsF_go]
  have hs := goF_stop (f := ts.length) h.t.end0 hb (by rw [h.t.len]; omega)
  refine ⟨hs.1, ?_⟩
  have hpq : ∀ i, i < n → endA ts i = endA us i := fun i hi => by unfold endA isS; rw [h.same i hi]
  split
  · rename_i hl
    exact h.go hpq h.t.end0 hb hl
  · rename_i hl
    obtain ⟨g1, g2, g3, g4⟩ := goF_spec (endA ts) ts.length b
    have hn : goF (endA ts) ts.length b = n := by omega
    have hsu := goF_stop (p := endA us) (f := us.length) (a := n) h.u.end0 (by have := h.nm; omega) (by rw [h.u.len]; omega)
    obtain ⟨k1, k2, k3, k4⟩ := goF_spec (endA us) us.length n
    refine goF_of _ _ _ (by omega) (fun i hi1 hi2 => ?_) hsu.2 (by have := hsu.1; have := h.u.len; omega)
    rcases Nat.lt_or_ge i n with hin | hin
    · rw [← hpq i hin]; exact g3 i hi1 (by omega)
    · exact k3 i hin hi2
theorem joinA (h : Fst ts us n m) {p q : Par} (hp : PSim (CxF ts us n) p q) (hA : PAdv p) (hB : PAdv q) (E : Nat) (hE : E = endsF us us.length n) (hEn : n ≤ E) : ∀ (f : Nat) (t : TreeT) (b d : Nat) (T : TreeT) (b' d' : Nat), b ≤ n → n + 1 ≤ f + b → iter (goP ts) (itemF ts p) f t b d = .ok T b' d' → ∀ (u : TreeT) (f' : Nat), TR nilT t u → us.length ≤ f' + (if b < n then b else E) → ∃ U f2, TR nilT T U ∧ us.length ≤ f2 + E ∧ iter (goP us) (itemF us q) f' u (if b < n then b else E) d = iter (goP us) (itemF us q) f2 U E d'
  | 0, t, b, d, T, b', d', hb, hf, hi, u, f', hu, hf' => by
    obtain rfl : b = n := by omega
    rw [if_neg (Nat.lt_irrefl _)] at hf' ⊢
    rw [iterP_stop (goP_zero h.t.last.1)] at hi
    injection hi with e1 e2 e3
    subst e1 e2 e3
    exact ⟨u, f', hu, hf', rfl⟩
  | f + 1, t, b, d, T, b', d', hb, hf, hi, u, f', hu, hf' => by
    rcases Nat.lt_or_ge b n with hl | hl
    · rw [if_pos hl] at hf' ⊢
      rw [iterP_step (goP_ne (h.t.more b hl))] at hi
      obtain ⟨t1, b1, d1, h1, h2⟩ := bind_inv hi
      obtain ⟨b2, rfl, hir⟩ := item_inv h1
      obtain ⟨a2, u1, ⟨rfl, hb2⟩, hlt, _, hir2, htr⟩ := item_sim h.lg hp hA hB (C := CxF ts us n) (b := b) (a := b) ⟨rfl, hb⟩ hu hir
      replace hir2 : ItemR us q u b d b2 u1 d1 := hir2
      obtain ⟨f'', rfl⟩ : ∃ f'', f' = f'' + 1 := ⟨f' - 1, by have := h.u.len; have := h.nm; omega⟩
      have he := h.ends hb2
      rw [iterP_step (goP_ne (by rw [h.same b hl]; exact h.t.more b hl)), bind_step (item_of hir2)]
      show ∃ U f2, TR nilT T U ∧ us.length ≤ f2 + E ∧ iter (goP us) (itemF us q) f'' u1 (endsF us us.length b2) d1 = _
      have hle := (goF_spec (endA ts) ts.length b2).1
      rw [← endsF_go] at hle
      have he2 : endsF us us.length b2 = if endsF ts ts.length b2 < n then endsF ts ts.length b2 else E := by rw [hE]; exact he.2
      rw [he2]
      exact joinA h hp hA hB E hE hEn f t1 _ d1 T b' d' he.1 (by omega) h2 u1 f'' htr (by
        split
        · omega
        · omega)
    · obtain rfl : b = n := by omega
      rw [if_neg (Nat.lt_irrefl _)] at hf' ⊢
      rw [iterP_stop (goP_zero h.t.last.1)] at hi
      injection hi with e1 e2 e3
      subst e1 e2 e3
      exact ⟨u, f', hu, hf', rfl⟩
end
section
variable {ts us : List TokF} {n m o : Nat}
theorem Mvd.ends (h : Mvd ts us n m o) {b : Nat} (hb : b ≤ n) : endsF ts ts.length b ≤ n ∧ endsF us us.length (o + b) = o + endsF ts ts.length b := by
  rw [endsF_go, endsF_go]
  exact h.go (fun i hi => by unfold endA; rw [(h.same i hi).1, h.isSM hi]) h.t.end0 hb
theorem joinB (h : Mvd ts us n m o) {p q : Par} (hp : PSim (CxM ts us n o) p q) (hA : PAdv p) (hB : PAdv q) {X : TreeT} : ∀ (f : Nat) (t : TreeT) (b d : Nat) (T : TreeT) (b' d' : Nat), b ≤ n → n + 1 ≤ f + b → iter (goP ts) (itemF ts p) f t b d = .ok T b' d' → ∀ (u : TreeT) (f' : Nat), TR X t u → us.length ≤ f' + (o + b) → ∃ U, TR X T U ∧ iter (goP us) (itemF us q) f' u (o + b) d = .ok U (o + b') d'
  | 0, t, b, d, T, b', d', hb, hf, hi, u, f', hu, hf' => by
    obtain rfl : b = n := by omega
    rw [iterP_stop (goP_zero h.t.last.1)] at hi
    injection hi with e1 e2 e3
    subst e1 e2 e3
    exact ⟨u, hu, iterP_stop (goP_zero (by rw [← (h.same b (Nat.le_refl _)).1]; exact h.t.last.1))⟩
  | f + 1, t, b, d, T, b', d', hb, hf, hi, u, f', hu, hf' => by
    rcases Nat.lt_or_ge b n with hl | hl
    · rw [iterP_step (goP_ne (h.t.more b hl))] at hi
      obtain ⟨t1, b1, d1, h1, h2⟩ := bind_inv hi
      obtain ⟨b2, rfl, hir⟩ := item_inv h1
      obtain ⟨a2, u1, ⟨hb2, rfl⟩, hlt, _, hir2, htr⟩ := item_sim h.lg hp hA hB (C := CxM ts us n o) (b := b) (a := o + b) ⟨hb, rfl⟩ hu hir
      replace hir2 : ItemR us q u (o + b) d (o + b2) u1 d1 := hir2
      obtain ⟨f'', rfl⟩ : ∃ f'', f' = f'' + 1 := ⟨f' - 1, by have := h.u.len; have := h.om; omega⟩
      have he := h.ends hb2
      rw [iterP_step (goP_ne (by rw [← (h.same b hb).1]; exact h.t.more b hl)), bind_step (item_of hir2)]
      show ∃ U, TR X T U ∧ iter (goP us) (itemF us q) f'' u1 (endsF us us.length (o + b2)) d1 = _
      have hle := (goF_spec (endA ts) ts.length b2).1
      rw [← endsF_go] at hle
      rw [he.2]
      exact joinB h hp hA hB f t1 _ d1 T b' d' he.1 (by omega) h2 u1 f'' htr (by omega)
    · obtain rfl : b = n := by omega
      rw [iterP_stop (goP_zero h.t.last.1)] at hi
      injection hi with e1 e2 e3
      subst e1 e2 e3
      exact ⟨u, hu, iterP_stop (goP_zero (by rw [← (h.same b (Nat.le_refl _)).1]; exact h.t.last.1))⟩
end
theorem parseT_eq (ts : List TokF) : parseT ts = iter (goP ts) (itemF ts (par ts 65)) ts.length nilT (endsF ts ts.length 0) 0 := rfl
theorem join_parse {ts ts2 us : List TokF} {n n2 m : Nat} (h1 : Fst ts us n m) (h2 : Mvd ts2 us n2 m (n + 1)) {T1 T2 : TreeT} {b1 d1 b2 d2 : Nat} (p1 : parseT ts = .ok T1 b1 d1) (p2 : parseT ts2 = .ok T2 b2 d2) : ∃ U b d, parseT us = .ok U b d ∧ TR T1 T2 U := by
  rw [parseT_eq] at p1 p2
  have hE : endsF us us.length n = n + 1 + endsF ts2 ts2.length 0 := by
    have h3 := (h2.ends (Nat.zero_le n2)).2
    rw [Nat.add_zero] at h3
    rw [← h3, endsF_go, endsF_go]
    obtain ⟨f, hf⟩ : ∃ f, us.length = f + 1 := ⟨m, h1.u.len⟩
    have hl : endA us n = true := by unfold endA; rw [h1.line.1]; rfl
    obtain ⟨g1, g2, g3, g4⟩ := goF_spec (endA us) us.length (n + 1)
    have hs := goF_stop (p := endA us) (f := us.length) (a := n + 1) h1.u.end0 (by have := h1.nm; omega) (by rw [h1.u.len]; omega)
    refine goF_of _ _ _ (by omega) (fun i hi1 hi2 => ?_) hs.2 (by have := hs.1; have := h1.u.len; omega)
    rcases Nat.eq_or_lt_of_le hi1 with e | e
    · exact e ▸ hl
    · exact g3 i e hi2
  have he := h1.ends (Nat.zero_le n)
  have hEn : n ≤ endsF us us.length n := by rw [hE]; omega
  obtain ⟨U, f2, hU, hf2, hi⟩ := joinA h1 (psim_par h1.lg 65) (padv_par ts 65) (padv_par us 65) _ rfl hEn ts.length nilT _ 0 T1 b1 d1 he.1 (by rw [h1.t.len]; omega) p1 nilT us.length ⟨rfl, rfl⟩ (by split <;> omega)
  have hd : d1 = 0 := Dep.iter (fun t => have := pdep_par ts 65; dep_item t) ts.length nilT _ _ _ _ _ p1
  subst hd
  have he2 := h2.ends (Nat.zero_le n2)
  have hTU : TR T1 nilT U := ⟨by have := hU.f; simpa [nilT] using this, by have := hU.r; simpa [nilT] using this⟩
  rw [hE] at hi hf2
  obtain ⟨V, hV, hi2⟩ := joinB h2 (psim_par h2.lg 65) (padv_par ts2 65) (padv_par us 65) (X := T1) ts2.length nilT _ 0 T2 b2 d2 he2.1 (by rw [h2.t.len]; omega) p2 U f2 hTU hf2
  refine ⟨V, n + 1 + b2, d2, ?_, hV⟩
  rw [parseT_eq, he.2, hE]
  exact hi.trans hi2
open Go.RowKit
theorem passS_leQ : ∀ (l : List Nat) (b : Bool), passS b l ≤ l.length
  | [], b => by cases b <;> simp [passS]
  | c :: r, true => by rw [passS]; have := passS_leQ r false; simp; omega
  | c :: r, false => by
    rw [passS]
    have h1 := passS_leQ r false
    have h2 := passS_leQ r true
    have h3 : (r.takeWhile (· ≠ 10)).length ≤ r.length := (List.takeWhile_prefix _).length_le
    simp only [List.length_cons]
    repeat (first | (split) | omega)
theorem passN_leQ (l : List Nat) : passN l ≤ l.length := passS_leQ l false
theorem tw_ext {p : Nat → Bool} {e0 : Nat} (h : p e0 = false) (es : List Nat) : ∀ l : List Nat, (l ++ e0 :: es).takeWhile p = l.takeWhile p
  | [] => by simp [List.takeWhile_cons, h]
  | c :: r => by
    rw [List.cons_append, List.takeWhile_cons, List.takeWhile_cons, tw_ext h es r]
theorem passS_ext (es : List Nat) : ∀ (l : List Nat) (b : Bool), l.getLast? ≠ some 92 → (b = true → l ≠ []) → passS b (l ++ 10 :: es) = passS b l
  | [], b, _, hb => by
    cases b with
    | true => exact absurd rfl (hb rfl)
    | false => simp [passS]
  | [c], true, _, _ => by simp [passS]
  | c :: d :: r, true, hl, _ => by
    rw [List.cons_append, passS, passS]
    rw [passS_ext es (d :: r) false (by simpa using hl) (fun h => by cases h)]
  | [c], false, hl, _ => by
    have hc : c ≠ 92 := fun e => hl (by rw [e]; rfl)
    rw [List.cons_append, passS, passS, if_neg hc, if_neg hc]
    simp [passS]
  | c :: d :: r, false, hl, _ => by
    have hl2 : (d :: r).getLast? ≠ some 92 := by simpa using hl
    rw [List.cons_append, passS, passS]
    rw [passS_ext es (d :: r) false hl2 (fun h => by cases h), passS_ext es (d :: r) true hl2 (fun _ => by simp)]
    have ht : ((d :: r ++ 10 :: es).takeWhile (· ≠ 10)) = ((d :: r).takeWhile (· ≠ 10)) := tw_ext (p := (· ≠ 10)) (by simp) es (d :: r)
    rw [ht]
    rfl
theorem passN_ext (es : List Nat) {l : List Nat} (hl : l.getLast? ≠ some 92) : passN (l ++ 10 :: es) = passN l := passS_ext es l false hl (fun h => by cases h)
theorem numL_ext (es : List Nat) (l : List Nat) : numL (l ++ 10 :: es) = numL l := by
  have h1 : ((l ++ 10 :: es).takeWhile isDig) = l.takeWhile isDig := tw_ext (by rfl) es l
  have h2 : (l.takeWhile isDig).length ≤ l.length := (List.takeWhile_prefix _).length_le
  unfold numL
  dsimp only
  rw [h1, List.drop_append_of_le_length h2]
  cases hd : l.drop (l.takeWhile isDig).length with
  | nil => rfl
  | cons x r =>
    rw [List.cons_append]
    have h3 : ((r ++ 10 :: es).takeWhile isDig) = r.takeWhile isDig := tw_ext (by rfl) es r
    split
    · rename_i r' e
      injection e with e1 e2
      subst e1 e2
      rw [h3]
      rfl
    · rename_i hne
      split
      · rename_i r' e
        injection e with e1 e2
        exact absurd (by rw [e1]) (hne _)
      · rfl
theorem quotS_ext (sign : Nat) (m : List Nat) : ∀ (r : List Nat) (e : Bool) (n : Nat), quotS sign e r = some n → quotS sign e (r ++ m) = some n
  | [], e, n, h => by cases e <;> simp [quotS] at h
  | c :: r, e, n, h => by
    rw [List.cons_append]
    rw [quotS] at h ⊢
    split at h
    · cases h
    · rename_i h10
      rw [if_neg h10]
      cases e with
      | true =>
        simp only [if_true] at h ⊢
        cases hq : quotS sign false r with
        | none => rw [hq] at h; cases h
        | some k => rw [hq] at h; rw [quotS_ext sign m r false k hq]; exact h
      | false =>
        simp only [Bool.false_eq_true, if_false] at h ⊢
        split at h
        · rename_i hs; rw [if_pos hs]; exact h
        · rename_i hs
          rw [if_neg hs]
          cases hq : quotS sign (decide (c = 92)) r with
          | none => rw [hq] at h; cases h
          | some k => rw [hq] at h; rw [quotS_ext sign m r _ k hq]; exact h
theorem nameN_ext (es : List Nat) (l : List Nat) : nameN (l ++ 10 :: es) = nameN l := by
  unfold nameN
  rw [tw_ext (p := fun c => isLet c || isDig c) (by rfl) es l]
theorem nameN_le (l : List Nat) : nameN l ≤ l.length := (List.takeWhile_prefix _).length_le
theorem nameK_ext (es : List Nat) (l : List Nat) : nameK (l ++ 10 :: es) = nameK l := by
  unfold nameK
  rw [nameN_ext, List.take_append_of_le_length (nameN_le l), List.drop_append_of_le_length (nameN_le l)]
  cases l.drop (nameN l) with
  | nil => simp
  | cons x r => rfl
theorem dbl_nl (c : Nat) : [c, 10] ∉ doubleL := by
  intro h
  simp [doubleL] at h
theorem signN_ext (es : List Nat) (c : Nat) (r : List Nat) : signN (c :: r ++ 10 :: es) = signN (c :: r) := by
  unfold signN
  cases r with
  | nil => simp [dbl_nl]
  | cons d r => simp
theorem signN_le (c : Nat) (r : List Nat) : signN (c :: r) ≤ (c :: r).length := by
  unfold signN
  split
  · rename_i h2; exact h2.1
  · split <;> simp
theorem nextL_ext (es : List Nat) {last : Option TokF} {a c : Nat} {r : List Nat} {t : TokF} {n : Nat} (h : nextL last a (c :: r) = .ok (t, n)) : nextL last a (c :: r ++ 10 :: es) = .ok (t, n) := by
  have hn := numL_ext es (c :: r)
  have hk := nameK_ext es (c :: r)
  have hm := nameN_ext es (c :: r)
  have hs := signN_ext es c r
  have t1 : (c :: r ++ 10 :: es).take (numL (c :: r)) = (c :: r).take (numL (c :: r)) := List.take_append_of_le_length (numL_le' _)
  have t2 : (c :: r ++ 10 :: es).take (nameN (c :: r)) = (c :: r).take (nameN (c :: r)) := List.take_append_of_le_length (nameN_le _)
  have t3 : (c :: r ++ 10 :: es).take (signN (c :: r)) = (c :: r).take (signN (c :: r)) := List.take_append_of_le_length (signN_le _ _)
  have hg : isDig ((r ++ 10 :: es).getD 0 0) = isDig (r.getD 0 0) := by cases r <;> rfl
  rw [List.cons_append] at hn hk hm hs t1 t2 t3 ⊢
  unfold nextL at h ⊢
  dsimp only at h ⊢
  rw [hn, hk, hm, hs, t1, t2, t3, hg]
  split
  · rename_i h10; rw [if_pos h10] at h; exact h
  · rename_i h10
    rw [if_neg h10] at h
    split
    · rename_i hd; rw [if_pos hd] at h; exact h
    · rename_i hd
      rw [if_neg hd] at h
      split
      · rename_i h34
        rw [if_pos h34] at h
        cases hq : quotN 34 r with
        | none => rw [hq] at h; cases h
        | some k =>
          rw [hq] at h
          have hlt := quotS_lt 34 r false k hq
          have hq2 : quotN 34 (r ++ 10 :: es) = some k := quotS_ext 34 (10 :: es) r false k hq
          rw [hq2]
          dsimp only at h ⊢
          rw [List.take_append_of_le_length (by omega)]
          exact h
      · rename_i h34
        rw [if_neg h34] at h
        split
        · rename_i h47
          rw [if_pos h47] at h
          cases hq : quotN 47 r with
          | none => rw [hq] at h; cases h
          | some k =>
            rw [hq] at h
            have hlt := quotS_lt 47 r false k hq
            have hq2 : quotN 47 (r ++ 10 :: es) = some k := quotS_ext 47 (10 :: es) r false k hq
            rw [hq2]
            dsimp only at h ⊢
            rw [List.take_append_of_le_length (by omega)]
            exact h
        · rename_i h47
          rw [if_neg h47] at h
          exact h
theorem last_drop {l : List Nat} (h : l.getLast? ≠ some 92) (k : Nat) : (l.drop k).getLast? ≠ some 92 := by
  rw [List.getLast?_drop]
  split
  · simp
  · exact h
theorem allF_ext (es : List Nat) : ∀ (f p : Nat) (l : List Nat) (ts0 us : List TokF) (f' : Nat), (∀ x ∈ l, x < 256) → l.getLast? ≠ some 92 → l.length ≤ f → (l ++ 10 :: es).length ≤ f' → allF f p l ts0 = .ok us → ∃ A g, us = ts0 ++ A ++ [⟨0, p + l.length, [], 0⟩] ∧ es.length ≤ g ∧ allF f' p (l ++ 10 :: es) ts0 = allF g (p + l.length + 1) es (ts0 ++ A ++ [⟨1, p + l.length, [], 0⟩]) := by
  intro f
  induction f with
  | zero =>
    intro p l ts0 us f' hb hl hf hf' h
    obtain rfl : l = [] := List.length_eq_zero_iff.1 (by omega)
    rw [allF] at h
    injection h with h
    obtain ⟨g, rfl⟩ : ∃ g, f' = g + 1 := ⟨f' - 1, by simp at hf'; omega⟩
    refine ⟨[], g, by rw [← h]; simp, by simp at hf'; omega, ?_⟩
    rw [List.nil_append, allF, show passN (10 :: es) = 0 from by unfold passN; simp [passS]]
    simp [nextL]
  | succ f ih =>
    intro p l ts0 us f' hb hl hf hf' h
    obtain ⟨g, rfl⟩ : ∃ g, f' = g + 1 := ⟨f' - 1, by simp at hf'; omega⟩
    have hle := passN_leQ l
    rw [allF] at h
    rw [allF, passN_ext es hl, List.drop_append_of_le_length hle]
    have hlen : (l.drop (passN l)).length = l.length - passN l := List.length_drop
    cases hd : l.drop (passN l) with
    | nil =>
      rw [hd] at h hlen
      injection h with h
      have hpl : passN l = l.length := by simp at hlen; omega
      refine ⟨[], g, by rw [← h]; simp, by simp at hf'; omega, ?_⟩
      rw [List.nil_append, hpl]
      simp [nextL]
    | cons c r =>
      rw [hd] at h hlen
      dsimp only at h
      cases hn : nextL ts0.getLast? (p + passN l) (c :: r) with
      | error e => rw [hn] at h; cases h
      | ok tn =>
        obtain ⟨t, n⟩ := tn
        rw [hn] at h
        dsimp only at h
        have hk := nextL_ok (fun x hx => hb x (by rw [← hd] at hx; exact List.mem_of_mem_drop hx)) hn
        have hn2 := nextL_ext es hn
        rw [List.cons_append] at hn2 ⊢
        dsimp only
        rw [hn2]
        dsimp only
        rw [← List.cons_append, List.drop_append_of_le_length hk.le]
        have hsub : (c :: r).drop n = l.drop (passN l + n) := by rw [← hd, List.drop_drop]
        have hlen2 : ((c :: r).drop n).length = l.length - passN l - n := by rw [List.length_drop, hlen]
        have hpos := hk.pos
        have hkle := hk.le
        obtain ⟨A, g2, h1, h2, h3⟩ := ih (p + passN l + n) ((c :: r).drop n) (ts0 ++ [t]) us g (fun x hx => hb x (by rw [hsub] at hx; exact List.mem_of_mem_drop hx)) (by rw [hsub]; exact last_drop hl _) (by omega) (by simp only [List.length_append, List.length_cons] at hf' hlen2 ⊢; omega) h
        have e : p + passN l + n + ((c :: r).drop n).length = p + l.length := by rw [hlen2]; rw [hlen] at hkle; omega
        rw [e] at h1 h3
        exact ⟨t :: A, g2, by rw [h1]; simp, h2, by rw [h3]; simp⟩
open Go.RowKit
theorem assert_failure (v : Value) (xT : TypeId) (w : World) : (Instr.typeAssert (.iface 48 v) xT 48 true).run Try.prog w = .ok (.tuple #[v, .bool true]) w := by
  simp [Instr.typeAssert, run_underlying Try.underlying48, go_sem, Result.andThen]
section
variable {P : Program} {md : Region.Mode} {ops : Array Oper} {Q : Exit → Act → World → Prop} {late : List Nat}
def OwnM (w0 : World) (X : List Nat) (x : Bx) (w : World) : Prop := ∃ St bs rs F, Own w0 X St bs rs F w ∧ x ∈ bs
theorem OwnM.of {w0 w : World} {X : List Nat} {x : Bx} {St : World → Prop} {bs : List Bx} {rs : List Rw} {F : List Cold} (HO : Hid (Own w0 X St bs rs F w)) (hx : x ∈ bs) : OwnM w0 X x w := ⟨St, bs, rs, F, HO.out, hx⟩
theorem e_beginM {id : Nat} {a : Act} {w0 w : World} {X : List Nat} {St : World → Prop} {bs : List Bx} {rs : List Rw} {F : List Cold} (x : Bx) (HO : Hid (Own w0 X St bs rs F w)) (hm : P.follows .mixedOrders = true)
    (h : ∀ W, Hid (Own w0 X St bs rs F W) → wpAnyE P .any ops Q (OwnM w0 X x) [] ops.size (Array.replicate ops.size false) a W) : (Code.region id ops true).wp P Q a w :=
  e_start _ [] hm (h _ (Lib.hid HO.out.drew))
theorem e_loadM {w0 : World} {X : List Nat} {St : World → Prop} {bs : List Bx} {rs : List Rw} {F : List Cold} {i : Nat} {oi : Oper} {f : Nat} {listed : Array Bool} {a : Act} {w : World} {b k : Nat} {t : TypeId} {cs : List Value} (HO : Hid (Own w0 X St bs rs F w)) (hm : (⟨b, t, cs⟩ : Bx) ∈ bs) (hi : (ops.toList.drop i).head? = some oi)
    (hs : Region.noSelect ops = true) (hf : Region.free md ops listed i = true) (hr : (Region.ready md ops listed).contains i = true) (hil : late.contains i = false) (hw : waits md ops late listed i = true)
    {ty : TypeId} {x : Operand} (ho : oi.op = .load ty x) (hx : a.eval x = .pointer (some ⟨b, k, none⟩)) {v : Value}
    (hd : ∀ w, (isAgg ty).run P w = .ok false w) (hv : cs[k]? = some v)
    (hQ : ∀ c a w, Q (.panic c) (a.put oi.dst v) w → Q (.panic c) a w) (hwa : Region.wanted oi (yielded ops a.tmps) = true)
    (h : wpAnyE P md ops Q (OwnM w0 X ⟨b, t, cs⟩) late f (listed.setIfInBounds i true) (a.put oi.dst v) w) : wpAnyE P md ops Q (OwnM w0 X ⟨b, t, cs⟩) late (f + 1) listed a w := by
  refine e_take hi hs hf hr hil hw hQ hwa (OwnM.of HO hm) (fun w' hS => ?_) h
  obtain ⟨St', bs', rs', F', h', hm'⟩ := hS
  have hl : w'.cell? ⟨b, k, none⟩ = some v := h'.cells hm' k 0 v (by rw [List.getElem?_drop]; exact hv)
  unfold execOp
  simp only [ho, hx, Instr.loadAt, Instr.sureAddr, Sem.run_bind, Sem.run_pure, Result.andThen_ok, loadVar, hd w', Bool.false_eq_true, if_false, run_load, hl]
end
section
variable {w0 w : World} {X : List Nat} {S : World → Prop} {F : List Cold} {b2 b3 b : Nat} {x3 x y : Value}
set_option maxRecDepth 100000 in
set_option maxHeartbeats 3200000 in
theorem catch_p (HO : Hid (Own w0 X S [⟨b3, 29, [x3]⟩, ⟨b2, 27, [x, y]⟩] [] F w)) :
    CallsD Try.prog 9 #[.pointer (some ⟨b2, 0, none⟩), .pointer (some ⟨b3, 0, none⟩)] (.panicking ({ v := .iface 48 (.agg #[.pointer (some ⟨b, 0, none⟩)]), recovered := false } :: [])) w fun e u' w' =>
      e = .returned (.tuple #[]) ∧ u' = .panicking ({ v := .iface 48 (.agg #[.pointer (some ⟨b, 0, none⟩)]), recovered := true } :: []) ∧ Own w0 X S [⟨b3, 29, [.iface 46 (.pointer (some ⟨b, 0, none⟩))]⟩, ⟨b2, 27, [.slice none 0 0, .slice none 0 0]⟩] [] F w' := by
  refine callsD_of_wpS Try.func9 rfl fun c₀ cs hu => ?_
  apply wpS_seq
  apply wpS_region
  simp [wpOpsS, go_sem, recoverD, hu, Try.ntmps9, Exit.thenS]
  refine wpS_of_wp ?_
  have hta := fun w => assert_failure (.agg #[.pointer (some ⟨b, 0, none⟩)]) 20 w
  rw [show (#[Value.pointer (some ⟨b2, 0, none⟩), Value.pointer (some ⟨b3, 0, none⟩)] ++ (Array.replicate 13 undef).setIfInBounds 3 (Value.iface 48 (Value.agg #[Value.pointer (some ⟨b, 0, none⟩)]))) = #[Value.pointer (some ⟨b2, 0, none⟩), Value.pointer (some ⟨b3, 0, none⟩), undef, undef, undef, Value.iface 48 (Value.agg #[Value.pointer (some ⟨b, 0, none⟩)]), undef, undef, undef, undef, undef, undef, undef, undef, undef] from rfl]
  (repeat' (first | (with_reducible first | refine oXt ?_ | refine oXb ?_) | ((with_reducible refine ib_miss ?_ ?_); exact rfl) | ((first | ((with_reducible refine to_load ?_); first | refine oL1 HO rfl rfl ?_ | refine oL2 HO rfl rfl ?_ | refine oL3 HO rfl rfl ?_) | ((with_reducible refine to_field ?_); refine oF1 rfl ?_; refine ⟨_, _, _, _, _, _, _, _, rfl, rfl, inferInstance, ?_⟩) | ((first | with_reducible refine oAl HO ?_ | ((with_reducible refine to_box ?_); refine wo_box HO rfl rfl ?_)); clear HO; intro _ HO)); (try simp only [Act.put, pS0, pS1, pS2])) | ((first | ((with_reducible refine to_store ?_); first | refine oT1 HO rfl rfl rfl ?_ | refine oT2 HO rfl rfl rfl (by rfl) ?_ | refine oT3 HO rfl rfl rfl rfl ?_) | with_reducible refine ab_drew HO ?_); clear HO; intro _ HO) | ((with_reducible refine to_store ?_); first | (refine wo_storeR HO rfl rfl rfl rfl (by repeat (first | exact mH | apply mT)) (by repeat (first | exact cH | apply cT)) Try.sizeOf40 (by simp [Value.oneCell']) ?_; clear HO; intro _ HO) | (refine wo_storeF HO rfl rfl rfl rfl (by repeat (first | exact mH | apply mT)) (by repeat (first | exact cH | apply cT)) Try.sizeOf40 (by simp [Value.oneCell']) ?_; clear HO; intro _ HO)) | ((with_reducible refine ab_junk HO 9 ?_); clear HO; intro _ HO HB) | go_values | go_skip | go_guarded | go_step | go_upon | (go_ite <;> go_prune <;> (try go_simp))))
  clear hta
  refine e_beginM ⟨w.heap.size, 48, [.pointer (some ⟨b, 0, none⟩)]⟩ HO (by kernel_rfl) ?_
  clear HO
  intro _ HO
  refine e_pure (i := 0) (v := ?v0) rfl (by kernel_rfl) (by kernel_rfl) (by kernel_rfl) (by kernel_rfl) (fun _ _ _ h => h) (by rfl) (OwnM.of HO (by repeat (first | exact mH | apply mT))) ?y0 ?r0
  case y0 => (intro wS; go_simp; (try with_reducible rfl))
  (try simp only [Act.put, pS0, pS1, pS2])
  refine e_pure (i := 1) (v := ?v1) rfl (by kernel_rfl) (by kernel_rfl) (by kernel_rfl) (by kernel_rfl) (fun _ _ _ h => h) (by rfl) (OwnM.of HO (by repeat (first | exact mH | apply mT))) ?y1 ?r1
  case y1 => (intro wS; go_simp; (try with_reducible rfl))
  (try simp only [Act.put, pS0, pS1, pS2])
  refine e_loadM (i := 2) HO (by repeat (first | exact mH | apply mT)) rfl (by kernel_rfl) (by kernel_rfl) (by kernel_rfl) (by kernel_rfl) (by kernel_rfl) rfl rfl Try.isAgg46 (by rfl) (fun _ _ _ h => h) (by rfl) ?_
  (try simp only [Act.put, pS0, pS1, pS2])
  refine e_pure (i := 3) (v := ?v2) rfl (by kernel_rfl) (by kernel_rfl) (by kernel_rfl) (by kernel_rfl) (fun _ _ _ h => h) (by rfl) (OwnM.of HO (by repeat (first | exact mH | apply mT))) ?y2 ?r2
  case y2 => (intro wS; go_simp; (try with_reducible rfl))
  (try simp only [Act.put, pS0, pS1, pS2])
  refine e_one (i := 4) (by kernel_rfl) rfl (by kernel_rfl) (by rfl) (fun K hK => ?_)
  (with_reducible refine to_store ?_)
  (refine wo_store HO rfl rfl rfl rfl (by repeat (first | exact cH | apply cT)) Try.sizeOf27 (by rfl) (by rfl) (by simp [Value.oneCell']) ?_; clear HO; intro _ HO)
  refine hK.out _ _ (OwnM.of HO (by repeat (first | exact mH | apply mT))) ?_
  clear hK K
  (try simp only [Act.put, pS0, pS1, pS2])
  refine e_one (i := 5) (by kernel_rfl) rfl (by kernel_rfl) (by rfl) (fun K hK => ?_)
  (with_reducible refine to_store ?_)
  (refine wo_store1u HO rfl rfl rfl (by rfl) (by repeat (first | exact mH | apply mT)) (by (try simp only [List.set_cons_zero, List.set_cons_succ]); rfl) (by repeat (first | exact cH | apply cT)) Try.sizeOf29 (by simp) (by rfl) ?_; clear HO; intro _ HO)
  refine hK.out _ _ (OwnM.of HO (by repeat (first | exact mH | apply mT))) ?_
  clear hK K
  (try simp only [Act.put, pS0, pS1, pS2])
  refine ⟨(by kernel_rfl), ?_⟩
  (try with_reducible refine inBlock_normal ?_)
  exact ⟨rfl, _, rfl, .tuple #[], by simp [results, Try.results9], rfl, rfl, HO.out.sub (List.sublist_cons_self _ _) (List.Sublist.refl _) (fun c hc => hc)⟩
theorem catch_i (p q : Addr) (w : World) : CallsD Try.prog 9 #[.pointer (some p), .pointer (some q)] .returning w fun e u' w' => e = .returned (.tuple #[]) ∧ u' = .returning ∧ w' = w := by
  refine callsD_of_wpS Try.func9 rfl fun c₀ cs hu => ?_
  apply wpS_seq
  apply wpS_region
  simp [wpOpsS, go_sem, recoverD, hu, Try.ntmps9, Exit.thenS]
  refine wpS_of_wp ?_
  rw [show (#[Value.pointer (some p), Value.pointer (some q)] ++ (Array.replicate 13 undef).setIfInBounds 3 Value.nilIface) = #[Value.pointer (some p), Value.pointer (some q), undef, undef, undef, Value.nilIface, undef, undef, undef, undef, undef, undef, undef, undef, undef] from rfl]
  go_wp2
  exact ⟨rfl, .returning, by cases c₀; simp_all, .tuple #[], by simp [results, Try.results9], rfl, rfl, rfl⟩
end
end Go.Proofs.Ytdiibenofbcfnaa
