/- Several texts put together: SimB, SimC, SimD. -/
import Derived.Test.YtdiibenofbcfnaaBu19
set_option linter.unusedSimpArgs false
set_option linter.unusedVariables false
namespace Go.Proofs.Ytdiibenofbcfnaa
open Go.RowKit
structure PSim (C : Cx) (p q : Par) : Prop where
  cond : Sim C true NR p.cond q.cond
  expr : Sim C true NR p.expr q.expr
  signed : Sim C true NR p.signed q.signed
  atom : Sim C true NR p.atom q.atom
  stepped : ∀ b a, 2 ≤ (tk C.fs b).k → SimAt C true b a NR p.stepped q.stepped
  statement : Sim C false NR p.statement q.statement
section
variable {C : Cx} {e : Bool} {α β : Type} {R : α → α → Prop} {R' : β → β → Prop} {b a : Nat} {p q : Par}
theorem SimAt.nextAt (L : Lg C) (h2 : 2 ≤ (tk C.fs b).k) {k k' : TokF → PP β} (hk : b + 1 < C.fs.length → ∀ a t u, t = tk C.fs b → tkR t u → SimAt C e (b + 1) a R' (k t) (k' u)) : SimAt C e b a R' (nextP C.fs >>= k) (nextP C.gs >>= k') := by
  have hf' : ∀ d, (nextP C.fs >>= k) b d = k (tk C.fs b) (nx C.fs b) d := fun d => rfl
  have hg' : ∀ d, (nextP C.gs >>= k') a d = k' (tk C.gs a) (nx C.gs a) d := fun d => rfl
  have hnx := nx_eq (ts := C.fs) (a := b) (by omega)
  refine ⟨fun d z b' d' hb hf => ?_, fun d z b' d' hrel hf hl => ?_⟩
  · rw [hf', hnx] at hf
    have h3 := L.nb b hb
    rw [hnx] at h3
    have q := (hk h3 a _ _ rfl (tkR.rfl' _)).mb _ _ _ _ h3 hf
    omega
  · rw [hf', hnx] at hf
    have h3 := L.nb b (L.fl _ _ hrel)
    rw [hnx] at h3
    have hs := L.sig b a hrel
    have h2' : 1 ≤ (tk C.gs a).k := by rcases hs.1 with h | h <;> omega
    rw [hg', nx_eq h2']
    exact (hk h3 _ _ _ rfl hs).sim _ _ _ _ (L.nx b a hrel h2) hf hl
theorem ahead_tk {ts : List TokF} {j a : Nat} (h : a + j < ts.length) : ahead ts j a = tk ts (a + j) := by
  unfold ahead
  rw [Nat.min_eq_left (by omega)]
theorem sim_expr (L : Lg C) (h : PSim C p q) (hA : PAdv p) : Sim C true NR (exprF C.fs p) (exprF C.gs q) := by
  unfold exprF
  refine Sim.bindE L (Sim.enter L) fun _ => Sim.bindN L h.cond fun n m hn => ?_
  rw [lval_eq hn]
  cases lval m
  · simp only [Bool.false_eq_true, if_false, pp_pureF]
    exact Sim.bindE L Sim.leave fun _ => Sim.pure hn
  · simp only [if_true]
    refine Sim.sgn L (fun b a hb => ?_) ?_
    · simp only [if_true]
      exact SimAt.next L (by rw [k_isS hb]; decide) fun t u ht => Sim.lines L (Sim.bindN L h.expr fun x y hxy => Sim.bindE L Sim.leave fun _ => Sim.pure (NR.mk ht.2.1 rfl (LR.cons hn (LR.cons hxy LR.nil)))) (fun _ => Adv.bind1 hA.expr fun _ => Mon.leave.bind fun _ => Mon.pure _)
    · simp only [Bool.false_eq_true, if_false]
      exact Sim.bindE L Sim.leave fun _ => Sim.pure hn
theorem sim_list (L : Lg C) (h : PSim C p q) (hA : PAdv p) (hB : PAdv q) : Sim C true LR (listF C.fs p) (listF C.gs q) := by
  unfold listF
  refine Sim.bindN L (sim_expr L h hA) fun x y hxy => Sim.iter L LR.rfl' (fun b a hr => L.isS hr _) (fun l r hl b a hb => ?_) (fun l b hb => ?_) (fun l b hb => ?_) (LR.cons hxy LR.nil)
  · unfold listS
    exact SimAt.next L (by rw [k_isS hb]; decide) fun _ _ _ => Sim.lines L (Sim.bindN L (sim_expr L h hA) fun _ _ h2 => Sim.pure (LR.app hl (LR.cons h2 LR.nil))) (fun _ => Adv.bind1 (adv_expr hA) fun _ => Mon.pure _)
  · unfold listS
    exact AdvAt.next (nx_isS hb) fun _ => Mon.lines.bind fun _ => (adv_expr hA).mon.bind fun _ => Mon.pure _
  · unfold listS
    exact AdvAt.next (nx_isS hb) fun _ => Mon.lines.bind fun _ => (adv_expr hB).mon.bind fun _ => Mon.pure _
theorem sim_within (L : Lg C) (h : PSim C p q) (hA : PAdv p) (hB : PAdv q) {s t : List Nat} : Sim C true LR (withinF C.fs p s t) (withinF C.gs q s t) := by
  unfold withinF
  exact Sim.bindE L (Sim.take L) fun _ => Sim.bindL L (sim_list L h hA hB) fun l r hl => Sim.bindE L (Sim.take L) fun _ => Sim.pure hl
theorem args_eq (ts : List TokF) (p : Par) : argsF ts p = (askP (argsA ts) >>= fun b => if b = true then nextP ts >>= fun _ => nextP ts >>= fun _ => pure [] else withinF ts p [40] [41]) := by
  funext a d
  rfl
theorem sim_args (L : Lg C) (h : PSim C p q) (hA : PAdv p) (hB : PAdv q) : Sim C true LR (argsF C.fs p) (argsF C.gs q) := by
  rw [args_eq, args_eq]
  refine Sim.ask L (fun b a hr => L.args b a hr) (fun b a hb => ?_) ?_
  · simp only [if_true]
    unfold argsA at hb
    rw [Bool.and_eq_true, Bool.and_eq_true] at hb
    have h9 := eq_of_beq hb.2.1
    exact SimAt.nextAt L (by rw [k_isS hb.1]; decide) fun hlt a t u _ _ => SimAt.next L (by rw [ahead_tk hlt] at h9; omega) fun _ _ _ => Sim.pure LR.nil
  · simp only [Bool.false_eq_true, if_false]
    exact sim_within L h hA hB
theorem k_placed {ts : List TokF} {a : Nat} (h : placedA ts a = true) : 2 ≤ (tk ts a).k := by
  unfold placedA at h
  rw [Bool.or_eq_true] at h
  rcases h with h | h
  · have := eq_of_beq h; omega
  · rw [k_isS h]; decide
theorem sim_place (L : Lg C) (h : PSim C p q) (hA : PAdv p) (hB : PAdv q) : Sim C true NR (placeF C.fs p) (placeF C.gs q) := by
  unfold placeF
  refine Sim.ask L (fun b a hr => L.placed hr) (fun b a hb => ?_) (by simp only [Bool.false_eq_true, if_false]; exact Sim.fail _)
  simp only [if_true]
  refine SimAt.next L (k_placed hb) fun t u ht => Sim.iteP (by rw [ht.beq (by decide)]) ?_ ?_
  · exact Sim.bindE L (Sim.sgn0 L) fun _ => Sim.ite (Sim.bindL L (sim_within L h hA hB) fun l r hl => Sim.pure (NR.mk ht.2.1 rfl hl)) (Sim.pure (NR.mk ht.2.1 rfl LR.nil))
  · refine Sim.bindE L (Sim.enter L) fun _ => Sim.sgn L (fun b a hb => ?_) ?_
    · simp only [if_true]
      exact SimAt.bindN L (h.stepped b a (by rw [k_isS hb]; decide)) fun n m hn => Sim.bindE L Sim.leave fun _ => Sim.pure (NR.mk rfl rfl (LR.cons hn LR.nil))
    · simp only [Bool.false_eq_true, if_false]
      exact Sim.bindN L h.atom fun n m hn => Sim.bindE L Sim.leave fun _ => Sim.pure (NR.mk rfl rfl (LR.cons hn LR.nil))
theorem sim_stepped (L : Lg C) (h : PSim C p q) (hA : PAdv p) (hB : PAdv q) {b a : Nat} (hb : 2 ≤ (tk C.fs b).k) : SimAt C true b a NR (steppedF C.fs p) (steppedF C.gs q) := by
  unfold steppedF
  exact SimAt.next L hb fun t u ht => Sim.bindN L (sim_place L h hA hB) fun n m hn => Sim.pure (NR.mk (by rw [ht.2.1]) rfl (LR.cons hn LR.nil))
theorem sim_other (L : Lg C) (h : PSim C p q) (hA : PAdv p) (hB : PAdv q) : Sim C true NR (otherF C.fs p) (otherF C.gs q) := by
  unfold otherF
  refine Sim.tok L fun t u ht => Sim.ask L (fun b a hr => L.placed hr) (fun b a hb => by simp only [if_true]; exact sim_place L h hA hB b a) ?_
  simp only [Bool.false_eq_true, if_false]
  refine Sim.wrd L (fun b a hb => ?_) ?_
  · simp only [if_true]
    exact SimAt.next L (by rw [k_isW hb]; decide) fun _ _ _ => Sim.bindE L (Sim.ask0 L fun b a hr => L.placed hr) fun _ => Sim.ite (Sim.bindN L (sim_place L h hA hB) fun n m hn => Sim.pure (NR.mk rfl rfl (LR.cons hn LR.nil))) (Sim.pure (NR.mk rfl rfl LR.nil))
  · simp only [Bool.false_eq_true, if_false]
    refine Sim.sgn L (fun b a hb => ?_) ?_
    · simp only [if_true]
      refine SimAt.bindL L (sim_within L h hA hB b a) fun l r hl => ?_
      have hrest : Sim C true NR (keyP C.fs [105, 110] >>= fun _ => nameP C.fs >>= fun m => (pure (NodeT.mk 11 t.at' m.s 0 0 l) : PP NodeT)) (keyP C.gs [105, 110] >>= fun _ => nameP C.gs >>= fun m => (pure (NodeT.mk 11 u.at' m.s 0 0 r) : PP NodeT)) :=
        Sim.bindE L (Sim.key L) fun _ => Sim.bind L tkR.rfl' (Sim.name L) fun x y hxy => Sim.pure (NR.mk hxy.2.1 rfl hl)
      have hlen := hl.length
      rcases l with _ | ⟨x, _ | ⟨x2, l2⟩⟩ <;> rcases r with _ | ⟨y, _ | ⟨y2, r2⟩⟩ <;> simp only [List.length_cons, List.length_nil] at hlen
      · exact hrest
      · omega
      · omega
      · omega
      · exact Sim.pure hl.cons_inv.1
      · omega
      · omega
      · omega
      · exact hrest
    · simp only [Bool.false_eq_true, if_false]
      exact Sim.fail _
theorem sim_atom (L : Lg C) (h : PSim C p q) (hA : PAdv p) (hB : PAdv q) : Sim C true NR (atomF C.fs p) (atomF C.gs q) := by
  unfold atomF
  refine Sim.tokAt L fun b a u hu => ?_
  refine SimAt.iteN L (by decide) rfl hu (fun _ _ _ => Sim.pure (NR.mk hu.2.1 hu.2.2 LR.nil)) ?_
  refine SimAt.iteN L (by decide) rfl hu (fun _ _ _ => Sim.pure (NR.mk hu.2.1 hu.2.2 LR.nil)) ?_
  refine SimAt.iteN L (by decide) rfl hu (fun _ _ _ => Sim.pure (NR.mk hu.2.1 hu.2.2 LR.nil)) ?_
  refine SimAt.iteN L (by decide) rfl hu (fun _ _ _ => Sim.bindL L (sim_args L h hA hB) fun l r hl => Sim.pure (NR.mk hu.2.1 hu.2.2 hl)) ?_
  refine SimAt.iteN L (by decide) rfl hu (fun _ _ _ => ?_) (sim_other L h hA hB b a)
  refine Sim.bindE L (by rw [hu.2.1]; exact Sim.ite (Sim.sgn0 L) (Sim.pure rfl)) fun _ => Sim.ite (Sim.bindL L (sim_args L h hA hB) fun l r hl => Sim.pure (NR.mk hu.2.1 hu.2.2 hl)) (Sim.pure (NR.mk hu.2.1 hu.2.2 LR.nil))
theorem sim_step (L : Lg C) (h : PSim C p q) (hA : PAdv p) (hB : PAdv q) : Sim C true NR (stepF C.fs p) (stepF C.gs q) := by
  unfold stepF
  refine Sim.sgn L (fun b a hb => by simp only [if_true]; exact sim_stepped L h hA hB (by rw [k_isS hb]; decide)) ?_
  simp only [Bool.false_eq_true, if_false]
  refine Sim.bindN L (sim_atom L h hA hB) fun n m hn => ?_
  rw [lval_eq hn]
  cases lval m
  · simp only [Bool.false_eq_true, if_false, pp_pureF]
    exact Sim.pure hn
  · simp only [if_true]
    refine Sim.sgn L (fun b a hb => ?_) ?_
    · simp only [if_true]
      exact SimAt.next L (by rw [k_isS hb]; decide) fun t u ht => Sim.pure (NR.mk (by rw [ht.2.1]) rfl (LR.cons hn LR.nil))
    · simp only [Bool.false_eq_true, if_false]
      exact Sim.pure hn
theorem sim_deeper (L : Lg C) (h : PSim C p q) : Sim C true NR (deeperF C.fs p) (deeperF C.gs q) := by
  unfold deeperF
  exact Sim.bindE L (Sim.enter L) fun _ => Sim.bindN L h.signed fun n m hn => Sim.bindE L Sim.leave fun _ => Sim.pure hn
theorem sim_signed (L : Lg C) (h : PSim C p q) (hA : PAdv p) (hB : PAdv q) : Sim C true NR (signedF C.fs p) (signedF C.gs q) := by
  unfold signedF
  refine Sim.sgn L (fun b a hb => ?_) ?_
  · simp only [if_true]
    exact SimAt.next L (by rw [k_isS hb]; decide) fun t u ht => Sim.bindN L (sim_deeper L h) fun n m hn => Sim.pure (NR.mk ht.2.1 rfl (LR.cons hn LR.nil))
  · simp only [Bool.false_eq_true, if_false]
    refine Sim.bindN L (sim_step L h hA hB) fun n m hn => Sim.sgn L (fun b a hb => ?_) ?_
    · simp only [if_true]
      exact SimAt.next L (by rw [k_isS hb]; decide) fun t u ht => Sim.bindN L (sim_deeper L h) fun x y hxy => Sim.pure (NR.mk rfl rfl (LR.cons hn (LR.cons hxy LR.nil)))
    · simp only [Bool.false_eq_true, if_false]
      exact Sim.pure hn
theorem sim_product (L : Lg C) (h : PSim C p q) (hA : PAdv p) (hB : PAdv q) : Sim C true NR (productF C.fs p) (productF C.gs q) := by
  unfold productF
  refine Sim.bindN L (sim_signed L h hA hB) fun x y hxy => Sim.iter L NR.rfl' (fun b a hr => L.isS hr _) (fun l r hl b a hb => ?_) (fun l b hb => ?_) (fun l b hb => ?_) hxy
  · unfold productS
    exact SimAt.next L (by rw [k_isS hb]; decide) fun t u ht => Sim.bindN L (sim_signed L h hA hB) fun _ _ h2 => Sim.pure (NR.mk ht.2.1 rfl (LR.cons hl (LR.cons h2 LR.nil)))
  · unfold productS
    exact AdvAt.next (nx_isS hb) fun _ => (adv_signed hA).mon.bind fun _ => Mon.pure _
  · unfold productS
    exact AdvAt.next (nx_isS hb) fun _ => (adv_signed hB).mon.bind fun _ => Mon.pure _
theorem sim_sum (L : Lg C) (h : PSim C p q) (hA : PAdv p) (hB : PAdv q) : Sim C true NR (sumF C.fs p) (sumF C.gs q) := by
  unfold sumF
  refine Sim.bindN L (sim_product L h hA hB) fun x y hxy => Sim.iter L NR.rfl' (fun b a hr => L.isS hr _) (fun l r hl b a hb => ?_) (fun l b hb => ?_) (fun l b hb => ?_) hxy
  · unfold sumS
    exact SimAt.next L (by rw [k_isS hb]; decide) fun t u ht => Sim.bindN L (sim_product L h hA hB) fun _ _ h2 => Sim.pure (NR.mk ht.2.1 rfl (LR.cons hl (LR.cons h2 LR.nil)))
  · unfold sumS
    exact AdvAt.next (nx_isS hb) fun _ => (adv_product hA).mon.bind fun _ => Mon.pure _
  · unfold sumS
    exact AdvAt.next (nx_isS hb) fun _ => (adv_product hB).mon.bind fun _ => Mon.pure _
theorem adv_catS2 {ts : List TokF} {p : Par} (h : PAdv p) {n : NodeT} {b : Nat} (hb : readsA ts b = true) : AdvAt (catS2 ts p n) b := by
  unfold readsA at hb
  rw [Bool.and_eq_true] at hb
  unfold catS2
  exact AdvAt.next (nx_isS hb.1) fun _ => Mon.next.bind fun _ => Mon.ask.bind fun _ => Mon.ite ((adv_place h).mon.bind fun _ => Mon.pure _) (Mon.pure _)
theorem sim_cat (L : Lg C) (h : PSim C p q) (hA : PAdv p) (hB : PAdv q) : Sim C true NR (catF C.fs p) (catF C.gs q) := by
  unfold catF
  refine Sim.bindN L (sim_sum L h hA hB) fun x y hxy => Sim.bindN L (Sim.iter L NR.rfl' (fun b a hr => L.further hr) (fun l r hl b a hb => ?_) (fun l b hb => ?_) (fun l b hb => ?_) hxy) fun n m hn => Sim.iter L NR.rfl' (fun b a hr => L.reads b a hr) (fun l r hl b a hb => ?_) (fun l b hb => adv_catS2 hA hb) (fun l b hb => adv_catS2 hB hb) hn
  · unfold catS
    exact SimAt.bindN L (sim_sum L h hA hB b a) fun _ _ h2 => Sim.pure (NR.mk rfl rfl (LR.cons hl (LR.cons h2 LR.nil)))
  · unfold catS
    exact (Adv.bind1 (adv_sum hA) fun _ => Mon.pure _) b
  · unfold catS
    exact (Adv.bind1 (adv_sum hB) fun _ => Mon.pure _) b
  · unfold catS2
    unfold readsA at hb
    rw [Bool.and_eq_true, Bool.and_eq_true] at hb
    have h7 := eq_of_beq hb.2.1
    exact SimAt.nextAt L (by rw [k_isS hb.1]; decide) fun hlt a t u _ _ => SimAt.next L (by rw [ahead_tk hlt] at h7; omega) fun _ _ _ => Sim.bindE L (Sim.ask0 L fun b a hr => L.placed hr) fun _ => Sim.ite (Sim.bindN L (sim_place L h hA hB) fun _ _ h2 => Sim.pure (NR.mk rfl rfl (LR.cons hl (LR.cons h2 LR.nil)))) (Sim.pure (NR.mk rfl rfl (LR.cons hl LR.nil)))
theorem sim_comp (L : Lg C) (h : PSim C p q) (hA : PAdv p) (hB : PAdv q) : Sim C true NR (compF C.fs p) (compF C.gs q) := by
  unfold compF
  refine Sim.bindN L (sim_cat L h hA hB) fun n m hn => Sim.sgn L (fun b a hb => ?_) ?_
  · simp only [if_true]
    exact SimAt.next L (by rw [k_isS hb]; decide) fun t u ht => Sim.bindN L (sim_cat L h hA hB) fun x y hxy => Sim.pure (NR.mk ht.2.1 rfl (LR.cons hn (LR.cons hxy LR.nil)))
  · simp only [Bool.false_eq_true, if_false]
    exact Sim.pure hn
theorem sim_match (L : Lg C) (h : PSim C p q) (hA : PAdv p) (hB : PAdv q) : Sim C true NR (matchF C.fs p) (matchF C.gs q) := by
  unfold matchF
  refine Sim.bindN L (sim_comp L h hA hB) fun x y hxy => Sim.iter L NR.rfl' (fun b a hr => L.isS hr _) (fun l r hl b a hb => ?_) (fun l b hb => ?_) (fun l b hb => ?_) hxy
  · unfold matchS
    exact SimAt.next L (by rw [k_isS hb]; decide) fun t u ht => Sim.bindN L (sim_comp L h hA hB) fun _ _ h2 => Sim.pure (NR.mk ht.2.1 rfl (LR.cons hl (LR.cons h2 LR.nil)))
  · unfold matchS
    exact AdvAt.next (nx_isS hb) fun _ => (adv_comp hA).mon.bind fun _ => Mon.pure _
  · unfold matchS
    exact AdvAt.next (nx_isS hb) fun _ => (adv_comp hB).mon.bind fun _ => Mon.pure _
theorem sim_isin (L : Lg C) (h : PSim C p q) (hA : PAdv p) (hB : PAdv q) : Sim C true NR (isinF C.fs p) (isinF C.gs q) := by
  unfold isinF
  refine Sim.bindN L (sim_match L h hA hB) fun x y hxy => Sim.iter L NR.rfl' (fun b a hr => L.isW hr _) (fun l r hl b a hb => ?_) (fun l b hb => ?_) (fun l b hb => ?_) hxy
  · unfold isinS
    exact SimAt.next L (by rw [k_isW hb]; decide) fun _ _ _ => Sim.bind L tkR.rfl' (Sim.name L) fun t u ht => Sim.pure (NR.mk ht.2.1 rfl (LR.cons hl LR.nil))
  · unfold isinS
    exact AdvAt.next (nx_isW hb) fun _ => Mon.name.bind fun _ => Mon.pure _
  · unfold isinS
    exact AdvAt.next (nx_isW hb) fun _ => Mon.name.bind fun _ => Mon.pure _
theorem sim_and (L : Lg C) (h : PSim C p q) (hA : PAdv p) (hB : PAdv q) : Sim C true NR (andF C.fs p) (andF C.gs q) := by
  unfold andF
  refine Sim.bindN L (sim_isin L h hA hB) fun x y hxy => Sim.iter L NR.rfl' (fun b a hr => L.isS hr _) (fun l r hl b a hb => ?_) (fun l b hb => ?_) (fun l b hb => ?_) hxy
  · unfold andS
    exact SimAt.next L (by rw [k_isS hb]; decide) fun t u ht => Sim.lines L (Sim.bindN L (sim_isin L h hA hB) fun _ _ h2 => Sim.pure (NR.mk rfl rfl (LR.cons hl (LR.cons h2 LR.nil)))) (fun _ => Adv.bind1 (adv_isin hA) fun _ => Mon.pure _)
  · unfold andS
    exact AdvAt.next (nx_isS hb) fun _ => Mon.lines.bind fun _ => (adv_isin hA).mon.bind fun _ => Mon.pure _
  · unfold andS
    exact AdvAt.next (nx_isS hb) fun _ => Mon.lines.bind fun _ => (adv_isin hB).mon.bind fun _ => Mon.pure _
theorem sim_or (L : Lg C) (h : PSim C p q) (hA : PAdv p) (hB : PAdv q) : Sim C true NR (orF C.fs p) (orF C.gs q) := by
  unfold orF
  refine Sim.bindN L (sim_and L h hA hB) fun x y hxy => Sim.iter L NR.rfl' (fun b a hr => L.isS hr _) (fun l r hl b a hb => ?_) (fun l b hb => ?_) (fun l b hb => ?_) hxy
  · unfold orS
    exact SimAt.next L (by rw [k_isS hb]; decide) fun t u ht => Sim.lines L (Sim.bindN L (sim_and L h hA hB) fun _ _ h2 => Sim.pure (NR.mk rfl rfl (LR.cons hl (LR.cons h2 LR.nil)))) (fun _ => Adv.bind1 (adv_and hA) fun _ => Mon.pure _)
  · unfold orS
    exact AdvAt.next (nx_isS hb) fun _ => Mon.lines.bind fun _ => (adv_and hA).mon.bind fun _ => Mon.pure _
  · unfold orS
    exact AdvAt.next (nx_isS hb) fun _ => Mon.lines.bind fun _ => (adv_and hB).mon.bind fun _ => Mon.pure _
theorem sim_cond (L : Lg C) (h : PSim C p q) (hA : PAdv p) (hB : PAdv q) : Sim C true NR (condF C.fs p) (condF C.gs q) := by
  unfold condF
  refine Sim.bindN L (sim_or L h hA hB) fun n m hn => Sim.sgn L (fun b a hb => ?_) ?_
  · simp only [if_true]
    refine SimAt.next L (by rw [k_isS hb]; decide) fun _ _ _ => Sim.lines L (Sim.bindN L (sim_expr L h hA) fun x y hxy => Sim.bindE L (Sim.take L) fun _ => Sim.lines L (Sim.bindE L (Sim.enter L) fun _ => Sim.bindN L h.cond fun z w hzw => Sim.bindE L Sim.leave fun _ => Sim.pure (NR.mk rfl rfl (LR.cons hn (LR.cons hxy (LR.cons hzw LR.nil))))) ?_) ?_
    · intro _
      exact Adv.bind2 Mon.enter fun _ => Adv.bind1 hA.cond fun _ => Mon.leave.bind fun _ => Mon.pure _
    · intro _
      exact Adv.bind1 (adv_expr hA) fun _ => Mon.take.bind fun _ => Mon.lines.bind fun _ => Mon.enter.bind fun _ => hA.cond.mon.bind fun _ => Mon.leave.bind fun _ => Mon.pure _
  · simp only [Bool.false_eq_true, if_false]
    exact Sim.pure hn
end
open Go.RowKit
section
variable {C : Cx} {e : Bool} {p q : Par}
theorem sim_stmt (L : Lg C) (h : PSim C p q) : Sim C false NR (stmtF C.fs p) (stmtF C.gs q) := by
  unfold stmtF
  exact Sim.bindE L (Sim.enter L) fun _ => Sim.bindN L h.statement fun n m hn => Sim.bindE L Sim.leave fun _ => Sim.pure hn
theorem iter_stop {α : Type} {ts : List TokF} {go : Nat → Bool} {st : α → PP α} (hst : ∀ x b d y b' d', b < ts.length → go b = true → st x b d = .ok y b' d' → b < b' ∧ b' < ts.length) : ∀ f x b d y b' d', b < ts.length → ts.length ≤ f + b → iter go st f x b d = .ok y b' d' → go b' = false ∧ b' < ts.length
  | 0, x, b, d, y, b', d', hb, hf, h => by omega
  | f + 1, x, b, d, y, b', d', hb, hf, h => by
    rw [iter_step] at h
    split at h
    · rename_i hg
      obtain ⟨x1, b1, d1, h1, h2⟩ := bind_inv h
      have q := hst x b d x1 b1 d1 hb hg h1
      exact iter_stop hst f x1 b1 d1 y b' d' q.2 (by omega) h2
    · rename_i hg
      have h' : PR.ok x b d = .ok y b' d' := h
      injection h' with h0 h1 h2
      subst h0 h1 h2
      exact ⟨by simpa using hg, hb⟩
theorem block_eq (ts : List TokF) (p : Par) : blockF ts p = (tokP ts >>= fun t => takeP ts [123] >>= fun _ => (endsP ts >>= fun _ => iter (fun a => !isS ts a [[125]]) (blockS ts p) ts.length []) >>= fun l => nextP ts >>= fun _ => pure (NodeT.mk 41 t.at' [] 0 0 l)) := by
  unfold blockF
  simp only [pp_assoc]
theorem sim_blockIn (L : Lg C) (h : PSim C p q) (hA : PAdv p) (hB : PAdv q) : Sim C false LR (endsP C.fs >>= fun _ => iter (fun a => !isS C.fs a [[125]]) (blockS C.fs p) C.fs.length []) (endsP C.gs >>= fun _ => iter (fun a => !isS C.gs a [[125]]) (blockS C.gs q) C.gs.length []) := by
  refine Sim.bindE L (Sim.ends0 L) fun _ => Sim.iter L LR.rfl' (fun b a hr => by rw [L.isS hr]) (fun l r hl b a hb => ?_) (fun l b hb => ?_) (fun l b hb => ?_) LR.nil
  · unfold blockS
    exact SimAt.bindN L (sim_stmt L h b a) fun _ _ h2 => Sim.pure (LR.app hl (LR.cons h2 LR.nil))
  · unfold blockS
    exact (Adv.bind1 (adv_stmt hA) fun _ => Mon.pure _) b
  · unfold blockS
    exact (Adv.bind1 (adv_stmt hB) fun _ => Mon.pure _) b
theorem block_stop (L : Lg C) (h : PSim C p q) (hA : PAdv p) (hB : PAdv q) {b d : Nat} {l : List NodeT} {b' d' : Nat} (hb : b < C.fs.length) (hf : (endsP C.fs >>= fun _ => iter (fun a => !isS C.fs a [[125]]) (blockS C.fs p) C.fs.length []) b d = .ok l b' d') : isS C.fs b' [[125]] = true ∧ b ≤ b' ∧ b' < C.fs.length := by
  obtain ⟨x, b1, d1, h1, h2⟩ := bind_inv hf
  have q1 := ((Sim.ends0 L) b 0).mb _ _ _ _ hb h1
  have q2 := iter_stop (ts := C.fs) (fun x b d y b' d' hb hg hs => by
    have r1 := (Adv.bind1 (adv_stmt hA) fun _ => Mon.pure (x ++ [_])) b _ _ _ _ hs
    have r2 : SimAt C false b 0 LR (blockS C.fs p x) (blockS C.gs q x) := by
      unfold blockS
      exact SimAt.bindN L (sim_stmt L h b 0) fun _ _ h2 => Sim.pure (LR.app (LR.rfl' x) (LR.cons h2 LR.nil))
    exact ⟨r1, (r2.mb _ _ _ _ hb hs).2⟩) _ _ _ _ _ _ _ q1.2 (by omega) h2
  have q3 := ((Sim.iter L LR.rfl' (fun b a hr => by rw [L.isS hr]) (fun l r hl b a hb => by
    unfold blockS
    exact SimAt.bindN L (sim_stmt L h b a) fun _ _ h2 => Sim.pure (LR.app hl (LR.cons h2 LR.nil))) (fun l b hb => by
    unfold blockS
    exact (Adv.bind1 (adv_stmt hA) fun _ => Mon.pure _) b) (fun l b hb => by
    unfold blockS
    exact (Adv.bind1 (adv_stmt hB) fun _ => Mon.pure _) b) LR.nil : Sim C false LR (iter (fun a => !isS C.fs a [[125]]) (blockS C.fs p) C.fs.length []) (iter (fun a => !isS C.gs a [[125]]) (blockS C.gs q) C.gs.length [])) b1 0).mb _ _ _ _ q1.2 h2
  refine ⟨?_, Nat.le_trans q1.1 q3.1, q2.2⟩
  simpa using q2.1
theorem sim_block (L : Lg C) (h : PSim C p q) (hA : PAdv p) (hB : PAdv q) : Sim C true NR (blockF C.fs p) (blockF C.gs q) := by
  rw [block_eq, block_eq]
  refine Sim.tok L fun t u _ => Sim.bindE L (Sim.take L) fun _ => ?_
  intro b a
  have S1 := sim_blockIn L h hA hB b a
  refine ⟨fun d z b' d' hb hf => ?_, fun d z b' d' hrel hf _ => ?_⟩
  · obtain ⟨l, b1, d1, h1, h2⟩ := bind_inv hf
    have q1 := block_stop L h hA hB hb h1
    have q2 : SimAt C true b1 0 NR (nextP C.fs >>= fun _ => pure (NodeT.mk 41 t.at' [] 0 0 l)) (nextP C.gs >>= fun _ => pure (NodeT.mk 41 t.at' [] 0 0 l)) := SimAt.next L (by rw [k_isS q1.1]; decide) fun _ _ _ => Sim.pure rfl
    have := q2.mb _ _ _ _ q1.2.2 h2
    omega
  · obtain ⟨l, b1, d1, h1, h2⟩ := bind_inv hf
    have hb := L.fl _ _ hrel
    have q1 := block_stop L h hA hB hb h1
    obtain ⟨r, a1, hy, hlr, hrel1⟩ := S1.sim _ _ _ _ hrel h1 (.inr (L.big _ q1.2.2 (by rw [k_isS q1.1]; decide)))
    have q2 : SimAt C true b1 a1 NR (nextP C.fs >>= fun _ => pure (NodeT.mk 41 t.at' [] 0 0 l)) (nextP C.gs >>= fun _ => pure (NodeT.mk 41 u.at' [] 0 0 r)) := SimAt.next L (by rw [k_isS q1.1]; decide) fun _ _ _ => Sim.pure (NR.mk rfl rfl hlr)
    obtain ⟨w, a', hw, hzw, hrel'⟩ := q2.sim _ _ _ _ hrel1 h2 (.inl rfl)
    refine ⟨w, a', ?_, hzw, hrel'⟩
    show PP.bind _ _ a d = _
    unfold PP.bind
    rw [hy]
    exact hw
theorem sim_asked (L : Lg C) (h : PSim C p q) (hA : PAdv p) : Sim C true NR (askedF C.fs p) (askedF C.gs q) := by
  unfold askedF
  exact Sim.bindE L (Sim.take L) fun _ => Sim.bindN L (sim_expr L h hA) fun n m hn => Sim.bindE L (Sim.take L) fun _ => Sim.pure hn
theorem sim_below (L : Lg C) (h : PSim C p q) : Sim C false NR (belowF C.fs p) (belowF C.gs q) := by
  unfold belowF
  exact Sim.lines L (sim_stmt L h) (fun h => by cases h)
theorem sim_print (L : Lg C) (h : PSim C p q) (hA : PAdv p) (hB : PAdv q) {b a : Nat} (hb : 2 ≤ (tk C.fs b).k) : SimAt C false b a NR (printF C.fs p) (printF C.gs q) := by
  unfold printF
  refine SimAt.next L hb fun t u ht => ?_
  have hend : ∀ l r, LR l r → Sim C false NR (do
    if ← sgnP C.fs [[124, 38]] then
      let _ ← nextP C.fs
      let x ← sumF C.fs p
      pure (NodeT.mk 53 t.at' t.s 0 1 (l ++ [x]))
    else pure (NodeT.mk 53 t.at' t.s 0 0 l) : PP NodeT) (do
    if ← sgnP C.gs [[124, 38]] then
      let _ ← nextP C.gs
      let x ← sumF C.gs q
      pure (NodeT.mk 53 u.at' u.s 0 1 (r ++ [x]))
    else pure (NodeT.mk 53 u.at' u.s 0 0 r) : PP NodeT) := fun l r hl => by
    refine Sim.sgn L (fun b a hb => ?_) ?_
    · simp only [if_true]
      exact SimAt.next L (by rw [k_isS hb]; decide) fun _ _ _ => Sim.bindN L (sim_sum L h hA hB).weak fun x y hxy => Sim.pure (NR.mk ht.2.1 rfl (LR.app hl (LR.cons hxy LR.nil)))
    · simp only [Bool.false_eq_true, if_false]
      exact Sim.pure (NR.mk ht.2.1 rfl hl)
  rw [← ht.2.1]
  refine Sim.bindE L (Sim.ite (Sim.pure rfl) (Sim.bindE L (Sim.ask0 L L.over) fun _ => Sim.ite (Sim.pure rfl) (Sim.bindE L (Sim.sgn0 L) fun _ => Sim.pure rfl))) fun bb => ?_
  have hend2 := hend
  rw [← ht.2.1] at hend2
  exact Sim.ite (Sim.bindL L (sim_list L h hA hB).weak hend2) (Sim.bindL L (Sim.pure LR.nil) hend2)
theorem sim_simple (L : Lg C) (h : PSim C p q) (hA : PAdv p) (hB : PAdv q) : Sim C false NR (simpleF C.fs p) (simpleF C.gs q) := by
  unfold simpleF
  refine Sim.tok L fun t u _ => ?_
  have leaf : ∀ (ss : List (List Nat)) (A A' B B' : PP NodeT), Sim C false NR A A' → Sim C false NR B B' → Sim C false NR (wrdP C.fs ss >>= fun b => if b = true then nextP C.fs >>= fun _ => A else B) (wrdP C.gs ss >>= fun b => if b = true then nextP C.gs >>= fun _ => A' else B') := fun ss A A' B B' hA hB =>
    Sim.wrd L (fun b a hb => by simp only [if_true]; exact SimAt.next L (by rw [k_isW hb]; decide) fun _ _ _ => hA) (by simp only [Bool.false_eq_true, if_false]; exact hB)
  refine leaf _ _ _ _ _ (Sim.pure (NR.mk rfl rfl LR.nil)) (leaf _ _ _ _ _ (Sim.pure (NR.mk rfl rfl LR.nil)) (leaf _ _ _ _ _ (Sim.pure (NR.mk rfl rfl LR.nil)) (leaf _ _ _ _ _ ?_ (leaf _ _ _ _ _ ?_ (leaf _ _ _ _ _ ?_ ?_)))))
  · exact Sim.bindE L (Sim.ask0 L L.over) fun _ => Sim.ite (Sim.pure (NR.mk rfl rfl LR.nil)) (Sim.bindN L (sim_expr L h hA).weak fun x y hxy => Sim.pure (NR.mk rfl rfl (LR.cons hxy LR.nil)))
  · exact Sim.bindE L (Sim.ask0 L L.over) fun _ => Sim.ite (Sim.pure (NR.mk rfl rfl LR.nil)) (Sim.bindN L (sim_expr L h hA).weak fun x y hxy => Sim.pure (NR.mk rfl rfl (LR.cons hxy LR.nil)))
  · exact Sim.bind L tkR.rfl' (Sim.name L) fun x y hxy => Sim.bindE L (Sim.sgn0 L) fun _ => Sim.ite (Sim.bindL L (sim_within L h hA hB).weak fun l r hl => Sim.pure (NR.mk hxy.2.1 rfl hl)) (Sim.pure (NR.mk hxy.2.1 rfl LR.nil))
  · refine Sim.wrd L (fun b a hb => ?_) ?_
    · simp only [if_true]
      exact sim_print L h hA hB (by rw [k_isW hb]; decide)
    · simp only [Bool.false_eq_true, if_false]
      exact Sim.bindN L (sim_expr L h hA).weak fun x y hxy => Sim.pure (NR.mk rfl rfl (LR.cons hxy LR.nil))
theorem sim_perhaps (L : Lg C) (h : PSim C p q) (hA : PAdv p) (hB : PAdv q) : Sim C false NR (perhapsF C.fs p) (perhapsF C.gs q) := by
  unfold perhapsF
  exact Sim.bindE L (Sim.sgn0 L) fun _ => Sim.ite (Sim.pure (NR.mk rfl rfl LR.nil)) (sim_simple L h hA hB)
theorem sim_loop (L : Lg C) (h : PSim C p q) (hA : PAdv p) (hB : PAdv q) {b a : Nat} (hb : 2 ≤ (tk C.fs b).k) : SimAt C false b a NR (loopF C.fs p) (loopF C.gs q) := by
  unfold loopF
  refine SimAt.next L hb fun t u ht => Sim.bindE L (Sim.take L) fun _ => Sim.ask L L.each (fun b a hb => ?_) ?_
  · simp only [if_true]
    unfold eachA at hb
    simp only [Bool.and_eq_true] at hb
    obtain ⟨h5, h7, _, h5b, h9, _⟩ := hb
    have h5 := eq_of_beq h5
    have h7 := eq_of_beq h7
    have h5b := eq_of_beq h5b
    have h9 := eq_of_beq h9
    refine SimAt.nextAt L (by omega) fun l1 a t1 u1 _ ht1 => ?_
    rw [ahead_tk l1] at h7
    refine SimAt.nextAt L (by omega) fun l2 a _ _ _ _ => ?_
    rw [ahead_tk (j := 2) (by omega)] at h5b
    have h5b : ((tk C.fs (b + 1 + 1)).k : Int) = 5 := h5b
    refine SimAt.nextAt L (by omega) fun l3 a t3 u3 _ ht3 => ?_
    rw [ahead_tk (j := 3) (by omega)] at h9
    have h9 : ((tk C.fs (b + 1 + 1 + 1)).k : Int) = 9 := h9
    refine SimAt.next L (by omega) fun _ _ _ => Sim.bindN L (sim_below L h) fun x y hxy => Sim.pure (NR.mk ht3.2.1 rfl (LR.cons (NR.mk ht1.2.1 rfl LR.nil) (LR.cons hxy LR.nil)))
  · simp only [Bool.false_eq_true, if_false]
    refine Sim.bindN L (sim_perhaps L h hA hB) fun f f' hf => Sim.bindE L (Sim.take L) fun _ => Sim.lines L (Sim.bindN L (Sim.bindE L (Sim.sgn0 L) fun _ => Sim.ite (Sim.pure (NR.mk rfl rfl LR.nil)) (sim_expr L h hA).weak) fun s s' hs => Sim.bindE L (Sim.take L) fun _ => Sim.lines L (Sim.bindN L (sim_perhaps L h hA hB) fun x x' hx => Sim.bindE L (Sim.take L) fun _ => Sim.bindN L (sim_below L h) fun y y' hy => Sim.pure (NR.mk rfl rfl (LR.cons hf (LR.cons hs (LR.cons hx (LR.cons hy LR.nil)))))) (fun h => by cases h)) (fun h => by cases h)
theorem sim_statement (L : Lg C) (h : PSim C p q) (hA : PAdv p) (hB : PAdv q) : Sim C false NR (statementF C.fs p) (statementF C.gs q) := by
  unfold statementF
  refine Sim.tok L fun t u ht => ?_
  refine Sim.sgn L (fun b a _ => by simp only [if_true]; exact SimAt.bindN L (sim_block L h hA hB b a).weak fun n m hn => Sim.bindE L (Sim.ends0 L) fun _ => Sim.pure hn) ?_
  simp only [Bool.false_eq_true, if_false]
  refine Sim.sgn L (fun b a _ => by simp only [if_true]; exact SimAt.bindE L (Sim.ends0 L b a) fun _ => Sim.pure (NR.mk rfl rfl LR.nil)) ?_
  simp only [Bool.false_eq_true, if_false]
  refine Sim.wrd L (fun b a hb => ?_) ?_
  · simp only [if_true]
    exact SimAt.next L (by rw [k_isW hb]; decide) fun _ _ _ => Sim.bindN L (sim_asked L h hA).weak fun x y hxy => Sim.bindN L (sim_below L h) fun z w hzw => Sim.wrd L (fun b a hb => by simp only [if_true]; exact SimAt.next L (by rw [k_isW hb]; decide) fun _ _ _ => Sim.bindN L (sim_below L h) fun v v' hv => Sim.pure (NR.mk rfl rfl (LR.cons hxy (LR.cons hzw (LR.cons hv LR.nil))))) (by simp only [Bool.false_eq_true, if_false]; exact Sim.pure (NR.mk rfl rfl (LR.cons hxy (LR.cons hzw LR.nil))))
  simp only [Bool.false_eq_true, if_false]
  refine Sim.wrd L (fun b a hb => ?_) ?_
  · simp only [if_true]
    exact SimAt.next L (by rw [k_isW hb]; decide) fun _ _ _ => Sim.bindN L (sim_asked L h hA).weak fun x y hxy => Sim.bindN L (sim_below L h) fun z w hzw => Sim.pure (NR.mk rfl rfl (LR.cons hxy (LR.cons hzw LR.nil)))
  simp only [Bool.false_eq_true, if_false]
  refine Sim.wrd L (fun b a hb => ?_) ?_
  · simp only [if_true]
    exact SimAt.next L (by rw [k_isW hb]; decide) fun _ _ _ => Sim.bindN L (sim_below L h) fun x y hxy => Sim.bindE L (Sim.key L) fun _ => Sim.bindN L (sim_asked L h hA).weak fun z w hzw => Sim.bindE L (Sim.close0 L) fun _ => Sim.pure (NR.mk rfl rfl (LR.cons hxy (LR.cons hzw LR.nil)))
  simp only [Bool.false_eq_true, if_false]
  refine Sim.wrd L (fun b a hb => ?_) ?_
  · simp only [if_true]
    exact sim_loop L h hA hB (by rw [k_isW hb]; decide)
  simp only [Bool.false_eq_true, if_false]
  exact Sim.bindN L (sim_simple L h hA hB) fun n m hn => Sim.bindE L (Sim.close0 L) fun _ => Sim.pure hn
end
theorem psim_par {C : Cx} (L : Lg C) : ∀ n, PSim C (par C.fs n) (par C.gs n)
  | 0 => ⟨Sim.fail _, Sim.fail _, Sim.fail _, Sim.fail _, fun b a _ => Sim.fail _ b a, Sim.fail _⟩
  | n + 1 => by
    have h := psim_par L n
    have hA := padv_par C.fs n
    have hB := padv_par C.gs n
    exact ⟨sim_cond L h hA hB, sim_expr L h hA, sim_signed L h hA hB, sim_atom L h hA hB, fun b a hb => sim_stepped L h hA hB hb, sim_statement L h hA hB⟩
def FR (f g : FuncT) : Prop := f.name = g.name ∧ f.params = g.params ∧ NR f.body g.body
def RR (r s : RuleT) : Prop := r.k = s.k ∧ LR r.l s.l ∧ NR r.body s.body ∧ r.bare = s.bare
theorem FR.rfl' (f : FuncT) : FR f f := ⟨rfl, rfl, rfl⟩
theorem RR.rfl' (f : RuleT) : RR f f := ⟨rfl, rfl, rfl, rfl⟩
section
variable {C : Cx} {e : Bool} {p q : Par}
theorem sim_pattern (L : Lg C) (h : PSim C p q) (hA : PAdv p) (hB : PAdv q) {x y : Nat} : Sim C true RR (patternF C.fs p x) (patternF C.gs q y) := by
  unfold patternF
  refine Sim.bindN L (sim_expr L h hA) fun n m hn => ?_
  refine Sim.bind L (R := fun u v : Nat × List NodeT => u.1 = v.1 ∧ LR u.2 v.2) (fun _ => ⟨rfl, rfl⟩) (Sim.sgn L (fun b a hb => ?_) ?_) fun u v huv => Sim.sgn L (fun b a hb => ?_) ?_
  · simp only [if_true]
    exact SimAt.next L (by rw [k_isS hb]; decide) fun _ _ _ => Sim.lines L (Sim.bindN L (sim_expr L h hA) fun x y hxy => Sim.pure ⟨rfl, LR.cons hn (LR.cons hxy LR.nil)⟩) (fun _ => Adv.bind1 (adv_expr hA) fun _ => Mon.pure _)
  · simp only [Bool.false_eq_true, if_false]
    exact Sim.pure ⟨rfl, LR.cons hn LR.nil⟩
  · simp only [if_true]
    exact SimAt.bindN L (sim_block L h hA hB b a) fun x y hxy => Sim.pure ⟨huv.1, huv.2, hxy, rfl⟩
  · simp only [Bool.false_eq_true, if_false]
    exact Sim.pure ⟨huv.1, huv.2, rfl, rfl⟩
theorem sim_head (L : Lg C) (h : PSim C p q) (hA : PAdv p) (hB : PAdv q) {k x y : Nat} {b a : Nat} (hb : 2 ≤ (tk C.fs b).k) : SimAt C true b a RR (headF C.fs p k x) (headF C.gs q k y) := by
  unfold headF
  exact SimAt.next L hb fun _ _ _ => Sim.bindN L (sim_block L h hA hB) fun x y hxy => Sim.pure ⟨rfl, rfl, hxy, rfl⟩
theorem sim_rule (L : Lg C) (h : PSim C p q) (hA : PAdv p) (hB : PAdv q) : Sim C true RR (ruleF C.fs p) (ruleF C.gs q) := by
  unfold ruleF
  refine Sim.tok L fun t u ht => ?_
  refine Sim.wrd L (fun b a hb => by simp only [if_true]; exact sim_head L h hA hB (by rw [k_isW hb]; decide)) ?_
  simp only [Bool.false_eq_true, if_false]
  refine Sim.wrd L (fun b a hb => by simp only [if_true]; exact sim_head L h hA hB (by rw [k_isW hb]; decide)) ?_
  simp only [Bool.false_eq_true, if_false]
  refine Sim.wrd L (fun b a hb => by simp only [if_true]; exact sim_head L h hA hB (by rw [k_isW hb]; decide)) ?_
  simp only [Bool.false_eq_true, if_false]
  refine Sim.wrd L (fun b a hb => by simp only [if_true]; exact sim_head L h hA hB (by rw [k_isW hb]; decide)) ?_
  simp only [Bool.false_eq_true, if_false]
  refine Sim.sgn L (fun b a hb => by simp only [if_true]; exact SimAt.bindN L (sim_block L h hA hB b a) fun x y hxy => Sim.pure ⟨rfl, rfl, hxy, rfl⟩) ?_
  simp only [Bool.false_eq_true, if_false]
  exact sim_pattern L h hA hB
theorem sim_params (L : Lg C) : Sim C true Eq (paramsF C.fs) (paramsF C.gs) := by
  unfold paramsF
  refine Sim.sgn L (fun b a hb => by simp only [if_true]; exact SimAt.next L (by rw [k_isS hb]; decide) fun _ _ _ => Sim.pure rfl) ?_
  simp only [Bool.false_eq_true, if_false]
  refine Sim.bind L tkR.rfl' (Sim.name L) fun x y hxy => Sim.bindE L (Sim.iter L (fun _ => rfl) (fun b a hr => L.isS hr _) (fun l r hl b a hb => ?_) (fun l b hb => ?_) (fun l b hb => ?_) (by rw [hxy.2.1])) fun l => Sim.bindE L (Sim.take L) fun _ => Sim.pure rfl
  · subst hl
    unfold paramsS
    exact SimAt.next L (by rw [k_isS hb]; decide) fun _ _ _ => Sim.lines L (Sim.bind L tkR.rfl' (Sim.name L) fun _ _ h2 => Sim.pure (by rw [h2.2.1])) (fun _ => Adv.bind1 Adv.name fun _ => Mon.pure _)
  · unfold paramsS
    exact AdvAt.next (nx_isS hb) fun _ => Mon.lines.bind fun _ => Mon.name.bind fun _ => Mon.pure _
  · unfold paramsS
    exact AdvAt.next (nx_isS hb) fun _ => Mon.lines.bind fun _ => Mon.name.bind fun _ => Mon.pure _
theorem sim_function (L : Lg C) (h : PSim C p q) (hA : PAdv p) (hB : PAdv q) {b a : Nat} (hb : 2 ≤ (tk C.fs b).k) : SimAt C true b a FR (functionF C.fs p) (functionF C.gs q) := by
  unfold functionF
  refine SimAt.next L hb fun t u ht => Sim.tokAt L fun b a v hv => ?_
  rw [← hv.beq (c := 5) (by decide), ← hv.beq (c := 6) (by decide)]
  split
  · rename_i hk
    rw [Bool.or_eq_true] at hk
    refine SimAt.next L (by rcases hk with hk | hk <;> (have := eq_of_beq hk; omega)) fun _ _ _ => Sim.bindE L (Sim.take L) fun _ => Sim.bindE L (sim_params L) fun l => Sim.lines L (Sim.bindN L (sim_block L h hA hB) fun x y hxy => Sim.pure ⟨hv.2.1, rfl, hxy⟩) (fun _ => Adv.bind1 (adv_block hA) fun _ => Mon.pure _)
  · exact Sim.fail _ b a
end
open Go.RowKit
def Dep {α : Type} (f : PP α) : Prop := ∀ a d x a' d', f a d = .ok x a' d' → d' = d
def Dep1 {α : Type} (f : PP α) : Prop := ∀ a d x a' d', f a (d + 1) = .ok x a' d' → d' = d
section
variable {α β : Type} {m : PP α} {f : α → PP β} {ts : List TokF} {ss : List (List Nat)}
theorem Dep.bind (hm : Dep m) (hf : ∀ x, Dep (f x)) : Dep (m >>= f) := fun a d y a' d' h => by
  obtain ⟨x, a1, d1, h1, h2⟩ := bind_inv h
  rw [hf x _ _ _ _ _ h2, hm _ _ _ _ _ h1]
theorem Dep1.bind (hm : Dep m) (hf : ∀ x, Dep1 (f x)) : Dep1 (m >>= f) := fun a d y a' d' h => by
  obtain ⟨x, a1, d1, h1, h2⟩ := bind_inv h
  have e := hm _ _ _ _ _ h1
  subst e
  exact hf x _ _ _ _ _ h2
theorem Dep.pure (x : α) : Dep (pure x : PP α) := fun a d y a' d' h => by
  have h' : PR.ok x a d = .ok y a' d' := h
  injection h' with _ _ h2; exact h2.symm
theorem Dep.fail (k : Int) : Dep (failP ts k : PP α) := fun a d y a' d' h => by cases h
theorem Dep.next : Dep (nextP ts) := fun a d y a' d' h => by
  have h' : PR.ok (tk ts a) (nx ts a) d = .ok y a' d' := h
  injection h' with _ _ h2; exact h2.symm
theorem Dep.tok : Dep (tokP ts) := fun a d y a' d' h => by
  have h' : PR.ok (tk ts a) a d = .ok y a' d' := h
  injection h' with _ _ h2; exact h2.symm
theorem Dep.ask {t : Nat → Bool} : Dep (askP t) := fun a d y a' d' h => by
  have h' : PR.ok (t a) a d = .ok y a' d' := h
  injection h' with _ _ h2; exact h2.symm
theorem Dep.sgn : Dep (sgnP ts ss) := Dep.ask (t := fun a => isS ts a ss)
theorem Dep.wrd : Dep (wrdP ts ss) := Dep.ask (t := fun a => isW ts a ss)
theorem Dep.aheadD {j : Nat} : Dep (aheadP ts j) := fun a d y a' d' h => by
  have h' : PR.ok (Go.Proofs.Ytdiibenofbcfnaa.ahead ts j a) a d = .ok y a' d' := h
  injection h' with _ _ h2; exact h2.symm
theorem Dep.lines : Dep (linesP ts) := fun a d y a' d' h => by
  have h' : PR.ok () (linesF ts ts.length a) d = .ok y a' d' := h
  injection h' with _ _ h2; exact h2.symm
theorem Dep.ends : Dep (endsP ts) := fun a d y a' d' h => by
  have h' : PR.ok () (endsF ts ts.length a) d = .ok y a' d' := h
  injection h' with _ _ h2; exact h2.symm
theorem Dep.ite {c : Prop} [Decidable c] {A B : PP α} (hA : Dep A) (hB : Dep B) : Dep (if c then A else B) := by split <;> assumption
theorem Dep1.ite {c : Prop} [Decidable c] {A B : PP α} (hA : Dep1 A) (hB : Dep1 B) : Dep1 (if c then A else B) := by split <;> assumption
theorem Dep.enter {f : Unit → PP β} (hf : Dep1 (f ())) : Dep (enterP ts >>= f) := fun a d y a' d' h => by
  obtain ⟨x, a1, d1, h1, h2⟩ := bind_inv h
  unfold enterP at h1
  split at h1
  · cases h1
  · injection h1 with _ e1 e2
    subst e1 e2
    exact hf _ _ _ _ _ h2
theorem Dep1.leave {f : Unit → PP β} (hf : Dep (f ())) : Dep1 (leaveP >>= f) := fun a d y a' d' h => by
  have h' : f () a d = .ok y a' d' := h
  exact hf _ _ _ _ _ h'
theorem Dep.take {s : List Nat} : Dep (takeP ts s) := by unfold takeP; exact Dep.sgn.bind fun _ => Dep.ite (Dep.next.bind fun _ => Dep.pure _) (Dep.fail _)
theorem Dep.key {s : List Nat} : Dep (keyP ts s) := by unfold keyP; exact Dep.wrd.bind fun _ => Dep.ite (Dep.next.bind fun _ => Dep.pure _) (Dep.fail _)
theorem Dep.name : Dep (nameP ts) := by unfold nameP; exact Dep.tok.bind fun _ => Dep.ite Dep.next (Dep.fail _)
theorem Dep.close : Dep (closeP ts) := by unfold closeP; exact Dep.ask.bind fun _ => Dep.ite Dep.ends (Dep.fail _)
theorem Dep.iter {go : Nat → Bool} {step : α → PP α} (h : ∀ x, Dep (step x)) : ∀ (f : Nat) (x : α), Dep (iter go step f x)
  | 0, x => Dep.pure x
  | f + 1, x => by
    intro a d y a' d' e
    rw [iter_step] at e
    split at e
    · exact ((h x).bind fun z => Dep.iter h f z) a d y a' d' e
    · exact Dep.pure x a d y a' d' e
end
class Dp {α : Type} (f : PP α) : Prop where
  d : Dep f
section
variable {α : Type} {ts : List TokF}
instance {x : α} : Dp (pure x : PP α) := ⟨Dep.pure _⟩
instance {k : Int} : Dp (failP ts k : PP α) := ⟨Dep.fail _⟩
instance : Dp (nextP ts) := ⟨Dep.next⟩
instance : Dp (tokP ts) := ⟨Dep.tok⟩
instance {ss : List (List Nat)} : Dp (sgnP ts ss) := ⟨Dep.sgn⟩
instance {ss : List (List Nat)} : Dp (wrdP ts ss) := ⟨Dep.wrd⟩
instance {t : Nat → Bool} : Dp (askP t) := ⟨Dep.ask⟩
instance {j : Nat} : Dp (aheadP ts j) := ⟨Dep.aheadD⟩
instance : Dp (linesP ts) := ⟨Dep.lines⟩
instance : Dp (endsP ts) := ⟨Dep.ends⟩
instance {s : List Nat} : Dp (takeP ts s) := ⟨Dep.take⟩
instance {s : List Nat} : Dp (keyP ts s) := ⟨Dep.key⟩
instance : Dp (nameP ts) := ⟨Dep.name⟩
instance : Dp (closeP ts) := ⟨Dep.close⟩
end
class PDep (p : Par) : Prop where
  cond : Dep p.cond
  expr : Dep p.expr
  signed : Dep p.signed
  atom : Dep p.atom
  stepped : Dep p.stepped
  statement : Dep p.statement
section
variable {p : Par}
instance [h : PDep p] : Dp p.cond := ⟨h.cond⟩
instance [h : PDep p] : Dp p.expr := ⟨h.expr⟩
instance [h : PDep p] : Dp p.signed := ⟨h.signed⟩
instance [h : PDep p] : Dp p.atom := ⟨h.atom⟩
instance [h : PDep p] : Dp p.stepped := ⟨h.stepped⟩
instance [h : PDep p] : Dp p.statement := ⟨h.statement⟩
end
section
variable {ts : List TokF} {p : Par}
theorem dep_expr [h : PDep p] : Dep (exprF ts p) := by
  unfold exprF
  refine Dep.enter (Dep1.bind h.cond fun n => Dep1.bind (Dep.ite Dep.sgn (Dep.pure _)) fun b => Dep1.ite ?_ ?_)
  · exact Dep1.bind Dep.next fun _ => Dep1.bind Dep.lines fun _ => Dep1.bind h.expr fun _ => Dep1.leave (Dep.pure _)
  · exact Dep1.leave (Dep.pure _)
instance [PDep p]  : Dp (exprF ts p) := ⟨dep_expr⟩
theorem dep_list [h : PDep p] : Dep (listF ts p) := by
  unfold listF
  repeat' (first | exact Dp.d | with_reducible refine Dep.enter ?_ | with_reducible refine Dep1.leave ?_ | with_reducible refine Dep.iter (fun _ => ?_) _ _ | with_reducible refine Dep.bind ?_ (fun _ => ?_) | with_reducible refine Dep.ite ?_ ?_ | with_reducible refine Dep1.ite ?_ ?_ | with_reducible refine Dep1.bind ?_ (fun _ => ?_) | split | unfold listS)
instance [PDep p]  : Dp (listF ts p) := ⟨dep_list⟩
theorem dep_within [h : PDep p] {s e : List Nat} : Dep (withinF ts p s e) := by
  unfold withinF
  repeat' (first | exact Dp.d | with_reducible refine Dep.enter ?_ | with_reducible refine Dep1.leave ?_ | with_reducible refine Dep.iter (fun _ => ?_) _ _ | with_reducible refine Dep.bind ?_ (fun _ => ?_) | with_reducible refine Dep.ite ?_ ?_ | with_reducible refine Dep1.ite ?_ ?_ | with_reducible refine Dep1.bind ?_ (fun _ => ?_) | split)
instance [PDep p] {s e : List Nat} : Dp (withinF ts p s e) := ⟨dep_within⟩
theorem dep_args [h : PDep p] : Dep (argsF ts p) := by
  unfold argsF
  repeat' (first | exact Dp.d | with_reducible refine Dep.enter ?_ | with_reducible refine Dep1.leave ?_ | with_reducible refine Dep.iter (fun _ => ?_) _ _ | with_reducible refine Dep.bind ?_ (fun _ => ?_) | with_reducible refine Dep.ite ?_ ?_ | with_reducible refine Dep1.ite ?_ ?_ | with_reducible refine Dep1.bind ?_ (fun _ => ?_) | split)
instance [PDep p]  : Dp (argsF ts p) := ⟨dep_args⟩
theorem dep_place [h : PDep p] : Dep (placeF ts p) := by
  unfold placeF
  repeat' (first | exact Dp.d | with_reducible refine Dep.enter ?_ | with_reducible refine Dep1.leave ?_ | with_reducible refine Dep.iter (fun _ => ?_) _ _ | with_reducible refine Dep.bind ?_ (fun _ => ?_) | with_reducible refine Dep.ite ?_ ?_ | with_reducible refine Dep1.ite ?_ ?_ | with_reducible refine Dep1.bind ?_ (fun _ => ?_) | split)
instance [PDep p]  : Dp (placeF ts p) := ⟨dep_place⟩
theorem dep_stepped [h : PDep p] : Dep (steppedF ts p) := by
  unfold steppedF
  repeat' (first | exact Dp.d | with_reducible refine Dep.enter ?_ | with_reducible refine Dep1.leave ?_ | with_reducible refine Dep.iter (fun _ => ?_) _ _ | with_reducible refine Dep.bind ?_ (fun _ => ?_) | with_reducible refine Dep.ite ?_ ?_ | with_reducible refine Dep1.ite ?_ ?_ | with_reducible refine Dep1.bind ?_ (fun _ => ?_) | split)
instance [PDep p]  : Dp (steppedF ts p) := ⟨dep_stepped⟩
theorem dep_other [h : PDep p] : Dep (otherF ts p) := by
  unfold otherF
  repeat' (first | exact Dp.d | with_reducible refine Dep.enter ?_ | with_reducible refine Dep1.leave ?_ | with_reducible refine Dep.iter (fun _ => ?_) _ _ | with_reducible refine Dep.bind ?_ (fun _ => ?_) | with_reducible refine Dep.ite ?_ ?_ | with_reducible refine Dep1.ite ?_ ?_ | with_reducible refine Dep1.bind ?_ (fun _ => ?_) | split)
instance [PDep p]  : Dp (otherF ts p) := ⟨dep_other⟩
theorem dep_atom [h : PDep p] : Dep (atomF ts p) := by
  unfold atomF
  repeat' (first | exact Dp.d | with_reducible refine Dep.enter ?_ | with_reducible refine Dep1.leave ?_ | with_reducible refine Dep.iter (fun _ => ?_) _ _ | with_reducible refine Dep.bind ?_ (fun _ => ?_) | with_reducible refine Dep.ite ?_ ?_ | with_reducible refine Dep1.ite ?_ ?_ | with_reducible refine Dep1.bind ?_ (fun _ => ?_) | split)
instance [PDep p]  : Dp (atomF ts p) := ⟨dep_atom⟩
theorem dep_step [h : PDep p] : Dep (stepF ts p) := by
  unfold stepF
  repeat' (first | exact Dp.d | with_reducible refine Dep.enter ?_ | with_reducible refine Dep1.leave ?_ | with_reducible refine Dep.iter (fun _ => ?_) _ _ | with_reducible refine Dep.bind ?_ (fun _ => ?_) | with_reducible refine Dep.ite ?_ ?_ | with_reducible refine Dep1.ite ?_ ?_ | with_reducible refine Dep1.bind ?_ (fun _ => ?_) | split)
instance [PDep p]  : Dp (stepF ts p) := ⟨dep_step⟩
theorem dep_deeper [h : PDep p] : Dep (deeperF ts p) := by
  unfold deeperF
  repeat' (first | exact Dp.d | with_reducible refine Dep.enter ?_ | with_reducible refine Dep1.leave ?_ | with_reducible refine Dep.iter (fun _ => ?_) _ _ | with_reducible refine Dep.bind ?_ (fun _ => ?_) | with_reducible refine Dep.ite ?_ ?_ | with_reducible refine Dep1.ite ?_ ?_ | with_reducible refine Dep1.bind ?_ (fun _ => ?_) | split)
instance [PDep p]  : Dp (deeperF ts p) := ⟨dep_deeper⟩
theorem dep_signed [h : PDep p] : Dep (signedF ts p) := by
  unfold signedF
  repeat' (first | exact Dp.d | with_reducible refine Dep.enter ?_ | with_reducible refine Dep1.leave ?_ | with_reducible refine Dep.iter (fun _ => ?_) _ _ | with_reducible refine Dep.bind ?_ (fun _ => ?_) | with_reducible refine Dep.ite ?_ ?_ | with_reducible refine Dep1.ite ?_ ?_ | with_reducible refine Dep1.bind ?_ (fun _ => ?_) | split)
instance [PDep p]  : Dp (signedF ts p) := ⟨dep_signed⟩
theorem dep_product [h : PDep p] : Dep (productF ts p) := by
  unfold productF
  repeat' (first | exact Dp.d | with_reducible refine Dep.enter ?_ | with_reducible refine Dep1.leave ?_ | with_reducible refine Dep.iter (fun _ => ?_) _ _ | with_reducible refine Dep.bind ?_ (fun _ => ?_) | with_reducible refine Dep.ite ?_ ?_ | with_reducible refine Dep1.ite ?_ ?_ | with_reducible refine Dep1.bind ?_ (fun _ => ?_) | split | unfold productS)
instance [PDep p]  : Dp (productF ts p) := ⟨dep_product⟩
theorem dep_sum [h : PDep p] : Dep (sumF ts p) := by
  unfold sumF
  repeat' (first | exact Dp.d | with_reducible refine Dep.enter ?_ | with_reducible refine Dep1.leave ?_ | with_reducible refine Dep.iter (fun _ => ?_) _ _ | with_reducible refine Dep.bind ?_ (fun _ => ?_) | with_reducible refine Dep.ite ?_ ?_ | with_reducible refine Dep1.ite ?_ ?_ | with_reducible refine Dep1.bind ?_ (fun _ => ?_) | split | unfold sumS)
instance [PDep p]  : Dp (sumF ts p) := ⟨dep_sum⟩
theorem dep_cat [h : PDep p] : Dep (catF ts p) := by
  unfold catF
  repeat' (first | exact Dp.d | with_reducible refine Dep.enter ?_ | with_reducible refine Dep1.leave ?_ | with_reducible refine Dep.iter (fun _ => ?_) _ _ | with_reducible refine Dep.bind ?_ (fun _ => ?_) | with_reducible refine Dep.ite ?_ ?_ | with_reducible refine Dep1.ite ?_ ?_ | with_reducible refine Dep1.bind ?_ (fun _ => ?_) | split | unfold catS | unfold catS2)
instance [PDep p]  : Dp (catF ts p) := ⟨dep_cat⟩
theorem dep_comp [h : PDep p] : Dep (compF ts p) := by
  unfold compF
  repeat' (first | exact Dp.d | with_reducible refine Dep.enter ?_ | with_reducible refine Dep1.leave ?_ | with_reducible refine Dep.iter (fun _ => ?_) _ _ | with_reducible refine Dep.bind ?_ (fun _ => ?_) | with_reducible refine Dep.ite ?_ ?_ | with_reducible refine Dep1.ite ?_ ?_ | with_reducible refine Dep1.bind ?_ (fun _ => ?_) | split)
instance [PDep p]  : Dp (compF ts p) := ⟨dep_comp⟩
theorem dep_match [h : PDep p] : Dep (matchF ts p) := by
  unfold matchF
  repeat' (first | exact Dp.d | with_reducible refine Dep.enter ?_ | with_reducible refine Dep1.leave ?_ | with_reducible refine Dep.iter (fun _ => ?_) _ _ | with_reducible refine Dep.bind ?_ (fun _ => ?_) | with_reducible refine Dep.ite ?_ ?_ | with_reducible refine Dep1.ite ?_ ?_ | with_reducible refine Dep1.bind ?_ (fun _ => ?_) | split | unfold matchS)
instance [PDep p]  : Dp (matchF ts p) := ⟨dep_match⟩
theorem dep_isin [h : PDep p] : Dep (isinF ts p) := by
  unfold isinF
  repeat' (first | exact Dp.d | with_reducible refine Dep.enter ?_ | with_reducible refine Dep1.leave ?_ | with_reducible refine Dep.iter (fun _ => ?_) _ _ | with_reducible refine Dep.bind ?_ (fun _ => ?_) | with_reducible refine Dep.ite ?_ ?_ | with_reducible refine Dep1.ite ?_ ?_ | with_reducible refine Dep1.bind ?_ (fun _ => ?_) | split | unfold isinS)
instance [PDep p]  : Dp (isinF ts p) := ⟨dep_isin⟩
theorem dep_and [h : PDep p] : Dep (andF ts p) := by
  unfold andF
  repeat' (first | exact Dp.d | with_reducible refine Dep.enter ?_ | with_reducible refine Dep1.leave ?_ | with_reducible refine Dep.iter (fun _ => ?_) _ _ | with_reducible refine Dep.bind ?_ (fun _ => ?_) | with_reducible refine Dep.ite ?_ ?_ | with_reducible refine Dep1.ite ?_ ?_ | with_reducible refine Dep1.bind ?_ (fun _ => ?_) | split | unfold andS)
instance [PDep p]  : Dp (andF ts p) := ⟨dep_and⟩
theorem dep_or [h : PDep p] : Dep (orF ts p) := by
  unfold orF
  repeat' (first | exact Dp.d | with_reducible refine Dep.enter ?_ | with_reducible refine Dep1.leave ?_ | with_reducible refine Dep.iter (fun _ => ?_) _ _ | with_reducible refine Dep.bind ?_ (fun _ => ?_) | with_reducible refine Dep.ite ?_ ?_ | with_reducible refine Dep1.ite ?_ ?_ | with_reducible refine Dep1.bind ?_ (fun _ => ?_) | split | unfold orS)
instance [PDep p]  : Dp (orF ts p) := ⟨dep_or⟩
theorem dep_cond [h : PDep p] : Dep (condF ts p) := by
  unfold condF
  repeat' (first | exact Dp.d | with_reducible refine Dep.enter ?_ | with_reducible refine Dep1.leave ?_ | with_reducible refine Dep.iter (fun _ => ?_) _ _ | with_reducible refine Dep.bind ?_ (fun _ => ?_) | with_reducible refine Dep.ite ?_ ?_ | with_reducible refine Dep1.ite ?_ ?_ | with_reducible refine Dep1.bind ?_ (fun _ => ?_) | split)
instance [PDep p]  : Dp (condF ts p) := ⟨dep_cond⟩
theorem dep_stmt [h : PDep p] : Dep (stmtF ts p) := by
  unfold stmtF
  repeat' (first | exact Dp.d | with_reducible refine Dep.enter ?_ | with_reducible refine Dep1.leave ?_ | with_reducible refine Dep.iter (fun _ => ?_) _ _ | with_reducible refine Dep.bind ?_ (fun _ => ?_) | with_reducible refine Dep.ite ?_ ?_ | with_reducible refine Dep1.ite ?_ ?_ | with_reducible refine Dep1.bind ?_ (fun _ => ?_) | split)
instance [PDep p]  : Dp (stmtF ts p) := ⟨dep_stmt⟩
theorem dep_block [h : PDep p] : Dep (blockF ts p) := by
  unfold blockF
  repeat' (first | exact Dp.d | with_reducible refine Dep.enter ?_ | with_reducible refine Dep1.leave ?_ | with_reducible refine Dep.iter (fun _ => ?_) _ _ | with_reducible refine Dep.bind ?_ (fun _ => ?_) | with_reducible refine Dep.ite ?_ ?_ | with_reducible refine Dep1.ite ?_ ?_ | with_reducible refine Dep1.bind ?_ (fun _ => ?_) | split | unfold blockS)
instance [PDep p]  : Dp (blockF ts p) := ⟨dep_block⟩
theorem dep_asked [h : PDep p] : Dep (askedF ts p) := by
  unfold askedF
  repeat' (first | exact Dp.d | with_reducible refine Dep.enter ?_ | with_reducible refine Dep1.leave ?_ | with_reducible refine Dep.iter (fun _ => ?_) _ _ | with_reducible refine Dep.bind ?_ (fun _ => ?_) | with_reducible refine Dep.ite ?_ ?_ | with_reducible refine Dep1.ite ?_ ?_ | with_reducible refine Dep1.bind ?_ (fun _ => ?_) | split)
instance [PDep p]  : Dp (askedF ts p) := ⟨dep_asked⟩
theorem dep_below [h : PDep p] : Dep (belowF ts p) := by
  unfold belowF
  repeat' (first | exact Dp.d | with_reducible refine Dep.enter ?_ | with_reducible refine Dep1.leave ?_ | with_reducible refine Dep.iter (fun _ => ?_) _ _ | with_reducible refine Dep.bind ?_ (fun _ => ?_) | with_reducible refine Dep.ite ?_ ?_ | with_reducible refine Dep1.ite ?_ ?_ | with_reducible refine Dep1.bind ?_ (fun _ => ?_) | split)
instance [PDep p]  : Dp (belowF ts p) := ⟨dep_below⟩
theorem dep_print [h : PDep p] : Dep (printF ts p) := by
  unfold printF
  repeat' (first | exact Dp.d | with_reducible refine Dep.enter ?_ | with_reducible refine Dep1.leave ?_ | with_reducible refine Dep.iter (fun _ => ?_) _ _ | with_reducible refine Dep.bind ?_ (fun _ => ?_) | with_reducible refine Dep.ite ?_ ?_ | with_reducible refine Dep1.ite ?_ ?_ | with_reducible refine Dep1.bind ?_ (fun _ => ?_) | split)
instance [PDep p]  : Dp (printF ts p) := ⟨dep_print⟩
theorem dep_simple [h : PDep p] : Dep (simpleF ts p) := by
  unfold simpleF
  repeat' (first | exact Dp.d | with_reducible refine Dep.enter ?_ | with_reducible refine Dep1.leave ?_ | with_reducible refine Dep.iter (fun _ => ?_) _ _ | with_reducible refine Dep.bind ?_ (fun _ => ?_) | with_reducible refine Dep.ite ?_ ?_ | with_reducible refine Dep1.ite ?_ ?_ | with_reducible refine Dep1.bind ?_ (fun _ => ?_) | split)
instance [PDep p]  : Dp (simpleF ts p) := ⟨dep_simple⟩
theorem dep_perhaps [h : PDep p] : Dep (perhapsF ts p) := by
  unfold perhapsF
  repeat' (first | exact Dp.d | with_reducible refine Dep.enter ?_ | with_reducible refine Dep1.leave ?_ | with_reducible refine Dep.iter (fun _ => ?_) _ _ | with_reducible refine Dep.bind ?_ (fun _ => ?_) | with_reducible refine Dep.ite ?_ ?_ | with_reducible refine Dep1.ite ?_ ?_ | with_reducible refine Dep1.bind ?_ (fun _ => ?_) | split)
instance [PDep p]  : Dp (perhapsF ts p) := ⟨dep_perhaps⟩
theorem dep_loop [h : PDep p] : Dep (loopF ts p) := by
  unfold loopF
  repeat' (first | exact Dp.d | with_reducible refine Dep.enter ?_ | with_reducible refine Dep1.leave ?_ | with_reducible refine Dep.iter (fun _ => ?_) _ _ | with_reducible refine Dep.bind ?_ (fun _ => ?_) | with_reducible refine Dep.ite ?_ ?_ | with_reducible refine Dep1.ite ?_ ?_ | with_reducible refine Dep1.bind ?_ (fun _ => ?_) | split)
instance [PDep p]  : Dp (loopF ts p) := ⟨dep_loop⟩
theorem dep_statement [h : PDep p] : Dep (statementF ts p) := by
  unfold statementF
  repeat' (first | exact Dp.d | with_reducible refine Dep.enter ?_ | with_reducible refine Dep1.leave ?_ | with_reducible refine Dep.iter (fun _ => ?_) _ _ | with_reducible refine Dep.bind ?_ (fun _ => ?_) | with_reducible refine Dep.ite ?_ ?_ | with_reducible refine Dep1.ite ?_ ?_ | with_reducible refine Dep1.bind ?_ (fun _ => ?_) | split)
instance [PDep p]  : Dp (statementF ts p) := ⟨dep_statement⟩
end
theorem pdep_par (ts : List TokF) : ∀ n, PDep (par ts n)
  | 0 => ⟨Dep.fail _, Dep.fail _, Dep.fail _, Dep.fail _, Dep.fail _, Dep.fail _⟩
  | n + 1 => have := pdep_par ts n; ⟨dep_cond, dep_expr, dep_signed, dep_atom, dep_stepped, dep_statement⟩
section
variable {ts : List TokF} {p : Par}
theorem dep_rule [h : PDep p] : Dep (ruleF ts p) := by
  unfold ruleF
  repeat' (first | exact Dp.d | with_reducible refine Dep.enter ?_ | with_reducible refine Dep1.leave ?_ | with_reducible refine Dep.iter (fun _ => ?_) _ _ | with_reducible refine Dep.bind ?_ (fun _ => ?_) | with_reducible refine Dep.ite ?_ ?_ | with_reducible refine Dep1.ite ?_ ?_ | with_reducible refine Dep1.bind ?_ (fun _ => ?_) | split | unfold headF | unfold patternF)
instance [PDep p]  : Dp (ruleF ts p) := ⟨dep_rule⟩
theorem dep_function [h : PDep p] : Dep (functionF ts p) := by
  unfold functionF
  repeat' (first | exact Dp.d | with_reducible refine Dep.enter ?_ | with_reducible refine Dep1.leave ?_ | with_reducible refine Dep.iter (fun _ => ?_) _ _ | with_reducible refine Dep.bind ?_ (fun _ => ?_) | with_reducible refine Dep.ite ?_ ?_ | with_reducible refine Dep1.ite ?_ ?_ | with_reducible refine Dep1.bind ?_ (fun _ => ?_) | split | unfold paramsF | unfold paramsS)
instance [PDep p]  : Dp (functionF ts p) := ⟨dep_function⟩
theorem dep_item [h : PDep p] (t : TreeT) : Dep (itemF ts p t) := by
  unfold itemF
  repeat' (first | exact Dp.d | with_reducible refine Dep.enter ?_ | with_reducible refine Dep1.leave ?_ | with_reducible refine Dep.iter (fun _ => ?_) _ _ | with_reducible refine Dep.bind ?_ (fun _ => ?_) | with_reducible refine Dep.ite ?_ ?_ | with_reducible refine Dep1.ite ?_ ?_ | with_reducible refine Dep1.bind ?_ (fun _ => ?_) | split)
instance [PDep p] {t : TreeT} : Dp (itemF ts p t) := ⟨dep_item _⟩
end
end Go.Proofs.Ytdiibenofbcfnaa
