/- Several texts put together: OneA, SimL, SimM. -/
import Derived.Test.YtdiibenofbcfnaaBu3
import Derived.Test.YtdiibenofbcfnaaBu19
import Derived.Test.YtdiibenofbcfnaaBu15
import Derived.Test.YtdiibenofbcfnaaBu20
set_option linter.unusedSimpArgs false
set_option linter.unusedVariables false
namespace Go.Proofs.Ytdiibenofbcfnaa
open Go.RowKit
theorem NR.all {n m : NodeT} (h : NR n m) : n.k = m.k ∧ n.s = m.s ∧ n.z = m.z ∧ n.i = m.i ∧ LR n.l m.l := by
  unfold NR at h
  rw [er_eq, er_eq] at h
  injection h with h1 h2 h3 h4 h5 h6
  exact ⟨h1, h3, h4, h5, h6⟩
inductive Few (N : Nat) : NodeT → Prop
  | mk (k a : Nat) (s : List Nat) (z : Int) (i : Nat) (l : List NodeT) : l.length ≤ N → (∀ n ∈ l, Few N n) → Few N (.mk k a s z i l)
theorem kidsL_get {w : World} {F : Nat → Prop} {A : Option Addr} : ∀ (l : List NodeT) (i j : Nat) (h : j < l.length), KidsL w F l A i → ∃ b o A' c', A = some ⟨b, o, none⟩ ∧ F b ∧ w.rangeAt b (o + 8 * (i + j)) (nodeC l[j] A' c') ∧ l[j].l.length ≤ c' ∧ KidsN w F l[j] A'
  | [], i, j, h, _ => absurd h (by simp)
  | n :: l, i, 0, h, hk => by
    rw [KidsL] at hk
    exact hk.1
  | n :: l, i, j + 1, h, hk => by
    rw [KidsL] at hk
    have := kidsL_get l (i + 1) j (by simpa using h) hk.2
    rw [show i + 1 + j = i + (j + 1) by omega] at this
    exact this
section
variable {w0 w w1 W : World} {X : List Nat} {S : World → Prop} {bs : List Bx} {rs : List Rw} {F : List Cold} {K : Act → World → Prop} {act : Act} {P : Program} {o : Oper} {Q : Exit → Act → World → Prop} {T : Ending → World → Prop}
theorem e_loadX {md : Region.Mode} {ops : Array Oper} {late : List Nat} {i : Nat} {oi : Oper} {f : Nat} {listed : Array Bool} {a : Act} (HO : Hid (Own w0 X S bs rs F w)) (hi : (ops.toList.drop i).head? = some oi)
    (hs : Region.noSelect ops = true) (hf : Region.free md ops listed i = true) (hr : (Region.ready md ops listed).contains i = true) (hil : late.contains i = false) (hw : waits md ops late listed i = true)
    {ty : TypeId} {x : Operand} (ho : oi.op = .load ty x) {b k : Nat} (hx : a.eval x = .pointer (some ⟨b, k, none⟩)) {cs : List Value} (hb : b < w0.heap.size) (hX : b ∉ X) (hm : w0.rangeAt b k cs)
    (hd : ∀ w, (isAgg ty).run P w = .ok true w) {n : Nat} (hsz : ∀ w, (sizeOf ty).run P w = .ok n w) (hn : cs.length = n)
    (hQ : ∀ c a w, Q (.panic c) (a.put oi.dst (.agg cs.toArray)) w → Q (.panic c) a w) (hwa : Region.wanted oi (yielded ops a.tmps) = true)
    (h : wpAnyE P md ops Q (OwnB w0 X bs) late f (listed.setIfInBounds i true) (a.put oi.dst (.agg cs.toArray)) w) : wpAnyE P md ops Q (OwnB w0 X bs) late (f + 1) listed a w := by
  subst hn
  refine e_take hi hs hf hr hil hw hQ hwa (OwnB.of HO) (fun w' hS => ?_) h
  obtain ⟨St', rs', F', h'⟩ := hS
  have hl : (loadCells ⟨b, k, none⟩ cs.length).run P w' = .ok cs.toArray w' :=
    run_loadCells_list (P := P) w' ⟨b, k, none⟩ cs (fun j v hv => by rw [Addr.add_mid]; exact (World.cell?_of_block (h'.kept.block b hb hX)).trans (hm j v hv))
  unfold execOp
  simp only [ho, hx, Instr.loadAt, Instr.sureAddr, Sem.run_bind, Sem.run_pure, Result.andThen_ok, loadVar, hd w', if_true, hsz w', hl]
theorem eL4 {ops : Array Oper} {late plan pl2 : List Nat} {i : Nat} {oi : Oper} {f : Nat} {listed : Array Bool} {a : Act} (HO : Hid (Own w0 X S bs rs F w)) (hi : (ops.toList.drop i).head? = some oi) {ty : TypeId} {x : Operand} (ho : oi.op = .load ty x) {b k : Nat} (hx : a.eval x = .pointer (some ⟨b, k, none⟩)) {cs : List Value} {n : Nat} [T : TN ty n] (hb : b < w0.heap.size) (hX : b ∉ X) (hm : w0.rangeAt b k cs) (hn : cs.length = n) (hk : ckL ops late listed i = true) (hQ : ∀ c a w, Q (.panic c) (a.put oi.dst (.agg cs.toArray)) w → Q (.panic c) a w) (hwa : Region.wanted oi (yielded ops a.tmps) = true)
    (h : wpE w0 X bs late plan pl2 ops Q f (listed.setIfInBounds i true) (a.put oi.dst (.agg cs.toArray)) w) : wpE w0 X bs late (i :: plan) pl2 ops Q (f + 1) listed a w := by
  have hk2 := Bool.and_eq_true_iff.1 hk
  refine ⟨?_⟩
  exact e_loadX HO hi (ckP.all hk2.1).1 (ckP.all hk2.1).2.1 (ckP.all hk2.1).2.2.1 (ckP.all hk2.1).2.2.2 hk2.2 ho hx hb hX hm T.a T.s hn hQ hwa h.h
set_option maxRecDepth 100000 in
set_option maxHeartbeats 3200000 in
theorem one_step (k a a' i n : Nat) (s : List Nat) (z : Int) (l l' : List NodeT) (A B : Option Addr) (c e : Nat) (w : World) (h1 : l.length = n) (h2 : l'.length = n) (hx : KidsL w (fun b => b < w.heap.size) l A 0) (hy : KidsL w (fun b => b < w.heap.size) l' B 0) (hc : n ≤ c) (he : n ≤ e) (hn : n ≤ 1000000)
    (IH : ∀ (j : Nat) (h : j < l.length) (h' : j < l'.length) (A B : Option Addr) (c e : Nat) (w : World), KidsN w (fun b => b < w.heap.size) l[j] A → KidsN w (fun b => b < w.heap.size) l'[j] B → l[j].l.length ≤ c → l'[j].l.length ≤ e → Calls Try.prog 11 #[.agg (nodeC l[j] A c).toArray, .agg (nodeC l'[j] B e).toArray, .bool false] w fun r w' => r = .returned (.bool true) ∧ Below w.heap.size w w') :
    Calls Try.prog 11 #[.agg #[.int .i64 (k : Int), .int .i64 (a : Int), .string (strN s), .bool (zn z), .int .u64 (zh z), .int .u64 (zl z), .int .i64 (i : Int), .slice A n c], .agg #[.int .i64 (k : Int), .int .i64 (a' : Int), .string (strN s), .bool (zn z), .int .u64 (zh z), .int .u64 (zl z), .int .i64 (i : Int), .slice B n e], .bool false] w fun r w' => r = .returned (.bool true) ∧ Below w.heap.size w w' := by
  have HO := own0 w
  have HX := Lib.hid hx
  have HY := Lib.hid hy
  clear hx hy
  go_enter Try.func11, Try.ntmps11
  (repeat' (first | (with_reducible first | refine oXt ?_ | refine oXb ?_) | ((with_reducible refine ib_miss ?_ ?_); exact rfl) | ((first | ((with_reducible refine to_load ?_); first | refine oL1 HO rfl rfl ?_ | refine oL2 HO rfl rfl ?_ | refine oL3 HO rfl rfl ?_) | ((first | ((with_reducible refine to_box ?_); refine wo_box HO rfl rfl ?_)); clear HO; intro _ HO)); (try simp only [Act.put, pS0, pS1, pS2])) | ((first | with_reducible refine ab_drew HO ?_); clear HO; intro _ HO) | (first | ((with_reducible refine ab_row HO 40 8 1 ?_ ?_ ?_); (rfl); (decide); clear HO; intro _ HO) | ((with_reducible refine ab_row HO 40 8 2 ?_ ?_ ?_); (rfl); (decide); clear HO; intro _ HO) | ((with_reducible refine ab_row HO 40 8 3 ?_ ?_ ?_); (rfl); (decide); clear HO; intro _ HO) | ((with_reducible refine ab_row HO 40 8 4 ?_ ?_ ?_); (rfl); (decide); clear HO; intro _ HO)) | go_values | go_skip | go_guarded | go_step | go_upon | (go_ite <;> go_prune <;> (try go_simp))))
  rename_i Kf hKf
  rename_i W1 W2
  (try dsimp only [List.drop, List.take])
  go_loopw [7] (fun iv wr => ∃ j : Nat, iv = .int .i64 (j : Int) ∧ j ≤ n ∧ Hid (Own w [] (fun _ => True) [⟨W1.heap.size, 40, [.int .i64 (k : Int), .int .i64 (a' : Int), .string (strN s), .bool (zn z), .int .u64 (zh z), .int .u64 (zl z), .int .i64 (i : Int), .slice B n e]⟩, ⟨w.heap.size, 40, [.int .i64 (k : Int), .int .i64 (a : Int), .string (strN s), .bool (zn z), .int .u64 (zh z), .int .u64 (zl z), .int .i64 (i : Int), .slice A n c]⟩] [] [] wr)) (fun iv _ => n - (intOf iv).toNat)
  case atStart => exact ⟨0, rfl, Nat.zero_le _, HO⟩
  case round =>
    clear HO
    obtain ⟨j, rfl, hj, HO⟩ := hrel
    by_cases hjn : j < n
    · have hd3 : decide ((j : Int) < (n : Int)) = true := decide_eq_true (by omega)
      have hjI : (j : Int) < (n : Int) := by omega
      have hj0 : (0 : Int) ≤ (j : Int) := by omega
      have hw0 : wrap64 ((j : Int) + 1) = (j : Int) + 1 := IntWalk.wrap64_in _ (by omega)
      obtain ⟨bA, oA, A', cA, rfl, hbA, hrA, hcA, hkA⟩ := kidsL_get l 0 j (by omega) HX.out
      obtain ⟨bB, oB, B', cB, rfl, hbB, hrB, hcB, hkB⟩ := kidsL_get l' 0 j (by omega) HY.out
      rw [Nat.zero_add, Nat.mul_comm] at hrA hrB
      (repeat' (go_not_at_region 6; first | (with_reducible first | refine oXt ?_ | refine oXb ?_) | ((with_reducible refine ib_miss ?_ ?_); exact rfl) | ((first | ((with_reducible refine to_load ?_); first | refine oL1 HO rfl rfl ?_ | refine oL2 HO rfl rfl ?_ | refine oL3 HO rfl rfl ?_) | ((first | ((with_reducible refine to_box ?_); refine wo_box HO rfl rfl ?_)); clear HO; intro _ HO)); (try simp only [Act.put, pS0, pS1, pS2])) | ((first | with_reducible refine ab_drew HO ?_); clear HO; intro _ HO) | go_values | go_skip | go_guarded | go_step | go_upon | (go_ite <;> go_prune <;> (try go_simp))))
      have HFk := Lib.hid (fun (W6 : World) (h : Kept [] w W6) b (hb : b < w.heap.size) => (⟨Nat.lt_of_lt_of_le hb h.size, h.block b hb List.not_mem_nil⟩ : b < W6.heap.size ∧ W6.heap[b]? = w.heap[b]?))
      refine eBe HO [] [0, 2, 5, 7, 10, 1, 3, 4, 6, 8, 9, 11, 12] [] ?_
      clear HO
      intro _ HO
      (repeat' (first | ((with_reducible refine eGo ?_); first | refine eCa rfl rfl (by kernel_rfl) (by rfl) (fun K hK => ?_) | refine eSl rfl rfl (by kernel_rfl) (by rfl) (fun K hK => ?_) | ((first | refine eL1 HO rfl rfl rfl (by kernel_rfl) (fun _ _ _ h => h) (by rfl) ?_ | refine eL2 HO rfl rfl rfl (by kernel_rfl) (fun _ _ _ h => h) (by rfl) ?_ | refine eL4 HO rfl rfl rfl hbA List.not_mem_nil hrA (by rfl) (by kernel_rfl) (fun _ _ _ h => h) (by rfl) ?_ | refine eL4 HO rfl rfl rfl hbB List.not_mem_nil hrB (by rfl) (by kernel_rfl) (fun _ _ _ h => h) (by rfl) ?_ | refine ePu HO rfl (v := .pointer (some ⟨bB, oB + 8 * j, none⟩)) (by kernel_rfl) (fun _ _ _ h => h) (by rfl) (by intro _; go_simp; simp [hjI, hj0]; done) ?_ | refine ePu HO rfl (by kernel_rfl) (fun _ _ _ h => h) (by rfl) (eFi rfl rfl ⟨_, _, _, _, _, _, _, rfl, rfl, inferInstance⟩) ?_ | refine ePu HO rfl (by kernel_rfl) (fun _ _ _ h => h) (by rfl) (by intro _; go_simp; (try with_reducible rfl)) ?_); (try simp only [Act.put, pS0, pS1, pS2])) | refine eA1 rfl (by kernel_rfl) (by rfl) (fun K hK => ?_) | refine eA2 rfl (by kernel_rfl) (by rfl) (fun K hK => ?_) | refine eEe (by kernel_rfl) ?_) | ((with_reducible refine eHo ?_); first | (refine eA4 rfl (by kernel_rfl) (fun _ _ _ h => h) (by rfl) (by intro _; go_simp; (try with_reducible rfl)) ?_; (try simp only [Act.put, pS0, pS1, pS2])) | refine eA3 rfl (by kernel_rfl) (by rfl) (fun K hK => ?_) | refine eDo (by kernel_rfl) ?_) | ((with_reducible show K _ _); (first | with_reducible refine hK.out _ _ (OwnB.of HO) ?_ | with_reducible refine hK.out _ _ ?_); clear hK K; (try simp only [Act.put, pS0, pS1, pS2])) | ((first | (go_at_call 11; refine (IH j (by omega) (by omega) A' B' cA cB _ (KidsN.st (HFk.out _ HO.out.kept) _ _ hkA) (KidsN.st (HFk.out _ HO.out.kept) _ _ hkB) hcA hcB).mono ?_; rintro _ W5 ⟨rfl, q5⟩; replace HO := Lib.hid (HO.out.next q5); clear q5)) <;> (try dsimp only)) | ((with_reducible refine eOp ?_); go_simp)))
      (repeat' (first | (with_reducible first | refine oXt ?_ | refine oXb ?_) | ((with_reducible refine ib_miss ?_ ?_); exact rfl) | ((first | ((with_reducible refine to_load ?_); first | refine oL1 HO rfl rfl ?_ | refine oL2 HO rfl rfl ?_ | refine oL3 HO rfl rfl ?_) | ((first | ((with_reducible refine to_box ?_); refine wo_box HO rfl rfl ?_)); clear HO; intro _ HO)); (try simp only [Act.put, pS0, pS1, pS2])) | ((first | with_reducible refine ab_drew HO ?_); clear HO; intro _ HO) | go_values | go_skip | go_guarded | go_step | go_upon | (go_ite <;> go_prune <;> (try go_simp))))
      (try simp only [hw0])
      go_roundw
      case rel => exact ⟨j + 1, by go_num, by omega, HO⟩
      case measure => simp [intOf]; omega
    · have hd3 : decide ((j : Int) < (n : Int)) = false := decide_eq_false (by omega)
      (repeat' (first | (with_reducible first | refine oXt ?_ | refine oXb ?_) | ((with_reducible refine ib_miss ?_ ?_); exact rfl) | ((first | ((with_reducible refine to_load ?_); first | refine oL1 HO rfl rfl ?_ | refine oL2 HO rfl rfl ?_ | refine oL3 HO rfl rfl ?_) | ((first | ((with_reducible refine to_box ?_); refine wo_box HO rfl rfl ?_)); clear HO; intro _ HO)); (try simp only [Act.put, pS0, pS1, pS2])) | ((first | with_reducible refine ab_drew HO ?_); clear HO; intro _ HO) | go_values | go_skip | go_guarded | go_step | go_upon | (go_ite <;> go_prune <;> (try go_simp))))
      refine bp_tmp (t := 6) rfl rfl rfl ?_
      exact ⟨rfl, HO.out.kept.below⟩
theorem lr_get : ∀ {l m : List NodeT}, LR l m → ∀ (j : Nat) (h : j < l.length) (h' : j < m.length), NR l[j] m[j]
  | [], _, _, j, h, _ => absurd h (by simp)
  | n :: l, [], h0, j, h, h' => absurd h' (by simp)
  | n :: l, m :: r, h0, 0, h, h' => (LR.cons_inv h0).1
  | n :: l, m :: r, h0, j + 1, h, h' => lr_get (LR.cons_inv h0).2 j (by simpa using h) (by simpa using h')
theorem one_any {N : Nat} (hN : N ≤ 1000000) : ∀ (x y : NodeT), Few N x → NR x y → ∀ (A B : Option Addr) (c e : Nat) (w : World), KidsN w (fun b => b < w.heap.size) x A → KidsN w (fun b => b < w.heap.size) y B → x.l.length ≤ c → y.l.length ≤ e → Calls Try.prog 11 #[.agg (nodeC x A c).toArray, .agg (nodeC y B e).toArray, .bool false] w fun r w' => r = .returned (.bool true) ∧ Below w.heap.size w w' := by
  intro x y hf
  induction hf generalizing y with
  | mk k a s z i l hl hfl ih =>
    intro hxy A B c e w hx hy hc he
    obtain ⟨k', a', s', z', i', l'⟩ := y
    have h0 := NR.all hxy
    clear hxy
    change k = k' ∧ s = s' ∧ z = z' ∧ i = i' ∧ LR l l' at h0
    obtain ⟨rfl, rfl, rfl, rfl, h5⟩ := h0
    change l'.length ≤ e at he
    change l.length ≤ c at hc
    rw [KidsN] at hx hy
    have hlen := h5.length
    have hst := one_step k a a' i l.length s z l l' A B c e w rfl hlen.symm hx hy hc (by rw [hlen]; exact he) (Nat.le_trans hl hN) (fun j h h' A B c e w => ih l[j] (List.getElem_mem h) l'[j] (lr_get h5 j h h') A B c e w)
    show Calls _ _ #[.agg #[.int .i64 (k : Int), .int .i64 (a : Int), .string (strN s), .bool (zn z), .int .u64 (zh z), .int .u64 (zl z), .int .i64 (i : Int), .slice A l.length c], .agg #[.int .i64 (k : Int), .int .i64 (a' : Int), .string (strN s), .bool (zn z), .int .u64 (zh z), .int .u64 (zl z), .int .i64 (i : Int), .slice B l'.length e], .bool false] w _
    rw [← hlen]
    exact hst
end
open Go.RowKit
def Res {α : Type} (P : α → Prop) (f : PP α) : Prop := ∀ a d x a' d', f a d = .ok x a' d' → P x
def FwL (N M : Nat) (l : List NodeT) : Prop := l.length ≤ M ∧ ∀ n ∈ l, Few N n
def FewF (N : Nat) (f : FuncT) : Prop := f.params.length ≤ N ∧ Few N f.body
def FewR (N : Nat) (r : RuleT) : Prop := FwL N N r.l ∧ Few N r.body
section
variable {α β : Type} {m : PP α} {f : α → PP β} {ts : List TokF} {P : α → Prop} {Q : β → Prop} {N M : Nat}
theorem Res.bind (hm : Res P m) (hf : ∀ x, P x → Res Q (f x)) : Res Q (m >>= f) := fun a d y a' d' h => by
  obtain ⟨x, a1, d1, h1, h2⟩ := bind_inv h
  exact hf x (hm _ _ _ _ _ h1) _ _ _ _ _ h2
theorem Res.any (hf : ∀ x, Res Q (f x)) : Res Q (m >>= f) := fun a d y a' d' h => by
  obtain ⟨x, a1, d1, h1, h2⟩ := bind_inv h
  exact hf x _ _ _ _ _ h2
theorem Res.pure {x : α} (hx : P x) : Res P (pure x : PP α) := fun a d y a' d' h => by
  have h' : PR.ok x a d = .ok y a' d' := h
  injection h' with h1; exact h1 ▸ hx
theorem Res.fail (k : Int) : Res P (failP ts k : PP α) := fun a d y a' d' h => by cases h
theorem Res.ite {c : Prop} [Decidable c] {A B : PP α} (hA : Res P A) (hB : Res P B) : Res P (if c then A else B) := by split <;> assumption
theorem Res.mono {P' : α → Prop} (h : Res P m) (hp : ∀ x, P x → P' x) : Res P' m := fun a d x a' d' e => hp x (h _ _ _ _ _ e)
theorem Res.iter {go : Nat → Bool} {step : α → PP α} (h : ∀ x, P x → Res P (step x)) : ∀ (f : Nat) (x : α), P x → Res P (iter go step f x)
  | 0, x, hx => Res.pure hx
  | f + 1, x, hx => by
    intro a d y a' d' e
    rw [iter_step] at e
    split at e
    · exact ((h x hx).bind fun z hz => Res.iter h f z hz) a d y a' d' e
    · exact Res.pure hx a d y a' d' e
theorem FwL.mono {M' : Nat} {l : List NodeT} (h : FwL N M l) (hM : M ≤ M') : FwL N M' l := ⟨Nat.le_trans h.1 hM, h.2⟩
theorem FwL.nil : FwL N M [] := ⟨Nat.zero_le _, fun n hn => absurd hn List.not_mem_nil⟩
theorem FwL.cons {x : NodeT} {l : List NodeT} (hx : Few N x) (h : FwL N M l) : FwL N (M + 1) (x :: l) := ⟨Nat.succ_le_succ h.1, fun n hn => (List.mem_cons.1 hn).elim (fun e => e ▸ hx) (h.2 n)⟩
theorem FwL.snoc {x : NodeT} {l : List NodeT} (h : FwL N M l) (hx : Few N x) : FwL N (M + 1) (l ++ [x]) := ⟨by rw [List.length_append]; exact Nat.succ_le_succ h.1, fun n hn => (List.mem_append.1 hn).elim (h.2 n) (fun e => List.mem_singleton.1 e ▸ hx)⟩
theorem FwL.few {k a : Nat} {s : List Nat} {z : Int} {i : Nat} {l : List NodeT} (h : FwL N M l) (hM : M ≤ N) : Few N (.mk k a s z i l) := .mk k a s z i l (Nat.le_trans h.1 hM) h.2
theorem Res.grow {go : Nat → Bool} {step : List NodeT → PP (List NodeT)} (h : ∀ M l, FwL N M l → Res (FwL N (M + 1)) (step l)) : ∀ (f M : Nat) (l : List NodeT), FwL N M l → Res (FwL N (M + f)) (Go.Proofs.Ytdiibenofbcfnaa.iter go step f l)
  | 0, M, l, hl => Res.pure hl
  | f + 1, M, l, hl => by
    intro a d y a' d' e
    rw [iter_step] at e
    split at e
    · have := ((h M l hl).bind fun z hz => Res.grow h f (M + 1) z hz) a d y a' d' e
      exact this.mono (by omega)
    · exact Res.pure (hl.mono (by omega)) a d y a' d' e
end
open Go.RowKit
class Rs {α : Type} (P : α → Prop) (f : PP α) : Prop where
  r : Res P f
class PFew (N : Nat) (p : Par) : Prop where
  cond : Res (Few N) p.cond
  expr : Res (Few N) p.expr
  signed : Res (Few N) p.signed
  atom : Res (Few N) p.atom
  stepped : Res (Few N) p.stepped
  statement : Res (Few N) p.statement
class Lk (ts : outParam (List TokF)) (N : Nat) : Prop where
  l : ts.length + 8 ≤ N
section
variable {ts : List TokF} {p : Par} {N : Nat}
instance [h : PFew N p] : Rs (Few N) p.cond := ⟨h.cond⟩
instance [h : PFew N p] : Rs (Few N) p.expr := ⟨h.expr⟩
instance [h : PFew N p] : Rs (Few N) p.signed := ⟨h.signed⟩
instance [h : PFew N p] : Rs (Few N) p.atom := ⟨h.atom⟩
instance [h : PFew N p] : Rs (Few N) p.stepped := ⟨h.stepped⟩
instance [h : PFew N p] : Rs (Few N) p.statement := ⟨h.statement⟩
section
variable [L : Lk ts N] {k a i : Nat} {s : List Nat} {z : Int} {x y u v : NodeT} {l : List NodeT}
theorem fw0 : Few N (.mk k a s z i []) := FwL.few (M := 0) FwL.nil (by omega)
include L in
theorem fw1 (hx : Few N x) : Few N (.mk k a s z i [x]) := FwL.few (FwL.cons hx FwL.nil) (by have := L.l; omega)
include L in
theorem fw2 (hx : Few N x) (hy : Few N y) : Few N (.mk k a s z i [x, y]) := FwL.few (FwL.cons hx (FwL.cons hy FwL.nil)) (by have := L.l; omega)
include L in
theorem fw3 (hx : Few N x) (hy : Few N y) (hu : Few N u) : Few N (.mk k a s z i [x, y, u]) := FwL.few (FwL.cons hx (FwL.cons hy (FwL.cons hu FwL.nil))) (by have := L.l; omega)
include L in
theorem fw4 (hx : Few N x) (hy : Few N y) (hu : Few N u) (hv : Few N v) : Few N (.mk k a s z i [x, y, u, v]) := FwL.few (FwL.cons hx (FwL.cons hy (FwL.cons hu (FwL.cons hv FwL.nil)))) (by have := L.l; omega)
include L in
theorem fwl (hl : FwL N (ts.length + 1) l) : Few N (.mk k a s z i l) := FwL.few hl (by have := L.l; omega)
include L in
theorem fws (hl : FwL N (ts.length + 1) l) (hx : Few N x) : Few N (.mk k a s z i (l ++ [x])) := FwL.few (FwL.snoc hl hx) (by have := L.l; omega)
end
theorem few_expr [PFew N p] [Lk ts N] : Res (Few N) (exprF ts p) := by
  unfold exprF
  repeat' (first | assumption | with_reducible exact Res.fail _ | with_reducible refine Res.ite ?_ ?_ | (with_reducible refine Res.bind (P := Few N) (by first | exact Rs.r | exact Res.ite Rs.r Rs.r) (fun _ _ => ?_)) | (with_reducible refine Res.bind (P := FwL N (ts.length + 1)) (by first | exact Rs.r) (fun _ _ => ?_)) | (with_reducible refine Res.any (fun _ => ?_)) | (with_reducible refine Res.pure ?_) | exact Rs.r | exact fw1 ‹_› | exact fw2 ‹_› ‹_› | (refine fw3 ?_ ?_ ?_ <;> assumption) | exact fwl ‹_› | exact fw0 | exact FwL.nil)
instance [PFew N p] [Lk ts N] : Rs (Few N) (exprF ts p) := ⟨few_expr⟩
theorem few_list [PFew N p] [Lk ts N] : Res (FwL N (ts.length + 1)) (listF ts p) := by
  unfold listF
  refine Res.bind (few_expr (N := N)) (fun x hx => ?_)
  refine (Res.grow (N := N) (fun M l hl => ?_) ts.length 1 [x] (FwL.cons hx FwL.nil)).mono (fun l hl => hl.mono (by omega))
  unfold listS
  refine Res.any (fun _ => Res.any (fun _ => Res.bind (few_expr (N := N)) (fun y hy => Res.pure (hl.snoc hy))))
instance [PFew N p] [Lk ts N] : Rs (FwL N (ts.length + 1)) (listF ts p) := ⟨few_list⟩
theorem few_within [PFew N p] [Lk ts N] {s e : List Nat} : Res (FwL N (ts.length + 1)) (withinF ts p s e) := by
  unfold withinF
  repeat' (first | assumption | with_reducible exact Res.fail _ | with_reducible refine Res.ite ?_ ?_ | (with_reducible refine Res.bind (P := Few N) (by first | exact Rs.r | exact Res.ite Rs.r Rs.r) (fun _ _ => ?_)) | (with_reducible refine Res.bind (P := FwL N (ts.length + 1)) (by first | exact Rs.r) (fun _ _ => ?_)) | (with_reducible refine Res.any (fun _ => ?_)) | (with_reducible refine Res.pure ?_) | exact Rs.r | exact fw1 ‹_› | exact fw2 ‹_› ‹_› | (refine fw3 ?_ ?_ ?_ <;> assumption) | exact fwl ‹_› | exact fw0 | exact FwL.nil)
instance [PFew N p] [Lk ts N] {s e : List Nat} : Rs (FwL N (ts.length + 1)) (withinF ts p s e) := ⟨few_within⟩
theorem few_args [PFew N p] [Lk ts N] : Res (FwL N (ts.length + 1)) (argsF ts p) := by
  unfold argsF
  repeat' (first | assumption | with_reducible exact Res.fail _ | with_reducible refine Res.ite ?_ ?_ | (with_reducible refine Res.bind (P := Few N) (by first | exact Rs.r | exact Res.ite Rs.r Rs.r) (fun _ _ => ?_)) | (with_reducible refine Res.bind (P := FwL N (ts.length + 1)) (by first | exact Rs.r) (fun _ _ => ?_)) | (with_reducible refine Res.any (fun _ => ?_)) | (with_reducible refine Res.pure ?_) | exact Rs.r | exact fw1 ‹_› | exact fw2 ‹_› ‹_› | (refine fw3 ?_ ?_ ?_ <;> assumption) | exact fwl ‹_› | exact fw0 | exact FwL.nil)
instance [PFew N p] [Lk ts N] : Rs (FwL N (ts.length + 1)) (argsF ts p) := ⟨few_args⟩
theorem few_place [PFew N p] [Lk ts N] : Res (Few N) (placeF ts p) := by
  unfold placeF
  repeat' (first | assumption | with_reducible exact Res.fail _ | with_reducible refine Res.ite ?_ ?_ | (with_reducible refine Res.bind (P := Few N) (by first | exact Rs.r | exact Res.ite Rs.r Rs.r) (fun _ _ => ?_)) | (with_reducible refine Res.bind (P := FwL N (ts.length + 1)) (by first | exact Rs.r) (fun _ _ => ?_)) | (with_reducible refine Res.any (fun _ => ?_)) | (with_reducible refine Res.pure ?_) | exact Rs.r | exact fw1 ‹_› | exact fw2 ‹_› ‹_› | (refine fw3 ?_ ?_ ?_ <;> assumption) | exact fwl ‹_› | exact fw0 | exact FwL.nil)
instance [PFew N p] [Lk ts N] : Rs (Few N) (placeF ts p) := ⟨few_place⟩
theorem few_stepped [PFew N p] [Lk ts N] : Res (Few N) (steppedF ts p) := by
  unfold steppedF
  repeat' (first | assumption | with_reducible exact Res.fail _ | with_reducible refine Res.ite ?_ ?_ | (with_reducible refine Res.bind (P := Few N) (by first | exact Rs.r | exact Res.ite Rs.r Rs.r) (fun _ _ => ?_)) | (with_reducible refine Res.bind (P := FwL N (ts.length + 1)) (by first | exact Rs.r) (fun _ _ => ?_)) | (with_reducible refine Res.any (fun _ => ?_)) | (with_reducible refine Res.pure ?_) | exact Rs.r | exact fw1 ‹_› | exact fw2 ‹_› ‹_› | (refine fw3 ?_ ?_ ?_ <;> assumption) | exact fwl ‹_› | exact fw0 | exact FwL.nil)
instance [PFew N p] [Lk ts N] : Rs (Few N) (steppedF ts p) := ⟨few_stepped⟩
theorem few_other [PFew N p] [Lk ts N] : Res (Few N) (otherF ts p) := by
  unfold otherF
  repeat' (first | assumption | with_reducible exact Res.fail _ | with_reducible refine Res.ite ?_ ?_ | (with_reducible refine Res.bind (P := Few N) (by first | exact Rs.r | exact Res.ite Rs.r Rs.r) (fun _ _ => ?_)) | (with_reducible refine Res.bind (P := FwL N (ts.length + 1)) (by first | exact Rs.r) (fun _ _ => ?_)) | (with_reducible refine Res.any (fun _ => ?_)) | (with_reducible refine Res.pure ?_) | exact Rs.r | exact fw1 ‹_› | exact fw2 ‹_› ‹_› | (refine fw3 ?_ ?_ ?_ <;> assumption) | exact fwl ‹_› | exact fw0 | exact FwL.nil)
  rename_i hl
  split
  · exact Res.pure (hl.2 _ List.mem_cons_self)
  · repeat' (first | assumption | with_reducible exact Res.fail _ | with_reducible refine Res.ite ?_ ?_ | (with_reducible refine Res.bind (P := Few N) (by first | exact Rs.r | exact Res.ite Rs.r Rs.r) (fun _ _ => ?_)) | (with_reducible refine Res.bind (P := FwL N (ts.length + 1)) (by first | exact Rs.r) (fun _ _ => ?_)) | (with_reducible refine Res.any (fun _ => ?_)) | (with_reducible refine Res.pure ?_) | exact Rs.r | exact fw1 ‹_› | exact fw2 ‹_› ‹_› | (refine fw3 ?_ ?_ ?_ <;> assumption) | exact fwl ‹_› | exact fw0 | exact FwL.nil)
instance [PFew N p] [Lk ts N] : Rs (Few N) (otherF ts p) := ⟨few_other⟩
theorem few_atom [PFew N p] [Lk ts N] : Res (Few N) (atomF ts p) := by
  unfold atomF
  repeat' (first | assumption | with_reducible exact Res.fail _ | with_reducible refine Res.ite ?_ ?_ | (with_reducible refine Res.bind (P := Few N) (by first | exact Rs.r | exact Res.ite Rs.r Rs.r) (fun _ _ => ?_)) | (with_reducible refine Res.bind (P := FwL N (ts.length + 1)) (by first | exact Rs.r) (fun _ _ => ?_)) | (with_reducible refine Res.any (fun _ => ?_)) | (with_reducible refine Res.pure ?_) | exact Rs.r | exact fw1 ‹_› | exact fw2 ‹_› ‹_› | (refine fw3 ?_ ?_ ?_ <;> assumption) | exact fwl ‹_› | exact fw0 | exact FwL.nil)
instance [PFew N p] [Lk ts N] : Rs (Few N) (atomF ts p) := ⟨few_atom⟩
theorem few_step [PFew N p] [Lk ts N] : Res (Few N) (stepF ts p) := by
  unfold stepF
  repeat' (first | assumption | with_reducible exact Res.fail _ | with_reducible refine Res.ite ?_ ?_ | (with_reducible refine Res.bind (P := Few N) (by first | exact Rs.r | exact Res.ite Rs.r Rs.r) (fun _ _ => ?_)) | (with_reducible refine Res.bind (P := FwL N (ts.length + 1)) (by first | exact Rs.r) (fun _ _ => ?_)) | (with_reducible refine Res.any (fun _ => ?_)) | (with_reducible refine Res.pure ?_) | exact Rs.r | exact fw1 ‹_› | exact fw2 ‹_› ‹_› | (refine fw3 ?_ ?_ ?_ <;> assumption) | exact fwl ‹_› | exact fw0 | exact FwL.nil)
instance [PFew N p] [Lk ts N] : Rs (Few N) (stepF ts p) := ⟨few_step⟩
theorem few_deeper [PFew N p] [Lk ts N] : Res (Few N) (deeperF ts p) := by
  unfold deeperF
  repeat' (first | assumption | with_reducible exact Res.fail _ | with_reducible refine Res.ite ?_ ?_ | (with_reducible refine Res.bind (P := Few N) (by first | exact Rs.r | exact Res.ite Rs.r Rs.r) (fun _ _ => ?_)) | (with_reducible refine Res.bind (P := FwL N (ts.length + 1)) (by first | exact Rs.r) (fun _ _ => ?_)) | (with_reducible refine Res.any (fun _ => ?_)) | (with_reducible refine Res.pure ?_) | exact Rs.r | exact fw1 ‹_› | exact fw2 ‹_› ‹_› | (refine fw3 ?_ ?_ ?_ <;> assumption) | exact fwl ‹_› | exact fw0 | exact FwL.nil)
instance [PFew N p] [Lk ts N] : Rs (Few N) (deeperF ts p) := ⟨few_deeper⟩
theorem few_signed [PFew N p] [Lk ts N] : Res (Few N) (signedF ts p) := by
  unfold signedF
  repeat' (first | assumption | with_reducible exact Res.fail _ | with_reducible refine Res.ite ?_ ?_ | (with_reducible refine Res.bind (P := Few N) (by first | exact Rs.r | exact Res.ite Rs.r Rs.r) (fun _ _ => ?_)) | (with_reducible refine Res.bind (P := FwL N (ts.length + 1)) (by first | exact Rs.r) (fun _ _ => ?_)) | (with_reducible refine Res.any (fun _ => ?_)) | (with_reducible refine Res.pure ?_) | exact Rs.r | exact fw1 ‹_› | exact fw2 ‹_› ‹_› | (refine fw3 ?_ ?_ ?_ <;> assumption) | exact fwl ‹_› | exact fw0 | exact FwL.nil)
instance [PFew N p] [Lk ts N] : Rs (Few N) (signedF ts p) := ⟨few_signed⟩
theorem few_product [PFew N p] [Lk ts N] : Res (Few N) (productF ts p) := by
  unfold productF
  refine Res.bind Rs.r (fun x hx => Res.iter (fun y hy => ?_) _ x hx)
  unfold productS
  repeat' (first | assumption | with_reducible exact Res.fail _ | with_reducible refine Res.ite ?_ ?_ | (with_reducible refine Res.bind (P := Few N) (by first | exact Rs.r | exact Res.ite Rs.r Rs.r) (fun _ _ => ?_)) | (with_reducible refine Res.bind (P := FwL N (ts.length + 1)) (by first | exact Rs.r) (fun _ _ => ?_)) | (with_reducible refine Res.any (fun _ => ?_)) | (with_reducible refine Res.pure ?_) | exact Rs.r | exact fw1 ‹_› | exact fw2 ‹_› ‹_› | (refine fw3 ?_ ?_ ?_ <;> assumption) | exact fwl ‹_› | exact fw0 | exact FwL.nil)
instance [PFew N p] [Lk ts N] : Rs (Few N) (productF ts p) := ⟨few_product⟩
theorem few_sum [PFew N p] [Lk ts N] : Res (Few N) (sumF ts p) := by
  unfold sumF
  refine Res.bind Rs.r (fun x hx => Res.iter (fun y hy => ?_) _ x hx)
  unfold sumS
  repeat' (first | assumption | with_reducible exact Res.fail _ | with_reducible refine Res.ite ?_ ?_ | (with_reducible refine Res.bind (P := Few N) (by first | exact Rs.r | exact Res.ite Rs.r Rs.r) (fun _ _ => ?_)) | (with_reducible refine Res.bind (P := FwL N (ts.length + 1)) (by first | exact Rs.r) (fun _ _ => ?_)) | (with_reducible refine Res.any (fun _ => ?_)) | (with_reducible refine Res.pure ?_) | exact Rs.r | exact fw1 ‹_› | exact fw2 ‹_› ‹_› | (refine fw3 ?_ ?_ ?_ <;> assumption) | exact fwl ‹_› | exact fw0 | exact FwL.nil)
instance [PFew N p] [Lk ts N] : Rs (Few N) (sumF ts p) := ⟨few_sum⟩
theorem few_cat [PFew N p] [Lk ts N] : Res (Few N) (catF ts p) := by
  unfold catF
  refine Res.bind (few_sum (N := N)) (fun x hx => Res.bind (P := Few N) (Res.iter (fun y hy => ?_) _ x hx) (fun n hn => Res.iter (fun y hy => ?_) _ n hn))
  · unfold catS
    repeat' (first | assumption | with_reducible exact Res.fail _ | with_reducible refine Res.ite ?_ ?_ | (with_reducible refine Res.bind (P := Few N) (by first | exact Rs.r | exact Res.ite Rs.r Rs.r) (fun _ _ => ?_)) | (with_reducible refine Res.bind (P := FwL N (ts.length + 1)) (by first | exact Rs.r) (fun _ _ => ?_)) | (with_reducible refine Res.any (fun _ => ?_)) | (with_reducible refine Res.pure ?_) | exact Rs.r | exact fw1 ‹_› | exact fw2 ‹_› ‹_› | (refine fw3 ?_ ?_ ?_ <;> assumption) | exact fwl ‹_› | exact fw0 | exact FwL.nil)
  · unfold catS2
    repeat' (first | assumption | with_reducible exact Res.fail _ | with_reducible refine Res.ite ?_ ?_ | (with_reducible refine Res.bind (P := Few N) (by first | exact Rs.r | exact Res.ite Rs.r Rs.r) (fun _ _ => ?_)) | (with_reducible refine Res.bind (P := FwL N (ts.length + 1)) (by first | exact Rs.r) (fun _ _ => ?_)) | (with_reducible refine Res.any (fun _ => ?_)) | (with_reducible refine Res.pure ?_) | exact Rs.r | exact fw1 ‹_› | exact fw2 ‹_› ‹_› | (refine fw3 ?_ ?_ ?_ <;> assumption) | exact fwl ‹_› | exact fw0 | exact FwL.nil)
instance [PFew N p] [Lk ts N] : Rs (Few N) (catF ts p) := ⟨few_cat⟩
theorem few_comp [PFew N p] [Lk ts N] : Res (Few N) (compF ts p) := by
  unfold compF
  repeat' (first | assumption | with_reducible exact Res.fail _ | with_reducible refine Res.ite ?_ ?_ | (with_reducible refine Res.bind (P := Few N) (by first | exact Rs.r | exact Res.ite Rs.r Rs.r) (fun _ _ => ?_)) | (with_reducible refine Res.bind (P := FwL N (ts.length + 1)) (by first | exact Rs.r) (fun _ _ => ?_)) | (with_reducible refine Res.any (fun _ => ?_)) | (with_reducible refine Res.pure ?_) | exact Rs.r | exact fw1 ‹_› | exact fw2 ‹_› ‹_› | (refine fw3 ?_ ?_ ?_ <;> assumption) | exact fwl ‹_› | exact fw0 | exact FwL.nil)
instance [PFew N p] [Lk ts N] : Rs (Few N) (compF ts p) := ⟨few_comp⟩
theorem few_match [PFew N p] [Lk ts N] : Res (Few N) (matchF ts p) := by
  unfold matchF
  refine Res.bind Rs.r (fun x hx => Res.iter (fun y hy => ?_) _ x hx)
  unfold matchS
  repeat' (first | assumption | with_reducible exact Res.fail _ | with_reducible refine Res.ite ?_ ?_ | (with_reducible refine Res.bind (P := Few N) (by first | exact Rs.r | exact Res.ite Rs.r Rs.r) (fun _ _ => ?_)) | (with_reducible refine Res.bind (P := FwL N (ts.length + 1)) (by first | exact Rs.r) (fun _ _ => ?_)) | (with_reducible refine Res.any (fun _ => ?_)) | (with_reducible refine Res.pure ?_) | exact Rs.r | exact fw1 ‹_› | exact fw2 ‹_› ‹_› | (refine fw3 ?_ ?_ ?_ <;> assumption) | exact fwl ‹_› | exact fw0 | exact FwL.nil)
instance [PFew N p] [Lk ts N] : Rs (Few N) (matchF ts p) := ⟨few_match⟩
theorem few_isin [PFew N p] [Lk ts N] : Res (Few N) (isinF ts p) := by
  unfold isinF
  refine Res.bind Rs.r (fun x hx => Res.iter (fun y hy => ?_) _ x hx)
  unfold isinS
  repeat' (first | assumption | with_reducible exact Res.fail _ | with_reducible refine Res.ite ?_ ?_ | (with_reducible refine Res.bind (P := Few N) (by first | exact Rs.r | exact Res.ite Rs.r Rs.r) (fun _ _ => ?_)) | (with_reducible refine Res.bind (P := FwL N (ts.length + 1)) (by first | exact Rs.r) (fun _ _ => ?_)) | (with_reducible refine Res.any (fun _ => ?_)) | (with_reducible refine Res.pure ?_) | exact Rs.r | exact fw1 ‹_› | exact fw2 ‹_› ‹_› | (refine fw3 ?_ ?_ ?_ <;> assumption) | exact fwl ‹_› | exact fw0 | exact FwL.nil)
instance [PFew N p] [Lk ts N] : Rs (Few N) (isinF ts p) := ⟨few_isin⟩
theorem few_and [PFew N p] [Lk ts N] : Res (Few N) (andF ts p) := by
  unfold andF
  refine Res.bind Rs.r (fun x hx => Res.iter (fun y hy => ?_) _ x hx)
  unfold andS
  repeat' (first | assumption | with_reducible exact Res.fail _ | with_reducible refine Res.ite ?_ ?_ | (with_reducible refine Res.bind (P := Few N) (by first | exact Rs.r | exact Res.ite Rs.r Rs.r) (fun _ _ => ?_)) | (with_reducible refine Res.bind (P := FwL N (ts.length + 1)) (by first | exact Rs.r) (fun _ _ => ?_)) | (with_reducible refine Res.any (fun _ => ?_)) | (with_reducible refine Res.pure ?_) | exact Rs.r | exact fw1 ‹_› | exact fw2 ‹_› ‹_› | (refine fw3 ?_ ?_ ?_ <;> assumption) | exact fwl ‹_› | exact fw0 | exact FwL.nil)
instance [PFew N p] [Lk ts N] : Rs (Few N) (andF ts p) := ⟨few_and⟩
theorem few_or [PFew N p] [Lk ts N] : Res (Few N) (orF ts p) := by
  unfold orF
  refine Res.bind Rs.r (fun x hx => Res.iter (fun y hy => ?_) _ x hx)
  unfold orS
  repeat' (first | assumption | with_reducible exact Res.fail _ | with_reducible refine Res.ite ?_ ?_ | (with_reducible refine Res.bind (P := Few N) (by first | exact Rs.r | exact Res.ite Rs.r Rs.r) (fun _ _ => ?_)) | (with_reducible refine Res.bind (P := FwL N (ts.length + 1)) (by first | exact Rs.r) (fun _ _ => ?_)) | (with_reducible refine Res.any (fun _ => ?_)) | (with_reducible refine Res.pure ?_) | exact Rs.r | exact fw1 ‹_› | exact fw2 ‹_› ‹_› | (refine fw3 ?_ ?_ ?_ <;> assumption) | exact fwl ‹_› | exact fw0 | exact FwL.nil)
instance [PFew N p] [Lk ts N] : Rs (Few N) (orF ts p) := ⟨few_or⟩
theorem few_cond [PFew N p] [Lk ts N] : Res (Few N) (condF ts p) := by
  unfold condF
  repeat' (first | assumption | with_reducible exact Res.fail _ | with_reducible refine Res.ite ?_ ?_ | (with_reducible refine Res.bind (P := Few N) (by first | exact Rs.r | exact Res.ite Rs.r Rs.r) (fun _ _ => ?_)) | (with_reducible refine Res.bind (P := FwL N (ts.length + 1)) (by first | exact Rs.r) (fun _ _ => ?_)) | (with_reducible refine Res.any (fun _ => ?_)) | (with_reducible refine Res.pure ?_) | exact Rs.r | exact fw1 ‹_› | exact fw2 ‹_› ‹_› | (refine fw3 ?_ ?_ ?_ <;> assumption) | exact fwl ‹_› | exact fw0 | exact FwL.nil)
instance [PFew N p] [Lk ts N] : Rs (Few N) (condF ts p) := ⟨few_cond⟩
theorem few_stmt [PFew N p] [Lk ts N] : Res (Few N) (stmtF ts p) := by
  unfold stmtF
  repeat' (first | assumption | with_reducible exact Res.fail _ | with_reducible refine Res.ite ?_ ?_ | (with_reducible refine Res.bind (P := Few N) (by first | exact Rs.r | exact Res.ite Rs.r Rs.r | exact Res.any (fun _ => Res.ite (Res.pure fw0) Rs.r)) (fun _ _ => ?_)) | (with_reducible refine Res.bind (P := FwL N (ts.length + 1)) (by first | exact Rs.r | exact Res.ite Rs.r (Res.pure FwL.nil)) (fun _ _ => ?_)) | (with_reducible refine Res.any (fun _ => ?_)) | (with_reducible refine Res.pure ?_) | exact Rs.r | exact fw1 ‹_› | exact fw2 ‹_› ‹_› | exact fws ‹_› ‹_› | exact fw2 fw0 ‹_› | (refine fw3 ?_ ?_ ?_ <;> assumption) | exact fwl ‹_› | (refine fw4 ?_ ?_ ?_ ?_ <;> assumption) | exact fw0 | exact FwL.nil)
instance [PFew N p] [Lk ts N] : Rs (Few N) (stmtF ts p) := ⟨few_stmt⟩
theorem few_block [PFew N p] [Lk ts N] : Res (Few N) (blockF ts p) := by
  have hL := Lk.l (ts := ts) (N := N)
  unfold blockF
  refine Res.any (fun _ => Res.any (fun _ => Res.any (fun _ => Res.bind (P := FwL N (0 + ts.length)) (Res.grow (N := N) (fun M l hl => ?_) ts.length 0 [] FwL.nil) (fun l hl => Res.any (fun _ => Res.pure (FwL.few hl (by omega)))))))
  unfold blockS
  exact Res.bind (few_stmt (N := N)) (fun y hy => Res.pure (hl.snoc hy))
instance [PFew N p] [Lk ts N] : Rs (Few N) (blockF ts p) := ⟨few_block⟩
theorem few_asked [PFew N p] [Lk ts N] : Res (Few N) (askedF ts p) := by
  unfold askedF
  repeat' (first | assumption | with_reducible exact Res.fail _ | with_reducible refine Res.ite ?_ ?_ | (with_reducible refine Res.bind (P := Few N) (by first | exact Rs.r | exact Res.ite Rs.r Rs.r | exact Res.any (fun _ => Res.ite (Res.pure fw0) Rs.r)) (fun _ _ => ?_)) | (with_reducible refine Res.bind (P := FwL N (ts.length + 1)) (by first | exact Rs.r | exact Res.ite Rs.r (Res.pure FwL.nil)) (fun _ _ => ?_)) | (with_reducible refine Res.any (fun _ => ?_)) | (with_reducible refine Res.pure ?_) | exact Rs.r | exact fw1 ‹_› | exact fw2 ‹_› ‹_› | exact fws ‹_› ‹_› | exact fw2 fw0 ‹_› | (refine fw3 ?_ ?_ ?_ <;> assumption) | exact fwl ‹_› | (refine fw4 ?_ ?_ ?_ ?_ <;> assumption) | exact fw0 | exact FwL.nil)
instance [PFew N p] [Lk ts N] : Rs (Few N) (askedF ts p) := ⟨few_asked⟩
theorem few_below [PFew N p] [Lk ts N] : Res (Few N) (belowF ts p) := by
  unfold belowF
  repeat' (first | assumption | with_reducible exact Res.fail _ | with_reducible refine Res.ite ?_ ?_ | (with_reducible refine Res.bind (P := Few N) (by first | exact Rs.r | exact Res.ite Rs.r Rs.r | exact Res.any (fun _ => Res.ite (Res.pure fw0) Rs.r)) (fun _ _ => ?_)) | (with_reducible refine Res.bind (P := FwL N (ts.length + 1)) (by first | exact Rs.r | exact Res.ite Rs.r (Res.pure FwL.nil)) (fun _ _ => ?_)) | (with_reducible refine Res.any (fun _ => ?_)) | (with_reducible refine Res.pure ?_) | exact Rs.r | exact fw1 ‹_› | exact fw2 ‹_› ‹_› | exact fws ‹_› ‹_› | exact fw2 fw0 ‹_› | (refine fw3 ?_ ?_ ?_ <;> assumption) | exact fwl ‹_› | (refine fw4 ?_ ?_ ?_ ?_ <;> assumption) | exact fw0 | exact FwL.nil)
instance [PFew N p] [Lk ts N] : Rs (Few N) (belowF ts p) := ⟨few_below⟩
theorem few_print [PFew N p] [Lk ts N] : Res (Few N) (printF ts p) := by
  unfold printF
  refine Res.any (fun t => Res.any (fun b => ?_))
  dsimp only
  split
  · refine Res.bind (few_list (N := N)) (fun l hl => ?_)
    repeat' (first | assumption | with_reducible exact Res.fail _ | with_reducible refine Res.ite ?_ ?_ | (with_reducible refine Res.bind (P := Few N) (by first | exact Rs.r | exact Res.ite Rs.r Rs.r | exact Res.any (fun _ => Res.ite (Res.pure fw0) Rs.r)) (fun _ _ => ?_)) | (with_reducible refine Res.bind (P := FwL N (ts.length + 1)) (by first | exact Rs.r | exact Res.ite Rs.r (Res.pure FwL.nil)) (fun _ _ => ?_)) | (with_reducible refine Res.any (fun _ => ?_)) | (with_reducible refine Res.pure ?_) | exact Rs.r | exact fw1 ‹_› | exact fw2 ‹_› ‹_› | exact fws ‹_› ‹_› | exact fw2 fw0 ‹_› | (refine fw3 ?_ ?_ ?_ <;> assumption) | exact fwl ‹_› | (refine fw4 ?_ ?_ ?_ ?_ <;> assumption) | exact fw0 | exact FwL.nil)
  · refine Res.bind (P := FwL N (ts.length + 1)) (Res.pure FwL.nil) (fun l hl => ?_)
    repeat' (first | assumption | with_reducible exact Res.fail _ | with_reducible refine Res.ite ?_ ?_ | (with_reducible refine Res.bind (P := Few N) (by first | exact Rs.r | exact Res.ite Rs.r Rs.r | exact Res.any (fun _ => Res.ite (Res.pure fw0) Rs.r)) (fun _ _ => ?_)) | (with_reducible refine Res.bind (P := FwL N (ts.length + 1)) (by first | exact Rs.r | exact Res.ite Rs.r (Res.pure FwL.nil)) (fun _ _ => ?_)) | (with_reducible refine Res.any (fun _ => ?_)) | (with_reducible refine Res.pure ?_) | exact Rs.r | exact fw1 ‹_› | exact fw2 ‹_› ‹_› | exact fws ‹_› ‹_› | exact fw2 fw0 ‹_› | (refine fw3 ?_ ?_ ?_ <;> assumption) | exact fwl ‹_› | (refine fw4 ?_ ?_ ?_ ?_ <;> assumption) | exact fw0 | exact FwL.nil)
instance [PFew N p] [Lk ts N] : Rs (Few N) (printF ts p) := ⟨few_print⟩
theorem few_simple [PFew N p] [Lk ts N] : Res (Few N) (simpleF ts p) := by
  unfold simpleF
  repeat' (first | assumption | with_reducible exact Res.fail _ | with_reducible refine Res.ite ?_ ?_ | (with_reducible refine Res.bind (P := Few N) (by first | exact Rs.r | exact Res.ite Rs.r Rs.r | exact Res.any (fun _ => Res.ite (Res.pure fw0) Rs.r)) (fun _ _ => ?_)) | (with_reducible refine Res.bind (P := FwL N (ts.length + 1)) (by first | exact Rs.r | exact Res.ite Rs.r (Res.pure FwL.nil)) (fun _ _ => ?_)) | (with_reducible refine Res.any (fun _ => ?_)) | (with_reducible refine Res.pure ?_) | exact Rs.r | exact fw1 ‹_› | exact fw2 ‹_› ‹_› | exact fws ‹_› ‹_› | exact fw2 fw0 ‹_› | (refine fw3 ?_ ?_ ?_ <;> assumption) | exact fwl ‹_› | (refine fw4 ?_ ?_ ?_ ?_ <;> assumption) | exact fw0 | exact FwL.nil)
instance [PFew N p] [Lk ts N] : Rs (Few N) (simpleF ts p) := ⟨few_simple⟩
theorem few_perhaps [PFew N p] [Lk ts N] : Res (Few N) (perhapsF ts p) := by
  unfold perhapsF
  repeat' (first | assumption | with_reducible exact Res.fail _ | with_reducible refine Res.ite ?_ ?_ | (with_reducible refine Res.bind (P := Few N) (by first | exact Rs.r | exact Res.ite Rs.r Rs.r | exact Res.any (fun _ => Res.ite (Res.pure fw0) Rs.r)) (fun _ _ => ?_)) | (with_reducible refine Res.bind (P := FwL N (ts.length + 1)) (by first | exact Rs.r | exact Res.ite Rs.r (Res.pure FwL.nil)) (fun _ _ => ?_)) | (with_reducible refine Res.any (fun _ => ?_)) | (with_reducible refine Res.pure ?_) | exact Rs.r | exact fw1 ‹_› | exact fw2 ‹_› ‹_› | exact fws ‹_› ‹_› | exact fw2 fw0 ‹_› | (refine fw3 ?_ ?_ ?_ <;> assumption) | exact fwl ‹_› | (refine fw4 ?_ ?_ ?_ ?_ <;> assumption) | exact fw0 | exact FwL.nil)
instance [PFew N p] [Lk ts N] : Rs (Few N) (perhapsF ts p) := ⟨few_perhaps⟩
theorem few_loop [PFew N p] [Lk ts N] : Res (Few N) (loopF ts p) := by
  unfold loopF
  repeat' (first | assumption | with_reducible exact Res.fail _ | with_reducible refine Res.ite ?_ ?_ | (with_reducible refine Res.bind (P := Few N) (by first | exact Rs.r | exact Res.ite Rs.r Rs.r | exact Res.any (fun _ => Res.ite (Res.pure fw0) Rs.r)) (fun _ _ => ?_)) | (with_reducible refine Res.bind (P := FwL N (ts.length + 1)) (by first | exact Rs.r | exact Res.ite Rs.r (Res.pure FwL.nil)) (fun _ _ => ?_)) | (with_reducible refine Res.any (fun _ => ?_)) | (with_reducible refine Res.pure ?_) | exact Rs.r | exact fw1 ‹_› | exact fw2 ‹_› ‹_› | exact fws ‹_› ‹_› | exact fw2 fw0 ‹_› | (refine fw3 ?_ ?_ ?_ <;> assumption) | exact fwl ‹_› | (refine fw4 ?_ ?_ ?_ ?_ <;> assumption) | exact fw0 | exact FwL.nil)
instance [PFew N p] [Lk ts N] : Rs (Few N) (loopF ts p) := ⟨few_loop⟩
theorem few_statement [PFew N p] [Lk ts N] : Res (Few N) (statementF ts p) := by
  unfold statementF
  repeat' (first | assumption | with_reducible exact Res.fail _ | with_reducible refine Res.ite ?_ ?_ | (with_reducible refine Res.bind (P := Few N) (by first | exact Rs.r | exact Res.ite Rs.r Rs.r | exact Res.any (fun _ => Res.ite (Res.pure fw0) Rs.r)) (fun _ _ => ?_)) | (with_reducible refine Res.bind (P := FwL N (ts.length + 1)) (by first | exact Rs.r | exact Res.ite Rs.r (Res.pure FwL.nil)) (fun _ _ => ?_)) | (with_reducible refine Res.any (fun _ => ?_)) | (with_reducible refine Res.pure ?_) | exact Rs.r | exact fw1 ‹_› | exact fw2 ‹_› ‹_› | exact fws ‹_› ‹_› | exact fw2 fw0 ‹_› | (refine fw3 ?_ ?_ ?_ <;> assumption) | exact fwl ‹_› | (refine fw4 ?_ ?_ ?_ ?_ <;> assumption) | exact fw0 | exact FwL.nil)
instance [PFew N p] [Lk ts N] : Rs (Few N) (statementF ts p) := ⟨few_statement⟩
theorem pfew_par (hN : ts.length + 8 ≤ N) : ∀ n, PFew N (par ts n)
  | 0 => ⟨Res.fail _, Res.fail _, Res.fail _, Res.fail _, Res.fail _, Res.fail _⟩
  | n + 1 => have : Lk ts N := ⟨hN⟩; have := pfew_par hN n; ⟨few_cond, few_expr, few_signed, few_atom, few_stepped, few_statement⟩
theorem few_exprH (hN : ts.length + 8 ≤ N) (h : PFew N p) : Res (Few N) (exprF ts p) := have : Lk ts N := ⟨hN⟩; few_expr
theorem few_blockH (hN : ts.length + 8 ≤ N) (h : PFew N p) : Res (Few N) (blockF ts p) := have : Lk ts N := ⟨hN⟩; few_block
end
end Go.Proofs.Ytdiibenofbcfnaa
