/- Several texts put together: ParI, ParQ, PasC, ParU. -/
import Derived.Test.YtdiibenofbcfnaaGreatBu18
set_option linter.unusedSimpArgs false
set_option linter.unusedVariables false
namespace Go.Proofs.YtdiibenofbcfnaaGreat
open Go.RowKit
theorem info_node : (Tryz.prog.info? 39).map (fun i => (i.zero, i.size, i.bytes)) = some (some (.agg #[.int .i64 0, .int .i64 0, .string { data := #[] }, .bool false, .int .u64 0, .int .u64 0, .int .i64 0, .slice none 0 0]), 8, 88) := by kernel_rfl
section
variable {α β : Type} {K : FuncId} {args : Array Value} {f : PP α} {V : World → World → α → Value → Prop} {g : Nat} {ts : List TokF} {n a d : Nat} {k : α → PP β} {R : PR β} {w0 w W : World} {X : List Nat} {S : World → Prop} {bs : List Bx} {rs : List Rw} {F : List Cold} {T : Ending → World → Prop}
def FCat {α : Type} (K : FuncId) (args : Array Value) (f : PP α) (V : World → World → α → Value → Prop) (g : Nat) (ts : List TokF) (n a : Nat) : Prop := ∀ w d, PS g ts a d w → 65 ≤ d + n → Calls Tryz.prog K args w (PPost g ts w a d (f a d) V)
theorem arm_fcA (HC : Hid (FCat K args f V g ts n a)) (HO : Hid (Own w0 [g] (PS g ts a d) bs rs F w)) (HF : Hid ((f >>= k) a d = R)) (hg : g < w0.heap.size) (hn : 65 ≤ d + n)
    (hok : ∀ v x a' W, V w W x v → Kept [g] w W → Hid (Own w0 [g] (PS g ts a' d) bs rs F W) → a ≤ a' → f a d = .ok x a' d → Hid (k x a' d = R) → T (.returned v) W)
    (herr : ∀ v pl e W, Hid (FailV W w0.heap.size v pl e) → Hid (Kept [g] w0 W) → Hid (R = .err pl e) → T (.panicked [{ v := v, recovered := false }]) W) : Calls Tryz.prog K args w T := by
  refine (HC.out w d HO.out.st hn).mono fun e W hp => ?_
  unfold PPost at hp
  cases hr : f a d with
  | ok x a' d' =>
    rw [hr] at hp
    obtain ⟨v, rfl, hv, hs, hk, ha, rfl⟩ := hp
    exact hok v x a' W hv hk (Lib.hid (HO.out.pcall hg hk hs)) ha hr (Lib.hid (bind_ok hr HF.out))
  | err pl q =>
    rw [hr] at hp
    obtain ⟨v, rfl, hv, hk⟩ := hp
    exact herr v pl q W (Lib.hid (hv.mono HO.out.kept.size)) (Lib.hid (HO.out.kept.trans hk (fun y hy => .inl hy))) (Lib.hid (bind_err hr HF.out))
theorem arm_nodeA {f : PP NodeT} {k : NodeT → PP β} (HC : Hid (FCat K args f VN g ts n a)) (HO : Hid (Own w0 [g] (PS g ts a d) bs rs F w)) (HF : Hid ((f >>= k) a d = R)) (hg : g < w0.heap.size) (hn : 65 ≤ d + n)
    (hok : ∀ (x : NodeT) A c a' W, f a d = .ok x a' d → Hid (Own w0 [g] (PS g ts a' d) bs rs (Cold.kids A x.l :: F) W) → x.l.length ≤ c → a ≤ a' → Hid (k x a' d = R) → T (.returned (.agg #[.int .i64 ((NodeT.k x : Nat) : Int), .int .i64 ((NodeT.at' x : Nat) : Int), .string (strN (NodeT.s x)), .bool (zn (NodeT.z x)), .int .u64 (zh (NodeT.z x)), .int .u64 (zl (NodeT.z x)), .int .i64 ((NodeT.i x : Nat) : Int), .slice A (NodeT.l x).length c])) W)
    (herr : ∀ v pl e W, Hid (FailV W w0.heap.size v pl e) → Hid (Kept [g] w0 W) → Hid (R = .err pl e) → T (.panicked [{ v := v, recovered := false }]) W) : Calls Tryz.prog K args w T := by
  refine arm_fcA HC HO HF hg hn (fun v x a' W hv hk HO' ha hr HF' => ?_) herr
  obtain ⟨A, c, rfl, hc, hkids⟩ := hv
  exact hok x A c a' W hr (Lib.hid (HO'.out.addCold (Cold.kids A x.l) w.heap.size HO.out.kept.size (fun b hb => (HO.out.hot_lt b hb).2) hkids)) hc ha HF'
theorem FC.at_ {f : PP α} (h : Hid (FC K args f V g ts n)) : Hid (FCat K args f V g ts n a) := Lib.hid fun w d m hn => h.out w a d m hn
theorem arm_listK {f : PP (List NodeT)} {k : List NodeT → PP β} (HC : Hid (FC K args f VL g ts n)) (HO : Hid (Own w0 [g] (PS g ts a d) bs rs F w)) (HF : Hid ((f >>= k) a d = R)) (hg : g < w0.heap.size) (hn : 65 ≤ d + n)
    (hok : ∀ (l : List NodeT) A c a' W, Hid (Own w0 [g] (PS g ts a' d) bs rs (Cold.kids A l :: F) W) → l.length ≤ c → a ≤ a' → Hid (k l a' d = R) → T (.returned (.slice A l.length c)) W)
    (herr : ∀ v pl e W, Hid (FailV W w0.heap.size v pl e) → Hid (Kept [g] w0 W) → Hid (R = .err pl e) → T (.panicked [{ v := v, recovered := false }]) W) : Calls Tryz.prog K args w T := by
  refine arm_list HC HO HF hg hn (fun els A c a' W HO' hc ha HF' => ?_) herr
  obtain ⟨A', c', e, hc', h⟩ := HO'.out.freeze List.mem_cons_self
  injection e with e1 _ e2
  subst e1 e2
  have := hok (els.map (·.1)) A c a' W (Lib.hid (h.sub (List.Sublist.refl _) (List.Sublist.refl _) (fun c hc => by
    rcases List.mem_cons.1 hc with rfl | hc
    · exact List.mem_cons_self
    · exact List.mem_cons_of_mem _ (List.mem_cons_of_mem _ hc)))) (by simpa using hc) ha HF'
  rw [List.length_map] at this
  exact this
variable {o : Oper} {act : Act} {KK : Act → World → Prop} {Q : Exit → Act → World → Prop}
theorem oneC (els : List El) : ∀ u ∈ flatE els, u.oneCell' = true := by
  intro u hu
  obtain ⟨e, _, h⟩ := List.mem_flatMap.1 hu
  simp only [nodeC, List.mem_cons, List.not_mem_nil, or_false] at h
  rcases h with rfl | rfl | rfl | rfl | rfl | rfl | rfl | rfl <;> rfl
theorem wo_appN {v : Value} {els : List El} (HO : Hid (Own w0 X S bs (⟨39, 8, v, els.length, flatE els⟩ :: rs) F w)) (he : Cold.els els ∈ F) {s x : Operand}
    (ho : o.op = .call { callee := .builtin .append, args := #[s, x], argTypes := #[37, 37] }) (hs : act.eval s = v) {r c : Nat} (hx : act.eval x = .slice (some ⟨r, 0, none⟩) 1 c) {y : NodeT} (hk : Cold.kids (some ⟨r, 0, none⟩) [y] ∈ F) (hm : els.length ≤ 1000000)
    (h : ∀ (els' : List El) A' c' W, els'.map (·.1) = els.map (·.1) ++ [y] → els'.length = els.length + 1 → els'.length ≤ c' → Hid (Own w0 X S bs (⟨39, 8, .slice A' els'.length c', els'.length, flatE els'⟩ :: rs) (Cold.els els' :: F) W) → KK (act.put o.dst (.slice A' els'.length c')) W) : WOp Tryz.prog o act w KK Q := by
  obtain ⟨i0, hi, hz0, hz1, hz2⟩ := info_parts info_node
  have hrow := HO.out.row _ List.mem_cons_self
  have hcy := HO.out.cold _ hk
  unfold Cold.kids at hcy
  dsimp only at hcy
  rw [KidsL] at hcy
  obtain ⟨⟨b, q, A', c', e, hF, hr, hc', hkn⟩, _⟩ := hcy
  injection e with e
  injection e with e1 e2 _
  subst e1 e2
  rw [KidsN_eq] at hkn
  have hrd : Reads w w.heap.size 8 (some ⟨r, 0, none⟩) 1 (nodeC y A' c') := ⟨rfl, fun _ => ⟨_, rfl, hF.2.1, fun j u hu => by
    have := hr j u hu
    rw [Addr.add_mid]
    simpa using this⟩⟩
  unfold WOp
  refine wp_append_any w s x 37 ho w0.heap.size 39 i0 _ 8 88 Tryz.underlying37 hi hz0 hz1 hz2 rfl (by decide) v els.length (flatE els) hs hrow w.heap.size _ 1 c (nodeC y A' c') hx hrd (by have := oneC [(y, A', c')]; simpa [flatE] using this) (by unfold maxLen; omega) (by omega) HO.out.kept.size (fun v' w' h1 h2 h3 => ?_)
  have hfl : flatE els ++ nodeC y A' c' = flatE (els ++ [(y, A', c')]) := by rw [flatE_app]; simp [flatE]
  have hln : els.length + 1 = (els ++ [(y, A', c')]).length := by simp
  rw [hfl, hln] at h1
  have hO2 := HO.out.grow ⟨39, 8, v', (els ++ [(y, A', c')]).length, flatE (els ++ [(y, A', c')])⟩ h1 h2 (by
    rcases h3 with h3 | h3
    · exact .inl h3
    · exact .inr fun k hk => by rw [h3] at hk; injection hk with hk; omega)
  have hels := hO2.cold _ he
  have hkn2 : KidsL w' (fun b => w0.heap.size ≤ b ∧ b < w'.heap.size ∧ b ∉ hot bs (⟨39, 8, v', (els ++ [(y, A', c')]).length, flatE (els ++ [(y, A', c')])⟩ :: rs)) y.l A' 0 := by
    have := HO.out.coldAll (Cold.kids A' y.l) hkn
    have h4 := this.grow ⟨39, 8, v', (els ++ [(y, A', c')]).length, flatE (els ++ [(y, A', c')])⟩ h1 h2 (by
      rcases h3 with h3 | h3
      · exact .inl h3
      · exact .inr fun k hk => by rw [h3] at hk; injection hk with hk; omega)
    exact h4.cold _ List.mem_cons_self
  have hO3 := hO2.coldAll (Cold.els (els ++ [(y, A', c')])) (fun e hm => by
    rcases List.mem_append.1 hm with hm | hm
    · exact hels e hm
    · obtain rfl : e = (y, A', c') := by simpa using hm
      exact ⟨hc', hkn2⟩)
  have h1b := h1.2
  rcases h1b with ⟨_, h0⟩ | ⟨gg, cap, cur, rfl, _, _, hn2, _⟩
  · rw [← hln] at h0; omega
  · exact h _ _ _ w' (by rw [List.map_append]; rfl) (by rw [← hln]) hn2 (Lib.hid hO3)
theorem ab_rowE1 (HO : Hid (Own w0 X S bs rs F w)) {x : NodeT} {A : Option Addr} {c : Nat} (hx : Cold.kids A x.l ∈ F) (hc : x.l.length ≤ c) (h : ∀ W, Hid (Own w0 X S bs (⟨39, 8, .slice (some ⟨w.heap.size, 0, none⟩) 1 1, 1, flatE [(x, A, c)]⟩ :: rs) (Cold.els [(x, A, c)] :: F) W) → KK act W) :
    KK act (w.alloc (.cells #[.int .i64 ((NodeT.k x : Nat) : Int), .int .i64 ((NodeT.at' x : Nat) : Int), .string (strN (NodeT.s x)), .bool (zn (NodeT.z x)), .int .u64 (zh (NodeT.z x)), .int .u64 (zl (NodeT.z x)), .int .i64 ((NodeT.i x : Nat) : Int), .slice A (NodeT.l x).length c] 39)) := by
  refine h _ (Lib.hid ?_)
  have h1 := HO.out.litRow 39 8 1 (flatE [(x, A, c)]) rfl (by decide)
  exact h1.coldAll (Cold.els [(x, A, c)]) (fun e he => by
    obtain rfl : e = (x, A, c) := by simpa using he
    exact ⟨hc, h1.cold _ hx⟩)
theorem ab_rowE2 (HO : Hid (Own w0 X S bs rs F w)) {x y : NodeT} {A B : Option Addr} {c e : Nat} (hx : Cold.kids A x.l ∈ F) (hc : x.l.length ≤ c) (hy : Cold.kids B y.l ∈ F) (he : y.l.length ≤ e) (h : ∀ W, Hid (Own w0 X S bs (⟨39, 8, .slice (some ⟨w.heap.size, 0, none⟩) 2 2, 2, flatE [(x, A, c), (y, B, e)]⟩ :: rs) (Cold.els [(x, A, c), (y, B, e)] :: F) W) → KK act W) :
    KK act (w.alloc (.cells #[.int .i64 ((NodeT.k x : Nat) : Int), .int .i64 ((NodeT.at' x : Nat) : Int), .string (strN (NodeT.s x)), .bool (zn (NodeT.z x)), .int .u64 (zh (NodeT.z x)), .int .u64 (zl (NodeT.z x)), .int .i64 ((NodeT.i x : Nat) : Int), .slice A (NodeT.l x).length c, .int .i64 ((NodeT.k y : Nat) : Int), .int .i64 ((NodeT.at' y : Nat) : Int), .string (strN (NodeT.s y)), .bool (zn (NodeT.z y)), .int .u64 (zh (NodeT.z y)), .int .u64 (zl (NodeT.z y)), .int .i64 ((NodeT.i y : Nat) : Int), .slice B (NodeT.l y).length e] 39)) := by
  refine h _ (Lib.hid ?_)
  have h1 := HO.out.litRow 39 8 2 (flatE [(x, A, c), (y, B, e)]) rfl (by decide)
  exact h1.coldAll (Cold.els [(x, A, c), (y, B, e)]) (fun el hel => by
    rcases List.mem_cons.1 hel with rfl | hel
    · exact ⟨hc, h1.cold _ hx⟩
    · obtain rfl := List.mem_singleton.1 hel
      exact ⟨he, h1.cold _ hy⟩)
theorem nE1 (HO : Hid (Own w0 X S bs rs F w)) {x : NodeT} {A : Option Addr} {c : Nat} [mx : Ci F (Cold.kids A x.l)] (hc : x.l.length ≤ c) (h : ∀ W, Hid (Own w0 X S bs (⟨39, 8, .slice (some ⟨w.heap.size, 0, none⟩) 1 1, 1, flatE [(x, A, c)]⟩ :: rs) (Cold.els [(x, A, c)] :: F) W) → KK act W) :
    KK act (w.alloc (.cells #[.int .i64 ((NodeT.k x : Nat) : Int), .int .i64 ((NodeT.at' x : Nat) : Int), .string (strN (NodeT.s x)), .bool (zn (NodeT.z x)), .int .u64 (zh (NodeT.z x)), .int .u64 (zl (NodeT.z x)), .int .i64 ((NodeT.i x : Nat) : Int), .slice A (NodeT.l x).length c] 39)) := ab_rowE1 HO mx.m hc h
theorem nE2 (HO : Hid (Own w0 X S bs rs F w)) {x y : NodeT} {A B : Option Addr} {c e : Nat} [mx : Ci F (Cold.kids A x.l)] [my : Ci F (Cold.kids B y.l)] (hc : x.l.length ≤ c ∧ y.l.length ≤ e) (h : ∀ W, Hid (Own w0 X S bs (⟨39, 8, .slice (some ⟨w.heap.size, 0, none⟩) 2 2, 2, flatE [(x, A, c), (y, B, e)]⟩ :: rs) (Cold.els [(x, A, c), (y, B, e)] :: F) W) → KK act W) :
    KK act (w.alloc (.cells #[.int .i64 ((NodeT.k x : Nat) : Int), .int .i64 ((NodeT.at' x : Nat) : Int), .string (strN (NodeT.s x)), .bool (zn (NodeT.z x)), .int .u64 (zh (NodeT.z x)), .int .u64 (zl (NodeT.z x)), .int .i64 ((NodeT.i x : Nat) : Int), .slice A (NodeT.l x).length c, .int .i64 ((NodeT.k y : Nat) : Int), .int .i64 ((NodeT.at' y : Nat) : Int), .string (strN (NodeT.s y)), .bool (zn (NodeT.z y)), .int .u64 (zh (NodeT.z y)), .int .u64 (zl (NodeT.z y)), .int .i64 ((NodeT.i y : Nat) : Int), .slice B (NodeT.l y).length e] 39)) := ab_rowE2 HO mx.m hc.1 my.m hc.2 h
theorem to_append {P : Program} {w : World} {dd : Option Tmp} {T : TypeId} {s x : Operand} {tt : Array TypeId} {ps : String} {af : Array Edge} {gd : Option (Nat × Bool)} (h : WOp P ⟨dd, .call { callee := .builtin .append, args := #[s, x], argTypes := tt }, T, ps, af, gd⟩ act w KK Q) : Oper.wp P ⟨dd, .call { callee := .builtin .append, args := #[s, x], argTypes := tt }, T, ps, af, gd⟩ act w KK Q := h
theorem bp_list {els : List El} {A : Option Addr} {c a0 a' d' : Nat} {R : PR (List NodeT)} (HO : Hid (Own w0 [g] (PS g ts a' d) bs (⟨39, 8, .slice A els.length c, els.length, flatE els⟩ :: rs) F W)) (HF : Hid ((pure (els.map (·.1)) : PP (List NodeT)) a' d = R)) (hd : d = d') (hm : Cold.els els ∈ F) (ha : a0 ≤ a') : PPost g ts w0 a0 d' R VL (.returned (.slice A els.length c)) W :=
  bp_ok HO HF ha hd ⟨els, rfl, HO.out.row _ List.mem_cons_self, (Cold.els els).st W W _ _ (fun b hb => ⟨⟨hb.1, hb.2.1, fun e => hb.2.2 ((mem_hot_row _ b).2 (.inl e))⟩, rfl⟩) (HO.out.cold _ hm)⟩
end
open Go.RowKit
theorem run_field1 {P : Program} {o : Oper} {a : Act} {w : World} {ty : TypeId} {x : Operand} {f : Nat} (ho : o.op = .field ty x f) {cs : List Value} (hx : a.eval x = .agg cs.toArray) {fs : Array Field} (hu : P.underlying ty = some (.struct fs)) {fd : Field} (hf : fs[f]? = some fd) {v : Value} (hv : cs[fd.offset]? = some v) (hd : ∀ w, (isAgg fd.type).run P w = .ok false w) : (execOp a.eval o).run P w = .ok (.value v) w := by
  have hv2 : cs.toArray[fd.offset]? = some v := by simpa using hv
  unfold execOp
  simp only [ho, hx, Instr.field, Sem.run_bind, run_underlying hu w, Result.andThen_ok, hf, asAgg, Sem.run_pure, part, hd w, Bool.false_eq_true, if_false, hv2]
theorem wo_store1u {P : Program} {o : Oper} {a : Act} {w0 w : World} {X : List Nat} {S : World → Prop} {bs bs' : List Bx} {rs : List Rw} {F : List Cold} {K : Act → World → Prop} {Q : Exit → Act → World → Prop} (HO : Hid (Own w0 X S bs rs F w)) {ty : TypeId} {x : Operand} {i : Tmp} {v : Value} (ho : o.op = .store ty x (.tmp i)) (hdst : o.dst = none) {b k : Nat} (hx : a.eval x = .pointer (some ⟨b, k, none⟩)) (hy : a.tmps.toList[i]? = some v) {t : TypeId} {cs cs' : List Value} (hm : (⟨b, t, cs⟩ : Bx) ∈ bs) (hcs : cs.set k v = cs') (hc : Chg bs ⟨b, t, cs⟩ ⟨b, t, cs'⟩ bs')
    (hs : ∀ w, (sizeOf ty).run P w = .ok 1 w) (hl : k < cs.length) (h1 : v.oneCell' = true) (h : ∀ W, Hid (Own w0 X S bs' rs F W) → K a W) : WOp P o a w K Q :=
  wo_store1t HO ho hdst hx (by rw [← Array.getElem?_toList]; exact hy) hm hcs hc hs hl h1 h
def MonAt {α : Type} (f : PP α) (a : Nat) : Prop := ∀ d x a' d', f a d = .ok x a' d' → a ≤ a'
def AdvAt {α : Type} (f : PP α) (a : Nat) : Prop := ∀ d x a' d', f a d = .ok x a' d' → a < a'
def Mon {α : Type} (f : PP α) : Prop := ∀ a, MonAt f a
def Adv {α : Type} (f : PP α) : Prop := ∀ a, AdvAt f a
section
variable {α β : Type} {m : PP α} {f : α → PP β} {ts : List TokF} {a : Nat} {ss : List (List Nat)}
theorem bind_inv {d : Nat} {y : β} {a' d' : Nat} (h : (m >>= f) a d = .ok y a' d') : ∃ x a1 d1, m a d = .ok x a1 d1 ∧ f x a1 d1 = .ok y a' d' := by
  have h' : PP.bind m f a d = .ok y a' d' := h
  unfold PP.bind at h'
  cases hm : m a d with
  | ok x a1 d1 => rw [hm] at h'; exact ⟨x, a1, d1, rfl, h'⟩
  | err p k => rw [hm] at h'; cases h'
theorem Adv.mon (h : Adv m) : Mon m := fun a d x a' d' e => Nat.le_of_lt (h a d x a' d' e)
theorem AdvAt.mon (h : AdvAt m a) : MonAt m a := fun d x a' d' e => Nat.le_of_lt (h d x a' d' e)
theorem MonAt.bind (hm : MonAt m a) (hf : ∀ x, Mon (f x)) : MonAt (m >>= f) a := fun d y a' d' h => by
  obtain ⟨x, a1, d1, h1, h2⟩ := bind_inv h
  exact Nat.le_trans (hm _ _ _ _ h1) (hf x _ _ _ _ _ h2)
theorem AdvAt.bind1 (hm : AdvAt m a) (hf : ∀ x, Mon (f x)) : AdvAt (m >>= f) a := fun d y a' d' h => by
  obtain ⟨x, a1, d1, h1, h2⟩ := bind_inv h
  exact Nat.lt_of_lt_of_le (hm _ _ _ _ h1) (hf x _ _ _ _ _ h2)
theorem AdvAt.bind2 (hm : MonAt m a) (hf : ∀ x, Adv (f x)) : AdvAt (m >>= f) a := fun d y a' d' h => by
  obtain ⟨x, a1, d1, h1, h2⟩ := bind_inv h
  exact Nat.lt_of_le_of_lt (hm _ _ _ _ h1) (hf x _ _ _ _ _ h2)
theorem Mon.bind (hm : Mon m) (hf : ∀ x, Mon (f x)) : Mon (m >>= f) := fun a => (hm a).bind hf
theorem Adv.bind1 (hm : Adv m) (hf : ∀ x, Mon (f x)) : Adv (m >>= f) := fun a => (hm a).bind1 hf
theorem Adv.bind2 (hm : Mon m) (hf : ∀ x, Adv (f x)) : Adv (m >>= f) := fun a => AdvAt.bind2 (hm a) hf
theorem Mon.pure (x : α) : Mon (pure x : PP α) := fun a d y a' d' h => by
  have h' : PR.ok x a d = .ok y a' d' := h
  injection h' with _ h1 _
  omega
theorem Mon.next : Mon (nextP ts) := fun a d y a' d' h => by
  have h' : PR.ok (tk ts a) (nx ts a) d = .ok y a' d' := h
  injection h' with _ h1 _
  have := @le_nx ts a
  omega
theorem Mon.lines : Mon (linesP ts) := fun a d y a' d' h => by
  have h' : PR.ok () (linesF ts ts.length a) d = .ok y a' d' := h
  injection h' with _ h1 _
  have : ∀ f a, a ≤ linesF ts f a := by
    intro f
    induction f with
    | zero => intro a; exact Nat.le_refl _
    | succ f ih => intro a; rw [linesF]; split; exact Nat.le_trans le_nx (ih _); exact Nat.le_refl _
  have := this ts.length a
  omega
theorem Mon.ends : Mon (endsP ts) := fun a d y a' d' h => by
  have h' : PR.ok () (endsF ts ts.length a) d = .ok y a' d' := h
  injection h' with _ h1 _
  have : ∀ f a, a ≤ endsF ts f a := by
    intro f
    induction f with
    | zero => intro a; exact Nat.le_refl _
    | succ f ih => intro a; rw [endsF]; split; exact Nat.le_trans le_nx (ih _); exact Nat.le_refl _
  have := this ts.length a
  omega
theorem Adv.fail (k : Int) : Adv (failP ts k : PP α) := fun a d y a' d' h => by cases h
theorem Mon.fail (k : Int) : Mon (failP ts k : PP α) := (Adv.fail k).mon
theorem Mon.ite {c : Prop} [Decidable c] {A B : PP α} (hA : Mon A) (hB : Mon B) : Mon (if c then A else B) := by split <;> assumption
theorem Adv.ite {c : Prop} [Decidable c] {A B : PP α} (hA : Adv A) (hB : Adv B) : Adv (if c then A else B) := by split <;> assumption
theorem Mon.tok : Mon (tokP ts) := fun a d y a' d' h => by
  have h' : PR.ok (tk ts a) a d = .ok y a' d' := h
  injection h' with _ h1 _
  omega
theorem Mon.ask {t : Nat → Bool} : Mon (askP t) := fun a d y a' d' h => by
  have h' : PR.ok (t a) a d = .ok y a' d' := h
  injection h' with _ h1 _
  omega
theorem Mon.sgn : Mon (sgnP ts ss) := Mon.ask (t := fun a => isS ts a ss)
theorem Mon.wrd : Mon (wrdP ts ss) := Mon.ask (t := fun a => isW ts a ss)
theorem Mon.ahead {j : Nat} : Mon (aheadP ts j) := fun a d y a' d' h => by
  have h' : PR.ok (Go.Proofs.YtdiibenofbcfnaaGreat.ahead ts j a) a d = .ok y a' d' := h
  injection h' with _ h1 _
  omega
theorem Mon.enter : Mon (enterP ts) := fun a d y a' d' h => by
  unfold enterP at h
  split at h
  · cases h
  · injection h with _ h1 _; omega
theorem Mon.leave : Mon leaveP := fun a d y a' d' h => by
  have h' : PR.ok () a (d - 1) = .ok y a' d' := h
  injection h' with _ h1 _
  omega
theorem Mon.take {s : List Nat} : Mon (takeP ts s) := by unfold takeP; exact Mon.sgn.bind fun _ => Mon.ite (Mon.next.bind fun _ => Mon.pure _) (Mon.fail _)
theorem Mon.key {s : List Nat} : Mon (keyP ts s) := by unfold keyP; exact Mon.wrd.bind fun _ => Mon.ite (Mon.next.bind fun _ => Mon.pure _) (Mon.fail _)
theorem Mon.name : Mon (nameP ts) := by unfold nameP; exact Mon.tok.bind fun _ => Mon.ite Mon.next (Mon.fail _)
theorem Mon.iter {go : Nat → Bool} {step : α → PP α} (h : ∀ x, Mon (step x)) : ∀ (f : Nat) (x : α), Mon (iter go step f x)
  | 0, x => Mon.pure x
  | f + 1, x => by
    intro a d y a' d' e
    rw [iter_step] at e
    split at e
    · exact ((h x).bind fun z => Mon.iter h f z) a d y a' d' e
    · exact Mon.pure x a d y a' d' e
theorem AdvAt.next (h : nx ts a = a + 1) {f : TokF → PP β} (hf : ∀ x, Mon (f x)) : AdvAt (nextP ts >>= f) a := AdvAt.bind1 (fun d y a' d' e => by
  have h' : PR.ok (tk ts a) (nx ts a) d = .ok y a' d' := e
  injection h' with _ h1 _
  omega) hf
theorem Adv.sgn {k : Bool → PP β} (h1 : ∀ a, isS ts a ss = true → AdvAt (k true) a) (h2 : Adv (k false)) : Adv (sgnP ts ss >>= k) := fun a d y a' d' h => by
  have h' : k (isS ts a ss) a d = .ok y a' d' := h
  cases hb : isS ts a ss <;> rw [hb] at h'
  · exact h2 a d y a' d' h'
  · exact h1 a hb d y a' d' h'
theorem Adv.wrd {k : Bool → PP β} (h1 : ∀ a, isW ts a ss = true → AdvAt (k true) a) (h2 : Adv (k false)) : Adv (wrdP ts ss >>= k) := fun a d y a' d' h => by
  have h' : k (isW ts a ss) a d = .ok y a' d' := h
  cases hb : isW ts a ss <;> rw [hb] at h'
  · exact h2 a d y a' d' h'
  · exact h1 a hb d y a' d' h'
theorem Adv.ask {t : Nat → Bool} {k : Bool → PP β} (h1 : ∀ a, t a = true → AdvAt (k true) a) (h2 : Adv (k false)) : Adv (askP t >>= k) := fun a d y a' d' h => by
  have h' : k (t a) a d = .ok y a' d' := h
  cases hb : t a <;> rw [hb] at h'
  · exact h2 a d y a' d' h'
  · exact h1 a hb d y a' d' h'
theorem Adv.tokAt {k : TokF → PP β} (h : ∀ a, AdvAt (k (tk ts a)) a) : Adv (tokP ts >>= k) := fun a d y a' d' e => h a d y a' d' e
theorem AdvAt.iteN {c : Int} {t : TokF} (hc : c ≠ 0) (ht : t = tk ts a) {f : TokF → PP β} {B : PP β} (hf : ∀ x, Mon (f x)) (hB : AdvAt B a) : AdvAt (if ((t.k : Int) == c) = true then nextP ts >>= f else B) a := by
  subst ht
  split
  · exact AdvAt.next (nx_of hc (by assumption)) hf
  · exact hB
theorem Adv.take {s : List Nat} : Adv (takeP ts s) := by
  unfold takeP
  exact Adv.sgn (fun a h => by simp only [if_true]; exact AdvAt.next (nx_isS h) fun _ => Mon.pure _) (by simp only [Bool.false_eq_true, if_false]; exact Adv.fail _)
theorem Adv.key {s : List Nat} : Adv (keyP ts s) := by
  unfold keyP
  exact Adv.wrd (fun a h => by simp only [if_true]; exact AdvAt.next (nx_isW h) fun _ => Mon.pure _) (by simp only [Bool.false_eq_true, if_false]; exact Adv.fail _)
end
structure PAdv (p : Par) : Prop where
  cond : Adv p.cond
  expr : Adv p.expr
  signed : Adv p.signed
  atom : Adv p.atom
  stepped : Adv p.stepped
  statement : Adv p.statement
section
variable {ts : List TokF} {p : Par}
theorem adv_expr (h : PAdv p) : Adv (exprF ts p) := by
  unfold exprF
  refine Adv.bind2 Mon.enter fun _ => Adv.bind1 h.cond fun n => Mon.bind (Mon.ite Mon.sgn (Mon.pure _)) fun b => Mon.ite ?_ ?_
  · exact Mon.next.bind fun _ => Mon.lines.bind fun _ => h.expr.mon.bind fun _ => Mon.leave.bind fun _ => Mon.pure _
  · exact Mon.leave.bind fun _ => Mon.pure _
theorem mon_list (h : PAdv p) : Mon (listF ts p) := by
  unfold listF
  refine (adv_expr h).mon.bind fun x => Mon.iter (fun l => ?_) _ _
  unfold listS
  exact Mon.next.bind fun _ => Mon.lines.bind fun _ => (adv_expr h).mon.bind fun _ => Mon.pure _
theorem adv_within (h : PAdv p) {s e : List Nat} : Adv (withinF ts p s e) := by
  unfold withinF
  exact Adv.bind1 Adv.take fun _ => (mon_list h).bind fun _ => Mon.take.bind fun _ => Mon.pure _
theorem mon_args (h : PAdv p) : Mon (argsF ts p) := by
  unfold argsF
  exact Mon.ahead.bind fun _ => Mon.sgn.bind fun _ => Mon.ite (Mon.next.bind fun _ => Mon.next.bind fun _ => Mon.pure _) (adv_within h).mon
theorem placed_nx {a : Nat} (h : placedA ts a = true) : nx ts a = a + 1 := by
  unfold placedA at h
  rw [Bool.or_eq_true] at h
  rcases h with h | h
  · exact nx_of (by decide) h
  · exact nx_isS h
theorem adv_place (h : PAdv p) : Adv (placeF ts p) := by
  unfold placeF
  refine Adv.ask (fun a ha => ?_) (by simp only [Bool.false_eq_true, if_false]; exact Adv.fail _)
  simp only [if_true]
  refine AdvAt.next (placed_nx ha) fun t => Mon.ite (Mon.sgn.bind fun _ => Mon.ite ((adv_within h).mon.bind fun _ => Mon.pure _) (Mon.pure _)) ?_
  exact Mon.enter.bind fun _ => Mon.sgn.bind fun _ => Mon.ite (h.stepped.mon.bind fun _ => Mon.leave.bind fun _ => Mon.pure _) (h.atom.mon.bind fun _ => Mon.leave.bind fun _ => Mon.pure _)
theorem adv_stepped (h : PAdv p) : Adv (steppedF ts p) := by
  unfold steppedF
  exact Adv.bind2 Mon.next fun _ => Adv.bind1 (adv_place h) fun _ => Mon.pure _
theorem adv_other (h : PAdv p) : Adv (otherF ts p) := by
  unfold otherF
  refine Adv.bind2 Mon.tok fun t => Adv.ask (fun a _ => by simp only [if_true]; exact adv_place h a) ?_
  simp only [Bool.false_eq_true, if_false]
  refine Adv.wrd (fun a ha => ?_) ?_
  · simp only [if_true]
    exact AdvAt.next (nx_isW ha) fun _ => Mon.ask.bind fun _ => Mon.ite ((adv_place h).mon.bind fun _ => Mon.pure _) (Mon.pure _)
  · simp only [Bool.false_eq_true, if_false]
    refine Adv.sgn (fun a ha => ?_) ?_
    · simp only [if_true]
      refine AdvAt.bind1 (adv_within h a) fun l => ?_
      split
      · exact Mon.pure _
      · exact Mon.key.bind fun _ => Mon.name.bind fun _ => Mon.pure _
    · simp only [Bool.false_eq_true, if_false]
      exact Adv.fail _
theorem adv_atom (h : PAdv p) : Adv (atomF ts p) := by
  unfold atomF
  refine Adv.tokAt fun a => ?_
  refine AdvAt.iteN (by decide) rfl (fun _ => Mon.pure _) ?_
  refine AdvAt.iteN (by decide) rfl (fun _ => Mon.pure _) ?_
  refine AdvAt.iteN (by decide) rfl (fun _ => Mon.pure _) ?_
  refine AdvAt.iteN (by decide) rfl (fun _ => (mon_args h).bind fun _ => Mon.pure _) ?_
  refine AdvAt.iteN (by decide) rfl (fun _ => Mon.bind (Mon.ite Mon.sgn (Mon.pure _)) fun _ => Mon.ite ((mon_args h).bind fun _ => Mon.pure _) (Mon.pure _)) ?_
  exact adv_other h a
theorem adv_step (h : PAdv p) : Adv (stepF ts p) := by
  unfold stepF
  refine Adv.sgn (fun a _ => by simp only [if_true]; exact adv_stepped h a) ?_
  simp only [Bool.false_eq_true, if_false]
  exact Adv.bind1 (adv_atom h) fun n => Mon.bind (Mon.ite Mon.sgn (Mon.pure _)) fun _ => Mon.ite (Mon.next.bind fun _ => Mon.pure _) (Mon.pure _)
theorem mon_deeper (h : PAdv p) : Mon (deeperF ts p) := by
  unfold deeperF
  exact Mon.enter.bind fun _ => h.signed.mon.bind fun _ => Mon.leave.bind fun _ => Mon.pure _
theorem adv_signed (h : PAdv p) : Adv (signedF ts p) := by
  unfold signedF
  refine Adv.sgn (fun a ha => ?_) ?_
  · simp only [if_true]
    exact AdvAt.next (nx_isS ha) fun _ => (mon_deeper h).bind fun _ => Mon.pure _
  · simp only [Bool.false_eq_true, if_false]
    exact Adv.bind1 (adv_step h) fun _ => Mon.sgn.bind fun _ => Mon.ite (Mon.next.bind fun _ => (mon_deeper h).bind fun _ => Mon.pure _) (Mon.pure _)
theorem adv_product (h : PAdv p) : Adv (productF ts p) := by
  unfold productF
  refine Adv.bind1 (adv_signed h) fun x => Mon.iter (fun l => ?_) _ _
  unfold productS
  exact Mon.next.bind fun _ => (adv_signed h).mon.bind fun _ => Mon.pure _
theorem adv_sum (h : PAdv p) : Adv (sumF ts p) := by
  unfold sumF
  refine Adv.bind1 (adv_product h) fun x => Mon.iter (fun l => ?_) _ _
  unfold sumS
  exact Mon.next.bind fun _ => (adv_product h).mon.bind fun _ => Mon.pure _
theorem adv_cat (h : PAdv p) : Adv (catF ts p) := by
  unfold catF
  refine Adv.bind1 (adv_sum h) fun x => Mon.bind (Mon.iter (fun l => ?_) _ _) fun n => Mon.iter (fun l => ?_) _ _
  · unfold catS
    exact (adv_sum h).mon.bind fun _ => Mon.pure _
  · unfold catS2
    exact Mon.next.bind fun _ => Mon.next.bind fun _ => Mon.ask.bind fun _ => Mon.ite ((adv_place h).mon.bind fun _ => Mon.pure _) (Mon.pure _)
theorem adv_comp (h : PAdv p) : Adv (compF ts p) := by
  unfold compF
  exact Adv.bind1 (adv_cat h) fun _ => Mon.sgn.bind fun _ => Mon.ite (Mon.next.bind fun _ => (adv_cat h).mon.bind fun _ => Mon.pure _) (Mon.pure _)
theorem adv_match (h : PAdv p) : Adv (matchF ts p) := by
  unfold matchF
  refine Adv.bind1 (adv_comp h) fun x => Mon.iter (fun l => ?_) _ _
  unfold matchS
  exact Mon.next.bind fun _ => (adv_comp h).mon.bind fun _ => Mon.pure _
theorem adv_isin (h : PAdv p) : Adv (isinF ts p) := by
  unfold isinF
  refine Adv.bind1 (adv_match h) fun x => Mon.iter (fun l => ?_) _ _
  unfold isinS
  exact Mon.next.bind fun _ => Mon.name.bind fun _ => Mon.pure _
theorem adv_and (h : PAdv p) : Adv (andF ts p) := by
  unfold andF
  refine Adv.bind1 (adv_isin h) fun x => Mon.iter (fun l => ?_) _ _
  unfold andS
  exact Mon.next.bind fun _ => Mon.lines.bind fun _ => (adv_isin h).mon.bind fun _ => Mon.pure _
theorem adv_or (h : PAdv p) : Adv (orF ts p) := by
  unfold orF
  refine Adv.bind1 (adv_and h) fun x => Mon.iter (fun l => ?_) _ _
  unfold orS
  exact Mon.next.bind fun _ => Mon.lines.bind fun _ => (adv_and h).mon.bind fun _ => Mon.pure _
theorem adv_cond (h : PAdv p) : Adv (condF ts p) := by
  unfold condF
  exact Adv.bind1 (adv_or h) fun _ => Mon.sgn.bind fun _ => Mon.ite (Mon.next.bind fun _ => Mon.lines.bind fun _ => (adv_expr h).mon.bind fun _ => Mon.take.bind fun _ => Mon.lines.bind fun _ => Mon.enter.bind fun _ => h.cond.mon.bind fun _ => Mon.leave.bind fun _ => Mon.pure _) (Mon.pure _)
end
open Go.RowKit
abbrev ElR : Type := RuleT × Option Addr × Nat × Option Addr × Nat
abbrev ElF : Type := FuncT × Option Addr × Nat × Option Addr × Nat
def ruleC (r : RuleT) (A : Option Addr) (c : Nat) (B : Option Addr) (e : Nat) : List Value := [.int .i64 ((r.k : Nat) : Int), .int .i64 ((r.at' : Nat) : Int), .slice A r.l.length c, .int .i64 ((NodeT.k r.body : Nat) : Int), .int .i64 ((NodeT.at' r.body : Nat) : Int), .string (strN (NodeT.s r.body)), .bool (zn (NodeT.z r.body)), .int .u64 (zh (NodeT.z r.body)), .int .u64 (zl (NodeT.z r.body)), .int .i64 ((NodeT.i r.body : Nat) : Int), .slice B (NodeT.l r.body).length e, .bool r.bare]
def funcC (f : FuncT) (A : Option Addr) (c : Nat) (B : Option Addr) (e : Nat) : List Value := [.string (strN f.name), .slice A f.params.length c, .int .i64 ((NodeT.k f.body : Nat) : Int), .int .i64 ((NodeT.at' f.body : Nat) : Int), .string (strN (NodeT.s f.body)), .bool (zn (NodeT.z f.body)), .int .u64 (zh (NodeT.z f.body)), .int .u64 (zl (NodeT.z f.body)), .int .i64 ((NodeT.i f.body : Nat) : Int), .slice B (NodeT.l f.body).length e, .int .i64 ((f.at' : Nat) : Int)]
def flatR (els : List ElR) : List Value := els.flatMap fun x => ruleC x.1 x.2.1 x.2.2.1 x.2.2.2.1 x.2.2.2.2
def flatF (els : List ElF) : List Value := els.flatMap fun x => funcC x.1 x.2.1 x.2.2.1 x.2.2.2.1 x.2.2.2.2
def strVs (l : List (List Nat)) : List Value := l.map fun s => .string (strN s)
def RowAt (w : World) (F : Nat → Prop) (A : Option Addr) (xs : List Value) : Prop := xs ≠ [] → ∃ b, A = some ⟨b, 0, none⟩ ∧ F b ∧ ∀ (j : Nat) u, xs[j]? = some u → w.cell? ⟨b, j, none⟩ = some u
theorem RowAt.st {w w' : World} {F F' : Nat → Prop} {A : Option Addr} {xs : List Value} (hF : ∀ b, F b → F' b ∧ w'.heap[b]? = w.heap[b]?) (h : RowAt w F A xs) : RowAt w' F' A xs := fun hx => by
  obtain ⟨b, e, hb, hc⟩ := h hx
  exact ⟨b, e, (hF b hb).1, fun j u hu => (World.cell?_of_block (hF b hb).2).trans (hc j u hu)⟩
def Cold.row (A : Option Addr) (xs : List Value) : Cold := ⟨fun w F => RowAt w F A xs, fun _ _ _ _ hF h => h.st hF⟩
def ElR.ok (w : World) (F : Nat → Prop) (x : ElR) : Prop := x.1.l.length ≤ x.2.2.1 ∧ x.1.body.l.length ≤ x.2.2.2.2 ∧ KidsL w F x.1.l x.2.1 0 ∧ KidsL w F x.1.body.l x.2.2.2.1 0
def ElF.ok (w : World) (F : Nat → Prop) (x : ElF) : Prop := x.1.params.length ≤ x.2.2.1 ∧ x.1.body.l.length ≤ x.2.2.2.2 ∧ RowAt w F x.2.1 (strVs x.1.params) ∧ KidsL w F x.1.body.l x.2.2.2.1 0
theorem ElR.ok.st {w w' : World} {F F' : Nat → Prop} {x : ElR} (hF : ∀ b, F b → F' b ∧ w'.heap[b]? = w.heap[b]?) (h : ElR.ok w F x) : ElR.ok w' F' x := ⟨h.1, h.2.1, h.2.2.1.st hF, h.2.2.2.st hF⟩
theorem ElF.ok.st {w w' : World} {F F' : Nat → Prop} {x : ElF} (hF : ∀ b, F b → F' b ∧ w'.heap[b]? = w.heap[b]?) (h : ElF.ok w F x) : ElF.ok w' F' x := ⟨h.1, h.2.1, h.2.2.1.st hF, h.2.2.2.st hF⟩
def Cold.elsR (els : List ElR) : Cold := ⟨fun w F => ∀ x ∈ els, ElR.ok w F x, fun _ _ _ _ hF h x hx => ElR.ok.st hF (h x hx)⟩
def Cold.elsF (els : List ElF) : Cold := ⟨fun w F => ∀ x ∈ els, ElF.ok w F x, fun _ _ _ _ hF h x hx => ElF.ok.st hF (h x hx)⟩
def VRule : World → World → RuleT → Value → Prop := fun w w' r v => ∃ A c B e, v = .agg #[.int .i64 ((r.k : Nat) : Int), .int .i64 ((r.at' : Nat) : Int), .slice A r.l.length c, .int .i64 ((NodeT.k r.body : Nat) : Int), .int .i64 ((NodeT.at' r.body : Nat) : Int), .string (strN (NodeT.s r.body)), .bool (zn (NodeT.z r.body)), .int .u64 (zh (NodeT.z r.body)), .int .u64 (zl (NodeT.z r.body)), .int .i64 ((NodeT.i r.body : Nat) : Int), .slice B (NodeT.l r.body).length e, .bool r.bare] ∧ ElR.ok w' (fun b => w.heap.size ≤ b ∧ b < w'.heap.size) (r, A, c, B, e)
def VFunc : World → World → FuncT → Value → Prop := fun w w' f v => ∃ A c B e, v = .agg #[.string (strN f.name), .slice A f.params.length c, .int .i64 ((NodeT.k f.body : Nat) : Int), .int .i64 ((NodeT.at' f.body : Nat) : Int), .string (strN (NodeT.s f.body)), .bool (zn (NodeT.z f.body)), .int .u64 (zh (NodeT.z f.body)), .int .u64 (zl (NodeT.z f.body)), .int .i64 ((NodeT.i f.body : Nat) : Int), .slice B (NodeT.l f.body).length e, .int .i64 ((f.at' : Nat) : Int)] ∧ ElF.ok w' (fun b => w.heap.size ≤ b ∧ b < w'.heap.size) (f, A, c, B, e)
section
variable {w0 w w' W : World} {X : List Nat} {S : World → Prop} {bs : List Bx} {rs : List Rw} {F : List Cold} {g a d n : Nat} {ts : List TokF} {β : Type} {R : PR β} {T : Ending → World → Prop} {K : FuncId} {args : Array Value}
theorem Own.snocR (h : Own w0 X S bs rs F w) {els : List ElR} {x : ElR} (h1 : Cold.elsR els ∈ F) (h2 : Cold.elsR [x] ∈ F) : Own w0 X S bs rs (Cold.elsR (els ++ [x]) :: F) w :=
  h.coldAll _ fun y hy => by
    rcases List.mem_append.1 hy with hy | hy
    · exact h.cold _ h1 y hy
    · exact h.cold _ h2 y hy
theorem Own.snocF (h : Own w0 X S bs rs F w) {els : List ElF} {x : ElF} (h1 : Cold.elsF els ∈ F) (h2 : Cold.elsF [x] ∈ F) : Own w0 X S bs rs (Cold.elsF (els ++ [x]) :: F) w :=
  h.coldAll _ fun y hy => by
    rcases List.mem_append.1 hy with hy | hy
    · exact h.cold _ h1 y hy
    · exact h.cold _ h2 y hy
theorem Own.freezeG {r : Rw} (h : Own w0 X S bs (r :: rs) F w) (h0 : r.n = 0 → r.xs = []) : ∃ A c, r.v = .slice A r.n c ∧ r.n ≤ c ∧ Own w0 X S bs rs (Cold.row A r.xs :: F) w := by
  have hr : w.ownsRow w0.heap.size r.e r.size r.v r.n r.xs := h.row _ List.mem_cons_self
  have hsub := h.sub (List.Sublist.refl bs) (List.sublist_cons_self _ rs) (fun c hc => hc)
  have hnd := h.nodup
  rcases hr.2 with ⟨hv, h0'⟩ | ⟨k, cap, cur, hv, hk, hh, hn, _⟩
  · exact ⟨none, 0, by rw [hv, h0'], by omega, hsub.coldAll _ (fun hx => absurd (h0 h0') hx)⟩
  · refine ⟨some ⟨k, 0, none⟩, cap, hv, hn, hsub.coldAll _ (fun _ => ?_)⟩
    have ho : r.v.ownBlock = some k := by rw [hv]; rfl
    have hnot : k ∉ hot bs rs := by
      intro hm
      rcases List.mem_append.1 hm with hm | hm
      · exact (List.nodup_append.1 hnd).2.2 k hm k (List.mem_filterMap.2 ⟨_, List.mem_cons_self, ho⟩) rfl
      · have hnd2 := (List.nodup_append.1 hnd).2.1
        rw [List.filterMap_cons, ho] at hnd2
        exact (List.nodup_cons.1 hnd2).1 hm
    refine ⟨k, rfl, ⟨hk, (hr.lt k ho).2, hnot⟩, fun j u hj => ?_⟩
    have := hr.cells (g := k) ho j u hj
    rw [Addr.add_mid, Nat.zero_add] at this
    exact this
theorem Own.swapR {r1 r2 : Rw} (h : Own w0 X S bs (r1 :: r2 :: rs) F w) : Own w0 X S bs (r2 :: r1 :: rs) F w := by
  have hp : (hot bs (r1 :: r2 :: rs)).Perm (hot bs (r2 :: r1 :: rs)) := (List.Perm.refl _).append ((List.Perm.swap r2 r1 rs).filterMap _)
  refine ⟨h.kept, h.loc, h.st, h.box, h.base, fun r hr => h.row r ?_, (hp.nodup_iff).1 h.nodup, fun c hc => c.st w w _ _ (fun b hb => ⟨⟨hb.1, hb.2.1, fun hm => hb.2.2 (hp.mem_iff.2 hm)⟩, rfl⟩) (h.cold c hc)⟩
  rcases List.mem_cons.1 hr with rfl | hr
  · exact List.mem_cons_of_mem _ List.mem_cons_self
  · rcases List.mem_cons.1 hr with rfl | hr
    · exact List.mem_cons_self
    · exact List.mem_cons_of_mem _ (List.mem_cons_of_mem _ hr)
variable {o : Oper} {act : Act} {KK : Act → World → Prop} {Q : Exit → Act → World → Prop}
theorem wo_appG {v : Value} {e : TypeId} {sz n' : Nat} {xs : List Value} (HO : Hid (Own w0 X S bs (⟨e, sz, v, n', xs⟩ :: rs) F w)) {s x : Operand} {T' : TypeId}
    (ho : o.op = .call { callee := .builtin .append, args := #[s, x], argTypes := #[T', T'] }) (hs : act.eval s = v) {r c : Nat} (hx : act.eval x = .slice (some ⟨r, 0, none⟩) 1 c) {ys : List Value} (HB : Hid (Blk w r e ys.toArray))
    (ht : Tryz.prog.underlying T' = some (.slice e)) {z : Value} {bytes : Nat} (hinfo : (Tryz.prog.info? e).map (fun i => (i.zero, i.size, i.bytes)) = some (some z, sz, bytes)) (hzs : z.cells.size = sz) (hsz : 0 < sz) (hys : ys.length = sz) (h1 : ∀ u ∈ ys, u.oneCell' = true) (hm : n' ≤ 1000000) (hby : bytes ≤ 1000)
    (h : ∀ A' c' W, n' + 1 ≤ c' → Hid (Own w0 X S bs (⟨e, sz, .slice A' (n' + 1) c', n' + 1, xs ++ ys⟩ :: rs) F W) → KK (act.put o.dst (.slice A' (n' + 1) c')) W) : WOp Tryz.prog o act w KK Q := by
  obtain ⟨i0, hi, hz0, hz1, hz2⟩ := info_parts hinfo
  have hrow := HO.out.row _ List.mem_cons_self
  have hrd : Reads w w.heap.size sz (some ⟨r, 0, none⟩) 1 ys := ⟨by omega, fun _ => ⟨_, rfl, HB.out.lt, fun j u hu => by
    rw [Addr.add_mid, Nat.zero_add, HB.out.cell]
    simpa using hu⟩⟩
  have hb2 : (n' + 1) * bytes ≤ 140737488355328 := by
    have : (n' + 1) * bytes ≤ 1000001 * 1000 := Nat.mul_le_mul (by omega) hby
    omega
  unfold WOp
  refine wp_append_any w s x T' ho w0.heap.size e i0 z sz bytes ht hi hz0 hz1 hz2 hzs hsz v n' xs hs hrow w.heap.size _ 1 c ys hx hrd h1 (by unfold maxLen; omega) hb2 HO.out.kept.size (fun v' w' g1 g2 g3 => ?_)
  have hO2 := HO.out.grow ⟨e, sz, v', n' + 1, xs ++ ys⟩ g1 g2 (by
    rcases g3 with g3 | g3
    · exact .inl g3
    · exact .inr fun k hk => by
        have hk' : v'.ownBlock = some k := hk
        rw [g3] at hk'; injection hk' with hk'; omega)
  have g4 := g1.2
  rcases g4 with ⟨_, h0⟩ | ⟨gg, cap, cur, rfl, _, _, hn2, _⟩
  · omega
  · exact h _ _ w' hn2 (Lib.hid hO2)
theorem info_str : (Tryz.prog.info? 9).map (fun i => (i.zero, i.size, i.bytes)) = some (some (.string { data := #[] }), 1, 16) := by kernel_rfl
theorem info_rule : (Tryz.prog.info? 41).map (fun i => (i.zero, i.size, i.bytes)) = some (some (.agg #[.int .i64 0, .int .i64 0, .slice none 0 0, .int .i64 0, .int .i64 0, .string { data := #[] }, .bool false, .int .u64 0, .int .u64 0, .int .i64 0, .slice none 0 0, .bool false]), 12, 136) := by kernel_rfl
theorem info_func : (Tryz.prog.info? 76).map (fun i => (i.zero, i.size, i.bytes)) = some (some (.agg #[.string { data := #[] }, .slice none 0 0, .int .i64 0, .int .i64 0, .string { data := #[] }, .bool false, .int .u64 0, .int .u64 0, .int .i64 0, .slice none 0 0, .int .i64 0]), 11, 136) := by kernel_rfl
theorem wo_appS {v : Value} {l : List (List Nat)} (HO : Hid (Own w0 X S bs (⟨9, 1, v, l.length, strVs l⟩ :: rs) F w)) {s x : Operand}
    (ho : o.op = .call { callee := .builtin .append, args := #[s, x], argTypes := #[74, 74] }) (hs : act.eval s = v) {r c : Nat} (hx : act.eval x = .slice (some ⟨r, 0, none⟩) 1 c) {y : List Nat} (HB : Hid (Blk w r 9 #[.string (strN y)])) (hm : l.length ≤ 1000000)
    (h : ∀ A' c' W, (l ++ [y]).length ≤ c' → Hid (Own w0 X S bs (⟨9, 1, .slice A' (l ++ [y]).length c', (l ++ [y]).length, strVs (l ++ [y])⟩ :: rs) F W) → KK (act.put o.dst (.slice A' (l ++ [y]).length c')) W) : WOp Tryz.prog o act w KK Q := by
  refine wo_appG HO ho hs hx (ys := [.string (strN y)]) HB Tryz.underlying74 info_str rfl (by decide) rfl (by simp [Value.oneCell']) hm (by decide) (fun A' c' W h1 h2 => ?_)
  have e1 : l.length + 1 = (l ++ [y]).length := by simp
  have e2 : strVs l ++ [.string (strN y)] = strVs (l ++ [y]) := by simp [strVs]
  rw [e2, e1] at h2
  rw [e1] at h1 ⊢
  exact h A' c' W h1 h2
theorem wo_appR {v : Value} {els : List ElR} (HO : Hid (Own w0 X S bs (⟨41, 12, v, els.length, flatR els⟩ :: rs) F w)) {s x : Operand}
    (ho : o.op = .call { callee := .builtin .append, args := #[s, x], argTypes := #[25, 25] }) (hs : act.eval s = v) {k q : Nat} (hx : act.eval x = .slice (some ⟨k, 0, none⟩) 1 q) {r : RuleT} {A : Option Addr} {c : Nat} {B : Option Addr} {e : Nat} (HB : Hid (Blk w k 41 #[.int .i64 ((r.k : Nat) : Int), .int .i64 ((r.at' : Nat) : Int), .slice A r.l.length c, .int .i64 ((NodeT.k r.body : Nat) : Int), .int .i64 ((NodeT.at' r.body : Nat) : Int), .string (strN (NodeT.s r.body)), .bool (zn (NodeT.z r.body)), .int .u64 (zh (NodeT.z r.body)), .int .u64 (zl (NodeT.z r.body)), .int .i64 ((NodeT.i r.body : Nat) : Int), .slice B (NodeT.l r.body).length e, .bool r.bare])) (he : Cold.elsR els ∈ F) (he1 : Cold.elsR [(r, A, c, B, e)] ∈ F) (hm : els.length ≤ 1000000)
    (h : ∀ (els' : List ElR) A' c' W, els'.map (·.1) = els.map (·.1) ++ [r] → els'.length = els.length + 1 → els'.length ≤ c' → Hid (Own w0 X S bs (⟨41, 12, .slice A' els'.length c', els'.length, flatR els'⟩ :: rs) (Cold.elsR els' :: F) W) → KK (act.put o.dst (.slice A' els'.length c')) W) : WOp Tryz.prog o act w KK Q := by
  refine wo_appG HO ho hs hx (ys := ruleC r A c B e) HB Tryz.underlying25 info_rule rfl (by decide) rfl (by simp [ruleC, Value.oneCell']) hm (by decide) (fun A' c' W h1 h2 => ?_)
  have e1 : els.length + 1 = (els ++ [(r, A, c, B, e)]).length := by simp
  have e2 : flatR els ++ ruleC r A c B e = flatR (els ++ [(r, A, c, B, e)]) := by simp [flatR]
  rw [e2, e1] at h2
  rw [e1] at h1 ⊢
  exact h (els ++ [(r, A, c, B, e)]) A' c' W (by simp) (by simp) h1 (Lib.hid (h2.out.snocR he he1))
theorem wo_appF {v : Value} {els : List ElF} (HO : Hid (Own w0 X S bs (⟨76, 11, v, els.length, flatF els⟩ :: rs) F w)) {s x : Operand}
    (ho : o.op = .call { callee := .builtin .append, args := #[s, x], argTypes := #[24, 24] }) (hs : act.eval s = v) {k q : Nat} (hx : act.eval x = .slice (some ⟨k, 0, none⟩) 1 q) {f : FuncT} {A : Option Addr} {c : Nat} {B : Option Addr} {e : Nat} (HB : Hid (Blk w k 76 #[.string (strN f.name), .slice A f.params.length c, .int .i64 ((NodeT.k f.body : Nat) : Int), .int .i64 ((NodeT.at' f.body : Nat) : Int), .string (strN (NodeT.s f.body)), .bool (zn (NodeT.z f.body)), .int .u64 (zh (NodeT.z f.body)), .int .u64 (zl (NodeT.z f.body)), .int .i64 ((NodeT.i f.body : Nat) : Int), .slice B (NodeT.l f.body).length e, .int .i64 ((f.at' : Nat) : Int)])) (he : Cold.elsF els ∈ F) (he1 : Cold.elsF [(f, A, c, B, e)] ∈ F) (hm : els.length ≤ 1000000)
    (h : ∀ (els' : List ElF) A' c' W, els'.map (·.1) = els.map (·.1) ++ [f] → els'.length = els.length + 1 → els'.length ≤ c' → Hid (Own w0 X S bs (⟨76, 11, .slice A' els'.length c', els'.length, flatF els'⟩ :: rs) (Cold.elsF els' :: F) W) → KK (act.put o.dst (.slice A' els'.length c')) W) : WOp Tryz.prog o act w KK Q := by
  refine wo_appG HO ho hs hx (ys := funcC f A c B e) HB Tryz.underlying24 info_func rfl (by decide) rfl (by simp [funcC, Value.oneCell']) hm (by decide) (fun A' c' W h1 h2 => ?_)
  have e1 : els.length + 1 = (els ++ [(f, A, c, B, e)]).length := by simp
  have e2 : flatF els ++ funcC f A c B e = flatF (els ++ [(f, A, c, B, e)]) := by simp [flatF]
  rw [e2, e1] at h2
  rw [e1] at h1 ⊢
  exact h (els ++ [(f, A, c, B, e)]) A' c' W (by simp) (by simp) h1 (Lib.hid (h2.out.snocF he he1))
theorem wo_storeR (HO : Hid (Own w0 X S bs rs F w)) {ty : TypeId} {x y : Operand} (ho : o.op = .store ty x y) (hdst : o.dst = none) {b : Nat} (hx : act.eval x = .pointer (some ⟨b, 3, none⟩)) {v0 v1 v2 v3 v4 v5 v6 v7 : Value} (hy : act.eval y = .agg #[v0, v1, v2, v3, v4, v5, v6, v7]) {t : TypeId} {c0 c1 c2 o0 o1 o2 o3 o4 o5 o6 o7 c3 : Value} {bs' : List Bx} (hm : (⟨b, t, [c0, c1, c2, o0, o1, o2, o3, o4, o5, o6, o7, c3]⟩ : Bx) ∈ bs) (hc : Chg bs ⟨b, t, [c0, c1, c2, o0, o1, o2, o3, o4, o5, o6, o7, c3]⟩ ⟨b, t, [c0, c1, c2, v0, v1, v2, v3, v4, v5, v6, v7, c3]⟩ bs')
    (hs : ∀ w, (sizeOf ty).run Tryz.prog w = .ok 8 w) (h1 : ∀ v ∈ [v0, v1, v2, v3, v4, v5, v6, v7], v.oneCell' = true) (h : ∀ W, Hid (Own w0 X S bs' rs F W) → KK act W) : WOp Tryz.prog o act w KK Q :=
  wo_store_at HO ho hdst hx (vs := [v0, v1, v2, v3, v4, v5, v6, v7]) hy hm rfl hc hs rfl (by simp) h1 h
theorem wo_storeF (HO : Hid (Own w0 X S bs rs F w)) {ty : TypeId} {x y : Operand} (ho : o.op = .store ty x y) (hdst : o.dst = none) {b : Nat} (hx : act.eval x = .pointer (some ⟨b, 2, none⟩)) {v0 v1 v2 v3 v4 v5 v6 v7 : Value} (hy : act.eval y = .agg #[v0, v1, v2, v3, v4, v5, v6, v7]) {t : TypeId} {c0 c1 o0 o1 o2 o3 o4 o5 o6 o7 c3 : Value} {bs' : List Bx} (hm : (⟨b, t, [c0, c1, o0, o1, o2, o3, o4, o5, o6, o7, c3]⟩ : Bx) ∈ bs) (hc : Chg bs ⟨b, t, [c0, c1, o0, o1, o2, o3, o4, o5, o6, o7, c3]⟩ ⟨b, t, [c0, c1, v0, v1, v2, v3, v4, v5, v6, v7, c3]⟩ bs')
    (hs : ∀ w, (sizeOf ty).run Tryz.prog w = .ok 8 w) (h1 : ∀ v ∈ [v0, v1, v2, v3, v4, v5, v6, v7], v.oneCell' = true) (h : ∀ W, Hid (Own w0 X S bs' rs F W) → KK act W) : WOp Tryz.prog o act w KK Q :=
  wo_store_at HO ho hdst hx (vs := [v0, v1, v2, v3, v4, v5, v6, v7]) hy hm rfl hc hs rfl (by simp) h1 h
theorem arm_rule {f : PP RuleT} {k : RuleT → PP β} (HC : Hid (FC K args f VRule g ts n)) (HO : Hid (Own w0 [g] (PS g ts a d) bs rs F w)) (HF : Hid ((f >>= k) a d = R)) (hg : g < w0.heap.size) (hn : 65 ≤ d + n)
    (hok : ∀ (r : RuleT) A c B e a' W, f a d = .ok r a' d → Hid (Own w0 [g] (PS g ts a' d) bs rs (Cold.elsR [(r, A, c, B, e)] :: F) W) → a ≤ a' → Hid (k r a' d = R) → T (.returned (.agg #[.int .i64 ((r.k : Nat) : Int), .int .i64 ((r.at' : Nat) : Int), .slice A r.l.length c, .int .i64 ((NodeT.k r.body : Nat) : Int), .int .i64 ((NodeT.at' r.body : Nat) : Int), .string (strN (NodeT.s r.body)), .bool (zn (NodeT.z r.body)), .int .u64 (zh (NodeT.z r.body)), .int .u64 (zl (NodeT.z r.body)), .int .i64 ((NodeT.i r.body : Nat) : Int), .slice B (NodeT.l r.body).length e, .bool r.bare])) W)
    (herr : ∀ v pl e W, Hid (FailV W w0.heap.size v pl e) → Hid (Kept [g] w0 W) → Hid (R = .err pl e) → T (.panicked [{ v := v, recovered := false }]) W) : Calls Tryz.prog K args w T := by
  refine arm_fcA (FC.at_ HC) HO HF hg hn (fun v x a' W hv hk HO' ha hr HF' => ?_) herr
  obtain ⟨A, c, B, e, rfl, hok'⟩ := hv
  exact hok x A c B e a' W hr (Lib.hid (HO'.out.addCold (Cold.elsR [(x, A, c, B, e)]) w.heap.size HO.out.kept.size (fun b hb => (HO.out.hot_lt b hb).2) (fun y hy => by obtain rfl := List.mem_singleton.1 hy; exact hok'))) ha HF'
theorem arm_func {f : PP FuncT} {k : FuncT → PP β} (HC : Hid (FC K args f VFunc g ts n)) (HO : Hid (Own w0 [g] (PS g ts a d) bs rs F w)) (HF : Hid ((f >>= k) a d = R)) (hg : g < w0.heap.size) (hn : 65 ≤ d + n)
    (hok : ∀ (f' : FuncT) A c B e a' W, f a d = .ok f' a' d → Hid (Own w0 [g] (PS g ts a' d) bs rs (Cold.elsF [(f', A, c, B, e)] :: F) W) → a ≤ a' → Hid (k f' a' d = R) → T (.returned (.agg #[.string (strN f'.name), .slice A f'.params.length c, .int .i64 ((NodeT.k f'.body : Nat) : Int), .int .i64 ((NodeT.at' f'.body : Nat) : Int), .string (strN (NodeT.s f'.body)), .bool (zn (NodeT.z f'.body)), .int .u64 (zh (NodeT.z f'.body)), .int .u64 (zl (NodeT.z f'.body)), .int .i64 ((NodeT.i f'.body : Nat) : Int), .slice B (NodeT.l f'.body).length e, .int .i64 ((f'.at' : Nat) : Int)])) W)
    (herr : ∀ v pl e W, Hid (FailV W w0.heap.size v pl e) → Hid (Kept [g] w0 W) → Hid (R = .err pl e) → T (.panicked [{ v := v, recovered := false }]) W) : Calls Tryz.prog K args w T := by
  refine arm_fcA (FC.at_ HC) HO HF hg hn (fun v x a' W hv hk HO' ha hr HF' => ?_) herr
  obtain ⟨A, c, B, e, rfl, hok'⟩ := hv
  exact hok x A c B e a' W hr (Lib.hid (HO'.out.addCold (Cold.elsF [(x, A, c, B, e)]) w.heap.size HO.out.kept.size (fun b hb => (HO.out.hot_lt b hb).2) (fun y hy => by obtain rfl := List.mem_singleton.1 hy; exact hok'))) ha HF'
theorem bp_rule {r : RuleT} {A : Option Addr} {c : Nat} {B : Option Addr} {e a0 a' d' : Nat} {R : PR RuleT} {cs : Array Value} (HO : Hid (Own w0 [g] (PS g ts a' d) bs rs F W)) (HF : Hid ((pure r : PP RuleT) a' d = R)) (heq : (.agg cs : Value) = .agg #[.int .i64 ((r.k : Nat) : Int), .int .i64 ((r.at' : Nat) : Int), .slice A r.l.length c, .int .i64 ((NodeT.k r.body : Nat) : Int), .int .i64 ((NodeT.at' r.body : Nat) : Int), .string (strN (NodeT.s r.body)), .bool (zn (NodeT.z r.body)), .int .u64 (zh (NodeT.z r.body)), .int .u64 (zl (NodeT.z r.body)), .int .i64 ((NodeT.i r.body : Nat) : Int), .slice B (NodeT.l r.body).length e, .bool r.bare]) (h1 : Cold.kids A r.l ∈ F) (hc : r.l.length ≤ c) (h2 : Cold.kids B r.body.l ∈ F) (he : r.body.l.length ≤ e) (ha : a0 ≤ a') (hd : d = d') : PPost g ts w0 a0 d' R VRule (.returned (.agg cs)) W :=
  bp_ok HO HF ha hd ⟨A, c, B, e, heq, hc, he, bp_kids HO h1, bp_kids HO h2⟩
theorem bp_func {f : FuncT} {A : Option Addr} {c : Nat} {B : Option Addr} {e a0 a' d' : Nat} {R : PR FuncT} {cs : Array Value} (HO : Hid (Own w0 [g] (PS g ts a' d) bs rs F W)) (HF : Hid ((pure f : PP FuncT) a' d = R)) (heq : (.agg cs : Value) = .agg #[.string (strN f.name), .slice A f.params.length c, .int .i64 ((NodeT.k f.body : Nat) : Int), .int .i64 ((NodeT.at' f.body : Nat) : Int), .string (strN (NodeT.s f.body)), .bool (zn (NodeT.z f.body)), .int .u64 (zh (NodeT.z f.body)), .int .u64 (zl (NodeT.z f.body)), .int .i64 ((NodeT.i f.body : Nat) : Int), .slice B (NodeT.l f.body).length e, .int .i64 ((f.at' : Nat) : Int)]) (h1 : Cold.row A (strVs f.params) ∈ F) (hc : f.params.length ≤ c) (h2 : Cold.kids B f.body.l ∈ F) (he : f.body.l.length ≤ e) (ha : a0 ≤ a') (hd : d = d') : PPost g ts w0 a0 d' R VFunc (.returned (.agg cs)) W :=
  bp_ok HO HF ha hd ⟨A, c, B, e, heq, hc, he, RowAt.st (fun b hb => ⟨⟨hb.1, hb.2.1⟩, rfl⟩) (HO.out.cold _ h1), bp_kids HO h2⟩
end
section
variable {P : Program} {md : Region.Mode} {ops : Array Oper} {Q : Exit → Act → World → Prop} {S : World → Prop} {late : List Nat}
end
section
variable {ts : List TokF} {p : Par}
theorem adv_stmt (h : PAdv p) : Adv (stmtF ts p) := by
  unfold stmtF
  exact Adv.bind2 Mon.enter fun _ => Adv.bind1 h.statement fun _ => Mon.leave.bind fun _ => Mon.pure _
theorem adv_block (h : PAdv p) : Adv (blockF ts p) := by
  unfold blockF
  refine Adv.bind2 Mon.tok fun t => Adv.bind1 Adv.take fun _ => Mon.ends.bind fun _ => Mon.bind (Mon.iter (fun l => ?_) _ _) fun l => Mon.next.bind fun _ => Mon.pure _
  unfold blockS
  exact (adv_stmt h).mon.bind fun _ => Mon.pure _
theorem adv_asked (h : PAdv p) : Adv (askedF ts p) := by
  unfold askedF
  exact Adv.bind1 Adv.take fun _ => (adv_expr h).mon.bind fun _ => Mon.take.bind fun _ => Mon.pure _
theorem adv_below (h : PAdv p) : Adv (belowF ts p) := by
  unfold belowF
  exact Adv.bind2 Mon.lines fun _ => adv_stmt h
theorem Mon.close : Mon (closeP ts) := by
  unfold closeP
  exact Mon.ask.bind fun _ => Mon.ite Mon.ends (Mon.fail _)
theorem isS_lt {a : Nat} {ss : List (List Nat)} (h : isS ts a ss = true) : a < ts.length := by
  rcases Nat.lt_or_ge a ts.length with hl | hl
  · exact hl
  · exfalso
    unfold isS at h
    rw [Bool.and_eq_true] at h
    have e : tk ts a = ⟨0, 0, [], 0⟩ := by unfold tk; rw [List.getD_eq_getElem?_getD, List.getElem?_eq_none hl]; rfl
    rw [e] at h
    exact absurd h.1 (by decide)
theorem advAt_ends {a : Nat} (h : isS ts a [[59]] = true) : AdvAt (endsP ts) a := fun d y a' d' e => by
  have h' : PR.ok () (endsF ts ts.length a) d = .ok y a' d' := e
  injection h' with _ h1 _
  have hlt := isS_lt h
  obtain ⟨f, hf⟩ : ∃ f, ts.length = f + 1 := ⟨ts.length - 1, by omega⟩
  have hm : ∀ f b, b ≤ endsF ts f b := by
    intro f
    induction f with
    | zero => intro a; exact Nat.le_refl _
    | succ f ih => intro a; rw [endsF]; split; exact Nat.le_trans le_nx (ih _); exact Nat.le_refl _
  rw [hf, endsF, h, Bool.or_true, if_pos rfl] at h1
  have := hm f (nx ts a)
  have := nx_isS h
  omega
theorem mon_print' (h : PAdv p) : ∀ t : TokF, Mon (do
    let b ← (if t.s = [112, 114, 105, 110, 116, 102] then pure true else do
      if ← askP (overA ts) then pure false else
        let c ← sgnP ts [[124, 38]]
        pure !c)
    let l ← if b then listF ts p else pure []
    if ← sgnP ts [[124, 38]] then
      let _ ← nextP ts
      let x ← sumF ts p
      pure (NodeT.mk 53 t.at' t.s 0 1 (l ++ [x]))
    else pure (NodeT.mk 53 t.at' t.s 0 0 l) : PP NodeT) := fun t => by
  have hend : ∀ l : List NodeT, Mon (do
    if ← sgnP ts [[124, 38]] then
      let _ ← nextP ts
      let x ← sumF ts p
      pure (NodeT.mk 53 t.at' t.s 0 1 (l ++ [x]))
    else pure (NodeT.mk 53 t.at' t.s 0 0 l) : PP NodeT) := fun l => Mon.sgn.bind fun _ => Mon.ite (Mon.next.bind fun _ => (adv_sum h).mon.bind fun _ => Mon.pure _) (Mon.pure _)
  refine Mon.bind (Mon.ite (Mon.pure _) (Mon.ask.bind fun _ => Mon.ite (Mon.pure _) (Mon.sgn.bind fun _ => Mon.pure _))) fun b => ?_
  exact Mon.ite ((mon_list h).bind hend) ((Mon.pure _).bind hend)
theorem adv_simple (h : PAdv p) : Adv (simpleF ts p) := by
  unfold simpleF
  refine Adv.bind2 Mon.tok fun t => ?_
  have leaf : ∀ (ss : List (List Nat)) (x : NodeT) (B : PP NodeT), Adv B → Adv (wrdP ts ss >>= fun b => if b = true then nextP ts >>= fun _ => pure x else B) := fun ss x B hB =>
    Adv.wrd (fun a ha => by simp only [if_true]; exact AdvAt.next (nx_isW ha) fun _ => Mon.pure _) (by simp only [Bool.false_eq_true, if_false]; exact hB)
  have leaf2 : ∀ (ss : List (List Nat)) (A B : PP NodeT), Mon A → Adv B → Adv (wrdP ts ss >>= fun b => if b = true then nextP ts >>= fun _ => A else B) := fun ss A B hA hB =>
    Adv.wrd (fun a ha => by simp only [if_true]; exact AdvAt.next (nx_isW ha) fun _ => hA) (by simp only [Bool.false_eq_true, if_false]; exact hB)
  refine leaf _ _ _ (leaf _ _ _ (leaf _ _ _ (leaf2 _ _ _ ?_ (leaf2 _ _ _ ?_ (leaf2 _ _ _ ?_ ?_)))))
  · exact Mon.ask.bind fun _ => Mon.ite (Mon.pure _) ((adv_expr h).mon.bind fun _ => Mon.pure _)
  · exact Mon.ask.bind fun _ => Mon.ite (Mon.pure _) ((adv_expr h).mon.bind fun _ => Mon.pure _)
  · exact Mon.name.bind fun _ => Mon.sgn.bind fun _ => Mon.ite ((adv_within h).mon.bind fun _ => Mon.pure _) (Mon.pure _)
  · refine Adv.wrd (fun a ha => ?_) ?_
    · simp only [if_true]
      unfold printF
      exact AdvAt.next (nx_isW ha) (mon_print' h)
    · simp only [Bool.false_eq_true, if_false]
      exact Adv.bind1 (adv_expr h) fun _ => Mon.pure _
theorem mon_perhaps (h : PAdv p) : Mon (perhapsF ts p) := by
  unfold perhapsF
  exact Mon.sgn.bind fun _ => Mon.ite (Mon.pure _) (adv_simple h).mon
theorem mon_loop' (h : PAdv p) (ha : ∀ t : TokF, Mon (do
    takeP ts [40]
    if ← askP (eachA ts) then
      let x ← nextP ts
      let _ ← nextP ts
      let y ← nextP ts
      let _ ← nextP ts
      let b ← belowF ts p
      pure (NodeT.mk 46 t.at' y.s 0 0 [.mk 4 x.at' x.s 0 0 [], b])
    else
      let f ← perhapsF ts p
      takeP ts [59]
      linesP ts
      let s ← (do if ← sgnP ts [[59]] then pure (NodeT.mk 40 0 [] 0 0 []) else exprF ts p)
      takeP ts [59]
      linesP ts
      let h ← perhapsF ts p
      takeP ts [41]
      let b ← belowF ts p
      pure (NodeT.mk 45 t.at' [] 0 0 [f, s, h, b]) : PP NodeT)) {a : Nat} (hw : isW ts a [[102, 111, 114]] = true) : AdvAt (loopF ts p) a := by
  unfold loopF
  exact AdvAt.next (nx_isW hw) ha
theorem mon_loop'' (h : PAdv p) (t : TokF) : Mon (do
    takeP ts [40]
    if ← askP (eachA ts) then
      let x ← nextP ts
      let _ ← nextP ts
      let y ← nextP ts
      let _ ← nextP ts
      let b ← belowF ts p
      pure (NodeT.mk 46 t.at' y.s 0 0 [.mk 4 x.at' x.s 0 0 [], b])
    else
      let f ← perhapsF ts p
      takeP ts [59]
      linesP ts
      let s ← (do if ← sgnP ts [[59]] then pure (NodeT.mk 40 0 [] 0 0 []) else exprF ts p)
      takeP ts [59]
      linesP ts
      let h ← perhapsF ts p
      takeP ts [41]
      let b ← belowF ts p
      pure (NodeT.mk 45 t.at' [] 0 0 [f, s, h, b]) : PP NodeT) := by
  refine Mon.take.bind fun _ => Mon.ask.bind fun _ => Mon.ite ?_ ?_
  · exact Mon.next.bind fun _ => Mon.next.bind fun _ => Mon.next.bind fun _ => Mon.next.bind fun _ => (adv_below h).mon.bind fun _ => Mon.pure _
  · refine (mon_perhaps h).bind fun _ => Mon.take.bind fun _ => Mon.lines.bind fun _ => Mon.bind (Mon.sgn.bind fun _ => Mon.ite (Mon.pure _) (adv_expr h).mon) fun _ => Mon.take.bind fun _ => Mon.lines.bind fun _ => (mon_perhaps h).bind fun _ => Mon.take.bind fun _ => (adv_below h).mon.bind fun _ => Mon.pure _
theorem adv_statement (h : PAdv p) : Adv (statementF ts p) := by
  unfold statementF
  refine Adv.bind2 Mon.tok fun t => ?_
  refine Adv.sgn (fun a _ => by simp only [if_true]; exact AdvAt.bind1 (adv_block h a) fun _ => Mon.ends.bind fun _ => Mon.pure _) ?_
  simp only [Bool.false_eq_true, if_false]
  refine Adv.sgn (fun a ha => by simp only [if_true]; exact AdvAt.bind1 (advAt_ends ha) fun _ => Mon.pure _) ?_
  simp only [Bool.false_eq_true, if_false]
  refine Adv.wrd (fun a ha => ?_) ?_
  · simp only [if_true]
    exact AdvAt.next (nx_isW ha) fun _ => (adv_asked h).mon.bind fun _ => (adv_below h).mon.bind fun _ => Mon.wrd.bind fun _ => Mon.ite (Mon.next.bind fun _ => (adv_below h).mon.bind fun _ => Mon.pure _) (Mon.pure _)
  simp only [Bool.false_eq_true, if_false]
  refine Adv.wrd (fun a ha => ?_) ?_
  · simp only [if_true]
    exact AdvAt.next (nx_isW ha) fun _ => (adv_asked h).mon.bind fun _ => (adv_below h).mon.bind fun _ => Mon.pure _
  simp only [Bool.false_eq_true, if_false]
  refine Adv.wrd (fun a ha => ?_) ?_
  · simp only [if_true]
    exact AdvAt.next (nx_isW ha) fun _ => (adv_below h).mon.bind fun _ => Mon.key.bind fun _ => (adv_asked h).mon.bind fun _ => Mon.close.bind fun _ => Mon.pure _
  simp only [Bool.false_eq_true, if_false]
  refine Adv.wrd (fun a ha => ?_) ?_
  · simp only [if_true]
    exact mon_loop' h (mon_loop'' h) ha
  simp only [Bool.false_eq_true, if_false]
  exact Adv.bind1 (adv_simple h) fun _ => Mon.close.bind fun _ => Mon.pure _
end
theorem padv_par (ts : List TokF) : ∀ n, PAdv (par ts n)
  | 0 => ⟨Adv.fail _, Adv.fail _, Adv.fail _, Adv.fail _, Adv.fail _, Adv.fail _⟩
  | n + 1 => ⟨adv_cond (padv_par ts n), adv_expr (padv_par ts n), adv_signed (padv_par ts n), adv_atom (padv_par ts n), adv_stepped (padv_par ts n), adv_statement (padv_par ts n)⟩
end Go.Proofs.YtdiibenofbcfnaaGreat
