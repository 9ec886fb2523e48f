/- Several texts put together: LexN, PasJ, PasK, JoiA, JoiC, JoiB. -/
import Derived.Test.YthipoccbeloceaaBu1
import Derived.Test.YthipoccbeloceaaBu14
import Derived.Test.YthipoccbeloceaaBu7
import Derived.Deep.Cut
import Derived.Lib.SlBytesConst
set_option linter.unusedSimpArgs false
set_option linter.unusedVariables false
namespace Go.Proofs.Ythipoccbeloceaa
open Go.RowKit
theorem info_tok : (Try.prog.info? 89).map (fun i => (i.zero, i.size, i.bytes)) = some (some (.agg #[.int .i64 0, .int .i64 0, .string { data := #[] }, .bool false, .int .u64 0, .int .u64 0]), 6, 56) := by kernel_rfl
section
variable {g : Nat} {src : List Nat} {a : Nat} {V : Value} {A : Option Addr} {T : List Nat} {w w' w0 W : World} {bs : List Bx} {rs : List Rw} {F : List Cold} {K : Act → World → Prop} {act : Act} {P : Program} {o : Oper} {Q : Exit → Act → World → Prop} {TT : Ending → World → Prop} {X : List Nat} {S : World → Prop}
theorem RdrS.put2 (m : RdrS w g src a V) (v : Value) : RdrS (w.setCell ⟨g, 2, none⟩ v) g src a v := by
  obtain ⟨A, c, b, r, hc⟩ := m.box
  obtain ⟨c0, c1, c2, f0, f1, f2, z⟩ := b
  refine ⟨⟨A, c, ?_, r.keep fun p hp => World.cell?_setCell_other _ _ _ _ (fun e => by subst e; simp at hp), hc⟩, m.len⟩
  constructor <;> (first | (simp (maxDischargeDepth := 12) [go_sem, *]; done) | (simp; omega))
theorem lo_store2 (HO : Hid (Own w0 [g] (LS g src a V A T) bs rs F w)) (hg : g < w0.heap.size) {ty : TypeId} {x y : Operand} (ho : o.op = .store ty x y) (hdst : o.dst = none) (hx : act.eval x = .pointer (some ⟨g, 2, none⟩)) {A2 : Option Addr} {n2 c2 : Nat} (hy : act.eval y = .slice A2 n2 c2) (hs : ∀ w, (sizeOf ty).run P w = .ok 1 w)
    (h : ∀ W, Hid (Own w0 [g] (LS g src a (.slice A2 n2 c2) A T) bs rs F W) → K act W) : WOp P o act w K Q := by
  obtain ⟨A1, c, b, _⟩ := HO.out.st.r.box
  have k1 := b.c2
  have f1 := b.f2
  have kz := b.z
  have := h _ (Lib.hid (HO.out.lcall hg (kept_set _ _ _ _) ⟨HO.out.st.r.put2 (.slice A2 n2 c2), HO.out.st.b.keep fun p hp => World.cell?_setCell_other _ _ _ _ (fun e => by subst e; simp at hp)⟩))
  unfold WOp Oper.wp execOp
  have hst : ∀ (B : Option Addr) (n c : Nat), (storeCells ⟨g, 2, none⟩ [Value.slice B n c]).run P w = .ok () (w.setCell ⟨g, 2, none⟩ (.slice B n c)) := fun B n c => by simp [go_sem, storeCells, k1, f1, kz]
  simp only [ho, hx, hy, Instr.storeAt, Instr.sureAddr, Sem.run_bind, Sem.run_pure, Result.andThen_ok, storeVar, hs w, Value.cells, List.size_toArray, List.length_cons, List.length_nil, Nat.zero_add, ne_eq, not_true, if_false, hst]
  simpa [Oper.upon, hdst, Act.put] using this
theorem wo_appT1 {v : Value} {ts : List TokF} (HO : Hid (Own w0 X S bs (⟨89, 6, v, ts.length, ts.flatMap tokC⟩ :: rs) F w)) {s x : Operand}
    (ho : o.op = .call { callee := .builtin .append, args := #[s, x], argTypes := #[55, 55] }) (hs : act.eval s = v) {r c : Nat} (hx : act.eval x = .slice (some ⟨r, 0, none⟩) 1 c) {t : TokF} (HB : Hid (Blk w r 89 #[.int .i64 ((TokF.k t : Nat) : Int), .int .i64 ((TokF.at' t : Nat) : Int), .string (strN (TokF.s t)), .bool (zn (TokF.z t)), .int .u64 (zh (TokF.z t)), .int .u64 (zl (TokF.z t))])) (hm : ts.length ≤ 1000000)
    (h : ∀ A' c' W, (ts ++ [t]).length ≤ c' → Hid (Own w0 X S bs (⟨89, 6, .slice A' (ts ++ [t]).length c', (ts ++ [t]).length, (ts ++ [t]).flatMap tokC⟩ :: rs) F W) → K (act.put o.dst (.slice A' (ts ++ [t]).length c')) W) : WOp Try.prog o act w K Q := by
  refine wo_appG HO ho hs hx (ys := tokC t) HB Try.underlying55 info_tok rfl (by decide) rfl (by simp [tokC, Value.oneCell']) hm (by decide) (fun A' c' W h1 h2 => ?_)
  have e1 : ts.length + 1 = (ts ++ [t]).length := by simp
  have e2 : ts.flatMap tokC ++ tokC t = (ts ++ [t]).flatMap tokC := by simp
  rw [e2, e1] at h2
  rw [e1] at h1 ⊢
  exact h A' c' W h1 h2
theorem wo_appT0 {v : Value} {ts : List TokF} (HO : Hid (Own w0 X S bs (⟨89, 6, v, ts.length, ts.flatMap tokC⟩ :: rs) F w)) {s x : Operand}
    (ho : o.op = .call { callee := .builtin .append, args := #[s, x], argTypes := #[55, 55] }) (hs : act.eval s = v) {r c : Nat} (hx : act.eval x = .slice (some ⟨r, 0, none⟩) 1 c) {n : Nat} (HB : Hid (Blk w r 89 #[.int .i64 0, .int .i64 (n : Int), .string { data := #[] }, .bool false, .int .u64 0, .int .u64 0])) (hm : ts.length ≤ 1000000)
    (h : ∀ A' c' W, (ts ++ [(⟨0, n, [], 0⟩ : TokF)]).length ≤ c' → Hid (Own w0 X S bs (⟨89, 6, .slice A' (ts ++ [(⟨0, n, [], 0⟩ : TokF)]).length c', (ts ++ [(⟨0, n, [], 0⟩ : TokF)]).length, (ts ++ [(⟨0, n, [], 0⟩ : TokF)]).flatMap tokC⟩ :: rs) F W) → K (act.put o.dst (.slice A' (ts ++ [(⟨0, n, [], 0⟩ : TokF)]).length c')) W) : WOp Try.prog o act w K Q := by
  refine wo_appT1 HO ho hs hx (t := ⟨0, n, [], 0⟩) ?_ hm h
  have h1 : zn 0 = false := by decide
  have h2 : zh 0 = 0 := by decide
  have h3 : zl 0 = 0 := by decide
  dsimp only
  rw [h1, h2, h3]
  exact HB
def OwnLB (w0 : World) (g : Nat) (src : List Nat) (a : Nat) (V : Value) (bs : List Bx) (w : World) : Prop := ∃ rs F, Own w0 [g] (LS g src a V none []) bs rs F w
theorem OwnLB.of (HO : Hid (Own w0 [g] (LS g src a V none []) bs rs F w)) : OwnLB w0 g src a V bs w := ⟨rs, F, HO.out⟩
theorem arm_pass {KF : FuncId} {args : Array Value} (HO : Hid (Own w0 [g] (LS g src a V none []) bs rs F w)) (hg : g < w0.heap.size) (ha : a ≤ src.length) (hK : KF = 28) (hargs : args = #[.pointer (some ⟨g, 0, none⟩)])
    (h : ∀ W, Hid (Own w0 [g] (LS g src (a + passN (src.drop a)) V none []) bs rs F W) → TT (.returned (.tuple #[])) W) : Calls Try.prog KF args w TT := by
  subst hK hargs
  refine (pass_any w HO.out.st.r ha).mono fun e W hp => ?_
  obtain ⟨rfl, hr, hu⟩ := hp
  exact h W (Lib.hid (HO.out.lcall hg (Kept.of_upd hu) ⟨hr, ⟨by simp, fun h => absurd h (by simp)⟩⟩))
theorem arm_lnext {KF : FuncId} {args : Array Value} {ts : List TokF} {c : Nat} (HO : Hid (Own w0 [g] (LS g src a (.slice A ts.length c) none []) bs (⟨89, 6, .slice A ts.length c, ts.length, ts.flatMap tokC⟩ :: rs) F w)) (hg : g < w0.heap.size) (ha : a < src.length) (hc : ts.length ≤ c) (hm : ts.length ≤ 1000000) (hts : ∀ t ∈ ts, ∀ x ∈ t.s, x < 256) (hK : KF = 29) (hargs : args = #[.pointer (some ⟨g, 0, none⟩)])
    (hok : ∀ t n W, Hid (nextL ts.getLast? a (src.drop a) = .ok (t, n)) → Hid (Own w0 [g] (LS g src (a + n) (.slice A ts.length c) none []) bs (⟨89, 6, .slice A ts.length c, ts.length, ts.flatMap tokC⟩ :: rs) F W) → TT (.returned (.tuple #[.agg #[.int .i64 ((TokF.k t : Nat) : Int), .int .i64 ((TokF.at' t : Nat) : Int), .string (strN (TokF.s t)), .bool (zn (TokF.z t)), .int .u64 (zh (TokF.z t)), .int .u64 (zl (TokF.z t))], .nilIface])) W)
    (herr : ∀ k b W, Hid (nextL ts.getLast? a (src.drop a) = .error k) → Hid (Own w0 [g] (fun _ => True) bs (⟨89, 6, .slice A ts.length c, ts.length, ts.flatMap tokC⟩ :: rs) (Cold.flt (.iface 74 (.pointer (some ⟨b, 0, none⟩))) a k :: F) W) → TT (.returned (.tuple #[.agg #[.int .i64 0, .int .i64 0, .string { data := #[] }, .bool false, .int .u64 0, .int .u64 0], .iface 74 (.pointer (some ⟨b, 0, none⟩))])) W) : Calls Try.prog KF args w TT := by
  subst hK hargs
  have hrd : Reads w w.heap.size 6 A ts.length (ts.flatMap tokC) := Reads.of_own (HO.out.row _ List.mem_cons_self)
  refine (next_r w HO.out.st.r ha hrd hc hm hts).mono fun e W hp => ?_
  have hY : ∀ y ∈ [g], y ∈ [g] ∧ y < w0.heap.size := fun y hy => ⟨hy, by rw [List.mem_singleton.1 hy]; exact hg⟩
  cases hr : nextL ts.getLast? a (src.drop a) with
  | error k =>
    rw [hr] at hp
    obtain ⟨⟨v, rfl, b, rfl, hb, hk⟩, hu⟩ := hp
    rw [tokV_0]
    have h1 := HO.out.call (Y := [g]) (S' := fun _ => True) hY (Kept.of_upd hu) trivial (fun _ _ _ _ _ => trivial)
    exact herr k b W (Lib.hid hr) (Lib.hid (h1.addCold (Cold.flt (.iface 74 (.pointer (some ⟨b, 0, none⟩))) a k) w.heap.size HO.out.kept.size (fun b hb => (HO.out.hot_lt b hb).2) ⟨b, rfl, ⟨hb, hk.lt⟩, hk⟩))
  | ok tn =>
    obtain ⟨t, n⟩ := tn
    rw [hr] at hp
    obtain ⟨rfl, h2, hu⟩ := hp
    exact hok t n W (Lib.hid hr) (Lib.hid (HO.out.call (Y := [g]) (S' := LS g src (a + n) (.slice A ts.length c) none []) hY (Kept.of_upd hu) ⟨h2, ⟨by simp, fun h => absurd h (by simp)⟩⟩ (LS.loc hg)))
end
section
variable {P : Program} {md : Region.Mode} {ops : Array Oper} {Q : Exit → Act → World → Prop} {late : List Nat} {g : Nat} {src : List Nat} {q : Nat} {V : Value}
theorem e_beginL {id : Nat} {a : Act} {w0 w : World} {bs : List Bx} {rs : List Rw} {F : List Cold} (HO : Hid (Own w0 [g] (LS g src q V none []) bs rs F w)) (late : List Nat) (hm : P.follows .mixedOrders = true)
    (h : ∀ W, Hid (Own w0 [g] (LS g src q V none []) bs rs F W) → wpAnyE P .any ops Q (OwnLB w0 g src q V bs) late ops.size (Array.replicate ops.size false) a W) : (Code.region id ops true).wp P Q a w :=
  e_start _ late hm (h _ (Lib.hid HO.out.drew))
theorem e_load2L {w0 : World} {bs : List Bx} {rs : List Rw} {F : List Cold} {i : Nat} {oi : Oper} {f : Nat} {listed : Array Bool} {a : Act} {w : World} (HO : Hid (Own w0 [g] (LS g src q V none []) bs rs F w)) (hi : (ops.toList.drop i).head? = some oi)
    (hs : Region.noSelect ops = true) (hf : Region.free md ops listed i = true) (hr : (Region.ready md ops listed).contains i = true) (hil : late.contains i = false) (hw : waits md ops late listed i = true)
    {ty : TypeId} {x : Operand} (ho : oi.op = .load ty x) (hx : a.eval x = .pointer (some ⟨g, 2, none⟩))
    (hd : ∀ w, (isAgg ty).run P w = .ok false w)
    (hQ : ∀ c a w, Q (.panic c) (a.put oi.dst V) w → Q (.panic c) a w) (hwa : Region.wanted oi (yielded ops a.tmps) = true)
    (h : wpAnyE P md ops Q (OwnLB w0 g src q V bs) late f (listed.setIfInBounds i true) (a.put oi.dst V) w) : wpAnyE P md ops Q (OwnLB w0 g src q V bs) late (f + 1) listed a w := by
  refine e_take hi hs hf hr hil hw hQ hwa (OwnLB.of HO) (fun w' hS => ?_) h
  obtain ⟨rs', F', h'⟩ := hS
  obtain ⟨A1, c, b, _⟩ := h'.st.r.box
  have hl : w'.cell? ⟨g, 2, none⟩ = some V := b.c2
  unfold execOp
  simp only [ho, hx, Instr.loadAt, Instr.sureAddr, Sem.run_bind, Sem.run_pure, Result.andThen_ok, loadVar, hd w', Bool.false_eq_true, if_false, run_load, hl]
theorem e_loadL {w0 : World} {bs : List Bx} {rs : List Rw} {F : List Cold} {i : Nat} {oi : Oper} {f : Nat} {listed : Array Bool} {a : Act} {w : World} (HO : Hid (Own w0 [g] (LS g src q V none []) bs rs F w)) (hi : (ops.toList.drop i).head? = some oi)
    (hs : Region.noSelect ops = true) (hf : Region.free md ops listed i = true) (hr : (Region.ready md ops listed).contains i = true) (hil : late.contains i = false) (hw : waits md ops late listed i = true)
    {ty : TypeId} {x : Operand} (ho : oi.op = .load ty x) {b : Nat} (hx : a.eval x = .pointer (some ⟨b, 0, none⟩)) {t : TypeId} {cs : List Value} (hm : (⟨b, t, cs⟩ : Bx) ∈ bs)
    (hd : ∀ w, (isAgg ty).run P w = .ok true w) {n : Nat} (hsz : ∀ w, (sizeOf ty).run P w = .ok n w) (hn : cs.length = n)
    (hQ : ∀ c a w, Q (.panic c) (a.put oi.dst (.agg cs.toArray)) w → Q (.panic c) a w) (hwa : Region.wanted oi (yielded ops a.tmps) = true)
    (h : wpAnyE P md ops Q (OwnLB w0 g src q V bs) late f (listed.setIfInBounds i true) (a.put oi.dst (.agg cs.toArray)) w) : wpAnyE P md ops Q (OwnLB w0 g src q V bs) late (f + 1) listed a w := by
  subst hn
  refine e_take hi hs hf hr hil hw hQ hwa (OwnLB.of HO) (fun w' hS => ?_) h
  obtain ⟨rs', F', h'⟩ := hS
  have hl : (loadCells ⟨b, 0, none⟩ cs.length).run P w' = .ok cs.toArray w' :=
    run_loadCells_list (P := P) w' ⟨b, 0, none⟩ cs (fun j v hv => by rw [Addr.add_mid]; exact h'.cells hm 0 j v (by simpa using hv))
  unfold execOp
  simp only [ho, hx, Instr.loadAt, Instr.sureAddr, Sem.run_bind, Sem.run_pure, Result.andThen_ok, loadVar, hd w', if_true, hsz w', hl]
end
theorem passS_le : ∀ (l : List Nat) (b : Bool), passS b l ≤ l.length
  | [], b => by cases b <;> simp [passS]
  | c :: r, true => by rw [passS]; have := passS_le r false; simp; omega
  | c :: r, false => by
    rw [passS]
    have h1 := passS_le r false
    have h2 := passS_le r true
    have h3 : (r.takeWhile (· ≠ 10)).length ≤ r.length := (List.takeWhile_prefix _).length_le
    simp only [List.length_cons]
    repeat (first | (split) | omega)
theorem passN_le (l : List Nat) : passN l ≤ l.length := passS_le l false
theorem allF_step {f q : Nat} {src : List Nat} {ts : List TokF} (hp : q + passN (src.drop q) < src.length) : allF (f + 1) q (src.drop q) ts = match nextL ts.getLast? (q + passN (src.drop q)) (src.drop (q + passN (src.drop q))) with
      | .error e => .error (q + passN (src.drop q), e)
      | .ok (t, n) => allF f (q + passN (src.drop q) + n) (src.drop (q + passN (src.drop q) + n)) (ts ++ [t]) := by
  rw [allF, List.drop_drop]
  rw [List.drop_eq_getElem_cons hp]
  dsimp only
  rw [← List.drop_eq_getElem_cons hp]
  cases nextL ts.getLast? (q + passN (src.drop q)) (src.drop (q + passN (src.drop q))) with
  | error e => rfl
  | ok tn => obtain ⟨t, n⟩ := tn; dsimp only; rw [List.drop_drop]
theorem allF_stop {f q : Nat} {src : List Nat} {ts : List TokF} (hp : src.length ≤ q + passN (src.drop q)) (hq : q ≤ src.length) (hf : src.length ≤ f + q) : allF f q (src.drop q) ts = .ok (ts ++ [⟨0, src.length, [], 0⟩]) := by
  cases f with
  | zero => rw [allF]; rw [show q = src.length by omega]
  | succ f =>
    rw [allF, List.drop_drop, List.drop_eq_nil_of_le hp]
    dsimp only
    rw [List.length_drop, show q + (src.length - q) = src.length by omega]
theorem rdr_new {w : World} {src : List Nat} {A : Option Addr} {B c : Nat} {V : Value} {T : TypeId} (hB : B ≤ w.heap.size) (hr : RB w B A src) (hc : src.length ≤ c) (hlen : src.length ≤ 1000000) : RdrS (w.alloc (.cells #[.slice A src.length c, .int .i64 0, V] T)) w.heap.size src 0 V := by
  refine ⟨⟨A, c, Box3.make w _ _ _ T rfl, ?_, hc⟩, hlen⟩
  have h2 := hr.below (((Below.refl B w).alloc hB (.cells #[.slice A src.length c, .int .i64 0, V] T)))
  exact ⟨h2.1, fun hn => by obtain ⟨ad, e, hb, hcell⟩ := h2.2 hn; exact ⟨ad, e, Nat.lt_of_lt_of_le hb hB, hcell⟩⟩
theorem below_kept {w w1 W : World} {g : Nat} (hq : Below w.heap.size w w1) (hk : Kept [g] w1 W) (hg : g = w.heap.size) : Below w.heap.size w W :=
  ⟨hk.os.trans hq.os, hk.tape.trans hq.tape, hk.output.trans hq.output, Nat.le_trans hq.size hk.size, fun k hk2 => (hk.block k (Nat.lt_of_lt_of_le hk2 hq.size) (by simp; omega)).trans (hq.block k hk2)⟩
def AllPost (src : List Nat) (w : World) (e : Ending) (w' : World) : Prop :=
  Below w.heap.size w w' ∧ match lexS src with
    | .error (p, k) => ∃ v, e = .returned (.tuple #[.slice none 0 0, v]) ∧ FltV w' w.heap.size v p k
    | .ok ts => ∃ A c, e = .returned (.tuple #[.slice A ts.length c, .nilIface]) ∧ ts.length ≤ c ∧ w'.ownsRow w.heap.size 89 6 (.slice A ts.length c) ts.length (ts.flatMap tokC)
theorem owns_mono {w : World} {B B' : Nat} {e : TypeId} {sz n : Nat} {v : Value} {xs : List Value} (h : w.ownsRow B e sz v n xs) (hB : B' ≤ B) : w.ownsRow B' e sz v n xs := by
  obtain ⟨h1, h2⟩ := h
  refine ⟨h1, ?_⟩
  rcases h2 with h2 | ⟨g, cap, cur, e, hg, h3⟩
  · exact .inl h2
  · exact .inr ⟨g, cap, cur, e, Nat.le_trans hB hg, h3⟩
set_option maxRecDepth 100000 in
set_option maxHeartbeats 3200000 in
theorem all_r {src : List Nat} (A : Option Addr) (c : Nat) (w : World) (B : Nat) (hB : B ≤ w.heap.size) (hr : RB w B A src) (hc : src.length ≤ c) (hlen : src.length ≤ 1000000) :
    Calls Try.prog 12 #[.slice A src.length c] w (AllPost src w) := by
  obtain ⟨R, hR⟩ : ∃ R, lexS src = R := ⟨_, rfl⟩
  unfold AllPost
  rw [hR]
  by_cases hbig : 16384 < src.length
  · have hd : decide ((src.length : Int) > 16384) = true := decide_eq_true (by omega)
    have hd' : decide (16384 < (src.length : Int)) = true := decide_eq_true (by omega)
    have hR2 : R = .error (0, 5) := by rw [← hR]; unfold lexS; rw [if_pos hbig]
    subst hR2
    clear hR
    have HLF : Hid (∀ W, Calls Try.prog 27 #[.int .i64 0, .int .i64 5] W fun e w' => (∃ v, e = .returned v ∧ FltV w' W.heap.size v 0 5) ∧ Below W.heap.size W w') := Lib.hid (fun W => lfault_any 0 5 W)
    go_enter Try.func12, Try.ntmps12
    go_wp2_with (first | (go_at_call 27; (with_reducible refine (HLF.out _).mono ?_); rintro e w2 ⟨⟨v, rfl, hv⟩, b2⟩; have HV := Lib.hid hv; have HB2 := Lib.hid b2; clear hv b2) | fail)
    go_ret2
    exact ⟨HB2.out, _, rfl, HV.out⟩
  · have hd : decide ((src.length : Int) > 16384) = false := decide_eq_false (by omega)
    have hd' : decide (16384 < (src.length : Int)) = false := decide_eq_false (by omega)
    have hR2 : allF src.length 0 src [] = R := by rw [← hR]; unfold lexS; rw [if_neg hbig]
    have HR := Lib.hid hR2
    clear hR hR2
    have HRB := Lib.hid hr
    clear hr
    go_enter Try.func12, Try.ntmps12
    go_upto_region 4 with fail
    have m1 := rdr_new (V := .slice none 0 0) (T := 87) hB HRB.out hc hlen
    have q1 : Below w.heap.size w (w.alloc (.cells #[.slice A src.length c, .int .i64 0, .slice none 0 0] 87)) := (Below.refl _ _).alloc (Nat.le_refl _) _
    have hg := m1.lt
    generalize w.alloc (.cells #[.slice A src.length c, .int .i64 0, .slice none 0 0] 87) = w1 at m1 q1 hg ⊢
    obtain ⟨g, hgd⟩ : ∃ g, g = w.heap.size := ⟨_, rfl⟩
    rw [← hgd] at m1 hg ⊢
    have HQ := Lib.hid q1
    have HG := Lib.hid hgd
    have HO := Lib.hid ((LS.own m1).out.nilRow 89 6)
    clear m1 q1 hgd
    (repeat' (first | ((with_reducible refine zG ?_); first | refine oWx ?_ | (refine oWs ?_; clear HO; intro _ HO) | (refine oWj ?_; clear HO; intro _ HO HB)) | ((go_big_may; first | (go_at_call 28; refine arm_pass HO hg (Nat.zero_le _) rfl rfl ?_; clear HO; intro _ HO) | fail) <;> (try dsimp only)) | go_values | go_skip | go_guarded | go_step | go_upon | (go_ite <;> go_prune <;> (try go_simp))))
    go_loopw [] (fun W => ∃ (ts : List TokF) (A' : Option Addr) (c' f q : Nat), ts.length ≤ c' ∧ ts.length ≤ q ∧ q ≤ src.length ∧ src.length ≤ f + q ∧ Hid (∀ t ∈ ts, ∀ x ∈ t.s, x < 256) ∧ Hid (allF f q (src.drop q) ts = R) ∧ Hid (Own w1 [g] (LS g src (q + passN (src.drop q)) (.slice A' ts.length c') none []) [] [⟨89, 6, .slice A' ts.length c', ts.length, ts.flatMap tokC⟩] [] W)) (fun W => src.length - (intOf ((W.cell? ⟨g, 1, none⟩).getD undef)).toNat)
    case atStart => exact ⟨[], none, 0, src.length, 0, Nat.le_refl _, Nat.le_refl _, Nat.zero_le _, by omega, Lib.hid (by simp), HR, HO⟩
    case round =>
      clear HO HR
      obtain ⟨ts, A', c', f, q, hl, hlq, hqs, hf, HB8, HF, HO⟩ := hrel
      have HS := Lib.hid HO.out.st.r
      have hst := allF_stop (f := f) (q := q) (src := src) (ts := ts)
      have hsp := fun f => allF_step (f := f) (q := q) (src := src) (ts := ts)
      have hpl : q + passN (src.drop q) ≤ src.length := by have := passN_le (src.drop q); rw [List.length_drop] at this; omega
      have hqp : q ≤ q + passN (src.drop q) := Nat.le_add_right _ _
      generalize q + passN (src.drop q) = p at *
      by_cases hp : p < src.length
      · have hd3 : decide ((p : Int) < (src.length : Int)) = true := decide_eq_true (by omega)
        obtain ⟨f, rfl⟩ : ∃ f', f = f' + 1 := ⟨f - 1, by omega⟩
        replace HF := Lib.hid ((hsp f hp).symm.trans HF.out)
        clear hst hsp
        (repeat' (go_not_at_region 10; first | ((with_reducible refine zG ?_); first | refine oWx ?_ | (refine oWs ?_; clear HO; intro _ HO) | (refine oWj ?_; clear HO; intro _ HO HB)) | ((with_reducible refine to_load ?_); (first | (refine lo_loadA HO rfl rfl Try.isAgg3 ?_; (try simp only [Act.put, pS]))); (try simp only [Act.put, pS])) | ((go_big_may; first | (go_at_call 29; refine arm_lnext HO hg hp hl (by omega) HB8.out rfl rfl ?_ ?_; (clear HO; intro t n W HE HO); rotate_left; (clear HO; intro k b W HE HO); rotate_left) | fail) <;> (try dsimp only)) | go_values | go_skip | go_guarded | go_step | go_upon | (go_ite <;> go_prune <;> (try go_simp))))
        · have hk := nextL_ok (fun x hx => HS.out.byte x (List.mem_of_mem_drop hx)) HE.out
          have hn1 := hk.pos
          have hn2 : p + n ≤ src.length := by have := hk.le; rw [List.length_drop] at this; omega
          have HB9 : Hid (∀ u ∈ ts ++ [t], ∀ x ∈ u.s, x < 256) := Lib.hid (fun u hu => by
            rcases List.mem_append.1 hu with hu | hu
            · exact HB8.out u hu
            · obtain rfl := List.mem_singleton.1 hu; exact hk.byte)
          have hF := HF.out
          rw [HE.out] at hF
          have HF2 := Lib.hid hF
          clear hF HF hk HE
          refine e_beginL HO [10] (by kernel_rfl) ?_
          clear HO
          intro _ HO
          refine e_pure (i := 0) (v := ?v0) rfl (by kernel_rfl) (by kernel_rfl) (by kernel_rfl) (by kernel_rfl) (fun _ _ _ h => h) (by rfl) (OwnLB.of HO) ?y0 ?r0
          case y0 => (intro wS; go_simp; (try with_reducible rfl))
          (try simp only [Act.put, pS])
          refine e_pure (i := 1) (v := ?v1) rfl (by kernel_rfl) (by kernel_rfl) (by kernel_rfl) (by kernel_rfl) (fun _ _ _ h => h) (by rfl) (OwnLB.of HO) ?y1 ?r1
          case y1 => (intro wS; go_simp; (try with_reducible rfl))
          (try simp only [Act.put, pS])
          refine e_pure (i := 2) (v := ?v2) rfl (by kernel_rfl) (by kernel_rfl) (by kernel_rfl) (by kernel_rfl) (fun _ _ _ h => h) (by rfl) (OwnLB.of HO) ?y2 ?r2
          case y2 => (intro wS; go_simp; (try with_reducible rfl))
          (try simp only [Act.put, pS])
          refine e_pure (i := 3) (v := ?v3) rfl (by kernel_rfl) (by kernel_rfl) (by kernel_rfl) (by kernel_rfl) (fun _ _ _ h => h) (by rfl) (OwnLB.of HO) ?y3 ?r3
          case y3 => (intro wS; go_simp; (try with_reducible rfl))
          (try simp only [Act.put, pS])
          refine e_load2L (i := 4) HO rfl (by kernel_rfl) (by kernel_rfl) (by kernel_rfl) (by kernel_rfl) (by kernel_rfl) rfl rfl Try.isAgg55 (fun _ _ _ h => h) (by rfl) ?_
          (try simp only [Act.put, pS])
          refine e_loadL (i := 5) HO rfl (by kernel_rfl) (by kernel_rfl) (by kernel_rfl) (by kernel_rfl) (by kernel_rfl) rfl rfl mM Try.isAgg89 Try.sizeOf89 (by rfl) (fun _ _ _ h => h) (by rfl) ?_
          (try simp only [Act.put, pS])
          refine e_one (i := 6) (by kernel_rfl) rfl (by kernel_rfl) (by rfl) (fun K hK => ?_)
          go_simp
          ((with_reducible refine ab_junk HO 89 ?_); clear HO; intro _ HO HB)
          refine hK.out _ _ (OwnLB.of HO) ?_
          clear hK K
          (try simp only [Act.put, pS])
          refine e_one (i := 7) (by kernel_rfl) rfl (by kernel_rfl) (by rfl) (fun K hK => ?_)
          ((with_reducible refine to_append ?_); refine wo_appT1 HO rfl rfl rfl HB (by omega) ?_; clear HO HB; intro _ _ _ hcap HO; (try simp only [Act.put, pS]))
          refine hK.out _ _ (OwnLB.of HO) ?_
          clear hK K
          (try simp only [Act.put, pS])
          refine e_pure (i := 8) (v := ?v4) rfl (by kernel_rfl) (by kernel_rfl) (by kernel_rfl) (by kernel_rfl) (fun _ _ _ h => h) (by rfl) (OwnLB.of HO) ?y4 ?r4
          case y4 => (intro wS; go_simp; (try with_reducible rfl))
          (try simp only [Act.put, pS])
          refine e_pure (i := 9) (v := ?v5) rfl (by kernel_rfl) (by kernel_rfl) (by kernel_rfl) (by kernel_rfl) (fun _ _ _ h => h) (by rfl) (OwnLB.of HO) ?y5 ?r5
          case y5 => (intro wS; go_simp; (try with_reducible rfl))
          (try simp only [Act.put, pS])
          refine e_late (i := 10) (by kernel_rfl) rfl (by kernel_rfl) (by rfl) (fun K hK => ?_)
          (with_reducible refine to_store ?_)
          (refine lo_store2 HO hg rfl rfl rfl rfl Try.sizeOf55 ?_; clear HO; intro _ HO)
          refine hK.out _ _ ?_
          clear hK K
          (try simp only [Act.put, pS])
          refine e_done (by kernel_rfl) ?_
          (repeat' (first | ((with_reducible refine zG ?_); first | refine oWx ?_ | (refine oWs ?_; clear HO; intro _ HO) | (refine oWj ?_; clear HO; intro _ HO HB)) | ((go_big_may; first | (go_at_call 28; refine arm_pass HO hg hn2 rfl rfl ?_; clear HO; intro _ HO) | fail) <;> (try dsimp only)) | go_values | go_skip | go_guarded | go_step | go_upon | (go_ite <;> go_prune <;> (try go_simp))))
          go_roundw
          case rel => exact ⟨ts ++ [t], _, _, f, p + n, hcap, by simp; omega, hn2, by omega, HB9, HF2, Lib.hid (HO.out.sub (List.nil_sublist _) (List.Sublist.refl _) (fun c hc => by cases hc))⟩
          case measure => exact measR HS.out HO.out.st.r (by omega) hp
        · have hF := HF.out
          rw [HE.out] at hF
          have hF : R = .error (p, k) := hF.symm
          subst hF
          go_ret2
          exact ⟨below_kept HQ.out HO.out.kept HG.out, _, rfl, (HO.out.flt List.mem_cons_self).mono HQ.out.size⟩
      · have hd3 : decide ((p : Int) < (src.length : Int)) = false := decide_eq_false (by omega)
        have HR2 := Lib.hid ((hst (by omega) hqs hf).symm.trans HF.out)
        clear hst hsp
        (repeat' (first | ((with_reducible refine zG ?_); first | refine oWx ?_ | (refine oWs ?_; clear HO; intro _ HO) | (refine oWj ?_; clear HO; intro _ HO HB)) | ((with_reducible refine to_load ?_); (first | (refine lo_load2 HO rfl rfl Try.isAgg55 ?_; (try simp only [Act.put, pS])) | (refine lo_loadA HO rfl rfl Try.isAgg3 ?_; (try simp only [Act.put, pS]))); (try simp only [Act.put, pS])) | ((with_reducible refine ab_junk HO 89 ?_); clear HO; intro _ HO HB) | ((with_reducible refine to_append ?_); refine wo_appT0 HO rfl rfl rfl HB (by omega) ?_; clear HO HB; intro _ _ _ hcap HO; (try simp only [Act.put, pS])) | go_values | go_skip | go_guarded | go_step | go_upon | (go_ite <;> go_prune <;> (try go_simp))))
        have hF := HR2.out
        subst hF
        go_ret2
        exact ⟨below_kept HQ.out HO.out.kept HG.out, _, _, rfl, hcap, owns_mono (HO.out.row _ List.mem_cons_self) HQ.out.size⟩
open Go.RowKit
section
variable {w0 w w1 W : World} {X : List Nat} {S : World → Prop} {bs : List Bx} {rs : List Rw} {F : List Cold} {K : Act → World → Prop} {act : Act} {P : Program} {o : Oper} {Q : Exit → Act → World → Prop} {T : Ending → World → Prop}
def Cold.tree (A B : Option Addr) (fe : List ElF) (re : List ElR) : Cold := ⟨fun w F => TreeAt w F A B fe re, fun _ _ _ _ hF h => h.st hF⟩
theorem Own.after {g : Nat} {t : TypeId} {cs : List Value} (h : Own w0 X S (⟨g, t, cs⟩ :: bs) rs F w1) (q : Kept [g] w1 W) : Own w0 X S bs rs F W := by
  have hg : w0.heap.size ≤ g := h.base _ List.mem_cons_self
  have hnd := h.nodup
  rw [hot_box, List.nodup_cons] at hnd
  refine ⟨h.kept.trans q (fun y hy => .inr (by rw [List.mem_singleton.1 hy]; exact hg)), h.loc, h.loc w1 W (fun b hb => q.block b (Nat.lt_of_lt_of_le hb h.kept.size) (by simp; omega)) q.size h.st, fun x hx => ?_, fun x hx => h.base x (List.mem_cons_of_mem _ hx), fun r hr => ?_, hnd.2, fun c hc => ?_⟩
  · have hb := h.box x (List.mem_cons_of_mem _ hx)
    refine (q.block x.b hb.lt (fun e => hnd.1 ?_)).trans hb
    rw [← List.mem_singleton.1 e]
    exact List.mem_append_left _ (List.mem_map_of_mem (f := (·.b)) hx)
  · have hr1 := h.row r hr
    rcases hr1.2 with h2 | ⟨k, cap, cur, e, hk, hh, h3⟩
    · exact ⟨hr1.1, .inl h2⟩
    · have hlt : k < w1.heap.size := by
        rcases Nat.lt_or_ge k w1.heap.size with h | h
        · exact h
        · rw [Array.getElem?_eq_none h] at hh; cases hh
      refine ⟨hr1.1, .inr ⟨k, cap, cur, e, hk, (q.block k hlt (fun e2 => hnd.1 ?_)).trans hh, h3⟩⟩
      rw [← List.mem_singleton.1 e2]
      exact List.mem_append_right _ (List.mem_filterMap.2 ⟨r, hr, by rw [e]; rfl⟩)
  · exact c.st w1 W _ _ (fun b hb => ⟨⟨hb.1, Nat.lt_of_lt_of_le hb.2.1 q.size, fun hm => hb.2.2 (by rw [hot_box]; exact List.mem_cons_of_mem _ hm)⟩, q.block b hb.2.1 (fun e => hb.2.2 (by rw [hot_box, List.mem_singleton.1 e]; exact List.mem_cons_self))⟩) (h.cold c hc)
theorem arm_all {KF : FuncId} {args : Array Value} {src : List Nat} {A : Option Addr} {c B : Nat} (HO : Hid (Own w0 X S bs rs F w)) (hB : B ≤ w0.heap.size) (hr : Hid (RB w0 B A src)) (hX : X = []) (hc : src.length ≤ c) (hlen : src.length ≤ 1000000) (hK : KF = 12) (hargs : args = #[.slice A src.length c])
    (hok : ∀ ts A' c' W, Hid (lexS src = .ok ts) → ts.length ≤ c' → Hid (Own w0 X S bs (⟨89, 6, .slice A' ts.length c', ts.length, ts.flatMap tokC⟩ :: rs) F W) → T (.returned (.tuple #[.slice A' ts.length c', .nilIface])) W)
    (herr : ∀ p k b W, Hid (lexS src = .error (p, k)) → Hid (Own w0 X S bs rs (Cold.flt (.iface 74 (.pointer (some ⟨b, 0, none⟩))) p k :: F) W) → T (.returned (.tuple #[.slice none 0 0, .iface 74 (.pointer (some ⟨b, 0, none⟩))])) W) : Calls Try.prog KF args w T := by
  subst hK hargs hX
  have hr2 : RB w B A src := hr.out.keep fun p hp => World.cell?_of_block (HO.out.kept.block p.block (by omega) (by simp))
  refine (all_r A c w B (Nat.le_trans hB HO.out.kept.size) hr2 hc hlen).mono fun e W hp => ?_
  obtain ⟨q, hp⟩ := hp
  cases hl : lexS src with
  | error pk =>
    obtain ⟨p, k⟩ := pk
    rw [hl] at hp
    obtain ⟨v, rfl, b, rfl, hb, hk⟩ := hp
    exact herr p k b W (Lib.hid hl) (Lib.hid ((HO.out.next q).addCold (Cold.flt (.iface 74 (.pointer (some ⟨b, 0, none⟩))) p k) w.heap.size HO.out.kept.size (fun b hb => (HO.out.hot_lt b hb).2) ⟨b, rfl, ⟨hb, hk.lt⟩, hk⟩))
  | ok ts =>
    rw [hl] at hp
    obtain ⟨A', c', rfl, hc', ho⟩ := hp
    refine hok ts A' c' W (Lib.hid hl) hc' (Lib.hid ((HO.out.next q).addRow ⟨89, 6, .slice A' ts.length c', ts.length, ts.flatMap tokC⟩ w.heap.size HO.out.kept.size ho (fun b hb hm => by have := (HO.out.hot_lt b hm).2; omega) (fun d hd => d.st w W _ _ (fun b hb => ⟨⟨⟨hb.1, Nat.lt_of_lt_of_le hb.2.1 q.size, hb.2.2⟩, hb.2.1⟩, q.block b hb.2.1⟩) (HO.out.cold d hd))))
end
open Go.RowKit
def Cold.at (b o : Nat) (cs : List Value) : Cold := ⟨fun w F => F b ∧ w.rangeAt b o cs, fun w w' F F' hF h => ⟨(hF b h.1).1, fun i v hv => (World.cell?_of_block (hF b h.1).2).trans (h.2 i v hv)⟩⟩
class Ca (F : List Cold) (b k : Nat) (v : outParam Value) : Prop where
  m : ∃ o i cs, Cold.at b o cs ∈ F ∧ k = o + i ∧ cs[i]? = some v
class Cb (F : List Cold) (b k n : Nat) (s : outParam (List Value)) : Prop where
  m : ∃ o i cs, Cold.at b o cs ∈ F ∧ k = o + i ∧ (cs.drop i).take n = s ∧ s.length = n
section
variable {F : List Cold} {c : Cold} {b o i k n : Nat} {v : Value} {cs s : List Value}
instance (priority := low) [h : Ca F b k v] : Ca (c :: F) b k v := ⟨(by obtain ⟨o, i, cs, m, e⟩ := h.m; exact ⟨o, i, cs, .tail _ m, e⟩)⟩
instance [g : Gt cs i v] : Ca (Cold.at b o cs :: F) b (o + i) v := ⟨⟨o, i, cs, .head _, rfl, g.g⟩⟩
instance : Ca (Cold.at b o (v :: cs) :: F) b o v := ⟨⟨o, 0, v :: cs, .head _, rfl, rfl⟩⟩
instance [g : Gt cs k v] : Ca (Cold.at b 0 cs :: F) b k v := ⟨⟨0, k, cs, .head _, (by omega), g.g⟩⟩
instance (priority := low) [h : Cb F b k n s] : Cb (c :: F) b k n s := ⟨(by obtain ⟨o, i, cs, m, e⟩ := h.m; exact ⟨o, i, cs, .tail _ m, e⟩)⟩
instance [g : Sb cs i n s] : Cb (Cold.at b o cs :: F) b (o + i) n s := ⟨⟨o, i, cs, .head _, rfl, g.t, g.n⟩⟩
instance [g : Tk cs n s] : Cb (Cold.at b o cs :: F) b o n s := ⟨⟨o, 0, cs, .head _, rfl, g.t, g.n⟩⟩
instance [g : Sb cs k n s] : Cb (Cold.at b 0 cs :: F) b k n s := ⟨⟨0, k, cs, .head _, (by omega), g.t, g.n⟩⟩
end
section
variable {o : Oper} {a : Act} {w0 w : World} {X : List Nat} {S : World → Prop} {bs : List Bx} {rs : List Rw} {F : List Cold} {K : Act → World → Prop} {Q : Exit → Act → World → Prop} {T : Ending → World → Prop}
theorem oC1 (HO : Hid (Own w0 X S bs rs F w)) {ty : TypeId} {x : Operand} (ho : o.op = .load ty x) {b k : Nat} (hx : a.eval x = .pointer (some ⟨b, k, none⟩)) {v : Value} [T : T1 ty] [m : Ca F b k v] (h : K (a.put o.dst v) w) : WOp Try.prog o a w K Q := by
  obtain ⟨o', i, cs, hm, rfl, hv⟩ := m.m
  have hl : w.cell? ⟨b, o' + i, none⟩ = some v := (HO.out.cold _ hm).2 i v hv
  have hd := T.a
  unfold WOp Oper.wp execOp
  simp only [ho, hx, Instr.loadAt, Instr.sureAddr, Sem.run_bind, Sem.run_pure, Result.andThen_ok, loadVar, hd w, Bool.false_eq_true, if_false, run_load, hl]
  exact h
theorem oC2 (HO : Hid (Own w0 X S bs rs F w)) {ty : TypeId} {x : Operand} (ho : o.op = .load ty x) {b k : Nat} (hx : a.eval x = .pointer (some ⟨b, k, none⟩)) {n : Nat} {s : List Value} [T : TN ty n] [m : Cb F b k n s] (h : K (a.put o.dst (.agg s.toArray)) w) : WOp Try.prog o a w K Q := by
  obtain ⟨o', i, cs, hm, rfl, hv, hn⟩ := m.m
  have hl : (loadCells ⟨b, o' + i, none⟩ n).run Try.prog w = .ok s.toArray w := by
    rw [← hn]
    refine run_loadCells_list (P := Try.prog) w ⟨b, o' + i, none⟩ s (fun j v hs => ?_)
    rw [Addr.add_mid, Nat.add_assoc]
    refine (HO.out.cold _ hm).2 (i + j) v ?_
    rw [← hv, List.getElem?_take] at hs
    split at hs
    · rw [List.getElem?_drop] at hs; exact hs
    · cases hs
  have hd := T.a
  have hz := T.s
  unfold WOp Oper.wp execOp
  simp only [ho, hx, Instr.loadAt, Instr.sureAddr, Sem.run_bind, Sem.run_pure, Result.andThen_ok, loadVar, hd w, if_true, hz w, hl]
  exact h
end
open Go.RowKit
section
variable {o : Oper} {act : Act} {w0 w : World} {X : List Nat} {S : World → Prop} {bs : List Bx} {rs : List Rw} {F : List Cold} {KK : Act → World → Prop} {Q : Exit → Act → World → Prop}
theorem wo_appK {v : Value} {e : TypeId} {sz n' m : Nat} {xs ys : List Value} (HO : Hid (Own w0 X S bs (⟨e, sz, v, n', xs⟩ :: rs) F w)) {s x : Operand} {T' : TypeId}
    (ho : o.op = .call { callee := .builtin .append, args := #[s, x], argTypes := #[T', T'] }) (hs : act.eval s = v) {A : Option Addr} {c : Nat} (hx : act.eval x = .slice A m c) (hrd : Reads w w.heap.size sz A m ys)
    (ht : Try.prog.underlying T' = some (.slice e)) {z : Value} {bytes : Nat} (hinfo : (Try.prog.info? e).map (fun i => (i.zero, i.size, i.bytes)) = some (some z, sz, bytes)) (hzs : z.cells.size = sz) (hsz : 0 < sz) (h1 : ∀ u ∈ ys, u.oneCell' = true) (hm : n' + m ≤ 1000000) (hby : bytes ≤ 1000)
    (h : ∀ A' c' W, n' + m ≤ c' → Hid (Own w0 X S bs (⟨e, sz, .slice A' (n' + m) c', n' + m, xs ++ ys⟩ :: rs) F W) → KK (act.put o.dst (.slice A' (n' + m) c')) W) : WOp Try.prog o act w KK Q := by
  obtain ⟨i0, hi, hz0, hz1, hz2⟩ := info_parts hinfo
  have hrow := HO.out.row _ List.mem_cons_self
  have hb2 : (n' + m) * bytes ≤ 140737488355328 := by
    have : (n' + m) * bytes ≤ 1000000 * 1000 := Nat.mul_le_mul hm hby
    omega
  unfold WOp
  refine wp_append_any w s x T' ho w0.heap.size e i0 z sz bytes ht hi hz0 hz1 hz2 hzs hsz v n' xs hs hrow w.heap.size A m c ys hx hrd h1 (by unfold maxLen; omega) hb2 HO.out.kept.size (fun v' w' g1 g2 g3 => ?_)
  have hO2 := HO.out.grow ⟨e, sz, v', n' + m, xs ++ ys⟩ g1 g2 (by
    rcases g3 with g3 | g3
    · exact .inl g3
    · exact .inr fun k hk => by
        have hk' : v'.ownBlock = some k := hk
        rw [g3] at hk'; injection hk' with hk'; omega)
  have g4 := g1.2
  rcases g4 with ⟨rfl, h0⟩ | ⟨gg, cap, cur, rfl, _, _, hn2, _⟩
  · have h0' : n' + m = 0 := h0
    have hO3 := Lib.hid hO2
    rw [h0'] at hO3
    have := h none 0 w' (by omega)
    rw [h0'] at this
    exact this hO3
  · exact h _ _ w' hn2 (Lib.hid hO2)
theorem one_flatF (l : List ElF) : ∀ u ∈ flatF l, u.oneCell' = true := fun u hu => by
  obtain ⟨x, _, hx⟩ := List.mem_flatMap.1 hu
  unfold funcC at hx
  simp only [List.mem_cons, List.not_mem_nil, or_false] at hx
  rcases hx with rfl | rfl | rfl | rfl | rfl | rfl | rfl | rfl | rfl | rfl | rfl <;> rfl
theorem one_flatR (l : List ElR) : ∀ u ∈ flatR l, u.oneCell' = true := fun u hu => by
  obtain ⟨x, _, hx⟩ := List.mem_flatMap.1 hu
  unfold ruleC at hx
  simp only [List.mem_cons, List.not_mem_nil, or_false] at hx
  rcases hx with rfl | rfl | rfl | rfl | rfl | rfl | rfl | rfl | rfl | rfl | rfl | rfl <;> rfl
theorem reads_row {B : Nat} {Fp : Nat → Prop} {A : Option Addr} {n sz : Nat} {xs : List Value} (h : RowAt w Fp A xs) (hl : xs.length = n * sz) (hF : ∀ b, Fp b → b < B) (hsz : 0 < sz) : Reads w B sz A n xs := by
  refine ⟨hl, fun hn => ?_⟩
  obtain ⟨b, e, hb, hc⟩ := h (fun e => by rw [e] at hl; simp only [List.length_nil] at hl; have := Nat.mul_pos hn hsz; omega)
  exact ⟨_, e, hF b hb, fun j u hu => by rw [Addr.add_mid, Nat.zero_add]; exact hc j u hu⟩
theorem len_flatF (l : List ElF) : (flatF l).length = l.length * 11 := by
  induction l with
  | nil => rfl
  | cons x l ih => unfold flatF at ih ⊢; rw [List.flatMap_cons, List.length_append, ih, List.length_cons, Nat.succ_mul]; simp only [funcC, List.length_cons, List.length_nil]; omega
theorem len_flatR (l : List ElR) : (flatR l).length = l.length * 12 := by
  induction l with
  | nil => rfl
  | cons x l ih => unfold flatR at ih ⊢; rw [List.flatMap_cons, List.length_append, ih, List.length_cons, Nat.succ_mul]; simp only [ruleC, List.length_cons, List.length_nil]; omega
end
open Go.RowKit
section
variable {act : Act} {w0 w : World} {X : List Nat} {S : World → Prop} {bs : List Bx} {rs : List Rw} {F : List Cold} {K : Act → World → Prop}
theorem ab_mark (HO : Hid (Own w0 X S bs rs F w)) {cs : List Value} {t : TypeId} {n : Nat} (h : ∀ W, Hid (Own w0 X S bs rs F W) → Hid (∃ f, W.heap[w.heap.size]? = some (.cells cs.toArray t f)) → K act W) : K act (w.alloc (.cells cs.toArray t (n, n + 1))) :=
  h _ (Lib.hid (HO.out.junk _)) (Lib.hid ⟨(n, n + 1), by show (w.heap.push _)[w.heap.size]? = _; simp⟩)
theorem rb_mark {W : World} {b : Nat} {t : TypeId} {l : List Nat} (hb : ∀ x ∈ l, x < 256) (h : ∃ f, W.heap[b]? = some (.cells (bvs l).toArray t f)) : RB W W.heap.size (some ⟨b, 0, none⟩) l := by
  obtain ⟨f, h⟩ := h
  have hlt : b < W.heap.size := by
    rcases Nat.lt_or_ge b W.heap.size with h' | h'
    · exact h'
    · rw [Array.getElem?_eq_none h'] at h; cases h
  refine rb_of hb hlt (fun j hj => ?_)
  unfold World.cell?
  simp [h, bvs, bv, hj]
end
end Go.Proofs.Ythipoccbeloceaa
