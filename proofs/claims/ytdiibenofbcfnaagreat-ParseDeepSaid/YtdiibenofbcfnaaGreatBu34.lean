/- Several texts put together: LexN, PasG. -/
import Derived.Test.YtdiibenofbcfnaaGreatBu3
import Derived.Test.YtdiibenofbcfnaaGreatBu31
import Derived.Test.YtdiibenofbcfnaaGreatBu14
import Derived.Test.YtdiibenofbcfnaaGreatBu2
import Derived.Test.YtdiibenofbcfnaaGreatBu29
import Derived.Test.YtdiibenofbcfnaaGreatBu30
import Derived.Test.YtdiibenofbcfnaaGreatBu33
set_option linter.unusedSimpArgs false
set_option linter.unusedVariables false
namespace Go.Proofs.YtdiibenofbcfnaaGreat
open Go.RowKit
theorem info_tok : (Tryz.prog.info? 59).map (fun i => (i.zero, i.size, i.bytes)) = some (some (.agg #[.int .i64 0, .int .i64 0, .string { data := #[] }, .bool false, .int .u64 0, .int .u64 0]), 6, 56) := by kernel_rfl
section
variable {g : Nat} {src : List Nat} {a : Nat} {V : Value} {A : Option Addr} {T : List Nat} {w w' w0 W : World} {bs : List Bx} {rs : List Rw} {F : List Cold} {K : Act → World → Prop} {act : Act} {P : Program} {o : Oper} {Q : Exit → Act → World → Prop} {TT : Ending → World → Prop} {X : List Nat} {S : World → Prop}
theorem RdrS.put2 (m : RdrS w g src a V) (v : Value) : RdrS (w.setCell ⟨g, 2, none⟩ v) g src a v := by
  obtain ⟨A, c, b, r, hc⟩ := m.box
  obtain ⟨c0, c1, c2, f0, f1, f2, z⟩ := b
  refine ⟨⟨A, c, ?_, r.keep fun p hp => World.cell?_setCell_other _ _ _ _ (fun e => by subst e; simp at hp), hc⟩, m.len⟩
  constructor <;> (first | (simp (maxDischargeDepth := 12) [go_sem, *]; done) | (simp; omega))
theorem lo_store2 (HO : Hid (Own w0 [g] (LS g src a V A T) bs rs F w)) (hg : g < w0.heap.size) {ty : TypeId} {x y : Operand} (ho : o.op = .store ty x y) (hdst : o.dst = none) (hx : act.eval x = .pointer (some ⟨g, 2, none⟩)) {A2 : Option Addr} {n2 c2 : Nat} (hy : act.eval y = .slice A2 n2 c2) (hs : ∀ w, (sizeOf ty).run P w = .ok 1 w)
    (h : ∀ W, Hid (Own w0 [g] (LS g src a (.slice A2 n2 c2) A T) bs rs F W) → K act W) : WOp P o act w K Q := by
  obtain ⟨A1, c, b, _⟩ := HO.out.st.r.box
  have k1 := b.c2
  have f1 := b.f2
  have kz := b.z
  have := h _ (Lib.hid (HO.out.lcall hg (kept_set _ _ _ _) ⟨HO.out.st.r.put2 (.slice A2 n2 c2), HO.out.st.b.keep fun p hp => World.cell?_setCell_other _ _ _ _ (fun e => by subst e; simp at hp)⟩))
  unfold WOp Oper.wp execOp
  have hst : ∀ (B : Option Addr) (n c : Nat), (storeCells ⟨g, 2, none⟩ [Value.slice B n c]).run P w = .ok () (w.setCell ⟨g, 2, none⟩ (.slice B n c)) := fun B n c => by simp [go_sem, storeCells, k1, f1, kz]
  simp only [ho, hx, hy, Instr.storeAt, Instr.sureAddr, Sem.run_bind, Sem.run_pure, Result.andThen_ok, storeVar, hs w, Value.cells, List.size_toArray, List.length_cons, List.length_nil, Nat.zero_add, ne_eq, not_true, if_false, hst]
  simpa [Oper.upon, hdst, Act.put] using this
theorem wo_appT1 {v : Value} {ts : List TokF} (HO : Hid (Own w0 X S bs (⟨59, 6, v, ts.length, ts.flatMap tokC⟩ :: rs) F w)) {s x : Operand}
    (ho : o.op = .call { callee := .builtin .append, args := #[s, x], argTypes := #[42, 42] }) (hs : act.eval s = v) {r c : Nat} (hx : act.eval x = .slice (some ⟨r, 0, none⟩) 1 c) {t : TokF} (HB : Hid (Blk w r 59 #[.int .i64 ((TokF.k t : Nat) : Int), .int .i64 ((TokF.at' t : Nat) : Int), .string (strN (TokF.s t)), .bool (zn (TokF.z t)), .int .u64 (zh (TokF.z t)), .int .u64 (zl (TokF.z t))])) (hm : ts.length ≤ 1000000)
    (h : ∀ A' c' W, (ts ++ [t]).length ≤ c' → Hid (Own w0 X S bs (⟨59, 6, .slice A' (ts ++ [t]).length c', (ts ++ [t]).length, (ts ++ [t]).flatMap tokC⟩ :: rs) F W) → K (act.put o.dst (.slice A' (ts ++ [t]).length c')) W) : WOp Tryz.prog o act w K Q := by
  refine wo_appG HO ho hs hx (ys := tokC t) HB Tryz.underlying42 info_tok rfl (by decide) rfl (by simp [tokC, Value.oneCell']) hm (by decide) (fun A' c' W h1 h2 => ?_)
  have e1 : ts.length + 1 = (ts ++ [t]).length := by simp
  have e2 : ts.flatMap tokC ++ tokC t = (ts ++ [t]).flatMap tokC := by simp
  rw [e2, e1] at h2
  rw [e1] at h1 ⊢
  exact h A' c' W h1 h2
theorem wo_appT0 {v : Value} {ts : List TokF} (HO : Hid (Own w0 X S bs (⟨59, 6, v, ts.length, ts.flatMap tokC⟩ :: rs) F w)) {s x : Operand}
    (ho : o.op = .call { callee := .builtin .append, args := #[s, x], argTypes := #[42, 42] }) (hs : act.eval s = v) {r c : Nat} (hx : act.eval x = .slice (some ⟨r, 0, none⟩) 1 c) {n : Nat} (HB : Hid (Blk w r 59 #[.int .i64 0, .int .i64 (n : Int), .string { data := #[] }, .bool false, .int .u64 0, .int .u64 0])) (hm : ts.length ≤ 1000000)
    (h : ∀ A' c' W, (ts ++ [(⟨0, n, [], 0⟩ : TokF)]).length ≤ c' → Hid (Own w0 X S bs (⟨59, 6, .slice A' (ts ++ [(⟨0, n, [], 0⟩ : TokF)]).length c', (ts ++ [(⟨0, n, [], 0⟩ : TokF)]).length, (ts ++ [(⟨0, n, [], 0⟩ : TokF)]).flatMap tokC⟩ :: rs) F W) → K (act.put o.dst (.slice A' (ts ++ [(⟨0, n, [], 0⟩ : TokF)]).length c')) W) : WOp Tryz.prog o act w K Q := by
  refine wo_appT1 HO ho hs hx (t := ⟨0, n, [], 0⟩) ?_ hm h
  have h1 : zn 0 = false := by decide
  have h2 : zh 0 = 0 := by decide
  have h3 : zl 0 = 0 := by decide
  dsimp only
  rw [h1, h2, h3]
  exact HB
def OwnLB (w0 : World) (g : Nat) (src : List Nat) (a : Nat) (V : Value) (bs : List Bx) (w : World) : Prop := ∃ rs F, Own w0 [g] (LS g src a V none []) bs rs F w
theorem OwnLB.of (HO : Hid (Own w0 [g] (LS g src a V none []) bs rs F w)) : OwnLB w0 g src a V bs w := ⟨rs, F, HO.out⟩
theorem arm_pass {KF : FuncId} {args : Array Value} (HO : Hid (Own w0 [g] (LS g src a V none []) bs rs F w)) (hg : g < w0.heap.size) (ha : a ≤ src.length) (hK : KF = 12) (hargs : args = #[.pointer (some ⟨g, 0, none⟩)])
    (h : ∀ W, Hid (Own w0 [g] (LS g src (a + passN (src.drop a)) V none []) bs rs F W) → TT (.returned (.tuple #[])) W) : Calls Tryz.prog KF args w TT := by
  subst hK hargs
  refine (pass_any w HO.out.st.r ha).mono fun e W hp => ?_
  obtain ⟨rfl, hr, hu⟩ := hp
  exact h W (Lib.hid (HO.out.lcall hg (Kept.of_upd hu) ⟨hr, ⟨by simp, fun h => absurd h (by simp)⟩⟩))
theorem arm_lnext {KF : FuncId} {args : Array Value} {ts : List TokF} {c : Nat} (HO : Hid (Own w0 [g] (LS g src a (.slice A ts.length c) none []) bs (⟨59, 6, .slice A ts.length c, ts.length, ts.flatMap tokC⟩ :: rs) F w)) (hg : g < w0.heap.size) (ha : a < src.length) (hc : ts.length ≤ c) (hm : ts.length ≤ 1000000) (hts : ∀ t ∈ ts, ∀ x ∈ t.s, x < 256) (hK : KF = 13) (hargs : args = #[.pointer (some ⟨g, 0, none⟩)])
    (hok : ∀ t n W, Hid (nextL ts.getLast? a (src.drop a) = .ok (t, n)) → Hid (Own w0 [g] (LS g src (a + n) (.slice A ts.length c) none []) bs (⟨59, 6, .slice A ts.length c, ts.length, ts.flatMap tokC⟩ :: rs) F W) → TT (.returned (.tuple #[.agg #[.int .i64 ((TokF.k t : Nat) : Int), .int .i64 ((TokF.at' t : Nat) : Int), .string (strN (TokF.s t)), .bool (zn (TokF.z t)), .int .u64 (zh (TokF.z t)), .int .u64 (zl (TokF.z t))], .nilIface])) W)
    (herr : ∀ k b W, Hid (nextL ts.getLast? a (src.drop a) = .error k) → Hid (Own w0 [g] (fun _ => True) bs (⟨59, 6, .slice A ts.length c, ts.length, ts.flatMap tokC⟩ :: rs) (Cold.flt (.iface 45 (.pointer (some ⟨b, 0, none⟩))) a k :: F) W) → TT (.returned (.tuple #[.agg #[.int .i64 0, .int .i64 0, .string { data := #[] }, .bool false, .int .u64 0, .int .u64 0], .iface 45 (.pointer (some ⟨b, 0, none⟩))])) W) : Calls Tryz.prog KF args w TT := by
  subst hK hargs
  have hrd : Reads w w.heap.size 6 A ts.length (ts.flatMap tokC) := Reads.of_own (HO.out.row _ List.mem_cons_self)
  refine (next_r w HO.out.st.r ha hrd hc hm hts).mono fun e W hp => ?_
  have hY : ∀ y ∈ [g], y ∈ [g] ∧ y < w0.heap.size := fun y hy => ⟨hy, by rw [List.mem_singleton.1 hy]; exact hg⟩
  cases hr : nextL ts.getLast? a (src.drop a) with
  | error k =>
    rw [hr] at hp
    obtain ⟨⟨v, rfl, b, rfl, hb, hk⟩, hu⟩ := hp
    rw [tokV_0]
    have h1 := HO.out.call (Y := [g]) (S' := fun _ => True) hY (Kept.of_upd hu) trivial (fun _ _ _ _ _ => trivial)
    exact herr k b W (Lib.hid hr) (Lib.hid (h1.addCold (Cold.flt (.iface 45 (.pointer (some ⟨b, 0, none⟩))) a k) w.heap.size HO.out.kept.size (fun b hb => (HO.out.hot_lt b hb).2) ⟨b, rfl, ⟨hb, hk.lt⟩, hk⟩))
  | ok tn =>
    obtain ⟨t, n⟩ := tn
    rw [hr] at hp
    obtain ⟨rfl, h2, hu⟩ := hp
    exact hok t n W (Lib.hid hr) (Lib.hid (HO.out.call (Y := [g]) (S' := LS g src (a + n) (.slice A ts.length c) none []) hY (Kept.of_upd hu) ⟨h2, ⟨by simp, fun h => absurd h (by simp)⟩⟩ (LS.loc hg)))
end
section
variable {P : Program} {md : Region.Mode} {ops : Array Oper} {Q : Exit → Act → World → Prop} {late : List Nat} {g : Nat} {src : List Nat} {q : Nat} {V : Value}
theorem e_beginL {id : Nat} {a : Act} {w0 w : World} {bs : List Bx} {rs : List Rw} {F : List Cold} (HO : Hid (Own w0 [g] (LS g src q V none []) bs rs F w)) (late : List Nat) (hm : P.follows .mixedOrders = true)
    (h : ∀ W, Hid (Own w0 [g] (LS g src q V none []) bs rs F W) → wpAnyE P .any ops Q (OwnLB w0 g src q V bs) late ops.size (Array.replicate ops.size false) a W) : (Code.region id ops true).wp P Q a w :=
  e_start _ late hm (h _ (Lib.hid HO.out.drew))
theorem e_load2L {w0 : World} {bs : List Bx} {rs : List Rw} {F : List Cold} {i : Nat} {oi : Oper} {f : Nat} {listed : Array Bool} {a : Act} {w : World} (HO : Hid (Own w0 [g] (LS g src q V none []) bs rs F w)) (hi : (ops.toList.drop i).head? = some oi)
    (hs : Region.noSelect ops = true) (hf : Region.free md ops listed i = true) (hr : (Region.ready md ops listed).contains i = true) (hil : late.contains i = false) (hw : waits md ops late listed i = true)
    {ty : TypeId} {x : Operand} (ho : oi.op = .load ty x) (hx : a.eval x = .pointer (some ⟨g, 2, none⟩))
    (hd : ∀ w, (isAgg ty).run P w = .ok false w)
    (hQ : ∀ c a w, Q (.panic c) (a.put oi.dst V) w → Q (.panic c) a w) (hwa : Region.wanted oi (yielded ops a.tmps) = true)
    (h : wpAnyE P md ops Q (OwnLB w0 g src q V bs) late f (listed.setIfInBounds i true) (a.put oi.dst V) w) : wpAnyE P md ops Q (OwnLB w0 g src q V bs) late (f + 1) listed a w := by
  refine e_take hi hs hf hr hil hw hQ hwa (OwnLB.of HO) (fun w' hS => ?_) h
  obtain ⟨rs', F', h'⟩ := hS
  obtain ⟨A1, c, b, _⟩ := h'.st.r.box
  have hl : w'.cell? ⟨g, 2, none⟩ = some V := b.c2
  unfold execOp
  simp only [ho, hx, Instr.loadAt, Instr.sureAddr, Sem.run_bind, Sem.run_pure, Result.andThen_ok, loadVar, hd w', Bool.false_eq_true, if_false, run_load, hl]
theorem e_loadL {w0 : World} {bs : List Bx} {rs : List Rw} {F : List Cold} {i : Nat} {oi : Oper} {f : Nat} {listed : Array Bool} {a : Act} {w : World} (HO : Hid (Own w0 [g] (LS g src q V none []) bs rs F w)) (hi : (ops.toList.drop i).head? = some oi)
    (hs : Region.noSelect ops = true) (hf : Region.free md ops listed i = true) (hr : (Region.ready md ops listed).contains i = true) (hil : late.contains i = false) (hw : waits md ops late listed i = true)
    {ty : TypeId} {x : Operand} (ho : oi.op = .load ty x) {b : Nat} (hx : a.eval x = .pointer (some ⟨b, 0, none⟩)) {t : TypeId} {cs : List Value} (hm : (⟨b, t, cs⟩ : Bx) ∈ bs)
    (hd : ∀ w, (isAgg ty).run P w = .ok true w) {n : Nat} (hsz : ∀ w, (sizeOf ty).run P w = .ok n w) (hn : cs.length = n)
    (hQ : ∀ c a w, Q (.panic c) (a.put oi.dst (.agg cs.toArray)) w → Q (.panic c) a w) (hwa : Region.wanted oi (yielded ops a.tmps) = true)
    (h : wpAnyE P md ops Q (OwnLB w0 g src q V bs) late f (listed.setIfInBounds i true) (a.put oi.dst (.agg cs.toArray)) w) : wpAnyE P md ops Q (OwnLB w0 g src q V bs) late (f + 1) listed a w := by
  subst hn
  refine e_take hi hs hf hr hil hw hQ hwa (OwnLB.of HO) (fun w' hS => ?_) h
  obtain ⟨rs', F', h'⟩ := hS
  have hl : (loadCells ⟨b, 0, none⟩ cs.length).run P w' = .ok cs.toArray w' :=
    run_loadCells_list (P := P) w' ⟨b, 0, none⟩ cs (fun j v hv => by rw [Addr.add_mid]; exact h'.cells hm 0 j v (by simpa using hv))
  unfold execOp
  simp only [ho, hx, Instr.loadAt, Instr.sureAddr, Sem.run_bind, Sem.run_pure, Result.andThen_ok, loadVar, hd w', if_true, hsz w', hl]
end
theorem passS_le : ∀ (l : List Nat) (b : Bool), passS b l ≤ l.length
  | [], b => by cases b <;> simp [passS]
  | c :: r, true => by rw [passS]; have := passS_le r false; simp; omega
  | c :: r, false => by
    rw [passS]
    have h1 := passS_le r false
    have h2 := passS_le r true
    have h3 : (r.takeWhile (· ≠ 10)).length ≤ r.length := (List.takeWhile_prefix _).length_le
    simp only [List.length_cons]
    repeat (first | (split) | omega)
theorem passN_le (l : List Nat) : passN l ≤ l.length := passS_le l false
theorem allF_step {f q : Nat} {src : List Nat} {ts : List TokF} (hp : q + passN (src.drop q) < src.length) : allF (f + 1) q (src.drop q) ts = match nextL ts.getLast? (q + passN (src.drop q)) (src.drop (q + passN (src.drop q))) with
      | .error e => .error (q + passN (src.drop q), e)
      | .ok (t, n) => allF f (q + passN (src.drop q) + n) (src.drop (q + passN (src.drop q) + n)) (ts ++ [t]) := by
  rw [allF, List.drop_drop]
  rw [List.drop_eq_getElem_cons hp]
  dsimp only
  rw [← List.drop_eq_getElem_cons hp]
  cases nextL ts.getLast? (q + passN (src.drop q)) (src.drop (q + passN (src.drop q))) with
  | error e => rfl
  | ok tn => obtain ⟨t, n⟩ := tn; dsimp only; rw [List.drop_drop]
theorem allF_stop {f q : Nat} {src : List Nat} {ts : List TokF} (hp : src.length ≤ q + passN (src.drop q)) (hq : q ≤ src.length) (hf : src.length ≤ f + q) : allF f q (src.drop q) ts = .ok (ts ++ [⟨0, src.length, [], 0⟩]) := by
  cases f with
  | zero => rw [allF]; rw [show q = src.length by omega]
  | succ f =>
    rw [allF, List.drop_drop, List.drop_eq_nil_of_le hp]
    dsimp only
    rw [List.length_drop, show q + (src.length - q) = src.length by omega]
theorem rdr_new {w : World} {src : List Nat} {A : Option Addr} {B c : Nat} {V : Value} {T : TypeId} (hB : B ≤ w.heap.size) (hr : RB w B A src) (hc : src.length ≤ c) (hlen : src.length ≤ 1000000) : RdrS (w.alloc (.cells #[.slice A src.length c, .int .i64 0, V] T)) w.heap.size src 0 V := by
  refine ⟨⟨A, c, Box3.make w _ _ _ T rfl, ?_, hc⟩, hlen⟩
  have h2 := hr.below (((Below.refl B w).alloc hB (.cells #[.slice A src.length c, .int .i64 0, V] T)))
  exact ⟨h2.1, fun hn => by obtain ⟨ad, e, hb, hcell⟩ := h2.2 hn; exact ⟨ad, e, Nat.lt_of_lt_of_le hb hB, hcell⟩⟩
theorem below_kept {w w1 W : World} {g : Nat} (hq : Below w.heap.size w w1) (hk : Kept [g] w1 W) (hg : g = w.heap.size) : Below w.heap.size w W :=
  ⟨hk.os.trans hq.os, hk.tape.trans hq.tape, hk.output.trans hq.output, Nat.le_trans hq.size hk.size, fun k hk2 => (hk.block k (Nat.lt_of_lt_of_le hk2 hq.size) (by simp; omega)).trans (hq.block k hk2)⟩
def AllPost (src : List Nat) (w : World) (e : Ending) (w' : World) : Prop :=
  Below w.heap.size w w' ∧ match lexS src with
    | .error (p, k) => ∃ v, e = .returned (.tuple #[.slice none 0 0, v]) ∧ FltV w' w.heap.size v p k
    | .ok ts => ∃ A c, e = .returned (.tuple #[.slice A ts.length c, .nilIface]) ∧ ts.length ≤ c ∧ w'.ownsRow w.heap.size 59 6 (.slice A ts.length c) ts.length (ts.flatMap tokC)
theorem owns_mono {w : World} {B B' : Nat} {e : TypeId} {sz n : Nat} {v : Value} {xs : List Value} (h : w.ownsRow B e sz v n xs) (hB : B' ≤ B) : w.ownsRow B' e sz v n xs := by
  obtain ⟨h1, h2⟩ := h
  refine ⟨h1, ?_⟩
  rcases h2 with h2 | ⟨g, cap, cur, e, hg, h3⟩
  · exact .inl h2
  · exact .inr ⟨g, cap, cur, e, Nat.le_trans hB hg, h3⟩
set_option maxRecDepth 100000 in
set_option maxHeartbeats 3200000 in
theorem all_r {src : List Nat} (A : Option Addr) (c : Nat) (w : World) (B : Nat) (hB : B ≤ w.heap.size) (hr : RB w B A src) (hc : src.length ≤ c) (hlen : src.length ≤ 1000000) :
    Calls Tryz.prog 7 #[.slice A src.length c] w (AllPost src w) := by
  obtain ⟨R, hR⟩ : ∃ R, lexS src = R := ⟨_, rfl⟩
  unfold AllPost
  rw [hR]
  by_cases hbig : 16384 < src.length
  · have hd : decide ((src.length : Int) > 16384) = true := decide_eq_true (by omega)
    have hd' : decide (16384 < (src.length : Int)) = true := decide_eq_true (by omega)
    have hR2 : R = .error (0, 5) := by rw [← hR]; unfold lexS; rw [if_pos hbig]
    subst hR2
    clear hR
    have HLF : Hid (∀ W, Calls Tryz.prog 11 #[.int .i64 0, .int .i64 5] W fun e w' => (∃ v, e = .returned v ∧ FltV w' W.heap.size v 0 5) ∧ Below W.heap.size W w') := Lib.hid (fun W => lfault_any 0 5 W)
    go_enter Tryz.func7, Tryz.ntmps7
    go_wp2_with (first | (go_at_call 11; (with_reducible refine (HLF.out _).mono ?_); rintro e w2 ⟨⟨v, rfl, hv⟩, b2⟩; have HV := Lib.hid hv; have HB2 := Lib.hid b2; clear hv b2) | fail)
    go_ret2
    exact ⟨HB2.out, _, rfl, HV.out⟩
  · have hd : decide ((src.length : Int) > 16384) = false := decide_eq_false (by omega)
    have hd' : decide (16384 < (src.length : Int)) = false := decide_eq_false (by omega)
    have hR2 : allF src.length 0 src [] = R := by rw [← hR]; unfold lexS; rw [if_neg hbig]
    have HR := Lib.hid hR2
    clear hR hR2
    have HRB := Lib.hid hr
    clear hr
    go_enter Tryz.func7, Tryz.ntmps7
    go_upto_region 4 with fail
    have m1 := rdr_new (V := .slice none 0 0) (T := 57) hB HRB.out hc hlen
    have q1 : Below w.heap.size w (w.alloc (.cells #[.slice A src.length c, .int .i64 0, .slice none 0 0] 57)) := (Below.refl _ _).alloc (Nat.le_refl _) _
    have hg := m1.lt
    generalize w.alloc (.cells #[.slice A src.length c, .int .i64 0, .slice none 0 0] 57) = w1 at m1 q1 hg ⊢
    obtain ⟨g, hgd⟩ : ∃ g, g = w.heap.size := ⟨_, rfl⟩
    rw [← hgd] at m1 hg ⊢
    have HQ := Lib.hid q1
    have HG := Lib.hid hgd
    have HO := Lib.hid ((LS.own m1).out.nilRow 59 6)
    clear m1 q1 hgd
    (repeat' (first | (with_reducible first | refine oXt ?_ | refine oXb ?_) | ((with_reducible refine ib_miss ?_ ?_); exact rfl) | ((first | ((with_reducible refine to_load ?_); first | refine oL1 HO rfl rfl ?_ | refine oL2 HO rfl rfl ?_ | refine oL3 HO rfl rfl ?_) | ((first | with_reducible refine oAl HO ?_ | ((with_reducible refine to_box ?_); refine wo_box HO rfl rfl ?_)); clear HO; intro _ HO)); (try simp only [Act.put, pS0, pS1, pS2])) | ((first | ((with_reducible refine to_store ?_); first | refine oT1 HO rfl rfl rfl ?_ | refine oT2 HO rfl rfl rfl (by rfl) ?_ | refine oT3 HO rfl rfl rfl rfl ?_) | with_reducible refine ab_drew HO ?_); clear HO; intro _ HO) | ((with_reducible refine ab_junk HO 9 ?_); clear HO; intro _ HO HB) | ((go_big_may; first | (go_at_call 12; refine arm_pass HO hg (Nat.zero_le _) rfl rfl ?_; clear HO; intro _ HO) | fail) <;> (try dsimp only)) | go_values | go_skip | go_guarded | go_step | go_upon | (go_ite <;> go_prune <;> (try go_simp))))
    go_loopw [] (fun W => ∃ (ts : List TokF) (A' : Option Addr) (c' f q : Nat), ts.length ≤ c' ∧ ts.length ≤ q ∧ q ≤ src.length ∧ src.length ≤ f + q ∧ Hid (∀ t ∈ ts, ∀ x ∈ t.s, x < 256) ∧ Hid (allF f q (src.drop q) ts = R) ∧ Hid (Own w1 [g] (LS g src (q + passN (src.drop q)) (.slice A' ts.length c') none []) [] [⟨59, 6, .slice A' ts.length c', ts.length, ts.flatMap tokC⟩] [] W)) (fun W => src.length - (intOf ((W.cell? ⟨g, 1, none⟩).getD undef)).toNat)
    case atStart => exact ⟨[], none, 0, src.length, 0, Nat.le_refl _, Nat.le_refl _, Nat.zero_le _, by omega, Lib.hid (by simp), HR, HO⟩
    case round =>
      clear HO HR
      obtain ⟨ts, A', c', f, q, hl, hlq, hqs, hf, HB8, HF, HO⟩ := hrel
      have HS := Lib.hid HO.out.st.r
      have hst := allF_stop (f := f) (q := q) (src := src) (ts := ts)
      have hsp := fun f => allF_step (f := f) (q := q) (src := src) (ts := ts)
      have hpl : q + passN (src.drop q) ≤ src.length := by have := passN_le (src.drop q); rw [List.length_drop] at this; omega
      have hqp : q ≤ q + passN (src.drop q) := Nat.le_add_right _ _
      generalize q + passN (src.drop q) = p at *
      by_cases hp : p < src.length
      · have hd3 : decide ((p : Int) < (src.length : Int)) = true := decide_eq_true (by omega)
        obtain ⟨f, rfl⟩ : ∃ f', f = f' + 1 := ⟨f - 1, by omega⟩
        replace HF := Lib.hid ((hsp f hp).symm.trans HF.out)
        clear hst hsp
        (repeat' (go_not_at_region 10; first | (with_reducible first | refine oXt ?_ | refine oXb ?_) | ((with_reducible refine ib_miss ?_ ?_); exact rfl) | ((first | ((with_reducible refine to_load ?_); first | refine oL1 HO rfl rfl ?_ | refine oL2 HO rfl rfl ?_ | refine oL3 HO rfl rfl ?_ | (refine lo_loadA HO rfl rfl Tryz.isAgg3 ?_; (try simp only [Act.put, pS0, pS1, pS2]))) | ((first | with_reducible refine oAl HO ?_ | ((with_reducible refine to_box ?_); refine wo_box HO rfl rfl ?_)); clear HO; intro _ HO)); (try simp only [Act.put, pS0, pS1, pS2])) | ((first | ((with_reducible refine to_store ?_); first | refine oT1 HO rfl rfl rfl ?_ | refine oT2 HO rfl rfl rfl (by rfl) ?_ | refine oT3 HO rfl rfl rfl rfl ?_) | with_reducible refine ab_drew HO ?_); clear HO; intro _ HO) | ((with_reducible refine ab_junk HO 9 ?_); clear HO; intro _ HO HB) | ((go_big_may; first | (go_at_call 13; refine arm_lnext HO hg hp hl (by omega) HB8.out rfl rfl ?_ ?_; (clear HO; intro t n W HE HO); rotate_left; (clear HO; intro k b W HE HO); rotate_left) | fail) <;> (try dsimp only)) | go_values | go_skip | go_guarded | go_step | go_upon | (go_ite <;> go_prune <;> (try go_simp))))
        · have hk := nextL_ok (fun x hx => HS.out.byte x (List.mem_of_mem_drop hx)) HE.out
          have hn1 := hk.pos
          have hn2 : p + n ≤ src.length := by have := hk.le; rw [List.length_drop] at this; omega
          have HB9 : Hid (∀ u ∈ ts ++ [t], ∀ x ∈ u.s, x < 256) := Lib.hid (fun u hu => by
            rcases List.mem_append.1 hu with hu | hu
            · exact HB8.out u hu
            · obtain rfl := List.mem_singleton.1 hu; exact hk.byte)
          have hF := HF.out
          rw [HE.out] at hF
          have HF2 := Lib.hid hF
          clear hF HF hk HE
          refine e_beginL HO [10] (by kernel_rfl) ?_
          clear HO
          intro _ HO
          refine e_pure (i := 0) (v := ?v0) rfl (by kernel_rfl) (by kernel_rfl) (by kernel_rfl) (by kernel_rfl) (fun _ _ _ h => h) (by rfl) (OwnLB.of HO) ?y0 ?r0
          case y0 => (intro wS; go_simp; (try with_reducible rfl))
          (try simp only [Act.put, pS0, pS1, pS2])
          refine e_pure (i := 1) (v := ?v1) rfl (by kernel_rfl) (by kernel_rfl) (by kernel_rfl) (by kernel_rfl) (fun _ _ _ h => h) (by rfl) (OwnLB.of HO) ?y1 ?r1
          case y1 => (intro wS; go_simp; (try with_reducible rfl))
          (try simp only [Act.put, pS0, pS1, pS2])
          refine e_pure (i := 2) (v := ?v2) rfl (by kernel_rfl) (by kernel_rfl) (by kernel_rfl) (by kernel_rfl) (fun _ _ _ h => h) (by rfl) (OwnLB.of HO) ?y2 ?r2
          case y2 => (intro wS; go_simp; (try with_reducible rfl))
          (try simp only [Act.put, pS0, pS1, pS2])
          refine e_pure (i := 3) (v := ?v3) rfl (by kernel_rfl) (by kernel_rfl) (by kernel_rfl) (by kernel_rfl) (fun _ _ _ h => h) (by rfl) (OwnLB.of HO) ?y3 ?r3
          case y3 => (intro wS; go_simp; (try with_reducible rfl))
          (try simp only [Act.put, pS0, pS1, pS2])
          refine e_load2L (i := 4) HO rfl (by kernel_rfl) (by kernel_rfl) (by kernel_rfl) (by kernel_rfl) (by kernel_rfl) rfl rfl Tryz.isAgg42 (fun _ _ _ h => h) (by rfl) ?_
          (try simp only [Act.put, pS0, pS1, pS2])
          refine e_loadL (i := 5) HO rfl (by kernel_rfl) (by kernel_rfl) (by kernel_rfl) (by kernel_rfl) (by kernel_rfl) rfl rfl (by repeat (first | exact mH | apply mT)) Tryz.isAgg59 Tryz.sizeOf59 (by rfl) (fun _ _ _ h => h) (by rfl) ?_
          (try simp only [Act.put, pS0, pS1, pS2])
          refine e_one (i := 6) (by kernel_rfl) rfl (by kernel_rfl) (by rfl) (fun K hK => ?_)
          go_simp
          ((with_reducible refine ab_junk HO 59 ?_); clear HO; intro _ HO HB)
          refine hK.out _ _ (OwnLB.of HO) ?_
          clear hK K
          (try simp only [Act.put, pS0, pS1, pS2])
          refine e_one (i := 7) (by kernel_rfl) rfl (by kernel_rfl) (by rfl) (fun K hK => ?_)
          ((with_reducible refine to_append ?_); refine wo_appT1 HO rfl rfl rfl HB (by omega) ?_; clear HO HB; intro _ _ _ hcap HO; (try simp only [Act.put, pS0, pS1, pS2]))
          refine hK.out _ _ (OwnLB.of HO) ?_
          clear hK K
          (try simp only [Act.put, pS0, pS1, pS2])
          refine e_pure (i := 8) (v := ?v4) rfl (by kernel_rfl) (by kernel_rfl) (by kernel_rfl) (by kernel_rfl) (fun _ _ _ h => h) (by rfl) (OwnLB.of HO) ?y4 ?r4
          case y4 => (intro wS; go_simp; (try with_reducible rfl))
          (try simp only [Act.put, pS0, pS1, pS2])
          refine e_pure (i := 9) (v := ?v5) rfl (by kernel_rfl) (by kernel_rfl) (by kernel_rfl) (by kernel_rfl) (fun _ _ _ h => h) (by rfl) (OwnLB.of HO) ?y5 ?r5
          case y5 => (intro wS; go_simp; (try with_reducible rfl))
          (try simp only [Act.put, pS0, pS1, pS2])
          refine e_late (i := 10) (by kernel_rfl) rfl (by kernel_rfl) (by rfl) (fun K hK => ?_)
          (with_reducible refine to_store ?_)
          (refine lo_store2 HO hg rfl rfl rfl rfl Tryz.sizeOf42 ?_; clear HO; intro _ HO)
          refine hK.out _ _ ?_
          clear hK K
          (try simp only [Act.put, pS0, pS1, pS2])
          refine e_done (by kernel_rfl) ?_
          (repeat' (first | (with_reducible first | refine oXt ?_ | refine oXb ?_) | ((with_reducible refine ib_miss ?_ ?_); exact rfl) | ((first | ((with_reducible refine to_load ?_); first | refine oL1 HO rfl rfl ?_ | refine oL2 HO rfl rfl ?_ | refine oL3 HO rfl rfl ?_) | ((first | with_reducible refine oAl HO ?_ | ((with_reducible refine to_box ?_); refine wo_box HO rfl rfl ?_)); clear HO; intro _ HO)); (try simp only [Act.put, pS0, pS1, pS2])) | ((first | ((with_reducible refine to_store ?_); first | refine oT1 HO rfl rfl rfl ?_ | refine oT2 HO rfl rfl rfl (by rfl) ?_ | refine oT3 HO rfl rfl rfl rfl ?_) | with_reducible refine ab_drew HO ?_); clear HO; intro _ HO) | ((with_reducible refine ab_junk HO 9 ?_); clear HO; intro _ HO HB) | ((go_big_may; first | (go_at_call 12; refine arm_pass HO hg hn2 rfl rfl ?_; clear HO; intro _ HO) | fail) <;> (try dsimp only)) | go_values | go_skip | go_guarded | go_step | go_upon | (go_ite <;> go_prune <;> (try go_simp))))
          go_roundw
          case rel => exact ⟨ts ++ [t], _, _, f, p + n, hcap, by simp; omega, hn2, by omega, HB9, HF2, Lib.hid (HO.out.sub (List.nil_sublist _) (List.Sublist.refl _) (fun c hc => by cases hc))⟩
          case measure => exact measR HS.out HO.out.st.r (by omega) hp
        · have hF := HF.out
          rw [HE.out] at hF
          have hF : R = .error (p, k) := hF.symm
          subst hF
          go_ret2
          exact ⟨below_kept HQ.out HO.out.kept HG.out, _, rfl, (HO.out.flt List.mem_cons_self).mono HQ.out.size⟩
      · have hd3 : decide ((p : Int) < (src.length : Int)) = false := decide_eq_false (by omega)
        have HR2 := Lib.hid ((hst (by omega) hqs hf).symm.trans HF.out)
        clear hst hsp
        (repeat' (first | (with_reducible first | refine oXt ?_ | refine oXb ?_) | ((with_reducible refine ib_miss ?_ ?_); exact rfl) | ((first | ((with_reducible refine to_load ?_); first | refine oL1 HO rfl rfl ?_ | refine oL2 HO rfl rfl ?_ | refine oL3 HO rfl rfl ?_ | (refine lo_load2 HO rfl rfl Tryz.isAgg42 ?_; (try simp only [Act.put, pS0, pS1, pS2])) | (refine lo_loadA HO rfl rfl Tryz.isAgg3 ?_; (try simp only [Act.put, pS0, pS1, pS2]))) | ((first | with_reducible refine oAl HO ?_ | ((with_reducible refine to_box ?_); refine wo_box HO rfl rfl ?_)); clear HO; intro _ HO)); (try simp only [Act.put, pS0, pS1, pS2])) | ((first | ((with_reducible refine to_store ?_); first | refine oT1 HO rfl rfl rfl ?_ | refine oT2 HO rfl rfl rfl (by rfl) ?_ | refine oT3 HO rfl rfl rfl rfl ?_) | with_reducible refine ab_drew HO ?_); clear HO; intro _ HO) | ((with_reducible refine ab_junk HO 9 ?_); clear HO; intro _ HO HB) | ((with_reducible refine ab_junk HO 59 ?_); clear HO; intro _ HO HB) | ((with_reducible refine to_append ?_); refine wo_appT0 HO rfl rfl rfl HB (by omega) ?_; clear HO HB; intro _ _ _ hcap HO; (try simp only [Act.put, pS0, pS1, pS2])) | go_values | go_skip | go_guarded | go_step | go_upon | (go_ite <;> go_prune <;> (try go_simp))))
        have hF := HR2.out
        subst hF
        go_ret2
        exact ⟨below_kept HQ.out HO.out.kept HG.out, _, _, rfl, hcap, owns_mono (HO.out.row _ List.mem_cons_self) HQ.out.size⟩
open Go.RowKit
def VItem (g h : Nat) (bs : List Bx) : World → World → TreeT → Value → Prop := fun w0 W t v => v = .tuple #[] ∧ ∃ (fe : List ElF) (re : List ElR) (vF vR : Value) (St : World → Prop), t = ⟨fe.map (·.1), re.map (·.1)⟩ ∧ Own w0 [g] St (⟨h, 27, [vF, vR]⟩ :: bs) [⟨76, 11, vF, fe.length, flatF fe⟩, ⟨41, 12, vR, re.length, flatR re⟩] [Cold.elsF fe, Cold.elsR re, Cold.kids none []] W
theorem own_st {w0 w : World} {X : List Nat} {S S' : World → Prop} {bs : List Bx} {rs : List Rw} {F : List Cold} (h : Own w0 X S bs rs F w) (hl : Loc S' w0.heap.size) (hs : S' w) : Own w0 X S' bs rs F w := ⟨h.kept, hl, hs, h.box, h.base, h.row, h.nodup, h.cold⟩
theorem bp_item {w0 W : World} {g h a0 a' d d' : Nat} {ts : List TokF} {R : PR TreeT} {bs bX : List Bx} {F : List Cold} {fe : List ElF} {re : List ElR} {vF vR : Value} {t : TreeT} (HO : Hid (Own w0 [g] (PS g ts a' d) bX [⟨76, 11, vF, fe.length, flatF fe⟩, ⟨41, 12, vR, re.length, flatR re⟩] F W)) (hX : (⟨h, 27, [vF, vR]⟩ :: bs).Sublist bX) (HF : Hid ((pure t : PP TreeT) a' d = R)) (ht : t = ⟨fe.map (·.1), re.map (·.1)⟩) (m1 : Cold.elsF fe ∈ F) (m2 : Cold.elsR re ∈ F) (m3 : Cold.kids none [] ∈ F) (ha : a0 ≤ a') (hd : d = d') : PPost g ts w0 a0 d' R (VItem g h bs) (.returned (.tuple #[])) W :=
  bp_ok HO HF ha hd ⟨rfl, fe, re, vF, vR, _, ht, HO.out.sub hX (List.Sublist.refl _) (fun c hc => by
    rcases List.mem_cons.1 hc with rfl | hc
    · exact m1
    · rcases List.mem_cons.1 hc with rfl | hc
      · exact m2
      · obtain rfl := List.mem_singleton.1 hc
        exact m3)⟩
set_option maxRecDepth 100000 in
set_option maxHeartbeats 3200000 in
theorem pitem_any (p : Par) (g h : Nat) (ts : List TokF) (n : Nat) (H_function : FC 31 #[.pointer (some ⟨g, 0, none⟩)] (functionF ts p) VFunc g ts n) (H_rule : FC 32 #[.pointer (some ⟨g, 0, none⟩)] (ruleF ts p) VRule g ts n)
    {w0 w : World} {bs : List Bx} {fe : List ElF} {re : List ElR} {vF vR : Value} {a d : Nat} (HO : Hid (Own w0 [g] (PS g ts a d) (⟨h, 27, [vF, vR]⟩ :: bs) [⟨76, 11, vF, fe.length, flatF fe⟩, ⟨41, 12, vR, re.length, flatR re⟩] [Cold.elsF fe, Cold.elsR re, Cold.kids none []] w)) (hg : g < w0.heap.size) (hn : 65 ≤ d + n) (hl1 : fe.length ≤ 100001) (hl2 : re.length ≤ 100001) :
    Calls Tryz.prog 16 #[.pointer (some ⟨g, 0, none⟩), .pointer (some ⟨h, 0, none⟩)] w (PPost g ts w0 a d (itemF ts p ⟨fe.map (·.1), re.map (·.1)⟩ a d) (VItem g h bs)) := by
  obtain ⟨R, hR⟩ : ∃ R, (itemF ts p ⟨fe.map (·.1), re.map (·.1)⟩) a d = R := ⟨_, rfl⟩
  rw [hR]
  have HF := Lib.hid hR
  unfold itemF at HF
  clear hR
  have C_function := Lib.hid H_function
  have C_rule := Lib.hid H_rule
  go_enter Tryz.func16, Tryz.ntmps16
  (repeat' (first | (with_reducible first | refine oXt ?_ | refine oXb ?_) | ((with_reducible refine ib_miss ?_ ?_); exact rfl) | ((first | ((with_reducible refine to_load ?_); first | refine oL1 HO rfl rfl ?_ | refine oL2 HO rfl rfl ?_ | refine oL3 HO rfl rfl ?_) | ((first | with_reducible refine oAl HO ?_); clear HO; intro _ HO)); (try simp only [Act.put, pS0, pS1, pS2])) | ((first | ((with_reducible refine to_store ?_); first | refine oT1 HO rfl rfl rfl ?_ | refine oT2 HO rfl rfl rfl (by rfl) ?_ | refine oT3 HO rfl rfl rfl rfl ?_) | with_reducible refine ab_drew HO ?_); clear HO; intro _ HO) | ((with_reducible refine to_store ?_); first | (refine wo_storeR HO rfl rfl rfl rfl (by repeat (first | exact mH | apply mT)) (by repeat (first | exact cH | apply cT)) Tryz.sizeOf39 (by simp [Value.oneCell']) ?_; clear HO; intro _ HO) | (refine wo_storeF HO rfl rfl rfl rfl (by repeat (first | exact mH | apply mT)) (by repeat (first | exact cH | apply cT)) Tryz.sizeOf39 (by simp [Value.oneCell']) ?_; clear HO; intro _ HO)) | ((with_reducible refine ab_junk HO 9 ?_); clear HO; intro _ HO HB) | (simp only [pp_pureF, pp_assoc, pp_ite] at HF) | ((go_big_may; first | (go_at_call 30; refine arm_wrdF HO HF rfl rfl HB rfl rfl (by decide) (by decide) ?_; clear HO HF HB; intro _ b hb HO HF; cases b <;> (try simp only [↓reduceIte, Bool.false_eq_true, Bool.not_true, Bool.not_false, pp_pure] at HF)) | (go_at_call 32; refine arm_rule C_rule HO HF hg (by omega) ?_ ?_; rotate_left; (intro v pl e W h1 h2 h3; first | (exact bp_panic2 rfl h1 h2 h3) | ((try dsimp only); (repeat (first | go_big_open | (simp only [Exit.then, Exit.inBlock]))); exact bp_panic2 rfl h1 h2 h3)); clear HO HF; intro rN AN cN BN eN aN WN hres HO hle HF) | fail) <;> (try dsimp only)) | go_values | go_skip | go_guarded | go_step | go_upon | (go_ite <;> go_prune <;> (try go_simp))))
  · replace HO := Lib.hid HO.out.swapR
    refine eBe HO [10] [0, 1, 2, 3, 4, 5, 6, 7, 8, 9] [10] ?_
    clear HO
    intro _ HO
    (repeat' (first | ((with_reducible refine eGo ?_); first | refine eCa rfl rfl (by kernel_rfl) (by rfl) (fun K hK => ?_) | refine eSl rfl rfl (by kernel_rfl) (by rfl) (fun K hK => ?_) | ((first | refine eL1 HO rfl rfl rfl (by kernel_rfl) (fun _ _ _ h => h) (by rfl) ?_ | refine eL2 HO rfl rfl rfl (by kernel_rfl) (fun _ _ _ h => h) (by rfl) ?_ | refine ePu HO rfl (by kernel_rfl) (fun _ _ _ h => h) (by rfl) (eFi rfl rfl ⟨_, _, _, _, _, _, _, rfl, rfl, inferInstance⟩) ?_ | refine ePu HO rfl (by kernel_rfl) (fun _ _ _ h => h) (by rfl) (by intro _; go_simp; (try with_reducible rfl)) ?_); (try simp only [Act.put, pS0, pS1, pS2])) | refine eA1 rfl (by kernel_rfl) (by rfl) (fun K hK => ?_) | refine eA2 rfl (by kernel_rfl) (by rfl) (fun K hK => ?_) | refine eEe (by kernel_rfl) ?_) | ((with_reducible refine eHo ?_); first | (refine eA4 rfl (by kernel_rfl) (fun _ _ _ h => h) (by rfl) (by intro _; go_simp; (try with_reducible rfl)) ?_; (try simp only [Act.put, pS0, pS1, pS2])) | refine eA3 rfl (by kernel_rfl) (by rfl) (fun K hK => ?_) | refine eDo (by kernel_rfl) ?_) | ((with_reducible show K _ _); (first | with_reducible refine hK.out _ _ (OwnB.of HO) ?_ | with_reducible refine hK.out _ _ ?_); clear hK K; (try simp only [Act.put, pS0, pS1, pS2])) | ((with_reducible refine to_store ?_); (first | refine oT1 HO rfl rfl rfl ?_ | refine oT2 HO rfl rfl rfl (by rfl) ?_ | refine oT3 HO rfl rfl rfl rfl ?_); clear HO; intro _ HO) | ((with_reducible refine to_store ?_); first | (refine wo_storeR HO rfl rfl rfl rfl (by repeat (first | exact mH | apply mT)) (by repeat (first | exact cH | apply cT)) Tryz.sizeOf39 (by simp [Value.oneCell']) ?_; clear HO; intro _ HO) | (refine wo_storeF HO rfl rfl rfl rfl (by repeat (first | exact mH | apply mT)) (by repeat (first | exact cH | apply cT)) Tryz.sizeOf39 (by simp [Value.oneCell']) ?_; clear HO; intro _ HO)) | ((with_reducible refine to_append ?_); refine wo_appR HO rfl rfl rfl HB (by repeat (first | exact mH | apply mT)) (by repeat (first | exact mH | apply mT)) (by first | omega | simp) ?_; clear HO HB; intro eN _ _ _ hmap hlen hcap HO; replace hlen := Lib.hid hlen; (try simp only [Act.put, pS0, pS1, pS2])) | ((with_reducible refine ab_junk HO 41 ?_); clear HO; intro _ HO HB)| ((with_reducible refine ab_junk HO 9 ?_); clear HO; intro _ HO HB) | ((with_reducible refine eOp ?_); go_simp)))
    replace HO := Lib.hid HO.out.swapR
    rw [← hmap] at HF
    cases hbr : rN.bare
    · simp only [hbr, Bool.false_eq_true, if_false] at HF HO
      (repeat' (first | (with_reducible first | refine oXt ?_ | refine oXb ?_) | ((with_reducible refine ib_miss ?_ ?_); exact rfl) | ((first | ((with_reducible refine to_load ?_); first | refine oL1 HO rfl rfl ?_ | refine oL2 HO rfl rfl ?_ | refine oL3 HO rfl rfl ?_) | ((first | with_reducible refine oAl HO ?_); clear HO; intro _ HO)); (try simp only [Act.put, pS0, pS1, pS2])) | ((first | ((with_reducible refine to_store ?_); first | refine oT1 HO rfl rfl rfl ?_ | refine oT2 HO rfl rfl rfl (by rfl) ?_ | refine oT3 HO rfl rfl rfl rfl ?_) | with_reducible refine ab_drew HO ?_); clear HO; intro _ HO) | ((with_reducible refine to_store ?_); first | (refine wo_storeR HO rfl rfl rfl rfl (by repeat (first | exact mH | apply mT)) (by repeat (first | exact cH | apply cT)) Tryz.sizeOf39 (by simp [Value.oneCell']) ?_; clear HO; intro _ HO) | (refine wo_storeF HO rfl rfl rfl rfl (by repeat (first | exact mH | apply mT)) (by repeat (first | exact cH | apply cT)) Tryz.sizeOf39 (by simp [Value.oneCell']) ?_; clear HO; intro _ HO)) | ((with_reducible refine ab_junk HO 9 ?_); clear HO; intro _ HO HB) | ((go_big_may; first | (go_at_call 14; refine arm_unit (n := 65) (Lib.hid (pends_any _ _ _)) HO HF hg (by omega) ?_ ?_; rotate_left; (intro v pl e W h1 h2 h3; first | (exact bp_panic2 rfl h1 h2 h3) | ((try dsimp only); (repeat (first | go_big_open | (simp only [Exit.then, Exit.inBlock]))); exact bp_panic2 rfl h1 h2 h3)); clear HO HF; intro _ _ HO hle HF) | fail) <;> (try dsimp only)) | go_values | go_skip | go_guarded | go_step | go_upon | (go_ite <;> go_prune <;> (try go_simp))))
      first | refine bp_none rfl rfl ?_ | refine bp_noneN rfl rfl ?_
      exact bp_item HO (List.sublist_cons_self _ _) HF rfl (by repeat (first | exact mH | apply mT)) (by repeat (first | exact mH | apply mT)) (by repeat (first | exact mH | apply mT)) (by omega) rfl
    · simp only [hbr, if_true] at HF HO
      (repeat' (first | (with_reducible first | refine oXt ?_ | refine oXb ?_) | ((with_reducible refine ib_miss ?_ ?_); exact rfl) | ((first | ((with_reducible refine to_load ?_); first | refine oL1 HO rfl rfl ?_ | refine oL2 HO rfl rfl ?_ | refine oL3 HO rfl rfl ?_) | ((first | with_reducible refine oAl HO ?_); clear HO; intro _ HO)); (try simp only [Act.put, pS0, pS1, pS2])) | ((first | ((with_reducible refine to_store ?_); first | refine oT1 HO rfl rfl rfl ?_ | refine oT2 HO rfl rfl rfl (by rfl) ?_ | refine oT3 HO rfl rfl rfl rfl ?_) | with_reducible refine ab_drew HO ?_); clear HO; intro _ HO) | ((with_reducible refine to_store ?_); first | (refine wo_storeR HO rfl rfl rfl rfl (by repeat (first | exact mH | apply mT)) (by repeat (first | exact cH | apply cT)) Tryz.sizeOf39 (by simp [Value.oneCell']) ?_; clear HO; intro _ HO) | (refine wo_storeF HO rfl rfl rfl rfl (by repeat (first | exact mH | apply mT)) (by repeat (first | exact cH | apply cT)) Tryz.sizeOf39 (by simp [Value.oneCell']) ?_; clear HO; intro _ HO)) | ((with_reducible refine ab_junk HO 9 ?_); clear HO; intro _ HO HB) | ((go_big_may; first | (go_at_call 33; refine arm_unit (n := 65) (Lib.hid (pclose_any _ _ _)) HO HF hg (by omega) ?_ ?_; rotate_left; (intro v pl e W h1 h2 h3; first | (exact bp_panic2 rfl h1 h2 h3) | ((try dsimp only); (repeat (first | go_big_open | (simp only [Exit.then, Exit.inBlock]))); exact bp_panic2 rfl h1 h2 h3)); clear HO HF; intro _ _ HO hle HF) | fail) <;> (try dsimp only)) | go_values | go_skip | go_guarded | go_step | go_upon | (go_ite <;> go_prune <;> (try go_simp))))
      first | refine bp_none rfl rfl ?_ | refine bp_noneN rfl rfl ?_
      exact bp_item HO (List.sublist_cons_self _ _) HF rfl (by repeat (first | exact mH | apply mT)) (by repeat (first | exact mH | apply mT)) (by repeat (first | exact mH | apply mT)) (by omega) rfl
  · skip
    refine eBe HO [11] [0, 1, 2, 3, 5, 4, 6, 7, 8, 9, 10] [11] ?_
    clear HO
    intro _ HO
    (repeat' (first | ((with_reducible refine eGo ?_); first | refine eCa rfl rfl (by kernel_rfl) (by rfl) (fun K hK => ?_) | refine eSl rfl rfl (by kernel_rfl) (by rfl) (fun K hK => ?_) | ((first | refine eL1 HO rfl rfl rfl (by kernel_rfl) (fun _ _ _ h => h) (by rfl) ?_ | refine eL2 HO rfl rfl rfl (by kernel_rfl) (fun _ _ _ h => h) (by rfl) ?_ | refine ePu HO rfl (by kernel_rfl) (fun _ _ _ h => h) (by rfl) (eFi rfl rfl ⟨_, _, _, _, _, _, _, rfl, rfl, inferInstance⟩) ?_ | refine ePu HO rfl (by kernel_rfl) (fun _ _ _ h => h) (by rfl) (by intro _; go_simp; (try with_reducible rfl)) ?_); (try simp only [Act.put, pS0, pS1, pS2])) | refine eA1 rfl (by kernel_rfl) (by rfl) (fun K hK => ?_) | refine eA2 rfl (by kernel_rfl) (by rfl) (fun K hK => ?_) | refine eEe (by kernel_rfl) ?_) | ((with_reducible refine eHo ?_); first | (refine eA4 rfl (by kernel_rfl) (fun _ _ _ h => h) (by rfl) (by intro _; go_simp; (try with_reducible rfl)) ?_; (try simp only [Act.put, pS0, pS1, pS2])) | refine eA3 rfl (by kernel_rfl) (by rfl) (fun K hK => ?_) | refine eDo (by kernel_rfl) ?_) | ((with_reducible show K _ _); (first | with_reducible refine hK.out _ _ (OwnB.of HO) ?_ | with_reducible refine hK.out _ _ ?_); clear hK K; (try simp only [Act.put, pS0, pS1, pS2])) | ((with_reducible refine to_store ?_); (first | refine oT1 HO rfl rfl rfl ?_ | refine oT2 HO rfl rfl rfl (by rfl) ?_ | refine oT3 HO rfl rfl rfl rfl ?_); clear HO; intro _ HO) | ((with_reducible refine to_store ?_); first | (refine wo_storeR HO rfl rfl rfl rfl (by repeat (first | exact mH | apply mT)) (by repeat (first | exact cH | apply cT)) Tryz.sizeOf39 (by simp [Value.oneCell']) ?_; clear HO; intro _ HO) | (refine wo_storeF HO rfl rfl rfl rfl (by repeat (first | exact mH | apply mT)) (by repeat (first | exact cH | apply cT)) Tryz.sizeOf39 (by simp [Value.oneCell']) ?_; clear HO; intro _ HO)) | ((with_reducible refine to_append ?_); refine wo_appF HO rfl rfl rfl HB (by repeat (first | exact mH | apply mT)) (by repeat (first | exact mH | apply mT)) (by first | omega | simp) ?_; clear HO HB; intro eN _ _ _ hmap hlen hcap HO; replace hlen := Lib.hid hlen; (try simp only [Act.put, pS0, pS1, pS2])) | ((with_reducible refine ab_junk HO 76 ?_); clear HO; intro _ HO HB)| ((with_reducible refine ab_junk HO 9 ?_); clear HO; intro _ HO HB) | ((first | (go_at_call 31; refine arm_func C_function HO HF hg (by omega) ?_ ?_; rotate_left; (intro v pl e W h1 h2 h3; first | (exact bp_panic2 rfl h1 h2 h3) | ((try dsimp only); (repeat (first | go_big_open | (simp only [Exit.then, Exit.inBlock]))); exact bp_panic2 rfl h1 h2 h3)); clear HO HF; intro fN AN cN BN eN aN WN hres HO hle HF)) <;> (try dsimp only)) | ((with_reducible refine eOp ?_); go_simp)))
    (repeat' (first | (with_reducible first | refine oXt ?_ | refine oXb ?_) | ((with_reducible refine ib_miss ?_ ?_); exact rfl) | ((first | ((with_reducible refine to_load ?_); first | refine oL1 HO rfl rfl ?_ | refine oL2 HO rfl rfl ?_ | refine oL3 HO rfl rfl ?_) | ((first | with_reducible refine oAl HO ?_); clear HO; intro _ HO)); (try simp only [Act.put, pS0, pS1, pS2])) | ((first | ((with_reducible refine to_store ?_); first | refine oT1 HO rfl rfl rfl ?_ | refine oT2 HO rfl rfl rfl (by rfl) ?_ | refine oT3 HO rfl rfl rfl rfl ?_) | with_reducible refine ab_drew HO ?_); clear HO; intro _ HO) | ((with_reducible refine to_store ?_); first | (refine wo_storeR HO rfl rfl rfl rfl (by repeat (first | exact mH | apply mT)) (by repeat (first | exact cH | apply cT)) Tryz.sizeOf39 (by simp [Value.oneCell']) ?_; clear HO; intro _ HO) | (refine wo_storeF HO rfl rfl rfl rfl (by repeat (first | exact mH | apply mT)) (by repeat (first | exact cH | apply cT)) Tryz.sizeOf39 (by simp [Value.oneCell']) ?_; clear HO; intro _ HO)) | ((with_reducible refine ab_junk HO 9 ?_); clear HO; intro _ HO HB) | ((go_big_may; first | (go_at_call 14; refine arm_unit (n := 65) (Lib.hid (pends_any _ _ _)) HO HF hg (by omega) ?_ ?_; rotate_left; (intro v pl e W h1 h2 h3; first | (exact bp_panic2 rfl h1 h2 h3) | ((try dsimp only); (repeat (first | go_big_open | (simp only [Exit.then, Exit.inBlock]))); exact bp_panic2 rfl h1 h2 h3)); clear HO HF; intro _ _ HO hle HF) | fail) <;> (try dsimp only)) | go_values | go_skip | go_guarded | go_step | go_upon | (go_ite <;> go_prune <;> (try go_simp))))
    first | refine bp_none rfl rfl ?_ | refine bp_noneN rfl rfl ?_
    rw [← hmap] at HF
    exact bp_item HO (List.Sublist.refl _) HF rfl (by repeat (first | exact mH | apply mT)) (by repeat (first | exact mH | apply mT)) (by repeat (first | exact mH | apply mT)) (by omega) rfl
end Go.Proofs.YtdiibenofbcfnaaGreat
