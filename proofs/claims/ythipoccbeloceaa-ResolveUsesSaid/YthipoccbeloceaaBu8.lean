/- Several texts put together: LexI, LexK. -/
import Derived.Test.YthipoccbeloceaaBu3
import Derived.Test.YthipoccbeloceaaBu5
import Derived.Test.YthipoccbeloceaaBu6
import Derived.Laws.MakeOwn
import Derived.Test.YthipoccbeloceaaBu1
import Derived.Deep.Cut
set_option linter.unusedSimpArgs false
set_option linter.unusedVariables false
namespace Go.Proofs.Ythipoccbeloceaa
open Go.RowKit
structure LS (g : Nat) (src : List Nat) (a : Nat) (V : Value) (A : Option Addr) (T : List Nat) (w : World) : Prop where
  r : RdrS w g src a V
  b : RB w g A T
section
variable {g : Nat} {src : List Nat} {a : Nat} {V : Value} {A : Option Addr} {T : List Nat} {w w' w0 W : World} {bs : List Bx} {rs : List Rw} {F : List Cold} {K : Act → World → Prop} {act : Act} {P : Program} {o : Oper} {Q : Exit → Act → World → Prop} {TT : Ending → World → Prop}
theorem frozen_of_block {w w' : World} {p : Addr} (h : w'.heap[p.block]? = w.heap[p.block]?) : w'.frozen? p = w.frozen? p := by unfold World.frozen?; rw [h]
theorem RdrS.same (m : RdrS w g src a V) (hb : ∀ b, b ≤ g → w'.heap[b]? = w.heap[b]?) (hs : w.heap.size ≤ w'.heap.size) : RdrS w' g src a V := by
  obtain ⟨A, c, b, r, hc⟩ := m.box
  have hg := hb g (Nat.le_refl _)
  refine ⟨⟨A, c, ⟨(World.cell?_of_block hg).trans b.c0, (World.cell?_of_block hg).trans b.c1, (World.cell?_of_block hg).trans b.c2, (frozen_of_block hg).trans b.f0, (frozen_of_block hg).trans b.f1, (frozen_of_block hg).trans b.f2, Nat.lt_of_lt_of_le b.z hs⟩, r.keep fun p hp => World.cell?_of_block (hb p.block (Nat.le_of_lt hp)), hc⟩, m.len⟩
theorem LS.loc {n : Nat} (hn : g < n) : Loc (LS g src a V A T) n := by
  intro w w' hb hs h
  exact ⟨h.r.same (fun b hb2 => hb b (by omega)) hs, h.b.keep fun p hp => World.cell?_of_block (hb p.block (by omega))⟩
theorem Kept.of_upd (h : Upd g none w w') : Kept [g] w w' := ⟨h.os, h.tape, h.output, h.size, fun k hk hx => h.block k hk (by simpa using hx) (by simp)⟩
theorem Upd.of_kept (h : Kept [g] w w') : Upd g none w w' := ⟨h.os, h.tape, h.output, h.size, fun k hk hx _ => h.block k hk (by simpa using hx)⟩
theorem Own.lcall {a' : Nat} {V' : Value} {A' : Option Addr} {T' : List Nat} (HO : Own w0 [g] (LS g src a V A T) bs rs F w) (hg : g < w0.heap.size) (q : Kept [g] w W) (hs : LS g src a' V' A' T' W) : Own w0 [g] (LS g src a' V' A' T') bs rs F W :=
  HO.call (Y := [g]) (fun y hy => ⟨hy, by rw [List.mem_singleton.1 hy]; exact hg⟩) q hs (LS.loc hg)
theorem LS.own (m : RdrS w g src a V) : Hid (Own w [g] (LS g src a V none []) [] [] [] w) := Lib.hid (Own.init ⟨m, ⟨by simp, fun h => absurd h (by simp)⟩⟩ (LS.loc m.lt))
theorem lo_loadA (HO : Hid (Own w0 [g] (LS g src a V A T) bs rs F w)) {ty : TypeId} {x : Operand} (ho : o.op = .load ty x) (hx : act.eval x = .pointer (some ⟨g, 1, none⟩)) (hd : ∀ w, (isAgg ty).run P w = .ok false w) (h : K (act.put o.dst (.int .i64 (a : Int))) w) : WOp P o act w K Q := by
  obtain ⟨A, c, b, _⟩ := HO.out.st.r.box
  have k1 := b.c1
  unfold WOp Oper.wp execOp
  simp only [ho, hx, Instr.loadAt, Instr.sureAddr, Sem.run_bind, Sem.run_pure, Result.andThen_ok, loadVar, hd w, Bool.false_eq_true, if_false, run_load, k1]
  exact h
theorem lo_load2 (HO : Hid (Own w0 [g] (LS g src a V A T) bs rs F w)) {ty : TypeId} {x : Operand} (ho : o.op = .load ty x) (hx : act.eval x = .pointer (some ⟨g, 2, none⟩)) (hd : ∀ w, (isAgg ty).run P w = .ok false w) (h : K (act.put o.dst V) w) : WOp P o act w K Q := by
  obtain ⟨A, c, b, _⟩ := HO.out.st.r.box
  have k1 := b.c2
  unfold WOp Oper.wp execOp
  simp only [ho, hx, Instr.loadAt, Instr.sureAddr, Sem.run_bind, Sem.run_pure, Result.andThen_ok, loadVar, hd w, Bool.false_eq_true, if_false, run_load, k1]
  exact h
theorem lo_storeA (HO : Hid (Own w0 [g] (LS g src a V A T) bs rs F w)) (hg : g < w0.heap.size) {ty : TypeId} {x y : Operand} (ho : o.op = .store ty x y) (hdst : o.dst = none) (hx : act.eval x = .pointer (some ⟨g, 1, none⟩)) {v : Int} (hy : act.eval y = .int .i64 v) (hs : ∀ w, (sizeOf ty).run P w = .ok 1 w) (a' : Nat) (hv : v = (a' : Int))
    (h : ∀ W, Hid (Own w0 [g] (LS g src a' V A T) bs rs F W) → K act W) : WOp P o act w K Q := by
  obtain ⟨A1, c, b, _⟩ := HO.out.st.r.box
  have k1 := b.c1
  have f1 := b.f1
  have kz := b.z
  subst hv
  have := h _ (Lib.hid (HO.out.lcall hg (kept_set _ _ _ _) ⟨HO.out.st.r.put a', HO.out.st.b.keep fun p hp => World.cell?_setCell_other _ _ _ _ (fun e => by subst e; simp at hp)⟩))
  unfold WOp Oper.wp execOp
  have hst : ∀ u : Int, (storeCells ⟨g, 1, none⟩ [Value.int .i64 u]).run P w = .ok () (w.setCell ⟨g, 1, none⟩ (.int .i64 u)) := fun u => by simp [go_sem, storeCells, k1, f1, kz]
  simp only [ho, hx, hy, Instr.storeAt, Instr.sureAddr, Sem.run_bind, Sem.run_pure, Result.andThen_ok, storeVar, hs w, Value.cells, List.size_toArray, List.length_cons, List.length_nil, Nat.zero_add, ne_eq, not_true, if_false, hst]
  simpa [Oper.upon, hdst, Act.put] using this
def Cold.flt (v : Value) (p : Nat) (k : Int) : Cold := ⟨fun w F => ∃ b, v = .iface 74 (.pointer (some ⟨b, 0, none⟩)) ∧ F b ∧ Blk w b 76 #[.int .i64 (p : Int), .iface 71 (.int .i64 k)], fun _ _ _ _ hF h => by
  obtain ⟨b, e, hb, hk⟩ := h
  exact ⟨b, e, (hF b hb).1, (hF b hb).2.trans hk⟩⟩
theorem Own.flt {X : List Nat} {S : World → Prop} (h : Own w0 X S bs rs F w) {v : Value} {p : Nat} {k : Int} (hm : Cold.flt v p k ∈ F) : FltV w w0.heap.size v p k := by
  obtain ⟨b, e, hb, hk⟩ := h.cold _ hm
  exact ⟨b, e, hb.1, hk⟩
theorem arm_quoted {KF : FuncId} {args : Array Value} (HO : Hid (Own w0 [g] (LS g src a V A T) bs rs F w)) (hg : g < w0.heap.size) (ha : a < src.length) {sign : Nat} (hs : sign = 34 ∨ sign = 47) (hK : KF = 56) (hargs : args = #[.pointer (some ⟨g, 0, none⟩), .int .u8 (sign : Int)])
    (hnone : quotN sign (src.drop (a + 1)) = none → ∀ b W, Hid (Own w0 [g] (LS g src a V A T) bs rs (Cold.flt (.iface 74 (.pointer (some ⟨b, 0, none⟩))) a 7 :: F) W) → TT (.returned (.tuple #[.slice none 0 0, .iface 74 (.pointer (some ⟨b, 0, none⟩))])) W)
    (hsome : ∀ n A' c W, quotN sign (src.drop (a + 1)) = some n → a + 1 + n < src.length → n ≤ c → Hid (Own w0 [g] (LS g src (a + n + 2) V A' ((src.drop (a + 1)).take n)) bs rs F W) → TT (.returned (.tuple #[.slice A' n c, .nilIface])) W) : Calls Try.prog KF args w TT := by
  subst hK hargs
  refine (quoted_r w HO.out.st.r ha sign hs).mono fun e W hp => ?_
  rcases hp with ⟨h1, ⟨v, rfl, hv⟩, q⟩ | ⟨n, A', c, h1, h2, rfl, h3, h4, h5, h6⟩
  · obtain ⟨b, rfl, hb, hk⟩ := hv
    exact hnone h1 b W (Lib.hid ((HO.out.next q).addCold (Cold.flt (.iface 74 (.pointer (some ⟨b, 0, none⟩))) a 7) w.heap.size HO.out.kept.size (fun b hb => (HO.out.hot_lt b hb).2) ⟨b, rfl, ⟨hb, hk.lt⟩, hk⟩))
  · exact hsome n A' c W h1 h2 h3 (Lib.hid (HO.out.lcall hg (Kept.of_upd h6) ⟨h5, h4⟩))
theorem to_make {d : Option Tmp} {T ty : TypeId} {x y : Operand} {ps : String} {af : Array Edge} {gd : Option (Nat × Bool)} (h : WOp P ⟨d, .makeSlice ty x y, T, ps, af, gd⟩ act w K Q) : Oper.wp P ⟨d, .makeSlice ty x y, T, ps, af, gd⟩ act w K Q := h
def bvs (l : List Nat) : List Value := l.map bv
theorem wo_make {X : List Nat} {S : World → Prop} (HO : Hid (Own w0 X S bs rs F w)) {x y : Operand} (ho : o.op = .makeSlice 22 x y) (hx : act.eval x = .int .i64 0) {n : Nat} (hy : act.eval y = .int .i64 (n : Int)) (hn : n ≤ 1000000)
    (h : ∀ A' c' W, 0 ≤ c' → Hid (Own w0 X S bs (⟨5, 1, .slice A' ([] : List Nat).length c', ([] : List Nat).length, bvs []⟩ :: rs) F W) → K (act.put o.dst (.slice A' ([] : List Nat).length c')) W) : WOp Try.prog o act w K Q := by
  obtain ⟨i0, hi, hz0, hz1, hz2⟩ := info_parts info_u8
  obtain ⟨w', h1, h2, h3⟩ := run_makeSlice_owned (P := Try.prog) w w.heap.size 22 5 i0 (.int .u8 0) 1 Try.underlying22 hi hz0 hz1 .i64 .i64 n (by omega) (by rw [hz2]; omega) (by unfold maxLen; omega) (Nat.le_refl _)
  have q : Below w.heap.size w w' := ⟨h3.os, h3.tape, h3.output, h3.size, fun k hk => h3.block k hk (by simp)⟩
  have hO := HO.out.next q
  have hO2 := hO.addRow ⟨5, 1, .slice (some ⟨w.heap.size, 0, none⟩) 0 n, 0, []⟩ w.heap.size HO.out.kept.size h2 (fun b hb hm => by have := (HO.out.hot_lt b hm).2; omega) (fun c hc => c.st w w' _ _ (fun b hb => ⟨⟨⟨hb.1, Nat.lt_of_lt_of_le hb.2.1 q.size, hb.2.2⟩, hb.2.1⟩, q.block b hb.2.1⟩) (HO.out.cold c hc))
  have := h _ n w' (Nat.zero_le _) (Lib.hid hO2)
  unfold WOp Oper.wp execOp
  simp only [ho, hx, hy, Sem.run_bind, Sem.run_pure, Result.andThen_ok, h1]
  simpa [Oper.upon] using this
theorem wo_appU {X : List Nat} {S : World → Prop} {v : Value} {l : List Nat} (HO : Hid (Own w0 X S bs (⟨5, 1, v, l.length, bvs l⟩ :: rs) F w)) {s x : Operand}
    (ho : o.op = .call { callee := .builtin .append, args := #[s, x], argTypes := #[22, 22] }) (hs : act.eval s = v) {r c : Nat} (hx : act.eval x = .slice (some ⟨r, 0, none⟩) 1 c) {u : Int} (HB : Hid (Blk w r 5 #[.int .u8 u])) (y : Nat) (hy : u = (y : Int)) (hm : l.length ≤ 1000000)
    (h : ∀ A' c' W, (l ++ [y]).length ≤ c' → Hid (Own w0 X S bs (⟨5, 1, .slice A' (l ++ [y]).length c', (l ++ [y]).length, bvs (l ++ [y])⟩ :: rs) F W) → K (act.put o.dst (.slice A' (l ++ [y]).length c')) W) : WOp Try.prog o act w K Q := by
  subst hy
  refine wo_appG HO ho hs hx (ys := [.int .u8 (y : Int)]) HB Try.underlying22 info_u8 rfl (by decide) rfl (by simp [Value.oneCell']) hm (by decide) (fun A' c' W h1 h2 => ?_)
  have e1 : l.length + 1 = (l ++ [y]).length := by simp
  have e2 : bvs l ++ [.int .u8 (y : Int)] = bvs (l ++ [y]) := by simp [bvs, bv]
  rw [e2, e1] at h2
  rw [e1] at h1 ⊢
  exact h A' c' W h1 h2
theorem rb_rowAt {B : Nat} {l : List Nat} {Fp : Nat → Prop} (h : RowAt w Fp A (bvs l)) (hb : ∀ x ∈ l, x < 256) (hF : ∀ b, Fp b → b < B) : RB w B A l := by
  refine ⟨hb, fun hn => ?_⟩
  obtain ⟨b, e, hb2, hc⟩ := h (fun e => by have e2 : l = [] := List.map_eq_nil_iff.1 e; subst e2; exact absurd hn (by simp))
  have := rb_of (w := w) (B := B) (b := b) (bs := l) hb (hF b hb2) (fun j hj => hc j _ (by unfold bvs; rw [List.getElem?_map, List.getElem?_eq_getElem hj]; rfl))
  subst e
  obtain ⟨ad, e2, h3, h4⟩ := this.2 hn
  exact ⟨ad, e2, h3, h4⟩
theorem str_rowAt {B : Nat} {l : List Nat} {Fp : Nat → Prop} {c : Nat} (h : RowAt w Fp A (bvs l)) (hb : ∀ x ∈ l, x < 256) (hF : ∀ b, Fp b → b < B) : (convert 22 9 (.slice A l.length c)).run Try.prog w = .ok (.string (strN l)) w :=
  str_of (rb_rowAt h hb hF) (rb_some (rb_rowAt h hb hF))
theorem bp_cellT {fn : Func} {R : Ending → World → Prop} {X : List Nat} {S : World → Prop} (HO : Hid (Own w0 X S bs rs F w)) {t s : Tmp} {ty : TypeId} (hf : fn.results = #[.cell t ty, .tmp s]) {b : Nat} (hx : act.tmps.getD t undef = .pointer (some ⟨b, 0, none⟩)) {v : Value} (hs : act.tmps.getD s undef = v) {u : TypeId} {cs : List Value} (hm : (⟨b, u, cs⟩ : Bx) ∈ bs)
    (hd : ∀ w, (isAgg ty).run P w = .ok true w) {n : Nat} (hsz : ∀ w, (sizeOf ty).run P w = .ok n w) (hn : cs.length = n) (hdef : act.defers = []) (h : R (.returned (.tuple #[.agg cs.toArray, v])) w) : bodyPost P fn R .ret act w := by
  subst hn
  have hl : (loadCells ⟨b, 0, none⟩ cs.length).run P w = .ok cs.toArray w :=
    run_loadCells_list (P := P) w ⟨b, 0, none⟩ cs (fun j v hv => by rw [Addr.add_mid]; exact HO.out.cells hm 0 j v (by simpa using hv))
  refine ⟨hdef, _, ?_, h⟩
  have hx2 : act.tmps[t]?.getD undef = .pointer (some ⟨b, 0, none⟩) := by rw [← hx]; simp
  have hs2 : act.tmps[s]?.getD undef = v := by rw [← hs]; simp
  simp [results, hf, hx2, hs2, asAddr, loadVar, Sem.run_bind, hd w, hsz w, hl]
def LexPost (g : Nat) (src : List Nat) (a : Nat) (V : Value) (r : Except Int (TokF × Nat)) (w : World) (e : Ending) (w' : World) : Prop :=
  match r with
  | .error k => (∃ v, e = .returned (.tuple #[tokV ⟨0, 0, [], 0⟩, v]) ∧ FltV w' w.heap.size v a k) ∧ Upd g none w w'
  | .ok (t, n) => e = .returned (.tuple #[tokV t, .nilIface]) ∧ RdrS w' g src (a + n) V ∧ Upd g none w w'
end
open Go.RowKit
def regL (src : List Nat) (a : Nat) : Except Int (TokF × Nat) := match quotN 47 (src.drop (a + 1)) with
  | none => .error 7
  | some n => .ok (⟨4, a, unreg ((src.drop (a + 1)).take n), 0⟩, n + 2)
theorem wo_appV {w0 w : World} {bs : List Bx} {rs : List Rw} {F : List Cold} {K : Act → World → Prop} {act : Act} {o : Oper} {Q : Exit → Act → World → Prop} {X : List Nat} {S : World → Prop} {v : Value} {l : List Nat} {n : Nat} (HO : Hid (Own w0 X S bs (⟨5, 1, v, n, bvs l⟩ :: rs) F w)) (hn : Hid (n = l.length)) {s x : Operand}
    (ho : o.op = .call { callee := .builtin .append, args := #[s, x], argTypes := #[22, 22] }) (hs : act.eval s = v) {r c : Nat} (hx : act.eval x = .slice (some ⟨r, 0, none⟩) 1 c) {u : Int} (HB : Hid (Blk w r 5 #[.int .u8 u])) (y : Nat) (hy : u = (y : Int)) (hm : n ≤ 1000000)
    (h : ∀ A' c' W, (l ++ [y]).length ≤ c' → Hid (Own w0 X S bs (⟨5, 1, .slice A' (l ++ [y]).length c', (l ++ [y]).length, bvs (l ++ [y])⟩ :: rs) F W) → K (act.put o.dst (.slice A' (l ++ [y]).length c')) W) : WOp Try.prog o act w K Q := by
  have e := hn.out
  subst e
  exact wo_appU HO ho hs hx HB y hy hm h
set_option maxRecDepth 100000 in
set_option maxHeartbeats 3200000 in
theorem regex_r {g : Nat} {src : List Nat} {a : Nat} {V : Value} (w : World) (m : RdrS w g src a V) (ha : a < src.length) : Calls Try.prog 46 #[.pointer (some ⟨g, 0, none⟩)] w (LexPost g src a V (regL src a) w) := by
  have HO := LS.own m
  have hg := m.lt
  have hlen := m.len
  have HB8 := Lib.hid m.byte
  obtain ⟨R, hR⟩ : ∃ R, regL src a = R := ⟨_, rfl⟩
  rw [hR]
  unfold regL at hR
  have HR := Lib.hid hR
  clear hR m
  go_enter Try.func46, Try.ntmps46
  (repeat' (first | ((with_reducible refine zG ?_); first | refine oWx ?_ | (refine oWs ?_; clear HO; intro _ HO) | (refine oWj ?_; clear HO; intro _ HO HB)) | ((with_reducible refine to_load ?_); (first | (refine lo_loadA HO rfl rfl Try.isAgg3 ?_; (try simp only [Act.put, pS]))); (try simp only [Act.put, pS])) | ((with_reducible refine to_make ?_); refine wo_make HO rfl rfl rfl (by omega) ?_; clear HO; intro _ _ _ hcap HO; (try simp only [Act.put, pS])) | ((go_big_may; first | (go_at_call 56; refine arm_quoted HO hg ha (.inr rfl) rfl rfl ?_ ?_; (clear HO; intro hQ b W HO); rotate_left; (clear HO; intro n A c W hQ hln hnc HO); rotate_left) | fail) <;> (try dsimp only)) | go_values | go_skip | go_guarded | go_step | go_upon | (go_ite <;> go_prune <;> (try go_simp))))
  · refine bp_cellT HO (t := 2) (s := 3) rfl rfl rfl mM Try.isAgg89 Try.sizeOf89 (by rfl) rfl ?_
    have hR := HR.out
    rw [hQ] at hR
    subst hR
    exact ⟨⟨_, by rw [tokV_0]; rfl, HO.out.flt List.mem_cons_self⟩, Upd.of_kept HO.out.kept⟩
  · obtain ⟨T, hT⟩ : ∃ T, (src.drop (a + 1)).take n = T := ⟨_, rfl⟩
    have hTn : T.length = n := by rw [← hT]; simp; omega
    have hw : wellS false T = true := by rw [← hT]; exact quotS_well 47 _ false n hQ
    have hT8 : ∀ x ∈ T, x < 256 := by rw [← hT]; exact fun x hx => HB8.out x (List.mem_of_mem_drop (List.mem_of_mem_take hx))
    have hR := HR.out
    rw [hQ] at hR
    simp only at hR
    rw [hT] at HO hR
    have HR := Lib.hid hR
    have HTN := Lib.hid hTn
    have HU := Lib.hid (RegI.start hw)
    have HT8 := Lib.hid hT8
    clear hR hTn hw hT8 hT hQ
    go_loopw [7, 8] (fun ov iv W => ∃ (k : Nat) (out : List Nat) (A' : Option Addr) (c' : Nat), ov = .slice A' out.length c' ∧ iv = .int .i64 (k : Int) ∧ out.length ≤ c' ∧ k ≤ n ∧ Hid (RegI T (unreg T) k out) ∧ Hid (Own w [g] (LS g src (a + n + 2) V A T) [⟨w.heap.size, 89, [.int .i64 0, .int .i64 0, .string { data := #[] }, .bool false, .int .u64 0, .int .u64 0]⟩] [⟨5, 1, .slice A' out.length c', out.length, bvs out⟩] [] W)) (fun _ iv _ => n - (intOf iv).toNat)
    case atStart => exact ⟨0, [], _, _, rfl, rfl, hcap, Nat.zero_le _, HU, HO⟩
    case round =>
      clear HO HU hcap
      obtain ⟨k, out, A', c', rfl, rfl, hcap, hkn, HU, HO⟩ := hrel
      have hol : out.length ≤ 1000000 := by have := HU.out.2.2.2; omega
      by_cases hk : k < n
      · have hd : decide ((k : Int) < (n : Int)) = true := decide_eq_true (by omega)
        have hkT : k < T.length := by rw [HTN.out]; exact hk
        have hk6 : k ≤ 1000000 := by omega
        obtain ⟨ad, rfl, _, hcell⟩ := HO.out.st.b.2 (Nat.lt_of_le_of_lt (Nat.zero_le k) hkT)
        have k2 := hcell k hkT
        have HCELL := Lib.hid hcell
        clear hcell
        obtain ⟨sb, qo, sp, hq⟩ : ∃ sb qo sp, ad.add k = (⟨sb, qo, sp⟩ : Addr) := ⟨_, _, _, rfl⟩
        rw [hq] at k2
        obtain ⟨x, hxe⟩ : ∃ x, x = T[k] := ⟨_, rfl⟩
        rw [← hxe] at k2
        by_cases hx : x = 92
        · subst hx
          have hjT := HU.out.next hkT hxe.symm
          have hk1n : k + 1 < n := HTN.out ▸ hjT
          have k3 := HCELL.out (k + 1) hjT
          obtain ⟨sb2, qo2, sp2, hq2⟩ : ∃ sb qo sp, ad.add (k + 1) = (⟨sb, qo, sp⟩ : Addr) := ⟨_, _, _, rfl⟩
          rw [hq2] at k3
          obtain ⟨y, hye⟩ : ∃ y, y = T[k + 1] := ⟨_, rfl⟩
          have hy8 : y < 256 := by rw [hye]; exact HT8.out _ (List.getElem_mem hjT)
          rw [← hye] at k3
          have hd2 : decide ((k : Int) + 1 < (n : Int)) = true := decide_eq_true (by omega)
          by_cases hy : y = 47
          · have n47 : ((y : Int) != 47) = false := by rw [hy]; rfl
            have HU2 := Lib.hid (HU.out.slash hjT hxe.symm (hye.symm.trans hy))
            rw [← hye] at HU2
            clear hye hxe hd hy
            (repeat' (first | ((with_reducible refine zG ?_); first | refine oWx ?_ | (refine oWs ?_; clear HO; intro _ HO) | (refine oWj ?_; clear HO; intro _ HO HB)) | ((with_reducible refine to_append ?_); refine wo_appU HO rfl rfl rfl HB (y) (by first | rfl | (simp; done) | omega) (by first | omega | (simp; omega)) ?_; clear HO HB; intro _ _ _ hcap HO; (try simp only [Act.put, pS])) | ((with_reducible refine ab_junk HO 5 ?_); clear HO; intro _ HO HB) | go_values | go_skip | go_guarded | go_step | go_upon | (go_ite <;> go_prune <;> (try go_simp))))
            go_roundw
            case rel => exact ⟨k + 2, _, _, _, rfl, by first | rfl | (congr 1; omega), hcap, hk1n, HU2, HO⟩
            case measure => exact meas2 (k' := k + 2) (by first | rfl | omega) (by omega) hk
          · have n47 : ((y : Int) != 47) = true := by rw [bne_iff_ne]; exact fun e => hy (by exact_mod_cast e)
            have HU2 := Lib.hid (HU.out.other hjT hxe.symm (fun e => hy (hye.trans e)))
            rw [← hye] at HU2
            have HYE := Lib.hid hye
            have HQ2 := Lib.hid hq2
            clear hye hxe hd hy
            (repeat' (go_not_at_region 13; first | ((with_reducible refine zG ?_); first | refine oWx ?_ | (refine oWs ?_; clear HO; intro _ HO) | (refine oWj ?_; clear HO; intro _ HO HB)) | ((with_reducible refine to_append ?_); refine wo_appU HO rfl rfl rfl HB (92) (by first | rfl | (simp; done) | omega) (by first | omega | (simp; omega)) ?_; clear HO HB; intro _ _ _ hcap HO; (try simp only [Act.put, pS])) | ((with_reducible refine ab_junk HO 5 ?_); clear HO; intro _ HO HB) | go_values | go_skip | go_guarded | go_step | go_upon | (go_ite <;> go_prune <;> (try go_simp))))
            obtain ⟨m, hm⟩ : ∃ m, m = out.length + 1 := ⟨_, rfl⟩
            have hml : (out ++ [92]).length = m := by rw [hm]; simp
            rw [hml] at HO ⊢
            have HML := Lib.hid hml.symm
            have hm6 : m ≤ 1000000 := by have := HU.out.2.2.2; omega
            clear hm hml
            clear k2 k3
            obtain ⟨ad', e', _, hcell2⟩ := HO.out.st.b.2 (Nat.lt_of_le_of_lt (Nat.zero_le k) hkT)
            obtain rfl : ad = ad' := Option.some.inj e'
            have k4 := hcell2 (k + 1) hjT
            rw [HQ2.out, ← HYE.out] at k4
            clear hcell2 e'
            (repeat' (first | ((with_reducible refine zG ?_); first | refine oWx ?_ | (refine oWs ?_; clear HO; intro _ HO) | (refine oWj ?_; clear HO; intro _ HO HB)) | ((with_reducible refine to_append ?_); refine wo_appV HO HML rfl rfl rfl HB (y) (by first | rfl | (simp; done) | omega) (by first | omega | (simp; omega)) ?_; clear HO HB; intro _ _ _ hcap HO; (try simp only [Act.put, pS])) | ((with_reducible refine ab_junk HO 5 ?_); clear HO; intro _ HO HB) | go_values | go_skip | go_guarded | go_step | go_upon | (go_ite <;> go_prune <;> (try go_simp))))
            go_roundw
            case rel => exact ⟨k + 2, _, _, _, rfl, by first | rfl | (congr 1; omega), hcap, hk1n, HU2, HO⟩
            case measure => exact meas2 (k' := k + 2) (by first | rfl | omega) (by omega) hk
        · have HU2 := Lib.hid (HU.out.plain hkT (fun e => hx (hxe.trans e)))
          rw [← hxe] at HU2
          have n92 : ((x : Int) == 92) = false := by rw [beq_eq_false_iff_ne]; exact fun e => hx (by exact_mod_cast e)
          clear hxe HU hx
          (repeat' (first | ((with_reducible refine zG ?_); first | refine oWx ?_ | (refine oWs ?_; clear HO; intro _ HO) | (refine oWj ?_; clear HO; intro _ HO HB)) | ((with_reducible refine to_append ?_); refine wo_appU HO rfl rfl rfl HB (x) (by first | rfl | (simp; done) | omega) (by first | omega | (simp; omega)) ?_; clear HO HB; intro _ _ _ hcap HO; (try simp only [Act.put, pS])) | ((with_reducible refine ab_junk HO 5 ?_); clear HO; intro _ HO HB) | go_values | go_skip | go_guarded | go_step | go_upon | (go_ite <;> go_prune <;> (try go_simp))))
          go_roundw
          case rel => exact ⟨k + 1, _, _, _, rfl, by first | rfl | (rw [w1_nat hk6]; rfl), hcap, hk, HU2, HO⟩
          case measure => exact meas2 (by first | rfl | (rw [w1_nat hk6]; rfl)) (Nat.lt_succ_self k) hk
      · have hd : decide ((k : Int) < (n : Int)) = false := decide_eq_false (by omega)
        have hout := HU.out.done (by rw [HTN.out]; omega)
        obtain ⟨A9, c9, e9, hc9, HO9⟩ := HO.out.freezeG (fun h => by rw [List.length_eq_zero_iff.1 h]; rfl)
        dsimp only at e9 hc9
        injection e9 with e91 _ e92
        subst e91 e92
        subst hout
        have hstr := str_rowAt (B := wr.heap.size) (c := c') (HO9.cold _ List.mem_cons_self) (fun x hx => HT8.out x (unreg_sub _ T (Nat.le_refl _) x hx)) (fun b hb => hb.2.1)
        have hfin : R = .ok (⟨4, a, unreg T, 0⟩, n + 2) := by rw [← HR.out]
        generalize unreg T = U at hstr hfin
        have HFIN := Lib.hid hfin
        clear HO HU hol hc9 hcap HR hfin
        have HO := Lib.hid HO9
        clear HO9
        (repeat' (first | ((with_reducible refine zG ?_); first | refine oWx ?_ | (refine oWs ?_; clear HO; intro _ HO) | (refine oWj ?_; clear HO; intro _ HO HB)) | go_values | go_skip | go_guarded | go_step | go_upon | (go_ite <;> go_prune <;> (try go_simp))))
        refine bp_cellT HO (t := 2) (s := 3) rfl rfl rfl mM Try.isAgg89 Try.sizeOf89 (by rfl) rfl ?_
        rw [HFIN.out]
        exact ⟨by rw [tokV_0]; rfl, HO.out.st.r, Upd.of_kept HO.out.kept⟩
end Go.Proofs.Ythipoccbeloceaa
