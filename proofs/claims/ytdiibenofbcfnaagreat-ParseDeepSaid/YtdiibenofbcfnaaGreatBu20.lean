/- Several texts put together: LexI, ParJ, ParK, SimA, ParL, LexK. -/
import Derived.Test.YtdiibenofbcfnaaGreatBu7
import Derived.Test.YtdiibenofbcfnaaGreatBu12
import Derived.Test.YtdiibenofbcfnaaGreatBu13
import Derived.Test.YtdiibenofbcfnaaGreatBu19
import Derived.Laws.MakeOwn
import Derived.Test.YtdiibenofbcfnaaGreatBu3
import Derived.Deep.Cut
set_option linter.unusedSimpArgs false
set_option linter.unusedVariables false
namespace Go.Proofs.YtdiibenofbcfnaaGreat
open Go.RowKit
structure LS (g : Nat) (src : List Nat) (a : Nat) (V : Value) (A : Option Addr) (T : List Nat) (w : World) : Prop where
  r : RdrS w g src a V
  b : RB w g A T
section
variable {g : Nat} {src : List Nat} {a : Nat} {V : Value} {A : Option Addr} {T : List Nat} {w w' w0 W : World} {bs : List Bx} {rs : List Rw} {F : List Cold} {K : Act → World → Prop} {act : Act} {P : Program} {o : Oper} {Q : Exit → Act → World → Prop} {TT : Ending → World → Prop}
theorem frozen_of_block {w w' : World} {p : Addr} (h : w'.heap[p.block]? = w.heap[p.block]?) : w'.frozen? p = w.frozen? p := by unfold World.frozen?; rw [h]
theorem RdrS.same (m : RdrS w g src a V) (hb : ∀ b, b ≤ g → w'.heap[b]? = w.heap[b]?) (hs : w.heap.size ≤ w'.heap.size) : RdrS w' g src a V := by
  obtain ⟨A, c, b, r, hc⟩ := m.box
  have hg := hb g (Nat.le_refl _)
  refine ⟨⟨A, c, ⟨(World.cell?_of_block hg).trans b.c0, (World.cell?_of_block hg).trans b.c1, (World.cell?_of_block hg).trans b.c2, (frozen_of_block hg).trans b.f0, (frozen_of_block hg).trans b.f1, (frozen_of_block hg).trans b.f2, Nat.lt_of_lt_of_le b.z hs⟩, r.keep fun p hp => World.cell?_of_block (hb p.block (Nat.le_of_lt hp)), hc⟩, m.len⟩
theorem LS.loc {n : Nat} (hn : g < n) : Loc (LS g src a V A T) n := by
  intro w w' hb hs h
  exact ⟨h.r.same (fun b hb2 => hb b (by omega)) hs, h.b.keep fun p hp => World.cell?_of_block (hb p.block (by omega))⟩
theorem Kept.of_upd (h : Upd g none w w') : Kept [g] w w' := ⟨h.os, h.tape, h.output, h.size, fun k hk hx => h.block k hk (by simpa using hx) (by simp)⟩
theorem Upd.of_kept (h : Kept [g] w w') : Upd g none w w' := ⟨h.os, h.tape, h.output, h.size, fun k hk hx _ => h.block k hk (by simpa using hx)⟩
theorem Own.lcall {a' : Nat} {V' : Value} {A' : Option Addr} {T' : List Nat} (HO : Own w0 [g] (LS g src a V A T) bs rs F w) (hg : g < w0.heap.size) (q : Kept [g] w W) (hs : LS g src a' V' A' T' W) : Own w0 [g] (LS g src a' V' A' T') bs rs F W :=
  HO.call (Y := [g]) (fun y hy => ⟨hy, by rw [List.mem_singleton.1 hy]; exact hg⟩) q hs (LS.loc hg)
theorem LS.own (m : RdrS w g src a V) : Hid (Own w [g] (LS g src a V none []) [] [] [] w) := Lib.hid (Own.init ⟨m, ⟨by simp, fun h => absurd h (by simp)⟩⟩ (LS.loc m.lt))
theorem lo_loadA (HO : Hid (Own w0 [g] (LS g src a V A T) bs rs F w)) {ty : TypeId} {x : Operand} (ho : o.op = .load ty x) (hx : act.eval x = .pointer (some ⟨g, 1, none⟩)) (hd : ∀ w, (isAgg ty).run P w = .ok false w) (h : K (act.put o.dst (.int .i64 (a : Int))) w) : WOp P o act w K Q := by
  obtain ⟨A, c, b, _⟩ := HO.out.st.r.box
  have k1 := b.c1
  unfold WOp Oper.wp execOp
  simp only [ho, hx, Instr.loadAt, Instr.sureAddr, Sem.run_bind, Sem.run_pure, Result.andThen_ok, loadVar, hd w, Bool.false_eq_true, if_false, run_load, k1]
  exact h
theorem lo_load2 (HO : Hid (Own w0 [g] (LS g src a V A T) bs rs F w)) {ty : TypeId} {x : Operand} (ho : o.op = .load ty x) (hx : act.eval x = .pointer (some ⟨g, 2, none⟩)) (hd : ∀ w, (isAgg ty).run P w = .ok false w) (h : K (act.put o.dst V) w) : WOp P o act w K Q := by
  obtain ⟨A, c, b, _⟩ := HO.out.st.r.box
  have k1 := b.c2
  unfold WOp Oper.wp execOp
  simp only [ho, hx, Instr.loadAt, Instr.sureAddr, Sem.run_bind, Sem.run_pure, Result.andThen_ok, loadVar, hd w, Bool.false_eq_true, if_false, run_load, k1]
  exact h
theorem lo_storeA (HO : Hid (Own w0 [g] (LS g src a V A T) bs rs F w)) (hg : g < w0.heap.size) {ty : TypeId} {x y : Operand} (ho : o.op = .store ty x y) (hdst : o.dst = none) (hx : act.eval x = .pointer (some ⟨g, 1, none⟩)) {v : Int} (hy : act.eval y = .int .i64 v) (hs : ∀ w, (sizeOf ty).run P w = .ok 1 w) (a' : Nat) (hv : v = (a' : Int))
    (h : ∀ W, Hid (Own w0 [g] (LS g src a' V A T) bs rs F W) → K act W) : WOp P o act w K Q := by
  obtain ⟨A1, c, b, _⟩ := HO.out.st.r.box
  have k1 := b.c1
  have f1 := b.f1
  have kz := b.z
  subst hv
  have := h _ (Lib.hid (HO.out.lcall hg (kept_set _ _ _ _) ⟨HO.out.st.r.put a', HO.out.st.b.keep fun p hp => World.cell?_setCell_other _ _ _ _ (fun e => by subst e; simp at hp)⟩))
  unfold WOp Oper.wp execOp
  have hst : ∀ u : Int, (storeCells ⟨g, 1, none⟩ [Value.int .i64 u]).run P w = .ok () (w.setCell ⟨g, 1, none⟩ (.int .i64 u)) := fun u => by simp [go_sem, storeCells, k1, f1, kz]
  simp only [ho, hx, hy, Instr.storeAt, Instr.sureAddr, Sem.run_bind, Sem.run_pure, Result.andThen_ok, storeVar, hs w, Value.cells, List.size_toArray, List.length_cons, List.length_nil, Nat.zero_add, ne_eq, not_true, if_false, hst]
  simpa [Oper.upon, hdst, Act.put] using this
def Cold.flt (v : Value) (p : Nat) (k : Int) : Cold := ⟨fun w F => ∃ b, v = .iface 45 (.pointer (some ⟨b, 0, none⟩)) ∧ F b ∧ Blk w b 70 #[.int .i64 (p : Int), .iface 53 (.int .i64 k)], fun _ _ _ _ hF h => by
  obtain ⟨b, e, hb, hk⟩ := h
  exact ⟨b, e, (hF b hb).1, (hF b hb).2.trans hk⟩⟩
theorem Own.flt {X : List Nat} {S : World → Prop} (h : Own w0 X S bs rs F w) {v : Value} {p : Nat} {k : Int} (hm : Cold.flt v p k ∈ F) : FltV w w0.heap.size v p k := by
  obtain ⟨b, e, hb, hk⟩ := h.cold _ hm
  exact ⟨b, e, hb.1, hk⟩
theorem arm_quoted {KF : FuncId} {args : Array Value} (HO : Hid (Own w0 [g] (LS g src a V A T) bs rs F w)) (hg : g < w0.heap.size) (ha : a < src.length) {sign : Nat} (hs : sign = 34 ∨ sign = 47) (hK : KF = 35) (hargs : args = #[.pointer (some ⟨g, 0, none⟩), .int .u8 (sign : Int)])
    (hnone : quotN sign (src.drop (a + 1)) = none → ∀ b W, Hid (Own w0 [g] (LS g src a V A T) bs rs (Cold.flt (.iface 45 (.pointer (some ⟨b, 0, none⟩))) a 7 :: F) W) → TT (.returned (.tuple #[.slice none 0 0, .iface 45 (.pointer (some ⟨b, 0, none⟩))])) W)
    (hsome : ∀ n A' c W, quotN sign (src.drop (a + 1)) = some n → a + 1 + n < src.length → n ≤ c → Hid (Own w0 [g] (LS g src (a + n + 2) V A' ((src.drop (a + 1)).take n)) bs rs F W) → TT (.returned (.tuple #[.slice A' n c, .nilIface])) W) : Calls Tryz.prog KF args w TT := by
  subst hK hargs
  refine (quoted_r w HO.out.st.r ha sign hs).mono fun e W hp => ?_
  rcases hp with ⟨h1, ⟨v, rfl, hv⟩, q⟩ | ⟨n, A', c, h1, h2, rfl, h3, h4, h5, h6⟩
  · obtain ⟨b, rfl, hb, hk⟩ := hv
    exact hnone h1 b W (Lib.hid ((HO.out.next q).addCold (Cold.flt (.iface 45 (.pointer (some ⟨b, 0, none⟩))) a 7) w.heap.size HO.out.kept.size (fun b hb => (HO.out.hot_lt b hb).2) ⟨b, rfl, ⟨hb, hk.lt⟩, hk⟩))
  · exact hsome n A' c W h1 h2 h3 (Lib.hid (HO.out.lcall hg (Kept.of_upd h6) ⟨h5, h4⟩))
theorem to_make {d : Option Tmp} {T ty : TypeId} {x y : Operand} {ps : String} {af : Array Edge} {gd : Option (Nat × Bool)} (h : WOp P ⟨d, .makeSlice ty x y, T, ps, af, gd⟩ act w K Q) : Oper.wp P ⟨d, .makeSlice ty x y, T, ps, af, gd⟩ act w K Q := h
def bvs (l : List Nat) : List Value := l.map bv
theorem wo_make {X : List Nat} {S : World → Prop} (HO : Hid (Own w0 X S bs rs F w)) {x y : Operand} (ho : o.op = .makeSlice 23 x y) (hx : act.eval x = .int .i64 0) {n : Nat} (hy : act.eval y = .int .i64 (n : Int)) (hn : n ≤ 1000000)
    (h : ∀ A' c' W, 0 ≤ c' → Hid (Own w0 X S bs (⟨5, 1, .slice A' ([] : List Nat).length c', ([] : List Nat).length, bvs []⟩ :: rs) F W) → K (act.put o.dst (.slice A' ([] : List Nat).length c')) W) : WOp Tryz.prog o act w K Q := by
  obtain ⟨i0, hi, hz0, hz1, hz2⟩ := info_parts info_u8
  obtain ⟨w', h1, h2, h3⟩ := run_makeSlice_owned (P := Tryz.prog) w w.heap.size 23 5 i0 (.int .u8 0) 1 Tryz.underlying23 hi hz0 hz1 .i64 .i64 n (by omega) (by rw [hz2]; omega) (by unfold maxLen; omega) (Nat.le_refl _)
  have q : Below w.heap.size w w' := ⟨h3.os, h3.tape, h3.output, h3.size, fun k hk => h3.block k hk (by simp)⟩
  have hO := HO.out.next q
  have hO2 := hO.addRow ⟨5, 1, .slice (some ⟨w.heap.size, 0, none⟩) 0 n, 0, []⟩ w.heap.size HO.out.kept.size h2 (fun b hb hm => by have := (HO.out.hot_lt b hm).2; omega) (fun c hc => c.st w w' _ _ (fun b hb => ⟨⟨⟨hb.1, Nat.lt_of_lt_of_le hb.2.1 q.size, hb.2.2⟩, hb.2.1⟩, q.block b hb.2.1⟩) (HO.out.cold c hc))
  have := h _ n w' (Nat.zero_le _) (Lib.hid hO2)
  unfold WOp Oper.wp execOp
  simp only [ho, hx, hy, Sem.run_bind, Sem.run_pure, Result.andThen_ok, h1]
  simpa [Oper.upon] using this
theorem wo_appU {X : List Nat} {S : World → Prop} {v : Value} {l : List Nat} (HO : Hid (Own w0 X S bs (⟨5, 1, v, l.length, bvs l⟩ :: rs) F w)) {s x : Operand}
    (ho : o.op = .call { callee := .builtin .append, args := #[s, x], argTypes := #[23, 23] }) (hs : act.eval s = v) {r c : Nat} (hx : act.eval x = .slice (some ⟨r, 0, none⟩) 1 c) {u : Int} (HB : Hid (Blk w r 5 #[.int .u8 u])) (y : Nat) (hy : u = (y : Int)) (hm : l.length ≤ 1000000)
    (h : ∀ A' c' W, (l ++ [y]).length ≤ c' → Hid (Own w0 X S bs (⟨5, 1, .slice A' (l ++ [y]).length c', (l ++ [y]).length, bvs (l ++ [y])⟩ :: rs) F W) → K (act.put o.dst (.slice A' (l ++ [y]).length c')) W) : WOp Tryz.prog o act w K Q := by
  subst hy
  refine wo_appG HO ho hs hx (ys := [.int .u8 (y : Int)]) HB Tryz.underlying23 info_u8 rfl (by decide) rfl (by simp [Value.oneCell']) hm (by decide) (fun A' c' W h1 h2 => ?_)
  have e1 : l.length + 1 = (l ++ [y]).length := by simp
  have e2 : bvs l ++ [.int .u8 (y : Int)] = bvs (l ++ [y]) := by simp [bvs, bv]
  rw [e2, e1] at h2
  rw [e1] at h1 ⊢
  exact h A' c' W h1 h2
theorem rb_rowAt {B : Nat} {l : List Nat} {Fp : Nat → Prop} (h : RowAt w Fp A (bvs l)) (hb : ∀ x ∈ l, x < 256) (hF : ∀ b, Fp b → b < B) : RB w B A l := by
  refine ⟨hb, fun hn => ?_⟩
  obtain ⟨b, e, hb2, hc⟩ := h (fun e => by have e2 : l = [] := List.map_eq_nil_iff.1 e; subst e2; exact absurd hn (by simp))
  have := rb_of (w := w) (B := B) (b := b) (bs := l) hb (hF b hb2) (fun j hj => hc j _ (by unfold bvs; rw [List.getElem?_map, List.getElem?_eq_getElem hj]; rfl))
  subst e
  obtain ⟨ad, e2, h3, h4⟩ := this.2 hn
  exact ⟨ad, e2, h3, h4⟩
theorem str_rowAt {B : Nat} {l : List Nat} {Fp : Nat → Prop} {c : Nat} (h : RowAt w Fp A (bvs l)) (hb : ∀ x ∈ l, x < 256) (hF : ∀ b, Fp b → b < B) : (convert 23 9 (.slice A l.length c)).run Tryz.prog w = .ok (.string (strN l)) w :=
  str_of (rb_rowAt h hb hF) (rb_some (rb_rowAt h hb hF))
theorem bp_cellT {fn : Func} {R : Ending → World → Prop} {X : List Nat} {S : World → Prop} (HO : Hid (Own w0 X S bs rs F w)) {t s : Tmp} {ty : TypeId} (hf : fn.results = #[.cell t ty, .tmp s]) {b : Nat} (hx : act.tmps.getD t undef = .pointer (some ⟨b, 0, none⟩)) {v : Value} (hs : act.tmps.getD s undef = v) {u : TypeId} {cs : List Value} (hm : (⟨b, u, cs⟩ : Bx) ∈ bs)
    (hd : ∀ w, (isAgg ty).run P w = .ok true w) {n : Nat} (hsz : ∀ w, (sizeOf ty).run P w = .ok n w) (hn : cs.length = n) (hdef : act.defers = []) (h : R (.returned (.tuple #[.agg cs.toArray, v])) w) : bodyPost P fn R .ret act w := by
  subst hn
  have hl : (loadCells ⟨b, 0, none⟩ cs.length).run P w = .ok cs.toArray w :=
    run_loadCells_list (P := P) w ⟨b, 0, none⟩ cs (fun j v hv => by rw [Addr.add_mid]; exact HO.out.cells hm 0 j v (by simpa using hv))
  refine ⟨hdef, _, ?_, h⟩
  have hx2 : act.tmps[t]?.getD undef = .pointer (some ⟨b, 0, none⟩) := by rw [← hx]; simp
  have hs2 : act.tmps[s]?.getD undef = v := by rw [← hs]; simp
  simp [results, hf, hx2, hs2, asAddr, loadVar, Sem.run_bind, hd w, hsz w, hl]
def LexPost (g : Nat) (src : List Nat) (a : Nat) (V : Value) (r : Except Int (TokF × Nat)) (w : World) (e : Ending) (w' : World) : Prop :=
  match r with
  | .error k => (∃ v, e = .returned (.tuple #[tokV ⟨0, 0, [], 0⟩, v]) ∧ FltV w' w.heap.size v a k) ∧ Upd g none w w'
  | .ok (t, n) => e = .returned (.tuple #[tokV t, .nilIface]) ∧ RdrS w' g src (a + n) V ∧ Upd g none w w'
end
open Go.RowKit
set_option maxRecDepth 100000 in
set_option maxHeartbeats 3200000 in
theorem plist_any (p : Par) (g : Nat) (ts : List TokF) (n : Nat) (H_expr : FC 51 #[.pointer (some ⟨g, 0, none⟩)] (exprF ts p) VN g ts n) : FC 74 #[.pointer (some ⟨g, 0, none⟩)] (listF ts p) VL g ts n := by
  intro w a d m hn
  obtain ⟨R, hR⟩ : ∃ R, (listF ts p) a d = R := ⟨_, rfl⟩
  rw [hR]
  have HF := Lib.hid hR
  have HO := m.ownN
  have hg := m.lt
  unfold listF at HF
  clear hR m
  have hts := HO.out.st.ok.len
  have C_expr := Lib.hid H_expr
  go_enter Tryz.func74, Tryz.ntmps74
  (repeat' (first | (with_reducible first | refine oXt ?_ | refine oXb ?_) | ((with_reducible refine ib_miss ?_ ?_); exact rfl) | ((first | with_reducible refine ab_drew HO ?_); clear HO; intro _ HO) | ((with_reducible refine ab_junk HO 9 ?_); clear HO; intro _ HO HB) | ((first | with_reducible refine nE1 HO ?_ ?_ | with_reducible refine nE2 HO ?_ ?_); (and_intros <;> (first | assumption | exact Nat.le_refl _)); clear HO; intro _ HO) | ((go_big_may; first | (go_at_call 51; refine arm_node C_expr HO HF hg (by omega) ?_ ?_; rotate_left; (intro v pl e W h1 h2 h3; first | (exact bp_panic2 rfl h1 h2 h3) | ((try dsimp only); (repeat (first | go_big_open | (simp only [Exit.then, Exit.inBlock]))); exact bp_panic2 rfl h1 h2 h3)); clear HO HF; intro xN AN cN aN WN HO hl hle HF) | fail) <;> (try dsimp only)) | go_values | go_skip | go_guarded | go_step | go_upon | (go_ite <;> go_prune <;> (try go_simp))))
  go_loopw [3] (fun v W => ∃ (els : List El) (A : Option Addr) (c f q : Nat), v = .slice A els.length c ∧ els.length ≤ c ∧ els.length ≤ q + 1 ∧ a ≤ q ∧ ts.length ≤ f + q ∧ Hid (iter (fun a => isS ts a [[44]]) (listS ts p) f (els.map (·.1)) q d = R) ∧ Hid (Own w [g] (PS g ts q d) [] [⟨39, 8, .slice A els.length c, els.length, flatE els⟩] [Cold.els els, Cold.kids none []] W)) (fun _ W => ts.length - (intOf ((W.cell? ⟨g, 1, none⟩).getD undef)).toNat)
  case atStart => exact ⟨[(xN, AN, cN)], _, 1, ts.length, aN, rfl, Nat.le_refl _, by simp, hle, by omega, HF, Lib.hid (HO.out.sub (List.Sublist.refl _) (List.Sublist.refl _) (fun c hc => mem2 hc (by repeat (first | exact mH | apply mT)) (by repeat (first | exact mH | apply mT))))⟩
  case round =>
    clear HO HF hl hle
    obtain ⟨els, A, c, f, q, rfl, hl, hlq, hab, hf, HF, HO⟩ := hrel
    have hq := HO.out.st.ha
    obtain ⟨f, rfl⟩ : ∃ f', f = f' + 1 := ⟨f - 1, by omega⟩
    have HS := Lib.hid HO.out.st
    rw [iter_step] at HF
    unfold listS at HF
    simp only [pp_assoc, pp_pureF] at HF
    (repeat' (first | (with_reducible first | refine oXt ?_ | refine oXb ?_) | ((with_reducible refine ib_miss ?_ ?_); exact rfl) | ((first | with_reducible refine ab_drew HO ?_); clear HO; intro _ HO) | ((with_reducible refine ab_junk HO 9 ?_); clear HO; intro _ HO HB) | ((go_big_may; first | (go_at_call 28; refine arm_sgn HO rfl rfl HB (ss := [[44]]) rfl rfl (by decide) (by decide) ?_; clear HO HB; intro _ b hb HO; cases b) | fail) <;> (try dsimp only)) | go_values | go_skip | go_guarded | go_step | go_upon | (go_ite <;> go_prune <;> (try go_simp))))
    · simp only [hb, Bool.false_eq_true, if_false] at HF
      (repeat' (first | (with_reducible first | refine oXt ?_ | refine oXb ?_) | ((with_reducible refine ib_miss ?_ ?_); exact rfl) | ((first | with_reducible refine ab_drew HO ?_); clear HO; intro _ HO) | ((with_reducible refine ab_junk HO 9 ?_); clear HO; intro _ HO HB) | go_values | go_skip | go_guarded | go_step | go_upon | (go_ite <;> go_prune <;> (try go_simp))))
      refine bp_tmp (t := 2) rfl rfl rfl ?_
      exact bp_list HO HF rfl List.mem_cons_self (by omega)
    · have hnx := nx_isS hb
      simp only [hb, if_true] at HF
      clear hb
      (repeat' (first | (with_reducible first | refine oXt ?_ | refine oXb ?_) | ((with_reducible refine ib_miss ?_ ?_); exact rfl) | ((first | with_reducible refine ab_drew HO ?_); clear HO; intro _ HO) | ((with_reducible refine ab_junk HO 9 ?_); clear HO; intro _ HO HB) | ((first | with_reducible refine nd1 HO ?_ ?_ | with_reducible refine nd2 HO ?_ ?_ | with_reducible refine nd3 HO ?_ ?_ | with_reducible refine nd4 HO ?_ ?_); (and_intros <;> (first | assumption | exact Nat.le_refl _)); clear HO; intro _ HO) | ((with_reducible refine to_append ?_); refine wo_appN HO (by repeat (first | exact mH | apply mT)) rfl rfl rfl (by repeat (first | exact mH | apply mT)) (by omega) ?_; clear HO; intro eN _ _ _ hmap hlen hcap HO; (try simp only [Act.put, pS0, pS1, pS2])) | ((go_big_may; first | (go_at_call 29; first | (refine arm_nextF HO HF hg rfl rfl ?_; clear HO HF; intro _ hle HO HF) | (refine arm_next HO hg rfl rfl ?_; clear HO; intro _ HO)) | (go_at_call 42; refine arm_unit (n := 65) (Lib.hid (plines_any _ _ _)) HO HF hg (by omega) ?_ ?_; rotate_left; (intro v pl e W h1 h2 h3; first | (exact bp_panic2 rfl h1 h2 h3) | ((try dsimp only); (repeat (first | go_big_open | (simp only [Exit.then, Exit.inBlock]))); exact bp_panic2 rfl h1 h2 h3)); clear HO HF; intro _ _ HO hle HF) | (go_at_call 51; refine arm_node C_expr HO HF hg (by omega) ?_ ?_; rotate_left; (intro v pl e W h1 h2 h3; first | (exact bp_panic2 rfl h1 h2 h3) | ((try dsimp only); (repeat (first | go_big_open | (simp only [Exit.then, Exit.inBlock]))); exact bp_panic2 rfl h1 h2 h3)); clear HO HF; intro xN AN cN aN WN HO hl hle HF) | fail) <;> (try dsimp only)) | go_values | go_skip | go_guarded | go_step | go_upon | (go_ite <;> go_prune <;> (try go_simp))))
      rw [← hmap] at HF
      go_roundw
      case rel => exact ⟨_, _, _, f, _, rfl, hcap, by omega, by omega, by omega, HF, Lib.hid (HO.out.sub (List.Sublist.refl _) (List.Sublist.refl _) (fun c hc => mem2 hc (by repeat (first | exact mH | apply mT)) (by repeat (first | exact mH | apply mT))))⟩
      case measure => exact pmeas HS.out HO.out.st (by omega)
open Go.RowKit
set_option maxRecDepth 100000 in
set_option maxHeartbeats 3200000 in
theorem pahead_any {g : Nat} {ts : List TokF} {a d : Nat} (k : Nat) (hk : k ≤ 10) (w : World) (m : PS g ts a d w) : Calls Tryz.prog 69 #[.pointer (some ⟨g, 0, none⟩), .int .i64 (k : Int)] w fun e w' => e = .returned (tokV (ahead ts k a)) ∧ Below w.heap.size w w' := by
  have hlt := m.lt
  have ha := m.ha
  have hlen := m.ok.len
  unfold ahead
  obtain ⟨A, c, bx, r, hc⟩ := m.box
  have k0 := bx.cell 0
  have k1 := bx.cell 1
  simp only [List.getElem?_toArray, List.getElem?_cons_zero, List.getElem?_cons_succ] at k0 k1
  have hi : min (a + k) (ts.length - 1) < ts.length := by omega
  have hmin : (min ((a : Int) + (k : Int)) ((ts.length : Int) - 1)) = ((min (a + k) (ts.length - 1) : Nat) : Int) := by omega
  obtain ⟨ad, sb, qo, sp, rfl, hq, h6⟩ := tok_at r hi
  rw [← tk_eq hi] at h6
  generalize hi2 : min (a + k) (ts.length - 1) = i at h6 hq hi hmin ⊢
  generalize tk ts i = t at h6 ⊢
  have hw1 : wrap64 ((a : Int) + (k : Int)) = (a : Int) + (k : Int) := IntWalk.wrap64_in _ (by omega)
  have hw3 : IntKind.i64.wrap ((a : Int) + (k : Int)) = (a : Int) + (k : Int) := IntWalk.i64_in _ (by omega)
  have hw4 : IntKind.i64.wrap ((ts.length : Int) - 1) = (ts.length : Int) - 1 := IntWalk.i64_in _ (by omega)
  have hw2 : wrap64 ((ts.length : Int) - 1) = (ts.length : Int) - 1 := IntWalk.wrap64_in _ (by omega)
  generalize hn : ts.length = n at k0 hc ha hlen r hi hmin hw2 hw4
  have HOS := Lib.hid (⟨k0, k1, hlt, Nat.le_of_lt hlt, h6⟩ : TkS g g ad c n a sb qo sp t w)
  have hlt4 : (i : Int) < (n : Int) := by omega
  have hsz : sb < w.heap.size := Nat.lt_trans h6.z hlt
  clear hn hi2 r bx m h6
  go_enter Tryz.func69, Tryz.ntmps69
  go_upto_region 1 with fail
  clear k0 k1
  refine wp_region_held_drew (S := (fun w' => TkS g g ad c n a sb qo sp t w')) (by kernel_rfl) ?_ (fun hHeld => ?_)
  · (try dsimp only)
    (first | (with_reducible assumption) | ((repeat' (with_reducible refine TkS.far ?_ hlt (Nat.le_of_lt hlt) _ _)); (with_reducible refine TkS.next HOS.out ?_); (repeat' (first | with_reducible exact Below.refl _ _ | with_reducible refine Below.drew ?_ | with_reducible refine Below.alloc ?_ ?_ _ | with_reducible exact Nat.le_refl _ | (simp; done))); done))
  refine h4_b [0, 1, 2, 3, 4, 5, 6, 7, 8, 9, 10, 11, 12, 13, 14, 15, 16, 17, 18] ?_
  (repeat (refine h4_p rfl (by kernel_rfl) (fun _ _ _ h => h) (by rfl) hHeld (by intro wS hSw; have k0 := hSw.c0; have k1 := hSw.c1; have kz := hSw.z; obtain ⟨tz, k2, k3, k4, k5, k6, k7⟩ := hSw.t6; have kB := hSw.hB; go_simp; (try with_reducible rfl)) ?_; (try simp only [Act.put, List.setIfInBounds_toArray, List.set_cons_zero, List.set_cons_succ])))
  refine h4_e ?_
  refine wpAnyH_ready (rs := [19]) (by kernel_rfl) (by simp) ?_
  refine (h4_cons rfl (fun K hK => ?_) AllReadyH.nil)
  go_simp
  refine hK.out _ _ ?_ (fun hHeld1 => ?_)
  · (try dsimp only)
    (first | (with_reducible assumption) | ((repeat' (with_reducible refine TkS.far ?_ hlt (Nat.le_of_lt hlt) _ _)); (with_reducible refine TkS.next HOS.out ?_); (repeat' (first | with_reducible exact Below.refl _ _ | with_reducible refine Below.drew ?_ | with_reducible refine Below.alloc ?_ ?_ _ | with_reducible exact Nat.le_refl _ | (simp; done))); done))
  clear hK K hHeld
  try simp only [Act.put, List.setIfInBounds_toArray, List.set_cons_zero, List.set_cons_succ]
  refine wpAnyH_done (by kernel_rfl) ?_ _
  go_wp2_with fail
  go_returns
  exact ⟨rfl, by (repeat' (first | (with_reducible exact Below.refl _ _) | (refine Below.trans ?_ (Below.mono (by with_reducible assumption) ?_)) | (with_reducible exact Below.refl _ _) | (with_reducible refine below_drewN ?_ _) | (with_reducible refine Below.drew ?_) | (with_reducible refine Below.setCell ?_ ?_ _) | (with_reducible refine Below.alloc ?_ ?_ _) | (with_reducible assumption) | (simp; done) | (simp; omega) | omega))⟩
section
variable {β : Type} {g : Nat} {ts : List TokF} {a d n : Nat} {w w' w0 W : World} {X : List Nat} {bs : List Bx} {rs : List Rw} {F : List Cold} {T : Ending → World → Prop} {K : FuncId} {args : Array Value} {R : PR β}
theorem arm_ahead {ki : Int} (k : Nat) (HO : Hid (Own w0 X (PS g ts a d) bs rs F w)) (hK : K = 69) (ha : args = #[.pointer (some ⟨g, 0, none⟩), .int .i64 ki]) (hk : ki = (k : Int)) (hk2 : k ≤ 10) (h : ∀ W, Hid (Own w0 X (PS g ts a d) bs rs F W) → T (.returned (.agg #[.int .i64 ((TokF.k (ahead ts k a) : Nat) : Int), .int .i64 ((TokF.at' (ahead ts k a) : Nat) : Int), .string (strN (TokF.s (ahead ts k a))), .bool (zn (TokF.z (ahead ts k a))), .int .u64 (zh (TokF.z (ahead ts k a))), .int .u64 (zl (TokF.z (ahead ts k a)))])) W) : Calls Tryz.prog K args w T := by
  subst hK ha hk
  refine (pahead_any k hk2 w HO.out.st).mono fun e W hp => ?_
  obtain ⟨rfl, q⟩ := hp
  exact h W (Lib.hid (HO.out.next q))
end
open Go.RowKit
mutual
def er : NodeT → NodeT
  | .mk k _ s z i l => .mk k 0 s z i (erL l)
def erL : List NodeT → List NodeT
  | [] => []
  | n :: l => er n :: erL l
end
structure Cx where
  fs : List TokF
  gs : List TokF
  rel : Nat → Nat → Prop
  lim : Nat → Prop
section
variable {C : Cx} {e : Bool} {α β : Type} {R : α → α → Prop} {R' : β → β → Prop} {b a : Nat} {ss : List (List Nat)}
theorem nx_eq {ts : List TokF} {a : Nat} (h : 1 ≤ (tk ts a).k) : nx ts a = a + 1 := by
  unfold nx
  rw [if_neg]
  intro e
  have := eq_of_beq e
  omega
theorem Adv.name {ts : List TokF} : Adv (nameP ts) := by
  unfold nameP
  refine Adv.tokAt fun a => ?_
  split
  · rename_i h
    intro d x a' d' hh
    have h' : PR.ok (tk ts a) (Go.Proofs.YtdiibenofbcfnaaGreat.nx ts a) d = .ok x a' d' := hh
    injection h' with _ h1 _
    have h5 := eq_of_beq h
    rw [nx_eq (by omega)] at h1
    omega
  · exact Adv.fail _ a
end
open Go.RowKit
set_option maxRecDepth 100000 in
set_option maxHeartbeats 3200000 in
theorem pwithin_any (p : Par) (g : Nat) (ts : List TokF) (n : Nat) (H_list : FC 74 #[.pointer (some ⟨g, 0, none⟩)] (listF ts p) VL g ts n) (s e : List Nat) (hs : ∀ x ∈ s, x < 256) (he : ∀ x ∈ e, x < 256) : FC 76 #[.pointer (some ⟨g, 0, none⟩), .string (strN s), .string (strN e)] (withinF ts p s e) VL g ts n := by
  intro w a d m hn
  obtain ⟨R, hR⟩ : ∃ R, (withinF ts p s e) a d = R := ⟨_, rfl⟩
  rw [hR]
  have HF := Lib.hid hR
  have HO := m.ownN
  have hg := m.lt
  unfold withinF at HF
  clear hR m
  have C_list := Lib.hid H_list
  go_enter Tryz.func76, Tryz.ntmps76
  (repeat' (first | (with_reducible first | refine oXt ?_ | refine oXb ?_) | ((with_reducible refine ib_miss ?_ ?_); exact rfl) | ((first | with_reducible refine ab_drew HO ?_); clear HO; intro _ HO) | ((go_big_may; first | (go_at_call 40; refine arm_take HO HF hg rfl rfl rfl hs ?_ ?_; rotate_left; (intro v pl e W h1 h2 h3; first | (exact bp_panic2 rfl h1 h2 h3) | ((try dsimp only); (repeat (first | go_big_open | (simp only [Exit.then, Exit.inBlock]))); exact bp_panic2 rfl h1 h2 h3)); clear HO HF; intro _ _ HO hle HF) | (go_at_call 40; refine arm_take HO HF hg rfl rfl rfl he ?_ ?_; rotate_left; (intro v pl e W h1 h2 h3; first | (exact bp_panic2 rfl h1 h2 h3) | ((try dsimp only); (repeat (first | go_big_open | (simp only [Exit.then, Exit.inBlock]))); exact bp_panic2 rfl h1 h2 h3)); clear HO HF; intro _ _ HO hle HF) | (go_at_call 74; refine arm_list C_list HO HF hg (by omega) ?_ ?_; rotate_left; (intro v pl e W h1 h2 h3; first | (exact bp_panic2 rfl h1 h2 h3) | ((try dsimp only); (repeat (first | go_big_open | (simp only [Exit.then, Exit.inBlock]))); exact bp_panic2 rfl h1 h2 h3)); clear HO HF; intro _ _ _ _ _ HO hl hle HF) | fail) <;> (try dsimp only)) | go_values | go_skip | go_guarded | go_step | go_upon | (go_ite <;> go_prune <;> (try go_simp))))
  refine bp_tmp (t := 6) rfl rfl rfl ?_
  exact bp_list HO HF rfl List.mem_cons_self (by omega)
theorem pp_ret {α : Type} {m : PP α} {a d : Nat} {R : PR α} (h : m a d = R) : (m >>= fun x => pure x) a d = R := by
  rw [← h]
  show PP.bind m _ a d = _
  unfold PP.bind
  cases m a d <;> rfl
set_option maxRecDepth 100000 in
set_option maxHeartbeats 3200000 in
theorem psubs_any (p : Par) (g : Nat) (ts : List TokF) (n : Nat) (H_list : FC 74 #[.pointer (some ⟨g, 0, none⟩)] (listF ts p) VL g ts n) : FC 72 #[.pointer (some ⟨g, 0, none⟩)] (withinF ts p [91] [93]) VL g ts n := by
  intro w a d m hn
  obtain ⟨R, hR⟩ : ∃ R, (withinF ts p [91] [93]) a d = R := ⟨_, rfl⟩
  rw [hR]
  have HF := Lib.hid (pp_ret hR)
  have HO := m.ownN
  have hg := m.lt
  clear hR m
  have C_within : Hid (FC 76 #[.pointer (some ⟨g, 0, none⟩), .string { data := #[91] }, .string { data := #[93] }] (withinF ts p [91] [93]) VL g ts n) := Lib.hid (pwithin_any p g ts n H_list [91] [93] (by decide) (by decide))
  go_enter Tryz.func72, Tryz.ntmps72
  (repeat' (first | (with_reducible first | refine oXt ?_ | refine oXb ?_) | ((with_reducible refine ib_miss ?_ ?_); exact rfl) | ((first | with_reducible refine ab_drew HO ?_); clear HO; intro _ HO) | ((go_big_may; first | (go_at_call 76; refine arm_list C_within HO HF hg (by omega) ?_ ?_; rotate_left; (intro v pl e W h1 h2 h3; first | (exact bp_panic2 rfl h1 h2 h3) | ((try dsimp only); (repeat (first | go_big_open | (simp only [Exit.then, Exit.inBlock]))); exact bp_panic2 rfl h1 h2 h3)); clear HO HF; intro _ _ _ _ _ HO hl hle HF) | fail) <;> (try dsimp only)) | go_values | go_skip | go_guarded | go_step | go_upon | (go_ite <;> go_prune <;> (try go_simp))))
  refine bp_tmp (t := 2) rfl rfl rfl ?_
  exact bp_list HO HF rfl List.mem_cons_self (by omega)
section
variable {β : Type} {g : Nat} {ts : List TokF} {a d n : Nat} {w w' w0 W : World} {X : List Nat} {S : World → Prop} {bs : List Bx} {rs : List Rw} {F : List Cold} {T : Ending → World → Prop} {K : FuncId} {args : Array Value} {R : PR β}
theorem arm_aheadF {ki : Int} (j : Nat) {k : TokF → PP β} (HO : Hid (Own w0 X (PS g ts a d) bs rs F w)) (HF : Hid ((aheadP ts j >>= k) a d = R)) (hK : K = 69) (ha : args = #[.pointer (some ⟨g, 0, none⟩), .int .i64 ki]) (hk : ki = (j : Int)) (hk2 : j ≤ 10) (h : ∀ W, Hid (Own w0 X (PS g ts a d) bs rs F W) → Hid (k (ahead ts j a) a d = R) → T (.returned (.agg #[.int .i64 ((TokF.k (ahead ts j a) : Nat) : Int), .int .i64 ((TokF.at' (ahead ts j a) : Nat) : Int), .string (strN (TokF.s (ahead ts j a))), .bool (zn (TokF.z (ahead ts j a))), .int .u64 (zh (TokF.z (ahead ts j a))), .int .u64 (zl (TokF.z (ahead ts j a)))])) W) : Calls Tryz.prog K args w T :=
  arm_ahead j HO hK ha hk hk2 fun W hO => h W hO HF
theorem bp_listnil {a0 a' d' : Nat} {R : PR (List NodeT)} (HO : Hid (Own w0 [g] (PS g ts a' d) bs rs F W)) (HF : Hid ((pure [] : PP (List NodeT)) a' d = R)) (hd : d = d') (ha : a0 ≤ a') : PPost g ts w0 a0 d' R VL (.returned (.slice none 0 0)) W :=
  bp_ok HO HF ha hd ⟨[], rfl, World.ownsRow_nil _ _ _ _, fun e he => by cases he⟩
def Cold.cells (b o : Nat) (cs : List Value) : Cold := ⟨fun w F => F b ∧ w.rangeAt b o cs, fun _ _ _ _ hF h => ⟨(hF b h.1).1, fun j v hv => (World.cell?_of_block (hF b h.1).2).trans (h.2 j v hv)⟩⟩
theorem Own.open1 {A : Option Addr} {x : NodeT} {l : List NodeT} (h : Own w0 X S bs rs F w) (hm : Cold.kids A (x :: l) ∈ F) : ∃ b o A' c', A = some ⟨b, o, none⟩ ∧ x.l.length ≤ c' ∧ Own w0 X S bs rs (Cold.cells b o (nodeC x A' c') :: Cold.kids A' x.l :: F) w := by
  have hk := h.cold _ hm
  unfold Cold.kids at hk
  dsimp only at hk
  rw [KidsL] at hk
  obtain ⟨⟨b, o, A', c', e, hF, hr, hc, hn⟩, _⟩ := hk
  rw [KidsN_eq] at hn
  exact ⟨b, o, A', c', e, hc, (h.coldAll (Cold.kids A' x.l) hn).coldAll (Cold.cells b o (nodeC x A' c')) ⟨hF, hr⟩⟩
theorem wo_loadC {P : Program} {o : Oper} {act : Act} {KK : Act → World → Prop} {Q : Exit → Act → World → Prop} (HO : Hid (Own w0 X S bs rs F w)) {ty : TypeId} {x : Operand} (ho : o.op = .load ty x) {b k : Nat} (hx : act.eval x = .pointer (some ⟨b, k, none⟩)) {cs : List Value} (hm : Cold.cells b k cs ∈ F)
    (hd : ∀ w, (isAgg ty).run P w = .ok true w) {n : Nat} (hs : ∀ w, (sizeOf ty).run P w = .ok n w) (hn : cs.length = n) (h : KK (act.put o.dst (.agg cs.toArray)) w) : WOp P o act w KK Q := by
  subst hn
  have hl : (loadCells ⟨b, k, none⟩ cs.length).run P w = .ok cs.toArray w :=
    run_loadCells_list (P := P) w ⟨b, k, none⟩ cs (fun j v hv => by rw [Addr.add_mid]; exact (HO.out.cold _ hm).2 j v hv)
  unfold WOp Oper.wp execOp
  simp only [ho, hx, Instr.loadAt, Instr.sureAddr, Sem.run_bind, Sem.run_pure, Result.andThen_ok, loadVar, hd w, if_true, hs w, hl]
  exact h
end
set_option maxRecDepth 100000 in
set_option maxHeartbeats 3200000 in
theorem pargs_any (p : Par) (g : Nat) (ts : List TokF) (n : Nat) (H_list : FC 74 #[.pointer (some ⟨g, 0, none⟩)] (listF ts p) VL g ts n) : FC 90 #[.pointer (some ⟨g, 0, none⟩)] (argsF ts p) VL g ts n := by
  intro w a d m hn
  obtain ⟨R, hR⟩ : ∃ R, (argsF ts p) a d = R := ⟨_, rfl⟩
  rw [hR]
  have HF := Lib.hid hR
  have HO := m.ownN
  have hg := m.lt
  unfold argsF at HF
  clear hR m
  have C_within : Hid (FC 76 #[.pointer (some ⟨g, 0, none⟩), .string { data := #[40] }, .string { data := #[41] }] (withinF ts p [40] [41]) VL g ts n) := Lib.hid (pwithin_any p g ts n H_list [40] [41] (by decide) (by decide))
  have hby : ∀ x ∈ (ahead ts 1 a).s, x < 256 := by
    have h1 : min (a + 1) (ts.length - 1) < ts.length := by have := HO.out.st.ha; omega
    unfold ahead
    rw [tk_eq h1]
    exact HO.out.st.ok.byte _ (List.getElem_mem h1)
  have h8 := list8 hby [41] (by decide)
  simp only [List.map_cons, List.map_nil] at h8
  have h8' : ((strN (ahead ts 1 a).s).toList == [41]) = decide ((ahead ts 1 a).s = [41]) := by rw [Bool.eq_iff_iff, beq_iff_eq, decide_eq_true_eq]; exact h8
  clear h8 hby
  cases h9 : (((ahead ts 1 a).k : Int) == 9)
  · clear h8'
    go_enter Tryz.func90, Tryz.ntmps90
    (repeat' (first | (with_reducible first | refine oXt ?_ | refine oXb ?_) | ((with_reducible refine ib_miss ?_ ?_); exact rfl) | ((first | ((with_reducible refine to_load ?_); first | refine oL1 HO rfl rfl ?_ | refine oL2 HO rfl rfl ?_ | refine oL3 HO rfl rfl ?_) | ((first | with_reducible refine oAl HO ?_); clear HO; intro _ HO)); (try simp only [Act.put, pS0, pS1, pS2])) | ((first | ((with_reducible refine to_store ?_); first | refine oT1 HO rfl rfl rfl ?_ | refine oT2 HO rfl rfl rfl (by rfl) ?_ | refine oT3 HO rfl rfl rfl rfl ?_) | with_reducible refine ab_drew HO ?_); clear HO; intro _ HO) | ((with_reducible refine ab_junk HO 9 ?_); clear HO; intro _ HO HB) | (simp only [h9, Bool.false_and, Bool.and_false, Bool.false_eq_true, ↓reduceIte] at HF) | ((go_big_may; first | (go_at_call 69; first | (refine arm_aheadF 1 HO HF rfl rfl rfl (by decide) ?_; clear HO HF; intro _ HO HF) | (refine arm_ahead 1 HO rfl rfl rfl (by decide) ?_; clear HO; intro _ HO)) | (go_at_call 28; refine arm_sgnF HO HF rfl rfl HB rfl rfl (by decide) (by decide) ?_; clear HO HF HB; intro _ b hb HO HF; cases b <;> (try simp only [↓reduceIte, Bool.false_eq_true, Bool.not_true, Bool.not_false, pp_pure] at HF)) | fail) <;> (try dsimp only)) | go_values | go_skip | go_guarded | go_step | go_upon | (go_ite <;> go_prune <;> (try go_simp))))
    all_goals (replace HF := Lib.hid (pp_ret HF.out))
    (repeat' (first | (with_reducible first | refine oXt ?_ | refine oXb ?_) | ((with_reducible refine ib_miss ?_ ?_); exact rfl) | ((first | ((with_reducible refine to_load ?_); first | refine oL1 HO rfl rfl ?_ | refine oL2 HO rfl rfl ?_ | refine oL3 HO rfl rfl ?_) | ((first | with_reducible refine oAl HO ?_); clear HO; intro _ HO)); (try simp only [Act.put, pS0, pS1, pS2])) | ((first | ((with_reducible refine to_store ?_); first | refine oT1 HO rfl rfl rfl ?_ | refine oT2 HO rfl rfl rfl (by rfl) ?_ | refine oT3 HO rfl rfl rfl rfl ?_) | with_reducible refine ab_drew HO ?_); clear HO; intro _ HO) | ((with_reducible refine ab_junk HO 9 ?_); clear HO; intro _ HO HB) | ((go_big_may; first | (go_at_call 76; refine arm_list C_within HO HF hg (by omega) ?_ ?_; rotate_left; (intro v pl e W h1 h2 h3; first | (exact bp_panic2 rfl h1 h2 h3) | ((try dsimp only); (repeat (first | go_big_open | (simp only [Exit.then, Exit.inBlock]))); exact bp_panic2 rfl h1 h2 h3)); clear HO HF; intro _ _ _ _ _ HO hl hle HF) | fail) <;> (try dsimp only)) | go_values | go_skip | go_guarded | go_step | go_upon | (go_ite <;> go_prune <;> (try go_simp))))
    all_goals (refine bp_tmp (t := 2) rfl rfl rfl ?_; exact bp_list HO HF rfl List.mem_cons_self (by omega))
  · cases hs : decide ((ahead ts 1 a).s = [41])
    rotate_left
    · rw [hs] at h8'
      go_enter Tryz.func90, Tryz.ntmps90
      (repeat' (first | (with_reducible first | refine oXt ?_ | refine oXb ?_) | ((with_reducible refine ib_miss ?_ ?_); exact rfl) | ((first | ((with_reducible refine to_load ?_); first | refine oL1 HO rfl rfl ?_ | refine oL2 HO rfl rfl ?_ | refine oL3 HO rfl rfl ?_) | ((first | with_reducible refine oAl HO ?_); clear HO; intro _ HO)); (try simp only [Act.put, pS0, pS1, pS2])) | ((first | ((with_reducible refine to_store ?_); first | refine oT1 HO rfl rfl rfl ?_ | refine oT2 HO rfl rfl rfl (by rfl) ?_ | refine oT3 HO rfl rfl rfl rfl ?_) | with_reducible refine ab_drew HO ?_); clear HO; intro _ HO) | ((with_reducible refine ab_junk HO 9 ?_); clear HO; intro _ HO HB) | (simp only [h9, hs, Bool.false_and, Bool.true_and, Bool.false_eq_true, ↓reduceIte] at HF) | ((go_big_may; first | (go_at_call 69; first | (refine arm_aheadF 1 HO HF rfl rfl rfl (by decide) ?_; clear HO HF; intro _ HO HF) | (refine arm_ahead 1 HO rfl rfl rfl (by decide) ?_; clear HO; intro _ HO)) | (go_at_call 28; refine arm_sgnF HO HF rfl rfl HB rfl rfl (by decide) (by decide) ?_; clear HO HF HB; intro _ b hb HO HF; cases b <;> (try simp only [↓reduceIte, Bool.false_eq_true, Bool.not_true, Bool.not_false, pp_pure] at HF)) | (go_at_call 29; first | (refine arm_nextF HO HF hg rfl rfl ?_; clear HO HF; intro _ hle HO HF) | (refine arm_next HO hg rfl rfl ?_; clear HO; intro _ HO)) | fail) <;> (try dsimp only)) | go_values | go_skip | go_guarded | go_step | go_upon | (go_ite <;> go_prune <;> (try go_simp))))
      · replace HF := Lib.hid (pp_ret HF.out)
        (repeat' (first | (with_reducible first | refine oXt ?_ | refine oXb ?_) | ((with_reducible refine ib_miss ?_ ?_); exact rfl) | ((first | ((with_reducible refine to_load ?_); first | refine oL1 HO rfl rfl ?_ | refine oL2 HO rfl rfl ?_ | refine oL3 HO rfl rfl ?_) | ((first | with_reducible refine oAl HO ?_); clear HO; intro _ HO)); (try simp only [Act.put, pS0, pS1, pS2])) | ((first | ((with_reducible refine to_store ?_); first | refine oT1 HO rfl rfl rfl ?_ | refine oT2 HO rfl rfl rfl (by rfl) ?_ | refine oT3 HO rfl rfl rfl rfl ?_) | with_reducible refine ab_drew HO ?_); clear HO; intro _ HO) | ((with_reducible refine ab_junk HO 9 ?_); clear HO; intro _ HO HB) | ((go_big_may; first | (go_at_call 76; refine arm_list C_within HO HF hg (by omega) ?_ ?_; rotate_left; (intro v pl e W h1 h2 h3; first | (exact bp_panic2 rfl h1 h2 h3) | ((try dsimp only); (repeat (first | go_big_open | (simp only [Exit.then, Exit.inBlock]))); exact bp_panic2 rfl h1 h2 h3)); clear HO HF; intro _ _ _ _ _ HO hl hle HF) | fail) <;> (try dsimp only)) | go_values | go_skip | go_guarded | go_step | go_upon | (go_ite <;> go_prune <;> (try go_simp))))
        refine bp_tmp (t := 2) rfl rfl rfl ?_
        exact bp_list HO HF rfl List.mem_cons_self (by omega)
      · refine bp_tmp (t := 2) rfl rfl rfl ?_
        refine bp_listnil HO HF rfl ?_
        omega
    · rw [hs] at h8'
      go_enter Tryz.func90, Tryz.ntmps90
      (repeat' (first | (with_reducible first | refine oXt ?_ | refine oXb ?_) | ((with_reducible refine ib_miss ?_ ?_); exact rfl) | ((first | ((with_reducible refine to_load ?_); first | refine oL1 HO rfl rfl ?_ | refine oL2 HO rfl rfl ?_ | refine oL3 HO rfl rfl ?_) | ((first | with_reducible refine oAl HO ?_); clear HO; intro _ HO)); (try simp only [Act.put, pS0, pS1, pS2])) | ((first | ((with_reducible refine to_store ?_); first | refine oT1 HO rfl rfl rfl ?_ | refine oT2 HO rfl rfl rfl (by rfl) ?_ | refine oT3 HO rfl rfl rfl rfl ?_) | with_reducible refine ab_drew HO ?_); clear HO; intro _ HO) | ((with_reducible refine ab_junk HO 9 ?_); clear HO; intro _ HO HB) | (simp only [h9, hs, Bool.false_and, Bool.true_and, Bool.and_false, Bool.false_eq_true, ↓reduceIte] at HF) | ((go_big_may; first | (go_at_call 69; first | (refine arm_aheadF 1 HO HF rfl rfl rfl (by decide) ?_; clear HO HF; intro _ HO HF) | (refine arm_ahead 1 HO rfl rfl rfl (by decide) ?_; clear HO; intro _ HO)) | (go_at_call 28; refine arm_sgnF HO HF rfl rfl HB rfl rfl (by decide) (by decide) ?_; clear HO HF HB; intro _ b hb HO HF; cases b <;> (try simp only [↓reduceIte, Bool.false_eq_true, Bool.not_true, Bool.not_false, pp_pure] at HF)) | fail) <;> (try dsimp only)) | go_values | go_skip | go_guarded | go_step | go_upon | (go_ite <;> go_prune <;> (try go_simp))))
      all_goals (replace HF := Lib.hid (pp_ret HF.out))
      (repeat' (first | (with_reducible first | refine oXt ?_ | refine oXb ?_) | ((with_reducible refine ib_miss ?_ ?_); exact rfl) | ((first | ((with_reducible refine to_load ?_); first | refine oL1 HO rfl rfl ?_ | refine oL2 HO rfl rfl ?_ | refine oL3 HO rfl rfl ?_) | ((first | with_reducible refine oAl HO ?_); clear HO; intro _ HO)); (try simp only [Act.put, pS0, pS1, pS2])) | ((first | ((with_reducible refine to_store ?_); first | refine oT1 HO rfl rfl rfl ?_ | refine oT2 HO rfl rfl rfl (by rfl) ?_ | refine oT3 HO rfl rfl rfl rfl ?_) | with_reducible refine ab_drew HO ?_); clear HO; intro _ HO) | ((with_reducible refine ab_junk HO 9 ?_); clear HO; intro _ HO HB) | ((go_big_may; first | (go_at_call 76; refine arm_list C_within HO HF hg (by omega) ?_ ?_; rotate_left; (intro v pl e W h1 h2 h3; first | (exact bp_panic2 rfl h1 h2 h3) | ((try dsimp only); (repeat (first | go_big_open | (simp only [Exit.then, Exit.inBlock]))); exact bp_panic2 rfl h1 h2 h3)); clear HO HF; intro _ _ _ _ _ HO hl hle HF) | fail) <;> (try dsimp only)) | go_values | go_skip | go_guarded | go_step | go_upon | (go_ite <;> go_prune <;> (try go_simp))))
      all_goals (refine bp_tmp (t := 2) rfl rfl rfl ?_; exact bp_list HO HF rfl List.mem_cons_self (by omega))
open Go.RowKit
def regL (src : List Nat) (a : Nat) : Except Int (TokF × Nat) := match quotN 47 (src.drop (a + 1)) with
  | none => .error 7
  | some n => .ok (⟨4, a, unreg ((src.drop (a + 1)).take n), 0⟩, n + 2)
theorem wo_appV {w0 w : World} {bs : List Bx} {rs : List Rw} {F : List Cold} {K : Act → World → Prop} {act : Act} {o : Oper} {Q : Exit → Act → World → Prop} {X : List Nat} {S : World → Prop} {v : Value} {l : List Nat} {n : Nat} (HO : Hid (Own w0 X S bs (⟨5, 1, v, n, bvs l⟩ :: rs) F w)) (hn : Hid (n = l.length)) {s x : Operand}
    (ho : o.op = .call { callee := .builtin .append, args := #[s, x], argTypes := #[23, 23] }) (hs : act.eval s = v) {r c : Nat} (hx : act.eval x = .slice (some ⟨r, 0, none⟩) 1 c) {u : Int} (HB : Hid (Blk w r 5 #[.int .u8 u])) (y : Nat) (hy : u = (y : Int)) (hm : n ≤ 1000000)
    (h : ∀ A' c' W, (l ++ [y]).length ≤ c' → Hid (Own w0 X S bs (⟨5, 1, .slice A' (l ++ [y]).length c', (l ++ [y]).length, bvs (l ++ [y])⟩ :: rs) F W) → K (act.put o.dst (.slice A' (l ++ [y]).length c')) W) : WOp Tryz.prog o act w K Q := by
  have e := hn.out
  subst e
  exact wo_appU HO ho hs hx HB y hy hm h
set_option maxRecDepth 100000 in
set_option maxHeartbeats 3200000 in
theorem regex_r {g : Nat} {src : List Nat} {a : Nat} {V : Value} (w : World) (m : RdrS w g src a V) (ha : a < src.length) : Calls Tryz.prog 24 #[.pointer (some ⟨g, 0, none⟩)] w (LexPost g src a V (regL src a) w) := by
  have HO := LS.own m
  have hg := m.lt
  have hlen := m.len
  have HB8 := Lib.hid m.byte
  obtain ⟨R, hR⟩ : ∃ R, regL src a = R := ⟨_, rfl⟩
  rw [hR]
  unfold regL at hR
  have HR := Lib.hid hR
  clear hR m
  go_enter Tryz.func24, Tryz.ntmps24
  (repeat' (first | (with_reducible first | refine oXt ?_ | refine oXb ?_) | ((with_reducible refine ib_miss ?_ ?_); exact rfl) | ((first | ((with_reducible refine to_load ?_); first | refine oL1 HO rfl rfl ?_ | refine oL2 HO rfl rfl ?_ | refine oL3 HO rfl rfl ?_ | (refine lo_loadA HO rfl rfl Tryz.isAgg3 ?_; (try simp only [Act.put, pS0, pS1, pS2]))) | ((first | with_reducible refine oAl HO ?_); clear HO; intro _ HO)); (try simp only [Act.put, pS0, pS1, pS2])) | ((first | ((with_reducible refine to_store ?_); first | refine oT1 HO rfl rfl rfl ?_ | refine oT2 HO rfl rfl rfl (by rfl) ?_ | refine oT3 HO rfl rfl rfl rfl ?_) | with_reducible refine ab_drew HO ?_); clear HO; intro _ HO) | ((with_reducible refine ab_junk HO 9 ?_); clear HO; intro _ HO HB) | ((with_reducible refine to_make ?_); refine wo_make HO rfl rfl rfl (by omega) ?_; clear HO; intro _ _ _ hcap HO; (try simp only [Act.put, pS0, pS1, pS2])) | ((go_big_may; first | (go_at_call 35; refine arm_quoted HO hg ha (.inr rfl) rfl rfl ?_ ?_; (clear HO; intro hQ b W HO); rotate_left; (clear HO; intro n A c W hQ hln hnc HO); rotate_left) | fail) <;> (try dsimp only)) | go_values | go_skip | go_guarded | go_step | go_upon | (go_ite <;> go_prune <;> (try go_simp))))
  · refine bp_cellT HO (t := 2) (s := 3) rfl rfl rfl (by repeat (first | exact mH | apply mT)) Tryz.isAgg59 Tryz.sizeOf59 (by rfl) rfl ?_
    have hR := HR.out
    rw [hQ] at hR
    subst hR
    exact ⟨⟨_, by rw [tokV_0]; rfl, HO.out.flt List.mem_cons_self⟩, Upd.of_kept HO.out.kept⟩
  · obtain ⟨T, hT⟩ : ∃ T, (src.drop (a + 1)).take n = T := ⟨_, rfl⟩
    have hTn : T.length = n := by rw [← hT]; simp; omega
    have hw : wellS false T = true := by rw [← hT]; exact quotS_well 47 _ false n hQ
    have hT8 : ∀ x ∈ T, x < 256 := by rw [← hT]; exact fun x hx => HB8.out x (List.mem_of_mem_drop (List.mem_of_mem_take hx))
    have hR := HR.out
    rw [hQ] at hR
    simp only at hR
    rw [hT] at HO hR
    have HR := Lib.hid hR
    have HTN := Lib.hid hTn
    have HU := Lib.hid (RegI.start hw)
    have HT8 := Lib.hid hT8
    clear hR hTn hw hT8 hT hQ
    go_loopw [7, 8] (fun ov iv W => ∃ (k : Nat) (out : List Nat) (A' : Option Addr) (c' : Nat), ov = .slice A' out.length c' ∧ iv = .int .i64 (k : Int) ∧ out.length ≤ c' ∧ k ≤ n ∧ Hid (RegI T (unreg T) k out) ∧ Hid (Own w [g] (LS g src (a + n + 2) V A T) [⟨w.heap.size, 59, [.int .i64 0, .int .i64 0, .string { data := #[] }, .bool false, .int .u64 0, .int .u64 0]⟩] [⟨5, 1, .slice A' out.length c', out.length, bvs out⟩] [] W)) (fun _ iv _ => n - (intOf iv).toNat)
    case atStart => exact ⟨0, [], _, _, rfl, rfl, hcap, Nat.zero_le _, HU, HO⟩
    case round =>
      clear HO HU hcap
      obtain ⟨k, out, A', c', rfl, rfl, hcap, hkn, HU, HO⟩ := hrel
      have hol : out.length ≤ 1000000 := by have := HU.out.2.2.2; omega
      by_cases hk : k < n
      · have hd : decide ((k : Int) < (n : Int)) = true := decide_eq_true (by omega)
        have hkT : k < T.length := by rw [HTN.out]; exact hk
        have hk6 : k ≤ 1000000 := by omega
        obtain ⟨ad, rfl, _, hcell⟩ := HO.out.st.b.2 (Nat.lt_of_le_of_lt (Nat.zero_le k) hkT)
        have k2 := hcell k hkT
        have HCELL := Lib.hid hcell
        clear hcell
        obtain ⟨sb, qo, sp, hq⟩ : ∃ sb qo sp, ad.add k = (⟨sb, qo, sp⟩ : Addr) := ⟨_, _, _, rfl⟩
        rw [hq] at k2
        obtain ⟨x, hxe⟩ : ∃ x, x = T[k] := ⟨_, rfl⟩
        rw [← hxe] at k2
        by_cases hx : x = 92
        · subst hx
          have hjT := HU.out.next hkT hxe.symm
          have hk1n : k + 1 < n := HTN.out ▸ hjT
          have k3 := HCELL.out (k + 1) hjT
          obtain ⟨sb2, qo2, sp2, hq2⟩ : ∃ sb qo sp, ad.add (k + 1) = (⟨sb, qo, sp⟩ : Addr) := ⟨_, _, _, rfl⟩
          rw [hq2] at k3
          obtain ⟨y, hye⟩ : ∃ y, y = T[k + 1] := ⟨_, rfl⟩
          have hy8 : y < 256 := by rw [hye]; exact HT8.out _ (List.getElem_mem hjT)
          rw [← hye] at k3
          have hd2 : decide ((k : Int) + 1 < (n : Int)) = true := decide_eq_true (by omega)
          by_cases hy : y = 47
          · have n47 : ((y : Int) != 47) = false := by rw [hy]; rfl
            have HU2 := Lib.hid (HU.out.slash hjT hxe.symm (hye.symm.trans hy))
            rw [← hye] at HU2
            clear hye hxe hd hy
            (repeat' (first | (with_reducible first | refine oXt ?_ | refine oXb ?_) | ((with_reducible refine ib_miss ?_ ?_); exact rfl) | ((first | ((with_reducible refine to_load ?_); first | refine oL1 HO rfl rfl ?_ | refine oL2 HO rfl rfl ?_ | refine oL3 HO rfl rfl ?_) | ((first | with_reducible refine oAl HO ?_); clear HO; intro _ HO)); (try simp only [Act.put, pS0, pS1, pS2])) | ((first | ((with_reducible refine to_store ?_); first | refine oT1 HO rfl rfl rfl ?_ | refine oT2 HO rfl rfl rfl (by rfl) ?_ | refine oT3 HO rfl rfl rfl rfl ?_) | with_reducible refine ab_drew HO ?_); clear HO; intro _ HO) | ((with_reducible refine ab_junk HO 9 ?_); clear HO; intro _ HO HB) | ((with_reducible refine to_append ?_); refine wo_appU HO rfl rfl rfl HB (y) (by first | rfl | (simp; done) | omega) (by first | omega | (simp; omega)) ?_; clear HO HB; intro _ _ _ hcap HO; (try simp only [Act.put, pS0, pS1, pS2])) | ((with_reducible refine ab_junk HO 5 ?_); clear HO; intro _ HO HB) | go_values | go_skip | go_guarded | go_step | go_upon | (go_ite <;> go_prune <;> (try go_simp))))
            go_roundw
            case rel => exact ⟨k + 2, _, _, _, rfl, by first | rfl | (congr 1; omega), hcap, hk1n, HU2, HO⟩
            case measure => exact meas2 (k' := k + 2) (by first | rfl | omega) (by omega) hk
          · have n47 : ((y : Int) != 47) = true := by rw [bne_iff_ne]; exact fun e => hy (by exact_mod_cast e)
            have HU2 := Lib.hid (HU.out.other hjT hxe.symm (fun e => hy (hye.trans e)))
            rw [← hye] at HU2
            have HYE := Lib.hid hye
            have HQ2 := Lib.hid hq2
            clear hye hxe hd hy
            (repeat' (go_not_at_region 13; first | (with_reducible first | refine oXt ?_ | refine oXb ?_) | ((with_reducible refine ib_miss ?_ ?_); exact rfl) | ((first | ((with_reducible refine to_load ?_); first | refine oL1 HO rfl rfl ?_ | refine oL2 HO rfl rfl ?_ | refine oL3 HO rfl rfl ?_) | ((first | with_reducible refine oAl HO ?_); clear HO; intro _ HO)); (try simp only [Act.put, pS0, pS1, pS2])) | ((first | ((with_reducible refine to_store ?_); first | refine oT1 HO rfl rfl rfl ?_ | refine oT2 HO rfl rfl rfl (by rfl) ?_ | refine oT3 HO rfl rfl rfl rfl ?_) | with_reducible refine ab_drew HO ?_); clear HO; intro _ HO) | ((with_reducible refine ab_junk HO 9 ?_); clear HO; intro _ HO HB) | ((with_reducible refine to_append ?_); refine wo_appU HO rfl rfl rfl HB (92) (by first | rfl | (simp; done) | omega) (by first | omega | (simp; omega)) ?_; clear HO HB; intro _ _ _ hcap HO; (try simp only [Act.put, pS0, pS1, pS2])) | ((with_reducible refine ab_junk HO 5 ?_); clear HO; intro _ HO HB) | go_values | go_skip | go_guarded | go_step | go_upon | (go_ite <;> go_prune <;> (try go_simp))))
            obtain ⟨m, hm⟩ : ∃ m, m = out.length + 1 := ⟨_, rfl⟩
            have hml : (out ++ [92]).length = m := by rw [hm]; simp
            rw [hml] at HO ⊢
            have HML := Lib.hid hml.symm
            have hm6 : m ≤ 1000000 := by have := HU.out.2.2.2; omega
            clear hm hml
            clear k2 k3
            obtain ⟨ad', e', _, hcell2⟩ := HO.out.st.b.2 (Nat.lt_of_le_of_lt (Nat.zero_le k) hkT)
            obtain rfl : ad = ad' := Option.some.inj e'
            have k4 := hcell2 (k + 1) hjT
            rw [HQ2.out, ← HYE.out] at k4
            clear hcell2 e'
            (repeat' (first | (with_reducible first | refine oXt ?_ | refine oXb ?_) | ((with_reducible refine ib_miss ?_ ?_); exact rfl) | ((first | ((with_reducible refine to_load ?_); first | refine oL1 HO rfl rfl ?_ | refine oL2 HO rfl rfl ?_ | refine oL3 HO rfl rfl ?_) | ((first | with_reducible refine oAl HO ?_); clear HO; intro _ HO)); (try simp only [Act.put, pS0, pS1, pS2])) | ((first | ((with_reducible refine to_store ?_); first | refine oT1 HO rfl rfl rfl ?_ | refine oT2 HO rfl rfl rfl (by rfl) ?_ | refine oT3 HO rfl rfl rfl rfl ?_) | with_reducible refine ab_drew HO ?_); clear HO; intro _ HO) | ((with_reducible refine ab_junk HO 9 ?_); clear HO; intro _ HO HB) | ((with_reducible refine to_append ?_); refine wo_appV HO HML rfl rfl rfl HB (y) (by first | rfl | (simp; done) | omega) (by first | omega | (simp; omega)) ?_; clear HO HB; intro _ _ _ hcap HO; (try simp only [Act.put, pS0, pS1, pS2])) | ((with_reducible refine ab_junk HO 5 ?_); clear HO; intro _ HO HB) | go_values | go_skip | go_guarded | go_step | go_upon | (go_ite <;> go_prune <;> (try go_simp))))
            go_roundw
            case rel => exact ⟨k + 2, _, _, _, rfl, by first | rfl | (congr 1; omega), hcap, hk1n, HU2, HO⟩
            case measure => exact meas2 (k' := k + 2) (by first | rfl | omega) (by omega) hk
        · have HU2 := Lib.hid (HU.out.plain hkT (fun e => hx (hxe.trans e)))
          rw [← hxe] at HU2
          have n92 : ((x : Int) == 92) = false := by rw [beq_eq_false_iff_ne]; exact fun e => hx (by exact_mod_cast e)
          clear hxe HU hx
          (repeat' (first | (with_reducible first | refine oXt ?_ | refine oXb ?_) | ((with_reducible refine ib_miss ?_ ?_); exact rfl) | ((first | ((with_reducible refine to_load ?_); first | refine oL1 HO rfl rfl ?_ | refine oL2 HO rfl rfl ?_ | refine oL3 HO rfl rfl ?_) | ((first | with_reducible refine oAl HO ?_); clear HO; intro _ HO)); (try simp only [Act.put, pS0, pS1, pS2])) | ((first | ((with_reducible refine to_store ?_); first | refine oT1 HO rfl rfl rfl ?_ | refine oT2 HO rfl rfl rfl (by rfl) ?_ | refine oT3 HO rfl rfl rfl rfl ?_) | with_reducible refine ab_drew HO ?_); clear HO; intro _ HO) | ((with_reducible refine ab_junk HO 9 ?_); clear HO; intro _ HO HB) | ((with_reducible refine to_append ?_); refine wo_appU HO rfl rfl rfl HB (x) (by first | rfl | (simp; done) | omega) (by first | omega | (simp; omega)) ?_; clear HO HB; intro _ _ _ hcap HO; (try simp only [Act.put, pS0, pS1, pS2])) | ((with_reducible refine ab_junk HO 5 ?_); clear HO; intro _ HO HB) | go_values | go_skip | go_guarded | go_step | go_upon | (go_ite <;> go_prune <;> (try go_simp))))
          go_roundw
          case rel => exact ⟨k + 1, _, _, _, rfl, by first | rfl | (rw [w1_nat hk6]; rfl), hcap, hk, HU2, HO⟩
          case measure => exact meas2 (by first | rfl | (rw [w1_nat hk6]; rfl)) (Nat.lt_succ_self k) hk
      · have hd : decide ((k : Int) < (n : Int)) = false := decide_eq_false (by omega)
        have hout := HU.out.done (by rw [HTN.out]; omega)
        obtain ⟨A9, c9, e9, hc9, HO9⟩ := HO.out.freezeG (fun h => by rw [List.length_eq_zero_iff.1 h]; rfl)
        dsimp only at e9 hc9
        injection e9 with e91 _ e92
        subst e91 e92
        subst hout
        have hstr := str_rowAt (B := wr.heap.size) (c := c') (HO9.cold _ List.mem_cons_self) (fun x hx => HT8.out x (unreg_sub _ T (Nat.le_refl _) x hx)) (fun b hb => hb.2.1)
        have hfin : R = .ok (⟨4, a, unreg T, 0⟩, n + 2) := by rw [← HR.out]
        generalize unreg T = U at hstr hfin
        have HFIN := Lib.hid hfin
        clear HO HU hol hc9 hcap HR hfin
        have HO := Lib.hid HO9
        clear HO9
        (repeat' (first | (with_reducible first | refine oXt ?_ | refine oXb ?_) | ((with_reducible refine ib_miss ?_ ?_); exact rfl) | ((first | ((with_reducible refine to_load ?_); first | refine oL1 HO rfl rfl ?_ | refine oL2 HO rfl rfl ?_ | refine oL3 HO rfl rfl ?_) | ((first | with_reducible refine oAl HO ?_); clear HO; intro _ HO)); (try simp only [Act.put, pS0, pS1, pS2])) | ((first | ((with_reducible refine to_store ?_); first | refine oT1 HO rfl rfl rfl ?_ | refine oT2 HO rfl rfl rfl (by rfl) ?_ | refine oT3 HO rfl rfl rfl rfl ?_) | with_reducible refine ab_drew HO ?_); clear HO; intro _ HO) | ((with_reducible refine ab_junk HO 9 ?_); clear HO; intro _ HO HB) | go_values | go_skip | go_guarded | go_step | go_upon | (go_ite <;> go_prune <;> (try go_simp))))
        refine bp_cellT HO (t := 2) (s := 3) rfl rfl rfl (by repeat (first | exact mH | apply mT)) Tryz.isAgg59 Tryz.sizeOf59 (by rfl) rfl ?_
        rw [HFIN.out]
        exact ⟨by rw [tokV_0]; rfl, HO.out.st.r, Upd.of_kept HO.out.kept⟩
end Go.Proofs.YtdiibenofbcfnaaGreat
