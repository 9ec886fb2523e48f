/- Several texts put together: LexI, ParJ, ParK, SimA. -/
import Derived.Test.YtdiibenofbcfnaaBu7
import Derived.Test.YtdiibenofbcfnaaBu11
import Derived.Test.YtdiibenofbcfnaaBu12
import Derived.Test.YtdiibenofbcfnaaBu18
import Derived.Laws.MakeOwn
import Derived.Test.YtdiibenofbcfnaaBu3
set_option linter.unusedSimpArgs false
set_option linter.unusedVariables false
namespace Go.Proofs.Ytdiibenofbcfnaa
open Go.RowKit
structure LS (g : Nat) (src : List Nat) (a : Nat) (V : Value) (A : Option Addr) (T : List Nat) (w : World) : Prop where
  r : RdrS w g src a V
  b : RB w g A T
section
variable {g : Nat} {src : List Nat} {a : Nat} {V : Value} {A : Option Addr} {T : List Nat} {w w' w0 W : World} {bs : List Bx} {rs : List Rw} {F : List Cold} {K : Act → World → Prop} {act : Act} {P : Program} {o : Oper} {Q : Exit → Act → World → Prop} {TT : Ending → World → Prop}
theorem frozen_of_block {w w' : World} {p : Addr} (h : w'.heap[p.block]? = w.heap[p.block]?) : w'.frozen? p = w.frozen? p := by unfold World.frozen?; rw [h]
theorem RdrS.same (m : RdrS w g src a V) (hb : ∀ b, b ≤ g → w'.heap[b]? = w.heap[b]?) (hs : w.heap.size ≤ w'.heap.size) : RdrS w' g src a V := by
  obtain ⟨A, c, b, r, hc⟩ := m.box
  have hg := hb g (Nat.le_refl _)
  refine ⟨⟨A, c, ⟨(World.cell?_of_block hg).trans b.c0, (World.cell?_of_block hg).trans b.c1, (World.cell?_of_block hg).trans b.c2, (frozen_of_block hg).trans b.f0, (frozen_of_block hg).trans b.f1, (frozen_of_block hg).trans b.f2, Nat.lt_of_lt_of_le b.z hs⟩, r.keep fun p hp => World.cell?_of_block (hb p.block (Nat.le_of_lt hp)), hc⟩, m.len⟩
theorem LS.loc {n : Nat} (hn : g < n) : Loc (LS g src a V A T) n := by
  intro w w' hb hs h
  exact ⟨h.r.same (fun b hb2 => hb b (by omega)) hs, h.b.keep fun p hp => World.cell?_of_block (hb p.block (by omega))⟩
theorem Kept.of_upd (h : Upd g none w w') : Kept [g] w w' := ⟨h.os, h.tape, h.output, h.size, fun k hk hx => h.block k hk (by simpa using hx) (by simp)⟩
theorem Upd.of_kept (h : Kept [g] w w') : Upd g none w w' := ⟨h.os, h.tape, h.output, h.size, fun k hk hx _ => h.block k hk (by simpa using hx)⟩
theorem Own.lcall {a' : Nat} {V' : Value} {A' : Option Addr} {T' : List Nat} (HO : Own w0 [g] (LS g src a V A T) bs rs F w) (hg : g < w0.heap.size) (q : Kept [g] w W) (hs : LS g src a' V' A' T' W) : Own w0 [g] (LS g src a' V' A' T') bs rs F W :=
  HO.call (Y := [g]) (fun y hy => ⟨hy, by rw [List.mem_singleton.1 hy]; exact hg⟩) q hs (LS.loc hg)
theorem LS.own (m : RdrS w g src a V) : Hid (Own w [g] (LS g src a V none []) [] [] [] w) := Lib.hid (Own.init ⟨m, ⟨by simp, fun h => absurd h (by simp)⟩⟩ (LS.loc m.lt))
theorem lo_loadA (HO : Hid (Own w0 [g] (LS g src a V A T) bs rs F w)) {ty : TypeId} {x : Operand} (ho : o.op = .load ty x) (hx : act.eval x = .pointer (some ⟨g, 1, none⟩)) (hd : ∀ w, (isAgg ty).run P w = .ok false w) (h : K (act.put o.dst (.int .i64 (a : Int))) w) : WOp P o act w K Q := by
  obtain ⟨A, c, b, _⟩ := HO.out.st.r.box
  have k1 := b.c1
  unfold WOp Oper.wp execOp
  simp only [ho, hx, Instr.loadAt, Instr.sureAddr, Sem.run_bind, Sem.run_pure, Result.andThen_ok, loadVar, hd w, Bool.false_eq_true, if_false, run_load, k1]
  exact h
theorem lo_load2 (HO : Hid (Own w0 [g] (LS g src a V A T) bs rs F w)) {ty : TypeId} {x : Operand} (ho : o.op = .load ty x) (hx : act.eval x = .pointer (some ⟨g, 2, none⟩)) (hd : ∀ w, (isAgg ty).run P w = .ok false w) (h : K (act.put o.dst V) w) : WOp P o act w K Q := by
  obtain ⟨A, c, b, _⟩ := HO.out.st.r.box
  have k1 := b.c2
  unfold WOp Oper.wp execOp
  simp only [ho, hx, Instr.loadAt, Instr.sureAddr, Sem.run_bind, Sem.run_pure, Result.andThen_ok, loadVar, hd w, Bool.false_eq_true, if_false, run_load, k1]
  exact h
theorem lo_storeA (HO : Hid (Own w0 [g] (LS g src a V A T) bs rs F w)) (hg : g < w0.heap.size) {ty : TypeId} {x y : Operand} (ho : o.op = .store ty x y) (hdst : o.dst = none) (hx : act.eval x = .pointer (some ⟨g, 1, none⟩)) {v : Int} (hy : act.eval y = .int .i64 v) (hs : ∀ w, (sizeOf ty).run P w = .ok 1 w) (a' : Nat) (hv : v = (a' : Int))
    (h : ∀ W, Hid (Own w0 [g] (LS g src a' V A T) bs rs F W) → K act W) : WOp P o act w K Q := by
  obtain ⟨A1, c, b, _⟩ := HO.out.st.r.box
  have k1 := b.c1
  have f1 := b.f1
  have kz := b.z
  subst hv
  have := h _ (Lib.hid (HO.out.lcall hg (kept_set _ _ _ _) ⟨HO.out.st.r.put a', HO.out.st.b.keep fun p hp => World.cell?_setCell_other _ _ _ _ (fun e => by subst e; simp at hp)⟩))
  unfold WOp Oper.wp execOp
  have hst : ∀ u : Int, (storeCells ⟨g, 1, none⟩ [Value.int .i64 u]).run P w = .ok () (w.setCell ⟨g, 1, none⟩ (.int .i64 u)) := fun u => by simp [go_sem, storeCells, k1, f1, kz]
  simp only [ho, hx, hy, Instr.storeAt, Instr.sureAddr, Sem.run_bind, Sem.run_pure, Result.andThen_ok, storeVar, hs w, Value.cells, List.size_toArray, List.length_cons, List.length_nil, Nat.zero_add, ne_eq, not_true, if_false, hst]
  simpa [Oper.upon, hdst, Act.put] using this
def Cold.flt (v : Value) (p : Nat) (k : Int) : Cold := ⟨fun w F => ∃ b, v = .iface 46 (.pointer (some ⟨b, 0, none⟩)) ∧ F b ∧ Blk w b 70 #[.int .i64 (p : Int), .iface 58 (.int .i64 k)], fun _ _ _ _ hF h => by
  obtain ⟨b, e, hb, hk⟩ := h
  exact ⟨b, e, (hF b hb).1, (hF b hb).2.trans hk⟩⟩
theorem Own.flt {X : List Nat} {S : World → Prop} (h : Own w0 X S bs rs F w) {v : Value} {p : Nat} {k : Int} (hm : Cold.flt v p k ∈ F) : FltV w w0.heap.size v p k := by
  obtain ⟨b, e, hb, hk⟩ := h.cold _ hm
  exact ⟨b, e, hb.1, hk⟩
theorem arm_quoted {KF : FuncId} {args : Array Value} (HO : Hid (Own w0 [g] (LS g src a V A T) bs rs F w)) (hg : g < w0.heap.size) (ha : a < src.length) {sign : Nat} (hs : sign = 34 ∨ sign = 47) (hK : KF = 34) (hargs : args = #[.pointer (some ⟨g, 0, none⟩), .int .u8 (sign : Int)])
    (hnone : quotN sign (src.drop (a + 1)) = none → ∀ b W, Hid (Own w0 [g] (LS g src a V A T) bs rs (Cold.flt (.iface 46 (.pointer (some ⟨b, 0, none⟩))) a 7 :: F) W) → TT (.returned (.tuple #[.slice none 0 0, .iface 46 (.pointer (some ⟨b, 0, none⟩))])) W)
    (hsome : ∀ n A' c W, quotN sign (src.drop (a + 1)) = some n → a + 1 + n < src.length → n ≤ c → Hid (Own w0 [g] (LS g src (a + n + 2) V A' ((src.drop (a + 1)).take n)) bs rs F W) → TT (.returned (.tuple #[.slice A' n c, .nilIface])) W) : Calls Try.prog KF args w TT := by
  subst hK hargs
  refine (quoted_r w HO.out.st.r ha sign hs).mono fun e W hp => ?_
  rcases hp with ⟨h1, ⟨v, rfl, hv⟩, q⟩ | ⟨n, A', c, h1, h2, rfl, h3, h4, h5, h6⟩
  · obtain ⟨b, rfl, hb, hk⟩ := hv
    exact hnone h1 b W (Lib.hid ((HO.out.next q).addCold (Cold.flt (.iface 46 (.pointer (some ⟨b, 0, none⟩))) a 7) w.heap.size HO.out.kept.size (fun b hb => (HO.out.hot_lt b hb).2) ⟨b, rfl, ⟨hb, hk.lt⟩, hk⟩))
  · exact hsome n A' c W h1 h2 h3 (Lib.hid (HO.out.lcall hg (Kept.of_upd h6) ⟨h5, h4⟩))
theorem to_make {d : Option Tmp} {T ty : TypeId} {x y : Operand} {ps : String} {af : Array Edge} {gd : Option (Nat × Bool)} (h : WOp P ⟨d, .makeSlice ty x y, T, ps, af, gd⟩ act w K Q) : Oper.wp P ⟨d, .makeSlice ty x y, T, ps, af, gd⟩ act w K Q := h
def bvs (l : List Nat) : List Value := l.map bv
theorem wo_make {X : List Nat} {S : World → Prop} (HO : Hid (Own w0 X S bs rs F w)) {x y : Operand} (ho : o.op = .makeSlice 22 x y) (hx : act.eval x = .int .i64 0) {n : Nat} (hy : act.eval y = .int .i64 (n : Int)) (hn : n ≤ 1000000)
    (h : ∀ A' c' W, 0 ≤ c' → Hid (Own w0 X S bs (⟨5, 1, .slice A' ([] : List Nat).length c', ([] : List Nat).length, bvs []⟩ :: rs) F W) → K (act.put o.dst (.slice A' ([] : List Nat).length c')) W) : WOp Try.prog o act w K Q := by
  obtain ⟨i0, hi, hz0, hz1, hz2⟩ := info_parts info_u8
  obtain ⟨w', h1, h2, h3⟩ := run_makeSlice_owned (P := Try.prog) w w.heap.size 22 5 i0 (.int .u8 0) 1 Try.underlying22 hi hz0 hz1 .i64 .i64 n (by omega) (by rw [hz2]; omega) (by unfold maxLen; omega) (Nat.le_refl _)
  have q : Below w.heap.size w w' := ⟨h3.os, h3.tape, h3.output, h3.size, fun k hk => h3.block k hk (by simp)⟩
  have hO := HO.out.next q
  have hO2 := hO.addRow ⟨5, 1, .slice (some ⟨w.heap.size, 0, none⟩) 0 n, 0, []⟩ w.heap.size HO.out.kept.size h2 (fun b hb hm => by have := (HO.out.hot_lt b hm).2; omega) (fun c hc => c.st w w' _ _ (fun b hb => ⟨⟨⟨hb.1, Nat.lt_of_lt_of_le hb.2.1 q.size, hb.2.2⟩, hb.2.1⟩, q.block b hb.2.1⟩) (HO.out.cold c hc))
  have := h _ n w' (Nat.zero_le _) (Lib.hid hO2)
  unfold WOp Oper.wp execOp
  simp only [ho, hx, hy, Sem.run_bind, Sem.run_pure, Result.andThen_ok, h1]
  simpa [Oper.upon] using this
theorem wo_appU {X : List Nat} {S : World → Prop} {v : Value} {l : List Nat} (HO : Hid (Own w0 X S bs (⟨5, 1, v, l.length, bvs l⟩ :: rs) F w)) {s x : Operand}
    (ho : o.op = .call { callee := .builtin .append, args := #[s, x], argTypes := #[22, 22] }) (hs : act.eval s = v) {r c : Nat} (hx : act.eval x = .slice (some ⟨r, 0, none⟩) 1 c) {u : Int} (HB : Hid (Blk w r 5 #[.int .u8 u])) (y : Nat) (hy : u = (y : Int)) (hm : l.length ≤ 1000000)
    (h : ∀ A' c' W, (l ++ [y]).length ≤ c' → Hid (Own w0 X S bs (⟨5, 1, .slice A' (l ++ [y]).length c', (l ++ [y]).length, bvs (l ++ [y])⟩ :: rs) F W) → K (act.put o.dst (.slice A' (l ++ [y]).length c')) W) : WOp Try.prog o act w K Q := by
  subst hy
  refine wo_appG HO ho hs hx (ys := [.int .u8 (y : Int)]) HB Try.underlying22 info_u8 rfl (by decide) rfl (by simp [Value.oneCell']) hm (by decide) (fun A' c' W h1 h2 => ?_)
  have e1 : l.length + 1 = (l ++ [y]).length := by simp
  have e2 : bvs l ++ [.int .u8 (y : Int)] = bvs (l ++ [y]) := by simp [bvs, bv]
  rw [e2, e1] at h2
  rw [e1] at h1 ⊢
  exact h A' c' W h1 h2
theorem rb_rowAt {B : Nat} {l : List Nat} {Fp : Nat → Prop} (h : RowAt w Fp A (bvs l)) (hb : ∀ x ∈ l, x < 256) (hF : ∀ b, Fp b → b < B) : RB w B A l := by
  refine ⟨hb, fun hn => ?_⟩
  obtain ⟨b, e, hb2, hc⟩ := h (fun e => by have e2 : l = [] := List.map_eq_nil_iff.1 e; subst e2; exact absurd hn (by simp))
  have := rb_of (w := w) (B := B) (b := b) (bs := l) hb (hF b hb2) (fun j hj => hc j _ (by unfold bvs; rw [List.getElem?_map, List.getElem?_eq_getElem hj]; rfl))
  subst e
  obtain ⟨ad, e2, h3, h4⟩ := this.2 hn
  exact ⟨ad, e2, h3, h4⟩
theorem str_rowAt {B : Nat} {l : List Nat} {Fp : Nat → Prop} {c : Nat} (h : RowAt w Fp A (bvs l)) (hb : ∀ x ∈ l, x < 256) (hF : ∀ b, Fp b → b < B) : (convert 22 9 (.slice A l.length c)).run Try.prog w = .ok (.string (strN l)) w :=
  str_of (rb_rowAt h hb hF) (rb_some (rb_rowAt h hb hF))
theorem bp_cellT {fn : Func} {R : Ending → World → Prop} {X : List Nat} {S : World → Prop} (HO : Hid (Own w0 X S bs rs F w)) {t s : Tmp} {ty : TypeId} (hf : fn.results = #[.cell t ty, .tmp s]) {b : Nat} (hx : act.tmps.getD t undef = .pointer (some ⟨b, 0, none⟩)) {v : Value} (hs : act.tmps.getD s undef = v) {u : TypeId} {cs : List Value} (hm : (⟨b, u, cs⟩ : Bx) ∈ bs)
    (hd : ∀ w, (isAgg ty).run P w = .ok true w) {n : Nat} (hsz : ∀ w, (sizeOf ty).run P w = .ok n w) (hn : cs.length = n) (hdef : act.defers = []) (h : R (.returned (.tuple #[.agg cs.toArray, v])) w) : bodyPost P fn R .ret act w := by
  subst hn
  have hl : (loadCells ⟨b, 0, none⟩ cs.length).run P w = .ok cs.toArray w :=
    run_loadCells_list (P := P) w ⟨b, 0, none⟩ cs (fun j v hv => by rw [Addr.add_mid]; exact HO.out.cells hm 0 j v (by simpa using hv))
  refine ⟨hdef, _, ?_, h⟩
  have hx2 : act.tmps[t]?.getD undef = .pointer (some ⟨b, 0, none⟩) := by rw [← hx]; simp
  have hs2 : act.tmps[s]?.getD undef = v := by rw [← hs]; simp
  simp [results, hf, hx2, hs2, asAddr, loadVar, Sem.run_bind, hd w, hsz w, hl]
def LexPost (g : Nat) (src : List Nat) (a : Nat) (V : Value) (r : Except Int (TokF × Nat)) (w : World) (e : Ending) (w' : World) : Prop :=
  match r with
  | .error k => (∃ v, e = .returned (.tuple #[tokV ⟨0, 0, [], 0⟩, v]) ∧ FltV w' w.heap.size v a k) ∧ Upd g none w w'
  | .ok (t, n) => e = .returned (.tuple #[tokV t, .nilIface]) ∧ RdrS w' g src (a + n) V ∧ Upd g none w w'
end
open Go.RowKit
set_option maxRecDepth 100000 in
set_option maxHeartbeats 3200000 in
theorem plist_any (p : Par) (g : Nat) (ts : List TokF) (n : Nat) (H_expr : FC 50 #[.pointer (some ⟨g, 0, none⟩)] (exprF ts p) VN g ts n) : FC 73 #[.pointer (some ⟨g, 0, none⟩)] (listF ts p) VL g ts n := by
  intro w a d m hn
  obtain ⟨R, hR⟩ : ∃ R, (listF ts p) a d = R := ⟨_, rfl⟩
  rw [hR]
  have HF := Lib.hid hR
  have HO := m.ownN
  have hg := m.lt
  unfold listF at HF
  clear hR m
  have hts := HO.out.st.ok.len
  have C_expr := Lib.hid H_expr
  go_enter Try.func73, Try.ntmps73
  (repeat' (first | (with_reducible first | refine oXt ?_ | refine oXb ?_) | ((with_reducible refine ib_miss ?_ ?_); exact rfl) | ((first | with_reducible refine ab_drew HO ?_); clear HO; intro _ HO) | ((with_reducible refine ab_junk HO 9 ?_); clear HO; intro _ HO HB) | ((first | with_reducible refine nE1 HO ?_ ?_ | with_reducible refine nE2 HO ?_ ?_); (and_intros <;> (first | assumption | exact Nat.le_refl _)); clear HO; intro _ HO) | ((go_big_may; first | (go_at_call 50; refine arm_node C_expr HO HF hg (by omega) ?_ ?_; rotate_left; (intro v pl e W h1 h2 h3; first | (exact bp_panic2 rfl h1 h2 h3) | ((try dsimp only); (repeat (first | go_big_open | (simp only [Exit.then, Exit.inBlock]))); exact bp_panic2 rfl h1 h2 h3)); clear HO HF; intro xN AN cN aN WN HO hl hle HF) | fail) <;> (try dsimp only)) | go_values | go_skip | go_guarded | go_step | go_upon | (go_ite <;> go_prune <;> (try go_simp))))
  go_loopw [3] (fun v W => ∃ (els : List El) (A : Option Addr) (c f q : Nat), v = .slice A els.length c ∧ els.length ≤ c ∧ els.length ≤ q + 1 ∧ a ≤ q ∧ ts.length ≤ f + q ∧ Hid (iter (fun a => isS ts a [[44]]) (listS ts p) f (els.map (·.1)) q d = R) ∧ Hid (Own w [g] (PS g ts q d) [] [⟨40, 8, .slice A els.length c, els.length, flatE els⟩] [Cold.els els, Cold.kids none []] W)) (fun _ W => ts.length - (intOf ((W.cell? ⟨g, 1, none⟩).getD undef)).toNat)
  case atStart => exact ⟨[(xN, AN, cN)], _, 1, ts.length, aN, rfl, Nat.le_refl _, by simp, hle, by omega, HF, Lib.hid (HO.out.sub (List.Sublist.refl _) (List.Sublist.refl _) (fun c hc => mem2 hc (by repeat (first | exact mH | apply mT)) (by repeat (first | exact mH | apply mT))))⟩
  case round =>
    clear HO HF hl hle
    obtain ⟨els, A, c, f, q, rfl, hl, hlq, hab, hf, HF, HO⟩ := hrel
    have hq := HO.out.st.ha
    obtain ⟨f, rfl⟩ : ∃ f', f = f' + 1 := ⟨f - 1, by omega⟩
    have HS := Lib.hid HO.out.st
    rw [iter_step] at HF
    unfold listS at HF
    simp only [pp_assoc, pp_pureF] at HF
    (repeat' (first | (with_reducible first | refine oXt ?_ | refine oXb ?_) | ((with_reducible refine ib_miss ?_ ?_); exact rfl) | ((first | with_reducible refine ab_drew HO ?_); clear HO; intro _ HO) | ((with_reducible refine ab_junk HO 9 ?_); clear HO; intro _ HO HB) | ((go_big_may; first | (go_at_call 27; refine arm_sgn HO rfl rfl HB (ss := [[44]]) rfl rfl (by decide) (by decide) ?_; clear HO HB; intro _ b hb HO; cases b) | fail) <;> (try dsimp only)) | go_values | go_skip | go_guarded | go_step | go_upon | (go_ite <;> go_prune <;> (try go_simp))))
    · simp only [hb, Bool.false_eq_true, if_false] at HF
      (repeat' (first | (with_reducible first | refine oXt ?_ | refine oXb ?_) | ((with_reducible refine ib_miss ?_ ?_); exact rfl) | ((first | with_reducible refine ab_drew HO ?_); clear HO; intro _ HO) | ((with_reducible refine ab_junk HO 9 ?_); clear HO; intro _ HO HB) | go_values | go_skip | go_guarded | go_step | go_upon | (go_ite <;> go_prune <;> (try go_simp))))
      refine bp_tmp (t := 2) rfl rfl rfl ?_
      exact bp_list HO HF rfl List.mem_cons_self (by omega)
    · have hnx := nx_isS hb
      simp only [hb, if_true] at HF
      clear hb
      (repeat' (first | (with_reducible first | refine oXt ?_ | refine oXb ?_) | ((with_reducible refine ib_miss ?_ ?_); exact rfl) | ((first | with_reducible refine ab_drew HO ?_); clear HO; intro _ HO) | ((with_reducible refine ab_junk HO 9 ?_); clear HO; intro _ HO HB) | ((first | with_reducible refine nd1 HO ?_ ?_ | with_reducible refine nd2 HO ?_ ?_ | with_reducible refine nd3 HO ?_ ?_ | with_reducible refine nd4 HO ?_ ?_); (and_intros <;> (first | assumption | exact Nat.le_refl _)); clear HO; intro _ HO) | ((with_reducible refine to_append ?_); refine wo_appN HO (by repeat (first | exact mH | apply mT)) rfl rfl rfl (by repeat (first | exact mH | apply mT)) (by omega) ?_; clear HO; intro eN _ _ _ hmap hlen hcap HO; (try simp only [Act.put, pS0, pS1, pS2])) | ((go_big_may; first | (go_at_call 28; first | (refine arm_nextF HO HF hg rfl rfl ?_; clear HO HF; intro _ hle HO HF) | (refine arm_next HO hg rfl rfl ?_; clear HO; intro _ HO)) | (go_at_call 41; refine arm_unit (n := 65) (Lib.hid (plines_any _ _ _)) HO HF hg (by omega) ?_ ?_; rotate_left; (intro v pl e W h1 h2 h3; first | (exact bp_panic2 rfl h1 h2 h3) | ((try dsimp only); (repeat (first | go_big_open | (simp only [Exit.then, Exit.inBlock]))); exact bp_panic2 rfl h1 h2 h3)); clear HO HF; intro _ _ HO hle HF) | (go_at_call 50; refine arm_node C_expr HO HF hg (by omega) ?_ ?_; rotate_left; (intro v pl e W h1 h2 h3; first | (exact bp_panic2 rfl h1 h2 h3) | ((try dsimp only); (repeat (first | go_big_open | (simp only [Exit.then, Exit.inBlock]))); exact bp_panic2 rfl h1 h2 h3)); clear HO HF; intro xN AN cN aN WN HO hl hle HF) | fail) <;> (try dsimp only)) | go_values | go_skip | go_guarded | go_step | go_upon | (go_ite <;> go_prune <;> (try go_simp))))
      rw [← hmap] at HF
      go_roundw
      case rel => exact ⟨_, _, _, f, _, rfl, hcap, by omega, by omega, by omega, HF, Lib.hid (HO.out.sub (List.Sublist.refl _) (List.Sublist.refl _) (fun c hc => mem2 hc (by repeat (first | exact mH | apply mT)) (by repeat (first | exact mH | apply mT))))⟩
      case measure => exact pmeas HS.out HO.out.st (by omega)
open Go.RowKit
set_option maxRecDepth 100000 in
set_option maxHeartbeats 3200000 in
theorem pahead_any {g : Nat} {ts : List TokF} {a d : Nat} (k : Nat) (hk : k ≤ 10) (w : World) (m : PS g ts a d w) : Calls Try.prog 68 #[.pointer (some ⟨g, 0, none⟩), .int .i64 (k : Int)] w fun e w' => e = .returned (tokV (ahead ts k a)) ∧ Below w.heap.size w w' := by
  have hlt := m.lt
  have ha := m.ha
  have hlen := m.ok.len
  unfold ahead
  obtain ⟨A, c, bx, r, hc⟩ := m.box
  have k0 := bx.cell 0
  have k1 := bx.cell 1
  simp only [List.getElem?_toArray, List.getElem?_cons_zero, List.getElem?_cons_succ] at k0 k1
  have hi : min (a + k) (ts.length - 1) < ts.length := by omega
  have hmin : (min ((a : Int) + (k : Int)) ((ts.length : Int) - 1)) = ((min (a + k) (ts.length - 1) : Nat) : Int) := by omega
  obtain ⟨ad, sb, qo, sp, rfl, hq, h6⟩ := tok_at r hi
  rw [← tk_eq hi] at h6
  generalize hi2 : min (a + k) (ts.length - 1) = i at h6 hq hi hmin ⊢
  generalize tk ts i = t at h6 ⊢
  have hw1 : wrap64 ((a : Int) + (k : Int)) = (a : Int) + (k : Int) := IntWalk.wrap64_in _ (by omega)
  have hw3 : IntKind.i64.wrap ((a : Int) + (k : Int)) = (a : Int) + (k : Int) := IntWalk.i64_in _ (by omega)
  have hw4 : IntKind.i64.wrap ((ts.length : Int) - 1) = (ts.length : Int) - 1 := IntWalk.i64_in _ (by omega)
  have hw2 : wrap64 ((ts.length : Int) - 1) = (ts.length : Int) - 1 := IntWalk.wrap64_in _ (by omega)
  generalize hn : ts.length = n at k0 hc ha hlen r hi hmin hw2 hw4
  have HOS := Lib.hid (⟨k0, k1, hlt, Nat.le_of_lt hlt, h6⟩ : TkS g g ad c n a sb qo sp t w)
  have hlt4 : (i : Int) < (n : Int) := by omega
  have hsz : sb < w.heap.size := Nat.lt_trans h6.z hlt
  clear hn hi2 r bx m h6
  go_enter Try.func68, Try.ntmps68
  go_upto_region 1 with fail
  clear k0 k1
  refine wp_region_held_drew (S := (fun w' => TkS g g ad c n a sb qo sp t w')) (by kernel_rfl) ?_ (fun hHeld => ?_)
  · (try dsimp only)
    (first | (with_reducible assumption) | ((repeat' (with_reducible refine TkS.far ?_ hlt (Nat.le_of_lt hlt) _ _)); (with_reducible refine TkS.next HOS.out ?_); (repeat' (first | with_reducible exact Below.refl _ _ | with_reducible refine Below.drew ?_ | with_reducible refine Below.alloc ?_ ?_ _ | with_reducible exact Nat.le_refl _ | (simp; done))); done))
  refine h4_b [0, 1, 2, 3, 4, 5, 6, 7, 8, 9, 10, 11, 12, 13, 14, 15, 16, 17, 18] ?_
  (repeat (refine h4_p rfl (by kernel_rfl) (fun _ _ _ h => h) (by rfl) hHeld (by intro wS hSw; have k0 := hSw.c0; have k1 := hSw.c1; have kz := hSw.z; obtain ⟨tz, k2, k3, k4, k5, k6, k7⟩ := hSw.t6; have kB := hSw.hB; go_simp; (try with_reducible rfl)) ?_; (try simp only [Act.put, List.setIfInBounds_toArray, List.set_cons_zero, List.set_cons_succ])))
  refine h4_e ?_
  refine wpAnyH_ready (rs := [19]) (by kernel_rfl) (by simp) ?_
  refine (h4_cons rfl (fun K hK => ?_) AllReadyH.nil)
  go_simp
  refine hK.out _ _ ?_ (fun hHeld1 => ?_)
  · (try dsimp only)
    (first | (with_reducible assumption) | ((repeat' (with_reducible refine TkS.far ?_ hlt (Nat.le_of_lt hlt) _ _)); (with_reducible refine TkS.next HOS.out ?_); (repeat' (first | with_reducible exact Below.refl _ _ | with_reducible refine Below.drew ?_ | with_reducible refine Below.alloc ?_ ?_ _ | with_reducible exact Nat.le_refl _ | (simp; done))); done))
  clear hK K hHeld
  try simp only [Act.put, List.setIfInBounds_toArray, List.set_cons_zero, List.set_cons_succ]
  refine wpAnyH_done (by kernel_rfl) ?_ _
  go_wp2_with fail
  go_returns
  exact ⟨rfl, by (repeat' (first | (with_reducible exact Below.refl _ _) | (refine Below.trans ?_ (Below.mono (by with_reducible assumption) ?_)) | (with_reducible exact Below.refl _ _) | (with_reducible refine below_drewN ?_ _) | (with_reducible refine Below.drew ?_) | (with_reducible refine Below.setCell ?_ ?_ _) | (with_reducible refine Below.alloc ?_ ?_ _) | (with_reducible assumption) | (simp; done) | (simp; omega) | omega))⟩
section
variable {β : Type} {g : Nat} {ts : List TokF} {a d n : Nat} {w w' w0 W : World} {X : List Nat} {bs : List Bx} {rs : List Rw} {F : List Cold} {T : Ending → World → Prop} {K : FuncId} {args : Array Value} {R : PR β}
theorem arm_ahead {ki : Int} (k : Nat) (HO : Hid (Own w0 X (PS g ts a d) bs rs F w)) (hK : K = 68) (ha : args = #[.pointer (some ⟨g, 0, none⟩), .int .i64 ki]) (hk : ki = (k : Int)) (hk2 : k ≤ 10) (h : ∀ W, Hid (Own w0 X (PS g ts a d) bs rs F W) → T (.returned (.agg #[.int .i64 ((TokF.k (ahead ts k a) : Nat) : Int), .int .i64 ((TokF.at' (ahead ts k a) : Nat) : Int), .string (strN (TokF.s (ahead ts k a))), .bool (zn (TokF.z (ahead ts k a))), .int .u64 (zh (TokF.z (ahead ts k a))), .int .u64 (zl (TokF.z (ahead ts k a)))])) W) : Calls Try.prog K args w T := by
  subst hK ha hk
  refine (pahead_any k hk2 w HO.out.st).mono fun e W hp => ?_
  obtain ⟨rfl, q⟩ := hp
  exact h W (Lib.hid (HO.out.next q))
end
open Go.RowKit
mutual
def er : NodeT → NodeT
  | .mk k _ s z i l => .mk k 0 s z i (erL l)
def erL : List NodeT → List NodeT
  | [] => []
  | n :: l => er n :: erL l
end
theorem erL_map : ∀ l : List NodeT, erL l = l.map er
  | [] => by rw [erL]; rfl
  | n :: l => by rw [erL, erL_map l]; rfl
theorem erL_app (l m : List NodeT) : erL (l ++ m) = erL l ++ erL m := by rw [erL_map, erL_map, erL_map, List.map_append]
theorem er_k (n : NodeT) : (er n).k = n.k := by cases n; rw [er]; rfl
theorem er_eq (n : NodeT) : er n = .mk n.k 0 n.s n.z n.i (erL n.l) := by cases n; rw [er]; rfl
def NR (n m : NodeT) : Prop := er n = er m
def LR (l m : List NodeT) : Prop := erL l = erL m
theorem NR.k {n m : NodeT} (h : NR n m) : n.k = m.k := by have := congrArg NodeT.k h; rwa [er_k, er_k] at this
theorem NR.rfl' (n : NodeT) : NR n n := rfl
theorem LR.rfl' (n : List NodeT) : LR n n := rfl
theorem NR.mk {k a b : Nat} {s s' : List Nat} {z z' : Int} {i : Nat} {l m : List NodeT} (hs : s = s') (hz : z = z') (h : LR l m) : NR (.mk k a s z i l) (.mk k b s' z' i m) := by
  subst hs hz
  unfold NR
  rw [er, er, h]
theorem LR.nil : LR [] [] := rfl
theorem LR.cons {n m : NodeT} {l r : List NodeT} (h : NR n m) (h2 : LR l r) : LR (n :: l) (m :: r) := by unfold LR; rw [erL, erL, h, h2]
theorem LR.app {l r l' r' : List NodeT} (h : LR l r) (h2 : LR l' r') : LR (l ++ l') (r ++ r') := by unfold LR; rw [erL_app, erL_app, h, h2]
theorem LR.length {l r : List NodeT} (h : LR l r) : l.length = r.length := by
  have := congrArg List.length h
  rw [erL_map, erL_map, List.length_map, List.length_map] at this
  exact this
theorem LR.cons_inv {n m : NodeT} {l r : List NodeT} (h : LR (n :: l) (m :: r)) : NR n m ∧ LR l r := by
  unfold LR at h
  rw [erL, erL] at h
  injection h with h1 h2
  exact ⟨h1, h2⟩
theorem lval_eq {n m : NodeT} (h : NR n m) : lval n = lval m := by unfold lval; rw [h.k]
def tkR (t u : TokF) : Prop := (t.k = u.k ∨ (t.k ≤ 1 ∧ u.k ≤ 1)) ∧ t.s = u.s ∧ t.z = u.z
theorem tkR.rfl' (t : TokF) : tkR t t := ⟨.inl rfl, rfl, rfl⟩
theorem tkR.beq {t u : TokF} (h : tkR t u) {c : Int} (hc : 2 ≤ c) : ((t.k : Int) == c) = ((u.k : Int) == c) := by
  rcases h.1 with e | ⟨h1, h2⟩
  · rw [e]
  · have e1 : ((t.k : Int) == c) = false := by rw [beq_eq_false_iff_ne]; omega
    have e2 : ((u.k : Int) == c) = false := by rw [beq_eq_false_iff_ne]; omega
    rw [e1, e2]
structure Cx where
  fs : List TokF
  gs : List TokF
  rel : Nat → Nat → Prop
  lim : Nat → Prop
def argsA (ts : List TokF) (a : Nat) : Bool := isS ts a [[40]] && ((((ahead ts 1 a).k : Int) == 9) && decide ((ahead ts 1 a).s = [41]))
structure Lg (C : Cx) : Prop where
  fl : ∀ b a, C.rel b a → b < C.fs.length
  gl : ∀ b a, C.rel b a → a < C.gs.length
  nb : ∀ b, b < C.fs.length → nx C.fs b < C.fs.length
  ng : ∀ b, b < C.gs.length → nx C.gs b < C.gs.length
  sig : ∀ b a, C.rel b a → tkR (tk C.fs b) (tk C.gs a)
  over : ∀ b a, C.rel b a → overA C.fs b = overA C.gs a
  nx : ∀ b a, C.rel b a → 2 ≤ (tk C.fs b).k → C.rel (b + 1) (a + 1)
  low : ∀ b b', b ≤ b' → C.lim b' → C.lim b
  big : ∀ b, b < C.fs.length → 2 ≤ (tk C.fs b).k → C.lim b
  last : ∀ b, b < C.fs.length → ¬ C.lim b → b + 1 = C.fs.length
  lines : ∀ b a, C.rel b a → C.lim (linesF C.fs C.fs.length b) → C.rel (linesF C.fs C.fs.length b) (linesF C.gs C.gs.length a)
  ends : ∀ b a, C.rel b a → C.lim (endsF C.fs C.fs.length b) → C.rel (endsF C.fs C.fs.length b) (endsF C.gs C.gs.length a)
  each : ∀ b a, C.rel b a → eachA C.fs b = eachA C.gs a
  reads : ∀ b a, C.rel b a → readsA C.fs b = readsA C.gs a
  args : ∀ b a, C.rel b a → argsA C.fs b = argsA C.gs a
structure SimAt (C : Cx) (e : Bool) (b a : Nat) {α : Type} (R : α → α → Prop) (f g : PP α) : Prop where
  mb : ∀ d x b' d', b < C.fs.length → f b d = .ok x b' d' → b ≤ b' ∧ b' < C.fs.length
  sim : ∀ d x b' d', C.rel b a → f b d = .ok x b' d' → (e = true ∨ C.lim b') → ∃ y a', g a d = .ok y a' d' ∧ R x y ∧ C.rel b' a'
def Sim (C : Cx) (e : Bool) {α : Type} (R : α → α → Prop) (f g : PP α) : Prop := ∀ b a, SimAt C e b a R f g
section
variable {C : Cx} {e : Bool} {α β : Type} {R : α → α → Prop} {R' : β → β → Prop} {b a : Nat} {ss : List (List Nat)}
theorem k_isS {ts : List TokF} {a : Nat} (h : isS ts a ss = true) : (tk ts a).k = 9 := by
  unfold isS at h
  rw [Bool.and_eq_true] at h
  have := eq_of_beq h.1
  omega
theorem k_isW {ts : List TokF} {a : Nat} (h : isW ts a ss = true) : (tk ts a).k = 7 := by
  unfold isW at h
  rw [Bool.and_eq_true] at h
  have := eq_of_beq h.1
  omega
theorem nx_eq {ts : List TokF} {a : Nat} (h : 1 ≤ (tk ts a).k) : nx ts a = a + 1 := by
  unfold nx
  rw [if_neg]
  intro e
  have := eq_of_beq e
  omega
theorem Lg.isS (L : Lg C) (h : C.rel b a) (ss : List (List Nat)) : isS C.fs b ss = isS C.gs a ss := by
  have hs := L.sig b a h
  unfold Go.Proofs.Ytdiibenofbcfnaa.isS
  rw [hs.beq (by decide), hs.2.1]
theorem Lg.isW (L : Lg C) (h : C.rel b a) (ss : List (List Nat)) : isW C.fs b ss = isW C.gs a ss := by
  have hs := L.sig b a h
  unfold Go.Proofs.Ytdiibenofbcfnaa.isW
  rw [hs.beq (by decide), hs.2.1]
theorem Lg.placed (L : Lg C) (h : C.rel b a) : placedA C.fs b = placedA C.gs a := by
  unfold placedA
  rw [(L.sig b a h).beq (by decide), L.isS h]
theorem Lg.further (L : Lg C) (h : C.rel b a) : furtherA C.fs b = furtherA C.gs a := by
  unfold furtherA
  have hs := L.sig b a h
  rw [hs.beq (c := 2) (by decide), hs.beq (c := 3) (by decide), hs.beq (c := 4) (by decide), hs.beq (c := 5) (by decide), hs.beq (c := 6) (by decide), hs.beq (c := 8) (by decide), L.isS h]
theorem SimAt.weak {f g : PP α} (h : SimAt C true b a R f g) : SimAt C e b a R f g := ⟨h.mb, fun d x b' d' hr hf _ => h.sim d x b' d' hr hf (.inl rfl)⟩
theorem Sim.weak {f g : PP α} (h : Sim C true R f g) : Sim C e R f g := fun b a => (h b a).weak
theorem SimAt.bind (L : Lg C) {f g : PP α} {h k : α → PP β} (hr : ∀ x, R x x) (h1 : SimAt C e b a R f g) (h2 : ∀ x y, R x y → Sim C e R' (h x) (k y)) : SimAt C e b a R' (f >>= h) (g >>= k) := by
  refine ⟨fun d z b' d' hb hf => ?_, fun d z b' d' hrel hf hl => ?_⟩
  · obtain ⟨x, b1, d1, hx, hz⟩ := bind_inv hf
    have q1 := h1.mb _ _ _ _ hb hx
    have q2 := (h2 x x (hr x) b1 a).mb _ _ _ _ q1.2 hz
    omega
  · obtain ⟨x, b1, d1, hx, hz⟩ := bind_inv hf
    have hb := L.fl _ _ hrel
    have q1 := h1.mb _ _ _ _ hb hx
    have q2 := (h2 x x (hr x) b1 a).mb _ _ _ _ q1.2 hz
    have hl1 : e = true ∨ C.lim b1 := hl.imp id (L.low _ _ q2.1)
    obtain ⟨y, a1, hy, hxy, hrel1⟩ := h1.sim _ _ _ _ hrel hx hl1
    obtain ⟨w, a', hw, hzw, hrel'⟩ := (h2 x y hxy b1 a1).sim _ _ _ _ hrel1 hz hl
    refine ⟨w, a', ?_, hzw, hrel'⟩
    show PP.bind g k a d = _
    unfold PP.bind
    rw [hy]
    exact hw
theorem Sim.bind (L : Lg C) {f g : PP α} {h k : α → PP β} (hr : ∀ x, R x x) (h1 : Sim C e R f g) (h2 : ∀ x y, R x y → Sim C e R' (h x) (k y)) : Sim C e R' (f >>= h) (g >>= k) := fun b a => (h1 b a).bind L hr h2
theorem SimAt.bindN (L : Lg C) {f g : PP NodeT} {h k : NodeT → PP β} (h1 : SimAt C e b a NR f g) (h2 : ∀ x y, NR x y → Sim C e R' (h x) (k y)) : SimAt C e b a R' (f >>= h) (g >>= k) := h1.bind L NR.rfl' h2
theorem Sim.bindN (L : Lg C) {f g : PP NodeT} {h k : NodeT → PP β} (h1 : Sim C e NR f g) (h2 : ∀ x y, NR x y → Sim C e R' (h x) (k y)) : Sim C e R' (f >>= h) (g >>= k) := h1.bind L NR.rfl' h2
theorem SimAt.bindL (L : Lg C) {f g : PP (List NodeT)} {h k : List NodeT → PP β} (h1 : SimAt C e b a LR f g) (h2 : ∀ x y, LR x y → Sim C e R' (h x) (k y)) : SimAt C e b a R' (f >>= h) (g >>= k) := h1.bind L LR.rfl' h2
theorem Sim.bindL (L : Lg C) {f g : PP (List NodeT)} {h k : List NodeT → PP β} (h1 : Sim C e LR f g) (h2 : ∀ x y, LR x y → Sim C e R' (h x) (k y)) : Sim C e R' (f >>= h) (g >>= k) := h1.bind L LR.rfl' h2
theorem SimAt.bindE (L : Lg C) {f g : PP α} {h k : α → PP β} (h1 : SimAt C e b a Eq f g) (h2 : ∀ x, Sim C e R' (h x) (k x)) : SimAt C e b a R' (f >>= h) (g >>= k) := h1.bind L (fun _ => rfl) (fun x y hxy => by subst hxy; exact h2 x)
theorem Sim.bindE (L : Lg C) {f g : PP α} {h k : α → PP β} (h1 : Sim C e Eq f g) (h2 : ∀ x, Sim C e R' (h x) (k x)) : Sim C e R' (f >>= h) (g >>= k) := fun b a => (h1 b a).bindE L h2
theorem Sim.pure {x y : α} (h : R x y) : Sim C e R (pure x : PP α) (pure y) := fun b a => by
  refine ⟨fun d z b' d' hb hf => ?_, fun d z b' d' hrel hf _ => ?_⟩
  · have h' : PR.ok x b d = .ok z b' d' := hf
    injection h' with _ h1 _
    omega
  · have h' : PR.ok x b d = .ok z b' d' := hf
    injection h' with h0 h1 h2
    subst h0 h1 h2
    exact ⟨y, a, rfl, h, hrel⟩
theorem Sim.fail (k : Int) : Sim C e R (failP C.fs k) (failP C.gs k) := fun b a => ⟨fun d z b' d' hb hf => (by cases hf), fun d z b' d' hrel hf _ => (by cases hf)⟩
theorem Sim.ite {c : Prop} [Decidable c] {A B A' B' : PP α} (hA : Sim C e R A A') (hB : Sim C e R B B') : Sim C e R (if c then A else B) (if c then A' else B') := by split <;> assumption
theorem Sim.iteP {c c' : Prop} [Decidable c] [Decidable c'] (hc : c ↔ c') {A B A' B' : PP α} (hA : Sim C e R A A') (hB : Sim C e R B B') : Sim C e R (if c then A else B) (if c' then A' else B') := by
  by_cases h : c
  · rw [if_pos h, if_pos (hc.1 h)]; exact hA
  · rw [if_neg h, if_neg (fun h' => h (hc.2 h'))]; exact hB
theorem Sim.ask (L : Lg C) {t u : Nat → Bool} (ht : ∀ b a, C.rel b a → t b = u a) {k k' : Bool → PP β} (h1 : ∀ b a, t b = true → SimAt C e b a R' (k true) (k' true)) (h2 : Sim C e R' (k false) (k' false)) : Sim C e R' (askP t >>= k) (askP u >>= k') := fun b a => by
  have hf' : ∀ d, (askP t >>= k) b d = k (t b) b d := fun d => rfl
  have hg' : ∀ d, (askP u >>= k') a d = k' (u a) a d := fun d => rfl
  refine ⟨fun d z b' d' hb hf => ?_, fun d z b' d' hrel hf hl => ?_⟩
  · rw [hf'] at hf
    cases htb : t b <;> rw [htb] at hf
    · exact (h2 b a).mb _ _ _ _ hb hf
    · exact (h1 b a htb).mb _ _ _ _ hb hf
  · rw [hf'] at hf
    have he := ht b a hrel
    rw [hg', ← he]
    cases htb : t b <;> rw [htb] at hf
    · exact (h2 b a).sim _ _ _ _ hrel hf hl
    · exact (h1 b a htb).sim _ _ _ _ hrel hf hl
theorem Sim.sgn (L : Lg C) {k k' : Bool → PP β} (h1 : ∀ b a, Go.Proofs.Ytdiibenofbcfnaa.isS C.fs b ss = true → SimAt C e b a R' (k true) (k' true)) (h2 : Sim C e R' (k false) (k' false)) : Sim C e R' (sgnP C.fs ss >>= k) (sgnP C.gs ss >>= k') :=
  Sim.ask L (t := fun b => isS C.fs b ss) (u := fun a => isS C.gs a ss) (fun b a h => L.isS h ss) h1 h2
theorem Sim.wrd (L : Lg C) {k k' : Bool → PP β} (h1 : ∀ b a, Go.Proofs.Ytdiibenofbcfnaa.isW C.fs b ss = true → SimAt C e b a R' (k true) (k' true)) (h2 : Sim C e R' (k false) (k' false)) : Sim C e R' (wrdP C.fs ss >>= k) (wrdP C.gs ss >>= k') :=
  Sim.ask L (t := fun b => isW C.fs b ss) (u := fun a => isW C.gs a ss) (fun b a h => L.isW h ss) h1 h2
theorem Sim.sgn0 (L : Lg C) : Sim C e Eq (sgnP C.fs ss) (sgnP C.gs ss) := fun b a => by
  refine ⟨fun d z b' d' hb hf => ?_, fun d z b' d' hrel hf _ => ?_⟩
  · have h' : PR.ok (isS C.fs b ss) b d = .ok z b' d' := hf
    injection h' with _ h1 _
    omega
  · have h' : PR.ok (isS C.fs b ss) b d = .ok z b' d' := hf
    injection h' with h0 h1 h2
    subst h0 h1 h2
    exact ⟨_, a, rfl, L.isS hrel ss, hrel⟩
theorem Sim.ask0 (L : Lg C) {t u : Nat → Bool} (ht : ∀ b a, C.rel b a → t b = u a) : Sim C e Eq (askP t) (askP u) := fun b a => by
  refine ⟨fun d z b' d' hb hf => ?_, fun d z b' d' hrel hf _ => ?_⟩
  · have h' : PR.ok (t b) b d = .ok z b' d' := hf
    injection h' with _ h1 _
    omega
  · have h' : PR.ok (t b) b d = .ok z b' d' := hf
    injection h' with h0 h1 h2
    subst h0 h1 h2
    exact ⟨_, a, rfl, ht _ _ hrel, hrel⟩
theorem SimAt.next (L : Lg C) (h2 : 2 ≤ (tk C.fs b).k) {k k' : TokF → PP β} (hk : ∀ t u, tkR t u → Sim C e R' (k t) (k' u)) : SimAt C e b a R' (nextP C.fs >>= k) (nextP C.gs >>= k') := by
  have hf' : ∀ d, (nextP C.fs >>= k) b d = k (tk C.fs b) (Go.Proofs.Ytdiibenofbcfnaa.nx C.fs b) d := fun d => rfl
  have hg' : ∀ d, (nextP C.gs >>= k') a d = k' (tk C.gs a) (Go.Proofs.Ytdiibenofbcfnaa.nx C.gs a) d := fun d => rfl
  have hnx := nx_eq (ts := C.fs) (a := b) (by omega)
  refine ⟨fun d z b' d' hb hf => ?_, fun d z b' d' hrel hf hl => ?_⟩
  · rw [hf'] at hf
    have q := (hk _ _ (tkR.rfl' _) _ a).mb _ _ _ _ (L.nb b hb) hf
    rw [hnx] at q
    omega
  · rw [hf', hnx] at hf
    have hs := L.sig b a hrel
    have h2' : 1 ≤ (tk C.gs a).k := by rcases hs.1 with h | h <;> omega
    rw [hg', nx_eq h2']
    exact (hk _ _ hs _ _).sim _ _ _ _ (L.nx b a hrel h2) hf hl
theorem SimAt.next0 (L : Lg C) (h2 : 2 ≤ (tk C.fs b).k) : SimAt C e b a tkR (nextP C.fs) (nextP C.gs) := by
  have hnx := nx_eq (ts := C.fs) (a := b) (by omega)
  refine ⟨fun d z b' d' hb hf => ?_, fun d z b' d' hrel hf hl => ?_⟩
  · have h' : PR.ok (tk C.fs b) (Go.Proofs.Ytdiibenofbcfnaa.nx C.fs b) d = .ok z b' d' := hf
    injection h' with _ h1 _
    have := L.nb b hb
    omega
  · have h' : PR.ok (tk C.fs b) (Go.Proofs.Ytdiibenofbcfnaa.nx C.fs b) d = .ok z b' d' := hf
    injection h' with h0 h1 h3
    subst h0 h1 h3
    have hs := L.sig b a hrel
    have h2' : 1 ≤ (tk C.gs a).k := by rcases hs.1 with h | h <;> omega
    refine ⟨_, a + 1, ?_, hs, hnx ▸ L.nx b a hrel h2⟩
    show PR.ok (tk C.gs a) (Go.Proofs.Ytdiibenofbcfnaa.nx C.gs a) d = _
    rw [nx_eq h2']
theorem Sim.tok (L : Lg C) {k k' : TokF → PP β} (hk : ∀ t u, tkR t u → Sim C e R' (k t) (k' u)) : Sim C e R' (tokP C.fs >>= k) (tokP C.gs >>= k') := fun b a => by
  have hf' : ∀ d, (tokP C.fs >>= k) b d = k (tk C.fs b) b d := fun d => rfl
  have hg' : ∀ d, (tokP C.gs >>= k') a d = k' (tk C.gs a) a d := fun d => rfl
  refine ⟨fun d z b' d' hb hf => ?_, fun d z b' d' hrel hf hl => ?_⟩
  · rw [hf'] at hf
    exact (hk _ _ (tkR.rfl' _) b a).mb _ _ _ _ hb hf
  · rw [hf'] at hf
    rw [hg']
    exact (hk _ _ (L.sig b a hrel) b a).sim _ _ _ _ hrel hf hl
theorem Sim.tokAt (L : Lg C) {k k' : TokF → PP β} (hk : ∀ b a u, tkR (tk C.fs b) u → SimAt C e b a R' (k (tk C.fs b)) (k' u)) : Sim C e R' (tokP C.fs >>= k) (tokP C.gs >>= k') := fun b a => by
  have hf' : ∀ d, (tokP C.fs >>= k) b d = k (tk C.fs b) b d := fun d => rfl
  have hg' : ∀ d, (tokP C.gs >>= k') a d = k' (tk C.gs a) a d := fun d => rfl
  refine ⟨fun d z b' d' hb hf => ?_, fun d z b' d' hrel hf hl => ?_⟩
  · rw [hf'] at hf
    exact (hk b a _ (tkR.rfl' _)).mb _ _ _ _ hb hf
  · rw [hf'] at hf
    rw [hg']
    exact (hk b a _ (L.sig b a hrel)).sim _ _ _ _ hrel hf hl
theorem SimAt.iteN (L : Lg C) {c : Int} {t u : TokF} (hc : 2 ≤ c) (ht : t = tk C.fs b) (hu : tkR t u) {f g : TokF → PP β} {B B' : PP β} (hf : ∀ x y, tkR x y → Sim C e R' (f x) (g y)) (hB : SimAt C e b a R' B B') : SimAt C e b a R' (if ((t.k : Int) == c) = true then nextP C.fs >>= f else B) (if ((u.k : Int) == c) = true then nextP C.gs >>= g else B') := by
  rw [← hu.beq hc]
  split
  · rename_i h
    subst ht
    exact SimAt.next L (by have := eq_of_beq h; omega) hf
  · exact hB
theorem Sim.enter (L : Lg C) : Sim C e Eq (enterP C.fs) (enterP C.gs) := fun b a => by
  refine ⟨fun d z b' d' hb hf => ?_, fun d z b' d' hrel hf _ => ?_⟩
  · unfold enterP at hf
    split at hf
    · cases hf
    · injection hf with _ h1 _; omega
  · unfold enterP at hf ⊢
    split at hf
    · cases hf
    · injection hf with h0 h1 h2
      rename_i hd
      subst h1 h2
      exact ⟨(), a, by rw [if_neg hd], rfl, hrel⟩
theorem Sim.leave : Sim C e Eq leaveP leaveP := fun b a => by
  refine ⟨fun d z b' d' hb hf => ?_, fun d z b' d' hrel hf _ => ?_⟩
  · have h' : PR.ok () b (d - 1) = .ok z b' d' := hf
    injection h' with _ h1 _
    omega
  · have h' : PR.ok () b (d - 1) = .ok z b' d' := hf
    injection h' with h0 h1 h2
    subst h1 h2
    exact ⟨(), a, rfl, rfl, hrel⟩
theorem Sim.take (L : Lg C) {s : List Nat} : Sim C e Eq (takeP C.fs s) (takeP C.gs s) := by
  unfold takeP
  exact Sim.sgn L (fun b a h => by simp only [if_true]; exact SimAt.next L (by rw [k_isS h]; decide) fun _ _ _ => Sim.pure rfl) (by simp only [Bool.false_eq_true, if_false]; exact Sim.fail _)
theorem Sim.key (L : Lg C) {s : List Nat} : Sim C e Eq (keyP C.fs s) (keyP C.gs s) := by
  unfold keyP
  exact Sim.wrd L (fun b a h => by simp only [if_true]; exact SimAt.next L (by rw [k_isW h]; decide) fun _ _ _ => Sim.pure rfl) (by simp only [Bool.false_eq_true, if_false]; exact Sim.fail _)
theorem Sim.name (L : Lg C) : Sim C e tkR (nameP C.fs) (nameP C.gs) := by
  unfold nameP
  refine Sim.tokAt L fun b a u hu => ?_
  rw [← hu.beq (by decide)]
  split
  · rename_i h
    exact SimAt.next0 L (by have := eq_of_beq h; omega)
  · exact Sim.fail _ b a
theorem Adv.name {ts : List TokF} : Adv (nameP ts) := by
  unfold nameP
  refine Adv.tokAt fun a => ?_
  split
  · rename_i h
    intro d x a' d' hh
    have h' : PR.ok (tk ts a) (Go.Proofs.Ytdiibenofbcfnaa.nx ts a) d = .ok x a' d' := hh
    injection h' with _ h1 _
    have h5 := eq_of_beq h
    rw [nx_eq (by omega)] at h1
    omega
  · exact Adv.fail _ a
theorem nb_lines {ts : List TokF} (hn : ∀ b, b < ts.length → nx ts b < ts.length) : ∀ f b, b < ts.length → b ≤ linesF ts f b ∧ linesF ts f b < ts.length
  | 0, b, h => ⟨Nat.le_refl _, h⟩
  | f + 1, b, h => by
    rw [linesF]
    split
    · have := nb_lines hn f _ (hn b h)
      have := @le_nx ts b
      omega
    · exact ⟨Nat.le_refl _, h⟩
theorem nb_ends {ts : List TokF} (hn : ∀ b, b < ts.length → nx ts b < ts.length) : ∀ f b, b < ts.length → b ≤ endsF ts f b ∧ endsF ts f b < ts.length
  | 0, b, h => ⟨Nat.le_refl _, h⟩
  | f + 1, b, h => by
    rw [endsF]
    split
    · have := nb_ends hn f _ (hn b h)
      have := @le_nx ts b
      omega
    · exact ⟨Nat.le_refl _, h⟩
theorem SimAt.lines (L : Lg C) {k k' : Unit → PP β} (hk : Sim C e R' (k ()) (k' ())) (hadv : e = true → Adv (k ())) : SimAt C e b a R' (linesP C.fs >>= k) (linesP C.gs >>= k') := by
  have hf' : ∀ d, (linesP C.fs >>= k) b d = k () (linesF C.fs C.fs.length b) d := fun d => rfl
  have hg' : ∀ d, (linesP C.gs >>= k') a d = k' () (linesF C.gs C.gs.length a) d := fun d => rfl
  refine ⟨fun d z b' d' hb hf => ?_, fun d z b' d' hrel hf hl => ?_⟩
  · rw [hf'] at hf
    have q := nb_lines L.nb C.fs.length b hb
    have := (hk _ a).mb _ _ _ _ q.2 hf
    omega
  · rw [hf'] at hf
    rw [hg']
    have q := nb_lines L.nb C.fs.length b (L.fl _ _ hrel)
    have q2 := (hk _ a).mb _ _ _ _ q.2 hf
    have hlim : C.lim (linesF C.fs C.fs.length b) := by
      rcases hl with he | hl
      · apply Classical.byContradiction
        intro hn
        have := L.last _ q.2 hn
        have := hadv he _ _ _ _ _ hf
        omega
      · exact L.low _ _ q2.1 hl
    exact (hk _ _).sim _ _ _ _ (L.lines b a hrel hlim) hf hl
theorem Sim.lines (L : Lg C) {k k' : Unit → PP β} (hk : Sim C e R' (k ()) (k' ())) (hadv : e = true → Adv (k ())) : Sim C e R' (linesP C.fs >>= k) (linesP C.gs >>= k') := fun _ _ => SimAt.lines L hk hadv
theorem Sim.ends0 (L : Lg C) : Sim C false Eq (endsP C.fs) (endsP C.gs) := fun b a => by
  refine ⟨fun d z b' d' hb hf => ?_, fun d z b' d' hrel hf hl => ?_⟩
  · have h' : PR.ok () (endsF C.fs C.fs.length b) d = .ok z b' d' := hf
    injection h' with _ h1 _
    rw [← h1]
    exact nb_ends L.nb C.fs.length b hb
  · have h' : PR.ok () (endsF C.fs C.fs.length b) d = .ok z b' d' := hf
    injection h' with h0 h1 h2
    subst h1 h2
    exact ⟨(), _, rfl, rfl, L.ends b a hrel (hl.elim (fun h => by cases h) id)⟩
theorem Sim.close0 (L : Lg C) : Sim C false Eq (closeP C.fs) (closeP C.gs) := by
  unfold closeP
  exact Sim.ask L (fun b a h => L.over b a h) (fun b a _ => by simp only [if_true]; exact Sim.ends0 L b a) (by simp only [Bool.false_eq_true, if_false]; exact Sim.fail _)
theorem Sim.iter' (L : Lg C) {go go' : Nat → Bool} {st st' : α → PP α} (hr : ∀ x, R x x) (hgo : ∀ b a, C.rel b a → go b = go' a) (hst : ∀ x y, R x y → ∀ b a, go b = true → SimAt C e b a R (st x) (st' y)) (hF : ∀ x b, go b = true → AdvAt (st x) b) (hG : ∀ x a, go' a = true → AdvAt (st' x) a) :
    ∀ f f' x y, R x y → ∀ b a, (b < C.fs.length → C.fs.length ≤ f + b) → (a < C.gs.length → C.gs.length ≤ f' + a) → SimAt C e b a R (iter go st f x) (iter go' st' f' y)
  | 0, f', x, y, hxy, b, a, hf, _ => by
    refine ⟨fun d z b' d' hb h => ?_, fun d z b' d' hrel h _ => ?_⟩
    · have := hf hb; omega
    · have := hf (L.fl _ _ hrel); have := L.fl _ _ hrel; omega
  | f + 1, f', x, y, hxy, b, a, hf, hg => by
    have IH := Sim.iter' L hr hgo hst hF hG f
    refine ⟨fun d z b' d' hb h => ?_, fun d z b' d' hrel h hl => ?_⟩
    · rw [iter_step] at h
      split at h
      · rename_i hgb
        obtain ⟨x1, b1, d1, hx1, hz⟩ := bind_inv h
        have q1 := (hst x x (hr x) b a hgb).mb _ _ _ _ hb hx1
        have q2 := hF x b hgb _ _ _ _ hx1
        have q3 := (IH C.gs.length x1 x1 (hr x1) b1 a (fun _ => by have := hf hb; omega) (fun _ => by omega)).mb _ _ _ _ q1.2 hz
        omega
      · exact (Sim.pure (C := C) (e := e) (R := R) (hr x) b a).mb _ _ _ _ hb h
    · have hb := L.fl _ _ hrel
      have ha := L.gl _ _ hrel
      obtain ⟨f1, rfl⟩ : ∃ f1, f' = f1 + 1 := ⟨f' - 1, by have := hg ha; omega⟩
      rw [iter_step] at h ⊢
      rw [← hgo b a hrel]
      split at h
      · rename_i hgb
        rw [if_pos hgb]
        obtain ⟨x1, b1, d1, hx1, hz⟩ := bind_inv h
        have q1 := (hst x x (hr x) b a hgb).mb _ _ _ _ hb hx1
        have q2 := hF x b hgb _ _ _ _ hx1
        have q3 := (IH C.gs.length x1 x1 (hr x1) b1 a (fun _ => by have := hf hb; omega) (fun _ => by omega)).mb _ _ _ _ q1.2 hz
        obtain ⟨y1, a1, hy1, hxy1, hrel1⟩ := (hst x y hxy b a hgb).sim _ _ _ _ hrel hx1 (hl.imp id (L.low _ _ q3.1))
        have q4 := hG y a (hgo b a hrel ▸ hgb) _ _ _ _ hy1
        obtain ⟨w, a', hw, hzw, hrel'⟩ := (IH f1 x1 y1 hxy1 b1 a1 (fun _ => by have := hf hb; omega) (fun _ => by have := hg ha; omega)).sim _ _ _ _ hrel1 hz hl
        refine ⟨w, a', ?_, hzw, hrel'⟩
        show PP.bind (st' y) (Go.Proofs.Ytdiibenofbcfnaa.iter go' st' f1) a d = _
        unfold PP.bind
        rw [hy1]
        exact hw
      · rename_i hgb
        rw [if_neg hgb]
        have h' : PR.ok x b d = .ok z b' d' := h
        injection h' with h0 h1 h2
        subst h0 h1 h2
        exact ⟨y, a, rfl, hxy, hrel⟩
theorem Sim.iter (L : Lg C) {go go' : Nat → Bool} {st st' : α → PP α} (hr : ∀ x, R x x) (hgo : ∀ b a, C.rel b a → go b = go' a) (hst : ∀ x y, R x y → ∀ b a, go b = true → SimAt C e b a R (st x) (st' y)) (hF : ∀ x b, go b = true → AdvAt (st x) b) (hG : ∀ x a, go' a = true → AdvAt (st' x) a) {x y : α} (hxy : R x y) : Sim C e R (Go.Proofs.Ytdiibenofbcfnaa.iter go st C.fs.length x) (Go.Proofs.Ytdiibenofbcfnaa.iter go' st' C.gs.length y) := fun b a =>
  Sim.iter' L hr hgo hst hF hG _ _ x y hxy b a (fun _ => by omega) (fun _ => by omega)
end
end Go.Proofs.Ytdiibenofbcfnaa
