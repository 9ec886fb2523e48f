/- Several texts put together: ParD. -/
import Derived.Test.YtdiibenofbcfnaaGreatBu3
import Derived.Test.YtdiibenofbcfnaaGreatBu14
import Derived.Test.YtdiibenofbcfnaaGreatShelf
import Derived.Lib.SlicesS
set_option linter.unusedSimpArgs false
set_option linter.unusedVariables false
namespace Go.Proofs.YtdiibenofbcfnaaGreat
open Go.RowKit
section
variable {g : Nat} {ts : List TokF} {a d : Nat} {w w' w0 W : World} {bs : List Bx} {rs : List Rw} {F : List Cold} {K : Act → World → Prop} {act : Act}
theorem PS.cells (h : PS g ts a d w) : ∃ A c, w.cell? ⟨g, 0, none⟩ = some (.slice A ts.length c) ∧ w.cell? ⟨g, 1, none⟩ = some (.int .i64 (a : Int)) ∧ w.cell? ⟨g, 2, none⟩ = some (.int .i64 (d : Int)) ∧ w.frozen? ⟨g, 1, none⟩ = false ∧ w.frozen? ⟨g, 2, none⟩ = false ∧ g < w.heap.size := by
  obtain ⟨A, c, b, _⟩ := h.box
  exact ⟨A, c, b.cell 0, b.cell 1, b.cell 2, b.frozen 1, b.frozen 2, b.lt⟩
theorem PS.setAt (h : PS g ts a d w) (a' : Nat) (ha : a' < ts.length) : PS g ts a' d (w.setCell ⟨g, 1, none⟩ (.int .i64 (a' : Int))) := by
  obtain ⟨A, c, b, r, hc⟩ := h.box
  exact ⟨⟨A, c, b.set_ 1 _, r.keep fun p hp => World.cell?_setCell_other _ _ _ _ (fun e => by subst e; simp at hp), hc⟩, ha, h.hd, h.ok⟩
theorem PS.setDeep (h : PS g ts a d w) (d' : Nat) (hd : d' ≤ 64) : PS g ts a d' (w.setCell ⟨g, 2, none⟩ (.int .i64 (d' : Int))) := by
  obtain ⟨A, c, b, r, hc⟩ := h.box
  exact ⟨⟨A, c, b.set_ 2 _, r.keep fun p hp => World.cell?_setCell_other _ _ _ _ (fun e => by subst e; simp at hp), hc⟩, h.ha, hd, h.ok⟩
theorem kept_set (w : World) (g j : Nat) (u : Value) : Kept [g] w (w.setCell ⟨g, j, none⟩ u) := by
  have q : w.heap.size = (w.setCell ⟨g, j, none⟩ u).heap.size := by simp
  exact ⟨rfl, rfl, rfl, Nat.le_of_eq q, fun k _ hk => Below.heap_setCell w _ u k (fun e => hk (by rw [e]; simp))⟩
theorem PS.own (m : PS g ts a d w) : Hid (Own w [g] (PS g ts a d) [] [] [] w) := Lib.hid (Own.init m (PS.loc m.lt))
theorem PS.nx_lt (m : PS g ts a d w) : nx ts a < ts.length := by
  unfold nx
  split
  · exact m.ha
  · exact m.ok.ends a m.ha (fun e => by rename_i h; rw [e] at h; exact h rfl)
variable {P : Program} {o : Oper} {Q : Exit → Act → World → Prop}
theorem wo_loadA (HO : Hid (Own w0 [g] (PS g ts a d) bs rs F w)) {ty : TypeId} {x : Operand} (ho : o.op = .load ty x) (hx : act.eval x = .pointer (some ⟨g, 1, none⟩)) (hd : ∀ w, (isAgg ty).run P w = .ok false w) (h : K (act.put o.dst (.int .i64 (a : Int))) w) : WOp P o act w K Q := by
  obtain ⟨A, c, k0, k1, k2, f1, f2, kz⟩ := HO.out.st.cells
  unfold WOp Oper.wp execOp
  simp only [ho, hx, Instr.loadAt, Instr.sureAddr, Sem.run_bind, Sem.run_pure, Result.andThen_ok, loadVar, hd w, Bool.false_eq_true, if_false, run_load, k1]
  exact h
theorem wo_loadD (HO : Hid (Own w0 [g] (PS g ts a d) bs rs F w)) {ty : TypeId} {x : Operand} (ho : o.op = .load ty x) (hx : act.eval x = .pointer (some ⟨g, 2, none⟩)) (hd : ∀ w, (isAgg ty).run P w = .ok false w) (h : K (act.put o.dst (.int .i64 (d : Int))) w) : WOp P o act w K Q := by
  obtain ⟨A, c, k0, k1, k2, f1, f2, kz⟩ := HO.out.st.cells
  unfold WOp Oper.wp execOp
  simp only [ho, hx, Instr.loadAt, Instr.sureAddr, Sem.run_bind, Sem.run_pure, Result.andThen_ok, loadVar, hd w, Bool.false_eq_true, if_false, run_load, k2]
  exact h
theorem wo_storeA (HO : Hid (Own w0 [g] (PS g ts a d) bs rs F w)) (hg : g < w0.heap.size) {ty : TypeId} {x y : Operand} (ho : o.op = .store ty x y) (hdst : o.dst = none) (hx : act.eval x = .pointer (some ⟨g, 1, none⟩)) {v : Int} (hy : act.eval y = .int .i64 v) (hs : ∀ w, (sizeOf ty).run P w = .ok 1 w) (a' : Nat) (ha : a' < ts.length) (hv : v = (a' : Int))
    (h : ∀ W, Hid (Own w0 [g] (PS g ts a' d) bs rs F W) → K act W) : WOp P o act w K Q := by
  obtain ⟨A, c, k0, k1, k2, f1, f2, kz⟩ := HO.out.st.cells
  subst hv
  have := h _ (Lib.hid (HO.out.pcall hg (kept_set _ _ _ _) (HO.out.st.setAt a' ha)))
  unfold WOp Oper.wp execOp
  have hst : ∀ u : Int, (storeCells ⟨g, 1, none⟩ [Value.int .i64 u]).run P w = .ok () (w.setCell ⟨g, 1, none⟩ (.int .i64 u)) := fun u => by simp [go_sem, storeCells, k1, f1, kz]
  simp only [ho, hx, hy, Instr.storeAt, Instr.sureAddr, Sem.run_bind, Sem.run_pure, Result.andThen_ok, storeVar, hs w, Value.cells, List.size_toArray, List.length_cons, List.length_nil, Nat.zero_add, ne_eq, not_true, if_false, hst]
  simpa [Oper.upon, hdst, Act.put] using this
theorem wo_storeD (HO : Hid (Own w0 [g] (PS g ts a d) bs rs F w)) (hg : g < w0.heap.size) {ty : TypeId} {x y : Operand} (ho : o.op = .store ty x y) (hdst : o.dst = none) (hx : act.eval x = .pointer (some ⟨g, 2, none⟩)) {v : Int} (hy : act.eval y = .int .i64 v) (hs : ∀ w, (sizeOf ty).run P w = .ok 1 w) (d' : Nat) (hd : d' ≤ 64) (hv : v = (d' : Int))
    (h : ∀ W, Hid (Own w0 [g] (PS g ts a d') bs rs F W) → K act W) : WOp P o act w K Q := by
  obtain ⟨A, c, k0, k1, k2, f1, f2, kz⟩ := HO.out.st.cells
  subst hv
  have := h _ (Lib.hid (HO.out.pcall hg (kept_set _ _ _ _) (HO.out.st.setDeep d' hd)))
  unfold WOp Oper.wp execOp
  have hst : ∀ u : Int, (storeCells ⟨g, 2, none⟩ [Value.int .i64 u]).run P w = .ok () (w.setCell ⟨g, 2, none⟩ (.int .i64 u)) := fun u => by simp [go_sem, storeCells, k2, f2, kz]
  simp only [ho, hx, hy, Instr.storeAt, Instr.sureAddr, Sem.run_bind, Sem.run_pure, Result.andThen_ok, storeVar, hs w, Value.cells, List.size_toArray, List.length_cons, List.length_nil, Nat.zero_add, ne_eq, not_true, if_false, hst]
  simpa [Oper.upon, hdst, Act.put] using this
end
set_option maxRecDepth 100000 in
set_option maxHeartbeats 3200000 in
theorem pnext_any {g : Nat} {ts : List TokF} {a d : Nat} (w : World) (m : PS g ts a d w) : Calls Tryz.prog 29 #[.pointer (some ⟨g, 0, none⟩)] w fun e w' => e = .returned (tokV (tk ts a)) ∧ PS g ts (nx ts a) d w' ∧ Kept [g] w w' := by
  have HO := m.own
  have hg := m.lt
  have hnx := m.nx_lt
  have hsm := m.ok.len
  have HT : Hid (∀ w, PS g ts a d w → Calls Tryz.prog 15 #[.pointer (some ⟨g, 0, none⟩)] w fun e w' => e = .returned (tokV (tk ts a)) ∧ Below w.heap.size w w') := Lib.hid (fun w m => ptok_any w m)
  have e0 : nx ts a = if (((tk ts a).k : Int) == 0) = true then a else a + 1 := rfl
  have hw1 : wrap64 ((a : Int) + 1) = (a : Int) + 1 := IntWalk.wrap64_in _ (by have := m.ha; omega)
  have hbne : ((((tk ts a).k : Int)) != 0) = !((((tk ts a).k : Int)) == 0) := rfl
  generalize nx ts a = N at hnx e0 ⊢
  cases hb : (((tk ts a).k : Int) == 0)
  · rw [hb] at hbne e0
    obtain rfl : N = a + 1 := e0
    clear m
    have hbt : ((((tk ts a).k : Int)) != 0) = true := hbne
    clear hbne
    go_enter Tryz.func29, Tryz.ntmps29
    (repeat' (first | (with_reducible first | refine oXt ?_ | refine oXb ?_) | ((with_reducible refine ib_miss ?_ ?_); exact rfl) | ((first | ((with_reducible refine to_load ?_); first | refine oL1 HO rfl rfl ?_ | refine oL2 HO rfl rfl ?_ | refine oL3 HO rfl rfl ?_ | (refine wo_loadA HO rfl rfl Tryz.isAgg3 ?_; (try simp only [Act.put, pS0, pS1, pS2]))) | ((first | with_reducible refine oAl HO ?_); clear HO; intro _ HO)); (try simp only [Act.put, pS0, pS1, pS2])) | ((first | ((with_reducible refine to_store ?_); first | refine oT1 HO rfl rfl rfl ?_ | refine oT2 HO rfl rfl rfl (by rfl) ?_ | refine oT3 HO rfl rfl rfl rfl ?_) | with_reducible refine ab_drew HO ?_); clear HO; intro _ HO) | ((with_reducible refine to_store ?_); first | (refine wo_storeA HO hg rfl rfl rfl rfl Tryz.sizeOf3 (a + 1) hnx (by simp) ?_; clear HO; intro _ HO)) | ((go_big_may; first | (go_at_call 15; refine arm_quiet HT HO ?_; clear HO; intro _ HO) | fail) <;> (try dsimp only)) | go_values | go_skip | go_guarded | go_step | go_upon | (go_ite <;> go_prune <;> (try go_simp))))
    refine bp_cell HO (t := 2) (ty := 59) rfl rfl (by repeat (first | exact mH | apply mT)) Tryz.isAgg59 Tryz.sizeOf59 (by rfl) rfl ?_
    exact ⟨rfl, HO.out.st, HO.out.kept⟩
  · rw [hb] at hbne e0
    obtain rfl : N = a := e0
    clear m
    have hbt : ((((tk ts N).k : Int)) != 0) = false := hbne
    clear hbne
    go_enter Tryz.func29, Tryz.ntmps29
    (repeat' (first | (with_reducible first | refine oXt ?_ | refine oXb ?_) | ((with_reducible refine ib_miss ?_ ?_); exact rfl) | ((first | ((with_reducible refine to_load ?_); first | refine oL1 HO rfl rfl ?_ | refine oL2 HO rfl rfl ?_ | refine oL3 HO rfl rfl ?_) | ((first | with_reducible refine oAl HO ?_); clear HO; intro _ HO)); (try simp only [Act.put, pS0, pS1, pS2])) | ((first | ((with_reducible refine to_store ?_); first | refine oT1 HO rfl rfl rfl ?_ | refine oT2 HO rfl rfl rfl (by rfl) ?_ | refine oT3 HO rfl rfl rfl rfl ?_) | with_reducible refine ab_drew HO ?_); clear HO; intro _ HO) | ((go_big_may; first | (go_at_call 15; refine arm_quiet HT HO ?_; clear HO; intro _ HO) | fail) <;> (try dsimp only)) | go_values | go_skip | go_guarded | go_step | go_upon | (go_ite <;> go_prune <;> (try go_simp))))
    refine bp_cell HO (t := 2) (ty := 59) rfl rfl (by repeat (first | exact mH | apply mT)) Tryz.isAgg59 Tryz.sizeOf59 (by rfl) rfl ?_
    exact ⟨rfl, HO.out.st, HO.out.kept⟩
section
variable {g : Nat} {ts : List TokF} {a d : Nat} {w w' w0 W : World} {bs : List Bx} {rs : List Rw} {F : List Cold} {T : Ending → World → Prop}
theorem arm_tok {K : FuncId} {args : Array Value} {X : List Nat} (HO : Hid (Own w0 X (PS g ts a d) bs rs F w)) (hK : K = 15) (ha : args = #[.pointer (some ⟨g, 0, none⟩)]) (h : ∀ W, Hid (Own w0 X (PS g ts a d) bs rs F W) → T (.returned (.agg #[.int .i64 ((TokF.k (tk ts a) : Nat) : Int), .int .i64 ((TokF.at' (tk ts a) : Nat) : Int), .string (strN (TokF.s (tk ts a))), .bool (zn (TokF.z (tk ts a))), .int .u64 (zh (TokF.z (tk ts a))), .int .u64 (zl (TokF.z (tk ts a)))])) W) : Calls Tryz.prog K args w T := by
  subst hK ha
  refine (ptok_any w HO.out.st).mono fun e W hp => ?_
  obtain ⟨rfl, q⟩ := hp
  exact h W (Lib.hid (HO.out.next q))
theorem arm_next {K : FuncId} {args : Array Value} (HO : Hid (Own w0 [g] (PS g ts a d) bs rs F w)) (hg : g < w0.heap.size) (hK : K = 29) (ha : args = #[.pointer (some ⟨g, 0, none⟩)]) (h : ∀ W, Hid (Own w0 [g] (PS g ts (nx ts a) d) bs rs F W) → T (.returned (.agg #[.int .i64 ((TokF.k (tk ts a) : Nat) : Int), .int .i64 ((TokF.at' (tk ts a) : Nat) : Int), .string (strN (TokF.s (tk ts a))), .bool (zn (TokF.z (tk ts a))), .int .u64 (zh (TokF.z (tk ts a))), .int .u64 (zl (TokF.z (tk ts a)))])) W) : Calls Tryz.prog K args w T := by
  subst hK ha
  refine (pnext_any w HO.out.st).mono fun e W hp => ?_
  obtain ⟨rfl, hs, q⟩ := hp
  exact h W (Lib.hid (HO.out.pcall hg q hs))
end
set_option maxRecDepth 100000 in
set_option maxHeartbeats 3200000 in
theorem pfail_any {g : Nat} {ts : List TokF} {a d : Nat} (k : Int) (w : World) (m : PS g ts a d w) : Calls Tryz.prog 39 #[.pointer (some ⟨g, 0, none⟩), .int .i64 k] w fun e w' => ∃ v, e = .panicked [{ v := v, recovered := false }] ∧ FailV w' w.heap.size v (tk ts a).at' k ∧ Kept [g] w w' := by
  have HO := m.own
  clear m
  go_enter Tryz.func39, Tryz.ntmps39
  (repeat' (first | (with_reducible first | refine oXt ?_ | refine oXb ?_) | ((with_reducible refine ib_miss ?_ ?_); exact rfl) | ((first | ((with_reducible refine to_field ?_); refine oF1 rfl ?_; refine ⟨_, _, _, _, _, _, _, _, rfl, rfl, inferInstance, ?_⟩) | ((first | ((with_reducible refine to_box ?_); refine wo_box HO rfl rfl ?_)); clear HO; intro _ HO)); (try simp only [Act.put, pS0, pS1, pS2])) | ((first | with_reducible refine ab_drew HO ?_); clear HO; intro _ HO) | ((go_big_may; first | (go_at_call 15; refine arm_tok HO rfl rfl ?_; clear HO; intro _ HO) | fail) <;> (try dsimp only)) | go_values | go_skip | go_guarded | go_step | go_upon | (go_ite <;> go_prune <;> (try go_simp))))
  exact ⟨rfl, _, rfl, ⟨_, rfl, HO.out.base _ List.mem_cons_self, HO.out.box _ List.mem_cons_self⟩, HO.out.kept⟩
section
variable {g : Nat} {ts : List TokF} {a d n : Nat} {w w' w0 W : World} {bs : List Bx} {rs : List Rw} {F : List Cold} {T : Ending → World → Prop}
theorem contains_strN {ss : List (List Nat)} (hss : ∀ s ∈ ss, ∀ x ∈ s, x < 256) {s : List Nat} (hs : ∀ x ∈ s, x < 256) : Lib.containsS ((ss.map strN).take ss.length) (strN s) = decide (s ∈ ss) := by
  rw [List.take_of_length_le (by simp), Bool.eq_iff_iff, Lib.containsS_iff, decide_eq_true_eq, List.mem_map]
  constructor
  · rintro ⟨t, ht, e⟩
    have := strN_inj (hss t ht) hs e
    exact this ▸ ht
  · exact fun h => ⟨s, h, rfl⟩
end
set_option maxRecDepth 100000 in
set_option maxHeartbeats 3200000 in
theorem psign_any {g : Nat} {ts : List TokF} {a d : Nat} (ss : List (List Nat)) (hss : ∀ s ∈ ss, ∀ x ∈ s, x < 256) (hsl : ss.length ≤ 100) (r c : Nat) (w : World) (hb : Blk w r 9 ((ss.map fun s => Value.string (strN s)).toArray)) (m : PS g ts a d w) :
    Calls Tryz.prog 28 #[.pointer (some ⟨g, 0, none⟩), .slice (some ⟨r, 0, none⟩) ss.length c] w fun e w' => e = .returned (.bool (isS ts a ss)) ∧ Below w.heap.size w w' := by
  have HO : Hid (Own w [] (PS g ts a d) [] [] [] w) := Lib.hid (Own.init m (PS.loc m.lt))
  have hs : ∀ x ∈ (tk ts a).s, x < 256 := by rw [tk_eq m.ha]; exact m.ok.byte _ (List.getElem_mem m.ha)
  have HCON : Hid (∀ W, Kept [] w W → Calls Tryz.prog 38 #[.slice (some ⟨r, 0, none⟩) ss.length c, .string (strN (tk ts a).s)] W fun e w' => e = .returned (.bool (decide ((tk ts a).s ∈ ss))) ∧ w' = W) := Lib.hid fun W q => by
    have hb2 : Blk W r 9 ((ss.map fun s => Value.string (strN s)).toArray) := (q.block r hb.lt (by simp)).trans hb
    have h := Tryz.slices_Contains_string r 0 ss.length c (ss.map strN) (strN (tk ts a).s) W (by simp) (by omega) (fun j hj => by
      rw [hb2.cell, Nat.zero_add]
      have hj2 : j < ss.length := by simpa using hj
      simp [hj2])
    rw [contains_strN hss hs] at h
    exact h
  clear m hb
  unfold isS
  cases hk : (((tk ts a).k : Int) == 9)
  · go_enter Tryz.func28, Tryz.ntmps28
    (repeat' (first | (with_reducible first | refine oXt ?_ | refine oXb ?_) | ((with_reducible refine ib_miss ?_ ?_); exact rfl) | ((first | ((with_reducible refine to_load ?_); first | refine oL1 HO rfl rfl ?_ | refine oL2 HO rfl rfl ?_ | refine oL3 HO rfl rfl ?_) | ((first | with_reducible refine oAl HO ?_); clear HO; intro _ HO)); (try simp only [Act.put, pS0, pS1, pS2])) | ((first | ((with_reducible refine to_store ?_); first | refine oT1 HO rfl rfl rfl ?_ | refine oT2 HO rfl rfl rfl (by rfl) ?_ | refine oT3 HO rfl rfl rfl rfl ?_) | with_reducible refine ab_drew HO ?_); clear HO; intro _ HO) | ((go_big_may; first | (go_at_call 15; refine arm_tok HO rfl rfl ?_; clear HO; intro _ HO) | fail) <;> (try dsimp only)) | go_values | go_skip | go_guarded | go_step | go_upon | (go_ite <;> go_prune <;> (try go_simp))))
    refine bp_tmp (t := 4) rfl rfl rfl ?_
    exact ⟨rfl, HO.out.kept.below⟩
  · go_enter Tryz.func28, Tryz.ntmps28
    (repeat' (first | (with_reducible first | refine oXt ?_ | refine oXb ?_) | ((with_reducible refine ib_miss ?_ ?_); exact rfl) | ((first | ((with_reducible refine to_load ?_); first | refine oL1 HO rfl rfl ?_ | refine oL2 HO rfl rfl ?_ | refine oL3 HO rfl rfl ?_) | ((first | with_reducible refine oAl HO ?_); clear HO; intro _ HO)); (try simp only [Act.put, pS0, pS1, pS2])) | ((first | ((with_reducible refine to_store ?_); first | refine oT1 HO rfl rfl rfl ?_ | refine oT2 HO rfl rfl rfl (by rfl) ?_ | refine oT3 HO rfl rfl rfl rfl ?_) | with_reducible refine ab_drew HO ?_); clear HO; intro _ HO) | ((go_big_may; first | (go_at_call 15; refine arm_tok HO rfl rfl ?_; clear HO; intro _ HO) | (go_at_call 38; refine (HCON.out _ HO.out.kept).mono ?_; rintro _ _ ⟨rfl, rfl⟩) | fail) <;> (try dsimp only)) | go_values | go_skip | go_guarded | go_step | go_upon | (go_ite <;> go_prune <;> (try go_simp))))
    refine bp_tmp (t := 4) rfl rfl rfl ?_
    exact ⟨rfl, HO.out.kept.below⟩
set_option maxRecDepth 100000 in
set_option maxHeartbeats 3200000 in
theorem pword_any {g : Nat} {ts : List TokF} {a d : Nat} (ss : List (List Nat)) (hss : ∀ s ∈ ss, ∀ x ∈ s, x < 256) (hsl : ss.length ≤ 100) (r c : Nat) (w : World) (hb : Blk w r 9 ((ss.map fun s => Value.string (strN s)).toArray)) (m : PS g ts a d w) :
    Calls Tryz.prog 30 #[.pointer (some ⟨g, 0, none⟩), .slice (some ⟨r, 0, none⟩) ss.length c] w fun e w' => e = .returned (.bool (isW ts a ss)) ∧ Below w.heap.size w w' := by
  have HO : Hid (Own w [] (PS g ts a d) [] [] [] w) := Lib.hid (Own.init m (PS.loc m.lt))
  have hs : ∀ x ∈ (tk ts a).s, x < 256 := by rw [tk_eq m.ha]; exact m.ok.byte _ (List.getElem_mem m.ha)
  have HCON : Hid (∀ W, Kept [] w W → Calls Tryz.prog 38 #[.slice (some ⟨r, 0, none⟩) ss.length c, .string (strN (tk ts a).s)] W fun e w' => e = .returned (.bool (decide ((tk ts a).s ∈ ss))) ∧ w' = W) := Lib.hid fun W q => by
    have hb2 : Blk W r 9 ((ss.map fun s => Value.string (strN s)).toArray) := (q.block r hb.lt (by simp)).trans hb
    have h := Tryz.slices_Contains_string r 0 ss.length c (ss.map strN) (strN (tk ts a).s) W (by simp) (by omega) (fun j hj => by
      rw [hb2.cell, Nat.zero_add]
      have hj2 : j < ss.length := by simpa using hj
      simp [hj2])
    rw [contains_strN hss hs] at h
    exact h
  clear m hb
  unfold isW
  cases hk : (((tk ts a).k : Int) == 7)
  · go_enter Tryz.func30, Tryz.ntmps30
    (repeat' (first | (with_reducible first | refine oXt ?_ | refine oXb ?_) | ((with_reducible refine ib_miss ?_ ?_); exact rfl) | ((first | ((with_reducible refine to_load ?_); first | refine oL1 HO rfl rfl ?_ | refine oL2 HO rfl rfl ?_ | refine oL3 HO rfl rfl ?_) | ((first | with_reducible refine oAl HO ?_); clear HO; intro _ HO)); (try simp only [Act.put, pS0, pS1, pS2])) | ((first | ((with_reducible refine to_store ?_); first | refine oT1 HO rfl rfl rfl ?_ | refine oT2 HO rfl rfl rfl (by rfl) ?_ | refine oT3 HO rfl rfl rfl rfl ?_) | with_reducible refine ab_drew HO ?_); clear HO; intro _ HO) | ((go_big_may; first | (go_at_call 15; refine arm_tok HO rfl rfl ?_; clear HO; intro _ HO) | fail) <;> (try dsimp only)) | go_values | go_skip | go_guarded | go_step | go_upon | (go_ite <;> go_prune <;> (try go_simp))))
    refine bp_tmp (t := 4) rfl rfl rfl ?_
    exact ⟨rfl, HO.out.kept.below⟩
  · go_enter Tryz.func30, Tryz.ntmps30
    (repeat' (first | (with_reducible first | refine oXt ?_ | refine oXb ?_) | ((with_reducible refine ib_miss ?_ ?_); exact rfl) | ((first | ((with_reducible refine to_load ?_); first | refine oL1 HO rfl rfl ?_ | refine oL2 HO rfl rfl ?_ | refine oL3 HO rfl rfl ?_) | ((first | with_reducible refine oAl HO ?_); clear HO; intro _ HO)); (try simp only [Act.put, pS0, pS1, pS2])) | ((first | ((with_reducible refine to_store ?_); first | refine oT1 HO rfl rfl rfl ?_ | refine oT2 HO rfl rfl rfl (by rfl) ?_ | refine oT3 HO rfl rfl rfl rfl ?_) | with_reducible refine ab_drew HO ?_); clear HO; intro _ HO) | ((go_big_may; first | (go_at_call 15; refine arm_tok HO rfl rfl ?_; clear HO; intro _ HO) | (go_at_call 38; refine (HCON.out _ HO.out.kept).mono ?_; rintro _ _ ⟨rfl, rfl⟩) | fail) <;> (try dsimp only)) | go_values | go_skip | go_guarded | go_step | go_upon | (go_ite <;> go_prune <;> (try go_simp))))
    refine bp_tmp (t := 4) rfl rfl rfl ?_
    exact ⟨rfl, HO.out.kept.below⟩
end Go.Proofs.YtdiibenofbcfnaaGreat
