/- Several texts put together: JoiD. -/
import Derived.Test.YtdiibenofbcfnaaBu42
import Derived.Test.YtdiibenofbcfnaaBu41
import Derived.Test.YtdiibenofbcfnaaBu43
set_option linter.unusedSimpArgs false
set_option linter.unusedVariables false
namespace Go.Proofs.Ytdiibenofbcfnaa
open Go.RowKit
section
variable {w0 w W : World} {X : List Nat} {S : World → Prop} {bs : List Bx} {rs : List Rw} {F : List Cold} {T : Ending → World → Prop}
theorem arm_awake {KF : FuncId} {args : Array Value} (HO : Hid (Own w0 X S bs rs F w)) (hK : KF = 5) (hargs : args = #[]) (h : ∀ W, Hid (Own w0 X S bs rs F W) → T (.returned (.bool true)) W) : Calls Try.prog KF args w T := by
  subst hK hargs
  refine (awake13_any w).mono fun e W hp => ?_
  obtain ⟨rfl, q⟩ := hp
  exact h W (Lib.hid (HO.out.next q))
theorem rb_kept {A : Option Addr} {l : List Nat} (HO : Hid (Own w0 [] S bs rs F w)) (h : Hid (RB w0 w0.heap.size A l)) : Hid (RB w w.heap.size A l) :=
  Lib.hid ((h.out.keep fun p hp => World.cell?_of_block (HO.out.kept.block p.block hp List.not_mem_nil)).more HO.out.kept.size)
theorem rb_cold {A : Option Addr} {l : List Nat} (HO : Hid (Own w0 X S bs rs (Cold.row A (bvs l) :: F) w)) (hb : ∀ x ∈ l, x < 256) : Hid (RB w w.heap.size A l) :=
  Lib.hid (rb_rowAt (HO.out.cold _ List.mem_cons_self) hb fun b hb => hb.2.1)
theorem one_bytes {v : Value} {l : List Nat} {n : Nat} (HO : Hid (Own w0 X S bs (⟨5, 1, v, n, bvs l⟩ :: rs) F w)) (hn : n = l.length) : ∃ A c, v = .slice A l.length c ∧ l.length ≤ c ∧ Hid (Own w0 X S bs rs (Cold.row A (bvs l) :: F) w) := by
  subst hn
  obtain ⟨A, c, e, hc, h⟩ := HO.out.freezeG (fun h => by have h' : l.length = 0 := h; show bvs l = []; rw [List.length_eq_zero_iff.1 h']; rfl)
  exact ⟨A, c, e, hc, Lib.hid h⟩
theorem own_tree {A B : Option Addr} {fe : List ElF} {re : List ElR} (HO : Hid (Own w0 X S bs rs F w)) (m : Cold.tree A B fe re ∈ F) : TreeAt w (fun b => b < w.heap.size) A B fe re := (HO.out.cold _ m).st fun b hb => ⟨hb.2.1, rfl⟩
theorem arm_same {KF : FuncId} {args : Array Value} {A3 B3 A7 A8 : Option Addr} {fe3 fe : List ElF} {re3 re : List ElR} {c3 e3 c e : Nat} (HO : Hid (Own w0 X S bs rs F w)) (m3 : Cold.tree A3 B3 fe3 re3 ∈ F) (hT : TreeAt w (fun b => b < w.heap.size) A7 A8 fe re) (hf : fe3.map (fun x => erF x.1) = fe.map (fun x => erF x.1)) (hr : re3.map (fun x => erR x.1) = re.map (fun x => erR x.1))
    (hFW : Hid (FewT 20000 20000 ⟨fe3.map (·.1), re3.map (·.1)⟩)) (hc3 : Hid (fe3.length ≤ c3 ∧ re3.length ≤ e3)) (hc : fe.length ≤ c) (he : re.length ≤ e) (hK : KF = 7) (hargs : args = #[.agg #[.slice A3 fe3.length c3, .slice B3 re3.length e3], .agg #[.slice A7 fe.length c, .slice A8 re.length e], .bool false])
    (h : ∀ W, Hid (Own w0 X S bs rs F W) → T (.returned (.bool true)) W) : Calls Try.prog KF args w T := by
  subst hK hargs
  have l1 : fe.length = fe3.length := by have := congrArg List.length hf; simpa using this.symm
  have l2 : re.length = re3.length := by have := congrArg List.length hr; simpa using this.symm
  have k1 : fe3.length ≤ 20000 := by simpa using hFW.out.1
  have k2 : re3.length ≤ 20000 := by simpa using hFW.out.2
  rw [l1] at hc
  rw [l2] at he
  rw [l1, l2]
  refine (same_any (N := 20000) (by decide) fe3.length re3.length fe3 fe re3 re A3 B3 A7 A8 c3 e3 c e w rfl l1 rfl l2 k1 k2 hc3.out.1 hc3.out.2 hc he (own_tree HO m3) hT hf hr (fun x hx => hFW.out.3 x.1 (List.mem_map_of_mem hx)) (fun x hx => hFW.out.4 x.1 (List.mem_map_of_mem hx))).mono fun e W hp => ?_
  obtain ⟨rfl, q⟩ := hp
  exact h W (Lib.hid (HO.out.next q))
theorem oP1 {o : Oper} {a : Act} {K : Act → World → Prop} {Q : Exit → Act → World → Prop} (HO : Hid (Own w0 [] S bs rs F w)) {ty : TypeId} {x : Operand} (ho : o.op = .load ty x) {p : Addr} (hx : a.eval x = .pointer (some p)) {v : Value} [T : T1 ty] (hb : p.block < w0.heap.size) (hm : w0.cell? p = some v) (h : K (a.put o.dst v) w) : WOp Try.prog o a w K Q := by
  have hl : w.cell? p = some v := (World.cell?_of_block (HO.out.kept.block p.block hb List.not_mem_nil)).trans hm
  have hd := T.a
  unfold WOp Oper.wp execOp
  simp only [ho, hx, Instr.loadAt, Instr.sureAddr, Sem.run_bind, Sem.run_pure, Result.andThen_ok, loadVar, hd w, Bool.false_eq_true, if_false, run_load, hl]
  exact h
end
end Go.Proofs.Ytdiibenofbcfnaa
