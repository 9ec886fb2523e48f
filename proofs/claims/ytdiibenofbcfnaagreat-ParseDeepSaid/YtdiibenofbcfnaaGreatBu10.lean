/- Several texts put together: ErrF. -/
import Derived.Test.YtdiibenofbcfnaaGreatBu1
import Derived.Test.YtdiibenofbcfnaaGreatBu9
set_option linter.unusedSimpArgs false
set_option linter.unusedVariables false
namespace Go.Proofs.YtdiibenofbcfnaaGreat
open Go.RowKit Go.Extern.Stop Go.Stop Go.Extern
theorem noIsF (v : Value) (xT : TypeId) (w : World) : (Instr.typeAssert (.iface 45 v) xT 82 true).run Tryz.prog w = .ok (.tuple #[.nilIface, .bool false]) w := run_typeAssert_lacksB Tryz.underlying82 (by kernel_rfl) (by kernel_rfl) v xT w
theorem hasUnwrapF (v : Value) (xT : TypeId) (w : World) : (Instr.typeAssert (.iface 45 v) xT 85 true).run Tryz.prog w = .ok (.tuple #[.iface 45 v, .bool true]) w := run_typeAssert_hasB Tryz.underlying85 (by kernel_rfl) v xT w
set_option maxRecDepth 100000 in
set_option maxHeartbeats 400000 in
theorem is_fault (b : Nat) (p : Nat) (k n : Int) (w : World) (hb : Blk w b 70 #[.int .i64 (p : Int), .iface 53 (.int .i64 k)]) :
    Calls Tryz.prog 10 #[.iface 45 (.pointer (some ⟨b, 0, none⟩)), .iface 53 (.int .i64 n)] w fun e w' => e = .returned (.bool (k == n)) ∧ w = w' := by
  have h8 := @run_callFunc_extern Tryz.prog 17 _ Extern.ReflectliteType.typeOf Tryz.func17 (by kernel_rfl) (by kernel_rfl) (by kernel_rfl) (by kernel_rfl)
  have h32 := @run_callFunc_extern Tryz.prog 113 _ (Extern.ReflectliteType.method fun t => do Rtype.noPackHeld "Comparable" t; pure (.bool (← typeInfo t).comparable)) Tryz.func113 (by kernel_rfl) (by kernel_rfl) (by kernel_rfl) (by kernel_rfl)
  have tT := isTypeOf
  have cT : ∀ W, (callFunc 113 #[.agg #[.pointer (some ⟨1, 53, none⟩)]]).run Tryz.prog W = .ok (.value (.bool true)) W := fun W => by rw [h32]; kernel_rfl
  clear h32
  have nE := noIs
  have uE := noUnwrap
  have vE := noUnwraps
  have nF := noIsF
  have uF := hasUnwrapF
  have hc0 := hb.cell 0
  have hc1 := hb.cell 1
  simp only [List.getElem?_toArray, List.getElem?_cons_zero, List.getElem?_cons_succ] at hc0 hc1
  have hz := hb.lt
  have heq := Lib.run_eql_iface_int (P := Tryz.prog) (t := 29) (tx := 53) (k := .i64) w k n Tryz.underlying29 isComp Tryz.underlying53
  have hne := fun (v : Value) => run_eql_iface_types (P := Tryz.prog) 45 53 v (.int .i64 n) Tryz.underlying29 (by decide) w
  clear hb
  cases hab : (k == n)
  · rw [hab] at heq
    go_enter Tryz.func10, Tryz.ntmps10
    go_wp2
    refine wp_loop_rounds 2 ?_
    rw [rounds_succ]
    go_wp2
    rw [rounds_succ]
    go_wp2
    go_ret
    exact ⟨rfl, rfl⟩
  · rw [hab] at heq
    go_enter Tryz.func10, Tryz.ntmps10
    go_wp2
    refine wp_loop_rounds 2 ?_
    rw [rounds_succ]
    go_wp2
    rw [rounds_succ]
    go_wp2
    go_ret
    exact ⟨rfl, rfl⟩
set_option maxRecDepth 100000 in
set_option maxHeartbeats 400000 in
theorem code_fault (b p : Nat) (k : Int) (h1 : 1 ≤ k) (h2 : k ≤ 25) (w : World) (hbk : Blk w b 70 #[.int .i64 (p : Int), .iface 53 (.int .i64 k)]) :
    Calls Tryz.prog 6 #[.iface 45 (.pointer (some ⟨b, 0, none⟩))] w fun e w' => e = .returned (.int .i64 k) ∧ w = w' := by
  have HB := Lib.hid hbk
  clear hbk
  go_enter Tryz.func6, Tryz.ntmps6
  go_wp2_with fail
  go_loop [3] (fun i => ∃ n : Int, 1 ≤ n ∧ n ≤ k ∧ i = .int .i64 n) (fun i => (k - intOf i).toNat)
  case atStart => exact ⟨1, by omega, h1, rfl⟩
  case round =>
    obtain ⟨n, hn1, hn2, rfl⟩ := hrel
    by_cases he : n = k
    · subst he
      have hb : (n == n) = true := by simp
      go_wp2_with (go_at_call 10; refine (is_fault _ _ _ _ _ HB.out).mono ?_; rintro e w' ⟨rfl, rfl⟩)
      go_ret
      exact ⟨rfl, rfl⟩
    · have hb : (k == n) = false := by rw [beq_eq_false_iff_ne]; omega
      have hlt : n < k := by omega
      clear he
      go_wp2_with (go_at_call 10; refine (is_fault _ _ _ _ _ HB.out).mono ?_; rintro e w' ⟨rfl, rfl⟩)
      go_round
      case rel => exact ⟨n + 1, by omega, by omega, rfl⟩
      case measure => simp [intOf]; omega
end Go.Proofs.YtdiibenofbcfnaaGreat
