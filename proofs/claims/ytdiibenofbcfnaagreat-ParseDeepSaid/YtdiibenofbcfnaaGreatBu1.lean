/- Several texts put together: Kit, NumA, RegH, Errs, Bits, Frame, Byt, Box, NumB, Byc, Rd, Upd, ScrA, ScrB, NumD. -/
import Derived.Test.YtdiibenofbcfnaaGreatProg
import Derived.WalkKit
import Derived.WalkSpells
import Derived.WalkLawsBesides
import Derived.BigQuiet
import Derived.Deep.QuietTactic
import Derived.StillTailTactics
import Derived.Deep.RegionHeld3
import Derived.Deep.RegionWith
import Derived.Deep.DeepCutAuto
import Derived.Deep.DeepFit
import Derived.Deep.CutBlock
import Derived.Deep.LoopGhost
import Derived.Lib.Hide
import Derived.Handy
import Derived.RowKit3
import Derived.Laws.OwnMore
import Derived.Deep.AppendLies
import Derived.Deep.Draws
import Derived.Lib.IfaceEq
import Derived.LaidEql
import Derived.Stop.Asserts
import Derived.RowKitTokens
import Derived.Test.YtdiibenofbcfnaaGreatShelf
import Derived.Shelf.Spec.BitsCarry
import Derived.Test.YtdiibenofbcfnaaGreatRows
import Derived.ProofKit
import Derived.OpenShut
import Derived.ShutString
import Derived.ChangeOld
import Derived.Lib.SmallJoins
import Derived.Laws.AppendOwnNone
import Derived.Below
import Derived.Laws.IdiomStrings
import Derived.Lib.SlBytesConst
import Derived.ArgAppend
import Derived.Laws.Rows
import Derived.Maps.AppendAt
import Derived.RegionTactic
import Derived.OwnWalk
import Derived.Carry
import Derived.IntWalk
set_option linter.unusedSimpArgs false
set_option linter.unusedVariables false
namespace Go.Proofs.YtdiibenofbcfnaaGreat
open Go.RowKit
theorem below_drewN {B : Nat} {a w : World} (h : Below B a w) (n : Nat) : Below B a (w.drewN n) := ⟨h.os, h.tape, h.output, h.size, h.block⟩
def zn (z : Int) : Bool := decide (z < 0)
def zh (z : Int) : Int := (z.natAbs : Int) / 18446744073709551616
def zl (z : Int) : Int := (z.natAbs : Int) % 18446744073709551616
open Go.RowKit
theorem block_of_add (a : Addr) (n : Nat) : (a.add n).block = a.block := by unfold Addr.add; split <;> rfl
theorem add_of_add (a : Addr) (i j : Nat) : (a.add i).add j = a.add (i + j) := by
  unfold Addr.add
  by_cases hi : i = 0 <;> by_cases hj : j = 0 <;> simp [hi, hj, Nat.add_assoc]
def RB (w : World) (B : Nat) (A : Option Addr) (bs : List Nat) : Prop :=
  (∀ x ∈ bs, x < 256) ∧ (0 < bs.length → ∃ ad, A = some ad ∧ ad.block < B ∧ ∀ j (h : j < bs.length), w.cell? (ad.add j) = some (.int .u8 ((bs[j] : Nat) : Int)))
section
variable {w w' : World} {B B' : Nat} {A : Option Addr} {bs : List Nat}
theorem RB.keep (h : RB w B A bs) (hk : ∀ p : Addr, p.block < B → w'.cell? p = w.cell? p) : RB w' B A bs :=
  ⟨h.1, fun hn => by
    obtain ⟨ad, e, hb, hc⟩ := h.2 hn
    exact ⟨ad, e, hb, fun j hj => (hk _ (by rw [block_of_add]; exact hb)).trans (hc j hj)⟩⟩
theorem RB.below (h : RB w B A bs) (hb : Below B w w') : RB w' B A bs := h.keep fun _ hp => hb.cell hp
theorem RB.more (h : RB w B A bs) (hB : B ≤ B') : RB w B' A bs :=
  ⟨h.1, fun hn => by
    obtain ⟨ad, e, hb, hc⟩ := h.2 hn
    exact ⟨ad, e, by omega, hc⟩⟩
theorem RB.cut (h : RB w B A bs) {k cap : Nat} (hc : bs.length ≤ cap) : RB w B (if cap = k then A else A.map (·.add k)) (bs.drop k) := by
  refine ⟨fun x hx => h.1 x (List.mem_of_mem_drop hx), fun hn => ?_⟩
  rw [List.length_drop] at hn
  obtain ⟨ad, rfl, hb, hcell⟩ := h.2 (by omega)
  rw [if_neg (by omega)]
  refine ⟨ad.add k, rfl, by rw [block_of_add]; exact hb, fun j hj => ?_⟩
  rw [List.length_drop] at hj
  rw [add_of_add, List.getElem_drop]
  exact hcell (k + j) (by omega)
theorem RB.take (h : RB w B A bs) (k : Nat) : RB w B A (bs.take k) := by
  refine ⟨fun x hx => h.1 x (List.mem_of_mem_take hx), fun hn => ?_⟩
  rw [List.length_take] at hn
  obtain ⟨ad, e, hb, hcell⟩ := h.2 (by omega)
  refine ⟨ad, e, hb, fun j hj => ?_⟩
  rw [List.length_take] at hj
  rw [List.getElem_take]
  exact hcell j (by omega)
theorem RB.nil : RB w B A [] := ⟨by simp, by simp⟩
end
def blankB (c : Nat) : Bool := (decide (9 ≤ c) && decide (c ≤ 13)) || decide (c = 32)
def digB (c : Nat) : Bool := decide (48 ≤ c) && decide (c ≤ 57)
def span (p : Nat → Bool) : List Nat → Nat
  | [] => 0
  | c :: l => if p c then span p l + 1 else 0
theorem span_le (p : Nat → Bool) (l : List Nat) : span p l ≤ l.length := by
  induction l with
  | nil => simp [span]
  | cons c l ih => simp only [span]; split <;> simp <;> omega
theorem span_stop (p : Nat → Bool) (l : List Nat) (h : span p l < l.length) : p (l[span p l]) = false := by
  induction l with
  | nil => simp at h
  | cons c l ih =>
    by_cases hc : p c = true
    · simp only [span, hc, if_true] at h ⊢
      simp only [List.getElem_cons_succ]
      exact ih (by simp at h; omega)
    · simp only [span, hc, Bool.false_eq_true, if_false] at h ⊢
      simpa using hc
theorem span_all (p : Nat → Bool) (l : List Nat) (j : Nat) (h : j < span p l) (hj : j < l.length) : p l[j] = true := by
  induction l generalizing j with
  | nil => simp at hj
  | cons c l ih =>
    by_cases hc : p c = true
    · cases j with
      | zero => simpa using hc
      | succ j =>
        simp only [span, hc, if_true] at h
        simp only [List.getElem_cons_succ]
        exact ih j (by omega) (by simp at hj; omega)
    · simp [span, hc] at h
theorem span_eq (p : Nat → Bool) (l : List Nat) (k : Nat) (hk : k ≤ l.length) (h : ∀ j (hj : j < l.length), j < k → p l[j] = true) (hs : ∀ hj : k < l.length, p l[k] = false) : span p l = k := by
  have a := span_le p l
  rcases Nat.lt_trichotomy (span p l) k with hlt | heq | hgt
  · have := span_stop p l (by omega)
    rw [h _ (by omega) hlt] at this; cases this
  · exact heq
  · have := span_all p l k hgt (by omega)
    rw [hs (by omega)] at this; cases this
set_option maxRecDepth 100000 in
set_option maxHeartbeats 400000 in
theorem blank_any (c : Nat) (w : World) :
    Calls Tryz.prog 52 #[.int .u8 (c : Int)] w fun e w' => e = .returned (.bool (blankB c)) ∧ w = w' := by
  have hg : blankB c = ((decide (9 ≤ c) && decide (c ≤ 13)) || decide (c = 32)) := rfl
  by_cases h1 : c < 9
  · have e1 : blankB c = false := by rw [hg]; simp; omega
    have h4 : ((c : Int) == 32) = false := by rw [beq_eq_false_iff_ne]; omega
    rw [e1]; clear hg e1
    go_enter Tryz.func52, Tryz.ntmps52
    go_wp2
    go_ret
    exact ⟨rfl, rfl⟩
  · by_cases h2 : c ≤ 13
    · have e1 : blankB c = true := by rw [hg]; simp; omega
      have h5 : decide ((c : Int) ≤ 13) = true := by rw [decide_eq_true_eq]; omega
      rw [e1]; clear hg e1
      go_enter Tryz.func52, Tryz.ntmps52
      go_wp2
      go_ret
      exact ⟨rfl, rfl⟩
    · by_cases h3 : c = 32
      · subst h3
        go_enter Tryz.func52, Tryz.ntmps52
        go_wp2
        go_ret
        exact ⟨rfl, rfl⟩
      · have e1 : blankB c = false := by rw [hg]; simp; omega
        have h4 : ((c : Int) == 32) = false := by rw [beq_eq_false_iff_ne]; omega
        have h5 : decide ((c : Int) ≤ 13) = false := by rw [decide_eq_false_iff_not]; omega
        rw [e1]; clear hg e1 h3
        go_enter Tryz.func52, Tryz.ntmps52
        go_wp2
        go_ret
        exact ⟨rfl, rfl⟩
section
variable {P : Program} {ops : Array Oper} {Q : Exit → Act → World → Prop} {md : Region.Mode} {S : World → Prop}
theorem lit_at {i : Nat} {oi : Oper} (h : (ops.toList.drop i).head? = some oi) : ops[i]? = some oi := by
  rw [List.head?_drop] at h
  simpa using h
theorem h4_take {i : Nat} {oi : Oper} {v : Value} {fuel : Nat} {listed : Array Bool} {a : Act} {w : World} (hi : (ops.toList.drop i).head? = some oi)
    (hs : Region.noSelect ops = true) (hf : Region.free md ops listed i = true) (hr : (Region.ready md ops listed).contains i = true)
    (hQ : ∀ c a w, Q (.panic c) (a.put oi.dst v) w → Q (.panic c) a w) (hw : Region.wanted oi (yielded ops a.tmps) = true) (hy : ∀ w, S w → (execOp a.eval oi).run P w = .ok (.value v) w) (hS : S w)
    (h : wpAnyH P md ops Q S fuel (listed.setIfInBounds i true) (a.put oi.dst v) w) : wpAnyH P md ops Q S (fuel + 1) listed a w :=
  wpAnyH_take (lit_at hi) hs hf hr hQ (.inl ⟨hw, hy⟩) hS h
theorem h4_cons {fuel : Nat} {listed : Array Bool} {a : Act} {w : World} {i : Nat} {o : Oper} {rs : List Nat} (ho : (ops.toList.drop i).head? = some o)
    (h : ∀ K' : Act → World → Prop, Shut (∀ a w, S w → (S w → wpAnyH P md ops Q S fuel (listed.setIfInBounds i true) a w) → K' a w) → if Region.wanted o (yielded ops a.tmps) = true then Oper.wp P o a w K' Q else K' (a.put o.dst undef) w)
    (hs : AllReadyH P md ops Q S fuel listed a w rs) : AllReadyH P md ops Q S fuel listed a w (i :: rs) :=
  AllReadyH.cons (lit_at ho) h hs
def wpHp (P : Program) (md : Region.Mode) (ops : Array Oper) (Q : Exit → Act → World → Prop) (S : World → Prop) (_ : List Nat) (fuel : Nat) (listed : Array Bool) (a : Act) (w : World) : Prop := wpAnyH P md ops Q S fuel listed a w
def ck4 (md : Region.Mode) (ops : Array Oper) (listed : Array Bool) (i : Nat) : Bool := Region.noSelect ops && Region.free md ops listed i && (Region.ready md ops listed).contains i
theorem h4_b {fuel : Nat} {listed : Array Bool} {a : Act} {w : World} (l : List Nat) (h : wpHp P md ops Q S l fuel listed a w) : wpAnyH P md ops Q S fuel listed a w := h
theorem h4_e {fuel : Nat} {listed : Array Bool} {a : Act} {w : World} (h : wpAnyH P md ops Q S fuel listed a w) : wpHp P md ops Q S [] fuel listed a w := h
theorem h4_p {i : Nat} {l : List Nat} {oi : Oper} {v : Value} {fuel : Nat} {listed : Array Bool} {a : Act} {w : World} (hi : (ops.toList.drop i).head? = some oi) (hk : ck4 md ops listed i = true)
    (hQ : ∀ c a w, Q (.panic c) (a.put oi.dst v) w → Q (.panic c) a w) (hw : Region.wanted oi (yielded ops a.tmps) = true) (hS : S w) (hy : ∀ w, S w → (execOp a.eval oi).run P w = .ok (.value v) w)
    (h : wpHp P md ops Q S l fuel (listed.setIfInBounds i true) (a.put oi.dst v) w) : wpHp P md ops Q S (i :: l) (fuel + 1) listed a w := by
  unfold ck4 at hk
  simp only [Bool.and_eq_true] at hk
  exact h4_take hi hk.1.1 hk.1.2 hk.2 hQ hw hy hS h
end
open Go.RowKit Go.Extern.Stop Go.Stop Go.Extern
theorem isTypeOf (v : Value) (w : World) : (Extern.ReflectliteType.typeOf #[.iface 53 v]).run Tryz.prog w = .ok (.iface 80 (.agg #[.pointer (some ⟨1, 53, none⟩)])) w := by kernel_rfl
theorem isComp : (Tryz.prog.info? 53).map (·.comparable) = some true := by kernel_rfl
theorem noIs (v : Value) (xT : TypeId) (w : World) : (Instr.typeAssert (.iface 53 v) xT 82 true).run Tryz.prog w = .ok (.tuple #[.nilIface, .bool false]) w := run_typeAssert_lacksB Tryz.underlying82 (by kernel_rfl) (by kernel_rfl) v xT w
theorem noUnwrap (v : Value) (xT : TypeId) (w : World) : (Instr.typeAssert (.iface 53 v) xT 85 true).run Tryz.prog w = .ok (.tuple #[.nilIface, .bool false]) w := run_typeAssert_lacksB Tryz.underlying85 (by kernel_rfl) (by kernel_rfl) v xT w
theorem noUnwraps (v : Value) (xT : TypeId) (w : World) : (Instr.typeAssert (.iface 53 v) xT 87 true).run Tryz.prog w = .ok (.tuple #[.nilIface, .bool false]) w := run_typeAssert_lacksB Tryz.underlying87 (by kernel_rfl) (by kernel_rfl) v xT w
open Go.RowKit
theorem add64 (x y c : Int) (hx : 0 ≤ x) (hy : 0 ≤ y) (hc0 : 0 ≤ c) (hc : c ≤ 1) (w : World) : (callFunc 55 #[.int .u64 x, .int .u64 y, .int .u64 c]).run Tryz.prog w =
    .ok (.value (.tuple #[.int .u64 ((x + y + c) % 18446744073709551616), .int .u64 ((x + y + c) / 18446744073709551616)])) w := by
  obtain ⟨x, rfl⟩ := Int.eq_ofNat_of_zero_le hx
  obtain ⟨y, rfl⟩ := Int.eq_ofNat_of_zero_le hy
  obtain ⟨c, rfl⟩ := Int.eq_ofNat_of_zero_le hc0
  rw [run_callFunc_extern Tryz.func55 (by kernel_rfl) (by kernel_rfl) (by kernel_rfl) (e := add64Entry) (by kernel_rfl), run_add64 x y c (by omega) (by omega) (by omega) (by omega)]
  simp only [Result.andThen]
theorem add64_0 (x y : Int) (hx : 0 ≤ x) (hy : 0 ≤ y) (w : World) : (callFunc 55 #[.int .u64 x, .int .u64 y, .int .u64 0]).run Tryz.prog w =
    .ok (.value (.tuple #[.int .u64 ((x + y) % 18446744073709551616), .int .u64 ((x + y) / 18446744073709551616)])) w := by
  simpa using add64 x y 0 hx hy (Int.le_refl 0) (by decide) w
def ph (x y : Int) : Int := x * y / 18446744073709551616
def pl (x y : Int) : Int := x * y % 18446744073709551616
theorem mul64 (x y : Int) (hx : 0 ≤ x) (hx' : x < 18446744073709551616) (hy : 0 ≤ y) (hy' : y < 18446744073709551616) (w : World) :
    Calls Tryz.prog 54 #[.int .u64 x, .int .u64 y] w fun e w' => e = .returned (.tuple #[.int .u64 (ph x y), .int .u64 (pl x y)]) ∧ w = w' := by
  obtain ⟨x, rfl⟩ := Int.eq_ofNat_of_zero_le hx
  obtain ⟨y, rfl⟩ := Int.eq_ofNat_of_zero_le hy
  refine (Tryz.bits_Mul64 x y (by omega) (by omega) w).mono ?_
  rintro e w' ⟨rfl, rfl⟩
  exact ⟨by simp [ph, pl], rfl⟩
theorem phl (x y : Int) : x * y = ph x y * 18446744073709551616 + pl x y := by unfold ph pl; omega
theorem pl_range (x y : Int) : 0 ≤ pl x y ∧ pl x y < 18446744073709551616 := by unfold pl; omega
theorem ph_range {x y : Int} (hx : 0 ≤ x) (hx' : x < 18446744073709551616) (hy : 0 ≤ y) (hy' : y < 18446744073709551616) : 0 ≤ ph x y ∧ ph x y < 18446744073709551615 := by
  have a : 0 ≤ x * y := Int.mul_nonneg hx hy
  have b : x * y ≤ 18446744073709551615 * y := Int.mul_le_mul_of_nonneg_right (by omega) hy
  unfold ph; omega
open Go.ChangeShapes Go.WideShapes Go.ChangeAt Go.RowKit Go.Joins
theorem byte_range {n : Int} (h : (Lit.int .u8 n).wf = true) : 0 ≤ n ∧ n < 256 := by
  simp [Lit.wf, IntKind.min, IntKind.max, IntKind.signed, IntKind.bits] at h
  exact ⟨h.1, by omega⟩
open Go.RowKit
theorem rb_of {w : World} {B b : Nat} {bs : List Nat} (hb : ∀ x ∈ bs, x < 256) (h : b < B) (hc : ∀ j (h : j < bs.length), w.cell? ⟨b, j, none⟩ = some (.int .u8 ((bs[j] : Nat) : Int))) : RB w B (some ⟨b, 0, none⟩) bs := by
  refine ⟨hb, fun _ => ⟨_, rfl, h, fun j hj => ?_⟩⟩
  have : (⟨b, 0, none⟩ : Addr).add j = ⟨b, j, none⟩ := by unfold Addr.add; split <;> simp_all
  rw [this]; exact hc j hj
def bv (x : Nat) : Value := .int .u8 (x : Int)
def OB (w : World) (base : Nat) (v : Value) (bs : List Nat) : Prop := (∀ x ∈ bs, x < 256) ∧ w.ownsRow base 5 1 v bs.length (bs.map bv)
theorem OB.slice {w : World} {base : Nat} {v : Value} {bs : List Nat} (h : OB w base v bs) :
    ∃ (A : Option Addr) (c : Nat), v = .slice A bs.length c ∧ bs.length ≤ c ∧ RB w w.heap.size A bs ∧ (A = none → bs = [] ∧ c = 0) := by
  obtain ⟨hb, hl, h | ⟨g, cap, cur, hv, hg, hh, hn, hm, hs, ht⟩⟩ := h
  · obtain ⟨rfl, h0⟩ := h
    refine ⟨none, 0, by rw [h0], by omega, ?_, fun _ => ⟨List.length_eq_zero_iff.1 h0, rfl⟩⟩
    rw [List.length_eq_zero_iff.1 h0]; exact RB.nil
  · refine ⟨some ⟨g, 0, none⟩, cap, hv, hn, ?_, fun e => by cases e⟩
    have hlt : g < w.heap.size := by
      rcases Nat.lt_or_ge g w.heap.size with h | h
      · exact h
      · rw [Array.getElem?_eq_none h] at hh; cases hh
    refine rb_of hb hlt fun j hj => ?_
    rw [cell_of_row w g j cur 5 (0, 0) hh]
    have : (cur.toList.take (bs.length * 1))[j]? = (bs.map bv)[j]? := by rw [ht]
    rw [List.getElem?_take, if_pos (by omega), List.getElem?_map, List.getElem?_eq_getElem hj] at this
    simpa [bv] using this
theorem OB.kept {w w' : World} {base : Nat} {v : Value} {bs : List Nat} {row : Option Nat} (h : OB w base v bs) (hg : w.grownBy w' row) (hne : v.ownBlock = none ∨ v.ownBlock ≠ row) : OB w' base v bs := ⟨h.1, h.2.kept hg hne⟩
theorem OB.alloc {w : World} {base : Nat} {v : Value} {bs : List Nat} (h : OB w base v bs) (o : Obj) : OB (w.alloc o) base v bs := ⟨h.1, h.2.alloc o⟩
theorem OB.nil (w : World) (base : Nat) : OB w base (.slice none 0 0) [] := ⟨by simp, World.ownsRow_nil _ _ _ _⟩
theorem OB.setCell {w : World} {base : Nat} {v : Value} {bs : List Nat} (h : OB w base v bs) {a : Addr} (ha : a.block < base) (u : Value) : OB (w.setCell a u) base v bs := ⟨h.1, ownsRow_setCell_below h.2 ha u⟩
theorem OB.block {w : World} {base : Nat} {v : Value} {bs : List Nat} (h : OB w base v bs) : ∀ k, v.ownBlock = some k → base ≤ k ∧ k < w.heap.size := h.2.lt
theorem info_u8 : (Tryz.prog.info? 5).map (fun i => (i.zero, i.size, i.bytes)) = some (some (.int .u8 0), 1, 1) := by kernel_rfl
theorem OB.below {w w' : World} {base B : Nat} {v : Value} {bs : List Nat} {W : World} (h : OB w base v bs) (hg : w.grownBy w' v.ownBlock) (hb : Below B W w) (hB : B ≤ base) (hbase : B ≤ w.heap.size) : Below B W w' :=
  hb.grown hg hbase fun k hk => Nat.le_trans hB (h.block k hk).1
theorem OB.apart {w w' : World} {base b : Nat} {v v' : Value} {bs bs' : List Nat} (h : OB w base v bs) (h' : OB w' b v' bs') (hb : w.heap.size ≤ b) : v.ownBlock = none ∨ v.ownBlock ≠ v'.ownBlock := by
  cases e : v.ownBlock with
  | none => exact .inl rfl
  | some k =>
    right
    intro e2
    have h1 := h.block k e
    have h2 := h'.block k e2.symm
    omega
theorem OB.mono {w : World} {base base' : Nat} {v : Value} {bs : List Nat} (h : OB w base v bs) (hb : base' ≤ base) : OB w base' v bs := by
  obtain ⟨h1, h2, h3 | ⟨g, cap, cur, e, hg, hr⟩⟩ := h
  · exact ⟨h1, h2, .inl h3⟩
  · exact ⟨h1, h2, .inr ⟨g, cap, cur, e, Nat.le_trans hb hg, hr⟩⟩
theorem OB.next {w w' : World} {base : Nat} {v : Value} {bs : List Nat} (h : OB w base v bs) (q : Below w.heap.size w w') : OB w' base v bs :=
  h.kept (row := none) ⟨q.os, q.tape, q.output, q.size, fun k hk _ => q.block k hk⟩ (by cases v.ownBlock <;> simp)
def strN (l : List Nat) : ByteArray := ⟨(l.map fun x => UInt8.ofNat x).toArray⟩
theorem strN_size (a : List Nat) : (strN a).size = a.length := by simp [strN, ByteArray.size]
theorem strN_app (a b : List Nat) : strN a ++ strN b = strN (a ++ b) := by
  have : (strN a ++ strN b).data = (strN (a ++ b)).data := by
    rw [ByteArray.data_append]; simp [strN]
  cases h1 : strN a ++ strN b; cases h2 : strN (a ++ b); rw [h1, h2] at this; simpa using this
open Go.RowKit
section
variable {w w' : World} {g h : Nat} {v0 u0 : Value}
end
section
variable {w w' : World} {g h : Nat} {v0 v1 u0 u1 : Value}
end
structure Box3 (w : World) (g : Nat) (v0 v1 v2 : Value) : Prop where
  c0 : w.cell? ⟨g, 0, none⟩ = some v0
  c1 : w.cell? ⟨g, 1, none⟩ = some v1
  c2 : w.cell? ⟨g, 2, none⟩ = some v2
  f0 : w.frozen? ⟨g, 0, none⟩ = false
  f1 : w.frozen? ⟨g, 1, none⟩ = false
  f2 : w.frozen? ⟨g, 2, none⟩ = false
  z : g < w.heap.size
section
variable {w w' : World} {g h : Nat} {v0 v1 v2 u0 u1 u2 : Value}
theorem Box3.below (b : Box3 w g v0 v1 v2) (q : Below w.heap.size w w') : Box3 w' g v0 v1 v2 :=
  ⟨(q.cell b.z).trans b.c0, (q.cell b.z).trans b.c1, (q.cell b.z).trans b.c2, (q.frozen b.z).trans b.f0, (q.frozen b.z).trans b.f1, (q.frozen b.z).trans b.f2, Nat.lt_of_lt_of_le b.z q.size⟩
theorem Box3.make (w : World) (v0 v1 v2 : Value) (T : TypeId) {g : Nat} (hg : g = w.heap.size) : Box3 (w.alloc (.cells #[v0, v1, v2] T)) g v0 v1 v2 := by
  subst hg; constructor <;> simp (maxDischargeDepth := 12) [go_sem]
theorem Box3.alloc (b : Box3 w g v0 v1 v2) (o : Obj) : Box3 (w.alloc o) g v0 v1 v2 := b.below ((Below.refl _ _).alloc (Nat.le_refl _) _)
theorem Box3.drew (b : Box3 w g v0 v1 v2) : Box3 w.drew g v0 v1 v2 := b.below (Below.refl _ _).drew
theorem Box3.drewN (b : Box3 w g v0 v1 v2) (k : Nat) : Box3 (w.drewN k) g v0 v1 v2 := b.below (below_drewN (Below.refl _ _) k)
theorem Box3.other (b : Box3 w g v0 v1 v2) (hne : h ≠ g) (j : Nat) (u : Value) : Box3 (w.setCell ⟨h, j, none⟩ u) g v0 v1 v2 := by
  obtain ⟨c0, c1, c2, f0, f1, f2, z⟩ := b
  have hn : g ≠ h := fun e => hne e.symm
  constructor <;> (first | (simp (maxDischargeDepth := 12) [go_sem, *]; done) | (simp; omega))
theorem Box3.set (b : Box3 w g v0 v1 v2) : Box3 (((w.setCell ⟨g, 0, none⟩ u0).setCell ⟨g, 1, none⟩ u1).setCell ⟨g, 2, none⟩ u2) g u0 u1 u2 := by
  obtain ⟨c0, c1, c2, f0, f1, f2, z⟩ := b
  constructor <;> (first | (simp (maxDischargeDepth := 20) [go_sem, *]; done) | (simp; omega))
end
section
variable {w w' : World} {g h : Nat} {v0 v1 v2 v3 u0 u1 u2 u3 : Value}
end
section
variable {w w' : World} {g h : Nat} {v0 v1 v2 v3 v4 u0 u1 u2 u3 u4 : Value}
end
structure Box6 (w : World) (g : Nat) (v0 v1 v2 v3 v4 v5 : Value) : Prop where
  c0 : w.cell? ⟨g, 0, none⟩ = some v0
  c1 : w.cell? ⟨g, 1, none⟩ = some v1
  c2 : w.cell? ⟨g, 2, none⟩ = some v2
  c3 : w.cell? ⟨g, 3, none⟩ = some v3
  c4 : w.cell? ⟨g, 4, none⟩ = some v4
  c5 : w.cell? ⟨g, 5, none⟩ = some v5
  f0 : w.frozen? ⟨g, 0, none⟩ = false
  f1 : w.frozen? ⟨g, 1, none⟩ = false
  f2 : w.frozen? ⟨g, 2, none⟩ = false
  f3 : w.frozen? ⟨g, 3, none⟩ = false
  f4 : w.frozen? ⟨g, 4, none⟩ = false
  f5 : w.frozen? ⟨g, 5, none⟩ = false
  z : g < w.heap.size
section
variable {w w' : World} {g h : Nat} {v0 v1 v2 v3 v4 v5 u0 u1 u2 u3 u4 u5 : Value}
theorem Box6.below (b : Box6 w g v0 v1 v2 v3 v4 v5) (q : Below w.heap.size w w') : Box6 w' g v0 v1 v2 v3 v4 v5 :=
  ⟨(q.cell b.z).trans b.c0, (q.cell b.z).trans b.c1, (q.cell b.z).trans b.c2, (q.cell b.z).trans b.c3, (q.cell b.z).trans b.c4, (q.cell b.z).trans b.c5, (q.frozen b.z).trans b.f0, (q.frozen b.z).trans b.f1, (q.frozen b.z).trans b.f2, (q.frozen b.z).trans b.f3, (q.frozen b.z).trans b.f4, (q.frozen b.z).trans b.f5, Nat.lt_of_lt_of_le b.z q.size⟩
theorem Box6.make (w : World) (v0 v1 v2 v3 v4 v5 : Value) (T : TypeId) {g : Nat} (hg : g = w.heap.size) : Box6 (w.alloc (.cells #[v0, v1, v2, v3, v4, v5] T)) g v0 v1 v2 v3 v4 v5 := by
  subst hg; constructor <;> simp (maxDischargeDepth := 12) [go_sem]
theorem Box6.alloc (b : Box6 w g v0 v1 v2 v3 v4 v5) (o : Obj) : Box6 (w.alloc o) g v0 v1 v2 v3 v4 v5 := b.below ((Below.refl _ _).alloc (Nat.le_refl _) _)
theorem Box6.drew (b : Box6 w g v0 v1 v2 v3 v4 v5) : Box6 w.drew g v0 v1 v2 v3 v4 v5 := b.below (Below.refl _ _).drew
theorem Box6.drewN (b : Box6 w g v0 v1 v2 v3 v4 v5) (k : Nat) : Box6 (w.drewN k) g v0 v1 v2 v3 v4 v5 := b.below (below_drewN (Below.refl _ _) k)
theorem Box6.other (b : Box6 w g v0 v1 v2 v3 v4 v5) (hne : h ≠ g) (j : Nat) (u : Value) : Box6 (w.setCell ⟨h, j, none⟩ u) g v0 v1 v2 v3 v4 v5 := by
  obtain ⟨c0, c1, c2, c3, c4, c5, f0, f1, f2, f3, f4, f5, z⟩ := b
  have hn : g ≠ h := fun e => hne e.symm
  constructor <;> (first | (simp (maxDischargeDepth := 12) [go_sem, *]; done) | (simp; omega))
theorem Box6.set (b : Box6 w g v0 v1 v2 v3 v4 v5) : Box6 ((((((w.setCell ⟨g, 0, none⟩ u0).setCell ⟨g, 1, none⟩ u1).setCell ⟨g, 2, none⟩ u2).setCell ⟨g, 3, none⟩ u3).setCell ⟨g, 4, none⟩ u4).setCell ⟨g, 5, none⟩ u5) g u0 u1 u2 u3 u4 u5 := by
  obtain ⟨c0, c1, c2, c3, c4, c5, f0, f1, f2, f3, f4, f5, z⟩ := b
  constructor <;> (first | (simp (maxDischargeDepth := 20) [go_sem, *]; done) | (simp; omega))
end
section
variable {w w' : World} {g h : Nat} {v0 v1 v2 v3 v4 v5 v6 u0 u1 u2 u3 u4 u5 u6 : Value}
end
section
variable {w w' : World} {g h : Nat} {v0 v1 v2 v3 v4 v5 v6 v7 u0 u1 u2 u3 u4 u5 u6 u7 : Value}
end
section
variable {w w' : World} {g h : Nat} {v0 v1 v2 v3 v4 v5 v6 v7 v8 u0 u1 u2 u3 u4 u5 u6 u7 u8 : Value}
end
section
variable {w w' : World} {g h : Nat} {v0 v1 v2 v3 v4 v5 v6 v7 v8 v9 u0 u1 u2 u3 u4 u5 u6 u7 u8 u9 : Value}
end
section
variable {w w' : World} {g h : Nat} {v0 v1 v2 v3 v4 v5 v6 v7 v8 v9 v10 u0 u1 u2 u3 u4 u5 u6 u7 u8 u9 u10 : Value}
end
open Go.RowKit
set_option maxRecDepth 100000 in
set_option maxHeartbeats 400000 in
theorem digits_any (A : Option Addr) (c : Nat) (bs : List Nat) (w : World) (hr : RB w w.heap.size A bs) (hc : bs.length ≤ c) (hm : bs.length ≤ 140737488351232) :
    Calls Tryz.prog 53 #[.slice A bs.length c] w fun e w' => e = .returned (.slice A (span digB bs) c) ∧ w = w' := by
  have hH := Lib.hid hr
  clear hr
  go_enter Tryz.func53, Tryz.ntmps53
  go_wp2_with fail
  go_loop [3] (fun n => ∃ k : Nat, k ≤ bs.length ∧ n = .int .i64 k ∧ Hid (∀ j (hj : j < bs.length), j < k → digB bs[j] = true)) (fun n => bs.length - (intOf n).toNat)
  case atStart => exact ⟨0, Nat.zero_le _, rfl, Lib.hid (fun _ _ h => absurd h (by omega))⟩
  case round =>
    obtain ⟨k, hk, rfl, hall⟩ := hrel
    by_cases hlt : k < bs.length
    · obtain ⟨ad, rfl, hb, hcell⟩ := hH.out.2 (by omega)
      have hx := hH.out.1 bs[k] (List.getElem_mem _)
      have hcl := hcell k hlt
      obtain ⟨x, hxe⟩ : ∃ x, x = bs[k] := ⟨_, rfl⟩
      rw [← hxe] at hx hcl
      have HX := Lib.hid hxe; clear hxe hcell hb
      by_cases h1 : 48 ≤ x
      · by_cases h2 : x ≤ 57
        · go_wp2
          go_round
          case rel => exact ⟨k + 1, by omega, by go_num, Lib.hid (fun j hj hjk => by
            by_cases e : j = k
            · subst e; rw [← HX.out]; simp [digB, h1, h2]
            · exact hall.out j hj (by omega))⟩
          case measure => simp [intOf]; omega
        · have he : span digB bs = k := span_eq _ _ _ hk (fun j hj hjk => hall.out j hj hjk) (fun hj => by rw [← HX.out]; simp [digB]; omega)
          have HE := Lib.hid he; clear he
          go_wp2
          go_ret
          exact ⟨by rw [HE.out]; rfl, rfl⟩
      · have he : span digB bs = k := span_eq _ _ _ hk (fun j hj hjk => hall.out j hj hjk) (fun hj => by rw [← HX.out]; simp [digB]; omega)
        have HE := Lib.hid he; clear he
        go_wp2
        go_ret
        exact ⟨by rw [HE.out]; rfl, rfl⟩
    · have he : span digB bs = k := span_eq _ _ _ hk (fun j hj hjk => hall.out j hj hjk) (fun hj => by omega)
      have HE := Lib.hid he; clear he
      go_wp2
      go_ret
      exact ⟨by rw [HE.out]; rfl, rfl⟩
open Go.RowKit
def Reads (w : World) (B size : Nat) (A : Option Addr) (n : Nat) (xs : List Value) : Prop :=
  xs.length = n * size ∧ (0 < n → ∃ ad, A = some ad ∧ ad.block < B ∧ ∀ j u, xs[j]? = some u → w.cell? (ad.add j) = some u)
section
variable {w w' : World} {B B' size n : Nat} {A : Option Addr} {xs : List Value}
theorem Reads.at_ {k : Nat} (h : Reads w B 1 A n xs) (hk : k < n) : ∃ ad u, A = some ad ∧ ad.block < B ∧ xs[k]? = some u ∧ w.cell? (ad.add k) = some u := by
  obtain ⟨ad, e, hb, hc⟩ := h.2 (by omega)
  have hl : k < xs.length := by have := h.1; omega
  exact ⟨ad, xs[k], e, hb, List.getElem?_eq_getElem hl, hc k _ (List.getElem?_eq_getElem hl)⟩
theorem Reads.keep (h : Reads w B size A n xs) (hk : ∀ p : Addr, p.block < B → w'.cell? p = w.cell? p) : Reads w' B size A n xs :=
  ⟨h.1, fun hn => by
    obtain ⟨ad, e, hb, hc⟩ := h.2 hn
    exact ⟨ad, e, hb, fun j u hu => (hk _ (by rw [block_of_add]; exact hb)).trans (hc j u hu)⟩⟩
theorem Reads.more (h : Reads w B size A n xs) (hB : B ≤ B') : Reads w B' size A n xs :=
  ⟨h.1, fun hn => by
    obtain ⟨ad, e, hb, hc⟩ := h.2 hn
    exact ⟨ad, e, by omega, hc⟩⟩
theorem Reads.below (h : Reads w B size A n xs) (hb : Below B w w') : Reads w' B size A n xs := h.keep fun _ hp => hb.cell hp
theorem Reads.drew (h : Reads w B size A n xs) : Reads w.drew B size A n xs := h
theorem Reads.drewN (h : Reads w B size A n xs) (k : Nat) : Reads (w.drewN k) B size A n xs := h
theorem Reads.alloc (h : Reads w B size A n xs) (hB : B ≤ w.heap.size) (o : Obj) : Reads (w.alloc o) B size A n xs := h.keep fun p hp => World.cell?_alloc_lt w o p (by omega)
theorem Reads.setCell (h : Reads w B size A n xs) {p : Addr} (hB : B ≤ p.block) (u : Value) : Reads (w.setCell p u) B size A n xs :=
  h.keep fun q hq => World.cell?_setCell_other w p q u (fun e => by subst e; omega)
theorem Reads.grown (h : Reads w B size A n xs) {row : Option Nat} (hg : w.grownBy w' row) (hB : B ≤ w.heap.size) (hr : ∀ g, row = some g → B ≤ g) : Reads w' B size A n xs :=
  h.keep fun p hp => World.cell?_of_block (hg.block p.block (by omega) (fun e => by have := hr _ e.symm; omega))
theorem Reads.cut (h : Reads w B size A n xs) {k cap : Nat} (hk : k ≤ n) (hc : n ≤ cap) :
    Reads w B size (if cap = k then A else A.map (·.add (k * size))) (n - k) (xs.drop (k * size)) := by
  refine ⟨by rw [List.length_drop, h.1, Nat.sub_mul], fun hn => ?_⟩
  obtain ⟨ad, rfl, hb, hcell⟩ := h.2 (by omega)
  rw [if_neg (by omega)]
  refine ⟨ad.add (k * size), rfl, by rw [block_of_add]; exact hb, fun j u hu => ?_⟩
  rw [add_of_add]
  exact hcell _ u (by rw [← hu, List.getElem?_drop])
theorem Reads.of_own {base : Nat} {e : TypeId} {c : Nat} (h : w.ownsRow base e size (.slice A n c) n xs) : Reads w w.heap.size size A n xs := by
  refine ⟨h.1, fun hn => ?_⟩
  obtain ⟨g, cap, hv, _, hlt⟩ := h.form hn
  have hA : A = some ⟨g, 0, none⟩ := by injection hv
  subst hA
  exact ⟨_, rfl, hlt, h.cells (g := g) rfl⟩
end
def Blk (w : World) (g : Nat) (t : TypeId) (cs : Array Value) : Prop := w.heap[g]? = some (.cells cs t (0, 0))
section
variable {w w' : World} {g : Nat} {t : TypeId} {cs : Array Value}
theorem Blk.lt (h : Blk w g t cs) : g < w.heap.size := by
  rcases Nat.lt_or_ge g w.heap.size with hlt | hge
  · exact hlt
  · unfold Blk at h; rw [Array.getElem?_eq_none hge] at h; cases h
theorem Blk.cell (h : Blk w g t cs) (i : Nat) : w.cell? ⟨g, i, none⟩ = cs[i]? := cell_of_row w g i cs t (0, 0) h
theorem Blk.frozen (h : Blk w g t cs) (i : Nat) : w.frozen? ⟨g, i, none⟩ = false := by
  unfold Blk at h
  simp [World.frozen?, h]
theorem Blk.new (w : World) (t : TypeId) (cs : Array Value) : Blk (w.alloc (.cells cs t)) w.heap.size t cs := heap_alloc_new w _
theorem Blk.drew (h : Blk w g t cs) : Blk w.drew g t cs := h
theorem Blk.drewN (h : Blk w g t cs) (n : Nat) : Blk (w.drewN n) g t cs := h
theorem Blk.alloc (h : Blk w g t cs) (o : Obj) : Blk (w.alloc o) g t cs := (Below.heap_alloc w o g h.lt).trans h
theorem Blk.set_ (h : Blk w g t cs) (i : Nat) (u : Value) : Blk (w.setCell ⟨g, i, none⟩ u) g t (cs.setIfInBounds i u) := by
  unfold Blk at h ⊢
  simp [World.setCell, Array.getElem?_modify, h]
theorem Blk.far (h : Blk w g t cs) {p : Addr} (hp : g ≠ p.block) (u : Value) : Blk (w.setCell p u) g t cs := (Below.heap_setCell w p u g hp).trans h
theorem Blk.below {B : Nat} (h : Blk w g t cs) (hb : Below B w w') (hg : g < B) : Blk w' g t cs := (hb.block g hg).trans h
theorem Blk.grown {row : Option Nat} (h : Blk w g t cs) (hb : w.grownBy w' row) (hg : some g ≠ row) : Blk w' g t cs := (hb.block g h.lt hg).trans h
end
section
variable {P : Program} (w : World)
theorem run_append_of_nil (base : Nat) (t ty e : TypeId) (i : TypeInfo) (size : Nat) (ht : P.underlying t = some (.slice e)) (hi : P.info? e = some i)
    (v : Value) (n : Nat) (xs : List Value) (hown : w.ownsRow base e size v n xs) (c : Nat) : (Builtin.append_ #[t, t] ty #[v, .slice none 0 c]).run P w = .ok v w := by
  rcases hown.2 with ⟨rfl, rfl⟩ | ⟨g, cap, cur, rfl, _, _, hnc, _⟩
  · simp [Builtin.append_, run_underlying ht, sizeOf, typeInfo, hi, Builtin.lenOf, Builtin.firstCells]
  · simp [Builtin.append_, run_underlying ht, sizeOf, typeInfo, hi, Builtin.lenOf, Builtin.firstCells, hnc, storeCells]
theorem run_append_any (base : Nat) (t ty e : TypeId) (i : TypeInfo) (z : Value) (size bytes : Nat) (ht : P.underlying t = some (.slice e)) (hi : P.info? e = some i) (hz : i.zero = some z)
    (hsize : i.size = size) (hby : i.bytes = bytes) (hzs : z.cells.size = size) (hsz : 0 < size)
    (v : Value) (n : Nat) (xs : List Value) (hown : w.ownsRow base e size v n xs)
    (B : Nat) (A : Option Addr) (m c : Nat) (news : List Value) (hr : Reads w B size A m news) (h1 : ∀ u ∈ news, u.oneCell' = true)
    (h63 : n + m ≤ maxLen) (hbytes : (n + m) * bytes ≤ 140737488355328) (hbase : base ≤ w.heap.size) :
    ∃ v' w', (Builtin.append_ #[t, t] ty #[v, .slice A m c]).run P w = .ok v' w' ∧ w'.ownsRow base e size v' (n + m) (xs ++ news) ∧ w.grownBy w' v.ownBlock ∧
      (v'.ownBlock = v.ownBlock ∨ v'.ownBlock = some w.heap.size) := by
  rcases A with _ | ad
  · have hm : m = 0 := by
      rcases Nat.eq_zero_or_pos m with h0 | h0
      · exact h0
      · obtain ⟨ad, h, _⟩ := hr.2 h0
        cases h
    subst hm
    have hn : news = [] := List.eq_nil_of_length_eq_zero (by simpa using hr.1)
    subst hn
    exact ⟨v, w, run_append_of_nil w base t ty e i size ht hi v n xs hown c, by simpa using hown, World.grownBy.refl w _, .inl rfl⟩
  · have hcells : ∀ j u, news[j]? = some u → w.cell? (ad.add j) = some u := by
      intro j u hu
      rcases Nat.eq_zero_or_pos m with h0 | h0
      · subst h0
        have hn : news = [] := List.eq_nil_of_length_eq_zero (by simpa using hr.1)
        subst hn
        simp at hu
      · obtain ⟨ad', h, _, hc⟩ := hr.2 h0
        injection h with h
        subst h
        exact hc j u hu
    obtain ⟨v', w', hrun, h2, h3, _, h5⟩ := run_append_own_at (P := P) w base t ty e i z size bytes ht hi hz hsize hby hzs hsz v n xs hown ad m c news hr.1 hcells h1 h63 hbytes hbase
    exact ⟨v', w', hrun, h2, h3, h5⟩
theorem wp_append_any {o : Oper} {a : Act} {K : Act → World → Prop} {Q : Exit → Act → World → Prop} (s x : Operand) (t : TypeId)
    (ho : o.op = .call { callee := .builtin .append, args := #[s, x], argTypes := #[t, t] })
    (base : Nat) (e : TypeId) (i : TypeInfo) (z : Value) (size bytes : Nat) (ht : P.underlying t = some (.slice e)) (hi : P.info? e = some i) (hz : i.zero = some z)
    (hsize : i.size = size) (hby : i.bytes = bytes) (hzs : z.cells.size = size) (hsz : 0 < size)
    (v : Value) (n : Nat) (xs : List Value) (hs : a.eval s = v) (hown : w.ownsRow base e size v n xs)
    (B : Nat) (A : Option Addr) (m c : Nat) (news : List Value) (hx : a.eval x = .slice A m c) (hr : Reads w B size A m news) (h1 : ∀ u ∈ news, u.oneCell' = true)
    (h63 : n + m ≤ maxLen) (hbytes : (n + m) * bytes ≤ 140737488355328) (hbase : base ≤ w.heap.size)
    (h : ∀ v' w', w'.ownsRow base e size v' (n + m) (xs ++ news) → w.grownBy w' v.ownBlock → (v'.ownBlock = v.ownBlock ∨ v'.ownBlock = some w.heap.size) → K (a.put o.dst v') w') : o.wp P a w K Q := by
  obtain ⟨v', w', hrun, h2, h3, h4⟩ := run_append_any (P := P) w base t o.type e i z size bytes ht hi hz hsize hby hzs hsz v n xs hown B A m c news hr h1 h63 hbytes hbase
  unfold Oper.wp execOp
  simp only [ho, resolve, invoke, builtin, Sem.run_bind, Sem.run_pure, Result.andThen_ok, List.map_toArray, List.map_cons, List.map_nil, hs, hx, hrun]
  exact h v' w' h2 h3 h4
end
open Go.RowKit
structure Upd (g : Nat) (row : Option Nat) (w w' : World) : Prop where
  os : w'.os = w.os
  tape : w'.tape = w.tape
  output : w'.output = w.output
  size : w.heap.size ≤ w'.heap.size
  block : ∀ k, k < w.heap.size → k ≠ g → some k ≠ row → w'.heap[k]? = w.heap[k]?
section
variable {w w' w'' : World} {g : Nat} {row row' : Option Nat}
theorem Upd.refl (g : Nat) (row : Option Nat) (w : World) : Upd g row w w := ⟨rfl, rfl, rfl, Nat.le_refl _, fun _ _ _ _ => rfl⟩
theorem Upd.of_below (q : Below w.heap.size w w') : Upd g row w w' := ⟨q.os, q.tape, q.output, q.size, fun k hk _ _ => q.block k hk⟩
theorem Upd.trans (h : Upd g row w w') (k : Upd g row' w' w'') (hr : ∀ r, row' = some r → row = some r ∨ w.heap.size ≤ r) : Upd g row w w'' :=
  ⟨k.os.trans h.os, k.tape.trans h.tape, k.output.trans h.output, Nat.le_trans h.size k.size, fun i hi h1 h2 =>
    (k.block i (Nat.lt_of_lt_of_le hi h.size) h1 (fun e => by rcases hr i e.symm with h3 | h3; exact h2 h3.symm; omega)).trans (h.block i hi h1 h2)⟩
theorem Upd.trans_same (h : Upd g row w w') (k : Upd g row w' w'') : Upd g row w w'' := h.trans k fun _ e => .inl e
theorem Upd.next (h : Upd g row w w') (q : Below w'.heap.size w' w'') : Upd g row w w'' := h.trans_same (.of_below q)
theorem Upd.put (h : Upd g row w w') (j : Nat) (u : Value) : Upd g row w (w'.setCell ⟨g, j, none⟩ u) := by
  refine h.trans_same ⟨rfl, rfl, rfl, by simp, fun k _ hk _ => Below.heap_setCell w' _ u k hk⟩
theorem Upd.fresh (h : Upd g row w w') {b : Nat} (hb : w.heap.size ≤ b) (j : Nat) (u : Value) : Upd g row w (w'.setCell ⟨b, j, none⟩ u) :=
  ⟨h.os, h.tape, h.output, by simp; exact h.size, fun k hk h1 h2 => (Below.heap_setCell w' _ u k (by show k ≠ b; omega)).trans (h.block k hk h1 h2)⟩
theorem Upd.alloc (h : Upd g row w w') (o : Obj) : Upd g row w (w'.alloc o) := h.next ((Below.refl _ _).alloc (Nat.le_refl _) _)
theorem Upd.drew (h : Upd g row w w') : Upd g row w w'.drew := h.next (Below.refl _ _).drew
theorem Upd.drewN (h : Upd g row w w') (n : Nat) : Upd g row w (w'.drewN n) := h.next (below_drewN (Below.refl _ _) n)
theorem Upd.below (h : Upd g row w w') {B : Nat} (hB : B ≤ w.heap.size) (hg : B ≤ g) (hr : ∀ r, row = some r → B ≤ r) : Below B w w' :=
  ⟨h.os, h.tape, h.output, h.size, fun k hk => h.block k (by omega) (by omega) (fun e => by have := hr k e.symm; omega)⟩
theorem Upd.reads (h : Upd g row w w') {B s n : Nat} {A : Option Addr} {xs : List Value} (r : Reads w B s A n xs) (hB : B ≤ w.heap.size) (hg : B ≤ g) (hr : ∀ r, row = some r → B ≤ r) : Reads w' B s A n xs := r.below (h.below hB hg hr)
theorem Upd.own (h : Upd g row w w') {base : Nat} {v : Value} {bs : List Nat} (o : OB w base v bs) (hg : g < base) (hr : v.ownBlock = none ∨ v.ownBlock ≠ row) : OB w' base v bs := by
  obtain ⟨hb, hl, h0 | ⟨k, cap, cur, rfl, hbk, hk, rest⟩⟩ := o
  · exact ⟨hb, hl, .inl h0⟩
  · refine ⟨hb, hl, .inr ⟨k, cap, cur, rfl, hbk, ?_, rest⟩⟩
    rw [h.block k (Array.getElem?_eq_some_iff.1 hk).1 (by omega) (by simpa [Value.ownBlock] using hr)]
    exact hk
theorem Upd.cell (h : Upd g row w w') {k j : Nat} (hk : k < w.heap.size) (h1 : k ≠ g) (h2 : some k ≠ row) : w'.cell? ⟨k, j, none⟩ = w.cell? ⟨k, j, none⟩ := World.cell?_of_block (h.block k hk h1 h2)
theorem Upd.frozen (h : Upd g row w w') {k j : Nat} (hk : k < w.heap.size) (h1 : k ≠ g) (h2 : some k ≠ row) : w'.frozen? ⟨k, j, none⟩ = w.frozen? ⟨k, j, none⟩ := World.frozen?_of_block (h.block k hk h1 h2)
end
open Go.RowKit
def mh (N : Nat) : Int := ((N / 18446744073709551616 : Nat) : Int)
def ml (N : Nat) : Int := ((N % 18446744073709551616 : Nat) : Int)
set_option maxRecDepth 100000 in
set_option maxHeartbeats 400000 in
theorem more_any (n : Bool) (N c : Nat) (hN : N < 10000000000000000000000000000000000000) (hc : 48 ≤ c) (hc2 : c ≤ 57) (w : World) :
    Calls Tryz.prog 47 #[.agg #[.bool n, .int .u64 (mh N), .int .u64 (ml N)], .int .u8 (c : Int)] w fun e w' => e = .returned (.agg #[.bool false, .int .u64 (mh (N * 10 + (c - 48))), .int .u64 (ml (N * 10 + (c - 48)))]) ∧ Below w.heap.size w w' := by
  obtain ⟨H, hH⟩ : ∃ H, H = N / 18446744073709551616 := ⟨_, rfl⟩
  obtain ⟨L, hL⟩ : ∃ L, L = N % 18446744073709551616 := ⟨_, rfl⟩
  have e1 : mh N = (H : Int) := by unfold mh; rw [hH]
  have e2 : ml N = (L : Int) := by unfold ml; rw [hL]
  rw [e1, e2]
  have bH : H < 1000000000000000000 := by omega
  have bL : L < 18446744073709551616 := by omega
  have pr := pl_range (L : Int) 10
  have qr := ph_range (x := (L : Int)) (y := 10) (by omega) (by omega) (by decide) (by decide)
  have pq := phl (L : Int) 10
  obtain ⟨S, hS⟩ : ∃ S : Int, S = (pl (L : Int) 10 + ((c : Int) - 48)) % 18446744073709551616 := ⟨_, rfl⟩
  obtain ⟨C, hC⟩ : ∃ C : Int, C = (pl (L : Int) 10 + ((c : Int) - 48)) / 18446744073709551616 := ⟨_, rfl⟩
  have f2 : ml (N * 10 + (c - 48)) = S := by
    unfold ml; omega
  have f1 : mh (N * 10 + (c - 48)) = (H : Int) * 10 + ph (L : Int) 10 + C := by
    unfold mh; omega
  rw [f1, f2]
  have ea := fun W => add64_0 (pl (L : Int) 10) ((c : Int) - 48) pr.1 (by omega) W
  rw [← hS, ← hC] at ea
  have hC1 : C ≤ 1 := by omega
  have hC0 : 0 ≤ C := by omega
  have hq1 : ph (L : Int) 10 < 20 := by unfold ph; omega
  have hq0 := qr.1
  clear hH hL e1 e2 f1 f2 hS hC pq qr hN pr
  go_enter Tryz.func47, Tryz.ntmps47
  go_wp2_with (go_at_call 54; refine (mul64 _ _ (by omega) (by omega) (by omega) (by omega) _).mono ?_; rintro e w' ⟨rfl, rfl⟩)
  go_outline
  go_returns
  exact ⟨rfl, by (repeat' (first | (with_reducible exact Below.refl _ _) | (refine Below.trans ?_ (Below.mono (by with_reducible assumption) ?_)) | (with_reducible exact Below.refl _ _) | (with_reducible refine below_drewN ?_ _) | (with_reducible refine Below.drew ?_) | (with_reducible refine Below.setCell ?_ ?_ _) | (with_reducible refine Below.alloc ?_ ?_ _) | (with_reducible assumption) | (simp; done) | (simp; omega) | omega))⟩
end Go.Proofs.YtdiibenofbcfnaaGreat
