/- Several texts put together: Kit, NumA, Byt, Byc, Errs. -/
import Derived.Test.YtanbplnagcmlcaaDoorProg
import Derived.WalkKit
import Derived.WalkSpells
import Derived.WalkLawsBesides
import Derived.BigQuiet
import Derived.Deep.QuietTactic
import Derived.StillTailTactics
import Derived.Deep.RegionHeld3
import Derived.Deep.RegionWith
import Derived.Deep.DeepCutAuto
import Derived.Deep.DeepFit
import Derived.Deep.CutBlock
import Derived.Deep.LoopGhost
import Derived.Lib.Hide
import Derived.Handy
import Derived.RowKit3
import Derived.Laws.OwnMore
import Derived.Deep.AppendLies
import Derived.Deep.Draws
import Derived.Laws.AppendOwnNone
import Derived.Below
import Derived.Laws.IdiomStrings
import Derived.Lib.SlBytesConst
import Derived.ArgAppend
import Derived.Lib.IfaceEq
import Derived.LaidEql
import Derived.Stop.Asserts
import Derived.RowKitTokens
/- What all texts of this seat import: the walk's tactics and laws. -/
namespace Go.Proofs.YtanbplnagcmlcaaDoor
open Go.RowKit

theorem below_drewN {B : Nat} {a w : World} (h : Below B a w) (n : Nat) : Below B a (w.drewN n) := ⟨h.os, h.tape, h.output, h.size, h.block⟩
theorem bcell {W w1 : World} (hb : Below W.heap.size W w1) : (∀ b o, b < W.heap.size → w1.cell? ⟨b, o, none⟩ = W.cell? ⟨b, o, none⟩) ∧ (∀ b o, b < W.heap.size → w1.frozen? ⟨b, o, none⟩ = W.frozen? ⟨b, o, none⟩) :=
  ⟨fun b o h => hb.cell (p := ⟨b, o, none⟩) h, fun b o h => hb.frozen (p := ⟨b, o, none⟩) h⟩
/-- A word. -/
def Wd (x : Int) : Prop := 0 ≤ x ∧ x < 18446744073709551616
theorem Wd.zero : Wd 0 := ⟨by decide, by decide⟩
/-- A whole number of four limbs. -/
def lim4 (a b c d : Int) : Int := a + b * 18446744073709551616 + c * 340282366920938463463374607431768211456 + d * 6277101735386680763835789423207666416102355444464034512896
/-- No magnitude is this or more. -/
def LIM : Int := 1000000000000000000000000000000000000
/-- The sign and the words of a number of millionths. -/
def zn (z : Int) : Bool := decide (z < 0)
def zh (z : Int) : Int := (z.natAbs : Int) / 18446744073709551616
def zl (z : Int) : Int := (z.natAbs : Int) % 18446744073709551616
/-- A right number's sign and words, and what it is in millionths. -/
def IsD (n : Bool) (h l z : Int) : Prop := Wd h ∧ Wd l ∧ h * 18446744073709551616 + l = z.natAbs ∧ n = decide (z < 0) ∧ z.natAbs < LIM
theorem IsD.words {n : Bool} {h l z : Int} (i : IsD n h l z) : Wd h ∧ Wd l := ⟨i.1, i.2.1⟩
theorem IsD.of {z : Int} (h : z.natAbs < LIM) : IsD (zn z) (zh z) (zl z) z := by
  unfold LIM at h
  refine ⟨⟨?_, ?_⟩, ⟨?_, ?_⟩, ?_, rfl, h⟩ <;> (try unfold zh) <;> (try unfold zl) <;> omega
theorem IsD.eq {n : Bool} {h l z : Int} (i : IsD n h l z) : n = zn z ∧ h = zh z ∧ l = zl z := by
  obtain ⟨⟨a, b⟩, ⟨c, d⟩, e, f, g⟩ := i
  refine ⟨f, ?_, ?_⟩
  · unfold zh; omega
  · unfold zl; omega
end Go.Proofs.YtanbplnagcmlcaaDoor

/- numeral.blank, numeral.digits, fieldfareref02.Blank; slices of bytes. -/
namespace Go.Proofs.YtanbplnagcmlcaaDoor
open Go.RowKit
theorem block_of_add (a : Addr) (n : Nat) : (a.add n).block = a.block := by unfold Addr.add; split <;> rfl
theorem add_of_add (a : Addr) (i j : Nat) : (a.add i).add j = a.add (i + j) := by
  unfold Addr.add
  by_cases hi : i = 0 <;> by_cases hj : j = 0 <;> simp [hi, hj, Nat.add_assoc]
/-- A slice of bytes reads as a list, below block B. -/
def RB (w : World) (B : Nat) (A : Option Addr) (bs : List Nat) : Prop :=
  (∀ x ∈ bs, x < 256) ∧ (0 < bs.length → ∃ ad, A = some ad ∧ ad.block < B ∧ ∀ j (h : j < bs.length), w.cell? (ad.add j) = some (.int .u8 ((bs[j] : Nat) : Int)))
section
variable {w w' : World} {B B' : Nat} {A : Option Addr} {bs : List Nat}
theorem RB.keep (h : RB w B A bs) (hk : ∀ p : Addr, p.block < B → w'.cell? p = w.cell? p) : RB w' B A bs :=
  ⟨h.1, fun hn => by
    obtain ⟨ad, e, hb, hc⟩ := h.2 hn
    exact ⟨ad, e, hb, fun j hj => (hk _ (by rw [block_of_add]; exact hb)).trans (hc j hj)⟩⟩
theorem RB.below (h : RB w B A bs) (hb : Below B w w') : RB w' B A bs := h.keep fun _ hp => hb.cell hp
theorem RB.more (h : RB w B A bs) (hB : B ≤ B') : RB w B' A bs :=
  ⟨h.1, fun hn => by
    obtain ⟨ad, e, hb, hc⟩ := h.2 hn
    exact ⟨ad, e, by omega, hc⟩⟩
theorem RB.cut (h : RB w B A bs) {k cap : Nat} (hc : bs.length ≤ cap) : RB w B (if cap = k then A else A.map (·.add k)) (bs.drop k) := by
  refine ⟨fun x hx => h.1 x (List.mem_of_mem_drop hx), fun hn => ?_⟩
  rw [List.length_drop] at hn
  obtain ⟨ad, rfl, hb, hcell⟩ := h.2 (by omega)
  rw [if_neg (by omega)]
  refine ⟨ad.add k, rfl, by rw [block_of_add]; exact hb, fun j hj => ?_⟩
  rw [List.length_drop] at hj
  rw [add_of_add, List.getElem_drop]
  exact hcell (k + j) (by omega)
theorem RB.take (h : RB w B A bs) (k : Nat) : RB w B A (bs.take k) := by
  refine ⟨fun x hx => h.1 x (List.mem_of_mem_take hx), fun hn => ?_⟩
  rw [List.length_take] at hn
  obtain ⟨ad, e, hb, hcell⟩ := h.2 (by omega)
  refine ⟨ad, e, hb, fun j hj => ?_⟩
  rw [List.length_take] at hj
  rw [List.getElem_take]
  exact hcell j (by omega)
theorem RB.nil : RB w B A [] := ⟨by simp, by simp⟩
end
/-- A blank; a digit. -/
def blankB (c : Nat) : Bool := (decide (9 ≤ c) && decide (c ≤ 13)) || decide (c = 32)
def digB (c : Nat) : Bool := decide (48 ≤ c) && decide (c ≤ 57)
/-- How many of the first ones there are. -/
def span (p : Nat → Bool) : List Nat → Nat
  | [] => 0
  | c :: l => if p c then span p l + 1 else 0
theorem span_le (p : Nat → Bool) (l : List Nat) : span p l ≤ l.length := by
  induction l with
  | nil => simp [span]
  | cons c l ih => simp only [span]; split <;> simp <;> omega
theorem span_stop (p : Nat → Bool) (l : List Nat) (h : span p l < l.length) : p (l[span p l]) = false := by
  induction l with
  | nil => simp at h
  | cons c l ih =>
    by_cases hc : p c = true
    · simp only [span, hc, if_true] at h ⊢
      simp only [List.getElem_cons_succ]
      exact ih (by simp at h; omega)
    · simp only [span, hc, Bool.false_eq_true, if_false] at h ⊢
      simpa using hc
theorem span_all (p : Nat → Bool) (l : List Nat) (j : Nat) (h : j < span p l) (hj : j < l.length) : p l[j] = true := by
  induction l generalizing j with
  | nil => simp at hj
  | cons c l ih =>
    by_cases hc : p c = true
    · cases j with
      | zero => simpa using hc
      | succ j =>
        simp only [span, hc, if_true] at h
        simp only [List.getElem_cons_succ]
        exact ih j (by omega) (by simp at hj; omega)
    · simp [span, hc] at h
theorem span_eq (p : Nat → Bool) (l : List Nat) (k : Nat) (hk : k ≤ l.length) (h : ∀ j (hj : j < l.length), j < k → p l[j] = true) (hs : ∀ hj : k < l.length, p l[k] = false) : span p l = k := by
  have a := span_le p l
  rcases Nat.lt_trichotomy (span p l) k with hlt | heq | hgt
  · have := span_stop p l (by omega)
    rw [h _ (by omega) hlt] at this; cases this
  · exact heq
  · have := span_all p l k hgt (by omega)
    rw [hs (by omega)] at this; cases this
end Go.Proofs.YtanbplnagcmlcaaDoor

/- Bytes that a call has made: appending to them. -/
namespace Go.Proofs.YtanbplnagcmlcaaDoor
open Go.RowKit
theorem rb_of {w : World} {B b : Nat} {bs : List Nat} (hb : ∀ x ∈ bs, x < 256) (h : b < B) (hc : ∀ j (h : j < bs.length), w.cell? ⟨b, j, none⟩ = some (.int .u8 ((bs[j] : Nat) : Int))) : RB w B (some ⟨b, 0, none⟩) bs := by
  refine ⟨hb, fun _ => ⟨_, rfl, h, fun j hj => ?_⟩⟩
  have : (⟨b, 0, none⟩ : Addr).add j = ⟨b, j, none⟩ := by unfold Addr.add; split <;> simp_all
  rw [this]; exact hc j hj
def nums (bs : List Nat) : Array Value := (bs.map fun x => Value.int .u8 ((x : Nat) : Int)).toArray
theorem rb_row (w : World) (bs : List Nat) (hb : ∀ x ∈ bs, x < 256) (t : TypeId) (f : Nat × Nat) : RB (w.alloc (.cells (nums bs) t f)) (w.heap.size + 1) (some ⟨w.heap.size, 0, none⟩) bs := by
  refine rb_of hb (by omega) fun j hj => ?_
  rw [World.cell?_alloc_mark]
  simp [nums, hj]
def bv (x : Nat) : Value := .int .u8 (x : Int)
/-- The value v is a slice that owns its row, which holds bytes. -/
def OB (w : World) (base : Nat) (v : Value) (bs : List Nat) : Prop := (∀ x ∈ bs, x < 256) ∧ w.ownsRow base 5 1 v bs.length (bs.map bv)
theorem OB.slice {w : World} {base : Nat} {v : Value} {bs : List Nat} (h : OB w base v bs) :
    ∃ (A : Option Addr) (c : Nat), v = .slice A bs.length c ∧ bs.length ≤ c ∧ RB w w.heap.size A bs ∧ (A = none → bs = [] ∧ c = 0) := by
  obtain ⟨hb, hl, h | ⟨g, cap, cur, hv, hg, hh, hn, hm, hs, ht⟩⟩ := h
  · obtain ⟨rfl, h0⟩ := h
    refine ⟨none, 0, by rw [h0], by omega, ?_, fun _ => ⟨List.length_eq_zero_iff.1 h0, rfl⟩⟩
    rw [List.length_eq_zero_iff.1 h0]; exact RB.nil
  · refine ⟨some ⟨g, 0, none⟩, cap, hv, hn, ?_, fun e => by cases e⟩
    have hlt : g < w.heap.size := by
      rcases Nat.lt_or_ge g w.heap.size with h | h
      · exact h
      · rw [Array.getElem?_eq_none h] at hh; cases hh
    refine rb_of hb hlt fun j hj => ?_
    rw [cell_of_row w g j cur 5 (0, 0) hh]
    have : (cur.toList.take (bs.length * 1))[j]? = (bs.map bv)[j]? := by rw [ht]
    rw [List.getElem?_take, if_pos (by omega), List.getElem?_map, List.getElem?_eq_getElem hj] at this
    simpa [bv] using this
theorem OB.kept {w w' : World} {base : Nat} {v : Value} {bs : List Nat} {row : Option Nat} (h : OB w base v bs) (hg : w.grownBy w' row) (hne : v.ownBlock = none ∨ v.ownBlock ≠ row) : OB w' base v bs := ⟨h.1, h.2.kept hg hne⟩
theorem OB.alloc {w : World} {base : Nat} {v : Value} {bs : List Nat} (h : OB w base v bs) (o : Obj) : OB (w.alloc o) base v bs := ⟨h.1, h.2.alloc o⟩
theorem OB.nil (w : World) (base : Nat) : OB w base (.slice none 0 0) [] := ⟨by simp, World.ownsRow_nil _ _ _ _⟩
theorem OB.setCell {w : World} {base : Nat} {v : Value} {bs : List Nat} (h : OB w base v bs) {a : Addr} (ha : a.block < base) (u : Value) : OB (w.setCell a u) base v bs := ⟨h.1, ownsRow_setCell_below h.2 ha u⟩
theorem OB.lit (w : World) (bs : List Nat) {base : Nat} (hb : ∀ x ∈ bs, x < 256) (hB : base ≤ w.heap.size) (hl : bs.length ≤ maxLen) : OB (w.alloc (.cells (nums bs) 5)) base (.slice (some ⟨w.heap.size, 0, none⟩) bs.length bs.length) bs :=
  ⟨hb, World.ownsRow_lit w (nums bs) bs.length hB hl (by simp [nums])⟩
theorem OB.block {w : World} {base : Nat} {v : Value} {bs : List Nat} (h : OB w base v bs) : ∀ k, v.ownBlock = some k → base ≤ k ∧ k < w.heap.size := h.2.lt
theorem info_u8 : (Tryd.prog.info? 5).map (fun i => (i.zero, i.size, i.bytes)) = some (some (.int .u8 0), 1, 1) := by kernel_rfl
/-- append(v, x...) of bytes, to a slice of the call's own. -/
theorem wpList_appB {w : World} {ops : Array Oper} {rest : List Oper} {o : Oper} {a : Act} {Q : Exit → Act → World → Prop} (hgd : o.guard = none) (s x : Operand)
    (ho : o.op = .call { callee := .builtin .append, args := #[s, x], argTypes := #[27, 27] }) (base : Nat) (hbase : base ≤ w.heap.size) (v : Value) (bs : List Nat) (hs : a.eval s = v) (hown : OB w base v bs)
    (A : Option Addr) (m c : Nat) (cs : List Nat) (B : Nat) (hx : a.eval x = .slice A m c) (hm : cs.length = m) (hA : A = none → cs = [] ∧ c = 0) (hr : RB w B A cs) (hlen : bs.length + cs.length ≤ 140737488351232)
    (h : ∀ v' w', OB w' base v' (bs ++ cs) → w.grownBy w' v.ownBlock → wpList Tryd.prog ops Q rest (a.put o.dst v') w') : wpList Tryd.prog ops Q (o :: rest) a w := by
  obtain ⟨i0, hi, hz0, hz1, hz2⟩ := info_parts info_u8
  subst hm
  cases A with
  | none =>
    obtain ⟨rfl, rfl⟩ := hA rfl
    refine wpList_append_own_none hgd s x 27 ho base 5 i0 1 Tryd.underlying27 hi v bs.length (bs.map bv) hs hown.2 hx ?_
    refine h v w (by rw [List.append_nil]; exact hown) ⟨rfl, rfl, rfl, Nat.le_refl _, fun _ _ _ => rfl⟩
  | some ad =>
    refine wpList_append_own w hgd s x 27 ho base 5 i0 (.int .u8 0) 1 1 Tryd.underlying27 hi hz0 hz1 hz2 rfl (by decide) v bs.length (bs.map bv) hs hown.2 ad cs.length c (cs.map bv) hx (by simp) ?_ ?_ (by unfold maxLen; omega) (by omega) hbase ?_
    · intro j u hu
      rw [List.getElem?_map] at hu
      rcases Nat.lt_or_ge j cs.length with hj | hj
      · obtain ⟨ad', e, _, hc⟩ := hr.2 (by omega)
        cases e
        rw [hc j hj]
        rw [List.getElem?_eq_getElem hj] at hu
        exact hu
      · rw [List.getElem?_eq_none hj] at hu; cases hu
    · intro u hu
      obtain ⟨y, _, rfl⟩ := List.mem_map.1 hu
      rfl
    · intro v' w' hown' hg _
      exact h v' w' ⟨fun y hy => by rcases List.mem_append.1 hy with hy | hy; exact hown.1 y hy; exact hr.1 y hy, by rw [List.length_append, List.map_append]; exact hown'⟩ hg
theorem wpList_appBw {w : World} {ops : Array Oper} {rest : List Oper} {o : Oper} {a : Act} {Q : Exit → Act → World → Prop} (hw : Region.wanted o (yielded ops a.tmps) = true) (s x : Operand)
    (ho : o.op = .call { callee := .builtin .append, args := #[s, x], argTypes := #[27, 27] }) (base : Nat) (hbase : base ≤ w.heap.size) (v : Value) (bs : List Nat) (hs : a.eval s = v) (hown : OB w base v bs)
    (A : Option Addr) (m c : Nat) (cs : List Nat) (B : Nat) (hx : a.eval x = .slice A m c) (hm : cs.length = m) (hA : A = none → cs = [] ∧ c = 0) (hr : RB w B A cs) (hlen : bs.length + cs.length ≤ 140737488351232)
    (h : ∀ v' w', OB w' base v' (bs ++ cs) → w.grownBy w' v.ownBlock → wpList Tryd.prog ops Q rest (a.put o.dst v') w') : wpList Tryd.prog ops Q (o :: rest) a w := by
  obtain ⟨i0, hi, hz0, hz1, hz2⟩ := info_parts info_u8
  subst hm
  cases A with
  | none =>
    obtain ⟨rfl, rfl⟩ := hA rfl
    have hrun := run_append_owned_none (P := Tryd.prog) (w := w) base 27 o.type 5 i0 1 Tryd.underlying27 hi v bs.length (bs.map bv) hown.2
    refine wpList_step fun K hK => ?_
    rw [if_pos hw]
    unfold Oper.wp
    simp [execOp, ho, resolve, invoke, builtin, hs, hx, hrun, Result.andThen]
    refine hK _ _ (h v w (by rw [List.append_nil]; exact hown) ⟨rfl, rfl, rfl, Nat.le_refl _, fun _ _ _ => rfl⟩)
  | some ad =>
    refine wpList_step fun K hK => ?_
    rw [if_pos hw]
    refine wp_append_own w s x 27 ho base 5 i0 (.int .u8 0) 1 1 Tryd.underlying27 hi hz0 hz1 hz2 rfl (by decide) v bs.length (bs.map bv) hs hown.2 ad cs.length c (cs.map bv) hx (by simp) ?_ ?_ (by unfold maxLen; omega) (by omega) hbase ?_
    · intro j u hu
      rw [List.getElem?_map] at hu
      rcases Nat.lt_or_ge j cs.length with hj | hj
      · obtain ⟨ad', e, _, hc⟩ := hr.2 (by omega)
        cases e
        rw [hc j hj]
        rw [List.getElem?_eq_getElem hj] at hu
        exact hu
      · rw [List.getElem?_eq_none hj] at hu; cases hu
    · intro u hu
      obtain ⟨y, _, rfl⟩ := List.mem_map.1 hu
      rfl
    · intro v' w' hown' hg _
      exact hK _ _ (h v' w' ⟨fun y hy => by rcases List.mem_append.1 hy with hy | hy; exact hown.1 y hy; exact hr.1 y hy, by rw [List.length_append, List.map_append]; exact hown'⟩ hg)
theorem OB.below {w w' : World} {base B : Nat} {v : Value} {bs : List Nat} {W : World} (h : OB w base v bs) (hg : w.grownBy w' v.ownBlock) (hb : Below B W w) (hB : B ≤ base) (hbase : B ≤ w.heap.size) : Below B W w' :=
  hb.grown hg hbase fun k hk => Nat.le_trans hB (h.block k hk).1
theorem OB.apart {w w' : World} {base b : Nat} {v v' : Value} {bs bs' : List Nat} (h : OB w base v bs) (h' : OB w' b v' bs') (hb : w.heap.size ≤ b) : v.ownBlock = none ∨ v.ownBlock ≠ v'.ownBlock := by
  cases e : v.ownBlock with
  | none => exact .inl rfl
  | some k =>
    right
    intro e2
    have h1 := h.block k e
    have h2 := h'.block k e2.symm
    omega
theorem OB.mono {w : World} {base base' : Nat} {v : Value} {bs : List Nat} (h : OB w base v bs) (hb : base' ≤ base) : OB w base' v bs := by
  obtain ⟨h1, h2, h3 | ⟨g, cap, cur, e, hg, hr⟩⟩ := h
  · exact ⟨h1, h2, .inl h3⟩
  · exact ⟨h1, h2, .inr ⟨g, cap, cur, e, Nat.le_trans hb hg, hr⟩⟩
theorem OB.next {w w' : World} {base : Nat} {v : Value} {bs : List Nat} (h : OB w base v bs) (q : Below w.heap.size w w') : OB w' base v bs :=
  h.kept (row := none) ⟨q.os, q.tape, q.output, q.size, fun k hk _ => q.block k hk⟩ (by cases v.ownBlock <;> simp)
/-- The text as a string of the program's. -/
def strN (l : List Nat) : ByteArray := ⟨(l.map fun x => UInt8.ofNat x).toArray⟩
theorem strN_size (a : List Nat) : (strN a).size = a.length := by simp [strN, ByteArray.size]
theorem strN_app (a b : List Nat) : strN a ++ strN b = strN (a ++ b) := by
  have : (strN a ++ strN b).data = (strN (a ++ b)).data := by
    rw [ByteArray.data_append]; simp [strN]
  cases h1 : strN a ++ strN b; cases h2 : strN (a ++ b); rw [h1, h2] at this; simpa using this
theorem strN_get {L : List Nat} (hb : ∀ x ∈ L, x < 256) (k : Nat) (hk : k < L.length) (hk' : k < (strN L).size) : ((strN L)[k].toNat : Int) = ((L[k] : Nat) : Int) := by
  have e : (strN L)[k] = UInt8.ofNat L[k] := by
    show (strN L).data[k] = _
    simp [strN]
  rw [e, UInt8.toNat_ofNat', Nat.mod_eq_of_lt (show L[k] < 2 ^ 8 from hb _ (List.getElem_mem hk))]
/-- []byte of a string: where the bytes lie. -/
theorem conv_run (W : World) (L : List Nat) (hb : ∀ x ∈ L, x < 256) :
    ∃ (c : Nat) (C : Array Value) (f : Nat × Nat), (convert 9 27 (.string (strN L))).run Tryd.prog W = .ok (.slice (some ⟨W.heap.size, 0, none⟩) L.length c) ((W.alloc (.cells C 5 f)).drew) ∧ L.length ≤ c ∧
      RB ((W.alloc (.cells C 5 f)).drew) (W.heap.size + 1) (some ⟨W.heap.size, 0, none⟩) L := by
  have h := run_bytes_of_string (P := Tryd.prog) W 9 27 5 (strN L) Tryd.underlying9 Tryd.underlying27 Tryd.underlying5
  rw [strN_size] at h
  refine ⟨_, _, _, h, grownCap_ge _ _ _ _, ?_⟩
  refine rb_of hb (by omega) fun j hj => ?_
  rw [World.cell?_drew, World.cell?_alloc_mark]
  have hj2 : j < (strN L).data.size := by simpa [strN] using hj
  rw [bytesRow_at _ _ _ hj2]
  exact congrArg (fun x => some (Value.int .u8 x)) (strN_get hb j hj hj2)
end Go.Proofs.YtanbplnagcmlcaaDoor

/- Bytes out of a string: appending to them. -/
namespace Go.Proofs.YtanbplnagcmlcaaDoor
open Go.RowKit
/-- A row of bytes at the head of block b, with spare room up to c. -/
structure SB (w : World) (b c : Nat) (L : List Nat) : Prop where
  rb : RB w (b + 1) (some ⟨b, 0, none⟩) L
  le : L.length ≤ c
  spare : ∀ j, L.length ≤ j → j < c → (w.cell? ⟨b, j, none⟩).isSome = true ∧ w.frozen? ⟨b, j, none⟩ = false
  lt : b < w.heap.size
theorem SB.below {w w' : World} {b c : Nat} {L : List Nat} (h : SB w b c L) (q : Below w.heap.size w w') : SB w' b c L := by
  have hl := h.lt
  have hs := q.size
  exact ⟨h.rb.below (q.mono (by omega)), h.le, fun j h1 h2 => by
    have := h.spare j h1 h2
    rw [q.cell (p := ⟨b, j, none⟩) hl, q.frozen (p := ⟨b, j, none⟩) hl]; exact this, by omega⟩
theorem conv_run2 (W : World) (L : List Nat) (hb : ∀ x ∈ L, x < 256) :
    ∃ (c : Nat) (C : Array Value) (f : Nat × Nat), (convert 9 27 (.string (strN L))).run Tryd.prog W = .ok (.slice (some ⟨W.heap.size, 0, none⟩) L.length c) ((W.alloc (.cells C 5 f)).drew) ∧
      SB ((W.alloc (.cells C 5 f)).drew) W.heap.size c L := by
  have h := run_bytes_of_string (P := Tryd.prog) W 9 27 5 (strN L) Tryd.underlying9 Tryd.underlying27 Tryd.underlying5
  rw [strN_size] at h
  have hge : L.length ≤ grownCap W L.length 0 5 := grownCap_ge _ _ _ _
  have hsz : (bytesRow (strN L) (grownCap W L.length 0 5)).size = grownCap W L.length 0 5 := by
    unfold bytesRow; simp [strN, ByteArray.size]; omega
  refine ⟨_, _, _, h, ?_, hge, ?_, by simp⟩
  · refine rb_of hb (by omega) fun j hj => ?_
    rw [World.cell?_drew, World.cell?_alloc_mark]
    have hj2 : j < (strN L).data.size := by simpa [strN] using hj
    rw [bytesRow_at _ _ _ hj2]
    exact congrArg (fun x => some (Value.int .u8 x)) (strN_get hb j hj hj2)
  · intro j _ hj
    constructor
    · rw [World.cell?_drew, World.cell?_alloc_mark, Array.getElem?_eq_getElem (by rw [hsz]; exact hj)]; rfl
    · have : (W.alloc (.cells (bytesRow (strN L) (grownCap W L.length 0 5)) 5 ((bytesRow (strN L) (grownCap W L.length 0 5)).size, (bytesRow (strN L) (grownCap W L.length 0 5)).size + 1))).frozen? ⟨W.heap.size, j, none⟩ = false := by
        unfold World.frozen?
        rw [heap_alloc_new]
        simp only [hsz]
        simp; omega
      exact this
theorem wpList_appC {w : World} {ops : Array Oper} {rest : List Oper} {o : Oper} {a : Act} {Q : Exit → Act → World → Prop} (hgd : o.guard = none) (s x : Operand)
    (ho : o.op = .call { callee := .builtin .append, args := #[s, x], argTypes := #[27, 27] }) (B b c : Nat) (L cs : List Nat) (W : World) (hB : B ≤ b) (hs : a.eval s = .slice (some ⟨b, 0, none⟩) L.length c) (hsb : SB w b c L) (hbel : Below B W w)
    (ad : Addr) (m c' : Nat) (B' : Nat) (hx : a.eval x = .slice (some ad) m c') (hm : cs.length = m) (hr : RB w B' (some ad) cs) (hlen : L.length + cs.length ≤ 140737488351232)
    (h : ∀ (A' : Option Addr) (d : Nat) (w' : World), L.length + m ≤ d → RB w' w'.heap.size A' (L ++ cs) → Below B W w' → wpList Tryd.prog ops Q rest (a.put o.dst (.slice A' (L.length + m) d)) w') : wpList Tryd.prog ops Q (o :: rest) a w := by
  obtain ⟨i0, hi, hz0, hz1, hz2⟩ := info_parts info_u8
  subst hm
  have hlt := hsb.lt
  have hcell : ∀ j (hj : j < L.length), w.cell? ⟨b, j, none⟩ = some (.int .u8 ((L[j] : Nat) : Int)) := by
    intro j hj
    obtain ⟨ad', e, _, hc⟩ := hsb.rb.2 (by omega)
    cases e
    have := hc j hj
    rwa [show (⟨b, 0, none⟩ : Addr).add j = ⟨b, j, none⟩ by unfold Addr.add; split <;> simp_all] at this
  have hbytes : ∀ y ∈ L ++ cs, y < 256 := fun y hy => by
    rcases List.mem_append.1 hy with hy | hy
    · exact hsb.rb.1 y hy
    · exact hr.1 y hy
  refine wpList_append_arg w hgd s x 27 ho 5 i0 (.int .u8 0) 1 1 Tryd.underlying27 hi hz0 hz1 hz2 rfl (by decide) b 0 L.length c (L.map bv) hs (by simp) ?_ ad cs.length c' (cs.map bv) hx (by simp) ?_ ?_ ?_ (by unfold maxLen; omega) (by omega) ?_ ?_
  · intro j u hu
    rw [List.getElem?_map] at hu
    rcases Nat.lt_or_ge j L.length with hj | hj
    · rw [List.getElem?_eq_getElem hj] at hu
      rw [Nat.zero_add, hcell j hj]; exact hu
    · rw [List.getElem?_eq_none hj] at hu; cases hu
  · intro j u hu
    rw [List.getElem?_map] at hu
    rcases Nat.lt_or_ge j cs.length with hj | hj
    · obtain ⟨ad', e, _, hc⟩ := hr.2 (by omega)
      cases e
      rw [hc j hj]
      rw [List.getElem?_eq_getElem hj] at hu
      exact hu
    · rw [List.getElem?_eq_none hj] at hu; cases hu
  · intro u hu
    obtain ⟨y, _, rfl⟩ := List.mem_map.1 hu
    rfl
  · intro hroom j hj
    rw [List.length_map] at hj
    have := hsb.spare (L.length + j) (by omega) (by omega)
    simpa [Nat.zero_add, Nat.mul_one] using this
  · intro hroom
    refine h (some ⟨b, 0, none⟩) c _ hroom (rb_of hbytes ?_ fun j hj => ?_) ?_
    · have : ∀ (vs : List Value) (k : Nat) (w : World), (w.setCells b k vs).heap.size = w.heap.size := by
        intro vs
        induction vs with
        | nil => intro k w; rfl
        | cons v vs ih => intro k w; rw [World.setCells, ih, World.size_setCell]
      rw [this]; exact hlt
    · rw [List.length_append] at hj
      rcases Nat.lt_or_ge j L.length with hjl | hjl
      · rw [World.cell?_setCells_out b _ _ _ _ (by intro _ _; left; simp; omega), hcell j hjl, List.getElem_append_left hjl]
      · have := World.cell?_setCells_in b (cs.map bv) (0 + L.length * 1) w (by
          intro i hi
          rw [List.length_map] at hi
          have := (hsb.spare (L.length + i) (by omega) (by omega)).1
          simpa [Nat.zero_add, Nat.mul_one] using this) (j - L.length) (by rw [List.length_map]; omega)
        rw [show 0 + L.length * 1 + (j - L.length) = j by omega] at this
        rw [this, List.getElem_append_right hjl, List.getElem_map]; rfl
    · have : ∀ (vs : List Value) (k : Nat) (w : World), Below B W w → Below B W (w.setCells b k vs) := by
        intro vs
        induction vs with
        | nil => intro k w hw; exact hw
        | cons v vs ih => intro k w hw; rw [World.setCells]; exact ih _ _ (hw.setCell hB _)
      exact this _ _ _ hbel
  · intro _ v' w' hown' hg
    have hob : OB w' w.heap.size v' (L ++ cs) := ⟨hbytes, by rw [List.length_append, List.map_append]; exact hown'⟩
    obtain ⟨A', d, e, h1, h2, _⟩ := hob.slice
    rw [e, List.length_append]
    rw [List.length_append] at h1
    exact h A' d w' h1 h2 (hbel.grown hg (by omega) (fun k hk => by cases hk))
end Go.Proofs.YtanbplnagcmlcaaDoor

/- errors.Is between the program's error numbers; fieldfarelaw01.Code. -/
namespace Go.Proofs.YtanbplnagcmlcaaDoor
open Go.RowKit Go.Extern.Stop Go.Stop Go.Extern
theorem isTypeOf (v : Value) (w : World) : (Extern.ReflectliteType.typeOf #[.iface 43 v]).run Tryd.prog w = .ok (.iface 83 (.agg #[.pointer (some ⟨4, 43, none⟩)])) w := by kernel_rfl
theorem isComp : (Tryd.prog.info? 43).map (·.comparable) = some true := by kernel_rfl
theorem noIs (v : Value) (xT : TypeId) (w : World) : (Instr.typeAssert (.iface 43 v) xT 85 true).run Tryd.prog w = .ok (.tuple #[.nilIface, .bool false]) w := run_typeAssert_lacksB Tryd.underlying85 (by kernel_rfl) (by kernel_rfl) v xT w
theorem noUnwrap (v : Value) (xT : TypeId) (w : World) : (Instr.typeAssert (.iface 43 v) xT 88 true).run Tryd.prog w = .ok (.tuple #[.nilIface, .bool false]) w := run_typeAssert_lacksB Tryd.underlying88 (by kernel_rfl) (by kernel_rfl) v xT w
theorem noUnwraps (v : Value) (xT : TypeId) (w : World) : (Instr.typeAssert (.iface 43 v) xT 90 true).run Tryd.prog w = .ok (.tuple #[.nilIface, .bool false]) w := run_typeAssert_lacksB Tryd.underlying90 (by kernel_rfl) (by kernel_rfl) v xT w
set_option maxRecDepth 100000 in
set_option maxHeartbeats 400000 in
theorem is_errno (a b : Int) (w : World) :
    Calls Tryd.prog 19 #[.iface 43 (.int .i64 a), .iface 43 (.int .i64 b)] w fun e w' => e = .returned (.bool (a == b)) ∧ w = w' := by
  have h8 := @run_callFunc_extern Tryd.prog 28 _ Extern.ReflectliteType.typeOf Tryd.func28 (by kernel_rfl) (by kernel_rfl) (by kernel_rfl) (by kernel_rfl)
  have h32 := @run_callFunc_extern Tryd.prog 81 _ (Extern.ReflectliteType.method fun t => do Rtype.noPackHeld "Comparable" t; pure (.bool (← typeInfo t).comparable)) Tryd.func81 (by kernel_rfl) (by kernel_rfl) (by kernel_rfl) (by kernel_rfl)
  have tT := isTypeOf
  have cT : ∀ W, (callFunc 81 #[.agg #[.pointer (some ⟨4, 43, none⟩)]]).run Tryd.prog W = .ok (.value (.bool true)) W := fun W => by rw [h32]; kernel_rfl
  clear h32
  have nE := noIs
  have uE := noUnwrap
  have vE := noUnwraps
  have heq := Lib.run_eql_iface_int (P := Tryd.prog) (t := 24) (tx := 43) (k := .i64) w a b Tryd.underlying24 isComp Tryd.underlying43
  cases hab : (a == b)
  · rw [hab] at heq
    go_enter Tryd.func19, Tryd.ntmps19
    go_wp2
    refine wp_loop_rounds 1 ?_
    rw [rounds_succ]
    go_wp2
    go_ret
    exact ⟨rfl, rfl⟩
  · rw [hab] at heq
    go_enter Tryd.func19, Tryd.ntmps19
    go_wp2
    refine wp_loop_rounds 1 ?_
    rw [rounds_succ]
    go_wp2
    go_ret
    exact ⟨rfl, rfl⟩
set_option maxRecDepth 100000 in
set_option maxHeartbeats 400000 in
theorem code_nil (w : World) :
    Calls Tryd.prog 8 #[.nilIface] w fun e w' => e = .returned (.int .i64 0) ∧ w = w' := by
  go_enter Tryd.func8, Tryd.ntmps8
  go_wp2_with fail
  go_ret
  exact ⟨rfl, rfl⟩
set_option maxRecDepth 100000 in
set_option maxHeartbeats 400000 in
theorem code_errno (k : Int) (h1 : 1 ≤ k) (h2 : k ≤ 25) (w : World) :
    Calls Tryd.prog 8 #[.iface 43 (.int .i64 k)] w fun e w' => e = .returned (.int .i64 k) ∧ w = w' := by
  go_enter Tryd.func8, Tryd.ntmps8
  go_wp2_with fail
  go_loop [3] (fun i => ∃ n : Int, 1 ≤ n ∧ n ≤ k ∧ i = .int .i64 n) (fun i => (k - intOf i).toNat)
  case atStart => exact ⟨1, by omega, h1, rfl⟩
  case round =>
    obtain ⟨n, hn1, hn2, rfl⟩ := hrel
    by_cases he : n = k
    · subst he
      have hb : (n == n) = true := by simp
      go_wp2_with (go_at_call 19; refine (is_errno _ _ _).mono ?_; rintro e w' ⟨rfl, rfl⟩)
      go_ret
      exact ⟨rfl, rfl⟩
    · have hb : (k == n) = false := by rw [beq_eq_false_iff_ne]; omega
      have hlt : n < k := by omega
      clear he
      go_wp2_with (go_at_call 19; refine (is_errno _ _ _).mono ?_; rintro e w' ⟨rfl, rfl⟩)
      go_round
      case rel => exact ⟨n + 1, by omega, by omega, rfl⟩
      case measure => simp [intOf]; omega
end Go.Proofs.YtanbplnagcmlcaaDoor
