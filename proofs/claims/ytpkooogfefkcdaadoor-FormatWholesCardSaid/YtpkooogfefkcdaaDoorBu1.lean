/- Several texts put together: Kit, NumA, Byt, FmtA, Bits, NumD, NumH, Byc, Errs. -/
import Derived.Test.YtpkooogfefkcdaaDoorProg
import Derived.WalkKit
import Derived.WalkSpells
import Derived.WalkLawsBesides
import Derived.BigQuiet
import Derived.Deep.QuietTactic
import Derived.StillTailTactics
import Derived.Deep.RegionHeld3
import Derived.Deep.RegionWith
import Derived.Deep.DeepCutAuto
import Derived.Deep.DeepFit
import Derived.Deep.CutBlock
import Derived.Deep.LoopGhost
import Derived.Lib.Hide
import Derived.Handy
import Derived.RowKit3
import Derived.Laws.OwnMore
import Derived.Deep.AppendLies
import Derived.Deep.Draws
import Derived.Laws.AppendOwnNone
import Derived.Below
import Derived.Laws.IdiomStrings
import Derived.Lib.SlBytesConst
import Derived.Test.YtpkooogfefkcdaaDoorShelf
import Derived.Shelf.Spec.BitsCarry
import Derived.ArgAppend
import Derived.Lib.IfaceEq
import Derived.LaidEql
import Derived.Stop.Asserts
import Derived.RowKitTokens
/- What all texts of this seat import: the walk's tactics and laws. -/
namespace Go.Proofs.YtpkooogfefkcdaaDoor
open Go.RowKit

theorem below_drewN {B : Nat} {a w : World} (h : Below B a w) (n : Nat) : Below B a (w.drewN n) := ⟨h.os, h.tape, h.output, h.size, h.block⟩
theorem bcell {W w1 : World} (hb : Below W.heap.size W w1) : (∀ b o, b < W.heap.size → w1.cell? ⟨b, o, none⟩ = W.cell? ⟨b, o, none⟩) ∧ (∀ b o, b < W.heap.size → w1.frozen? ⟨b, o, none⟩ = W.frozen? ⟨b, o, none⟩) :=
  ⟨fun b o h => hb.cell (p := ⟨b, o, none⟩) h, fun b o h => hb.frozen (p := ⟨b, o, none⟩) h⟩
/-- A word. -/
def Wd (x : Int) : Prop := 0 ≤ x ∧ x < 18446744073709551616
theorem Wd.zero : Wd 0 := ⟨by decide, by decide⟩
/-- A whole number of four limbs. -/
def lim4 (a b c d : Int) : Int := a + b * 18446744073709551616 + c * 340282366920938463463374607431768211456 + d * 6277101735386680763835789423207666416102355444464034512896
/-- No magnitude is this or more. -/
def LIM : Int := 1000000000000000000000000000000000000
/-- The sign and the words of a number of millionths. -/
def zn (z : Int) : Bool := decide (z < 0)
def zh (z : Int) : Int := (z.natAbs : Int) / 18446744073709551616
def zl (z : Int) : Int := (z.natAbs : Int) % 18446744073709551616
/-- A right number's sign and words, and what it is in millionths. -/
def IsD (n : Bool) (h l z : Int) : Prop := Wd h ∧ Wd l ∧ h * 18446744073709551616 + l = z.natAbs ∧ n = decide (z < 0) ∧ z.natAbs < LIM
theorem IsD.words {n : Bool} {h l z : Int} (i : IsD n h l z) : Wd h ∧ Wd l := ⟨i.1, i.2.1⟩
theorem IsD.of {z : Int} (h : z.natAbs < LIM) : IsD (zn z) (zh z) (zl z) z := by
  unfold LIM at h
  refine ⟨⟨?_, ?_⟩, ⟨?_, ?_⟩, ?_, rfl, h⟩ <;> (try unfold zh) <;> (try unfold zl) <;> omega
theorem IsD.eq {n : Bool} {h l z : Int} (i : IsD n h l z) : n = zn z ∧ h = zh z ∧ l = zl z := by
  obtain ⟨⟨a, b⟩, ⟨c, d⟩, e, f, g⟩ := i
  refine ⟨f, ?_, ?_⟩
  · unfold zh; omega
  · unfold zl; omega
end Go.Proofs.YtpkooogfefkcdaaDoor

/- numeral.blank, numeral.digits, fieldfareref02.Blank; slices of bytes. -/
namespace Go.Proofs.YtpkooogfefkcdaaDoor
open Go.RowKit
theorem block_of_add (a : Addr) (n : Nat) : (a.add n).block = a.block := by unfold Addr.add; split <;> rfl
theorem add_of_add (a : Addr) (i j : Nat) : (a.add i).add j = a.add (i + j) := by
  unfold Addr.add
  by_cases hi : i = 0 <;> by_cases hj : j = 0 <;> simp [hi, hj, Nat.add_assoc]
/-- A slice of bytes reads as a list, below block B. -/
def RB (w : World) (B : Nat) (A : Option Addr) (bs : List Nat) : Prop :=
  (∀ x ∈ bs, x < 256) ∧ (0 < bs.length → ∃ ad, A = some ad ∧ ad.block < B ∧ ∀ j (h : j < bs.length), w.cell? (ad.add j) = some (.int .u8 ((bs[j] : Nat) : Int)))
section
variable {w w' : World} {B B' : Nat} {A : Option Addr} {bs : List Nat}
theorem RB.keep (h : RB w B A bs) (hk : ∀ p : Addr, p.block < B → w'.cell? p = w.cell? p) : RB w' B A bs :=
  ⟨h.1, fun hn => by
    obtain ⟨ad, e, hb, hc⟩ := h.2 hn
    exact ⟨ad, e, hb, fun j hj => (hk _ (by rw [block_of_add]; exact hb)).trans (hc j hj)⟩⟩
theorem RB.below (h : RB w B A bs) (hb : Below B w w') : RB w' B A bs := h.keep fun _ hp => hb.cell hp
theorem RB.more (h : RB w B A bs) (hB : B ≤ B') : RB w B' A bs :=
  ⟨h.1, fun hn => by
    obtain ⟨ad, e, hb, hc⟩ := h.2 hn
    exact ⟨ad, e, by omega, hc⟩⟩
theorem RB.cut (h : RB w B A bs) {k cap : Nat} (hc : bs.length ≤ cap) : RB w B (if cap = k then A else A.map (·.add k)) (bs.drop k) := by
  refine ⟨fun x hx => h.1 x (List.mem_of_mem_drop hx), fun hn => ?_⟩
  rw [List.length_drop] at hn
  obtain ⟨ad, rfl, hb, hcell⟩ := h.2 (by omega)
  rw [if_neg (by omega)]
  refine ⟨ad.add k, rfl, by rw [block_of_add]; exact hb, fun j hj => ?_⟩
  rw [List.length_drop] at hj
  rw [add_of_add, List.getElem_drop]
  exact hcell (k + j) (by omega)
theorem RB.take (h : RB w B A bs) (k : Nat) : RB w B A (bs.take k) := by
  refine ⟨fun x hx => h.1 x (List.mem_of_mem_take hx), fun hn => ?_⟩
  rw [List.length_take] at hn
  obtain ⟨ad, e, hb, hcell⟩ := h.2 (by omega)
  refine ⟨ad, e, hb, fun j hj => ?_⟩
  rw [List.length_take] at hj
  rw [List.getElem_take]
  exact hcell j (by omega)
theorem RB.nil : RB w B A [] := ⟨by simp, by simp⟩
end
/-- A blank; a digit. -/
def blankB (c : Nat) : Bool := (decide (9 ≤ c) && decide (c ≤ 13)) || decide (c = 32)
def digB (c : Nat) : Bool := decide (48 ≤ c) && decide (c ≤ 57)
/-- How many of the first ones there are. -/
def span (p : Nat → Bool) : List Nat → Nat
  | [] => 0
  | c :: l => if p c then span p l + 1 else 0
theorem span_le (p : Nat → Bool) (l : List Nat) : span p l ≤ l.length := by
  induction l with
  | nil => simp [span]
  | cons c l ih => simp only [span]; split <;> simp <;> omega
theorem span_stop (p : Nat → Bool) (l : List Nat) (h : span p l < l.length) : p (l[span p l]) = false := by
  induction l with
  | nil => simp at h
  | cons c l ih =>
    by_cases hc : p c = true
    · simp only [span, hc, if_true] at h ⊢
      simp only [List.getElem_cons_succ]
      exact ih (by simp at h; omega)
    · simp only [span, hc, Bool.false_eq_true, if_false] at h ⊢
      simpa using hc
theorem span_all (p : Nat → Bool) (l : List Nat) (j : Nat) (h : j < span p l) (hj : j < l.length) : p l[j] = true := by
  induction l generalizing j with
  | nil => simp at hj
  | cons c l ih =>
    by_cases hc : p c = true
    · cases j with
      | zero => simpa using hc
      | succ j =>
        simp only [span, hc, if_true] at h
        simp only [List.getElem_cons_succ]
        exact ih j (by omega) (by simp at hj; omega)
    · simp [span, hc] at h
theorem span_eq (p : Nat → Bool) (l : List Nat) (k : Nat) (hk : k ≤ l.length) (h : ∀ j (hj : j < l.length), j < k → p l[j] = true) (hs : ∀ hj : k < l.length, p l[k] = false) : span p l = k := by
  have a := span_le p l
  rcases Nat.lt_trichotomy (span p l) k with hlt | heq | hgt
  · have := span_stop p l (by omega)
    rw [h _ (by omega) hlt] at this; cases this
  · exact heq
  · have := span_all p l k hgt (by omega)
    rw [hs (by omega)] at this; cases this
set_option maxRecDepth 100000 in
set_option maxHeartbeats 400000 in
theorem blank_any (c : Nat) (w : World) :
    Calls Tryd.prog 35 #[.int .u8 (c : Int)] w fun e w' => e = .returned (.bool (blankB c)) ∧ w = w' := by
  have hg : blankB c = ((decide (9 ≤ c) && decide (c ≤ 13)) || decide (c = 32)) := rfl
  by_cases h1 : c < 9
  · have e1 : blankB c = false := by rw [hg]; simp; omega
    have h4 : ((c : Int) == 32) = false := by rw [beq_eq_false_iff_ne]; omega
    rw [e1]; clear hg e1
    go_enter Tryd.func35, Tryd.ntmps35
    go_wp2
    go_ret
    exact ⟨rfl, rfl⟩
  · by_cases h2 : c ≤ 13
    · have e1 : blankB c = true := by rw [hg]; simp; omega
      have h5 : decide ((c : Int) ≤ 13) = true := by rw [decide_eq_true_eq]; omega
      rw [e1]; clear hg e1
      go_enter Tryd.func35, Tryd.ntmps35
      go_wp2
      go_ret
      exact ⟨rfl, rfl⟩
    · by_cases h3 : c = 32
      · subst h3
        go_enter Tryd.func35, Tryd.ntmps35
        go_wp2
        go_ret
        exact ⟨rfl, rfl⟩
      · have e1 : blankB c = false := by rw [hg]; simp; omega
        have h4 : ((c : Int) == 32) = false := by rw [beq_eq_false_iff_ne]; omega
        have h5 : decide ((c : Int) ≤ 13) = false := by rw [decide_eq_false_iff_not]; omega
        rw [e1]; clear hg e1 h3
        go_enter Tryd.func35, Tryd.ntmps35
        go_wp2
        go_ret
        exact ⟨rfl, rfl⟩
end Go.Proofs.YtpkooogfefkcdaaDoor

/- Bytes that a call has made: appending to them. -/
namespace Go.Proofs.YtpkooogfefkcdaaDoor
open Go.RowKit
theorem rb_of {w : World} {B b : Nat} {bs : List Nat} (hb : ∀ x ∈ bs, x < 256) (h : b < B) (hc : ∀ j (h : j < bs.length), w.cell? ⟨b, j, none⟩ = some (.int .u8 ((bs[j] : Nat) : Int))) : RB w B (some ⟨b, 0, none⟩) bs := by
  refine ⟨hb, fun _ => ⟨_, rfl, h, fun j hj => ?_⟩⟩
  have : (⟨b, 0, none⟩ : Addr).add j = ⟨b, j, none⟩ := by unfold Addr.add; split <;> simp_all
  rw [this]; exact hc j hj
def nums (bs : List Nat) : Array Value := (bs.map fun x => Value.int .u8 ((x : Nat) : Int)).toArray
theorem rb_row (w : World) (bs : List Nat) (hb : ∀ x ∈ bs, x < 256) (t : TypeId) (f : Nat × Nat) : RB (w.alloc (.cells (nums bs) t f)) (w.heap.size + 1) (some ⟨w.heap.size, 0, none⟩) bs := by
  refine rb_of hb (by omega) fun j hj => ?_
  rw [World.cell?_alloc_mark]
  simp [nums, hj]
def bv (x : Nat) : Value := .int .u8 (x : Int)
/-- The value v is a slice that owns its row, which holds bytes. -/
def OB (w : World) (base : Nat) (v : Value) (bs : List Nat) : Prop := (∀ x ∈ bs, x < 256) ∧ w.ownsRow base 5 1 v bs.length (bs.map bv)
theorem OB.slice {w : World} {base : Nat} {v : Value} {bs : List Nat} (h : OB w base v bs) :
    ∃ (A : Option Addr) (c : Nat), v = .slice A bs.length c ∧ bs.length ≤ c ∧ RB w w.heap.size A bs ∧ (A = none → bs = [] ∧ c = 0) := by
  obtain ⟨hb, hl, h | ⟨g, cap, cur, hv, hg, hh, hn, hm, hs, ht⟩⟩ := h
  · obtain ⟨rfl, h0⟩ := h
    refine ⟨none, 0, by rw [h0], by omega, ?_, fun _ => ⟨List.length_eq_zero_iff.1 h0, rfl⟩⟩
    rw [List.length_eq_zero_iff.1 h0]; exact RB.nil
  · refine ⟨some ⟨g, 0, none⟩, cap, hv, hn, ?_, fun e => by cases e⟩
    have hlt : g < w.heap.size := by
      rcases Nat.lt_or_ge g w.heap.size with h | h
      · exact h
      · rw [Array.getElem?_eq_none h] at hh; cases hh
    refine rb_of hb hlt fun j hj => ?_
    rw [cell_of_row w g j cur 5 (0, 0) hh]
    have : (cur.toList.take (bs.length * 1))[j]? = (bs.map bv)[j]? := by rw [ht]
    rw [List.getElem?_take, if_pos (by omega), List.getElem?_map, List.getElem?_eq_getElem hj] at this
    simpa [bv] using this
theorem OB.kept {w w' : World} {base : Nat} {v : Value} {bs : List Nat} {row : Option Nat} (h : OB w base v bs) (hg : w.grownBy w' row) (hne : v.ownBlock = none ∨ v.ownBlock ≠ row) : OB w' base v bs := ⟨h.1, h.2.kept hg hne⟩
theorem OB.alloc {w : World} {base : Nat} {v : Value} {bs : List Nat} (h : OB w base v bs) (o : Obj) : OB (w.alloc o) base v bs := ⟨h.1, h.2.alloc o⟩
theorem OB.nil (w : World) (base : Nat) : OB w base (.slice none 0 0) [] := ⟨by simp, World.ownsRow_nil _ _ _ _⟩
theorem OB.setCell {w : World} {base : Nat} {v : Value} {bs : List Nat} (h : OB w base v bs) {a : Addr} (ha : a.block < base) (u : Value) : OB (w.setCell a u) base v bs := ⟨h.1, ownsRow_setCell_below h.2 ha u⟩
theorem OB.lit (w : World) (bs : List Nat) {base : Nat} (hb : ∀ x ∈ bs, x < 256) (hB : base ≤ w.heap.size) (hl : bs.length ≤ maxLen) : OB (w.alloc (.cells (nums bs) 5)) base (.slice (some ⟨w.heap.size, 0, none⟩) bs.length bs.length) bs :=
  ⟨hb, World.ownsRow_lit w (nums bs) bs.length hB hl (by simp [nums])⟩
theorem OB.block {w : World} {base : Nat} {v : Value} {bs : List Nat} (h : OB w base v bs) : ∀ k, v.ownBlock = some k → base ≤ k ∧ k < w.heap.size := h.2.lt
theorem info_u8 : (Tryd.prog.info? 5).map (fun i => (i.zero, i.size, i.bytes)) = some (some (.int .u8 0), 1, 1) := by kernel_rfl
/-- append(v, x...) of bytes, to a slice of the call's own. -/
theorem wpList_appB {w : World} {ops : Array Oper} {rest : List Oper} {o : Oper} {a : Act} {Q : Exit → Act → World → Prop} (hgd : o.guard = none) (s x : Operand)
    (ho : o.op = .call { callee := .builtin .append, args := #[s, x], argTypes := #[46, 46] }) (base : Nat) (hbase : base ≤ w.heap.size) (v : Value) (bs : List Nat) (hs : a.eval s = v) (hown : OB w base v bs)
    (A : Option Addr) (m c : Nat) (cs : List Nat) (B : Nat) (hx : a.eval x = .slice A m c) (hm : cs.length = m) (hA : A = none → cs = [] ∧ c = 0) (hr : RB w B A cs) (hlen : bs.length + cs.length ≤ 140737488351232)
    (h : ∀ v' w', OB w' base v' (bs ++ cs) → w.grownBy w' v.ownBlock → wpList Tryd.prog ops Q rest (a.put o.dst v') w') : wpList Tryd.prog ops Q (o :: rest) a w := by
  obtain ⟨i0, hi, hz0, hz1, hz2⟩ := info_parts info_u8
  subst hm
  cases A with
  | none =>
    obtain ⟨rfl, rfl⟩ := hA rfl
    refine wpList_append_own_none hgd s x 46 ho base 5 i0 1 Tryd.underlying46 hi v bs.length (bs.map bv) hs hown.2 hx ?_
    refine h v w (by rw [List.append_nil]; exact hown) ⟨rfl, rfl, rfl, Nat.le_refl _, fun _ _ _ => rfl⟩
  | some ad =>
    refine wpList_append_own w hgd s x 46 ho base 5 i0 (.int .u8 0) 1 1 Tryd.underlying46 hi hz0 hz1 hz2 rfl (by decide) v bs.length (bs.map bv) hs hown.2 ad cs.length c (cs.map bv) hx (by simp) ?_ ?_ (by unfold maxLen; omega) (by omega) hbase ?_
    · intro j u hu
      rw [List.getElem?_map] at hu
      rcases Nat.lt_or_ge j cs.length with hj | hj
      · obtain ⟨ad', e, _, hc⟩ := hr.2 (by omega)
        cases e
        rw [hc j hj]
        rw [List.getElem?_eq_getElem hj] at hu
        exact hu
      · rw [List.getElem?_eq_none hj] at hu; cases hu
    · intro u hu
      obtain ⟨y, _, rfl⟩ := List.mem_map.1 hu
      rfl
    · intro v' w' hown' hg _
      exact h v' w' ⟨fun y hy => by rcases List.mem_append.1 hy with hy | hy; exact hown.1 y hy; exact hr.1 y hy, by rw [List.length_append, List.map_append]; exact hown'⟩ hg
theorem wpList_appBw {w : World} {ops : Array Oper} {rest : List Oper} {o : Oper} {a : Act} {Q : Exit → Act → World → Prop} (hw : Region.wanted o (yielded ops a.tmps) = true) (s x : Operand)
    (ho : o.op = .call { callee := .builtin .append, args := #[s, x], argTypes := #[46, 46] }) (base : Nat) (hbase : base ≤ w.heap.size) (v : Value) (bs : List Nat) (hs : a.eval s = v) (hown : OB w base v bs)
    (A : Option Addr) (m c : Nat) (cs : List Nat) (B : Nat) (hx : a.eval x = .slice A m c) (hm : cs.length = m) (hA : A = none → cs = [] ∧ c = 0) (hr : RB w B A cs) (hlen : bs.length + cs.length ≤ 140737488351232)
    (h : ∀ v' w', OB w' base v' (bs ++ cs) → w.grownBy w' v.ownBlock → wpList Tryd.prog ops Q rest (a.put o.dst v') w') : wpList Tryd.prog ops Q (o :: rest) a w := by
  obtain ⟨i0, hi, hz0, hz1, hz2⟩ := info_parts info_u8
  subst hm
  cases A with
  | none =>
    obtain ⟨rfl, rfl⟩ := hA rfl
    have hrun := run_append_owned_none (P := Tryd.prog) (w := w) base 46 o.type 5 i0 1 Tryd.underlying46 hi v bs.length (bs.map bv) hown.2
    refine wpList_step fun K hK => ?_
    rw [if_pos hw]
    unfold Oper.wp
    simp [execOp, ho, resolve, invoke, builtin, hs, hx, hrun, Result.andThen]
    refine hK _ _ (h v w (by rw [List.append_nil]; exact hown) ⟨rfl, rfl, rfl, Nat.le_refl _, fun _ _ _ => rfl⟩)
  | some ad =>
    refine wpList_step fun K hK => ?_
    rw [if_pos hw]
    refine wp_append_own w s x 46 ho base 5 i0 (.int .u8 0) 1 1 Tryd.underlying46 hi hz0 hz1 hz2 rfl (by decide) v bs.length (bs.map bv) hs hown.2 ad cs.length c (cs.map bv) hx (by simp) ?_ ?_ (by unfold maxLen; omega) (by omega) hbase ?_
    · intro j u hu
      rw [List.getElem?_map] at hu
      rcases Nat.lt_or_ge j cs.length with hj | hj
      · obtain ⟨ad', e, _, hc⟩ := hr.2 (by omega)
        cases e
        rw [hc j hj]
        rw [List.getElem?_eq_getElem hj] at hu
        exact hu
      · rw [List.getElem?_eq_none hj] at hu; cases hu
    · intro u hu
      obtain ⟨y, _, rfl⟩ := List.mem_map.1 hu
      rfl
    · intro v' w' hown' hg _
      exact hK _ _ (h v' w' ⟨fun y hy => by rcases List.mem_append.1 hy with hy | hy; exact hown.1 y hy; exact hr.1 y hy, by rw [List.length_append, List.map_append]; exact hown'⟩ hg)
theorem OB.below {w w' : World} {base B : Nat} {v : Value} {bs : List Nat} {W : World} (h : OB w base v bs) (hg : w.grownBy w' v.ownBlock) (hb : Below B W w) (hB : B ≤ base) (hbase : B ≤ w.heap.size) : Below B W w' :=
  hb.grown hg hbase fun k hk => Nat.le_trans hB (h.block k hk).1
theorem OB.apart {w w' : World} {base b : Nat} {v v' : Value} {bs bs' : List Nat} (h : OB w base v bs) (h' : OB w' b v' bs') (hb : w.heap.size ≤ b) : v.ownBlock = none ∨ v.ownBlock ≠ v'.ownBlock := by
  cases e : v.ownBlock with
  | none => exact .inl rfl
  | some k =>
    right
    intro e2
    have h1 := h.block k e
    have h2 := h'.block k e2.symm
    omega
theorem OB.mono {w : World} {base base' : Nat} {v : Value} {bs : List Nat} (h : OB w base v bs) (hb : base' ≤ base) : OB w base' v bs := by
  obtain ⟨h1, h2, h3 | ⟨g, cap, cur, e, hg, hr⟩⟩ := h
  · exact ⟨h1, h2, .inl h3⟩
  · exact ⟨h1, h2, .inr ⟨g, cap, cur, e, Nat.le_trans hb hg, hr⟩⟩
theorem OB.next {w w' : World} {base : Nat} {v : Value} {bs : List Nat} (h : OB w base v bs) (q : Below w.heap.size w w') : OB w' base v bs :=
  h.kept (row := none) ⟨q.os, q.tape, q.output, q.size, fun k hk _ => q.block k hk⟩ (by cases v.ownBlock <;> simp)
/-- The text as a string of the program's. -/
def strN (l : List Nat) : ByteArray := ⟨(l.map fun x => UInt8.ofNat x).toArray⟩
theorem strN_size (a : List Nat) : (strN a).size = a.length := by simp [strN, ByteArray.size]
theorem strN_app (a b : List Nat) : strN a ++ strN b = strN (a ++ b) := by
  have : (strN a ++ strN b).data = (strN (a ++ b)).data := by
    rw [ByteArray.data_append]; simp [strN]
  cases h1 : strN a ++ strN b; cases h2 : strN (a ++ b); rw [h1, h2] at this; simpa using this
theorem strN_get {L : List Nat} (hb : ∀ x ∈ L, x < 256) (k : Nat) (hk : k < L.length) (hk' : k < (strN L).size) : ((strN L)[k].toNat : Int) = ((L[k] : Nat) : Int) := by
  have e : (strN L)[k] = UInt8.ofNat L[k] := by
    show (strN L).data[k] = _
    simp [strN]
  rw [e, UInt8.toNat_ofNat', Nat.mod_eq_of_lt (show L[k] < 2 ^ 8 from hb _ (List.getElem_mem hk))]
/-- []byte of a string: where the bytes lie. -/
theorem conv_run (W : World) (L : List Nat) (hb : ∀ x ∈ L, x < 256) :
    ∃ (c : Nat) (C : Array Value) (f : Nat × Nat), (convert 9 46 (.string (strN L))).run Tryd.prog W = .ok (.slice (some ⟨W.heap.size, 0, none⟩) L.length c) ((W.alloc (.cells C 5 f)).drew) ∧ L.length ≤ c ∧
      RB ((W.alloc (.cells C 5 f)).drew) (W.heap.size + 1) (some ⟨W.heap.size, 0, none⟩) L := by
  have h := run_bytes_of_string (P := Tryd.prog) W 9 46 5 (strN L) Tryd.underlying9 Tryd.underlying46 Tryd.underlying5
  rw [strN_size] at h
  refine ⟨_, _, _, h, grownCap_ge _ _ _ _, ?_⟩
  refine rb_of hb (by omega) fun j hj => ?_
  rw [World.cell?_drew, World.cell?_alloc_mark]
  have hj2 : j < (strN L).data.size := by simpa [strN] using hj
  rw [bytesRow_at _ _ _ hj2]
  exact congrArg (fun x => some (Value.int .u8 x)) (strN_get hb j hj hj2)
end Go.Proofs.YtpkooogfefkcdaaDoor

/- Layer 8, plain: what stands from a % on, as the code reads it. -/
namespace Go.Proofs.YtpkooogfefkcdaaDoor
open Go.RowKit
/-- Up to k digits: their number, behind n; how many there are. -/
def szD : Nat → List Nat → Nat → Nat × Nat
  | k + 1, c :: r, n => if 48 ≤ c ∧ c ≤ 57 then ((szD k r (n * 10 + (c - 48))).1, (szD k r (n * 10 + (c - 48))).2 + 1) else (n, 0)
  | 0, _, n => (n, 0)
  | _ + 1, [], n => (n, 0)
theorem szD_len : ∀ (k : Nat) (l : List Nat) (n : Nat), (szD k l n).2 ≤ l.length ∧ (szD k l n).2 ≤ k
  | 0, l, n => by cases l <;> simp [szD]
  | k + 1, [], n => by simp [szD]
  | k + 1, c :: r, n => by
    have := szD_len k r (n * 10 + (c - 48))
    unfold szD
    split
    · simp only [List.length_cons]; omega
    · simp
theorem szD_lt : ∀ (k : Nat) (l : List Nat) (n : Nat), (szD k l n).1 < (n + 1) * 10 ^ k
  | 0, l, n => by cases l <;> simp [szD]
  | k + 1, [], n => by
    simp only [szD]
    have : 1 ≤ 10 ^ (k + 1) := Nat.one_le_pow _ _ (by omega)
    calc n < n + 1 := by omega
      _ = (n + 1) * 1 := by omega
      _ ≤ (n + 1) * 10 ^ (k + 1) := Nat.mul_le_mul_left _ this
  | k + 1, c :: r, n => by
    unfold szD
    split
    · rename_i h
      have h1 := szD_lt k r (n * 10 + (c - 48))
      have h2 : (n * 10 + (c - 48) + 1) * 10 ^ k ≤ ((n + 1) * 10) * 10 ^ k := Nat.mul_le_mul_right _ (by omega)
      rw [Nat.pow_succ]
      have e : (n + 1) * (10 ^ k * 10) = ((n + 1) * 10) * 10 ^ k := by rw [Nat.mul_assoc, Nat.mul_comm 10]
      rw [e]
      exact Nat.lt_of_lt_of_le h1 h2
    · have : 1 ≤ 10 ^ (k + 1) := Nat.one_le_pow _ _ (by omega)
      calc n < n + 1 := by omega
        _ = (n + 1) * 1 := by omega
        _ ≤ (n + 1) * 10 ^ (k + 1) := Nat.mul_le_mul_left _ this
/-- A number of up to three digits, or a star; how many bytes. -/
def sizeL (l : List Nat) : Nat × Bool × Nat := match l with
  | 42 :: _ => (0, true, 1)
  | l => ((szD 3 l 0).1, false, (szD 3 l 0).2)
theorem sizeL_star (r : List Nat) : sizeL (42 :: r) = (0, true, 1) := rfl
theorem sizeL_no (l : List Nat) (h : l.head? ≠ some 42) : sizeL l = ((szD 3 l 0).1, false, (szD 3 l 0).2) := by
  unfold sizeL
  split
  · simp at h
  · rfl
theorem sizeL_len (l : List Nat) : (sizeL l).2.2 ≤ l.length ∧ (sizeL l).1 < 1000 := by
  unfold sizeL
  split
  · simp
  · have h1 := szD_len 3 l 0
    have h2 := szD_lt 3 l 0
    exact ⟨h1.1, by simpa using h2⟩
structure FlagsF where
  left : Bool
  zero : Bool
  plus : Bool
  blank : Bool
/-- The flags, and how many bytes. -/
def flagsL : List Nat → FlagsF → FlagsF × Nat
  | 45 :: r, f => ((flagsL r { f with left := true }).1, (flagsL r { f with left := true }).2 + 1)
  | 48 :: r, f => ((flagsL r { f with zero := true }).1, (flagsL r { f with zero := true }).2 + 1)
  | 43 :: r, f => ((flagsL r { f with plus := true }).1, (flagsL r { f with plus := true }).2 + 1)
  | 32 :: r, f => ((flagsL r { f with blank := true }).1, (flagsL r { f with blank := true }).2 + 1)
  | _, f => (f, 0)
structure SpecF where
  fl : FlagsF
  width : Nat
  prec : Int
  sw : Bool
  sp : Bool
  verb : Nat
  len : Nat
def isVerb (c : Nat) : Bool := c ∈ [100, 105, 111, 120, 88, 102, 115, 99]
/-- A precision, whether it is a star, how many bytes. -/
def precP : List Nat → Int × Bool × Nat
  | 46 :: r3 => (((sizeL r3).1 : Int), (sizeL r3).2.1, (sizeL r3).2.2 + 1)
  | _ => (-1, false, 0)
theorem precP_nil : precP [] = (-1, false, 0) := rfl
theorem precP_dot (r : List Nat) : precP (46 :: r) = (((sizeL r).1 : Int), (sizeL r).2.1, (sizeL r).2.2 + 1) := rfl
theorem precP_no (c : Nat) (r : List Nat) (h : c ≠ 46) : precP (c :: r) = (-1, false, 0) := by
  unfold precP
  split
  · rename_i e; simp at e; omega
  · rfl
/-- What stands behind a %: len is counted from the % on; 0 where there is no verb. -/
def readL (l : List Nat) : SpecF :=
  let f := flagsL l ⟨false, false, false, false⟩
  let r1 := l.drop f.2
  let w := sizeL r1
  let r2 := r1.drop w.2.2
  let p := precP r2
  let r4 := r2.drop p.2.2
  match r4 with
  | c :: _ => if isVerb c then ⟨f.1, w.1, p.1, w.2.1, p.2.1, c, 1 + f.2 + w.2.2 + p.2.2 + 1⟩ else ⟨f.1, w.1, p.1, w.2.1, p.2.1, 0, 0⟩
  | [] => ⟨f.1, w.1, p.1, w.2.1, p.2.1, 0, 0⟩
end Go.Proofs.YtpkooogfefkcdaaDoor

/- math/bits.Add64, Sub64, Mul64 at this program, said of integers. -/
namespace Go.Proofs.YtpkooogfefkcdaaDoor
open Go.RowKit
theorem add64 (x y c : Int) (hx : 0 ≤ x) (hy : 0 ≤ y) (hc0 : 0 ≤ c) (hc : c ≤ 1) (w : World) : (callFunc 37 #[.int .u64 x, .int .u64 y, .int .u64 c]).run Tryd.prog w =
    .ok (.value (.tuple #[.int .u64 ((x + y + c) % 18446744073709551616), .int .u64 ((x + y + c) / 18446744073709551616)])) w := by
  obtain ⟨x, rfl⟩ := Int.eq_ofNat_of_zero_le hx
  obtain ⟨y, rfl⟩ := Int.eq_ofNat_of_zero_le hy
  obtain ⟨c, rfl⟩ := Int.eq_ofNat_of_zero_le hc0
  rw [run_callFunc_extern Tryd.func37 (by kernel_rfl) (by kernel_rfl) (by kernel_rfl) (e := add64Entry) (by kernel_rfl), run_add64 x y c (by omega) (by omega) (by omega) (by omega)]
  simp only [Result.andThen]
def bor (x y b : Int) : Int := if x < y + b then 1 else 0
theorem bor_range (x y b : Int) : 0 ≤ bor x y b ∧ bor x y b ≤ 1 := by unfold bor; split <;> decide
theorem sub64 (x y b : Int) (hx : 0 ≤ x) (hy : 0 ≤ y) (hy' : y < 18446744073709551616) (hb0 : 0 ≤ b) (hb : b ≤ 1) (w : World) : (callFunc 39 #[.int .u64 x, .int .u64 y, .int .u64 b]).run Tryd.prog w =
    .ok (.value (.tuple #[.int .u64 ((x - y - b) % 18446744073709551616), .int .u64 (bor x y b)])) w := by
  obtain ⟨x, rfl⟩ := Int.eq_ofNat_of_zero_le hx
  obtain ⟨y, rfl⟩ := Int.eq_ofNat_of_zero_le hy
  obtain ⟨b, rfl⟩ := Int.eq_ofNat_of_zero_le hb0
  have e1 : (((x + 18446744073709551616 - y - b) % 18446744073709551616 : Nat) : Int) = ((x : Int) - y - b) % 18446744073709551616 := by omega
  have e2 : ((if x < y + b then 1 else 0 : Nat) : Int) = if (x : Int) < y + b then 1 else 0 := by split <;> split <;> omega
  unfold bor
  rw [← e1, ← e2, run_callFunc_extern Tryd.func39 (by kernel_rfl) (by kernel_rfl) (by kernel_rfl) (e := sub64Entry) (by kernel_rfl), run_sub64 x y b (by omega)]
  rfl
theorem add64_0 (x y : Int) (hx : 0 ≤ x) (hy : 0 ≤ y) (w : World) : (callFunc 37 #[.int .u64 x, .int .u64 y, .int .u64 0]).run Tryd.prog w =
    .ok (.value (.tuple #[.int .u64 ((x + y) % 18446744073709551616), .int .u64 ((x + y) / 18446744073709551616)])) w := by
  simpa using add64 x y 0 hx hy (Int.le_refl 0) (by decide) w
theorem sub64_0 (x y : Int) (hx : 0 ≤ x) (hy : 0 ≤ y) (hy' : y < 18446744073709551616) (w : World) : (callFunc 39 #[.int .u64 x, .int .u64 y, .int .u64 0]).run Tryd.prog w =
    .ok (.value (.tuple #[.int .u64 ((x - y) % 18446744073709551616), .int .u64 (bor x y 0)])) w := by
  simpa using sub64 x y 0 hx hy hy' (Int.le_refl 0) (by decide) w
/-- The two words of a product. -/
def ph (x y : Int) : Int := x * y / 18446744073709551616
def pl (x y : Int) : Int := x * y % 18446744073709551616
theorem mul64 (x y : Int) (hx : 0 ≤ x) (hx' : x < 18446744073709551616) (hy : 0 ≤ y) (hy' : y < 18446744073709551616) (w : World) :
    Calls Tryd.prog 22 #[.int .u64 x, .int .u64 y] w fun e w' => e = .returned (.tuple #[.int .u64 (ph x y), .int .u64 (pl x y)]) ∧ w = w' := by
  obtain ⟨x, rfl⟩ := Int.eq_ofNat_of_zero_le hx
  obtain ⟨y, rfl⟩ := Int.eq_ofNat_of_zero_le hy
  refine (Tryd.bits_Mul64 x y (by omega) (by omega) w).mono ?_
  rintro e w' ⟨rfl, rfl⟩
  exact ⟨by simp [ph, pl], rfl⟩
theorem phl (x y : Int) : x * y = ph x y * 18446744073709551616 + pl x y := by unfold ph pl; omega
theorem pl_range (x y : Int) : 0 ≤ pl x y ∧ pl x y < 18446744073709551616 := by unfold pl; omega
theorem ph_range {x y : Int} (hx : 0 ≤ x) (hx' : x < 18446744073709551616) (hy : 0 ≤ y) (hy' : y < 18446744073709551616) : 0 ≤ ph x y ∧ ph x y < 18446744073709551615 := by
  have a : 0 ≤ x * y := Int.mul_nonneg hx hy
  have b : x * y ≤ 18446744073709551615 * y := Int.mul_le_mul_of_nonneg_right (by omega) hy
  unfold ph; omega
end Go.Proofs.YtpkooogfefkcdaaDoor

/- numeral.more: a magnitude with one more digit. -/
namespace Go.Proofs.YtpkooogfefkcdaaDoor
open Go.RowKit
/-- The words of a magnitude that is a natural number. -/
def mh (N : Nat) : Int := ((N / 18446744073709551616 : Nat) : Int)
def ml (N : Nat) : Int := ((N % 18446744073709551616 : Nat) : Int)
set_option maxRecDepth 100000 in
set_option maxHeartbeats 400000 in
theorem more_any (n : Bool) (N c : Nat) (hN : N < 10000000000000000000000000000000000000) (hc : 48 ≤ c) (hc2 : c ≤ 57) (w : World) :
    Calls Tryd.prog 25 #[.agg #[.bool n, .int .u64 (mh N), .int .u64 (ml N)], .int .u8 (c : Int)] w fun e w' => e = .returned (.agg #[.bool false, .int .u64 (mh (N * 10 + (c - 48))), .int .u64 (ml (N * 10 + (c - 48)))]) ∧ Below w.heap.size w w' := by
  obtain ⟨H, hH⟩ : ∃ H, H = N / 18446744073709551616 := ⟨_, rfl⟩
  obtain ⟨L, hL⟩ : ∃ L, L = N % 18446744073709551616 := ⟨_, rfl⟩
  have e1 : mh N = (H : Int) := by unfold mh; rw [hH]
  have e2 : ml N = (L : Int) := by unfold ml; rw [hL]
  rw [e1, e2]
  have bH : H < 1000000000000000000 := by omega
  have bL : L < 18446744073709551616 := by omega
  have pr := pl_range (L : Int) 10
  have qr := ph_range (x := (L : Int)) (y := 10) (by omega) (by omega) (by decide) (by decide)
  have pq := phl (L : Int) 10
  obtain ⟨S, hS⟩ : ∃ S : Int, S = (pl (L : Int) 10 + ((c : Int) - 48)) % 18446744073709551616 := ⟨_, rfl⟩
  obtain ⟨C, hC⟩ : ∃ C : Int, C = (pl (L : Int) 10 + ((c : Int) - 48)) / 18446744073709551616 := ⟨_, rfl⟩
  have f2 : ml (N * 10 + (c - 48)) = S := by
    unfold ml; omega
  have f1 : mh (N * 10 + (c - 48)) = (H : Int) * 10 + ph (L : Int) 10 + C := by
    unfold mh; omega
  rw [f1, f2]
  have ea := fun W => add64_0 (pl (L : Int) 10) ((c : Int) - 48) pr.1 (by omega) W
  rw [← hS, ← hC] at ea
  have hC1 : C ≤ 1 := by omega
  have hC0 : 0 ≤ C := by omega
  have hq1 : ph (L : Int) 10 < 20 := by unfold ph; omega
  have hq0 := qr.1
  clear hH hL e1 e2 f1 f2 hS hC pq qr hN pr
  go_enter Tryd.func25, Tryd.ntmps25
  go_wp2_with (go_at_call 22; refine (mul64 _ _ (by omega) (by omega) (by omega) (by omega) _).mono ?_; rintro e w' ⟨rfl, rfl⟩)
  go_outline
  go_returns
  exact ⟨rfl, by (repeat' (first | (with_reducible exact Below.refl _ _) | (refine Below.trans ?_ (Below.mono (by with_reducible assumption) ?_)) | (with_reducible exact Below.refl _ _) | (with_reducible refine below_drewN ?_ _) | (with_reducible refine Below.drew ?_) | (with_reducible refine Below.setCell ?_ ?_ _) | (with_reducible refine Below.alloc ?_ ?_ _) | (with_reducible assumption) | (simp; done) | (simp; omega) | omega))⟩
end Go.Proofs.YtpkooogfefkcdaaDoor

/- Plain: the text of a number, as the code makes it. -/
namespace Go.Proofs.YtpkooogfefkcdaaDoor
open Go.RowKit
/-- A whole number's digits, ahead of what stands there already. -/
def digs : Nat → Nat → List Nat → List Nat
  | 0, _, T => T
  | k + 1, W, T => if W / 10 = 0 then (48 + W % 10) :: T else digs k (W / 10) ((48 + W % 10) :: T)
/-- The least digits behind the point, without the zeros at their end. -/
def frs (F : Nat) : Nat → List Nat
  | 0 => []
  | k + 1 => if F / 10 ^ k % 10 ≠ 0 ∨ 0 < (frs F k).length then (48 + F / 10 ^ k % 10) :: frs F k else []
def frP (F : Nat) : List Nat := if F = 0 then [] else 46 :: frs F 6
/-- The text of a number of millionths. -/
def textL (z : Int) : List Nat := (if z < 0 then [45] else []) ++ digs 31 (z.natAbs / 1000000) (frP (z.natAbs % 1000000))
def Bytes (l : List Nat) : Prop := ∀ x ∈ l, x < 256
theorem frs_len (F : Nat) : ∀ k, (frs F k).length ≤ k := by
  intro k
  induction k with
  | zero => simp [frs]
  | succ k ih => unfold frs; split <;> simp <;> omega
theorem frP_len (F : Nat) : (frP F).length ≤ 7 := by
  have := frs_len F 6
  unfold frP; split <;> simp <;> omega
theorem digs_len : ∀ (k W : Nat) (T : List Nat), (digs k W T).length ≤ k + T.length := by
  intro k
  induction k with
  | zero => intro W T; simp [digs]
  | succ k ih =>
    intro W T
    unfold digs; split
    · simp; omega
    · have := ih (W / 10) ((48 + W % 10) :: T); simp at this; omega
theorem digs_ge : ∀ (k W : Nat) (T : List Nat), T.length ≤ (digs k W T).length := by
  intro k
  induction k with
  | zero => intro W T; simp [digs]
  | succ k ih =>
    intro W T
    unfold digs; split
    · simp
    · have := ih (W / 10) ((48 + W % 10) :: T); simp at this; omega
theorem digs_pos (k W : Nat) (T : List Nat) : 1 ≤ (digs (k + 1) W T).length := by
  unfold digs; split
  · simp
  · have := digs_ge k (W / 10) ((48 + W % 10) :: T); simp at this; omega
theorem frs_bytes (F : Nat) : ∀ k, Bytes (frs F k) := by
  intro k
  induction k with
  | zero => intro x hx; simp [frs] at hx
  | succ k ih =>
    unfold frs; split
    · intro x hx
      rcases List.mem_cons.1 hx with rfl | hx
      · omega
      · exact ih x hx
    · intro x hx; simp at hx
theorem digs_bytes : ∀ (k W : Nat) (T : List Nat), Bytes T → Bytes (digs k W T) := by
  intro k
  induction k with
  | zero => intro W T h; exact h
  | succ k ih =>
    intro W T h
    have hc : Bytes ((48 + W % 10) :: T) := by
      intro x hx
      rcases List.mem_cons.1 hx with rfl | hx
      · omega
      · exact h x hx
    unfold digs; split
    · exact hc
    · exact ih _ _ hc
theorem frP_bytes (F : Nat) : Bytes (frP F) := by
  unfold frP; split
  · intro x hx; simp at hx
  · intro x hx
    rcases List.mem_cons.1 hx with rfl | hx
    · omega
    · exact frs_bytes F 6 x hx
theorem textL_bytes (z : Int) : Bytes (textL z) := by
  unfold textL
  intro x hx
  rcases List.mem_append.1 hx with hx | hx
  · split at hx
    · simp at hx; omega
    · simp at hx
  · exact digs_bytes _ _ _ (frP_bytes _) x hx
theorem textL_len (z : Int) : (textL z).length ≤ 39 := by
  have h1 := frP_len (z.natAbs % 1000000)
  have h2 := digs_len 31 (z.natAbs / 1000000) (frP (z.natAbs % 1000000))
  unfold textL
  rw [List.length_append]
  split <;> simp <;> omega
end Go.Proofs.YtpkooogfefkcdaaDoor

/- Bytes out of a string: appending to them. -/
namespace Go.Proofs.YtpkooogfefkcdaaDoor
open Go.RowKit
/-- A row of bytes at the head of block b, with spare room up to c. -/
structure SB (w : World) (b c : Nat) (L : List Nat) : Prop where
  rb : RB w (b + 1) (some ⟨b, 0, none⟩) L
  le : L.length ≤ c
  spare : ∀ j, L.length ≤ j → j < c → (w.cell? ⟨b, j, none⟩).isSome = true ∧ w.frozen? ⟨b, j, none⟩ = false
  lt : b < w.heap.size
theorem SB.below {w w' : World} {b c : Nat} {L : List Nat} (h : SB w b c L) (q : Below w.heap.size w w') : SB w' b c L := by
  have hl := h.lt
  have hs := q.size
  exact ⟨h.rb.below (q.mono (by omega)), h.le, fun j h1 h2 => by
    have := h.spare j h1 h2
    rw [q.cell (p := ⟨b, j, none⟩) hl, q.frozen (p := ⟨b, j, none⟩) hl]; exact this, by omega⟩
theorem conv_run2 (W : World) (L : List Nat) (hb : ∀ x ∈ L, x < 256) :
    ∃ (c : Nat) (C : Array Value) (f : Nat × Nat), (convert 9 46 (.string (strN L))).run Tryd.prog W = .ok (.slice (some ⟨W.heap.size, 0, none⟩) L.length c) ((W.alloc (.cells C 5 f)).drew) ∧
      SB ((W.alloc (.cells C 5 f)).drew) W.heap.size c L := by
  have h := run_bytes_of_string (P := Tryd.prog) W 9 46 5 (strN L) Tryd.underlying9 Tryd.underlying46 Tryd.underlying5
  rw [strN_size] at h
  have hge : L.length ≤ grownCap W L.length 0 5 := grownCap_ge _ _ _ _
  have hsz : (bytesRow (strN L) (grownCap W L.length 0 5)).size = grownCap W L.length 0 5 := by
    unfold bytesRow; simp [strN, ByteArray.size]; omega
  refine ⟨_, _, _, h, ?_, hge, ?_, by simp⟩
  · refine rb_of hb (by omega) fun j hj => ?_
    rw [World.cell?_drew, World.cell?_alloc_mark]
    have hj2 : j < (strN L).data.size := by simpa [strN] using hj
    rw [bytesRow_at _ _ _ hj2]
    exact congrArg (fun x => some (Value.int .u8 x)) (strN_get hb j hj hj2)
  · intro j _ hj
    constructor
    · rw [World.cell?_drew, World.cell?_alloc_mark, Array.getElem?_eq_getElem (by rw [hsz]; exact hj)]; rfl
    · have : (W.alloc (.cells (bytesRow (strN L) (grownCap W L.length 0 5)) 5 ((bytesRow (strN L) (grownCap W L.length 0 5)).size, (bytesRow (strN L) (grownCap W L.length 0 5)).size + 1))).frozen? ⟨W.heap.size, j, none⟩ = false := by
        unfold World.frozen?
        rw [heap_alloc_new]
        simp only [hsz]
        simp; omega
      exact this
theorem wpList_appC {w : World} {ops : Array Oper} {rest : List Oper} {o : Oper} {a : Act} {Q : Exit → Act → World → Prop} (hgd : o.guard = none) (s x : Operand)
    (ho : o.op = .call { callee := .builtin .append, args := #[s, x], argTypes := #[46, 46] }) (B b c : Nat) (L cs : List Nat) (W : World) (hB : B ≤ b) (hs : a.eval s = .slice (some ⟨b, 0, none⟩) L.length c) (hsb : SB w b c L) (hbel : Below B W w)
    (ad : Addr) (m c' : Nat) (B' : Nat) (hx : a.eval x = .slice (some ad) m c') (hm : cs.length = m) (hr : RB w B' (some ad) cs) (hlen : L.length + cs.length ≤ 140737488351232)
    (h : ∀ (A' : Option Addr) (d : Nat) (w' : World), L.length + m ≤ d → RB w' w'.heap.size A' (L ++ cs) → Below B W w' → wpList Tryd.prog ops Q rest (a.put o.dst (.slice A' (L.length + m) d)) w') : wpList Tryd.prog ops Q (o :: rest) a w := by
  obtain ⟨i0, hi, hz0, hz1, hz2⟩ := info_parts info_u8
  subst hm
  have hlt := hsb.lt
  have hcell : ∀ j (hj : j < L.length), w.cell? ⟨b, j, none⟩ = some (.int .u8 ((L[j] : Nat) : Int)) := by
    intro j hj
    obtain ⟨ad', e, _, hc⟩ := hsb.rb.2 (by omega)
    cases e
    have := hc j hj
    rwa [show (⟨b, 0, none⟩ : Addr).add j = ⟨b, j, none⟩ by unfold Addr.add; split <;> simp_all] at this
  have hbytes : ∀ y ∈ L ++ cs, y < 256 := fun y hy => by
    rcases List.mem_append.1 hy with hy | hy
    · exact hsb.rb.1 y hy
    · exact hr.1 y hy
  refine wpList_append_arg w hgd s x 46 ho 5 i0 (.int .u8 0) 1 1 Tryd.underlying46 hi hz0 hz1 hz2 rfl (by decide) b 0 L.length c (L.map bv) hs (by simp) ?_ ad cs.length c' (cs.map bv) hx (by simp) ?_ ?_ ?_ (by unfold maxLen; omega) (by omega) ?_ ?_
  · intro j u hu
    rw [List.getElem?_map] at hu
    rcases Nat.lt_or_ge j L.length with hj | hj
    · rw [List.getElem?_eq_getElem hj] at hu
      rw [Nat.zero_add, hcell j hj]; exact hu
    · rw [List.getElem?_eq_none hj] at hu; cases hu
  · intro j u hu
    rw [List.getElem?_map] at hu
    rcases Nat.lt_or_ge j cs.length with hj | hj
    · obtain ⟨ad', e, _, hc⟩ := hr.2 (by omega)
      cases e
      rw [hc j hj]
      rw [List.getElem?_eq_getElem hj] at hu
      exact hu
    · rw [List.getElem?_eq_none hj] at hu; cases hu
  · intro u hu
    obtain ⟨y, _, rfl⟩ := List.mem_map.1 hu
    rfl
  · intro hroom j hj
    rw [List.length_map] at hj
    have := hsb.spare (L.length + j) (by omega) (by omega)
    simpa [Nat.zero_add, Nat.mul_one] using this
  · intro hroom
    refine h (some ⟨b, 0, none⟩) c _ hroom (rb_of hbytes ?_ fun j hj => ?_) ?_
    · have : ∀ (vs : List Value) (k : Nat) (w : World), (w.setCells b k vs).heap.size = w.heap.size := by
        intro vs
        induction vs with
        | nil => intro k w; rfl
        | cons v vs ih => intro k w; rw [World.setCells, ih, World.size_setCell]
      rw [this]; exact hlt
    · rw [List.length_append] at hj
      rcases Nat.lt_or_ge j L.length with hjl | hjl
      · rw [World.cell?_setCells_out b _ _ _ _ (by intro _ _; left; simp; omega), hcell j hjl, List.getElem_append_left hjl]
      · have := World.cell?_setCells_in b (cs.map bv) (0 + L.length * 1) w (by
          intro i hi
          rw [List.length_map] at hi
          have := (hsb.spare (L.length + i) (by omega) (by omega)).1
          simpa [Nat.zero_add, Nat.mul_one] using this) (j - L.length) (by rw [List.length_map]; omega)
        rw [show 0 + L.length * 1 + (j - L.length) = j by omega] at this
        rw [this, List.getElem_append_right hjl, List.getElem_map]; rfl
    · have : ∀ (vs : List Value) (k : Nat) (w : World), Below B W w → Below B W (w.setCells b k vs) := by
        intro vs
        induction vs with
        | nil => intro k w hw; exact hw
        | cons v vs ih => intro k w hw; rw [World.setCells]; exact ih _ _ (hw.setCell hB _)
      exact this _ _ _ hbel
  · intro _ v' w' hown' hg
    have hob : OB w' w.heap.size v' (L ++ cs) := ⟨hbytes, by rw [List.length_append, List.map_append]; exact hown'⟩
    obtain ⟨A', d, e, h1, h2, _⟩ := hob.slice
    rw [e, List.length_append]
    rw [List.length_append] at h1
    exact h A' d w' h1 h2 (hbel.grown hg (by omega) (fun k hk => by cases hk))
end Go.Proofs.YtpkooogfefkcdaaDoor

/- errors.Is between the program's error numbers; fieldfarelaw01.Code. -/
namespace Go.Proofs.YtpkooogfefkcdaaDoor
open Go.RowKit Go.Extern.Stop Go.Stop Go.Extern
theorem isComp : (Tryd.prog.info? 67).map (·.comparable) = some true := by kernel_rfl
end Go.Proofs.YtpkooogfefkcdaaDoor
