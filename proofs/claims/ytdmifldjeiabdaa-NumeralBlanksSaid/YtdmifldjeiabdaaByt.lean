/- Bytes that a call has made: appending to them. -/
import Derived.Test.YtdmifldjeiabdaaNumA
import Derived.Laws.AppendOwnNone
import Derived.Below
import Derived.Laws.IdiomStrings
import Derived.Lib.SlBytesConst
namespace Go.Proofs.Ytdmifldjeiabdaa
open Go.RowKit
theorem rb_of {w : World} {B b : Nat} {bs : List Nat} (hb : ∀ x ∈ bs, x < 256) (h : b < B) (hc : ∀ j (h : j < bs.length), w.cell? ⟨b, j, none⟩ = some (.int .u8 ((bs[j] : Nat) : Int))) : RB w B (some ⟨b, 0, none⟩) bs := by
  refine ⟨hb, fun _ => ⟨_, rfl, h, fun j hj => ?_⟩⟩
  have : (⟨b, 0, none⟩ : Addr).add j = ⟨b, j, none⟩ := by unfold Addr.add; split <;> simp_all
  rw [this]; exact hc j hj
def nums (bs : List Nat) : Array Value := (bs.map fun x => Value.int .u8 ((x : Nat) : Int)).toArray
theorem rb_row (w : World) (bs : List Nat) (hb : ∀ x ∈ bs, x < 256) (t : TypeId) (f : Nat × Nat) : RB (w.alloc (.cells (nums bs) t f)) (w.heap.size + 1) (some ⟨w.heap.size, 0, none⟩) bs := by
  refine rb_of hb (by omega) fun j hj => ?_
  rw [World.cell?_alloc_mark]
  simp [nums, hj]
def bv (x : Nat) : Value := .int .u8 (x : Int)
/-- The value v is a slice that owns its row, which holds bytes. -/
def OB (w : World) (base : Nat) (v : Value) (bs : List Nat) : Prop := (∀ x ∈ bs, x < 256) ∧ w.ownsRow base 5 1 v bs.length (bs.map bv)
theorem OB.slice {w : World} {base : Nat} {v : Value} {bs : List Nat} (h : OB w base v bs) :
    ∃ (A : Option Addr) (c : Nat), v = .slice A bs.length c ∧ bs.length ≤ c ∧ RB w w.heap.size A bs ∧ (A = none → bs = [] ∧ c = 0) := by
  obtain ⟨hb, hl, h | ⟨g, cap, cur, hv, hg, hh, hn, hm, hs, ht⟩⟩ := h
  · obtain ⟨rfl, h0⟩ := h
    refine ⟨none, 0, by rw [h0], by omega, ?_, fun _ => ⟨List.length_eq_zero_iff.1 h0, rfl⟩⟩
    rw [List.length_eq_zero_iff.1 h0]; exact RB.nil
  · refine ⟨some ⟨g, 0, none⟩, cap, hv, hn, ?_, fun e => by cases e⟩
    have hlt : g < w.heap.size := by
      rcases Nat.lt_or_ge g w.heap.size with h | h
      · exact h
      · rw [Array.getElem?_eq_none h] at hh; cases hh
    refine rb_of hb hlt fun j hj => ?_
    rw [cell_of_row w g j cur 5 (0, 0) hh]
    have : (cur.toList.take (bs.length * 1))[j]? = (bs.map bv)[j]? := by rw [ht]
    rw [List.getElem?_take, if_pos (by omega), List.getElem?_map, List.getElem?_eq_getElem hj] at this
    simpa [bv] using this
theorem OB.kept {w w' : World} {base : Nat} {v : Value} {bs : List Nat} {row : Option Nat} (h : OB w base v bs) (hg : w.grownBy w' row) (hne : v.ownBlock = none ∨ v.ownBlock ≠ row) : OB w' base v bs := ⟨h.1, h.2.kept hg hne⟩
theorem OB.alloc {w : World} {base : Nat} {v : Value} {bs : List Nat} (h : OB w base v bs) (o : Obj) : OB (w.alloc o) base v bs := ⟨h.1, h.2.alloc o⟩
theorem OB.nil (w : World) (base : Nat) : OB w base (.slice none 0 0) [] := ⟨by simp, World.ownsRow_nil _ _ _ _⟩
theorem OB.setCell {w : World} {base : Nat} {v : Value} {bs : List Nat} (h : OB w base v bs) {a : Addr} (ha : a.block < base) (u : Value) : OB (w.setCell a u) base v bs := ⟨h.1, ownsRow_setCell_below h.2 ha u⟩
theorem OB.lit (w : World) (bs : List Nat) {base : Nat} (hb : ∀ x ∈ bs, x < 256) (hB : base ≤ w.heap.size) (hl : bs.length ≤ maxLen) : OB (w.alloc (.cells (nums bs) 5)) base (.slice (some ⟨w.heap.size, 0, none⟩) bs.length bs.length) bs :=
  ⟨hb, World.ownsRow_lit w (nums bs) bs.length hB hl (by simp [nums])⟩
theorem OB.block {w : World} {base : Nat} {v : Value} {bs : List Nat} (h : OB w base v bs) : ∀ k, v.ownBlock = some k → base ≤ k ∧ k < w.heap.size := h.2.lt
theorem info_u8 : (Try.prog.info? 5).map (fun i => (i.zero, i.size, i.bytes)) = some (some (.int .u8 0), 1, 1) := by kernel_rfl
/-- append(v, x...) of bytes, to a slice of the call's own. -/
theorem wpList_appB {w : World} {ops : Array Oper} {rest : List Oper} {o : Oper} {a : Act} {Q : Exit → Act → World → Prop} (hgd : o.guard = none) (s x : Operand)
    (ho : o.op = .call { callee := .builtin .append, args := #[s, x], argTypes := #[32, 32] }) (base : Nat) (hbase : base ≤ w.heap.size) (v : Value) (bs : List Nat) (hs : a.eval s = v) (hown : OB w base v bs)
    (A : Option Addr) (m c : Nat) (cs : List Nat) (B : Nat) (hx : a.eval x = .slice A m c) (hm : cs.length = m) (hA : A = none → cs = [] ∧ c = 0) (hr : RB w B A cs) (hlen : bs.length + cs.length ≤ 140737488351232)
    (h : ∀ v' w', OB w' base v' (bs ++ cs) → w.grownBy w' v.ownBlock → wpList Try.prog ops Q rest (a.put o.dst v') w') : wpList Try.prog ops Q (o :: rest) a w := by
  obtain ⟨i0, hi, hz0, hz1, hz2⟩ := info_parts info_u8
  subst hm
  cases A with
  | none =>
    obtain ⟨rfl, rfl⟩ := hA rfl
    refine wpList_append_own_none hgd s x 32 ho base 5 i0 1 Try.underlying32 hi v bs.length (bs.map bv) hs hown.2 hx ?_
    refine h v w (by rw [List.append_nil]; exact hown) ⟨rfl, rfl, rfl, Nat.le_refl _, fun _ _ _ => rfl⟩
  | some ad =>
    refine wpList_append_own w hgd s x 32 ho base 5 i0 (.int .u8 0) 1 1 Try.underlying32 hi hz0 hz1 hz2 rfl (by decide) v bs.length (bs.map bv) hs hown.2 ad cs.length c (cs.map bv) hx (by simp) ?_ ?_ (by unfold maxLen; omega) (by omega) hbase ?_
    · intro j u hu
      rw [List.getElem?_map] at hu
      rcases Nat.lt_or_ge j cs.length with hj | hj
      · obtain ⟨ad', e, _, hc⟩ := hr.2 (by omega)
        cases e
        rw [hc j hj]
        rw [List.getElem?_eq_getElem hj] at hu
        exact hu
      · rw [List.getElem?_eq_none hj] at hu; cases hu
    · intro u hu
      obtain ⟨y, _, rfl⟩ := List.mem_map.1 hu
      rfl
    · intro v' w' hown' hg _
      exact h v' w' ⟨fun y hy => by rcases List.mem_append.1 hy with hy | hy; exact hown.1 y hy; exact hr.1 y hy, by rw [List.length_append, List.map_append]; exact hown'⟩ hg
theorem wpList_appBw {w : World} {ops : Array Oper} {rest : List Oper} {o : Oper} {a : Act} {Q : Exit → Act → World → Prop} (hw : Region.wanted o (yielded ops a.tmps) = true) (s x : Operand)
    (ho : o.op = .call { callee := .builtin .append, args := #[s, x], argTypes := #[32, 32] }) (base : Nat) (hbase : base ≤ w.heap.size) (v : Value) (bs : List Nat) (hs : a.eval s = v) (hown : OB w base v bs)
    (A : Option Addr) (m c : Nat) (cs : List Nat) (B : Nat) (hx : a.eval x = .slice A m c) (hm : cs.length = m) (hA : A = none → cs = [] ∧ c = 0) (hr : RB w B A cs) (hlen : bs.length + cs.length ≤ 140737488351232)
    (h : ∀ v' w', OB w' base v' (bs ++ cs) → w.grownBy w' v.ownBlock → wpList Try.prog ops Q rest (a.put o.dst v') w') : wpList Try.prog ops Q (o :: rest) a w := by
  obtain ⟨i0, hi, hz0, hz1, hz2⟩ := info_parts info_u8
  subst hm
  cases A with
  | none =>
    obtain ⟨rfl, rfl⟩ := hA rfl
    have hrun := run_append_owned_none (P := Try.prog) (w := w) base 32 o.type 5 i0 1 Try.underlying32 hi v bs.length (bs.map bv) hown.2
    refine wpList_step fun K hK => ?_
    rw [if_pos hw]
    unfold Oper.wp
    simp [execOp, ho, resolve, invoke, builtin, hs, hx, hrun, Result.andThen]
    refine hK _ _ (h v w (by rw [List.append_nil]; exact hown) ⟨rfl, rfl, rfl, Nat.le_refl _, fun _ _ _ => rfl⟩)
  | some ad =>
    refine wpList_step fun K hK => ?_
    rw [if_pos hw]
    refine wp_append_own w s x 32 ho base 5 i0 (.int .u8 0) 1 1 Try.underlying32 hi hz0 hz1 hz2 rfl (by decide) v bs.length (bs.map bv) hs hown.2 ad cs.length c (cs.map bv) hx (by simp) ?_ ?_ (by unfold maxLen; omega) (by omega) hbase ?_
    · intro j u hu
      rw [List.getElem?_map] at hu
      rcases Nat.lt_or_ge j cs.length with hj | hj
      · obtain ⟨ad', e, _, hc⟩ := hr.2 (by omega)
        cases e
        rw [hc j hj]
        rw [List.getElem?_eq_getElem hj] at hu
        exact hu
      · rw [List.getElem?_eq_none hj] at hu; cases hu
    · intro u hu
      obtain ⟨y, _, rfl⟩ := List.mem_map.1 hu
      rfl
    · intro v' w' hown' hg _
      exact hK _ _ (h v' w' ⟨fun y hy => by rcases List.mem_append.1 hy with hy | hy; exact hown.1 y hy; exact hr.1 y hy, by rw [List.length_append, List.map_append]; exact hown'⟩ hg)
theorem OB.below {w w' : World} {base B : Nat} {v : Value} {bs : List Nat} {W : World} (h : OB w base v bs) (hg : w.grownBy w' v.ownBlock) (hb : Below B W w) (hB : B ≤ base) (hbase : B ≤ w.heap.size) : Below B W w' :=
  hb.grown hg hbase fun k hk => Nat.le_trans hB (h.block k hk).1
theorem OB.apart {w w' : World} {base b : Nat} {v v' : Value} {bs bs' : List Nat} (h : OB w base v bs) (h' : OB w' b v' bs') (hb : w.heap.size ≤ b) : v.ownBlock = none ∨ v.ownBlock ≠ v'.ownBlock := by
  cases e : v.ownBlock with
  | none => exact .inl rfl
  | some k =>
    right
    intro e2
    have h1 := h.block k e
    have h2 := h'.block k e2.symm
    omega
theorem OB.mono {w : World} {base base' : Nat} {v : Value} {bs : List Nat} (h : OB w base v bs) (hb : base' ≤ base) : OB w base' v bs := by
  obtain ⟨h1, h2, h3 | ⟨g, cap, cur, e, hg, hr⟩⟩ := h
  · exact ⟨h1, h2, .inl h3⟩
  · exact ⟨h1, h2, .inr ⟨g, cap, cur, e, Nat.le_trans hb hg, hr⟩⟩
theorem OB.next {w w' : World} {base : Nat} {v : Value} {bs : List Nat} (h : OB w base v bs) (q : Below w.heap.size w w') : OB w' base v bs :=
  h.kept (row := none) ⟨q.os, q.tape, q.output, q.size, fun k hk _ => q.block k hk⟩ (by cases v.ownBlock <;> simp)
/-- The text as a string of the program's. -/
def strN (l : List Nat) : ByteArray := ⟨(l.map fun x => UInt8.ofNat x).toArray⟩
theorem strN_size (a : List Nat) : (strN a).size = a.length := by simp [strN, ByteArray.size]
theorem strN_app (a b : List Nat) : strN a ++ strN b = strN (a ++ b) := by
  have : (strN a ++ strN b).data = (strN (a ++ b)).data := by
    rw [ByteArray.data_append]; simp [strN]
  cases h1 : strN a ++ strN b; cases h2 : strN (a ++ b); rw [h1, h2] at this; simpa using this
theorem strN_get {L : List Nat} (hb : ∀ x ∈ L, x < 256) (k : Nat) (hk : k < L.length) (hk' : k < (strN L).size) : ((strN L)[k].toNat : Int) = ((L[k] : Nat) : Int) := by
  have e : (strN L)[k] = UInt8.ofNat L[k] := by
    show (strN L).data[k] = _
    simp [strN]
  rw [e, UInt8.toNat_ofNat', Nat.mod_eq_of_lt (show L[k] < 2 ^ 8 from hb _ (List.getElem_mem hk))]
/-- []byte of a string: where the bytes lie. -/
theorem conv_run (W : World) (L : List Nat) (hb : ∀ x ∈ L, x < 256) :
    ∃ (c : Nat) (C : Array Value) (f : Nat × Nat), (convert 9 32 (.string (strN L))).run Try.prog W = .ok (.slice (some ⟨W.heap.size, 0, none⟩) L.length c) ((W.alloc (.cells C 5 f)).drew) ∧ L.length ≤ c ∧
      RB ((W.alloc (.cells C 5 f)).drew) (W.heap.size + 1) (some ⟨W.heap.size, 0, none⟩) L := by
  have h := run_bytes_of_string (P := Try.prog) W 9 32 5 (strN L) Try.underlying9 Try.underlying32 Try.underlying5
  rw [strN_size] at h
  refine ⟨_, _, _, h, grownCap_ge _ _ _ _, ?_⟩
  refine rb_of hb (by omega) fun j hj => ?_
  rw [World.cell?_drew, World.cell?_alloc_mark]
  have hj2 : j < (strN L).data.size := by simpa [strN] using hj
  rw [bytesRow_at _ _ _ hj2]
  exact congrArg (fun x => some (Value.int .u8 x)) (strN_get hb j hj hj2)
end Go.Proofs.Ytdmifldjeiabdaa
