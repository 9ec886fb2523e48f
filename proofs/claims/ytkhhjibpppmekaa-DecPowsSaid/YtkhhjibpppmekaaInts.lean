/- Slices of ints: as lists; those that a call has made: appending to them. -/
import Derived.Test.YtkhhjibpppmekaaNumA
import Derived.Laws.AppendOwnNone
import Derived.Below
import Derived.Laws.IdiomStrings
namespace Go.Proofs.Ytkhhjibpppmekaa
open Go.RowKit
/-- A slice of ints reads as a list, below block B. -/
def RI (w : World) (B : Nat) (A : Option Addr) (bs : List Nat) : Prop :=
  (0 < bs.length → ∃ ad, A = some ad ∧ ad.block < B ∧ ∀ j (h : j < bs.length), w.cell? (ad.add j) = some (.int .i64 ((bs[j] : Nat) : Int)))
section
variable {w w' : World} {B B' : Nat} {A : Option Addr} {bs : List Nat}
theorem RI.keep (h : RI w B A bs) (hk : ∀ p : Addr, p.block < B → w'.cell? p = w.cell? p) : RI w' B A bs :=
  fun hn => by
    obtain ⟨ad, e, hb, hc⟩ := h hn
    exact ⟨ad, e, hb, fun j hj => (hk _ (by rw [block_of_add]; exact hb)).trans (hc j hj)⟩
theorem RI.below (h : RI w B A bs) (hb : Below B w w') : RI w' B A bs := h.keep fun _ hp => hb.cell hp
theorem RI.more (h : RI w B A bs) (hB : B ≤ B') : RI w B' A bs :=
  fun hn => by
    obtain ⟨ad, e, hb, hc⟩ := h hn
    exact ⟨ad, e, by omega, hc⟩
theorem RI.cut (h : RI w B A bs) {k cap : Nat} (hc : bs.length ≤ cap) : RI w B (if cap = k then A else A.map (·.add k)) (bs.drop k) := by
  intro hn
  rw [List.length_drop] at hn
  obtain ⟨ad, rfl, hb, hcell⟩ := h (by omega)
  rw [if_neg (by omega)]
  refine ⟨ad.add k, rfl, by rw [block_of_add]; exact hb, fun j hj => ?_⟩
  rw [List.length_drop] at hj
  rw [add_of_add, List.getElem_drop]
  exact hcell (k + j) (by omega)
theorem RI.take (h : RI w B A bs) (k : Nat) : RI w B A (bs.take k) := by
  intro hn
  rw [List.length_take] at hn
  obtain ⟨ad, e, hb, hcell⟩ := h (by omega)
  refine ⟨ad, e, hb, fun j hj => ?_⟩
  rw [List.length_take] at hj
  rw [List.getElem_take]
  exact hcell j (by omega)
theorem RI.nil : RI w B A [] := by intro h; simp at h
end
theorem ri_of {w : World} {B b : Nat} {bs : List Nat} (h : b < B) (hc : ∀ j (h : j < bs.length), w.cell? ⟨b, j, none⟩ = some (.int .i64 ((bs[j] : Nat) : Int))) : RI w B (some ⟨b, 0, none⟩) bs := by
  refine fun _ => ⟨_, rfl, h, fun j hj => ?_⟩
  have : (⟨b, 0, none⟩ : Addr).add j = ⟨b, j, none⟩ := by unfold Addr.add; split <;> simp_all
  rw [this]; exact hc j hj
def inums (bs : List Nat) : Array Value := (bs.map fun x => Value.int .i64 ((x : Nat) : Int)).toArray
theorem ri_row (w : World) (bs : List Nat) (t : TypeId) (f : Nat × Nat) : RI (w.alloc (.cells (inums bs) t f)) (w.heap.size + 1) (some ⟨w.heap.size, 0, none⟩) bs := by
  refine ri_of (by omega) fun j hj => ?_
  rw [World.cell?_alloc_mark]
  simp [inums, hj]
def iv (x : Nat) : Value := .int .i64 (x : Int)
/-- The value v is a slice that owns its row, which holds ints. -/
def OI (w : World) (base : Nat) (v : Value) (bs : List Nat) : Prop := w.ownsRow base 3 1 v bs.length (bs.map iv)
theorem OI.slice {w : World} {base : Nat} {v : Value} {bs : List Nat} (h : OI w base v bs) :
    ∃ (A : Option Addr) (c : Nat), v = .slice A bs.length c ∧ bs.length ≤ c ∧ RI w w.heap.size A bs ∧ (A = none → bs = [] ∧ c = 0) := by
  obtain ⟨hl, h | ⟨g, cap, cur, hv, hg, hh, hn, hm, hs, ht⟩⟩ := h
  · obtain ⟨rfl, h0⟩ := h
    refine ⟨none, 0, by rw [h0], by omega, ?_, fun _ => ⟨List.length_eq_zero_iff.1 h0, rfl⟩⟩
    rw [List.length_eq_zero_iff.1 h0]; exact RI.nil
  · refine ⟨some ⟨g, 0, none⟩, cap, hv, hn, ?_, fun e => by cases e⟩
    have hlt : g < w.heap.size := by
      rcases Nat.lt_or_ge g w.heap.size with h | h
      · exact h
      · rw [Array.getElem?_eq_none h] at hh; cases hh
    refine ri_of hlt fun j hj => ?_
    rw [cell_of_row w g j cur 3 (0, 0) hh]
    have : (cur.toList.take (bs.length * 1))[j]? = (bs.map iv)[j]? := by rw [ht]
    rw [List.getElem?_take, if_pos (by omega), List.getElem?_map, List.getElem?_eq_getElem hj] at this
    simpa [iv] using this
theorem OI.kept {w w' : World} {base : Nat} {v : Value} {bs : List Nat} {row : Option Nat} (h : OI w base v bs) (hg : w.grownBy w' row) (hne : v.ownBlock = none ∨ v.ownBlock ≠ row) : OI w' base v bs := World.ownsRow.kept h hg hne
theorem OI.alloc {w : World} {base : Nat} {v : Value} {bs : List Nat} (h : OI w base v bs) (o : Obj) : OI (w.alloc o) base v bs := World.ownsRow.alloc h o
theorem OI.nil (w : World) (base : Nat) : OI w base (.slice none 0 0) [] := World.ownsRow_nil _ _ _ _
theorem OI.setCell {w : World} {base : Nat} {v : Value} {bs : List Nat} (h : OI w base v bs) {a : Addr} (ha : a.block < base) (u : Value) : OI (w.setCell a u) base v bs := ownsRow_setCell_below h ha u
theorem OI.drew {w : World} {base : Nat} {v : Value} {bs : List Nat} (h : OI w base v bs) : OI w.drew base v bs := World.ownsRow.kept (row := none) h ⟨rfl, rfl, rfl, Nat.le_refl _, fun _ _ _ => rfl⟩ (by cases v.ownBlock <;> simp)
theorem OI.lit (w : World) (bs : List Nat) {base : Nat} (hB : base ≤ w.heap.size) (hl : bs.length ≤ maxLen) : OI (w.alloc (.cells (inums bs) 3)) base (.slice (some ⟨w.heap.size, 0, none⟩) bs.length bs.length) bs :=
  by have := World.ownsRow_lit (e := 3) (size := 1) w (inums bs) bs.length hB hl (by simp [inums]); exact this
theorem OI.block {w : World} {base : Nat} {v : Value} {bs : List Nat} (h : OI w base v bs) : ∀ k, v.ownBlock = some k → base ≤ k ∧ k < w.heap.size := World.ownsRow.lt h
theorem info_int : (Try.prog.info? 3).map (fun i => (i.zero, i.size, i.bytes)) = some (some (.int .i64 0), 1, 8) := by kernel_rfl
/-- append(v, x...) of ints, to a slice of the call's own. -/
theorem wpList_appI {w : World} {ops : Array Oper} {rest : List Oper} {o : Oper} {a : Act} {Q : Exit → Act → World → Prop} (hgd : o.guard = none) (s x : Operand)
    (ho : o.op = .call { callee := .builtin .append, args := #[s, x], argTypes := #[32, 32] }) (base : Nat) (hbase : base ≤ w.heap.size) (v : Value) (bs : List Nat) (hs : a.eval s = v) (hown : OI w base v bs)
    (A : Option Addr) (m c : Nat) (cs : List Nat) (B : Nat) (hx : a.eval x = .slice A m c) (hm : cs.length = m) (hA : A = none → cs = [] ∧ c = 0) (hr : RI w B A cs) (hlen : bs.length + cs.length ≤ 17592186043904)
    (h : ∀ v' w', OI w' base v' (bs ++ cs) → w.grownBy w' v.ownBlock → wpList Try.prog ops Q rest (a.put o.dst v') w') : wpList Try.prog ops Q (o :: rest) a w := by
  obtain ⟨i0, hi, hz0, hz1, hz2⟩ := info_parts info_int
  subst hm
  cases A with
  | none =>
    obtain ⟨rfl, rfl⟩ := hA rfl
    refine wpList_append_own_none hgd s x 32 ho base 3 i0 1 Try.underlying32 hi v bs.length (bs.map iv) hs hown hx ?_
    refine h v w (by rw [List.append_nil]; exact hown) ⟨rfl, rfl, rfl, Nat.le_refl _, fun _ _ _ => rfl⟩
  | some ad =>
    refine wpList_append_own w hgd s x 32 ho base 3 i0 (.int .i64 0) 1 8 Try.underlying32 hi hz0 hz1 hz2 rfl (by decide) v bs.length (bs.map iv) hs hown ad cs.length c (cs.map iv) hx (by simp) ?_ ?_ (by unfold maxLen; omega) (by omega) hbase ?_
    · intro j u hu
      rw [List.getElem?_map] at hu
      rcases Nat.lt_or_ge j cs.length with hj | hj
      · obtain ⟨ad', e, _, hc⟩ := hr (by omega)
        cases e
        rw [hc j hj]
        rw [List.getElem?_eq_getElem hj] at hu
        exact hu
      · rw [List.getElem?_eq_none hj] at hu; cases hu
    · intro u hu
      obtain ⟨y, _, rfl⟩ := List.mem_map.1 hu
      rfl
    · intro v' w' hown' hg _
      exact h v' w' (by unfold OI; rw [List.length_append, List.map_append]; exact hown') hg
theorem OI.below {w w' : World} {base B : Nat} {v : Value} {bs : List Nat} {W : World} (h : OI w base v bs) (hg : w.grownBy w' v.ownBlock) (hb : Below B W w) (hB : B ≤ base) (hbase : B ≤ w.heap.size) : Below B W w' :=
  hb.grown hg hbase fun k hk => Nat.le_trans hB (h.block k hk).1
theorem OI.apart {w w' : World} {base b : Nat} {v v' : Value} {bs bs' : List Nat} (h : OI w base v bs) (h' : OI w' b v' bs') (hb : w.heap.size ≤ b) : v.ownBlock = none ∨ v.ownBlock ≠ v'.ownBlock := by
  cases e : v.ownBlock with
  | none => exact .inl rfl
  | some k =>
    right
    intro e2
    have h1 := h.block k e
    have h2 := h'.block k e2.symm
    omega
theorem OI.mono {w : World} {base base' : Nat} {v : Value} {bs : List Nat} (h : OI w base v bs) (hb : base' ≤ base) : OI w base' v bs := by
  obtain ⟨h2, h3 | ⟨g, cap, cur, e, hg, hr⟩⟩ := h
  · exact ⟨h2, .inl h3⟩
  · exact ⟨h2, .inr ⟨g, cap, cur, e, Nat.le_trans hb hg, hr⟩⟩
end Go.Proofs.Ytkhhjibpppmekaa
