/- Bytes out of a string: appending to them. -/
import Derived.Test.YtdmifldjeiabdaaByt
import Derived.ArgAppend
namespace Go.Proofs.Ytdmifldjeiabdaa
open Go.RowKit
/-- A row of bytes at the head of block b, with spare room up to c. -/
structure SB (w : World) (b c : Nat) (L : List Nat) : Prop where
  rb : RB w (b + 1) (some ⟨b, 0, none⟩) L
  le : L.length ≤ c
  spare : ∀ j, L.length ≤ j → j < c → (w.cell? ⟨b, j, none⟩).isSome = true ∧ w.frozen? ⟨b, j, none⟩ = false
  lt : b < w.heap.size
theorem SB.below {w w' : World} {b c : Nat} {L : List Nat} (h : SB w b c L) (q : Below w.heap.size w w') : SB w' b c L := by
  have hl := h.lt
  have hs := q.size
  exact ⟨h.rb.below (q.mono (by omega)), h.le, fun j h1 h2 => by
    have := h.spare j h1 h2
    rw [q.cell (p := ⟨b, j, none⟩) hl, q.frozen (p := ⟨b, j, none⟩) hl]; exact this, by omega⟩
theorem conv_run2 (W : World) (L : List Nat) (hb : ∀ x ∈ L, x < 256) :
    ∃ (c : Nat) (C : Array Value) (f : Nat × Nat), (convert 9 32 (.string (strN L))).run Try.prog W = .ok (.slice (some ⟨W.heap.size, 0, none⟩) L.length c) ((W.alloc (.cells C 5 f)).drew) ∧
      SB ((W.alloc (.cells C 5 f)).drew) W.heap.size c L := by
  have h := run_bytes_of_string (P := Try.prog) W 9 32 5 (strN L) Try.underlying9 Try.underlying32 Try.underlying5
  rw [strN_size] at h
  have hge : L.length ≤ grownCap W L.length 0 5 := grownCap_ge _ _ _ _
  have hsz : (bytesRow (strN L) (grownCap W L.length 0 5)).size = grownCap W L.length 0 5 := by
    unfold bytesRow; simp [strN, ByteArray.size]; omega
  refine ⟨_, _, _, h, ?_, hge, ?_, by simp⟩
  · refine rb_of hb (by omega) fun j hj => ?_
    rw [World.cell?_drew, World.cell?_alloc_mark]
    have hj2 : j < (strN L).data.size := by simpa [strN] using hj
    rw [bytesRow_at _ _ _ hj2]
    exact congrArg (fun x => some (Value.int .u8 x)) (strN_get hb j hj hj2)
  · intro j _ hj
    constructor
    · rw [World.cell?_drew, World.cell?_alloc_mark, Array.getElem?_eq_getElem (by rw [hsz]; exact hj)]; rfl
    · have : (W.alloc (.cells (bytesRow (strN L) (grownCap W L.length 0 5)) 5 ((bytesRow (strN L) (grownCap W L.length 0 5)).size, (bytesRow (strN L) (grownCap W L.length 0 5)).size + 1))).frozen? ⟨W.heap.size, j, none⟩ = false := by
        unfold World.frozen?
        rw [heap_alloc_new]
        simp only [hsz]
        simp; omega
      exact this
theorem wpList_appC {w : World} {ops : Array Oper} {rest : List Oper} {o : Oper} {a : Act} {Q : Exit → Act → World → Prop} (hgd : o.guard = none) (s x : Operand)
    (ho : o.op = .call { callee := .builtin .append, args := #[s, x], argTypes := #[32, 32] }) (B b c : Nat) (L cs : List Nat) (W : World) (hB : B ≤ b) (hs : a.eval s = .slice (some ⟨b, 0, none⟩) L.length c) (hsb : SB w b c L) (hbel : Below B W w)
    (ad : Addr) (m c' : Nat) (B' : Nat) (hx : a.eval x = .slice (some ad) m c') (hm : cs.length = m) (hr : RB w B' (some ad) cs) (hlen : L.length + cs.length ≤ 140737488351232)
    (h : ∀ (A' : Option Addr) (d : Nat) (w' : World), L.length + m ≤ d → RB w' w'.heap.size A' (L ++ cs) → Below B W w' → wpList Try.prog ops Q rest (a.put o.dst (.slice A' (L.length + m) d)) w') : wpList Try.prog ops Q (o :: rest) a w := by
  obtain ⟨i0, hi, hz0, hz1, hz2⟩ := info_parts info_u8
  subst hm
  have hlt := hsb.lt
  have hcell : ∀ j (hj : j < L.length), w.cell? ⟨b, j, none⟩ = some (.int .u8 ((L[j] : Nat) : Int)) := by
    intro j hj
    obtain ⟨ad', e, _, hc⟩ := hsb.rb.2 (by omega)
    cases e
    have := hc j hj
    rwa [show (⟨b, 0, none⟩ : Addr).add j = ⟨b, j, none⟩ by unfold Addr.add; split <;> simp_all] at this
  have hbytes : ∀ y ∈ L ++ cs, y < 256 := fun y hy => by
    rcases List.mem_append.1 hy with hy | hy
    · exact hsb.rb.1 y hy
    · exact hr.1 y hy
  refine wpList_append_arg w hgd s x 32 ho 5 i0 (.int .u8 0) 1 1 Try.underlying32 hi hz0 hz1 hz2 rfl (by decide) b 0 L.length c (L.map bv) hs (by simp) ?_ ad cs.length c' (cs.map bv) hx (by simp) ?_ ?_ ?_ (by unfold maxLen; omega) (by omega) ?_ ?_
  · intro j u hu
    rw [List.getElem?_map] at hu
    rcases Nat.lt_or_ge j L.length with hj | hj
    · rw [List.getElem?_eq_getElem hj] at hu
      rw [Nat.zero_add, hcell j hj]; exact hu
    · rw [List.getElem?_eq_none hj] at hu; cases hu
  · intro j u hu
    rw [List.getElem?_map] at hu
    rcases Nat.lt_or_ge j cs.length with hj | hj
    · obtain ⟨ad', e, _, hc⟩ := hr.2 (by omega)
      cases e
      rw [hc j hj]
      rw [List.getElem?_eq_getElem hj] at hu
      exact hu
    · rw [List.getElem?_eq_none hj] at hu; cases hu
  · intro u hu
    obtain ⟨y, _, rfl⟩ := List.mem_map.1 hu
    rfl
  · intro hroom j hj
    rw [List.length_map] at hj
    have := hsb.spare (L.length + j) (by omega) (by omega)
    simpa [Nat.zero_add, Nat.mul_one] using this
  · intro hroom
    refine h (some ⟨b, 0, none⟩) c _ hroom (rb_of hbytes ?_ fun j hj => ?_) ?_
    · have : ∀ (vs : List Value) (k : Nat) (w : World), (w.setCells b k vs).heap.size = w.heap.size := by
        intro vs
        induction vs with
        | nil => intro k w; rfl
        | cons v vs ih => intro k w; rw [World.setCells, ih, World.size_setCell]
      rw [this]; exact hlt
    · rw [List.length_append] at hj
      rcases Nat.lt_or_ge j L.length with hjl | hjl
      · rw [World.cell?_setCells_out b _ _ _ _ (by intro _ _; left; simp; omega), hcell j hjl, List.getElem_append_left hjl]
      · have := World.cell?_setCells_in b (cs.map bv) (0 + L.length * 1) w (by
          intro i hi
          rw [List.length_map] at hi
          have := (hsb.spare (L.length + i) (by omega) (by omega)).1
          simpa [Nat.zero_add, Nat.mul_one] using this) (j - L.length) (by rw [List.length_map]; omega)
        rw [show 0 + L.length * 1 + (j - L.length) = j by omega] at this
        rw [this, List.getElem_append_right hjl, List.getElem_map]; rfl
    · have : ∀ (vs : List Value) (k : Nat) (w : World), Below B W w → Below B W (w.setCells b k vs) := by
        intro vs
        induction vs with
        | nil => intro k w hw; exact hw
        | cons v vs ih => intro k w hw; rw [World.setCells]; exact ih _ _ (hw.setCell hB _)
      exact this _ _ _ hbel
  · intro _ v' w' hown' hg
    have hob : OB w' w.heap.size v' (L ++ cs) := ⟨hbytes, by rw [List.length_append, List.map_append]; exact hown'⟩
    obtain ⟨A', d, e, h1, h2, _⟩ := hob.slice
    rw [e, List.length_append]
    rw [List.length_append] at h1
    exact h A' d w' h1 h2 (hbel.grown hg (by omega) (fun k hk => by cases hk))
end Go.Proofs.Ytdmifldjeiabdaa
