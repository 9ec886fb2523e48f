/- Several texts put together: Own, ScrC, Owp, RegE. -/
import Derived.Test.YtdiibenofbcfnaaGreatBu1
import Derived.Deep.MidRow
import Derived.Laws.CopyRow
import Derived.Deep.RegionHeld3
set_option linter.unusedSimpArgs false
set_option linter.unusedVariables false
namespace Go.Proofs.YtdiibenofbcfnaaGreat
open Go.RowKit
structure Bx where
  b : Nat
  t : TypeId
  cs : List Value
structure Rw where
  e : TypeId
  size : Nat
  v : Value
  n : Nat
  xs : List Value
structure Cold where
  C : World → (Nat → Prop) → Prop
  st : ∀ w w' (F F' : Nat → Prop), (∀ b, F b → F' b ∧ w'.heap[b]? = w.heap[b]?) → C w F → C w' F'
structure Kept (X : List Nat) (w w' : World) : Prop where
  os : w'.os = w.os
  tape : w'.tape = w.tape
  output : w'.output = w.output
  size : w.heap.size ≤ w'.heap.size
  block : ∀ k, k < w.heap.size → k ∉ X → w'.heap[k]? = w.heap[k]?
theorem Kept.refl (X : List Nat) (w : World) : Kept X w w := ⟨rfl, rfl, rfl, Nat.le_refl _, fun _ _ _ => rfl⟩
theorem Kept.trans {X Y : List Nat} {a b c : World} (h : Kept X a b) (k : Kept Y b c) (hs : ∀ y ∈ Y, y ∈ X ∨ a.heap.size ≤ y) : Kept X a c :=
  ⟨k.os.trans h.os, k.tape.trans h.tape, k.output.trans h.output, Nat.le_trans h.size k.size, fun i hi hx => (k.block i (Nat.lt_of_lt_of_le hi h.size) (fun hy => by
    rcases hs i hy with h | h
    · exact hx h
    · omega)).trans (h.block i hi hx)⟩
theorem Kept.of_below {X : List Nat} {w w' : World} (h : Below w.heap.size w w') : Kept X w w' := ⟨h.os, h.tape, h.output, h.size, fun k hk _ => h.block k hk⟩
theorem Kept.below {w w' : World} (h : Kept [] w w') : Below w.heap.size w w' := ⟨h.os, h.tape, h.output, h.size, fun k hk => h.block k hk (by simp)⟩
def Loc (S : World → Prop) (n : Nat) : Prop := ∀ w w' : World, (∀ b, b < n → w'.heap[b]? = w.heap[b]?) → w.heap.size ≤ w'.heap.size → S w → S w'
def hot (bs : List Bx) (rs : List Rw) : List Nat := bs.map (·.b) ++ rs.filterMap (·.v.ownBlock)
structure Own (w0 : World) (X : List Nat) (S : World → Prop) (bs : List Bx) (rs : List Rw) (F : List Cold) (w : World) : Prop where
  kept : Kept X w0 w
  loc : Loc S w0.heap.size
  st : S w
  box : ∀ x ∈ bs, Blk w x.b x.t x.cs.toArray
  base : ∀ x ∈ bs, w0.heap.size ≤ x.b
  row : ∀ r ∈ rs, w.ownsRow w0.heap.size r.e r.size r.v r.n r.xs
  nodup : (hot bs rs).Nodup
  cold : ∀ c ∈ F, c.C w (fun b => w0.heap.size ≤ b ∧ b < w.heap.size ∧ b ∉ hot bs rs)
theorem mH {α : Type} {x : α} {l : List α} : x ∈ x :: l := List.Mem.head _
theorem mT {α : Type} {x y : α} {l : List α} (h : x ∈ l) : x ∈ y :: l := List.Mem.tail _ h
section
variable {w0 w w' : World} {X : List Nat} {S S' : World → Prop} {bs bs' : List Bx} {rs rs' : List Rw} {F F' : List Cold}
theorem Own.init (hs : S w) (hl : Loc S w.heap.size) : Own w X S [] [] [] w := ⟨Kept.refl _ _, hl, hs, by simp, by simp, by simp, by simp [hot], by simp⟩
theorem Own.hot_lt (h : Own w0 X S bs rs F w) : ∀ b ∈ hot bs rs, w0.heap.size ≤ b ∧ b < w.heap.size := by
  intro b hb
  rcases List.mem_append.1 hb with hb | hb
  · obtain ⟨x, hx, rfl⟩ := List.mem_map.1 hb
    exact ⟨h.base x hx, (h.box x hx).lt⟩
  · obtain ⟨r, hr, e⟩ := List.mem_filterMap.1 hb
    exact (h.row r hr).lt b e
theorem Own.next (h : Own w0 X S bs rs F w) (q : Below w.heap.size w w') : Own w0 X S bs rs F w' := by
  refine ⟨h.kept.trans (Kept.of_below (X := []) q) (by simp), h.loc, h.loc w w' (fun b hb => q.block b (Nat.lt_of_lt_of_le hb h.kept.size)) q.size h.st, fun x hx => (h.box x hx).below q (h.box x hx).lt, h.base, fun r hr => ?_, h.nodup, fun c hc => ?_⟩
  · exact (h.row r hr).kept (row := none) ⟨q.os, q.tape, q.output, q.size, fun k hk _ => q.block k hk⟩ (by cases r.v.ownBlock <;> simp)
  · exact c.st w w' _ _ (fun b hb => ⟨⟨hb.1, Nat.lt_of_lt_of_le hb.2.1 q.size, hb.2.2⟩, q.block b hb.2.1⟩) (h.cold c hc)
theorem Own.drew (h : Own w0 X S bs rs F w) : Own w0 X S bs rs F w.drew := h.next (Below.refl _ _).drew
theorem Own.junk (h : Own w0 X S bs rs F w) (o : Obj) : Own w0 X S bs rs F (w.alloc o) := h.next ((Below.refl _ _).alloc (Nat.le_refl _) _)
theorem hot_box (x : Bx) : hot (x :: bs) rs = x.b :: hot bs rs := rfl
theorem mem_hot_row (r : Rw) (b : Nat) : b ∈ hot bs (r :: rs) ↔ r.v.ownBlock = some b ∨ b ∈ hot bs rs := by
  unfold hot
  rw [List.mem_append, List.mem_append, List.filterMap_cons]
  cases e : r.v.ownBlock with
  | none => simp
  | some k => simp; constructor <;> (rintro (h | h | h) <;> simp [h])
theorem Own.alloc (h : Own w0 X S bs rs F w) (t : TypeId) (cs : List Value) : Own w0 X S (⟨w.heap.size, t, cs⟩ :: bs) rs F (w.alloc (.cells cs.toArray t)) := by
  have h' := h.junk (.cells cs.toArray t)
  have hz : w.heap.size < (w.alloc (.cells cs.toArray t)).heap.size := (Blk.new w t cs.toArray).lt
  refine ⟨h'.kept, h'.loc, h'.st, fun x hx => ?_, fun x hx => ?_, h'.row, ?_, fun c hc => ?_⟩
  · rcases List.mem_cons.1 hx with rfl | hx
    · exact Blk.new _ _ _
    · exact h'.box x hx
  · rcases List.mem_cons.1 hx with rfl | hx
    · exact h.kept.size
    · exact h'.base x hx
  · rw [hot_box]
    exact List.nodup_cons.2 ⟨fun hm => Nat.lt_irrefl _ (h.hot_lt _ hm).2, h.nodup⟩
  · refine c.st w _ _ _ (fun b hb => ⟨⟨hb.1, Nat.lt_of_lt_of_le hb.2.1 (Nat.le_of_lt hz), ?_⟩, Below.heap_alloc w _ b hb.2.1⟩) (h.cold c hc)
    rw [hot_box]
    exact fun hm => by
      rcases List.mem_cons.1 hm with e | hm
      · rw [e] at hb; exact Nat.lt_irrefl _ hb.2.1
      · exact hb.2.2 hm
theorem nodup_row {r : Rw} (h : (hot bs rs).Nodup) (hn : ∀ b, r.v.ownBlock = some b → b ∉ hot bs rs) : (hot bs (r :: rs)).Nodup := by
  unfold hot at h hn ⊢
  rw [List.filterMap_cons]
  cases e : r.v.ownBlock with
  | none => simpa using h
  | some k =>
    have := hn k e
    simp only [List.mem_append, not_or] at this
    rw [List.nodup_append] at h ⊢
    refine ⟨h.1, List.nodup_cons.2 ⟨this.2, h.2.1⟩, fun a ha b hb => ?_⟩
    rcases List.mem_cons.1 hb with rfl | hb
    · exact fun e => this.1 (e ▸ ha)
    · exact h.2.2 a ha b hb
theorem Own.addRow (h : Own w0 X S bs rs F w) (r : Rw) (B : Nat) (hB : w0.heap.size ≤ B) (hr : w.ownsRow B r.e r.size r.v r.n r.xs) (hn : ∀ b, B ≤ b → b ∉ hot bs rs) (hF : ∀ c ∈ F, c.C w (fun b => (w0.heap.size ≤ b ∧ b < w.heap.size ∧ b ∉ hot bs rs) ∧ b < B)) : Own w0 X S bs (r :: rs) F w := by
  refine ⟨h.kept, h.loc, h.st, h.box, h.base, fun x hx => ?_, nodup_row h.nodup fun b e => hn b (hr.lt b e).1, fun c hc => ?_⟩
  · rcases List.mem_cons.1 hx with rfl | hx
    · obtain ⟨h1, h2⟩ := hr
      refine ⟨h1, ?_⟩
      rcases h2 with h2 | ⟨g, cap, cur, e, hg, h3⟩
      · exact .inl h2
      · exact .inr ⟨g, cap, cur, e, Nat.le_trans hB hg, h3⟩
    · exact h.row x hx
  · refine c.st w w _ _ (fun b hb => ⟨⟨hb.1.1, hb.1.2.1, fun hm => ?_⟩, rfl⟩) (hF c hc)
    rcases (mem_hot_row r b).1 hm with e | hm
    · have := (hr.lt b e).1; have := hb.2; omega
    · exact hb.1.2.2 hm
theorem Own.nilRow (h : Own w0 X S bs rs F w) (e : TypeId) (size : Nat) : Own w0 X S bs (⟨e, size, .slice none 0 0, 0, []⟩ :: rs) F w := by
  refine ⟨h.kept, h.loc, h.st, h.box, h.base, fun x hx => ?_, nodup_row h.nodup fun b e => by simp [Value.ownBlock] at e, fun c hc => ?_⟩
  · rcases List.mem_cons.1 hx with rfl | hx
    · exact World.ownsRow_nil _ _ _ _
    · exact h.row x hx
  · refine c.st w w _ _ (fun b hb => ⟨⟨hb.1, hb.2.1, fun hm => ?_⟩, rfl⟩) (h.cold c hc)
    rcases (mem_hot_row _ b).1 hm with e | hm
    · simp [Value.ownBlock] at e
    · exact hb.2.2 hm
theorem Own.litRow (h : Own w0 X S bs rs F w) (e : TypeId) (size n : Nat) (cs : List Value) (hc : cs.length = n * size) (hn : n ≤ maxLen) : Own w0 X S bs (⟨e, size, .slice (some ⟨w.heap.size, 0, none⟩) n n, n, cs⟩ :: rs) F (w.alloc (.cells cs.toArray e)) := by
  have h' := h.junk (.cells cs.toArray e)
  have hr : (w.alloc (.cells cs.toArray e)).ownsRow w.heap.size e size (.slice (some ⟨w.heap.size, 0, none⟩) n n) n cs := by
    have := World.ownsRow_lit (base := w.heap.size) (e := e) (size := size) w cs.toArray n (Nat.le_refl _) hn (by simpa using hc)
    simpa using this
  refine h'.addRow ⟨e, size, .slice (some ⟨w.heap.size, 0, none⟩) n n, n, cs⟩ w.heap.size h.kept.size hr (fun b hb hm => by have := (h.hot_lt b hm).2; omega) fun c hc => ?_
  exact c.st w _ _ _ (fun b hb => ⟨⟨⟨hb.1, Nat.lt_of_lt_of_le hb.2.1 ((Below.refl w.heap.size w).alloc (Nat.le_refl _) _).size, hb.2.2⟩, hb.2.1⟩, Below.heap_alloc w _ b hb.2.1⟩) (h.cold c hc)
inductive Chg {α : Type} : List α → α → α → List α → Prop
  | head (l : List α) (x y : α) : Chg (x :: l) x y (y :: l)
  | tail {l l' : List α} {x y : α} (z : α) (h : Chg l x y l') : Chg (z :: l) x y (z :: l')
theorem cH {α : Type} {l : List α} {x y : α} : Chg (x :: l) x y (y :: l) := .head _ _ _
theorem cT {α : Type} {l l' : List α} {x y z : α} (h : Chg l x y l') : Chg (z :: l) x y (z :: l') := .tail _ h
theorem Chg.map {α β : Type} {l l' : List α} {x y : α} (f : α → β) (h : Chg l x y l') (e : f y = f x) : l'.map f = l.map f := by
  induction h with
  | head l x y => simp [e]
  | tail z h ih => simp [ih e]
theorem Chg.mem {α : Type} {l l' : List α} {x y : α} (h : Chg l x y l') : x ∈ l ∧ ∀ z ∈ l', z = y ∨ z ∈ l := by
  induction h with
  | head l x y => exact ⟨List.mem_cons_self, fun z hz => by rcases List.mem_cons.1 hz with h | h; exact .inl h; exact .inr (List.mem_cons_of_mem _ h)⟩
  | tail z h ih => exact ⟨List.mem_cons_of_mem _ ih.1, fun u hu => by
      rcases List.mem_cons.1 hu with rfl | hu
      · exact .inr List.mem_cons_self
      · rcases ih.2 u hu with h | h
        · exact .inl h
        · exact .inr (List.mem_cons_of_mem _ h)⟩
theorem Chg.others {l l' : List Bx} {x y : Bx} (h : Chg l x y l') (hn : (l.map (·.b)).Nodup) : ∀ z ∈ l', z = y ∨ (z ∈ l ∧ z.b ≠ x.b) := by
  induction h with
  | head l x y =>
    intro z hz
    rcases List.mem_cons.1 hz with h | h
    · exact .inl h
    · right
      rw [List.map_cons, List.nodup_cons] at hn
      exact ⟨List.mem_cons_of_mem _ h, fun e => hn.1 (e ▸ List.mem_map_of_mem h)⟩
  | tail u h ih =>
    intro z hz
    rw [List.map_cons, List.nodup_cons] at hn
    rcases List.mem_cons.1 hz with rfl | hz
    · exact .inr ⟨List.mem_cons_self, fun e => hn.1 (e ▸ List.mem_map_of_mem h.mem.1)⟩
    · rcases ih hn.2 z hz with h | h
      · exact .inl h
      · exact .inr ⟨List.mem_cons_of_mem _ h.1, h.2⟩
theorem Own.set (h : Own w0 X S bs rs F w) {b : Nat} {t : TypeId} {cs cs' : List Value} (hc : Chg bs ⟨b, t, cs⟩ ⟨b, t, cs'⟩ bs') (hb : Blk w' b t cs'.toArray) (hs : w'.heap.size = w.heap.size)
    (ho : w'.os = w.os ∧ w'.tape = w.tape ∧ w'.output = w.output) (hk : ∀ k, k ≠ b → w'.heap[k]? = w.heap[k]?) : Own w0 X S bs' rs F w' := by
  have hm := hc.mem
  have hot_eq : hot bs' rs = hot bs rs := by unfold hot; rw [hc.map (·.b) rfl]
  have hbb : w0.heap.size ≤ b := h.base _ hm.1
  have hbh : b ∈ hot bs rs := List.mem_append_left _ (List.mem_map_of_mem (f := (·.b)) hm.1)
  refine ⟨⟨ho.1.trans h.kept.os, ho.2.1.trans h.kept.tape, ho.2.2.trans h.kept.output, by rw [hs]; exact h.kept.size, fun k hk1 hk2 => (hk k (by omega)).trans (h.kept.block k hk1 hk2)⟩, h.loc, h.loc w w' (fun k hk1 => hk k (by omega)) (by omega) h.st, fun x hx => ?_, fun x hx => ?_, fun r hr => ?_, by rw [hot_eq]; exact h.nodup, fun c hc2 => ?_⟩
  · have hnd : (bs.map (·.b)).Nodup := (List.nodup_append.1 h.nodup).1
    rcases hc.others hnd x hx with rfl | ⟨h1, h2⟩
    · exact hb
    · exact (hk x.b h2).trans (h.box x h1)
  · rcases hm.2 x hx with rfl | h1
    · exact hbb
    · exact h.base x h1
  · have hr1 := h.row r hr
    refine hr1.kept (row := some b) ⟨ho.1, ho.2.1, ho.2.2, by omega, fun k _ hk2 => hk k fun e => hk2 (by rw [e])⟩ ?_
    cases e : r.v.ownBlock with
    | none => exact .inl rfl
    | some k =>
      right
      intro e2
      have e3 : k = b := Option.some.inj e2
      subst e3
      have hnd := List.nodup_append.1 h.nodup
      exact hnd.2.2 k (List.mem_map_of_mem (f := (·.b)) hm.1) k (List.mem_filterMap.2 ⟨r, hr, e⟩) rfl
  · rw [hot_eq]
    refine c.st w w' _ _ (fun k hk1 => ⟨⟨hk1.1, by rw [hs]; exact hk1.2.1, hk1.2.2⟩, hk k fun e => hk1.2.2 (e ▸ hbh)⟩) (h.cold c hc2)
theorem Own.cells (h : Own w0 X S bs rs F w) {b : Nat} {t : TypeId} {cs : List Value} (hm : ⟨b, t, cs⟩ ∈ bs) (o : Nat) : w.rangeAt b o (cs.drop o) := fun j v hv => by
  have hb : Blk w b t cs.toArray := h.box _ hm
  rw [hb.cell]
  simpa [List.getElem?_drop] using hv
theorem Own.call (h : Own w0 X S bs rs F w) {Y : List Nat} (hY : ∀ y ∈ Y, y ∈ X ∧ y < w0.heap.size) (q : Kept Y w w') (hs : S' w') (hl : Loc S' w0.heap.size) : Own w0 X S' bs rs F w' := by
  refine ⟨h.kept.trans q fun y hy => .inl (hY y hy).1, hl, hs, fun x hx => ?_, h.base, fun r hr => ?_, h.nodup, fun c hc => ?_⟩
  · have hb := h.box x hx
    exact (q.block x.b hb.lt fun hy => by have := (hY _ hy).2; have := h.base x hx; omega).trans hb
  · have hr1 := h.row r hr
    rcases hr1.2 with h2 | ⟨g, cap, cur, e, hg, hh, h3⟩
    · exact ⟨hr1.1, .inl h2⟩
    · have hlt : g < w.heap.size := by
        rcases Nat.lt_or_ge g w.heap.size with h | h
        · exact h
        · rw [Array.getElem?_eq_none h] at hh; cases hh
      exact ⟨hr1.1, .inr ⟨g, cap, cur, e, hg, (q.block g hlt fun hy => by have := (hY _ hy).2; omega).trans hh, h3⟩⟩
  · exact c.st w w' _ _ (fun b hb => ⟨⟨hb.1, Nat.lt_of_lt_of_le hb.2.1 q.size, hb.2.2⟩, q.block b hb.2.1 fun hy => by have := (hY _ hy).2; omega⟩) (h.cold c hc)
theorem Own.addCold (h : Own w0 X S bs rs F w) (c : Cold) (B : Nat) (hB : w0.heap.size ≤ B) (hn : ∀ b ∈ hot bs rs, b < B) (hc : c.C w (fun b => B ≤ b ∧ b < w.heap.size)) : Own w0 X S bs rs (c :: F) w :=
  ⟨h.kept, h.loc, h.st, h.box, h.base, h.row, h.nodup, fun d hd => by
    rcases List.mem_cons.1 hd with rfl | hd
    · exact d.st w w _ _ (fun b hb => ⟨⟨Nat.le_trans hB hb.1, hb.2, fun hm => by have := hn b hm; omega⟩, rfl⟩) hc
    · exact h.cold d hd⟩
theorem Own.coldAll (h : Own w0 X S bs rs F w) (c : Cold) (hc : c.C w (fun b => w0.heap.size ≤ b ∧ b < w.heap.size ∧ b ∉ hot bs rs)) : Own w0 X S bs rs (c :: F) w :=
  ⟨h.kept, h.loc, h.st, h.box, h.base, h.row, h.nodup, fun d hd => by
    rcases List.mem_cons.1 hd with rfl | hd
    · exact hc
    · exact h.cold d hd⟩
theorem Own.sub (h : Own w0 X S bs rs F w) (hb : bs'.Sublist bs) (hr : rs'.Sublist rs) (hF : ∀ c ∈ F', c ∈ F) : Own w0 X S bs' rs' F' w := by
  have hs : (hot bs' rs').Sublist (hot bs rs) := (hb.map _).append (hr.filterMap _)
  exact ⟨h.kept, h.loc, h.st, fun x hx => h.box x (hb.subset hx), fun x hx => h.base x (hb.subset hx), fun r h1 => h.row r (hr.subset h1), h.nodup.sublist hs, fun c hc => c.st w w _ _ (fun b hb2 => ⟨⟨hb2.1, hb2.2.1, fun hm => hb2.2.2 (hs.subset hm)⟩, rfl⟩) (h.cold c (hF c hc))⟩
theorem Own.grow {r : Rw} (h : Own w0 X S bs (r :: rs) F w) (r' : Rw) (hr : w'.ownsRow w0.heap.size r'.e r'.size r'.v r'.n r'.xs) (hg : w.grownBy w' r.v.ownBlock) (hv : r'.v.ownBlock = r.v.ownBlock ∨ ∀ k, r'.v.ownBlock = some k → w.heap.size ≤ k) : Own w0 X S bs (r' :: rs) F w' := by
  have hrow := h.row r List.mem_cons_self
  have hrb : ∀ k, r.v.ownBlock = some k → k ∈ hot bs (r :: rs) := fun k e => (mem_hot_row r k).2 (.inl e)
  have hlow : ∀ k, r.v.ownBlock = some k → w0.heap.size ≤ k := fun k e => (hrow.lt k e).1
  have hbox : ∀ x ∈ bs, some x.b ≠ r.v.ownBlock := fun x hx e => by
    have hnd := List.nodup_append.1 h.nodup
    exact hnd.2.2 x.b (List.mem_map_of_mem (f := (·.b)) hx) x.b (List.mem_filterMap.2 ⟨r, List.mem_cons_self, e.symm⟩) rfl
  have hsub := h.sub (List.Sublist.refl bs) (List.sublist_cons_self r rs) (fun c hc => hc)
  have hnew : ∀ b, r'.v.ownBlock = some b → b ∉ hot bs rs := by
    intro b e hm
    rcases hv with hv | hv
    · have hnd := h.nodup
      rw [hv] at e
      rcases List.mem_append.1 hm with hm | hm
      · obtain ⟨x, hx, rfl⟩ := List.mem_map.1 hm
        exact hbox x hx e.symm
      · have hnd2 := (List.nodup_append.1 hnd).2.1
        rw [List.filterMap_cons, e] at hnd2
        exact (List.nodup_cons.1 hnd2).1 hm
    · have := hv b e
      have := (hsub.hot_lt b hm).2
      omega
  refine ⟨h.kept.trans (Y := r.v.ownBlock.toList) ⟨hg.os, hg.tape, hg.output, hg.size, fun k hk hx => hg.block k hk (fun e => hx (by rw [← e]; simp))⟩ (fun y hy => .inr (hlow y (by simpa using hy))), h.loc, h.loc w w' (fun b hb => hg.block b (Nat.lt_of_lt_of_le hb h.kept.size) fun e => by have := hlow b e.symm; omega) hg.size h.st, fun x hx => (h.box x hx).grown hg (hbox x hx), h.base, fun x hx => ?_, nodup_row hsub.nodup hnew, fun c hc => ?_⟩
  · rcases List.mem_cons.1 hx with rfl | hx
    · exact hr
    · refine (h.row x (List.mem_cons_of_mem _ hx)).kept hg ?_
      cases e : x.v.ownBlock with
      | none => exact .inl rfl
      | some k =>
        right
        intro e2
        have hnd2 := (List.nodup_append.1 h.nodup).2.1
        rw [List.filterMap_cons, ← e2] at hnd2
        exact (List.nodup_cons.1 hnd2).1 (List.mem_filterMap.2 ⟨x, hx, e⟩)
  · refine c.st w w' _ _ (fun b hb => ⟨⟨hb.1, Nat.lt_of_lt_of_le hb.2.1 hg.size, fun hm => ?_⟩, hg.block b hb.2.1 fun e => hb.2.2 (hrb b e.symm)⟩) (h.cold c hc)
    rcases (mem_hot_row r' b).1 hm with e | hm
    · rcases hv with hv | hv
      · exact hb.2.2 (hrb b (hv ▸ e))
      · have := hv b e; omega
    · exact hb.2.2 ((mem_hot_row r b).2 (.inr hm))
end
open Go.RowKit
theorem strN_data (l : List Nat) : (strN l).data.toList = l.map UInt8.ofNat := by simp [strN]
theorem ofNat_inj {a b : Nat} (ha : a < 256) (hb : b < 256) (h : UInt8.ofNat a = UInt8.ofNat b) : a = b := by
  have := congrArg UInt8.toNat h
  simpa [UInt8.toNat_ofNat', Nat.mod_eq_of_lt ha, Nat.mod_eq_of_lt hb] using this
theorem strN_inj {a b : List Nat} (ha : ∀ x ∈ a, x < 256) (hb : ∀ x ∈ b, x < 256) (h : strN a = strN b) : a = b := by
  have h2 : a.map UInt8.ofNat = b.map UInt8.ofNat := by rw [← strN_data, ← strN_data, h]
  induction a generalizing b with
  | nil => cases b with
    | nil => rfl
    | cons y b => simp at h2
  | cons x a ih => cases b with
    | nil => simp at h2
    | cons y b =>
      simp only [List.map_cons, List.cons.injEq] at h2
      have e := ofNat_inj (ha x (List.mem_cons_self ..)) (hb y (List.mem_cons_self ..)) h2.1
      subst e
      have := ih (fun z hz => ha z (List.mem_cons_of_mem _ hz)) (b := b) (fun z hz => hb z (List.mem_cons_of_mem _ hz)) (by unfold strN; rw [h2.2]) h2.2
      rw [this]
open Go.RowKit
section
variable {P : Program} {o : Oper} {a : Act} {w0 w : World} {X : List Nat} {S : World → Prop} {bs bs' : List Bx} {rs : List Rw} {F : List Cold} {K : Act → World → Prop} {Q : Exit → Act → World → Prop}
def WOp (P : Program) (o : Oper) (a : Act) (w : World) (K : Act → World → Prop) (Q : Exit → Act → World → Prop) : Prop := o.wp P a w K Q
theorem to_load {d : Option Tmp} {ty T : TypeId} {x : Operand} {ps : String} {af : Array Edge} {gd : Option (Nat × Bool)} (h : WOp P ⟨d, .load ty x, T, ps, af, gd⟩ a w K Q) : Oper.wp P ⟨d, .load ty x, T, ps, af, gd⟩ a w K Q := h
theorem to_store {d : Option Tmp} {ty T : TypeId} {x y : Operand} {ps : String} {af : Array Edge} {gd : Option (Nat × Bool)} (h : WOp P ⟨d, .store ty x y, T, ps, af, gd⟩ a w K Q) : Oper.wp P ⟨d, .store ty x y, T, ps, af, gd⟩ a w K Q := h
theorem to_alloc {d : Option Tmp} {ty T : TypeId} {ps : String} {af : Array Edge} {gd : Option (Nat × Bool)} (h : WOp P ⟨d, .alloc ty, T, ps, af, gd⟩ a w K Q) : Oper.wp P ⟨d, .alloc ty, T, ps, af, gd⟩ a w K Q := h
theorem to_box {d : Option Tmp} {ty T : TypeId} {x : Operand} {ps : String} {af : Array Edge} {gd : Option (Nat × Bool)} (h : WOp P ⟨d, .box ty x, T, ps, af, gd⟩ a w K Q) : Oper.wp P ⟨d, .box ty x, T, ps, af, gd⟩ a w K Q := h
theorem wo_load (HO : Hid (Own w0 X S bs rs F w)) {ty : TypeId} {x : Operand} (ho : o.op = .load ty x) {b : Nat} (hx : a.eval x = .pointer (some ⟨b, 0, none⟩)) {t : TypeId} {cs : List Value} (hm : (⟨b, t, cs⟩ : Bx) ∈ bs)
    (hd : ∀ w, (isAgg ty).run P w = .ok true w) {n : Nat} (hs : ∀ w, (sizeOf ty).run P w = .ok n w) (hn : cs.length = n) (h : K (a.put o.dst (.agg cs.toArray)) w) : WOp P o a w K Q := by
  subst hn
  have hl : (loadCells ⟨b, 0, none⟩ cs.length).run P w = .ok cs.toArray w :=
    run_loadCells_list (P := P) w ⟨b, 0, none⟩ cs (fun j v hv => by rw [Addr.add_mid]; exact HO.out.cells hm 0 j v (by simpa using hv))
  unfold WOp Oper.wp execOp
  simp only [ho, hx, Instr.loadAt, Instr.sureAddr, Sem.run_bind, Sem.run_pure, Result.andThen_ok, loadVar, hd w, if_true, hs w, hl]
  exact h
theorem wo_load_at (HO : Hid (Own w0 X S bs rs F w)) {ty : TypeId} {x : Operand} (ho : o.op = .load ty x) {b k n : Nat} (hx : a.eval x = .pointer (some ⟨b, k, none⟩)) {t : TypeId} {cs sub : List Value} (hm : (⟨b, t, cs⟩ : Bx) ∈ bs)
    (hd : ∀ w, (isAgg ty).run P w = .ok true w) (hs : ∀ w, (sizeOf ty).run P w = .ok n w) (hsub : (cs.drop k).take n = sub) (hn : sub.length = n) (h : K (a.put o.dst (.agg sub.toArray)) w) : WOp P o a w K Q := by
  have hl : (loadCells ⟨b, k, none⟩ n).run P w = .ok sub.toArray w := by
    rw [← hn]
    refine run_loadCells_list (P := P) w ⟨b, k, none⟩ sub (fun j v hv => ?_)
    rw [Addr.add_mid]
    refine HO.out.cells hm k j v ?_
    rw [← hsub, List.getElem?_take] at hv
    split at hv
    · exact hv
    · cases hv
  unfold WOp Oper.wp execOp
  simp only [ho, hx, Instr.loadAt, Instr.sureAddr, Sem.run_bind, Sem.run_pure, Result.andThen_ok, loadVar, hd w, if_true, hs w, hl]
  exact h
theorem wo_load1 (HO : Hid (Own w0 X S bs rs F w)) {ty : TypeId} {x : Operand} (ho : o.op = .load ty x) {b k : Nat} (hx : a.eval x = .pointer (some ⟨b, k, none⟩)) {t : TypeId} {cs : List Value} {v : Value} (hm : (⟨b, t, cs⟩ : Bx) ∈ bs)
    (hd : ∀ w, (isAgg ty).run P w = .ok false w) (hv : cs[k]? = some v) (h : K (a.put o.dst v) w) : WOp P o a w K Q := by
  have hl : w.cell? ⟨b, k, none⟩ = some v := by
    have := HO.out.cells hm k 0 v (by rw [List.getElem?_drop]; exact hv)
    exact this
  unfold WOp Oper.wp execOp
  simp only [ho, hx, Instr.loadAt, Instr.sureAddr, Sem.run_bind, Sem.run_pure, Result.andThen_ok, loadVar, hd w, Bool.false_eq_true, if_false, run_load, hl]
  exact h
theorem setRow_other (w : World) (g k : Nat) (c : Array Value) (h : k ≠ g) : (w.setRow g c).heap[k]? = w.heap[k]? := by
  unfold World.setRow
  simp only [Array.getElem?_modify]
  rw [if_neg (fun e => h e.symm)]
theorem setRow_size (w : World) (g : Nat) (c : Array Value) : (w.setRow g c).heap.size = w.heap.size := by
  unfold World.setRow
  simp
theorem Own.storeAt (HO : Own w0 X S bs rs F w) {b k : Nat} {t : TypeId} {cs vs : List Value} (hc : Chg bs ⟨b, t, cs⟩ ⟨b, t, cs.take k ++ vs ++ cs.drop (k + vs.length)⟩ bs') (hl : k + vs.length ≤ cs.length) (h1 : ∀ v ∈ vs, v.oneCell' = true) :
    ∃ W, (storeCells ⟨b, k, none⟩ vs).run P w = .ok () W ∧ Own w0 X S bs' rs F W := by
  have hb : Blk w b t cs.toArray := HO.box _ hc.mem.1
  have hr := run_storeCells_at (P := P) b k t vs 0 cs.toArray w hb (by simpa using hl) h1
  refine ⟨_, hr, HO.set hc ?_ (setRow_size _ _ _) ⟨rfl, rfl, rfl⟩ fun k hk => setRow_other _ _ _ _ hk⟩
  have := setRow_heap w b cs.toArray (cs.toArray.toList.take (k + 0) ++ vs ++ cs.toArray.toList.drop (k + 0 + vs.length)).toArray t (0, 0) hb
  show (w.setRow b _).heap[b]? = _
  simpa using this
theorem wo_store (HO : Hid (Own w0 X S bs rs F w)) {ty : TypeId} {x y : Operand} (ho : o.op = .store ty x y) (hdst : o.dst = none) {b : Nat} (hx : a.eval x = .pointer (some ⟨b, 0, none⟩)) {vs : List Value} (hy : a.eval y = .agg vs.toArray) {t : TypeId} {cs : List Value} (hc : Chg bs ⟨b, t, cs⟩ ⟨b, t, vs⟩ bs')
    {n : Nat} (hs : ∀ w, (sizeOf ty).run P w = .ok n w) (hn : vs.length = n) (hl : cs.length = vs.length) (h1 : ∀ v ∈ vs, v.oneCell' = true) (h : ∀ W, Hid (Own w0 X S bs' rs F W) → K a W) : WOp P o a w K Q := by
  subst hn
  obtain ⟨W, hr, hO⟩ := HO.out.storeAt (P := P) (k := 0) (vs := vs) (t := t) (b := b) (cs := cs) (bs' := bs') (by rw [show cs.drop (0 + vs.length) = [] from List.drop_eq_nil_of_le (by omega)]; simpa using hc) (by omega) h1
  unfold WOp Oper.wp execOp
  simp only [ho, hx, hy, Instr.storeAt, Instr.sureAddr, Sem.run_bind, Sem.run_pure, Result.andThen_ok, storeVar, hs w, Value.cells, List.size_toArray, ne_eq, not_true, if_false, hr]
  have := h W (Lib.hid hO)
  simpa [Oper.upon, hdst, Act.put] using this
theorem wo_store_at (HO : Hid (Own w0 X S bs rs F w)) {ty : TypeId} {x y : Operand} (ho : o.op = .store ty x y) (hdst : o.dst = none) {b k : Nat} (hx : a.eval x = .pointer (some ⟨b, k, none⟩)) {vs : List Value} (hy : a.eval y = .agg vs.toArray) {t : TypeId} {cs cs' : List Value} (hm : (⟨b, t, cs⟩ : Bx) ∈ bs) (hcs : cs.take k ++ vs ++ cs.drop (k + vs.length) = cs') (hc : Chg bs ⟨b, t, cs⟩ ⟨b, t, cs'⟩ bs')
    {n : Nat} (hs : ∀ w, (sizeOf ty).run P w = .ok n w) (hn : vs.length = n) (hl : k + vs.length ≤ cs.length) (h1 : ∀ v ∈ vs, v.oneCell' = true) (h : ∀ W, Hid (Own w0 X S bs' rs F W) → K a W) : WOp P o a w K Q := by
  subst hcs hn
  obtain ⟨W, hr, hO⟩ := HO.out.storeAt (P := P) hc hl h1
  unfold WOp Oper.wp execOp
  simp only [ho, hx, hy, Instr.storeAt, Instr.sureAddr, Sem.run_bind, Sem.run_pure, Result.andThen_ok, storeVar, hs w, Value.cells, List.size_toArray, ne_eq, not_true, if_false, hr]
  have := h W (Lib.hid hO)
  simpa [Oper.upon, hdst, Act.put] using this
theorem one_cells {v : Value} (h : v.oneCell' = true) : v.cells = #[v] := by cases v <;> first | rfl | simp [Value.oneCell'] at h
theorem wo_store1 (HO : Hid (Own w0 X S bs rs F w)) {ty : TypeId} {x y : Operand} (ho : o.op = .store ty x y) (hdst : o.dst = none) {b k : Nat} (hx : a.eval x = .pointer (some ⟨b, k, none⟩)) {v : Value} (hy : a.eval y = v) {t : TypeId} {cs cs' : List Value} (hm : (⟨b, t, cs⟩ : Bx) ∈ bs) (hcs : cs.set k v = cs') (hc : Chg bs ⟨b, t, cs⟩ ⟨b, t, cs'⟩ bs')
    (hs : ∀ w, (sizeOf ty).run P w = .ok 1 w) (hl : k < cs.length) (h1 : v.oneCell' = true) (h : ∀ W, Hid (Own w0 X S bs' rs F W) → K a W) : WOp P o a w K Q := by
  have e : cs.take k ++ [v] ++ cs.drop (k + [v].length) = cs' := by
    rw [← hcs, List.set_eq_take_append_cons_drop, if_pos hl]; simp
  subst e
  obtain ⟨W, hr, hO⟩ := HO.out.storeAt (P := P) (vs := [v]) hc (by simp only [List.length_cons, List.length_nil]; omega) (by simpa using h1)
  unfold WOp Oper.wp execOp
  simp only [ho, hx, hy, Instr.storeAt, Instr.sureAddr, Sem.run_bind, Sem.run_pure, Result.andThen_ok, storeVar, hs w, one_cells h1, List.size_toArray, List.length_cons, List.length_nil, Nat.zero_add, ne_eq, not_true, if_false, hr]
  have := h W (Lib.hid hO)
  simpa [Oper.upon, hdst, Act.put] using this
theorem wo_store1c (HO : Hid (Own w0 X S bs rs F w)) {ty : TypeId} {x : Operand} {v : Value} (ho : o.op = .store ty x (.const v)) (hdst : o.dst = none) {b k : Nat} (hx : a.eval x = .pointer (some ⟨b, k, none⟩)) {t : TypeId} {cs cs' : List Value} (hm : (⟨b, t, cs⟩ : Bx) ∈ bs) (hcs : cs.set k v = cs') (hc : Chg bs ⟨b, t, cs⟩ ⟨b, t, cs'⟩ bs')
    (hs : ∀ w, (sizeOf ty).run P w = .ok 1 w) (hl : k < cs.length) (h1 : v.oneCell' = true) (h : ∀ W, Hid (Own w0 X S bs' rs F W) → K a W) : WOp P o a w K Q := wo_store1 HO ho hdst hx rfl hm hcs hc hs hl h1 h
theorem wo_store1t (HO : Hid (Own w0 X S bs rs F w)) {ty : TypeId} {x : Operand} {i : Tmp} {v : Value} (ho : o.op = .store ty x (.tmp i)) (hdst : o.dst = none) {b k : Nat} (hx : a.eval x = .pointer (some ⟨b, k, none⟩)) (hy : a.tmps[i]? = some v) {t : TypeId} {cs cs' : List Value} (hm : (⟨b, t, cs⟩ : Bx) ∈ bs) (hcs : cs.set k v = cs') (hc : Chg bs ⟨b, t, cs⟩ ⟨b, t, cs'⟩ bs')
    (hs : ∀ w, (sizeOf ty).run P w = .ok 1 w) (hl : k < cs.length) (h1 : v.oneCell' = true) (h : ∀ W, Hid (Own w0 X S bs' rs F W) → K a W) : WOp P o a w K Q :=
  wo_store1 HO ho hdst hx (show a.tmps.getD i undef = v by rw [Array.getD_eq_getD_getElem?, hy]; rfl) hm hcs hc hs hl h1 h
theorem wo_alloc (HO : Hid (Own w0 X S bs rs F w)) {t : TypeId} (ho : o.op = .alloc t) {cs : List Value} (hz : ∀ w, (zeroValue t).run P w = .ok (.agg cs.toArray) w) (h : ∀ W, Hid (Own w0 X S (⟨w.heap.size, t, cs⟩ :: bs) rs F W) → K (a.put o.dst (.pointer (some ⟨w.heap.size, 0, none⟩))) W) : WOp P o a w K Q := by
  have := h _ (Lib.hid (HO.out.alloc t cs))
  unfold WOp Oper.wp execOp
  simp only [ho, Instr.alloc, Sem.run_bind, hz w, Result.andThen_ok]
  simpa [go_sem, Oper.upon, newVar, Value.cells] using this
theorem wo_box (HO : Hid (Own w0 X S bs rs F w)) {t : TypeId} {x : Operand} (ho : o.op = .box t x) {cs : List Value} (hx : a.eval x = .agg cs.toArray) (h : ∀ W, Hid (Own w0 X S (⟨w.heap.size, t, cs⟩ :: bs) rs F W) → K (a.put o.dst (.pointer (some ⟨w.heap.size, 0, none⟩))) W) : WOp P o a w K Q := by
  have := h _ (Lib.hid (HO.out.alloc t cs))
  unfold WOp Oper.wp execOp
  simp only [ho, hx, Instr.box, Sem.run_bind]
  simpa [go_sem, Oper.upon, newVar, Value.cells] using this
theorem ab_row (HO : Hid (Own w0 X S bs rs F w)) (e : TypeId) (size n : Nat) {cs : List Value} (hc : cs.length = n * size) (hn : n ≤ maxLen) (h : ∀ W, Hid (Own w0 X S bs (⟨e, size, .slice (some ⟨w.heap.size, 0, none⟩) n n, n, cs⟩ :: rs) F W) → K a W) : K a (w.alloc (.cells cs.toArray e)) :=
  h _ (Lib.hid (HO.out.litRow e size n cs hc hn))
theorem ab_junk (HO : Hid (Own w0 X S bs rs F w)) (e : TypeId) {cs : List Value} (h : ∀ W, Hid (Own w0 X S bs rs F W) → Hid (Blk W w.heap.size e cs.toArray) → K a W) : K a (w.alloc (.cells cs.toArray e)) :=
  h _ (Lib.hid (HO.out.junk _)) (Lib.hid (Blk.new _ _ _))
theorem ab_drew (HO : Hid (Own w0 X S bs rs F w)) (h : ∀ W, Hid (Own w0 X S bs rs F W) → K a W) : K a w.drew := h _ (Lib.hid HO.out.drew)
theorem to_field {d : Option Tmp} {ty T : TypeId} {x : Operand} {f : Nat} {ps : String} {af : Array Edge} {gd : Option (Nat × Bool)} (h : WOp P ⟨d, .field ty x f, T, ps, af, gd⟩ a w K Q) : Oper.wp P ⟨d, .field ty x f, T, ps, af, gd⟩ a w K Q := h
theorem wo_field1 {ty : TypeId} {x : Operand} {f : Nat} (ho : o.op = .field ty x f) {cs : List Value} (hx : a.eval x = .agg cs.toArray) {fs : Array Field} (hu : P.underlying ty = some (.struct fs)) {fd : Field} (hf : fs[f]? = some fd) {v : Value} (hv : cs[fd.offset]? = some v) (hd : ∀ w, (isAgg fd.type).run P w = .ok false w) (h : K (a.put o.dst v) w) : WOp P o a w K Q := by
  have hv2 : cs.toArray[fd.offset]? = some v := by simpa using hv
  unfold WOp Oper.wp execOp
  simp only [ho, hx, Instr.field, Sem.run_bind, run_underlying hu w, Result.andThen_ok, hf, asAgg, Sem.run_pure, part, hd w, Bool.false_eq_true, if_false, hv2]
  exact h
theorem bp_cell {fn : Func} {R : Ending → World → Prop} (HO : Hid (Own w0 X S bs rs F w)) {t : Tmp} {ty : TypeId} (hf : fn.results = #[.cell t ty]) {b : Nat} (hx : a.tmps.getD t undef = .pointer (some ⟨b, 0, none⟩)) {u : TypeId} {cs : List Value} (hm : (⟨b, u, cs⟩ : Bx) ∈ bs)
    (hd : ∀ w, (isAgg ty).run P w = .ok true w) {n : Nat} (hs : ∀ w, (sizeOf ty).run P w = .ok n w) (hn : cs.length = n) (hdef : a.defers = []) (h : R (.returned (.agg cs.toArray)) w) : bodyPost P fn R .ret a w := by
  subst hn
  have hl : (loadCells ⟨b, 0, none⟩ cs.length).run P w = .ok cs.toArray w :=
    run_loadCells_list (P := P) w ⟨b, 0, none⟩ cs (fun j v hv => by rw [Addr.add_mid]; exact HO.out.cells hm 0 j v (by simpa using hv))
  refine ⟨hdef, _, ?_, h⟩
  have hx2 : a.tmps[t]?.getD undef = .pointer (some ⟨b, 0, none⟩) := by rw [← hx]; simp
  simp [results, hf, hx2, asAddr, loadVar, Sem.run_bind, hd w, hs w, hl]
theorem bp_tmp {fn : Func} {R : Ending → World → Prop} {t : Tmp} (hf : fn.results = #[.tmp t]) {v : Value} (hx : a.tmps.getD t undef = v) (hdef : a.defers = []) (h : R (.returned v) w) : bodyPost P fn R .ret a w := by
  refine ⟨hdef, _, ?_, h⟩
  have hx2 : a.tmps[t]?.getD undef = v := by rw [← hx]; simp
  simp [results, hf, hx2]
theorem bp_none {fn : Func} {R : Ending → World → Prop} (hf : fn.results = #[]) (hdef : a.defers = []) (h : R (.returned (.tuple #[])) w) : bodyPost P fn R .ret a w := by
  refine ⟨hdef, _, ?_, h⟩
  simp [results, hf]
theorem bp_noneN {fn : Func} {R : Ending → World → Prop} (hf : fn.results = #[]) (hdef : a.defers = []) (h : R (.returned (.tuple #[])) w) : bodyPost P fn R .normal a w := by
  refine ⟨hdef, _, ?_, h⟩
  simp [results, hf]
end
open Go.RowKit
section
variable {P : Program} {ops : Array Oper} {Q : Exit → Act → World → Prop} {md : Region.Mode} {S : World → Prop} {late : List Nat}
def Anyw : World → Prop := fun _ => True
def wpAnyE (P : Program) (md : Region.Mode) (ops : Array Oper) (Q : Exit → Act → World → Prop) (S : World → Prop) (late : List Nat) : Nat → Array Bool → Act → World → Prop
  | 0, listed, a, w => Region.ready md ops listed = [] ∧ Q .normal a w
  | f + 1, listed, a, w => (Region.ready md ops listed = [] → Q .normal a w) ∧
      ∀ i ∈ Region.ready md ops listed, (late.contains i = false → wpOp P ops Q i (fun a' w' => S w' ∧ wpAnyE P md ops Q S late f (listed.setIfInBounds i true) a' w') a w) ∧
        (late.contains i = true → wpOp P ops Q i (wpAnyH P md ops Q Anyw f (listed.setIfInBounds i true)) a w)
theorem wpAny_of_E : ∀ (f : Nat) (listed : Array Bool) (a : Act) (w : World), wpAnyE P md ops Q S late f listed a w → wpAny P md ops Q f listed a w
  | 0, _, _, _, h => h
  | f + 1, _, _, _, h => ⟨h.1, fun i hi => by
      cases hl : late.contains i with
      | false => exact wpOp_mono (fun a' w' h' => wpAny_of_E f _ a' w' h'.2) ((h.2 i hi).1 hl)
      | true => exact wpOp_mono (fun a' w' h' => wpAny_of_held f _ a' w' h') ((h.2 i hi).2 hl)⟩
def waits (md : Region.Mode) (ops : Array Oper) (late : List Nat) (listed : Array Bool) (i : Nat) : Bool :=
  late.all fun j => !listed.getD j true && match ops[j]? with
    | some o => o.after.any fun e => Region.binds md e && (e.on == i || late.contains e.on)
    | none => true
theorem not_ready_late {i j : Nat} {listed : Array Bool} (hi : listed.getD i true = false) (hw : waits md ops late listed i = true) (hj : late.contains j = true) : j ∉ Region.ready md ops listed := by
  intro hr
  obtain ⟨h0, o, ho, hall⟩ := mem_ready.1 hr
  have hw2 := List.all_eq_true.1 hw
  have h1 := hw2 j (by simpa using hj)
  rw [Bool.and_eq_true, ho] at h1
  obtain ⟨_, h1⟩ := h1
  have h1' : (o.after.any fun e => Region.binds md e && (e.on == i || late.contains e.on)) = true := h1
  rw [Array.any_eq_true] at h1'
  obtain ⟨k, hk, h2⟩ := h1'
  have he : o.after[k] ∈ o.after := Array.getElem_mem hk
  generalize o.after[k] = e at he h2
  rw [Bool.and_eq_true, Bool.or_eq_true] at h2
  have h3 := hall e he h2.1
  have off : ∀ k, listed.getD k true = false → listed.getD k false = false := by
    intro k hk
    rcases Nat.lt_or_ge k listed.size with h | h
    · simp [h] at hk ⊢; exact hk
    · simp [Array.getElem?_eq_none h]
  rcases h2.2 with h4 | h4
  · rw [beq_iff_eq.1 h4, off i hi] at h3; cases h3
  · have h5 := hw2 e.on (by simpa using h4)
    rw [Bool.and_eq_true] at h5
    have h6 : listed.getD e.on true = false := by
      cases h : listed.getD e.on true
      · rfl
      · rw [h] at h5; cases h5.1
    rw [off _ h6] at h3; cases h3
theorem waits_set {i j : Nat} {listed : Array Bool} (hw : waits md ops late listed i = true) (hj : late.contains j = false) : waits md ops late (listed.setIfInBounds j true) i = true := by
  refine List.all_eq_true.2 fun k hk => ?_
  have := List.all_eq_true.1 hw k hk
  have hne : j ≠ k := fun e => by subst e; have : late.contains j = true := by simpa using hk
                                  rw [hj] at this; cases this
  rw [getD_set_ne true hne]
  exact this
theorem wpAnyE_first {i : Nat} {oi : Oper} {v : Value} (hi : ops[i]? = some oi) (hsel : ∀ (j : Nat) (o : Oper) cs b, ops[j]? = some o → o.op ≠ .select cs b)
    (hQ : ∀ c a w, Q (.panic c) (a.put oi.dst v) w → Q (.panic c) a w) (hil : late.contains i = false) :
    ∀ (f : Nat) (listed : Array Bool) (a : Act) (w : World),
      (∀ j oj, ops[j]? = some oj → j ≠ i → listed.getD j true = false → (∀ e ∈ oj.after, Region.binds md e = true → e.on ≠ i) → oi.apart ops oj = true) →
      i ∈ Region.ready md ops listed → YieldsIf P ops S oi v a → S w → (waits md ops late listed i = true ∨ YieldsIf P ops Anyw oi v a) →
      wpAnyE P md ops Q S late f (listed.setIfInBounds i true) (a.put oi.dst v) w → wpAnyE P md ops Q S late (f + 1) listed a w := by
  intro f
  induction f with
  | zero =>
    intro listed a w _ hr hy hS _ H
    refine ⟨fun h => (by rw [h] at hr; cases hr), fun j hj => ?_⟩
    by_cases hji : j = i
    · subst hji
      exact ⟨fun _ => hy.wpOp hi hS ⟨hS, H⟩, fun h => by rw [hil] at h; cases h⟩
    · have := ready_mono hj hji
      rw [H.1] at this
      cases this
  | succ f ih =>
    intro listed a w hfree hr hy hS hlate H
    refine ⟨fun h => (by rw [h] at hr; cases hr), fun j hj => ?_⟩
    by_cases hji : j = i
    · subst hji
      exact ⟨fun _ => hy.wpOp hi hS ⟨hS, H⟩, fun h => by rw [hil] at h; cases h⟩
    · have h1 := H.2 j (ready_mono hj hji)
      obtain ⟨hjun, oj, hoj, hall⟩ := mem_ready.1 hj
      have hi0 : listed.getD i true = false := (mem_ready.1 hr).1
      have hnot : ∀ e ∈ oj.after, Region.binds md e = true → e.on ≠ i := fun e he hb heq => by
        have h1 := hall e he hb
        rw [heq] at h1
        rcases Nat.lt_or_ge i listed.size with h' | h'
        · simp [h'] at hi0 h1; rw [hi0] at h1; cases h1
        · simp [Array.getElem?_eq_none h'] at h1
      have hap := hfree j oj hoj hji hjun hnot
      have hfree' : ∀ k ok, ops[k]? = some ok → k ≠ i → (listed.setIfInBounds j true).getD k true = false →
          (∀ e ∈ ok.after, Region.binds md e = true → e.on ≠ i) → oi.apart ops ok = true := fun k ok hk hki hun hno => by
        refine hfree k ok hk hki ?_ hno
        by_cases hjk : j = k
        · subst hjk; exact hjun
        · rw [getD_set_ne true hjk] at hun; exact hun
      have comm : (listed.setIfInBounds i true).setIfInBounds j true = (listed.setIfInBounds j true).setIfInBounds i true := Array.setIfInBounds_comm _ _ (Ne.symm hji)
      refine ⟨fun hl => ?_, fun hl => ?_⟩
      · have h2 := wpOp_putIf hoj hap (fun cs b => hsel i oi cs b hi) (fun cs b => hsel j oj cs b hoj) hQ hy (h1.1 hl)
        rcases hlate with hw | hany
        · refine wpOp_mono (fun a' w' h3 => ⟨h3.2.1, ih (listed.setIfInBounds j true) a' w' hfree' (ready_mono hr (Ne.symm hji)) h3.1 h3.2.1 (.inl (waits_set hw hl)) ?_⟩) h2
          rw [← comm]
          exact h3.2.2
        · have h4 := wpOp_putIf hoj hap (fun cs b => hsel i oi cs b hi) (fun cs b => hsel j oj cs b hoj) hQ hany (h1.1 hl)
          refine wpOp_mono (fun a' w' h3 => ⟨h3.2.1, ih (listed.setIfInBounds j true) a' w' hfree' (ready_mono hr (Ne.symm hji)) ?_ h3.2.1 (.inr h3.1) ?_⟩) h4
          · exact h3.1.imp (fun ⟨a, b⟩ => ⟨a, fun w _ => b w trivial⟩) id
          · rw [← comm]
            exact h3.2.2
      · rcases hlate with hw | hany
        · exact absurd hj (not_ready_late hi0 hw hl)
        · have h4 := wpOp_putIf hoj hap (fun cs b => hsel i oi cs b hi) (fun cs b => hsel j oj cs b hoj) hQ hany (h1.2 hl)
          refine wpOp_mono (fun a' w' h3 => wpAnyH_first (S := Anyw) hi hsel hQ f (listed.setIfInBounds j true) a' w' hfree' (ready_mono hr (Ne.symm hji)) h3.1 trivial ?_) h4
          rw [← comm]
          exact h3.2
theorem e_at {i : Nat} {oi : Oper} (h : (ops.toList.drop i).head? = some oi) : ops[i]? = some oi := by
  rw [List.head?_drop] at h
  simpa using h
theorem e_take {i : Nat} {oi : Oper} {v : Value} {f : Nat} {listed : Array Bool} {a : Act} {w : World} (hi : (ops.toList.drop i).head? = some oi)
    (hs : Region.noSelect ops = true) (hf : Region.free md ops listed i = true) (hr : (Region.ready md ops listed).contains i = true) (hil : late.contains i = false) (hw : waits md ops late listed i = true)
    (hQ : ∀ c a w, Q (.panic c) (a.put oi.dst v) w → Q (.panic c) a w) (hwa : Region.wanted oi (yielded ops a.tmps) = true) (hS : S w) (hy : ∀ w, S w → (execOp a.eval oi).run P w = .ok (.value v) w)
    (h : wpAnyE P md ops Q S late f (listed.setIfInBounds i true) (a.put oi.dst v) w) : wpAnyE P md ops Q S late (f + 1) listed a w :=
  wpAnyE_first (e_at hi) (Region.noSelect_spec hs) hQ hil f listed a w (Region.free_spec (e_at hi) hf) (by simpa using hr) (.inl ⟨hwa, hy⟩) hS (.inl hw) h
theorem e_pure {i : Nat} {oi : Oper} {v : Value} {f : Nat} {listed : Array Bool} {a : Act} {w : World} (hi : (ops.toList.drop i).head? = some oi)
    (hs : Region.noSelect ops = true) (hf : Region.free md ops listed i = true) (hr : (Region.ready md ops listed).contains i = true) (hil : late.contains i = false)
    (hQ : ∀ c a w, Q (.panic c) (a.put oi.dst v) w → Q (.panic c) a w) (hwa : Region.wanted oi (yielded ops a.tmps) = true) (hS : S w) (hy : ∀ w, (execOp a.eval oi).run P w = .ok (.value v) w)
    (h : wpAnyE P md ops Q S late f (listed.setIfInBounds i true) (a.put oi.dst v) w) : wpAnyE P md ops Q S late (f + 1) listed a w :=
  wpAnyE_first (e_at hi) (Region.noSelect_spec hs) hQ hil f listed a w (Region.free_spec (e_at hi) hf) (by simpa using hr) (.inl ⟨hwa, fun w _ => hy w⟩) hS (.inr (.inl ⟨hwa, fun w _ => hy w⟩)) h
theorem e_one {i : Nat} {oi : Oper} {f : Nat} {listed : Array Bool} {a : Act} {w : World} (hr : Region.ready md ops listed = [i]) (hi : (ops.toList.drop i).head? = some oi) (hil : late.contains i = false) (hwa : Region.wanted oi (yielded ops a.tmps) = true)
    (h : ∀ K : Act → World → Prop, Hid (∀ a' w', S w' → wpAnyE P md ops Q S late f (listed.setIfInBounds i true) a' w' → K a' w') → Oper.wp P oi a w K Q) : wpAnyE P md ops Q S late (f + 1) listed a w := by
  refine ⟨fun h0 => (by rw [hr] at h0; cases h0), fun j hj => ?_⟩
  rw [hr] at hj
  obtain rfl := List.mem_singleton.1 hj
  refine ⟨fun _ => ?_, fun h => by rw [hil] at h; cases h⟩
  unfold wpOp
  simp only [e_at hi, hwa, if_true]
  exact .inl (h _ (Lib.hid fun _ _ h1 h2 => ⟨h1, h2⟩))
theorem e_late {i : Nat} {oi : Oper} {f : Nat} {listed : Array Bool} {a : Act} {w : World} (hr : Region.ready md ops listed = [i]) (hi : (ops.toList.drop i).head? = some oi) (hil : late.contains i = true) (hwa : Region.wanted oi (yielded ops a.tmps) = true)
    (h : ∀ K : Act → World → Prop, Hid (∀ a' w', wpAnyH P md ops Q Anyw f (listed.setIfInBounds i true) a' w' → K a' w') → Oper.wp P oi a w K Q) : wpAnyE P md ops Q S late (f + 1) listed a w := by
  refine ⟨fun h0 => (by rw [hr] at h0; cases h0), fun j hj => ?_⟩
  rw [hr] at hj
  obtain rfl := List.mem_singleton.1 hj
  refine ⟨fun h => by rw [hil] at h; (first | cases h | exact absurd h (by simp)), fun _ => ?_⟩
  unfold wpOp
  simp only [e_at hi, hwa, if_true]
  exact .inl (h _ (Lib.hid fun _ _ h1 => h1))
theorem e_more {i : Nat} {oi : Oper} {f : Nat} {listed : Array Bool} {a : Act} {w : World} (hr : Region.ready md ops listed = [i]) (hi : (ops.toList.drop i).head? = some oi) (hwa : Region.wanted oi (yielded ops a.tmps) = true)
    (h : ∀ K : Act → World → Prop, Hid (∀ a' w', wpAnyH P md ops Q Anyw f (listed.setIfInBounds i true) a' w' → K a' w') → Oper.wp P oi a w K Q) : wpAnyH P md ops Q Anyw (f + 1) listed a w := by
  refine ⟨fun h0 => (by rw [hr] at h0; cases h0), fun j hj => ?_⟩
  rw [hr] at hj
  obtain rfl := List.mem_singleton.1 hj
  have h2 : wpOp P ops Q j (wpAnyH P md ops Q Anyw f (listed.setIfInBounds j true)) a w := by
    unfold wpOp
    simp only [e_at hi, hwa, if_true]
    exact .inl (h _ (Lib.hid fun _ _ h1 => h1))
  exact wpOp_mono (fun a' w' h3 => ⟨trivial, h3⟩) h2
theorem e_pureH {i : Nat} {oi : Oper} {v : Value} {f : Nat} {listed : Array Bool} {a : Act} {w : World} (hi : (ops.toList.drop i).head? = some oi)
    (hs : Region.noSelect ops = true) (hf : Region.free md ops listed i = true) (hr : (Region.ready md ops listed).contains i = true)
    (hQ : ∀ c a w, Q (.panic c) (a.put oi.dst v) w → Q (.panic c) a w) (hwa : Region.wanted oi (yielded ops a.tmps) = true) (hy : ∀ w, (execOp a.eval oi).run P w = .ok (.value v) w)
    (h : wpAnyH P md ops Q Anyw f (listed.setIfInBounds i true) (a.put oi.dst v) w) : wpAnyH P md ops Q Anyw (f + 1) listed a w :=
  wpAnyH_first (S := Anyw) (e_at hi) (Region.noSelect_spec hs) hQ f listed a w (Region.free_spec (e_at hi) hf) (by simpa using hr) (.inl ⟨hwa, fun w _ => hy w⟩) trivial h
theorem e_done {f : Nat} {listed : Array Bool} {a : Act} {w : World} (hr : Region.ready md ops listed = []) (h : Q .normal a w) : wpAnyH P md ops Q Anyw f listed a w := wpAnyH_done hr h f
theorem e_start {id : Nat} {a : Act} {w : World} (S : World → Prop) (late : List Nat) (hm : P.follows .mixedOrders = true)
    (h : wpAnyE P .any ops Q S late ops.size (Array.replicate ops.size false) a w.drew) : (Code.region id ops true).wp P Q a w :=
  wp_region_any hm (wpAny_of_E _ _ _ _ h)
theorem e_both {i j : Nat} {oi oj : Oper} {f : Nat} {listed : Array Bool} {a : Act} {w : World} (hr : Region.ready md ops listed = [i, j]) (hi : (ops.toList.drop i).head? = some oi) (hj : (ops.toList.drop j).head? = some oj) (hil : late.contains i = false) (hjl : late.contains j = false) (hwa : Region.wanted oi (yielded ops a.tmps) = true) (hwb : Region.wanted oj (yielded ops a.tmps) = true)
    (h1 : ∀ K : Act → World → Prop, Hid (∀ a' w', S w' → wpAnyE P md ops Q S late f (listed.setIfInBounds i true) a' w' → K a' w') → Oper.wp P oi a w K Q)
    (h2 : ∀ K : Act → World → Prop, Hid (∀ a' w', S w' → wpAnyE P md ops Q S late f (listed.setIfInBounds j true) a' w' → K a' w') → Oper.wp P oj a w K Q) : wpAnyE P md ops Q S late (f + 1) listed a w := by
  refine ⟨fun h0 => (by rw [hr] at h0; cases h0), fun k hk => ?_⟩
  rw [hr] at hk
  rcases List.mem_cons.1 hk with rfl | hk
  · refine ⟨fun _ => ?_, fun h => by rw [hil] at h; cases h⟩
    unfold wpOp
    simp only [e_at hi, hwa, if_true]
    exact .inl (h1 _ (Lib.hid fun _ _ h1 h2 => ⟨h1, h2⟩))
  · obtain rfl := List.mem_singleton.1 hk
    refine ⟨fun _ => ?_, fun h => by rw [hjl] at h; cases h⟩
    unfold wpOp
    simp only [e_at hj, hwb, if_true]
    exact .inl (h2 _ (Lib.hid fun _ _ h1 h2 => ⟨h1, h2⟩))
def OwnB (w0 : World) (X : List Nat) (bs : List Bx) (w : World) : Prop := ∃ St rs F, Own w0 X St bs rs F w
theorem e_begin {id : Nat} {a : Act} {w0 w : World} {X : List Nat} {St : World → Prop} {bs : List Bx} {rs : List Rw} {F : List Cold} (HO : Hid (Own w0 X St bs rs F w)) (late : List Nat) (hm : P.follows .mixedOrders = true)
    (h : ∀ W, Hid (Own w0 X St bs rs F W) → wpAnyE P .any ops Q (OwnB w0 X bs) late ops.size (Array.replicate ops.size false) a W) : (Code.region id ops true).wp P Q a w :=
  e_start _ late hm (h _ (Lib.hid HO.out.drew))
theorem OwnB.of {w0 w : World} {X : List Nat} {St : World → Prop} {bs : List Bx} {rs : List Rw} {F : List Cold} (HO : Hid (Own w0 X St bs rs F w)) : OwnB w0 X bs w := ⟨St, rs, F, HO.out⟩
theorem e_load {w0 : World} {X : List Nat} {St : World → Prop} {bs : List Bx} {rs : List Rw} {F : List Cold} {i : Nat} {oi : Oper} {f : Nat} {listed : Array Bool} {a : Act} {w : World} (HO : Hid (Own w0 X St bs rs F w)) (hi : (ops.toList.drop i).head? = some oi)
    (hs : Region.noSelect ops = true) (hf : Region.free md ops listed i = true) (hr : (Region.ready md ops listed).contains i = true) (hil : late.contains i = false) (hw : waits md ops late listed i = true)
    {ty : TypeId} {x : Operand} (ho : oi.op = .load ty x) {b : Nat} (hx : a.eval x = .pointer (some ⟨b, 0, none⟩)) {t : TypeId} {cs : List Value} (hm : (⟨b, t, cs⟩ : Bx) ∈ bs)
    (hd : ∀ w, (isAgg ty).run P w = .ok true w) {n : Nat} (hsz : ∀ w, (sizeOf ty).run P w = .ok n w) (hn : cs.length = n)
    (hQ : ∀ c a w, Q (.panic c) (a.put oi.dst (.agg cs.toArray)) w → Q (.panic c) a w) (hwa : Region.wanted oi (yielded ops a.tmps) = true)
    (h : wpAnyE P md ops Q (OwnB w0 X bs) late f (listed.setIfInBounds i true) (a.put oi.dst (.agg cs.toArray)) w) : wpAnyE P md ops Q (OwnB w0 X bs) late (f + 1) listed a w := by
  subst hn
  refine e_take hi hs hf hr hil hw hQ hwa (OwnB.of HO) (fun w' hS => ?_) h
  obtain ⟨St', rs', F', h'⟩ := hS
  have hl : (loadCells ⟨b, 0, none⟩ cs.length).run P w' = .ok cs.toArray w' :=
    run_loadCells_list (P := P) w' ⟨b, 0, none⟩ cs (fun j v hv => by rw [Addr.add_mid]; exact h'.cells hm 0 j v (by simpa using hv))
  unfold execOp
  simp only [ho, hx, Instr.loadAt, Instr.sureAddr, Sem.run_bind, Sem.run_pure, Result.andThen_ok, loadVar, hd w', if_true, hsz w', hl]
theorem e_load1 {w0 : World} {X : List Nat} {St : World → Prop} {bs : List Bx} {rs : List Rw} {F : List Cold} {i : Nat} {oi : Oper} {f : Nat} {listed : Array Bool} {a : Act} {w : World} (HO : Hid (Own w0 X St bs rs F w)) (hi : (ops.toList.drop i).head? = some oi)
    (hs : Region.noSelect ops = true) (hf : Region.free md ops listed i = true) (hr : (Region.ready md ops listed).contains i = true) (hil : late.contains i = false) (hw : waits md ops late listed i = true)
    {ty : TypeId} {x : Operand} (ho : oi.op = .load ty x) {b k : Nat} (hx : a.eval x = .pointer (some ⟨b, k, none⟩)) {t : TypeId} {cs : List Value} {v : Value} (hm : (⟨b, t, cs⟩ : Bx) ∈ bs)
    (hd : ∀ w, (isAgg ty).run P w = .ok false w) (hv : cs[k]? = some v)
    (hQ : ∀ c a w, Q (.panic c) (a.put oi.dst v) w → Q (.panic c) a w) (hwa : Region.wanted oi (yielded ops a.tmps) = true)
    (h : wpAnyE P md ops Q (OwnB w0 X bs) late f (listed.setIfInBounds i true) (a.put oi.dst v) w) : wpAnyE P md ops Q (OwnB w0 X bs) late (f + 1) listed a w := by
  refine e_take hi hs hf hr hil hw hQ hwa (OwnB.of HO) (fun w' hS => ?_) h
  obtain ⟨St', rs', F', h'⟩ := hS
  have hl : w'.cell? ⟨b, k, none⟩ = some v := h'.cells hm k 0 v (by rw [List.getElem?_drop]; exact hv)
  unfold execOp
  simp only [ho, hx, Instr.loadAt, Instr.sureAddr, Sem.run_bind, Sem.run_pure, Result.andThen_ok, loadVar, hd w', Bool.false_eq_true, if_false, run_load, hl]
end
end Go.Proofs.YtdiibenofbcfnaaGreat
