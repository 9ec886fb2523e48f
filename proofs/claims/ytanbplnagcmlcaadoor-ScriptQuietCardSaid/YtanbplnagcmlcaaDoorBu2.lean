/- Several texts put together: Box, ScrA, ScrB. -/
import Derived.Test.YtanbplnagcmlcaaDoorBu1
import Derived.Carry
import Derived.Test.YtanbplnagcmlcaaDoorShelf
import Derived.IntWalk
/- Boxes: blocks of a few cells that are known and may be written. -/
namespace Go.Proofs.YtanbplnagcmlcaaDoor
open Go.RowKit
theorem below_step {w a b : World} (h : Below w.heap.size w a) (p : Below a.heap.size a b) : Below w.heap.size w b := h.trans (p.mono h.size)
structure Box1 (w : World) (g : Nat) (v0 : Value) : Prop where
  c0 : w.cell? ⟨g, 0, none⟩ = some v0
  f0 : w.frozen? ⟨g, 0, none⟩ = false
  z : g < w.heap.size
section
variable {w w' : World} {g h : Nat} {v0 u0 : Value}
theorem Box1.below (b : Box1 w g v0) (q : Below w.heap.size w w') : Box1 w' g v0 :=
  ⟨(q.cell b.z).trans b.c0, (q.frozen b.z).trans b.f0, Nat.lt_of_lt_of_le b.z q.size⟩
theorem Box1.make (w : World) (v0 : Value) (T : TypeId) {g : Nat} (hg : g = w.heap.size) : Box1 (w.alloc (.cells #[v0] T)) g v0 := by
  subst hg; constructor <;> simp (maxDischargeDepth := 12) [go_sem]
theorem Box1.alloc (b : Box1 w g v0) (o : Obj) : Box1 (w.alloc o) g v0 := b.below ((Below.refl _ _).alloc (Nat.le_refl _) _)
theorem Box1.drew (b : Box1 w g v0) : Box1 w.drew g v0 := b.below (Below.refl _ _).drew
theorem Box1.drewN (b : Box1 w g v0) (k : Nat) : Box1 (w.drewN k) g v0 := b.below (below_drewN (Below.refl _ _) k)
theorem Box1.other (b : Box1 w g v0) (hne : h ≠ g) (j : Nat) (u : Value) : Box1 (w.setCell ⟨h, j, none⟩ u) g v0 := by
  obtain ⟨c0, f0, z⟩ := b
  have hn : g ≠ h := fun e => hne e.symm
  constructor <;> (first | (simp (maxDischargeDepth := 12) [go_sem, *]; done) | (simp; omega))
theorem Box1.set (b : Box1 w g v0) : Box1 (w.setCell ⟨g, 0, none⟩ u0) g u0 := by
  obtain ⟨c0, f0, z⟩ := b
  constructor <;> (first | (simp (maxDischargeDepth := 20) [go_sem, *]; done) | (simp; omega))
end
structure Box2 (w : World) (g : Nat) (v0 v1 : Value) : Prop where
  c0 : w.cell? ⟨g, 0, none⟩ = some v0
  c1 : w.cell? ⟨g, 1, none⟩ = some v1
  f0 : w.frozen? ⟨g, 0, none⟩ = false
  f1 : w.frozen? ⟨g, 1, none⟩ = false
  z : g < w.heap.size
section
variable {w w' : World} {g h : Nat} {v0 v1 u0 u1 : Value}
theorem Box2.below (b : Box2 w g v0 v1) (q : Below w.heap.size w w') : Box2 w' g v0 v1 :=
  ⟨(q.cell b.z).trans b.c0, (q.cell b.z).trans b.c1, (q.frozen b.z).trans b.f0, (q.frozen b.z).trans b.f1, Nat.lt_of_lt_of_le b.z q.size⟩
theorem Box2.make (w : World) (v0 v1 : Value) (T : TypeId) {g : Nat} (hg : g = w.heap.size) : Box2 (w.alloc (.cells #[v0, v1] T)) g v0 v1 := by
  subst hg; constructor <;> simp (maxDischargeDepth := 12) [go_sem]
theorem Box2.alloc (b : Box2 w g v0 v1) (o : Obj) : Box2 (w.alloc o) g v0 v1 := b.below ((Below.refl _ _).alloc (Nat.le_refl _) _)
theorem Box2.drew (b : Box2 w g v0 v1) : Box2 w.drew g v0 v1 := b.below (Below.refl _ _).drew
theorem Box2.drewN (b : Box2 w g v0 v1) (k : Nat) : Box2 (w.drewN k) g v0 v1 := b.below (below_drewN (Below.refl _ _) k)
theorem Box2.other (b : Box2 w g v0 v1) (hne : h ≠ g) (j : Nat) (u : Value) : Box2 (w.setCell ⟨h, j, none⟩ u) g v0 v1 := by
  obtain ⟨c0, c1, f0, f1, z⟩ := b
  have hn : g ≠ h := fun e => hne e.symm
  constructor <;> (first | (simp (maxDischargeDepth := 12) [go_sem, *]; done) | (simp; omega))
theorem Box2.set (b : Box2 w g v0 v1) : Box2 ((w.setCell ⟨g, 0, none⟩ u0).setCell ⟨g, 1, none⟩ u1) g u0 u1 := by
  obtain ⟨c0, c1, f0, f1, z⟩ := b
  constructor <;> (first | (simp (maxDischargeDepth := 20) [go_sem, *]; done) | (simp; omega))
end
structure Box3 (w : World) (g : Nat) (v0 v1 v2 : Value) : Prop where
  c0 : w.cell? ⟨g, 0, none⟩ = some v0
  c1 : w.cell? ⟨g, 1, none⟩ = some v1
  c2 : w.cell? ⟨g, 2, none⟩ = some v2
  f0 : w.frozen? ⟨g, 0, none⟩ = false
  f1 : w.frozen? ⟨g, 1, none⟩ = false
  f2 : w.frozen? ⟨g, 2, none⟩ = false
  z : g < w.heap.size
section
variable {w w' : World} {g h : Nat} {v0 v1 v2 u0 u1 u2 : Value}
theorem Box3.below (b : Box3 w g v0 v1 v2) (q : Below w.heap.size w w') : Box3 w' g v0 v1 v2 :=
  ⟨(q.cell b.z).trans b.c0, (q.cell b.z).trans b.c1, (q.cell b.z).trans b.c2, (q.frozen b.z).trans b.f0, (q.frozen b.z).trans b.f1, (q.frozen b.z).trans b.f2, Nat.lt_of_lt_of_le b.z q.size⟩
theorem Box3.make (w : World) (v0 v1 v2 : Value) (T : TypeId) {g : Nat} (hg : g = w.heap.size) : Box3 (w.alloc (.cells #[v0, v1, v2] T)) g v0 v1 v2 := by
  subst hg; constructor <;> simp (maxDischargeDepth := 12) [go_sem]
theorem Box3.alloc (b : Box3 w g v0 v1 v2) (o : Obj) : Box3 (w.alloc o) g v0 v1 v2 := b.below ((Below.refl _ _).alloc (Nat.le_refl _) _)
theorem Box3.drew (b : Box3 w g v0 v1 v2) : Box3 w.drew g v0 v1 v2 := b.below (Below.refl _ _).drew
theorem Box3.drewN (b : Box3 w g v0 v1 v2) (k : Nat) : Box3 (w.drewN k) g v0 v1 v2 := b.below (below_drewN (Below.refl _ _) k)
theorem Box3.other (b : Box3 w g v0 v1 v2) (hne : h ≠ g) (j : Nat) (u : Value) : Box3 (w.setCell ⟨h, j, none⟩ u) g v0 v1 v2 := by
  obtain ⟨c0, c1, c2, f0, f1, f2, z⟩ := b
  have hn : g ≠ h := fun e => hne e.symm
  constructor <;> (first | (simp (maxDischargeDepth := 12) [go_sem, *]; done) | (simp; omega))
theorem Box3.set (b : Box3 w g v0 v1 v2) : Box3 (((w.setCell ⟨g, 0, none⟩ u0).setCell ⟨g, 1, none⟩ u1).setCell ⟨g, 2, none⟩ u2) g u0 u1 u2 := by
  obtain ⟨c0, c1, c2, f0, f1, f2, z⟩ := b
  constructor <;> (first | (simp (maxDischargeDepth := 20) [go_sem, *]; done) | (simp; omega))
end
structure Box4 (w : World) (g : Nat) (v0 v1 v2 v3 : Value) : Prop where
  c0 : w.cell? ⟨g, 0, none⟩ = some v0
  c1 : w.cell? ⟨g, 1, none⟩ = some v1
  c2 : w.cell? ⟨g, 2, none⟩ = some v2
  c3 : w.cell? ⟨g, 3, none⟩ = some v3
  f0 : w.frozen? ⟨g, 0, none⟩ = false
  f1 : w.frozen? ⟨g, 1, none⟩ = false
  f2 : w.frozen? ⟨g, 2, none⟩ = false
  f3 : w.frozen? ⟨g, 3, none⟩ = false
  z : g < w.heap.size
section
variable {w w' : World} {g h : Nat} {v0 v1 v2 v3 u0 u1 u2 u3 : Value}
theorem Box4.below (b : Box4 w g v0 v1 v2 v3) (q : Below w.heap.size w w') : Box4 w' g v0 v1 v2 v3 :=
  ⟨(q.cell b.z).trans b.c0, (q.cell b.z).trans b.c1, (q.cell b.z).trans b.c2, (q.cell b.z).trans b.c3, (q.frozen b.z).trans b.f0, (q.frozen b.z).trans b.f1, (q.frozen b.z).trans b.f2, (q.frozen b.z).trans b.f3, Nat.lt_of_lt_of_le b.z q.size⟩
theorem Box4.make (w : World) (v0 v1 v2 v3 : Value) (T : TypeId) {g : Nat} (hg : g = w.heap.size) : Box4 (w.alloc (.cells #[v0, v1, v2, v3] T)) g v0 v1 v2 v3 := by
  subst hg; constructor <;> simp (maxDischargeDepth := 12) [go_sem]
theorem Box4.alloc (b : Box4 w g v0 v1 v2 v3) (o : Obj) : Box4 (w.alloc o) g v0 v1 v2 v3 := b.below ((Below.refl _ _).alloc (Nat.le_refl _) _)
theorem Box4.drew (b : Box4 w g v0 v1 v2 v3) : Box4 w.drew g v0 v1 v2 v3 := b.below (Below.refl _ _).drew
theorem Box4.drewN (b : Box4 w g v0 v1 v2 v3) (k : Nat) : Box4 (w.drewN k) g v0 v1 v2 v3 := b.below (below_drewN (Below.refl _ _) k)
theorem Box4.other (b : Box4 w g v0 v1 v2 v3) (hne : h ≠ g) (j : Nat) (u : Value) : Box4 (w.setCell ⟨h, j, none⟩ u) g v0 v1 v2 v3 := by
  obtain ⟨c0, c1, c2, c3, f0, f1, f2, f3, z⟩ := b
  have hn : g ≠ h := fun e => hne e.symm
  constructor <;> (first | (simp (maxDischargeDepth := 12) [go_sem, *]; done) | (simp; omega))
theorem Box4.set (b : Box4 w g v0 v1 v2 v3) : Box4 ((((w.setCell ⟨g, 0, none⟩ u0).setCell ⟨g, 1, none⟩ u1).setCell ⟨g, 2, none⟩ u2).setCell ⟨g, 3, none⟩ u3) g u0 u1 u2 u3 := by
  obtain ⟨c0, c1, c2, c3, f0, f1, f2, f3, z⟩ := b
  constructor <;> (first | (simp (maxDischargeDepth := 20) [go_sem, *]; done) | (simp; omega))
end
structure Box5 (w : World) (g : Nat) (v0 v1 v2 v3 v4 : Value) : Prop where
  c0 : w.cell? ⟨g, 0, none⟩ = some v0
  c1 : w.cell? ⟨g, 1, none⟩ = some v1
  c2 : w.cell? ⟨g, 2, none⟩ = some v2
  c3 : w.cell? ⟨g, 3, none⟩ = some v3
  c4 : w.cell? ⟨g, 4, none⟩ = some v4
  f0 : w.frozen? ⟨g, 0, none⟩ = false
  f1 : w.frozen? ⟨g, 1, none⟩ = false
  f2 : w.frozen? ⟨g, 2, none⟩ = false
  f3 : w.frozen? ⟨g, 3, none⟩ = false
  f4 : w.frozen? ⟨g, 4, none⟩ = false
  z : g < w.heap.size
section
variable {w w' : World} {g h : Nat} {v0 v1 v2 v3 v4 u0 u1 u2 u3 u4 : Value}
theorem Box5.below (b : Box5 w g v0 v1 v2 v3 v4) (q : Below w.heap.size w w') : Box5 w' g v0 v1 v2 v3 v4 :=
  ⟨(q.cell b.z).trans b.c0, (q.cell b.z).trans b.c1, (q.cell b.z).trans b.c2, (q.cell b.z).trans b.c3, (q.cell b.z).trans b.c4, (q.frozen b.z).trans b.f0, (q.frozen b.z).trans b.f1, (q.frozen b.z).trans b.f2, (q.frozen b.z).trans b.f3, (q.frozen b.z).trans b.f4, Nat.lt_of_lt_of_le b.z q.size⟩
theorem Box5.make (w : World) (v0 v1 v2 v3 v4 : Value) (T : TypeId) {g : Nat} (hg : g = w.heap.size) : Box5 (w.alloc (.cells #[v0, v1, v2, v3, v4] T)) g v0 v1 v2 v3 v4 := by
  subst hg; constructor <;> simp (maxDischargeDepth := 12) [go_sem]
theorem Box5.alloc (b : Box5 w g v0 v1 v2 v3 v4) (o : Obj) : Box5 (w.alloc o) g v0 v1 v2 v3 v4 := b.below ((Below.refl _ _).alloc (Nat.le_refl _) _)
theorem Box5.drew (b : Box5 w g v0 v1 v2 v3 v4) : Box5 w.drew g v0 v1 v2 v3 v4 := b.below (Below.refl _ _).drew
theorem Box5.drewN (b : Box5 w g v0 v1 v2 v3 v4) (k : Nat) : Box5 (w.drewN k) g v0 v1 v2 v3 v4 := b.below (below_drewN (Below.refl _ _) k)
theorem Box5.other (b : Box5 w g v0 v1 v2 v3 v4) (hne : h ≠ g) (j : Nat) (u : Value) : Box5 (w.setCell ⟨h, j, none⟩ u) g v0 v1 v2 v3 v4 := by
  obtain ⟨c0, c1, c2, c3, c4, f0, f1, f2, f3, f4, z⟩ := b
  have hn : g ≠ h := fun e => hne e.symm
  constructor <;> (first | (simp (maxDischargeDepth := 12) [go_sem, *]; done) | (simp; omega))
theorem Box5.set (b : Box5 w g v0 v1 v2 v3 v4) : Box5 (((((w.setCell ⟨g, 0, none⟩ u0).setCell ⟨g, 1, none⟩ u1).setCell ⟨g, 2, none⟩ u2).setCell ⟨g, 3, none⟩ u3).setCell ⟨g, 4, none⟩ u4) g u0 u1 u2 u3 u4 := by
  obtain ⟨c0, c1, c2, c3, c4, f0, f1, f2, f3, f4, z⟩ := b
  constructor <;> (first | (simp (maxDischargeDepth := 20) [go_sem, *]; done) | (simp; omega))
end
structure Box6 (w : World) (g : Nat) (v0 v1 v2 v3 v4 v5 : Value) : Prop where
  c0 : w.cell? ⟨g, 0, none⟩ = some v0
  c1 : w.cell? ⟨g, 1, none⟩ = some v1
  c2 : w.cell? ⟨g, 2, none⟩ = some v2
  c3 : w.cell? ⟨g, 3, none⟩ = some v3
  c4 : w.cell? ⟨g, 4, none⟩ = some v4
  c5 : w.cell? ⟨g, 5, none⟩ = some v5
  f0 : w.frozen? ⟨g, 0, none⟩ = false
  f1 : w.frozen? ⟨g, 1, none⟩ = false
  f2 : w.frozen? ⟨g, 2, none⟩ = false
  f3 : w.frozen? ⟨g, 3, none⟩ = false
  f4 : w.frozen? ⟨g, 4, none⟩ = false
  f5 : w.frozen? ⟨g, 5, none⟩ = false
  z : g < w.heap.size
section
variable {w w' : World} {g h : Nat} {v0 v1 v2 v3 v4 v5 u0 u1 u2 u3 u4 u5 : Value}
theorem Box6.below (b : Box6 w g v0 v1 v2 v3 v4 v5) (q : Below w.heap.size w w') : Box6 w' g v0 v1 v2 v3 v4 v5 :=
  ⟨(q.cell b.z).trans b.c0, (q.cell b.z).trans b.c1, (q.cell b.z).trans b.c2, (q.cell b.z).trans b.c3, (q.cell b.z).trans b.c4, (q.cell b.z).trans b.c5, (q.frozen b.z).trans b.f0, (q.frozen b.z).trans b.f1, (q.frozen b.z).trans b.f2, (q.frozen b.z).trans b.f3, (q.frozen b.z).trans b.f4, (q.frozen b.z).trans b.f5, Nat.lt_of_lt_of_le b.z q.size⟩
theorem Box6.make (w : World) (v0 v1 v2 v3 v4 v5 : Value) (T : TypeId) {g : Nat} (hg : g = w.heap.size) : Box6 (w.alloc (.cells #[v0, v1, v2, v3, v4, v5] T)) g v0 v1 v2 v3 v4 v5 := by
  subst hg; constructor <;> simp (maxDischargeDepth := 12) [go_sem]
theorem Box6.alloc (b : Box6 w g v0 v1 v2 v3 v4 v5) (o : Obj) : Box6 (w.alloc o) g v0 v1 v2 v3 v4 v5 := b.below ((Below.refl _ _).alloc (Nat.le_refl _) _)
theorem Box6.drew (b : Box6 w g v0 v1 v2 v3 v4 v5) : Box6 w.drew g v0 v1 v2 v3 v4 v5 := b.below (Below.refl _ _).drew
theorem Box6.drewN (b : Box6 w g v0 v1 v2 v3 v4 v5) (k : Nat) : Box6 (w.drewN k) g v0 v1 v2 v3 v4 v5 := b.below (below_drewN (Below.refl _ _) k)
theorem Box6.other (b : Box6 w g v0 v1 v2 v3 v4 v5) (hne : h ≠ g) (j : Nat) (u : Value) : Box6 (w.setCell ⟨h, j, none⟩ u) g v0 v1 v2 v3 v4 v5 := by
  obtain ⟨c0, c1, c2, c3, c4, c5, f0, f1, f2, f3, f4, f5, z⟩ := b
  have hn : g ≠ h := fun e => hne e.symm
  constructor <;> (first | (simp (maxDischargeDepth := 12) [go_sem, *]; done) | (simp; omega))
theorem Box6.set (b : Box6 w g v0 v1 v2 v3 v4 v5) : Box6 ((((((w.setCell ⟨g, 0, none⟩ u0).setCell ⟨g, 1, none⟩ u1).setCell ⟨g, 2, none⟩ u2).setCell ⟨g, 3, none⟩ u3).setCell ⟨g, 4, none⟩ u4).setCell ⟨g, 5, none⟩ u5) g u0 u1 u2 u3 u4 u5 := by
  obtain ⟨c0, c1, c2, c3, c4, c5, f0, f1, f2, f3, f4, f5, z⟩ := b
  constructor <;> (first | (simp (maxDischargeDepth := 20) [go_sem, *]; done) | (simp; omega))
end
structure Box7 (w : World) (g : Nat) (v0 v1 v2 v3 v4 v5 v6 : Value) : Prop where
  c0 : w.cell? ⟨g, 0, none⟩ = some v0
  c1 : w.cell? ⟨g, 1, none⟩ = some v1
  c2 : w.cell? ⟨g, 2, none⟩ = some v2
  c3 : w.cell? ⟨g, 3, none⟩ = some v3
  c4 : w.cell? ⟨g, 4, none⟩ = some v4
  c5 : w.cell? ⟨g, 5, none⟩ = some v5
  c6 : w.cell? ⟨g, 6, none⟩ = some v6
  f0 : w.frozen? ⟨g, 0, none⟩ = false
  f1 : w.frozen? ⟨g, 1, none⟩ = false
  f2 : w.frozen? ⟨g, 2, none⟩ = false
  f3 : w.frozen? ⟨g, 3, none⟩ = false
  f4 : w.frozen? ⟨g, 4, none⟩ = false
  f5 : w.frozen? ⟨g, 5, none⟩ = false
  f6 : w.frozen? ⟨g, 6, none⟩ = false
  z : g < w.heap.size
section
variable {w w' : World} {g h : Nat} {v0 v1 v2 v3 v4 v5 v6 u0 u1 u2 u3 u4 u5 u6 : Value}
theorem Box7.below (b : Box7 w g v0 v1 v2 v3 v4 v5 v6) (q : Below w.heap.size w w') : Box7 w' g v0 v1 v2 v3 v4 v5 v6 :=
  ⟨(q.cell b.z).trans b.c0, (q.cell b.z).trans b.c1, (q.cell b.z).trans b.c2, (q.cell b.z).trans b.c3, (q.cell b.z).trans b.c4, (q.cell b.z).trans b.c5, (q.cell b.z).trans b.c6, (q.frozen b.z).trans b.f0, (q.frozen b.z).trans b.f1, (q.frozen b.z).trans b.f2, (q.frozen b.z).trans b.f3, (q.frozen b.z).trans b.f4, (q.frozen b.z).trans b.f5, (q.frozen b.z).trans b.f6, Nat.lt_of_lt_of_le b.z q.size⟩
theorem Box7.make (w : World) (v0 v1 v2 v3 v4 v5 v6 : Value) (T : TypeId) {g : Nat} (hg : g = w.heap.size) : Box7 (w.alloc (.cells #[v0, v1, v2, v3, v4, v5, v6] T)) g v0 v1 v2 v3 v4 v5 v6 := by
  subst hg; constructor <;> simp (maxDischargeDepth := 12) [go_sem]
theorem Box7.alloc (b : Box7 w g v0 v1 v2 v3 v4 v5 v6) (o : Obj) : Box7 (w.alloc o) g v0 v1 v2 v3 v4 v5 v6 := b.below ((Below.refl _ _).alloc (Nat.le_refl _) _)
theorem Box7.drew (b : Box7 w g v0 v1 v2 v3 v4 v5 v6) : Box7 w.drew g v0 v1 v2 v3 v4 v5 v6 := b.below (Below.refl _ _).drew
theorem Box7.drewN (b : Box7 w g v0 v1 v2 v3 v4 v5 v6) (k : Nat) : Box7 (w.drewN k) g v0 v1 v2 v3 v4 v5 v6 := b.below (below_drewN (Below.refl _ _) k)
theorem Box7.other (b : Box7 w g v0 v1 v2 v3 v4 v5 v6) (hne : h ≠ g) (j : Nat) (u : Value) : Box7 (w.setCell ⟨h, j, none⟩ u) g v0 v1 v2 v3 v4 v5 v6 := by
  obtain ⟨c0, c1, c2, c3, c4, c5, c6, f0, f1, f2, f3, f4, f5, f6, z⟩ := b
  have hn : g ≠ h := fun e => hne e.symm
  constructor <;> (first | (simp (maxDischargeDepth := 12) [go_sem, *]; done) | (simp; omega))
theorem Box7.set (b : Box7 w g v0 v1 v2 v3 v4 v5 v6) : Box7 (((((((w.setCell ⟨g, 0, none⟩ u0).setCell ⟨g, 1, none⟩ u1).setCell ⟨g, 2, none⟩ u2).setCell ⟨g, 3, none⟩ u3).setCell ⟨g, 4, none⟩ u4).setCell ⟨g, 5, none⟩ u5).setCell ⟨g, 6, none⟩ u6) g u0 u1 u2 u3 u4 u5 u6 := by
  obtain ⟨c0, c1, c2, c3, c4, c5, c6, f0, f1, f2, f3, f4, f5, f6, z⟩ := b
  constructor <;> (first | (simp (maxDischargeDepth := 20) [go_sem, *]; done) | (simp; omega))
end
structure Box8 (w : World) (g : Nat) (v0 v1 v2 v3 v4 v5 v6 v7 : Value) : Prop where
  c0 : w.cell? ⟨g, 0, none⟩ = some v0
  c1 : w.cell? ⟨g, 1, none⟩ = some v1
  c2 : w.cell? ⟨g, 2, none⟩ = some v2
  c3 : w.cell? ⟨g, 3, none⟩ = some v3
  c4 : w.cell? ⟨g, 4, none⟩ = some v4
  c5 : w.cell? ⟨g, 5, none⟩ = some v5
  c6 : w.cell? ⟨g, 6, none⟩ = some v6
  c7 : w.cell? ⟨g, 7, none⟩ = some v7
  f0 : w.frozen? ⟨g, 0, none⟩ = false
  f1 : w.frozen? ⟨g, 1, none⟩ = false
  f2 : w.frozen? ⟨g, 2, none⟩ = false
  f3 : w.frozen? ⟨g, 3, none⟩ = false
  f4 : w.frozen? ⟨g, 4, none⟩ = false
  f5 : w.frozen? ⟨g, 5, none⟩ = false
  f6 : w.frozen? ⟨g, 6, none⟩ = false
  f7 : w.frozen? ⟨g, 7, none⟩ = false
  z : g < w.heap.size
section
variable {w w' : World} {g h : Nat} {v0 v1 v2 v3 v4 v5 v6 v7 u0 u1 u2 u3 u4 u5 u6 u7 : Value}
theorem Box8.below (b : Box8 w g v0 v1 v2 v3 v4 v5 v6 v7) (q : Below w.heap.size w w') : Box8 w' g v0 v1 v2 v3 v4 v5 v6 v7 :=
  ⟨(q.cell b.z).trans b.c0, (q.cell b.z).trans b.c1, (q.cell b.z).trans b.c2, (q.cell b.z).trans b.c3, (q.cell b.z).trans b.c4, (q.cell b.z).trans b.c5, (q.cell b.z).trans b.c6, (q.cell b.z).trans b.c7, (q.frozen b.z).trans b.f0, (q.frozen b.z).trans b.f1, (q.frozen b.z).trans b.f2, (q.frozen b.z).trans b.f3, (q.frozen b.z).trans b.f4, (q.frozen b.z).trans b.f5, (q.frozen b.z).trans b.f6, (q.frozen b.z).trans b.f7, Nat.lt_of_lt_of_le b.z q.size⟩
theorem Box8.make (w : World) (v0 v1 v2 v3 v4 v5 v6 v7 : Value) (T : TypeId) {g : Nat} (hg : g = w.heap.size) : Box8 (w.alloc (.cells #[v0, v1, v2, v3, v4, v5, v6, v7] T)) g v0 v1 v2 v3 v4 v5 v6 v7 := by
  subst hg; constructor <;> simp (maxDischargeDepth := 12) [go_sem]
theorem Box8.alloc (b : Box8 w g v0 v1 v2 v3 v4 v5 v6 v7) (o : Obj) : Box8 (w.alloc o) g v0 v1 v2 v3 v4 v5 v6 v7 := b.below ((Below.refl _ _).alloc (Nat.le_refl _) _)
theorem Box8.drew (b : Box8 w g v0 v1 v2 v3 v4 v5 v6 v7) : Box8 w.drew g v0 v1 v2 v3 v4 v5 v6 v7 := b.below (Below.refl _ _).drew
theorem Box8.drewN (b : Box8 w g v0 v1 v2 v3 v4 v5 v6 v7) (k : Nat) : Box8 (w.drewN k) g v0 v1 v2 v3 v4 v5 v6 v7 := b.below (below_drewN (Below.refl _ _) k)
theorem Box8.other (b : Box8 w g v0 v1 v2 v3 v4 v5 v6 v7) (hne : h ≠ g) (j : Nat) (u : Value) : Box8 (w.setCell ⟨h, j, none⟩ u) g v0 v1 v2 v3 v4 v5 v6 v7 := by
  obtain ⟨c0, c1, c2, c3, c4, c5, c6, c7, f0, f1, f2, f3, f4, f5, f6, f7, z⟩ := b
  have hn : g ≠ h := fun e => hne e.symm
  constructor <;> (first | (simp (maxDischargeDepth := 12) [go_sem, *]; done) | (simp; omega))
theorem Box8.set (b : Box8 w g v0 v1 v2 v3 v4 v5 v6 v7) : Box8 ((((((((w.setCell ⟨g, 0, none⟩ u0).setCell ⟨g, 1, none⟩ u1).setCell ⟨g, 2, none⟩ u2).setCell ⟨g, 3, none⟩ u3).setCell ⟨g, 4, none⟩ u4).setCell ⟨g, 5, none⟩ u5).setCell ⟨g, 6, none⟩ u6).setCell ⟨g, 7, none⟩ u7) g u0 u1 u2 u3 u4 u5 u6 u7 := by
  obtain ⟨c0, c1, c2, c3, c4, c5, c6, c7, f0, f1, f2, f3, f4, f5, f6, f7, z⟩ := b
  constructor <;> (first | (simp (maxDischargeDepth := 20) [go_sem, *]; done) | (simp; omega))
end
structure Box9 (w : World) (g : Nat) (v0 v1 v2 v3 v4 v5 v6 v7 v8 : Value) : Prop where
  c0 : w.cell? ⟨g, 0, none⟩ = some v0
  c1 : w.cell? ⟨g, 1, none⟩ = some v1
  c2 : w.cell? ⟨g, 2, none⟩ = some v2
  c3 : w.cell? ⟨g, 3, none⟩ = some v3
  c4 : w.cell? ⟨g, 4, none⟩ = some v4
  c5 : w.cell? ⟨g, 5, none⟩ = some v5
  c6 : w.cell? ⟨g, 6, none⟩ = some v6
  c7 : w.cell? ⟨g, 7, none⟩ = some v7
  c8 : w.cell? ⟨g, 8, none⟩ = some v8
  f0 : w.frozen? ⟨g, 0, none⟩ = false
  f1 : w.frozen? ⟨g, 1, none⟩ = false
  f2 : w.frozen? ⟨g, 2, none⟩ = false
  f3 : w.frozen? ⟨g, 3, none⟩ = false
  f4 : w.frozen? ⟨g, 4, none⟩ = false
  f5 : w.frozen? ⟨g, 5, none⟩ = false
  f6 : w.frozen? ⟨g, 6, none⟩ = false
  f7 : w.frozen? ⟨g, 7, none⟩ = false
  f8 : w.frozen? ⟨g, 8, none⟩ = false
  z : g < w.heap.size
section
variable {w w' : World} {g h : Nat} {v0 v1 v2 v3 v4 v5 v6 v7 v8 u0 u1 u2 u3 u4 u5 u6 u7 u8 : Value}
theorem Box9.below (b : Box9 w g v0 v1 v2 v3 v4 v5 v6 v7 v8) (q : Below w.heap.size w w') : Box9 w' g v0 v1 v2 v3 v4 v5 v6 v7 v8 :=
  ⟨(q.cell b.z).trans b.c0, (q.cell b.z).trans b.c1, (q.cell b.z).trans b.c2, (q.cell b.z).trans b.c3, (q.cell b.z).trans b.c4, (q.cell b.z).trans b.c5, (q.cell b.z).trans b.c6, (q.cell b.z).trans b.c7, (q.cell b.z).trans b.c8, (q.frozen b.z).trans b.f0, (q.frozen b.z).trans b.f1, (q.frozen b.z).trans b.f2, (q.frozen b.z).trans b.f3, (q.frozen b.z).trans b.f4, (q.frozen b.z).trans b.f5, (q.frozen b.z).trans b.f6, (q.frozen b.z).trans b.f7, (q.frozen b.z).trans b.f8, Nat.lt_of_lt_of_le b.z q.size⟩
theorem Box9.make (w : World) (v0 v1 v2 v3 v4 v5 v6 v7 v8 : Value) (T : TypeId) {g : Nat} (hg : g = w.heap.size) : Box9 (w.alloc (.cells #[v0, v1, v2, v3, v4, v5, v6, v7, v8] T)) g v0 v1 v2 v3 v4 v5 v6 v7 v8 := by
  subst hg; constructor <;> simp (maxDischargeDepth := 12) [go_sem]
theorem Box9.alloc (b : Box9 w g v0 v1 v2 v3 v4 v5 v6 v7 v8) (o : Obj) : Box9 (w.alloc o) g v0 v1 v2 v3 v4 v5 v6 v7 v8 := b.below ((Below.refl _ _).alloc (Nat.le_refl _) _)
theorem Box9.drew (b : Box9 w g v0 v1 v2 v3 v4 v5 v6 v7 v8) : Box9 w.drew g v0 v1 v2 v3 v4 v5 v6 v7 v8 := b.below (Below.refl _ _).drew
theorem Box9.drewN (b : Box9 w g v0 v1 v2 v3 v4 v5 v6 v7 v8) (k : Nat) : Box9 (w.drewN k) g v0 v1 v2 v3 v4 v5 v6 v7 v8 := b.below (below_drewN (Below.refl _ _) k)
theorem Box9.other (b : Box9 w g v0 v1 v2 v3 v4 v5 v6 v7 v8) (hne : h ≠ g) (j : Nat) (u : Value) : Box9 (w.setCell ⟨h, j, none⟩ u) g v0 v1 v2 v3 v4 v5 v6 v7 v8 := by
  obtain ⟨c0, c1, c2, c3, c4, c5, c6, c7, c8, f0, f1, f2, f3, f4, f5, f6, f7, f8, z⟩ := b
  have hn : g ≠ h := fun e => hne e.symm
  constructor <;> (first | (simp (maxDischargeDepth := 12) [go_sem, *]; done) | (simp; omega))
theorem Box9.set (b : Box9 w g v0 v1 v2 v3 v4 v5 v6 v7 v8) : Box9 (((((((((w.setCell ⟨g, 0, none⟩ u0).setCell ⟨g, 1, none⟩ u1).setCell ⟨g, 2, none⟩ u2).setCell ⟨g, 3, none⟩ u3).setCell ⟨g, 4, none⟩ u4).setCell ⟨g, 5, none⟩ u5).setCell ⟨g, 6, none⟩ u6).setCell ⟨g, 7, none⟩ u7).setCell ⟨g, 8, none⟩ u8) g u0 u1 u2 u3 u4 u5 u6 u7 u8 := by
  obtain ⟨c0, c1, c2, c3, c4, c5, c6, c7, c8, f0, f1, f2, f3, f4, f5, f6, f7, f8, z⟩ := b
  constructor <;> (first | (simp (maxDischargeDepth := 20) [go_sem, *]; done) | (simp; omega))
end
end Go.Proofs.YtanbplnagcmlcaaDoor

/- Layer 24: words of lines, and what each has. -/
namespace Go.Proofs.YtanbplnagcmlcaaDoor
open Go.RowKit
/-- The word of an event's kind. -/
def wordL : Nat → List Nat
  | 0 => [97, 114, 114, 105, 118, 101]
  | 1 => [100, 97, 116, 97]
  | 2 => [102, 105, 110]
  | 3 => [114, 101, 115, 101, 116]
  | 4 => [119, 105, 110, 100, 111, 119]
  | 5 => [117, 112]
  | 6 => [114, 101, 102, 117, 115, 101]
  | _ => [116, 105, 99, 107]
/-- Has it a connection, a number, a text? -/
def hasC (k : Nat) : Bool := k != 0 && k != 7
def hasN (k : Nat) : Bool := k == 0 || k == 4 || k == 5 || k == 7
def hasT (k : Nat) : Bool := k == 1
def shapeV (k : Nat) : Value := .agg #[.int .i64 (k : Int), .bool (hasC k), .bool (hasN k), .bool (hasT k)]
def shapesE : Array MapEntry := #[⟨.string { data := #[97, 114, 114, 105, 118, 101] }, .agg #[.int .i64 0, .bool false, .bool true, .bool false], 0⟩, ⟨.string { data := #[100, 97, 116, 97] }, .agg #[.int .i64 1, .bool true, .bool false, .bool true], 1⟩, ⟨.string { data := #[102, 105, 110] }, .agg #[.int .i64 2, .bool true, .bool false, .bool false], 2⟩, ⟨.string { data := #[114, 101, 115, 101, 116] }, .agg #[.int .i64 3, .bool true, .bool false, .bool false], 3⟩, ⟨.string { data := #[119, 105, 110, 100, 111, 119] }, .agg #[.int .i64 4, .bool true, .bool true, .bool false], 4⟩, ⟨.string { data := #[117, 112] }, .agg #[.int .i64 5, .bool true, .bool true, .bool false], 5⟩, ⟨.string { data := #[114, 101, 102, 117, 115, 101] }, .agg #[.int .i64 6, .bool true, .bool false, .bool false], 6⟩, ⟨.string { data := #[116, 105, 99, 107] }, .agg #[.int .i64 7, .bool false, .bool true, .bool false], 7⟩]
def shapesO : Obj := .map shapesE 8
theorem wordL_lt (k : Nat) : ∀ x ∈ wordL k, x < 256 := by
  unfold wordL; split <;> decide
theorem kinds {k : Nat} (h : k < 8) : k = 0 ∨ k = 1 ∨ k = 2 ∨ k = 3 ∨ k = 4 ∨ k = 5 ∨ k = 6 ∨ k = 7 := by omega
theorem word_lit {k : Nat} (h : k < 8) : strN (wordL k) = match k with | 0 => { data := #[97, 114, 114, 105, 118, 101] } | 1 => { data := #[100, 97, 116, 97] } | 2 => { data := #[102, 105, 110] } | 3 => { data := #[114, 101, 115, 101, 116] } | 4 => { data := #[119, 105, 110, 100, 111, 119] } | 5 => { data := #[117, 112] } | 6 => { data := #[114, 101, 102, 117, 115, 101] } | _ => { data := #[116, 105, 99, 107] } := by
  rcases kinds h with rfl | rfl | rfl | rfl | rfl | rfl | rfl | rfl <;> rfl
theorem push_set (h : Array Obj) (a b : Obj) : (h.push a).setIfInBounds h.size b = h.push b := by
  apply Array.ext_getElem?
  intro i
  rw [Array.getElem?_setIfInBounds, Array.getElem?_push, Array.getElem?_push, Array.size_push]
  by_cases h' : h.size = i
  · subst h'; simp
  · rw [if_neg h', if_neg (fun e => h' e.symm), if_neg (fun e => h' e.symm)]
theorem run_insert {w : World} {g n : Nat} {es : Array MapEntry} {s : ByteArray} {v : Value} (hg : g = w.heap.size) (hf : Instr.findNow .string (.string s) es.toList 0 = some none) :
    (Instr.mapUpdate 46 (.map (some g)) (.string s) v).run Tryd.prog (w.alloc (.map es n)) = .ok () (w.alloc (.map (es.push ⟨.string s, v, n⟩) (n + 1))) := by
  subst hg
  have hb : (w.alloc (.map es n)).heap[w.heap.size]? = some (.map es n) := heap_alloc_new w _
  have hc : (Instr.checkKey false 10000 9 (.string s)).run Tryd.prog (w.alloc (.map es n)) = .ok () (w.alloc (.map es n)) := MapKept.run_checkKey (k := .string s) Tryd.underlying9 (by simp [MapKept.IsKey]) false 9999
  simp [Instr.mapUpdate, run_underlying Tryd.underlying46, MapKept.run_getObj_map hb, hc, MapKept.run_findKey Tryd.underlying9 hf, MapKept.run_setObj_map _ hb, Result.andThen]
  exact congrArg (fun hp => ({ w with heap := hp } : World)) (push_set w.heap _ _)
theorem run_look {w : World} {g i : Nat} {s : ByteArray} {v : Value} (hg : w.heap[g]? = some shapesO) (hf : Instr.findNow .string (.string s) shapesE.toList 0 = some (some (i, v))) :
    (Instr.lookup 46 (.map (some g)) (.string s) false).run Tryd.prog w = .ok v w ∧ (Instr.lookup 46 (.map (some g)) (.string s) true).run Tryd.prog w = .ok (.tuple #[v, .bool true]) w := by
  have hb : w.heap[g]? = some (.map shapesE 8) := hg
  have hc : ∀ b, (Instr.checkKey b 10000 9 (.string s)).run Tryd.prog w = .ok () w := fun b => MapKept.run_checkKey (k := .string s) Tryd.underlying9 (by simp [MapKept.IsKey]) b 9999
  constructor <;> simp [Instr.lookup, run_underlying Tryd.underlying46, MapKept.run_getObj_map hb, hc, MapKept.run_findKey Tryd.underlying9 hf, Result.andThen]
theorem run_look_no {w : World} {g : Nat} {s : ByteArray} (hg : w.heap[g]? = some shapesO) (hf : Instr.findNow .string (.string s) shapesE.toList 0 = some none) :
    (Instr.lookup 46 (.map (some g)) (.string s) true).run Tryd.prog w = .ok (.tuple #[.agg #[.int .i64 0, .bool false, .bool false, .bool false], .bool false]) w := by
  have hb : w.heap[g]? = some (.map shapesE 8) := hg
  have hc : ∀ b, (Instr.checkKey b 10000 9 (.string s)).run Tryd.prog w = .ok () w := fun b => MapKept.run_checkKey (k := .string s) Tryd.underlying9 (by simp [MapKept.IsKey]) b 9999
  have hz : (zeroValue 45).run Tryd.prog w = .ok (.agg #[.int .i64 0, .bool false, .bool false, .bool false]) w := Tryd.zeroValue45 w
  simp [Instr.lookup, run_underlying Tryd.underlying46, MapKept.run_getObj_map hb, hc, MapKept.run_findKey Tryd.underlying9 hf, Result.andThen, hz]
theorem look_word {w : World} {g k : Nat} (hk : k < 8) (hg : w.heap[g]? = some shapesO) :
    (Instr.lookup 46 (.map (some g)) (.string (strN (wordL k))) false).run Tryd.prog w = .ok (shapeV k) w ∧ (Instr.lookup 46 (.map (some g)) (.string (strN (wordL k))) true).run Tryd.prog w = .ok (.tuple #[shapeV k, .bool true]) w := by
  rcases kinds hk with rfl | rfl | rfl | rfl | rfl | rfl | rfl | rfl
  · exact run_look (i := 0) hg (by kernel_rfl)
  · exact run_look (i := 1) hg (by kernel_rfl)
  · exact run_look (i := 2) hg (by kernel_rfl)
  · exact run_look (i := 3) hg (by kernel_rfl)
  · exact run_look (i := 4) hg (by kernel_rfl)
  · exact run_look (i := 5) hg (by kernel_rfl)
  · exact run_look (i := 6) hg (by kernel_rfl)
  · exact run_look (i := 7) hg (by kernel_rfl)
theorem look_none {w : World} {g : Nat} (hg : w.heap[g]? = some shapesO) :
    (Instr.lookup 46 (.map (some g)) (.string (strN [110, 111, 110, 101])) true).run Tryd.prog w = .ok (.tuple #[.agg #[.int .i64 0, .bool false, .bool false, .bool false], .bool false]) w := run_look_no hg (by kernel_rfl)
def shE0 : Array MapEntry := #[]
def shE1 : Array MapEntry := #[⟨.string { data := #[97, 114, 114, 105, 118, 101] }, .agg #[.int .i64 0, .bool false, .bool true, .bool false], 0⟩]
def shE2 : Array MapEntry := #[⟨.string { data := #[97, 114, 114, 105, 118, 101] }, .agg #[.int .i64 0, .bool false, .bool true, .bool false], 0⟩, ⟨.string { data := #[100, 97, 116, 97] }, .agg #[.int .i64 1, .bool true, .bool false, .bool true], 1⟩]
def shE3 : Array MapEntry := #[⟨.string { data := #[97, 114, 114, 105, 118, 101] }, .agg #[.int .i64 0, .bool false, .bool true, .bool false], 0⟩, ⟨.string { data := #[100, 97, 116, 97] }, .agg #[.int .i64 1, .bool true, .bool false, .bool true], 1⟩, ⟨.string { data := #[102, 105, 110] }, .agg #[.int .i64 2, .bool true, .bool false, .bool false], 2⟩]
def shE4 : Array MapEntry := #[⟨.string { data := #[97, 114, 114, 105, 118, 101] }, .agg #[.int .i64 0, .bool false, .bool true, .bool false], 0⟩, ⟨.string { data := #[100, 97, 116, 97] }, .agg #[.int .i64 1, .bool true, .bool false, .bool true], 1⟩, ⟨.string { data := #[102, 105, 110] }, .agg #[.int .i64 2, .bool true, .bool false, .bool false], 2⟩, ⟨.string { data := #[114, 101, 115, 101, 116] }, .agg #[.int .i64 3, .bool true, .bool false, .bool false], 3⟩]
def shE5 : Array MapEntry := #[⟨.string { data := #[97, 114, 114, 105, 118, 101] }, .agg #[.int .i64 0, .bool false, .bool true, .bool false], 0⟩, ⟨.string { data := #[100, 97, 116, 97] }, .agg #[.int .i64 1, .bool true, .bool false, .bool true], 1⟩, ⟨.string { data := #[102, 105, 110] }, .agg #[.int .i64 2, .bool true, .bool false, .bool false], 2⟩, ⟨.string { data := #[114, 101, 115, 101, 116] }, .agg #[.int .i64 3, .bool true, .bool false, .bool false], 3⟩, ⟨.string { data := #[119, 105, 110, 100, 111, 119] }, .agg #[.int .i64 4, .bool true, .bool true, .bool false], 4⟩]
def shE6 : Array MapEntry := #[⟨.string { data := #[97, 114, 114, 105, 118, 101] }, .agg #[.int .i64 0, .bool false, .bool true, .bool false], 0⟩, ⟨.string { data := #[100, 97, 116, 97] }, .agg #[.int .i64 1, .bool true, .bool false, .bool true], 1⟩, ⟨.string { data := #[102, 105, 110] }, .agg #[.int .i64 2, .bool true, .bool false, .bool false], 2⟩, ⟨.string { data := #[114, 101, 115, 101, 116] }, .agg #[.int .i64 3, .bool true, .bool false, .bool false], 3⟩, ⟨.string { data := #[119, 105, 110, 100, 111, 119] }, .agg #[.int .i64 4, .bool true, .bool true, .bool false], 4⟩, ⟨.string { data := #[117, 112] }, .agg #[.int .i64 5, .bool true, .bool true, .bool false], 5⟩]
def shE7 : Array MapEntry := #[⟨.string { data := #[97, 114, 114, 105, 118, 101] }, .agg #[.int .i64 0, .bool false, .bool true, .bool false], 0⟩, ⟨.string { data := #[100, 97, 116, 97] }, .agg #[.int .i64 1, .bool true, .bool false, .bool true], 1⟩, ⟨.string { data := #[102, 105, 110] }, .agg #[.int .i64 2, .bool true, .bool false, .bool false], 2⟩, ⟨.string { data := #[114, 101, 115, 101, 116] }, .agg #[.int .i64 3, .bool true, .bool false, .bool false], 3⟩, ⟨.string { data := #[119, 105, 110, 100, 111, 119] }, .agg #[.int .i64 4, .bool true, .bool true, .bool false], 4⟩, ⟨.string { data := #[117, 112] }, .agg #[.int .i64 5, .bool true, .bool true, .bool false], 5⟩, ⟨.string { data := #[114, 101, 102, 117, 115, 101] }, .agg #[.int .i64 6, .bool true, .bool false, .bool false], 6⟩]
def shE8 : Array MapEntry := #[⟨.string { data := #[97, 114, 114, 105, 118, 101] }, .agg #[.int .i64 0, .bool false, .bool true, .bool false], 0⟩, ⟨.string { data := #[100, 97, 116, 97] }, .agg #[.int .i64 1, .bool true, .bool false, .bool true], 1⟩, ⟨.string { data := #[102, 105, 110] }, .agg #[.int .i64 2, .bool true, .bool false, .bool false], 2⟩, ⟨.string { data := #[114, 101, 115, 101, 116] }, .agg #[.int .i64 3, .bool true, .bool false, .bool false], 3⟩, ⟨.string { data := #[119, 105, 110, 100, 111, 119] }, .agg #[.int .i64 4, .bool true, .bool true, .bool false], 4⟩, ⟨.string { data := #[117, 112] }, .agg #[.int .i64 5, .bool true, .bool true, .bool false], 5⟩, ⟨.string { data := #[114, 101, 102, 117, 115, 101] }, .agg #[.int .i64 6, .bool true, .bool false, .bool false], 6⟩, ⟨.string { data := #[116, 105, 99, 107] }, .agg #[.int .i64 7, .bool false, .bool true, .bool false], 7⟩]
set_option maxRecDepth 100000 in
set_option maxHeartbeats 1600000 in
theorem shapes_any (w : World) : Calls Tryd.prog 14 #[] w (fun e w' => e = .returned (.map (some w.heap.size)) ∧ w' = w.alloc shapesO) := by
  have hmm0 : ∀ W : World, (Instr.makeMap 46 none).run Tryd.prog W = .ok (.map (some W.heap.size)) (W.alloc (.map shE0 0)) := fun W => run_makeMap _ W
  have i0 : (Instr.mapUpdate 46 (.map (some w.heap.size)) (.string { data := #[97, 114, 114, 105, 118, 101] }) (.agg #[.int .i64 0, .bool false, .bool true, .bool false])).run Tryd.prog (w.alloc (.map shE0 0)) = .ok () (w.alloc (.map shE1 1)) := run_insert rfl (by kernel_rfl)
  have i1 : (Instr.mapUpdate 46 (.map (some w.heap.size)) (.string { data := #[100, 97, 116, 97] }) (.agg #[.int .i64 1, .bool true, .bool false, .bool true])).run Tryd.prog (w.alloc (.map shE1 1)) = .ok () (w.alloc (.map shE2 2)) := run_insert rfl (by kernel_rfl)
  have i2 : (Instr.mapUpdate 46 (.map (some w.heap.size)) (.string { data := #[102, 105, 110] }) (.agg #[.int .i64 2, .bool true, .bool false, .bool false])).run Tryd.prog (w.alloc (.map shE2 2)) = .ok () (w.alloc (.map shE3 3)) := run_insert rfl (by kernel_rfl)
  have i3 : (Instr.mapUpdate 46 (.map (some w.heap.size)) (.string { data := #[114, 101, 115, 101, 116] }) (.agg #[.int .i64 3, .bool true, .bool false, .bool false])).run Tryd.prog (w.alloc (.map shE3 3)) = .ok () (w.alloc (.map shE4 4)) := run_insert rfl (by kernel_rfl)
  have i4 : (Instr.mapUpdate 46 (.map (some w.heap.size)) (.string { data := #[119, 105, 110, 100, 111, 119] }) (.agg #[.int .i64 4, .bool true, .bool true, .bool false])).run Tryd.prog (w.alloc (.map shE4 4)) = .ok () (w.alloc (.map shE5 5)) := run_insert rfl (by kernel_rfl)
  have i5 : (Instr.mapUpdate 46 (.map (some w.heap.size)) (.string { data := #[117, 112] }) (.agg #[.int .i64 5, .bool true, .bool true, .bool false])).run Tryd.prog (w.alloc (.map shE5 5)) = .ok () (w.alloc (.map shE6 6)) := run_insert rfl (by kernel_rfl)
  have i6 : (Instr.mapUpdate 46 (.map (some w.heap.size)) (.string { data := #[114, 101, 102, 117, 115, 101] }) (.agg #[.int .i64 6, .bool true, .bool false, .bool false])).run Tryd.prog (w.alloc (.map shE6 6)) = .ok () (w.alloc (.map shE7 7)) := run_insert rfl (by kernel_rfl)
  have i7 : (Instr.mapUpdate 46 (.map (some w.heap.size)) (.string { data := #[116, 105, 99, 107] }) (.agg #[.int .i64 7, .bool false, .bool true, .bool false])).run Tryd.prog (w.alloc (.map shE7 7)) = .ok () (w.alloc (.map shE8 8)) := run_insert rfl (by kernel_rfl)
  go_enter Tryd.func14, Tryd.ntmps14
  go_wp2
  go_ret
  exact ⟨rfl, rfl⟩
end Go.Proofs.YtanbplnagcmlcaaDoor

/- Layer 24: small functions of lines. -/
namespace Go.Proofs.YtanbplnagcmlcaaDoor
open Go.RowKit
set_option maxRecDepth 100000 in
set_option maxHeartbeats 1600000 in
theorem word_yes (k : Nat) (hk : k < 8) (w : World) : Calls Tryd.prog 13 #[.int .i64 (k : Int)] w fun e w' => e = .returned (.tuple #[.string (strN (wordL k)), .bool true]) ∧ w' = w := by
  rcases kinds hk with rfl | rfl | rfl | rfl | rfl | rfl | rfl | rfl
  all_goals
    rw [word_lit (by decide)]
    go_enter Tryd.func13, Tryd.ntmps13
    go_wp2
    (try simp only [Exit.inBlock, Exit.then]); refine bodyPost_ret (by simp [results, Tryd.results13, go_sem, *]; try rfl) rfl ?_
    exact ⟨rfl, rfl⟩
set_option maxRecDepth 100000 in
set_option maxHeartbeats 1600000 in
theorem word_no (k : Int) (hk : ¬ (0 ≤ k ∧ k < 8)) (w : World) : Calls Tryd.prog 13 #[.int .i64 k] w fun e w' => e = .returned (.tuple #[.string { data := #[] }, .bool false]) ∧ w' = w := by
  have e0 : (k == 0) = false := by simp; omega
  have e1 : (k == 1) = false := by simp; omega
  have e2 : (k == 2) = false := by simp; omega
  have e3 : (k == 3) = false := by simp; omega
  have e4 : (k == 4) = false := by simp; omega
  have e5 : (k == 5) = false := by simp; omega
  have e6 : (k == 6) = false := by simp; omega
  have e7 : (k == 7) = false := by simp; omega
  clear hk
  go_enter Tryd.func13, Tryd.ntmps13
  repeat' (first | (with_reducible refine then_exit ?_) | (with_reducible refine then_ret ?_) | (with_reducible refine then_normal ?_) | (with_reducible refine inBlock_hit ?_) | ((with_reducible refine inBlock_miss ?_ ?_); (exact rfl)) | (with_reducible refine inBlock_ret ?_) | (with_reducible refine inBlock_normal ?_) | go_values | go_skip | go_guarded | go_step | go_upon | go_in | go_back | (simp only [Int.not_lt, Int.not_le] at *; go_simp) | (go_values <;> (try go_simp)) | (go_ite <;> go_prune <;> (try go_simp)) | (split <;> (first | (rename_i hx; exact (hx _ rfl).elim) | go_prune)))
  (try simp only [Exit.inBlock, Exit.then]); refine bodyPost_ret (by simp [results, Tryd.results13, go_sem, *]; try rfl) rfl ?_
  exact ⟨rfl, rfl⟩
def rightB (n : Int) (b : Bool) : Bool := if b then decide (0 ≤ n ∧ n ≤ 1099511627776) else decide (n = 0)
theorem right_any (n : Int) (hn : -9223372036854775808 ≤ n ∧ n < 9223372036854775808) (b : Bool) (w : World) : Calls Tryd.prog 15 #[.int .i64 n, .bool b] w fun e w' => e = .returned (.bool (rightB n b)) ∧ w' = w := by
  cases b
  · by_cases h : n = 0
    · subst h
      go_enter Tryd.func15, Tryd.ntmps15
      go_wp2
      go_ret
      exact ⟨rfl, rfl⟩
    · have e0 : (n == 0) = false := by simpa using h
      rw [show rightB n false = false from decide_eq_false h]
      clear h
      go_enter Tryd.func15, Tryd.ntmps15
      go_wp2
      go_ret
      exact ⟨rfl, rfl⟩
  · by_cases h : 0 ≤ n
    · by_cases h' : n ≤ 1099511627776
      · rw [show rightB n true = true from decide_eq_true ⟨h, h'⟩]
        go_enter Tryd.func15, Tryd.ntmps15
        go_wp2
        go_ret
        exact ⟨by simp [h'], rfl⟩
      · rw [show rightB n true = false from decide_eq_false (fun e => h' e.2)]
        go_enter Tryd.func15, Tryd.ntmps15
        go_wp2
        go_ret
        exact ⟨by first | rfl | (simp; done) | (simp; omega), rfl⟩
    · rw [show rightB n true = false from decide_eq_false (fun e => h e.1)]
      go_enter Tryd.func15, Tryd.ntmps15
      go_wp2
      go_ret
      exact ⟨by first | rfl | (simp; omega), rfl⟩
def plainB (c : Nat) : Bool := decide (32 ≤ c) && decide (c ≤ 126) && !decide (c = 34) && !decide (c = 92)
set_option maxRecDepth 100000 in
set_option maxHeartbeats 1600000 in
theorem plain_any (c : Nat) (hc : c < 256) (w : World) : Calls Tryd.prog 27 #[.int .u8 (c : Int)] w fun e w' => e = .returned (.bool (plainB c)) ∧ w' = w := by
  unfold plainB
  by_cases h1 : 32 ≤ c
  · by_cases h2 : c ≤ 126
    · by_cases h3 : c = 34
      · subst h3
        go_enter Tryd.func27, Tryd.ntmps27
        go_wp2
        go_ret
        exact ⟨rfl, rfl⟩
      · by_cases h4 : c = 92
        · subst h4
          go_enter Tryd.func27, Tryd.ntmps27
          go_wp2
          go_ret
          exact ⟨rfl, rfl⟩
        · have d1 : decide (32 ≤ c) = true := decide_eq_true h1
          have d2 : decide (c ≤ 126) = true := decide_eq_true h2
          have d3 : ((c : Int) != 34) = true := by simp; omega
          have d4 : ((c : Int) != 92) = true := by simp; omega
          rw [d1, d2, decide_eq_false h3, decide_eq_false h4]
          clear h3 h4
          go_enter Tryd.func27, Tryd.ntmps27
          go_wp2
          go_ret
          exact ⟨rfl, rfl⟩
    · rw [decide_eq_true h1, decide_eq_false h2]
      have d1 : decide (32 ≤ c) = true := decide_eq_true h1
      have d2 : decide (c ≤ 126) = false := decide_eq_false h2
      go_enter Tryd.func27, Tryd.ntmps27
      go_wp2
      go_ret
      exact ⟨rfl, rfl⟩
  · rw [decide_eq_false h1]
    have d1 : decide (32 ≤ c) = false := decide_eq_false h1
    go_enter Tryd.func27, Tryd.ntmps27
    go_wp2
    go_ret
    exact ⟨rfl, rfl⟩
end Go.Proofs.YtanbplnagcmlcaaDoor
