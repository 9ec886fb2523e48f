/- Several texts put together: Box, CodD, CodE. -/
import Derived.Test.YtanbplnagcmlcaaBu1
/- Boxes: blocks of a few cells that are known and may be written. -/
namespace Go.Proofs.Ytanbplnagcmlcaa
open Go.RowKit
theorem below_step {w a b : World} (h : Below w.heap.size w a) (p : Below a.heap.size a b) : Below w.heap.size w b := h.trans (p.mono h.size)
structure Box1 (w : World) (g : Nat) (v0 : Value) : Prop where
  c0 : w.cell? ⟨g, 0, none⟩ = some v0
  f0 : w.frozen? ⟨g, 0, none⟩ = false
  z : g < w.heap.size
section
variable {w w' : World} {g h : Nat} {v0 u0 : Value}
theorem Box1.below (b : Box1 w g v0) (q : Below w.heap.size w w') : Box1 w' g v0 :=
  ⟨(q.cell b.z).trans b.c0, (q.frozen b.z).trans b.f0, Nat.lt_of_lt_of_le b.z q.size⟩
theorem Box1.make (w : World) (v0 : Value) (T : TypeId) {g : Nat} (hg : g = w.heap.size) : Box1 (w.alloc (.cells #[v0] T)) g v0 := by
  subst hg; constructor <;> simp (maxDischargeDepth := 12) [go_sem]
theorem Box1.alloc (b : Box1 w g v0) (o : Obj) : Box1 (w.alloc o) g v0 := b.below ((Below.refl _ _).alloc (Nat.le_refl _) _)
theorem Box1.drew (b : Box1 w g v0) : Box1 w.drew g v0 := b.below (Below.refl _ _).drew
theorem Box1.drewN (b : Box1 w g v0) (k : Nat) : Box1 (w.drewN k) g v0 := b.below (below_drewN (Below.refl _ _) k)
theorem Box1.other (b : Box1 w g v0) (hne : h ≠ g) (j : Nat) (u : Value) : Box1 (w.setCell ⟨h, j, none⟩ u) g v0 := by
  obtain ⟨c0, f0, z⟩ := b
  have hn : g ≠ h := fun e => hne e.symm
  constructor <;> (first | (simp (maxDischargeDepth := 12) [go_sem, *]; done) | (simp; omega))
theorem Box1.set (b : Box1 w g v0) : Box1 (w.setCell ⟨g, 0, none⟩ u0) g u0 := by
  obtain ⟨c0, f0, z⟩ := b
  constructor <;> (first | (simp (maxDischargeDepth := 20) [go_sem, *]; done) | (simp; omega))
end
structure Box2 (w : World) (g : Nat) (v0 v1 : Value) : Prop where
  c0 : w.cell? ⟨g, 0, none⟩ = some v0
  c1 : w.cell? ⟨g, 1, none⟩ = some v1
  f0 : w.frozen? ⟨g, 0, none⟩ = false
  f1 : w.frozen? ⟨g, 1, none⟩ = false
  z : g < w.heap.size
section
variable {w w' : World} {g h : Nat} {v0 v1 u0 u1 : Value}
theorem Box2.below (b : Box2 w g v0 v1) (q : Below w.heap.size w w') : Box2 w' g v0 v1 :=
  ⟨(q.cell b.z).trans b.c0, (q.cell b.z).trans b.c1, (q.frozen b.z).trans b.f0, (q.frozen b.z).trans b.f1, Nat.lt_of_lt_of_le b.z q.size⟩
theorem Box2.make (w : World) (v0 v1 : Value) (T : TypeId) {g : Nat} (hg : g = w.heap.size) : Box2 (w.alloc (.cells #[v0, v1] T)) g v0 v1 := by
  subst hg; constructor <;> simp (maxDischargeDepth := 12) [go_sem]
theorem Box2.alloc (b : Box2 w g v0 v1) (o : Obj) : Box2 (w.alloc o) g v0 v1 := b.below ((Below.refl _ _).alloc (Nat.le_refl _) _)
theorem Box2.drew (b : Box2 w g v0 v1) : Box2 w.drew g v0 v1 := b.below (Below.refl _ _).drew
theorem Box2.drewN (b : Box2 w g v0 v1) (k : Nat) : Box2 (w.drewN k) g v0 v1 := b.below (below_drewN (Below.refl _ _) k)
theorem Box2.other (b : Box2 w g v0 v1) (hne : h ≠ g) (j : Nat) (u : Value) : Box2 (w.setCell ⟨h, j, none⟩ u) g v0 v1 := by
  obtain ⟨c0, c1, f0, f1, z⟩ := b
  have hn : g ≠ h := fun e => hne e.symm
  constructor <;> (first | (simp (maxDischargeDepth := 12) [go_sem, *]; done) | (simp; omega))
theorem Box2.set (b : Box2 w g v0 v1) : Box2 ((w.setCell ⟨g, 0, none⟩ u0).setCell ⟨g, 1, none⟩ u1) g u0 u1 := by
  obtain ⟨c0, c1, f0, f1, z⟩ := b
  constructor <;> (first | (simp (maxDischargeDepth := 20) [go_sem, *]; done) | (simp; omega))
end
structure Box3 (w : World) (g : Nat) (v0 v1 v2 : Value) : Prop where
  c0 : w.cell? ⟨g, 0, none⟩ = some v0
  c1 : w.cell? ⟨g, 1, none⟩ = some v1
  c2 : w.cell? ⟨g, 2, none⟩ = some v2
  f0 : w.frozen? ⟨g, 0, none⟩ = false
  f1 : w.frozen? ⟨g, 1, none⟩ = false
  f2 : w.frozen? ⟨g, 2, none⟩ = false
  z : g < w.heap.size
section
variable {w w' : World} {g h : Nat} {v0 v1 v2 u0 u1 u2 : Value}
theorem Box3.below (b : Box3 w g v0 v1 v2) (q : Below w.heap.size w w') : Box3 w' g v0 v1 v2 :=
  ⟨(q.cell b.z).trans b.c0, (q.cell b.z).trans b.c1, (q.cell b.z).trans b.c2, (q.frozen b.z).trans b.f0, (q.frozen b.z).trans b.f1, (q.frozen b.z).trans b.f2, Nat.lt_of_lt_of_le b.z q.size⟩
theorem Box3.make (w : World) (v0 v1 v2 : Value) (T : TypeId) {g : Nat} (hg : g = w.heap.size) : Box3 (w.alloc (.cells #[v0, v1, v2] T)) g v0 v1 v2 := by
  subst hg; constructor <;> simp (maxDischargeDepth := 12) [go_sem]
theorem Box3.alloc (b : Box3 w g v0 v1 v2) (o : Obj) : Box3 (w.alloc o) g v0 v1 v2 := b.below ((Below.refl _ _).alloc (Nat.le_refl _) _)
theorem Box3.drew (b : Box3 w g v0 v1 v2) : Box3 w.drew g v0 v1 v2 := b.below (Below.refl _ _).drew
theorem Box3.drewN (b : Box3 w g v0 v1 v2) (k : Nat) : Box3 (w.drewN k) g v0 v1 v2 := b.below (below_drewN (Below.refl _ _) k)
theorem Box3.other (b : Box3 w g v0 v1 v2) (hne : h ≠ g) (j : Nat) (u : Value) : Box3 (w.setCell ⟨h, j, none⟩ u) g v0 v1 v2 := by
  obtain ⟨c0, c1, c2, f0, f1, f2, z⟩ := b
  have hn : g ≠ h := fun e => hne e.symm
  constructor <;> (first | (simp (maxDischargeDepth := 12) [go_sem, *]; done) | (simp; omega))
theorem Box3.set (b : Box3 w g v0 v1 v2) : Box3 (((w.setCell ⟨g, 0, none⟩ u0).setCell ⟨g, 1, none⟩ u1).setCell ⟨g, 2, none⟩ u2) g u0 u1 u2 := by
  obtain ⟨c0, c1, c2, f0, f1, f2, z⟩ := b
  constructor <;> (first | (simp (maxDischargeDepth := 20) [go_sem, *]; done) | (simp; omega))
end
structure Box4 (w : World) (g : Nat) (v0 v1 v2 v3 : Value) : Prop where
  c0 : w.cell? ⟨g, 0, none⟩ = some v0
  c1 : w.cell? ⟨g, 1, none⟩ = some v1
  c2 : w.cell? ⟨g, 2, none⟩ = some v2
  c3 : w.cell? ⟨g, 3, none⟩ = some v3
  f0 : w.frozen? ⟨g, 0, none⟩ = false
  f1 : w.frozen? ⟨g, 1, none⟩ = false
  f2 : w.frozen? ⟨g, 2, none⟩ = false
  f3 : w.frozen? ⟨g, 3, none⟩ = false
  z : g < w.heap.size
section
variable {w w' : World} {g h : Nat} {v0 v1 v2 v3 u0 u1 u2 u3 : Value}
theorem Box4.below (b : Box4 w g v0 v1 v2 v3) (q : Below w.heap.size w w') : Box4 w' g v0 v1 v2 v3 :=
  ⟨(q.cell b.z).trans b.c0, (q.cell b.z).trans b.c1, (q.cell b.z).trans b.c2, (q.cell b.z).trans b.c3, (q.frozen b.z).trans b.f0, (q.frozen b.z).trans b.f1, (q.frozen b.z).trans b.f2, (q.frozen b.z).trans b.f3, Nat.lt_of_lt_of_le b.z q.size⟩
theorem Box4.make (w : World) (v0 v1 v2 v3 : Value) (T : TypeId) {g : Nat} (hg : g = w.heap.size) : Box4 (w.alloc (.cells #[v0, v1, v2, v3] T)) g v0 v1 v2 v3 := by
  subst hg; constructor <;> simp (maxDischargeDepth := 12) [go_sem]
theorem Box4.alloc (b : Box4 w g v0 v1 v2 v3) (o : Obj) : Box4 (w.alloc o) g v0 v1 v2 v3 := b.below ((Below.refl _ _).alloc (Nat.le_refl _) _)
theorem Box4.drew (b : Box4 w g v0 v1 v2 v3) : Box4 w.drew g v0 v1 v2 v3 := b.below (Below.refl _ _).drew
theorem Box4.drewN (b : Box4 w g v0 v1 v2 v3) (k : Nat) : Box4 (w.drewN k) g v0 v1 v2 v3 := b.below (below_drewN (Below.refl _ _) k)
theorem Box4.other (b : Box4 w g v0 v1 v2 v3) (hne : h ≠ g) (j : Nat) (u : Value) : Box4 (w.setCell ⟨h, j, none⟩ u) g v0 v1 v2 v3 := by
  obtain ⟨c0, c1, c2, c3, f0, f1, f2, f3, z⟩ := b
  have hn : g ≠ h := fun e => hne e.symm
  constructor <;> (first | (simp (maxDischargeDepth := 12) [go_sem, *]; done) | (simp; omega))
theorem Box4.set (b : Box4 w g v0 v1 v2 v3) : Box4 ((((w.setCell ⟨g, 0, none⟩ u0).setCell ⟨g, 1, none⟩ u1).setCell ⟨g, 2, none⟩ u2).setCell ⟨g, 3, none⟩ u3) g u0 u1 u2 u3 := by
  obtain ⟨c0, c1, c2, c3, f0, f1, f2, f3, z⟩ := b
  constructor <;> (first | (simp (maxDischargeDepth := 20) [go_sem, *]; done) | (simp; omega))
end
structure Box5 (w : World) (g : Nat) (v0 v1 v2 v3 v4 : Value) : Prop where
  c0 : w.cell? ⟨g, 0, none⟩ = some v0
  c1 : w.cell? ⟨g, 1, none⟩ = some v1
  c2 : w.cell? ⟨g, 2, none⟩ = some v2
  c3 : w.cell? ⟨g, 3, none⟩ = some v3
  c4 : w.cell? ⟨g, 4, none⟩ = some v4
  f0 : w.frozen? ⟨g, 0, none⟩ = false
  f1 : w.frozen? ⟨g, 1, none⟩ = false
  f2 : w.frozen? ⟨g, 2, none⟩ = false
  f3 : w.frozen? ⟨g, 3, none⟩ = false
  f4 : w.frozen? ⟨g, 4, none⟩ = false
  z : g < w.heap.size
section
variable {w w' : World} {g h : Nat} {v0 v1 v2 v3 v4 u0 u1 u2 u3 u4 : Value}
theorem Box5.below (b : Box5 w g v0 v1 v2 v3 v4) (q : Below w.heap.size w w') : Box5 w' g v0 v1 v2 v3 v4 :=
  ⟨(q.cell b.z).trans b.c0, (q.cell b.z).trans b.c1, (q.cell b.z).trans b.c2, (q.cell b.z).trans b.c3, (q.cell b.z).trans b.c4, (q.frozen b.z).trans b.f0, (q.frozen b.z).trans b.f1, (q.frozen b.z).trans b.f2, (q.frozen b.z).trans b.f3, (q.frozen b.z).trans b.f4, Nat.lt_of_lt_of_le b.z q.size⟩
theorem Box5.make (w : World) (v0 v1 v2 v3 v4 : Value) (T : TypeId) {g : Nat} (hg : g = w.heap.size) : Box5 (w.alloc (.cells #[v0, v1, v2, v3, v4] T)) g v0 v1 v2 v3 v4 := by
  subst hg; constructor <;> simp (maxDischargeDepth := 12) [go_sem]
theorem Box5.alloc (b : Box5 w g v0 v1 v2 v3 v4) (o : Obj) : Box5 (w.alloc o) g v0 v1 v2 v3 v4 := b.below ((Below.refl _ _).alloc (Nat.le_refl _) _)
theorem Box5.drew (b : Box5 w g v0 v1 v2 v3 v4) : Box5 w.drew g v0 v1 v2 v3 v4 := b.below (Below.refl _ _).drew
theorem Box5.drewN (b : Box5 w g v0 v1 v2 v3 v4) (k : Nat) : Box5 (w.drewN k) g v0 v1 v2 v3 v4 := b.below (below_drewN (Below.refl _ _) k)
theorem Box5.other (b : Box5 w g v0 v1 v2 v3 v4) (hne : h ≠ g) (j : Nat) (u : Value) : Box5 (w.setCell ⟨h, j, none⟩ u) g v0 v1 v2 v3 v4 := by
  obtain ⟨c0, c1, c2, c3, c4, f0, f1, f2, f3, f4, z⟩ := b
  have hn : g ≠ h := fun e => hne e.symm
  constructor <;> (first | (simp (maxDischargeDepth := 12) [go_sem, *]; done) | (simp; omega))
theorem Box5.set (b : Box5 w g v0 v1 v2 v3 v4) : Box5 (((((w.setCell ⟨g, 0, none⟩ u0).setCell ⟨g, 1, none⟩ u1).setCell ⟨g, 2, none⟩ u2).setCell ⟨g, 3, none⟩ u3).setCell ⟨g, 4, none⟩ u4) g u0 u1 u2 u3 u4 := by
  obtain ⟨c0, c1, c2, c3, c4, f0, f1, f2, f3, f4, z⟩ := b
  constructor <;> (first | (simp (maxDischargeDepth := 20) [go_sem, *]; done) | (simp; omega))
end
structure Box6 (w : World) (g : Nat) (v0 v1 v2 v3 v4 v5 : Value) : Prop where
  c0 : w.cell? ⟨g, 0, none⟩ = some v0
  c1 : w.cell? ⟨g, 1, none⟩ = some v1
  c2 : w.cell? ⟨g, 2, none⟩ = some v2
  c3 : w.cell? ⟨g, 3, none⟩ = some v3
  c4 : w.cell? ⟨g, 4, none⟩ = some v4
  c5 : w.cell? ⟨g, 5, none⟩ = some v5
  f0 : w.frozen? ⟨g, 0, none⟩ = false
  f1 : w.frozen? ⟨g, 1, none⟩ = false
  f2 : w.frozen? ⟨g, 2, none⟩ = false
  f3 : w.frozen? ⟨g, 3, none⟩ = false
  f4 : w.frozen? ⟨g, 4, none⟩ = false
  f5 : w.frozen? ⟨g, 5, none⟩ = false
  z : g < w.heap.size
section
variable {w w' : World} {g h : Nat} {v0 v1 v2 v3 v4 v5 u0 u1 u2 u3 u4 u5 : Value}
theorem Box6.below (b : Box6 w g v0 v1 v2 v3 v4 v5) (q : Below w.heap.size w w') : Box6 w' g v0 v1 v2 v3 v4 v5 :=
  ⟨(q.cell b.z).trans b.c0, (q.cell b.z).trans b.c1, (q.cell b.z).trans b.c2, (q.cell b.z).trans b.c3, (q.cell b.z).trans b.c4, (q.cell b.z).trans b.c5, (q.frozen b.z).trans b.f0, (q.frozen b.z).trans b.f1, (q.frozen b.z).trans b.f2, (q.frozen b.z).trans b.f3, (q.frozen b.z).trans b.f4, (q.frozen b.z).trans b.f5, Nat.lt_of_lt_of_le b.z q.size⟩
theorem Box6.make (w : World) (v0 v1 v2 v3 v4 v5 : Value) (T : TypeId) {g : Nat} (hg : g = w.heap.size) : Box6 (w.alloc (.cells #[v0, v1, v2, v3, v4, v5] T)) g v0 v1 v2 v3 v4 v5 := by
  subst hg; constructor <;> simp (maxDischargeDepth := 12) [go_sem]
theorem Box6.alloc (b : Box6 w g v0 v1 v2 v3 v4 v5) (o : Obj) : Box6 (w.alloc o) g v0 v1 v2 v3 v4 v5 := b.below ((Below.refl _ _).alloc (Nat.le_refl _) _)
theorem Box6.drew (b : Box6 w g v0 v1 v2 v3 v4 v5) : Box6 w.drew g v0 v1 v2 v3 v4 v5 := b.below (Below.refl _ _).drew
theorem Box6.drewN (b : Box6 w g v0 v1 v2 v3 v4 v5) (k : Nat) : Box6 (w.drewN k) g v0 v1 v2 v3 v4 v5 := b.below (below_drewN (Below.refl _ _) k)
theorem Box6.other (b : Box6 w g v0 v1 v2 v3 v4 v5) (hne : h ≠ g) (j : Nat) (u : Value) : Box6 (w.setCell ⟨h, j, none⟩ u) g v0 v1 v2 v3 v4 v5 := by
  obtain ⟨c0, c1, c2, c3, c4, c5, f0, f1, f2, f3, f4, f5, z⟩ := b
  have hn : g ≠ h := fun e => hne e.symm
  constructor <;> (first | (simp (maxDischargeDepth := 12) [go_sem, *]; done) | (simp; omega))
theorem Box6.set (b : Box6 w g v0 v1 v2 v3 v4 v5) : Box6 ((((((w.setCell ⟨g, 0, none⟩ u0).setCell ⟨g, 1, none⟩ u1).setCell ⟨g, 2, none⟩ u2).setCell ⟨g, 3, none⟩ u3).setCell ⟨g, 4, none⟩ u4).setCell ⟨g, 5, none⟩ u5) g u0 u1 u2 u3 u4 u5 := by
  obtain ⟨c0, c1, c2, c3, c4, c5, f0, f1, f2, f3, f4, f5, z⟩ := b
  constructor <;> (first | (simp (maxDischargeDepth := 20) [go_sem, *]; done) | (simp; omega))
end
structure Box7 (w : World) (g : Nat) (v0 v1 v2 v3 v4 v5 v6 : Value) : Prop where
  c0 : w.cell? ⟨g, 0, none⟩ = some v0
  c1 : w.cell? ⟨g, 1, none⟩ = some v1
  c2 : w.cell? ⟨g, 2, none⟩ = some v2
  c3 : w.cell? ⟨g, 3, none⟩ = some v3
  c4 : w.cell? ⟨g, 4, none⟩ = some v4
  c5 : w.cell? ⟨g, 5, none⟩ = some v5
  c6 : w.cell? ⟨g, 6, none⟩ = some v6
  f0 : w.frozen? ⟨g, 0, none⟩ = false
  f1 : w.frozen? ⟨g, 1, none⟩ = false
  f2 : w.frozen? ⟨g, 2, none⟩ = false
  f3 : w.frozen? ⟨g, 3, none⟩ = false
  f4 : w.frozen? ⟨g, 4, none⟩ = false
  f5 : w.frozen? ⟨g, 5, none⟩ = false
  f6 : w.frozen? ⟨g, 6, none⟩ = false
  z : g < w.heap.size
section
variable {w w' : World} {g h : Nat} {v0 v1 v2 v3 v4 v5 v6 u0 u1 u2 u3 u4 u5 u6 : Value}
theorem Box7.below (b : Box7 w g v0 v1 v2 v3 v4 v5 v6) (q : Below w.heap.size w w') : Box7 w' g v0 v1 v2 v3 v4 v5 v6 :=
  ⟨(q.cell b.z).trans b.c0, (q.cell b.z).trans b.c1, (q.cell b.z).trans b.c2, (q.cell b.z).trans b.c3, (q.cell b.z).trans b.c4, (q.cell b.z).trans b.c5, (q.cell b.z).trans b.c6, (q.frozen b.z).trans b.f0, (q.frozen b.z).trans b.f1, (q.frozen b.z).trans b.f2, (q.frozen b.z).trans b.f3, (q.frozen b.z).trans b.f4, (q.frozen b.z).trans b.f5, (q.frozen b.z).trans b.f6, Nat.lt_of_lt_of_le b.z q.size⟩
theorem Box7.make (w : World) (v0 v1 v2 v3 v4 v5 v6 : Value) (T : TypeId) {g : Nat} (hg : g = w.heap.size) : Box7 (w.alloc (.cells #[v0, v1, v2, v3, v4, v5, v6] T)) g v0 v1 v2 v3 v4 v5 v6 := by
  subst hg; constructor <;> simp (maxDischargeDepth := 12) [go_sem]
theorem Box7.alloc (b : Box7 w g v0 v1 v2 v3 v4 v5 v6) (o : Obj) : Box7 (w.alloc o) g v0 v1 v2 v3 v4 v5 v6 := b.below ((Below.refl _ _).alloc (Nat.le_refl _) _)
theorem Box7.drew (b : Box7 w g v0 v1 v2 v3 v4 v5 v6) : Box7 w.drew g v0 v1 v2 v3 v4 v5 v6 := b.below (Below.refl _ _).drew
theorem Box7.drewN (b : Box7 w g v0 v1 v2 v3 v4 v5 v6) (k : Nat) : Box7 (w.drewN k) g v0 v1 v2 v3 v4 v5 v6 := b.below (below_drewN (Below.refl _ _) k)
theorem Box7.other (b : Box7 w g v0 v1 v2 v3 v4 v5 v6) (hne : h ≠ g) (j : Nat) (u : Value) : Box7 (w.setCell ⟨h, j, none⟩ u) g v0 v1 v2 v3 v4 v5 v6 := by
  obtain ⟨c0, c1, c2, c3, c4, c5, c6, f0, f1, f2, f3, f4, f5, f6, z⟩ := b
  have hn : g ≠ h := fun e => hne e.symm
  constructor <;> (first | (simp (maxDischargeDepth := 12) [go_sem, *]; done) | (simp; omega))
theorem Box7.set (b : Box7 w g v0 v1 v2 v3 v4 v5 v6) : Box7 (((((((w.setCell ⟨g, 0, none⟩ u0).setCell ⟨g, 1, none⟩ u1).setCell ⟨g, 2, none⟩ u2).setCell ⟨g, 3, none⟩ u3).setCell ⟨g, 4, none⟩ u4).setCell ⟨g, 5, none⟩ u5).setCell ⟨g, 6, none⟩ u6) g u0 u1 u2 u3 u4 u5 u6 := by
  obtain ⟨c0, c1, c2, c3, c4, c5, c6, f0, f1, f2, f3, f4, f5, f6, z⟩ := b
  constructor <;> (first | (simp (maxDischargeDepth := 20) [go_sem, *]; done) | (simp; omega))
end
structure Box8 (w : World) (g : Nat) (v0 v1 v2 v3 v4 v5 v6 v7 : Value) : Prop where
  c0 : w.cell? ⟨g, 0, none⟩ = some v0
  c1 : w.cell? ⟨g, 1, none⟩ = some v1
  c2 : w.cell? ⟨g, 2, none⟩ = some v2
  c3 : w.cell? ⟨g, 3, none⟩ = some v3
  c4 : w.cell? ⟨g, 4, none⟩ = some v4
  c5 : w.cell? ⟨g, 5, none⟩ = some v5
  c6 : w.cell? ⟨g, 6, none⟩ = some v6
  c7 : w.cell? ⟨g, 7, none⟩ = some v7
  f0 : w.frozen? ⟨g, 0, none⟩ = false
  f1 : w.frozen? ⟨g, 1, none⟩ = false
  f2 : w.frozen? ⟨g, 2, none⟩ = false
  f3 : w.frozen? ⟨g, 3, none⟩ = false
  f4 : w.frozen? ⟨g, 4, none⟩ = false
  f5 : w.frozen? ⟨g, 5, none⟩ = false
  f6 : w.frozen? ⟨g, 6, none⟩ = false
  f7 : w.frozen? ⟨g, 7, none⟩ = false
  z : g < w.heap.size
section
variable {w w' : World} {g h : Nat} {v0 v1 v2 v3 v4 v5 v6 v7 u0 u1 u2 u3 u4 u5 u6 u7 : Value}
theorem Box8.below (b : Box8 w g v0 v1 v2 v3 v4 v5 v6 v7) (q : Below w.heap.size w w') : Box8 w' g v0 v1 v2 v3 v4 v5 v6 v7 :=
  ⟨(q.cell b.z).trans b.c0, (q.cell b.z).trans b.c1, (q.cell b.z).trans b.c2, (q.cell b.z).trans b.c3, (q.cell b.z).trans b.c4, (q.cell b.z).trans b.c5, (q.cell b.z).trans b.c6, (q.cell b.z).trans b.c7, (q.frozen b.z).trans b.f0, (q.frozen b.z).trans b.f1, (q.frozen b.z).trans b.f2, (q.frozen b.z).trans b.f3, (q.frozen b.z).trans b.f4, (q.frozen b.z).trans b.f5, (q.frozen b.z).trans b.f6, (q.frozen b.z).trans b.f7, Nat.lt_of_lt_of_le b.z q.size⟩
theorem Box8.make (w : World) (v0 v1 v2 v3 v4 v5 v6 v7 : Value) (T : TypeId) {g : Nat} (hg : g = w.heap.size) : Box8 (w.alloc (.cells #[v0, v1, v2, v3, v4, v5, v6, v7] T)) g v0 v1 v2 v3 v4 v5 v6 v7 := by
  subst hg; constructor <;> simp (maxDischargeDepth := 12) [go_sem]
theorem Box8.alloc (b : Box8 w g v0 v1 v2 v3 v4 v5 v6 v7) (o : Obj) : Box8 (w.alloc o) g v0 v1 v2 v3 v4 v5 v6 v7 := b.below ((Below.refl _ _).alloc (Nat.le_refl _) _)
theorem Box8.drew (b : Box8 w g v0 v1 v2 v3 v4 v5 v6 v7) : Box8 w.drew g v0 v1 v2 v3 v4 v5 v6 v7 := b.below (Below.refl _ _).drew
theorem Box8.drewN (b : Box8 w g v0 v1 v2 v3 v4 v5 v6 v7) (k : Nat) : Box8 (w.drewN k) g v0 v1 v2 v3 v4 v5 v6 v7 := b.below (below_drewN (Below.refl _ _) k)
theorem Box8.other (b : Box8 w g v0 v1 v2 v3 v4 v5 v6 v7) (hne : h ≠ g) (j : Nat) (u : Value) : Box8 (w.setCell ⟨h, j, none⟩ u) g v0 v1 v2 v3 v4 v5 v6 v7 := by
  obtain ⟨c0, c1, c2, c3, c4, c5, c6, c7, f0, f1, f2, f3, f4, f5, f6, f7, z⟩ := b
  have hn : g ≠ h := fun e => hne e.symm
  constructor <;> (first | (simp (maxDischargeDepth := 12) [go_sem, *]; done) | (simp; omega))
theorem Box8.set (b : Box8 w g v0 v1 v2 v3 v4 v5 v6 v7) : Box8 ((((((((w.setCell ⟨g, 0, none⟩ u0).setCell ⟨g, 1, none⟩ u1).setCell ⟨g, 2, none⟩ u2).setCell ⟨g, 3, none⟩ u3).setCell ⟨g, 4, none⟩ u4).setCell ⟨g, 5, none⟩ u5).setCell ⟨g, 6, none⟩ u6).setCell ⟨g, 7, none⟩ u7) g u0 u1 u2 u3 u4 u5 u6 u7 := by
  obtain ⟨c0, c1, c2, c3, c4, c5, c6, c7, f0, f1, f2, f3, f4, f5, f6, f7, z⟩ := b
  constructor <;> (first | (simp (maxDischargeDepth := 20) [go_sem, *]; done) | (simp; omega))
end
structure Box9 (w : World) (g : Nat) (v0 v1 v2 v3 v4 v5 v6 v7 v8 : Value) : Prop where
  c0 : w.cell? ⟨g, 0, none⟩ = some v0
  c1 : w.cell? ⟨g, 1, none⟩ = some v1
  c2 : w.cell? ⟨g, 2, none⟩ = some v2
  c3 : w.cell? ⟨g, 3, none⟩ = some v3
  c4 : w.cell? ⟨g, 4, none⟩ = some v4
  c5 : w.cell? ⟨g, 5, none⟩ = some v5
  c6 : w.cell? ⟨g, 6, none⟩ = some v6
  c7 : w.cell? ⟨g, 7, none⟩ = some v7
  c8 : w.cell? ⟨g, 8, none⟩ = some v8
  f0 : w.frozen? ⟨g, 0, none⟩ = false
  f1 : w.frozen? ⟨g, 1, none⟩ = false
  f2 : w.frozen? ⟨g, 2, none⟩ = false
  f3 : w.frozen? ⟨g, 3, none⟩ = false
  f4 : w.frozen? ⟨g, 4, none⟩ = false
  f5 : w.frozen? ⟨g, 5, none⟩ = false
  f6 : w.frozen? ⟨g, 6, none⟩ = false
  f7 : w.frozen? ⟨g, 7, none⟩ = false
  f8 : w.frozen? ⟨g, 8, none⟩ = false
  z : g < w.heap.size
section
variable {w w' : World} {g h : Nat} {v0 v1 v2 v3 v4 v5 v6 v7 v8 u0 u1 u2 u3 u4 u5 u6 u7 u8 : Value}
theorem Box9.below (b : Box9 w g v0 v1 v2 v3 v4 v5 v6 v7 v8) (q : Below w.heap.size w w') : Box9 w' g v0 v1 v2 v3 v4 v5 v6 v7 v8 :=
  ⟨(q.cell b.z).trans b.c0, (q.cell b.z).trans b.c1, (q.cell b.z).trans b.c2, (q.cell b.z).trans b.c3, (q.cell b.z).trans b.c4, (q.cell b.z).trans b.c5, (q.cell b.z).trans b.c6, (q.cell b.z).trans b.c7, (q.cell b.z).trans b.c8, (q.frozen b.z).trans b.f0, (q.frozen b.z).trans b.f1, (q.frozen b.z).trans b.f2, (q.frozen b.z).trans b.f3, (q.frozen b.z).trans b.f4, (q.frozen b.z).trans b.f5, (q.frozen b.z).trans b.f6, (q.frozen b.z).trans b.f7, (q.frozen b.z).trans b.f8, Nat.lt_of_lt_of_le b.z q.size⟩
theorem Box9.make (w : World) (v0 v1 v2 v3 v4 v5 v6 v7 v8 : Value) (T : TypeId) {g : Nat} (hg : g = w.heap.size) : Box9 (w.alloc (.cells #[v0, v1, v2, v3, v4, v5, v6, v7, v8] T)) g v0 v1 v2 v3 v4 v5 v6 v7 v8 := by
  subst hg; constructor <;> simp (maxDischargeDepth := 12) [go_sem]
theorem Box9.alloc (b : Box9 w g v0 v1 v2 v3 v4 v5 v6 v7 v8) (o : Obj) : Box9 (w.alloc o) g v0 v1 v2 v3 v4 v5 v6 v7 v8 := b.below ((Below.refl _ _).alloc (Nat.le_refl _) _)
theorem Box9.drew (b : Box9 w g v0 v1 v2 v3 v4 v5 v6 v7 v8) : Box9 w.drew g v0 v1 v2 v3 v4 v5 v6 v7 v8 := b.below (Below.refl _ _).drew
theorem Box9.drewN (b : Box9 w g v0 v1 v2 v3 v4 v5 v6 v7 v8) (k : Nat) : Box9 (w.drewN k) g v0 v1 v2 v3 v4 v5 v6 v7 v8 := b.below (below_drewN (Below.refl _ _) k)
theorem Box9.other (b : Box9 w g v0 v1 v2 v3 v4 v5 v6 v7 v8) (hne : h ≠ g) (j : Nat) (u : Value) : Box9 (w.setCell ⟨h, j, none⟩ u) g v0 v1 v2 v3 v4 v5 v6 v7 v8 := by
  obtain ⟨c0, c1, c2, c3, c4, c5, c6, c7, c8, f0, f1, f2, f3, f4, f5, f6, f7, f8, z⟩ := b
  have hn : g ≠ h := fun e => hne e.symm
  constructor <;> (first | (simp (maxDischargeDepth := 12) [go_sem, *]; done) | (simp; omega))
theorem Box9.set (b : Box9 w g v0 v1 v2 v3 v4 v5 v6 v7 v8) : Box9 (((((((((w.setCell ⟨g, 0, none⟩ u0).setCell ⟨g, 1, none⟩ u1).setCell ⟨g, 2, none⟩ u2).setCell ⟨g, 3, none⟩ u3).setCell ⟨g, 4, none⟩ u4).setCell ⟨g, 5, none⟩ u5).setCell ⟨g, 6, none⟩ u6).setCell ⟨g, 7, none⟩ u7).setCell ⟨g, 8, none⟩ u8) g u0 u1 u2 u3 u4 u5 u6 u7 u8 := by
  obtain ⟨c0, c1, c2, c3, c4, c5, c6, c7, c8, f0, f1, f2, f3, f4, f5, f6, f7, f8, z⟩ := b
  constructor <;> (first | (simp (maxDischargeDepth := 20) [go_sem, *]; done) | (simp; omega))
end
end Go.Proofs.Ytanbplnagcmlcaa

/- Layer 15: how code lies in memory. -/
namespace Go.Proofs.Ytanbplnagcmlcaa
open Go.RowKit
/-- A slice of n elements of k cells each, that read as xs, below block B. -/
def Sl (w : World) (B k : Nat) (v : Value) (n : Nat) (xs : List Value) : Prop :=
  ∃ (A : Option Addr) (c : Nat), v = .slice A n c ∧ n ≤ c ∧ c ≤ maxLen ∧ (A = none → n = 0 ∧ c = 0) ∧ Reads w B k A n xs
section
variable {w w' : World} {B B' k n : Nat} {v : Value} {xs : List Value}
theorem Sl.below (h : Sl w B k v n xs) (q : Below B w w') : Sl w' B k v n xs := by
  obtain ⟨A, c, e, h1, h2, h3, h4⟩ := h
  exact ⟨A, c, e, h1, h2, h3, h4.below q⟩
theorem Sl.more (h : Sl w B k v n xs) (hB : B ≤ B') : Sl w B' k v n xs := by
  obtain ⟨A, c, e, h1, h2, h3, h4⟩ := h
  exact ⟨A, c, e, h1, h2, h3, h4.more hB⟩
theorem Sl.len (h : Sl w B k v n xs) : n ≤ maxLen := by
  obtain ⟨A, c, e, h1, h2, h3, h4⟩ := h; omega
theorem Sl.nil : Sl w B k (.slice none 0 0) 0 [] := ⟨none, 0, rfl, by omega, by omega, fun _ => ⟨rfl, rfl⟩, by simp [Reads]⟩
end
theorem reads_at {w : World} {B k n j : Nat} {A : Option Addr} {xs : List Value} (h : Reads w B k A n xs) (hj : j < n) :
    ∃ ad, A = some ad ∧ ad.block < B ∧ ∀ i, i < k → ∃ u, xs[j * k + i]? = some u ∧ w.cell? (ad.add (j * k + i)) = some u := by
  obtain ⟨ad, e, hb, hc⟩ := h.2 (by omega)
  refine ⟨ad, e, hb, fun i hi => ?_⟩
  have hl : j * k + i < xs.length := by
    rw [h.1]
    have : (j + 1) * k ≤ n * k := Nat.mul_le_mul_right k (by omega)
    rw [Nat.add_mul, Nat.one_mul] at this
    omega
  exact ⟨xs[j * k + i], List.getElem?_eq_getElem hl, hc _ _ (List.getElem?_eq_getElem hl)⟩
/-- Elements of k cells each, in a row. -/
theorem flat_at {α : Type} (f : α → List Value) (k : Nat) (hf : ∀ x, (f x).length = k) : ∀ (l : List α) (j i : Nat) (hj : j < l.length), i < k → (l.flatMap f)[j * k + i]? = (f l[j])[i]?
  | x :: l, 0, i, _, hi => by
    rw [List.flatMap_cons, List.getElem?_append_left (by rw [hf]; omega)]
    simp
  | x :: l, j + 1, i, hj, hi => by
    rw [List.flatMap_cons, List.getElem?_append_right (by rw [hf, Nat.add_mul]; omega), hf]
    have := flat_at f k hf l j i (by simpa using hj) hi
    rw [show (j + 1) * k + i - k = j * k + i by rw [Nat.add_mul]; omega, this]
    simp
theorem flat_len {α : Type} (f : α → List Value) (k : Nat) (hf : ∀ x, (f x).length = k) : ∀ (l : List α), (l.flatMap f).length = l.length * k
  | [] => by simp
  | x :: l => by rw [List.flatMap_cons, List.length_append, hf, flat_len f k hf l, List.length_cons, Nat.add_mul]; omega
def I64 (x : Int) : Prop := -9223372036854775808 ≤ x ∧ x < 9223372036854775808
/-- A variable: its name, whether it is an array. -/
abbrev VarV := ByteArray × Bool
def varC (v : VarV) : List Value := [.string v.1, .bool v.2]
/-- An instruction as it lies in memory. -/
structure InsV where
  op : Int
  a : Int
  b : Int
  c : Int
  at' : Int
  s : ByteArray
  n : Bool
  h : Int
  l : Int
  L : Value
  ls : List Int
def insC (x : InsV) : List Value := [.int .i64 x.op, .int .i64 x.a, .int .i64 x.b, .int .i64 x.c, .int .i64 x.at', .string x.s, .bool x.n, .int .u64 x.h, .int .u64 x.l, x.L]
def iv64 (x : Int) : Value := .int .i64 x
structure InsV.ok (w : World) (B : Nat) (x : InsV) : Prop where
  op : I64 x.op
  a : I64 x.a
  b : I64 x.b
  c : I64 x.c
  ls : ∀ i ∈ x.ls, I64 i
  L : Sl w B 1 x.L x.ls.length (x.ls.map iv64)
structure JobV where
  kind : Int
  P : Value
  ps : List Int
  body : Int
  bare : Bool
def jobC (x : JobV) : List Value := [.int .i64 x.kind, x.P, .int .i64 x.body, .bool x.bare]
structure JobV.ok (w : World) (B : Nat) (x : JobV) : Prop where
  kind : I64 x.kind
  body : I64 x.body
  ps : ∀ i ∈ x.ps, I64 i
  P : Sl w B 1 x.P x.ps.length (x.ps.map iv64)
/-- A program's code as it lies in memory: globals, locals, procedures, rules. -/
structure CodeV where
  gl : List VarV
  lo : List (Value × List VarV)
  pr : List (Value × List InsV)
  jb : List JobV
def rowOk (w : World) (B : Nat) (x : Value × List InsV) : Prop := Sl w B 10 x.1 x.2.length (x.2.flatMap insC) ∧ ∀ i ∈ x.2, i.ok w B
def varsOk (w : World) (B : Nat) (x : Value × List VarV) : Prop := Sl w B 2 x.1 x.2.length (x.2.flatMap varC)
structure CodeV.ok (w : World) (B : Nat) (C : CodeV) (G L P J : Value) : Prop where
  g : Sl w B 2 G C.gl.length (C.gl.flatMap varC)
  l : Sl w B 1 L C.lo.length (C.lo.map (·.1))
  ll : ∀ x ∈ C.lo, varsOk w B x
  p : Sl w B 1 P C.pr.length (C.pr.map (·.1))
  pp : ∀ x ∈ C.pr, rowOk w B x
  j : Sl w B 4 J C.jb.length (C.jb.flatMap jobC)
  jj : ∀ x ∈ C.jb, x.ok w B
section
variable {w w' : World} {B B' : Nat}
theorem InsV.ok.below {x : InsV} (h : x.ok w B) (q : Below B w w') : x.ok w' B := ⟨h.op, h.a, h.b, h.c, h.ls, h.L.below q⟩
theorem JobV.ok.below {x : JobV} (h : x.ok w B) (q : Below B w w') : x.ok w' B := ⟨h.kind, h.body, h.ps, h.P.below q⟩
theorem rowOk.below {x : Value × List InsV} (h : rowOk w B x) (q : Below B w w') : rowOk w' B x := ⟨h.1.below q, fun i hi => (h.2 i hi).below q⟩
theorem CodeV.ok.below {C : CodeV} {G L P J : Value} (h : C.ok w B G L P J) (q : Below B w w') : C.ok w' B G L P J :=
  ⟨h.g.below q, h.l.below q, fun x hx => (h.ll x hx).below q, h.p.below q, fun x hx => (h.pp x hx).below q, h.j.below q, fun x hx => (h.jj x hx).below q⟩
theorem InsV.ok.more {x : InsV} (h : x.ok w B) (q : B ≤ B') : x.ok w B' := ⟨h.op, h.a, h.b, h.c, h.ls, h.L.more q⟩
theorem JobV.ok.more {x : JobV} (h : x.ok w B) (q : B ≤ B') : x.ok w B' := ⟨h.kind, h.body, h.ps, h.P.more q⟩
theorem rowOk.more {x : Value × List InsV} (h : rowOk w B x) (q : B ≤ B') : rowOk w B' x := ⟨h.1.more q, fun i hi => (h.2 i hi).more q⟩
theorem CodeV.ok.more {C : CodeV} {G L P J : Value} (h : C.ok w B G L P J) (q : B ≤ B') : C.ok w B' G L P J :=
  ⟨h.g.more q, h.l.more q, fun x hx => (h.ll x hx).more q, h.p.more q, fun x hx => (h.pp x hx).more q, h.j.more q, fun x hx => (h.jj x hx).more q⟩
end
/-- What is plain of it. -/
def pIns (x : InsV) : Ins := ⟨x.op, x.a, x.b, x.c, x.s.toList, x.ls⟩
def pNms (C : CodeV) : Nms := ⟨C.gl.map (·.2), C.lo.map fun x => x.2.map (·.2)⟩
def pJob (x : JobV) : Jb := ⟨x.kind, x.ps, x.body, x.bare⟩
def pProcs (C : CodeV) : List (List Ins) := C.pr.map fun x => x.2.map pIns
def pValid (C : CodeV) : Bool := validB (pNms C) (pProcs C) (C.jb.map pJob)
end Go.Proofs.Ytanbplnagcmlcaa

/- Layer 15: the variable of a place. -/
namespace Go.Proofs.Ytanbplnagcmlcaa
open Go.RowKit
/-- What (a pointer to) heights holds of its code: its first cells, and what they read as. -/
structure Gs (w : World) (B g : Nat) (C : CodeV) (G L P J : Value) (row : Value × List InsV) (loc : Value × List VarV) : Prop where
  ok : C.ok w B G L P J
  rok : rowOk w B row
  lok : varsOk w B loc
  c0 : w.cell? ⟨g, 0, none⟩ = some G
  c1 : w.cell? ⟨g, 1, none⟩ = some L
  c2 : w.cell? ⟨g, 2, none⟩ = some P
  c3 : w.cell? ⟨g, 3, none⟩ = some J
  c4 : w.cell? ⟨g, 4, none⟩ = some row.1
  c5 : w.cell? ⟨g, 5, none⟩ = some loc.1
  hB : B ≤ w.heap.size
  hg : g < w.heap.size
theorem Gs.below {w w' : World} {B g : Nat} {C : CodeV} {G L P J : Value} {row : Value × List InsV} {loc : Value × List VarV} (H : Gs w B g C G L P J row loc) (q : Below w.heap.size w w') : Gs w' B g C G L P J row loc :=
  have q' := q.mono H.hB
  ⟨H.ok.below q', H.rok.below q', H.lok.below q', (q.cell H.hg).trans H.c0, (q.cell H.hg).trans H.c1, (q.cell H.hg).trans H.c2, (q.cell H.hg).trans H.c3, (q.cell H.hg).trans H.c4, (q.cell H.hg).trans H.c5, Nat.le_trans H.hB q.size, Nat.lt_of_lt_of_le H.hg q.size⟩
def mineV (loc : Value × List VarV) : List Bool := loc.2.map (·.2)
def vOk (C : CodeV) (loc : Value × List VarV) (sc i : Int) : Bool := (varAt (pNms C) (mineV loc) sc i).isSome
def vArr (C : CodeV) (loc : Value × List VarV) (sc i : Int) : Bool := (varAt (pNms C) (mineV loc) sc i).getD false
def VarPost (C : CodeV) (loc : Value × List VarV) (sc i : Int) (w : World) (e : Ending) (w' : World) : Prop :=
  (∃ s, e = .returned (.tuple #[.agg #[.string s, .bool (vArr C loc sc i)], .bool (vOk C loc sc i)])) ∧ Below w.heap.size w w'
theorem vars_at {w : World} {B j n : Nat} {A : Option Addr} {l : List VarV} (hl : l.length = n) (h : Reads w B 2 A n (l.flatMap varC)) (hj : j < n) :
    ∃ ad q s b, A = some ad ∧ ad.add (j * 2) = q ∧ q.block < B ∧ (l.map (·.2))[j]? = some b ∧ w.cell? q = some (.string s) ∧ w.cell? ⟨q.block, q.off + 1, none⟩ = some (.bool b) := by
  obtain ⟨ad, e, hb, hc⟩ := reads_at h hj
  obtain ⟨u0, h0, c0⟩ := hc 0 (by omega)
  obtain ⟨u1, h1, c1⟩ := hc 1 (by omega)
  rw [flat_at varC 2 (fun _ => rfl) l j _ (by omega) (by omega)] at h0 h1
  simp [varC] at h0 h1
  subst h0 h1
  refine ⟨ad, _, _, _, e, rfl, by rw [block_of_add]; exact hb, by rw [List.getElem?_map, List.getElem?_eq_getElem (by omega)]; rfl, by simpa using c0, ?_⟩
  rw [← add_of_add] at c1
  exact c1
theorem atI_nat {α : Type} (l : List α) (k : Nat) : atI l (k : Int) = l[k]? := by
  unfold atI; rw [if_neg (by omega), Int.toNat_natCast]
theorem atI_out {α : Type} (l : List α) (i : Int) (h : ¬ (0 ≤ i ∧ i < l.length)) : atI l i = none := by
  unfold atI
  by_cases h0 : i < 0
  · rw [if_pos h0]
  · rw [if_neg h0, List.getElem?_eq_none]; omega
theorem vOk_loc {C : CodeV} {loc : Value × List VarV} {i : Int} : vOk C loc 1 i = (atI (loc.2.map (·.2)) i).isSome ∧ vArr C loc 1 i = (atI (loc.2.map (·.2)) i).getD false := ⟨rfl, rfl⟩
theorem vOk_gl {C : CodeV} {loc : Value × List VarV} {i : Int} : vOk C loc 0 i = (atI (C.gl.map (·.2)) i).isSome ∧ vArr C loc 0 i = (atI (C.gl.map (·.2)) i).getD false := ⟨rfl, rfl⟩
theorem vOk_no {C : CodeV} {loc : Value × List VarV} {sc i : Int} (h1 : sc ≠ 1) (h0 : sc ≠ 0) : vOk C loc sc i = false ∧ vArr C loc sc i = false := by
  unfold vOk vArr varAt; rw [if_neg h1, if_neg h0]; exact ⟨rfl, rfl⟩
theorem var_yes {C : CodeV} {loc : Value × List VarV} {sc i : Int} {w w' : World} {s : ByteArray} {b : Bool} {e : Ending} (he : e = .returned (.tuple #[.agg #[.string s, .bool b], .bool true])) (h1 : vOk C loc sc i = true) (h2 : vArr C loc sc i = b) (hb : Below w.heap.size w w') : VarPost C loc sc i w e w' :=
  ⟨⟨s, by rw [h1, h2, he]⟩, hb⟩
theorem var_no {C : CodeV} {loc : Value × List VarV} {sc i : Int} {w w' : World} {s : ByteArray} {e : Ending} (he : e = .returned (.tuple #[.agg #[.string s, .bool false], .bool false])) (h1 : vOk C loc sc i = false) (h2 : vArr C loc sc i = false) (hb : Below w.heap.size w w') : VarPost C loc sc i w e w' :=
  ⟨⟨s, by rw [h1, h2, he]⟩, hb⟩
set_option maxHeartbeats 400000 in
theorem variable_any {w : World} {B g : Nat} {C : CodeV} {G L P J : Value} {row : Value × List InsV} {loc : Value × List VarV} (H : Gs w B g C G L P J row loc) (sc i : Int) (hi : I64 i) :
    Calls Try.prog 20 #[.pointer (some ⟨g, 0, none⟩), .int .i64 sc, .int .i64 i] w (VarPost C loc sc i w) := by
  have h0 := H.c0
  have h5 := H.c5
  have hg := H.hg
  have hB := H.hB
  obtain ⟨A, c, e1, hc1, hc2, hn, hr⟩ := H.ok.g
  obtain ⟨A', c', e1', hc1', hc2', hn', hr'⟩ := H.lok
  rw [e1] at h0
  rw [e1'] at h5
  clear H
  unfold I64 at hi
  unfold maxLen at hc2 hc2'
  by_cases s1 : sc = 1
  · subst s1
    by_cases r : 0 ≤ i ∧ i < loc.2.length
    · obtain ⟨k, rfl⟩ : ∃ k : Nat, i = (k : Int) := ⟨i.toNat, by omega⟩
      obtain ⟨ad, q, s, b, rfl, hq, hb, hv, hx, hy⟩ := vars_at rfl hr' (j := k) (by omega)
      have hk : k < loc.2.length := by omega
      have hqb : q.block < w.heap.size := by omega
      have HV := Lib.hid hv
      clear r hr hr' e1 e1' hn hn' hv hb
      go_enter Try.func20, Try.ntmps20
      go_wp2
      (try simp only [Exit.inBlock, Exit.then]); refine bodyPost_ret (by simp [results, Try.results20, go_sem, *]; try rfl) rfl ?_
      exact var_yes rfl (by rw [vOk_loc.1, atI_nat, HV.out]; rfl) (by rw [vOk_loc.2, atI_nat, HV.out]; rfl) (by (repeat' (first | (with_reducible exact Below.refl _ _) | (refine Below.trans ?_ (Below.mono (by with_reducible assumption) ?_)) | (with_reducible exact Below.refl _ _) | (with_reducible refine below_drewN ?_ _) | (with_reducible refine Below.drew ?_) | (with_reducible refine Below.setCell ?_ ?_ _) | (with_reducible refine Below.alloc ?_ ?_ _) | (with_reducible assumption) | (simp; done) | (simp; omega) | omega)))
    · have hv := atI_out (loc.2.map (·.2)) i (by rw [List.length_map]; exact r)
      have HV := Lib.hid hv
      have HR := Lib.hid r
      clear r hr hr' e1 e1' hn hn' hv
      by_cases h0i : 0 ≤ i
      · obtain ⟨k, rfl⟩ : ∃ k : Nat, i = (k : Int) := ⟨i.toNat, by omega⟩
        have hk : loc.2.length ≤ k := by have := HR.out; omega
        clear HR
        go_enter Try.func20, Try.ntmps20
        go_wp2
        (try simp only [Exit.inBlock, Exit.then]); refine bodyPost_ret (by simp [results, Try.results20, go_sem, *]; try rfl) rfl ?_
        exact var_no rfl (by rw [vOk_loc.1, HV.out]; rfl) (by rw [vOk_loc.2, HV.out]; rfl) (by (repeat' (first | (with_reducible exact Below.refl _ _) | (refine Below.trans ?_ (Below.mono (by with_reducible assumption) ?_)) | (with_reducible exact Below.refl _ _) | (with_reducible refine below_drewN ?_ _) | (with_reducible refine Below.drew ?_) | (with_reducible refine Below.setCell ?_ ?_ _) | (with_reducible refine Below.alloc ?_ ?_ _) | (with_reducible assumption) | (simp; done) | (simp; omega) | omega)))
      · have hk : i < 0 := by omega
        clear HR
        go_enter Try.func20, Try.ntmps20
        go_wp2
        (try simp only [Exit.inBlock, Exit.then]); refine bodyPost_ret (by simp [results, Try.results20, go_sem, *]; try rfl) rfl ?_
        exact var_no rfl (by rw [vOk_loc.1, HV.out]; rfl) (by rw [vOk_loc.2, HV.out]; rfl) (by (repeat' (first | (with_reducible exact Below.refl _ _) | (refine Below.trans ?_ (Below.mono (by with_reducible assumption) ?_)) | (with_reducible exact Below.refl _ _) | (with_reducible refine below_drewN ?_ _) | (with_reducible refine Below.drew ?_) | (with_reducible refine Below.setCell ?_ ?_ _) | (with_reducible refine Below.alloc ?_ ?_ _) | (with_reducible assumption) | (simp; done) | (simp; omega) | omega)))
  · by_cases s0 : sc = 0
    · subst s0
      by_cases r : 0 ≤ i ∧ i < C.gl.length
      · obtain ⟨k, rfl⟩ : ∃ k : Nat, i = (k : Int) := ⟨i.toNat, by omega⟩
        obtain ⟨ad, q, s, b, rfl, hq, hb, hv, hx, hy⟩ := vars_at rfl hr (j := k) (by omega)
        have hk : k < C.gl.length := by omega
        have hqb : q.block < w.heap.size := by omega
        have HV := Lib.hid hv
        clear r hr hr' e1 e1' hn hn' hv hb
        go_enter Try.func20, Try.ntmps20
        go_wp2
        (try simp only [Exit.inBlock, Exit.then]); refine bodyPost_ret (by simp [results, Try.results20, go_sem, *]; try rfl) rfl ?_
        exact var_yes rfl (by rw [vOk_gl.1, atI_nat, HV.out]; rfl) (by rw [vOk_gl.2, atI_nat, HV.out]; rfl) (by (repeat' (first | (with_reducible exact Below.refl _ _) | (refine Below.trans ?_ (Below.mono (by with_reducible assumption) ?_)) | (with_reducible exact Below.refl _ _) | (with_reducible refine below_drewN ?_ _) | (with_reducible refine Below.drew ?_) | (with_reducible refine Below.setCell ?_ ?_ _) | (with_reducible refine Below.alloc ?_ ?_ _) | (with_reducible assumption) | (simp; done) | (simp; omega) | omega)))
      · have hv := atI_out (C.gl.map (·.2)) i (by rw [List.length_map]; exact r)
        have HV := Lib.hid hv
        have HR := Lib.hid r
        clear r hr hr' e1 e1' hn hn' hv
        by_cases h0i : 0 ≤ i
        · obtain ⟨k, rfl⟩ : ∃ k : Nat, i = (k : Int) := ⟨i.toNat, by omega⟩
          have hk : C.gl.length ≤ k := by have := HR.out; omega
          clear HR
          go_enter Try.func20, Try.ntmps20
          go_wp2
          (try simp only [Exit.inBlock, Exit.then]); refine bodyPost_ret (by simp [results, Try.results20, go_sem, *]; try rfl) rfl ?_
          exact var_no rfl (by rw [vOk_gl.1, HV.out]; rfl) (by rw [vOk_gl.2, HV.out]; rfl) (by (repeat' (first | (with_reducible exact Below.refl _ _) | (refine Below.trans ?_ (Below.mono (by with_reducible assumption) ?_)) | (with_reducible exact Below.refl _ _) | (with_reducible refine below_drewN ?_ _) | (with_reducible refine Below.drew ?_) | (with_reducible refine Below.setCell ?_ ?_ _) | (with_reducible refine Below.alloc ?_ ?_ _) | (with_reducible assumption) | (simp; done) | (simp; omega) | omega)))
        · have hk : i < 0 := by omega
          clear HR
          go_enter Try.func20, Try.ntmps20
          go_wp2
          (try simp only [Exit.inBlock, Exit.then]); refine bodyPost_ret (by simp [results, Try.results20, go_sem, *]; try rfl) rfl ?_
          exact var_no rfl (by rw [vOk_gl.1, HV.out]; rfl) (by rw [vOk_gl.2, HV.out]; rfl) (by (repeat' (first | (with_reducible exact Below.refl _ _) | (refine Below.trans ?_ (Below.mono (by with_reducible assumption) ?_)) | (with_reducible exact Below.refl _ _) | (with_reducible refine below_drewN ?_ _) | (with_reducible refine Below.drew ?_) | (with_reducible refine Below.setCell ?_ ?_ _) | (with_reducible refine Below.alloc ?_ ?_ _) | (with_reducible assumption) | (simp; done) | (simp; omega) | omega)))
    · have hno := vOk_no (C := C) (loc := loc) (i := i) s1 s0
      have HV := Lib.hid hno
      clear hr hr' e1 e1' hn hn' hno
      go_enter Try.func20, Try.ntmps20
      go_wp2
      (try simp only [Exit.inBlock, Exit.then]); refine bodyPost_ret (by simp [results, Try.results20, go_sem, *]; try rfl) rfl ?_
      exact var_no rfl HV.out.1 HV.out.2 (by (repeat' (first | (with_reducible exact Below.refl _ _) | (refine Below.trans ?_ (Below.mono (by with_reducible assumption) ?_)) | (with_reducible exact Below.refl _ _) | (with_reducible refine below_drewN ?_ _) | (with_reducible refine Below.drew ?_) | (with_reducible refine Below.setCell ?_ ?_ _) | (with_reducible refine Below.alloc ?_ ?_ _) | (with_reducible assumption) | (simp; done) | (simp; omega) | omega)))
end Go.Proofs.Ytanbplnagcmlcaa
