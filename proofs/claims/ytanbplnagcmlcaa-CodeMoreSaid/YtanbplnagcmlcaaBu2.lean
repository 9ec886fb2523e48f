/- Several texts put together: Box, CodD, FrameD, FrameE. -/
import Derived.Test.YtanbplnagcmlcaaBu1
/- Boxes: blocks of a few cells that are known and may be written. -/
namespace Go.Proofs.Ytanbplnagcmlcaa
open Go.RowKit
theorem below_step {w a b : World} (h : Below w.heap.size w a) (p : Below a.heap.size a b) : Below w.heap.size w b := h.trans (p.mono h.size)
structure Box1 (w : World) (g : Nat) (v0 : Value) : Prop where
  c0 : w.cell? ⟨g, 0, none⟩ = some v0
  f0 : w.frozen? ⟨g, 0, none⟩ = false
  z : g < w.heap.size
section
variable {w w' : World} {g h : Nat} {v0 u0 : Value}
theorem Box1.below (b : Box1 w g v0) (q : Below w.heap.size w w') : Box1 w' g v0 :=
  ⟨(q.cell b.z).trans b.c0, (q.frozen b.z).trans b.f0, Nat.lt_of_lt_of_le b.z q.size⟩
theorem Box1.make (w : World) (v0 : Value) (T : TypeId) {g : Nat} (hg : g = w.heap.size) : Box1 (w.alloc (.cells #[v0] T)) g v0 := by
  subst hg; constructor <;> simp (maxDischargeDepth := 12) [go_sem]
theorem Box1.alloc (b : Box1 w g v0) (o : Obj) : Box1 (w.alloc o) g v0 := b.below ((Below.refl _ _).alloc (Nat.le_refl _) _)
theorem Box1.drew (b : Box1 w g v0) : Box1 w.drew g v0 := b.below (Below.refl _ _).drew
theorem Box1.drewN (b : Box1 w g v0) (k : Nat) : Box1 (w.drewN k) g v0 := b.below (below_drewN (Below.refl _ _) k)
theorem Box1.other (b : Box1 w g v0) (hne : h ≠ g) (j : Nat) (u : Value) : Box1 (w.setCell ⟨h, j, none⟩ u) g v0 := by
  obtain ⟨c0, f0, z⟩ := b
  have hn : g ≠ h := fun e => hne e.symm
  constructor <;> (first | (simp (maxDischargeDepth := 12) [go_sem, *]; done) | (simp; omega))
theorem Box1.set (b : Box1 w g v0) : Box1 (w.setCell ⟨g, 0, none⟩ u0) g u0 := by
  obtain ⟨c0, f0, z⟩ := b
  constructor <;> (first | (simp (maxDischargeDepth := 20) [go_sem, *]; done) | (simp; omega))
end
structure Box2 (w : World) (g : Nat) (v0 v1 : Value) : Prop where
  c0 : w.cell? ⟨g, 0, none⟩ = some v0
  c1 : w.cell? ⟨g, 1, none⟩ = some v1
  f0 : w.frozen? ⟨g, 0, none⟩ = false
  f1 : w.frozen? ⟨g, 1, none⟩ = false
  z : g < w.heap.size
section
variable {w w' : World} {g h : Nat} {v0 v1 u0 u1 : Value}
theorem Box2.below (b : Box2 w g v0 v1) (q : Below w.heap.size w w') : Box2 w' g v0 v1 :=
  ⟨(q.cell b.z).trans b.c0, (q.cell b.z).trans b.c1, (q.frozen b.z).trans b.f0, (q.frozen b.z).trans b.f1, Nat.lt_of_lt_of_le b.z q.size⟩
theorem Box2.make (w : World) (v0 v1 : Value) (T : TypeId) {g : Nat} (hg : g = w.heap.size) : Box2 (w.alloc (.cells #[v0, v1] T)) g v0 v1 := by
  subst hg; constructor <;> simp (maxDischargeDepth := 12) [go_sem]
theorem Box2.alloc (b : Box2 w g v0 v1) (o : Obj) : Box2 (w.alloc o) g v0 v1 := b.below ((Below.refl _ _).alloc (Nat.le_refl _) _)
theorem Box2.drew (b : Box2 w g v0 v1) : Box2 w.drew g v0 v1 := b.below (Below.refl _ _).drew
theorem Box2.drewN (b : Box2 w g v0 v1) (k : Nat) : Box2 (w.drewN k) g v0 v1 := b.below (below_drewN (Below.refl _ _) k)
theorem Box2.other (b : Box2 w g v0 v1) (hne : h ≠ g) (j : Nat) (u : Value) : Box2 (w.setCell ⟨h, j, none⟩ u) g v0 v1 := by
  obtain ⟨c0, c1, f0, f1, z⟩ := b
  have hn : g ≠ h := fun e => hne e.symm
  constructor <;> (first | (simp (maxDischargeDepth := 12) [go_sem, *]; done) | (simp; omega))
theorem Box2.set (b : Box2 w g v0 v1) : Box2 ((w.setCell ⟨g, 0, none⟩ u0).setCell ⟨g, 1, none⟩ u1) g u0 u1 := by
  obtain ⟨c0, c1, f0, f1, z⟩ := b
  constructor <;> (first | (simp (maxDischargeDepth := 20) [go_sem, *]; done) | (simp; omega))
end
structure Box3 (w : World) (g : Nat) (v0 v1 v2 : Value) : Prop where
  c0 : w.cell? ⟨g, 0, none⟩ = some v0
  c1 : w.cell? ⟨g, 1, none⟩ = some v1
  c2 : w.cell? ⟨g, 2, none⟩ = some v2
  f0 : w.frozen? ⟨g, 0, none⟩ = false
  f1 : w.frozen? ⟨g, 1, none⟩ = false
  f2 : w.frozen? ⟨g, 2, none⟩ = false
  z : g < w.heap.size
section
variable {w w' : World} {g h : Nat} {v0 v1 v2 u0 u1 u2 : Value}
theorem Box3.below (b : Box3 w g v0 v1 v2) (q : Below w.heap.size w w') : Box3 w' g v0 v1 v2 :=
  ⟨(q.cell b.z).trans b.c0, (q.cell b.z).trans b.c1, (q.cell b.z).trans b.c2, (q.frozen b.z).trans b.f0, (q.frozen b.z).trans b.f1, (q.frozen b.z).trans b.f2, Nat.lt_of_lt_of_le b.z q.size⟩
theorem Box3.make (w : World) (v0 v1 v2 : Value) (T : TypeId) {g : Nat} (hg : g = w.heap.size) : Box3 (w.alloc (.cells #[v0, v1, v2] T)) g v0 v1 v2 := by
  subst hg; constructor <;> simp (maxDischargeDepth := 12) [go_sem]
theorem Box3.alloc (b : Box3 w g v0 v1 v2) (o : Obj) : Box3 (w.alloc o) g v0 v1 v2 := b.below ((Below.refl _ _).alloc (Nat.le_refl _) _)
theorem Box3.drew (b : Box3 w g v0 v1 v2) : Box3 w.drew g v0 v1 v2 := b.below (Below.refl _ _).drew
theorem Box3.drewN (b : Box3 w g v0 v1 v2) (k : Nat) : Box3 (w.drewN k) g v0 v1 v2 := b.below (below_drewN (Below.refl _ _) k)
theorem Box3.other (b : Box3 w g v0 v1 v2) (hne : h ≠ g) (j : Nat) (u : Value) : Box3 (w.setCell ⟨h, j, none⟩ u) g v0 v1 v2 := by
  obtain ⟨c0, c1, c2, f0, f1, f2, z⟩ := b
  have hn : g ≠ h := fun e => hne e.symm
  constructor <;> (first | (simp (maxDischargeDepth := 12) [go_sem, *]; done) | (simp; omega))
theorem Box3.set (b : Box3 w g v0 v1 v2) : Box3 (((w.setCell ⟨g, 0, none⟩ u0).setCell ⟨g, 1, none⟩ u1).setCell ⟨g, 2, none⟩ u2) g u0 u1 u2 := by
  obtain ⟨c0, c1, c2, f0, f1, f2, z⟩ := b
  constructor <;> (first | (simp (maxDischargeDepth := 20) [go_sem, *]; done) | (simp; omega))
end
structure Box4 (w : World) (g : Nat) (v0 v1 v2 v3 : Value) : Prop where
  c0 : w.cell? ⟨g, 0, none⟩ = some v0
  c1 : w.cell? ⟨g, 1, none⟩ = some v1
  c2 : w.cell? ⟨g, 2, none⟩ = some v2
  c3 : w.cell? ⟨g, 3, none⟩ = some v3
  f0 : w.frozen? ⟨g, 0, none⟩ = false
  f1 : w.frozen? ⟨g, 1, none⟩ = false
  f2 : w.frozen? ⟨g, 2, none⟩ = false
  f3 : w.frozen? ⟨g, 3, none⟩ = false
  z : g < w.heap.size
section
variable {w w' : World} {g h : Nat} {v0 v1 v2 v3 u0 u1 u2 u3 : Value}
theorem Box4.below (b : Box4 w g v0 v1 v2 v3) (q : Below w.heap.size w w') : Box4 w' g v0 v1 v2 v3 :=
  ⟨(q.cell b.z).trans b.c0, (q.cell b.z).trans b.c1, (q.cell b.z).trans b.c2, (q.cell b.z).trans b.c3, (q.frozen b.z).trans b.f0, (q.frozen b.z).trans b.f1, (q.frozen b.z).trans b.f2, (q.frozen b.z).trans b.f3, Nat.lt_of_lt_of_le b.z q.size⟩
theorem Box4.make (w : World) (v0 v1 v2 v3 : Value) (T : TypeId) {g : Nat} (hg : g = w.heap.size) : Box4 (w.alloc (.cells #[v0, v1, v2, v3] T)) g v0 v1 v2 v3 := by
  subst hg; constructor <;> simp (maxDischargeDepth := 12) [go_sem]
theorem Box4.alloc (b : Box4 w g v0 v1 v2 v3) (o : Obj) : Box4 (w.alloc o) g v0 v1 v2 v3 := b.below ((Below.refl _ _).alloc (Nat.le_refl _) _)
theorem Box4.drew (b : Box4 w g v0 v1 v2 v3) : Box4 w.drew g v0 v1 v2 v3 := b.below (Below.refl _ _).drew
theorem Box4.drewN (b : Box4 w g v0 v1 v2 v3) (k : Nat) : Box4 (w.drewN k) g v0 v1 v2 v3 := b.below (below_drewN (Below.refl _ _) k)
theorem Box4.other (b : Box4 w g v0 v1 v2 v3) (hne : h ≠ g) (j : Nat) (u : Value) : Box4 (w.setCell ⟨h, j, none⟩ u) g v0 v1 v2 v3 := by
  obtain ⟨c0, c1, c2, c3, f0, f1, f2, f3, z⟩ := b
  have hn : g ≠ h := fun e => hne e.symm
  constructor <;> (first | (simp (maxDischargeDepth := 12) [go_sem, *]; done) | (simp; omega))
theorem Box4.set (b : Box4 w g v0 v1 v2 v3) : Box4 ((((w.setCell ⟨g, 0, none⟩ u0).setCell ⟨g, 1, none⟩ u1).setCell ⟨g, 2, none⟩ u2).setCell ⟨g, 3, none⟩ u3) g u0 u1 u2 u3 := by
  obtain ⟨c0, c1, c2, c3, f0, f1, f2, f3, z⟩ := b
  constructor <;> (first | (simp (maxDischargeDepth := 20) [go_sem, *]; done) | (simp; omega))
end
structure Box5 (w : World) (g : Nat) (v0 v1 v2 v3 v4 : Value) : Prop where
  c0 : w.cell? ⟨g, 0, none⟩ = some v0
  c1 : w.cell? ⟨g, 1, none⟩ = some v1
  c2 : w.cell? ⟨g, 2, none⟩ = some v2
  c3 : w.cell? ⟨g, 3, none⟩ = some v3
  c4 : w.cell? ⟨g, 4, none⟩ = some v4
  f0 : w.frozen? ⟨g, 0, none⟩ = false
  f1 : w.frozen? ⟨g, 1, none⟩ = false
  f2 : w.frozen? ⟨g, 2, none⟩ = false
  f3 : w.frozen? ⟨g, 3, none⟩ = false
  f4 : w.frozen? ⟨g, 4, none⟩ = false
  z : g < w.heap.size
section
variable {w w' : World} {g h : Nat} {v0 v1 v2 v3 v4 u0 u1 u2 u3 u4 : Value}
theorem Box5.below (b : Box5 w g v0 v1 v2 v3 v4) (q : Below w.heap.size w w') : Box5 w' g v0 v1 v2 v3 v4 :=
  ⟨(q.cell b.z).trans b.c0, (q.cell b.z).trans b.c1, (q.cell b.z).trans b.c2, (q.cell b.z).trans b.c3, (q.cell b.z).trans b.c4, (q.frozen b.z).trans b.f0, (q.frozen b.z).trans b.f1, (q.frozen b.z).trans b.f2, (q.frozen b.z).trans b.f3, (q.frozen b.z).trans b.f4, Nat.lt_of_lt_of_le b.z q.size⟩
theorem Box5.make (w : World) (v0 v1 v2 v3 v4 : Value) (T : TypeId) {g : Nat} (hg : g = w.heap.size) : Box5 (w.alloc (.cells #[v0, v1, v2, v3, v4] T)) g v0 v1 v2 v3 v4 := by
  subst hg; constructor <;> simp (maxDischargeDepth := 12) [go_sem]
theorem Box5.alloc (b : Box5 w g v0 v1 v2 v3 v4) (o : Obj) : Box5 (w.alloc o) g v0 v1 v2 v3 v4 := b.below ((Below.refl _ _).alloc (Nat.le_refl _) _)
theorem Box5.drew (b : Box5 w g v0 v1 v2 v3 v4) : Box5 w.drew g v0 v1 v2 v3 v4 := b.below (Below.refl _ _).drew
theorem Box5.drewN (b : Box5 w g v0 v1 v2 v3 v4) (k : Nat) : Box5 (w.drewN k) g v0 v1 v2 v3 v4 := b.below (below_drewN (Below.refl _ _) k)
theorem Box5.other (b : Box5 w g v0 v1 v2 v3 v4) (hne : h ≠ g) (j : Nat) (u : Value) : Box5 (w.setCell ⟨h, j, none⟩ u) g v0 v1 v2 v3 v4 := by
  obtain ⟨c0, c1, c2, c3, c4, f0, f1, f2, f3, f4, z⟩ := b
  have hn : g ≠ h := fun e => hne e.symm
  constructor <;> (first | (simp (maxDischargeDepth := 12) [go_sem, *]; done) | (simp; omega))
theorem Box5.set (b : Box5 w g v0 v1 v2 v3 v4) : Box5 (((((w.setCell ⟨g, 0, none⟩ u0).setCell ⟨g, 1, none⟩ u1).setCell ⟨g, 2, none⟩ u2).setCell ⟨g, 3, none⟩ u3).setCell ⟨g, 4, none⟩ u4) g u0 u1 u2 u3 u4 := by
  obtain ⟨c0, c1, c2, c3, c4, f0, f1, f2, f3, f4, z⟩ := b
  constructor <;> (first | (simp (maxDischargeDepth := 20) [go_sem, *]; done) | (simp; omega))
end
structure Box6 (w : World) (g : Nat) (v0 v1 v2 v3 v4 v5 : Value) : Prop where
  c0 : w.cell? ⟨g, 0, none⟩ = some v0
  c1 : w.cell? ⟨g, 1, none⟩ = some v1
  c2 : w.cell? ⟨g, 2, none⟩ = some v2
  c3 : w.cell? ⟨g, 3, none⟩ = some v3
  c4 : w.cell? ⟨g, 4, none⟩ = some v4
  c5 : w.cell? ⟨g, 5, none⟩ = some v5
  f0 : w.frozen? ⟨g, 0, none⟩ = false
  f1 : w.frozen? ⟨g, 1, none⟩ = false
  f2 : w.frozen? ⟨g, 2, none⟩ = false
  f3 : w.frozen? ⟨g, 3, none⟩ = false
  f4 : w.frozen? ⟨g, 4, none⟩ = false
  f5 : w.frozen? ⟨g, 5, none⟩ = false
  z : g < w.heap.size
section
variable {w w' : World} {g h : Nat} {v0 v1 v2 v3 v4 v5 u0 u1 u2 u3 u4 u5 : Value}
theorem Box6.below (b : Box6 w g v0 v1 v2 v3 v4 v5) (q : Below w.heap.size w w') : Box6 w' g v0 v1 v2 v3 v4 v5 :=
  ⟨(q.cell b.z).trans b.c0, (q.cell b.z).trans b.c1, (q.cell b.z).trans b.c2, (q.cell b.z).trans b.c3, (q.cell b.z).trans b.c4, (q.cell b.z).trans b.c5, (q.frozen b.z).trans b.f0, (q.frozen b.z).trans b.f1, (q.frozen b.z).trans b.f2, (q.frozen b.z).trans b.f3, (q.frozen b.z).trans b.f4, (q.frozen b.z).trans b.f5, Nat.lt_of_lt_of_le b.z q.size⟩
theorem Box6.make (w : World) (v0 v1 v2 v3 v4 v5 : Value) (T : TypeId) {g : Nat} (hg : g = w.heap.size) : Box6 (w.alloc (.cells #[v0, v1, v2, v3, v4, v5] T)) g v0 v1 v2 v3 v4 v5 := by
  subst hg; constructor <;> simp (maxDischargeDepth := 12) [go_sem]
theorem Box6.alloc (b : Box6 w g v0 v1 v2 v3 v4 v5) (o : Obj) : Box6 (w.alloc o) g v0 v1 v2 v3 v4 v5 := b.below ((Below.refl _ _).alloc (Nat.le_refl _) _)
theorem Box6.drew (b : Box6 w g v0 v1 v2 v3 v4 v5) : Box6 w.drew g v0 v1 v2 v3 v4 v5 := b.below (Below.refl _ _).drew
theorem Box6.drewN (b : Box6 w g v0 v1 v2 v3 v4 v5) (k : Nat) : Box6 (w.drewN k) g v0 v1 v2 v3 v4 v5 := b.below (below_drewN (Below.refl _ _) k)
theorem Box6.other (b : Box6 w g v0 v1 v2 v3 v4 v5) (hne : h ≠ g) (j : Nat) (u : Value) : Box6 (w.setCell ⟨h, j, none⟩ u) g v0 v1 v2 v3 v4 v5 := by
  obtain ⟨c0, c1, c2, c3, c4, c5, f0, f1, f2, f3, f4, f5, z⟩ := b
  have hn : g ≠ h := fun e => hne e.symm
  constructor <;> (first | (simp (maxDischargeDepth := 12) [go_sem, *]; done) | (simp; omega))
theorem Box6.set (b : Box6 w g v0 v1 v2 v3 v4 v5) : Box6 ((((((w.setCell ⟨g, 0, none⟩ u0).setCell ⟨g, 1, none⟩ u1).setCell ⟨g, 2, none⟩ u2).setCell ⟨g, 3, none⟩ u3).setCell ⟨g, 4, none⟩ u4).setCell ⟨g, 5, none⟩ u5) g u0 u1 u2 u3 u4 u5 := by
  obtain ⟨c0, c1, c2, c3, c4, c5, f0, f1, f2, f3, f4, f5, z⟩ := b
  constructor <;> (first | (simp (maxDischargeDepth := 20) [go_sem, *]; done) | (simp; omega))
end
structure Box7 (w : World) (g : Nat) (v0 v1 v2 v3 v4 v5 v6 : Value) : Prop where
  c0 : w.cell? ⟨g, 0, none⟩ = some v0
  c1 : w.cell? ⟨g, 1, none⟩ = some v1
  c2 : w.cell? ⟨g, 2, none⟩ = some v2
  c3 : w.cell? ⟨g, 3, none⟩ = some v3
  c4 : w.cell? ⟨g, 4, none⟩ = some v4
  c5 : w.cell? ⟨g, 5, none⟩ = some v5
  c6 : w.cell? ⟨g, 6, none⟩ = some v6
  f0 : w.frozen? ⟨g, 0, none⟩ = false
  f1 : w.frozen? ⟨g, 1, none⟩ = false
  f2 : w.frozen? ⟨g, 2, none⟩ = false
  f3 : w.frozen? ⟨g, 3, none⟩ = false
  f4 : w.frozen? ⟨g, 4, none⟩ = false
  f5 : w.frozen? ⟨g, 5, none⟩ = false
  f6 : w.frozen? ⟨g, 6, none⟩ = false
  z : g < w.heap.size
section
variable {w w' : World} {g h : Nat} {v0 v1 v2 v3 v4 v5 v6 u0 u1 u2 u3 u4 u5 u6 : Value}
theorem Box7.below (b : Box7 w g v0 v1 v2 v3 v4 v5 v6) (q : Below w.heap.size w w') : Box7 w' g v0 v1 v2 v3 v4 v5 v6 :=
  ⟨(q.cell b.z).trans b.c0, (q.cell b.z).trans b.c1, (q.cell b.z).trans b.c2, (q.cell b.z).trans b.c3, (q.cell b.z).trans b.c4, (q.cell b.z).trans b.c5, (q.cell b.z).trans b.c6, (q.frozen b.z).trans b.f0, (q.frozen b.z).trans b.f1, (q.frozen b.z).trans b.f2, (q.frozen b.z).trans b.f3, (q.frozen b.z).trans b.f4, (q.frozen b.z).trans b.f5, (q.frozen b.z).trans b.f6, Nat.lt_of_lt_of_le b.z q.size⟩
theorem Box7.make (w : World) (v0 v1 v2 v3 v4 v5 v6 : Value) (T : TypeId) {g : Nat} (hg : g = w.heap.size) : Box7 (w.alloc (.cells #[v0, v1, v2, v3, v4, v5, v6] T)) g v0 v1 v2 v3 v4 v5 v6 := by
  subst hg; constructor <;> simp (maxDischargeDepth := 12) [go_sem]
theorem Box7.alloc (b : Box7 w g v0 v1 v2 v3 v4 v5 v6) (o : Obj) : Box7 (w.alloc o) g v0 v1 v2 v3 v4 v5 v6 := b.below ((Below.refl _ _).alloc (Nat.le_refl _) _)
theorem Box7.drew (b : Box7 w g v0 v1 v2 v3 v4 v5 v6) : Box7 w.drew g v0 v1 v2 v3 v4 v5 v6 := b.below (Below.refl _ _).drew
theorem Box7.drewN (b : Box7 w g v0 v1 v2 v3 v4 v5 v6) (k : Nat) : Box7 (w.drewN k) g v0 v1 v2 v3 v4 v5 v6 := b.below (below_drewN (Below.refl _ _) k)
theorem Box7.other (b : Box7 w g v0 v1 v2 v3 v4 v5 v6) (hne : h ≠ g) (j : Nat) (u : Value) : Box7 (w.setCell ⟨h, j, none⟩ u) g v0 v1 v2 v3 v4 v5 v6 := by
  obtain ⟨c0, c1, c2, c3, c4, c5, c6, f0, f1, f2, f3, f4, f5, f6, z⟩ := b
  have hn : g ≠ h := fun e => hne e.symm
  constructor <;> (first | (simp (maxDischargeDepth := 12) [go_sem, *]; done) | (simp; omega))
theorem Box7.set (b : Box7 w g v0 v1 v2 v3 v4 v5 v6) : Box7 (((((((w.setCell ⟨g, 0, none⟩ u0).setCell ⟨g, 1, none⟩ u1).setCell ⟨g, 2, none⟩ u2).setCell ⟨g, 3, none⟩ u3).setCell ⟨g, 4, none⟩ u4).setCell ⟨g, 5, none⟩ u5).setCell ⟨g, 6, none⟩ u6) g u0 u1 u2 u3 u4 u5 u6 := by
  obtain ⟨c0, c1, c2, c3, c4, c5, c6, f0, f1, f2, f3, f4, f5, f6, z⟩ := b
  constructor <;> (first | (simp (maxDischargeDepth := 20) [go_sem, *]; done) | (simp; omega))
end
structure Box8 (w : World) (g : Nat) (v0 v1 v2 v3 v4 v5 v6 v7 : Value) : Prop where
  c0 : w.cell? ⟨g, 0, none⟩ = some v0
  c1 : w.cell? ⟨g, 1, none⟩ = some v1
  c2 : w.cell? ⟨g, 2, none⟩ = some v2
  c3 : w.cell? ⟨g, 3, none⟩ = some v3
  c4 : w.cell? ⟨g, 4, none⟩ = some v4
  c5 : w.cell? ⟨g, 5, none⟩ = some v5
  c6 : w.cell? ⟨g, 6, none⟩ = some v6
  c7 : w.cell? ⟨g, 7, none⟩ = some v7
  f0 : w.frozen? ⟨g, 0, none⟩ = false
  f1 : w.frozen? ⟨g, 1, none⟩ = false
  f2 : w.frozen? ⟨g, 2, none⟩ = false
  f3 : w.frozen? ⟨g, 3, none⟩ = false
  f4 : w.frozen? ⟨g, 4, none⟩ = false
  f5 : w.frozen? ⟨g, 5, none⟩ = false
  f6 : w.frozen? ⟨g, 6, none⟩ = false
  f7 : w.frozen? ⟨g, 7, none⟩ = false
  z : g < w.heap.size
section
variable {w w' : World} {g h : Nat} {v0 v1 v2 v3 v4 v5 v6 v7 u0 u1 u2 u3 u4 u5 u6 u7 : Value}
theorem Box8.below (b : Box8 w g v0 v1 v2 v3 v4 v5 v6 v7) (q : Below w.heap.size w w') : Box8 w' g v0 v1 v2 v3 v4 v5 v6 v7 :=
  ⟨(q.cell b.z).trans b.c0, (q.cell b.z).trans b.c1, (q.cell b.z).trans b.c2, (q.cell b.z).trans b.c3, (q.cell b.z).trans b.c4, (q.cell b.z).trans b.c5, (q.cell b.z).trans b.c6, (q.cell b.z).trans b.c7, (q.frozen b.z).trans b.f0, (q.frozen b.z).trans b.f1, (q.frozen b.z).trans b.f2, (q.frozen b.z).trans b.f3, (q.frozen b.z).trans b.f4, (q.frozen b.z).trans b.f5, (q.frozen b.z).trans b.f6, (q.frozen b.z).trans b.f7, Nat.lt_of_lt_of_le b.z q.size⟩
theorem Box8.make (w : World) (v0 v1 v2 v3 v4 v5 v6 v7 : Value) (T : TypeId) {g : Nat} (hg : g = w.heap.size) : Box8 (w.alloc (.cells #[v0, v1, v2, v3, v4, v5, v6, v7] T)) g v0 v1 v2 v3 v4 v5 v6 v7 := by
  subst hg; constructor <;> simp (maxDischargeDepth := 12) [go_sem]
theorem Box8.alloc (b : Box8 w g v0 v1 v2 v3 v4 v5 v6 v7) (o : Obj) : Box8 (w.alloc o) g v0 v1 v2 v3 v4 v5 v6 v7 := b.below ((Below.refl _ _).alloc (Nat.le_refl _) _)
theorem Box8.drew (b : Box8 w g v0 v1 v2 v3 v4 v5 v6 v7) : Box8 w.drew g v0 v1 v2 v3 v4 v5 v6 v7 := b.below (Below.refl _ _).drew
theorem Box8.drewN (b : Box8 w g v0 v1 v2 v3 v4 v5 v6 v7) (k : Nat) : Box8 (w.drewN k) g v0 v1 v2 v3 v4 v5 v6 v7 := b.below (below_drewN (Below.refl _ _) k)
theorem Box8.other (b : Box8 w g v0 v1 v2 v3 v4 v5 v6 v7) (hne : h ≠ g) (j : Nat) (u : Value) : Box8 (w.setCell ⟨h, j, none⟩ u) g v0 v1 v2 v3 v4 v5 v6 v7 := by
  obtain ⟨c0, c1, c2, c3, c4, c5, c6, c7, f0, f1, f2, f3, f4, f5, f6, f7, z⟩ := b
  have hn : g ≠ h := fun e => hne e.symm
  constructor <;> (first | (simp (maxDischargeDepth := 12) [go_sem, *]; done) | (simp; omega))
theorem Box8.set (b : Box8 w g v0 v1 v2 v3 v4 v5 v6 v7) : Box8 ((((((((w.setCell ⟨g, 0, none⟩ u0).setCell ⟨g, 1, none⟩ u1).setCell ⟨g, 2, none⟩ u2).setCell ⟨g, 3, none⟩ u3).setCell ⟨g, 4, none⟩ u4).setCell ⟨g, 5, none⟩ u5).setCell ⟨g, 6, none⟩ u6).setCell ⟨g, 7, none⟩ u7) g u0 u1 u2 u3 u4 u5 u6 u7 := by
  obtain ⟨c0, c1, c2, c3, c4, c5, c6, c7, f0, f1, f2, f3, f4, f5, f6, f7, z⟩ := b
  constructor <;> (first | (simp (maxDischargeDepth := 20) [go_sem, *]; done) | (simp; omega))
end
structure Box9 (w : World) (g : Nat) (v0 v1 v2 v3 v4 v5 v6 v7 v8 : Value) : Prop where
  c0 : w.cell? ⟨g, 0, none⟩ = some v0
  c1 : w.cell? ⟨g, 1, none⟩ = some v1
  c2 : w.cell? ⟨g, 2, none⟩ = some v2
  c3 : w.cell? ⟨g, 3, none⟩ = some v3
  c4 : w.cell? ⟨g, 4, none⟩ = some v4
  c5 : w.cell? ⟨g, 5, none⟩ = some v5
  c6 : w.cell? ⟨g, 6, none⟩ = some v6
  c7 : w.cell? ⟨g, 7, none⟩ = some v7
  c8 : w.cell? ⟨g, 8, none⟩ = some v8
  f0 : w.frozen? ⟨g, 0, none⟩ = false
  f1 : w.frozen? ⟨g, 1, none⟩ = false
  f2 : w.frozen? ⟨g, 2, none⟩ = false
  f3 : w.frozen? ⟨g, 3, none⟩ = false
  f4 : w.frozen? ⟨g, 4, none⟩ = false
  f5 : w.frozen? ⟨g, 5, none⟩ = false
  f6 : w.frozen? ⟨g, 6, none⟩ = false
  f7 : w.frozen? ⟨g, 7, none⟩ = false
  f8 : w.frozen? ⟨g, 8, none⟩ = false
  z : g < w.heap.size
section
variable {w w' : World} {g h : Nat} {v0 v1 v2 v3 v4 v5 v6 v7 v8 u0 u1 u2 u3 u4 u5 u6 u7 u8 : Value}
theorem Box9.below (b : Box9 w g v0 v1 v2 v3 v4 v5 v6 v7 v8) (q : Below w.heap.size w w') : Box9 w' g v0 v1 v2 v3 v4 v5 v6 v7 v8 :=
  ⟨(q.cell b.z).trans b.c0, (q.cell b.z).trans b.c1, (q.cell b.z).trans b.c2, (q.cell b.z).trans b.c3, (q.cell b.z).trans b.c4, (q.cell b.z).trans b.c5, (q.cell b.z).trans b.c6, (q.cell b.z).trans b.c7, (q.cell b.z).trans b.c8, (q.frozen b.z).trans b.f0, (q.frozen b.z).trans b.f1, (q.frozen b.z).trans b.f2, (q.frozen b.z).trans b.f3, (q.frozen b.z).trans b.f4, (q.frozen b.z).trans b.f5, (q.frozen b.z).trans b.f6, (q.frozen b.z).trans b.f7, (q.frozen b.z).trans b.f8, Nat.lt_of_lt_of_le b.z q.size⟩
theorem Box9.make (w : World) (v0 v1 v2 v3 v4 v5 v6 v7 v8 : Value) (T : TypeId) {g : Nat} (hg : g = w.heap.size) : Box9 (w.alloc (.cells #[v0, v1, v2, v3, v4, v5, v6, v7, v8] T)) g v0 v1 v2 v3 v4 v5 v6 v7 v8 := by
  subst hg; constructor <;> simp (maxDischargeDepth := 12) [go_sem]
theorem Box9.alloc (b : Box9 w g v0 v1 v2 v3 v4 v5 v6 v7 v8) (o : Obj) : Box9 (w.alloc o) g v0 v1 v2 v3 v4 v5 v6 v7 v8 := b.below ((Below.refl _ _).alloc (Nat.le_refl _) _)
theorem Box9.drew (b : Box9 w g v0 v1 v2 v3 v4 v5 v6 v7 v8) : Box9 w.drew g v0 v1 v2 v3 v4 v5 v6 v7 v8 := b.below (Below.refl _ _).drew
theorem Box9.drewN (b : Box9 w g v0 v1 v2 v3 v4 v5 v6 v7 v8) (k : Nat) : Box9 (w.drewN k) g v0 v1 v2 v3 v4 v5 v6 v7 v8 := b.below (below_drewN (Below.refl _ _) k)
theorem Box9.other (b : Box9 w g v0 v1 v2 v3 v4 v5 v6 v7 v8) (hne : h ≠ g) (j : Nat) (u : Value) : Box9 (w.setCell ⟨h, j, none⟩ u) g v0 v1 v2 v3 v4 v5 v6 v7 v8 := by
  obtain ⟨c0, c1, c2, c3, c4, c5, c6, c7, c8, f0, f1, f2, f3, f4, f5, f6, f7, f8, z⟩ := b
  have hn : g ≠ h := fun e => hne e.symm
  constructor <;> (first | (simp (maxDischargeDepth := 12) [go_sem, *]; done) | (simp; omega))
theorem Box9.set (b : Box9 w g v0 v1 v2 v3 v4 v5 v6 v7 v8) : Box9 (((((((((w.setCell ⟨g, 0, none⟩ u0).setCell ⟨g, 1, none⟩ u1).setCell ⟨g, 2, none⟩ u2).setCell ⟨g, 3, none⟩ u3).setCell ⟨g, 4, none⟩ u4).setCell ⟨g, 5, none⟩ u5).setCell ⟨g, 6, none⟩ u6).setCell ⟨g, 7, none⟩ u7).setCell ⟨g, 8, none⟩ u8) g u0 u1 u2 u3 u4 u5 u6 u7 u8 := by
  obtain ⟨c0, c1, c2, c3, c4, c5, c6, c7, c8, f0, f1, f2, f3, f4, f5, f6, f7, f8, z⟩ := b
  constructor <;> (first | (simp (maxDischargeDepth := 20) [go_sem, *]; done) | (simp; omega))
end
end Go.Proofs.Ytanbplnagcmlcaa

/- Layer 15: how code lies in memory. -/
namespace Go.Proofs.Ytanbplnagcmlcaa
open Go.RowKit
/-- A slice of n elements of k cells each, that read as xs, below block B. -/
def Sl (w : World) (B k : Nat) (v : Value) (n : Nat) (xs : List Value) : Prop :=
  ∃ (A : Option Addr) (c : Nat), v = .slice A n c ∧ n ≤ c ∧ c ≤ maxLen ∧ (A = none → n = 0 ∧ c = 0) ∧ Reads w B k A n xs
section
variable {w w' : World} {B B' k n : Nat} {v : Value} {xs : List Value}
theorem Sl.below (h : Sl w B k v n xs) (q : Below B w w') : Sl w' B k v n xs := by
  obtain ⟨A, c, e, h1, h2, h3, h4⟩ := h
  exact ⟨A, c, e, h1, h2, h3, h4.below q⟩
theorem Sl.more (h : Sl w B k v n xs) (hB : B ≤ B') : Sl w B' k v n xs := by
  obtain ⟨A, c, e, h1, h2, h3, h4⟩ := h
  exact ⟨A, c, e, h1, h2, h3, h4.more hB⟩
theorem Sl.len (h : Sl w B k v n xs) : n ≤ maxLen := by
  obtain ⟨A, c, e, h1, h2, h3, h4⟩ := h; omega
theorem Sl.nil : Sl w B k (.slice none 0 0) 0 [] := ⟨none, 0, rfl, by omega, by omega, fun _ => ⟨rfl, rfl⟩, by simp [Reads]⟩
end
theorem reads_at {w : World} {B k n j : Nat} {A : Option Addr} {xs : List Value} (h : Reads w B k A n xs) (hj : j < n) :
    ∃ ad, A = some ad ∧ ad.block < B ∧ ∀ i, i < k → ∃ u, xs[j * k + i]? = some u ∧ w.cell? (ad.add (j * k + i)) = some u := by
  obtain ⟨ad, e, hb, hc⟩ := h.2 (by omega)
  refine ⟨ad, e, hb, fun i hi => ?_⟩
  have hl : j * k + i < xs.length := by
    rw [h.1]
    have : (j + 1) * k ≤ n * k := Nat.mul_le_mul_right k (by omega)
    rw [Nat.add_mul, Nat.one_mul] at this
    omega
  exact ⟨xs[j * k + i], List.getElem?_eq_getElem hl, hc _ _ (List.getElem?_eq_getElem hl)⟩
/-- Elements of k cells each, in a row. -/
theorem flat_at {α : Type} (f : α → List Value) (k : Nat) (hf : ∀ x, (f x).length = k) : ∀ (l : List α) (j i : Nat) (hj : j < l.length), i < k → (l.flatMap f)[j * k + i]? = (f l[j])[i]?
  | x :: l, 0, i, _, hi => by
    rw [List.flatMap_cons, List.getElem?_append_left (by rw [hf]; omega)]
    simp
  | x :: l, j + 1, i, hj, hi => by
    rw [List.flatMap_cons, List.getElem?_append_right (by rw [hf, Nat.add_mul]; omega), hf]
    have := flat_at f k hf l j i (by simpa using hj) hi
    rw [show (j + 1) * k + i - k = j * k + i by rw [Nat.add_mul]; omega, this]
    simp
theorem flat_len {α : Type} (f : α → List Value) (k : Nat) (hf : ∀ x, (f x).length = k) : ∀ (l : List α), (l.flatMap f).length = l.length * k
  | [] => by simp
  | x :: l => by rw [List.flatMap_cons, List.length_append, hf, flat_len f k hf l, List.length_cons, Nat.add_mul]; omega
def I64 (x : Int) : Prop := -9223372036854775808 ≤ x ∧ x < 9223372036854775808
/-- A variable: its name, whether it is an array. -/
abbrev VarV := ByteArray × Bool
def varC (v : VarV) : List Value := [.string v.1, .bool v.2]
/-- An instruction as it lies in memory. -/
structure InsV where
  op : Int
  a : Int
  b : Int
  c : Int
  at' : Int
  s : ByteArray
  n : Bool
  h : Int
  l : Int
  L : Value
  ls : List Int
def insC (x : InsV) : List Value := [.int .i64 x.op, .int .i64 x.a, .int .i64 x.b, .int .i64 x.c, .int .i64 x.at', .string x.s, .bool x.n, .int .u64 x.h, .int .u64 x.l, x.L]
def iv64 (x : Int) : Value := .int .i64 x
structure InsV.ok (w : World) (B : Nat) (x : InsV) : Prop where
  op : I64 x.op
  a : I64 x.a
  b : I64 x.b
  c : I64 x.c
  ls : ∀ i ∈ x.ls, I64 i
  L : Sl w B 1 x.L x.ls.length (x.ls.map iv64)
structure JobV where
  kind : Int
  P : Value
  ps : List Int
  body : Int
  bare : Bool
def jobC (x : JobV) : List Value := [.int .i64 x.kind, x.P, .int .i64 x.body, .bool x.bare]
structure JobV.ok (w : World) (B : Nat) (x : JobV) : Prop where
  kind : I64 x.kind
  body : I64 x.body
  ps : ∀ i ∈ x.ps, I64 i
  P : Sl w B 1 x.P x.ps.length (x.ps.map iv64)
/-- A program's code as it lies in memory: globals, locals, procedures, rules. -/
structure CodeV where
  gl : List VarV
  lo : List (Value × List VarV)
  pr : List (Value × List InsV)
  jb : List JobV
def rowOk (w : World) (B : Nat) (x : Value × List InsV) : Prop := Sl w B 10 x.1 x.2.length (x.2.flatMap insC) ∧ ∀ i ∈ x.2, i.ok w B
def varsOk (w : World) (B : Nat) (x : Value × List VarV) : Prop := Sl w B 2 x.1 x.2.length (x.2.flatMap varC)
structure CodeV.ok (w : World) (B : Nat) (C : CodeV) (G L P J : Value) : Prop where
  g : Sl w B 2 G C.gl.length (C.gl.flatMap varC)
  l : Sl w B 1 L C.lo.length (C.lo.map (·.1))
  ll : ∀ x ∈ C.lo, varsOk w B x
  p : Sl w B 1 P C.pr.length (C.pr.map (·.1))
  pp : ∀ x ∈ C.pr, rowOk w B x
  j : Sl w B 4 J C.jb.length (C.jb.flatMap jobC)
  jj : ∀ x ∈ C.jb, x.ok w B
section
variable {w w' : World} {B B' : Nat}
theorem InsV.ok.below {x : InsV} (h : x.ok w B) (q : Below B w w') : x.ok w' B := ⟨h.op, h.a, h.b, h.c, h.ls, h.L.below q⟩
theorem JobV.ok.below {x : JobV} (h : x.ok w B) (q : Below B w w') : x.ok w' B := ⟨h.kind, h.body, h.ps, h.P.below q⟩
theorem rowOk.below {x : Value × List InsV} (h : rowOk w B x) (q : Below B w w') : rowOk w' B x := ⟨h.1.below q, fun i hi => (h.2 i hi).below q⟩
theorem CodeV.ok.below {C : CodeV} {G L P J : Value} (h : C.ok w B G L P J) (q : Below B w w') : C.ok w' B G L P J :=
  ⟨h.g.below q, h.l.below q, fun x hx => (h.ll x hx).below q, h.p.below q, fun x hx => (h.pp x hx).below q, h.j.below q, fun x hx => (h.jj x hx).below q⟩
theorem InsV.ok.more {x : InsV} (h : x.ok w B) (q : B ≤ B') : x.ok w B' := ⟨h.op, h.a, h.b, h.c, h.ls, h.L.more q⟩
theorem JobV.ok.more {x : JobV} (h : x.ok w B) (q : B ≤ B') : x.ok w B' := ⟨h.kind, h.body, h.ps, h.P.more q⟩
theorem rowOk.more {x : Value × List InsV} (h : rowOk w B x) (q : B ≤ B') : rowOk w B' x := ⟨h.1.more q, fun i hi => (h.2 i hi).more q⟩
theorem CodeV.ok.more {C : CodeV} {G L P J : Value} (h : C.ok w B G L P J) (q : B ≤ B') : C.ok w B' G L P J :=
  ⟨h.g.more q, h.l.more q, fun x hx => (h.ll x hx).more q, h.p.more q, fun x hx => (h.pp x hx).more q, h.j.more q, fun x hx => (h.jj x hx).more q⟩
end
/-- What is plain of it. -/
def pIns (x : InsV) : Ins := ⟨x.op, x.a, x.b, x.c, x.s.toList, x.ls⟩
def pNms (C : CodeV) : Nms := ⟨C.gl.map (·.2), C.lo.map fun x => x.2.map (·.2)⟩
def pJob (x : JobV) : Jb := ⟨x.kind, x.ps, x.body, x.bare⟩
def pProcs (C : CodeV) : List (List Ins) := C.pr.map fun x => x.2.map pIns
def pValid (C : CodeV) : Bool := validB (pNms C) (pProcs C) (C.jb.map pJob)
end Go.Proofs.Ytanbplnagcmlcaa

/- How code that came in as an argument is opened: slices of structs, of slices. -/
namespace Go.Proofs.Ytanbplnagcmlcaa
open Go.ChangeShapes Go.WideShapes Go.ChangeAt Go.RowKit Go.Joins Go.Deep
section
variable {H : Type} {enc : TypeId × Value → H} {P : Program} {w : World} {base : Nat} {spare : Nat → Bool} {held : Bool}
theorem cells_get {a : Addr} {k : Nat} {cs : List Value} (h : w.cells? base a k = some cs) : cs.length = k ∧ ∀ j u, cs[j]? = some u → w.cell? (a.add j) = some u := by
  unfold World.cells? at h
  split at h
  · refine ⟨by simpa using mapM_some_length h, fun j u hu => ?_⟩
    have hj : j < k := by
      have := mapM_some_length h
      have h2 := (List.getElem?_eq_some_iff.1 hu).1
      simp at this; omega
    have := mapM_some_get h j j (by simp [hj])
    rw [this]; exact hu
  · cases h
theorem pick_list {α : Type} (Q : Nat → α → Prop) : ∀ (n : Nat), (∀ i, i < n → ∃ y, Q i y) → ∃ ys : List α, ys.length = n ∧ ∀ i y, ys[i]? = some y → Q i y
  | 0, _ => ⟨[], rfl, fun i y h => by simp at h⟩
  | n + 1, h => by
    obtain ⟨ys, hl, hy⟩ := pick_list Q n (fun i hi => h i (by omega))
    obtain ⟨y, hq⟩ := h n (by omega)
    refine ⟨ys ++ [y], by simp [hl], fun i z hz => ?_⟩
    rcases Nat.lt_or_ge i ys.length with hi | hi
    · rw [List.getElem?_append_left hi] at hz; exact hy i z hz
    · rw [List.getElem?_append_right hi] at hz
      have : i - ys.length = 0 := by
        have := (List.getElem?_eq_some_iff.1 hz).1
        simp at this; omega
      rw [this] at hz
      simp at hz
      subst hz
      have : i = n := by omega
      subst this
      exact hq
theorem slice_form {α : Type} {k : Nat} (hk : 0 < k) (f : α → List Value) (hf : ∀ y, (f y).length = k) (good : α → Prop) {t e : TypeId} (ht : P.underlying t = some (.slice e)) (hc : P.cellsOf e = k)
    (hel : ∀ n cs x, DataW.trod enc P w base spare held n e cs = some x → ∃ y : α, cs = f y ∧ good y) {fuel : Nat} {cs : List Value} {x : DataW H × List MemPlace} (h : DataW.trod enc P w base spare held fuel t cs = some x) :
    ∃ (v : Value) (ys : List α), cs = [v] ∧ Sl w w.heap.size k v ys.length (ys.flatMap f) ∧ ∀ y ∈ ys, good y := by
  rcases DataW.trod_slice ht h with ⟨hcs, _⟩ | ⟨a, len, cap, elems, rest, n, _, hcs, _, _, hl, hm, hlen, hE, _⟩
  · exact ⟨_, [], hcs, Sl.nil, fun y hy => by cases hy⟩
  · rw [hc] at hE
    obtain ⟨ys, hyl, hy⟩ := pick_list (fun i y => w.cells? base (a.add (i * k)) k = some (f y) ∧ good y) len (fun i hi => by
      have h1 := hE i hi
      rw [List.getElem?_eq_getElem (by omega)] at h1
      rw [Option.bind_eq_some_iff] at h1
      obtain ⟨c1, hc1, h2⟩ := h1
      obtain ⟨y, rfl, hg⟩ := hel _ _ _ h2
      exact ⟨y, hc1, hg⟩)
    have hcell : ∀ i (hi : i < ys.length) j u, (f ys[i])[j]? = some u → w.cell? (a.add (i * k + j)) = some u := by
      intro i hi j u hu
      have := (cells_get (hy i ys[i] (List.getElem?_eq_getElem hi)).1).2 j u hu
      rw [add_of_add] at this
      exact this
    refine ⟨_, ys, hcs, ⟨some a, cap, by rw [hyl], by omega, hm, (fun e => by cases e), ?_, ?_⟩, fun y hy' => ?_⟩
    · rw [flat_len f k hf, hyl]
    · intro h0
      have hk0 : 0 < (f ys[0]).length := by rw [hf]; exact hk
      refine ⟨a, rfl, ?_, ?_⟩
      · have := World.block_lt_of_cell? w _ (hcell 0 h0 0 _ (List.getElem?_eq_getElem hk0))
        rw [block_of_add] at this; exact this
      · intro j u hu
        have hj : j < ys.length * k := by
          have := (List.getElem?_eq_some_iff.1 hu).1
          rw [flat_len f k hf] at this; exact this
        have hi : j / k < ys.length := (Nat.div_lt_iff_lt_mul hk).2 hj
        have hjk := Nat.div_add_mod' j k
        have := hcell (j / k) hi (j % k) u (by
          rw [← flat_at f k hf ys (j / k) (j % k) hi (Nat.mod_lt _ hk), hjk]; exact hu)
        rw [hjk] at this
        exact this
    · obtain ⟨i, hi, rfl⟩ := List.getElem_of_mem hy'
      exact (hy i _ (List.getElem?_eq_getElem hi)).2
end
end Go.Proofs.Ytanbplnagcmlcaa

/- How code that came in as an argument is opened: the whole of it. -/
namespace Go.Proofs.Ytanbplnagcmlcaa
open Go.ChangeShapes Go.WideShapes Go.ChangeAt Go.RowKit Go.Joins Go.Deep
theorem cellsVar : Try.prog.cellsOf 66 = 2 := by kernel_rfl
theorem cellsVars : Try.prog.cellsOf 22 = 1 := by kernel_rfl
theorem cellsVarss : Try.prog.cellsOf 23 = 1 := by kernel_rfl
theorem cellsInst : Try.prog.cellsOf 37 = 10 := by kernel_rfl
theorem cellsInsts : Try.prog.cellsOf 38 = 1 := by kernel_rfl
theorem cellsInstss : Try.prog.cellsOf 26 = 1 := by kernel_rfl
theorem cellsInts : Try.prog.cellsOf 35 = 1 := by kernel_rfl
theorem cellsInt' : Try.prog.cellsOf 3 = 1 := by kernel_rfl
theorem cellsStr : Try.prog.cellsOf 9 = 1 := by kernel_rfl
theorem cellsBool' : Try.prog.cellsOf 4 = 1 := by kernel_rfl
theorem cellsU64' : Try.prog.cellsOf 32 = 1 := by kernel_rfl
theorem cellsJob : Try.prog.cellsOf 44 = 4 := by kernel_rfl
theorem cellsJobs : Try.prog.cellsOf 27 = 1 := by kernel_rfl
theorem cellsNames : Try.prog.cellsOf 25 = 2 := by kernel_rfl
theorem cellsCode : Try.prog.cellsOf 29 = 4 := by kernel_rfl
section
variable {H : Type} {enc : TypeId × Value → H} {w : World} {base : Nat} {spare : Nat → Bool} {held : Bool}
theorem flat1 {α : Type} (f : α → Value) : ∀ l : List α, l.flatMap (fun y => [f y]) = l.map f
  | [] => rfl
  | x :: l => by rw [List.flatMap_cons, flat1 f l]; rfl
theorem int_one {n : Nat} {cs : List Value} {x : DataW H × List MemPlace} (h : DataW.trod enc Try.prog w base spare held n 3 cs = some x) : ∃ i : Int, cs = [.int .i64 i] ∧ I64 i := by
  obtain ⟨k, e, _, wk⟩ := DataW.trod_int Try.underlying3 h
  exact ⟨k, e, int64_range wk⟩
theorem ints_form {n : Nat} {cs : List Value} {x : DataW H × List MemPlace} (h : DataW.trod enc Try.prog w base spare held n 35 cs = some x) :
    ∃ (v : Value) (l : List Int), cs = [v] ∧ (∀ i ∈ l, I64 i) ∧ Sl w w.heap.size 1 v l.length (l.map iv64) := by
  obtain ⟨v, ys, e, hs, hg⟩ := slice_form (P := Try.prog) (k := 1) (by omega) (fun i : Int => [iv64 i]) (fun _ => rfl) I64 Try.underlying35 cellsInt' (fun n cs x hx => by
    obtain ⟨i, e, hi⟩ := int_one hx
    exact ⟨i, e, hi⟩) h
  refine ⟨v, ys, e, hg, ?_⟩
  rw [flat1] at hs
  exact hs
theorem vars_form {n : Nat} {cs : List Value} {x : DataW H × List MemPlace} (h : DataW.trod enc Try.prog w base spare held n 22 cs = some x) :
    ∃ (v : Value) (l : List VarV), cs = [v] ∧ Sl w w.heap.size 2 v l.length (l.flatMap varC) := by
  obtain ⟨v, ys, e, hs, _⟩ := slice_form (P := Try.prog) (k := 2) (by omega) varC (fun _ => rfl) (fun _ => True) Try.underlying22 cellsVar (fun n cs x hx => by
    obtain ⟨y0, y1, m, _, hl, h0, h1⟩ := trod_struct2 Try.underlying66 hx
    rw [cellsVar] at hl
    match cs, hl with
    | [c0, c1], _ =>
      have g0 : DataW.trod enc Try.prog w base spare held m 9 [c0] = some y0 := by simpa [cellsStr] using h0
      have g1 : DataW.trod enc Try.prog w base spare held m 4 [c1] = some y1 := by simpa [cellsBool'] using h1
      obtain ⟨s, e0, _⟩ := DataW.trod_string Try.underlying9 g0
      obtain ⟨b, e1, _⟩ := DataW.trod_bool Try.underlying4 g1
      simp at e0 e1
      subst e0 e1
      exact ⟨(s, b), rfl, trivial⟩) h
  exact ⟨v, ys, e, hs⟩
theorem inst_one {n : Nat} {cs : List Value} {x : DataW H × List MemPlace} (h : DataW.trod enc Try.prog w base spare held n 37 cs = some x) : ∃ y : InsV, cs = insC y ∧ y.ok w w.heap.size := by
  obtain ⟨xs, m, _, _, hl, hlen, hf⟩ := DataW.trod_struct Try.underlying37 h
  rw [cellsInst] at hl
  match cs, hl, xs, hlen with
  | [c0, c1, c2, c3, c4, c5, c6, c7, c8, c9], _, [y0, y1, y2, y3, y4, y5, y6, y7], _ =>
    have g0 : DataW.trod enc Try.prog w base spare held m 3 [c0] = some y0 := by simpa [cellsInt'] using hf 0 _ rfl
    have g1 : DataW.trod enc Try.prog w base spare held m 3 [c1] = some y1 := by simpa [cellsInt'] using hf 1 _ rfl
    have g2 : DataW.trod enc Try.prog w base spare held m 3 [c2] = some y2 := by simpa [cellsInt'] using hf 2 _ rfl
    have g3 : DataW.trod enc Try.prog w base spare held m 3 [c3] = some y3 := by simpa [cellsInt'] using hf 3 _ rfl
    have g4 : DataW.trod enc Try.prog w base spare held m 3 [c4] = some y4 := by simpa [cellsInt'] using hf 4 _ rfl
    have g5 : DataW.trod enc Try.prog w base spare held m 9 [c5] = some y5 := by simpa [cellsStr] using hf 5 _ rfl
    have g6 : DataW.trod enc Try.prog w base spare held m 34 [c6, c7, c8] = some y6 := by simpa [cellsDec] using hf 6 _ rfl
    have g7 : DataW.trod enc Try.prog w base spare held m 35 [c9] = some y7 := by simpa [cellsInts] using hf 7 _ rfl
    obtain ⟨i0, e0, w0⟩ := int_one g0
    obtain ⟨i1, e1, w1⟩ := int_one g1
    obtain ⟨i2, e2, w2⟩ := int_one g2
    obtain ⟨i3, e3, w3⟩ := int_one g3
    obtain ⟨i4, e4, w4⟩ := int_one g4
    obtain ⟨s, e5, _⟩ := DataW.trod_string Try.underlying9 g5
    obtain ⟨v, l, e7, hl, hs⟩ := ints_form g7
    obtain ⟨z0, z1, z2, m2, _, _, j0, j1, j2⟩ := trod_struct3 Try.underlying34 g6
    have k0 : DataW.trod enc Try.prog w base spare held m2 4 [c6] = some z0 := by simpa [cellsBool'] using j0
    have k1 : DataW.trod enc Try.prog w base spare held m2 32 [c7] = some z1 := by simpa [cellsU64'] using j1
    have k2 : DataW.trod enc Try.prog w base spare held m2 32 [c8] = some z2 := by simpa [cellsU64'] using j2
    obtain ⟨b, f0, _⟩ := DataW.trod_bool Try.underlying4 k0
    obtain ⟨b1, f1, _, _⟩ := DataW.trod_int Try.underlying32 k1
    obtain ⟨b2, f2, _, _⟩ := DataW.trod_int Try.underlying32 k2
    simp at e0 e1 e2 e3 e4 e5 e7 f0 f1 f2
    subst e0 e1 e2 e3 e4 e5 e7 f0 f1 f2
    exact ⟨⟨i0, i1, i2, i3, i4, s, b, b1, b2, c9, l⟩, rfl, w0, w1, w2, w3, hl, hs⟩
theorem row_form {n : Nat} {cs : List Value} {x : DataW H × List MemPlace} (h : DataW.trod enc Try.prog w base spare held n 38 cs = some x) :
    ∃ y : Value × List InsV, cs = [y.1] ∧ rowOk w w.heap.size y := by
  obtain ⟨v, ys, e, hs, hg⟩ := slice_form (P := Try.prog) (k := 10) (by omega) insC (fun _ => rfl) (fun y => y.ok w w.heap.size) Try.underlying38 cellsInst (fun n cs x hx => inst_one hx) h
  exact ⟨(v, ys), e, hs, hg⟩
theorem job_one {n : Nat} {cs : List Value} {x : DataW H × List MemPlace} (h : DataW.trod enc Try.prog w base spare held n 44 cs = some x) : ∃ y : JobV, cs = jobC y ∧ y.ok w w.heap.size := by
  obtain ⟨y0, y1, y2, y3, m, _, hl, h0, h1, h2, h3⟩ := trod_struct4 Try.underlying44 h
  rw [cellsJob] at hl
  match cs, hl with
  | [c0, c1, c2, c3], _ =>
    have g0 : DataW.trod enc Try.prog w base spare held m 3 [c0] = some y0 := by simpa [cellsInt'] using h0
    have g1 : DataW.trod enc Try.prog w base spare held m 35 [c1] = some y1 := by simpa [cellsInts] using h1
    have g2 : DataW.trod enc Try.prog w base spare held m 3 [c2] = some y2 := by simpa [cellsInt'] using h2
    have g3 : DataW.trod enc Try.prog w base spare held m 4 [c3] = some y3 := by simpa [cellsBool'] using h3
    obtain ⟨i0, e0, w0⟩ := int_one g0
    obtain ⟨v, l, e1, hl, hs⟩ := ints_form g1
    obtain ⟨i2, e2, w2⟩ := int_one g2
    obtain ⟨b, e3, _⟩ := DataW.trod_bool Try.underlying4 g3
    simp at e0 e1 e2 e3
    subst e0 e1 e2 e3
    exact ⟨⟨i0, c1, l, i2, b⟩, rfl, w0, w2, hl, hs⟩
theorem array4' {α : Type} {cs : Array α} (h : cs.size = 4) : ∃ c0 c1 c2 c3, cs = #[c0, c1, c2, c3] := by
  obtain ⟨l⟩ := cs
  match l, h with
  | [c0, c1, c2, c3], _ => exact ⟨c0, c1, c2, c3, rfl⟩
set_option maxRecDepth 100000 in
theorem code_form {r : Reach} {b0 : Nat} {v : Value} {d : DataW H} {p : List MemPlace}
    (hv : Value.okWide Try.prog w r b0 29 v) (h : DataW.Trod enc Try.prog w base spare held 29 v d p) :
    ∃ (C : CodeV) (G L P J : Value), v = .agg #[G, L, P, J] ∧ C.ok w w.heap.size G L P J := by
  obtain ⟨cs, rfl, hsz⟩ := okWide_struct Try.underlying29 hv
  obtain ⟨c0, c1, c2, c3, rfl⟩ := array4' (hsz.trans cellsCode)
  obtain ⟨fuel, hf⟩ := h
  obtain ⟨y0, y1, y2, m, _, _, h0, h1, h2⟩ := trod_struct3 Try.underlying29 hf
  have g0 : DataW.trod enc Try.prog w base spare held m 25 [c0, c1] = some y0 := by
    simpa [Value.cells, cellsNames] using h0
  have g1 : DataW.trod enc Try.prog w base spare held m 26 [c2] = some y1 := by
    simpa [Value.cells, cellsInstss] using h1
  have g2 : DataW.trod enc Try.prog w base spare held m 27 [c3] = some y2 := by
    simpa [Value.cells, cellsJobs] using h2
  obtain ⟨z0, z1, m2, _, _, i0, i1⟩ := trod_struct2 Try.underlying25 g0
  have j0 : DataW.trod enc Try.prog w base spare held m2 22 [c0] = some z0 := by
    simpa [cellsVars] using i0
  have j1 : DataW.trod enc Try.prog w base spare held m2 23 [c1] = some z1 := by
    simpa [cellsVarss] using i1
  obtain ⟨v0, gl, e0, hg⟩ := vars_form j0
  obtain ⟨v1, lo, e1, hlo, hll⟩ := slice_form (P := Try.prog) (k := 1) (by omega) (fun y : Value × List VarV => [y.1]) (fun _ => rfl) (varsOk w w.heap.size) Try.underlying23 cellsVars (fun n cs x hx => by
    obtain ⟨v, l, e, hs⟩ := vars_form hx
    exact ⟨(v, l), e, hs⟩) j1
  obtain ⟨v2, pr, e2, hpr, hpp⟩ := slice_form (P := Try.prog) (k := 1) (by omega) (fun y : Value × List InsV => [y.1]) (fun _ => rfl) (rowOk w w.heap.size) Try.underlying26 cellsInsts (fun n cs x hx => row_form hx) g1
  obtain ⟨v3, jb, e3, hjb, hjj⟩ := slice_form (P := Try.prog) (k := 4) (by omega) jobC (fun _ => rfl) (fun y => y.ok w w.heap.size) Try.underlying27 cellsJob (fun n cs x hx => job_one hx) g2
  simp at e0 e1 e2 e3
  subst e0 e1 e2 e3
  rw [flat1] at hlo hpr
  exact ⟨⟨gl, lo, pr, jb⟩, c0, c1, c2, c3, rfl, hg, hlo, hll, hpr, hpp, hjb, hjj⟩
end
end Go.Proofs.Ytanbplnagcmlcaa
