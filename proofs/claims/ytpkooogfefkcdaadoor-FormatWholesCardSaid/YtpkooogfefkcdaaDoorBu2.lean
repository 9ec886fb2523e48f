/- Several texts put together: Box, ScrA, ScrB. -/
import Derived.Test.YtpkooogfefkcdaaDoorBu1
import Derived.Carry
import Derived.Test.YtpkooogfefkcdaaDoorShelf
import Derived.IntWalk
/- Boxes: blocks of a few cells that are known and may be written. -/
namespace Go.Proofs.YtpkooogfefkcdaaDoor
open Go.RowKit
theorem below_step {w a b : World} (h : Below w.heap.size w a) (p : Below a.heap.size a b) : Below w.heap.size w b := h.trans (p.mono h.size)
structure Box1 (w : World) (g : Nat) (v0 : Value) : Prop where
  c0 : w.cell? ⟨g, 0, none⟩ = some v0
  f0 : w.frozen? ⟨g, 0, none⟩ = false
  z : g < w.heap.size
section
variable {w w' : World} {g h : Nat} {v0 u0 : Value}
theorem Box1.below (b : Box1 w g v0) (q : Below w.heap.size w w') : Box1 w' g v0 :=
  ⟨(q.cell b.z).trans b.c0, (q.frozen b.z).trans b.f0, Nat.lt_of_lt_of_le b.z q.size⟩
theorem Box1.make (w : World) (v0 : Value) (T : TypeId) {g : Nat} (hg : g = w.heap.size) : Box1 (w.alloc (.cells #[v0] T)) g v0 := by
  subst hg; constructor <;> simp (maxDischargeDepth := 12) [go_sem]
theorem Box1.alloc (b : Box1 w g v0) (o : Obj) : Box1 (w.alloc o) g v0 := b.below ((Below.refl _ _).alloc (Nat.le_refl _) _)
theorem Box1.drew (b : Box1 w g v0) : Box1 w.drew g v0 := b.below (Below.refl _ _).drew
theorem Box1.drewN (b : Box1 w g v0) (k : Nat) : Box1 (w.drewN k) g v0 := b.below (below_drewN (Below.refl _ _) k)
theorem Box1.other (b : Box1 w g v0) (hne : h ≠ g) (j : Nat) (u : Value) : Box1 (w.setCell ⟨h, j, none⟩ u) g v0 := by
  obtain ⟨c0, f0, z⟩ := b
  have hn : g ≠ h := fun e => hne e.symm
  constructor <;> (first | (simp (maxDischargeDepth := 12) [go_sem, *]; done) | (simp; omega))
theorem Box1.set (b : Box1 w g v0) : Box1 (w.setCell ⟨g, 0, none⟩ u0) g u0 := by
  obtain ⟨c0, f0, z⟩ := b
  constructor <;> (first | (simp (maxDischargeDepth := 20) [go_sem, *]; done) | (simp; omega))
end
structure Box2 (w : World) (g : Nat) (v0 v1 : Value) : Prop where
  c0 : w.cell? ⟨g, 0, none⟩ = some v0
  c1 : w.cell? ⟨g, 1, none⟩ = some v1
  f0 : w.frozen? ⟨g, 0, none⟩ = false
  f1 : w.frozen? ⟨g, 1, none⟩ = false
  z : g < w.heap.size
section
variable {w w' : World} {g h : Nat} {v0 v1 u0 u1 : Value}
theorem Box2.below (b : Box2 w g v0 v1) (q : Below w.heap.size w w') : Box2 w' g v0 v1 :=
  ⟨(q.cell b.z).trans b.c0, (q.cell b.z).trans b.c1, (q.frozen b.z).trans b.f0, (q.frozen b.z).trans b.f1, Nat.lt_of_lt_of_le b.z q.size⟩
theorem Box2.make (w : World) (v0 v1 : Value) (T : TypeId) {g : Nat} (hg : g = w.heap.size) : Box2 (w.alloc (.cells #[v0, v1] T)) g v0 v1 := by
  subst hg; constructor <;> simp (maxDischargeDepth := 12) [go_sem]
theorem Box2.alloc (b : Box2 w g v0 v1) (o : Obj) : Box2 (w.alloc o) g v0 v1 := b.below ((Below.refl _ _).alloc (Nat.le_refl _) _)
theorem Box2.drew (b : Box2 w g v0 v1) : Box2 w.drew g v0 v1 := b.below (Below.refl _ _).drew
theorem Box2.drewN (b : Box2 w g v0 v1) (k : Nat) : Box2 (w.drewN k) g v0 v1 := b.below (below_drewN (Below.refl _ _) k)
theorem Box2.other (b : Box2 w g v0 v1) (hne : h ≠ g) (j : Nat) (u : Value) : Box2 (w.setCell ⟨h, j, none⟩ u) g v0 v1 := by
  obtain ⟨c0, c1, f0, f1, z⟩ := b
  have hn : g ≠ h := fun e => hne e.symm
  constructor <;> (first | (simp (maxDischargeDepth := 12) [go_sem, *]; done) | (simp; omega))
theorem Box2.set (b : Box2 w g v0 v1) : Box2 ((w.setCell ⟨g, 0, none⟩ u0).setCell ⟨g, 1, none⟩ u1) g u0 u1 := by
  obtain ⟨c0, c1, f0, f1, z⟩ := b
  constructor <;> (first | (simp (maxDischargeDepth := 20) [go_sem, *]; done) | (simp; omega))
end
structure Box3 (w : World) (g : Nat) (v0 v1 v2 : Value) : Prop where
  c0 : w.cell? ⟨g, 0, none⟩ = some v0
  c1 : w.cell? ⟨g, 1, none⟩ = some v1
  c2 : w.cell? ⟨g, 2, none⟩ = some v2
  f0 : w.frozen? ⟨g, 0, none⟩ = false
  f1 : w.frozen? ⟨g, 1, none⟩ = false
  f2 : w.frozen? ⟨g, 2, none⟩ = false
  z : g < w.heap.size
section
variable {w w' : World} {g h : Nat} {v0 v1 v2 u0 u1 u2 : Value}
theorem Box3.below (b : Box3 w g v0 v1 v2) (q : Below w.heap.size w w') : Box3 w' g v0 v1 v2 :=
  ⟨(q.cell b.z).trans b.c0, (q.cell b.z).trans b.c1, (q.cell b.z).trans b.c2, (q.frozen b.z).trans b.f0, (q.frozen b.z).trans b.f1, (q.frozen b.z).trans b.f2, Nat.lt_of_lt_of_le b.z q.size⟩
theorem Box3.make (w : World) (v0 v1 v2 : Value) (T : TypeId) {g : Nat} (hg : g = w.heap.size) : Box3 (w.alloc (.cells #[v0, v1, v2] T)) g v0 v1 v2 := by
  subst hg; constructor <;> simp (maxDischargeDepth := 12) [go_sem]
theorem Box3.alloc (b : Box3 w g v0 v1 v2) (o : Obj) : Box3 (w.alloc o) g v0 v1 v2 := b.below ((Below.refl _ _).alloc (Nat.le_refl _) _)
theorem Box3.drew (b : Box3 w g v0 v1 v2) : Box3 w.drew g v0 v1 v2 := b.below (Below.refl _ _).drew
theorem Box3.drewN (b : Box3 w g v0 v1 v2) (k : Nat) : Box3 (w.drewN k) g v0 v1 v2 := b.below (below_drewN (Below.refl _ _) k)
theorem Box3.other (b : Box3 w g v0 v1 v2) (hne : h ≠ g) (j : Nat) (u : Value) : Box3 (w.setCell ⟨h, j, none⟩ u) g v0 v1 v2 := by
  obtain ⟨c0, c1, c2, f0, f1, f2, z⟩ := b
  have hn : g ≠ h := fun e => hne e.symm
  constructor <;> (first | (simp (maxDischargeDepth := 12) [go_sem, *]; done) | (simp; omega))
theorem Box3.set (b : Box3 w g v0 v1 v2) : Box3 (((w.setCell ⟨g, 0, none⟩ u0).setCell ⟨g, 1, none⟩ u1).setCell ⟨g, 2, none⟩ u2) g u0 u1 u2 := by
  obtain ⟨c0, c1, c2, f0, f1, f2, z⟩ := b
  constructor <;> (first | (simp (maxDischargeDepth := 20) [go_sem, *]; done) | (simp; omega))
end
structure Box4 (w : World) (g : Nat) (v0 v1 v2 v3 : Value) : Prop where
  c0 : w.cell? ⟨g, 0, none⟩ = some v0
  c1 : w.cell? ⟨g, 1, none⟩ = some v1
  c2 : w.cell? ⟨g, 2, none⟩ = some v2
  c3 : w.cell? ⟨g, 3, none⟩ = some v3
  f0 : w.frozen? ⟨g, 0, none⟩ = false
  f1 : w.frozen? ⟨g, 1, none⟩ = false
  f2 : w.frozen? ⟨g, 2, none⟩ = false
  f3 : w.frozen? ⟨g, 3, none⟩ = false
  z : g < w.heap.size
section
variable {w w' : World} {g h : Nat} {v0 v1 v2 v3 u0 u1 u2 u3 : Value}
theorem Box4.below (b : Box4 w g v0 v1 v2 v3) (q : Below w.heap.size w w') : Box4 w' g v0 v1 v2 v3 :=
  ⟨(q.cell b.z).trans b.c0, (q.cell b.z).trans b.c1, (q.cell b.z).trans b.c2, (q.cell b.z).trans b.c3, (q.frozen b.z).trans b.f0, (q.frozen b.z).trans b.f1, (q.frozen b.z).trans b.f2, (q.frozen b.z).trans b.f3, Nat.lt_of_lt_of_le b.z q.size⟩
theorem Box4.make (w : World) (v0 v1 v2 v3 : Value) (T : TypeId) {g : Nat} (hg : g = w.heap.size) : Box4 (w.alloc (.cells #[v0, v1, v2, v3] T)) g v0 v1 v2 v3 := by
  subst hg; constructor <;> simp (maxDischargeDepth := 12) [go_sem]
theorem Box4.alloc (b : Box4 w g v0 v1 v2 v3) (o : Obj) : Box4 (w.alloc o) g v0 v1 v2 v3 := b.below ((Below.refl _ _).alloc (Nat.le_refl _) _)
theorem Box4.drew (b : Box4 w g v0 v1 v2 v3) : Box4 w.drew g v0 v1 v2 v3 := b.below (Below.refl _ _).drew
theorem Box4.drewN (b : Box4 w g v0 v1 v2 v3) (k : Nat) : Box4 (w.drewN k) g v0 v1 v2 v3 := b.below (below_drewN (Below.refl _ _) k)
theorem Box4.other (b : Box4 w g v0 v1 v2 v3) (hne : h ≠ g) (j : Nat) (u : Value) : Box4 (w.setCell ⟨h, j, none⟩ u) g v0 v1 v2 v3 := by
  obtain ⟨c0, c1, c2, c3, f0, f1, f2, f3, z⟩ := b
  have hn : g ≠ h := fun e => hne e.symm
  constructor <;> (first | (simp (maxDischargeDepth := 12) [go_sem, *]; done) | (simp; omega))
theorem Box4.set (b : Box4 w g v0 v1 v2 v3) : Box4 ((((w.setCell ⟨g, 0, none⟩ u0).setCell ⟨g, 1, none⟩ u1).setCell ⟨g, 2, none⟩ u2).setCell ⟨g, 3, none⟩ u3) g u0 u1 u2 u3 := by
  obtain ⟨c0, c1, c2, c3, f0, f1, f2, f3, z⟩ := b
  constructor <;> (first | (simp (maxDischargeDepth := 20) [go_sem, *]; done) | (simp; omega))
end
structure Box5 (w : World) (g : Nat) (v0 v1 v2 v3 v4 : Value) : Prop where
  c0 : w.cell? ⟨g, 0, none⟩ = some v0
  c1 : w.cell? ⟨g, 1, none⟩ = some v1
  c2 : w.cell? ⟨g, 2, none⟩ = some v2
  c3 : w.cell? ⟨g, 3, none⟩ = some v3
  c4 : w.cell? ⟨g, 4, none⟩ = some v4
  f0 : w.frozen? ⟨g, 0, none⟩ = false
  f1 : w.frozen? ⟨g, 1, none⟩ = false
  f2 : w.frozen? ⟨g, 2, none⟩ = false
  f3 : w.frozen? ⟨g, 3, none⟩ = false
  f4 : w.frozen? ⟨g, 4, none⟩ = false
  z : g < w.heap.size
section
variable {w w' : World} {g h : Nat} {v0 v1 v2 v3 v4 u0 u1 u2 u3 u4 : Value}
theorem Box5.below (b : Box5 w g v0 v1 v2 v3 v4) (q : Below w.heap.size w w') : Box5 w' g v0 v1 v2 v3 v4 :=
  ⟨(q.cell b.z).trans b.c0, (q.cell b.z).trans b.c1, (q.cell b.z).trans b.c2, (q.cell b.z).trans b.c3, (q.cell b.z).trans b.c4, (q.frozen b.z).trans b.f0, (q.frozen b.z).trans b.f1, (q.frozen b.z).trans b.f2, (q.frozen b.z).trans b.f3, (q.frozen b.z).trans b.f4, Nat.lt_of_lt_of_le b.z q.size⟩
theorem Box5.make (w : World) (v0 v1 v2 v3 v4 : Value) (T : TypeId) {g : Nat} (hg : g = w.heap.size) : Box5 (w.alloc (.cells #[v0, v1, v2, v3, v4] T)) g v0 v1 v2 v3 v4 := by
  subst hg; constructor <;> simp (maxDischargeDepth := 12) [go_sem]
theorem Box5.alloc (b : Box5 w g v0 v1 v2 v3 v4) (o : Obj) : Box5 (w.alloc o) g v0 v1 v2 v3 v4 := b.below ((Below.refl _ _).alloc (Nat.le_refl _) _)
theorem Box5.drew (b : Box5 w g v0 v1 v2 v3 v4) : Box5 w.drew g v0 v1 v2 v3 v4 := b.below (Below.refl _ _).drew
theorem Box5.drewN (b : Box5 w g v0 v1 v2 v3 v4) (k : Nat) : Box5 (w.drewN k) g v0 v1 v2 v3 v4 := b.below (below_drewN (Below.refl _ _) k)
theorem Box5.other (b : Box5 w g v0 v1 v2 v3 v4) (hne : h ≠ g) (j : Nat) (u : Value) : Box5 (w.setCell ⟨h, j, none⟩ u) g v0 v1 v2 v3 v4 := by
  obtain ⟨c0, c1, c2, c3, c4, f0, f1, f2, f3, f4, z⟩ := b
  have hn : g ≠ h := fun e => hne e.symm
  constructor <;> (first | (simp (maxDischargeDepth := 12) [go_sem, *]; done) | (simp; omega))
theorem Box5.set (b : Box5 w g v0 v1 v2 v3 v4) : Box5 (((((w.setCell ⟨g, 0, none⟩ u0).setCell ⟨g, 1, none⟩ u1).setCell ⟨g, 2, none⟩ u2).setCell ⟨g, 3, none⟩ u3).setCell ⟨g, 4, none⟩ u4) g u0 u1 u2 u3 u4 := by
  obtain ⟨c0, c1, c2, c3, c4, f0, f1, f2, f3, f4, z⟩ := b
  constructor <;> (first | (simp (maxDischargeDepth := 20) [go_sem, *]; done) | (simp; omega))
end
structure Box6 (w : World) (g : Nat) (v0 v1 v2 v3 v4 v5 : Value) : Prop where
  c0 : w.cell? ⟨g, 0, none⟩ = some v0
  c1 : w.cell? ⟨g, 1, none⟩ = some v1
  c2 : w.cell? ⟨g, 2, none⟩ = some v2
  c3 : w.cell? ⟨g, 3, none⟩ = some v3
  c4 : w.cell? ⟨g, 4, none⟩ = some v4
  c5 : w.cell? ⟨g, 5, none⟩ = some v5
  f0 : w.frozen? ⟨g, 0, none⟩ = false
  f1 : w.frozen? ⟨g, 1, none⟩ = false
  f2 : w.frozen? ⟨g, 2, none⟩ = false
  f3 : w.frozen? ⟨g, 3, none⟩ = false
  f4 : w.frozen? ⟨g, 4, none⟩ = false
  f5 : w.frozen? ⟨g, 5, none⟩ = false
  z : g < w.heap.size
section
variable {w w' : World} {g h : Nat} {v0 v1 v2 v3 v4 v5 u0 u1 u2 u3 u4 u5 : Value}
theorem Box6.below (b : Box6 w g v0 v1 v2 v3 v4 v5) (q : Below w.heap.size w w') : Box6 w' g v0 v1 v2 v3 v4 v5 :=
  ⟨(q.cell b.z).trans b.c0, (q.cell b.z).trans b.c1, (q.cell b.z).trans b.c2, (q.cell b.z).trans b.c3, (q.cell b.z).trans b.c4, (q.cell b.z).trans b.c5, (q.frozen b.z).trans b.f0, (q.frozen b.z).trans b.f1, (q.frozen b.z).trans b.f2, (q.frozen b.z).trans b.f3, (q.frozen b.z).trans b.f4, (q.frozen b.z).trans b.f5, Nat.lt_of_lt_of_le b.z q.size⟩
theorem Box6.make (w : World) (v0 v1 v2 v3 v4 v5 : Value) (T : TypeId) {g : Nat} (hg : g = w.heap.size) : Box6 (w.alloc (.cells #[v0, v1, v2, v3, v4, v5] T)) g v0 v1 v2 v3 v4 v5 := by
  subst hg; constructor <;> simp (maxDischargeDepth := 12) [go_sem]
theorem Box6.alloc (b : Box6 w g v0 v1 v2 v3 v4 v5) (o : Obj) : Box6 (w.alloc o) g v0 v1 v2 v3 v4 v5 := b.below ((Below.refl _ _).alloc (Nat.le_refl _) _)
theorem Box6.drew (b : Box6 w g v0 v1 v2 v3 v4 v5) : Box6 w.drew g v0 v1 v2 v3 v4 v5 := b.below (Below.refl _ _).drew
theorem Box6.drewN (b : Box6 w g v0 v1 v2 v3 v4 v5) (k : Nat) : Box6 (w.drewN k) g v0 v1 v2 v3 v4 v5 := b.below (below_drewN (Below.refl _ _) k)
theorem Box6.other (b : Box6 w g v0 v1 v2 v3 v4 v5) (hne : h ≠ g) (j : Nat) (u : Value) : Box6 (w.setCell ⟨h, j, none⟩ u) g v0 v1 v2 v3 v4 v5 := by
  obtain ⟨c0, c1, c2, c3, c4, c5, f0, f1, f2, f3, f4, f5, z⟩ := b
  have hn : g ≠ h := fun e => hne e.symm
  constructor <;> (first | (simp (maxDischargeDepth := 12) [go_sem, *]; done) | (simp; omega))
theorem Box6.set (b : Box6 w g v0 v1 v2 v3 v4 v5) : Box6 ((((((w.setCell ⟨g, 0, none⟩ u0).setCell ⟨g, 1, none⟩ u1).setCell ⟨g, 2, none⟩ u2).setCell ⟨g, 3, none⟩ u3).setCell ⟨g, 4, none⟩ u4).setCell ⟨g, 5, none⟩ u5) g u0 u1 u2 u3 u4 u5 := by
  obtain ⟨c0, c1, c2, c3, c4, c5, f0, f1, f2, f3, f4, f5, z⟩ := b
  constructor <;> (first | (simp (maxDischargeDepth := 20) [go_sem, *]; done) | (simp; omega))
end
structure Box7 (w : World) (g : Nat) (v0 v1 v2 v3 v4 v5 v6 : Value) : Prop where
  c0 : w.cell? ⟨g, 0, none⟩ = some v0
  c1 : w.cell? ⟨g, 1, none⟩ = some v1
  c2 : w.cell? ⟨g, 2, none⟩ = some v2
  c3 : w.cell? ⟨g, 3, none⟩ = some v3
  c4 : w.cell? ⟨g, 4, none⟩ = some v4
  c5 : w.cell? ⟨g, 5, none⟩ = some v5
  c6 : w.cell? ⟨g, 6, none⟩ = some v6
  f0 : w.frozen? ⟨g, 0, none⟩ = false
  f1 : w.frozen? ⟨g, 1, none⟩ = false
  f2 : w.frozen? ⟨g, 2, none⟩ = false
  f3 : w.frozen? ⟨g, 3, none⟩ = false
  f4 : w.frozen? ⟨g, 4, none⟩ = false
  f5 : w.frozen? ⟨g, 5, none⟩ = false
  f6 : w.frozen? ⟨g, 6, none⟩ = false
  z : g < w.heap.size
section
variable {w w' : World} {g h : Nat} {v0 v1 v2 v3 v4 v5 v6 u0 u1 u2 u3 u4 u5 u6 : Value}
theorem Box7.below (b : Box7 w g v0 v1 v2 v3 v4 v5 v6) (q : Below w.heap.size w w') : Box7 w' g v0 v1 v2 v3 v4 v5 v6 :=
  ⟨(q.cell b.z).trans b.c0, (q.cell b.z).trans b.c1, (q.cell b.z).trans b.c2, (q.cell b.z).trans b.c3, (q.cell b.z).trans b.c4, (q.cell b.z).trans b.c5, (q.cell b.z).trans b.c6, (q.frozen b.z).trans b.f0, (q.frozen b.z).trans b.f1, (q.frozen b.z).trans b.f2, (q.frozen b.z).trans b.f3, (q.frozen b.z).trans b.f4, (q.frozen b.z).trans b.f5, (q.frozen b.z).trans b.f6, Nat.lt_of_lt_of_le b.z q.size⟩
theorem Box7.make (w : World) (v0 v1 v2 v3 v4 v5 v6 : Value) (T : TypeId) {g : Nat} (hg : g = w.heap.size) : Box7 (w.alloc (.cells #[v0, v1, v2, v3, v4, v5, v6] T)) g v0 v1 v2 v3 v4 v5 v6 := by
  subst hg; constructor <;> simp (maxDischargeDepth := 12) [go_sem]
theorem Box7.alloc (b : Box7 w g v0 v1 v2 v3 v4 v5 v6) (o : Obj) : Box7 (w.alloc o) g v0 v1 v2 v3 v4 v5 v6 := b.below ((Below.refl _ _).alloc (Nat.le_refl _) _)
theorem Box7.drew (b : Box7 w g v0 v1 v2 v3 v4 v5 v6) : Box7 w.drew g v0 v1 v2 v3 v4 v5 v6 := b.below (Below.refl _ _).drew
theorem Box7.drewN (b : Box7 w g v0 v1 v2 v3 v4 v5 v6) (k : Nat) : Box7 (w.drewN k) g v0 v1 v2 v3 v4 v5 v6 := b.below (below_drewN (Below.refl _ _) k)
theorem Box7.other (b : Box7 w g v0 v1 v2 v3 v4 v5 v6) (hne : h ≠ g) (j : Nat) (u : Value) : Box7 (w.setCell ⟨h, j, none⟩ u) g v0 v1 v2 v3 v4 v5 v6 := by
  obtain ⟨c0, c1, c2, c3, c4, c5, c6, f0, f1, f2, f3, f4, f5, f6, z⟩ := b
  have hn : g ≠ h := fun e => hne e.symm
  constructor <;> (first | (simp (maxDischargeDepth := 12) [go_sem, *]; done) | (simp; omega))
theorem Box7.set (b : Box7 w g v0 v1 v2 v3 v4 v5 v6) : Box7 (((((((w.setCell ⟨g, 0, none⟩ u0).setCell ⟨g, 1, none⟩ u1).setCell ⟨g, 2, none⟩ u2).setCell ⟨g, 3, none⟩ u3).setCell ⟨g, 4, none⟩ u4).setCell ⟨g, 5, none⟩ u5).setCell ⟨g, 6, none⟩ u6) g u0 u1 u2 u3 u4 u5 u6 := by
  obtain ⟨c0, c1, c2, c3, c4, c5, c6, f0, f1, f2, f3, f4, f5, f6, z⟩ := b
  constructor <;> (first | (simp (maxDischargeDepth := 20) [go_sem, *]; done) | (simp; omega))
end
structure Box8 (w : World) (g : Nat) (v0 v1 v2 v3 v4 v5 v6 v7 : Value) : Prop where
  c0 : w.cell? ⟨g, 0, none⟩ = some v0
  c1 : w.cell? ⟨g, 1, none⟩ = some v1
  c2 : w.cell? ⟨g, 2, none⟩ = some v2
  c3 : w.cell? ⟨g, 3, none⟩ = some v3
  c4 : w.cell? ⟨g, 4, none⟩ = some v4
  c5 : w.cell? ⟨g, 5, none⟩ = some v5
  c6 : w.cell? ⟨g, 6, none⟩ = some v6
  c7 : w.cell? ⟨g, 7, none⟩ = some v7
  f0 : w.frozen? ⟨g, 0, none⟩ = false
  f1 : w.frozen? ⟨g, 1, none⟩ = false
  f2 : w.frozen? ⟨g, 2, none⟩ = false
  f3 : w.frozen? ⟨g, 3, none⟩ = false
  f4 : w.frozen? ⟨g, 4, none⟩ = false
  f5 : w.frozen? ⟨g, 5, none⟩ = false
  f6 : w.frozen? ⟨g, 6, none⟩ = false
  f7 : w.frozen? ⟨g, 7, none⟩ = false
  z : g < w.heap.size
section
variable {w w' : World} {g h : Nat} {v0 v1 v2 v3 v4 v5 v6 v7 u0 u1 u2 u3 u4 u5 u6 u7 : Value}
theorem Box8.below (b : Box8 w g v0 v1 v2 v3 v4 v5 v6 v7) (q : Below w.heap.size w w') : Box8 w' g v0 v1 v2 v3 v4 v5 v6 v7 :=
  ⟨(q.cell b.z).trans b.c0, (q.cell b.z).trans b.c1, (q.cell b.z).trans b.c2, (q.cell b.z).trans b.c3, (q.cell b.z).trans b.c4, (q.cell b.z).trans b.c5, (q.cell b.z).trans b.c6, (q.cell b.z).trans b.c7, (q.frozen b.z).trans b.f0, (q.frozen b.z).trans b.f1, (q.frozen b.z).trans b.f2, (q.frozen b.z).trans b.f3, (q.frozen b.z).trans b.f4, (q.frozen b.z).trans b.f5, (q.frozen b.z).trans b.f6, (q.frozen b.z).trans b.f7, Nat.lt_of_lt_of_le b.z q.size⟩
theorem Box8.make (w : World) (v0 v1 v2 v3 v4 v5 v6 v7 : Value) (T : TypeId) {g : Nat} (hg : g = w.heap.size) : Box8 (w.alloc (.cells #[v0, v1, v2, v3, v4, v5, v6, v7] T)) g v0 v1 v2 v3 v4 v5 v6 v7 := by
  subst hg; constructor <;> simp (maxDischargeDepth := 12) [go_sem]
theorem Box8.alloc (b : Box8 w g v0 v1 v2 v3 v4 v5 v6 v7) (o : Obj) : Box8 (w.alloc o) g v0 v1 v2 v3 v4 v5 v6 v7 := b.below ((Below.refl _ _).alloc (Nat.le_refl _) _)
theorem Box8.drew (b : Box8 w g v0 v1 v2 v3 v4 v5 v6 v7) : Box8 w.drew g v0 v1 v2 v3 v4 v5 v6 v7 := b.below (Below.refl _ _).drew
theorem Box8.drewN (b : Box8 w g v0 v1 v2 v3 v4 v5 v6 v7) (k : Nat) : Box8 (w.drewN k) g v0 v1 v2 v3 v4 v5 v6 v7 := b.below (below_drewN (Below.refl _ _) k)
theorem Box8.other (b : Box8 w g v0 v1 v2 v3 v4 v5 v6 v7) (hne : h ≠ g) (j : Nat) (u : Value) : Box8 (w.setCell ⟨h, j, none⟩ u) g v0 v1 v2 v3 v4 v5 v6 v7 := by
  obtain ⟨c0, c1, c2, c3, c4, c5, c6, c7, f0, f1, f2, f3, f4, f5, f6, f7, z⟩ := b
  have hn : g ≠ h := fun e => hne e.symm
  constructor <;> (first | (simp (maxDischargeDepth := 12) [go_sem, *]; done) | (simp; omega))
theorem Box8.set (b : Box8 w g v0 v1 v2 v3 v4 v5 v6 v7) : Box8 ((((((((w.setCell ⟨g, 0, none⟩ u0).setCell ⟨g, 1, none⟩ u1).setCell ⟨g, 2, none⟩ u2).setCell ⟨g, 3, none⟩ u3).setCell ⟨g, 4, none⟩ u4).setCell ⟨g, 5, none⟩ u5).setCell ⟨g, 6, none⟩ u6).setCell ⟨g, 7, none⟩ u7) g u0 u1 u2 u3 u4 u5 u6 u7 := by
  obtain ⟨c0, c1, c2, c3, c4, c5, c6, c7, f0, f1, f2, f3, f4, f5, f6, f7, z⟩ := b
  constructor <;> (first | (simp (maxDischargeDepth := 20) [go_sem, *]; done) | (simp; omega))
end
structure Box9 (w : World) (g : Nat) (v0 v1 v2 v3 v4 v5 v6 v7 v8 : Value) : Prop where
  c0 : w.cell? ⟨g, 0, none⟩ = some v0
  c1 : w.cell? ⟨g, 1, none⟩ = some v1
  c2 : w.cell? ⟨g, 2, none⟩ = some v2
  c3 : w.cell? ⟨g, 3, none⟩ = some v3
  c4 : w.cell? ⟨g, 4, none⟩ = some v4
  c5 : w.cell? ⟨g, 5, none⟩ = some v5
  c6 : w.cell? ⟨g, 6, none⟩ = some v6
  c7 : w.cell? ⟨g, 7, none⟩ = some v7
  c8 : w.cell? ⟨g, 8, none⟩ = some v8
  f0 : w.frozen? ⟨g, 0, none⟩ = false
  f1 : w.frozen? ⟨g, 1, none⟩ = false
  f2 : w.frozen? ⟨g, 2, none⟩ = false
  f3 : w.frozen? ⟨g, 3, none⟩ = false
  f4 : w.frozen? ⟨g, 4, none⟩ = false
  f5 : w.frozen? ⟨g, 5, none⟩ = false
  f6 : w.frozen? ⟨g, 6, none⟩ = false
  f7 : w.frozen? ⟨g, 7, none⟩ = false
  f8 : w.frozen? ⟨g, 8, none⟩ = false
  z : g < w.heap.size
section
variable {w w' : World} {g h : Nat} {v0 v1 v2 v3 v4 v5 v6 v7 v8 u0 u1 u2 u3 u4 u5 u6 u7 u8 : Value}
theorem Box9.below (b : Box9 w g v0 v1 v2 v3 v4 v5 v6 v7 v8) (q : Below w.heap.size w w') : Box9 w' g v0 v1 v2 v3 v4 v5 v6 v7 v8 :=
  ⟨(q.cell b.z).trans b.c0, (q.cell b.z).trans b.c1, (q.cell b.z).trans b.c2, (q.cell b.z).trans b.c3, (q.cell b.z).trans b.c4, (q.cell b.z).trans b.c5, (q.cell b.z).trans b.c6, (q.cell b.z).trans b.c7, (q.cell b.z).trans b.c8, (q.frozen b.z).trans b.f0, (q.frozen b.z).trans b.f1, (q.frozen b.z).trans b.f2, (q.frozen b.z).trans b.f3, (q.frozen b.z).trans b.f4, (q.frozen b.z).trans b.f5, (q.frozen b.z).trans b.f6, (q.frozen b.z).trans b.f7, (q.frozen b.z).trans b.f8, Nat.lt_of_lt_of_le b.z q.size⟩
theorem Box9.make (w : World) (v0 v1 v2 v3 v4 v5 v6 v7 v8 : Value) (T : TypeId) {g : Nat} (hg : g = w.heap.size) : Box9 (w.alloc (.cells #[v0, v1, v2, v3, v4, v5, v6, v7, v8] T)) g v0 v1 v2 v3 v4 v5 v6 v7 v8 := by
  subst hg; constructor <;> simp (maxDischargeDepth := 12) [go_sem]
theorem Box9.alloc (b : Box9 w g v0 v1 v2 v3 v4 v5 v6 v7 v8) (o : Obj) : Box9 (w.alloc o) g v0 v1 v2 v3 v4 v5 v6 v7 v8 := b.below ((Below.refl _ _).alloc (Nat.le_refl _) _)
theorem Box9.drew (b : Box9 w g v0 v1 v2 v3 v4 v5 v6 v7 v8) : Box9 w.drew g v0 v1 v2 v3 v4 v5 v6 v7 v8 := b.below (Below.refl _ _).drew
theorem Box9.drewN (b : Box9 w g v0 v1 v2 v3 v4 v5 v6 v7 v8) (k : Nat) : Box9 (w.drewN k) g v0 v1 v2 v3 v4 v5 v6 v7 v8 := b.below (below_drewN (Below.refl _ _) k)
theorem Box9.other (b : Box9 w g v0 v1 v2 v3 v4 v5 v6 v7 v8) (hne : h ≠ g) (j : Nat) (u : Value) : Box9 (w.setCell ⟨h, j, none⟩ u) g v0 v1 v2 v3 v4 v5 v6 v7 v8 := by
  obtain ⟨c0, c1, c2, c3, c4, c5, c6, c7, c8, f0, f1, f2, f3, f4, f5, f6, f7, f8, z⟩ := b
  have hn : g ≠ h := fun e => hne e.symm
  constructor <;> (first | (simp (maxDischargeDepth := 12) [go_sem, *]; done) | (simp; omega))
theorem Box9.set (b : Box9 w g v0 v1 v2 v3 v4 v5 v6 v7 v8) : Box9 (((((((((w.setCell ⟨g, 0, none⟩ u0).setCell ⟨g, 1, none⟩ u1).setCell ⟨g, 2, none⟩ u2).setCell ⟨g, 3, none⟩ u3).setCell ⟨g, 4, none⟩ u4).setCell ⟨g, 5, none⟩ u5).setCell ⟨g, 6, none⟩ u6).setCell ⟨g, 7, none⟩ u7).setCell ⟨g, 8, none⟩ u8) g u0 u1 u2 u3 u4 u5 u6 u7 u8 := by
  obtain ⟨c0, c1, c2, c3, c4, c5, c6, c7, c8, f0, f1, f2, f3, f4, f5, f6, f7, f8, z⟩ := b
  constructor <;> (first | (simp (maxDischargeDepth := 20) [go_sem, *]; done) | (simp; omega))
end
structure Box10 (w : World) (g : Nat) (v0 v1 v2 v3 v4 v5 v6 v7 v8 v9 : Value) : Prop where
  c0 : w.cell? ⟨g, 0, none⟩ = some v0
  c1 : w.cell? ⟨g, 1, none⟩ = some v1
  c2 : w.cell? ⟨g, 2, none⟩ = some v2
  c3 : w.cell? ⟨g, 3, none⟩ = some v3
  c4 : w.cell? ⟨g, 4, none⟩ = some v4
  c5 : w.cell? ⟨g, 5, none⟩ = some v5
  c6 : w.cell? ⟨g, 6, none⟩ = some v6
  c7 : w.cell? ⟨g, 7, none⟩ = some v7
  c8 : w.cell? ⟨g, 8, none⟩ = some v8
  c9 : w.cell? ⟨g, 9, none⟩ = some v9
  f0 : w.frozen? ⟨g, 0, none⟩ = false
  f1 : w.frozen? ⟨g, 1, none⟩ = false
  f2 : w.frozen? ⟨g, 2, none⟩ = false
  f3 : w.frozen? ⟨g, 3, none⟩ = false
  f4 : w.frozen? ⟨g, 4, none⟩ = false
  f5 : w.frozen? ⟨g, 5, none⟩ = false
  f6 : w.frozen? ⟨g, 6, none⟩ = false
  f7 : w.frozen? ⟨g, 7, none⟩ = false
  f8 : w.frozen? ⟨g, 8, none⟩ = false
  f9 : w.frozen? ⟨g, 9, none⟩ = false
  z : g < w.heap.size
section
variable {w w' : World} {g h : Nat} {v0 v1 v2 v3 v4 v5 v6 v7 v8 v9 u0 u1 u2 u3 u4 u5 u6 u7 u8 u9 : Value}
theorem Box10.below (b : Box10 w g v0 v1 v2 v3 v4 v5 v6 v7 v8 v9) (q : Below w.heap.size w w') : Box10 w' g v0 v1 v2 v3 v4 v5 v6 v7 v8 v9 :=
  ⟨(q.cell b.z).trans b.c0, (q.cell b.z).trans b.c1, (q.cell b.z).trans b.c2, (q.cell b.z).trans b.c3, (q.cell b.z).trans b.c4, (q.cell b.z).trans b.c5, (q.cell b.z).trans b.c6, (q.cell b.z).trans b.c7, (q.cell b.z).trans b.c8, (q.cell b.z).trans b.c9, (q.frozen b.z).trans b.f0, (q.frozen b.z).trans b.f1, (q.frozen b.z).trans b.f2, (q.frozen b.z).trans b.f3, (q.frozen b.z).trans b.f4, (q.frozen b.z).trans b.f5, (q.frozen b.z).trans b.f6, (q.frozen b.z).trans b.f7, (q.frozen b.z).trans b.f8, (q.frozen b.z).trans b.f9, Nat.lt_of_lt_of_le b.z q.size⟩
theorem Box10.make (w : World) (v0 v1 v2 v3 v4 v5 v6 v7 v8 v9 : Value) (T : TypeId) {g : Nat} (hg : g = w.heap.size) : Box10 (w.alloc (.cells #[v0, v1, v2, v3, v4, v5, v6, v7, v8, v9] T)) g v0 v1 v2 v3 v4 v5 v6 v7 v8 v9 := by
  subst hg; constructor <;> simp (maxDischargeDepth := 12) [go_sem]
theorem Box10.alloc (b : Box10 w g v0 v1 v2 v3 v4 v5 v6 v7 v8 v9) (o : Obj) : Box10 (w.alloc o) g v0 v1 v2 v3 v4 v5 v6 v7 v8 v9 := b.below ((Below.refl _ _).alloc (Nat.le_refl _) _)
theorem Box10.drew (b : Box10 w g v0 v1 v2 v3 v4 v5 v6 v7 v8 v9) : Box10 w.drew g v0 v1 v2 v3 v4 v5 v6 v7 v8 v9 := b.below (Below.refl _ _).drew
theorem Box10.drewN (b : Box10 w g v0 v1 v2 v3 v4 v5 v6 v7 v8 v9) (k : Nat) : Box10 (w.drewN k) g v0 v1 v2 v3 v4 v5 v6 v7 v8 v9 := b.below (below_drewN (Below.refl _ _) k)
theorem Box10.other (b : Box10 w g v0 v1 v2 v3 v4 v5 v6 v7 v8 v9) (hne : h ≠ g) (j : Nat) (u : Value) : Box10 (w.setCell ⟨h, j, none⟩ u) g v0 v1 v2 v3 v4 v5 v6 v7 v8 v9 := by
  obtain ⟨c0, c1, c2, c3, c4, c5, c6, c7, c8, c9, f0, f1, f2, f3, f4, f5, f6, f7, f8, f9, z⟩ := b
  have hn : g ≠ h := fun e => hne e.symm
  constructor <;> (first | (simp (maxDischargeDepth := 12) [go_sem, *]; done) | (simp; omega))
theorem Box10.set (b : Box10 w g v0 v1 v2 v3 v4 v5 v6 v7 v8 v9) : Box10 ((((((((((w.setCell ⟨g, 0, none⟩ u0).setCell ⟨g, 1, none⟩ u1).setCell ⟨g, 2, none⟩ u2).setCell ⟨g, 3, none⟩ u3).setCell ⟨g, 4, none⟩ u4).setCell ⟨g, 5, none⟩ u5).setCell ⟨g, 6, none⟩ u6).setCell ⟨g, 7, none⟩ u7).setCell ⟨g, 8, none⟩ u8).setCell ⟨g, 9, none⟩ u9) g u0 u1 u2 u3 u4 u5 u6 u7 u8 u9 := by
  obtain ⟨c0, c1, c2, c3, c4, c5, c6, c7, c8, c9, f0, f1, f2, f3, f4, f5, f6, f7, f8, f9, z⟩ := b
  constructor <;> (first | (simp (maxDischargeDepth := 20) [go_sem, *]; done) | (simp; omega))
end
structure Box11 (w : World) (g : Nat) (v0 v1 v2 v3 v4 v5 v6 v7 v8 v9 v10 : Value) : Prop where
  c0 : w.cell? ⟨g, 0, none⟩ = some v0
  c1 : w.cell? ⟨g, 1, none⟩ = some v1
  c2 : w.cell? ⟨g, 2, none⟩ = some v2
  c3 : w.cell? ⟨g, 3, none⟩ = some v3
  c4 : w.cell? ⟨g, 4, none⟩ = some v4
  c5 : w.cell? ⟨g, 5, none⟩ = some v5
  c6 : w.cell? ⟨g, 6, none⟩ = some v6
  c7 : w.cell? ⟨g, 7, none⟩ = some v7
  c8 : w.cell? ⟨g, 8, none⟩ = some v8
  c9 : w.cell? ⟨g, 9, none⟩ = some v9
  c10 : w.cell? ⟨g, 10, none⟩ = some v10
  f0 : w.frozen? ⟨g, 0, none⟩ = false
  f1 : w.frozen? ⟨g, 1, none⟩ = false
  f2 : w.frozen? ⟨g, 2, none⟩ = false
  f3 : w.frozen? ⟨g, 3, none⟩ = false
  f4 : w.frozen? ⟨g, 4, none⟩ = false
  f5 : w.frozen? ⟨g, 5, none⟩ = false
  f6 : w.frozen? ⟨g, 6, none⟩ = false
  f7 : w.frozen? ⟨g, 7, none⟩ = false
  f8 : w.frozen? ⟨g, 8, none⟩ = false
  f9 : w.frozen? ⟨g, 9, none⟩ = false
  f10 : w.frozen? ⟨g, 10, none⟩ = false
  z : g < w.heap.size
section
variable {w w' : World} {g h : Nat} {v0 v1 v2 v3 v4 v5 v6 v7 v8 v9 v10 u0 u1 u2 u3 u4 u5 u6 u7 u8 u9 u10 : Value}
theorem Box11.below (b : Box11 w g v0 v1 v2 v3 v4 v5 v6 v7 v8 v9 v10) (q : Below w.heap.size w w') : Box11 w' g v0 v1 v2 v3 v4 v5 v6 v7 v8 v9 v10 :=
  ⟨(q.cell b.z).trans b.c0, (q.cell b.z).trans b.c1, (q.cell b.z).trans b.c2, (q.cell b.z).trans b.c3, (q.cell b.z).trans b.c4, (q.cell b.z).trans b.c5, (q.cell b.z).trans b.c6, (q.cell b.z).trans b.c7, (q.cell b.z).trans b.c8, (q.cell b.z).trans b.c9, (q.cell b.z).trans b.c10, (q.frozen b.z).trans b.f0, (q.frozen b.z).trans b.f1, (q.frozen b.z).trans b.f2, (q.frozen b.z).trans b.f3, (q.frozen b.z).trans b.f4, (q.frozen b.z).trans b.f5, (q.frozen b.z).trans b.f6, (q.frozen b.z).trans b.f7, (q.frozen b.z).trans b.f8, (q.frozen b.z).trans b.f9, (q.frozen b.z).trans b.f10, Nat.lt_of_lt_of_le b.z q.size⟩
theorem Box11.make (w : World) (v0 v1 v2 v3 v4 v5 v6 v7 v8 v9 v10 : Value) (T : TypeId) {g : Nat} (hg : g = w.heap.size) : Box11 (w.alloc (.cells #[v0, v1, v2, v3, v4, v5, v6, v7, v8, v9, v10] T)) g v0 v1 v2 v3 v4 v5 v6 v7 v8 v9 v10 := by
  subst hg; constructor <;> simp (maxDischargeDepth := 12) [go_sem]
theorem Box11.alloc (b : Box11 w g v0 v1 v2 v3 v4 v5 v6 v7 v8 v9 v10) (o : Obj) : Box11 (w.alloc o) g v0 v1 v2 v3 v4 v5 v6 v7 v8 v9 v10 := b.below ((Below.refl _ _).alloc (Nat.le_refl _) _)
theorem Box11.drew (b : Box11 w g v0 v1 v2 v3 v4 v5 v6 v7 v8 v9 v10) : Box11 w.drew g v0 v1 v2 v3 v4 v5 v6 v7 v8 v9 v10 := b.below (Below.refl _ _).drew
theorem Box11.drewN (b : Box11 w g v0 v1 v2 v3 v4 v5 v6 v7 v8 v9 v10) (k : Nat) : Box11 (w.drewN k) g v0 v1 v2 v3 v4 v5 v6 v7 v8 v9 v10 := b.below (below_drewN (Below.refl _ _) k)
theorem Box11.other (b : Box11 w g v0 v1 v2 v3 v4 v5 v6 v7 v8 v9 v10) (hne : h ≠ g) (j : Nat) (u : Value) : Box11 (w.setCell ⟨h, j, none⟩ u) g v0 v1 v2 v3 v4 v5 v6 v7 v8 v9 v10 := by
  obtain ⟨c0, c1, c2, c3, c4, c5, c6, c7, c8, c9, c10, f0, f1, f2, f3, f4, f5, f6, f7, f8, f9, f10, z⟩ := b
  have hn : g ≠ h := fun e => hne e.symm
  constructor <;> (first | (simp (maxDischargeDepth := 12) [go_sem, *]; done) | (simp; omega))
theorem Box11.set (b : Box11 w g v0 v1 v2 v3 v4 v5 v6 v7 v8 v9 v10) : Box11 (((((((((((w.setCell ⟨g, 0, none⟩ u0).setCell ⟨g, 1, none⟩ u1).setCell ⟨g, 2, none⟩ u2).setCell ⟨g, 3, none⟩ u3).setCell ⟨g, 4, none⟩ u4).setCell ⟨g, 5, none⟩ u5).setCell ⟨g, 6, none⟩ u6).setCell ⟨g, 7, none⟩ u7).setCell ⟨g, 8, none⟩ u8).setCell ⟨g, 9, none⟩ u9).setCell ⟨g, 10, none⟩ u10) g u0 u1 u2 u3 u4 u5 u6 u7 u8 u9 u10 := by
  obtain ⟨c0, c1, c2, c3, c4, c5, c6, c7, c8, c9, c10, f0, f1, f2, f3, f4, f5, f6, f7, f8, f9, f10, z⟩ := b
  constructor <;> (first | (simp (maxDischargeDepth := 20) [go_sem, *]; done) | (simp; omega))
end
end Go.Proofs.YtpkooogfefkcdaaDoor

/- Layer 24: words of lines, and what each has. -/
namespace Go.Proofs.YtpkooogfefkcdaaDoor
open Go.RowKit
/-- The word of an event's kind. -/
def wordL : Nat → List Nat
  | 0 => [97, 114, 114, 105, 118, 101]
  | 1 => [100, 97, 116, 97]
  | 2 => [102, 105, 110]
  | 3 => [114, 101, 115, 101, 116]
  | 4 => [119, 105, 110, 100, 111, 119]
  | 5 => [117, 112]
  | 6 => [114, 101, 102, 117, 115, 101]
  | _ => [116, 105, 99, 107]
/-- Has it a connection, a number, a text? -/
def hasC (k : Nat) : Bool := k != 0 && k != 7
def hasN (k : Nat) : Bool := k == 0 || k == 4 || k == 5 || k == 7
def hasT (k : Nat) : Bool := k == 1
def shapeV (k : Nat) : Value := .agg #[.int .i64 (k : Int), .bool (hasC k), .bool (hasN k), .bool (hasT k)]
def shapesE : Array MapEntry := #[⟨.string { data := #[97, 114, 114, 105, 118, 101] }, .agg #[.int .i64 0, .bool false, .bool true, .bool false], 0⟩, ⟨.string { data := #[100, 97, 116, 97] }, .agg #[.int .i64 1, .bool true, .bool false, .bool true], 1⟩, ⟨.string { data := #[102, 105, 110] }, .agg #[.int .i64 2, .bool true, .bool false, .bool false], 2⟩, ⟨.string { data := #[114, 101, 115, 101, 116] }, .agg #[.int .i64 3, .bool true, .bool false, .bool false], 3⟩, ⟨.string { data := #[119, 105, 110, 100, 111, 119] }, .agg #[.int .i64 4, .bool true, .bool true, .bool false], 4⟩, ⟨.string { data := #[117, 112] }, .agg #[.int .i64 5, .bool true, .bool true, .bool false], 5⟩, ⟨.string { data := #[114, 101, 102, 117, 115, 101] }, .agg #[.int .i64 6, .bool true, .bool false, .bool false], 6⟩, ⟨.string { data := #[116, 105, 99, 107] }, .agg #[.int .i64 7, .bool false, .bool true, .bool false], 7⟩]
def shapesO : Obj := .map shapesE 8
theorem wordL_lt (k : Nat) : ∀ x ∈ wordL k, x < 256 := by
  unfold wordL; split <;> decide
theorem kinds {k : Nat} (h : k < 8) : k = 0 ∨ k = 1 ∨ k = 2 ∨ k = 3 ∨ k = 4 ∨ k = 5 ∨ k = 6 ∨ k = 7 := by omega
theorem word_lit {k : Nat} (h : k < 8) : strN (wordL k) = match k with | 0 => { data := #[97, 114, 114, 105, 118, 101] } | 1 => { data := #[100, 97, 116, 97] } | 2 => { data := #[102, 105, 110] } | 3 => { data := #[114, 101, 115, 101, 116] } | 4 => { data := #[119, 105, 110, 100, 111, 119] } | 5 => { data := #[117, 112] } | 6 => { data := #[114, 101, 102, 117, 115, 101] } | _ => { data := #[116, 105, 99, 107] } := by
  rcases kinds h with rfl | rfl | rfl | rfl | rfl | rfl | rfl | rfl <;> rfl
theorem push_set (h : Array Obj) (a b : Obj) : (h.push a).setIfInBounds h.size b = h.push b := by
  apply Array.ext_getElem?
  intro i
  rw [Array.getElem?_setIfInBounds, Array.getElem?_push, Array.getElem?_push, Array.size_push]
  by_cases h' : h.size = i
  · subst h'; simp
  · rw [if_neg h', if_neg (fun e => h' e.symm), if_neg (fun e => h' e.symm)]
def shE0 : Array MapEntry := #[]
def shE1 : Array MapEntry := #[⟨.string { data := #[97, 114, 114, 105, 118, 101] }, .agg #[.int .i64 0, .bool false, .bool true, .bool false], 0⟩]
def shE2 : Array MapEntry := #[⟨.string { data := #[97, 114, 114, 105, 118, 101] }, .agg #[.int .i64 0, .bool false, .bool true, .bool false], 0⟩, ⟨.string { data := #[100, 97, 116, 97] }, .agg #[.int .i64 1, .bool true, .bool false, .bool true], 1⟩]
def shE3 : Array MapEntry := #[⟨.string { data := #[97, 114, 114, 105, 118, 101] }, .agg #[.int .i64 0, .bool false, .bool true, .bool false], 0⟩, ⟨.string { data := #[100, 97, 116, 97] }, .agg #[.int .i64 1, .bool true, .bool false, .bool true], 1⟩, ⟨.string { data := #[102, 105, 110] }, .agg #[.int .i64 2, .bool true, .bool false, .bool false], 2⟩]
def shE4 : Array MapEntry := #[⟨.string { data := #[97, 114, 114, 105, 118, 101] }, .agg #[.int .i64 0, .bool false, .bool true, .bool false], 0⟩, ⟨.string { data := #[100, 97, 116, 97] }, .agg #[.int .i64 1, .bool true, .bool false, .bool true], 1⟩, ⟨.string { data := #[102, 105, 110] }, .agg #[.int .i64 2, .bool true, .bool false, .bool false], 2⟩, ⟨.string { data := #[114, 101, 115, 101, 116] }, .agg #[.int .i64 3, .bool true, .bool false, .bool false], 3⟩]
def shE5 : Array MapEntry := #[⟨.string { data := #[97, 114, 114, 105, 118, 101] }, .agg #[.int .i64 0, .bool false, .bool true, .bool false], 0⟩, ⟨.string { data := #[100, 97, 116, 97] }, .agg #[.int .i64 1, .bool true, .bool false, .bool true], 1⟩, ⟨.string { data := #[102, 105, 110] }, .agg #[.int .i64 2, .bool true, .bool false, .bool false], 2⟩, ⟨.string { data := #[114, 101, 115, 101, 116] }, .agg #[.int .i64 3, .bool true, .bool false, .bool false], 3⟩, ⟨.string { data := #[119, 105, 110, 100, 111, 119] }, .agg #[.int .i64 4, .bool true, .bool true, .bool false], 4⟩]
def shE6 : Array MapEntry := #[⟨.string { data := #[97, 114, 114, 105, 118, 101] }, .agg #[.int .i64 0, .bool false, .bool true, .bool false], 0⟩, ⟨.string { data := #[100, 97, 116, 97] }, .agg #[.int .i64 1, .bool true, .bool false, .bool true], 1⟩, ⟨.string { data := #[102, 105, 110] }, .agg #[.int .i64 2, .bool true, .bool false, .bool false], 2⟩, ⟨.string { data := #[114, 101, 115, 101, 116] }, .agg #[.int .i64 3, .bool true, .bool false, .bool false], 3⟩, ⟨.string { data := #[119, 105, 110, 100, 111, 119] }, .agg #[.int .i64 4, .bool true, .bool true, .bool false], 4⟩, ⟨.string { data := #[117, 112] }, .agg #[.int .i64 5, .bool true, .bool true, .bool false], 5⟩]
def shE7 : Array MapEntry := #[⟨.string { data := #[97, 114, 114, 105, 118, 101] }, .agg #[.int .i64 0, .bool false, .bool true, .bool false], 0⟩, ⟨.string { data := #[100, 97, 116, 97] }, .agg #[.int .i64 1, .bool true, .bool false, .bool true], 1⟩, ⟨.string { data := #[102, 105, 110] }, .agg #[.int .i64 2, .bool true, .bool false, .bool false], 2⟩, ⟨.string { data := #[114, 101, 115, 101, 116] }, .agg #[.int .i64 3, .bool true, .bool false, .bool false], 3⟩, ⟨.string { data := #[119, 105, 110, 100, 111, 119] }, .agg #[.int .i64 4, .bool true, .bool true, .bool false], 4⟩, ⟨.string { data := #[117, 112] }, .agg #[.int .i64 5, .bool true, .bool true, .bool false], 5⟩, ⟨.string { data := #[114, 101, 102, 117, 115, 101] }, .agg #[.int .i64 6, .bool true, .bool false, .bool false], 6⟩]
def shE8 : Array MapEntry := #[⟨.string { data := #[97, 114, 114, 105, 118, 101] }, .agg #[.int .i64 0, .bool false, .bool true, .bool false], 0⟩, ⟨.string { data := #[100, 97, 116, 97] }, .agg #[.int .i64 1, .bool true, .bool false, .bool true], 1⟩, ⟨.string { data := #[102, 105, 110] }, .agg #[.int .i64 2, .bool true, .bool false, .bool false], 2⟩, ⟨.string { data := #[114, 101, 115, 101, 116] }, .agg #[.int .i64 3, .bool true, .bool false, .bool false], 3⟩, ⟨.string { data := #[119, 105, 110, 100, 111, 119] }, .agg #[.int .i64 4, .bool true, .bool true, .bool false], 4⟩, ⟨.string { data := #[117, 112] }, .agg #[.int .i64 5, .bool true, .bool true, .bool false], 5⟩, ⟨.string { data := #[114, 101, 102, 117, 115, 101] }, .agg #[.int .i64 6, .bool true, .bool false, .bool false], 6⟩, ⟨.string { data := #[116, 105, 99, 107] }, .agg #[.int .i64 7, .bool false, .bool true, .bool false], 7⟩]
end Go.Proofs.YtpkooogfefkcdaaDoor

/- Layer 24: small functions of lines. -/
namespace Go.Proofs.YtpkooogfefkcdaaDoor
open Go.RowKit
def rightB (n : Int) (b : Bool) : Bool := if b then decide (0 ≤ n ∧ n ≤ 1099511627776) else decide (n = 0)
def plainB (c : Nat) : Bool := decide (32 ≤ c) && decide (c ≤ 126) && !decide (c = 34) && !decide (c = 92)
end Go.Proofs.YtpkooogfefkcdaaDoor
