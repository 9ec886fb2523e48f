/- fieldfarelaw01.awake: the walk. Numbers' boxes. -/
import Derived.Test.YtkhhjibpppmekaaLawA
namespace Go.Proofs.Ytkhhjibpppmekaa
open Go.RowKit
/-- A number's box. -/
structure BoxD (w : World) (g : Nat) (n : Bool) (h l : Int) : Prop where
  c0 : w.cell? ⟨g, 0, none⟩ = some (.bool n)
  c1 : w.cell? ⟨g, 1, none⟩ = some (.int .u64 h)
  c2 : w.cell? ⟨g, 2, none⟩ = some (.int .u64 l)
  z : g < w.heap.size
theorem BoxD.below {w w' : World} {g : Nat} {n : Bool} {h l : Int} (b : BoxD w g n h l) (q : Below w.heap.size w w') : BoxD w' g n h l :=
  ⟨(q.cell b.z).trans b.c0, (q.cell b.z).trans b.c1, (q.cell b.z).trans b.c2, Nat.lt_of_lt_of_le b.z q.size⟩
theorem BoxD.new (w : World) (n : Bool) (h l : Int) : BoxD (w.alloc (.cells #[.bool n, .int .u64 h, .int .u64 l] 24)) w.heap.size n h l := by
  refine ⟨?_, ?_, ?_, ?_⟩ <;> simp (maxDischargeDepth := 12) [go_sem]
theorem BoxD.make (w : World) (n : Bool) (h l : Int) {g : Nat} (hg : g = w.heap.size) : BoxD (w.alloc (.cells #[.bool n, .int .u64 h, .int .u64 l] 24)) g n h l := by
  subst hg; exact BoxD.new w n h l
theorem BoxD.alloc {w : World} {g : Nat} {n : Bool} {h l : Int} (b : BoxD w g n h l) (o : Obj) : BoxD (w.alloc o) g n h l := b.below ((Below.refl _ _).alloc (Nat.le_refl _) _)
theorem BoxD.drew {w : World} {g : Nat} {n : Bool} {h l : Int} (b : BoxD w g n h l) : BoxD w.drew g n h l := b.below (Below.refl _ _).drew
theorem BoxD.drewN {w : World} {g : Nat} {n : Bool} {h l : Int} (b : BoxD w g n h l) (k : Nat) : BoxD (w.drewN k) g n h l := b.below (below_drewN (Below.refl _ _) k)
/-- A number's box that may be written. -/
structure BoxF (w : World) (g : Nat) (n : Bool) (h l : Int) : Prop where
  c0 : w.cell? ⟨g, 0, none⟩ = some (.bool n)
  c1 : w.cell? ⟨g, 1, none⟩ = some (.int .u64 h)
  c2 : w.cell? ⟨g, 2, none⟩ = some (.int .u64 l)
  f0 : w.frozen? ⟨g, 0, none⟩ = false
  f1 : w.frozen? ⟨g, 1, none⟩ = false
  f2 : w.frozen? ⟨g, 2, none⟩ = false
  z : g < w.heap.size
theorem BoxF.below {w w' : World} {g : Nat} {n : Bool} {h l : Int} (b : BoxF w g n h l) (q : Below w.heap.size w w') : BoxF w' g n h l :=
  ⟨(q.cell b.z).trans b.c0, (q.cell b.z).trans b.c1, (q.cell b.z).trans b.c2, (q.frozen b.z).trans b.f0, (q.frozen b.z).trans b.f1, (q.frozen b.z).trans b.f2, Nat.lt_of_lt_of_le b.z q.size⟩
theorem BoxF.make (w : World) (n : Bool) (h l : Int) {g : Nat} (hg : g = w.heap.size) : BoxF (w.alloc (.cells #[.bool n, .int .u64 h, .int .u64 l] 24)) g n h l := by
  subst hg; refine ⟨?_, ?_, ?_, ?_, ?_, ?_, ?_⟩ <;> simp (maxDischargeDepth := 12) [go_sem]
theorem BoxF.drew {w : World} {g : Nat} {n : Bool} {h l : Int} (b : BoxF w g n h l) : BoxF w.drew g n h l := b.below (Below.refl _ _).drew
theorem BoxF.drewN {w : World} {g : Nat} {n : Bool} {h l : Int} (b : BoxF w g n h l) (k : Nat) : BoxF (w.drewN k) g n h l := b.below (below_drewN (Below.refl _ _) k)
theorem BoxF.box {w : World} {g : Nat} {n : Bool} {h l : Int} (b : BoxF w g n h l) : BoxD w g n h l := ⟨b.c0, b.c1, b.c2, b.z⟩
theorem BoxF.alloc {w : World} {g : Nat} {n : Bool} {h l : Int} (b : BoxF w g n h l) (o : Obj) : BoxF (w.alloc o) g n h l := b.below ((Below.refl _ _).alloc (Nat.le_refl _) _)
theorem good_b (n : Bool) (h l : Int) {b : Bool} (hg : goodB n h l = b) (w : World) :
    Calls Try.prog 31 #[.agg #[.bool n, .int .u64 h, .int .u64 l]] w fun e w' => e = .returned (.bool b) ∧ Below w.heap.size w w' := by
  subst hg
  refine (good_any n h l w).mono ?_
  rintro e w' ⟨rfl, rfl⟩
  exact ⟨rfl, (Below.refl _ _).alloc (Nat.le_refl _) _⟩
set_option maxRecDepth 100000 in
set_option maxHeartbeats 800000 in
theorem awake1_any (w : World) :
    Calls Try.prog 13 #[] w fun e w' => e = .returned (.bool true) ∧ Below w.heap.size w w' := by
  go_enter Try.func13, Try.ntmps13
  go_upto_region 4 with (first
    | (go_at_call 45; refine (div_c _).mono ?_; rintro e w3 ⟨rfl, b3⟩; have hs_b3 := Below.size b3; (try simp at hs_b3))
    | (go_at_call 47; refine (mod_c _).mono ?_; rintro e w6 ⟨rfl, b6⟩; have hs_b6 := Below.size b6; (try simp at hs_b6))
    | (go_at_call 14; refine (pow_c _).mono ?_; rintro e w9 ⟨rfl, b9⟩; have hs_b9 := Below.size b9; (try simp at hs_b9))
    | (go_at_call 46; (with_reducible refine (int_3 _).mono ?_); rintro e w2 ⟨rfl, b2⟩; have hs_b2 := Below.size b2; (try simp at hs_b2))
    | (go_at_call 46; (with_reducible refine (int_m7 _).mono ?_); rintro e w4 ⟨rfl, b4⟩; have hs_b4 := Below.size b4; (try simp at hs_b4))
    | (go_at_call 46; (with_reducible refine (int_10 _).mono ?_); rintro e w8 ⟨rfl, b8⟩; have hs_b8 := Below.size b8; (try simp at hs_b8))
    | (go_at_call 46; have hh := b6; clear hh; (with_reducible refine (int_2 _).mono ?_); rintro e w7 ⟨rfl, b7⟩; have hs_b7 := Below.size b7; (try simp at hs_b7))
    | (go_at_call 46; have hh := b4; clear hh; (with_reducible refine (int_2 _).mono ?_); rintro e w5 ⟨rfl, b5⟩; have hs_b5 := Below.size b5; (try simp at hs_b5))
    | (go_at_call 46; (with_reducible refine (int_2 _).mono ?_); rintro e w1 ⟨rfl, b1⟩; have hs_b1 := Below.size b1; (try simp at hs_b1)))
  have X1 : BoxD (w9.alloc (.cells #[.bool false, .int .u64 0, .int .u64 1024000000] 24)) w3.heap.size false 0 666666 :=
    ((((((((BoxD.new w3 false 0 666666).below b4).below b5).below b6).alloc _).below b7).below b8).below b9).alloc _
  have X2 : BoxD (w9.alloc (.cells #[.bool false, .int .u64 0, .int .u64 1024000000] 24)) w6.heap.size true 0 1000000 :=
    ((((BoxD.new w6 true 0 1000000).below b7).below b8).below b9).alloc _
  have X3 := BoxD.new w9 false 0 1024000000
  have HB : Below w.heap.size w (w9.alloc (.cells #[.bool false, .int .u64 0, .int .u64 1024000000] 24)) := by (repeat' (first | (with_reducible exact Below.refl _ _) | (refine Below.trans ?_ (Below.mono (by with_reducible assumption) ?_)) | (with_reducible exact Below.refl _ _) | (with_reducible refine below_drewN ?_ _) | (with_reducible refine Below.drew ?_) | (with_reducible refine Below.setCell ?_ ?_ _) | (with_reducible refine Below.alloc ?_ ?_ _) | (with_reducible assumption) | (simp; done) | (simp; omega) | omega))
  have HX := Lib.hid (And.intro X1 (And.intro X2 X3)); have HB := Lib.hid HB
  have hzw : w.heap.size ≤ w9.heap.size := by omega
  clear b1 b2 b3 b4 b5 b6 b7 b8 b9 hs_b1 hs_b2 hs_b3 hs_b4 hs_b5 hs_b6 hs_b7 hs_b8 hs_b9 X1 X2 X3
  generalize w3.heap.size = ga at *
  generalize w6.heap.size = gb at *
  obtain ⟨gc, hgc⟩ : ∃ gc, gc = w9.heap.size := ⟨_, rfl⟩
  rw [← hgc] at HX hzw ⊢
  have hz0 : gc < (w9.alloc (.cells #[.bool false, .int .u64 0, .int .u64 1024000000] 24)).heap.size := by rw [hgc]; simp
  clear hgc
  generalize (w9.alloc (.cells #[.bool false, .int .u64 0, .int .u64 1024000000] 24)) = W at *
  obtain ⟨⟨k0, k1, k2, k3⟩, ⟨k4, k5, k6, k7⟩, ⟨k8, k9, k10, k11⟩⟩ := HX.out
  go_region_held3 (fun w' => w'.cell? ⟨ga, 0, none⟩ = some (.bool false) ∧ w'.cell? ⟨ga, 1, none⟩ = some (.int .u64 0) ∧ w'.cell? ⟨ga, 2, none⟩ = some (.int .u64 666666) ∧ w'.cell? ⟨gb, 0, none⟩ = some (.bool true) ∧ w'.cell? ⟨gb, 1, none⟩ = some (.int .u64 0) ∧ w'.cell? ⟨gb, 2, none⟩ = some (.int .u64 1000000) ∧ w'.cell? ⟨gc, 0, none⟩ = some (.bool false) ∧ w'.cell? ⟨gc, 1, none⟩ = some (.int .u64 0) ∧ w'.cell? ⟨gc, 2, none⟩ = some (.int .u64 1024000000)) ((and_intros <;> (first | (with_reducible assumption) | (go_simp; done) | (simp (maxDischargeDepth := 12) [go_sem]; done) | (simp (maxDischargeDepth := 12) [go_sem, *]; done) | exact (Below.cell (by with_reducible assumption) (by first | (simp; done) | (simp; omega) | omega)).trans (by simp (maxDischargeDepth := 12) [go_sem]))))
    (first
    | (go_at_call 46; (with_reducible refine (int_m1 _).mono ?_); rintro e v1 ⟨rfl, q1⟩; have p1 : Below W.heap.size W v1 := Below.trans (by repeat' (first | (with_reducible assumption) | (with_reducible exact Below.refl _ _) | (with_reducible refine Below.drew ?_) | (with_reducible refine below_drewN ?_ _) | (with_reducible refine Below.alloc ?_ ?_ _) | (with_reducible exact Nat.le_refl _) | (simp; done) | (simp; omega) | omega)) (Below.mono q1 (by first | omega | (simp; done) | (simp; omega))); have HY1 := Lib.hid (And.intro (HX.out.1.below p1) (And.intro (HX.out.2.1.below p1) (HX.out.2.2.below p1))); obtain ⟨⟨i0, i1, i2, i3⟩, ⟨i4, i5, i6, i7⟩, ⟨i8, i9, i10, i11⟩⟩ := HY1.out)
    | (go_at_call 46; (with_reducible refine (int_1024 _).mono ?_); rintro e v2 ⟨rfl, q2⟩; have p2 : Below v1.heap.size v1 v2 := Below.trans (by repeat' (first | (with_reducible assumption) | (with_reducible exact Below.refl _ _) | (with_reducible refine Below.drew ?_) | (with_reducible refine below_drewN ?_ _) | (with_reducible refine Below.alloc ?_ ?_ _) | (with_reducible exact Nat.le_refl _) | (simp; done) | (simp; omega) | omega)) (Below.mono q2 (by first | omega | (simp; done) | (simp; omega))); have HY2 := Lib.hid (And.intro (HY1.out.1.below p2) (And.intro (HY1.out.2.1.below p2) (HY1.out.2.2.below p2))); obtain ⟨⟨j0, j1, j2, j3⟩, ⟨j4, j5, j6, j7⟩, ⟨j8, j9, j10, j11⟩⟩ := HY2.out)
    | (go_at_call 48; refine (cmp_c _).mono ?_; rintro e v3 ⟨rfl, q3⟩; have p3 : Below v2.heap.size v2 v3 := Below.trans (by repeat' (first | (with_reducible assumption) | (with_reducible exact Below.refl _ _) | (with_reducible refine Below.drew ?_) | (with_reducible refine below_drewN ?_ _) | (with_reducible refine Below.alloc ?_ ?_ _) | (with_reducible exact Nat.le_refl _) | (simp; done) | (simp; omega) | omega)) (Below.mono q3 (by first | omega | (simp; done) | (simp; omega))); have HY3 := Lib.hid (And.intro (HY2.out.1.below p3) (And.intro (HY2.out.2.1.below p3) (HY2.out.2.2.below p3))); obtain ⟨⟨l0, l1, l2, l3⟩, ⟨l4, l5, l6, l7⟩, ⟨l8, l9, l10, l11⟩⟩ := HY3.out))
  go_wp2_with fail
  go_ret
  exact ⟨rfl, by refine HB.out.trans ?_; (repeat' (first | (with_reducible exact Below.refl _ _) | (refine Below.trans ?_ (Below.mono (by with_reducible assumption) ?_)) | (with_reducible exact Below.refl _ _) | (with_reducible refine below_drewN ?_ _) | (with_reducible refine Below.drew ?_) | (with_reducible refine Below.setCell ?_ ?_ _) | (with_reducible refine Below.alloc ?_ ?_ _) | (with_reducible assumption) | (simp; done) | (simp; omega) | omega))⟩
end Go.Proofs.Ytkhhjibpppmekaa
