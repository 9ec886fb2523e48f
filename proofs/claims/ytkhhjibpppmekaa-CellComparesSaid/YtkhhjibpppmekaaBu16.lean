/- Several texts put together: LawA, LawB, Byc, CelA. -/
import Derived.Test.YtkhhjibpppmekaaBu15
import Derived.Test.YtkhhjibpppmekaaBu5
import Derived.ArgAppend
import Derived.Test.YtkhhjibpppmekaaBu1
import Derived.Test.YtkhhjibpppmekaaBu9
import Derived.Test.YtkhhjibpppmekaaBu4
/- fieldfarelaw01.awake. -/
namespace Go.Proofs.Ytkhhjibpppmekaa
open Go.RowKit
theorem int_k (n : Int) (s : Bool) (h l : Int) (e1 : zn (n * 1000000) = s) (e2 : zh (n * 1000000) = h) (e3 : zl (n * 1000000) = l) (h0 : -9223372036854775808 ≤ n) (h1 : n < 9223372036854775808) (w : World) :
    Calls Try.prog 46 #[.int .i64 n] w fun e w' => e = .returned (.agg #[.bool s, .int .u64 h, .int .u64 l]) ∧ Below w.heap.size w w' := by
  subst e1 e2 e3; exact int_any n h0 h1 w
theorem int_1 (w : World) : Calls Try.prog 46 #[.int .i64 1] w fun e w' => e = .returned (.agg #[.bool false, .int .u64 0, .int .u64 1000000]) ∧ Below w.heap.size w w' := int_k 1 _ _ _ (by decide) (by decide) (by decide) (by decide) (by decide) w
theorem int_2 (w : World) : Calls Try.prog 46 #[.int .i64 2] w fun e w' => e = .returned (.agg #[.bool false, .int .u64 0, .int .u64 2000000]) ∧ Below w.heap.size w w' := int_k 2 _ _ _ (by decide) (by decide) (by decide) (by decide) (by decide) w
theorem int_3 (w : World) : Calls Try.prog 46 #[.int .i64 3] w fun e w' => e = .returned (.agg #[.bool false, .int .u64 0, .int .u64 3000000]) ∧ Below w.heap.size w w' := int_k 3 _ _ _ (by decide) (by decide) (by decide) (by decide) (by decide) w
theorem int_10 (w : World) : Calls Try.prog 46 #[.int .i64 10] w fun e w' => e = .returned (.agg #[.bool false, .int .u64 0, .int .u64 10000000]) ∧ Below w.heap.size w w' := int_k 10 _ _ _ (by decide) (by decide) (by decide) (by decide) (by decide) w
theorem int_1024 (w : World) : Calls Try.prog 46 #[.int .i64 1024] w fun e w' => e = .returned (.agg #[.bool false, .int .u64 0, .int .u64 1024000000]) ∧ Below w.heap.size w w' := int_k 1024 _ _ _ (by decide) (by decide) (by decide) (by decide) (by decide) w
theorem int_m1 (w : World) : Calls Try.prog 46 #[.int .i64 (-1)] w fun e w' => e = .returned (.agg #[.bool true, .int .u64 0, .int .u64 1000000]) ∧ Below w.heap.size w w' := int_k (-1) _ _ _ (by decide) (by decide) (by decide) (by decide) (by decide) w
theorem int_m7 (w : World) : Calls Try.prog 46 #[.int .i64 (-7)] w fun e w' => e = .returned (.agg #[.bool true, .int .u64 0, .int .u64 7000000]) ∧ Below w.heap.size w w' := int_k (-7) _ _ _ (by decide) (by decide) (by decide) (by decide) (by decide) w
theorem isD_k (z : Int) (s : Bool) (h l : Int) (e1 : zn z = s) (e2 : zh z = h) (e3 : zl z = l) (hl : ((z.natAbs : Nat) : Int) < LIM) : IsD s h l z := by
  subst e1 e2 e3; exact IsD.of hl
theorem isD_1 : IsD false 0 1000000 1000000 := isD_k _ _ _ _ (by decide) (by decide) (by decide) (by decide)
theorem isD_2 : IsD false 0 2000000 2000000 := isD_k _ _ _ _ (by decide) (by decide) (by decide) (by decide)
theorem isD_3 : IsD false 0 3000000 3000000 := isD_k _ _ _ _ (by decide) (by decide) (by decide) (by decide)
theorem isD_10 : IsD false 0 10000000 10000000 := isD_k _ _ _ _ (by decide) (by decide) (by decide) (by decide)
theorem isD_1024 : IsD false 0 1024000000 1024000000 := isD_k _ _ _ _ (by decide) (by decide) (by decide) (by decide)
theorem isD_m1 : IsD true 0 1000000 (-1000000) := isD_k _ _ _ _ (by decide) (by decide) (by decide) (by decide)
theorem isD_m7 : IsD true 0 7000000 (-7000000) := isD_k _ _ _ _ (by decide) (by decide) (by decide) (by decide)
theorem isD_0 : IsD false 0 0 0 := isD_k _ _ _ _ (by decide) (by decide) (by decide) (by decide)
theorem div_c (w : World) : Calls Try.prog 45 #[.agg #[.bool false, .int .u64 0, .int .u64 2000000], .agg #[.bool false, .int .u64 0, .int .u64 3000000]] w fun e w' => e = .returned (.tuple #[.agg #[.bool false, .int .u64 0, .int .u64 666666], .nilIface]) ∧ Below w.heap.size w w' := by
  have h := div_ok _ _ _ _ _ _ _ _ 666666 isD_2 isD_3 (by decide) (by decide) (by decide) w
  rw [show zn 666666 = false by decide, show zh 666666 = 0 by decide, show zl 666666 = 666666 by decide] at h
  exact h
theorem mod_c (w : World) : Calls Try.prog 47 #[.agg #[.bool true, .int .u64 0, .int .u64 7000000], .agg #[.bool false, .int .u64 0, .int .u64 2000000]] w fun e w' => e = .returned (.tuple #[.agg #[.bool true, .int .u64 0, .int .u64 1000000], .nilIface]) ∧ Below w.heap.size w w' := by
  have h := mod_ok _ _ _ _ _ _ _ _ (-1000000) isD_m7 isD_2 (by decide) (by decide) w
  rw [show zn (-1000000) = true by decide, show zh (-1000000) = 0 by decide, show zl (-1000000) = 1000000 by decide] at h
  exact h
theorem pow_c (w : World) : Calls Try.prog 14 #[.agg #[.bool false, .int .u64 0, .int .u64 2000000], .agg #[.bool false, .int .u64 0, .int .u64 10000000]] w fun e w' => e = .returned (.tuple #[.agg #[.bool false, .int .u64 0, .int .u64 1024000000], .nilIface]) ∧ Below w.heap.size w w' := by
  obtain ⟨za, ha⟩ : ∃ za : Int, za = 2000000 := ⟨_, rfl⟩
  obtain ⟨zb, hb⟩ : ∃ zb : Int, zb = 10000000 := ⟨_, rfl⟩
  exact (pow_core _ _ _ _ _ _ za zb (by rw [ha]; exact isD_2) (by rw [hb]; exact isD_10) (by rw [hb]; decide) (.inl (by omega)) w).mono fun _ _ ⟨h, q⟩ => ⟨powPost_2_10 ha hb h, q⟩
theorem pow_one (n : Bool) (ha la za : Int) (ia : IsD n ha la za) (w : World) : Calls Try.prog 14 #[.agg #[.bool n, .int .u64 ha, .int .u64 la], .agg #[.bool false, .int .u64 0, .int .u64 1000000]] w fun e w' => e = .returned (.tuple #[.agg #[.bool n, .int .u64 ha, .int .u64 la], .nilIface]) ∧ Below w.heap.size w w' := by
  obtain ⟨zb, hb⟩ : ∃ zb : Int, zb = 1000000 := ⟨_, rfl⟩
  have h1 := pow_core n _ ha la _ _ za zb ia (by rw [hb]; exact isD_1) (by rw [hb]; decide) (.inr (by omega)) w
  obtain ⟨e1, e2, e3⟩ := ia.eq
  have hl := ia.2.2.2.2
  rw [e1, e2, e3] at h1 ⊢
  exact h1.mono fun _ _ ⟨h, q⟩ => ⟨powPost_one hb hl h, q⟩
theorem pow_nought (n : Bool) (ha la za : Int) (ia : IsD n ha la za) (w : World) : Calls Try.prog 14 #[.agg #[.bool n, .int .u64 ha, .int .u64 la], .agg #[.bool false, .int .u64 0, .int .u64 0]] w fun e w' => e = .returned (.tuple #[.agg #[.bool false, .int .u64 0, .int .u64 1000000], .nilIface]) ∧ Below w.heap.size w w' := by
  obtain ⟨zb, hb⟩ : ∃ zb : Int, zb = 0 := ⟨_, rfl⟩
  exact (pow_core n _ ha la _ _ za zb ia (by rw [hb]; exact isD_0) (by rw [hb]; decide) (.inr (by omega)) w).mono fun _ _ ⟨h, q⟩ => ⟨powPost_zero hb h, q⟩
theorem cmp_c (w : World) : Calls Try.prog 48 #[.agg #[.bool true, .int .u64 0, .int .u64 1000000], .agg #[.bool false, .int .u64 0, .int .u64 1024000000]] w fun e w' => e = .returned (.int .i64 (-1)) ∧ Below w.heap.size w w' :=
  cmp_ok _ _ _ _ _ _ _ _ isD_m1 isD_1024 w
end Go.Proofs.Ytkhhjibpppmekaa

/- fieldfarelaw01.awake: the walk. Numbers' boxes. -/
namespace Go.Proofs.Ytkhhjibpppmekaa
open Go.RowKit
/-- A number's box. -/
structure BoxD (w : World) (g : Nat) (n : Bool) (h l : Int) : Prop where
  c0 : w.cell? ⟨g, 0, none⟩ = some (.bool n)
  c1 : w.cell? ⟨g, 1, none⟩ = some (.int .u64 h)
  c2 : w.cell? ⟨g, 2, none⟩ = some (.int .u64 l)
  z : g < w.heap.size
theorem BoxD.below {w w' : World} {g : Nat} {n : Bool} {h l : Int} (b : BoxD w g n h l) (q : Below w.heap.size w w') : BoxD w' g n h l :=
  ⟨(q.cell b.z).trans b.c0, (q.cell b.z).trans b.c1, (q.cell b.z).trans b.c2, Nat.lt_of_lt_of_le b.z q.size⟩
theorem BoxD.new (w : World) (n : Bool) (h l : Int) : BoxD (w.alloc (.cells #[.bool n, .int .u64 h, .int .u64 l] 24)) w.heap.size n h l := by
  refine ⟨?_, ?_, ?_, ?_⟩ <;> simp (maxDischargeDepth := 12) [go_sem]
theorem BoxD.make (w : World) (n : Bool) (h l : Int) {g : Nat} (hg : g = w.heap.size) : BoxD (w.alloc (.cells #[.bool n, .int .u64 h, .int .u64 l] 24)) g n h l := by
  subst hg; exact BoxD.new w n h l
theorem BoxD.alloc {w : World} {g : Nat} {n : Bool} {h l : Int} (b : BoxD w g n h l) (o : Obj) : BoxD (w.alloc o) g n h l := b.below ((Below.refl _ _).alloc (Nat.le_refl _) _)
theorem BoxD.drew {w : World} {g : Nat} {n : Bool} {h l : Int} (b : BoxD w g n h l) : BoxD w.drew g n h l := b.below (Below.refl _ _).drew
theorem BoxD.drewN {w : World} {g : Nat} {n : Bool} {h l : Int} (b : BoxD w g n h l) (k : Nat) : BoxD (w.drewN k) g n h l := b.below (below_drewN (Below.refl _ _) k)
/-- A number's box that may be written. -/
structure BoxF (w : World) (g : Nat) (n : Bool) (h l : Int) : Prop where
  c0 : w.cell? ⟨g, 0, none⟩ = some (.bool n)
  c1 : w.cell? ⟨g, 1, none⟩ = some (.int .u64 h)
  c2 : w.cell? ⟨g, 2, none⟩ = some (.int .u64 l)
  f0 : w.frozen? ⟨g, 0, none⟩ = false
  f1 : w.frozen? ⟨g, 1, none⟩ = false
  f2 : w.frozen? ⟨g, 2, none⟩ = false
  z : g < w.heap.size
theorem BoxF.below {w w' : World} {g : Nat} {n : Bool} {h l : Int} (b : BoxF w g n h l) (q : Below w.heap.size w w') : BoxF w' g n h l :=
  ⟨(q.cell b.z).trans b.c0, (q.cell b.z).trans b.c1, (q.cell b.z).trans b.c2, (q.frozen b.z).trans b.f0, (q.frozen b.z).trans b.f1, (q.frozen b.z).trans b.f2, Nat.lt_of_lt_of_le b.z q.size⟩
theorem BoxF.make (w : World) (n : Bool) (h l : Int) {g : Nat} (hg : g = w.heap.size) : BoxF (w.alloc (.cells #[.bool n, .int .u64 h, .int .u64 l] 24)) g n h l := by
  subst hg; refine ⟨?_, ?_, ?_, ?_, ?_, ?_, ?_⟩ <;> simp (maxDischargeDepth := 12) [go_sem]
theorem BoxF.drew {w : World} {g : Nat} {n : Bool} {h l : Int} (b : BoxF w g n h l) : BoxF w.drew g n h l := b.below (Below.refl _ _).drew
theorem BoxF.drewN {w : World} {g : Nat} {n : Bool} {h l : Int} (b : BoxF w g n h l) (k : Nat) : BoxF (w.drewN k) g n h l := b.below (below_drewN (Below.refl _ _) k)
theorem BoxF.box {w : World} {g : Nat} {n : Bool} {h l : Int} (b : BoxF w g n h l) : BoxD w g n h l := ⟨b.c0, b.c1, b.c2, b.z⟩
theorem BoxF.alloc {w : World} {g : Nat} {n : Bool} {h l : Int} (b : BoxF w g n h l) (o : Obj) : BoxF (w.alloc o) g n h l := b.below ((Below.refl _ _).alloc (Nat.le_refl _) _)
theorem good_b (n : Bool) (h l : Int) {b : Bool} (hg : goodB n h l = b) (w : World) :
    Calls Try.prog 31 #[.agg #[.bool n, .int .u64 h, .int .u64 l]] w fun e w' => e = .returned (.bool b) ∧ Below w.heap.size w w' := by
  subst hg
  refine (good_any n h l w).mono ?_
  rintro e w' ⟨rfl, rfl⟩
  exact ⟨rfl, (Below.refl _ _).alloc (Nat.le_refl _) _⟩
set_option maxRecDepth 100000 in
set_option maxHeartbeats 800000 in
theorem awake1_any (w : World) :
    Calls Try.prog 13 #[] w fun e w' => e = .returned (.bool true) ∧ Below w.heap.size w w' := by
  go_enter Try.func13, Try.ntmps13
  go_upto_region 4 with (first
    | (go_at_call 45; refine (div_c _).mono ?_; rintro e w3 ⟨rfl, b3⟩; have hs_b3 := Below.size b3; (try simp at hs_b3))
    | (go_at_call 47; refine (mod_c _).mono ?_; rintro e w6 ⟨rfl, b6⟩; have hs_b6 := Below.size b6; (try simp at hs_b6))
    | (go_at_call 14; refine (pow_c _).mono ?_; rintro e w9 ⟨rfl, b9⟩; have hs_b9 := Below.size b9; (try simp at hs_b9))
    | (go_at_call 46; (with_reducible refine (int_3 _).mono ?_); rintro e w2 ⟨rfl, b2⟩; have hs_b2 := Below.size b2; (try simp at hs_b2))
    | (go_at_call 46; (with_reducible refine (int_m7 _).mono ?_); rintro e w4 ⟨rfl, b4⟩; have hs_b4 := Below.size b4; (try simp at hs_b4))
    | (go_at_call 46; (with_reducible refine (int_10 _).mono ?_); rintro e w8 ⟨rfl, b8⟩; have hs_b8 := Below.size b8; (try simp at hs_b8))
    | (go_at_call 46; have hh := b6; clear hh; (with_reducible refine (int_2 _).mono ?_); rintro e w7 ⟨rfl, b7⟩; have hs_b7 := Below.size b7; (try simp at hs_b7))
    | (go_at_call 46; have hh := b4; clear hh; (with_reducible refine (int_2 _).mono ?_); rintro e w5 ⟨rfl, b5⟩; have hs_b5 := Below.size b5; (try simp at hs_b5))
    | (go_at_call 46; (with_reducible refine (int_2 _).mono ?_); rintro e w1 ⟨rfl, b1⟩; have hs_b1 := Below.size b1; (try simp at hs_b1)))
  have X1 : BoxD (w9.alloc (.cells #[.bool false, .int .u64 0, .int .u64 1024000000] 24)) w3.heap.size false 0 666666 :=
    ((((((((BoxD.new w3 false 0 666666).below b4).below b5).below b6).alloc _).below b7).below b8).below b9).alloc _
  have X2 : BoxD (w9.alloc (.cells #[.bool false, .int .u64 0, .int .u64 1024000000] 24)) w6.heap.size true 0 1000000 :=
    ((((BoxD.new w6 true 0 1000000).below b7).below b8).below b9).alloc _
  have X3 := BoxD.new w9 false 0 1024000000
  have HB : Below w.heap.size w (w9.alloc (.cells #[.bool false, .int .u64 0, .int .u64 1024000000] 24)) := by (repeat' (first | (with_reducible exact Below.refl _ _) | (refine Below.trans ?_ (Below.mono (by with_reducible assumption) ?_)) | (with_reducible exact Below.refl _ _) | (with_reducible refine below_drewN ?_ _) | (with_reducible refine Below.drew ?_) | (with_reducible refine Below.setCell ?_ ?_ _) | (with_reducible refine Below.alloc ?_ ?_ _) | (with_reducible assumption) | (simp; done) | (simp; omega) | omega))
  have HX := Lib.hid (And.intro X1 (And.intro X2 X3)); have HB := Lib.hid HB
  have hzw : w.heap.size ≤ w9.heap.size := by omega
  clear b1 b2 b3 b4 b5 b6 b7 b8 b9 hs_b1 hs_b2 hs_b3 hs_b4 hs_b5 hs_b6 hs_b7 hs_b8 hs_b9 X1 X2 X3
  generalize w3.heap.size = ga at *
  generalize w6.heap.size = gb at *
  obtain ⟨gc, hgc⟩ : ∃ gc, gc = w9.heap.size := ⟨_, rfl⟩
  rw [← hgc] at HX hzw ⊢
  have hz0 : gc < (w9.alloc (.cells #[.bool false, .int .u64 0, .int .u64 1024000000] 24)).heap.size := by rw [hgc]; simp
  clear hgc
  generalize (w9.alloc (.cells #[.bool false, .int .u64 0, .int .u64 1024000000] 24)) = W at *
  obtain ⟨⟨k0, k1, k2, k3⟩, ⟨k4, k5, k6, k7⟩, ⟨k8, k9, k10, k11⟩⟩ := HX.out
  go_region_held3 (fun w' => w'.cell? ⟨ga, 0, none⟩ = some (.bool false) ∧ w'.cell? ⟨ga, 1, none⟩ = some (.int .u64 0) ∧ w'.cell? ⟨ga, 2, none⟩ = some (.int .u64 666666) ∧ w'.cell? ⟨gb, 0, none⟩ = some (.bool true) ∧ w'.cell? ⟨gb, 1, none⟩ = some (.int .u64 0) ∧ w'.cell? ⟨gb, 2, none⟩ = some (.int .u64 1000000) ∧ w'.cell? ⟨gc, 0, none⟩ = some (.bool false) ∧ w'.cell? ⟨gc, 1, none⟩ = some (.int .u64 0) ∧ w'.cell? ⟨gc, 2, none⟩ = some (.int .u64 1024000000)) ((and_intros <;> (first | (with_reducible assumption) | (go_simp; done) | (simp (maxDischargeDepth := 12) [go_sem]; done) | (simp (maxDischargeDepth := 12) [go_sem, *]; done) | exact (Below.cell (by with_reducible assumption) (by first | (simp; done) | (simp; omega) | omega)).trans (by simp (maxDischargeDepth := 12) [go_sem]))))
    (first
    | (go_at_call 46; (with_reducible refine (int_m1 _).mono ?_); rintro e v1 ⟨rfl, q1⟩; have p1 : Below W.heap.size W v1 := Below.trans (by repeat' (first | (with_reducible assumption) | (with_reducible exact Below.refl _ _) | (with_reducible refine Below.drew ?_) | (with_reducible refine below_drewN ?_ _) | (with_reducible refine Below.alloc ?_ ?_ _) | (with_reducible exact Nat.le_refl _) | (simp; done) | (simp; omega) | omega)) (Below.mono q1 (by first | omega | (simp; done) | (simp; omega))); have HY1 := Lib.hid (And.intro (HX.out.1.below p1) (And.intro (HX.out.2.1.below p1) (HX.out.2.2.below p1))); obtain ⟨⟨i0, i1, i2, i3⟩, ⟨i4, i5, i6, i7⟩, ⟨i8, i9, i10, i11⟩⟩ := HY1.out)
    | (go_at_call 46; (with_reducible refine (int_1024 _).mono ?_); rintro e v2 ⟨rfl, q2⟩; have p2 : Below v1.heap.size v1 v2 := Below.trans (by repeat' (first | (with_reducible assumption) | (with_reducible exact Below.refl _ _) | (with_reducible refine Below.drew ?_) | (with_reducible refine below_drewN ?_ _) | (with_reducible refine Below.alloc ?_ ?_ _) | (with_reducible exact Nat.le_refl _) | (simp; done) | (simp; omega) | omega)) (Below.mono q2 (by first | omega | (simp; done) | (simp; omega))); have HY2 := Lib.hid (And.intro (HY1.out.1.below p2) (And.intro (HY1.out.2.1.below p2) (HY1.out.2.2.below p2))); obtain ⟨⟨j0, j1, j2, j3⟩, ⟨j4, j5, j6, j7⟩, ⟨j8, j9, j10, j11⟩⟩ := HY2.out)
    | (go_at_call 48; refine (cmp_c _).mono ?_; rintro e v3 ⟨rfl, q3⟩; have p3 : Below v2.heap.size v2 v3 := Below.trans (by repeat' (first | (with_reducible assumption) | (with_reducible exact Below.refl _ _) | (with_reducible refine Below.drew ?_) | (with_reducible refine below_drewN ?_ _) | (with_reducible refine Below.alloc ?_ ?_ _) | (with_reducible exact Nat.le_refl _) | (simp; done) | (simp; omega) | omega)) (Below.mono q3 (by first | omega | (simp; done) | (simp; omega))); have HY3 := Lib.hid (And.intro (HY2.out.1.below p3) (And.intro (HY2.out.2.1.below p3) (HY2.out.2.2.below p3))); obtain ⟨⟨l0, l1, l2, l3⟩, ⟨l4, l5, l6, l7⟩, ⟨l8, l9, l10, l11⟩⟩ := HY3.out))
  go_wp2_with fail
  go_ret
  exact ⟨rfl, by refine HB.out.trans ?_; (repeat' (first | (with_reducible exact Below.refl _ _) | (refine Below.trans ?_ (Below.mono (by with_reducible assumption) ?_)) | (with_reducible exact Below.refl _ _) | (with_reducible refine below_drewN ?_ _) | (with_reducible refine Below.drew ?_) | (with_reducible refine Below.setCell ?_ ?_ _) | (with_reducible refine Below.alloc ?_ ?_ _) | (with_reducible assumption) | (simp; done) | (simp; omega) | omega))⟩
end Go.Proofs.Ytkhhjibpppmekaa

/- Bytes out of a string: appending to them. -/
namespace Go.Proofs.Ytkhhjibpppmekaa
open Go.RowKit
/-- A row of bytes at the head of block b, with spare room up to c. -/
structure SB (w : World) (b c : Nat) (L : List Nat) : Prop where
  rb : RB w (b + 1) (some ⟨b, 0, none⟩) L
  le : L.length ≤ c
  spare : ∀ j, L.length ≤ j → j < c → (w.cell? ⟨b, j, none⟩).isSome = true ∧ w.frozen? ⟨b, j, none⟩ = false
  lt : b < w.heap.size
theorem SB.below {w w' : World} {b c : Nat} {L : List Nat} (h : SB w b c L) (q : Below w.heap.size w w') : SB w' b c L := by
  have hl := h.lt
  have hs := q.size
  exact ⟨h.rb.below (q.mono (by omega)), h.le, fun j h1 h2 => by
    have := h.spare j h1 h2
    rw [q.cell (p := ⟨b, j, none⟩) hl, q.frozen (p := ⟨b, j, none⟩) hl]; exact this, by omega⟩
theorem conv_run2 (W : World) (L : List Nat) (hb : ∀ x ∈ L, x < 256) :
    ∃ (c : Nat) (C : Array Value) (f : Nat × Nat), (convert 9 62 (.string (strN L))).run Try.prog W = .ok (.slice (some ⟨W.heap.size, 0, none⟩) L.length c) ((W.alloc (.cells C 5 f)).drew) ∧
      SB ((W.alloc (.cells C 5 f)).drew) W.heap.size c L := by
  have h := run_bytes_of_string (P := Try.prog) W 9 62 5 (strN L) Try.underlying9 Try.underlying62 Try.underlying5
  rw [strN_size] at h
  have hge : L.length ≤ grownCap W L.length 0 5 := grownCap_ge _ _ _ _
  have hsz : (bytesRow (strN L) (grownCap W L.length 0 5)).size = grownCap W L.length 0 5 := by
    unfold bytesRow; simp [strN, ByteArray.size]; omega
  refine ⟨_, _, _, h, ?_, hge, ?_, by simp⟩
  · refine rb_of hb (by omega) fun j hj => ?_
    rw [World.cell?_drew, World.cell?_alloc_mark]
    have hj2 : j < (strN L).data.size := by simpa [strN] using hj
    rw [bytesRow_at _ _ _ hj2]
    exact congrArg (fun x => some (Value.int .u8 x)) (strN_get hb j hj hj2)
  · intro j _ hj
    constructor
    · rw [World.cell?_drew, World.cell?_alloc_mark, Array.getElem?_eq_getElem (by rw [hsz]; exact hj)]; rfl
    · have : (W.alloc (.cells (bytesRow (strN L) (grownCap W L.length 0 5)) 5 ((bytesRow (strN L) (grownCap W L.length 0 5)).size, (bytesRow (strN L) (grownCap W L.length 0 5)).size + 1))).frozen? ⟨W.heap.size, j, none⟩ = false := by
        unfold World.frozen?
        rw [heap_alloc_new]
        simp only [hsz]
        simp; omega
      exact this
theorem wpList_appC {w : World} {ops : Array Oper} {rest : List Oper} {o : Oper} {a : Act} {Q : Exit → Act → World → Prop} (hgd : o.guard = none) (s x : Operand)
    (ho : o.op = .call { callee := .builtin .append, args := #[s, x], argTypes := #[62, 62] }) (B b c : Nat) (L cs : List Nat) (W : World) (hB : B ≤ b) (hs : a.eval s = .slice (some ⟨b, 0, none⟩) L.length c) (hsb : SB w b c L) (hbel : Below B W w)
    (ad : Addr) (m c' : Nat) (B' : Nat) (hx : a.eval x = .slice (some ad) m c') (hm : cs.length = m) (hr : RB w B' (some ad) cs) (hlen : L.length + cs.length ≤ 140737488351232)
    (h : ∀ (A' : Option Addr) (d : Nat) (w' : World), L.length + m ≤ d → RB w' w'.heap.size A' (L ++ cs) → Below B W w' → wpList Try.prog ops Q rest (a.put o.dst (.slice A' (L.length + m) d)) w') : wpList Try.prog ops Q (o :: rest) a w := by
  obtain ⟨i0, hi, hz0, hz1, hz2⟩ := info_parts info_u8
  subst hm
  have hlt := hsb.lt
  have hcell : ∀ j (hj : j < L.length), w.cell? ⟨b, j, none⟩ = some (.int .u8 ((L[j] : Nat) : Int)) := by
    intro j hj
    obtain ⟨ad', e, _, hc⟩ := hsb.rb.2 (by omega)
    cases e
    have := hc j hj
    rwa [show (⟨b, 0, none⟩ : Addr).add j = ⟨b, j, none⟩ by unfold Addr.add; split <;> simp_all] at this
  have hbytes : ∀ y ∈ L ++ cs, y < 256 := fun y hy => by
    rcases List.mem_append.1 hy with hy | hy
    · exact hsb.rb.1 y hy
    · exact hr.1 y hy
  refine wpList_append_arg w hgd s x 62 ho 5 i0 (.int .u8 0) 1 1 Try.underlying62 hi hz0 hz1 hz2 rfl (by decide) b 0 L.length c (L.map bv) hs (by simp) ?_ ad cs.length c' (cs.map bv) hx (by simp) ?_ ?_ ?_ (by unfold maxLen; omega) (by omega) ?_ ?_
  · intro j u hu
    rw [List.getElem?_map] at hu
    rcases Nat.lt_or_ge j L.length with hj | hj
    · rw [List.getElem?_eq_getElem hj] at hu
      rw [Nat.zero_add, hcell j hj]; exact hu
    · rw [List.getElem?_eq_none hj] at hu; cases hu
  · intro j u hu
    rw [List.getElem?_map] at hu
    rcases Nat.lt_or_ge j cs.length with hj | hj
    · obtain ⟨ad', e, _, hc⟩ := hr.2 (by omega)
      cases e
      rw [hc j hj]
      rw [List.getElem?_eq_getElem hj] at hu
      exact hu
    · rw [List.getElem?_eq_none hj] at hu; cases hu
  · intro u hu
    obtain ⟨y, _, rfl⟩ := List.mem_map.1 hu
    rfl
  · intro hroom j hj
    rw [List.length_map] at hj
    have := hsb.spare (L.length + j) (by omega) (by omega)
    simpa [Nat.zero_add, Nat.mul_one] using this
  · intro hroom
    refine h (some ⟨b, 0, none⟩) c _ hroom (rb_of hbytes ?_ fun j hj => ?_) ?_
    · have : ∀ (vs : List Value) (k : Nat) (w : World), (w.setCells b k vs).heap.size = w.heap.size := by
        intro vs
        induction vs with
        | nil => intro k w; rfl
        | cons v vs ih => intro k w; rw [World.setCells, ih, World.size_setCell]
      rw [this]; exact hlt
    · rw [List.length_append] at hj
      rcases Nat.lt_or_ge j L.length with hjl | hjl
      · rw [World.cell?_setCells_out b _ _ _ _ (by intro _ _; left; simp; omega), hcell j hjl, List.getElem_append_left hjl]
      · have := World.cell?_setCells_in b (cs.map bv) (0 + L.length * 1) w (by
          intro i hi
          rw [List.length_map] at hi
          have := (hsb.spare (L.length + i) (by omega) (by omega)).1
          simpa [Nat.zero_add, Nat.mul_one] using this) (j - L.length) (by rw [List.length_map]; omega)
        rw [show 0 + L.length * 1 + (j - L.length) = j by omega] at this
        rw [this, List.getElem_append_right hjl, List.getElem_map]; rfl
    · have : ∀ (vs : List Value) (k : Nat) (w : World), Below B W w → Below B W (w.setCells b k vs) := by
        intro vs
        induction vs with
        | nil => intro k w hw; exact hw
        | cons v vs ih => intro k w hw; rw [World.setCells]; exact ih _ _ (hw.setCell hB _)
      exact this _ _ _ hbel
  · intro _ v' w' hown' hg
    have hob : OB w' w.heap.size v' (L ++ cs) := ⟨hbytes, by rw [List.length_append, List.map_append]; exact hown'⟩
    obtain ⟨A', d, e, h1, h2, _⟩ := hob.slice
    rw [e, List.length_append]
    rw [List.length_append] at h1
    exact h A' d w' h1 h2 (hbel.grown hg (by omega) (fun k hk => by cases hk))
end Go.Proofs.Ytkhhjibpppmekaa

/- cell.like, cell.Good, cell.right. -/
namespace Go.Proofs.Ytkhhjibpppmekaa
open Go.RowKit
/-- A text looks like a number that isn't too great; its number's parts. -/
def likeB (bs : List Nat) : Bool := looksB bs && !pOver bs
def kn (bs : List Nat) : Bool := likeB bs && pP bs
def kh (bs : List Nat) : Int := if likeB bs then mh (pM bs) else 0
def kl (bs : List Nat) : Int := if likeB bs then ml (pM bs) else 0
set_option maxRecDepth 100000 in
set_option maxHeartbeats 800000 in
theorem like_any (bs : List Nat) (w : World) (hb : ∀ x ∈ bs, x < 256) (hl : bs.length ≤ 140737488351232) :
    Calls Try.prog 59 #[.string (strN bs)] w fun e w' => e = .returned (.tuple #[.agg #[.bool (kn bs), .int .u64 (kh bs), .int .u64 (kl bs)], .bool (likeB bs)]) ∧ Below w.heap.size w w' := by
  have hw0 : Below w.heap.size w (w.alloc (.cells #[.bool false, .int .u64 0, .int .u64 0] 24)) := by (repeat' (first | (with_reducible exact Below.refl _ _) | (refine Below.trans ?_ (Below.mono (by with_reducible assumption) ?_)) | (with_reducible exact Below.refl _ _) | (with_reducible refine below_drewN ?_ _) | (with_reducible refine Below.drew ?_) | (with_reducible refine Below.setCell ?_ ?_ _) | (with_reducible refine Below.alloc ?_ ?_ _) | (with_reducible assumption) | (simp; done) | (simp; omega) | omega))
  have br_0 : Hid (Box3 (w.alloc (.cells #[.bool false, .int .u64 0, .int .u64 0] 24)) w.heap.size (.bool false) (.int .u64 0) (.int .u64 0)) := Lib.hid (Box3.make _ _ _ _ _ rfl)
  obtain ⟨w0, hw⟩ : ∃ x, x = (w.alloc (.cells #[.bool false, .int .u64 0, .int .u64 0] 24)) := ⟨_, rfl⟩
  rw [← hw] at hw0 br_0
  obtain ⟨c, C, f, hrun, hsb⟩ := conv_run2 w0 bs hb
  have hq1 : Below w0.heap.size w0 ((w0.alloc (.cells C 5 f)).drew) := by (repeat' (first | (with_reducible exact Below.refl _ _) | (refine Below.trans ?_ (Below.mono (by with_reducible assumption) ?_)) | (with_reducible exact Below.refl _ _) | (with_reducible refine below_drewN ?_ _) | (with_reducible refine Below.drew ?_) | (with_reducible refine Below.setCell ?_ ?_ _) | (with_reducible refine Below.alloc ?_ ?_ _) | (with_reducible assumption) | (simp; done) | (simp; omega) | omega))
  have b3r_W1 := Lib.hid (br_0.out.below hq1)
  have hz1 : w0.heap.size + 1 = ((w0.alloc (.cells C 5 f)).drew).heap.size := by simp
  obtain ⟨w1, hw1⟩ : ∃ x, x = ((w0.alloc (.cells C 5 f)).drew) := ⟨_, rfl⟩
  rw [← hw1] at hrun hsb hq1 b3r_W1 hz1
  have hbel := Lib.hid (hw0.trans (hq1.mono hw0.size))
  have hrb := hsb.rb
  rw [hz1] at hrb
  clear hw1
  have LK0 := looks_any _ c bs w1 w1.heap.size (Nat.le_refl _) hrb hsb.le hl
  have PF0 := fun W (q : Below w1.heap.size w1 W) => prefix_q _ c bs W w1.heap.size q.size (hrb.below q) hsb.le hl
  obtain ⟨S, hS⟩ : ∃ S, S = strN bs := ⟨_, rfl⟩
  rw [← hS] at hrun ⊢
  obtain ⟨lk, hlk⟩ : ∃ x, x = looksB bs := ⟨_, rfl⟩
  obtain ⟨po, hpo⟩ : ∃ x, x = pOver bs := ⟨_, rfl⟩
  have hlike : likeB bs = (lk && !po) := by rw [hlk, hpo]; rfl
  have e1 : kn bs = ((lk && !po) && pP bs) := by unfold kn; rw [hlike]
  have e2 : kh bs = if (lk && !po) then mh (pM bs) else 0 := by unfold kh; rw [hlike]
  have e3 : kl bs = if (lk && !po) then ml (pM bs) else 0 := by unfold kl; rw [hlike]
  rw [hlike, e1, e2, e3]
  rw [← hlk] at LK0
  rw [← hpo] at PF0
  clear hlike e1 e2 e3 hlk hpo hS hz1 hrb hsb
  obtain ⟨n, hn⟩ : ∃ x, x = pP bs := ⟨_, rfl⟩
  obtain ⟨xh, hxh⟩ : ∃ x, x = mh (pM bs) := ⟨_, rfl⟩
  obtain ⟨xl, hxl⟩ : ∃ x, x = ml (pM bs) := ⟨_, rfl⟩
  obtain ⟨xn, hxn⟩ : ∃ x, x = ((nP bs : Nat) : Int) := ⟨_, rfl⟩
  rw [← hn, ← hxh, ← hxl, ← hxn] at PF0
  rw [← hn, ← hxh, ← hxl]
  have LK := Lib.hid LK0
  have HW := Lib.hid hw
  clear LK0 hn hxh hxl hxn hq1 hw0 hw
  have b3r_1 := Lib.hid (b3r_W1.out); have b3r_10 := b3r_1.out.c0; have b3r_11 := b3r_1.out.c1; have b3r_12 := b3r_1.out.c2; have b3r_1f0 := b3r_1.out.f0; have b3r_1f1 := b3r_1.out.f1; have b3r_1f2 := b3r_1.out.f2; have b3r_1z := b3r_1.out.z
  clear b3r_W1 br_0
  cases lk
  · clear PF0
    go_enter Try.func59, Try.ntmps59
    go_upto_region 1 with fail
    rw [← HW.out]
    go_wp2_with (first
      | (go_at_call 35; (with_reducible refine (LK.out).mono ?_); rintro e w2 ⟨rfl, b2⟩; have p2 : Below w1.heap.size w1 w2 := Below.trans (by repeat' (first | (with_reducible assumption) | (with_reducible exact Below.refl _ _) | (with_reducible refine Below.drew ?_) | (with_reducible refine below_drewN ?_ _) | (with_reducible refine Below.alloc ?_ ?_ _) | (with_reducible exact Nat.le_refl _) | (simp; done) | (simp; omega) | omega)) (Below.mono b2 (by first | omega | (simp; done) | (simp; omega))); have b3r_2 := Lib.hid (Box3.below b3r_1.out p2); have b3r_20 := b3r_2.out.c0; have b3r_21 := b3r_2.out.c1; have b3r_22 := b3r_2.out.c2; have b3r_2f0 := b3r_2.out.f0; have b3r_2f1 := b3r_2.out.f1; have b3r_2f2 := b3r_2.out.f2; have b3r_2z := b3r_2.out.z))
    (try simp only [Exit.inBlock, Exit.then]); refine bodyPost_ret (by simp [results, Try.results59, go_sem, *]; try rfl) rfl ?_
    exact ⟨rfl, by refine hbel.out.trans ?_; (repeat' (first | (with_reducible exact Below.refl _ _) | (refine Below.trans ?_ (Below.mono (by with_reducible assumption) ?_)) | (with_reducible exact Below.refl _ _) | (with_reducible refine below_drewN ?_ _) | (with_reducible refine Below.drew ?_) | (with_reducible refine Below.setCell ?_ ?_ _) | (with_reducible refine Below.alloc ?_ ?_ _) | (with_reducible assumption) | (simp; done) | (simp; omega) | omega))⟩
  · cases po
    · rw [show errV false = Value.nilIface from rfl] at PF0
      have PF := Lib.hid PF0
      clear PF0
      go_enter Try.func59, Try.ntmps59
      go_upto_region 1 with fail
      rw [← HW.out]
      go_wp2_with (first
        | (go_at_call 35; (with_reducible refine (LK.out).mono ?_); rintro e w2 ⟨rfl, b2⟩; have p2 : Below w1.heap.size w1 w2 := Below.trans (by repeat' (first | (with_reducible assumption) | (with_reducible exact Below.refl _ _) | (with_reducible refine Below.drew ?_) | (with_reducible refine below_drewN ?_ _) | (with_reducible refine Below.alloc ?_ ?_ _) | (with_reducible exact Nat.le_refl _) | (simp; done) | (simp; omega) | omega)) (Below.mono b2 (by first | omega | (simp; done) | (simp; omega))); have b3r_2 := Lib.hid (Box3.below b3r_1.out p2); have b3r_20 := b3r_2.out.c0; have b3r_21 := b3r_2.out.c1; have b3r_22 := b3r_2.out.c2; have b3r_2f0 := b3r_2.out.f0; have b3r_2f1 := b3r_2.out.f1; have b3r_2f2 := b3r_2.out.f2; have b3r_2z := b3r_2.out.z)
        | (go_at_call 66; (with_reducible refine (PF.out _ p2).mono ?_); rintro e w3 ⟨rfl, b3⟩; have p3 : Below w2.heap.size w2 w3 := Below.trans (by repeat' (first | (with_reducible assumption) | (with_reducible exact Below.refl _ _) | (with_reducible refine Below.drew ?_) | (with_reducible refine below_drewN ?_ _) | (with_reducible refine Below.alloc ?_ ?_ _) | (with_reducible exact Nat.le_refl _) | (simp; done) | (simp; omega) | omega)) (Below.mono b3 (by first | omega | (simp; done) | (simp; omega))); have b3r_3 := Lib.hid (Box3.below b3r_2.out p3); have b3r_30 := b3r_3.out.c0; have b3r_31 := b3r_3.out.c1; have b3r_32 := b3r_3.out.c2; have b3r_3f0 := b3r_3.out.f0; have b3r_3f1 := b3r_3.out.f1; have b3r_3f2 := b3r_3.out.f2; have b3r_3z := b3r_3.out.z))
      (try simp only [Exit.inBlock, Exit.then]); refine bodyPost_ret (by simp [results, Try.results59, go_sem, *]; try rfl) rfl ?_
      exact ⟨rfl, by refine hbel.out.trans ?_; (repeat' (first | (with_reducible exact Below.refl _ _) | (refine Below.trans ?_ (Below.mono (by with_reducible assumption) ?_)) | (with_reducible exact Below.refl _ _) | (with_reducible refine below_drewN ?_ _) | (with_reducible refine Below.drew ?_) | (with_reducible refine Below.setCell ?_ ?_ _) | (with_reducible refine Below.alloc ?_ ?_ _) | (with_reducible assumption) | (simp; done) | (simp; omega) | omega))⟩
    · rw [show errV true = .iface 83 (.int .i64 2) from rfl] at PF0
      have PF := Lib.hid PF0
      clear PF0
      go_enter Try.func59, Try.ntmps59
      go_upto_region 1 with fail
      rw [← HW.out]
      go_wp2_with (first
        | (go_at_call 35; (with_reducible refine (LK.out).mono ?_); rintro e w2 ⟨rfl, b2⟩; have p2 : Below w1.heap.size w1 w2 := Below.trans (by repeat' (first | (with_reducible assumption) | (with_reducible exact Below.refl _ _) | (with_reducible refine Below.drew ?_) | (with_reducible refine below_drewN ?_ _) | (with_reducible refine Below.alloc ?_ ?_ _) | (with_reducible exact Nat.le_refl _) | (simp; done) | (simp; omega) | omega)) (Below.mono b2 (by first | omega | (simp; done) | (simp; omega))); have b3r_2 := Lib.hid (Box3.below b3r_1.out p2); have b3r_20 := b3r_2.out.c0; have b3r_21 := b3r_2.out.c1; have b3r_22 := b3r_2.out.c2; have b3r_2f0 := b3r_2.out.f0; have b3r_2f1 := b3r_2.out.f1; have b3r_2f2 := b3r_2.out.f2; have b3r_2z := b3r_2.out.z)
        | (go_at_call 66; (with_reducible refine (PF.out _ p2).mono ?_); rintro e w3 ⟨rfl, b3⟩; have p3 : Below w2.heap.size w2 w3 := Below.trans (by repeat' (first | (with_reducible assumption) | (with_reducible exact Below.refl _ _) | (with_reducible refine Below.drew ?_) | (with_reducible refine below_drewN ?_ _) | (with_reducible refine Below.alloc ?_ ?_ _) | (with_reducible exact Nat.le_refl _) | (simp; done) | (simp; omega) | omega)) (Below.mono b3 (by first | omega | (simp; done) | (simp; omega))); have b3r_3 := Lib.hid (Box3.below b3r_2.out p3); have b3r_30 := b3r_3.out.c0; have b3r_31 := b3r_3.out.c1; have b3r_32 := b3r_3.out.c2; have b3r_3f0 := b3r_3.out.f0; have b3r_3f1 := b3r_3.out.f1; have b3r_3f2 := b3r_3.out.f2; have b3r_3z := b3r_3.out.z))
      (try simp only [Exit.inBlock, Exit.then]); refine bodyPost_ret (by simp [results, Try.results59, go_sem, *]; try rfl) rfl ?_
      exact ⟨rfl, by refine hbel.out.trans ?_; (repeat' (first | (with_reducible exact Below.refl _ _) | (refine Below.trans ?_ (Below.mono (by with_reducible assumption) ?_)) | (with_reducible exact Below.refl _ _) | (with_reducible refine below_drewN ?_ _) | (with_reducible refine Below.drew ?_) | (with_reducible refine Below.setCell ?_ ?_ _) | (with_reducible refine Below.alloc ?_ ?_ _) | (with_reducible assumption) | (simp; done) | (simp; omega) | omega))⟩
end Go.Proofs.Ytkhhjibpppmekaa
