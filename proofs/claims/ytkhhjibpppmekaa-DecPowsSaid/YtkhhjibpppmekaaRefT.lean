/- fieldfareref01: Pow (under way). -/
import Derived.Test.YtkhhjibpppmekaaRefS
import Derived.Test.YtkhhjibpppmekaaRefR
import Derived.Test.YtkhhjibpppmekaaDecJ
namespace Go.Proofs.Ytkhhjibpppmekaa
open Go.RowKit
/-- What a slice argument's number answers: value and error's number. -/
def PowE (q C : Int) (w' : World) (e : Ending) : Prop := ∃ A2 c2, e = .returned (.tuple #[.agg #[.bool (zn q), .slice A2 (dg q.natAbs).length c2], .int .i64 C]) ∧ DS1 w' A2 c2 q.natAbs
theorem PowE.nought (w' : World) (C : Int) : PowE 0 C w' (.returned (.tuple #[.agg #[.bool false, .slice none 0 0], .int .i64 C])) := ⟨Option.none, 0, rfl, RI.nil, Nat.le_refl _, fun _ => ⟨rfl, rfl⟩⟩
theorem same_trunc {z : Int} {b : Bool} (h : decide (truncZ z = z) = b) : (zn (truncZ z) == zn z && decide ((truncZ z).natAbs = z.natAbs)) = b := by
  rw [← h]
  by_cases e : truncZ z = z
  · rw [e]; simp
  · rw [decide_eq_false e]
    rw [Bool.and_eq_false_iff]
    by_cases e2 : (truncZ z).natAbs = z.natAbs
    · left
      rw [beq_eq_false_iff_ne]
      intro e3
      apply e
      have h1 := truncZ_abs z
      unfold zn at e3
      rw [decide_eq_decide] at e3
      omega
    · right; exact decide_eq_false e2
set_option maxRecDepth 100000 in
set_option maxHeartbeats 1600000 in
theorem rpow_part {n m : Bool} {A A' : Option Addr} {c c' ln : Nat} {zb : Int} (hm : m = zn zb) (w0 w : World) (h' : DS1 w0 A' c' zb.natAbs) (hl' : (dg zb.natAbs).length ≤ 36) (ht : truncZ zb ≠ zb) (q : Below w0.heap.size w0 w) :
    Calls Try.prog 17 #[.agg #[.bool n, .slice A ln c], .agg #[.bool m, .slice A' (dg zb.natAbs).length c']] w fun e w' => PowE 0 1 w' e ∧ Below w.heap.size w w' := by
  have hb := same_trunc (decide_eq_false ht)
  have hlt : (dg (truncZ zb).natAbs).length ≤ 36 := Nat.le_trans (dg_len_mono (by have := trunc_abs_le zb; omega)) hl'
  have hw3 : Below w.heap.size w (((w.alloc (.cells #[.bool n, .slice A ln c] 34)).alloc (.cells #[.bool m, .slice A' (dg zb.natAbs).length c'] 34)).alloc (.cells #[.bool false, .slice none 0 0] 34)) := by (repeat' (first | (with_reducible exact Below.refl _ _) | (refine Below.trans ?_ (Below.mono (by with_reducible assumption) ?_)) | (with_reducible exact Below.refl _ _) | (with_reducible refine below_drewN ?_ _) | (with_reducible refine Below.drew ?_) | (with_reducible refine Below.setCell ?_ ?_ _) | (with_reducible refine Below.alloc ?_ ?_ _) | (with_reducible assumption) | (simp; done) | (simp; omega) | omega))
  have HB := Lib.hid (h'.below (q.trans (hw3.mono q.size)))
  have TR := Lib.hid (fun W qq => rtrunc_d (z := zb) hm A' c' HB.out.2.1 hl' _ W HB.out.1 qq)
  have SM := Lib.hid (fun A2 c2 w5 p5 (hd : DS1 w5 A2 c2 (truncZ zb).natAbs) W qq => same_e (n := zn (truncZ zb)) (m := m) (b := false) (W1 := w5) (W := W) hd (HB.out.below p5) (by omega) (by omega) (by rw [hm]; exact hb) qq)
  have HW3 := Lib.hid hw3
  obtain ⟨lm, hlm⟩ : ∃ lm, lm = (dg zb.natAbs).length := ⟨_, rfl⟩
  rw [← hlm] at TR SM HW3 ⊢
  have HNV : ∀ (w : World) v, NV w w.heap.size v (truncZ zb) → ∃ A c, v = .agg #[.bool (zn (truncZ zb)), .slice A (dg (truncZ zb).natAbs).length c] ∧ DS1 w A c (truncZ zb).natAbs := fun w v h => h.ds
  have HNV := Lib.hid HNV
  clear hb hlt hw3 HB h' hl' ht q hlm hm
  go_enter Try.func17, Try.ntmps17
  go_upto_region 1 with fail
  obtain ⟨w3, hw3⟩ : ∃ x, x = (((w.alloc (.cells #[.bool n, .slice A ln c] 34)).alloc (.cells #[.bool m, .slice A' lm c'] 34)).alloc (.cells #[.bool false, .slice none 0 0] 34)) := ⟨_, rfl⟩; rw [← hw3]
  have yb_0 : Hid (BoxN w3 (w.heap.size + 1) m (.slice A' lm c')) := Lib.hid (by rw [hw3]; exact (BoxN.make _ m (.slice A' lm c') (by simp)).alloc _)
  have yr_0 : Hid (BoxN w3 (w.heap.size + 1 + 1) false (.slice none 0 0)) := Lib.hid (by rw [hw3]; exact BoxN.make _ false (.slice none 0 0) (by simp))
  rw [← hw3] at TR SM HW3
  clear hw3
  have yb_3 := Lib.hid (yb_0.out); have yb_30 := yb_3.out.c0; have yb_31 := yb_3.out.c1; have yb_32 := yb_3.out.f0; have yb_33 := yb_3.out.f1; have yb_3z := yb_3.out.z
  have yr_3 := Lib.hid (yr_0.out); have yr_30 := yr_3.out.c0; have yr_31 := yr_3.out.c1; have yr_32 := yr_3.out.f0; have yr_33 := yr_3.out.f1; have yr_3z := yr_3.out.z
  clear yb_0 yr_0
  go_region_held3 (fun w' => w'.cell? ⟨w.heap.size + 1, 0, none⟩ = some (.bool m) ∧ w'.cell? ⟨w.heap.size + 1, 1, none⟩ = some ((.slice A' lm c'))) ((and_intros <;> (first | (with_reducible assumption) | (go_simp; done) | (simp (maxDischargeDepth := 12) [go_sem]; done) | (simp (maxDischargeDepth := 12) [go_sem, *]; done) | exact (Below.cell (by with_reducible assumption) (by first | (simp; done) | (simp; omega) | omega)).trans (by simp (maxDischargeDepth := 12) [go_sem]))))
    (first
      | (go_at_call 53; (with_reducible refine (TR.out _ (by repeat' (first | (with_reducible exact Below.refl _ _) | (with_reducible assumption) | (with_reducible refine Below.drew ?_) | (with_reducible refine below_drewN ?_ _) | (with_reducible refine Below.alloc ?_ ?_ _) | (with_reducible exact Nat.le_refl _) | (simp; done) | (simp; omega)))).mono ?_); rintro e w4 ⟨⟨v, rfl, hv⟩, b4⟩; have p4 : Below w3.heap.size w3 w4 := Below.trans (by repeat' (first | (with_reducible assumption) | (with_reducible exact Below.refl _ _) | (with_reducible refine Below.drew ?_) | (with_reducible refine below_drewN ?_ _) | (with_reducible refine Below.alloc ?_ ?_ _) | (with_reducible exact Nat.le_refl _) | (simp; done) | (simp; omega) | omega)) (Below.mono b4 (by first | omega | (simp; done) | (simp; omega))); have yb_4 := Lib.hid (BoxN.below yb_3.out p4); have yb_40 := yb_4.out.c0; have yb_41 := yb_4.out.c1; have yb_42 := yb_4.out.f0; have yb_43 := yb_4.out.f1; have yb_4z := yb_4.out.z; have yr_4 := Lib.hid (BoxN.below yr_3.out p4); have yr_40 := yr_4.out.c0; have yr_41 := yr_4.out.c1; have yr_42 := yr_4.out.f0; have yr_43 := yr_4.out.f1; have yr_4z := yr_4.out.z; obtain ⟨A4, c4, rfl, hd4⟩ := HNV.out _ _ hv; have HD4 := Lib.hid hd4; clear hv hd4)
      | (go_at_call 38; (with_reducible refine (SM.out _ _ _ p4 HD4.out _ (by repeat' (first | (with_reducible exact Below.refl _ _) | (with_reducible assumption) | (with_reducible refine Below.drew ?_) | (with_reducible refine below_drewN ?_ _) | (with_reducible refine Below.alloc ?_ ?_ _) | (with_reducible exact Nat.le_refl _) | (simp; done) | (simp; omega)))).mono ?_); rintro e w5 ⟨rfl, b5⟩; have p5 : Below w4.heap.size w4 w5 := Below.trans (by repeat' (first | (with_reducible assumption) | (with_reducible exact Below.refl _ _) | (with_reducible refine Below.drew ?_) | (with_reducible refine below_drewN ?_ _) | (with_reducible refine Below.alloc ?_ ?_ _) | (with_reducible exact Nat.le_refl _) | (simp; done) | (simp; omega) | omega)) (Below.mono b5 (by first | omega | (simp; done) | (simp; omega))); have yb_5 := Lib.hid (BoxN.below yb_4.out p5); have yb_50 := yb_5.out.c0; have yb_51 := yb_5.out.c1; have yb_52 := yb_5.out.f0; have yb_53 := yb_5.out.f1; have yb_5z := yb_5.out.z; have yr_5 := Lib.hid (BoxN.below yr_4.out p5); have yr_50 := yr_5.out.c0; have yr_51 := yr_5.out.c1; have yr_52 := yr_5.out.f0; have yr_53 := yr_5.out.f1; have yr_5z := yr_5.out.z))
  go_wp2_with fail
  (try simp only [Exit.inBlock, Exit.then]); refine bodyPost_ret (by simp [results, Try.results17, go_sem, *]; try rfl) rfl ?_
  have z3 := HW3.out.size; have z4 := p4.size
  have q5 : Below w.heap.size w w5 := HW3.out.trans ((p4.trans (p5.mono z4)).mono z3)
  exact ⟨PowE.nought _ 1, by refine q5.trans ?_; (repeat' (first | (with_reducible exact Below.refl _ _) | (refine Below.trans ?_ (Below.mono (by with_reducible assumption) ?_)) | (with_reducible exact Below.refl _ _) | (with_reducible refine below_drewN ?_ _) | (with_reducible refine Below.drew ?_) | (with_reducible refine Below.setCell ?_ ?_ _) | (with_reducible refine Below.alloc ?_ ?_ _) | (with_reducible assumption) | (simp; done) | (simp; omega) | omega))⟩
set_option maxRecDepth 100000 in
set_option maxHeartbeats 1600000 in
theorem rpow_zero {n : Bool} {A A' : Option Addr} {c c' : Nat} {zb : Int} (hm : true = zn zb) (w0 w : World) (h' : DS1 w0 A' c' zb.natAbs) (hl' : (dg zb.natAbs).length ≤ 36) (ht : truncZ zb = zb) (q : Below w0.heap.size w0 w) :
    Calls Try.prog 17 #[.agg #[.bool n, .slice A 0 c], .agg #[.bool true, .slice A' (dg zb.natAbs).length c']] w fun e w' => PowE 0 3 w' e ∧ Below w.heap.size w w' := by
  have hb := same_trunc (decide_eq_true ht)
  have hlt : (dg (truncZ zb).natAbs).length ≤ 36 := Nat.le_trans (dg_len_mono (by have := trunc_abs_le zb; omega)) hl'
  have hw3 : Below w.heap.size w (((w.alloc (.cells #[.bool n, .slice A 0 c] 34)).alloc (.cells #[.bool true, .slice A' (dg zb.natAbs).length c'] 34)).alloc (.cells #[.bool false, .slice none 0 0] 34)) := by (repeat' (first | (with_reducible exact Below.refl _ _) | (refine Below.trans ?_ (Below.mono (by with_reducible assumption) ?_)) | (with_reducible exact Below.refl _ _) | (with_reducible refine below_drewN ?_ _) | (with_reducible refine Below.drew ?_) | (with_reducible refine Below.setCell ?_ ?_ _) | (with_reducible refine Below.alloc ?_ ?_ _) | (with_reducible assumption) | (simp; done) | (simp; omega) | omega))
  have HB := Lib.hid (h'.below (q.trans (hw3.mono q.size)))
  have TR := Lib.hid (fun W qq => rtrunc_d (z := zb) hm A' c' HB.out.2.1 hl' _ W HB.out.1 qq)
  have SM := Lib.hid (fun A2 c2 w5 p5 (hd : DS1 w5 A2 c2 (truncZ zb).natAbs) W qq => same_e (n := zn (truncZ zb)) (m := true) (b := true) (W1 := w5) (W := W) hd (HB.out.below p5) (by omega) (by omega) (by have h2 := hb; rw [← hm] at h2; exact h2) qq)
  have HW3 := Lib.hid hw3
  obtain ⟨lm, hlm⟩ : ∃ lm, lm = (dg zb.natAbs).length := ⟨_, rfl⟩
  rw [← hlm] at TR SM HW3 ⊢
  have HNV : ∀ (w : World) v, NV w w.heap.size v (truncZ zb) → ∃ A c, v = .agg #[.bool (zn (truncZ zb)), .slice A (dg (truncZ zb).natAbs).length c] ∧ DS1 w A c (truncZ zb).natAbs := fun w v h => h.ds
  have HNV := Lib.hid HNV
  clear hb hlt hw3 HB h' hl' ht q hlm hm
  go_enter Try.func17, Try.ntmps17
  go_upto_region 1 with fail
  obtain ⟨w3, hw3⟩ : ∃ x, x = (((w.alloc (.cells #[.bool n, .slice A 0 c] 34)).alloc (.cells #[.bool true, .slice A' lm c'] 34)).alloc (.cells #[.bool false, .slice none 0 0] 34)) := ⟨_, rfl⟩; rw [← hw3]
  have ya_0 : Hid (BoxN w3 w.heap.size n (.slice A 0 c)) := Lib.hid (by rw [hw3]; exact ((BoxN.make w n (.slice A 0 c) rfl).alloc _).alloc _)
  have yb_0 : Hid (BoxN w3 (w.heap.size + 1) true (.slice A' lm c')) := Lib.hid (by rw [hw3]; exact (BoxN.make _ true (.slice A' lm c') (by simp)).alloc _)
  have yr_0 : Hid (BoxN w3 (w.heap.size + 1 + 1) false (.slice none 0 0)) := Lib.hid (by rw [hw3]; exact BoxN.make _ false (.slice none 0 0) (by simp))
  rw [← hw3] at TR SM HW3
  clear hw3
  have ya_3 := Lib.hid (ya_0.out); have ya_30 := ya_3.out.c0; have ya_31 := ya_3.out.c1; have ya_32 := ya_3.out.f0; have ya_33 := ya_3.out.f1; have ya_3z := ya_3.out.z
  have yb_3 := Lib.hid (yb_0.out); have yb_30 := yb_3.out.c0; have yb_31 := yb_3.out.c1; have yb_32 := yb_3.out.f0; have yb_33 := yb_3.out.f1; have yb_3z := yb_3.out.z
  have yr_3 := Lib.hid (yr_0.out); have yr_30 := yr_3.out.c0; have yr_31 := yr_3.out.c1; have yr_32 := yr_3.out.f0; have yr_33 := yr_3.out.f1; have yr_3z := yr_3.out.z
  clear ya_0 yb_0 yr_0
  go_region_held3 (fun w' => w'.cell? ⟨w.heap.size + 1, 0, none⟩ = some (.bool true) ∧ w'.cell? ⟨w.heap.size + 1, 1, none⟩ = some ((.slice A' lm c'))) ((and_intros <;> (first | (with_reducible assumption) | (go_simp; done) | (simp (maxDischargeDepth := 12) [go_sem]; done) | (simp (maxDischargeDepth := 12) [go_sem, *]; done) | exact (Below.cell (by with_reducible assumption) (by first | (simp; done) | (simp; omega) | omega)).trans (by simp (maxDischargeDepth := 12) [go_sem]))))
    (first
      | (go_at_call 53; (with_reducible refine (TR.out _ (by repeat' (first | (with_reducible exact Below.refl _ _) | (with_reducible assumption) | (with_reducible refine Below.drew ?_) | (with_reducible refine below_drewN ?_ _) | (with_reducible refine Below.alloc ?_ ?_ _) | (with_reducible exact Nat.le_refl _) | (simp; done) | (simp; omega)))).mono ?_); rintro e w4 ⟨⟨v, rfl, hv⟩, b4⟩; have p4 : Below w3.heap.size w3 w4 := Below.trans (by repeat' (first | (with_reducible assumption) | (with_reducible exact Below.refl _ _) | (with_reducible refine Below.drew ?_) | (with_reducible refine below_drewN ?_ _) | (with_reducible refine Below.alloc ?_ ?_ _) | (with_reducible exact Nat.le_refl _) | (simp; done) | (simp; omega) | omega)) (Below.mono b4 (by first | omega | (simp; done) | (simp; omega))); have ya_4 := Lib.hid (BoxN.below ya_3.out p4); have ya_40 := ya_4.out.c0; have ya_41 := ya_4.out.c1; have ya_42 := ya_4.out.f0; have ya_43 := ya_4.out.f1; have ya_4z := ya_4.out.z; have yb_4 := Lib.hid (BoxN.below yb_3.out p4); have yb_40 := yb_4.out.c0; have yb_41 := yb_4.out.c1; have yb_42 := yb_4.out.f0; have yb_43 := yb_4.out.f1; have yb_4z := yb_4.out.z; have yr_4 := Lib.hid (BoxN.below yr_3.out p4); have yr_40 := yr_4.out.c0; have yr_41 := yr_4.out.c1; have yr_42 := yr_4.out.f0; have yr_43 := yr_4.out.f1; have yr_4z := yr_4.out.z; obtain ⟨A4, c4, rfl, hd4⟩ := HNV.out _ _ hv; have HD4 := Lib.hid hd4; clear hv hd4)
      | (go_at_call 38; (with_reducible refine (SM.out _ _ _ p4 HD4.out _ (by repeat' (first | (with_reducible exact Below.refl _ _) | (with_reducible assumption) | (with_reducible refine Below.drew ?_) | (with_reducible refine below_drewN ?_ _) | (with_reducible refine Below.alloc ?_ ?_ _) | (with_reducible exact Nat.le_refl _) | (simp; done) | (simp; omega)))).mono ?_); rintro e w5 ⟨rfl, b5⟩; have p5 : Below w4.heap.size w4 w5 := Below.trans (by repeat' (first | (with_reducible assumption) | (with_reducible exact Below.refl _ _) | (with_reducible refine Below.drew ?_) | (with_reducible refine below_drewN ?_ _) | (with_reducible refine Below.alloc ?_ ?_ _) | (with_reducible exact Nat.le_refl _) | (simp; done) | (simp; omega) | omega)) (Below.mono b5 (by first | omega | (simp; done) | (simp; omega))); have ya_5 := Lib.hid (BoxN.below ya_4.out p5); have ya_50 := ya_5.out.c0; have ya_51 := ya_5.out.c1; have ya_52 := ya_5.out.f0; have ya_53 := ya_5.out.f1; have ya_5z := ya_5.out.z; have yb_5 := Lib.hid (BoxN.below yb_4.out p5); have yb_50 := yb_5.out.c0; have yb_51 := yb_5.out.c1; have yb_52 := yb_5.out.f0; have yb_53 := yb_5.out.f1; have yb_5z := yb_5.out.z; have yr_5 := Lib.hid (BoxN.below yr_4.out p5); have yr_50 := yr_5.out.c0; have yr_51 := yr_5.out.c1; have yr_52 := yr_5.out.f0; have yr_53 := yr_5.out.f1; have yr_5z := yr_5.out.z))
  go_wp2_with fail
  (try simp only [Exit.inBlock, Exit.then]); refine bodyPost_ret (by simp [results, Try.results17, go_sem, *]; try rfl) rfl ?_
  have z3 := HW3.out.size; have z4 := p4.size
  have q5 : Below w.heap.size w w5 := HW3.out.trans ((p4.trans (p5.mono z4)).mono z3)
  exact ⟨PowE.nought _ 3, by refine q5.trans ?_; (repeat' (first | (with_reducible exact Below.refl _ _) | (refine Below.trans ?_ (Below.mono (by with_reducible assumption) ?_)) | (with_reducible exact Below.refl _ _) | (with_reducible refine below_drewN ?_ _) | (with_reducible refine Below.drew ?_) | (with_reducible refine Below.setCell ?_ ?_ _) | (with_reducible refine Below.alloc ?_ ?_ _) | (with_reducible assumption) | (simp; done) | (simp; omega) | omega))⟩
theorem rdiv_nought {n m : Bool} {A A' : Option Addr} {l l2 c c' : Nat} (h : l2 = 0) (w : World) :
    Calls Try.prog 56 #[.agg #[.bool n, .slice A l c], .agg #[.bool m, .slice A' l2 c']] w fun e w' => e = .returned (.tuple #[.agg #[.bool false, .slice none 0 0], .int .i64 3]) ∧ Below w.heap.size w w' := by
  subst h; exact rdiv_zero n m A A' l c c' w
theorem rdiv_one {A A' : Option Addr} {c c' : Nat} {p z x : Int} (hp : p ≠ 0) (hl : (dg p.natAbs).length ≤ 36) (w0 w : World) (h : DS1 w0 A c 1000000) (h' : DS1 w0 A' c' p.natAbs) (hz : z = heldZ (divZ 1000000 p)) (hx : x = heldC (divZ 1000000 p)) (q : Below w0.heap.size w0 w) :
    Calls Try.prog 56 #[.agg #[.bool false, .slice A 7 c], .agg #[.bool (zn p), .slice A' (dg p.natAbs).length c']] w fun e w' => (∃ A2 c2, e = .returned (.tuple #[.agg #[.bool (zn z), .slice A2 (dg z.natAbs).length c2], .int .i64 x]) ∧ DS1 w' A2 c2 z.natAbs) ∧ Below w.heap.size w w' := by
  have h7 : (dg (Int.natAbs 1000000)).length = 7 := by decide
  have := rdiv_d (za := 1000000) (zb := p) (n := false) (m := zn p) (by decide) rfl hp w0 w h h' (by rw [h7]; decide) hl q
  rw [h7, ← hz, ← hx] at this
  exact this
theorem BoxN.alloc' {w : World} {g : Nat} {n : Bool} {v : Value} (b : BoxN w g n v) (o : Obj) : BoxN (w.alloc o) g n v := b.below ((Below.refl _ _).alloc (Nat.le_refl _) _)
/-- Memory while the reference's Pow goes round: the boxes of a, of the answer, of 1 and of the power so far. -/
structure PWR (w : World) (n : Bool) (A : Option Addr) (la c N : Nat) (g1 : Nat) (g2 : Nat) (p : Int) (wr : World) : Prop where
  ya : BoxN wr w.heap.size n (.slice A la c)
  da : DS1 wr A c N
  yr : BoxN wr (w.heap.size + 1 + 1) false (.slice none 0 0)
  yo : ∃ A1 c1, BoxN wr g1 false (.slice A1 7 c1) ∧ DS1 wr A1 c1 1000000
  yp : ∃ A2 c2, BoxN wr g2 (zn p) (.slice A2 (dg p.natAbs).length c2) ∧ DS1 wr A2 c2 p.natAbs
  bel : Below w.heap.size w wr
  z1 : w.heap.size + 1 + 1 < g1
  z2 : g1 < g2
theorem PWR.below {w : World} {n : Bool} {A : Option Addr} {la c N g1 g2 : Nat} {p : Int} {wr w2 : World} (h : PWR w n A la c N g1 g2 p wr) (q : Below wr.heap.size wr w2) : PWR w n A la c N g1 g2 p w2 := by
  obtain ⟨ya, da, yr, ⟨A1, c1, b1, d1⟩, ⟨A2, c2, b2, d2⟩, bel, z1, z2⟩ := h
  exact ⟨ya.below q, da.below q, yr.below q, ⟨A1, c1, b1.below q, d1.below q⟩, ⟨A2, c2, b2.below q, d2.below q⟩, bel.trans (q.mono bel.size), z1, z2⟩
theorem PWR.set {w : World} {n : Bool} {A : Option Addr} {la c N g1 g2 : Nat} {p r : Int} {A3 : Option Addr} {c3 : Nat} {wr : World} (h : PWR w n A la c N g1 g2 p wr) (d3 : DS1 wr A3 c3 r.natAbs) :
    PWR w n A la c N g1 g2 r ((wr.setCell ⟨g2, 0, none⟩ (.bool (zn r))).setCell ⟨g2, 1, none⟩ (.slice A3 (dg r.natAbs).length c3)) := by
  obtain ⟨ya, da, yr, ⟨A1, c1, b1, d1⟩, ⟨A2, c2, b2, d2⟩, bel, z1, z2⟩ := h
  exact ⟨ya.other (by omega), da.box b2, yr.other (by omega), ⟨A1, c1, b1.other (by omega), d1.box b2⟩, ⟨A3, c3, b2.set2, d3.box b2⟩, (bel.setCell (by simp; omega) _).setCell (by simp; omega) _, z1, z2⟩
def PowQ (za zb : Int) (w' : World) (e : Ending) : Prop :=
  if -1000 ≤ zb.tdiv 1000000 ∧ zb.tdiv 1000000 ≤ 1000 then
    match powS za (zb.tdiv 1000000).natAbs with
    | none => PowE 0 2 w' e
    | some p =>
      if zb < 0 then
        if p = 0 then PowE 0 3 w' e
        else PowE (heldZ (divZ 1000000 p)) (heldC (divZ 1000000 p)) w' e
      else PowE p 0 w' e
  else PowE 0 2 w' e
set_option maxRecDepth 100000 in
set_option maxHeartbeats 3200000 in
theorem rpow_core {n m : Bool} {A A' : Option Addr} {c c' : Nat} {za zb : Int} (hn : n = zn za) (hm : m = zn zb) (w0 w : World) (h : DS1 w0 A c za.natAbs) (h' : DS1 w0 A' c' zb.natAbs) (hl : (dg za.natAbs).length ≤ 36) (hl' : (dg zb.natAbs).length ≤ 36) (ht : truncZ zb = zb) (hA : za ≠ 0 ∨ 0 ≤ zb) (q : Below w0.heap.size w0 w) :
    Calls Try.prog 17 #[.agg #[.bool n, .slice A (dg za.natAbs).length c], .agg #[.bool m, .slice A' (dg zb.natAbs).length c']] w fun e w' => PowQ za zb w' e ∧ Below w.heap.size w w' := by
  have hcas : ((((dg za.natAbs).length : Nat) : Int) == 0) = false ∨ ((((dg za.natAbs).length : Nat) : Int) == 0) = true ∧ m = false := by
    cases hx : ((((dg za.natAbs).length : Nat) : Int) == 0)
    · exact .inl rfl
    · right
      refine ⟨rfl, ?_⟩
      rw [beq_iff_eq] at hx
      have hz : za.natAbs = 0 := by
        rcases Nat.eq_zero_or_pos za.natAbs with e | e
        · exact e
        · have := dg_len_pos (N := za.natAbs) (by omega); omega
      rw [hm]; unfold zn; rw [decide_eq_false_iff_not]; omega
  have hb := same_trunc (decide_eq_true ht)
  rw [ht] at hb
  have hw3 : Below w.heap.size w (((w.alloc (.cells #[.bool n, .slice A (dg za.natAbs).length c] 34)).alloc (.cells #[.bool m, .slice A' (dg zb.natAbs).length c'] 34)).alloc (.cells #[.bool false, .slice none 0 0] 34)) := by (repeat' (first | (with_reducible exact Below.refl _ _) | (refine Below.trans ?_ (Below.mono (by with_reducible assumption) ?_)) | (with_reducible exact Below.refl _ _) | (with_reducible refine below_drewN ?_ _) | (with_reducible refine Below.drew ?_) | (with_reducible refine Below.setCell ?_ ?_ _) | (with_reducible refine Below.alloc ?_ ?_ _) | (with_reducible assumption) | (simp; done) | (simp; omega) | omega))
  have HA := Lib.hid (h.below (q.trans (hw3.mono q.size))); have HB := Lib.hid (h'.below (q.trans (hw3.mono q.size)))
  have TR := Lib.hid (fun W qq => rtrunc_d (z := zb) hm A' c' HB.out.2.1 hl' _ W HB.out.1 qq)
  have SM := Lib.hid (fun A2 c2 w5 p5 (hd : DS1 w5 A2 c2 zb.natAbs) W qq => same_e (n := zn zb) (m := m) (b := true) (W1 := w5) (W := W) hd (HB.out.below p5) (by omega) (by omega) (by rw [hm]; exact hb) qq)
  have WH := Lib.hid (fun w5 (hd : DS1 w5 A' c' zb.natAbs) W qq => rwhole_d (z := zb) hm A' c' hd.2.1 w5 W hd.1 qq)
  have HW3 := Lib.hid hw3; have HLA := Lib.hid hl; have HNN := Lib.hid hn; have HMM := Lib.hid hm; have HC := Lib.hid hcas
  have HNV : ∀ (w : World) v, NV w w.heap.size v (truncZ zb) → ∃ A c, v = .agg #[.bool (zn zb), .slice A (dg zb.natAbs).length c] ∧ DS1 w A c zb.natAbs := by
    intro w v h
    rw [ht] at h
    exact h.ds
  have HNV := Lib.hid HNV
  obtain ⟨lm, hlm⟩ : ∃ lm, lm = (dg zb.natAbs).length := ⟨_, rfl⟩
  obtain ⟨la, hla⟩ : ∃ la, la = (dg za.natAbs).length := ⟨_, rfl⟩
  rw [← hlm] at TR SM WH HNV
  rw [← hla] at TR SM HC
  rw [← hlm, ← hla] at HA HB HW3 ⊢
  have HLAE := Lib.hid hla
  have HTT := Lib.hid ht
  clear hb hw3 h h' hl hl' ht q hlm hla hm hn hcas hA
  go_enter Try.func17, Try.ntmps17
  go_upto_region 1 with fail
  obtain ⟨w3, hw3⟩ : ∃ x, x = (((w.alloc (.cells #[.bool n, .slice A la c] 34)).alloc (.cells #[.bool m, .slice A' lm c'] 34)).alloc (.cells #[.bool false, .slice none 0 0] 34)) := ⟨_, rfl⟩; rw [← hw3]
  have ya_0 : Hid (BoxN w3 w.heap.size n (.slice A la c)) := Lib.hid (by rw [hw3]; exact ((BoxN.make w n (.slice A la c) rfl).alloc _).alloc _)
  have yb_0 : Hid (BoxN w3 (w.heap.size + 1) m (.slice A' lm c')) := Lib.hid (by rw [hw3]; exact (BoxN.make _ m (.slice A' lm c') (by simp)).alloc _)
  have yr_0 : Hid (BoxN w3 (w.heap.size + 1 + 1) false (.slice none 0 0)) := Lib.hid (by rw [hw3]; exact BoxN.make _ false (.slice none 0 0) (by simp))
  rw [← hw3] at TR SM HW3 HA HB
  clear hw3
  have ya_3 := Lib.hid (ya_0.out); have ya_30 := ya_3.out.c0; have ya_31 := ya_3.out.c1; have ya_32 := ya_3.out.f0; have ya_33 := ya_3.out.f1; have ya_3z := ya_3.out.z
  have yb_3 := Lib.hid (yb_0.out); have yb_30 := yb_3.out.c0; have yb_31 := yb_3.out.c1; have yb_32 := yb_3.out.f0; have yb_33 := yb_3.out.f1; have yb_3z := yb_3.out.z
  have yr_3 := Lib.hid (yr_0.out); have yr_30 := yr_3.out.c0; have yr_31 := yr_3.out.c1; have yr_32 := yr_3.out.f0; have yr_33 := yr_3.out.f1; have yr_3z := yr_3.out.z
  clear ya_0 yb_0 yr_0
  go_region_held3 (fun w' => w'.cell? ⟨w.heap.size + 1, 0, none⟩ = some (.bool m) ∧ w'.cell? ⟨w.heap.size + 1, 1, none⟩ = some ((.slice A' lm c'))) ((and_intros <;> (first | (with_reducible assumption) | (go_simp; done) | (simp (maxDischargeDepth := 12) [go_sem]; done) | (simp (maxDischargeDepth := 12) [go_sem, *]; done) | exact (Below.cell (by with_reducible assumption) (by first | (simp; done) | (simp; omega) | omega)).trans (by simp (maxDischargeDepth := 12) [go_sem]))))
    (first
      | (go_at_call 53; (with_reducible refine (TR.out _ (by repeat' (first | (with_reducible exact Below.refl _ _) | (with_reducible assumption) | (with_reducible refine Below.drew ?_) | (with_reducible refine below_drewN ?_ _) | (with_reducible refine Below.alloc ?_ ?_ _) | (with_reducible exact Nat.le_refl _) | (simp; done) | (simp; omega)))).mono ?_); rintro e w4 ⟨⟨v, rfl, hv⟩, b4⟩; have p4 : Below w3.heap.size w3 w4 := Below.trans (by repeat' (first | (with_reducible assumption) | (with_reducible exact Below.refl _ _) | (with_reducible refine Below.drew ?_) | (with_reducible refine below_drewN ?_ _) | (with_reducible refine Below.alloc ?_ ?_ _) | (with_reducible exact Nat.le_refl _) | (simp; done) | (simp; omega) | omega)) (Below.mono b4 (by first | omega | (simp; done) | (simp; omega))); have ya_4 := Lib.hid (BoxN.below ya_3.out p4); have ya_40 := ya_4.out.c0; have ya_41 := ya_4.out.c1; have ya_42 := ya_4.out.f0; have ya_43 := ya_4.out.f1; have ya_4z := ya_4.out.z; have yb_4 := Lib.hid (BoxN.below yb_3.out p4); have yb_40 := yb_4.out.c0; have yb_41 := yb_4.out.c1; have yb_42 := yb_4.out.f0; have yb_43 := yb_4.out.f1; have yb_4z := yb_4.out.z; have yr_4 := Lib.hid (BoxN.below yr_3.out p4); have yr_40 := yr_4.out.c0; have yr_41 := yr_4.out.c1; have yr_42 := yr_4.out.f0; have yr_43 := yr_4.out.f1; have yr_4z := yr_4.out.z; obtain ⟨A4, c4, rfl, hd4⟩ := HNV.out _ _ hv; have HD4 := Lib.hid hd4; clear hv hd4)
      | (go_at_call 38; (with_reducible refine (SM.out _ _ _ p4 HD4.out _ (by repeat' (first | (with_reducible exact Below.refl _ _) | (with_reducible assumption) | (with_reducible refine Below.drew ?_) | (with_reducible refine below_drewN ?_ _) | (with_reducible refine Below.alloc ?_ ?_ _) | (with_reducible exact Nat.le_refl _) | (simp; done) | (simp; omega)))).mono ?_); rintro e w5 ⟨rfl, b5⟩; have p5 : Below w4.heap.size w4 w5 := Below.trans (by repeat' (first | (with_reducible assumption) | (with_reducible exact Below.refl _ _) | (with_reducible refine Below.drew ?_) | (with_reducible refine below_drewN ?_ _) | (with_reducible refine Below.alloc ?_ ?_ _) | (with_reducible exact Nat.le_refl _) | (simp; done) | (simp; omega) | omega)) (Below.mono b5 (by first | omega | (simp; done) | (simp; omega))); have ya_5 := Lib.hid (BoxN.below ya_4.out p5); have ya_50 := ya_5.out.c0; have ya_51 := ya_5.out.c1; have ya_52 := ya_5.out.f0; have ya_53 := ya_5.out.f1; have ya_5z := ya_5.out.z; have yb_5 := Lib.hid (BoxN.below yb_4.out p5); have yb_50 := yb_5.out.c0; have yb_51 := yb_5.out.c1; have yb_52 := yb_5.out.f0; have yb_53 := yb_5.out.f1; have yb_5z := yb_5.out.z; have yr_5 := Lib.hid (BoxN.below yr_4.out p5); have yr_50 := yr_5.out.c0; have yr_51 := yr_5.out.c1; have yr_52 := yr_5.out.f0; have yr_53 := yr_5.out.f1; have yr_5z := yr_5.out.z))
  have HA5 := Lib.hid ((HA.out.below p4).below p5); have HB5 := Lib.hid ((HB.out.below p4).below p5)
  have HW5 := Lib.hid (HW3.out.trans ((p4.trans (p5.mono p4.size)).mono HW3.out.size))
  clear ya_3 ya_30 ya_31 ya_32 ya_3z ya_33 yb_3 yb_30 yb_31 yb_32 yb_3z yb_33 yr_3 yr_30 yr_31 yr_32 yr_3z yr_33 ya_4 ya_40 ya_41 ya_42 ya_4z ya_43 yb_4 yb_40 yb_41 yb_42 yb_4z yb_43 yr_4 yr_40 yr_41 yr_42 yr_4z yr_43
  clear b4 b5 p4 p5 TR SM HNV HA HB HW3 HD4
  go_upto_region 3 with fail
  go_cut [26] from 13 to 32 (fun x wx => x = .bool false ∧ w5.heap.size ≤ wx.heap.size ∧ Hid (Below w5.heap.size w5 wx))
  case first =>
    rcases HC.out with h1 | ⟨h1, rfl⟩
    all_goals
      go_wp2_with fail
      go_meet
      exact ⟨rfl, by simp, Lib.hid (by (repeat' (first | (with_reducible exact Below.refl _ _) | (refine Below.trans ?_ (Below.mono (by with_reducible assumption) ?_)) | (with_reducible exact Below.refl _ _) | (with_reducible refine below_drewN ?_ _) | (with_reducible refine Below.drew ?_) | (with_reducible refine Below.setCell ?_ ?_ _) | (with_reducible refine Below.alloc ?_ ?_ _) | (with_reducible assumption) | (simp; done) | (simp; omega) | omega)))⟩
  case rest =>
  obtain ⟨w6, rfl⟩ : ∃ x, x = wc := ⟨_, rfl⟩
  obtain ⟨rfl, hz6, hB6⟩ := hcut
  have p6 := hB6.out
  have ya_6 := Lib.hid (BoxN.below ya_5.out p6); have ya_60 := ya_6.out.c0; have ya_61 := ya_6.out.c1; have ya_62 := ya_6.out.f0; have ya_63 := ya_6.out.f1; have ya_6z := ya_6.out.z; have yb_6 := Lib.hid (BoxN.below yb_5.out p6); have yb_60 := yb_6.out.c0; have yb_61 := yb_6.out.c1; have yb_62 := yb_6.out.f0; have yb_63 := yb_6.out.f1; have yb_6z := yb_6.out.z; have yr_6 := Lib.hid (BoxN.below yr_5.out p6); have yr_60 := yr_6.out.c0; have yr_61 := yr_6.out.c1; have yr_62 := yr_6.out.f0; have yr_63 := yr_6.out.f1; have yr_6z := yr_6.out.z
  have HA6 := Lib.hid (HA5.out.below p6); have HB6 := Lib.hid (HB5.out.below p6)
  have HW6 := Lib.hid (HW5.out.trans (p6.mono HW5.out.size))
  clear ya_5 ya_50 ya_51 ya_52 ya_5z ya_53 yb_5 yb_50 yb_51 yb_52 yb_5z yb_53 yr_5 yr_50 yr_51 yr_52 yr_5z yr_53
  clear p6 hB6 hz6 HA5 HB5 HW5 HC
  go_upto_region 6 with (first | (go_at_call 54; (with_reducible refine (WH.out w6 HB6.out _ (by repeat' (first | (with_reducible exact Below.refl _ _) | (with_reducible assumption) | (with_reducible refine Below.drew ?_) | (with_reducible refine below_drewN ?_ _) | (with_reducible refine Below.alloc ?_ ?_ _) | (with_reducible exact Nat.le_refl _) | (simp; done) | (simp; omega)))).mono ?_); rintro e w7 ⟨rfl, b7⟩; have p7 : Below w6.heap.size w6 w7 := Below.trans (by repeat' (first | (with_reducible assumption) | (with_reducible exact Below.refl _ _) | (with_reducible refine Below.drew ?_) | (with_reducible refine below_drewN ?_ _) | (with_reducible refine Below.alloc ?_ ?_ _) | (with_reducible exact Nat.le_refl _) | (simp; done) | (simp; omega) | omega)) (Below.mono b7 (by first | omega | (simp; done) | (simp; omega))); have ya_7 := Lib.hid (BoxN.below ya_6.out p7); have ya_70 := ya_7.out.c0; have ya_71 := ya_7.out.c1; have ya_72 := ya_7.out.f0; have ya_73 := ya_7.out.f1; have ya_7z := ya_7.out.z; have yr_7 := Lib.hid (BoxN.below yr_6.out p7); have yr_70 := yr_7.out.c0; have yr_71 := yr_7.out.c1; have yr_72 := yr_7.out.f0; have yr_73 := yr_7.out.f1; have yr_7z := yr_7.out.z))
  have HA7 := Lib.hid (HA6.out.below p7)
  have HW7 := Lib.hid (HW6.out.trans (p7.mono HW6.out.size))
  clear ya_6 ya_60 ya_61 ya_62 ya_6z ya_63 yb_6 yb_60 yb_61 yb_62 yb_6z yb_63 yr_6 yr_60 yr_61 yr_62 yr_6z yr_63
  clear b7 p7 HA6 HB6 HW6 WH
  by_cases hr : -1000 ≤ zb.tdiv 1000000 ∧ zb.tdiv 1000000 ≤ 1000
  · have hk : kz zb = zb.tdiv 1000000 := by unfold kz; rw [if_pos (by omega)]
    have ho : okz zb = true := by unfold okz; rw [decide_eq_true (by omega)]
    rw [hk, ho]
    obtain ⟨k, hkk⟩ : ∃ k, k = zb.tdiv 1000000 := ⟨_, rfl⟩
    have hk1 : -1000 ≤ k := by rw [hkk]; exact hr.1
    have hk2 : k ≤ 1000 := by rw [hkk]; exact hr.2
    rw [← hkk]
    have HKK := Lib.hid hkk; have HRR := Lib.hid hr
    clear hk ho hkk hr
    go_upto_block 0 with fail
    obtain ⟨K, hK⟩ : ∃ K : Nat, K = k.natAbs := ⟨_, rfl⟩
    have hw8 : PWR w n A la c za.natAbs (w7.heap.size + 1) (w7.heap.size + 1 + 1) 1000000 (((w7.alloc (.cells #[.int .i64 0, .int .i64 0, .int .i64 0, .int .i64 0, .int .i64 0, .int .i64 0, .int .i64 1] 3)).alloc (.cells #[.bool false, .slice (some ⟨w7.heap.size, 0, none⟩) 7 7] 34)).alloc (.cells #[.bool false, .slice (some ⟨w7.heap.size, 0, none⟩) 7 7] 34)) := by
      have d7 := ds_million w7
      have hw := HW7.out.size
      have hz7 := yr_7z
      refine ⟨((ya_7.out.alloc' _).alloc' _).alloc' _, ((HA7.out.alloc _).alloc _).alloc _, ((yr_7.out.alloc' _).alloc' _).alloc' _, ⟨_, _, (BoxN.make _ false _ (by simp)).alloc' _, (d7.alloc _).alloc _⟩, ⟨_, _, ?_, (d7.alloc _).alloc _⟩, ?_, by omega, by omega⟩
      · have := BoxN.make ((w7.alloc (.cells #[.int .i64 0, .int .i64 0, .int .i64 0, .int .i64 0, .int .i64 0, .int .i64 0, .int .i64 1] 3)).alloc (.cells #[.bool false, .slice (some ⟨w7.heap.size, 0, none⟩) 7 7] 34)) false (.slice (some ⟨w7.heap.size, 0, none⟩) 7 7) (g := w7.heap.size + 1 + 1) (by simp)
        exact this
      · exact ((HW7.out.alloc hw _).alloc (by simp; omega) _).alloc (by simp; omega) _
    have HK := Lib.hid hK
    have HPW := Lib.hid hw8
    clear hK hw8
    obtain ⟨w8, hw8⟩ : ∃ x, x = (((w7.alloc (.cells #[.int .i64 0, .int .i64 0, .int .i64 0, .int .i64 0, .int .i64 0, .int .i64 0, .int .i64 1] 3)).alloc (.cells #[.bool false, .slice (some ⟨w7.heap.size, 0, none⟩) 7 7] 34)).alloc (.cells #[.bool false, .slice (some ⟨w7.heap.size, 0, none⟩) 7 7] 34)) := ⟨_, rfl⟩
    rw [← hw8] at HPW ⊢
    clear hw8
    obtain ⟨g1, hg1⟩ : ∃ g, g = w7.heap.size + 1 := ⟨_, rfl⟩
    rw [← hg1] at HPW ⊢
    clear hg1 HA7 HW7
    clear ya_7 ya_70 ya_71 ya_72 ya_7z ya_73 yr_7 yr_70 yr_71 yr_72 yr_7z yr_73
    go_wp2_with fail
    go_loopw [10] (fun i wr => ∃ (j : Nat) (p : Int), j ≤ K ∧ i = .int .i64 (j : Int) ∧ Hid (powS za j = some p ∧ (p.natAbs : Int) < LIM) ∧ Hid (PWR w n A la c za.natAbs g1 (g1 + 1) p wr)) (fun i _ => K - (intOf i).toNat)
    case atStart => exact ⟨0, 1000000, Nat.zero_le _, rfl, Lib.hid ⟨rfl, by decide⟩, HPW⟩
    case round =>
      obtain ⟨j, p, hj, rfl, HS, HP⟩ := hrel
      obtain ⟨w9, rfl⟩ : ∃ x, x = wr := ⟨_, rfl⟩
      obtain ⟨A2, c2, b2, d2⟩ := HP.out.yp
      have yp_9 := Lib.hid (b2); have yp_90 := yp_9.out.c0; have yp_91 := yp_9.out.c1; have yp_92 := yp_9.out.f0; have yp_93 := yp_9.out.f1; have yp_9z := yp_9.out.z
      have ya_9 := Lib.hid (HP.out.ya); have ya_90 := ya_9.out.c0; have ya_91 := ya_9.out.c1; have ya_92 := ya_9.out.f0; have ya_93 := ya_9.out.f1; have ya_9z := ya_9.out.z
      have yr_9 := Lib.hid (HP.out.yr); have yr_90 := yr_9.out.c0; have yr_91 := yr_9.out.c1; have yr_92 := yr_9.out.f0; have yr_93 := yr_9.out.f1; have yr_9z := yr_9.out.z
      have HD2 := Lib.hid d2
      clear b2 d2
      by_cases hlt : j < K
      · have hcond : (j : Int) < k ∨ (¬ (j : Int) < k ∧ (j : Int) < -k) := by have := HK.out; omega
        have hpl := HS.out.2
        have hsj := HS.out.1
        have RM0 := fun W qq => rmul_d (za := p) (zb := za) (n := zn p) (m := n) rfl HNN.out w9 W HD2.out HP.out.da (len36 hpl) HLA.out qq
        rw [← HLAE.out] at RM0
        by_cases hq : (((mulZ p za).natAbs : Nat) : Int) < LIM
        · rw [show heldZ (mulZ p za) = mulZ p za by unfold heldZ; rw [if_pos hq], show heldC (mulZ p za) = 0 by unfold heldC; rw [if_pos hq]] at RM0
          have RM := Lib.hid RM0
          have HN := Lib.hid (show powS za (j + 1) = some (mulZ p za) ∧ (((mulZ p za).natAbs : Nat) : Int) < LIM from ⟨by simp only [powS, hsj, if_pos hq], hq⟩)
          clear RM0 hq hpl hsj
          rcases hcond with hc1 | ⟨hc1, hc2⟩
          all_goals
            go_wp2_with (first | (go_at_call 55; (with_reducible refine (RM.out _ (by repeat' (first | (with_reducible exact Below.refl _ _) | (with_reducible assumption) | (with_reducible refine Below.drew ?_) | (with_reducible refine below_drewN ?_ _) | (with_reducible refine Below.alloc ?_ ?_ _) | (with_reducible exact Nat.le_refl _) | (simp; done) | (simp; omega)))).mono ?_); rintro e w10 ⟨⟨A5, c5, rfl, hd5⟩, b10⟩; have p10 : Below w9.heap.size w9 w10 := Below.trans (by repeat' (first | (with_reducible assumption) | (with_reducible exact Below.refl _ _) | (with_reducible refine Below.drew ?_) | (with_reducible refine below_drewN ?_ _) | (with_reducible refine Below.alloc ?_ ?_ _) | (with_reducible exact Nat.le_refl _) | (simp; done) | (simp; omega) | omega)) (Below.mono b10 (by first | omega | (simp; done) | (simp; omega))); have ya_10 := Lib.hid (BoxN.below ya_9.out p10); have ya_100 := ya_10.out.c0; have ya_101 := ya_10.out.c1; have ya_102 := ya_10.out.f0; have ya_103 := ya_10.out.f1; have ya_10z := ya_10.out.z; have yp_10 := Lib.hid (BoxN.below yp_9.out p10); have yp_100 := yp_10.out.c0; have yp_101 := yp_10.out.c1; have yp_102 := yp_10.out.f0; have yp_103 := yp_10.out.f1; have yp_10z := yp_10.out.z; have yr_10 := Lib.hid (BoxN.below yr_9.out p10); have yr_100 := yr_10.out.c0; have yr_101 := yr_10.out.c1; have yr_102 := yr_10.out.f0; have yr_103 := yr_10.out.f1; have yr_10z := yr_10.out.z; have HD5 := Lib.hid hd5; have HNX := Lib.hid (HP.out.below p10); clear hd5))
            go_roundw
            case rel => exact ⟨j + 1, mulZ p za, by omega, by go_num, HN, Lib.hid ((HNX.out.set HD5.out).below ((Below.refl _ _).alloc (Nat.le_refl _) _))⟩
            case measure => simp [intOf]; omega
        · rw [show heldZ (mulZ p za) = 0 by unfold heldZ; rw [if_neg hq], show heldC (mulZ p za) = 2 by unfold heldC; rw [if_neg hq]] at RM0
          have RM := Lib.hid RM0
          have HNO := Lib.hid (show powS za (j + 1) = none by simp only [powS, hsj, if_neg hq])
          clear RM0 hq hpl hsj
          rcases hcond with hc1 | ⟨hc1, hc2⟩
          all_goals
            go_wp2_with (first | (go_at_call 55; (with_reducible refine (RM.out _ (by repeat' (first | (with_reducible exact Below.refl _ _) | (with_reducible assumption) | (with_reducible refine Below.drew ?_) | (with_reducible refine below_drewN ?_ _) | (with_reducible refine Below.alloc ?_ ?_ _) | (with_reducible exact Nat.le_refl _) | (simp; done) | (simp; omega)))).mono ?_); rintro e w10 ⟨⟨A5, c5, rfl, hd5⟩, b10⟩; have p10 : Below w9.heap.size w9 w10 := Below.trans (by repeat' (first | (with_reducible assumption) | (with_reducible exact Below.refl _ _) | (with_reducible refine Below.drew ?_) | (with_reducible refine below_drewN ?_ _) | (with_reducible refine Below.alloc ?_ ?_ _) | (with_reducible exact Nat.le_refl _) | (simp; done) | (simp; omega) | omega)) (Below.mono b10 (by first | omega | (simp; done) | (simp; omega))); have ya_10 := Lib.hid (BoxN.below ya_9.out p10); have ya_100 := ya_10.out.c0; have ya_101 := ya_10.out.c1; have ya_102 := ya_10.out.f0; have ya_103 := ya_10.out.f1; have ya_10z := ya_10.out.z; have yp_10 := Lib.hid (BoxN.below yp_9.out p10); have yp_100 := yp_10.out.c0; have yp_101 := yp_10.out.c1; have yp_102 := yp_10.out.f0; have yp_103 := yp_10.out.f1; have yp_10z := yp_10.out.z; have yr_10 := Lib.hid (BoxN.below yr_9.out p10); have yr_100 := yr_10.out.c0; have yr_101 := yr_10.out.c1; have yr_102 := yr_10.out.f0; have yr_103 := yr_10.out.f1; have yr_10z := yr_10.out.z; clear hd5))
            (try simp only [Exit.inBlock, Exit.then]); refine bodyPost_ret (by simp [results, Try.results17, go_sem, *]; try rfl) rfl ?_
            refine ⟨?_, by refine HP.out.bel.trans ?_; (repeat' (first | (with_reducible exact Below.refl _ _) | (refine Below.trans ?_ (Below.mono (by with_reducible assumption) ?_)) | (with_reducible exact Below.refl _ _) | (with_reducible refine below_drewN ?_ _) | (with_reducible refine Below.drew ?_) | (with_reducible refine Below.setCell ?_ ?_ _) | (with_reducible refine Below.alloc ?_ ?_ _) | (with_reducible assumption) | (simp; done) | (simp; omega) | omega))⟩
            unfold PowQ
            rw [if_pos HRR.out, ← HKK.out, ← HK.out, powS_none HNO.out (by omega)]
            exact PowE.nought _ 2
      · have hc1 : ¬ (j : Int) < k := by have := HK.out; omega
        have hc2 : ¬ (j : Int) < -k := by have := HK.out; omega
        have HJ := Lib.hid (show powS za k.natAbs = some p by have := HK.out; have e : j = k.natAbs := by omega
                                                              rw [← e]; exact HS.out.1)
        have HPL := Lib.hid HS.out.2
        clear HS
        by_cases hneg : k < 0
        · have hzb : zb < 0 := by
            have := HKK.out
            by_cases h0 : 0 ≤ zb
            · have := Int.tdiv_nonneg h0 (show (0 : Int) ≤ 1000000 by decide); omega
            · omega
          obtain ⟨A1, c1, b1, d1⟩ := HP.out.yo
          have yo_9 := Lib.hid (b1); have yo_90 := yo_9.out.c0; have yo_91 := yo_9.out.c1; have yo_92 := yo_9.out.f0; have yo_93 := yo_9.out.f1; have yo_9z := yo_9.out.z
          have HD1 := Lib.hid d1
          clear b1 d1
          have HB9 := Lib.hid HP.out.bel
          by_cases hp0 : p = 0
          · have hpost : ∀ w', PowQ za zb w' (.returned (.tuple #[.agg #[.bool false, .slice none 0 0], .int .i64 3])) := fun w' => by
              unfold PowQ
              rw [if_pos HRR.out, ← HKK.out, HJ.out]
              simp only [if_pos hzb, if_pos hp0]
              exact PowE.nought _ 3
            have HPO := Lib.hid hpost
            have DZ := Lib.hid (fun W => rdiv_nought (n := false) (m := zn p) (A := A1) (A' := A2) (l := 7) (l2 := (dg p.natAbs).length) (c := c1) (c' := c2) (by rw [hp0]; rfl) W)
            clear hpost hp0 hzb HJ HRR HK HPL HD1
            clear ya_9 ya_90 ya_91 ya_92 ya_9z ya_93
            clear HP
            go_wp2_with (first | (go_at_call 56; (with_reducible refine (DZ.out _).mono ?_); rintro e w10 ⟨rfl, b10⟩; have p10 : Below w9.heap.size w9 w10 := Below.trans (by repeat' (first | (with_reducible assumption) | (with_reducible exact Below.refl _ _) | (with_reducible refine Below.drew ?_) | (with_reducible refine below_drewN ?_ _) | (with_reducible refine Below.alloc ?_ ?_ _) | (with_reducible exact Nat.le_refl _) | (simp; done) | (simp; omega) | omega)) (Below.mono b10 (by first | omega | (simp; done) | (simp; omega))); have yr_10 := Lib.hid (BoxN.below yr_9.out p10); have yr_100 := yr_10.out.c0; have yr_101 := yr_10.out.c1; have yr_102 := yr_10.out.f0; have yr_103 := yr_10.out.f1; have yr_10z := yr_10.out.z))
            (try simp only [Exit.inBlock, Exit.then]); refine bodyPost_ret (by simp [results, Try.results17, go_sem, *]; try rfl) rfl ?_
            exact ⟨HPO.out _, by refine HB9.out.trans ?_; (repeat' (first | (with_reducible exact Below.refl _ _) | (refine Below.trans ?_ (Below.mono (by with_reducible assumption) ?_)) | (with_reducible exact Below.refl _ _) | (with_reducible refine below_drewN ?_ _) | (with_reducible refine Below.drew ?_) | (with_reducible refine Below.setCell ?_ ?_ _) | (with_reducible refine Below.alloc ?_ ?_ _) | (with_reducible assumption) | (simp; done) | (simp; omega) | omega))⟩
          · have hpost : ∀ w' A5 c5, DS1 w' A5 c5 (heldZ (divZ 1000000 p)).natAbs → PowQ za zb w' (.returned (.tuple #[.agg #[.bool (zn (heldZ (divZ 1000000 p))), .slice A5 (dg (heldZ (divZ 1000000 p)).natAbs).length c5], .int .i64 (heldC (divZ 1000000 p))])) := fun w' A5 c5 d => by
              unfold PowQ
              rw [if_pos HRR.out, ← HKK.out, HJ.out]
              simp only [if_pos hzb, if_neg hp0]
              exact ⟨A5, c5, rfl, d⟩
            have HPO := Lib.hid hpost
            obtain ⟨z5, hz5⟩ : ∃ z, z = heldZ (divZ 1000000 p) := ⟨_, rfl⟩
            obtain ⟨x5, hx5⟩ : ∃ z, z = heldC (divZ 1000000 p) := ⟨_, rfl⟩
            have RD := Lib.hid (fun W qq => rdiv_one hp0 (len36 HPL.out) w9 W HD1.out HD2.out hz5 hx5 qq)
            rw [← hz5, ← hx5] at HPO
            clear hpost hp0 hzb HJ HRR HK HPL hz5 hx5
            clear ya_9 ya_90 ya_91 ya_92 ya_9z ya_93
            clear HP
            go_wp2_with (first | (go_at_call 56; (with_reducible refine (RD.out _ (by repeat' (first | (with_reducible exact Below.refl _ _) | (with_reducible assumption) | (with_reducible refine Below.drew ?_) | (with_reducible refine below_drewN ?_ _) | (with_reducible refine Below.alloc ?_ ?_ _) | (with_reducible exact Nat.le_refl _) | (simp; done) | (simp; omega)))).mono ?_); rintro e w10 ⟨⟨A5, c5, rfl, hd5⟩, b10⟩; have p10 : Below w9.heap.size w9 w10 := Below.trans (by repeat' (first | (with_reducible assumption) | (with_reducible exact Below.refl _ _) | (with_reducible refine Below.drew ?_) | (with_reducible refine below_drewN ?_ _) | (with_reducible refine Below.alloc ?_ ?_ _) | (with_reducible exact Nat.le_refl _) | (simp; done) | (simp; omega) | omega)) (Below.mono b10 (by first | omega | (simp; done) | (simp; omega))); have yr_10 := Lib.hid (BoxN.below yr_9.out p10); have yr_100 := yr_10.out.c0; have yr_101 := yr_10.out.c1; have yr_102 := yr_10.out.f0; have yr_103 := yr_10.out.f1; have yr_10z := yr_10.out.z; have HD5 := Lib.hid hd5; clear hd5))
            (try simp only [Exit.inBlock, Exit.then]); refine bodyPost_ret (by simp [results, Try.results17, go_sem, *]; try rfl) rfl ?_
            exact ⟨HPO.out _ _ _ (HD5.out.box yr_10.out), by refine HB9.out.trans ?_; (repeat' (first | (with_reducible exact Below.refl _ _) | (refine Below.trans ?_ (Below.mono (by with_reducible assumption) ?_)) | (with_reducible exact Below.refl _ _) | (with_reducible refine below_drewN ?_ _) | (with_reducible refine Below.drew ?_) | (with_reducible refine Below.setCell ?_ ?_ _) | (with_reducible refine Below.alloc ?_ ?_ _) | (with_reducible assumption) | (simp; done) | (simp; omega) | omega))⟩
        · have hzb : ¬ zb < 0 := by
            intro h
            have h1 := HTT.out
            unfold truncZ at h1
            have := HKK.out
            omega
          have hpost : ∀ w' A5 c5, DS1 w' A5 c5 p.natAbs → PowQ za zb w' (.returned (.tuple #[.agg #[.bool (zn p), .slice A5 (dg p.natAbs).length c5], .int .i64 0])) := fun w' A5 c5 d => by
            unfold PowQ
            rw [if_pos HRR.out, ← HKK.out, HJ.out]
            simp only [if_neg hzb]
            exact ⟨A5, c5, rfl, d⟩
          have HPO := Lib.hid hpost
          have HB9 := Lib.hid HP.out.bel
          clear hpost hzb HJ HRR HK HPL
          clear ya_9 ya_90 ya_91 ya_92 ya_9z ya_93
          clear HP
          go_wp2_with fail
          (try simp only [Exit.inBlock, Exit.then]); refine bodyPost_ret (by simp [results, Try.results17, go_sem, *]; try rfl) rfl ?_
          exact ⟨HPO.out _ _ _ (HD2.out.box yr_9.out), by refine HB9.out.trans ?_; (repeat' (first | (with_reducible exact Below.refl _ _) | (refine Below.trans ?_ (Below.mono (by with_reducible assumption) ?_)) | (with_reducible exact Below.refl _ _) | (with_reducible refine below_drewN ?_ _) | (with_reducible refine Below.drew ?_) | (with_reducible refine Below.setCell ?_ ?_ _) | (with_reducible refine Below.alloc ?_ ?_ _) | (with_reducible assumption) | (simp; done) | (simp; omega) | omega))⟩
  · have hcas : okz zb = false ∨ (okz zb = true ∧ 1000 < kz zb) ∨ (okz zb = true ∧ kz zb < -1000) := by
      by_cases hin : -9223372036854775808 ≤ zb.tdiv 1000000 ∧ zb.tdiv 1000000 < 9223372036854775808
      · right
        have e1 : okz zb = true := by unfold okz; rw [decide_eq_true hin]
        have e2 : kz zb = zb.tdiv 1000000 := by unfold kz; rw [if_pos hin]
        rw [e1, e2]
        rcases (show 1000 < zb.tdiv 1000000 ∨ zb.tdiv 1000000 < -1000 by omega) with h | h
        · exact .inl ⟨rfl, h⟩
        · exact .inr ⟨rfl, h⟩
      · left; unfold okz; rw [decide_eq_false hin]
    have hpost : ∀ w', PowQ za zb w' (.returned (.tuple #[.agg #[.bool false, .slice none 0 0], .int .i64 2])) := fun w' => by unfold PowQ; rw [if_neg hr]; exact PowE.nought _ 2
    have HPO := Lib.hid hpost
    generalize okz zb = O at *
    generalize kz zb = k at *
    clear hpost hr
    rcases hcas with rfl | ⟨rfl, hk⟩ | ⟨rfl, hk⟩
    all_goals
      go_wp2_with fail
      (try simp only [Exit.inBlock, Exit.then]); refine bodyPost_ret (by simp [results, Try.results17, go_sem, *]; try rfl) rfl ?_
      exact ⟨HPO.out _, by refine HW7.out.trans ?_; (repeat' (first | (with_reducible exact Below.refl _ _) | (refine Below.trans ?_ (Below.mono (by with_reducible assumption) ?_)) | (with_reducible exact Below.refl _ _) | (with_reducible refine below_drewN ?_ _) | (with_reducible refine Below.drew ?_) | (with_reducible refine Below.setCell ?_ ?_ _) | (with_reducible refine Below.alloc ?_ ?_ _) | (with_reducible assumption) | (simp; done) | (simp; omega) | omega))⟩
end Go.Proofs.Ytkhhjibpppmekaa
