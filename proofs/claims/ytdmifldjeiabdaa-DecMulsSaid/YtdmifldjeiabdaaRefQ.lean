/- fieldfareref01: Add. -/
import Derived.Test.YtdmifldjeiabdaaRefP
namespace Go.Proofs.Ytdmifldjeiabdaa
open Go.RowKit
theorem BoxN.set2 {w : World} {g : Nat} {n m : Bool} {A A' : Option Addr} {l l' c c' : Nat} (b : BoxN w g n (.slice A l c)) : BoxN ((w.setCell ⟨g, 0, none⟩ (.bool m)).setCell ⟨g, 1, none⟩ (.slice A' l' c')) g m (.slice A' l' c') := b.set
/-- The sign and the magnitude of a sum. -/
theorem add_same_zn {za zb : Int} (h : zn za = zn zb) : (zn za && decide (0 < za.natAbs + zb.natAbs)) = zn (za + zb) ∧ za.natAbs + zb.natAbs = (za + zb).natAbs := by
  unfold zn at h ⊢
  rw [decide_eq_decide] at h
  constructor
  · rw [Bool.eq_iff_iff, Bool.and_eq_true, decide_eq_true_eq, decide_eq_true_eq, decide_eq_true_eq]; omega
  · omega
theorem add_lt_zn {za zb : Int} (h : zn za ≠ zn zb) (hlt : za.natAbs < zb.natAbs) : (zn zb && decide (0 < zb.natAbs - za.natAbs)) = zn (za + zb) ∧ zb.natAbs - za.natAbs = (za + zb).natAbs := by
  unfold zn at h ⊢
  rw [Ne, decide_eq_decide] at h
  constructor
  · rw [Bool.eq_iff_iff, Bool.and_eq_true, decide_eq_true_eq, decide_eq_true_eq, decide_eq_true_eq]; omega
  · omega
theorem add_ge_zn {za zb : Int} (h : zn za ≠ zn zb) (hge : ¬ za.natAbs < zb.natAbs) : (zn za && decide (0 < za.natAbs - zb.natAbs)) = zn (za + zb) ∧ za.natAbs - zb.natAbs = (za + zb).natAbs := by
  unfold zn at h ⊢
  rw [Ne, decide_eq_decide] at h
  constructor
  · rw [Bool.eq_iff_iff, Bool.and_eq_true, decide_eq_true_eq, decide_eq_true_eq, decide_eq_true_eq]; omega
  · omega
set_option maxRecDepth 100000 in
set_option maxHeartbeats 1600000 in
theorem radd_same {n m : Bool} {A A' : Option Addr} {c c' N M : Nat} {z : Int} (w0 w : World) (h : DS1 w0 A c N) (h' : DS1 w0 A' c' M) (hl : (dg N).length ≤ 36) (hl' : (dg M).length ≤ 36) (q : Below w0.heap.size w0 w) (hnm : n = m) (hs : (n && decide (0 < N + M)) = zn z) (hK : N + M = z.natAbs) :
  Calls Try.prog 51 #[.agg #[.bool n, .slice A (dg N).length c], .agg #[.bool m, .slice A' (dg M).length c']] w fun e w' => (∃ A2 c2, e = .returned (.tuple #[.agg #[.bool (zn (heldZ z)), .slice A2 (dg (heldZ z).natAbs).length c2], .int .i64 (heldC z)]) ∧ DS1 w' A2 c2 (heldZ z).natAbs) ∧ Below w.heap.size w w' := by
  have hw3 : Below w.heap.size w ((((w.alloc (.cells #[.bool n, .slice A (dg N).length c] 43)).alloc (.cells #[.bool m, .slice A' (dg M).length c'] 43)).alloc (.cells #[.bool false, .slice none 0 0] 43)).alloc (.cells #[.bool false, .slice none 0 0] 43)) := by (repeat' (first | (with_reducible exact Below.refl _ _) | (refine Below.trans ?_ (Below.mono (by with_reducible assumption) ?_)) | (with_reducible exact Below.refl _ _) | (with_reducible refine below_drewN ?_ _) | (with_reducible refine Below.drew ?_) | (with_reducible refine Below.setCell ?_ ?_ _) | (with_reducible refine Below.alloc ?_ ?_ _) | (with_reducible assumption) | (simp; done) | (simp; omega) | omega))
  have SG0 := fun W A' c' => signed_any (n) A' c' (N + M) W
  rw [hs] at SG0
  have HA := Lib.hid (h.below (q.trans (hw3.mono q.size))); have HB := Lib.hid (h'.below (q.trans (hw3.mono q.size)))
  have SG := Lib.hid SG0; have HLN := Lib.hid hl; have HLM := Lib.hid hl'; have HW3 := Lib.hid hw3; have HKZ := Lib.hid hK
  obtain ⟨ln, hln⟩ : ∃ ln, ln = (dg N).length := ⟨_, rfl⟩
  obtain ⟨lm, hlm⟩ : ∃ lm, lm = (dg M).length := ⟨_, rfl⟩
  rw [← hln, ← hlm] at HA HB HW3 ⊢
  have TM := Lib.hid (fun W qq => plus_d HA.out HB.out (by have := HLN.out; have := HLM.out; omega) (by have := HLM.out; omega) qq (W := W))
  have LS := Lib.hid (fun W qq => less_d HA.out HB.out (W := W) (by have := HLN.out; omega) qq)
  rw [← hln, ← hlm] at TM LS
  subst hnm
  clear SG0 h h' hl hl' hw3 q hln hlm hK hs
  go_enter Try.func51, Try.ntmps51
  go_upto_region 3 with fail
  obtain ⟨w3, hw3⟩ : ∃ x, x = ((((w.alloc (.cells #[.bool n, .slice A ln c] 43)).alloc (.cells #[.bool n, .slice A' lm c'] 43)).alloc (.cells #[.bool false, .slice none 0 0] 43)).alloc (.cells #[.bool false, .slice none 0 0] 43)) := ⟨_, rfl⟩; rw [← hw3]
  have ya_3 : Hid (BoxN w3 w.heap.size n (.slice A ln c)) := Lib.hid (by rw [hw3]; exact (((BoxN.make w n (.slice A ln c) rfl).alloc _).alloc _).alloc _)
  have yb_3 : Hid (BoxN w3 (w.heap.size + 1) n (.slice A' lm c')) := Lib.hid (by rw [hw3]; exact ((BoxN.make _ n (.slice A' lm c') (by simp)).alloc _).alloc _)
  have yr_3 : Hid (BoxN w3 (w.heap.size + 1 + 1) false (.slice none 0 0)) := Lib.hid (by rw [hw3]; exact (BoxN.make _ false (.slice none 0 0) (by simp)).alloc _)
  have yx_3 : Hid (BoxN w3 (w.heap.size + 1 + 1 + 1) false (.slice none 0 0)) := Lib.hid (by rw [hw3]; exact BoxN.make _ false (.slice none 0 0) (by simp))
  rw [← hw3] at HA HB HW3 TM LS
  clear hw3
  have ya_4 := Lib.hid (ya_3.out); have ya_40 := ya_4.out.c0; have ya_41 := ya_4.out.c1; have ya_42 := ya_4.out.f0; have ya_43 := ya_4.out.f1; have ya_4z := ya_4.out.z
  have yb_4 := Lib.hid (yb_3.out); have yb_40 := yb_4.out.c0; have yb_41 := yb_4.out.c1; have yb_42 := yb_4.out.f0; have yb_43 := yb_4.out.f1; have yb_4z := yb_4.out.z
  have yr_4 := Lib.hid (yr_3.out); have yr_40 := yr_4.out.c0; have yr_41 := yr_4.out.c1; have yr_42 := yr_4.out.f0; have yr_43 := yr_4.out.f1; have yr_4z := yr_4.out.z
  have yx_4 := Lib.hid (yx_3.out); have yx_40 := yx_4.out.c0; have yx_41 := yx_4.out.c1; have yx_42 := yx_4.out.f0; have yx_43 := yx_4.out.f1; have yx_4z := yx_4.out.z
  clear ya_3 yb_3 yr_3 yx_3
  go_region_held3 (fun w' => w'.cell? ⟨w.heap.size, 0, none⟩ = some (.bool n) ∧ w'.cell? ⟨w.heap.size, 1, none⟩ = some ((.slice A ln c)) ∧ w'.cell? ⟨w.heap.size + 1, 0, none⟩ = some (.bool n) ∧ w'.cell? ⟨w.heap.size + 1, 1, none⟩ = some ((.slice A' lm c'))) ((and_intros <;> (first | (with_reducible assumption) | (go_simp; done) | (simp (maxDischargeDepth := 12) [go_sem]; done) | (simp (maxDischargeDepth := 12) [go_sem, *]; done) | exact (Below.cell (by with_reducible assumption) (by first | (simp; done) | (simp; omega) | omega)).trans (by simp (maxDischargeDepth := 12) [go_sem]))))
    (first
      | (go_at_call 75; (with_reducible refine (TM.out _ (by repeat' (first | (with_reducible exact Below.refl _ _) | (with_reducible refine Below.drew ?_) | (with_reducible refine below_drewN ?_ _)))).mono ?_); rintro e w5 ⟨⟨A5, c5, rfl, hd5⟩, b5⟩; have p5 : Below w3.heap.size w3 w5 := Below.trans (by repeat' (first | (with_reducible assumption) | (with_reducible exact Below.refl _ _) | (with_reducible refine Below.drew ?_) | (with_reducible refine below_drewN ?_ _) | (with_reducible refine Below.alloc ?_ ?_ _) | (with_reducible exact Nat.le_refl _) | (simp; done) | (simp; omega) | omega)) (Below.mono b5 (by first | omega | (simp; done) | (simp; omega))); have ya_5 := Lib.hid (BoxN.below ya_4.out p5); have ya_50 := ya_5.out.c0; have ya_51 := ya_5.out.c1; have ya_52 := ya_5.out.f0; have ya_53 := ya_5.out.f1; have ya_5z := ya_5.out.z; have yb_5 := Lib.hid (BoxN.below yb_4.out p5); have yb_50 := yb_5.out.c0; have yb_51 := yb_5.out.c1; have yb_52 := yb_5.out.f0; have yb_53 := yb_5.out.f1; have yb_5z := yb_5.out.z; have yr_5 := Lib.hid (BoxN.below yr_4.out p5); have yr_50 := yr_5.out.c0; have yr_51 := yr_5.out.c1; have yr_52 := yr_5.out.f0; have yr_53 := yr_5.out.f1; have yr_5z := yr_5.out.z; have yx_5 := Lib.hid (BoxN.below yx_4.out p5); have yx_50 := yx_5.out.c0; have yx_51 := yx_5.out.c1; have yx_52 := yx_5.out.f0; have yx_53 := yx_5.out.f1; have yx_5z := yx_5.out.z; have HD5 := Lib.hid hd5; clear hd5)
      | (go_at_call 68; (with_reducible refine (SG.out _ _ _).mono ?_); rintro e w6 ⟨rfl, b6⟩; have p6 : Below w5.heap.size w5 w6 := Below.trans (by repeat' (first | (with_reducible assumption) | (with_reducible exact Below.refl _ _) | (with_reducible refine Below.drew ?_) | (with_reducible refine below_drewN ?_ _) | (with_reducible refine Below.alloc ?_ ?_ _) | (with_reducible exact Nat.le_refl _) | (simp; done) | (simp; omega) | omega)) (Below.mono b6 (by first | omega | (simp; done) | (simp; omega))); have ya_6 := Lib.hid (BoxN.below ya_5.out p6); have ya_60 := ya_6.out.c0; have ya_61 := ya_6.out.c1; have ya_62 := ya_6.out.f0; have ya_63 := ya_6.out.f1; have ya_6z := ya_6.out.z; have yb_6 := Lib.hid (BoxN.below yb_5.out p6); have yb_60 := yb_6.out.c0; have yb_61 := yb_6.out.c1; have yb_62 := yb_6.out.f0; have yb_63 := yb_6.out.f1; have yb_6z := yb_6.out.z; have yr_6 := Lib.hid (BoxN.below yr_5.out p6); have yr_60 := yr_6.out.c0; have yr_61 := yr_6.out.c1; have yr_62 := yr_6.out.f0; have yr_63 := yr_6.out.f1; have yr_6z := yr_6.out.z; have yx_6 := Lib.hid (BoxN.below yx_5.out p6); have yx_60 := yx_6.out.c0; have yx_61 := yx_6.out.c1; have yx_62 := yx_6.out.f0; have yx_63 := yx_6.out.f1; have yx_6z := yx_6.out.z; have HD6 := Lib.hid (HD5.out.below p6)))
  have z5 := p5.size; have z6 := p6.size; have z3 := HW3.out.size
  have q6 : Below w.heap.size w w6 := HW3.out.trans ((p5.trans (p6.mono z5)).mono z3)
  go_upto_region 7 with fail
  have yx7 := yx_6.out.set2 (m := zn z) (A' := A5) (l' := (dg (N + M)).length) (c' := c5)
  have hd7 := HD6.out.box yx_6.out (m := zn z) (u := .slice A5 (dg (N + M)).length c5)
  have q7 : Below w.heap.size w ((w6.setCell ⟨w.heap.size + 1 + 1 + 1, 0, none⟩ (.bool (zn z))).setCell ⟨w.heap.size + 1 + 1 + 1, 1, none⟩ (.slice A5 (dg (N + M)).length c5)) := (q6.setCell (by simp; omega) _).setCell (by simp; omega) _
  have yr7 : BoxN ((w6.setCell ⟨w.heap.size + 1 + 1 + 1, 0, none⟩ (.bool (zn z))).setCell ⟨w.heap.size + 1 + 1 + 1, 1, none⟩ (.slice A5 (dg (N + M)).length c5)) (w.heap.size + 1 + 1) false (.slice none 0 0) := by
    constructor <;> (first | (simp (maxDischargeDepth := 12) [go_sem, *]; done) | (simp; omega))
  obtain ⟨w7, hw7⟩ : ∃ x, x = ((w6.setCell ⟨w.heap.size + 1 + 1 + 1, 0, none⟩ (.bool (zn z))).setCell ⟨w.heap.size + 1 + 1 + 1, 1, none⟩ (.slice A5 (dg (N + M)).length c5)) := ⟨_, rfl⟩; rw [← hw7]
  rw [← hw7] at yx7 hd7 q7 yr7
  clear hw7
  have yx_7 := Lib.hid (yx7); have yx_70 := yx_7.out.c0; have yx_71 := yx_7.out.c1; have yx_72 := yx_7.out.f0; have yx_73 := yx_7.out.f1; have yx_7z := yx_7.out.z
  have yr_7 := Lib.hid (yr7); have yr_70 := yr_7.out.c0; have yr_71 := yr_7.out.c1; have yr_72 := yr_7.out.f0; have yr_73 := yr_7.out.f1; have yr_7z := yr_7.out.z
  have HD7 := Lib.hid hd7; have HQ7 := Lib.hid q7
  clear yx7 yr7 hd7 q7
  clear ya_4 ya_40 ya_41 ya_42 ya_4z ya_43 yb_4 yb_40 yb_41 yb_42 yb_4z yb_43 yr_4 yr_40 yr_41 yr_42 yr_4z yr_43 yx_4 yx_40 yx_41 yx_42 yx_4z yx_43 ya_5 ya_50 ya_51 ya_52 ya_5z ya_53 yb_5 yb_50 yb_51 yb_52 yb_5z yb_53 yr_5 yr_50 yr_51 yr_52 yr_5z yr_53 yx_5 yx_50 yx_51 yx_52 yx_5z yx_53 ya_6 ya_60 ya_61 ya_62 ya_6z ya_63 yb_6 yb_60 yb_61 yb_62 yb_6z yb_63 yr_6 yr_60 yr_61 yr_62 yr_6z yr_63 yx_6 yx_60 yx_61 yx_62 yx_6z yx_63
  go_wp2_with (first | (go_at_call 72; (with_reducible refine (held_d HD7.out rfl HKZ.out (by repeat' (first | (with_reducible exact Below.refl _ _) | (with_reducible assumption) | (with_reducible refine Below.drew ?_) | (with_reducible refine below_drewN ?_ _) | (with_reducible refine Below.alloc ?_ ?_ _) | (with_reducible exact Nat.le_refl _) | (simp; done) | (simp; omega)))).mono ?_); rintro e w9 ⟨⟨A9, c9, rfl, hd9⟩, b9⟩; have p9 : Below w7.heap.size w7 w9 := Below.trans (by repeat' (first | (with_reducible assumption) | (with_reducible exact Below.refl _ _) | (with_reducible refine Below.drew ?_) | (with_reducible refine below_drewN ?_ _) | (with_reducible refine Below.alloc ?_ ?_ _) | (with_reducible exact Nat.le_refl _) | (simp; done) | (simp; omega) | omega)) (Below.mono b9 (by first | omega | (simp; done) | (simp; omega))); have yr_9 := Lib.hid (BoxN.below yr_7.out p9); have yr_90 := yr_9.out.c0; have yr_91 := yr_9.out.c1; have yr_92 := yr_9.out.f0; have yr_93 := yr_9.out.f1; have yr_9z := yr_9.out.z; have yx_9 := Lib.hid (BoxN.below yx_7.out p9); have yx_90 := yx_9.out.c0; have yx_91 := yx_9.out.c1; have yx_92 := yx_9.out.f0; have yx_93 := yx_9.out.f1; have yx_9z := yx_9.out.z; have HD9 := Lib.hid hd9; clear hd9))
  (try simp only [Exit.inBlock, Exit.then]); refine bodyPost_ret (by simp [results, Try.results51, go_sem, *]; try rfl) rfl ?_
  have q9 := HQ7.out.trans (p9.mono HQ7.out.size)
  exact ⟨⟨A9, c9, rfl, HD9.out.box yr_9.out⟩, (q9.setCell (by simp; omega) _).setCell (by simp; omega) _⟩
set_option maxRecDepth 100000 in
set_option maxHeartbeats 1600000 in
theorem radd_lt_f {A A' : Option Addr} {c c' N M : Nat} {z : Int} (w0 w : World) (h : DS1 w0 A c N) (h' : DS1 w0 A' c' M) (hl : (dg N).length ≤ 36) (hl' : (dg M).length ≤ 36) (q : Below w0.heap.size w0 w) (hlt : N < M) (hs : (true && decide (0 < M - N)) = zn z) (hK : M - N = z.natAbs) :
  Calls Try.prog 51 #[.agg #[.bool false, .slice A (dg N).length c], .agg #[.bool true, .slice A' (dg M).length c']] w fun e w' => (∃ A2 c2, e = .returned (.tuple #[.agg #[.bool (zn (heldZ z)), .slice A2 (dg (heldZ z).natAbs).length c2], .int .i64 (heldC z)]) ∧ DS1 w' A2 c2 (heldZ z).natAbs) ∧ Below w.heap.size w w' := by
  have hw3 : Below w.heap.size w ((((w.alloc (.cells #[.bool false, .slice A (dg N).length c] 43)).alloc (.cells #[.bool true, .slice A' (dg M).length c'] 43)).alloc (.cells #[.bool false, .slice none 0 0] 43)).alloc (.cells #[.bool false, .slice none 0 0] 43)) := by (repeat' (first | (with_reducible exact Below.refl _ _) | (refine Below.trans ?_ (Below.mono (by with_reducible assumption) ?_)) | (with_reducible exact Below.refl _ _) | (with_reducible refine below_drewN ?_ _) | (with_reducible refine Below.drew ?_) | (with_reducible refine Below.setCell ?_ ?_ _) | (with_reducible refine Below.alloc ?_ ?_ _) | (with_reducible assumption) | (simp; done) | (simp; omega) | omega))
  have SG0 := fun W A' c' => signed_any (true) A' c' (M - N) W
  rw [hs] at SG0
  have HA := Lib.hid (h.below (q.trans (hw3.mono q.size))); have HB := Lib.hid (h'.below (q.trans (hw3.mono q.size)))
  have SG := Lib.hid SG0; have HLN := Lib.hid hl; have HLM := Lib.hid hl'; have HW3 := Lib.hid hw3; have HKZ := Lib.hid hK
  obtain ⟨ln, hln⟩ : ∃ ln, ln = (dg N).length := ⟨_, rfl⟩
  obtain ⟨lm, hlm⟩ : ∃ lm, lm = (dg M).length := ⟨_, rfl⟩
  rw [← hln, ← hlm] at HA HB HW3 ⊢
  have TM := Lib.hid (fun W qq => minus_d HB.out HA.out (by have := HLN.out; have := HLM.out; omega) (Nat.le_of_lt hlt) qq (W := W))
  have LS := Lib.hid (fun W qq => less_d HA.out HB.out (W := W) (by have := HLN.out; omega) qq)
  rw [← hln, ← hlm] at TM LS
  have LS1 := LS.out
  rw [decide_eq_true hlt] at LS1
  have LT := Lib.hid LS1
  clear LS LS1
  clear SG0 h h' hl hl' hw3 q hln hlm hK hs
  go_enter Try.func51, Try.ntmps51
  go_upto_region 4 with fail
  obtain ⟨w3, hw3⟩ : ∃ x, x = ((((w.alloc (.cells #[.bool false, .slice A ln c] 43)).alloc (.cells #[.bool true, .slice A' lm c'] 43)).alloc (.cells #[.bool false, .slice none 0 0] 43)).alloc (.cells #[.bool false, .slice none 0 0] 43)) := ⟨_, rfl⟩; rw [← hw3]
  have ya_3 : Hid (BoxN w3 w.heap.size false (.slice A ln c)) := Lib.hid (by rw [hw3]; exact (((BoxN.make w false (.slice A ln c) rfl).alloc _).alloc _).alloc _)
  have yb_3 : Hid (BoxN w3 (w.heap.size + 1) true (.slice A' lm c')) := Lib.hid (by rw [hw3]; exact ((BoxN.make _ true (.slice A' lm c') (by simp)).alloc _).alloc _)
  have yr_3 : Hid (BoxN w3 (w.heap.size + 1 + 1) false (.slice none 0 0)) := Lib.hid (by rw [hw3]; exact (BoxN.make _ false (.slice none 0 0) (by simp)).alloc _)
  have yx_3 : Hid (BoxN w3 (w.heap.size + 1 + 1 + 1) false (.slice none 0 0)) := Lib.hid (by rw [hw3]; exact BoxN.make _ false (.slice none 0 0) (by simp))
  rw [← hw3] at HA HB HW3 TM LT
  clear hw3
  have ya_4 := Lib.hid (ya_3.out); have ya_40 := ya_4.out.c0; have ya_41 := ya_4.out.c1; have ya_42 := ya_4.out.f0; have ya_43 := ya_4.out.f1; have ya_4z := ya_4.out.z
  have yb_4 := Lib.hid (yb_3.out); have yb_40 := yb_4.out.c0; have yb_41 := yb_4.out.c1; have yb_42 := yb_4.out.f0; have yb_43 := yb_4.out.f1; have yb_4z := yb_4.out.z
  have yr_4 := Lib.hid (yr_3.out); have yr_40 := yr_4.out.c0; have yr_41 := yr_4.out.c1; have yr_42 := yr_4.out.f0; have yr_43 := yr_4.out.f1; have yr_4z := yr_4.out.z
  have yx_4 := Lib.hid (yx_3.out); have yx_40 := yx_4.out.c0; have yx_41 := yx_4.out.c1; have yx_42 := yx_4.out.f0; have yx_43 := yx_4.out.f1; have yx_4z := yx_4.out.z
  clear ya_3 yb_3 yr_3 yx_3
  go_upto_region 5 with (first | (go_at_call 62; (with_reducible refine (LT.out _ (by repeat' (first | (with_reducible exact Below.refl _ _) | (with_reducible refine Below.drew ?_) | (with_reducible refine below_drewN ?_ _)))).mono ?_); rintro e w4 ⟨rfl, b4⟩; have p4 : Below w3.heap.size w3 w4 := Below.trans (by repeat' (first | (with_reducible assumption) | (with_reducible exact Below.refl _ _) | (with_reducible refine Below.drew ?_) | (with_reducible refine below_drewN ?_ _) | (with_reducible refine Below.alloc ?_ ?_ _) | (with_reducible exact Nat.le_refl _) | (simp; done) | (simp; omega) | omega)) (Below.mono b4 (by first | omega | (simp; done) | (simp; omega))); have ya_44 := Lib.hid (BoxN.below ya_4.out p4); have ya_440 := ya_44.out.c0; have ya_441 := ya_44.out.c1; have ya_442 := ya_44.out.f0; have ya_443 := ya_44.out.f1; have ya_44z := ya_44.out.z; have yb_44 := Lib.hid (BoxN.below yb_4.out p4); have yb_440 := yb_44.out.c0; have yb_441 := yb_44.out.c1; have yb_442 := yb_44.out.f0; have yb_443 := yb_44.out.f1; have yb_44z := yb_44.out.z; have yr_44 := Lib.hid (BoxN.below yr_4.out p4); have yr_440 := yr_44.out.c0; have yr_441 := yr_44.out.c1; have yr_442 := yr_44.out.f0; have yr_443 := yr_44.out.f1; have yr_44z := yr_44.out.z; have yx_44 := Lib.hid (BoxN.below yx_4.out p4); have yx_440 := yx_44.out.c0; have yx_441 := yx_44.out.c1; have yx_442 := yx_44.out.f0; have yx_443 := yx_44.out.f1; have yx_44z := yx_44.out.z))
  have z4 := p4.size
  go_region_held3 (fun w' => w'.cell? ⟨w.heap.size, 0, none⟩ = some (.bool false) ∧ w'.cell? ⟨w.heap.size, 1, none⟩ = some ((.slice A ln c)) ∧ w'.cell? ⟨w.heap.size + 1, 0, none⟩ = some (.bool true) ∧ w'.cell? ⟨w.heap.size + 1, 1, none⟩ = some ((.slice A' lm c'))) ((and_intros <;> (first | (with_reducible assumption) | (go_simp; done) | (simp (maxDischargeDepth := 12) [go_sem]; done) | (simp (maxDischargeDepth := 12) [go_sem, *]; done) | exact (Below.cell (by with_reducible assumption) (by first | (simp; done) | (simp; omega) | omega)).trans (by simp (maxDischargeDepth := 12) [go_sem]))))
    (first
      | (go_at_call 76; (with_reducible refine (TM.out _ (by refine Below.trans p4 (Below.mono (B := w4.heap.size) ?_ z4); repeat' (first | (with_reducible exact Below.refl _ _) | (with_reducible refine Below.drew ?_) | (with_reducible refine below_drewN ?_ _)))).mono ?_); rintro e w5 ⟨⟨A5, c5, rfl, hd5⟩, b5⟩; have p5 : Below w4.heap.size w4 w5 := Below.trans (by repeat' (first | (with_reducible assumption) | (with_reducible exact Below.refl _ _) | (with_reducible refine Below.drew ?_) | (with_reducible refine below_drewN ?_ _) | (with_reducible refine Below.alloc ?_ ?_ _) | (with_reducible exact Nat.le_refl _) | (simp; done) | (simp; omega) | omega)) (Below.mono b5 (by first | omega | (simp; done) | (simp; omega))); have ya_5 := Lib.hid (BoxN.below ya_44.out p5); have ya_50 := ya_5.out.c0; have ya_51 := ya_5.out.c1; have ya_52 := ya_5.out.f0; have ya_53 := ya_5.out.f1; have ya_5z := ya_5.out.z; have yb_5 := Lib.hid (BoxN.below yb_44.out p5); have yb_50 := yb_5.out.c0; have yb_51 := yb_5.out.c1; have yb_52 := yb_5.out.f0; have yb_53 := yb_5.out.f1; have yb_5z := yb_5.out.z; have yr_5 := Lib.hid (BoxN.below yr_44.out p5); have yr_50 := yr_5.out.c0; have yr_51 := yr_5.out.c1; have yr_52 := yr_5.out.f0; have yr_53 := yr_5.out.f1; have yr_5z := yr_5.out.z; have yx_5 := Lib.hid (BoxN.below yx_44.out p5); have yx_50 := yx_5.out.c0; have yx_51 := yx_5.out.c1; have yx_52 := yx_5.out.f0; have yx_53 := yx_5.out.f1; have yx_5z := yx_5.out.z; have HD5 := Lib.hid hd5; clear hd5)
      | (go_at_call 68; (with_reducible refine (SG.out _ _ _).mono ?_); rintro e w6 ⟨rfl, b6⟩; have p6 : Below w5.heap.size w5 w6 := Below.trans (by repeat' (first | (with_reducible assumption) | (with_reducible exact Below.refl _ _) | (with_reducible refine Below.drew ?_) | (with_reducible refine below_drewN ?_ _) | (with_reducible refine Below.alloc ?_ ?_ _) | (with_reducible exact Nat.le_refl _) | (simp; done) | (simp; omega) | omega)) (Below.mono b6 (by first | omega | (simp; done) | (simp; omega))); have ya_6 := Lib.hid (BoxN.below ya_5.out p6); have ya_60 := ya_6.out.c0; have ya_61 := ya_6.out.c1; have ya_62 := ya_6.out.f0; have ya_63 := ya_6.out.f1; have ya_6z := ya_6.out.z; have yb_6 := Lib.hid (BoxN.below yb_5.out p6); have yb_60 := yb_6.out.c0; have yb_61 := yb_6.out.c1; have yb_62 := yb_6.out.f0; have yb_63 := yb_6.out.f1; have yb_6z := yb_6.out.z; have yr_6 := Lib.hid (BoxN.below yr_5.out p6); have yr_60 := yr_6.out.c0; have yr_61 := yr_6.out.c1; have yr_62 := yr_6.out.f0; have yr_63 := yr_6.out.f1; have yr_6z := yr_6.out.z; have yx_6 := Lib.hid (BoxN.below yx_5.out p6); have yx_60 := yx_6.out.c0; have yx_61 := yx_6.out.c1; have yx_62 := yx_6.out.f0; have yx_63 := yx_6.out.f1; have yx_6z := yx_6.out.z; have HD6 := Lib.hid (HD5.out.below p6)))
  have z5 := p5.size; have z6 := p6.size; have z3 := HW3.out.size
  have q6 : Below w.heap.size w w6 := HW3.out.trans (((p4.trans (p5.mono z4)).trans (p6.mono (Nat.le_trans z4 z5))).mono z3)
  go_upto_region 7 with fail
  have yx7 := yx_6.out.set2 (m := zn z) (A' := A5) (l' := (dg (M - N)).length) (c' := c5)
  have hd7 := HD6.out.box yx_6.out (m := zn z) (u := .slice A5 (dg (M - N)).length c5)
  have q7 : Below w.heap.size w ((w6.setCell ⟨w.heap.size + 1 + 1 + 1, 0, none⟩ (.bool (zn z))).setCell ⟨w.heap.size + 1 + 1 + 1, 1, none⟩ (.slice A5 (dg (M - N)).length c5)) := (q6.setCell (by simp; omega) _).setCell (by simp; omega) _
  have yr7 : BoxN ((w6.setCell ⟨w.heap.size + 1 + 1 + 1, 0, none⟩ (.bool (zn z))).setCell ⟨w.heap.size + 1 + 1 + 1, 1, none⟩ (.slice A5 (dg (M - N)).length c5)) (w.heap.size + 1 + 1) false (.slice none 0 0) := by
    constructor <;> (first | (simp (maxDischargeDepth := 12) [go_sem, *]; done) | (simp; omega))
  obtain ⟨w7, hw7⟩ : ∃ x, x = ((w6.setCell ⟨w.heap.size + 1 + 1 + 1, 0, none⟩ (.bool (zn z))).setCell ⟨w.heap.size + 1 + 1 + 1, 1, none⟩ (.slice A5 (dg (M - N)).length c5)) := ⟨_, rfl⟩; rw [← hw7]
  rw [← hw7] at yx7 hd7 q7 yr7
  clear hw7
  have yx_7 := Lib.hid (yx7); have yx_70 := yx_7.out.c0; have yx_71 := yx_7.out.c1; have yx_72 := yx_7.out.f0; have yx_73 := yx_7.out.f1; have yx_7z := yx_7.out.z
  have yr_7 := Lib.hid (yr7); have yr_70 := yr_7.out.c0; have yr_71 := yr_7.out.c1; have yr_72 := yr_7.out.f0; have yr_73 := yr_7.out.f1; have yr_7z := yr_7.out.z
  have HD7 := Lib.hid hd7; have HQ7 := Lib.hid q7
  clear yx7 yr7 hd7 q7
  clear ya_4 ya_40 ya_41 ya_42 ya_4z ya_43 yb_4 yb_40 yb_41 yb_42 yb_4z yb_43 yr_4 yr_40 yr_41 yr_42 yr_4z yr_43 yx_4 yx_40 yx_41 yx_42 yx_4z yx_43 ya_44 ya_440 ya_441 ya_442 ya_44z ya_443 yb_44 yb_440 yb_441 yb_442 yb_44z yb_443 yr_44 yr_440 yr_441 yr_442 yr_44z yr_443 yx_44 yx_440 yx_441 yx_442 yx_44z yx_443 ya_5 ya_50 ya_51 ya_52 ya_5z ya_53 yb_5 yb_50 yb_51 yb_52 yb_5z yb_53 yr_5 yr_50 yr_51 yr_52 yr_5z yr_53 yx_5 yx_50 yx_51 yx_52 yx_5z yx_53 ya_6 ya_60 ya_61 ya_62 ya_6z ya_63 yb_6 yb_60 yb_61 yb_62 yb_6z yb_63 yr_6 yr_60 yr_61 yr_62 yr_6z yr_63 yx_6 yx_60 yx_61 yx_62 yx_6z yx_63
  go_wp2_with (first | (go_at_call 72; (with_reducible refine (held_d HD7.out rfl HKZ.out (by repeat' (first | (with_reducible exact Below.refl _ _) | (with_reducible assumption) | (with_reducible refine Below.drew ?_) | (with_reducible refine below_drewN ?_ _) | (with_reducible refine Below.alloc ?_ ?_ _) | (with_reducible exact Nat.le_refl _) | (simp; done) | (simp; omega)))).mono ?_); rintro e w9 ⟨⟨A9, c9, rfl, hd9⟩, b9⟩; have p9 : Below w7.heap.size w7 w9 := Below.trans (by repeat' (first | (with_reducible assumption) | (with_reducible exact Below.refl _ _) | (with_reducible refine Below.drew ?_) | (with_reducible refine below_drewN ?_ _) | (with_reducible refine Below.alloc ?_ ?_ _) | (with_reducible exact Nat.le_refl _) | (simp; done) | (simp; omega) | omega)) (Below.mono b9 (by first | omega | (simp; done) | (simp; omega))); have yr_9 := Lib.hid (BoxN.below yr_7.out p9); have yr_90 := yr_9.out.c0; have yr_91 := yr_9.out.c1; have yr_92 := yr_9.out.f0; have yr_93 := yr_9.out.f1; have yr_9z := yr_9.out.z; have yx_9 := Lib.hid (BoxN.below yx_7.out p9); have yx_90 := yx_9.out.c0; have yx_91 := yx_9.out.c1; have yx_92 := yx_9.out.f0; have yx_93 := yx_9.out.f1; have yx_9z := yx_9.out.z; have HD9 := Lib.hid hd9; clear hd9))
  (try simp only [Exit.inBlock, Exit.then]); refine bodyPost_ret (by simp [results, Try.results51, go_sem, *]; try rfl) rfl ?_
  have q9 := HQ7.out.trans (p9.mono HQ7.out.size)
  exact ⟨⟨A9, c9, rfl, HD9.out.box yr_9.out⟩, (q9.setCell (by simp; omega) _).setCell (by simp; omega) _⟩
set_option maxRecDepth 100000 in
set_option maxHeartbeats 1600000 in
theorem radd_ge_f {A A' : Option Addr} {c c' N M : Nat} {z : Int} (w0 w : World) (h : DS1 w0 A c N) (h' : DS1 w0 A' c' M) (hl : (dg N).length ≤ 36) (hl' : (dg M).length ≤ 36) (q : Below w0.heap.size w0 w) (hge : ¬ N < M) (hs : (false && decide (0 < N - M)) = zn z) (hK : N - M = z.natAbs) :
  Calls Try.prog 51 #[.agg #[.bool false, .slice A (dg N).length c], .agg #[.bool true, .slice A' (dg M).length c']] w fun e w' => (∃ A2 c2, e = .returned (.tuple #[.agg #[.bool (zn (heldZ z)), .slice A2 (dg (heldZ z).natAbs).length c2], .int .i64 (heldC z)]) ∧ DS1 w' A2 c2 (heldZ z).natAbs) ∧ Below w.heap.size w w' := by
  have hw3 : Below w.heap.size w ((((w.alloc (.cells #[.bool false, .slice A (dg N).length c] 43)).alloc (.cells #[.bool true, .slice A' (dg M).length c'] 43)).alloc (.cells #[.bool false, .slice none 0 0] 43)).alloc (.cells #[.bool false, .slice none 0 0] 43)) := by (repeat' (first | (with_reducible exact Below.refl _ _) | (refine Below.trans ?_ (Below.mono (by with_reducible assumption) ?_)) | (with_reducible exact Below.refl _ _) | (with_reducible refine below_drewN ?_ _) | (with_reducible refine Below.drew ?_) | (with_reducible refine Below.setCell ?_ ?_ _) | (with_reducible refine Below.alloc ?_ ?_ _) | (with_reducible assumption) | (simp; done) | (simp; omega) | omega))
  have SG0 := fun W A' c' => signed_any (false) A' c' (N - M) W
  rw [hs] at SG0
  have HA := Lib.hid (h.below (q.trans (hw3.mono q.size))); have HB := Lib.hid (h'.below (q.trans (hw3.mono q.size)))
  have SG := Lib.hid SG0; have HLN := Lib.hid hl; have HLM := Lib.hid hl'; have HW3 := Lib.hid hw3; have HKZ := Lib.hid hK
  obtain ⟨ln, hln⟩ : ∃ ln, ln = (dg N).length := ⟨_, rfl⟩
  obtain ⟨lm, hlm⟩ : ∃ lm, lm = (dg M).length := ⟨_, rfl⟩
  rw [← hln, ← hlm] at HA HB HW3 ⊢
  have TM := Lib.hid (fun W qq => minus_d HA.out HB.out (by have := HLN.out; have := HLM.out; omega) (Nat.le_of_not_lt hge) qq (W := W))
  have LS := Lib.hid (fun W qq => less_d HA.out HB.out (W := W) (by have := HLN.out; omega) qq)
  rw [← hln, ← hlm] at TM LS
  have LS1 := LS.out
  rw [decide_eq_false hge] at LS1
  have LT := Lib.hid LS1
  clear LS LS1
  clear SG0 h h' hl hl' hw3 q hln hlm hK hs
  go_enter Try.func51, Try.ntmps51
  go_upto_region 4 with fail
  obtain ⟨w3, hw3⟩ : ∃ x, x = ((((w.alloc (.cells #[.bool false, .slice A ln c] 43)).alloc (.cells #[.bool true, .slice A' lm c'] 43)).alloc (.cells #[.bool false, .slice none 0 0] 43)).alloc (.cells #[.bool false, .slice none 0 0] 43)) := ⟨_, rfl⟩; rw [← hw3]
  have ya_3 : Hid (BoxN w3 w.heap.size false (.slice A ln c)) := Lib.hid (by rw [hw3]; exact (((BoxN.make w false (.slice A ln c) rfl).alloc _).alloc _).alloc _)
  have yb_3 : Hid (BoxN w3 (w.heap.size + 1) true (.slice A' lm c')) := Lib.hid (by rw [hw3]; exact ((BoxN.make _ true (.slice A' lm c') (by simp)).alloc _).alloc _)
  have yr_3 : Hid (BoxN w3 (w.heap.size + 1 + 1) false (.slice none 0 0)) := Lib.hid (by rw [hw3]; exact (BoxN.make _ false (.slice none 0 0) (by simp)).alloc _)
  have yx_3 : Hid (BoxN w3 (w.heap.size + 1 + 1 + 1) false (.slice none 0 0)) := Lib.hid (by rw [hw3]; exact BoxN.make _ false (.slice none 0 0) (by simp))
  rw [← hw3] at HA HB HW3 TM LT
  clear hw3
  have ya_4 := Lib.hid (ya_3.out); have ya_40 := ya_4.out.c0; have ya_41 := ya_4.out.c1; have ya_42 := ya_4.out.f0; have ya_43 := ya_4.out.f1; have ya_4z := ya_4.out.z
  have yb_4 := Lib.hid (yb_3.out); have yb_40 := yb_4.out.c0; have yb_41 := yb_4.out.c1; have yb_42 := yb_4.out.f0; have yb_43 := yb_4.out.f1; have yb_4z := yb_4.out.z
  have yr_4 := Lib.hid (yr_3.out); have yr_40 := yr_4.out.c0; have yr_41 := yr_4.out.c1; have yr_42 := yr_4.out.f0; have yr_43 := yr_4.out.f1; have yr_4z := yr_4.out.z
  have yx_4 := Lib.hid (yx_3.out); have yx_40 := yx_4.out.c0; have yx_41 := yx_4.out.c1; have yx_42 := yx_4.out.f0; have yx_43 := yx_4.out.f1; have yx_4z := yx_4.out.z
  clear ya_3 yb_3 yr_3 yx_3
  go_upto_region 6 with (first | (go_at_call 62; (with_reducible refine (LT.out _ (by repeat' (first | (with_reducible exact Below.refl _ _) | (with_reducible refine Below.drew ?_) | (with_reducible refine below_drewN ?_ _)))).mono ?_); rintro e w4 ⟨rfl, b4⟩; have p4 : Below w3.heap.size w3 w4 := Below.trans (by repeat' (first | (with_reducible assumption) | (with_reducible exact Below.refl _ _) | (with_reducible refine Below.drew ?_) | (with_reducible refine below_drewN ?_ _) | (with_reducible refine Below.alloc ?_ ?_ _) | (with_reducible exact Nat.le_refl _) | (simp; done) | (simp; omega) | omega)) (Below.mono b4 (by first | omega | (simp; done) | (simp; omega))); have ya_44 := Lib.hid (BoxN.below ya_4.out p4); have ya_440 := ya_44.out.c0; have ya_441 := ya_44.out.c1; have ya_442 := ya_44.out.f0; have ya_443 := ya_44.out.f1; have ya_44z := ya_44.out.z; have yb_44 := Lib.hid (BoxN.below yb_4.out p4); have yb_440 := yb_44.out.c0; have yb_441 := yb_44.out.c1; have yb_442 := yb_44.out.f0; have yb_443 := yb_44.out.f1; have yb_44z := yb_44.out.z; have yr_44 := Lib.hid (BoxN.below yr_4.out p4); have yr_440 := yr_44.out.c0; have yr_441 := yr_44.out.c1; have yr_442 := yr_44.out.f0; have yr_443 := yr_44.out.f1; have yr_44z := yr_44.out.z; have yx_44 := Lib.hid (BoxN.below yx_4.out p4); have yx_440 := yx_44.out.c0; have yx_441 := yx_44.out.c1; have yx_442 := yx_44.out.f0; have yx_443 := yx_44.out.f1; have yx_44z := yx_44.out.z))
  have z4 := p4.size
  go_region_held3 (fun w' => w'.cell? ⟨w.heap.size, 0, none⟩ = some (.bool false) ∧ w'.cell? ⟨w.heap.size, 1, none⟩ = some ((.slice A ln c)) ∧ w'.cell? ⟨w.heap.size + 1, 0, none⟩ = some (.bool true) ∧ w'.cell? ⟨w.heap.size + 1, 1, none⟩ = some ((.slice A' lm c'))) ((and_intros <;> (first | (with_reducible assumption) | (go_simp; done) | (simp (maxDischargeDepth := 12) [go_sem]; done) | (simp (maxDischargeDepth := 12) [go_sem, *]; done) | exact (Below.cell (by with_reducible assumption) (by first | (simp; done) | (simp; omega) | omega)).trans (by simp (maxDischargeDepth := 12) [go_sem]))))
    (first
      | (go_at_call 76; (with_reducible refine (TM.out _ (by refine Below.trans p4 (Below.mono (B := w4.heap.size) ?_ z4); repeat' (first | (with_reducible exact Below.refl _ _) | (with_reducible refine Below.drew ?_) | (with_reducible refine below_drewN ?_ _)))).mono ?_); rintro e w5 ⟨⟨A5, c5, rfl, hd5⟩, b5⟩; have p5 : Below w4.heap.size w4 w5 := Below.trans (by repeat' (first | (with_reducible assumption) | (with_reducible exact Below.refl _ _) | (with_reducible refine Below.drew ?_) | (with_reducible refine below_drewN ?_ _) | (with_reducible refine Below.alloc ?_ ?_ _) | (with_reducible exact Nat.le_refl _) | (simp; done) | (simp; omega) | omega)) (Below.mono b5 (by first | omega | (simp; done) | (simp; omega))); have ya_5 := Lib.hid (BoxN.below ya_44.out p5); have ya_50 := ya_5.out.c0; have ya_51 := ya_5.out.c1; have ya_52 := ya_5.out.f0; have ya_53 := ya_5.out.f1; have ya_5z := ya_5.out.z; have yb_5 := Lib.hid (BoxN.below yb_44.out p5); have yb_50 := yb_5.out.c0; have yb_51 := yb_5.out.c1; have yb_52 := yb_5.out.f0; have yb_53 := yb_5.out.f1; have yb_5z := yb_5.out.z; have yr_5 := Lib.hid (BoxN.below yr_44.out p5); have yr_50 := yr_5.out.c0; have yr_51 := yr_5.out.c1; have yr_52 := yr_5.out.f0; have yr_53 := yr_5.out.f1; have yr_5z := yr_5.out.z; have yx_5 := Lib.hid (BoxN.below yx_44.out p5); have yx_50 := yx_5.out.c0; have yx_51 := yx_5.out.c1; have yx_52 := yx_5.out.f0; have yx_53 := yx_5.out.f1; have yx_5z := yx_5.out.z; have HD5 := Lib.hid hd5; clear hd5)
      | (go_at_call 68; (with_reducible refine (SG.out _ _ _).mono ?_); rintro e w6 ⟨rfl, b6⟩; have p6 : Below w5.heap.size w5 w6 := Below.trans (by repeat' (first | (with_reducible assumption) | (with_reducible exact Below.refl _ _) | (with_reducible refine Below.drew ?_) | (with_reducible refine below_drewN ?_ _) | (with_reducible refine Below.alloc ?_ ?_ _) | (with_reducible exact Nat.le_refl _) | (simp; done) | (simp; omega) | omega)) (Below.mono b6 (by first | omega | (simp; done) | (simp; omega))); have ya_6 := Lib.hid (BoxN.below ya_5.out p6); have ya_60 := ya_6.out.c0; have ya_61 := ya_6.out.c1; have ya_62 := ya_6.out.f0; have ya_63 := ya_6.out.f1; have ya_6z := ya_6.out.z; have yb_6 := Lib.hid (BoxN.below yb_5.out p6); have yb_60 := yb_6.out.c0; have yb_61 := yb_6.out.c1; have yb_62 := yb_6.out.f0; have yb_63 := yb_6.out.f1; have yb_6z := yb_6.out.z; have yr_6 := Lib.hid (BoxN.below yr_5.out p6); have yr_60 := yr_6.out.c0; have yr_61 := yr_6.out.c1; have yr_62 := yr_6.out.f0; have yr_63 := yr_6.out.f1; have yr_6z := yr_6.out.z; have yx_6 := Lib.hid (BoxN.below yx_5.out p6); have yx_60 := yx_6.out.c0; have yx_61 := yx_6.out.c1; have yx_62 := yx_6.out.f0; have yx_63 := yx_6.out.f1; have yx_6z := yx_6.out.z; have HD6 := Lib.hid (HD5.out.below p6)))
  have z5 := p5.size; have z6 := p6.size; have z3 := HW3.out.size
  have q6 : Below w.heap.size w w6 := HW3.out.trans (((p4.trans (p5.mono z4)).trans (p6.mono (Nat.le_trans z4 z5))).mono z3)
  go_upto_region 7 with fail
  have yx7 := yx_6.out.set2 (m := zn z) (A' := A5) (l' := (dg (N - M)).length) (c' := c5)
  have hd7 := HD6.out.box yx_6.out (m := zn z) (u := .slice A5 (dg (N - M)).length c5)
  have q7 : Below w.heap.size w ((w6.setCell ⟨w.heap.size + 1 + 1 + 1, 0, none⟩ (.bool (zn z))).setCell ⟨w.heap.size + 1 + 1 + 1, 1, none⟩ (.slice A5 (dg (N - M)).length c5)) := (q6.setCell (by simp; omega) _).setCell (by simp; omega) _
  have yr7 : BoxN ((w6.setCell ⟨w.heap.size + 1 + 1 + 1, 0, none⟩ (.bool (zn z))).setCell ⟨w.heap.size + 1 + 1 + 1, 1, none⟩ (.slice A5 (dg (N - M)).length c5)) (w.heap.size + 1 + 1) false (.slice none 0 0) := by
    constructor <;> (first | (simp (maxDischargeDepth := 12) [go_sem, *]; done) | (simp; omega))
  obtain ⟨w7, hw7⟩ : ∃ x, x = ((w6.setCell ⟨w.heap.size + 1 + 1 + 1, 0, none⟩ (.bool (zn z))).setCell ⟨w.heap.size + 1 + 1 + 1, 1, none⟩ (.slice A5 (dg (N - M)).length c5)) := ⟨_, rfl⟩; rw [← hw7]
  rw [← hw7] at yx7 hd7 q7 yr7
  clear hw7
  have yx_7 := Lib.hid (yx7); have yx_70 := yx_7.out.c0; have yx_71 := yx_7.out.c1; have yx_72 := yx_7.out.f0; have yx_73 := yx_7.out.f1; have yx_7z := yx_7.out.z
  have yr_7 := Lib.hid (yr7); have yr_70 := yr_7.out.c0; have yr_71 := yr_7.out.c1; have yr_72 := yr_7.out.f0; have yr_73 := yr_7.out.f1; have yr_7z := yr_7.out.z
  have HD7 := Lib.hid hd7; have HQ7 := Lib.hid q7
  clear yx7 yr7 hd7 q7
  clear ya_4 ya_40 ya_41 ya_42 ya_4z ya_43 yb_4 yb_40 yb_41 yb_42 yb_4z yb_43 yr_4 yr_40 yr_41 yr_42 yr_4z yr_43 yx_4 yx_40 yx_41 yx_42 yx_4z yx_43 ya_44 ya_440 ya_441 ya_442 ya_44z ya_443 yb_44 yb_440 yb_441 yb_442 yb_44z yb_443 yr_44 yr_440 yr_441 yr_442 yr_44z yr_443 yx_44 yx_440 yx_441 yx_442 yx_44z yx_443 ya_5 ya_50 ya_51 ya_52 ya_5z ya_53 yb_5 yb_50 yb_51 yb_52 yb_5z yb_53 yr_5 yr_50 yr_51 yr_52 yr_5z yr_53 yx_5 yx_50 yx_51 yx_52 yx_5z yx_53 ya_6 ya_60 ya_61 ya_62 ya_6z ya_63 yb_6 yb_60 yb_61 yb_62 yb_6z yb_63 yr_6 yr_60 yr_61 yr_62 yr_6z yr_63 yx_6 yx_60 yx_61 yx_62 yx_6z yx_63
  go_wp2_with (first | (go_at_call 72; (with_reducible refine (held_d HD7.out rfl HKZ.out (by repeat' (first | (with_reducible exact Below.refl _ _) | (with_reducible assumption) | (with_reducible refine Below.drew ?_) | (with_reducible refine below_drewN ?_ _) | (with_reducible refine Below.alloc ?_ ?_ _) | (with_reducible exact Nat.le_refl _) | (simp; done) | (simp; omega)))).mono ?_); rintro e w9 ⟨⟨A9, c9, rfl, hd9⟩, b9⟩; have p9 : Below w7.heap.size w7 w9 := Below.trans (by repeat' (first | (with_reducible assumption) | (with_reducible exact Below.refl _ _) | (with_reducible refine Below.drew ?_) | (with_reducible refine below_drewN ?_ _) | (with_reducible refine Below.alloc ?_ ?_ _) | (with_reducible exact Nat.le_refl _) | (simp; done) | (simp; omega) | omega)) (Below.mono b9 (by first | omega | (simp; done) | (simp; omega))); have yr_9 := Lib.hid (BoxN.below yr_7.out p9); have yr_90 := yr_9.out.c0; have yr_91 := yr_9.out.c1; have yr_92 := yr_9.out.f0; have yr_93 := yr_9.out.f1; have yr_9z := yr_9.out.z; have yx_9 := Lib.hid (BoxN.below yx_7.out p9); have yx_90 := yx_9.out.c0; have yx_91 := yx_9.out.c1; have yx_92 := yx_9.out.f0; have yx_93 := yx_9.out.f1; have yx_9z := yx_9.out.z; have HD9 := Lib.hid hd9; clear hd9))
  (try simp only [Exit.inBlock, Exit.then]); refine bodyPost_ret (by simp [results, Try.results51, go_sem, *]; try rfl) rfl ?_
  have q9 := HQ7.out.trans (p9.mono HQ7.out.size)
  exact ⟨⟨A9, c9, rfl, HD9.out.box yr_9.out⟩, (q9.setCell (by simp; omega) _).setCell (by simp; omega) _⟩
set_option maxRecDepth 100000 in
set_option maxHeartbeats 1600000 in
theorem radd_lt_t {A A' : Option Addr} {c c' N M : Nat} {z : Int} (w0 w : World) (h : DS1 w0 A c N) (h' : DS1 w0 A' c' M) (hl : (dg N).length ≤ 36) (hl' : (dg M).length ≤ 36) (q : Below w0.heap.size w0 w) (hlt : N < M) (hs : (false && decide (0 < M - N)) = zn z) (hK : M - N = z.natAbs) :
  Calls Try.prog 51 #[.agg #[.bool true, .slice A (dg N).length c], .agg #[.bool false, .slice A' (dg M).length c']] w fun e w' => (∃ A2 c2, e = .returned (.tuple #[.agg #[.bool (zn (heldZ z)), .slice A2 (dg (heldZ z).natAbs).length c2], .int .i64 (heldC z)]) ∧ DS1 w' A2 c2 (heldZ z).natAbs) ∧ Below w.heap.size w w' := by
  have hw3 : Below w.heap.size w ((((w.alloc (.cells #[.bool true, .slice A (dg N).length c] 43)).alloc (.cells #[.bool false, .slice A' (dg M).length c'] 43)).alloc (.cells #[.bool false, .slice none 0 0] 43)).alloc (.cells #[.bool false, .slice none 0 0] 43)) := by (repeat' (first | (with_reducible exact Below.refl _ _) | (refine Below.trans ?_ (Below.mono (by with_reducible assumption) ?_)) | (with_reducible exact Below.refl _ _) | (with_reducible refine below_drewN ?_ _) | (with_reducible refine Below.drew ?_) | (with_reducible refine Below.setCell ?_ ?_ _) | (with_reducible refine Below.alloc ?_ ?_ _) | (with_reducible assumption) | (simp; done) | (simp; omega) | omega))
  have SG0 := fun W A' c' => signed_any (false) A' c' (M - N) W
  rw [hs] at SG0
  have HA := Lib.hid (h.below (q.trans (hw3.mono q.size))); have HB := Lib.hid (h'.below (q.trans (hw3.mono q.size)))
  have SG := Lib.hid SG0; have HLN := Lib.hid hl; have HLM := Lib.hid hl'; have HW3 := Lib.hid hw3; have HKZ := Lib.hid hK
  obtain ⟨ln, hln⟩ : ∃ ln, ln = (dg N).length := ⟨_, rfl⟩
  obtain ⟨lm, hlm⟩ : ∃ lm, lm = (dg M).length := ⟨_, rfl⟩
  rw [← hln, ← hlm] at HA HB HW3 ⊢
  have TM := Lib.hid (fun W qq => minus_d HB.out HA.out (by have := HLN.out; have := HLM.out; omega) (Nat.le_of_lt hlt) qq (W := W))
  have LS := Lib.hid (fun W qq => less_d HA.out HB.out (W := W) (by have := HLN.out; omega) qq)
  rw [← hln, ← hlm] at TM LS
  have LS1 := LS.out
  rw [decide_eq_true hlt] at LS1
  have LT := Lib.hid LS1
  clear LS LS1
  clear SG0 h h' hl hl' hw3 q hln hlm hK hs
  go_enter Try.func51, Try.ntmps51
  go_upto_region 4 with fail
  obtain ⟨w3, hw3⟩ : ∃ x, x = ((((w.alloc (.cells #[.bool true, .slice A ln c] 43)).alloc (.cells #[.bool false, .slice A' lm c'] 43)).alloc (.cells #[.bool false, .slice none 0 0] 43)).alloc (.cells #[.bool false, .slice none 0 0] 43)) := ⟨_, rfl⟩; rw [← hw3]
  have ya_3 : Hid (BoxN w3 w.heap.size true (.slice A ln c)) := Lib.hid (by rw [hw3]; exact (((BoxN.make w true (.slice A ln c) rfl).alloc _).alloc _).alloc _)
  have yb_3 : Hid (BoxN w3 (w.heap.size + 1) false (.slice A' lm c')) := Lib.hid (by rw [hw3]; exact ((BoxN.make _ false (.slice A' lm c') (by simp)).alloc _).alloc _)
  have yr_3 : Hid (BoxN w3 (w.heap.size + 1 + 1) false (.slice none 0 0)) := Lib.hid (by rw [hw3]; exact (BoxN.make _ false (.slice none 0 0) (by simp)).alloc _)
  have yx_3 : Hid (BoxN w3 (w.heap.size + 1 + 1 + 1) false (.slice none 0 0)) := Lib.hid (by rw [hw3]; exact BoxN.make _ false (.slice none 0 0) (by simp))
  rw [← hw3] at HA HB HW3 TM LT
  clear hw3
  have ya_4 := Lib.hid (ya_3.out); have ya_40 := ya_4.out.c0; have ya_41 := ya_4.out.c1; have ya_42 := ya_4.out.f0; have ya_43 := ya_4.out.f1; have ya_4z := ya_4.out.z
  have yb_4 := Lib.hid (yb_3.out); have yb_40 := yb_4.out.c0; have yb_41 := yb_4.out.c1; have yb_42 := yb_4.out.f0; have yb_43 := yb_4.out.f1; have yb_4z := yb_4.out.z
  have yr_4 := Lib.hid (yr_3.out); have yr_40 := yr_4.out.c0; have yr_41 := yr_4.out.c1; have yr_42 := yr_4.out.f0; have yr_43 := yr_4.out.f1; have yr_4z := yr_4.out.z
  have yx_4 := Lib.hid (yx_3.out); have yx_40 := yx_4.out.c0; have yx_41 := yx_4.out.c1; have yx_42 := yx_4.out.f0; have yx_43 := yx_4.out.f1; have yx_4z := yx_4.out.z
  clear ya_3 yb_3 yr_3 yx_3
  go_upto_region 5 with (first | (go_at_call 62; (with_reducible refine (LT.out _ (by repeat' (first | (with_reducible exact Below.refl _ _) | (with_reducible refine Below.drew ?_) | (with_reducible refine below_drewN ?_ _)))).mono ?_); rintro e w4 ⟨rfl, b4⟩; have p4 : Below w3.heap.size w3 w4 := Below.trans (by repeat' (first | (with_reducible assumption) | (with_reducible exact Below.refl _ _) | (with_reducible refine Below.drew ?_) | (with_reducible refine below_drewN ?_ _) | (with_reducible refine Below.alloc ?_ ?_ _) | (with_reducible exact Nat.le_refl _) | (simp; done) | (simp; omega) | omega)) (Below.mono b4 (by first | omega | (simp; done) | (simp; omega))); have ya_44 := Lib.hid (BoxN.below ya_4.out p4); have ya_440 := ya_44.out.c0; have ya_441 := ya_44.out.c1; have ya_442 := ya_44.out.f0; have ya_443 := ya_44.out.f1; have ya_44z := ya_44.out.z; have yb_44 := Lib.hid (BoxN.below yb_4.out p4); have yb_440 := yb_44.out.c0; have yb_441 := yb_44.out.c1; have yb_442 := yb_44.out.f0; have yb_443 := yb_44.out.f1; have yb_44z := yb_44.out.z; have yr_44 := Lib.hid (BoxN.below yr_4.out p4); have yr_440 := yr_44.out.c0; have yr_441 := yr_44.out.c1; have yr_442 := yr_44.out.f0; have yr_443 := yr_44.out.f1; have yr_44z := yr_44.out.z; have yx_44 := Lib.hid (BoxN.below yx_4.out p4); have yx_440 := yx_44.out.c0; have yx_441 := yx_44.out.c1; have yx_442 := yx_44.out.f0; have yx_443 := yx_44.out.f1; have yx_44z := yx_44.out.z))
  have z4 := p4.size
  go_region_held3 (fun w' => w'.cell? ⟨w.heap.size, 0, none⟩ = some (.bool true) ∧ w'.cell? ⟨w.heap.size, 1, none⟩ = some ((.slice A ln c)) ∧ w'.cell? ⟨w.heap.size + 1, 0, none⟩ = some (.bool false) ∧ w'.cell? ⟨w.heap.size + 1, 1, none⟩ = some ((.slice A' lm c'))) ((and_intros <;> (first | (with_reducible assumption) | (go_simp; done) | (simp (maxDischargeDepth := 12) [go_sem]; done) | (simp (maxDischargeDepth := 12) [go_sem, *]; done) | exact (Below.cell (by with_reducible assumption) (by first | (simp; done) | (simp; omega) | omega)).trans (by simp (maxDischargeDepth := 12) [go_sem]))))
    (first
      | (go_at_call 76; (with_reducible refine (TM.out _ (by refine Below.trans p4 (Below.mono (B := w4.heap.size) ?_ z4); repeat' (first | (with_reducible exact Below.refl _ _) | (with_reducible refine Below.drew ?_) | (with_reducible refine below_drewN ?_ _)))).mono ?_); rintro e w5 ⟨⟨A5, c5, rfl, hd5⟩, b5⟩; have p5 : Below w4.heap.size w4 w5 := Below.trans (by repeat' (first | (with_reducible assumption) | (with_reducible exact Below.refl _ _) | (with_reducible refine Below.drew ?_) | (with_reducible refine below_drewN ?_ _) | (with_reducible refine Below.alloc ?_ ?_ _) | (with_reducible exact Nat.le_refl _) | (simp; done) | (simp; omega) | omega)) (Below.mono b5 (by first | omega | (simp; done) | (simp; omega))); have ya_5 := Lib.hid (BoxN.below ya_44.out p5); have ya_50 := ya_5.out.c0; have ya_51 := ya_5.out.c1; have ya_52 := ya_5.out.f0; have ya_53 := ya_5.out.f1; have ya_5z := ya_5.out.z; have yb_5 := Lib.hid (BoxN.below yb_44.out p5); have yb_50 := yb_5.out.c0; have yb_51 := yb_5.out.c1; have yb_52 := yb_5.out.f0; have yb_53 := yb_5.out.f1; have yb_5z := yb_5.out.z; have yr_5 := Lib.hid (BoxN.below yr_44.out p5); have yr_50 := yr_5.out.c0; have yr_51 := yr_5.out.c1; have yr_52 := yr_5.out.f0; have yr_53 := yr_5.out.f1; have yr_5z := yr_5.out.z; have yx_5 := Lib.hid (BoxN.below yx_44.out p5); have yx_50 := yx_5.out.c0; have yx_51 := yx_5.out.c1; have yx_52 := yx_5.out.f0; have yx_53 := yx_5.out.f1; have yx_5z := yx_5.out.z; have HD5 := Lib.hid hd5; clear hd5)
      | (go_at_call 68; (with_reducible refine (SG.out _ _ _).mono ?_); rintro e w6 ⟨rfl, b6⟩; have p6 : Below w5.heap.size w5 w6 := Below.trans (by repeat' (first | (with_reducible assumption) | (with_reducible exact Below.refl _ _) | (with_reducible refine Below.drew ?_) | (with_reducible refine below_drewN ?_ _) | (with_reducible refine Below.alloc ?_ ?_ _) | (with_reducible exact Nat.le_refl _) | (simp; done) | (simp; omega) | omega)) (Below.mono b6 (by first | omega | (simp; done) | (simp; omega))); have ya_6 := Lib.hid (BoxN.below ya_5.out p6); have ya_60 := ya_6.out.c0; have ya_61 := ya_6.out.c1; have ya_62 := ya_6.out.f0; have ya_63 := ya_6.out.f1; have ya_6z := ya_6.out.z; have yb_6 := Lib.hid (BoxN.below yb_5.out p6); have yb_60 := yb_6.out.c0; have yb_61 := yb_6.out.c1; have yb_62 := yb_6.out.f0; have yb_63 := yb_6.out.f1; have yb_6z := yb_6.out.z; have yr_6 := Lib.hid (BoxN.below yr_5.out p6); have yr_60 := yr_6.out.c0; have yr_61 := yr_6.out.c1; have yr_62 := yr_6.out.f0; have yr_63 := yr_6.out.f1; have yr_6z := yr_6.out.z; have yx_6 := Lib.hid (BoxN.below yx_5.out p6); have yx_60 := yx_6.out.c0; have yx_61 := yx_6.out.c1; have yx_62 := yx_6.out.f0; have yx_63 := yx_6.out.f1; have yx_6z := yx_6.out.z; have HD6 := Lib.hid (HD5.out.below p6)))
  have z5 := p5.size; have z6 := p6.size; have z3 := HW3.out.size
  have q6 : Below w.heap.size w w6 := HW3.out.trans (((p4.trans (p5.mono z4)).trans (p6.mono (Nat.le_trans z4 z5))).mono z3)
  go_upto_region 7 with fail
  have yx7 := yx_6.out.set2 (m := zn z) (A' := A5) (l' := (dg (M - N)).length) (c' := c5)
  have hd7 := HD6.out.box yx_6.out (m := zn z) (u := .slice A5 (dg (M - N)).length c5)
  have q7 : Below w.heap.size w ((w6.setCell ⟨w.heap.size + 1 + 1 + 1, 0, none⟩ (.bool (zn z))).setCell ⟨w.heap.size + 1 + 1 + 1, 1, none⟩ (.slice A5 (dg (M - N)).length c5)) := (q6.setCell (by simp; omega) _).setCell (by simp; omega) _
  have yr7 : BoxN ((w6.setCell ⟨w.heap.size + 1 + 1 + 1, 0, none⟩ (.bool (zn z))).setCell ⟨w.heap.size + 1 + 1 + 1, 1, none⟩ (.slice A5 (dg (M - N)).length c5)) (w.heap.size + 1 + 1) false (.slice none 0 0) := by
    constructor <;> (first | (simp (maxDischargeDepth := 12) [go_sem, *]; done) | (simp; omega))
  obtain ⟨w7, hw7⟩ : ∃ x, x = ((w6.setCell ⟨w.heap.size + 1 + 1 + 1, 0, none⟩ (.bool (zn z))).setCell ⟨w.heap.size + 1 + 1 + 1, 1, none⟩ (.slice A5 (dg (M - N)).length c5)) := ⟨_, rfl⟩; rw [← hw7]
  rw [← hw7] at yx7 hd7 q7 yr7
  clear hw7
  have yx_7 := Lib.hid (yx7); have yx_70 := yx_7.out.c0; have yx_71 := yx_7.out.c1; have yx_72 := yx_7.out.f0; have yx_73 := yx_7.out.f1; have yx_7z := yx_7.out.z
  have yr_7 := Lib.hid (yr7); have yr_70 := yr_7.out.c0; have yr_71 := yr_7.out.c1; have yr_72 := yr_7.out.f0; have yr_73 := yr_7.out.f1; have yr_7z := yr_7.out.z
  have HD7 := Lib.hid hd7; have HQ7 := Lib.hid q7
  clear yx7 yr7 hd7 q7
  clear ya_4 ya_40 ya_41 ya_42 ya_4z ya_43 yb_4 yb_40 yb_41 yb_42 yb_4z yb_43 yr_4 yr_40 yr_41 yr_42 yr_4z yr_43 yx_4 yx_40 yx_41 yx_42 yx_4z yx_43 ya_44 ya_440 ya_441 ya_442 ya_44z ya_443 yb_44 yb_440 yb_441 yb_442 yb_44z yb_443 yr_44 yr_440 yr_441 yr_442 yr_44z yr_443 yx_44 yx_440 yx_441 yx_442 yx_44z yx_443 ya_5 ya_50 ya_51 ya_52 ya_5z ya_53 yb_5 yb_50 yb_51 yb_52 yb_5z yb_53 yr_5 yr_50 yr_51 yr_52 yr_5z yr_53 yx_5 yx_50 yx_51 yx_52 yx_5z yx_53 ya_6 ya_60 ya_61 ya_62 ya_6z ya_63 yb_6 yb_60 yb_61 yb_62 yb_6z yb_63 yr_6 yr_60 yr_61 yr_62 yr_6z yr_63 yx_6 yx_60 yx_61 yx_62 yx_6z yx_63
  go_wp2_with (first | (go_at_call 72; (with_reducible refine (held_d HD7.out rfl HKZ.out (by repeat' (first | (with_reducible exact Below.refl _ _) | (with_reducible assumption) | (with_reducible refine Below.drew ?_) | (with_reducible refine below_drewN ?_ _) | (with_reducible refine Below.alloc ?_ ?_ _) | (with_reducible exact Nat.le_refl _) | (simp; done) | (simp; omega)))).mono ?_); rintro e w9 ⟨⟨A9, c9, rfl, hd9⟩, b9⟩; have p9 : Below w7.heap.size w7 w9 := Below.trans (by repeat' (first | (with_reducible assumption) | (with_reducible exact Below.refl _ _) | (with_reducible refine Below.drew ?_) | (with_reducible refine below_drewN ?_ _) | (with_reducible refine Below.alloc ?_ ?_ _) | (with_reducible exact Nat.le_refl _) | (simp; done) | (simp; omega) | omega)) (Below.mono b9 (by first | omega | (simp; done) | (simp; omega))); have yr_9 := Lib.hid (BoxN.below yr_7.out p9); have yr_90 := yr_9.out.c0; have yr_91 := yr_9.out.c1; have yr_92 := yr_9.out.f0; have yr_93 := yr_9.out.f1; have yr_9z := yr_9.out.z; have yx_9 := Lib.hid (BoxN.below yx_7.out p9); have yx_90 := yx_9.out.c0; have yx_91 := yx_9.out.c1; have yx_92 := yx_9.out.f0; have yx_93 := yx_9.out.f1; have yx_9z := yx_9.out.z; have HD9 := Lib.hid hd9; clear hd9))
  (try simp only [Exit.inBlock, Exit.then]); refine bodyPost_ret (by simp [results, Try.results51, go_sem, *]; try rfl) rfl ?_
  have q9 := HQ7.out.trans (p9.mono HQ7.out.size)
  exact ⟨⟨A9, c9, rfl, HD9.out.box yr_9.out⟩, (q9.setCell (by simp; omega) _).setCell (by simp; omega) _⟩
set_option maxRecDepth 100000 in
set_option maxHeartbeats 1600000 in
theorem radd_ge_t {A A' : Option Addr} {c c' N M : Nat} {z : Int} (w0 w : World) (h : DS1 w0 A c N) (h' : DS1 w0 A' c' M) (hl : (dg N).length ≤ 36) (hl' : (dg M).length ≤ 36) (q : Below w0.heap.size w0 w) (hge : ¬ N < M) (hs : (true && decide (0 < N - M)) = zn z) (hK : N - M = z.natAbs) :
  Calls Try.prog 51 #[.agg #[.bool true, .slice A (dg N).length c], .agg #[.bool false, .slice A' (dg M).length c']] w fun e w' => (∃ A2 c2, e = .returned (.tuple #[.agg #[.bool (zn (heldZ z)), .slice A2 (dg (heldZ z).natAbs).length c2], .int .i64 (heldC z)]) ∧ DS1 w' A2 c2 (heldZ z).natAbs) ∧ Below w.heap.size w w' := by
  have hw3 : Below w.heap.size w ((((w.alloc (.cells #[.bool true, .slice A (dg N).length c] 43)).alloc (.cells #[.bool false, .slice A' (dg M).length c'] 43)).alloc (.cells #[.bool false, .slice none 0 0] 43)).alloc (.cells #[.bool false, .slice none 0 0] 43)) := by (repeat' (first | (with_reducible exact Below.refl _ _) | (refine Below.trans ?_ (Below.mono (by with_reducible assumption) ?_)) | (with_reducible exact Below.refl _ _) | (with_reducible refine below_drewN ?_ _) | (with_reducible refine Below.drew ?_) | (with_reducible refine Below.setCell ?_ ?_ _) | (with_reducible refine Below.alloc ?_ ?_ _) | (with_reducible assumption) | (simp; done) | (simp; omega) | omega))
  have SG0 := fun W A' c' => signed_any (true) A' c' (N - M) W
  rw [hs] at SG0
  have HA := Lib.hid (h.below (q.trans (hw3.mono q.size))); have HB := Lib.hid (h'.below (q.trans (hw3.mono q.size)))
  have SG := Lib.hid SG0; have HLN := Lib.hid hl; have HLM := Lib.hid hl'; have HW3 := Lib.hid hw3; have HKZ := Lib.hid hK
  obtain ⟨ln, hln⟩ : ∃ ln, ln = (dg N).length := ⟨_, rfl⟩
  obtain ⟨lm, hlm⟩ : ∃ lm, lm = (dg M).length := ⟨_, rfl⟩
  rw [← hln, ← hlm] at HA HB HW3 ⊢
  have TM := Lib.hid (fun W qq => minus_d HA.out HB.out (by have := HLN.out; have := HLM.out; omega) (Nat.le_of_not_lt hge) qq (W := W))
  have LS := Lib.hid (fun W qq => less_d HA.out HB.out (W := W) (by have := HLN.out; omega) qq)
  rw [← hln, ← hlm] at TM LS
  have LS1 := LS.out
  rw [decide_eq_false hge] at LS1
  have LT := Lib.hid LS1
  clear LS LS1
  clear SG0 h h' hl hl' hw3 q hln hlm hK hs
  go_enter Try.func51, Try.ntmps51
  go_upto_region 4 with fail
  obtain ⟨w3, hw3⟩ : ∃ x, x = ((((w.alloc (.cells #[.bool true, .slice A ln c] 43)).alloc (.cells #[.bool false, .slice A' lm c'] 43)).alloc (.cells #[.bool false, .slice none 0 0] 43)).alloc (.cells #[.bool false, .slice none 0 0] 43)) := ⟨_, rfl⟩; rw [← hw3]
  have ya_3 : Hid (BoxN w3 w.heap.size true (.slice A ln c)) := Lib.hid (by rw [hw3]; exact (((BoxN.make w true (.slice A ln c) rfl).alloc _).alloc _).alloc _)
  have yb_3 : Hid (BoxN w3 (w.heap.size + 1) false (.slice A' lm c')) := Lib.hid (by rw [hw3]; exact ((BoxN.make _ false (.slice A' lm c') (by simp)).alloc _).alloc _)
  have yr_3 : Hid (BoxN w3 (w.heap.size + 1 + 1) false (.slice none 0 0)) := Lib.hid (by rw [hw3]; exact (BoxN.make _ false (.slice none 0 0) (by simp)).alloc _)
  have yx_3 : Hid (BoxN w3 (w.heap.size + 1 + 1 + 1) false (.slice none 0 0)) := Lib.hid (by rw [hw3]; exact BoxN.make _ false (.slice none 0 0) (by simp))
  rw [← hw3] at HA HB HW3 TM LT
  clear hw3
  have ya_4 := Lib.hid (ya_3.out); have ya_40 := ya_4.out.c0; have ya_41 := ya_4.out.c1; have ya_42 := ya_4.out.f0; have ya_43 := ya_4.out.f1; have ya_4z := ya_4.out.z
  have yb_4 := Lib.hid (yb_3.out); have yb_40 := yb_4.out.c0; have yb_41 := yb_4.out.c1; have yb_42 := yb_4.out.f0; have yb_43 := yb_4.out.f1; have yb_4z := yb_4.out.z
  have yr_4 := Lib.hid (yr_3.out); have yr_40 := yr_4.out.c0; have yr_41 := yr_4.out.c1; have yr_42 := yr_4.out.f0; have yr_43 := yr_4.out.f1; have yr_4z := yr_4.out.z
  have yx_4 := Lib.hid (yx_3.out); have yx_40 := yx_4.out.c0; have yx_41 := yx_4.out.c1; have yx_42 := yx_4.out.f0; have yx_43 := yx_4.out.f1; have yx_4z := yx_4.out.z
  clear ya_3 yb_3 yr_3 yx_3
  go_upto_region 6 with (first | (go_at_call 62; (with_reducible refine (LT.out _ (by repeat' (first | (with_reducible exact Below.refl _ _) | (with_reducible refine Below.drew ?_) | (with_reducible refine below_drewN ?_ _)))).mono ?_); rintro e w4 ⟨rfl, b4⟩; have p4 : Below w3.heap.size w3 w4 := Below.trans (by repeat' (first | (with_reducible assumption) | (with_reducible exact Below.refl _ _) | (with_reducible refine Below.drew ?_) | (with_reducible refine below_drewN ?_ _) | (with_reducible refine Below.alloc ?_ ?_ _) | (with_reducible exact Nat.le_refl _) | (simp; done) | (simp; omega) | omega)) (Below.mono b4 (by first | omega | (simp; done) | (simp; omega))); have ya_44 := Lib.hid (BoxN.below ya_4.out p4); have ya_440 := ya_44.out.c0; have ya_441 := ya_44.out.c1; have ya_442 := ya_44.out.f0; have ya_443 := ya_44.out.f1; have ya_44z := ya_44.out.z; have yb_44 := Lib.hid (BoxN.below yb_4.out p4); have yb_440 := yb_44.out.c0; have yb_441 := yb_44.out.c1; have yb_442 := yb_44.out.f0; have yb_443 := yb_44.out.f1; have yb_44z := yb_44.out.z; have yr_44 := Lib.hid (BoxN.below yr_4.out p4); have yr_440 := yr_44.out.c0; have yr_441 := yr_44.out.c1; have yr_442 := yr_44.out.f0; have yr_443 := yr_44.out.f1; have yr_44z := yr_44.out.z; have yx_44 := Lib.hid (BoxN.below yx_4.out p4); have yx_440 := yx_44.out.c0; have yx_441 := yx_44.out.c1; have yx_442 := yx_44.out.f0; have yx_443 := yx_44.out.f1; have yx_44z := yx_44.out.z))
  have z4 := p4.size
  go_region_held3 (fun w' => w'.cell? ⟨w.heap.size, 0, none⟩ = some (.bool true) ∧ w'.cell? ⟨w.heap.size, 1, none⟩ = some ((.slice A ln c)) ∧ w'.cell? ⟨w.heap.size + 1, 0, none⟩ = some (.bool false) ∧ w'.cell? ⟨w.heap.size + 1, 1, none⟩ = some ((.slice A' lm c'))) ((and_intros <;> (first | (with_reducible assumption) | (go_simp; done) | (simp (maxDischargeDepth := 12) [go_sem]; done) | (simp (maxDischargeDepth := 12) [go_sem, *]; done) | exact (Below.cell (by with_reducible assumption) (by first | (simp; done) | (simp; omega) | omega)).trans (by simp (maxDischargeDepth := 12) [go_sem]))))
    (first
      | (go_at_call 76; (with_reducible refine (TM.out _ (by refine Below.trans p4 (Below.mono (B := w4.heap.size) ?_ z4); repeat' (first | (with_reducible exact Below.refl _ _) | (with_reducible refine Below.drew ?_) | (with_reducible refine below_drewN ?_ _)))).mono ?_); rintro e w5 ⟨⟨A5, c5, rfl, hd5⟩, b5⟩; have p5 : Below w4.heap.size w4 w5 := Below.trans (by repeat' (first | (with_reducible assumption) | (with_reducible exact Below.refl _ _) | (with_reducible refine Below.drew ?_) | (with_reducible refine below_drewN ?_ _) | (with_reducible refine Below.alloc ?_ ?_ _) | (with_reducible exact Nat.le_refl _) | (simp; done) | (simp; omega) | omega)) (Below.mono b5 (by first | omega | (simp; done) | (simp; omega))); have ya_5 := Lib.hid (BoxN.below ya_44.out p5); have ya_50 := ya_5.out.c0; have ya_51 := ya_5.out.c1; have ya_52 := ya_5.out.f0; have ya_53 := ya_5.out.f1; have ya_5z := ya_5.out.z; have yb_5 := Lib.hid (BoxN.below yb_44.out p5); have yb_50 := yb_5.out.c0; have yb_51 := yb_5.out.c1; have yb_52 := yb_5.out.f0; have yb_53 := yb_5.out.f1; have yb_5z := yb_5.out.z; have yr_5 := Lib.hid (BoxN.below yr_44.out p5); have yr_50 := yr_5.out.c0; have yr_51 := yr_5.out.c1; have yr_52 := yr_5.out.f0; have yr_53 := yr_5.out.f1; have yr_5z := yr_5.out.z; have yx_5 := Lib.hid (BoxN.below yx_44.out p5); have yx_50 := yx_5.out.c0; have yx_51 := yx_5.out.c1; have yx_52 := yx_5.out.f0; have yx_53 := yx_5.out.f1; have yx_5z := yx_5.out.z; have HD5 := Lib.hid hd5; clear hd5)
      | (go_at_call 68; (with_reducible refine (SG.out _ _ _).mono ?_); rintro e w6 ⟨rfl, b6⟩; have p6 : Below w5.heap.size w5 w6 := Below.trans (by repeat' (first | (with_reducible assumption) | (with_reducible exact Below.refl _ _) | (with_reducible refine Below.drew ?_) | (with_reducible refine below_drewN ?_ _) | (with_reducible refine Below.alloc ?_ ?_ _) | (with_reducible exact Nat.le_refl _) | (simp; done) | (simp; omega) | omega)) (Below.mono b6 (by first | omega | (simp; done) | (simp; omega))); have ya_6 := Lib.hid (BoxN.below ya_5.out p6); have ya_60 := ya_6.out.c0; have ya_61 := ya_6.out.c1; have ya_62 := ya_6.out.f0; have ya_63 := ya_6.out.f1; have ya_6z := ya_6.out.z; have yb_6 := Lib.hid (BoxN.below yb_5.out p6); have yb_60 := yb_6.out.c0; have yb_61 := yb_6.out.c1; have yb_62 := yb_6.out.f0; have yb_63 := yb_6.out.f1; have yb_6z := yb_6.out.z; have yr_6 := Lib.hid (BoxN.below yr_5.out p6); have yr_60 := yr_6.out.c0; have yr_61 := yr_6.out.c1; have yr_62 := yr_6.out.f0; have yr_63 := yr_6.out.f1; have yr_6z := yr_6.out.z; have yx_6 := Lib.hid (BoxN.below yx_5.out p6); have yx_60 := yx_6.out.c0; have yx_61 := yx_6.out.c1; have yx_62 := yx_6.out.f0; have yx_63 := yx_6.out.f1; have yx_6z := yx_6.out.z; have HD6 := Lib.hid (HD5.out.below p6)))
  have z5 := p5.size; have z6 := p6.size; have z3 := HW3.out.size
  have q6 : Below w.heap.size w w6 := HW3.out.trans (((p4.trans (p5.mono z4)).trans (p6.mono (Nat.le_trans z4 z5))).mono z3)
  go_upto_region 7 with fail
  have yx7 := yx_6.out.set2 (m := zn z) (A' := A5) (l' := (dg (N - M)).length) (c' := c5)
  have hd7 := HD6.out.box yx_6.out (m := zn z) (u := .slice A5 (dg (N - M)).length c5)
  have q7 : Below w.heap.size w ((w6.setCell ⟨w.heap.size + 1 + 1 + 1, 0, none⟩ (.bool (zn z))).setCell ⟨w.heap.size + 1 + 1 + 1, 1, none⟩ (.slice A5 (dg (N - M)).length c5)) := (q6.setCell (by simp; omega) _).setCell (by simp; omega) _
  have yr7 : BoxN ((w6.setCell ⟨w.heap.size + 1 + 1 + 1, 0, none⟩ (.bool (zn z))).setCell ⟨w.heap.size + 1 + 1 + 1, 1, none⟩ (.slice A5 (dg (N - M)).length c5)) (w.heap.size + 1 + 1) false (.slice none 0 0) := by
    constructor <;> (first | (simp (maxDischargeDepth := 12) [go_sem, *]; done) | (simp; omega))
  obtain ⟨w7, hw7⟩ : ∃ x, x = ((w6.setCell ⟨w.heap.size + 1 + 1 + 1, 0, none⟩ (.bool (zn z))).setCell ⟨w.heap.size + 1 + 1 + 1, 1, none⟩ (.slice A5 (dg (N - M)).length c5)) := ⟨_, rfl⟩; rw [← hw7]
  rw [← hw7] at yx7 hd7 q7 yr7
  clear hw7
  have yx_7 := Lib.hid (yx7); have yx_70 := yx_7.out.c0; have yx_71 := yx_7.out.c1; have yx_72 := yx_7.out.f0; have yx_73 := yx_7.out.f1; have yx_7z := yx_7.out.z
  have yr_7 := Lib.hid (yr7); have yr_70 := yr_7.out.c0; have yr_71 := yr_7.out.c1; have yr_72 := yr_7.out.f0; have yr_73 := yr_7.out.f1; have yr_7z := yr_7.out.z
  have HD7 := Lib.hid hd7; have HQ7 := Lib.hid q7
  clear yx7 yr7 hd7 q7
  clear ya_4 ya_40 ya_41 ya_42 ya_4z ya_43 yb_4 yb_40 yb_41 yb_42 yb_4z yb_43 yr_4 yr_40 yr_41 yr_42 yr_4z yr_43 yx_4 yx_40 yx_41 yx_42 yx_4z yx_43 ya_44 ya_440 ya_441 ya_442 ya_44z ya_443 yb_44 yb_440 yb_441 yb_442 yb_44z yb_443 yr_44 yr_440 yr_441 yr_442 yr_44z yr_443 yx_44 yx_440 yx_441 yx_442 yx_44z yx_443 ya_5 ya_50 ya_51 ya_52 ya_5z ya_53 yb_5 yb_50 yb_51 yb_52 yb_5z yb_53 yr_5 yr_50 yr_51 yr_52 yr_5z yr_53 yx_5 yx_50 yx_51 yx_52 yx_5z yx_53 ya_6 ya_60 ya_61 ya_62 ya_6z ya_63 yb_6 yb_60 yb_61 yb_62 yb_6z yb_63 yr_6 yr_60 yr_61 yr_62 yr_6z yr_63 yx_6 yx_60 yx_61 yx_62 yx_6z yx_63
  go_wp2_with (first | (go_at_call 72; (with_reducible refine (held_d HD7.out rfl HKZ.out (by repeat' (first | (with_reducible exact Below.refl _ _) | (with_reducible assumption) | (with_reducible refine Below.drew ?_) | (with_reducible refine below_drewN ?_ _) | (with_reducible refine Below.alloc ?_ ?_ _) | (with_reducible exact Nat.le_refl _) | (simp; done) | (simp; omega)))).mono ?_); rintro e w9 ⟨⟨A9, c9, rfl, hd9⟩, b9⟩; have p9 : Below w7.heap.size w7 w9 := Below.trans (by repeat' (first | (with_reducible assumption) | (with_reducible exact Below.refl _ _) | (with_reducible refine Below.drew ?_) | (with_reducible refine below_drewN ?_ _) | (with_reducible refine Below.alloc ?_ ?_ _) | (with_reducible exact Nat.le_refl _) | (simp; done) | (simp; omega) | omega)) (Below.mono b9 (by first | omega | (simp; done) | (simp; omega))); have yr_9 := Lib.hid (BoxN.below yr_7.out p9); have yr_90 := yr_9.out.c0; have yr_91 := yr_9.out.c1; have yr_92 := yr_9.out.f0; have yr_93 := yr_9.out.f1; have yr_9z := yr_9.out.z; have yx_9 := Lib.hid (BoxN.below yx_7.out p9); have yx_90 := yx_9.out.c0; have yx_91 := yx_9.out.c1; have yx_92 := yx_9.out.f0; have yx_93 := yx_9.out.f1; have yx_9z := yx_9.out.z; have HD9 := Lib.hid hd9; clear hd9))
  (try simp only [Exit.inBlock, Exit.then]); refine bodyPost_ret (by simp [results, Try.results51, go_sem, *]; try rfl) rfl ?_
  have q9 := HQ7.out.trans (p9.mono HQ7.out.size)
  exact ⟨⟨A9, c9, rfl, HD9.out.box yr_9.out⟩, (q9.setCell (by simp; omega) _).setCell (by simp; omega) _⟩
theorem radd_d {n m : Bool} {A A' : Option Addr} {c c' : Nat} {za zb : Int} (hn : n = zn za) (hm : m = zn zb) (w0 w : World) (h : DS1 w0 A c za.natAbs) (h' : DS1 w0 A' c' zb.natAbs) (hl : (dg za.natAbs).length ≤ 36) (hl' : (dg zb.natAbs).length ≤ 36) (q : Below w0.heap.size w0 w) :
    Calls Try.prog 51 #[.agg #[.bool n, .slice A (dg za.natAbs).length c], .agg #[.bool m, .slice A' (dg zb.natAbs).length c']] w fun e w' => (∃ A2 c2, e = .returned (.tuple #[.agg #[.bool (zn (heldZ (za + zb))), .slice A2 (dg (heldZ (za + zb)).natAbs).length c2], .int .i64 (heldC (za + zb))]) ∧ DS1 w' A2 c2 (heldZ (za + zb)).natAbs) ∧ Below w.heap.size w w' := by
  by_cases hnm : n = m
  · obtain ⟨h1, h2⟩ := add_same_zn (za := za) (zb := zb) (by rw [← hn, ← hm]; exact hnm)
    exact radd_same w0 w h h' hl hl' q hnm (by rw [hn]; exact h1) h2
  · have hne : zn za ≠ zn zb := by rw [← hn, ← hm]; exact hnm
    by_cases hlt : za.natAbs < zb.natAbs
    · obtain ⟨h1, h2⟩ := add_lt_zn hne hlt
      rw [← hm] at h1
      cases n <;> cases m
      · exact absurd rfl hnm
      · exact radd_lt_f w0 w h h' hl hl' q hlt h1 h2
      · exact radd_lt_t w0 w h h' hl hl' q hlt h1 h2
      · exact absurd rfl hnm
    · obtain ⟨h1, h2⟩ := add_ge_zn hne hlt
      rw [← hn] at h1
      cases n <;> cases m
      · exact absurd rfl hnm
      · exact radd_ge_f w0 w h h' hl hl' q hlt h1 h2
      · exact radd_ge_t w0 w h h' hl hl' q hlt h1 h2
      · exact absurd rfl hnm
end Go.Proofs.Ytdmifldjeiabdaa
