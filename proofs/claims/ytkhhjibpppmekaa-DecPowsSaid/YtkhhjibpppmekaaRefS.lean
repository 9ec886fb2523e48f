/- fieldfareref01: Mod, Div. -/
import Derived.Test.YtkhhjibpppmekaaRefP
import Derived.Test.YtkhhjibpppmekaaDecH
import Derived.Test.YtkhhjibpppmekaaDecG
namespace Go.Proofs.Ytkhhjibpppmekaa
open Go.RowKit
theorem mod_zn (a b : Int) : zn (a.tmod b) = (zn a && decide (0 < (a.tmod b).natAbs)) := by
  rcases tmod_sign (n := zn a) (za := a) (zb := b) rfl with h | h
  · rw [h]; simp [zn]
  · rw [show zn (a.tmod b) = decide (a.tmod b < 0) from rfl, ← h]
    cases hz : zn a
    · rfl
    · rw [hz] at h
      symm at h; rw [decide_eq_true_eq] at h
      symm; rw [Bool.true_and, decide_eq_true_eq]; omega
theorem div_zn (a b : Int) (hb : b ≠ 0) : zn (divZ a b) = ((!zn a == zn b) && decide (0 < (divZ a b).natAbs)) := by
  rcases div_sign (n := zn a) (m := zn b) (za := a) (zb := b) rfl rfl hb with h | h
  · rw [h]; simp [zn]
  · rw [show zn (divZ a b) = decide (divZ a b < 0) from rfl, ← h]
    cases hz : (!zn a == zn b)
    · rfl
    · rw [hz] at h
      symm at h; rw [decide_eq_true_eq] at h
      symm; rw [Bool.true_and, decide_eq_true_eq]; omega
theorem divZ_nat (a b : Int) : (divZ a b).natAbs = a.natAbs * 1000000 / b.natAbs := by
  unfold divZ
  rw [Int.natAbs_tdiv, Int.natAbs_mul]; rfl
theorem dg_million : dg 1000000 = [0, 0, 0, 0, 0, 0, 1] := by decide
set_option maxRecDepth 100000 in
set_option maxHeartbeats 400000 in
theorem rdiv_zero (n m : Bool) (A A' : Option Addr) (l c c' : Nat) (w : World) :
    Calls Try.prog 56 #[.agg #[.bool n, .slice A l c], .agg #[.bool m, .slice A' 0 c']] w fun e w' => e = .returned (.tuple #[.agg #[.bool false, .slice none 0 0], .int .i64 3]) ∧ Below w.heap.size w w' := by
  go_enter Try.func56, Try.ntmps56
  go_wp2_with fail
  go_returns
  exact ⟨rfl, by (repeat' (first | (with_reducible exact Below.refl _ _) | (refine Below.trans ?_ (Below.mono (by with_reducible assumption) ?_)) | (with_reducible exact Below.refl _ _) | (with_reducible refine below_drewN ?_ _) | (with_reducible refine Below.drew ?_) | (with_reducible refine Below.setCell ?_ ?_ _) | (with_reducible refine Below.alloc ?_ ?_ _) | (with_reducible assumption) | (simp; done) | (simp; omega) | omega))⟩
theorem ds_million (W : World) : DS1 (W.alloc (.cells #[.int .i64 0, .int .i64 0, .int .i64 0, .int .i64 0, .int .i64 0, .int .i64 0, .int .i64 1] 3)) (some ⟨W.heap.size, 0, none⟩) 7 1000000 := by
  unfold DS1
  rw [dg_million]
  refine ⟨?_, by simp, fun e => by cases e⟩
  have := ri_row W [0, 0, 0, 0, 0, 0, 1] 3 (0, 0)
  exact this.more (by simp)
set_option maxRecDepth 100000 in
set_option maxHeartbeats 1600000 in
theorem rdiv_d {n m : Bool} {A A' : Option Addr} {c c' : Nat} {za zb : Int} (hn : n = zn za) (hm : m = zn zb) (hz : zb ≠ 0) (w0 w : World) (h : DS1 w0 A c za.natAbs) (h' : DS1 w0 A' c' zb.natAbs) (hl : (dg za.natAbs).length ≤ 36) (hl' : (dg zb.natAbs).length ≤ 36) (q : Below w0.heap.size w0 w) :
    Calls Try.prog 56 #[.agg #[.bool n, .slice A (dg za.natAbs).length c], .agg #[.bool m, .slice A' (dg zb.natAbs).length c']] w fun e w' => (∃ A2 c2, e = .returned (.tuple #[.agg #[.bool (zn (heldZ (divZ za zb))), .slice A2 (dg (heldZ (divZ za zb)).natAbs).length c2], .int .i64 (heldC (divZ za zb))]) ∧ DS1 w' A2 c2 (heldZ (divZ za zb)).natAbs) ∧ Below w.heap.size w w' := by
  have hzz := div_zn za zb hz
  have hK := divZ_nat za zb
  rw [← hn, ← hm, hK] at hzz
  have hM : zb.natAbs ≠ 0 := by omega
  obtain ⟨N, hN⟩ : ∃ N, N = za.natAbs := ⟨_, rfl⟩
  obtain ⟨M, hMM⟩ : ∃ M, M = zb.natAbs := ⟨_, rfl⟩
  rw [← hN] at h hl
  rw [← hMM] at h' hl' hM
  rw [← hN, ← hMM] at hzz hK ⊢
  have SG0 := fun W A' c' => signed_any (!n == m) A' c' (N * 1000000 / M) W
  rw [← hzz] at SG0
  have hw3 : Below w.heap.size w (((w.alloc (.cells #[.bool n, .slice A (dg N).length c] 34)).alloc (.cells #[.bool m, .slice A' (dg M).length c'] 34)).alloc (.cells #[.bool false, .slice none 0 0] 34)) := by (repeat' (first | (with_reducible exact Below.refl _ _) | (refine Below.trans ?_ (Below.mono (by with_reducible assumption) ?_)) | (with_reducible exact Below.refl _ _) | (with_reducible refine below_drewN ?_ _) | (with_reducible refine Below.drew ?_) | (with_reducible refine Below.setCell ?_ ?_ _) | (with_reducible refine Below.alloc ?_ ?_ _) | (with_reducible assumption) | (simp; done) | (simp; omega) | omega))
  have hm4 := ds_million (((w.alloc (.cells #[.bool n, .slice A (dg N).length c] 34)).alloc (.cells #[.bool m, .slice A' (dg M).length c'] 34)).alloc (.cells #[.bool false, .slice none 0 0] 34))
  have hw4 := hw3.trans (((Below.refl (((w.alloc (.cells #[.bool n, .slice A (dg N).length c] 34)).alloc (.cells #[.bool m, .slice A' (dg M).length c'] 34)).alloc (.cells #[.bool false, .slice none 0 0] 34)).heap.size _).alloc (Nat.le_refl _) (.cells #[.int .i64 0, .int .i64 0, .int .i64 0, .int .i64 0, .int .i64 0, .int .i64 0, .int .i64 1] 3)).mono hw3.size)
  have HA := Lib.hid (h.below (q.trans (hw4.mono q.size))); have HB := Lib.hid (h'.below (q.trans (hw4.mono q.size)))
  have SG := Lib.hid SG0; have HW4 := Lib.hid hw4; have HKZ := Lib.hid hK
  have hlm0 : 0 < (dg M).length := dg_len_pos hM
  have h7 : (dg 1000000).length = 7 := by rw [dg_million]; rfl
  have hlp : (dg (N * 1000000)).length ≤ 100 := by
    refine dg_len_bound ?_
    have h1 := dg_len_lt hl
    have h2 : N * 1000000 < 10 ^ 36 * 1000000 := Nat.mul_lt_mul_of_pos_right h1 (by decide)
    exact Nat.lt_of_lt_of_le h2 (by decide)
  have TM0 := fun W qq => times_d (W := W) HA.out hm4 (by omega) (by omega) qq
  rw [h7] at TM0
  have OV0 := fun A5 c5 w5 p5 (hd : DS1 w5 A5 c5 (N * 1000000)) W qq => over_d (W1 := w5) (W2 := w5) (W := W) hd (Below.refl _ _) (HB.out.below p5) hM (by omega) (by omega) qq
  have OV := Lib.hid OV0; have TM := Lib.hid TM0
  obtain ⟨ln, hln⟩ : ∃ ln, ln = (dg N).length := ⟨_, rfl⟩
  obtain ⟨lm, hlm⟩ : ∃ lm, lm = (dg M).length := ⟨_, rfl⟩
  rw [← hln, ← hlm] at OV TM HW4 ⊢
  rw [← hlm] at hlm0
  have hlm1 : ((lm : Int) == 0) = false := by rw [beq_eq_false_iff_ne]; omega
  have hsz : (((w.alloc (.cells #[.bool n, .slice A ln c] 34)).alloc (.cells #[.bool m, .slice A' lm c'] 34)).alloc (.cells #[.bool false, .slice none 0 0] 34)).heap.size = w.heap.size + 1 + 1 + 1 := by simp
  rw [hsz] at TM
  clear HA HB hzz hK hM hN hMM h h' hl hl' SG0 hw3 hw4 hm4 q hln hlm hn hm hz hlm0 TM0 OV0 h7 hlp hsz
  go_enter Try.func56, Try.ntmps56
  go_upto_region 4 with fail
  obtain ⟨w4, hw4⟩ : ∃ x, x = ((((w.alloc (.cells #[.bool n, .slice A ln c] 34)).alloc (.cells #[.bool m, .slice A' lm c'] 34)).alloc (.cells #[.bool false, .slice none 0 0] 34)).alloc (.cells #[.int .i64 0, .int .i64 0, .int .i64 0, .int .i64 0, .int .i64 0, .int .i64 0, .int .i64 1] 3)) := ⟨_, rfl⟩; rw [← hw4]
  have ya_0 : Hid (BoxN w4 w.heap.size n (.slice A ln c)) := Lib.hid (by rw [hw4]; exact (((BoxN.make w n (.slice A ln c) rfl).alloc _).alloc _).alloc _)
  have yb_0 : Hid (BoxN w4 (w.heap.size + 1) m (.slice A' lm c')) := Lib.hid (by rw [hw4]; exact ((BoxN.make _ m (.slice A' lm c') (by simp)).alloc _).alloc _)
  have yr_0 : Hid (BoxN w4 (w.heap.size + 1 + 1) false (.slice none 0 0)) := Lib.hid (by rw [hw4]; exact (BoxN.make _ false (.slice none 0 0) (by simp)).alloc _)
  rw [← hw4] at HW4 TM OV
  clear hw4
  have ya_4 := Lib.hid (ya_0.out); have ya_40 := ya_4.out.c0; have ya_41 := ya_4.out.c1; have ya_42 := ya_4.out.f0; have ya_43 := ya_4.out.f1; have ya_4z := ya_4.out.z
  have yb_4 := Lib.hid (yb_0.out); have yb_40 := yb_4.out.c0; have yb_41 := yb_4.out.c1; have yb_42 := yb_4.out.f0; have yb_43 := yb_4.out.f1; have yb_4z := yb_4.out.z
  have yr_4 := Lib.hid (yr_0.out); have yr_40 := yr_4.out.c0; have yr_41 := yr_4.out.c1; have yr_42 := yr_4.out.f0; have yr_43 := yr_4.out.f1; have yr_4z := yr_4.out.z
  clear ya_0 yb_0 yr_0
  go_region_held3 (fun w' => w'.cell? ⟨w.heap.size, 0, none⟩ = some (.bool n) ∧ w'.cell? ⟨w.heap.size, 1, none⟩ = some ((.slice A ln c)) ∧ w'.cell? ⟨w.heap.size + 1, 0, none⟩ = some (.bool m) ∧ w'.cell? ⟨w.heap.size + 1, 1, none⟩ = some ((.slice A' lm c'))) ((and_intros <;> (first | (with_reducible assumption) | (go_simp; done) | (simp (maxDischargeDepth := 12) [go_sem]; done) | (simp (maxDischargeDepth := 12) [go_sem, *]; done) | exact (Below.cell (by with_reducible assumption) (by first | (simp; done) | (simp; omega) | omega)).trans (by simp (maxDischargeDepth := 12) [go_sem]))))
    (first
      | (go_at_call 85; (with_reducible refine (TM.out _ (by repeat' (first | (with_reducible exact Below.refl _ _) | (with_reducible assumption) | (with_reducible refine Below.drew ?_) | (with_reducible refine below_drewN ?_ _) | (with_reducible refine Below.alloc ?_ ?_ _) | (with_reducible exact Nat.le_refl _) | (simp; done) | (simp; omega)))).mono ?_); rintro e w5 ⟨⟨A5, c5, rfl, hd5⟩, b5⟩; have p5 : Below w4.heap.size w4 w5 := Below.trans (by repeat' (first | (with_reducible assumption) | (with_reducible exact Below.refl _ _) | (with_reducible refine Below.drew ?_) | (with_reducible refine below_drewN ?_ _) | (with_reducible refine Below.alloc ?_ ?_ _) | (with_reducible exact Nat.le_refl _) | (simp; done) | (simp; omega) | omega)) (Below.mono b5 (by first | omega | (simp; done) | (simp; omega))); have ya_5 := Lib.hid (BoxN.below ya_4.out p5); have ya_50 := ya_5.out.c0; have ya_51 := ya_5.out.c1; have ya_52 := ya_5.out.f0; have ya_53 := ya_5.out.f1; have ya_5z := ya_5.out.z; have yb_5 := Lib.hid (BoxN.below yb_4.out p5); have yb_50 := yb_5.out.c0; have yb_51 := yb_5.out.c1; have yb_52 := yb_5.out.f0; have yb_53 := yb_5.out.f1; have yb_5z := yb_5.out.z; have yr_5 := Lib.hid (BoxN.below yr_4.out p5); have yr_50 := yr_5.out.c0; have yr_51 := yr_5.out.c1; have yr_52 := yr_5.out.f0; have yr_53 := yr_5.out.f1; have yr_5z := yr_5.out.z; have HD5 := Lib.hid hd5; clear hd5)
      | (go_at_call 86; (with_reducible refine (OV.out _ _ _ p5 HD5.out _ (by repeat' (first | (with_reducible exact Below.refl _ _) | (with_reducible assumption) | (with_reducible refine Below.drew ?_) | (with_reducible refine below_drewN ?_ _) | (with_reducible refine Below.alloc ?_ ?_ _) | (with_reducible exact Nat.le_refl _) | (simp; done) | (simp; omega)))).mono ?_); rintro e w6 ⟨⟨A6, c6, A7, c7, rfl, hd6, hd7⟩, b6⟩; have p6 : Below w5.heap.size w5 w6 := Below.trans (by repeat' (first | (with_reducible assumption) | (with_reducible exact Below.refl _ _) | (with_reducible refine Below.drew ?_) | (with_reducible refine below_drewN ?_ _) | (with_reducible refine Below.alloc ?_ ?_ _) | (with_reducible exact Nat.le_refl _) | (simp; done) | (simp; omega) | omega)) (Below.mono b6 (by first | omega | (simp; done) | (simp; omega))); have ya_6 := Lib.hid (BoxN.below ya_5.out p6); have ya_60 := ya_6.out.c0; have ya_61 := ya_6.out.c1; have ya_62 := ya_6.out.f0; have ya_63 := ya_6.out.f1; have ya_6z := ya_6.out.z; have yb_6 := Lib.hid (BoxN.below yb_5.out p6); have yb_60 := yb_6.out.c0; have yb_61 := yb_6.out.c1; have yb_62 := yb_6.out.f0; have yb_63 := yb_6.out.f1; have yb_6z := yb_6.out.z; have yr_6 := Lib.hid (BoxN.below yr_5.out p6); have yr_60 := yr_6.out.c0; have yr_61 := yr_6.out.c1; have yr_62 := yr_6.out.f0; have yr_63 := yr_6.out.f1; have yr_6z := yr_6.out.z; have HD6 := Lib.hid hd6; clear hd6 hd7))
  go_wp2_with (first
    | (go_at_call 83; (with_reducible refine (SG.out _ _ _).mono ?_); rintro e w8 ⟨rfl, b8⟩; have p8 : Below w6.heap.size w6 w8 := Below.trans (by repeat' (first | (with_reducible assumption) | (with_reducible exact Below.refl _ _) | (with_reducible refine Below.drew ?_) | (with_reducible refine below_drewN ?_ _) | (with_reducible refine Below.alloc ?_ ?_ _) | (with_reducible exact Nat.le_refl _) | (simp; done) | (simp; omega) | omega)) (Below.mono b8 (by first | omega | (simp; done) | (simp; omega))); have ya_8 := Lib.hid (BoxN.below ya_6.out p8); have ya_80 := ya_8.out.c0; have ya_81 := ya_8.out.c1; have ya_82 := ya_8.out.f0; have ya_83 := ya_8.out.f1; have ya_8z := ya_8.out.z; have yb_8 := Lib.hid (BoxN.below yb_6.out p8); have yb_80 := yb_8.out.c0; have yb_81 := yb_8.out.c1; have yb_82 := yb_8.out.f0; have yb_83 := yb_8.out.f1; have yb_8z := yb_8.out.z; have yr_8 := Lib.hid (BoxN.below yr_6.out p8); have yr_80 := yr_8.out.c0; have yr_81 := yr_8.out.c1; have yr_82 := yr_8.out.f0; have yr_83 := yr_8.out.f1; have yr_8z := yr_8.out.z; have HD8 := Lib.hid (HD6.out.below p8))
    | (go_at_call 84; (with_reducible refine (held_d HD8.out rfl HKZ.out.symm (by repeat' (first | (with_reducible exact Below.refl _ _) | (with_reducible assumption) | (with_reducible refine Below.drew ?_) | (with_reducible refine below_drewN ?_ _) | (with_reducible refine Below.alloc ?_ ?_ _) | (with_reducible exact Nat.le_refl _) | (simp; done) | (simp; omega)))).mono ?_); rintro e w9 ⟨⟨A9, c9, rfl, hd9⟩, b9⟩; have p9 : Below w8.heap.size w8 w9 := Below.trans (by repeat' (first | (with_reducible assumption) | (with_reducible exact Below.refl _ _) | (with_reducible refine Below.drew ?_) | (with_reducible refine below_drewN ?_ _) | (with_reducible refine Below.alloc ?_ ?_ _) | (with_reducible exact Nat.le_refl _) | (simp; done) | (simp; omega) | omega)) (Below.mono b9 (by first | omega | (simp; done) | (simp; omega))); have ya_9 := Lib.hid (BoxN.below ya_8.out p9); have ya_90 := ya_9.out.c0; have ya_91 := ya_9.out.c1; have ya_92 := ya_9.out.f0; have ya_93 := ya_9.out.f1; have ya_9z := ya_9.out.z; have yb_9 := Lib.hid (BoxN.below yb_8.out p9); have yb_90 := yb_9.out.c0; have yb_91 := yb_9.out.c1; have yb_92 := yb_9.out.f0; have yb_93 := yb_9.out.f1; have yb_9z := yb_9.out.z; have yr_9 := Lib.hid (BoxN.below yr_8.out p9); have yr_90 := yr_9.out.c0; have yr_91 := yr_9.out.c1; have yr_92 := yr_9.out.f0; have yr_93 := yr_9.out.f1; have yr_9z := yr_9.out.z; have HD9 := Lib.hid hd9; clear hd9))
  (try simp only [Exit.inBlock, Exit.then]); refine bodyPost_ret (by simp [results, Try.results56, go_sem, *]; try rfl) rfl ?_
  have z4 := HW4.out.size; have z5 := p5.size; have z6 := p6.size; have z8 := p8.size
  have q9 : Below w.heap.size w w9 := HW4.out.trans ((p5.trans ((p6.trans ((p8.trans (p9.mono z8)).mono z6)).mono z5)).mono z4)
  exact ⟨⟨A9, c9, rfl, HD9.out.box yr_9.out⟩, (q9.setCell (by simp; omega) _).setCell (by simp; omega) _⟩
end Go.Proofs.Ytkhhjibpppmekaa
