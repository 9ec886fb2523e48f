/- fieldfarelaw01.DecTruncs: the walk. -/
import Derived.Test.YtdmifldjeiabdaaLawC
namespace Go.Proofs.Ytdmifldjeiabdaa
open Go.RowKit
theorem rest_lt (z : Int) : (((z.tmod 1000000).natAbs : Nat) : Int) < 1000000 := by
  rw [Int.natAbs_tmod]
  have := Nat.mod_lt z.natAbs (show 0 < (1000000 : Int).natAbs by decide)
  omega
theorem small_words {r : Int} (h : ((r.natAbs : Nat) : Int) < 1000000) : zh r = 0 ∧ zl r = r.natAbs := by
  unfold zh zl; omega
theorem tmod_zn {n : Bool} {z : Int} (hn : n = decide (z < 0)) (h : z.tmod 1000000 ≠ 0) : zn (z.tmod 1000000) = n := by
  rcases tmod_sign (zb := 1000000) hn with h1 | h1
  · exact absurd h1 h
  · exact h1.symm
set_option maxRecDepth 100000 in
set_option maxHeartbeats 6400000 in
theorem truncs_law (n : Bool) (ha la : Int) (w : World) (wa : Wd ha) (xa : Wd la) :
    Calls Try.prog 11 #[.agg #[.bool n, .int .u64 ha, .int .u64 la]] w fun e w' => e = .returned (.bool true) ∧ Below w.heap.size w w' := by
  rcases good_split n ha la wa xa with ga | ⟨za, ia⟩
  · clear wa xa
    go_enter Try.func11, Try.ntmps11
    go_wp2_with (first
      | (go_at_call 32; refine (awake1_any _).mono ?_; rintro e w1 ⟨rfl, b1⟩; have xa_1 : Hid (BoxD w1 (w.heap.size) n ha la) := Lib.hid (BoxD.below (BoxD.make w n ha la (by simp)) b1); have xa_10 := xa_1.out.c0; have xa_11 := xa_1.out.c1; have xa_12 := xa_1.out.c2; have xa_1z := xa_1.out.z)
      | (go_at_call 21; refine (good_any _ _ _ _).mono ?_; rintro e w2 ⟨rfl, rfl⟩))
    go_ret
    exact ⟨rfl, by (repeat' (first | (with_reducible exact Below.refl _ _) | (refine Below.trans ?_ (Below.mono (by with_reducible assumption) ?_)) | (with_reducible exact Below.refl _ _) | (with_reducible refine below_drewN ?_ _) | (with_reducible refine Below.drew ?_) | (with_reducible refine Below.setCell ?_ ?_ _) | (with_reducible refine Below.alloc ?_ ?_ _) | (with_reducible assumption) | (simp; done) | (simp; omega) | omega))⟩
  · have GA := Lib.hid (good_b n ha la (good_of ia))
    have TA := Lib.hid (fun W => trunc_ok n ha la za ia W)
    have hl := ia.2.2.2.2
    have hn := ia.2.2.2.1
    have htl : (((truncZ za).natAbs : Nat) : Int) < LIM := by have := trunc_abs_le za; omega
    have it := IsD.of htl
    have TT0 := fun W => trunc_ok _ _ _ _ it W
    rw [trunc_trunc] at TT0
    have TT := Lib.hid TT0
    have hrl := rest_lt za
    have hr3 : (((za.tmod 1000000).natAbs : Nat) : Int) < LIM := by unfold LIM; omega
    have SU := Lib.hid (fun W => sub_ok _ _ _ _ _ _ _ _ (za.tmod 1000000) ia it (rest_eq za).symm hr3 W)
    have MO := Lib.hid (fun W => mod_ok _ _ _ _ _ _ _ _ (za.tmod 1000000) ia isD_1 (by decide) rfl W)
    have ir := IsD.of hr3
    obtain ⟨e2, e3⟩ := small_words hrl
    obtain ⟨p, hp⟩ : ∃ p : Int, p = (((za.tmod 1000000).natAbs : Nat) : Int) := ⟨_, rfl⟩
    have hp1 : ((p.natAbs : Nat) : Int) < 1000000 := by omega
    have ip : IsD false 0 p p := isD_k p _ _ _ (by unfold zn; rw [decide_eq_false_iff_not]; omega) (small_words hp1).1 (by rw [(small_words hp1).2]; omega) (by unfold LIM; omega)
    have D1 := fun W => cmp_ok _ _ _ _ _ _ _ _ ip isD_1 W
    rw [show cmpZ p 1000000 = -1 by unfold cmpZ; rw [if_pos (by omega)]] at D1
    have D2 := fun W => cmp_ok _ _ _ _ _ _ _ _ ip isD_0 W
    have hK : 0 ≤ cmpZ p 0 := by unfold cmpZ; rw [if_neg (by omega)]; by_cases h : p = 0 <;> simp [h]
    obtain ⟨K, hKK⟩ : ∃ K, K = cmpZ p 0 := ⟨_, rfl⟩
    rw [← hKK] at D2 hK
    rw [e2, e3, ← hp] at SU MO ir
    have C1 := Lib.hid D1; have C2 := Lib.hid D2
    have NG := Lib.hid (fun W (h : zn (za.tmod 1000000) = true) => neg_ok _ _ _ _ (h ▸ ir) W)
    have hng : -(za.tmod 1000000) = p ∨ zn (za.tmod 1000000) = false := by
      cases h : zn (za.tmod 1000000)
      · exact .inr rfl
      · unfold zn at h; rw [decide_eq_true_eq] at h; left; omega
    have NP : zn (za.tmod 1000000) = true → Hid (∀ W, Calls Try.prog 35 #[.agg #[.bool true, .int .u64 0, .int .u64 p]] W fun e w' => e = .returned (.agg #[.bool false, .int .u64 0, .int .u64 p]) ∧ Below W.heap.size W w') := by
      intro h
      rcases hng with h1 | h1
      · have := fun W => NG.out W h
        rw [h1, ← ip.eq.1, ← ip.eq.2.1, ← ip.eq.2.2] at this
        exact Lib.hid this
      · rw [h] at h1; cases h1
    have hcas : (zn (za.tmod 1000000) = false ∧ p = 0) ∨ (zn (za.tmod 1000000) = n ∧ (p == 0) = false) := by
      by_cases h : za.tmod 1000000 = 0
      · left; rw [h]; exact ⟨by decide, by rw [hp, h]; rfl⟩
      · right; exact ⟨tmod_zn hn h, by rw [beq_eq_false_iff_ne]; omega⟩
    obtain ⟨rn, hrn⟩ : ∃ rn, rn = zn (za.tmod 1000000) := ⟨_, rfl⟩
    rw [← hrn] at SU MO hcas NP
    obtain ⟨tn, htn⟩ : ∃ tn, tn = zn (truncZ za) := ⟨_, rfl⟩
    obtain ⟨th, hth⟩ : ∃ th, th = zh (truncZ za) := ⟨_, rfl⟩
    obtain ⟨tl, htl⟩ : ∃ tl, tl = zl (truncZ za) := ⟨_, rfl⟩
    rw [← htn, ← hth, ← htl] at TA TT SU
    clear TT0 D1 D2 NG hng hrn htn hth htl hp ip hp1 ir e2 e3 hrl hr3 it hl hn ia hKK wa xa
    have hc3 : (rn = false ∧ p = 0) ∨ (n = false ∧ rn = false ∧ (p == 0) = false) ∨ (n = true ∧ rn = true ∧ (p == 0) = false) := by
      rcases hcas with ⟨h1, h2⟩ | ⟨h1, h2⟩
      · exact .inl ⟨h1, h2⟩
      · cases n
        · exact .inr (.inl ⟨rfl, h1, h2⟩)
        · exact .inr (.inr ⟨rfl, h1, h2⟩)
    have HC3 := Lib.hid hc3
    have I1 := Lib.hid int_1
    clear hcas hc3
    go_enter Try.func11, Try.ntmps11
    go_upto_region 7 with (first
      | (go_at_call 32; refine (awake1_any _).mono ?_; rintro e w1 ⟨rfl, b1⟩; have xa_1 : Hid (BoxD w1 (w.heap.size) n ha la) := Lib.hid (BoxD.below (BoxD.make w n ha la (by simp)) b1); have xa_10 := xa_1.out.c0; have xa_11 := xa_1.out.c1; have xa_12 := xa_1.out.c2; have xa_1z := xa_1.out.z)
      | (go_at_call 21; (with_reducible refine (GA.out _).mono ?_); rintro e w2 ⟨rfl, b2⟩; have p2 : Below w1.heap.size w1 w2 := Below.trans (by repeat' (first | (with_reducible assumption) | (with_reducible exact Below.refl _ _) | (with_reducible refine Below.drew ?_) | (with_reducible refine below_drewN ?_ _) | (with_reducible refine Below.alloc ?_ ?_ _) | (with_reducible exact Nat.le_refl _) | (simp; done) | (simp; omega) | omega)) (Below.mono b2 (by first | omega | (simp; done) | (simp; omega))); have xa_2 := Lib.hid (BoxD.below xa_1.out p2); have xa_20 := xa_2.out.c0; have xa_21 := xa_2.out.c1; have xa_22 := xa_2.out.c2; have xa_2z := xa_2.out.z)
      | (go_at_call 33; (with_reducible refine (TA.out _).mono ?_); rintro e w3 ⟨rfl, b3⟩; have p3 : Below w2.heap.size w2 w3 := Below.trans (by repeat' (first | (with_reducible assumption) | (with_reducible exact Below.refl _ _) | (with_reducible refine Below.drew ?_) | (with_reducible refine below_drewN ?_ _) | (with_reducible refine Below.alloc ?_ ?_ _) | (with_reducible exact Nat.le_refl _) | (simp; done) | (simp; omega) | omega)) (Below.mono b3 (by first | omega | (simp; done) | (simp; omega))); have xa_3 := Lib.hid (BoxD.below xa_2.out p3); have xa_30 := xa_3.out.c0; have xa_31 := xa_3.out.c1; have xa_32 := xa_3.out.c2; have xa_3z := xa_3.out.z)
      | (go_at_call 41; (with_reducible refine (SU.out _).mono ?_); rintro e w4 ⟨rfl, b4⟩; have p4 : Below w3.heap.size w3 w4 := Below.trans (by repeat' (first | (with_reducible assumption) | (with_reducible exact Below.refl _ _) | (with_reducible refine Below.drew ?_) | (with_reducible refine below_drewN ?_ _) | (with_reducible refine Below.alloc ?_ ?_ _) | (with_reducible exact Nat.le_refl _) | (simp; done) | (simp; omega) | omega)) (Below.mono b4 (by first | omega | (simp; done) | (simp; omega))); have xa_4 := Lib.hid (BoxD.below xa_3.out p4); have xa_40 := xa_4.out.c0; have xa_41 := xa_4.out.c1; have xa_42 := xa_4.out.c2; have xa_4z := xa_4.out.z; have xt_4 := Lib.hid (((BoxD.new w3 tn th tl).below b4)); have xt_40 := xt_4.out.c0; have xt_41 := xt_4.out.c1; have xt_42 := xt_4.out.c2; have xt_4z := xt_4.out.z))
    have p5 : Below w4.heap.size w4 (w4.alloc (.cells #[.bool rn, .int .u64 0, .int .u64 p] 24)) := (Below.refl _ _).alloc (Nat.le_refl _) _
    have HB : Below w.heap.size w (w4.alloc (.cells #[.bool rn, .int .u64 0, .int .u64 p] 24)) := by (repeat' (first | (with_reducible exact Below.refl _ _) | (refine Below.trans ?_ (Below.mono (by with_reducible assumption) ?_)) | (with_reducible exact Below.refl _ _) | (with_reducible refine below_drewN ?_ _) | (with_reducible refine Below.drew ?_) | (with_reducible refine Below.setCell ?_ ?_ _) | (with_reducible refine Below.alloc ?_ ?_ _) | (with_reducible assumption) | (simp; done) | (simp; omega) | omega))
    have hzw := HB.size
    have xd_5 := Lib.hid (BoxD.new w4 rn 0 p)
    have XF := Lib.hid (BoxF.make w4 rn 0 p (g := w4.heap.size) rfl)
    obtain ⟨w5, hw5⟩ : ∃ x, x = w4.alloc (.cells #[.bool rn, .int .u64 0, .int .u64 p] 24) := ⟨_, rfl⟩; rw [← hw5]
    rw [← hw5] at xd_5 p5 HB hzw XF
    clear hw5
    have HB := Lib.hid HB
    have xa_5 := Lib.hid (BoxD.below xa_4.out p5); have xa_50 := xa_5.out.c0; have xa_51 := xa_5.out.c1; have xa_52 := xa_5.out.c2; have xa_5z := xa_5.out.z; have xt_5 := Lib.hid (BoxD.below xt_4.out p5); have xt_50 := xt_5.out.c0; have xt_51 := xt_5.out.c1; have xt_52 := xt_5.out.c2; have xt_5z := xt_5.out.z
    clear GA TA SU
    go_cut [6, 7] from 21 to 26 (fun q f wx => ∃ g, q = .pointer (some ⟨g, 0, none⟩) ∧ f = .nilIface ∧ Hid (BoxD wx g rn 0 p) ∧ Hid (Below w5.heap.size w5 wx))
    case first =>
      go_region_held3 (fun w' => w'.cell? ⟨w.heap.size, 0, none⟩ = some (.bool n) ∧ w'.cell? ⟨w.heap.size, 1, none⟩ = some (.int .u64 ha) ∧ w'.cell? ⟨w.heap.size, 2, none⟩ = some (.int .u64 la)) ((and_intros <;> (first | (with_reducible assumption) | (go_simp; done) | (simp (maxDischargeDepth := 12) [go_sem]; done) | (simp (maxDischargeDepth := 12) [go_sem, *]; done) | exact (Below.cell (by with_reducible assumption) (by first | (simp; done) | (simp; omega) | omega)).trans (by simp (maxDischargeDepth := 12) [go_sem]))))
        (first
         | (go_at_call 25; (with_reducible refine (I1.out _).mono ?_); rintro e v1 ⟨rfl, q1⟩; have r1 : Below w5.heap.size w5 v1 := Below.trans (by repeat' (first | (with_reducible assumption) | (with_reducible exact Below.refl _ _) | (with_reducible refine Below.drew ?_) | (with_reducible refine below_drewN ?_ _) | (with_reducible refine Below.alloc ?_ ?_ _) | (with_reducible exact Nat.le_refl _) | (simp; done) | (simp; omega) | omega)) (Below.mono q1 (by first | omega | (simp; done) | (simp; omega))); have xa_v1 := Lib.hid (BoxD.below xa_5.out r1); have xa_v10 := xa_v1.out.c0; have xa_v11 := xa_v1.out.c1; have xa_v12 := xa_v1.out.c2; have xa_v1z := xa_v1.out.z; (try (have y1 : BoxF v1 w5.heap.size false 0 0 := BoxF.below (by first | (with_reducible assumption) | (with_reducible exact BoxF.make _ _ _ _ (by simp)) | (with_reducible exact BoxF.drew (BoxF.make _ _ _ _ (by simp))) | (with_reducible exact BoxF.drewN (BoxF.make _ _ _ _ (by simp)) _) | (with_reducible exact BoxF.drew (by assumption)) | (with_reducible exact BoxF.drewN (by assumption) _)) q1; have y10 := y1.c0; have y11 := y1.c1; have y12 := y1.c2; have y13 := y1.f0; have y14 := y1.f1; have y15 := y1.f2; have y16 := y1.z)))
         | (go_at_call 42; (with_reducible refine (MO.out _).mono ?_); rintro e v2 ⟨rfl, q2⟩; have r2 : Below v1.heap.size v1 v2 := Below.trans (by repeat' (first | (with_reducible assumption) | (with_reducible exact Below.refl _ _) | (with_reducible refine Below.drew ?_) | (with_reducible refine below_drewN ?_ _) | (with_reducible refine Below.alloc ?_ ?_ _) | (with_reducible exact Nat.le_refl _) | (simp; done) | (simp; omega) | omega)) (Below.mono q2 (by first | omega | (simp; done) | (simp; omega))); have xa_v2 := Lib.hid (BoxD.below xa_v1.out r2); have xa_v20 := xa_v2.out.c0; have xa_v21 := xa_v2.out.c1; have xa_v22 := xa_v2.out.c2; have xa_v2z := xa_v2.out.z; have r3 := r1.trans (r2.mono r1.size); have z1 := r1.size; have z2 := r2.size; (try (have y2 : BoxF v2 w5.heap.size false 0 0 := BoxF.below (by first | (with_reducible assumption) | (with_reducible exact BoxF.make _ _ _ _ (by simp)) | (with_reducible exact BoxF.drew (BoxF.make _ _ _ _ (by simp))) | (with_reducible exact BoxF.drewN (BoxF.make _ _ _ _ (by simp)) _) | (with_reducible exact BoxF.drew (by assumption)) | (with_reducible exact BoxF.drewN (by assumption) _)) q2; have y20 := y2.c0; have y21 := y2.c1; have y22 := y2.c2; have y23 := y2.f0; have y24 := y2.f1; have y25 := y2.f2; have y26 := y2.z)); (try (have y3 : BoxF v2 v1.heap.size false 0 0 := BoxF.below (by first | (with_reducible assumption) | (with_reducible exact BoxF.make _ _ _ _ (by simp)) | (with_reducible exact BoxF.drew (BoxF.make _ _ _ _ (by simp))) | (with_reducible exact BoxF.drewN (BoxF.make _ _ _ _ (by simp)) _) | (with_reducible exact BoxF.drew (by assumption)) | (with_reducible exact BoxF.drewN (by assumption) _)) q2; have y30 := y3.c0; have y31 := y3.c1; have y32 := y3.c2; have y33 := y3.f0; have y34 := y3.f1; have y35 := y3.f2; have y36 := y3.z))))
      all_goals (go_wp2_with fail; go_meet; exact ⟨_, rfl, rfl, Lib.hid (by constructor <;> (first | (simp (maxDischargeDepth := 12) [go_sem, *]; done) | (simp; omega))), Lib.hid (by repeat' (first | (with_reducible assumption) | (with_reducible refine Below.drew ?_) | (with_reducible refine below_drewN ?_ _) | (with_reducible refine Below.setCell ?_ ?_ _) | (with_reducible refine Below.alloc ?_ ?_ _) | (simp; done) | (simp; omega) | omega))⟩)
    case rest =>
    obtain ⟨g, rfl, rfl, HX, HP⟩ := hcut
    obtain ⟨w6, rfl⟩ : ∃ x, x = wc := ⟨_, rfl⟩
    have XF6 := Lib.hid (XF.out.below HP.out)
    have p6 := HP.out
    clear XF MO b1 b2 b3 b4 p2 p3 p4
    have hz4 := Nat.le_of_lt xa_4z
    clear xa_1 xa_10 xa_11 xa_12 xa_1z xa_2 xa_20 xa_21 xa_22 xa_2z xa_3 xa_30 xa_31 xa_32 xa_3z xa_4 xa_40 xa_41 xa_42 xa_4z
    clear xt_4 xt_40 xt_41 xt_42 xt_4z
    rcases HC3.out with ⟨rfl, rfl⟩ | ⟨rfl, rfl, hp0⟩ | ⟨rfl, rfl, hp0⟩
    · have xa_6 := Lib.hid (BoxD.below xa_5.out p6); have xa_60 := xa_6.out.c0; have xa_61 := xa_6.out.c1; have xa_62 := xa_6.out.c2; have xa_6z := xa_6.out.z; have xt_6 := Lib.hid (BoxD.below xt_5.out p6); have xt_60 := xt_6.out.c0; have xt_61 := xt_6.out.c1; have xt_62 := xt_6.out.c2; have xt_6z := xt_6.out.z; have xd_6 := Lib.hid (BoxD.below xd_5.out p6); have xd_60 := xd_6.out.c0; have xd_61 := xd_6.out.c1; have xd_62 := xd_6.out.c2; have xd_6z := xd_6.out.z
      have xm_6 := Lib.hid (HX.out); have xm_60 := xm_6.out.c0; have xm_61 := xm_6.out.c1; have xm_62 := xm_6.out.c2; have xm_6z := xm_6.out.z
      clear HX HP XF6
      go_upto_region 8 with fail
      clear HC3
      go_cut [55] from 27 to 55 (fun c wx => c = .bool false ∧ Hid (Below w6.heap.size w6 wx))
      case first =>
        first
        | go_region_with (first | (go_at_call 33; (with_reducible refine (TT.out _).mono ?_); rintro e w7 ⟨rfl, b7⟩; have p7 : Below w6.heap.size w6 w7 := Below.trans (by repeat' (first | (with_reducible assumption) | (with_reducible exact Below.refl _ _) | (with_reducible refine Below.drew ?_) | (with_reducible refine below_drewN ?_ _) | (with_reducible refine Below.alloc ?_ ?_ _) | (with_reducible exact Nat.le_refl _) | (simp; done) | (simp; omega) | omega)) (Below.mono b7 (by first | omega | (simp; done) | (simp; omega))); have xt_7 := Lib.hid (BoxD.below xt_6.out p7); have xt_70 := xt_7.out.c0; have xt_71 := xt_7.out.c1; have xt_72 := xt_7.out.c2; have xt_7z := xt_7.out.z; have xd_7 := Lib.hid (BoxD.below xd_6.out p7); have xd_70 := xd_7.out.c0; have xd_71 := xd_7.out.c1; have xd_72 := xd_7.out.c2; have xd_7z := xd_7.out.z))
        | fail
        all_goals
          go_wp2_with fail
          go_meet
          exact ⟨rfl, Lib.hid (by (repeat' (first | (with_reducible exact Below.refl _ _) | (refine Below.trans ?_ (Below.mono (by with_reducible assumption) ?_)) | (with_reducible exact Below.refl _ _) | (with_reducible refine below_drewN ?_ _) | (with_reducible refine Below.drew ?_) | (with_reducible refine Below.setCell ?_ ?_ _) | (with_reducible refine Below.alloc ?_ ?_ _) | (with_reducible assumption) | (simp; done) | (simp; omega) | omega)))⟩
      case rest =>
      obtain ⟨w7, rfl⟩ : ∃ x, x = wc := ⟨_, rfl⟩
      obtain ⟨rfl, hcut⟩ := hcut
      have p7 := hcut.out
      have xd_7 := Lib.hid (BoxD.below xd_6.out p7); have xd_70 := xd_7.out.c0; have xd_71 := xd_7.out.c1; have xd_72 := xd_7.out.c2; have xd_7z := xd_7.out.z
      go_upto_region 12 with fail
      go_region_held3 (fun w' => w'.cell? ⟨w4.heap.size, 0, none⟩ = some (.bool false) ∧ w'.cell? ⟨w4.heap.size, 1, none⟩ = some (.int .u64 0) ∧ w'.cell? ⟨w4.heap.size, 2, none⟩ = some (.int .u64 0)) ((and_intros <;> (first | (with_reducible assumption) | (go_simp; done) | (simp (maxDischargeDepth := 12) [go_sem]; done) | (simp (maxDischargeDepth := 12) [go_sem, *]; done) | exact (Below.cell (by with_reducible assumption) (by first | (simp; done) | (simp; omega) | omega)).trans (by simp (maxDischargeDepth := 12) [go_sem]))))
        (first | (go_at_call 25; (with_reducible refine (I1.out _).mono ?_); rintro e w8 ⟨rfl, b8⟩; have p8 : Below w7.heap.size w7 w8 := Below.trans (by repeat' (first | (with_reducible assumption) | (with_reducible exact Below.refl _ _) | (with_reducible refine Below.drew ?_) | (with_reducible refine below_drewN ?_ _) | (with_reducible refine Below.alloc ?_ ?_ _) | (with_reducible exact Nat.le_refl _) | (simp; done) | (simp; omega) | omega)) (Below.mono b8 (by first | omega | (simp; done) | (simp; omega))); have xd_8 := Lib.hid (BoxD.below xd_7.out p8); have xd_80 := xd_8.out.c0; have xd_81 := xd_8.out.c1; have xd_82 := xd_8.out.c2; have xd_8z := xd_8.out.z) | (go_at_call 40; (with_reducible refine (C1.out _).mono ?_); rintro e w9 ⟨rfl, b9⟩; have p9 : Below w8.heap.size w8 w9 := Below.trans (by repeat' (first | (with_reducible assumption) | (with_reducible exact Below.refl _ _) | (with_reducible refine Below.drew ?_) | (with_reducible refine below_drewN ?_ _) | (with_reducible refine Below.alloc ?_ ?_ _) | (with_reducible exact Nat.le_refl _) | (simp; done) | (simp; omega) | omega)) (Below.mono b9 (by first | omega | (simp; done) | (simp; omega))); have xd_9 := Lib.hid (BoxD.below xd_8.out p9); have xd_90 := xd_9.out.c0; have xd_91 := xd_9.out.c1; have xd_92 := xd_9.out.c2; have xd_9z := xd_9.out.z) | (go_at_call 40; (with_reducible refine (C2.out _).mono ?_); rintro e w10 ⟨rfl, b10⟩; have p10 : Below w9.heap.size w9 w10 := Below.trans (by repeat' (first | (with_reducible assumption) | (with_reducible exact Below.refl _ _) | (with_reducible refine Below.drew ?_) | (with_reducible refine below_drewN ?_ _) | (with_reducible refine Below.alloc ?_ ?_ _) | (with_reducible exact Nat.le_refl _) | (simp; done) | (simp; omega) | omega)) (Below.mono b10 (by first | omega | (simp; done) | (simp; omega))); have xd_10 := Lib.hid (BoxD.below xd_9.out p10); have xd_100 := xd_10.out.c0; have xd_101 := xd_10.out.c1; have xd_102 := xd_10.out.c2; have xd_10z := xd_10.out.z))
      go_wp2_with fail
      go_ret
      have z6 := p6.size; have z7 := p7.size; have z8 := p8.size; have z9 := p9.size
      exact ⟨by simp <;> omega, by refine HB.out.trans (Below.trans (p6.mono hzw) ?_); (repeat' (first | (with_reducible exact Below.refl _ _) | (refine Below.trans ?_ (Below.mono (by with_reducible assumption) ?_)) | (with_reducible exact Below.refl _ _) | (with_reducible refine below_drewN ?_ _) | (with_reducible refine Below.drew ?_) | (with_reducible refine Below.setCell ?_ ?_ _) | (with_reducible refine Below.alloc ?_ ?_ _) | (with_reducible assumption) | (simp; done) | (simp; omega) | omega))⟩
    · have xa_6 := Lib.hid (BoxD.below xa_5.out p6); have xa_60 := xa_6.out.c0; have xa_61 := xa_6.out.c1; have xa_62 := xa_6.out.c2; have xa_6z := xa_6.out.z; have xt_6 := Lib.hid (BoxD.below xt_5.out p6); have xt_60 := xt_6.out.c0; have xt_61 := xt_6.out.c1; have xt_62 := xt_6.out.c2; have xt_6z := xt_6.out.z; have xd_6 := Lib.hid (BoxD.below xd_5.out p6); have xd_60 := xd_6.out.c0; have xd_61 := xd_6.out.c1; have xd_62 := xd_6.out.c2; have xd_6z := xd_6.out.z
      have xm_6 := Lib.hid (HX.out); have xm_60 := xm_6.out.c0; have xm_61 := xm_6.out.c1; have xm_62 := xm_6.out.c2; have xm_6z := xm_6.out.z
      go_upto_region 8 with fail
      go_region_held3 (fun w' => w'.cell? ⟨w.heap.size, 0, none⟩ = some (.bool false) ∧ w'.cell? ⟨w.heap.size, 1, none⟩ = some (.int .u64 ha) ∧ w'.cell? ⟨w.heap.size, 2, none⟩ = some (.int .u64 la) ∧ w'.cell? ⟨w3.heap.size, 0, none⟩ = some (.bool tn) ∧ w'.cell? ⟨w3.heap.size, 1, none⟩ = some (.int .u64 th) ∧ w'.cell? ⟨w3.heap.size, 2, none⟩ = some (.int .u64 tl) ∧ w'.cell? ⟨w4.heap.size, 0, none⟩ = some (.bool false) ∧ w'.cell? ⟨w4.heap.size, 1, none⟩ = some (.int .u64 0) ∧ w'.cell? ⟨w4.heap.size, 2, none⟩ = some (.int .u64 p) ∧ w'.cell? ⟨g, 0, none⟩ = some (.bool false) ∧ w'.cell? ⟨g, 1, none⟩ = some (.int .u64 0) ∧ w'.cell? ⟨g, 2, none⟩ = some (.int .u64 p)) ((and_intros <;> (first | (with_reducible assumption) | (go_simp; done) | (simp (maxDischargeDepth := 12) [go_sem]; done) | (simp (maxDischargeDepth := 12) [go_sem, *]; done) | exact (Below.cell (by with_reducible assumption) (by first | (simp; done) | (simp; omega) | omega)).trans (by simp (maxDischargeDepth := 12) [go_sem]))))
        (first | (go_at_call 33; (with_reducible refine (TT.out _).mono ?_); rintro e w7 ⟨rfl, b7⟩; have p7 : Below w6.heap.size w6 w7 := Below.trans (by repeat' (first | (with_reducible assumption) | (with_reducible exact Below.refl _ _) | (with_reducible refine Below.drew ?_) | (with_reducible refine below_drewN ?_ _) | (with_reducible refine Below.alloc ?_ ?_ _) | (with_reducible exact Nat.le_refl _) | (simp; done) | (simp; omega) | omega)) (Below.mono b7 (by first | omega | (simp; done) | (simp; omega))); have xa_7 := Lib.hid (BoxD.below xa_6.out p7); have xa_70 := xa_7.out.c0; have xa_71 := xa_7.out.c1; have xa_72 := xa_7.out.c2; have xa_7z := xa_7.out.z; have xt_7 := Lib.hid (BoxD.below xt_6.out p7); have xt_70 := xt_7.out.c0; have xt_71 := xt_7.out.c1; have xt_72 := xt_7.out.c2; have xt_7z := xt_7.out.z; have xd_7 := Lib.hid (BoxD.below xd_6.out p7); have xd_70 := xd_7.out.c0; have xd_71 := xd_7.out.c1; have xd_72 := xd_7.out.c2; have xd_7z := xd_7.out.z; have xm_7 := Lib.hid (BoxD.below xm_6.out p7); have xm_70 := xm_7.out.c0; have xm_71 := xm_7.out.c1; have xm_72 := xm_7.out.c2; have xm_7z := xm_7.out.z))
      go_upto_region 12 with fail
      go_region_held3 (fun w' => w'.cell? ⟨w4.heap.size, 0, none⟩ = some (.bool false) ∧ w'.cell? ⟨w4.heap.size, 1, none⟩ = some (.int .u64 0) ∧ w'.cell? ⟨w4.heap.size, 2, none⟩ = some (.int .u64 p)) ((and_intros <;> (first | (with_reducible assumption) | (go_simp; done) | (simp (maxDischargeDepth := 12) [go_sem]; done) | (simp (maxDischargeDepth := 12) [go_sem, *]; done) | exact (Below.cell (by with_reducible assumption) (by first | (simp; done) | (simp; omega) | omega)).trans (by simp (maxDischargeDepth := 12) [go_sem]))))
        (first | (go_at_call 25; (with_reducible refine (I1.out _).mono ?_); rintro e w8 ⟨rfl, b8⟩; have p8 : Below w7.heap.size w7 w8 := Below.trans (by repeat' (first | (with_reducible assumption) | (with_reducible exact Below.refl _ _) | (with_reducible refine Below.drew ?_) | (with_reducible refine below_drewN ?_ _) | (with_reducible refine Below.alloc ?_ ?_ _) | (with_reducible exact Nat.le_refl _) | (simp; done) | (simp; omega) | omega)) (Below.mono b8 (by first | omega | (simp; done) | (simp; omega))); have xd_8 := Lib.hid (BoxD.below xd_7.out p8); have xd_80 := xd_8.out.c0; have xd_81 := xd_8.out.c1; have xd_82 := xd_8.out.c2; have xd_8z := xd_8.out.z) | (go_at_call 40; (with_reducible refine (C1.out _).mono ?_); rintro e w9 ⟨rfl, b9⟩; have p9 : Below w8.heap.size w8 w9 := Below.trans (by repeat' (first | (with_reducible assumption) | (with_reducible exact Below.refl _ _) | (with_reducible refine Below.drew ?_) | (with_reducible refine below_drewN ?_ _) | (with_reducible refine Below.alloc ?_ ?_ _) | (with_reducible exact Nat.le_refl _) | (simp; done) | (simp; omega) | omega)) (Below.mono b9 (by first | omega | (simp; done) | (simp; omega))); have xd_9 := Lib.hid (BoxD.below xd_8.out p9); have xd_90 := xd_9.out.c0; have xd_91 := xd_9.out.c1; have xd_92 := xd_9.out.c2; have xd_9z := xd_9.out.z) | (go_at_call 40; (with_reducible refine (C2.out _).mono ?_); rintro e w10 ⟨rfl, b10⟩; have p10 : Below w9.heap.size w9 w10 := Below.trans (by repeat' (first | (with_reducible assumption) | (with_reducible exact Below.refl _ _) | (with_reducible refine Below.drew ?_) | (with_reducible refine below_drewN ?_ _) | (with_reducible refine Below.alloc ?_ ?_ _) | (with_reducible exact Nat.le_refl _) | (simp; done) | (simp; omega) | omega)) (Below.mono b10 (by first | omega | (simp; done) | (simp; omega))); have xd_10 := Lib.hid (BoxD.below xd_9.out p10); have xd_100 := xd_10.out.c0; have xd_101 := xd_10.out.c1; have xd_102 := xd_10.out.c2; have xd_10z := xd_10.out.z))
      go_wp2_with fail
      go_ret
      have z6 := p6.size; have z7 := p7.size; have z8 := p8.size; have z9 := p9.size
      exact ⟨by simp <;> omega, by refine HB.out.trans (Below.trans (p6.mono hzw) ?_); (repeat' (first | (with_reducible exact Below.refl _ _) | (refine Below.trans ?_ (Below.mono (by with_reducible assumption) ?_)) | (with_reducible exact Below.refl _ _) | (with_reducible refine below_drewN ?_ _) | (with_reducible refine Below.drew ?_) | (with_reducible refine Below.setCell ?_ ?_ _) | (with_reducible refine Below.alloc ?_ ?_ _) | (with_reducible assumption) | (simp; done) | (simp; omega) | omega))⟩
    · have xa_6 := Lib.hid (BoxD.below xa_5.out p6); have xa_60 := xa_6.out.c0; have xa_61 := xa_6.out.c1; have xa_62 := xa_6.out.c2; have xa_6z := xa_6.out.z; have xt_6 := Lib.hid (BoxD.below xt_5.out p6); have xt_60 := xt_6.out.c0; have xt_61 := xt_6.out.c1; have xt_62 := xt_6.out.c2; have xt_6z := xt_6.out.z; have xd_6 := Lib.hid (BoxD.below xd_5.out p6); have xd_60 := xd_6.out.c0; have xd_61 := xd_6.out.c1; have xd_62 := xd_6.out.c2; have xd_6z := xd_6.out.z
      have xm_6 := Lib.hid (HX.out); have xm_60 := xm_6.out.c0; have xm_61 := xm_6.out.c1; have xm_62 := xm_6.out.c2; have xm_6z := xm_6.out.z
      go_upto_region 8 with fail
      go_region_held3 (fun w' => w'.cell? ⟨w.heap.size, 0, none⟩ = some (.bool true) ∧ w'.cell? ⟨w.heap.size, 1, none⟩ = some (.int .u64 ha) ∧ w'.cell? ⟨w.heap.size, 2, none⟩ = some (.int .u64 la) ∧ w'.cell? ⟨w3.heap.size, 0, none⟩ = some (.bool tn) ∧ w'.cell? ⟨w3.heap.size, 1, none⟩ = some (.int .u64 th) ∧ w'.cell? ⟨w3.heap.size, 2, none⟩ = some (.int .u64 tl) ∧ w'.cell? ⟨w4.heap.size, 0, none⟩ = some (.bool true) ∧ w'.cell? ⟨w4.heap.size, 1, none⟩ = some (.int .u64 0) ∧ w'.cell? ⟨w4.heap.size, 2, none⟩ = some (.int .u64 p) ∧ w'.cell? ⟨g, 0, none⟩ = some (.bool true) ∧ w'.cell? ⟨g, 1, none⟩ = some (.int .u64 0) ∧ w'.cell? ⟨g, 2, none⟩ = some (.int .u64 p)) ((and_intros <;> (first | (with_reducible assumption) | (go_simp; done) | (simp (maxDischargeDepth := 12) [go_sem]; done) | (simp (maxDischargeDepth := 12) [go_sem, *]; done) | exact (Below.cell (by with_reducible assumption) (by first | (simp; done) | (simp; omega) | omega)).trans (by simp (maxDischargeDepth := 12) [go_sem]))))
        (first | (go_at_call 33; (with_reducible refine (TT.out _).mono ?_); rintro e w7 ⟨rfl, b7⟩; have p7 : Below w6.heap.size w6 w7 := Below.trans (by repeat' (first | (with_reducible assumption) | (with_reducible exact Below.refl _ _) | (with_reducible refine Below.drew ?_) | (with_reducible refine below_drewN ?_ _) | (with_reducible refine Below.alloc ?_ ?_ _) | (with_reducible exact Nat.le_refl _) | (simp; done) | (simp; omega) | omega)) (Below.mono b7 (by first | omega | (simp; done) | (simp; omega))); have xa_7 := Lib.hid (BoxD.below xa_6.out p7); have xa_70 := xa_7.out.c0; have xa_71 := xa_7.out.c1; have xa_72 := xa_7.out.c2; have xa_7z := xa_7.out.z; have xt_7 := Lib.hid (BoxD.below xt_6.out p7); have xt_70 := xt_7.out.c0; have xt_71 := xt_7.out.c1; have xt_72 := xt_7.out.c2; have xt_7z := xt_7.out.z; have xd_7 := Lib.hid (BoxD.below xd_6.out p7); have xd_70 := xd_7.out.c0; have xd_71 := xd_7.out.c1; have xd_72 := xd_7.out.c2; have xd_7z := xd_7.out.z; have xm_7 := Lib.hid (BoxD.below xm_6.out p7); have xm_70 := xm_7.out.c0; have xm_71 := xm_7.out.c1; have xm_72 := xm_7.out.c2; have xm_7z := xm_7.out.z))
      have XF7 := XF6.out.below p7
      have NQ := NP (by first | rfl | trivial)
      clear NP
      have y0 := XF7.f0; have y1 := XF7.f1; have y2 := XF7.f2
      go_upto_region 12 with (first | (go_at_call 35; (with_reducible refine (NQ.out _).mono ?_); rintro e w8 ⟨rfl, b8⟩; have p8 : Below w7.heap.size w7 w8 := Below.trans (by repeat' (first | (with_reducible assumption) | (with_reducible exact Below.refl _ _) | (with_reducible refine Below.drew ?_) | (with_reducible refine below_drewN ?_ _) | (with_reducible refine Below.alloc ?_ ?_ _) | (with_reducible exact Nat.le_refl _) | (simp; done) | (simp; omega) | omega)) (Below.mono b8 (by first | omega | (simp; done) | (simp; omega))); have xd_8 := Lib.hid (BoxD.below xd_7.out p8); have xd_80 := xd_8.out.c0; have xd_81 := xd_8.out.c1; have xd_82 := xd_8.out.c2; have xd_8z := xd_8.out.z; have XF8 := XF7.below p8; have y0' := XF8.f0; have y1' := XF8.f1; have y2' := XF8.f2))
      have HB8 : Below w.heap.size w w8 := HB.out.trans ((p6.trans ((p7.trans (p8.mono p7.size)).mono p6.size)).mono hzw)
      have HB9 : Below w.heap.size w (((w8.setCell ⟨w4.heap.size, 0, none⟩ (.bool false)).setCell ⟨w4.heap.size, 1, none⟩ (.int .u64 0)).setCell ⟨w4.heap.size, 2, none⟩ (.int .u64 p)) := ((HB8.setCell (by simp; omega) _).setCell (by simp; omega) _).setCell (by simp; omega) _
      have X9 : BoxD (((w8.setCell ⟨w4.heap.size, 0, none⟩ (.bool false)).setCell ⟨w4.heap.size, 1, none⟩ (.int .u64 0)).setCell ⟨w4.heap.size, 2, none⟩ (.int .u64 p)) w4.heap.size false 0 p := by
        constructor <;> (first | (simp (maxDischargeDepth := 12) [go_sem, *]; done) | (simp; omega))
      obtain ⟨w9, hw9⟩ : ∃ x, x = (((w8.setCell ⟨w4.heap.size, 0, none⟩ (.bool false)).setCell ⟨w4.heap.size, 1, none⟩ (.int .u64 0)).setCell ⟨w4.heap.size, 2, none⟩ (.int .u64 p)) := ⟨_, rfl⟩; rw [← hw9]
      rw [← hw9] at HB9 X9
      clear hw9
      have xd_9 := Lib.hid (X9); have xd_90 := xd_9.out.c0; have xd_91 := xd_9.out.c1; have xd_92 := xd_9.out.c2; have xd_9z := xd_9.out.z
      have HB9 := Lib.hid HB9
      clear xd_6 xd_60 xd_61 xd_62 xd_6z xd_7 xd_70 xd_71 xd_72 xd_7z xd_8 xd_80 xd_81 xd_82 xd_8z
      clear xa_6 xa_60 xa_61 xa_62 xa_6z xt_6 xt_60 xt_61 xt_62 xt_6z xm_6 xm_60 xm_61 xm_62 xm_6z xa_7 xa_70 xa_71 xa_72 xa_7z xt_7 xt_70 xt_71 xt_72 xt_7z xm_7 xm_70 xm_71 xm_72 xm_7z
      clear y0 y1 y2 y0' y1' y2'
      go_region_held3 (fun w' => w'.cell? ⟨w4.heap.size, 0, none⟩ = some (.bool false) ∧ w'.cell? ⟨w4.heap.size, 1, none⟩ = some (.int .u64 0) ∧ w'.cell? ⟨w4.heap.size, 2, none⟩ = some (.int .u64 p)) ((and_intros <;> (first | (with_reducible assumption) | (go_simp; done) | (simp (maxDischargeDepth := 12) [go_sem]; done) | (simp (maxDischargeDepth := 12) [go_sem, *]; done) | exact (Below.cell (by with_reducible assumption) (by first | (simp; done) | (simp; omega) | omega)).trans (by simp (maxDischargeDepth := 12) [go_sem]))))
        (first | (go_at_call 25; (with_reducible refine (I1.out _).mono ?_); rintro e w10 ⟨rfl, b10⟩; have p10 : Below w9.heap.size w9 w10 := Below.trans (by repeat' (first | (with_reducible assumption) | (with_reducible exact Below.refl _ _) | (with_reducible refine Below.drew ?_) | (with_reducible refine below_drewN ?_ _) | (with_reducible refine Below.alloc ?_ ?_ _) | (with_reducible exact Nat.le_refl _) | (simp; done) | (simp; omega) | omega)) (Below.mono b10 (by first | omega | (simp; done) | (simp; omega))); have xd_10 := Lib.hid (BoxD.below xd_9.out p10); have xd_100 := xd_10.out.c0; have xd_101 := xd_10.out.c1; have xd_102 := xd_10.out.c2; have xd_10z := xd_10.out.z) | (go_at_call 40; (with_reducible refine (C1.out _).mono ?_); rintro e w11 ⟨rfl, b11⟩; have p11 : Below w10.heap.size w10 w11 := Below.trans (by repeat' (first | (with_reducible assumption) | (with_reducible exact Below.refl _ _) | (with_reducible refine Below.drew ?_) | (with_reducible refine below_drewN ?_ _) | (with_reducible refine Below.alloc ?_ ?_ _) | (with_reducible exact Nat.le_refl _) | (simp; done) | (simp; omega) | omega)) (Below.mono b11 (by first | omega | (simp; done) | (simp; omega))); have xd_11 := Lib.hid (BoxD.below xd_10.out p11); have xd_110 := xd_11.out.c0; have xd_111 := xd_11.out.c1; have xd_112 := xd_11.out.c2; have xd_11z := xd_11.out.z) | (go_at_call 40; (with_reducible refine (C2.out _).mono ?_); rintro e w12 ⟨rfl, b12⟩; have p12 : Below w11.heap.size w11 w12 := Below.trans (by repeat' (first | (with_reducible assumption) | (with_reducible exact Below.refl _ _) | (with_reducible refine Below.drew ?_) | (with_reducible refine below_drewN ?_ _) | (with_reducible refine Below.alloc ?_ ?_ _) | (with_reducible exact Nat.le_refl _) | (simp; done) | (simp; omega) | omega)) (Below.mono b12 (by first | omega | (simp; done) | (simp; omega))); have xd_12 := Lib.hid (BoxD.below xd_11.out p12); have xd_120 := xd_12.out.c0; have xd_121 := xd_12.out.c1; have xd_122 := xd_12.out.c2; have xd_12z := xd_12.out.z))
      go_wp2_with fail
      go_ret
      have z9 := HB9.out.size; have z10 := p10.size; have z11 := p11.size
      exact ⟨by simp <;> omega, by refine HB9.out.trans ?_; (repeat' (first | (with_reducible exact Below.refl _ _) | (refine Below.trans ?_ (Below.mono (by with_reducible assumption) ?_)) | (with_reducible exact Below.refl _ _) | (with_reducible refine below_drewN ?_ _) | (with_reducible refine Below.drew ?_) | (with_reducible refine Below.setCell ?_ ?_ _) | (with_reducible refine Below.alloc ?_ ?_ _) | (with_reducible assumption) | (simp; done) | (simp; omega) | omega))⟩
end Go.Proofs.Ytdmifldjeiabdaa
