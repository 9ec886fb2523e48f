/- fieldfarelaw01.DecUnits: the walk. -/
import Derived.Test.YtdmifldjeiabdaaLawC
import Derived.Test.YtdmifldjeiabdaaErrs
namespace Go.Proofs.Ytdmifldjeiabdaa
open Go.RowKit
set_option maxRecDepth 100000 in
set_option maxHeartbeats 1600000 in
theorem units_law (n : Bool) (ha la : Int) (w : World) (wa : Wd ha) (xa : Wd la) :
    Calls Try.prog 14 #[.agg #[.bool n, .int .u64 ha, .int .u64 la]] w fun e w' => e = .returned (.bool true) ∧ Below w.heap.size w w' := by
  rcases good_split n ha la wa xa with ga | ⟨za, ia⟩
  · clear wa xa
    go_enter Try.func14, Try.ntmps14
    go_wp2_with (first
      | (go_at_call 32; refine (awake1_any _).mono ?_; rintro e w1 ⟨rfl, b1⟩; have xa_1 : Hid (BoxD w1 (w.heap.size) n ha la) := Lib.hid (BoxD.below (BoxD.make w n ha la (by simp)) b1); have xa_10 := xa_1.out.c0; have xa_11 := xa_1.out.c1; have xa_12 := xa_1.out.c2; have xa_1z := xa_1.out.z)
      | (go_at_call 21; refine (good_any _ _ _ _).mono ?_; rintro e w2 ⟨rfl, rfl⟩))
    go_ret
    exact ⟨rfl, by (repeat' (first | (with_reducible exact Below.refl _ _) | (refine Below.trans ?_ (Below.mono (by with_reducible assumption) ?_)) | (with_reducible exact Below.refl _ _) | (with_reducible refine below_drewN ?_ _) | (with_reducible refine Below.drew ?_) | (with_reducible refine Below.setCell ?_ ?_ _) | (with_reducible refine Below.alloc ?_ ?_ _) | (with_reducible assumption) | (simp; done) | (simp; omega) | omega))⟩
  · have GA := Lib.hid (good_b n ha la (good_of ia))
    have hl := ia.2.2.2.2
    obtain ⟨e1, e2, e3⟩ := ia.eq
    have M0 := fun W => mul_ok _ _ _ _ _ _ _ _ za ia isD_1 (mulZ_one za).symm hl W
    have D0 := fun W => div_ok _ _ _ _ _ _ _ _ za ia isD_1 (by decide) (divZ_one za).symm hl W
    rw [← e1, ← e2, ← e3] at M0 D0
    have MU := Lib.hid M0; have DU := Lib.hid D0
    have P1 := Lib.hid (fun W => pow_one n ha la za ia W)
    have P0 := Lib.hid (fun W => pow_nought n ha la za ia W)
    have I1 := Lib.hid int_1
    have hcas : (∃ sn sh sl er, (∀ W, Calls Try.prog 44 #[.agg #[.bool n, .int .u64 ha, .int .u64 la], .agg #[.bool n, .int .u64 ha, .int .u64 la]] W fun e w' => e = .returned (.tuple #[.agg #[.bool sn, .int .u64 sh, .int .u64 sl], er]) ∧ Below W.heap.size W w') ∧
        ((n = false ∧ ha = 0 ∧ la = 0 ∧ er = .iface 72 (.int .i64 3)) ∨ (((ha == 0) = false ∨ (la == 0) = false) ∧ er = .nilIface ∧ sn = false ∧ sh = 0 ∧ sl = 1000000))) := by
      by_cases hz : za = 0
      · subst hz
        have h1 : n = false := e1.trans (by decide)
        have h2 : ha = 0 := e2.trans (by decide)
        have h3 : la = 0 := e3.trans (by decide)
        subst h1 h2 h3
        exact ⟨_, _, _, _, fun W => div_zero false 0 0 (by decide) W, .inl ⟨rfl, rfl, rfl, rfl⟩⟩
      · refine ⟨_, _, _, _, fun W => div_ok _ _ _ _ _ _ _ _ 1000000 ia ia hz (divZ_self za hz).symm (by decide) W, .inr ⟨?_, rfl, by decide, by decide, by decide⟩⟩
        rw [beq_eq_false_iff_ne, beq_eq_false_iff_ne]
        have := ia.2.2.1
        omega
    obtain ⟨sn, sh, sl, er, D1, hc⟩ := hcas
    have DA := Lib.hid D1
    have HC := Lib.hid hc
    clear hc D1 e1 e2 e3 M0 D0 hl ia wa xa
    go_enter Try.func14, Try.ntmps14
    go_upto_region 11 with (first
      | (go_at_call 32; refine (awake1_any _).mono ?_; rintro e w1 ⟨rfl, b1⟩; have xa_1 : Hid (BoxD w1 (w.heap.size) n ha la) := Lib.hid (BoxD.below (BoxD.make w n ha la (by simp)) b1); have xa_10 := xa_1.out.c0; have xa_11 := xa_1.out.c1; have xa_12 := xa_1.out.c2; have xa_1z := xa_1.out.z)
      | (go_at_call 21; (with_reducible refine (GA.out _).mono ?_); rintro e w2 ⟨rfl, b2⟩; have p2 : Below w1.heap.size w1 w2 := Below.trans (by repeat' (first | (with_reducible assumption) | (with_reducible exact Below.refl _ _) | (with_reducible refine Below.drew ?_) | (with_reducible refine below_drewN ?_ _) | (with_reducible refine Below.alloc ?_ ?_ _) | (with_reducible exact Nat.le_refl _) | (simp; done) | (simp; omega) | omega)) (Below.mono b2 (by first | omega | (simp; done) | (simp; omega))); have xa_2 := Lib.hid (BoxD.below xa_1.out p2); have xa_20 := xa_2.out.c0; have xa_21 := xa_2.out.c1; have xa_22 := xa_2.out.c2; have xa_2z := xa_2.out.z)
      | (go_at_call 25; (with_reducible refine (I1.out _).mono ?_); rintro e w3 ⟨rfl, b3⟩; have p3 : Below w2.heap.size w2 w3 := Below.trans (by repeat' (first | (with_reducible assumption) | (with_reducible exact Below.refl _ _) | (with_reducible refine Below.drew ?_) | (with_reducible refine below_drewN ?_ _) | (with_reducible refine Below.alloc ?_ ?_ _) | (with_reducible exact Nat.le_refl _) | (simp; done) | (simp; omega) | omega)) (Below.mono b3 (by first | omega | (simp; done) | (simp; omega))); have xa_3 := Lib.hid (BoxD.below xa_2.out p3); have xa_30 := xa_3.out.c0; have xa_31 := xa_3.out.c1; have xa_32 := xa_3.out.c2; have xa_3z := xa_3.out.z)
      | (go_at_call 43; (with_reducible refine (MU.out _).mono ?_); rintro e w4 ⟨rfl, b4⟩; have p4 : Below w3.heap.size w3 w4 := Below.trans (by repeat' (first | (with_reducible assumption) | (with_reducible exact Below.refl _ _) | (with_reducible refine Below.drew ?_) | (with_reducible refine below_drewN ?_ _) | (with_reducible refine Below.alloc ?_ ?_ _) | (with_reducible exact Nat.le_refl _) | (simp; done) | (simp; omega) | omega)) (Below.mono b4 (by first | omega | (simp; done) | (simp; omega))); have xa_4 := Lib.hid (BoxD.below xa_3.out p4); have xa_40 := xa_4.out.c0; have xa_41 := xa_4.out.c1; have xa_42 := xa_4.out.c2; have xa_4z := xa_4.out.z; have xo_4 := Lib.hid (((BoxD.new w3 false 0 1000000).below b4)); have xo_40 := xo_4.out.c0; have xo_41 := xo_4.out.c1; have xo_42 := xo_4.out.c2; have xo_4z := xo_4.out.z)
      | (go_at_call 44; (with_reducible refine (DU.out _).mono ?_); rintro e w5 ⟨rfl, b5⟩; have p5 : Below w4.heap.size w4 w5 := Below.trans (by repeat' (first | (with_reducible assumption) | (with_reducible exact Below.refl _ _) | (with_reducible refine Below.drew ?_) | (with_reducible refine below_drewN ?_ _) | (with_reducible refine Below.alloc ?_ ?_ _) | (with_reducible exact Nat.le_refl _) | (simp; done) | (simp; omega) | omega)) (Below.mono b5 (by first | omega | (simp; done) | (simp; omega))); have xa_5 := Lib.hid (BoxD.below xa_4.out p5); have xa_50 := xa_5.out.c0; have xa_51 := xa_5.out.c1; have xa_52 := xa_5.out.c2; have xa_5z := xa_5.out.z; have xo_5 := Lib.hid (BoxD.below xo_4.out p5); have xo_50 := xo_5.out.c0; have xo_51 := xo_5.out.c1; have xo_52 := xo_5.out.c2; have xo_5z := xo_5.out.z; have xp_5 := Lib.hid (((BoxD.new w4 n ha la).below b5)); have xp_50 := xp_5.out.c0; have xp_51 := xp_5.out.c1; have xp_52 := xp_5.out.c2; have xp_5z := xp_5.out.z)
      | (go_at_call 49; (with_reducible refine (P1.out _).mono ?_); rintro e w6 ⟨rfl, b6⟩; have p6 : Below w5.heap.size w5 w6 := Below.trans (by repeat' (first | (with_reducible assumption) | (with_reducible exact Below.refl _ _) | (with_reducible refine Below.drew ?_) | (with_reducible refine below_drewN ?_ _) | (with_reducible refine Below.alloc ?_ ?_ _) | (with_reducible exact Nat.le_refl _) | (simp; done) | (simp; omega) | omega)) (Below.mono b6 (by first | omega | (simp; done) | (simp; omega))); have xa_6 := Lib.hid (BoxD.below xa_5.out p6); have xa_60 := xa_6.out.c0; have xa_61 := xa_6.out.c1; have xa_62 := xa_6.out.c2; have xa_6z := xa_6.out.z; have xo_6 := Lib.hid (BoxD.below xo_5.out p6); have xo_60 := xo_6.out.c0; have xo_61 := xo_6.out.c1; have xo_62 := xo_6.out.c2; have xo_6z := xo_6.out.z; have xp_6 := Lib.hid (BoxD.below xp_5.out p6); have xp_60 := xp_6.out.c0; have xp_61 := xp_6.out.c1; have xp_62 := xp_6.out.c2; have xp_6z := xp_6.out.z; have xq_6 := Lib.hid (((BoxD.new w5 n ha la).below b6)); have xq_60 := xq_6.out.c0; have xq_61 := xq_6.out.c1; have xq_62 := xq_6.out.c2; have xq_6z := xq_6.out.z)
      | (go_at_call 49; (with_reducible refine (P0.out _).mono ?_); rintro e w7 ⟨rfl, b7⟩; have p7 : Below w6.heap.size w6 w7 := Below.trans (by repeat' (first | (with_reducible assumption) | (with_reducible exact Below.refl _ _) | (with_reducible refine Below.drew ?_) | (with_reducible refine below_drewN ?_ _) | (with_reducible refine Below.alloc ?_ ?_ _) | (with_reducible exact Nat.le_refl _) | (simp; done) | (simp; omega) | omega)) (Below.mono b7 (by first | omega | (simp; done) | (simp; omega))); have xa_7 := Lib.hid (BoxD.below xa_6.out p7); have xa_70 := xa_7.out.c0; have xa_71 := xa_7.out.c1; have xa_72 := xa_7.out.c2; have xa_7z := xa_7.out.z; have xo_7 := Lib.hid (BoxD.below xo_6.out p7); have xo_70 := xo_7.out.c0; have xo_71 := xo_7.out.c1; have xo_72 := xo_7.out.c2; have xo_7z := xo_7.out.z; have xp_7 := Lib.hid (BoxD.below xp_6.out p7); have xp_70 := xp_7.out.c0; have xp_71 := xp_7.out.c1; have xp_72 := xp_7.out.c2; have xp_7z := xp_7.out.z; have xq_7 := Lib.hid (BoxD.below xq_6.out p7); have xq_70 := xq_7.out.c0; have xq_71 := xq_7.out.c1; have xq_72 := xq_7.out.c2; have xq_7z := xq_7.out.z; have xx_7 := Lib.hid (((BoxD.new w6 n ha la).below b7)); have xx_70 := xx_7.out.c0; have xx_71 := xx_7.out.c1; have xx_72 := xx_7.out.c2; have xx_7z := xx_7.out.z)
      | (go_at_call 44; (with_reducible refine (DA.out _).mono ?_); rintro e w8 ⟨rfl, b8⟩; have p8 : Below w7.heap.size w7 w8 := Below.trans (by repeat' (first | (with_reducible assumption) | (with_reducible exact Below.refl _ _) | (with_reducible refine Below.drew ?_) | (with_reducible refine below_drewN ?_ _) | (with_reducible refine Below.alloc ?_ ?_ _) | (with_reducible exact Nat.le_refl _) | (simp; done) | (simp; omega) | omega)) (Below.mono b8 (by first | omega | (simp; done) | (simp; omega))); have xa_8 := Lib.hid (BoxD.below xa_7.out p8); have xa_80 := xa_8.out.c0; have xa_81 := xa_8.out.c1; have xa_82 := xa_8.out.c2; have xa_8z := xa_8.out.z; have xo_8 := Lib.hid (BoxD.below xo_7.out p8); have xo_80 := xo_8.out.c0; have xo_81 := xo_8.out.c1; have xo_82 := xo_8.out.c2; have xo_8z := xo_8.out.z; have xp_8 := Lib.hid (BoxD.below xp_7.out p8); have xp_80 := xp_8.out.c0; have xp_81 := xp_8.out.c1; have xp_82 := xp_8.out.c2; have xp_8z := xp_8.out.z; have xq_8 := Lib.hid (BoxD.below xq_7.out p8); have xq_80 := xq_8.out.c0; have xq_81 := xq_8.out.c1; have xq_82 := xq_8.out.c2; have xq_8z := xq_8.out.z; have xx_8 := Lib.hid (BoxD.below xx_7.out p8); have xx_80 := xx_8.out.c0; have xx_81 := xx_8.out.c1; have xx_82 := xx_8.out.c2; have xx_8z := xx_8.out.z; have xy_8 := Lib.hid (((BoxD.new w7 false 0 1000000).below b8)); have xy_80 := xy_8.out.c0; have xy_81 := xy_8.out.c1; have xy_82 := xy_8.out.c2; have xy_8z := xy_8.out.z))
    have xz_9 := Lib.hid (BoxD.new w8 sn sh sl)
    have p9 : Below w8.heap.size w8 (w8.alloc (.cells #[.bool sn, .int .u64 sh, .int .u64 sl] 24)) := (Below.refl _ _).alloc (Nat.le_refl _) _
    have HB : Below w.heap.size w (w8.alloc (.cells #[.bool sn, .int .u64 sh, .int .u64 sl] 24)) := by (repeat' (first | (with_reducible exact Below.refl _ _) | (refine Below.trans ?_ (Below.mono (by with_reducible assumption) ?_)) | (with_reducible exact Below.refl _ _) | (with_reducible refine below_drewN ?_ _) | (with_reducible refine Below.drew ?_) | (with_reducible refine Below.setCell ?_ ?_ _) | (with_reducible refine Below.alloc ?_ ?_ _) | (with_reducible assumption) | (simp; done) | (simp; omega) | omega))
    obtain ⟨w9, hw9⟩ : ∃ x, x = w8.alloc (.cells #[.bool sn, .int .u64 sh, .int .u64 sl] 24) := ⟨_, rfl⟩; rw [← hw9]
    rw [← hw9] at xz_9 p9 HB
    clear hw9
    have xa_9 := Lib.hid (BoxD.below xa_8.out p9); have xa_90 := xa_9.out.c0; have xa_91 := xa_9.out.c1; have xa_92 := xa_9.out.c2; have xa_9z := xa_9.out.z; have xo_9 := Lib.hid (BoxD.below xo_8.out p9); have xo_90 := xo_9.out.c0; have xo_91 := xo_9.out.c1; have xo_92 := xo_9.out.c2; have xo_9z := xo_9.out.z; have xp_9 := Lib.hid (BoxD.below xp_8.out p9); have xp_90 := xp_9.out.c0; have xp_91 := xp_9.out.c1; have xp_92 := xp_9.out.c2; have xp_9z := xp_9.out.z; have xq_9 := Lib.hid (BoxD.below xq_8.out p9); have xq_90 := xq_9.out.c0; have xq_91 := xq_9.out.c1; have xq_92 := xq_9.out.c2; have xq_9z := xq_9.out.z; have xx_9 := Lib.hid (BoxD.below xx_8.out p9); have xx_90 := xx_9.out.c0; have xx_91 := xx_9.out.c1; have xx_92 := xx_9.out.c2; have xx_9z := xx_9.out.z; have xy_9 := Lib.hid (BoxD.below xy_8.out p9); have xy_90 := xy_9.out.c0; have xy_91 := xy_9.out.c1; have xy_92 := xy_9.out.c2; have xy_9z := xy_9.out.z
    have xz_90 := xz_9.out.c0; have xz_91 := xz_9.out.c1; have xz_92 := xz_9.out.c2
    have HB := Lib.hid HB
    rcases HC.out with ⟨rfl, rfl, rfl, rfl⟩ | ⟨hne | hne, rfl, rfl, rfl, rfl⟩
    all_goals
      clear HC
      go_wp2_with (first
        | (go_at_call 28; refine (code_errno 3 (by decide) (by decide) _).mono ?_; rintro e w10 ⟨rfl, rfl⟩))
      go_ret
      exact ⟨rfl, HB.out⟩
end Go.Proofs.Ytdmifldjeiabdaa
