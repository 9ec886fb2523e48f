/- fieldfarelaw01.DecOrders: the walk. -/
import Derived.Test.YtdmifldjeiabdaaLawF
namespace Go.Proofs.Ytdmifldjeiabdaa
open Go.RowKit
theorem add_comm_gen {n m : Bool} {ha la hb lb : Int} (h : (∃ za zb, IsD n ha la za ∧ IsD m hb lb zb) ∨ goodB n ha la = false ∨ goodB m hb lb = false) :
    ∃ rn rh rl er K, (∀ W, Calls Try.prog 39 #[.agg #[.bool n, .int .u64 ha, .int .u64 la], .agg #[.bool m, .int .u64 hb, .int .u64 lb]] W fun e w' => e = .returned (.tuple #[.agg #[.bool rn, .int .u64 rh, .int .u64 rl], er]) ∧ Below W.heap.size W w') ∧
      (∀ W, Calls Try.prog 39 #[.agg #[.bool m, .int .u64 hb, .int .u64 lb], .agg #[.bool n, .int .u64 ha, .int .u64 la]] W fun e w' => e = .returned (.tuple #[.agg #[.bool rn, .int .u64 rh, .int .u64 rl], er]) ∧ Below W.heap.size W w') ∧
      (∀ W, Calls Try.prog 28 #[er] W fun e w' => e = .returned (.int .i64 K) ∧ Below W.heap.size W w') := by
  rcases h with ⟨za, zb, ia, ib⟩ | h
  · obtain ⟨rn, rh, rl, er, A1, h1⟩ := add_gen ia ib
    obtain ⟨sn, sh, sl, fr, A2, h2⟩ := add_gen ib ia
    rw [Int.add_comm] at h2
    obtain ⟨rfl, rfl, rfl, rfl⟩ := h1.uniq h2
    obtain ⟨K, hK⟩ := h1.code
    exact ⟨_, _, _, _, K, A1, A2, hK⟩
  · exact ⟨_, _, _, _, 1, fun W => add_bad n m ha la hb lb h W, fun W => add_bad m n hb lb ha la h.symm W, code_bk 1 (by decide) (by decide)⟩
theorem mul_comm_gen {n m : Bool} {ha la hb lb : Int} (h : (∃ za zb, IsD n ha la za ∧ IsD m hb lb zb) ∨ goodB n ha la = false ∨ goodB m hb lb = false) :
    ∃ rn rh rl er K, (∀ W, Calls Try.prog 43 #[.agg #[.bool n, .int .u64 ha, .int .u64 la], .agg #[.bool m, .int .u64 hb, .int .u64 lb]] W fun e w' => e = .returned (.tuple #[.agg #[.bool rn, .int .u64 rh, .int .u64 rl], er]) ∧ Below W.heap.size W w') ∧
      (∀ W, Calls Try.prog 43 #[.agg #[.bool m, .int .u64 hb, .int .u64 lb], .agg #[.bool n, .int .u64 ha, .int .u64 la]] W fun e w' => e = .returned (.tuple #[.agg #[.bool rn, .int .u64 rh, .int .u64 rl], er]) ∧ Below W.heap.size W w') ∧
      (∀ W, Calls Try.prog 28 #[er] W fun e w' => e = .returned (.int .i64 K) ∧ Below W.heap.size W w') := by
  rcases h with ⟨za, zb, ia, ib⟩ | h
  · obtain ⟨rn, rh, rl, er, A1, h1⟩ := mul_gen ia ib
    obtain ⟨sn, sh, sl, fr, A2, h2⟩ := mul_gen ib ia
    rw [mulZ_comm] at h2
    obtain ⟨rfl, rfl, rfl, rfl⟩ := h1.uniq h2
    obtain ⟨K, hK⟩ := h1.code
    exact ⟨_, _, _, _, K, A1, A2, hK⟩
  · exact ⟨_, _, _, _, 1, fun W => mul_bad n m ha la hb lb h W, fun W => mul_bad m n hb lb ha la h.symm W, code_bk 1 (by decide) (by decide)⟩
set_option maxRecDepth 100000 in
set_option maxHeartbeats 3200000 in
theorem orders_law (n : Bool) (ha la : Int) (m : Bool) (hb lb : Int) (w : World) (wa : Wd ha) (xa : Wd la) (wb : Wd hb) (xb : Wd lb) :
    Calls Try.prog 17 #[.agg #[.bool n, .int .u64 ha, .int .u64 la], .agg #[.bool m, .int .u64 hb, .int .u64 lb]] w fun e w' => e = .returned (.bool true) ∧ Below w.heap.size w w' := by
  have hcas : goodB n ha la = false ∨ (goodB n ha la = true ∧ goodB m hb lb = false) ∨ (∃ za zb, IsD n ha la za ∧ IsD m hb lb zb) := by
    rcases good_split n ha la wa xa with h | ⟨za, ia⟩
    · exact .inl h
    · rcases good_split m hb lb wb xb with h | ⟨zb, ib⟩
      · exact .inr (.inl ⟨good_of ia, h⟩)
      · exact .inr (.inr ⟨za, zb, ia, ib⟩)
  clear wa xa wb xb
  have hgen : (∃ za zb, IsD n ha la za ∧ IsD m hb lb zb) ∨ goodB n ha la = false ∨ goodB m hb lb = false := by
    rcases hcas with h | ⟨_, h⟩ | h
    · exact .inr (.inl h)
    · exact .inr (.inr h)
    · exact .inl h
  obtain ⟨sn, sh, sl, se, K1, S0, S1, S2⟩ := add_comm_gen hgen
  obtain ⟨pn, ph, pl, pe, K2, Q0, Q1, Q2⟩ := mul_comm_gen hgen
  have AX := Lib.hid S0; have AY := Lib.hid S1; have C1 := Lib.hid S2; have MX := Lib.hid Q0; have MY := Lib.hid Q1; have C2 := Lib.hid Q2
  have HCAS := Lib.hid hcas
  clear S0 S1 S2 Q0 Q1 Q2 hcas hgen
  go_enter Try.func17, Try.ntmps17
  go_upto_region 9 with (first
    | (go_at_call 32; refine (awake1_any _).mono ?_; rintro e w1 ⟨rfl, b1⟩; have xa_1 : Hid (BoxD w1 (w.heap.size) n ha la) := Lib.hid (BoxD.below (BoxD.alloc (BoxD.make w n ha la (by simp)) _) b1); have xa_10 := xa_1.out.c0; have xa_11 := xa_1.out.c1; have xa_12 := xa_1.out.c2; have xa_1z := xa_1.out.z; have xb_1 : Hid (BoxD w1 (w.heap.size + 1) m hb lb) := Lib.hid (BoxD.below (BoxD.make (w.alloc _) m hb lb (by simp)) b1); have xb_10 := xb_1.out.c0; have xb_11 := xb_1.out.c1; have xb_12 := xb_1.out.c2; have xb_1z := xb_1.out.z)
    | (go_at_call 39; (with_reducible refine (AX.out _).mono ?_); rintro e w2 ⟨rfl, b2⟩; have p2 : Below w1.heap.size w1 w2 := Below.trans (by repeat' (first | (with_reducible assumption) | (with_reducible exact Below.refl _ _) | (with_reducible refine Below.drew ?_) | (with_reducible refine below_drewN ?_ _) | (with_reducible refine Below.alloc ?_ ?_ _) | (with_reducible exact Nat.le_refl _) | (simp; done) | (simp; omega) | omega)) (Below.mono b2 (by first | omega | (simp; done) | (simp; omega))); have xa_2 := Lib.hid (BoxD.below xa_1.out p2); have xa_20 := xa_2.out.c0; have xa_21 := xa_2.out.c1; have xa_22 := xa_2.out.c2; have xa_2z := xa_2.out.z; have xb_2 := Lib.hid (BoxD.below xb_1.out p2); have xb_20 := xb_2.out.c0; have xb_21 := xb_2.out.c1; have xb_22 := xb_2.out.c2; have xb_2z := xb_2.out.z)
    | (go_at_call 39; (with_reducible refine (AY.out _).mono ?_); rintro e w3 ⟨rfl, b3⟩; have p3 : Below w2.heap.size w2 w3 := Below.trans (by repeat' (first | (with_reducible assumption) | (with_reducible exact Below.refl _ _) | (with_reducible refine Below.drew ?_) | (with_reducible refine below_drewN ?_ _) | (with_reducible refine Below.alloc ?_ ?_ _) | (with_reducible exact Nat.le_refl _) | (simp; done) | (simp; omega) | omega)) (Below.mono b3 (by first | omega | (simp; done) | (simp; omega))); have xa_3 := Lib.hid (BoxD.below xa_2.out p3); have xa_30 := xa_3.out.c0; have xa_31 := xa_3.out.c1; have xa_32 := xa_3.out.c2; have xa_3z := xa_3.out.z; have xb_3 := Lib.hid (BoxD.below xb_2.out p3); have xb_30 := xb_3.out.c0; have xb_31 := xb_3.out.c1; have xb_32 := xb_3.out.c2; have xb_3z := xb_3.out.z; have xs_3 := Lib.hid (((BoxD.new w2 sn sh sl).below b3)); have xs_30 := xs_3.out.c0; have xs_31 := xs_3.out.c1; have xs_32 := xs_3.out.c2; have xs_3z := xs_3.out.z)
    | (go_at_call 43; (with_reducible refine (MX.out _).mono ?_); rintro e w4 ⟨rfl, b4⟩; have p4 : Below w3.heap.size w3 w4 := Below.trans (by repeat' (first | (with_reducible assumption) | (with_reducible exact Below.refl _ _) | (with_reducible refine Below.drew ?_) | (with_reducible refine below_drewN ?_ _) | (with_reducible refine Below.alloc ?_ ?_ _) | (with_reducible exact Nat.le_refl _) | (simp; done) | (simp; omega) | omega)) (Below.mono b4 (by first | omega | (simp; done) | (simp; omega))); have xa_4 := Lib.hid (BoxD.below xa_3.out p4); have xa_40 := xa_4.out.c0; have xa_41 := xa_4.out.c1; have xa_42 := xa_4.out.c2; have xa_4z := xa_4.out.z; have xb_4 := Lib.hid (BoxD.below xb_3.out p4); have xb_40 := xb_4.out.c0; have xb_41 := xb_4.out.c1; have xb_42 := xb_4.out.c2; have xb_4z := xb_4.out.z; have xs_4 := Lib.hid (BoxD.below xs_3.out p4); have xs_40 := xs_4.out.c0; have xs_41 := xs_4.out.c1; have xs_42 := xs_4.out.c2; have xs_4z := xs_4.out.z; have xt_4 := Lib.hid (((BoxD.new w3 sn sh sl).below b4)); have xt_40 := xt_4.out.c0; have xt_41 := xt_4.out.c1; have xt_42 := xt_4.out.c2; have xt_4z := xt_4.out.z)
    | (go_at_call 43; (with_reducible refine (MY.out _).mono ?_); rintro e w5 ⟨rfl, b5⟩; have p5 : Below w4.heap.size w4 w5 := Below.trans (by repeat' (first | (with_reducible assumption) | (with_reducible exact Below.refl _ _) | (with_reducible refine Below.drew ?_) | (with_reducible refine below_drewN ?_ _) | (with_reducible refine Below.alloc ?_ ?_ _) | (with_reducible exact Nat.le_refl _) | (simp; done) | (simp; omega) | omega)) (Below.mono b5 (by first | omega | (simp; done) | (simp; omega))); have xa_5 := Lib.hid (BoxD.below xa_4.out p5); have xa_50 := xa_5.out.c0; have xa_51 := xa_5.out.c1; have xa_52 := xa_5.out.c2; have xa_5z := xa_5.out.z; have xb_5 := Lib.hid (BoxD.below xb_4.out p5); have xb_50 := xb_5.out.c0; have xb_51 := xb_5.out.c1; have xb_52 := xb_5.out.c2; have xb_5z := xb_5.out.z; have xs_5 := Lib.hid (BoxD.below xs_4.out p5); have xs_50 := xs_5.out.c0; have xs_51 := xs_5.out.c1; have xs_52 := xs_5.out.c2; have xs_5z := xs_5.out.z; have xt_5 := Lib.hid (BoxD.below xt_4.out p5); have xt_50 := xt_5.out.c0; have xt_51 := xt_5.out.c1; have xt_52 := xt_5.out.c2; have xt_5z := xt_5.out.z; have xp_5 := Lib.hid (((BoxD.new w4 pn ph pl).below b5)); have xp_50 := xp_5.out.c0; have xp_51 := xp_5.out.c1; have xp_52 := xp_5.out.c2; have xp_5z := xp_5.out.z)
    | (go_at_call 28; (with_reducible refine (C1.out _).mono ?_); rintro e w6 ⟨rfl, b6⟩; have p6 : Below w5.heap.size w5 w6 := Below.trans (by repeat' (first | (with_reducible assumption) | (with_reducible exact Below.refl _ _) | (with_reducible refine Below.drew ?_) | (with_reducible refine below_drewN ?_ _) | (with_reducible refine Below.alloc ?_ ?_ _) | (with_reducible exact Nat.le_refl _) | (simp; done) | (simp; omega) | omega)) (Below.mono b6 (by first | omega | (simp; done) | (simp; omega))); have xa_6 := Lib.hid (BoxD.below xa_5.out p6); have xa_60 := xa_6.out.c0; have xa_61 := xa_6.out.c1; have xa_62 := xa_6.out.c2; have xa_6z := xa_6.out.z; have xb_6 := Lib.hid (BoxD.below xb_5.out p6); have xb_60 := xb_6.out.c0; have xb_61 := xb_6.out.c1; have xb_62 := xb_6.out.c2; have xb_6z := xb_6.out.z)
    | (go_at_call 28; (with_reducible refine (C1.out _).mono ?_); rintro e w7 ⟨rfl, b7⟩; have p7 : Below w6.heap.size w6 w7 := Below.trans (by repeat' (first | (with_reducible assumption) | (with_reducible exact Below.refl _ _) | (with_reducible refine Below.drew ?_) | (with_reducible refine below_drewN ?_ _) | (with_reducible refine Below.alloc ?_ ?_ _) | (with_reducible exact Nat.le_refl _) | (simp; done) | (simp; omega) | omega)) (Below.mono b7 (by first | omega | (simp; done) | (simp; omega))); have xa_7 := Lib.hid (BoxD.below xa_6.out p7); have xa_70 := xa_7.out.c0; have xa_71 := xa_7.out.c1; have xa_72 := xa_7.out.c2; have xa_7z := xa_7.out.z; have xb_7 := Lib.hid (BoxD.below xb_6.out p7); have xb_70 := xb_7.out.c0; have xb_71 := xb_7.out.c1; have xb_72 := xb_7.out.c2; have xb_7z := xb_7.out.z)
    | (go_at_call 28; (with_reducible refine (C2.out _).mono ?_); rintro e w8 ⟨rfl, b8⟩; have p8 : Below w7.heap.size w7 w8 := Below.trans (by repeat' (first | (with_reducible assumption) | (with_reducible exact Below.refl _ _) | (with_reducible refine Below.drew ?_) | (with_reducible refine below_drewN ?_ _) | (with_reducible refine Below.alloc ?_ ?_ _) | (with_reducible exact Nat.le_refl _) | (simp; done) | (simp; omega) | omega)) (Below.mono b8 (by first | omega | (simp; done) | (simp; omega))); have xa_8 := Lib.hid (BoxD.below xa_7.out p8); have xa_80 := xa_8.out.c0; have xa_81 := xa_8.out.c1; have xa_82 := xa_8.out.c2; have xa_8z := xa_8.out.z; have xb_8 := Lib.hid (BoxD.below xb_7.out p8); have xb_80 := xb_8.out.c0; have xb_81 := xb_8.out.c1; have xb_82 := xb_8.out.c2; have xb_8z := xb_8.out.z)
    | (go_at_call 28; (with_reducible refine (C2.out _).mono ?_); rintro e w9 ⟨rfl, b9⟩; have p9 : Below w8.heap.size w8 w9 := Below.trans (by repeat' (first | (with_reducible assumption) | (with_reducible exact Below.refl _ _) | (with_reducible refine Below.drew ?_) | (with_reducible refine below_drewN ?_ _) | (with_reducible refine Below.alloc ?_ ?_ _) | (with_reducible exact Nat.le_refl _) | (simp; done) | (simp; omega) | omega)) (Below.mono b9 (by first | omega | (simp; done) | (simp; omega))); have xa_9 := Lib.hid (BoxD.below xa_8.out p9); have xa_90 := xa_9.out.c0; have xa_91 := xa_9.out.c1; have xa_92 := xa_9.out.c2; have xa_9z := xa_9.out.z; have xb_9 := Lib.hid (BoxD.below xb_8.out p9); have xb_90 := xb_9.out.c0; have xb_91 := xb_9.out.c1; have xb_92 := xb_9.out.c2; have xb_9z := xb_9.out.z))
  have HB : Below w.heap.size w w9 := by (repeat' (first | (with_reducible exact Below.refl _ _) | (refine Below.trans ?_ (Below.mono (by with_reducible assumption) ?_)) | (with_reducible exact Below.refl _ _) | (with_reducible refine below_drewN ?_ _) | (with_reducible refine Below.drew ?_) | (with_reducible refine Below.setCell ?_ ?_ _) | (with_reducible refine Below.alloc ?_ ?_ _) | (with_reducible assumption) | (simp; done) | (simp; omega) | omega))
  have HB := Lib.hid HB
  clear xa_1 xa_10 xa_11 xa_12 xa_1z xb_1 xb_10 xb_11 xb_12 xb_1z xa_2 xa_20 xa_21 xa_22 xa_2z xb_2 xb_20 xb_21 xb_22 xb_2z xa_3 xa_30 xa_31 xa_32 xa_3z xb_3 xb_30 xb_31 xb_32 xb_3z xa_4 xa_40 xa_41 xa_42 xa_4z xb_4 xb_40 xb_41 xb_42 xb_4z xa_5 xa_50 xa_51 xa_52 xa_5z xb_5 xb_50 xb_51 xb_52 xb_5z xa_6 xa_60 xa_61 xa_62 xa_6z xb_6 xb_60 xb_61 xb_62 xb_6z xa_7 xa_70 xa_71 xa_72 xa_7z xb_7 xb_70 xb_71 xb_72 xb_7z xa_8 xa_80 xa_81 xa_82 xa_8z xb_8 xb_80 xb_81 xb_82 xb_8z
  clear xs_3 xs_30 xs_31 xs_32 xs_3z xs_4 xs_40 xs_41 xs_42 xs_4z xs_5 xs_50 xs_51 xs_52 xs_5z
  clear xt_4 xt_40 xt_41 xt_42 xt_4z xt_5 xt_50 xt_51 xt_52 xt_5z
  clear xp_5 xp_50 xp_51 xp_52 xp_5z
  clear b1 b2 b3 b4 b5 b6 b7 b8 b9 p2 p3 p4 p5 p6 p7 p8 p9 AX AY MX MY C1 C2
  rcases HCAS.out with ga | ⟨ga, gb⟩ | ⟨za, zb, ia, ib⟩
  iterate 2
    · clear HCAS
      go_wp2_with (first
        | (go_at_call 21; refine (good_any _ _ _ _).mono ?_; rintro e w2 ⟨rfl, rfl⟩))
      go_ret
      exact ⟨rfl, by refine HB.out.trans ?_; (repeat' (first | (with_reducible exact Below.refl _ _) | (refine Below.trans ?_ (Below.mono (by with_reducible assumption) ?_)) | (with_reducible exact Below.refl _ _) | (with_reducible refine below_drewN ?_ _) | (with_reducible refine Below.drew ?_) | (with_reducible refine Below.setCell ?_ ?_ _) | (with_reducible refine Below.alloc ?_ ?_ _) | (with_reducible assumption) | (simp; done) | (simp; omega) | omega))⟩
  clear HCAS
  have GA := Lib.hid (good_b n ha la (good_of ia)); have GB := Lib.hid (good_b m hb lb (good_of ib))
  have S0 := fun W => sub_ok _ _ _ _ _ _ _ _ 0 ia ia (by omega) (by decide) W
  rw [← isD_0.eq.1, ← isD_0.eq.2.1, ← isD_0.eq.2.2] at S0
  have D1 := fun W => cmp_ok _ _ _ _ _ _ _ _ ia ib W
  rw [cmpZ_swap] at D1
  have D2 := fun W => cmp_ok _ _ _ _ _ _ _ _ ib ia W
  have hK0 := cmpZ_cases zb za
  obtain ⟨K, hK⟩ : ∃ K, K = cmpZ zb za := ⟨_, rfl⟩
  rw [← hK] at D1 D2 hK0
  have hk1 : -1 ≤ K := by omega
  have hk2 : K ≤ 1 := by omega
  have hwk : IntKind.i64.wrap (-K) = -K := by rw [IntKind.wrap_i64]; omega
  have SU := Lib.hid S0; have E1 := Lib.hid D1; have E2 := Lib.hid D2
  have HIA := Lib.hid ia; have HIB := Lib.hid ib
  clear S0 D1 D2 hK0 hK ia ib
  go_upto_region 12 with (first
    | (go_at_call 21; (with_reducible refine (GA.out _).mono ?_); rintro e w10 ⟨rfl, b10⟩; have p10 : Below w9.heap.size w9 w10 := Below.trans (by repeat' (first | (with_reducible assumption) | (with_reducible exact Below.refl _ _) | (with_reducible refine Below.drew ?_) | (with_reducible refine below_drewN ?_ _) | (with_reducible refine Below.alloc ?_ ?_ _) | (with_reducible exact Nat.le_refl _) | (simp; done) | (simp; omega) | omega)) (Below.mono b10 (by first | omega | (simp; done) | (simp; omega))); have xa_10 := Lib.hid (BoxD.below xa_9.out p10); have xa_100 := xa_10.out.c0; have xa_101 := xa_10.out.c1; have xa_102 := xa_10.out.c2; have xa_10z := xa_10.out.z; have xb_10 := Lib.hid (BoxD.below xb_9.out p10); have xb_100 := xb_10.out.c0; have xb_101 := xb_10.out.c1; have xb_102 := xb_10.out.c2; have xb_10z := xb_10.out.z)
    | (go_at_call 21; (with_reducible refine (GB.out _).mono ?_); rintro e w11 ⟨rfl, b11⟩; have p11 : Below w10.heap.size w10 w11 := Below.trans (by repeat' (first | (with_reducible assumption) | (with_reducible exact Below.refl _ _) | (with_reducible refine Below.drew ?_) | (with_reducible refine below_drewN ?_ _) | (with_reducible refine Below.alloc ?_ ?_ _) | (with_reducible exact Nat.le_refl _) | (simp; done) | (simp; omega) | omega)) (Below.mono b11 (by first | omega | (simp; done) | (simp; omega))); have xa_11 := Lib.hid (BoxD.below xa_10.out p11); have xa_110 := xa_11.out.c0; have xa_111 := xa_11.out.c1; have xa_112 := xa_11.out.c2; have xa_11z := xa_11.out.z; have xb_11 := Lib.hid (BoxD.below xb_10.out p11); have xb_110 := xb_11.out.c0; have xb_111 := xb_11.out.c1; have xb_112 := xb_11.out.c2; have xb_11z := xb_11.out.z)
    | (go_at_call 41; (with_reducible refine (SU.out _).mono ?_); rintro e w12 ⟨rfl, b12⟩; have p12 : Below w11.heap.size w11 w12 := Below.trans (by repeat' (first | (with_reducible assumption) | (with_reducible exact Below.refl _ _) | (with_reducible refine Below.drew ?_) | (with_reducible refine below_drewN ?_ _) | (with_reducible refine Below.alloc ?_ ?_ _) | (with_reducible exact Nat.le_refl _) | (simp; done) | (simp; omega) | omega)) (Below.mono b12 (by first | omega | (simp; done) | (simp; omega))); have xa_12 := Lib.hid (BoxD.below xa_11.out p12); have xa_120 := xa_12.out.c0; have xa_121 := xa_12.out.c1; have xa_122 := xa_12.out.c2; have xa_12z := xa_12.out.z; have xb_12 := Lib.hid (BoxD.below xb_11.out p12); have xb_120 := xb_12.out.c0; have xb_121 := xb_12.out.c1; have xb_122 := xb_12.out.c2; have xb_12z := xb_12.out.z))
  have xz_13 := Lib.hid (BoxD.new w12 false 0 0)
  have p13 : Below w12.heap.size w12 (w12.alloc (.cells #[.bool false, .int .u64 0, .int .u64 0] 24)) := (Below.refl _ _).alloc (Nat.le_refl _) _
  obtain ⟨w13, hw13⟩ : ∃ x, x = w12.alloc (.cells #[.bool false, .int .u64 0, .int .u64 0] 24) := ⟨_, rfl⟩; rw [← hw13]
  rw [← hw13] at xz_13 p13
  clear hw13
  have xa_13 := Lib.hid (BoxD.below xa_12.out p13); have xa_130 := xa_13.out.c0; have xa_131 := xa_13.out.c1; have xa_132 := xa_13.out.c2; have xa_13z := xa_13.out.z; have xb_13 := Lib.hid (BoxD.below xb_12.out p13); have xb_130 := xb_13.out.c0; have xb_131 := xb_13.out.c1; have xb_132 := xb_13.out.c2; have xb_13z := xb_13.out.z
  have xz_130 := xz_13.out.c0; have xz_131 := xz_13.out.c1; have xz_132 := xz_13.out.c2
  have HB13 := Lib.hid (HB.out.trans ((p10.trans ((p11.trans ((p12.trans (p13.mono p12.size)).mono p11.size)).mono p10.size)).mono HB.out.size))
  clear xa_9 xa_90 xa_91 xa_92 xa_9z xb_9 xb_90 xb_91 xb_92 xb_9z xa_10 xa_100 xa_101 xa_102 xa_10z xb_10 xb_100 xb_101 xb_102 xb_10z xa_11 xa_110 xa_111 xa_112 xa_11z xb_11 xb_110 xb_111 xb_112 xb_11z xa_12 xa_120 xa_121 xa_122 xa_12z xb_12 xb_120 xb_121 xb_122 xb_12z
  clear b10 b11 b12 p10 p11 p12 p13 GA GB SU HB
  go_region_held3 (fun w' => w'.cell? ⟨w.heap.size, 0, none⟩ = some (.bool n) ∧ w'.cell? ⟨w.heap.size, 1, none⟩ = some (.int .u64 ha) ∧ w'.cell? ⟨w.heap.size, 2, none⟩ = some (.int .u64 la) ∧ w'.cell? ⟨w.heap.size + 1, 0, none⟩ = some (.bool m) ∧ w'.cell? ⟨w.heap.size + 1, 1, none⟩ = some (.int .u64 hb) ∧ w'.cell? ⟨w.heap.size + 1, 2, none⟩ = some (.int .u64 lb) ∧ w'.cell? ⟨w12.heap.size, 0, none⟩ = some (.bool false) ∧ w'.cell? ⟨w12.heap.size, 1, none⟩ = some (.int .u64 0) ∧ w'.cell? ⟨w12.heap.size, 2, none⟩ = some (.int .u64 0)) ((and_intros <;> (first | (with_reducible assumption) | (go_simp; done) | (simp (maxDischargeDepth := 12) [go_sem]; done) | (simp (maxDischargeDepth := 12) [go_sem, *]; done) | exact (Below.cell (by with_reducible assumption) (by first | (simp; done) | (simp; omega) | omega)).trans (by simp (maxDischargeDepth := 12) [go_sem]))))
    (first
      | (go_at_call 40; (with_reducible refine (E1.out _).mono ?_); rintro e w14 ⟨rfl, b14⟩; have p14 : Below w13.heap.size w13 w14 := Below.trans (by repeat' (first | (with_reducible assumption) | (with_reducible exact Below.refl _ _) | (with_reducible refine Below.drew ?_) | (with_reducible refine below_drewN ?_ _) | (with_reducible refine Below.alloc ?_ ?_ _) | (with_reducible exact Nat.le_refl _) | (simp; done) | (simp; omega) | omega)) (Below.mono b14 (by first | omega | (simp; done) | (simp; omega))); have xa_14 := Lib.hid (BoxD.below xa_13.out p14); have xa_140 := xa_14.out.c0; have xa_141 := xa_14.out.c1; have xa_142 := xa_14.out.c2; have xa_14z := xa_14.out.z; have xb_14 := Lib.hid (BoxD.below xb_13.out p14); have xb_140 := xb_14.out.c0; have xb_141 := xb_14.out.c1; have xb_142 := xb_14.out.c2; have xb_14z := xb_14.out.z; have xz_14 := Lib.hid (BoxD.below xz_13.out p14); have xz_140 := xz_14.out.c0; have xz_141 := xz_14.out.c1; have xz_142 := xz_14.out.c2; have xz_14z := xz_14.out.z)
      | (go_at_call 40; (with_reducible refine (E2.out _).mono ?_); rintro e w15 ⟨rfl, b15⟩; have p15 : Below w14.heap.size w14 w15 := Below.trans (by repeat' (first | (with_reducible assumption) | (with_reducible exact Below.refl _ _) | (with_reducible refine Below.drew ?_) | (with_reducible refine below_drewN ?_ _) | (with_reducible refine Below.alloc ?_ ?_ _) | (with_reducible exact Nat.le_refl _) | (simp; done) | (simp; omega) | omega)) (Below.mono b15 (by first | omega | (simp; done) | (simp; omega))); have xa_15 := Lib.hid (BoxD.below xa_14.out p15); have xa_150 := xa_15.out.c0; have xa_151 := xa_15.out.c1; have xa_152 := xa_15.out.c2; have xa_15z := xa_15.out.z; have xb_15 := Lib.hid (BoxD.below xb_14.out p15); have xb_150 := xb_15.out.c0; have xb_151 := xb_15.out.c1; have xb_152 := xb_15.out.c2; have xb_15z := xb_15.out.z; have xz_15 := Lib.hid (BoxD.below xz_14.out p15); have xz_150 := xz_15.out.c0; have xz_151 := xz_15.out.c1; have xz_152 := xz_15.out.c2; have xz_15z := xz_15.out.z))
  have HB15 := Lib.hid (HB13.out.trans ((p14.trans (p15.mono p14.size)).mono HB13.out.size))
  clear xa_13 xa_130 xa_131 xa_132 xa_13z xb_13 xb_130 xb_131 xb_132 xb_13z xa_14 xa_140 xa_141 xa_142 xa_14z xb_14 xb_140 xb_141 xb_142 xb_14z
  clear b14 b15 p14 p15 HB13 E1 E2
  go_upto_region 14 with fail
  by_cases hz : zb = 0
  · obtain ⟨e1, e2, e3⟩ := HIB.out.eq
    obtain rfl : m = false := by rw [e1, hz]; decide
    obtain rfl : hb = 0 := by rw [e2, hz]; decide
    obtain rfl : lb = 0 := by rw [e3, hz]; decide
    have MO := Lib.hid (fun W => mod_zero n ha la (good_of HIA.out) W)
    clear e1 e2 e3
    go_wp2_with (first | (go_at_call 42; (with_reducible refine (MO.out _).mono ?_); rintro e w16 ⟨rfl, b16⟩; have p16 : Below w15.heap.size w15 w16 := Below.trans (by repeat' (first | (with_reducible assumption) | (with_reducible exact Below.refl _ _) | (with_reducible refine Below.drew ?_) | (with_reducible refine below_drewN ?_ _) | (with_reducible refine Below.alloc ?_ ?_ _) | (with_reducible exact Nat.le_refl _) | (simp; done) | (simp; omega) | omega)) (Below.mono b16 (by first | omega | (simp; done) | (simp; omega))); have xb_16 := Lib.hid (BoxD.below xb_15.out p16); have xb_160 := xb_16.out.c0; have xb_161 := xb_16.out.c1; have xb_162 := xb_16.out.c2; have xb_16z := xb_16.out.z))
    go_ret
    exact ⟨rfl, by refine HB15.out.trans ?_; (repeat' (first | (with_reducible exact Below.refl _ _) | (refine Below.trans ?_ (Below.mono (by with_reducible assumption) ?_)) | (with_reducible exact Below.refl _ _) | (with_reducible refine below_drewN ?_ _) | (with_reducible refine Below.drew ?_) | (with_reducible refine Below.setCell ?_ ?_ _) | (with_reducible refine Below.alloc ?_ ?_ _) | (with_reducible assumption) | (simp; done) | (simp; omega) | omega))⟩
  · have hmz := tmod_abs_lt za zb hz
    have hml : (((za.tmod zb).natAbs : Nat) : Int) < LIM := by have := HIB.out.2.2.2.2; omega
    have im := IsD.of hml
    have hdl : (((za - za.tmod zb).natAbs : Nat) : Int) < LIM := by have := sub_tmod_abs za zb; have := HIA.out.2.2.2.2; omega
    have id' := IsD.of hdl
    have M0 := fun W => mod_ok _ _ _ _ _ _ _ _ _ HIA.out HIB.out hz rfl W
    have S0 := fun W => sub_ok _ _ _ _ _ _ _ _ _ HIA.out im rfl hdl W
    have N0 := fun W => mod_ok _ _ _ _ _ _ _ _ 0 id' HIB.out hz (sub_tmod_mod za zb).symm W
    rw [← isD_0.eq.1, ← isD_0.eq.2.1, ← isD_0.eq.2.2] at N0
    generalize zn (za.tmod zb) = mn at *
    generalize zh (za.tmod zb) = mh0 at *
    generalize zl (za.tmod zb) = ml0 at *
    generalize zn (za - za.tmod zb) = dn at *
    generalize zh (za - za.tmod zb) = dh at *
    generalize zl (za - za.tmod zb) = dl at *
    have MO := Lib.hid M0; have SU := Lib.hid S0; have NO := Lib.hid N0
    clear M0 S0 N0 hmz hml im hdl id' hz
    go_wp2_with (first
      | (go_at_call 42; (with_reducible refine (MO.out _).mono ?_); rintro e w16 ⟨rfl, b16⟩; have p16 : Below w15.heap.size w15 w16 := Below.trans (by repeat' (first | (with_reducible assumption) | (with_reducible exact Below.refl _ _) | (with_reducible refine Below.drew ?_) | (with_reducible refine below_drewN ?_ _) | (with_reducible refine Below.alloc ?_ ?_ _) | (with_reducible exact Nat.le_refl _) | (simp; done) | (simp; omega) | omega)) (Below.mono b16 (by first | omega | (simp; done) | (simp; omega))); have xa_16 := Lib.hid (BoxD.below xa_15.out p16); have xa_160 := xa_16.out.c0; have xa_161 := xa_16.out.c1; have xa_162 := xa_16.out.c2; have xa_16z := xa_16.out.z; have xb_16 := Lib.hid (BoxD.below xb_15.out p16); have xb_160 := xb_16.out.c0; have xb_161 := xb_16.out.c1; have xb_162 := xb_16.out.c2; have xb_16z := xb_16.out.z)
      | (go_at_call 41; (with_reducible refine (SU.out _).mono ?_); rintro e w17 ⟨rfl, b17⟩; have p17 : Below w16.heap.size w16 w17 := Below.trans (by repeat' (first | (with_reducible assumption) | (with_reducible exact Below.refl _ _) | (with_reducible refine Below.drew ?_) | (with_reducible refine below_drewN ?_ _) | (with_reducible refine Below.alloc ?_ ?_ _) | (with_reducible exact Nat.le_refl _) | (simp; done) | (simp; omega) | omega)) (Below.mono b17 (by first | omega | (simp; done) | (simp; omega))); have xb_17 := Lib.hid (BoxD.below xb_16.out p17); have xb_170 := xb_17.out.c0; have xb_171 := xb_17.out.c1; have xb_172 := xb_17.out.c2; have xb_17z := xb_17.out.z)
      | (go_at_call 42; (with_reducible refine (NO.out _).mono ?_); rintro e w18 ⟨rfl, b18⟩; have p18 : Below w17.heap.size w17 w18 := Below.trans (by repeat' (first | (with_reducible assumption) | (with_reducible exact Below.refl _ _) | (with_reducible refine Below.drew ?_) | (with_reducible refine below_drewN ?_ _) | (with_reducible refine Below.alloc ?_ ?_ _) | (with_reducible exact Nat.le_refl _) | (simp; done) | (simp; omega) | omega)) (Below.mono b18 (by first | omega | (simp; done) | (simp; omega))); have xb_18 := Lib.hid (BoxD.below xb_17.out p18); have xb_180 := xb_18.out.c0; have xb_181 := xb_18.out.c1; have xb_182 := xb_18.out.c2; have xb_18z := xb_18.out.z))
    go_ret
    exact ⟨rfl, by refine HB15.out.trans ?_; (repeat' (first | (with_reducible exact Below.refl _ _) | (refine Below.trans ?_ (Below.mono (by with_reducible assumption) ?_)) | (with_reducible exact Below.refl _ _) | (with_reducible refine below_drewN ?_ _) | (with_reducible refine Below.drew ?_) | (with_reducible refine Below.setCell ?_ ?_ _) | (with_reducible refine Below.alloc ?_ ?_ _) | (with_reducible assumption) | (simp; done) | (simp; omega) | omega))⟩
end Go.Proofs.Ytdmifldjeiabdaa
