/- Several texts put together: LawS. -/
import Derived.Test.YtkhhjibpppmekaaBu22
import Derived.Test.YtkhhjibpppmekaaBu27
import Derived.Test.YtkhhjibpppmekaaBu26
/- fieldfarelaw09.CellTexts: the walk. -/
namespace Go.Proofs.Ytkhhjibpppmekaa
open Go.RowKit
set_option maxRecDepth 100000 in
set_option maxHeartbeats 3200000 in
theorem ctexts_x {S T P : ByteArray} (hS : S.size ≤ 200) (hT : T.size ≤ 200) {n : Bool} {h l : Int} {k1 : Int} {n1 : Bool} {h1 l1 : Int} {r x : Int} {tr g : Bool}
    (hr : (Op.bytesLess S.toList T.toList = true ∧ r = -1) ∨ (Op.bytesLess S.toList T.toList = false ∧ (S.toList == T.toList) = true ∧ r = 0) ∨ (Op.bytesLess S.toList T.toList = false ∧ (S.toList == T.toList) = false ∧ r = 1))
    (NU0 : ∀ W, Calls Try.prog 21 #[.agg #[.bool n, .int .u64 h, .int .u64 l]] W fun e w' => e = .returned (.agg #[.int .i64 k1, .string { data := #[] }, .bool n1, .int .u64 h1, .int .u64 l1]) ∧ Below W.heap.size W w')
    (C10 : ∀ W, Calls Try.prog 26 #[.agg #[.int .i64 2, .string S, .bool false, .int .u64 0, .int .u64 0], .agg #[.int .i64 2, .string T, .bool false, .int .u64 0, .int .u64 0]] W fun e w' => e = .returned (.int .i64 r) ∧ Below W.heap.size W w')
    (T10 : ∀ W, Calls Try.prog 29 #[.agg #[.int .i64 2, .string S, .bool false, .int .u64 0, .int .u64 0]] W fun e w' => e = .returned (.bool (!S.toList.isEmpty)) ∧ Below W.heap.size W w')
    (T00 : ∀ W, Calls Try.prog 29 #[cvZ] W fun e w' => e = .returned (.bool false) ∧ Below W.heap.size W w')
    (C20 : ∀ W, Calls Try.prog 26 #[.agg #[.int .i64 k1, .string { data := #[] }, .bool n1, .int .u64 h1, .int .u64 l1], .agg #[.int .i64 2, .string S, .bool false, .int .u64 0, .int .u64 0]] W fun e w' => e = .returned (.int .i64 x) ∧ Below W.heap.size W w')
    (S10 : ∀ W, Calls Try.prog 30 #[.agg #[.int .i64 k1, .string { data := #[] }, .bool n1, .int .u64 h1, .int .u64 l1]] W fun e w' => e = .returned (.string P) ∧ Below W.heap.size W w')
    (C30 : ∀ W, Calls Try.prog 26 #[.agg #[.int .i64 2, .string P, .bool false, .int .u64 0, .int .u64 0], .agg #[.int .i64 2, .string S, .bool false, .int .u64 0, .int .u64 0]] W fun e w' => e = .returned (.int .i64 x) ∧ Below W.heap.size W w')
    (T20 : ∀ W, Calls Try.prog 29 #[.agg #[.int .i64 k1, .string { data := #[] }, .bool n1, .int .u64 h1, .int .u64 l1]] W fun e w' => e = .returned (.bool tr) ∧ Below W.heap.size W w')
    (GD0 : ∀ W, Calls Try.prog 31 #[.agg #[.bool n, .int .u64 h, .int .u64 l]] W fun e w' => e = .returned (.bool g) ∧ Below W.heap.size W w')
    (ht : (g = false ∧ tr = false) ∨ (g = true ∧ tr = !(!n && (decide (h = 0) && decide (l = 0))))) (w : World) :
    Calls Try.prog 7 #[.string S, .string T, .agg #[.bool n, .int .u64 h, .int .u64 l]] w fun e w' => e = .returned (.bool true) ∧ Below w.heap.size w w' := by
  have NU := Lib.hid NU0; have C1 := Lib.hid C10; have T1 := Lib.hid T10; have T0 := Lib.hid T00; have C2 := Lib.hid C20; have S1 := Lib.hid S10; have C3 := Lib.hid C30; have T2 := Lib.hid T20; have GD := Lib.hid GD0
  have TS := Lib.hid (fun W => ctext_any S W); have TT := Lib.hid (fun W => ctext_any T W); have TP := Lib.hid (fun W => ctext_any P W)
  have HT := Lib.hid ht
  have HR := Lib.hid hr
  clear NU0 C10 T10 T00 C20 S10 C30 T20 GD0 ht hr
  obtain ⟨r0, hr0⟩ : ∃ z : Int, z = if Op.bytesLess S.toList T.toList = true then -1 else 0 := ⟨_, rfl⟩
  have HR0 := Lib.hid hr0
  clear hr0
  go_enter Try.func7, Try.ntmps7
  go_upto_if 20 with (first
    | (go_at_call 20; refine (awake9_any _).mono ?_; rintro e w1 ⟨rfl, b1⟩; have b3n_1 := Lib.hid ((Box3.make w (.bool n) (.int .u64 h) (.int .u64 l) 24 rfl).below b1); have b3n_10 := b3n_1.out.c0; have b3n_11 := b3n_1.out.c1; have b3n_12 := b3n_1.out.c2; have b3n_1f0 := b3n_1.out.f0; have b3n_1f1 := b3n_1.out.f1; have b3n_1f2 := b3n_1.out.f2; have b3n_1z := b3n_1.out.z))
  go_cut [7] from 7 to 20 (fun v wx => v = .int .i64 r0 ∧ w1 = wx)
  case first =>
    go_wp2_with fail
    all_goals
      go_meet
      refine ⟨?_, rfl⟩
      have ha := HR0.out
      simp_all
  case rest =>
  obtain ⟨rfl, hw⟩ := hcut
  subst hw
  go_upto_if 23 with fail
  go_cut [7] from 7 to 23 (fun v wx => v = .int .i64 r ∧ w1 = wx)
  case first =>
    go_wp2_with fail
    all_goals
      go_meet
      refine ⟨?_, rfl⟩
      have ha := HR0.out
      rcases HR.out with ⟨e1, e2⟩ | ⟨e1, e2, e3⟩ | ⟨e1, e2, e3⟩
      all_goals simp_all
  case rest =>
  obtain ⟨rfl, rfl⟩ := hcut
  have ee : (r != r) = false := by simp
  have ef : ((!S.toList.isEmpty) != (!S.toList.isEmpty)) = false := by simp
  clear HR HR0
  go_upto_region 12 with (first
    | (go_at_call 22; (with_reducible refine (TS.out _).mono ?_); rintro e w5 ⟨rfl, b5⟩; have p5 : Below w4.heap.size w4 w5 := Below.trans (by repeat' (first | (with_reducible assumption) | (with_reducible exact Below.refl _ _) | (with_reducible refine Below.drew ?_) | (with_reducible refine below_drewN ?_ _) | (with_reducible refine Below.alloc ?_ ?_ _) | (with_reducible exact Nat.le_refl _) | (simp; done) | (simp; omega) | omega)) (Below.mono b5 (by first | omega | (simp; done) | (simp; omega))); have b3n_5 := Lib.hid (Box3.below b3n_4.out p5); have b3n_50 := b3n_5.out.c0; have b3n_51 := b3n_5.out.c1; have b3n_52 := b3n_5.out.c2; have b3n_5f0 := b3n_5.out.f0; have b3n_5f1 := b3n_5.out.f1; have b3n_5f2 := b3n_5.out.f2; have b3n_5z := b3n_5.out.z)
    | (go_at_call 22; (with_reducible refine (TS.out _).mono ?_); rintro e w2 ⟨rfl, b2⟩; have p2 : Below w1.heap.size w1 w2 := Below.trans (by repeat' (first | (with_reducible assumption) | (with_reducible exact Below.refl _ _) | (with_reducible refine Below.drew ?_) | (with_reducible refine below_drewN ?_ _) | (with_reducible refine Below.alloc ?_ ?_ _) | (with_reducible exact Nat.le_refl _) | (simp; done) | (simp; omega) | omega)) (Below.mono b2 (by first | omega | (simp; done) | (simp; omega))); have b3n_2 := Lib.hid (Box3.below b3n_1.out p2); have b3n_20 := b3n_2.out.c0; have b3n_21 := b3n_2.out.c1; have b3n_22 := b3n_2.out.c2; have b3n_2f0 := b3n_2.out.f0; have b3n_2f1 := b3n_2.out.f1; have b3n_2f2 := b3n_2.out.f2; have b3n_2z := b3n_2.out.z)
    | (go_at_call 22; (with_reducible refine (TT.out _).mono ?_); rintro e w3 ⟨rfl, b3⟩; have p3 : Below w2.heap.size w2 w3 := Below.trans (by repeat' (first | (with_reducible assumption) | (with_reducible exact Below.refl _ _) | (with_reducible refine Below.drew ?_) | (with_reducible refine below_drewN ?_ _) | (with_reducible refine Below.alloc ?_ ?_ _) | (with_reducible exact Nat.le_refl _) | (simp; done) | (simp; omega) | omega)) (Below.mono b3 (by first | omega | (simp; done) | (simp; omega))); have b3n_3 := Lib.hid (Box3.below b3n_2.out p3); have b3n_30 := b3n_3.out.c0; have b3n_31 := b3n_3.out.c1; have b3n_32 := b3n_3.out.c2; have b3n_3f0 := b3n_3.out.f0; have b3n_3f1 := b3n_3.out.f1; have b3n_3f2 := b3n_3.out.f2; have b3n_3z := b3n_3.out.z)
    | (go_at_call 26; (with_reducible refine (C1.out _).mono ?_); rintro e w4 ⟨rfl, b4⟩; have p4 : Below w3.heap.size w3 w4 := Below.trans (by repeat' (first | (with_reducible assumption) | (with_reducible exact Below.refl _ _) | (with_reducible refine Below.drew ?_) | (with_reducible refine below_drewN ?_ _) | (with_reducible refine Below.alloc ?_ ?_ _) | (with_reducible exact Nat.le_refl _) | (simp; done) | (simp; omega) | omega)) (Below.mono b4 (by first | omega | (simp; done) | (simp; omega))); have b3n_4 := Lib.hid (Box3.below b3n_3.out p4); have b3n_40 := b3n_4.out.c0; have b3n_41 := b3n_4.out.c1; have b3n_42 := b3n_4.out.c2; have b3n_4f0 := b3n_4.out.f0; have b3n_4f1 := b3n_4.out.f1; have b3n_4f2 := b3n_4.out.f2; have b3n_4z := b3n_4.out.z)
    | (go_at_call 29; (with_reducible refine (T1.out _).mono ?_); rintro e w6 ⟨rfl, b6⟩; have p6 : Below w5.heap.size w5 w6 := Below.trans (by repeat' (first | (with_reducible assumption) | (with_reducible exact Below.refl _ _) | (with_reducible refine Below.drew ?_) | (with_reducible refine below_drewN ?_ _) | (with_reducible refine Below.alloc ?_ ?_ _) | (with_reducible exact Nat.le_refl _) | (simp; done) | (simp; omega) | omega)) (Below.mono b6 (by first | omega | (simp; done) | (simp; omega))); have b3n_6 := Lib.hid (Box3.below b3n_5.out p6); have b3n_60 := b3n_6.out.c0; have b3n_61 := b3n_6.out.c1; have b3n_62 := b3n_6.out.c2; have b3n_6f0 := b3n_6.out.f0; have b3n_6f1 := b3n_6.out.f1; have b3n_6f2 := b3n_6.out.f2; have b3n_6z := b3n_6.out.z)
    | (go_at_call 29; (with_reducible refine (T0.out _).mono ?_); rintro e w7 ⟨rfl, b7⟩; have p7 : Below w6.heap.size w6 w7 := Below.trans (by repeat' (first | (with_reducible assumption) | (with_reducible exact Below.refl _ _) | (with_reducible refine Below.drew ?_) | (with_reducible refine below_drewN ?_ _) | (with_reducible refine Below.alloc ?_ ?_ _) | (with_reducible exact Nat.le_refl _) | (simp; done) | (simp; omega) | omega)) (Below.mono b7 (by first | omega | (simp; done) | (simp; omega))); have b3n_7 := Lib.hid (Box3.below b3n_6.out p7); have b3n_70 := b3n_7.out.c0; have b3n_71 := b3n_7.out.c1; have b3n_72 := b3n_7.out.c2; have b3n_7f0 := b3n_7.out.f0; have b3n_7f1 := b3n_7.out.f1; have b3n_7f2 := b3n_7.out.f2; have b3n_7z := b3n_7.out.z))
  have HB7 := Lib.hid (show Below w.heap.size w w7 by (repeat' (first | (with_reducible exact Below.refl _ _) | (refine Below.trans ?_ (Below.mono (by with_reducible assumption) ?_)) | (with_reducible exact Below.refl _ _) | (with_reducible refine below_drewN ?_ _) | (with_reducible refine Below.drew ?_) | (with_reducible refine Below.setCell ?_ ?_ _) | (with_reducible refine Below.alloc ?_ ?_ _) | (with_reducible assumption) | (simp; done) | (simp; omega) | omega)))
  clear b3n_1 b3n_1z b3n_10 b3n_11 b3n_12 b3n_1f0 b3n_1f1 b3n_1f2 b3n_2 b3n_2z b3n_20 b3n_21 b3n_22 b3n_2f0 b3n_2f1 b3n_2f2 b3n_3 b3n_3z b3n_30 b3n_31 b3n_32 b3n_3f0 b3n_3f1 b3n_3f2 b3n_4 b3n_4z b3n_40 b3n_41 b3n_42 b3n_4f0 b3n_4f1 b3n_4f2 b3n_5 b3n_5z b3n_50 b3n_51 b3n_52 b3n_5f0 b3n_5f1 b3n_5f2 b3n_6 b3n_6z b3n_60 b3n_61 b3n_62 b3n_6f0 b3n_6f1 b3n_6f2
  clear b1 b2 b3 b4 b5 b6 b7 p2 p3 p4 p5 p6 p7 ee ef C1 T1 T0 TT
  have ex : (x == x) = true := by simp
  rcases HT.out with ⟨rfl, rfl⟩ | ⟨rfl, rfl⟩
  · clear HT
    refine wp_region_held_drew (S := (fun w' => w'.cell? ⟨w.heap.size, 0, none⟩ = some (.bool n) ∧ w'.cell? ⟨w.heap.size, 1, none⟩ = some (.int .u64 h) ∧ w'.cell? ⟨w.heap.size, 2, none⟩ = some (.int .u64 l))) (by kernel_rfl) ?_ (fun hHeld => ?_)
    · (try dsimp only)
      ((and_intros <;> (first | (with_reducible assumption) | (go_simp; done) | (simp (maxDischargeDepth := 12) [go_sem]; done) | (simp (maxDischargeDepth := 12) [go_sem, *]; done) | exact (Below.cell (by with_reducible assumption) (by first | (simp; done) | (simp; omega) | omega)).trans (by simp (maxDischargeDepth := 12) [go_sem]))))
    refine h4_take (i := 0) (v := ?v0) rfl (by kernel_rfl) (by kernel_rfl) (by kernel_rfl) (fun _ _ _ h => h) (by rfl) ?y0 hHeld ?r0
    case y0 => (intro wS hSw; (try dsimp only at hSw); go_simp; (try with_reducible rfl))
    try simp only [Act.put, List.setIfInBounds_toArray, List.set_cons_zero, List.set_cons_succ]
    refine h4_take (i := 2) (v := ?v1) rfl (by kernel_rfl) (by kernel_rfl) (by kernel_rfl) (fun _ _ _ h => h) (by rfl) ?y1 hHeld ?r1
    case y1 => (intro wS hSw; (try dsimp only at hSw); go_simp; (try with_reducible rfl))
    try simp only [Act.put, List.setIfInBounds_toArray, List.set_cons_zero, List.set_cons_succ]
    refine h4_take (i := 5) (v := ?v2) rfl (by kernel_rfl) (by kernel_rfl) (by kernel_rfl) (fun _ _ _ h => h) (by rfl) ?y2 hHeld ?r2
    case y2 => (intro wS hSw; (try dsimp only at hSw); go_simp; (try with_reducible rfl))
    try simp only [Act.put, List.setIfInBounds_toArray, List.set_cons_zero, List.set_cons_succ]
    refine h4_take (i := 9) (v := ?v3) rfl (by kernel_rfl) (by kernel_rfl) (by kernel_rfl) (fun _ _ _ h => h) (by rfl) ?y3 hHeld ?r3
    case y3 => (intro wS hSw; (try dsimp only at hSw); go_simp; (try with_reducible rfl))
    try simp only [Act.put, List.setIfInBounds_toArray, List.set_cons_zero, List.set_cons_succ]
    refine wpAnyH_ready (rs := [1]) (by kernel_rfl) (by simp) ?_
    refine (h4_cons rfl (fun K hK => ?_) AllReadyH.nil)
    go_simp
    ((go_at_call 21; (with_reducible refine (NU.out _).mono ?_); rintro e w8 ⟨rfl, b8⟩; have p8 : Below w7.heap.size w7 w8 := Below.trans (by repeat' (first | (with_reducible assumption) | (with_reducible exact Below.refl _ _) | (with_reducible refine Below.drew ?_) | (with_reducible refine below_drewN ?_ _) | (with_reducible refine Below.alloc ?_ ?_ _) | (with_reducible exact Nat.le_refl _) | (simp; done) | (simp; omega) | omega)) (Below.mono b8 (by first | omega | (simp; done) | (simp; omega))); have b3n_8 := Lib.hid (Box3.below b3n_7.out p8); have b3n_80 := b3n_8.out.c0; have b3n_81 := b3n_8.out.c1; have b3n_82 := b3n_8.out.c2; have b3n_8f0 := b3n_8.out.f0; have b3n_8f1 := b3n_8.out.f1; have b3n_8f2 := b3n_8.out.f2; have b3n_8z := b3n_8.out.z))
    (try go_wp2_with fail)
    refine hK.out _ _ ?_ (fun hHeld5 => ?_)
    · (try dsimp only)
      ((and_intros <;> (first | (with_reducible assumption) | (go_simp; done) | (simp (maxDischargeDepth := 12) [go_sem]; done) | (simp (maxDischargeDepth := 12) [go_sem, *]; done) | exact (Below.cell (by with_reducible assumption) (by first | (simp; done) | (simp; omega) | omega)).trans (by simp (maxDischargeDepth := 12) [go_sem]))))
    clear hK K hHeld
    try simp only [Act.put, List.setIfInBounds_toArray, List.set_cons_zero, List.set_cons_succ]
    refine wpAnyH_ready (rs := [3]) (by kernel_rfl) (by simp) ?_
    refine (h4_cons rfl (fun K hK => ?_) AllReadyH.nil)
    go_simp
    ((go_at_call 22; (with_reducible refine (TS.out _).mono ?_); rintro e w9 ⟨rfl, b9⟩; have p9 : Below w8.heap.size w8 w9 := Below.trans (by repeat' (first | (with_reducible assumption) | (with_reducible exact Below.refl _ _) | (with_reducible refine Below.drew ?_) | (with_reducible refine below_drewN ?_ _) | (with_reducible refine Below.alloc ?_ ?_ _) | (with_reducible exact Nat.le_refl _) | (simp; done) | (simp; omega) | omega)) (Below.mono b9 (by first | omega | (simp; done) | (simp; omega))); have b3n_9 := Lib.hid (Box3.below b3n_8.out p9); have b3n_90 := b3n_9.out.c0; have b3n_91 := b3n_9.out.c1; have b3n_92 := b3n_9.out.c2; have b3n_9f0 := b3n_9.out.f0; have b3n_9f1 := b3n_9.out.f1; have b3n_9f2 := b3n_9.out.f2; have b3n_9z := b3n_9.out.z))
    (try go_wp2_with fail)
    refine hK.out _ _ ?_ (fun hHeld6 => ?_)
    · (try dsimp only)
      ((and_intros <;> (first | (with_reducible assumption) | (go_simp; done) | (simp (maxDischargeDepth := 12) [go_sem]; done) | (simp (maxDischargeDepth := 12) [go_sem, *]; done) | exact (Below.cell (by with_reducible assumption) (by first | (simp; done) | (simp; omega) | omega)).trans (by simp (maxDischargeDepth := 12) [go_sem]))))
    clear hK K hHeld5
    try simp only [Act.put, List.setIfInBounds_toArray, List.set_cons_zero, List.set_cons_succ]
    refine wpAnyH_ready (rs := [4]) (by kernel_rfl) (by simp) ?_
    refine (h4_cons rfl (fun K hK => ?_) AllReadyH.nil)
    go_simp
    ((go_at_call 26; (with_reducible refine (C2.out _).mono ?_); rintro e w10 ⟨rfl, b10⟩; have p10 : Below w9.heap.size w9 w10 := Below.trans (by repeat' (first | (with_reducible assumption) | (with_reducible exact Below.refl _ _) | (with_reducible refine Below.drew ?_) | (with_reducible refine below_drewN ?_ _) | (with_reducible refine Below.alloc ?_ ?_ _) | (with_reducible exact Nat.le_refl _) | (simp; done) | (simp; omega) | omega)) (Below.mono b10 (by first | omega | (simp; done) | (simp; omega))); have b3n_10 := Lib.hid (Box3.below b3n_9.out p10); have b3n_100 := b3n_10.out.c0; have b3n_101 := b3n_10.out.c1; have b3n_102 := b3n_10.out.c2; have b3n_10f0 := b3n_10.out.f0; have b3n_10f1 := b3n_10.out.f1; have b3n_10f2 := b3n_10.out.f2; have b3n_10z := b3n_10.out.z))
    (try go_wp2_with fail)
    refine hK.out _ _ ?_ (fun hHeld7 => ?_)
    · (try dsimp only)
      ((and_intros <;> (first | (with_reducible assumption) | (go_simp; done) | (simp (maxDischargeDepth := 12) [go_sem]; done) | (simp (maxDischargeDepth := 12) [go_sem, *]; done) | exact (Below.cell (by with_reducible assumption) (by first | (simp; done) | (simp; omega) | omega)).trans (by simp (maxDischargeDepth := 12) [go_sem]))))
    clear hK K hHeld6
    try simp only [Act.put, List.setIfInBounds_toArray, List.set_cons_zero, List.set_cons_succ]
    refine wpAnyH_ready (rs := [6]) (by kernel_rfl) (by simp) ?_
    refine (h4_cons rfl (fun K hK => ?_) AllReadyH.nil)
    go_simp
    ((go_at_call 21; (with_reducible refine (NU.out _).mono ?_); rintro e w11 ⟨rfl, b11⟩; have p11 : Below w10.heap.size w10 w11 := Below.trans (by repeat' (first | (with_reducible assumption) | (with_reducible exact Below.refl _ _) | (with_reducible refine Below.drew ?_) | (with_reducible refine below_drewN ?_ _) | (with_reducible refine Below.alloc ?_ ?_ _) | (with_reducible exact Nat.le_refl _) | (simp; done) | (simp; omega) | omega)) (Below.mono b11 (by first | omega | (simp; done) | (simp; omega))); have b3n_11 := Lib.hid (Box3.below b3n_10.out p11); have b3n_110 := b3n_11.out.c0; have b3n_111 := b3n_11.out.c1; have b3n_112 := b3n_11.out.c2; have b3n_11f0 := b3n_11.out.f0; have b3n_11f1 := b3n_11.out.f1; have b3n_11f2 := b3n_11.out.f2; have b3n_11z := b3n_11.out.z))
    (try go_wp2_with fail)
    refine hK.out _ _ ?_ (fun hHeld8 => ?_)
    · (try dsimp only)
      ((and_intros <;> (first | (with_reducible assumption) | (go_simp; done) | (simp (maxDischargeDepth := 12) [go_sem]; done) | (simp (maxDischargeDepth := 12) [go_sem, *]; done) | exact (Below.cell (by with_reducible assumption) (by first | (simp; done) | (simp; omega) | omega)).trans (by simp (maxDischargeDepth := 12) [go_sem]))))
    clear hK K hHeld7
    try simp only [Act.put, List.setIfInBounds_toArray, List.set_cons_zero, List.set_cons_succ]
    refine wpAnyH_ready (rs := [7]) (by kernel_rfl) (by simp) ?_
    refine (h4_cons rfl (fun K hK => ?_) AllReadyH.nil)
    go_simp
    ((go_at_call 30; (with_reducible refine (S1.out _).mono ?_); rintro e w12 ⟨rfl, b12⟩; have p12 : Below w11.heap.size w11 w12 := Below.trans (by repeat' (first | (with_reducible assumption) | (with_reducible exact Below.refl _ _) | (with_reducible refine Below.drew ?_) | (with_reducible refine below_drewN ?_ _) | (with_reducible refine Below.alloc ?_ ?_ _) | (with_reducible exact Nat.le_refl _) | (simp; done) | (simp; omega) | omega)) (Below.mono b12 (by first | omega | (simp; done) | (simp; omega))); have b3n_12 := Lib.hid (Box3.below b3n_11.out p12); have b3n_120 := b3n_12.out.c0; have b3n_121 := b3n_12.out.c1; have b3n_122 := b3n_12.out.c2; have b3n_12f0 := b3n_12.out.f0; have b3n_12f1 := b3n_12.out.f1; have b3n_12f2 := b3n_12.out.f2; have b3n_12z := b3n_12.out.z))
    (try go_wp2_with fail)
    refine hK.out _ _ ?_ (fun hHeld9 => ?_)
    · (try dsimp only)
      ((and_intros <;> (first | (with_reducible assumption) | (go_simp; done) | (simp (maxDischargeDepth := 12) [go_sem]; done) | (simp (maxDischargeDepth := 12) [go_sem, *]; done) | exact (Below.cell (by with_reducible assumption) (by first | (simp; done) | (simp; omega) | omega)).trans (by simp (maxDischargeDepth := 12) [go_sem]))))
    clear hK K hHeld8
    try simp only [Act.put, List.setIfInBounds_toArray, List.set_cons_zero, List.set_cons_succ]
    refine wpAnyH_ready (rs := [8]) (by kernel_rfl) (by simp) ?_
    refine (h4_cons rfl (fun K hK => ?_) AllReadyH.nil)
    go_simp
    ((go_at_call 22; (with_reducible refine (TP.out _).mono ?_); rintro e w13 ⟨rfl, b13⟩; have p13 : Below w12.heap.size w12 w13 := Below.trans (by repeat' (first | (with_reducible assumption) | (with_reducible exact Below.refl _ _) | (with_reducible refine Below.drew ?_) | (with_reducible refine below_drewN ?_ _) | (with_reducible refine Below.alloc ?_ ?_ _) | (with_reducible exact Nat.le_refl _) | (simp; done) | (simp; omega) | omega)) (Below.mono b13 (by first | omega | (simp; done) | (simp; omega))); have b3n_13 := Lib.hid (Box3.below b3n_12.out p13); have b3n_130 := b3n_13.out.c0; have b3n_131 := b3n_13.out.c1; have b3n_132 := b3n_13.out.c2; have b3n_13f0 := b3n_13.out.f0; have b3n_13f1 := b3n_13.out.f1; have b3n_13f2 := b3n_13.out.f2; have b3n_13z := b3n_13.out.z))
    (try go_wp2_with fail)
    refine hK.out _ _ ?_ (fun hHeld10 => ?_)
    · (try dsimp only)
      ((and_intros <;> (first | (with_reducible assumption) | (go_simp; done) | (simp (maxDischargeDepth := 12) [go_sem]; done) | (simp (maxDischargeDepth := 12) [go_sem, *]; done) | exact (Below.cell (by with_reducible assumption) (by first | (simp; done) | (simp; omega) | omega)).trans (by simp (maxDischargeDepth := 12) [go_sem]))))
    clear hK K hHeld9
    try simp only [Act.put, List.setIfInBounds_toArray, List.set_cons_zero, List.set_cons_succ]
    refine wpAnyH_ready (rs := [10]) (by kernel_rfl) (by simp) ?_
    refine (h4_cons rfl (fun K hK => ?_) AllReadyH.nil)
    go_simp
    ((go_at_call 22; (with_reducible refine (TS.out _).mono ?_); rintro e w14 ⟨rfl, b14⟩; have p14 : Below w13.heap.size w13 w14 := Below.trans (by repeat' (first | (with_reducible assumption) | (with_reducible exact Below.refl _ _) | (with_reducible refine Below.drew ?_) | (with_reducible refine below_drewN ?_ _) | (with_reducible refine Below.alloc ?_ ?_ _) | (with_reducible exact Nat.le_refl _) | (simp; done) | (simp; omega) | omega)) (Below.mono b14 (by first | omega | (simp; done) | (simp; omega))); have b3n_14 := Lib.hid (Box3.below b3n_13.out p14); have b3n_140 := b3n_14.out.c0; have b3n_141 := b3n_14.out.c1; have b3n_142 := b3n_14.out.c2; have b3n_14f0 := b3n_14.out.f0; have b3n_14f1 := b3n_14.out.f1; have b3n_14f2 := b3n_14.out.f2; have b3n_14z := b3n_14.out.z))
    (try go_wp2_with fail)
    refine hK.out _ _ ?_ (fun hHeld11 => ?_)
    · (try dsimp only)
      ((and_intros <;> (first | (with_reducible assumption) | (go_simp; done) | (simp (maxDischargeDepth := 12) [go_sem]; done) | (simp (maxDischargeDepth := 12) [go_sem, *]; done) | exact (Below.cell (by with_reducible assumption) (by first | (simp; done) | (simp; omega) | omega)).trans (by simp (maxDischargeDepth := 12) [go_sem]))))
    clear hK K hHeld10
    try simp only [Act.put, List.setIfInBounds_toArray, List.set_cons_zero, List.set_cons_succ]
    refine wpAnyH_ready (rs := [11]) (by kernel_rfl) (by simp) ?_
    refine (h4_cons rfl (fun K hK => ?_) AllReadyH.nil)
    go_simp
    ((go_at_call 26; (with_reducible refine (C3.out _).mono ?_); rintro e w15 ⟨rfl, b15⟩; have p15 : Below w14.heap.size w14 w15 := Below.trans (by repeat' (first | (with_reducible assumption) | (with_reducible exact Below.refl _ _) | (with_reducible refine Below.drew ?_) | (with_reducible refine below_drewN ?_ _) | (with_reducible refine Below.alloc ?_ ?_ _) | (with_reducible exact Nat.le_refl _) | (simp; done) | (simp; omega) | omega)) (Below.mono b15 (by first | omega | (simp; done) | (simp; omega))); have b3n_15 := Lib.hid (Box3.below b3n_14.out p15); have b3n_150 := b3n_15.out.c0; have b3n_151 := b3n_15.out.c1; have b3n_152 := b3n_15.out.c2; have b3n_15f0 := b3n_15.out.f0; have b3n_15f1 := b3n_15.out.f1; have b3n_15f2 := b3n_15.out.f2; have b3n_15z := b3n_15.out.z))
    (try go_wp2_with fail)
    refine hK.out _ _ ?_ (fun hHeld12 => ?_)
    · (try dsimp only)
      ((and_intros <;> (first | (with_reducible assumption) | (go_simp; done) | (simp (maxDischargeDepth := 12) [go_sem]; done) | (simp (maxDischargeDepth := 12) [go_sem, *]; done) | exact (Below.cell (by with_reducible assumption) (by first | (simp; done) | (simp; omega) | omega)).trans (by simp (maxDischargeDepth := 12) [go_sem]))))
    clear hK K hHeld11
    try simp only [Act.put, List.setIfInBounds_toArray, List.set_cons_zero, List.set_cons_succ]
    refine h4_take (i := 12) (v := ?v12) rfl (by kernel_rfl) (by kernel_rfl) (by kernel_rfl) (fun _ _ _ h => h) (by rfl) ?y12 hHeld12 ?r12
    case y12 => (intro wS hSw; (try dsimp only at hSw); go_simp; (try with_reducible rfl))
    try simp only [Act.put, List.setIfInBounds_toArray, List.set_cons_zero, List.set_cons_succ]
    refine h4_take (i := 13) (v := ?v13) rfl (by kernel_rfl) (by kernel_rfl) (by kernel_rfl) (fun _ _ _ h => h) (by rfl) ?y13 hHeld12 ?r13
    case y13 => (intro wS hSw; (try dsimp only at hSw); go_simp; (try with_reducible rfl))
    try simp only [Act.put, List.setIfInBounds_toArray, List.set_cons_zero, List.set_cons_succ]
    refine h4_take (i := 14) (v := ?v14) rfl (by kernel_rfl) (by kernel_rfl) (by kernel_rfl) (fun _ _ _ h => h) (by rfl) ?y14 hHeld12 ?r14
    case y14 => (intro wS hSw; (try dsimp only at hSw); go_simp; (try with_reducible rfl))
    try simp only [Act.put, List.setIfInBounds_toArray, List.set_cons_zero, List.set_cons_succ]
    refine h4_take (i := 17) (v := ?v15) rfl (by kernel_rfl) (by kernel_rfl) (by kernel_rfl) (fun _ _ _ h => h) (by rfl) ?y15 hHeld12 ?r15
    case y15 => (intro wS hSw; (try dsimp only at hSw); go_simp; (try with_reducible rfl))
    try simp only [Act.put, List.setIfInBounds_toArray, List.set_cons_zero, List.set_cons_succ]
    refine wpAnyH_ready (rs := [15]) (by kernel_rfl) (by simp) ?_
    refine (h4_cons rfl (fun K hK => ?_) AllReadyH.nil)
    go_simp
    ((go_at_call 21; (with_reducible refine (NU.out _).mono ?_); rintro e w16 ⟨rfl, b16⟩; have p16 : Below w15.heap.size w15 w16 := Below.trans (by repeat' (first | (with_reducible assumption) | (with_reducible exact Below.refl _ _) | (with_reducible refine Below.drew ?_) | (with_reducible refine below_drewN ?_ _) | (with_reducible refine Below.alloc ?_ ?_ _) | (with_reducible exact Nat.le_refl _) | (simp; done) | (simp; omega) | omega)) (Below.mono b16 (by first | omega | (simp; done) | (simp; omega))); have b3n_16 := Lib.hid (Box3.below b3n_15.out p16); have b3n_160 := b3n_16.out.c0; have b3n_161 := b3n_16.out.c1; have b3n_162 := b3n_16.out.c2; have b3n_16f0 := b3n_16.out.f0; have b3n_16f1 := b3n_16.out.f1; have b3n_16f2 := b3n_16.out.f2; have b3n_16z := b3n_16.out.z))
    (try go_wp2_with fail)
    refine hK.out _ _ ?_ (fun hHeld17 => ?_)
    · (try dsimp only)
      ((and_intros <;> (first | (with_reducible assumption) | (go_simp; done) | (simp (maxDischargeDepth := 12) [go_sem]; done) | (simp (maxDischargeDepth := 12) [go_sem, *]; done) | exact (Below.cell (by with_reducible assumption) (by first | (simp; done) | (simp; omega) | omega)).trans (by simp (maxDischargeDepth := 12) [go_sem]))))
    clear hK K hHeld12
    try simp only [Act.put, List.setIfInBounds_toArray, List.set_cons_zero, List.set_cons_succ]
    refine wpAnyH_ready (rs := [16]) (by kernel_rfl) (by simp) ?_
    refine (h4_cons rfl (fun K hK => ?_) AllReadyH.nil)
    go_simp
    ((go_at_call 29; (with_reducible refine (T2.out _).mono ?_); rintro e w17 ⟨rfl, b17⟩; have p17 : Below w16.heap.size w16 w17 := Below.trans (by repeat' (first | (with_reducible assumption) | (with_reducible exact Below.refl _ _) | (with_reducible refine Below.drew ?_) | (with_reducible refine below_drewN ?_ _) | (with_reducible refine Below.alloc ?_ ?_ _) | (with_reducible exact Nat.le_refl _) | (simp; done) | (simp; omega) | omega)) (Below.mono b17 (by first | omega | (simp; done) | (simp; omega))); have b3n_17 := Lib.hid (Box3.below b3n_16.out p17); have b3n_170 := b3n_17.out.c0; have b3n_171 := b3n_17.out.c1; have b3n_172 := b3n_17.out.c2; have b3n_17f0 := b3n_17.out.f0; have b3n_17f1 := b3n_17.out.f1; have b3n_17f2 := b3n_17.out.f2; have b3n_17z := b3n_17.out.z))
    (try go_wp2_with fail)
    refine hK.out _ _ ?_ (fun hHeld18 => ?_)
    · (try dsimp only)
      ((and_intros <;> (first | (with_reducible assumption) | (go_simp; done) | (simp (maxDischargeDepth := 12) [go_sem]; done) | (simp (maxDischargeDepth := 12) [go_sem, *]; done) | exact (Below.cell (by with_reducible assumption) (by first | (simp; done) | (simp; omega) | omega)).trans (by simp (maxDischargeDepth := 12) [go_sem]))))
    clear hK K hHeld17
    try simp only [Act.put, List.setIfInBounds_toArray, List.set_cons_zero, List.set_cons_succ]
    refine wpAnyH_ready (rs := [18]) (by kernel_rfl) (by simp) ?_
    refine (h4_cons rfl (fun K hK => ?_) AllReadyH.nil)
    go_simp
    ((go_at_call 31; (with_reducible refine (GD.out _).mono ?_); rintro e w18 ⟨rfl, b18⟩; have p18 : Below w17.heap.size w17 w18 := Below.trans (by repeat' (first | (with_reducible assumption) | (with_reducible exact Below.refl _ _) | (with_reducible refine Below.drew ?_) | (with_reducible refine below_drewN ?_ _) | (with_reducible refine Below.alloc ?_ ?_ _) | (with_reducible exact Nat.le_refl _) | (simp; done) | (simp; omega) | omega)) (Below.mono b18 (by first | omega | (simp; done) | (simp; omega))); have b3n_18 := Lib.hid (Box3.below b3n_17.out p18); have b3n_180 := b3n_18.out.c0; have b3n_181 := b3n_18.out.c1; have b3n_182 := b3n_18.out.c2; have b3n_18f0 := b3n_18.out.f0; have b3n_18f1 := b3n_18.out.f1; have b3n_18f2 := b3n_18.out.f2; have b3n_18z := b3n_18.out.z))
    (try go_wp2_with fail)
    refine hK.out _ _ ?_ (fun hHeld19 => ?_)
    · (try dsimp only)
      ((and_intros <;> (first | (with_reducible assumption) | (go_simp; done) | (simp (maxDischargeDepth := 12) [go_sem]; done) | (simp (maxDischargeDepth := 12) [go_sem, *]; done) | exact (Below.cell (by with_reducible assumption) (by first | (simp; done) | (simp; omega) | omega)).trans (by simp (maxDischargeDepth := 12) [go_sem]))))
    clear hK K hHeld18
    try simp only [Act.put, List.setIfInBounds_toArray, List.set_cons_zero, List.set_cons_succ]
    refine h4_take (i := 19) (v := ?v19) rfl (by kernel_rfl) (by kernel_rfl) (by kernel_rfl) (fun _ _ _ h => h) (by rfl) ?y19 hHeld19 ?r19
    case y19 => (intro wS hSw; (try dsimp only at hSw); go_simp; (try with_reducible rfl))
    try simp only [Act.put, List.setIfInBounds_toArray, List.set_cons_zero, List.set_cons_succ]
    refine h4_skip (i := 20) rfl (by kernel_rfl) (by kernel_rfl) (by kernel_rfl) (fun _ _ _ h => h) (by rfl) hHeld19 ?_
    try simp only [Act.put, List.setIfInBounds_toArray, List.set_cons_zero, List.set_cons_succ]
    refine h4_skip (i := 21) rfl (by kernel_rfl) (by kernel_rfl) (by kernel_rfl) (fun _ _ _ h => h) (by rfl) hHeld19 ?_
    try simp only [Act.put, List.setIfInBounds_toArray, List.set_cons_zero, List.set_cons_succ]
    refine h4_skip (i := 22) rfl (by kernel_rfl) (by kernel_rfl) (by kernel_rfl) (fun _ _ _ h => h) (by rfl) hHeld19 ?_
    try simp only [Act.put, List.setIfInBounds_toArray, List.set_cons_zero, List.set_cons_succ]
    refine h4_take (i := 23) (v := ?v20) rfl (by kernel_rfl) (by kernel_rfl) (by kernel_rfl) (fun _ _ _ h => h) (by rfl) ?y20 hHeld19 ?r20
    case y20 => (intro wS hSw; (try dsimp only at hSw); go_simp; (try with_reducible rfl))
    try simp only [Act.put, List.setIfInBounds_toArray, List.set_cons_zero, List.set_cons_succ]
    refine h4_take (i := 24) (v := ?v21) rfl (by kernel_rfl) (by kernel_rfl) (by kernel_rfl) (fun _ _ _ h => h) (by rfl) ?y21 hHeld19 ?r21
    case y21 => (intro wS hSw; (try dsimp only at hSw); go_simp; (try with_reducible rfl))
    try simp only [Act.put, List.setIfInBounds_toArray, List.set_cons_zero, List.set_cons_succ]
    refine h4_take (i := 25) (v := ?v22) rfl (by kernel_rfl) (by kernel_rfl) (by kernel_rfl) (fun _ _ _ h => h) (by rfl) ?y22 hHeld19 ?r22
    case y22 => (intro wS hSw; (try dsimp only at hSw); go_simp; (try with_reducible rfl))
    try simp only [Act.put, List.setIfInBounds_toArray, List.set_cons_zero, List.set_cons_succ]
    refine h4_take (i := 26) (v := ?v23) rfl (by kernel_rfl) (by kernel_rfl) (by kernel_rfl) (fun _ _ _ h => h) (by rfl) ?y23 hHeld19 ?r23
    case y23 => (intro wS hSw; (try dsimp only at hSw); go_simp; (try with_reducible rfl))
    try simp only [Act.put, List.setIfInBounds_toArray, List.set_cons_zero, List.set_cons_succ]
    refine wpAnyH_done (by kernel_rfl) ?_ _
    go_wp2_with fail
    go_ret
    exact ⟨by simp, by refine (below_step (below_step (below_step (below_step (below_step (below_step (below_step (below_step (below_step (below_step (below_step HB7.out p8) p9) p10) p11) p12) p13) p14) p15) p16) p17) p18).trans ?_; (repeat' (first | (with_reducible exact Below.refl _ _) | (refine Below.trans ?_ (Below.mono (by with_reducible assumption) ?_)) | (with_reducible exact Below.refl _ _) | (with_reducible refine below_drewN ?_ _) | (with_reducible refine Below.drew ?_) | (with_reducible refine Below.setCell ?_ ?_ _) | (with_reducible refine Below.alloc ?_ ?_ _) | (with_reducible assumption) | (simp; done) | (simp; omega) | omega))⟩
  · clear HT
    rcases zero_cases n h l with rfl | ⟨rfl, e1⟩ | ⟨rfl, rfl, e1⟩ | ⟨rfl, rfl, rfl⟩
    · skip
      refine wp_region_held_drew (S := (fun w' => w'.cell? ⟨w.heap.size, 0, none⟩ = some (.bool true) ∧ w'.cell? ⟨w.heap.size, 1, none⟩ = some (.int .u64 h) ∧ w'.cell? ⟨w.heap.size, 2, none⟩ = some (.int .u64 l))) (by kernel_rfl) ?_ (fun hHeld => ?_)
      · (try dsimp only)
        ((and_intros <;> (first | (with_reducible assumption) | (go_simp; done) | (simp (maxDischargeDepth := 12) [go_sem]; done) | (simp (maxDischargeDepth := 12) [go_sem, *]; done) | exact (Below.cell (by with_reducible assumption) (by first | (simp; done) | (simp; omega) | omega)).trans (by simp (maxDischargeDepth := 12) [go_sem]))))
      refine h4_take (i := 0) (v := ?v24) rfl (by kernel_rfl) (by kernel_rfl) (by kernel_rfl) (fun _ _ _ h => h) (by rfl) ?y24 hHeld ?r24
      case y24 => (intro wS hSw; (try dsimp only at hSw); go_simp; (try with_reducible rfl))
      try simp only [Act.put, List.setIfInBounds_toArray, List.set_cons_zero, List.set_cons_succ]
      refine h4_take (i := 2) (v := ?v25) rfl (by kernel_rfl) (by kernel_rfl) (by kernel_rfl) (fun _ _ _ h => h) (by rfl) ?y25 hHeld ?r25
      case y25 => (intro wS hSw; (try dsimp only at hSw); go_simp; (try with_reducible rfl))
      try simp only [Act.put, List.setIfInBounds_toArray, List.set_cons_zero, List.set_cons_succ]
      refine h4_take (i := 5) (v := ?v26) rfl (by kernel_rfl) (by kernel_rfl) (by kernel_rfl) (fun _ _ _ h => h) (by rfl) ?y26 hHeld ?r26
      case y26 => (intro wS hSw; (try dsimp only at hSw); go_simp; (try with_reducible rfl))
      try simp only [Act.put, List.setIfInBounds_toArray, List.set_cons_zero, List.set_cons_succ]
      refine h4_take (i := 9) (v := ?v27) rfl (by kernel_rfl) (by kernel_rfl) (by kernel_rfl) (fun _ _ _ h => h) (by rfl) ?y27 hHeld ?r27
      case y27 => (intro wS hSw; (try dsimp only at hSw); go_simp; (try with_reducible rfl))
      try simp only [Act.put, List.setIfInBounds_toArray, List.set_cons_zero, List.set_cons_succ]
      refine wpAnyH_ready (rs := [1]) (by kernel_rfl) (by simp) ?_
      refine (h4_cons rfl (fun K hK => ?_) AllReadyH.nil)
      go_simp
      ((go_at_call 21; (with_reducible refine (NU.out _).mono ?_); rintro e w8 ⟨rfl, b8⟩; have p8 : Below w7.heap.size w7 w8 := Below.trans (by repeat' (first | (with_reducible assumption) | (with_reducible exact Below.refl _ _) | (with_reducible refine Below.drew ?_) | (with_reducible refine below_drewN ?_ _) | (with_reducible refine Below.alloc ?_ ?_ _) | (with_reducible exact Nat.le_refl _) | (simp; done) | (simp; omega) | omega)) (Below.mono b8 (by first | omega | (simp; done) | (simp; omega))); have b3n_8 := Lib.hid (Box3.below b3n_7.out p8); have b3n_80 := b3n_8.out.c0; have b3n_81 := b3n_8.out.c1; have b3n_82 := b3n_8.out.c2; have b3n_8f0 := b3n_8.out.f0; have b3n_8f1 := b3n_8.out.f1; have b3n_8f2 := b3n_8.out.f2; have b3n_8z := b3n_8.out.z))
      (try go_wp2_with fail)
      refine hK.out _ _ ?_ (fun hHeld29 => ?_)
      · (try dsimp only)
        ((and_intros <;> (first | (with_reducible assumption) | (go_simp; done) | (simp (maxDischargeDepth := 12) [go_sem]; done) | (simp (maxDischargeDepth := 12) [go_sem, *]; done) | exact (Below.cell (by with_reducible assumption) (by first | (simp; done) | (simp; omega) | omega)).trans (by simp (maxDischargeDepth := 12) [go_sem]))))
      clear hK K hHeld
      try simp only [Act.put, List.setIfInBounds_toArray, List.set_cons_zero, List.set_cons_succ]
      refine wpAnyH_ready (rs := [3]) (by kernel_rfl) (by simp) ?_
      refine (h4_cons rfl (fun K hK => ?_) AllReadyH.nil)
      go_simp
      ((go_at_call 22; (with_reducible refine (TS.out _).mono ?_); rintro e w9 ⟨rfl, b9⟩; have p9 : Below w8.heap.size w8 w9 := Below.trans (by repeat' (first | (with_reducible assumption) | (with_reducible exact Below.refl _ _) | (with_reducible refine Below.drew ?_) | (with_reducible refine below_drewN ?_ _) | (with_reducible refine Below.alloc ?_ ?_ _) | (with_reducible exact Nat.le_refl _) | (simp; done) | (simp; omega) | omega)) (Below.mono b9 (by first | omega | (simp; done) | (simp; omega))); have b3n_9 := Lib.hid (Box3.below b3n_8.out p9); have b3n_90 := b3n_9.out.c0; have b3n_91 := b3n_9.out.c1; have b3n_92 := b3n_9.out.c2; have b3n_9f0 := b3n_9.out.f0; have b3n_9f1 := b3n_9.out.f1; have b3n_9f2 := b3n_9.out.f2; have b3n_9z := b3n_9.out.z))
      (try go_wp2_with fail)
      refine hK.out _ _ ?_ (fun hHeld30 => ?_)
      · (try dsimp only)
        ((and_intros <;> (first | (with_reducible assumption) | (go_simp; done) | (simp (maxDischargeDepth := 12) [go_sem]; done) | (simp (maxDischargeDepth := 12) [go_sem, *]; done) | exact (Below.cell (by with_reducible assumption) (by first | (simp; done) | (simp; omega) | omega)).trans (by simp (maxDischargeDepth := 12) [go_sem]))))
      clear hK K hHeld29
      try simp only [Act.put, List.setIfInBounds_toArray, List.set_cons_zero, List.set_cons_succ]
      refine wpAnyH_ready (rs := [4]) (by kernel_rfl) (by simp) ?_
      refine (h4_cons rfl (fun K hK => ?_) AllReadyH.nil)
      go_simp
      ((go_at_call 26; (with_reducible refine (C2.out _).mono ?_); rintro e w10 ⟨rfl, b10⟩; have p10 : Below w9.heap.size w9 w10 := Below.trans (by repeat' (first | (with_reducible assumption) | (with_reducible exact Below.refl _ _) | (with_reducible refine Below.drew ?_) | (with_reducible refine below_drewN ?_ _) | (with_reducible refine Below.alloc ?_ ?_ _) | (with_reducible exact Nat.le_refl _) | (simp; done) | (simp; omega) | omega)) (Below.mono b10 (by first | omega | (simp; done) | (simp; omega))); have b3n_10 := Lib.hid (Box3.below b3n_9.out p10); have b3n_100 := b3n_10.out.c0; have b3n_101 := b3n_10.out.c1; have b3n_102 := b3n_10.out.c2; have b3n_10f0 := b3n_10.out.f0; have b3n_10f1 := b3n_10.out.f1; have b3n_10f2 := b3n_10.out.f2; have b3n_10z := b3n_10.out.z))
      (try go_wp2_with fail)
      refine hK.out _ _ ?_ (fun hHeld31 => ?_)
      · (try dsimp only)
        ((and_intros <;> (first | (with_reducible assumption) | (go_simp; done) | (simp (maxDischargeDepth := 12) [go_sem]; done) | (simp (maxDischargeDepth := 12) [go_sem, *]; done) | exact (Below.cell (by with_reducible assumption) (by first | (simp; done) | (simp; omega) | omega)).trans (by simp (maxDischargeDepth := 12) [go_sem]))))
      clear hK K hHeld30
      try simp only [Act.put, List.setIfInBounds_toArray, List.set_cons_zero, List.set_cons_succ]
      refine wpAnyH_ready (rs := [6]) (by kernel_rfl) (by simp) ?_
      refine (h4_cons rfl (fun K hK => ?_) AllReadyH.nil)
      go_simp
      ((go_at_call 21; (with_reducible refine (NU.out _).mono ?_); rintro e w11 ⟨rfl, b11⟩; have p11 : Below w10.heap.size w10 w11 := Below.trans (by repeat' (first | (with_reducible assumption) | (with_reducible exact Below.refl _ _) | (with_reducible refine Below.drew ?_) | (with_reducible refine below_drewN ?_ _) | (with_reducible refine Below.alloc ?_ ?_ _) | (with_reducible exact Nat.le_refl _) | (simp; done) | (simp; omega) | omega)) (Below.mono b11 (by first | omega | (simp; done) | (simp; omega))); have b3n_11 := Lib.hid (Box3.below b3n_10.out p11); have b3n_110 := b3n_11.out.c0; have b3n_111 := b3n_11.out.c1; have b3n_112 := b3n_11.out.c2; have b3n_11f0 := b3n_11.out.f0; have b3n_11f1 := b3n_11.out.f1; have b3n_11f2 := b3n_11.out.f2; have b3n_11z := b3n_11.out.z))
      (try go_wp2_with fail)
      refine hK.out _ _ ?_ (fun hHeld32 => ?_)
      · (try dsimp only)
        ((and_intros <;> (first | (with_reducible assumption) | (go_simp; done) | (simp (maxDischargeDepth := 12) [go_sem]; done) | (simp (maxDischargeDepth := 12) [go_sem, *]; done) | exact (Below.cell (by with_reducible assumption) (by first | (simp; done) | (simp; omega) | omega)).trans (by simp (maxDischargeDepth := 12) [go_sem]))))
      clear hK K hHeld31
      try simp only [Act.put, List.setIfInBounds_toArray, List.set_cons_zero, List.set_cons_succ]
      refine wpAnyH_ready (rs := [7]) (by kernel_rfl) (by simp) ?_
      refine (h4_cons rfl (fun K hK => ?_) AllReadyH.nil)
      go_simp
      ((go_at_call 30; (with_reducible refine (S1.out _).mono ?_); rintro e w12 ⟨rfl, b12⟩; have p12 : Below w11.heap.size w11 w12 := Below.trans (by repeat' (first | (with_reducible assumption) | (with_reducible exact Below.refl _ _) | (with_reducible refine Below.drew ?_) | (with_reducible refine below_drewN ?_ _) | (with_reducible refine Below.alloc ?_ ?_ _) | (with_reducible exact Nat.le_refl _) | (simp; done) | (simp; omega) | omega)) (Below.mono b12 (by first | omega | (simp; done) | (simp; omega))); have b3n_12 := Lib.hid (Box3.below b3n_11.out p12); have b3n_120 := b3n_12.out.c0; have b3n_121 := b3n_12.out.c1; have b3n_122 := b3n_12.out.c2; have b3n_12f0 := b3n_12.out.f0; have b3n_12f1 := b3n_12.out.f1; have b3n_12f2 := b3n_12.out.f2; have b3n_12z := b3n_12.out.z))
      (try go_wp2_with fail)
      refine hK.out _ _ ?_ (fun hHeld33 => ?_)
      · (try dsimp only)
        ((and_intros <;> (first | (with_reducible assumption) | (go_simp; done) | (simp (maxDischargeDepth := 12) [go_sem]; done) | (simp (maxDischargeDepth := 12) [go_sem, *]; done) | exact (Below.cell (by with_reducible assumption) (by first | (simp; done) | (simp; omega) | omega)).trans (by simp (maxDischargeDepth := 12) [go_sem]))))
      clear hK K hHeld32
      try simp only [Act.put, List.setIfInBounds_toArray, List.set_cons_zero, List.set_cons_succ]
      refine wpAnyH_ready (rs := [8]) (by kernel_rfl) (by simp) ?_
      refine (h4_cons rfl (fun K hK => ?_) AllReadyH.nil)
      go_simp
      ((go_at_call 22; (with_reducible refine (TP.out _).mono ?_); rintro e w13 ⟨rfl, b13⟩; have p13 : Below w12.heap.size w12 w13 := Below.trans (by repeat' (first | (with_reducible assumption) | (with_reducible exact Below.refl _ _) | (with_reducible refine Below.drew ?_) | (with_reducible refine below_drewN ?_ _) | (with_reducible refine Below.alloc ?_ ?_ _) | (with_reducible exact Nat.le_refl _) | (simp; done) | (simp; omega) | omega)) (Below.mono b13 (by first | omega | (simp; done) | (simp; omega))); have b3n_13 := Lib.hid (Box3.below b3n_12.out p13); have b3n_130 := b3n_13.out.c0; have b3n_131 := b3n_13.out.c1; have b3n_132 := b3n_13.out.c2; have b3n_13f0 := b3n_13.out.f0; have b3n_13f1 := b3n_13.out.f1; have b3n_13f2 := b3n_13.out.f2; have b3n_13z := b3n_13.out.z))
      (try go_wp2_with fail)
      refine hK.out _ _ ?_ (fun hHeld34 => ?_)
      · (try dsimp only)
        ((and_intros <;> (first | (with_reducible assumption) | (go_simp; done) | (simp (maxDischargeDepth := 12) [go_sem]; done) | (simp (maxDischargeDepth := 12) [go_sem, *]; done) | exact (Below.cell (by with_reducible assumption) (by first | (simp; done) | (simp; omega) | omega)).trans (by simp (maxDischargeDepth := 12) [go_sem]))))
      clear hK K hHeld33
      try simp only [Act.put, List.setIfInBounds_toArray, List.set_cons_zero, List.set_cons_succ]
      refine wpAnyH_ready (rs := [10]) (by kernel_rfl) (by simp) ?_
      refine (h4_cons rfl (fun K hK => ?_) AllReadyH.nil)
      go_simp
      ((go_at_call 22; (with_reducible refine (TS.out _).mono ?_); rintro e w14 ⟨rfl, b14⟩; have p14 : Below w13.heap.size w13 w14 := Below.trans (by repeat' (first | (with_reducible assumption) | (with_reducible exact Below.refl _ _) | (with_reducible refine Below.drew ?_) | (with_reducible refine below_drewN ?_ _) | (with_reducible refine Below.alloc ?_ ?_ _) | (with_reducible exact Nat.le_refl _) | (simp; done) | (simp; omega) | omega)) (Below.mono b14 (by first | omega | (simp; done) | (simp; omega))); have b3n_14 := Lib.hid (Box3.below b3n_13.out p14); have b3n_140 := b3n_14.out.c0; have b3n_141 := b3n_14.out.c1; have b3n_142 := b3n_14.out.c2; have b3n_14f0 := b3n_14.out.f0; have b3n_14f1 := b3n_14.out.f1; have b3n_14f2 := b3n_14.out.f2; have b3n_14z := b3n_14.out.z))
      (try go_wp2_with fail)
      refine hK.out _ _ ?_ (fun hHeld35 => ?_)
      · (try dsimp only)
        ((and_intros <;> (first | (with_reducible assumption) | (go_simp; done) | (simp (maxDischargeDepth := 12) [go_sem]; done) | (simp (maxDischargeDepth := 12) [go_sem, *]; done) | exact (Below.cell (by with_reducible assumption) (by first | (simp; done) | (simp; omega) | omega)).trans (by simp (maxDischargeDepth := 12) [go_sem]))))
      clear hK K hHeld34
      try simp only [Act.put, List.setIfInBounds_toArray, List.set_cons_zero, List.set_cons_succ]
      refine wpAnyH_ready (rs := [11]) (by kernel_rfl) (by simp) ?_
      refine (h4_cons rfl (fun K hK => ?_) AllReadyH.nil)
      go_simp
      ((go_at_call 26; (with_reducible refine (C3.out _).mono ?_); rintro e w15 ⟨rfl, b15⟩; have p15 : Below w14.heap.size w14 w15 := Below.trans (by repeat' (first | (with_reducible assumption) | (with_reducible exact Below.refl _ _) | (with_reducible refine Below.drew ?_) | (with_reducible refine below_drewN ?_ _) | (with_reducible refine Below.alloc ?_ ?_ _) | (with_reducible exact Nat.le_refl _) | (simp; done) | (simp; omega) | omega)) (Below.mono b15 (by first | omega | (simp; done) | (simp; omega))); have b3n_15 := Lib.hid (Box3.below b3n_14.out p15); have b3n_150 := b3n_15.out.c0; have b3n_151 := b3n_15.out.c1; have b3n_152 := b3n_15.out.c2; have b3n_15f0 := b3n_15.out.f0; have b3n_15f1 := b3n_15.out.f1; have b3n_15f2 := b3n_15.out.f2; have b3n_15z := b3n_15.out.z))
      (try go_wp2_with fail)
      refine hK.out _ _ ?_ (fun hHeld36 => ?_)
      · (try dsimp only)
        ((and_intros <;> (first | (with_reducible assumption) | (go_simp; done) | (simp (maxDischargeDepth := 12) [go_sem]; done) | (simp (maxDischargeDepth := 12) [go_sem, *]; done) | exact (Below.cell (by with_reducible assumption) (by first | (simp; done) | (simp; omega) | omega)).trans (by simp (maxDischargeDepth := 12) [go_sem]))))
      clear hK K hHeld35
      try simp only [Act.put, List.setIfInBounds_toArray, List.set_cons_zero, List.set_cons_succ]
      refine h4_take (i := 12) (v := ?v36) rfl (by kernel_rfl) (by kernel_rfl) (by kernel_rfl) (fun _ _ _ h => h) (by rfl) ?y36 hHeld36 ?r36
      case y36 => (intro wS hSw; (try dsimp only at hSw); go_simp; (try with_reducible rfl))
      try simp only [Act.put, List.setIfInBounds_toArray, List.set_cons_zero, List.set_cons_succ]
      refine h4_take (i := 13) (v := ?v37) rfl (by kernel_rfl) (by kernel_rfl) (by kernel_rfl) (fun _ _ _ h => h) (by rfl) ?y37 hHeld36 ?r37
      case y37 => (intro wS hSw; (try dsimp only at hSw); go_simp; (try with_reducible rfl))
      try simp only [Act.put, List.setIfInBounds_toArray, List.set_cons_zero, List.set_cons_succ]
      refine h4_take (i := 14) (v := ?v38) rfl (by kernel_rfl) (by kernel_rfl) (by kernel_rfl) (fun _ _ _ h => h) (by rfl) ?y38 hHeld36 ?r38
      case y38 => (intro wS hSw; (try dsimp only at hSw); go_simp; (try with_reducible rfl))
      try simp only [Act.put, List.setIfInBounds_toArray, List.set_cons_zero, List.set_cons_succ]
      refine h4_take (i := 17) (v := ?v39) rfl (by kernel_rfl) (by kernel_rfl) (by kernel_rfl) (fun _ _ _ h => h) (by rfl) ?y39 hHeld36 ?r39
      case y39 => (intro wS hSw; (try dsimp only at hSw); go_simp; (try with_reducible rfl))
      try simp only [Act.put, List.setIfInBounds_toArray, List.set_cons_zero, List.set_cons_succ]
      refine wpAnyH_ready (rs := [15]) (by kernel_rfl) (by simp) ?_
      refine (h4_cons rfl (fun K hK => ?_) AllReadyH.nil)
      go_simp
      ((go_at_call 21; (with_reducible refine (NU.out _).mono ?_); rintro e w16 ⟨rfl, b16⟩; have p16 : Below w15.heap.size w15 w16 := Below.trans (by repeat' (first | (with_reducible assumption) | (with_reducible exact Below.refl _ _) | (with_reducible refine Below.drew ?_) | (with_reducible refine below_drewN ?_ _) | (with_reducible refine Below.alloc ?_ ?_ _) | (with_reducible exact Nat.le_refl _) | (simp; done) | (simp; omega) | omega)) (Below.mono b16 (by first | omega | (simp; done) | (simp; omega))); have b3n_16 := Lib.hid (Box3.below b3n_15.out p16); have b3n_160 := b3n_16.out.c0; have b3n_161 := b3n_16.out.c1; have b3n_162 := b3n_16.out.c2; have b3n_16f0 := b3n_16.out.f0; have b3n_16f1 := b3n_16.out.f1; have b3n_16f2 := b3n_16.out.f2; have b3n_16z := b3n_16.out.z))
      (try go_wp2_with fail)
      refine hK.out _ _ ?_ (fun hHeld41 => ?_)
      · (try dsimp only)
        ((and_intros <;> (first | (with_reducible assumption) | (go_simp; done) | (simp (maxDischargeDepth := 12) [go_sem]; done) | (simp (maxDischargeDepth := 12) [go_sem, *]; done) | exact (Below.cell (by with_reducible assumption) (by first | (simp; done) | (simp; omega) | omega)).trans (by simp (maxDischargeDepth := 12) [go_sem]))))
      clear hK K hHeld36
      try simp only [Act.put, List.setIfInBounds_toArray, List.set_cons_zero, List.set_cons_succ]
      refine wpAnyH_ready (rs := [16]) (by kernel_rfl) (by simp) ?_
      refine (h4_cons rfl (fun K hK => ?_) AllReadyH.nil)
      go_simp
      ((go_at_call 29; (with_reducible refine (T2.out _).mono ?_); rintro e w17 ⟨rfl, b17⟩; have p17 : Below w16.heap.size w16 w17 := Below.trans (by repeat' (first | (with_reducible assumption) | (with_reducible exact Below.refl _ _) | (with_reducible refine Below.drew ?_) | (with_reducible refine below_drewN ?_ _) | (with_reducible refine Below.alloc ?_ ?_ _) | (with_reducible exact Nat.le_refl _) | (simp; done) | (simp; omega) | omega)) (Below.mono b17 (by first | omega | (simp; done) | (simp; omega))); have b3n_17 := Lib.hid (Box3.below b3n_16.out p17); have b3n_170 := b3n_17.out.c0; have b3n_171 := b3n_17.out.c1; have b3n_172 := b3n_17.out.c2; have b3n_17f0 := b3n_17.out.f0; have b3n_17f1 := b3n_17.out.f1; have b3n_17f2 := b3n_17.out.f2; have b3n_17z := b3n_17.out.z))
      (try go_wp2_with fail)
      refine hK.out _ _ ?_ (fun hHeld42 => ?_)
      · (try dsimp only)
        ((and_intros <;> (first | (with_reducible assumption) | (go_simp; done) | (simp (maxDischargeDepth := 12) [go_sem]; done) | (simp (maxDischargeDepth := 12) [go_sem, *]; done) | exact (Below.cell (by with_reducible assumption) (by first | (simp; done) | (simp; omega) | omega)).trans (by simp (maxDischargeDepth := 12) [go_sem]))))
      clear hK K hHeld41
      try simp only [Act.put, List.setIfInBounds_toArray, List.set_cons_zero, List.set_cons_succ]
      refine wpAnyH_ready (rs := [18]) (by kernel_rfl) (by simp) ?_
      refine (h4_cons rfl (fun K hK => ?_) AllReadyH.nil)
      go_simp
      ((go_at_call 31; (with_reducible refine (GD.out _).mono ?_); rintro e w18 ⟨rfl, b18⟩; have p18 : Below w17.heap.size w17 w18 := Below.trans (by repeat' (first | (with_reducible assumption) | (with_reducible exact Below.refl _ _) | (with_reducible refine Below.drew ?_) | (with_reducible refine below_drewN ?_ _) | (with_reducible refine Below.alloc ?_ ?_ _) | (with_reducible exact Nat.le_refl _) | (simp; done) | (simp; omega) | omega)) (Below.mono b18 (by first | omega | (simp; done) | (simp; omega))); have b3n_18 := Lib.hid (Box3.below b3n_17.out p18); have b3n_180 := b3n_18.out.c0; have b3n_181 := b3n_18.out.c1; have b3n_182 := b3n_18.out.c2; have b3n_18f0 := b3n_18.out.f0; have b3n_18f1 := b3n_18.out.f1; have b3n_18f2 := b3n_18.out.f2; have b3n_18z := b3n_18.out.z))
      (try go_wp2_with fail)
      refine hK.out _ _ ?_ (fun hHeld43 => ?_)
      · (try dsimp only)
        ((and_intros <;> (first | (with_reducible assumption) | (go_simp; done) | (simp (maxDischargeDepth := 12) [go_sem]; done) | (simp (maxDischargeDepth := 12) [go_sem, *]; done) | exact (Below.cell (by with_reducible assumption) (by first | (simp; done) | (simp; omega) | omega)).trans (by simp (maxDischargeDepth := 12) [go_sem]))))
      clear hK K hHeld42
      try simp only [Act.put, List.setIfInBounds_toArray, List.set_cons_zero, List.set_cons_succ]
      refine h4_take (i := 19) (v := ?v43) rfl (by kernel_rfl) (by kernel_rfl) (by kernel_rfl) (fun _ _ _ h => h) (by rfl) ?y43 hHeld43 ?r43
      case y43 => (intro wS hSw; (try dsimp only at hSw); go_simp; (try with_reducible rfl))
      try simp only [Act.put, List.setIfInBounds_toArray, List.set_cons_zero, List.set_cons_succ]
      refine h4_take (i := 20) (v := ?v44) rfl (by kernel_rfl) (by kernel_rfl) (by kernel_rfl) (fun _ _ _ h => h) (by rfl) ?y44 hHeld43 ?r44
      case y44 => (intro wS hSw; (try dsimp only at hSw); go_simp; (try with_reducible rfl))
      try simp only [Act.put, List.setIfInBounds_toArray, List.set_cons_zero, List.set_cons_succ]
      refine h4_take (i := 21) (v := ?v45) rfl (by kernel_rfl) (by kernel_rfl) (by kernel_rfl) (fun _ _ _ h => h) (by rfl) ?y45 hHeld43 ?r45
      case y45 => (intro wS hSw; (try dsimp only at hSw); go_simp; (try with_reducible rfl))
      try simp only [Act.put, List.setIfInBounds_toArray, List.set_cons_zero, List.set_cons_succ]
      refine h4_take (i := 22) (v := ?v46) rfl (by kernel_rfl) (by kernel_rfl) (by kernel_rfl) (fun _ _ _ h => h) (by rfl) ?y46 hHeld43 ?r46
      case y46 => (intro wS hSw; (try dsimp only at hSw); go_simp; (try with_reducible rfl))
      try simp only [Act.put, List.setIfInBounds_toArray, List.set_cons_zero, List.set_cons_succ]
      refine h4_take (i := 23) (v := ?v47) rfl (by kernel_rfl) (by kernel_rfl) (by kernel_rfl) (fun _ _ _ h => h) (by rfl) ?y47 hHeld43 ?r47
      case y47 => (intro wS hSw; (try dsimp only at hSw); go_simp; (try with_reducible rfl))
      try simp only [Act.put, List.setIfInBounds_toArray, List.set_cons_zero, List.set_cons_succ]
      refine h4_take (i := 24) (v := ?v48) rfl (by kernel_rfl) (by kernel_rfl) (by kernel_rfl) (fun _ _ _ h => h) (by rfl) ?y48 hHeld43 ?r48
      case y48 => (intro wS hSw; (try dsimp only at hSw); go_simp; (try with_reducible rfl))
      try simp only [Act.put, List.setIfInBounds_toArray, List.set_cons_zero, List.set_cons_succ]
      refine h4_take (i := 25) (v := ?v49) rfl (by kernel_rfl) (by kernel_rfl) (by kernel_rfl) (fun _ _ _ h => h) (by rfl) ?y49 hHeld43 ?r49
      case y49 => (intro wS hSw; (try dsimp only at hSw); go_simp; (try with_reducible rfl))
      try simp only [Act.put, List.setIfInBounds_toArray, List.set_cons_zero, List.set_cons_succ]
      refine h4_take (i := 26) (v := ?v50) rfl (by kernel_rfl) (by kernel_rfl) (by kernel_rfl) (fun _ _ _ h => h) (by rfl) ?y50 hHeld43 ?r50
      case y50 => (intro wS hSw; (try dsimp only at hSw); go_simp; (try with_reducible rfl))
      try simp only [Act.put, List.setIfInBounds_toArray, List.set_cons_zero, List.set_cons_succ]
      refine wpAnyH_done (by kernel_rfl) ?_ _
      go_wp2_with fail
      go_ret
      exact ⟨by simp [*], by refine (below_step (below_step (below_step (below_step (below_step (below_step (below_step (below_step (below_step (below_step (below_step HB7.out p8) p9) p10) p11) p12) p13) p14) p15) p16) p17) p18).trans ?_; (repeat' (first | (with_reducible exact Below.refl _ _) | (refine Below.trans ?_ (Below.mono (by with_reducible assumption) ?_)) | (with_reducible exact Below.refl _ _) | (with_reducible refine below_drewN ?_ _) | (with_reducible refine Below.drew ?_) | (with_reducible refine Below.setCell ?_ ?_ _) | (with_reducible refine Below.alloc ?_ ?_ _) | (with_reducible assumption) | (simp; done) | (simp; omega) | omega))⟩
    · skip
      refine wp_region_held_drew (S := (fun w' => w'.cell? ⟨w.heap.size, 0, none⟩ = some (.bool false) ∧ w'.cell? ⟨w.heap.size, 1, none⟩ = some (.int .u64 h) ∧ w'.cell? ⟨w.heap.size, 2, none⟩ = some (.int .u64 l))) (by kernel_rfl) ?_ (fun hHeld => ?_)
      · (try dsimp only)
        ((and_intros <;> (first | (with_reducible assumption) | (go_simp; done) | (simp (maxDischargeDepth := 12) [go_sem]; done) | (simp (maxDischargeDepth := 12) [go_sem, *]; done) | exact (Below.cell (by with_reducible assumption) (by first | (simp; done) | (simp; omega) | omega)).trans (by simp (maxDischargeDepth := 12) [go_sem]))))
      refine h4_take (i := 0) (v := ?v51) rfl (by kernel_rfl) (by kernel_rfl) (by kernel_rfl) (fun _ _ _ h => h) (by rfl) ?y51 hHeld ?r51
      case y51 => (intro wS hSw; (try dsimp only at hSw); go_simp; (try with_reducible rfl))
      try simp only [Act.put, List.setIfInBounds_toArray, List.set_cons_zero, List.set_cons_succ]
      refine h4_take (i := 2) (v := ?v52) rfl (by kernel_rfl) (by kernel_rfl) (by kernel_rfl) (fun _ _ _ h => h) (by rfl) ?y52 hHeld ?r52
      case y52 => (intro wS hSw; (try dsimp only at hSw); go_simp; (try with_reducible rfl))
      try simp only [Act.put, List.setIfInBounds_toArray, List.set_cons_zero, List.set_cons_succ]
      refine h4_take (i := 5) (v := ?v53) rfl (by kernel_rfl) (by kernel_rfl) (by kernel_rfl) (fun _ _ _ h => h) (by rfl) ?y53 hHeld ?r53
      case y53 => (intro wS hSw; (try dsimp only at hSw); go_simp; (try with_reducible rfl))
      try simp only [Act.put, List.setIfInBounds_toArray, List.set_cons_zero, List.set_cons_succ]
      refine h4_take (i := 9) (v := ?v54) rfl (by kernel_rfl) (by kernel_rfl) (by kernel_rfl) (fun _ _ _ h => h) (by rfl) ?y54 hHeld ?r54
      case y54 => (intro wS hSw; (try dsimp only at hSw); go_simp; (try with_reducible rfl))
      try simp only [Act.put, List.setIfInBounds_toArray, List.set_cons_zero, List.set_cons_succ]
      refine wpAnyH_ready (rs := [1]) (by kernel_rfl) (by simp) ?_
      refine (h4_cons rfl (fun K hK => ?_) AllReadyH.nil)
      go_simp
      ((go_at_call 21; (with_reducible refine (NU.out _).mono ?_); rintro e w8 ⟨rfl, b8⟩; have p8 : Below w7.heap.size w7 w8 := Below.trans (by repeat' (first | (with_reducible assumption) | (with_reducible exact Below.refl _ _) | (with_reducible refine Below.drew ?_) | (with_reducible refine below_drewN ?_ _) | (with_reducible refine Below.alloc ?_ ?_ _) | (with_reducible exact Nat.le_refl _) | (simp; done) | (simp; omega) | omega)) (Below.mono b8 (by first | omega | (simp; done) | (simp; omega))); have b3n_8 := Lib.hid (Box3.below b3n_7.out p8); have b3n_80 := b3n_8.out.c0; have b3n_81 := b3n_8.out.c1; have b3n_82 := b3n_8.out.c2; have b3n_8f0 := b3n_8.out.f0; have b3n_8f1 := b3n_8.out.f1; have b3n_8f2 := b3n_8.out.f2; have b3n_8z := b3n_8.out.z))
      (try go_wp2_with fail)
      refine hK.out _ _ ?_ (fun hHeld56 => ?_)
      · (try dsimp only)
        ((and_intros <;> (first | (with_reducible assumption) | (go_simp; done) | (simp (maxDischargeDepth := 12) [go_sem]; done) | (simp (maxDischargeDepth := 12) [go_sem, *]; done) | exact (Below.cell (by with_reducible assumption) (by first | (simp; done) | (simp; omega) | omega)).trans (by simp (maxDischargeDepth := 12) [go_sem]))))
      clear hK K hHeld
      try simp only [Act.put, List.setIfInBounds_toArray, List.set_cons_zero, List.set_cons_succ]
      refine wpAnyH_ready (rs := [3]) (by kernel_rfl) (by simp) ?_
      refine (h4_cons rfl (fun K hK => ?_) AllReadyH.nil)
      go_simp
      ((go_at_call 22; (with_reducible refine (TS.out _).mono ?_); rintro e w9 ⟨rfl, b9⟩; have p9 : Below w8.heap.size w8 w9 := Below.trans (by repeat' (first | (with_reducible assumption) | (with_reducible exact Below.refl _ _) | (with_reducible refine Below.drew ?_) | (with_reducible refine below_drewN ?_ _) | (with_reducible refine Below.alloc ?_ ?_ _) | (with_reducible exact Nat.le_refl _) | (simp; done) | (simp; omega) | omega)) (Below.mono b9 (by first | omega | (simp; done) | (simp; omega))); have b3n_9 := Lib.hid (Box3.below b3n_8.out p9); have b3n_90 := b3n_9.out.c0; have b3n_91 := b3n_9.out.c1; have b3n_92 := b3n_9.out.c2; have b3n_9f0 := b3n_9.out.f0; have b3n_9f1 := b3n_9.out.f1; have b3n_9f2 := b3n_9.out.f2; have b3n_9z := b3n_9.out.z))
      (try go_wp2_with fail)
      refine hK.out _ _ ?_ (fun hHeld57 => ?_)
      · (try dsimp only)
        ((and_intros <;> (first | (with_reducible assumption) | (go_simp; done) | (simp (maxDischargeDepth := 12) [go_sem]; done) | (simp (maxDischargeDepth := 12) [go_sem, *]; done) | exact (Below.cell (by with_reducible assumption) (by first | (simp; done) | (simp; omega) | omega)).trans (by simp (maxDischargeDepth := 12) [go_sem]))))
      clear hK K hHeld56
      try simp only [Act.put, List.setIfInBounds_toArray, List.set_cons_zero, List.set_cons_succ]
      refine wpAnyH_ready (rs := [4]) (by kernel_rfl) (by simp) ?_
      refine (h4_cons rfl (fun K hK => ?_) AllReadyH.nil)
      go_simp
      ((go_at_call 26; (with_reducible refine (C2.out _).mono ?_); rintro e w10 ⟨rfl, b10⟩; have p10 : Below w9.heap.size w9 w10 := Below.trans (by repeat' (first | (with_reducible assumption) | (with_reducible exact Below.refl _ _) | (with_reducible refine Below.drew ?_) | (with_reducible refine below_drewN ?_ _) | (with_reducible refine Below.alloc ?_ ?_ _) | (with_reducible exact Nat.le_refl _) | (simp; done) | (simp; omega) | omega)) (Below.mono b10 (by first | omega | (simp; done) | (simp; omega))); have b3n_10 := Lib.hid (Box3.below b3n_9.out p10); have b3n_100 := b3n_10.out.c0; have b3n_101 := b3n_10.out.c1; have b3n_102 := b3n_10.out.c2; have b3n_10f0 := b3n_10.out.f0; have b3n_10f1 := b3n_10.out.f1; have b3n_10f2 := b3n_10.out.f2; have b3n_10z := b3n_10.out.z))
      (try go_wp2_with fail)
      refine hK.out _ _ ?_ (fun hHeld58 => ?_)
      · (try dsimp only)
        ((and_intros <;> (first | (with_reducible assumption) | (go_simp; done) | (simp (maxDischargeDepth := 12) [go_sem]; done) | (simp (maxDischargeDepth := 12) [go_sem, *]; done) | exact (Below.cell (by with_reducible assumption) (by first | (simp; done) | (simp; omega) | omega)).trans (by simp (maxDischargeDepth := 12) [go_sem]))))
      clear hK K hHeld57
      try simp only [Act.put, List.setIfInBounds_toArray, List.set_cons_zero, List.set_cons_succ]
      refine wpAnyH_ready (rs := [6]) (by kernel_rfl) (by simp) ?_
      refine (h4_cons rfl (fun K hK => ?_) AllReadyH.nil)
      go_simp
      ((go_at_call 21; (with_reducible refine (NU.out _).mono ?_); rintro e w11 ⟨rfl, b11⟩; have p11 : Below w10.heap.size w10 w11 := Below.trans (by repeat' (first | (with_reducible assumption) | (with_reducible exact Below.refl _ _) | (with_reducible refine Below.drew ?_) | (with_reducible refine below_drewN ?_ _) | (with_reducible refine Below.alloc ?_ ?_ _) | (with_reducible exact Nat.le_refl _) | (simp; done) | (simp; omega) | omega)) (Below.mono b11 (by first | omega | (simp; done) | (simp; omega))); have b3n_11 := Lib.hid (Box3.below b3n_10.out p11); have b3n_110 := b3n_11.out.c0; have b3n_111 := b3n_11.out.c1; have b3n_112 := b3n_11.out.c2; have b3n_11f0 := b3n_11.out.f0; have b3n_11f1 := b3n_11.out.f1; have b3n_11f2 := b3n_11.out.f2; have b3n_11z := b3n_11.out.z))
      (try go_wp2_with fail)
      refine hK.out _ _ ?_ (fun hHeld59 => ?_)
      · (try dsimp only)
        ((and_intros <;> (first | (with_reducible assumption) | (go_simp; done) | (simp (maxDischargeDepth := 12) [go_sem]; done) | (simp (maxDischargeDepth := 12) [go_sem, *]; done) | exact (Below.cell (by with_reducible assumption) (by first | (simp; done) | (simp; omega) | omega)).trans (by simp (maxDischargeDepth := 12) [go_sem]))))
      clear hK K hHeld58
      try simp only [Act.put, List.setIfInBounds_toArray, List.set_cons_zero, List.set_cons_succ]
      refine wpAnyH_ready (rs := [7]) (by kernel_rfl) (by simp) ?_
      refine (h4_cons rfl (fun K hK => ?_) AllReadyH.nil)
      go_simp
      ((go_at_call 30; (with_reducible refine (S1.out _).mono ?_); rintro e w12 ⟨rfl, b12⟩; have p12 : Below w11.heap.size w11 w12 := Below.trans (by repeat' (first | (with_reducible assumption) | (with_reducible exact Below.refl _ _) | (with_reducible refine Below.drew ?_) | (with_reducible refine below_drewN ?_ _) | (with_reducible refine Below.alloc ?_ ?_ _) | (with_reducible exact Nat.le_refl _) | (simp; done) | (simp; omega) | omega)) (Below.mono b12 (by first | omega | (simp; done) | (simp; omega))); have b3n_12 := Lib.hid (Box3.below b3n_11.out p12); have b3n_120 := b3n_12.out.c0; have b3n_121 := b3n_12.out.c1; have b3n_122 := b3n_12.out.c2; have b3n_12f0 := b3n_12.out.f0; have b3n_12f1 := b3n_12.out.f1; have b3n_12f2 := b3n_12.out.f2; have b3n_12z := b3n_12.out.z))
      (try go_wp2_with fail)
      refine hK.out _ _ ?_ (fun hHeld60 => ?_)
      · (try dsimp only)
        ((and_intros <;> (first | (with_reducible assumption) | (go_simp; done) | (simp (maxDischargeDepth := 12) [go_sem]; done) | (simp (maxDischargeDepth := 12) [go_sem, *]; done) | exact (Below.cell (by with_reducible assumption) (by first | (simp; done) | (simp; omega) | omega)).trans (by simp (maxDischargeDepth := 12) [go_sem]))))
      clear hK K hHeld59
      try simp only [Act.put, List.setIfInBounds_toArray, List.set_cons_zero, List.set_cons_succ]
      refine wpAnyH_ready (rs := [8]) (by kernel_rfl) (by simp) ?_
      refine (h4_cons rfl (fun K hK => ?_) AllReadyH.nil)
      go_simp
      ((go_at_call 22; (with_reducible refine (TP.out _).mono ?_); rintro e w13 ⟨rfl, b13⟩; have p13 : Below w12.heap.size w12 w13 := Below.trans (by repeat' (first | (with_reducible assumption) | (with_reducible exact Below.refl _ _) | (with_reducible refine Below.drew ?_) | (with_reducible refine below_drewN ?_ _) | (with_reducible refine Below.alloc ?_ ?_ _) | (with_reducible exact Nat.le_refl _) | (simp; done) | (simp; omega) | omega)) (Below.mono b13 (by first | omega | (simp; done) | (simp; omega))); have b3n_13 := Lib.hid (Box3.below b3n_12.out p13); have b3n_130 := b3n_13.out.c0; have b3n_131 := b3n_13.out.c1; have b3n_132 := b3n_13.out.c2; have b3n_13f0 := b3n_13.out.f0; have b3n_13f1 := b3n_13.out.f1; have b3n_13f2 := b3n_13.out.f2; have b3n_13z := b3n_13.out.z))
      (try go_wp2_with fail)
      refine hK.out _ _ ?_ (fun hHeld61 => ?_)
      · (try dsimp only)
        ((and_intros <;> (first | (with_reducible assumption) | (go_simp; done) | (simp (maxDischargeDepth := 12) [go_sem]; done) | (simp (maxDischargeDepth := 12) [go_sem, *]; done) | exact (Below.cell (by with_reducible assumption) (by first | (simp; done) | (simp; omega) | omega)).trans (by simp (maxDischargeDepth := 12) [go_sem]))))
      clear hK K hHeld60
      try simp only [Act.put, List.setIfInBounds_toArray, List.set_cons_zero, List.set_cons_succ]
      refine wpAnyH_ready (rs := [10]) (by kernel_rfl) (by simp) ?_
      refine (h4_cons rfl (fun K hK => ?_) AllReadyH.nil)
      go_simp
      ((go_at_call 22; (with_reducible refine (TS.out _).mono ?_); rintro e w14 ⟨rfl, b14⟩; have p14 : Below w13.heap.size w13 w14 := Below.trans (by repeat' (first | (with_reducible assumption) | (with_reducible exact Below.refl _ _) | (with_reducible refine Below.drew ?_) | (with_reducible refine below_drewN ?_ _) | (with_reducible refine Below.alloc ?_ ?_ _) | (with_reducible exact Nat.le_refl _) | (simp; done) | (simp; omega) | omega)) (Below.mono b14 (by first | omega | (simp; done) | (simp; omega))); have b3n_14 := Lib.hid (Box3.below b3n_13.out p14); have b3n_140 := b3n_14.out.c0; have b3n_141 := b3n_14.out.c1; have b3n_142 := b3n_14.out.c2; have b3n_14f0 := b3n_14.out.f0; have b3n_14f1 := b3n_14.out.f1; have b3n_14f2 := b3n_14.out.f2; have b3n_14z := b3n_14.out.z))
      (try go_wp2_with fail)
      refine hK.out _ _ ?_ (fun hHeld62 => ?_)
      · (try dsimp only)
        ((and_intros <;> (first | (with_reducible assumption) | (go_simp; done) | (simp (maxDischargeDepth := 12) [go_sem]; done) | (simp (maxDischargeDepth := 12) [go_sem, *]; done) | exact (Below.cell (by with_reducible assumption) (by first | (simp; done) | (simp; omega) | omega)).trans (by simp (maxDischargeDepth := 12) [go_sem]))))
      clear hK K hHeld61
      try simp only [Act.put, List.setIfInBounds_toArray, List.set_cons_zero, List.set_cons_succ]
      refine wpAnyH_ready (rs := [11]) (by kernel_rfl) (by simp) ?_
      refine (h4_cons rfl (fun K hK => ?_) AllReadyH.nil)
      go_simp
      ((go_at_call 26; (with_reducible refine (C3.out _).mono ?_); rintro e w15 ⟨rfl, b15⟩; have p15 : Below w14.heap.size w14 w15 := Below.trans (by repeat' (first | (with_reducible assumption) | (with_reducible exact Below.refl _ _) | (with_reducible refine Below.drew ?_) | (with_reducible refine below_drewN ?_ _) | (with_reducible refine Below.alloc ?_ ?_ _) | (with_reducible exact Nat.le_refl _) | (simp; done) | (simp; omega) | omega)) (Below.mono b15 (by first | omega | (simp; done) | (simp; omega))); have b3n_15 := Lib.hid (Box3.below b3n_14.out p15); have b3n_150 := b3n_15.out.c0; have b3n_151 := b3n_15.out.c1; have b3n_152 := b3n_15.out.c2; have b3n_15f0 := b3n_15.out.f0; have b3n_15f1 := b3n_15.out.f1; have b3n_15f2 := b3n_15.out.f2; have b3n_15z := b3n_15.out.z))
      (try go_wp2_with fail)
      refine hK.out _ _ ?_ (fun hHeld63 => ?_)
      · (try dsimp only)
        ((and_intros <;> (first | (with_reducible assumption) | (go_simp; done) | (simp (maxDischargeDepth := 12) [go_sem]; done) | (simp (maxDischargeDepth := 12) [go_sem, *]; done) | exact (Below.cell (by with_reducible assumption) (by first | (simp; done) | (simp; omega) | omega)).trans (by simp (maxDischargeDepth := 12) [go_sem]))))
      clear hK K hHeld62
      try simp only [Act.put, List.setIfInBounds_toArray, List.set_cons_zero, List.set_cons_succ]
      refine h4_take (i := 12) (v := ?v63) rfl (by kernel_rfl) (by kernel_rfl) (by kernel_rfl) (fun _ _ _ h => h) (by rfl) ?y63 hHeld63 ?r63
      case y63 => (intro wS hSw; (try dsimp only at hSw); go_simp; (try with_reducible rfl))
      try simp only [Act.put, List.setIfInBounds_toArray, List.set_cons_zero, List.set_cons_succ]
      refine h4_take (i := 13) (v := ?v64) rfl (by kernel_rfl) (by kernel_rfl) (by kernel_rfl) (fun _ _ _ h => h) (by rfl) ?y64 hHeld63 ?r64
      case y64 => (intro wS hSw; (try dsimp only at hSw); go_simp; (try with_reducible rfl))
      try simp only [Act.put, List.setIfInBounds_toArray, List.set_cons_zero, List.set_cons_succ]
      refine h4_take (i := 14) (v := ?v65) rfl (by kernel_rfl) (by kernel_rfl) (by kernel_rfl) (fun _ _ _ h => h) (by rfl) ?y65 hHeld63 ?r65
      case y65 => (intro wS hSw; (try dsimp only at hSw); go_simp; (try with_reducible rfl))
      try simp only [Act.put, List.setIfInBounds_toArray, List.set_cons_zero, List.set_cons_succ]
      refine h4_take (i := 17) (v := ?v66) rfl (by kernel_rfl) (by kernel_rfl) (by kernel_rfl) (fun _ _ _ h => h) (by rfl) ?y66 hHeld63 ?r66
      case y66 => (intro wS hSw; (try dsimp only at hSw); go_simp; (try with_reducible rfl))
      try simp only [Act.put, List.setIfInBounds_toArray, List.set_cons_zero, List.set_cons_succ]
      refine wpAnyH_ready (rs := [15]) (by kernel_rfl) (by simp) ?_
      refine (h4_cons rfl (fun K hK => ?_) AllReadyH.nil)
      go_simp
      ((go_at_call 21; (with_reducible refine (NU.out _).mono ?_); rintro e w16 ⟨rfl, b16⟩; have p16 : Below w15.heap.size w15 w16 := Below.trans (by repeat' (first | (with_reducible assumption) | (with_reducible exact Below.refl _ _) | (with_reducible refine Below.drew ?_) | (with_reducible refine below_drewN ?_ _) | (with_reducible refine Below.alloc ?_ ?_ _) | (with_reducible exact Nat.le_refl _) | (simp; done) | (simp; omega) | omega)) (Below.mono b16 (by first | omega | (simp; done) | (simp; omega))); have b3n_16 := Lib.hid (Box3.below b3n_15.out p16); have b3n_160 := b3n_16.out.c0; have b3n_161 := b3n_16.out.c1; have b3n_162 := b3n_16.out.c2; have b3n_16f0 := b3n_16.out.f0; have b3n_16f1 := b3n_16.out.f1; have b3n_16f2 := b3n_16.out.f2; have b3n_16z := b3n_16.out.z))
      (try go_wp2_with fail)
      refine hK.out _ _ ?_ (fun hHeld68 => ?_)
      · (try dsimp only)
        ((and_intros <;> (first | (with_reducible assumption) | (go_simp; done) | (simp (maxDischargeDepth := 12) [go_sem]; done) | (simp (maxDischargeDepth := 12) [go_sem, *]; done) | exact (Below.cell (by with_reducible assumption) (by first | (simp; done) | (simp; omega) | omega)).trans (by simp (maxDischargeDepth := 12) [go_sem]))))
      clear hK K hHeld63
      try simp only [Act.put, List.setIfInBounds_toArray, List.set_cons_zero, List.set_cons_succ]
      refine wpAnyH_ready (rs := [16]) (by kernel_rfl) (by simp) ?_
      refine (h4_cons rfl (fun K hK => ?_) AllReadyH.nil)
      go_simp
      ((go_at_call 29; (with_reducible refine (T2.out _).mono ?_); rintro e w17 ⟨rfl, b17⟩; have p17 : Below w16.heap.size w16 w17 := Below.trans (by repeat' (first | (with_reducible assumption) | (with_reducible exact Below.refl _ _) | (with_reducible refine Below.drew ?_) | (with_reducible refine below_drewN ?_ _) | (with_reducible refine Below.alloc ?_ ?_ _) | (with_reducible exact Nat.le_refl _) | (simp; done) | (simp; omega) | omega)) (Below.mono b17 (by first | omega | (simp; done) | (simp; omega))); have b3n_17 := Lib.hid (Box3.below b3n_16.out p17); have b3n_170 := b3n_17.out.c0; have b3n_171 := b3n_17.out.c1; have b3n_172 := b3n_17.out.c2; have b3n_17f0 := b3n_17.out.f0; have b3n_17f1 := b3n_17.out.f1; have b3n_17f2 := b3n_17.out.f2; have b3n_17z := b3n_17.out.z))
      (try go_wp2_with fail)
      refine hK.out _ _ ?_ (fun hHeld69 => ?_)
      · (try dsimp only)
        ((and_intros <;> (first | (with_reducible assumption) | (go_simp; done) | (simp (maxDischargeDepth := 12) [go_sem]; done) | (simp (maxDischargeDepth := 12) [go_sem, *]; done) | exact (Below.cell (by with_reducible assumption) (by first | (simp; done) | (simp; omega) | omega)).trans (by simp (maxDischargeDepth := 12) [go_sem]))))
      clear hK K hHeld68
      try simp only [Act.put, List.setIfInBounds_toArray, List.set_cons_zero, List.set_cons_succ]
      refine wpAnyH_ready (rs := [18]) (by kernel_rfl) (by simp) ?_
      refine (h4_cons rfl (fun K hK => ?_) AllReadyH.nil)
      go_simp
      ((go_at_call 31; (with_reducible refine (GD.out _).mono ?_); rintro e w18 ⟨rfl, b18⟩; have p18 : Below w17.heap.size w17 w18 := Below.trans (by repeat' (first | (with_reducible assumption) | (with_reducible exact Below.refl _ _) | (with_reducible refine Below.drew ?_) | (with_reducible refine below_drewN ?_ _) | (with_reducible refine Below.alloc ?_ ?_ _) | (with_reducible exact Nat.le_refl _) | (simp; done) | (simp; omega) | omega)) (Below.mono b18 (by first | omega | (simp; done) | (simp; omega))); have b3n_18 := Lib.hid (Box3.below b3n_17.out p18); have b3n_180 := b3n_18.out.c0; have b3n_181 := b3n_18.out.c1; have b3n_182 := b3n_18.out.c2; have b3n_18f0 := b3n_18.out.f0; have b3n_18f1 := b3n_18.out.f1; have b3n_18f2 := b3n_18.out.f2; have b3n_18z := b3n_18.out.z))
      (try go_wp2_with fail)
      refine hK.out _ _ ?_ (fun hHeld70 => ?_)
      · (try dsimp only)
        ((and_intros <;> (first | (with_reducible assumption) | (go_simp; done) | (simp (maxDischargeDepth := 12) [go_sem]; done) | (simp (maxDischargeDepth := 12) [go_sem, *]; done) | exact (Below.cell (by with_reducible assumption) (by first | (simp; done) | (simp; omega) | omega)).trans (by simp (maxDischargeDepth := 12) [go_sem]))))
      clear hK K hHeld69
      try simp only [Act.put, List.setIfInBounds_toArray, List.set_cons_zero, List.set_cons_succ]
      refine h4_take (i := 19) (v := ?v70) rfl (by kernel_rfl) (by kernel_rfl) (by kernel_rfl) (fun _ _ _ h => h) (by rfl) ?y70 hHeld70 ?r70
      case y70 => (intro wS hSw; (try dsimp only at hSw); go_simp; (try with_reducible rfl))
      try simp only [Act.put, List.setIfInBounds_toArray, List.set_cons_zero, List.set_cons_succ]
      refine h4_take (i := 20) (v := ?v71) rfl (by kernel_rfl) (by kernel_rfl) (by kernel_rfl) (fun _ _ _ h => h) (by rfl) ?y71 hHeld70 ?r71
      case y71 => (intro wS hSw; (try dsimp only at hSw); go_simp; (try with_reducible rfl))
      try simp only [Act.put, List.setIfInBounds_toArray, List.set_cons_zero, List.set_cons_succ]
      refine h4_take (i := 21) (v := ?v72) rfl (by kernel_rfl) (by kernel_rfl) (by kernel_rfl) (fun _ _ _ h => h) (by rfl) ?y72 hHeld70 ?r72
      case y72 => (intro wS hSw; (try dsimp only at hSw); go_simp; (try with_reducible rfl))
      try simp only [Act.put, List.setIfInBounds_toArray, List.set_cons_zero, List.set_cons_succ]
      refine h4_take (i := 22) (v := ?v73) rfl (by kernel_rfl) (by kernel_rfl) (by kernel_rfl) (fun _ _ _ h => h) (by rfl) ?y73 hHeld70 ?r73
      case y73 => (intro wS hSw; (try dsimp only at hSw); go_simp; (try with_reducible rfl))
      try simp only [Act.put, List.setIfInBounds_toArray, List.set_cons_zero, List.set_cons_succ]
      refine h4_take (i := 23) (v := ?v74) rfl (by kernel_rfl) (by kernel_rfl) (by kernel_rfl) (fun _ _ _ h => h) (by rfl) ?y74 hHeld70 ?r74
      case y74 => (intro wS hSw; (try dsimp only at hSw); go_simp; (try with_reducible rfl))
      try simp only [Act.put, List.setIfInBounds_toArray, List.set_cons_zero, List.set_cons_succ]
      refine h4_take (i := 24) (v := ?v75) rfl (by kernel_rfl) (by kernel_rfl) (by kernel_rfl) (fun _ _ _ h => h) (by rfl) ?y75 hHeld70 ?r75
      case y75 => (intro wS hSw; (try dsimp only at hSw); go_simp; (try with_reducible rfl))
      try simp only [Act.put, List.setIfInBounds_toArray, List.set_cons_zero, List.set_cons_succ]
      refine h4_take (i := 25) (v := ?v76) rfl (by kernel_rfl) (by kernel_rfl) (by kernel_rfl) (fun _ _ _ h => h) (by rfl) ?y76 hHeld70 ?r76
      case y76 => (intro wS hSw; (try dsimp only at hSw); go_simp; (try with_reducible rfl))
      try simp only [Act.put, List.setIfInBounds_toArray, List.set_cons_zero, List.set_cons_succ]
      refine h4_take (i := 26) (v := ?v77) rfl (by kernel_rfl) (by kernel_rfl) (by kernel_rfl) (fun _ _ _ h => h) (by rfl) ?y77 hHeld70 ?r77
      case y77 => (intro wS hSw; (try dsimp only at hSw); go_simp; (try with_reducible rfl))
      try simp only [Act.put, List.setIfInBounds_toArray, List.set_cons_zero, List.set_cons_succ]
      refine wpAnyH_done (by kernel_rfl) ?_ _
      go_wp2_with fail
      go_ret
      exact ⟨by simp [beq_eq_false_iff_ne.1 e1], by refine (below_step (below_step (below_step (below_step (below_step (below_step (below_step (below_step (below_step (below_step (below_step HB7.out p8) p9) p10) p11) p12) p13) p14) p15) p16) p17) p18).trans ?_; (repeat' (first | (with_reducible exact Below.refl _ _) | (refine Below.trans ?_ (Below.mono (by with_reducible assumption) ?_)) | (with_reducible exact Below.refl _ _) | (with_reducible refine below_drewN ?_ _) | (with_reducible refine Below.drew ?_) | (with_reducible refine Below.setCell ?_ ?_ _) | (with_reducible refine Below.alloc ?_ ?_ _) | (with_reducible assumption) | (simp; done) | (simp; omega) | omega))⟩
    · skip
      refine wp_region_held_drew (S := (fun w' => w'.cell? ⟨w.heap.size, 0, none⟩ = some (.bool false) ∧ w'.cell? ⟨w.heap.size, 1, none⟩ = some (.int .u64 0) ∧ w'.cell? ⟨w.heap.size, 2, none⟩ = some (.int .u64 l))) (by kernel_rfl) ?_ (fun hHeld => ?_)
      · (try dsimp only)
        ((and_intros <;> (first | (with_reducible assumption) | (go_simp; done) | (simp (maxDischargeDepth := 12) [go_sem]; done) | (simp (maxDischargeDepth := 12) [go_sem, *]; done) | exact (Below.cell (by with_reducible assumption) (by first | (simp; done) | (simp; omega) | omega)).trans (by simp (maxDischargeDepth := 12) [go_sem]))))
      refine h4_take (i := 0) (v := ?v78) rfl (by kernel_rfl) (by kernel_rfl) (by kernel_rfl) (fun _ _ _ h => h) (by rfl) ?y78 hHeld ?r78
      case y78 => (intro wS hSw; (try dsimp only at hSw); go_simp; (try with_reducible rfl))
      try simp only [Act.put, List.setIfInBounds_toArray, List.set_cons_zero, List.set_cons_succ]
      refine h4_take (i := 2) (v := ?v79) rfl (by kernel_rfl) (by kernel_rfl) (by kernel_rfl) (fun _ _ _ h => h) (by rfl) ?y79 hHeld ?r79
      case y79 => (intro wS hSw; (try dsimp only at hSw); go_simp; (try with_reducible rfl))
      try simp only [Act.put, List.setIfInBounds_toArray, List.set_cons_zero, List.set_cons_succ]
      refine h4_take (i := 5) (v := ?v80) rfl (by kernel_rfl) (by kernel_rfl) (by kernel_rfl) (fun _ _ _ h => h) (by rfl) ?y80 hHeld ?r80
      case y80 => (intro wS hSw; (try dsimp only at hSw); go_simp; (try with_reducible rfl))
      try simp only [Act.put, List.setIfInBounds_toArray, List.set_cons_zero, List.set_cons_succ]
      refine h4_take (i := 9) (v := ?v81) rfl (by kernel_rfl) (by kernel_rfl) (by kernel_rfl) (fun _ _ _ h => h) (by rfl) ?y81 hHeld ?r81
      case y81 => (intro wS hSw; (try dsimp only at hSw); go_simp; (try with_reducible rfl))
      try simp only [Act.put, List.setIfInBounds_toArray, List.set_cons_zero, List.set_cons_succ]
      refine wpAnyH_ready (rs := [1]) (by kernel_rfl) (by simp) ?_
      refine (h4_cons rfl (fun K hK => ?_) AllReadyH.nil)
      go_simp
      ((go_at_call 21; (with_reducible refine (NU.out _).mono ?_); rintro e w8 ⟨rfl, b8⟩; have p8 : Below w7.heap.size w7 w8 := Below.trans (by repeat' (first | (with_reducible assumption) | (with_reducible exact Below.refl _ _) | (with_reducible refine Below.drew ?_) | (with_reducible refine below_drewN ?_ _) | (with_reducible refine Below.alloc ?_ ?_ _) | (with_reducible exact Nat.le_refl _) | (simp; done) | (simp; omega) | omega)) (Below.mono b8 (by first | omega | (simp; done) | (simp; omega))); have b3n_8 := Lib.hid (Box3.below b3n_7.out p8); have b3n_80 := b3n_8.out.c0; have b3n_81 := b3n_8.out.c1; have b3n_82 := b3n_8.out.c2; have b3n_8f0 := b3n_8.out.f0; have b3n_8f1 := b3n_8.out.f1; have b3n_8f2 := b3n_8.out.f2; have b3n_8z := b3n_8.out.z))
      (try go_wp2_with fail)
      refine hK.out _ _ ?_ (fun hHeld83 => ?_)
      · (try dsimp only)
        ((and_intros <;> (first | (with_reducible assumption) | (go_simp; done) | (simp (maxDischargeDepth := 12) [go_sem]; done) | (simp (maxDischargeDepth := 12) [go_sem, *]; done) | exact (Below.cell (by with_reducible assumption) (by first | (simp; done) | (simp; omega) | omega)).trans (by simp (maxDischargeDepth := 12) [go_sem]))))
      clear hK K hHeld
      try simp only [Act.put, List.setIfInBounds_toArray, List.set_cons_zero, List.set_cons_succ]
      refine wpAnyH_ready (rs := [3]) (by kernel_rfl) (by simp) ?_
      refine (h4_cons rfl (fun K hK => ?_) AllReadyH.nil)
      go_simp
      ((go_at_call 22; (with_reducible refine (TS.out _).mono ?_); rintro e w9 ⟨rfl, b9⟩; have p9 : Below w8.heap.size w8 w9 := Below.trans (by repeat' (first | (with_reducible assumption) | (with_reducible exact Below.refl _ _) | (with_reducible refine Below.drew ?_) | (with_reducible refine below_drewN ?_ _) | (with_reducible refine Below.alloc ?_ ?_ _) | (with_reducible exact Nat.le_refl _) | (simp; done) | (simp; omega) | omega)) (Below.mono b9 (by first | omega | (simp; done) | (simp; omega))); have b3n_9 := Lib.hid (Box3.below b3n_8.out p9); have b3n_90 := b3n_9.out.c0; have b3n_91 := b3n_9.out.c1; have b3n_92 := b3n_9.out.c2; have b3n_9f0 := b3n_9.out.f0; have b3n_9f1 := b3n_9.out.f1; have b3n_9f2 := b3n_9.out.f2; have b3n_9z := b3n_9.out.z))
      (try go_wp2_with fail)
      refine hK.out _ _ ?_ (fun hHeld84 => ?_)
      · (try dsimp only)
        ((and_intros <;> (first | (with_reducible assumption) | (go_simp; done) | (simp (maxDischargeDepth := 12) [go_sem]; done) | (simp (maxDischargeDepth := 12) [go_sem, *]; done) | exact (Below.cell (by with_reducible assumption) (by first | (simp; done) | (simp; omega) | omega)).trans (by simp (maxDischargeDepth := 12) [go_sem]))))
      clear hK K hHeld83
      try simp only [Act.put, List.setIfInBounds_toArray, List.set_cons_zero, List.set_cons_succ]
      refine wpAnyH_ready (rs := [4]) (by kernel_rfl) (by simp) ?_
      refine (h4_cons rfl (fun K hK => ?_) AllReadyH.nil)
      go_simp
      ((go_at_call 26; (with_reducible refine (C2.out _).mono ?_); rintro e w10 ⟨rfl, b10⟩; have p10 : Below w9.heap.size w9 w10 := Below.trans (by repeat' (first | (with_reducible assumption) | (with_reducible exact Below.refl _ _) | (with_reducible refine Below.drew ?_) | (with_reducible refine below_drewN ?_ _) | (with_reducible refine Below.alloc ?_ ?_ _) | (with_reducible exact Nat.le_refl _) | (simp; done) | (simp; omega) | omega)) (Below.mono b10 (by first | omega | (simp; done) | (simp; omega))); have b3n_10 := Lib.hid (Box3.below b3n_9.out p10); have b3n_100 := b3n_10.out.c0; have b3n_101 := b3n_10.out.c1; have b3n_102 := b3n_10.out.c2; have b3n_10f0 := b3n_10.out.f0; have b3n_10f1 := b3n_10.out.f1; have b3n_10f2 := b3n_10.out.f2; have b3n_10z := b3n_10.out.z))
      (try go_wp2_with fail)
      refine hK.out _ _ ?_ (fun hHeld85 => ?_)
      · (try dsimp only)
        ((and_intros <;> (first | (with_reducible assumption) | (go_simp; done) | (simp (maxDischargeDepth := 12) [go_sem]; done) | (simp (maxDischargeDepth := 12) [go_sem, *]; done) | exact (Below.cell (by with_reducible assumption) (by first | (simp; done) | (simp; omega) | omega)).trans (by simp (maxDischargeDepth := 12) [go_sem]))))
      clear hK K hHeld84
      try simp only [Act.put, List.setIfInBounds_toArray, List.set_cons_zero, List.set_cons_succ]
      refine wpAnyH_ready (rs := [6]) (by kernel_rfl) (by simp) ?_
      refine (h4_cons rfl (fun K hK => ?_) AllReadyH.nil)
      go_simp
      ((go_at_call 21; (with_reducible refine (NU.out _).mono ?_); rintro e w11 ⟨rfl, b11⟩; have p11 : Below w10.heap.size w10 w11 := Below.trans (by repeat' (first | (with_reducible assumption) | (with_reducible exact Below.refl _ _) | (with_reducible refine Below.drew ?_) | (with_reducible refine below_drewN ?_ _) | (with_reducible refine Below.alloc ?_ ?_ _) | (with_reducible exact Nat.le_refl _) | (simp; done) | (simp; omega) | omega)) (Below.mono b11 (by first | omega | (simp; done) | (simp; omega))); have b3n_11 := Lib.hid (Box3.below b3n_10.out p11); have b3n_110 := b3n_11.out.c0; have b3n_111 := b3n_11.out.c1; have b3n_112 := b3n_11.out.c2; have b3n_11f0 := b3n_11.out.f0; have b3n_11f1 := b3n_11.out.f1; have b3n_11f2 := b3n_11.out.f2; have b3n_11z := b3n_11.out.z))
      (try go_wp2_with fail)
      refine hK.out _ _ ?_ (fun hHeld86 => ?_)
      · (try dsimp only)
        ((and_intros <;> (first | (with_reducible assumption) | (go_simp; done) | (simp (maxDischargeDepth := 12) [go_sem]; done) | (simp (maxDischargeDepth := 12) [go_sem, *]; done) | exact (Below.cell (by with_reducible assumption) (by first | (simp; done) | (simp; omega) | omega)).trans (by simp (maxDischargeDepth := 12) [go_sem]))))
      clear hK K hHeld85
      try simp only [Act.put, List.setIfInBounds_toArray, List.set_cons_zero, List.set_cons_succ]
      refine wpAnyH_ready (rs := [7]) (by kernel_rfl) (by simp) ?_
      refine (h4_cons rfl (fun K hK => ?_) AllReadyH.nil)
      go_simp
      ((go_at_call 30; (with_reducible refine (S1.out _).mono ?_); rintro e w12 ⟨rfl, b12⟩; have p12 : Below w11.heap.size w11 w12 := Below.trans (by repeat' (first | (with_reducible assumption) | (with_reducible exact Below.refl _ _) | (with_reducible refine Below.drew ?_) | (with_reducible refine below_drewN ?_ _) | (with_reducible refine Below.alloc ?_ ?_ _) | (with_reducible exact Nat.le_refl _) | (simp; done) | (simp; omega) | omega)) (Below.mono b12 (by first | omega | (simp; done) | (simp; omega))); have b3n_12 := Lib.hid (Box3.below b3n_11.out p12); have b3n_120 := b3n_12.out.c0; have b3n_121 := b3n_12.out.c1; have b3n_122 := b3n_12.out.c2; have b3n_12f0 := b3n_12.out.f0; have b3n_12f1 := b3n_12.out.f1; have b3n_12f2 := b3n_12.out.f2; have b3n_12z := b3n_12.out.z))
      (try go_wp2_with fail)
      refine hK.out _ _ ?_ (fun hHeld87 => ?_)
      · (try dsimp only)
        ((and_intros <;> (first | (with_reducible assumption) | (go_simp; done) | (simp (maxDischargeDepth := 12) [go_sem]; done) | (simp (maxDischargeDepth := 12) [go_sem, *]; done) | exact (Below.cell (by with_reducible assumption) (by first | (simp; done) | (simp; omega) | omega)).trans (by simp (maxDischargeDepth := 12) [go_sem]))))
      clear hK K hHeld86
      try simp only [Act.put, List.setIfInBounds_toArray, List.set_cons_zero, List.set_cons_succ]
      refine wpAnyH_ready (rs := [8]) (by kernel_rfl) (by simp) ?_
      refine (h4_cons rfl (fun K hK => ?_) AllReadyH.nil)
      go_simp
      ((go_at_call 22; (with_reducible refine (TP.out _).mono ?_); rintro e w13 ⟨rfl, b13⟩; have p13 : Below w12.heap.size w12 w13 := Below.trans (by repeat' (first | (with_reducible assumption) | (with_reducible exact Below.refl _ _) | (with_reducible refine Below.drew ?_) | (with_reducible refine below_drewN ?_ _) | (with_reducible refine Below.alloc ?_ ?_ _) | (with_reducible exact Nat.le_refl _) | (simp; done) | (simp; omega) | omega)) (Below.mono b13 (by first | omega | (simp; done) | (simp; omega))); have b3n_13 := Lib.hid (Box3.below b3n_12.out p13); have b3n_130 := b3n_13.out.c0; have b3n_131 := b3n_13.out.c1; have b3n_132 := b3n_13.out.c2; have b3n_13f0 := b3n_13.out.f0; have b3n_13f1 := b3n_13.out.f1; have b3n_13f2 := b3n_13.out.f2; have b3n_13z := b3n_13.out.z))
      (try go_wp2_with fail)
      refine hK.out _ _ ?_ (fun hHeld88 => ?_)
      · (try dsimp only)
        ((and_intros <;> (first | (with_reducible assumption) | (go_simp; done) | (simp (maxDischargeDepth := 12) [go_sem]; done) | (simp (maxDischargeDepth := 12) [go_sem, *]; done) | exact (Below.cell (by with_reducible assumption) (by first | (simp; done) | (simp; omega) | omega)).trans (by simp (maxDischargeDepth := 12) [go_sem]))))
      clear hK K hHeld87
      try simp only [Act.put, List.setIfInBounds_toArray, List.set_cons_zero, List.set_cons_succ]
      refine wpAnyH_ready (rs := [10]) (by kernel_rfl) (by simp) ?_
      refine (h4_cons rfl (fun K hK => ?_) AllReadyH.nil)
      go_simp
      ((go_at_call 22; (with_reducible refine (TS.out _).mono ?_); rintro e w14 ⟨rfl, b14⟩; have p14 : Below w13.heap.size w13 w14 := Below.trans (by repeat' (first | (with_reducible assumption) | (with_reducible exact Below.refl _ _) | (with_reducible refine Below.drew ?_) | (with_reducible refine below_drewN ?_ _) | (with_reducible refine Below.alloc ?_ ?_ _) | (with_reducible exact Nat.le_refl _) | (simp; done) | (simp; omega) | omega)) (Below.mono b14 (by first | omega | (simp; done) | (simp; omega))); have b3n_14 := Lib.hid (Box3.below b3n_13.out p14); have b3n_140 := b3n_14.out.c0; have b3n_141 := b3n_14.out.c1; have b3n_142 := b3n_14.out.c2; have b3n_14f0 := b3n_14.out.f0; have b3n_14f1 := b3n_14.out.f1; have b3n_14f2 := b3n_14.out.f2; have b3n_14z := b3n_14.out.z))
      (try go_wp2_with fail)
      refine hK.out _ _ ?_ (fun hHeld89 => ?_)
      · (try dsimp only)
        ((and_intros <;> (first | (with_reducible assumption) | (go_simp; done) | (simp (maxDischargeDepth := 12) [go_sem]; done) | (simp (maxDischargeDepth := 12) [go_sem, *]; done) | exact (Below.cell (by with_reducible assumption) (by first | (simp; done) | (simp; omega) | omega)).trans (by simp (maxDischargeDepth := 12) [go_sem]))))
      clear hK K hHeld88
      try simp only [Act.put, List.setIfInBounds_toArray, List.set_cons_zero, List.set_cons_succ]
      refine wpAnyH_ready (rs := [11]) (by kernel_rfl) (by simp) ?_
      refine (h4_cons rfl (fun K hK => ?_) AllReadyH.nil)
      go_simp
      ((go_at_call 26; (with_reducible refine (C3.out _).mono ?_); rintro e w15 ⟨rfl, b15⟩; have p15 : Below w14.heap.size w14 w15 := Below.trans (by repeat' (first | (with_reducible assumption) | (with_reducible exact Below.refl _ _) | (with_reducible refine Below.drew ?_) | (with_reducible refine below_drewN ?_ _) | (with_reducible refine Below.alloc ?_ ?_ _) | (with_reducible exact Nat.le_refl _) | (simp; done) | (simp; omega) | omega)) (Below.mono b15 (by first | omega | (simp; done) | (simp; omega))); have b3n_15 := Lib.hid (Box3.below b3n_14.out p15); have b3n_150 := b3n_15.out.c0; have b3n_151 := b3n_15.out.c1; have b3n_152 := b3n_15.out.c2; have b3n_15f0 := b3n_15.out.f0; have b3n_15f1 := b3n_15.out.f1; have b3n_15f2 := b3n_15.out.f2; have b3n_15z := b3n_15.out.z))
      (try go_wp2_with fail)
      refine hK.out _ _ ?_ (fun hHeld90 => ?_)
      · (try dsimp only)
        ((and_intros <;> (first | (with_reducible assumption) | (go_simp; done) | (simp (maxDischargeDepth := 12) [go_sem]; done) | (simp (maxDischargeDepth := 12) [go_sem, *]; done) | exact (Below.cell (by with_reducible assumption) (by first | (simp; done) | (simp; omega) | omega)).trans (by simp (maxDischargeDepth := 12) [go_sem]))))
      clear hK K hHeld89
      try simp only [Act.put, List.setIfInBounds_toArray, List.set_cons_zero, List.set_cons_succ]
      refine h4_take (i := 12) (v := ?v90) rfl (by kernel_rfl) (by kernel_rfl) (by kernel_rfl) (fun _ _ _ h => h) (by rfl) ?y90 hHeld90 ?r90
      case y90 => (intro wS hSw; (try dsimp only at hSw); go_simp; (try with_reducible rfl))
      try simp only [Act.put, List.setIfInBounds_toArray, List.set_cons_zero, List.set_cons_succ]
      refine h4_take (i := 13) (v := ?v91) rfl (by kernel_rfl) (by kernel_rfl) (by kernel_rfl) (fun _ _ _ h => h) (by rfl) ?y91 hHeld90 ?r91
      case y91 => (intro wS hSw; (try dsimp only at hSw); go_simp; (try with_reducible rfl))
      try simp only [Act.put, List.setIfInBounds_toArray, List.set_cons_zero, List.set_cons_succ]
      refine h4_take (i := 14) (v := ?v92) rfl (by kernel_rfl) (by kernel_rfl) (by kernel_rfl) (fun _ _ _ h => h) (by rfl) ?y92 hHeld90 ?r92
      case y92 => (intro wS hSw; (try dsimp only at hSw); go_simp; (try with_reducible rfl))
      try simp only [Act.put, List.setIfInBounds_toArray, List.set_cons_zero, List.set_cons_succ]
      refine h4_take (i := 17) (v := ?v93) rfl (by kernel_rfl) (by kernel_rfl) (by kernel_rfl) (fun _ _ _ h => h) (by rfl) ?y93 hHeld90 ?r93
      case y93 => (intro wS hSw; (try dsimp only at hSw); go_simp; (try with_reducible rfl))
      try simp only [Act.put, List.setIfInBounds_toArray, List.set_cons_zero, List.set_cons_succ]
      refine wpAnyH_ready (rs := [15]) (by kernel_rfl) (by simp) ?_
      refine (h4_cons rfl (fun K hK => ?_) AllReadyH.nil)
      go_simp
      ((go_at_call 21; (with_reducible refine (NU.out _).mono ?_); rintro e w16 ⟨rfl, b16⟩; have p16 : Below w15.heap.size w15 w16 := Below.trans (by repeat' (first | (with_reducible assumption) | (with_reducible exact Below.refl _ _) | (with_reducible refine Below.drew ?_) | (with_reducible refine below_drewN ?_ _) | (with_reducible refine Below.alloc ?_ ?_ _) | (with_reducible exact Nat.le_refl _) | (simp; done) | (simp; omega) | omega)) (Below.mono b16 (by first | omega | (simp; done) | (simp; omega))); have b3n_16 := Lib.hid (Box3.below b3n_15.out p16); have b3n_160 := b3n_16.out.c0; have b3n_161 := b3n_16.out.c1; have b3n_162 := b3n_16.out.c2; have b3n_16f0 := b3n_16.out.f0; have b3n_16f1 := b3n_16.out.f1; have b3n_16f2 := b3n_16.out.f2; have b3n_16z := b3n_16.out.z))
      (try go_wp2_with fail)
      refine hK.out _ _ ?_ (fun hHeld95 => ?_)
      · (try dsimp only)
        ((and_intros <;> (first | (with_reducible assumption) | (go_simp; done) | (simp (maxDischargeDepth := 12) [go_sem]; done) | (simp (maxDischargeDepth := 12) [go_sem, *]; done) | exact (Below.cell (by with_reducible assumption) (by first | (simp; done) | (simp; omega) | omega)).trans (by simp (maxDischargeDepth := 12) [go_sem]))))
      clear hK K hHeld90
      try simp only [Act.put, List.setIfInBounds_toArray, List.set_cons_zero, List.set_cons_succ]
      refine wpAnyH_ready (rs := [16]) (by kernel_rfl) (by simp) ?_
      refine (h4_cons rfl (fun K hK => ?_) AllReadyH.nil)
      go_simp
      ((go_at_call 29; (with_reducible refine (T2.out _).mono ?_); rintro e w17 ⟨rfl, b17⟩; have p17 : Below w16.heap.size w16 w17 := Below.trans (by repeat' (first | (with_reducible assumption) | (with_reducible exact Below.refl _ _) | (with_reducible refine Below.drew ?_) | (with_reducible refine below_drewN ?_ _) | (with_reducible refine Below.alloc ?_ ?_ _) | (with_reducible exact Nat.le_refl _) | (simp; done) | (simp; omega) | omega)) (Below.mono b17 (by first | omega | (simp; done) | (simp; omega))); have b3n_17 := Lib.hid (Box3.below b3n_16.out p17); have b3n_170 := b3n_17.out.c0; have b3n_171 := b3n_17.out.c1; have b3n_172 := b3n_17.out.c2; have b3n_17f0 := b3n_17.out.f0; have b3n_17f1 := b3n_17.out.f1; have b3n_17f2 := b3n_17.out.f2; have b3n_17z := b3n_17.out.z))
      (try go_wp2_with fail)
      refine hK.out _ _ ?_ (fun hHeld96 => ?_)
      · (try dsimp only)
        ((and_intros <;> (first | (with_reducible assumption) | (go_simp; done) | (simp (maxDischargeDepth := 12) [go_sem]; done) | (simp (maxDischargeDepth := 12) [go_sem, *]; done) | exact (Below.cell (by with_reducible assumption) (by first | (simp; done) | (simp; omega) | omega)).trans (by simp (maxDischargeDepth := 12) [go_sem]))))
      clear hK K hHeld95
      try simp only [Act.put, List.setIfInBounds_toArray, List.set_cons_zero, List.set_cons_succ]
      refine wpAnyH_ready (rs := [18]) (by kernel_rfl) (by simp) ?_
      refine (h4_cons rfl (fun K hK => ?_) AllReadyH.nil)
      go_simp
      ((go_at_call 31; (with_reducible refine (GD.out _).mono ?_); rintro e w18 ⟨rfl, b18⟩; have p18 : Below w17.heap.size w17 w18 := Below.trans (by repeat' (first | (with_reducible assumption) | (with_reducible exact Below.refl _ _) | (with_reducible refine Below.drew ?_) | (with_reducible refine below_drewN ?_ _) | (with_reducible refine Below.alloc ?_ ?_ _) | (with_reducible exact Nat.le_refl _) | (simp; done) | (simp; omega) | omega)) (Below.mono b18 (by first | omega | (simp; done) | (simp; omega))); have b3n_18 := Lib.hid (Box3.below b3n_17.out p18); have b3n_180 := b3n_18.out.c0; have b3n_181 := b3n_18.out.c1; have b3n_182 := b3n_18.out.c2; have b3n_18f0 := b3n_18.out.f0; have b3n_18f1 := b3n_18.out.f1; have b3n_18f2 := b3n_18.out.f2; have b3n_18z := b3n_18.out.z))
      (try go_wp2_with fail)
      refine hK.out _ _ ?_ (fun hHeld97 => ?_)
      · (try dsimp only)
        ((and_intros <;> (first | (with_reducible assumption) | (go_simp; done) | (simp (maxDischargeDepth := 12) [go_sem]; done) | (simp (maxDischargeDepth := 12) [go_sem, *]; done) | exact (Below.cell (by with_reducible assumption) (by first | (simp; done) | (simp; omega) | omega)).trans (by simp (maxDischargeDepth := 12) [go_sem]))))
      clear hK K hHeld96
      try simp only [Act.put, List.setIfInBounds_toArray, List.set_cons_zero, List.set_cons_succ]
      refine h4_take (i := 19) (v := ?v97) rfl (by kernel_rfl) (by kernel_rfl) (by kernel_rfl) (fun _ _ _ h => h) (by rfl) ?y97 hHeld97 ?r97
      case y97 => (intro wS hSw; (try dsimp only at hSw); go_simp; (try with_reducible rfl))
      try simp only [Act.put, List.setIfInBounds_toArray, List.set_cons_zero, List.set_cons_succ]
      refine h4_take (i := 20) (v := ?v98) rfl (by kernel_rfl) (by kernel_rfl) (by kernel_rfl) (fun _ _ _ h => h) (by rfl) ?y98 hHeld97 ?r98
      case y98 => (intro wS hSw; (try dsimp only at hSw); go_simp; (try with_reducible rfl))
      try simp only [Act.put, List.setIfInBounds_toArray, List.set_cons_zero, List.set_cons_succ]
      refine h4_take (i := 21) (v := ?v99) rfl (by kernel_rfl) (by kernel_rfl) (by kernel_rfl) (fun _ _ _ h => h) (by rfl) ?y99 hHeld97 ?r99
      case y99 => (intro wS hSw; (try dsimp only at hSw); go_simp; (try with_reducible rfl))
      try simp only [Act.put, List.setIfInBounds_toArray, List.set_cons_zero, List.set_cons_succ]
      refine h4_take (i := 22) (v := ?v100) rfl (by kernel_rfl) (by kernel_rfl) (by kernel_rfl) (fun _ _ _ h => h) (by rfl) ?y100 hHeld97 ?r100
      case y100 => (intro wS hSw; (try dsimp only at hSw); go_simp; (try with_reducible rfl))
      try simp only [Act.put, List.setIfInBounds_toArray, List.set_cons_zero, List.set_cons_succ]
      refine h4_take (i := 23) (v := ?v101) rfl (by kernel_rfl) (by kernel_rfl) (by kernel_rfl) (fun _ _ _ h => h) (by rfl) ?y101 hHeld97 ?r101
      case y101 => (intro wS hSw; (try dsimp only at hSw); go_simp; (try with_reducible rfl))
      try simp only [Act.put, List.setIfInBounds_toArray, List.set_cons_zero, List.set_cons_succ]
      refine h4_take (i := 24) (v := ?v102) rfl (by kernel_rfl) (by kernel_rfl) (by kernel_rfl) (fun _ _ _ h => h) (by rfl) ?y102 hHeld97 ?r102
      case y102 => (intro wS hSw; (try dsimp only at hSw); go_simp; (try with_reducible rfl))
      try simp only [Act.put, List.setIfInBounds_toArray, List.set_cons_zero, List.set_cons_succ]
      refine h4_take (i := 25) (v := ?v103) rfl (by kernel_rfl) (by kernel_rfl) (by kernel_rfl) (fun _ _ _ h => h) (by rfl) ?y103 hHeld97 ?r103
      case y103 => (intro wS hSw; (try dsimp only at hSw); go_simp; (try with_reducible rfl))
      try simp only [Act.put, List.setIfInBounds_toArray, List.set_cons_zero, List.set_cons_succ]
      refine h4_take (i := 26) (v := ?v104) rfl (by kernel_rfl) (by kernel_rfl) (by kernel_rfl) (fun _ _ _ h => h) (by rfl) ?y104 hHeld97 ?r104
      case y104 => (intro wS hSw; (try dsimp only at hSw); go_simp; (try with_reducible rfl))
      try simp only [Act.put, List.setIfInBounds_toArray, List.set_cons_zero, List.set_cons_succ]
      refine wpAnyH_done (by kernel_rfl) ?_ _
      go_wp2_with fail
      go_ret
      exact ⟨by simp [beq_eq_false_iff_ne.1 e1], by refine (below_step (below_step (below_step (below_step (below_step (below_step (below_step (below_step (below_step (below_step (below_step HB7.out p8) p9) p10) p11) p12) p13) p14) p15) p16) p17) p18).trans ?_; (repeat' (first | (with_reducible exact Below.refl _ _) | (refine Below.trans ?_ (Below.mono (by with_reducible assumption) ?_)) | (with_reducible exact Below.refl _ _) | (with_reducible refine below_drewN ?_ _) | (with_reducible refine Below.drew ?_) | (with_reducible refine Below.setCell ?_ ?_ _) | (with_reducible refine Below.alloc ?_ ?_ _) | (with_reducible assumption) | (simp; done) | (simp; omega) | omega))⟩
    · skip
      refine wp_region_held_drew (S := (fun w' => w'.cell? ⟨w.heap.size, 0, none⟩ = some (.bool false) ∧ w'.cell? ⟨w.heap.size, 1, none⟩ = some (.int .u64 0) ∧ w'.cell? ⟨w.heap.size, 2, none⟩ = some (.int .u64 0))) (by kernel_rfl) ?_ (fun hHeld => ?_)
      · (try dsimp only)
        ((and_intros <;> (first | (with_reducible assumption) | (go_simp; done) | (simp (maxDischargeDepth := 12) [go_sem]; done) | (simp (maxDischargeDepth := 12) [go_sem, *]; done) | exact (Below.cell (by with_reducible assumption) (by first | (simp; done) | (simp; omega) | omega)).trans (by simp (maxDischargeDepth := 12) [go_sem]))))
      refine h4_take (i := 0) (v := ?v105) rfl (by kernel_rfl) (by kernel_rfl) (by kernel_rfl) (fun _ _ _ h => h) (by rfl) ?y105 hHeld ?r105
      case y105 => (intro wS hSw; (try dsimp only at hSw); go_simp; (try with_reducible rfl))
      try simp only [Act.put, List.setIfInBounds_toArray, List.set_cons_zero, List.set_cons_succ]
      refine h4_take (i := 2) (v := ?v106) rfl (by kernel_rfl) (by kernel_rfl) (by kernel_rfl) (fun _ _ _ h => h) (by rfl) ?y106 hHeld ?r106
      case y106 => (intro wS hSw; (try dsimp only at hSw); go_simp; (try with_reducible rfl))
      try simp only [Act.put, List.setIfInBounds_toArray, List.set_cons_zero, List.set_cons_succ]
      refine h4_take (i := 5) (v := ?v107) rfl (by kernel_rfl) (by kernel_rfl) (by kernel_rfl) (fun _ _ _ h => h) (by rfl) ?y107 hHeld ?r107
      case y107 => (intro wS hSw; (try dsimp only at hSw); go_simp; (try with_reducible rfl))
      try simp only [Act.put, List.setIfInBounds_toArray, List.set_cons_zero, List.set_cons_succ]
      refine h4_take (i := 9) (v := ?v108) rfl (by kernel_rfl) (by kernel_rfl) (by kernel_rfl) (fun _ _ _ h => h) (by rfl) ?y108 hHeld ?r108
      case y108 => (intro wS hSw; (try dsimp only at hSw); go_simp; (try with_reducible rfl))
      try simp only [Act.put, List.setIfInBounds_toArray, List.set_cons_zero, List.set_cons_succ]
      refine wpAnyH_ready (rs := [1]) (by kernel_rfl) (by simp) ?_
      refine (h4_cons rfl (fun K hK => ?_) AllReadyH.nil)
      go_simp
      ((go_at_call 21; (with_reducible refine (NU.out _).mono ?_); rintro e w8 ⟨rfl, b8⟩; have p8 : Below w7.heap.size w7 w8 := Below.trans (by repeat' (first | (with_reducible assumption) | (with_reducible exact Below.refl _ _) | (with_reducible refine Below.drew ?_) | (with_reducible refine below_drewN ?_ _) | (with_reducible refine Below.alloc ?_ ?_ _) | (with_reducible exact Nat.le_refl _) | (simp; done) | (simp; omega) | omega)) (Below.mono b8 (by first | omega | (simp; done) | (simp; omega))); have b3n_8 := Lib.hid (Box3.below b3n_7.out p8); have b3n_80 := b3n_8.out.c0; have b3n_81 := b3n_8.out.c1; have b3n_82 := b3n_8.out.c2; have b3n_8f0 := b3n_8.out.f0; have b3n_8f1 := b3n_8.out.f1; have b3n_8f2 := b3n_8.out.f2; have b3n_8z := b3n_8.out.z))
      (try go_wp2_with fail)
      refine hK.out _ _ ?_ (fun hHeld110 => ?_)
      · (try dsimp only)
        ((and_intros <;> (first | (with_reducible assumption) | (go_simp; done) | (simp (maxDischargeDepth := 12) [go_sem]; done) | (simp (maxDischargeDepth := 12) [go_sem, *]; done) | exact (Below.cell (by with_reducible assumption) (by first | (simp; done) | (simp; omega) | omega)).trans (by simp (maxDischargeDepth := 12) [go_sem]))))
      clear hK K hHeld
      try simp only [Act.put, List.setIfInBounds_toArray, List.set_cons_zero, List.set_cons_succ]
      refine wpAnyH_ready (rs := [3]) (by kernel_rfl) (by simp) ?_
      refine (h4_cons rfl (fun K hK => ?_) AllReadyH.nil)
      go_simp
      ((go_at_call 22; (with_reducible refine (TS.out _).mono ?_); rintro e w9 ⟨rfl, b9⟩; have p9 : Below w8.heap.size w8 w9 := Below.trans (by repeat' (first | (with_reducible assumption) | (with_reducible exact Below.refl _ _) | (with_reducible refine Below.drew ?_) | (with_reducible refine below_drewN ?_ _) | (with_reducible refine Below.alloc ?_ ?_ _) | (with_reducible exact Nat.le_refl _) | (simp; done) | (simp; omega) | omega)) (Below.mono b9 (by first | omega | (simp; done) | (simp; omega))); have b3n_9 := Lib.hid (Box3.below b3n_8.out p9); have b3n_90 := b3n_9.out.c0; have b3n_91 := b3n_9.out.c1; have b3n_92 := b3n_9.out.c2; have b3n_9f0 := b3n_9.out.f0; have b3n_9f1 := b3n_9.out.f1; have b3n_9f2 := b3n_9.out.f2; have b3n_9z := b3n_9.out.z))
      (try go_wp2_with fail)
      refine hK.out _ _ ?_ (fun hHeld111 => ?_)
      · (try dsimp only)
        ((and_intros <;> (first | (with_reducible assumption) | (go_simp; done) | (simp (maxDischargeDepth := 12) [go_sem]; done) | (simp (maxDischargeDepth := 12) [go_sem, *]; done) | exact (Below.cell (by with_reducible assumption) (by first | (simp; done) | (simp; omega) | omega)).trans (by simp (maxDischargeDepth := 12) [go_sem]))))
      clear hK K hHeld110
      try simp only [Act.put, List.setIfInBounds_toArray, List.set_cons_zero, List.set_cons_succ]
      refine wpAnyH_ready (rs := [4]) (by kernel_rfl) (by simp) ?_
      refine (h4_cons rfl (fun K hK => ?_) AllReadyH.nil)
      go_simp
      ((go_at_call 26; (with_reducible refine (C2.out _).mono ?_); rintro e w10 ⟨rfl, b10⟩; have p10 : Below w9.heap.size w9 w10 := Below.trans (by repeat' (first | (with_reducible assumption) | (with_reducible exact Below.refl _ _) | (with_reducible refine Below.drew ?_) | (with_reducible refine below_drewN ?_ _) | (with_reducible refine Below.alloc ?_ ?_ _) | (with_reducible exact Nat.le_refl _) | (simp; done) | (simp; omega) | omega)) (Below.mono b10 (by first | omega | (simp; done) | (simp; omega))); have b3n_10 := Lib.hid (Box3.below b3n_9.out p10); have b3n_100 := b3n_10.out.c0; have b3n_101 := b3n_10.out.c1; have b3n_102 := b3n_10.out.c2; have b3n_10f0 := b3n_10.out.f0; have b3n_10f1 := b3n_10.out.f1; have b3n_10f2 := b3n_10.out.f2; have b3n_10z := b3n_10.out.z))
      (try go_wp2_with fail)
      refine hK.out _ _ ?_ (fun hHeld112 => ?_)
      · (try dsimp only)
        ((and_intros <;> (first | (with_reducible assumption) | (go_simp; done) | (simp (maxDischargeDepth := 12) [go_sem]; done) | (simp (maxDischargeDepth := 12) [go_sem, *]; done) | exact (Below.cell (by with_reducible assumption) (by first | (simp; done) | (simp; omega) | omega)).trans (by simp (maxDischargeDepth := 12) [go_sem]))))
      clear hK K hHeld111
      try simp only [Act.put, List.setIfInBounds_toArray, List.set_cons_zero, List.set_cons_succ]
      refine wpAnyH_ready (rs := [6]) (by kernel_rfl) (by simp) ?_
      refine (h4_cons rfl (fun K hK => ?_) AllReadyH.nil)
      go_simp
      ((go_at_call 21; (with_reducible refine (NU.out _).mono ?_); rintro e w11 ⟨rfl, b11⟩; have p11 : Below w10.heap.size w10 w11 := Below.trans (by repeat' (first | (with_reducible assumption) | (with_reducible exact Below.refl _ _) | (with_reducible refine Below.drew ?_) | (with_reducible refine below_drewN ?_ _) | (with_reducible refine Below.alloc ?_ ?_ _) | (with_reducible exact Nat.le_refl _) | (simp; done) | (simp; omega) | omega)) (Below.mono b11 (by first | omega | (simp; done) | (simp; omega))); have b3n_11 := Lib.hid (Box3.below b3n_10.out p11); have b3n_110 := b3n_11.out.c0; have b3n_111 := b3n_11.out.c1; have b3n_112 := b3n_11.out.c2; have b3n_11f0 := b3n_11.out.f0; have b3n_11f1 := b3n_11.out.f1; have b3n_11f2 := b3n_11.out.f2; have b3n_11z := b3n_11.out.z))
      (try go_wp2_with fail)
      refine hK.out _ _ ?_ (fun hHeld113 => ?_)
      · (try dsimp only)
        ((and_intros <;> (first | (with_reducible assumption) | (go_simp; done) | (simp (maxDischargeDepth := 12) [go_sem]; done) | (simp (maxDischargeDepth := 12) [go_sem, *]; done) | exact (Below.cell (by with_reducible assumption) (by first | (simp; done) | (simp; omega) | omega)).trans (by simp (maxDischargeDepth := 12) [go_sem]))))
      clear hK K hHeld112
      try simp only [Act.put, List.setIfInBounds_toArray, List.set_cons_zero, List.set_cons_succ]
      refine wpAnyH_ready (rs := [7]) (by kernel_rfl) (by simp) ?_
      refine (h4_cons rfl (fun K hK => ?_) AllReadyH.nil)
      go_simp
      ((go_at_call 30; (with_reducible refine (S1.out _).mono ?_); rintro e w12 ⟨rfl, b12⟩; have p12 : Below w11.heap.size w11 w12 := Below.trans (by repeat' (first | (with_reducible assumption) | (with_reducible exact Below.refl _ _) | (with_reducible refine Below.drew ?_) | (with_reducible refine below_drewN ?_ _) | (with_reducible refine Below.alloc ?_ ?_ _) | (with_reducible exact Nat.le_refl _) | (simp; done) | (simp; omega) | omega)) (Below.mono b12 (by first | omega | (simp; done) | (simp; omega))); have b3n_12 := Lib.hid (Box3.below b3n_11.out p12); have b3n_120 := b3n_12.out.c0; have b3n_121 := b3n_12.out.c1; have b3n_122 := b3n_12.out.c2; have b3n_12f0 := b3n_12.out.f0; have b3n_12f1 := b3n_12.out.f1; have b3n_12f2 := b3n_12.out.f2; have b3n_12z := b3n_12.out.z))
      (try go_wp2_with fail)
      refine hK.out _ _ ?_ (fun hHeld114 => ?_)
      · (try dsimp only)
        ((and_intros <;> (first | (with_reducible assumption) | (go_simp; done) | (simp (maxDischargeDepth := 12) [go_sem]; done) | (simp (maxDischargeDepth := 12) [go_sem, *]; done) | exact (Below.cell (by with_reducible assumption) (by first | (simp; done) | (simp; omega) | omega)).trans (by simp (maxDischargeDepth := 12) [go_sem]))))
      clear hK K hHeld113
      try simp only [Act.put, List.setIfInBounds_toArray, List.set_cons_zero, List.set_cons_succ]
      refine wpAnyH_ready (rs := [8]) (by kernel_rfl) (by simp) ?_
      refine (h4_cons rfl (fun K hK => ?_) AllReadyH.nil)
      go_simp
      ((go_at_call 22; (with_reducible refine (TP.out _).mono ?_); rintro e w13 ⟨rfl, b13⟩; have p13 : Below w12.heap.size w12 w13 := Below.trans (by repeat' (first | (with_reducible assumption) | (with_reducible exact Below.refl _ _) | (with_reducible refine Below.drew ?_) | (with_reducible refine below_drewN ?_ _) | (with_reducible refine Below.alloc ?_ ?_ _) | (with_reducible exact Nat.le_refl _) | (simp; done) | (simp; omega) | omega)) (Below.mono b13 (by first | omega | (simp; done) | (simp; omega))); have b3n_13 := Lib.hid (Box3.below b3n_12.out p13); have b3n_130 := b3n_13.out.c0; have b3n_131 := b3n_13.out.c1; have b3n_132 := b3n_13.out.c2; have b3n_13f0 := b3n_13.out.f0; have b3n_13f1 := b3n_13.out.f1; have b3n_13f2 := b3n_13.out.f2; have b3n_13z := b3n_13.out.z))
      (try go_wp2_with fail)
      refine hK.out _ _ ?_ (fun hHeld115 => ?_)
      · (try dsimp only)
        ((and_intros <;> (first | (with_reducible assumption) | (go_simp; done) | (simp (maxDischargeDepth := 12) [go_sem]; done) | (simp (maxDischargeDepth := 12) [go_sem, *]; done) | exact (Below.cell (by with_reducible assumption) (by first | (simp; done) | (simp; omega) | omega)).trans (by simp (maxDischargeDepth := 12) [go_sem]))))
      clear hK K hHeld114
      try simp only [Act.put, List.setIfInBounds_toArray, List.set_cons_zero, List.set_cons_succ]
      refine wpAnyH_ready (rs := [10]) (by kernel_rfl) (by simp) ?_
      refine (h4_cons rfl (fun K hK => ?_) AllReadyH.nil)
      go_simp
      ((go_at_call 22; (with_reducible refine (TS.out _).mono ?_); rintro e w14 ⟨rfl, b14⟩; have p14 : Below w13.heap.size w13 w14 := Below.trans (by repeat' (first | (with_reducible assumption) | (with_reducible exact Below.refl _ _) | (with_reducible refine Below.drew ?_) | (with_reducible refine below_drewN ?_ _) | (with_reducible refine Below.alloc ?_ ?_ _) | (with_reducible exact Nat.le_refl _) | (simp; done) | (simp; omega) | omega)) (Below.mono b14 (by first | omega | (simp; done) | (simp; omega))); have b3n_14 := Lib.hid (Box3.below b3n_13.out p14); have b3n_140 := b3n_14.out.c0; have b3n_141 := b3n_14.out.c1; have b3n_142 := b3n_14.out.c2; have b3n_14f0 := b3n_14.out.f0; have b3n_14f1 := b3n_14.out.f1; have b3n_14f2 := b3n_14.out.f2; have b3n_14z := b3n_14.out.z))
      (try go_wp2_with fail)
      refine hK.out _ _ ?_ (fun hHeld116 => ?_)
      · (try dsimp only)
        ((and_intros <;> (first | (with_reducible assumption) | (go_simp; done) | (simp (maxDischargeDepth := 12) [go_sem]; done) | (simp (maxDischargeDepth := 12) [go_sem, *]; done) | exact (Below.cell (by with_reducible assumption) (by first | (simp; done) | (simp; omega) | omega)).trans (by simp (maxDischargeDepth := 12) [go_sem]))))
      clear hK K hHeld115
      try simp only [Act.put, List.setIfInBounds_toArray, List.set_cons_zero, List.set_cons_succ]
      refine wpAnyH_ready (rs := [11]) (by kernel_rfl) (by simp) ?_
      refine (h4_cons rfl (fun K hK => ?_) AllReadyH.nil)
      go_simp
      ((go_at_call 26; (with_reducible refine (C3.out _).mono ?_); rintro e w15 ⟨rfl, b15⟩; have p15 : Below w14.heap.size w14 w15 := Below.trans (by repeat' (first | (with_reducible assumption) | (with_reducible exact Below.refl _ _) | (with_reducible refine Below.drew ?_) | (with_reducible refine below_drewN ?_ _) | (with_reducible refine Below.alloc ?_ ?_ _) | (with_reducible exact Nat.le_refl _) | (simp; done) | (simp; omega) | omega)) (Below.mono b15 (by first | omega | (simp; done) | (simp; omega))); have b3n_15 := Lib.hid (Box3.below b3n_14.out p15); have b3n_150 := b3n_15.out.c0; have b3n_151 := b3n_15.out.c1; have b3n_152 := b3n_15.out.c2; have b3n_15f0 := b3n_15.out.f0; have b3n_15f1 := b3n_15.out.f1; have b3n_15f2 := b3n_15.out.f2; have b3n_15z := b3n_15.out.z))
      (try go_wp2_with fail)
      refine hK.out _ _ ?_ (fun hHeld117 => ?_)
      · (try dsimp only)
        ((and_intros <;> (first | (with_reducible assumption) | (go_simp; done) | (simp (maxDischargeDepth := 12) [go_sem]; done) | (simp (maxDischargeDepth := 12) [go_sem, *]; done) | exact (Below.cell (by with_reducible assumption) (by first | (simp; done) | (simp; omega) | omega)).trans (by simp (maxDischargeDepth := 12) [go_sem]))))
      clear hK K hHeld116
      try simp only [Act.put, List.setIfInBounds_toArray, List.set_cons_zero, List.set_cons_succ]
      refine h4_take (i := 12) (v := ?v117) rfl (by kernel_rfl) (by kernel_rfl) (by kernel_rfl) (fun _ _ _ h => h) (by rfl) ?y117 hHeld117 ?r117
      case y117 => (intro wS hSw; (try dsimp only at hSw); go_simp; (try with_reducible rfl))
      try simp only [Act.put, List.setIfInBounds_toArray, List.set_cons_zero, List.set_cons_succ]
      refine h4_take (i := 13) (v := ?v118) rfl (by kernel_rfl) (by kernel_rfl) (by kernel_rfl) (fun _ _ _ h => h) (by rfl) ?y118 hHeld117 ?r118
      case y118 => (intro wS hSw; (try dsimp only at hSw); go_simp; (try with_reducible rfl))
      try simp only [Act.put, List.setIfInBounds_toArray, List.set_cons_zero, List.set_cons_succ]
      refine h4_take (i := 14) (v := ?v119) rfl (by kernel_rfl) (by kernel_rfl) (by kernel_rfl) (fun _ _ _ h => h) (by rfl) ?y119 hHeld117 ?r119
      case y119 => (intro wS hSw; (try dsimp only at hSw); go_simp; (try with_reducible rfl))
      try simp only [Act.put, List.setIfInBounds_toArray, List.set_cons_zero, List.set_cons_succ]
      refine h4_take (i := 17) (v := ?v120) rfl (by kernel_rfl) (by kernel_rfl) (by kernel_rfl) (fun _ _ _ h => h) (by rfl) ?y120 hHeld117 ?r120
      case y120 => (intro wS hSw; (try dsimp only at hSw); go_simp; (try with_reducible rfl))
      try simp only [Act.put, List.setIfInBounds_toArray, List.set_cons_zero, List.set_cons_succ]
      refine wpAnyH_ready (rs := [15]) (by kernel_rfl) (by simp) ?_
      refine (h4_cons rfl (fun K hK => ?_) AllReadyH.nil)
      go_simp
      ((go_at_call 21; (with_reducible refine (NU.out _).mono ?_); rintro e w16 ⟨rfl, b16⟩; have p16 : Below w15.heap.size w15 w16 := Below.trans (by repeat' (first | (with_reducible assumption) | (with_reducible exact Below.refl _ _) | (with_reducible refine Below.drew ?_) | (with_reducible refine below_drewN ?_ _) | (with_reducible refine Below.alloc ?_ ?_ _) | (with_reducible exact Nat.le_refl _) | (simp; done) | (simp; omega) | omega)) (Below.mono b16 (by first | omega | (simp; done) | (simp; omega))); have b3n_16 := Lib.hid (Box3.below b3n_15.out p16); have b3n_160 := b3n_16.out.c0; have b3n_161 := b3n_16.out.c1; have b3n_162 := b3n_16.out.c2; have b3n_16f0 := b3n_16.out.f0; have b3n_16f1 := b3n_16.out.f1; have b3n_16f2 := b3n_16.out.f2; have b3n_16z := b3n_16.out.z))
      (try go_wp2_with fail)
      refine hK.out _ _ ?_ (fun hHeld122 => ?_)
      · (try dsimp only)
        ((and_intros <;> (first | (with_reducible assumption) | (go_simp; done) | (simp (maxDischargeDepth := 12) [go_sem]; done) | (simp (maxDischargeDepth := 12) [go_sem, *]; done) | exact (Below.cell (by with_reducible assumption) (by first | (simp; done) | (simp; omega) | omega)).trans (by simp (maxDischargeDepth := 12) [go_sem]))))
      clear hK K hHeld117
      try simp only [Act.put, List.setIfInBounds_toArray, List.set_cons_zero, List.set_cons_succ]
      refine wpAnyH_ready (rs := [16]) (by kernel_rfl) (by simp) ?_
      refine (h4_cons rfl (fun K hK => ?_) AllReadyH.nil)
      go_simp
      ((go_at_call 29; (with_reducible refine (T2.out _).mono ?_); rintro e w17 ⟨rfl, b17⟩; have p17 : Below w16.heap.size w16 w17 := Below.trans (by repeat' (first | (with_reducible assumption) | (with_reducible exact Below.refl _ _) | (with_reducible refine Below.drew ?_) | (with_reducible refine below_drewN ?_ _) | (with_reducible refine Below.alloc ?_ ?_ _) | (with_reducible exact Nat.le_refl _) | (simp; done) | (simp; omega) | omega)) (Below.mono b17 (by first | omega | (simp; done) | (simp; omega))); have b3n_17 := Lib.hid (Box3.below b3n_16.out p17); have b3n_170 := b3n_17.out.c0; have b3n_171 := b3n_17.out.c1; have b3n_172 := b3n_17.out.c2; have b3n_17f0 := b3n_17.out.f0; have b3n_17f1 := b3n_17.out.f1; have b3n_17f2 := b3n_17.out.f2; have b3n_17z := b3n_17.out.z))
      (try go_wp2_with fail)
      refine hK.out _ _ ?_ (fun hHeld123 => ?_)
      · (try dsimp only)
        ((and_intros <;> (first | (with_reducible assumption) | (go_simp; done) | (simp (maxDischargeDepth := 12) [go_sem]; done) | (simp (maxDischargeDepth := 12) [go_sem, *]; done) | exact (Below.cell (by with_reducible assumption) (by first | (simp; done) | (simp; omega) | omega)).trans (by simp (maxDischargeDepth := 12) [go_sem]))))
      clear hK K hHeld122
      try simp only [Act.put, List.setIfInBounds_toArray, List.set_cons_zero, List.set_cons_succ]
      refine wpAnyH_ready (rs := [18]) (by kernel_rfl) (by simp) ?_
      refine (h4_cons rfl (fun K hK => ?_) AllReadyH.nil)
      go_simp
      ((go_at_call 31; (with_reducible refine (GD.out _).mono ?_); rintro e w18 ⟨rfl, b18⟩; have p18 : Below w17.heap.size w17 w18 := Below.trans (by repeat' (first | (with_reducible assumption) | (with_reducible exact Below.refl _ _) | (with_reducible refine Below.drew ?_) | (with_reducible refine below_drewN ?_ _) | (with_reducible refine Below.alloc ?_ ?_ _) | (with_reducible exact Nat.le_refl _) | (simp; done) | (simp; omega) | omega)) (Below.mono b18 (by first | omega | (simp; done) | (simp; omega))); have b3n_18 := Lib.hid (Box3.below b3n_17.out p18); have b3n_180 := b3n_18.out.c0; have b3n_181 := b3n_18.out.c1; have b3n_182 := b3n_18.out.c2; have b3n_18f0 := b3n_18.out.f0; have b3n_18f1 := b3n_18.out.f1; have b3n_18f2 := b3n_18.out.f2; have b3n_18z := b3n_18.out.z))
      (try go_wp2_with fail)
      refine hK.out _ _ ?_ (fun hHeld124 => ?_)
      · (try dsimp only)
        ((and_intros <;> (first | (with_reducible assumption) | (go_simp; done) | (simp (maxDischargeDepth := 12) [go_sem]; done) | (simp (maxDischargeDepth := 12) [go_sem, *]; done) | exact (Below.cell (by with_reducible assumption) (by first | (simp; done) | (simp; omega) | omega)).trans (by simp (maxDischargeDepth := 12) [go_sem]))))
      clear hK K hHeld123
      try simp only [Act.put, List.setIfInBounds_toArray, List.set_cons_zero, List.set_cons_succ]
      refine h4_take (i := 19) (v := ?v124) rfl (by kernel_rfl) (by kernel_rfl) (by kernel_rfl) (fun _ _ _ h => h) (by rfl) ?y124 hHeld124 ?r124
      case y124 => (intro wS hSw; (try dsimp only at hSw); go_simp; (try with_reducible rfl))
      try simp only [Act.put, List.setIfInBounds_toArray, List.set_cons_zero, List.set_cons_succ]
      refine h4_take (i := 20) (v := ?v125) rfl (by kernel_rfl) (by kernel_rfl) (by kernel_rfl) (fun _ _ _ h => h) (by rfl) ?y125 hHeld124 ?r125
      case y125 => (intro wS hSw; (try dsimp only at hSw); go_simp; (try with_reducible rfl))
      try simp only [Act.put, List.setIfInBounds_toArray, List.set_cons_zero, List.set_cons_succ]
      refine h4_take (i := 21) (v := ?v126) rfl (by kernel_rfl) (by kernel_rfl) (by kernel_rfl) (fun _ _ _ h => h) (by rfl) ?y126 hHeld124 ?r126
      case y126 => (intro wS hSw; (try dsimp only at hSw); go_simp; (try with_reducible rfl))
      try simp only [Act.put, List.setIfInBounds_toArray, List.set_cons_zero, List.set_cons_succ]
      refine h4_take (i := 22) (v := ?v127) rfl (by kernel_rfl) (by kernel_rfl) (by kernel_rfl) (fun _ _ _ h => h) (by rfl) ?y127 hHeld124 ?r127
      case y127 => (intro wS hSw; (try dsimp only at hSw); go_simp; (try with_reducible rfl))
      try simp only [Act.put, List.setIfInBounds_toArray, List.set_cons_zero, List.set_cons_succ]
      refine h4_take (i := 23) (v := ?v128) rfl (by kernel_rfl) (by kernel_rfl) (by kernel_rfl) (fun _ _ _ h => h) (by rfl) ?y128 hHeld124 ?r128
      case y128 => (intro wS hSw; (try dsimp only at hSw); go_simp; (try with_reducible rfl))
      try simp only [Act.put, List.setIfInBounds_toArray, List.set_cons_zero, List.set_cons_succ]
      refine h4_take (i := 24) (v := ?v129) rfl (by kernel_rfl) (by kernel_rfl) (by kernel_rfl) (fun _ _ _ h => h) (by rfl) ?y129 hHeld124 ?r129
      case y129 => (intro wS hSw; (try dsimp only at hSw); go_simp; (try with_reducible rfl))
      try simp only [Act.put, List.setIfInBounds_toArray, List.set_cons_zero, List.set_cons_succ]
      refine h4_take (i := 25) (v := ?v130) rfl (by kernel_rfl) (by kernel_rfl) (by kernel_rfl) (fun _ _ _ h => h) (by rfl) ?y130 hHeld124 ?r130
      case y130 => (intro wS hSw; (try dsimp only at hSw); go_simp; (try with_reducible rfl))
      try simp only [Act.put, List.setIfInBounds_toArray, List.set_cons_zero, List.set_cons_succ]
      refine h4_take (i := 26) (v := ?v131) rfl (by kernel_rfl) (by kernel_rfl) (by kernel_rfl) (fun _ _ _ h => h) (by rfl) ?y131 hHeld124 ?r131
      case y131 => (intro wS hSw; (try dsimp only at hSw); go_simp; (try with_reducible rfl))
      try simp only [Act.put, List.setIfInBounds_toArray, List.set_cons_zero, List.set_cons_succ]
      refine wpAnyH_done (by kernel_rfl) ?_ _
      go_wp2_with fail
      go_ret
      exact ⟨by simp [*], by refine (below_step (below_step (below_step (below_step (below_step (below_step (below_step (below_step (below_step (below_step (below_step HB7.out p8) p9) p10) p11) p12) p13) p14) p15) p16) p17) p18).trans ?_; (repeat' (first | (with_reducible exact Below.refl _ _) | (refine Below.trans ?_ (Below.mono (by with_reducible assumption) ?_)) | (with_reducible exact Below.refl _ _) | (with_reducible refine below_drewN ?_ _) | (with_reducible refine Below.drew ?_) | (with_reducible refine Below.setCell ?_ ?_ _) | (with_reducible refine Below.alloc ?_ ?_ _) | (with_reducible assumption) | (simp; done) | (simp; omega) | omega))⟩
theorem ctexts_law (S T : ByteArray) (n : Bool) (h l : Int) (w : World) (_ : S.size ≤ maxLen) (_ : T.size ≤ maxLen) (wh : Wd h) (wl : Wd l) :
    Calls Try.prog 7 #[.string S, .string T, .agg #[.bool n, .int .u64 h, .int .u64 l]] w fun e w' => e = .returned (.bool true) ∧ Below w.heap.size w w' := by
  by_cases hS : S.size ≤ 200
  · by_cases hT : T.size ≤ 200
    · have w0 : Wd 0 := ⟨by decide, by decide⟩
      have hr : ∃ r : Int, cmpS S T = r ∧ ((Op.bytesLess S.toList T.toList = true ∧ r = -1) ∨ (Op.bytesLess S.toList T.toList = false ∧ (S.toList == T.toList) = true ∧ r = 0) ∨ (Op.bytesLess S.toList T.toList = false ∧ (S.toList == T.toList) = false ∧ r = 1)) := by
        unfold cmpS
        cases h1 : Op.bytesLess S.toList T.toList
        · cases h2 : (S.toList == T.toList)
          · exact ⟨1, by simp, .inr (.inr ⟨rfl, rfl, rfl⟩)⟩
          · exact ⟨0, by simp, .inr (.inl ⟨rfl, rfl, rfl⟩)⟩
        · exact ⟨-1, by simp, .inl ⟨rfl, rfl⟩⟩
      obtain ⟨r, hc, hr⟩ := hr
      have hb := numsS_lt S
      have hlen := numsS_len S
      have hSS := strN_numsS S
      have hb' := numsS_lt T
      have hlen' := numsS_len T
      have hTT := strN_numsS T
      generalize numsS S = bs at *
      generalize numsS T = ds at *
      have hl : bs.length ≤ 140737488351232 := by omega
      have hl' : ds.length ≤ 140737488351232 := by omega
      have RS := right_self hb hl (textC_good bs)
      have RT := right_self hb' hl' (textC_good ds)
      have R0 := right_self (k := 0) (bs := []) (n := false) (h := 0) (l := 0) (by simp) (by decide) goodC_zero
      have C1 := fun W => ccompare_any RS RT hb hl hb' hl' w0 w0 w0 w0 W
      rw [show cmpC 2 bs false 0 0 2 ds false 0 0 = cmpS (strN bs) (strN ds) from rfl, hSS, hTT, hc] at C1
      have T1 := fun W => ctruth_any RS W
      rw [show truC 2 bs false 0 0 = !S.toList.isEmpty by unfold truC; rw [if_pos rfl, ← hSS]; congr 1; rw [Bool.eq_iff_iff, decide_eq_true_eq, List.isEmpty_iff]; exact (strN_nil bs).symm, hSS] at T1
      have T0 := fun W => ctruth_any R0 W
      rw [show truC 0 [] false 0 0 = false by decide] at T0
      have main : ∀ (k1 : Int) (n1 : Bool) (h1 l1 : Int) (g tr : Bool), (∀ W, Calls Try.prog 21 #[.agg #[.bool n, .int .u64 h, .int .u64 l]] W fun e w' => e = .returned (.agg #[.int .i64 k1, .string { data := #[] }, .bool n1, .int .u64 h1, .int .u64 l1]) ∧ Below W.heap.size W w') →
          RightOf k1 [] n1 h1 l1 k1 [] n1 h1 l1 → Wd h1 → Wd l1 → goodB n h l = g → truC k1 [] n1 h1 l1 = tr → ((g = false ∧ tr = false) ∨ (g = true ∧ tr = !(!n && (decide (h = 0) && decide (l = 0))))) →
          Calls Try.prog 7 #[.string S, .string T, .agg #[.bool n, .int .u64 h, .int .u64 l]] w fun e w' => e = .returned (.bool true) ∧ Below w.heap.size w w' := by
        intro k1 n1 h1 l1 g tr NU R wh1 wl1 hg htr ht
        have C2 := fun W => ccompare_any R RS (by simp) (by decide) hb hl wh1 wl1 w0 w0 W
        have hP : ∀ P : List Nat, P = strC k1 [] n1 h1 l1 → cmpC k1 [] n1 h1 l1 2 bs false 0 0 = cmpS (strN P) (strN bs) := fun P hP => by
          unfold cmpC; rw [if_pos (.inr rfl), ← hP]; rfl
        obtain ⟨P, hPe⟩ : ∃ P, P = strC k1 [] n1 h1 l1 := ⟨_, rfl⟩
        rw [hP P hPe, hSS] at C2
        have S1 := fun W => cstring_any R wh1 wl1 W
        rw [← hPe] at S1
        have hPb : ∀ x ∈ P, x < 256 := by
          rw [hPe]; unfold strC
          split
          · exact textL_bytes _
          · simp
        have hPl : P.length ≤ 140737488351232 := by
          rw [hPe]; unfold strC
          split
          · exact Nat.le_trans (textL_len _) (by decide)
          · simp
        have RP := right_self hPb hPl (textC_good P)
        have C3 := fun W => ccompare_any RP RS hPb hPl hb hl w0 w0 w0 w0 W
        rw [show cmpC 2 P false 0 0 2 bs false 0 0 = cmpS (strN P) (strN bs) from rfl, hSS] at C3
        have T2 := fun W => ctruth_any R W
        rw [htr] at T2
        exact ctexts_x hS hT hr NU C1 T1 T0 C2 S1 C3 T2 (fun W => good_b n h l hg W) ht w
      cases hg : goodB n h l
      · exact main 0 false 0 0 false false (fun W => num_bad hg W) R0 w0 w0 hg (by decide) (.inl ⟨rfl, rfl⟩)
      · refine main 1 n h l true _ (fun W => num_ok hg W) (right_self (by simp) (by decide) (numC_good hg)) wh wl hg rfl (.inr ⟨rfl, ?_⟩)
        unfold truC
        rw [if_neg (by decide)]
    · have hT' : (200 : Int) < (T.size : Int) := by omega
      have hS' : (S.size : Int) ≤ 200 := by omega
      clear hS hT wh wl
      go_enter Try.func7, Try.ntmps7
      go_wp2_with (go_at_call 20; refine (awake9_any _).mono ?_; rintro e w1 ⟨rfl, b1⟩)
      go_ret
      exact ⟨rfl, by (repeat' (first | (with_reducible exact Below.refl _ _) | (refine Below.trans ?_ (Below.mono (by with_reducible assumption) ?_)) | (with_reducible exact Below.refl _ _) | (with_reducible refine below_drewN ?_ _) | (with_reducible refine Below.drew ?_) | (with_reducible refine Below.setCell ?_ ?_ _) | (with_reducible refine Below.alloc ?_ ?_ _) | (with_reducible assumption) | (simp; done) | (simp; omega) | omega))⟩
  · have hS' : (200 : Int) < (S.size : Int) := by omega
    clear hS wh wl
    go_enter Try.func7, Try.ntmps7
    go_wp2_with (go_at_call 20; refine (awake9_any _).mono ?_; rintro e w1 ⟨rfl, b1⟩)
    go_ret
    exact ⟨rfl, by (repeat' (first | (with_reducible exact Below.refl _ _) | (refine Below.trans ?_ (Below.mono (by with_reducible assumption) ?_)) | (with_reducible exact Below.refl _ _) | (with_reducible refine below_drewN ?_ _) | (with_reducible refine Below.drew ?_) | (with_reducible refine Below.setCell ?_ ?_ _) | (with_reducible refine Below.alloc ?_ ?_ _) | (with_reducible assumption) | (simp; done) | (simp; omega) | omega))⟩
end Go.Proofs.Ytkhhjibpppmekaa
