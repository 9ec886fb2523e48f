/- Several texts put together: LawV. -/
import Derived.Test.YtkhhjibpppmekaaBu22
import Derived.Test.YtkhhjibpppmekaaBu29
import Derived.Test.YtkhhjibpppmekaaBu9
/- fieldfarelaw09.CellTells: the walk. -/
namespace Go.Proofs.Ytkhhjibpppmekaa
open Go.RowKit
set_option maxRecDepth 100000 in
set_option maxHeartbeats 6400000 in
theorem ctells_bad {k : Int} {S P : ByteArray} (hS : S.size ≤ 200) {n : Bool} {h l : Int} {xa : Bool} {xh xl : Int} {N : Nat} {b fl : Bool}
    (NU0 : ∀ W, Calls Try.prog 34 #[.agg #[.int .i64 k, .string S, .bool n, .int .u64 h, .int .u64 l]] W fun e w' => e = .returned (.tuple #[.agg #[.bool xa, .int .u64 xh, .int .u64 xl], .nilIface]) ∧ Below W.heap.size W w')
    (RN0 : ∀ W, Calls Try.prog 36 #[.agg #[.int .i64 k, .string S, .bool n, .int .u64 h, .int .u64 l]] W (RNum xa N 0 W))
    (RG0 : ∀ W, Calls Try.prog 37 #[.agg #[.int .i64 k, .string S, .bool n, .int .u64 h, .int .u64 l]] W fun e w' => e = .returned (.bool false) ∧ Below W.heap.size W w')
    (GD0 : ∀ W, Calls Try.prog 24 #[.agg #[.int .i64 k, .string S, .bool n, .int .u64 h, .int .u64 l]] W fun e w' => e = .returned (.bool false) ∧ Below W.heap.size W w')
    (CO0 : ∀ W, Calls Try.prog 16 #[.nilIface] W fun e w' => e = .returned (.int .i64 0) ∧ Below W.heap.size W w')
    (OF0 : ∀ W, Calls Try.prog 18 #[.agg #[.bool xa, .int .u64 xh, .int .u64 xl]] W fun e w' => (∃ A c, e = .returned (.agg #[.bool xa, .slice A (dg N).length c]) ∧ RI w' w'.heap.size A (dg N)) ∧ Below W.heap.size W w')
    (SM0 : ∀ (A A' : Option Addr) (c c' : Nat) (W1 W : World), RI W1 W1.heap.size A (dg N) → RI W1 W1.heap.size A' (dg N) → Below W1.heap.size W1 W → Calls Try.prog 38 #[.agg #[.bool xa, .slice A (dg N).length c], .agg #[.bool xa, .slice A' (dg N).length c']] W fun e w' => e = .returned (.bool true) ∧ Below W.heap.size W w')
    (ST0 : ∀ W, Calls Try.prog 30 #[.agg #[.int .i64 k, .string S, .bool n, .int .u64 h, .int .u64 l]] W fun e w' => e = .returned (.string P) ∧ Below W.heap.size W w')
    (RS0 : ∀ W, Calls Try.prog 39 #[.agg #[.int .i64 k, .string S, .bool n, .int .u64 h, .int .u64 l]] W fun e w' => e = .returned (.string P) ∧ Below W.heap.size W w')
    (TR0 : ∀ W, Calls Try.prog 29 #[.agg #[.int .i64 k, .string S, .bool n, .int .u64 h, .int .u64 l]] W fun e w' => e = .returned (.bool b) ∧ Below W.heap.size W w')
    (RT0 : ∀ W, Calls Try.prog 40 #[.agg #[.int .i64 k, .string S, .bool n, .int .u64 h, .int .u64 l]] W fun e w' => e = .returned (.bool b) ∧ Below W.heap.size W w')
    (AR0 : ∀ W, Calls Try.prog 32 #[.agg #[.int .i64 k, .string S, .bool n, .int .u64 h, .int .u64 l]] W fun e w' => e = .returned (.tuple #[.agg #[.string P, .bool xa, .int .u64 xh, .int .u64 xl, .bool false], .nilIface]) ∧ Below W.heap.size W w')
    (SZ0 : ∀ W, Calls Try.prog 33 #[.agg #[.int .i64 k, .string S, .bool n, .int .u64 h, .int .u64 l]] W fun e w' => e = .returned (.int .i64 (16)) ∧ Below W.heap.size W w') (w : World) :
    Calls Try.prog 10 #[.agg #[.int .i64 k, .string S, .bool n, .int .u64 h, .int .u64 l]] w fun e w' => e = .returned (.bool true) ∧ Below w.heap.size w w' := by
  have NU := Lib.hid NU0; have RG := Lib.hid RG0; have GD := Lib.hid GD0; have CO := Lib.hid CO0; have ST := Lib.hid ST0; have RS := Lib.hid RS0; have TR := Lib.hid TR0; have RT := Lib.hid RT0; have AR := Lib.hid AR0; have SZ := Lib.hid SZ0
  obtain ⟨LN, hLN⟩ : ∃ x, x = (dg N).length := ⟨_, rfl⟩
  obtain ⟨D, hD⟩ : ∃ x, x = dg N := ⟨_, rfl⟩
  unfold RNum at RN0
  rw [← hLN] at RN0 OF0 SM0
  rw [← hD] at RN0 OF0 SM0
  have RN := Lib.hid RN0; have OF := Lib.hid OF0; have SM := Lib.hid SM0
  have HA := Lib.hid (Box5.make w (.int .i64 k) (.string S) (.bool n) (.int .u64 h) (.int .u64 l) 41 rfl)
  have eb : (b != b) = false := by simp
  clear NU0 RN0 RG0 GD0 CO0 OF0 SM0 ST0 RS0 TR0 RT0 AR0 SZ0 hLN hD
  go_enter Try.func10, Try.ntmps10
  go_upto_region 8 with (first
    | (go_at_call 20; refine (awake9_any _).mono ?_; rintro e w1 ⟨rfl, b1⟩; have zz1 := b1.size; have b5c_1 := Lib.hid (HA.out.below b1); have b5c_10 := b5c_1.out.c0; have b5c_11 := b5c_1.out.c1; have b5c_12 := b5c_1.out.c2; have b5c_13 := b5c_1.out.c3; have b5c_14 := b5c_1.out.c4; have b5c_1f0 := b5c_1.out.f0; have b5c_1f1 := b5c_1.out.f1; have b5c_1f2 := b5c_1.out.f2; have b5c_1f3 := b5c_1.out.f3; have b5c_1f4 := b5c_1.out.f4; have b5c_1z := b5c_1.out.z)
    | (go_at_call 34; (with_reducible refine (NU.out _).mono ?_); rintro e w2 ⟨rfl, b2⟩; have p2 : Below w1.heap.size w1 w2 := Below.trans (by repeat' (first | (with_reducible assumption) | (with_reducible exact Below.refl _ _) | (with_reducible refine Below.drew ?_) | (with_reducible refine below_drewN ?_ _) | (with_reducible refine Below.alloc ?_ ?_ _) | (with_reducible exact Nat.le_refl _) | (simp; done) | (simp; omega) | omega)) (Below.mono b2 (by first | omega | (simp; done) | (simp; omega))); have b5c_2 := Lib.hid (Box5.below b5c_1.out p2); have b5c_20 := b5c_2.out.c0; have b5c_21 := b5c_2.out.c1; have b5c_22 := b5c_2.out.c2; have b5c_23 := b5c_2.out.c3; have b5c_24 := b5c_2.out.c4; have b5c_2f0 := b5c_2.out.f0; have b5c_2f1 := b5c_2.out.f1; have b5c_2f2 := b5c_2.out.f2; have b5c_2f3 := b5c_2.out.f3; have b5c_2f4 := b5c_2.out.f4; have b5c_2z := b5c_2.out.z)
    | (go_at_call 36; (with_reducible refine (RN.out _).mono ?_); rintro e w3 ⟨⟨A3, c3, rfl, hi⟩, b3⟩; have p3 : Below w2.heap.size w2 w3 := Below.trans (by repeat' (first | (with_reducible assumption) | (with_reducible exact Below.refl _ _) | (with_reducible refine Below.drew ?_) | (with_reducible refine below_drewN ?_ _) | (with_reducible refine Below.alloc ?_ ?_ _) | (with_reducible exact Nat.le_refl _) | (simp; done) | (simp; omega) | omega)) (Below.mono b3 (by first | omega | (simp; done) | (simp; omega))); have b5c_3 := Lib.hid (Box5.below b5c_2.out p3); have b5c_30 := b5c_3.out.c0; have b5c_31 := b5c_3.out.c1; have b5c_32 := b5c_3.out.c2; have b5c_33 := b5c_3.out.c3; have b5c_34 := b5c_3.out.c4; have b5c_3f0 := b5c_3.out.f0; have b5c_3f1 := b5c_3.out.f1; have b5c_3f2 := b5c_3.out.f2; have b5c_3f3 := b5c_3.out.f3; have b5c_3f4 := b5c_3.out.f4; have b5c_3z := b5c_3.out.z; have b3n_3 := Lib.hid ((Box3.make w2 (.bool xa) (.int .u64 xh) (.int .u64 xl) 24 rfl).below b3); have b3n_30 := b3n_3.out.c0; have b3n_31 := b3n_3.out.c1; have b3n_32 := b3n_3.out.c2; have b3n_3f0 := b3n_3.out.f0; have b3n_3f1 := b3n_3.out.f1; have b3n_3f2 := b3n_3.out.f2; have b3n_3z := b3n_3.out.z; have HI3 := Lib.hid hi; clear hi)
    | (go_at_call 37; (with_reducible refine (RG.out _).mono ?_); rintro e w4 ⟨rfl, b4⟩; have p4 : Below w3.heap.size w3 w4 := Below.trans (by repeat' (first | (with_reducible assumption) | (with_reducible exact Below.refl _ _) | (with_reducible refine Below.drew ?_) | (with_reducible refine below_drewN ?_ _) | (with_reducible refine Below.alloc ?_ ?_ _) | (with_reducible exact Nat.le_refl _) | (simp; done) | (simp; omega) | omega)) (Below.mono b4 (by first | omega | (simp; done) | (simp; omega))); have b5c_4 := Lib.hid (Box5.below b5c_3.out p4); have b5c_40 := b5c_4.out.c0; have b5c_41 := b5c_4.out.c1; have b5c_42 := b5c_4.out.c2; have b5c_43 := b5c_4.out.c3; have b5c_44 := b5c_4.out.c4; have b5c_4f0 := b5c_4.out.f0; have b5c_4f1 := b5c_4.out.f1; have b5c_4f2 := b5c_4.out.f2; have b5c_4f3 := b5c_4.out.f3; have b5c_4f4 := b5c_4.out.f4; have b5c_4z := b5c_4.out.z; have b3n_4 := Lib.hid (Box3.below b3n_3.out p4); have b3n_40 := b3n_4.out.c0; have b3n_41 := b3n_4.out.c1; have b3n_42 := b3n_4.out.c2; have b3n_4f0 := b3n_4.out.f0; have b3n_4f1 := b3n_4.out.f1; have b3n_4f2 := b3n_4.out.f2; have b3n_4z := b3n_4.out.z; have b2x_4 := Lib.hid ((Box2.make w3 (.bool xa) (.slice A3 LN c3) 34 rfl).below b4); have b2x_40 := b2x_4.out.c0; have b2x_41 := b2x_4.out.c1; have b2x_4f0 := b2x_4.out.f0; have b2x_4f1 := b2x_4.out.f1; have b2x_4z := b2x_4.out.z; have HI4 := Lib.hid ((HI3.out.below p4).more p4.size)))
  have HB4 := Lib.hid (show Below w.heap.size w w4 by (repeat' (first | (with_reducible exact Below.refl _ _) | (refine Below.trans ?_ (Below.mono (by with_reducible assumption) ?_)) | (with_reducible exact Below.refl _ _) | (with_reducible refine below_drewN ?_ _) | (with_reducible refine Below.drew ?_) | (with_reducible refine Below.setCell ?_ ?_ _) | (with_reducible refine Below.alloc ?_ ?_ _) | (with_reducible assumption) | (simp; done) | (simp; omega) | omega)))
  clear b5c_1 b5c_1z b5c_10 b5c_11 b5c_12 b5c_13 b5c_14 b5c_1f0 b5c_1f1 b5c_1f2 b5c_1f3 b5c_1f4 b5c_2 b5c_2z b5c_20 b5c_21 b5c_22 b5c_23 b5c_24 b5c_2f0 b5c_2f1 b5c_2f2 b5c_2f3 b5c_2f4 b5c_3 b5c_3z b5c_30 b5c_31 b5c_32 b5c_33 b5c_34 b5c_3f0 b5c_3f1 b5c_3f2 b5c_3f3 b5c_3f4
  clear b3n_3 b3n_3z b3n_30 b3n_31 b3n_32 b3n_3f0 b3n_3f1 b3n_3f2
  clear b1 b2 b3 b4 p2 p3 p4 HA HI3 NU RN RG
  refine wp_region_held_drew (S := (fun w' => w'.cell? ⟨w.heap.size, 0, none⟩ = some (.int .i64 k) ∧ w'.cell? ⟨w.heap.size, 1, none⟩ = some (.string S) ∧ w'.cell? ⟨w.heap.size, 2, none⟩ = some (.bool n) ∧ w'.cell? ⟨w.heap.size, 3, none⟩ = some (.int .u64 h) ∧ w'.cell? ⟨w.heap.size, 4, none⟩ = some (.int .u64 l) ∧ w'.cell? ⟨w2.heap.size, 0, none⟩ = some (.bool xa) ∧ w'.cell? ⟨w2.heap.size, 1, none⟩ = some (.int .u64 xh) ∧ w'.cell? ⟨w2.heap.size, 2, none⟩ = some (.int .u64 xl) ∧ w'.cell? ⟨w3.heap.size, 0, none⟩ = some (.bool xa) ∧ w'.cell? ⟨w3.heap.size, 1, none⟩ = some (.slice A3 LN c3))) (by kernel_rfl) ?_ (fun hHeld => ?_)
  · (try dsimp only)
    ((and_intros <;> (first | (with_reducible assumption) | (go_simp; done) | (simp (maxDischargeDepth := 12) [go_sem]; done) | (simp (maxDischargeDepth := 12) [go_sem, *]; done) | exact (Below.cell (by with_reducible assumption) (by first | (simp; done) | (simp; omega) | omega)).trans (by simp (maxDischargeDepth := 12) [go_sem]))))
  refine h4_take (i := 0) (v := ?v0) rfl (by kernel_rfl) (by kernel_rfl) (by kernel_rfl) (fun _ _ _ h => h) (by rfl) ?y0 hHeld ?r0
  case y0 => (intro wS hSw; (try dsimp only at hSw); go_simp; (try with_reducible rfl))
  try simp only [Act.put, List.setIfInBounds_toArray, List.set_cons_zero, List.set_cons_succ]
  refine h4_take (i := 2) (v := ?v1) rfl (by kernel_rfl) (by kernel_rfl) (by kernel_rfl) (fun _ _ _ h => h) (by rfl) ?y1 hHeld ?r1
  case y1 => (intro wS hSw; (try dsimp only at hSw); go_simp; (try with_reducible rfl))
  try simp only [Act.put, List.setIfInBounds_toArray, List.set_cons_zero, List.set_cons_succ]
  refine wpAnyH_ready (rs := [1]) (by kernel_rfl) (by simp) ?_
  refine (h4_cons rfl (fun K hK => ?_) AllReadyH.nil)
  go_simp
  ((go_at_call 24; (with_reducible refine (GD.out _).mono ?_); rintro e w5 ⟨rfl, b5⟩; have p5 : Below w4.heap.size w4 w5 := Below.trans (by repeat' (first | (with_reducible assumption) | (with_reducible exact Below.refl _ _) | (with_reducible refine Below.drew ?_) | (with_reducible refine below_drewN ?_ _) | (with_reducible refine Below.alloc ?_ ?_ _) | (with_reducible exact Nat.le_refl _) | (simp; done) | (simp; omega) | omega)) (Below.mono b5 (by first | omega | (simp; done) | (simp; omega))); have b5c_5 := Lib.hid (Box5.below b5c_4.out p5); have b5c_50 := b5c_5.out.c0; have b5c_51 := b5c_5.out.c1; have b5c_52 := b5c_5.out.c2; have b5c_53 := b5c_5.out.c3; have b5c_54 := b5c_5.out.c4; have b5c_5f0 := b5c_5.out.f0; have b5c_5f1 := b5c_5.out.f1; have b5c_5f2 := b5c_5.out.f2; have b5c_5f3 := b5c_5.out.f3; have b5c_5f4 := b5c_5.out.f4; have b5c_5z := b5c_5.out.z; have b3n_5 := Lib.hid (Box3.below b3n_4.out p5); have b3n_50 := b3n_5.out.c0; have b3n_51 := b3n_5.out.c1; have b3n_52 := b3n_5.out.c2; have b3n_5f0 := b3n_5.out.f0; have b3n_5f1 := b3n_5.out.f1; have b3n_5f2 := b3n_5.out.f2; have b3n_5z := b3n_5.out.z; have b2x_5 := Lib.hid (Box2.below b2x_4.out p5); have b2x_50 := b2x_5.out.c0; have b2x_51 := b2x_5.out.c1; have b2x_5f0 := b2x_5.out.f0; have b2x_5f1 := b2x_5.out.f1; have b2x_5z := b2x_5.out.z; have HX5 := Lib.hid ((HI4.out.below p5).more p5.size)))
  (try go_wp2_with fail)
  refine hK.out _ _ ?_ (fun hHeld3 => ?_)
  · (try dsimp only)
    ((and_intros <;> (first | (with_reducible assumption) | (go_simp; done) | (simp (maxDischargeDepth := 12) [go_sem]; done) | (simp (maxDischargeDepth := 12) [go_sem, *]; done) | exact (Below.cell (by with_reducible assumption) (by first | (simp; done) | (simp; omega) | omega)).trans (by simp (maxDischargeDepth := 12) [go_sem]))))
  clear hK K hHeld
  try simp only [Act.put, List.setIfInBounds_toArray, List.set_cons_zero, List.set_cons_succ]
  refine h4_take (i := 3) (v := ?v3) rfl (by kernel_rfl) (by kernel_rfl) (by kernel_rfl) (fun _ _ _ h => h) (by rfl) ?y3 hHeld3 ?r3
  case y3 => (intro wS hSw; (try dsimp only at hSw); go_simp; (try with_reducible rfl))
  try simp only [Act.put, List.setIfInBounds_toArray, List.set_cons_zero, List.set_cons_succ]
  refine h4_take (i := 4) (v := ?v4) rfl (by kernel_rfl) (by kernel_rfl) (by kernel_rfl) (fun _ _ _ h => h) (by rfl) ?y4 hHeld3 ?r4
  case y4 => (intro wS hSw; (try dsimp only at hSw); go_simp; (try with_reducible rfl))
  try simp only [Act.put, List.setIfInBounds_toArray, List.set_cons_zero, List.set_cons_succ]
  refine h4_take (i := 5) (v := ?v5) rfl (by kernel_rfl) (by kernel_rfl) (by kernel_rfl) (fun _ _ _ h => h) (by rfl) ?y5 hHeld3 ?r5
  case y5 => (intro wS hSw; (try dsimp only at hSw); go_simp; (try with_reducible rfl))
  try simp only [Act.put, List.setIfInBounds_toArray, List.set_cons_zero, List.set_cons_succ]
  refine h4_take (i := 7) (v := ?v6) rfl (by kernel_rfl) (by kernel_rfl) (by kernel_rfl) (fun _ _ _ h => h) (by rfl) ?y6 hHeld3 ?r6
  case y6 => (intro wS hSw; (try dsimp only at hSw); go_simp; (try with_reducible rfl))
  try simp only [Act.put, List.setIfInBounds_toArray, List.set_cons_zero, List.set_cons_succ]
  refine wpAnyH_ready (rs := [6]) (by kernel_rfl) (by simp) ?_
  refine (h4_cons rfl (fun K hK => ?_) AllReadyH.nil)
  go_simp
  ((go_at_call 16; (with_reducible refine (CO.out _).mono ?_); rintro e w6 ⟨rfl, b6⟩; have p6 : Below w5.heap.size w5 w6 := Below.trans (by repeat' (first | (with_reducible assumption) | (with_reducible exact Below.refl _ _) | (with_reducible refine Below.drew ?_) | (with_reducible refine below_drewN ?_ _) | (with_reducible refine Below.alloc ?_ ?_ _) | (with_reducible exact Nat.le_refl _) | (simp; done) | (simp; omega) | omega)) (Below.mono b6 (by first | omega | (simp; done) | (simp; omega))); have b5c_6 := Lib.hid (Box5.below b5c_5.out p6); have b5c_60 := b5c_6.out.c0; have b5c_61 := b5c_6.out.c1; have b5c_62 := b5c_6.out.c2; have b5c_63 := b5c_6.out.c3; have b5c_64 := b5c_6.out.c4; have b5c_6f0 := b5c_6.out.f0; have b5c_6f1 := b5c_6.out.f1; have b5c_6f2 := b5c_6.out.f2; have b5c_6f3 := b5c_6.out.f3; have b5c_6f4 := b5c_6.out.f4; have b5c_6z := b5c_6.out.z; have b3n_6 := Lib.hid (Box3.below b3n_5.out p6); have b3n_60 := b3n_6.out.c0; have b3n_61 := b3n_6.out.c1; have b3n_62 := b3n_6.out.c2; have b3n_6f0 := b3n_6.out.f0; have b3n_6f1 := b3n_6.out.f1; have b3n_6f2 := b3n_6.out.f2; have b3n_6z := b3n_6.out.z; have b2x_6 := Lib.hid (Box2.below b2x_5.out p6); have b2x_60 := b2x_6.out.c0; have b2x_61 := b2x_6.out.c1; have b2x_6f0 := b2x_6.out.f0; have b2x_6f1 := b2x_6.out.f1; have b2x_6z := b2x_6.out.z; have HX6 := Lib.hid ((HX5.out.below p6).more p6.size)))
  (try go_wp2_with fail)
  refine hK.out _ _ ?_ (fun hHeld8 => ?_)
  · (try dsimp only)
    ((and_intros <;> (first | (with_reducible assumption) | (go_simp; done) | (simp (maxDischargeDepth := 12) [go_sem]; done) | (simp (maxDischargeDepth := 12) [go_sem, *]; done) | exact (Below.cell (by with_reducible assumption) (by first | (simp; done) | (simp; omega) | omega)).trans (by simp (maxDischargeDepth := 12) [go_sem]))))
  clear hK K hHeld3
  try simp only [Act.put, List.setIfInBounds_toArray, List.set_cons_zero, List.set_cons_succ]
  refine h4_take (i := 8) (v := ?v8) rfl (by kernel_rfl) (by kernel_rfl) (by kernel_rfl) (fun _ _ _ h => h) (by rfl) ?y8 hHeld8 ?r8
  case y8 => (intro wS hSw; (try dsimp only at hSw); go_simp; (try with_reducible rfl))
  try simp only [Act.put, List.setIfInBounds_toArray, List.set_cons_zero, List.set_cons_succ]
  refine h4_take (i := 9) (v := ?v9) rfl (by kernel_rfl) (by kernel_rfl) (by kernel_rfl) (fun _ _ _ h => h) (by rfl) ?y9 hHeld8 ?r9
  case y9 => (intro wS hSw; (try dsimp only at hSw); go_simp; (try with_reducible rfl))
  try simp only [Act.put, List.setIfInBounds_toArray, List.set_cons_zero, List.set_cons_succ]
  refine h4_take (i := 10) (v := ?v10) rfl (by kernel_rfl) (by kernel_rfl) (by kernel_rfl) (fun _ _ _ h => h) (by rfl) ?y10 hHeld8 ?r10
  case y10 => (intro wS hSw; (try dsimp only at hSw); go_simp; (try with_reducible rfl))
  try simp only [Act.put, List.setIfInBounds_toArray, List.set_cons_zero, List.set_cons_succ]
  refine h4_take (i := 11) (v := ?v11) rfl (by kernel_rfl) (by kernel_rfl) (by kernel_rfl) (fun _ _ _ h => h) (by rfl) ?y11 hHeld8 ?r11
  case y11 => (intro wS hSw; (try dsimp only at hSw); go_simp; (try with_reducible rfl))
  try simp only [Act.put, List.setIfInBounds_toArray, List.set_cons_zero, List.set_cons_succ]
  refine h4_take (i := 13) (v := ?v12) rfl (by kernel_rfl) (by kernel_rfl) (by kernel_rfl) (fun _ _ _ h => h) (by rfl) ?y12 hHeld8 ?r12
  case y12 => (intro wS hSw; (try dsimp only at hSw); go_simp; (try with_reducible rfl))
  try simp only [Act.put, List.setIfInBounds_toArray, List.set_cons_zero, List.set_cons_succ]
  refine wpAnyH_ready (rs := [12]) (by kernel_rfl) (by simp) ?_
  refine (h4_cons rfl (fun K hK => ?_) AllReadyH.nil)
  go_simp
  ((go_at_call 18; (with_reducible refine (OF.out _).mono ?_); rintro e w7 ⟨⟨A7, c7, rfl, hj⟩, b7⟩; have p7 : Below w6.heap.size w6 w7 := Below.trans (by repeat' (first | (with_reducible assumption) | (with_reducible exact Below.refl _ _) | (with_reducible refine Below.drew ?_) | (with_reducible refine below_drewN ?_ _) | (with_reducible refine Below.alloc ?_ ?_ _) | (with_reducible exact Nat.le_refl _) | (simp; done) | (simp; omega) | omega)) (Below.mono b7 (by first | omega | (simp; done) | (simp; omega))); have b5c_7 := Lib.hid (Box5.below b5c_6.out p7); have b5c_70 := b5c_7.out.c0; have b5c_71 := b5c_7.out.c1; have b5c_72 := b5c_7.out.c2; have b5c_73 := b5c_7.out.c3; have b5c_74 := b5c_7.out.c4; have b5c_7f0 := b5c_7.out.f0; have b5c_7f1 := b5c_7.out.f1; have b5c_7f2 := b5c_7.out.f2; have b5c_7f3 := b5c_7.out.f3; have b5c_7f4 := b5c_7.out.f4; have b5c_7z := b5c_7.out.z; have b3n_7 := Lib.hid (Box3.below b3n_6.out p7); have b3n_70 := b3n_7.out.c0; have b3n_71 := b3n_7.out.c1; have b3n_72 := b3n_7.out.c2; have b3n_7f0 := b3n_7.out.f0; have b3n_7f1 := b3n_7.out.f1; have b3n_7f2 := b3n_7.out.f2; have b3n_7z := b3n_7.out.z; have b2x_7 := Lib.hid (Box2.below b2x_6.out p7); have b2x_70 := b2x_7.out.c0; have b2x_71 := b2x_7.out.c1; have b2x_7f0 := b2x_7.out.f0; have b2x_7f1 := b2x_7.out.f1; have b2x_7z := b2x_7.out.z; have HI7 := Lib.hid hj; have HX7 := Lib.hid ((HX6.out.below p7).more p7.size); clear hj))
  (try go_wp2_with fail)
  refine hK.out _ _ ?_ (fun hHeld14 => ?_)
  · (try dsimp only)
    ((and_intros <;> (first | (with_reducible assumption) | (go_simp; done) | (simp (maxDischargeDepth := 12) [go_sem]; done) | (simp (maxDischargeDepth := 12) [go_sem, *]; done) | exact (Below.cell (by with_reducible assumption) (by first | (simp; done) | (simp; omega) | omega)).trans (by simp (maxDischargeDepth := 12) [go_sem]))))
  clear hK K hHeld8
  try simp only [Act.put, List.setIfInBounds_toArray, List.set_cons_zero, List.set_cons_succ]
  refine wpAnyH_ready (rs := [14]) (by kernel_rfl) (by simp) ?_
  refine (h4_cons rfl (fun K hK => ?_) AllReadyH.nil)
  go_simp
  ((go_at_call 38; (with_reducible refine (SM.out A7 A3 c7 c3 w7 _ HI7.out HX7.out (by repeat' (first | (with_reducible exact Below.refl _ _) | (with_reducible assumption) | (with_reducible refine Below.drew ?_) | (with_reducible refine below_drewN ?_ _) | (with_reducible refine Below.alloc ?_ ?_ _) | (with_reducible exact Nat.le_refl _) | (simp; done) | (simp; omega)))).mono ?_); rintro e w8 ⟨rfl, b8⟩; have p8 : Below w7.heap.size w7 w8 := Below.trans (by repeat' (first | (with_reducible assumption) | (with_reducible exact Below.refl _ _) | (with_reducible refine Below.drew ?_) | (with_reducible refine below_drewN ?_ _) | (with_reducible refine Below.alloc ?_ ?_ _) | (with_reducible exact Nat.le_refl _) | (simp; done) | (simp; omega) | omega)) (Below.mono b8 (by first | omega | (simp; done) | (simp; omega))); have b5c_8 := Lib.hid (Box5.below b5c_7.out p8); have b5c_80 := b5c_8.out.c0; have b5c_81 := b5c_8.out.c1; have b5c_82 := b5c_8.out.c2; have b5c_83 := b5c_8.out.c3; have b5c_84 := b5c_8.out.c4; have b5c_8f0 := b5c_8.out.f0; have b5c_8f1 := b5c_8.out.f1; have b5c_8f2 := b5c_8.out.f2; have b5c_8f3 := b5c_8.out.f3; have b5c_8f4 := b5c_8.out.f4; have b5c_8z := b5c_8.out.z; have b3n_8 := Lib.hid (Box3.below b3n_7.out p8); have b3n_80 := b3n_8.out.c0; have b3n_81 := b3n_8.out.c1; have b3n_82 := b3n_8.out.c2; have b3n_8f0 := b3n_8.out.f0; have b3n_8f1 := b3n_8.out.f1; have b3n_8f2 := b3n_8.out.f2; have b3n_8z := b3n_8.out.z; have b2x_8 := Lib.hid (Box2.below b2x_7.out p8); have b2x_80 := b2x_8.out.c0; have b2x_81 := b2x_8.out.c1; have b2x_8f0 := b2x_8.out.f0; have b2x_8f1 := b2x_8.out.f1; have b2x_8z := b2x_8.out.z))
  (try go_wp2_with fail)
  refine hK.out _ _ ?_ (fun hHeld15 => ?_)
  · (try dsimp only)
    ((and_intros <;> (first | (with_reducible assumption) | (go_simp; done) | (simp (maxDischargeDepth := 12) [go_sem]; done) | (simp (maxDischargeDepth := 12) [go_sem, *]; done) | exact (Below.cell (by with_reducible assumption) (by first | (simp; done) | (simp; omega) | omega)).trans (by simp (maxDischargeDepth := 12) [go_sem]))))
  clear hK K hHeld14
  try simp only [Act.put, List.setIfInBounds_toArray, List.set_cons_zero, List.set_cons_succ]
  refine h4_take (i := 15) (v := ?v15) rfl (by kernel_rfl) (by kernel_rfl) (by kernel_rfl) (fun _ _ _ h => h) (by rfl) ?y15 hHeld15 ?r15
  case y15 => (intro wS hSw; (try dsimp only at hSw); go_simp; (try with_reducible rfl))
  try simp only [Act.put, List.setIfInBounds_toArray, List.set_cons_zero, List.set_cons_succ]
  refine h4_take (i := 16) (v := ?v16) rfl (by kernel_rfl) (by kernel_rfl) (by kernel_rfl) (fun _ _ _ h => h) (by rfl) ?y16 hHeld15 ?r16
  case y16 => (intro wS hSw; (try dsimp only at hSw); go_simp; (try with_reducible rfl))
  try simp only [Act.put, List.setIfInBounds_toArray, List.set_cons_zero, List.set_cons_succ]
  refine h4_take (i := 17) (v := ?v17) rfl (by kernel_rfl) (by kernel_rfl) (by kernel_rfl) (fun _ _ _ h => h) (by rfl) ?y17 hHeld15 ?r17
  case y17 => (intro wS hSw; (try dsimp only at hSw); go_simp; (try with_reducible rfl))
  try simp only [Act.put, List.setIfInBounds_toArray, List.set_cons_zero, List.set_cons_succ]
  refine h4_take (i := 18) (v := ?v18) rfl (by kernel_rfl) (by kernel_rfl) (by kernel_rfl) (fun _ _ _ h => h) (by rfl) ?y18 hHeld15 ?r18
  case y18 => (intro wS hSw; (try dsimp only at hSw); go_simp; (try with_reducible rfl))
  try simp only [Act.put, List.setIfInBounds_toArray, List.set_cons_zero, List.set_cons_succ]
  refine h4_take (i := 20) (v := ?v19) rfl (by kernel_rfl) (by kernel_rfl) (by kernel_rfl) (fun _ _ _ h => h) (by rfl) ?y19 hHeld15 ?r19
  case y19 => (intro wS hSw; (try dsimp only at hSw); go_simp; (try with_reducible rfl))
  try simp only [Act.put, List.setIfInBounds_toArray, List.set_cons_zero, List.set_cons_succ]
  refine wpAnyH_ready (rs := [19]) (by kernel_rfl) (by simp) ?_
  refine (h4_cons rfl (fun K hK => ?_) AllReadyH.nil)
  go_simp
  ((go_at_call 30; (with_reducible refine (ST.out _).mono ?_); rintro e w9 ⟨rfl, b9⟩; have p9 : Below w8.heap.size w8 w9 := Below.trans (by repeat' (first | (with_reducible assumption) | (with_reducible exact Below.refl _ _) | (with_reducible refine Below.drew ?_) | (with_reducible refine below_drewN ?_ _) | (with_reducible refine Below.alloc ?_ ?_ _) | (with_reducible exact Nat.le_refl _) | (simp; done) | (simp; omega) | omega)) (Below.mono b9 (by first | omega | (simp; done) | (simp; omega))); have b5c_9 := Lib.hid (Box5.below b5c_8.out p9); have b5c_90 := b5c_9.out.c0; have b5c_91 := b5c_9.out.c1; have b5c_92 := b5c_9.out.c2; have b5c_93 := b5c_9.out.c3; have b5c_94 := b5c_9.out.c4; have b5c_9f0 := b5c_9.out.f0; have b5c_9f1 := b5c_9.out.f1; have b5c_9f2 := b5c_9.out.f2; have b5c_9f3 := b5c_9.out.f3; have b5c_9f4 := b5c_9.out.f4; have b5c_9z := b5c_9.out.z; have b3n_9 := Lib.hid (Box3.below b3n_8.out p9); have b3n_90 := b3n_9.out.c0; have b3n_91 := b3n_9.out.c1; have b3n_92 := b3n_9.out.c2; have b3n_9f0 := b3n_9.out.f0; have b3n_9f1 := b3n_9.out.f1; have b3n_9f2 := b3n_9.out.f2; have b3n_9z := b3n_9.out.z; have b2x_9 := Lib.hid (Box2.below b2x_8.out p9); have b2x_90 := b2x_9.out.c0; have b2x_91 := b2x_9.out.c1; have b2x_9f0 := b2x_9.out.f0; have b2x_9f1 := b2x_9.out.f1; have b2x_9z := b2x_9.out.z))
  (try go_wp2_with fail)
  refine hK.out _ _ ?_ (fun hHeld21 => ?_)
  · (try dsimp only)
    ((and_intros <;> (first | (with_reducible assumption) | (go_simp; done) | (simp (maxDischargeDepth := 12) [go_sem]; done) | (simp (maxDischargeDepth := 12) [go_sem, *]; done) | exact (Below.cell (by with_reducible assumption) (by first | (simp; done) | (simp; omega) | omega)).trans (by simp (maxDischargeDepth := 12) [go_sem]))))
  clear hK K hHeld15
  try simp only [Act.put, List.setIfInBounds_toArray, List.set_cons_zero, List.set_cons_succ]
  refine wpAnyH_ready (rs := [21]) (by kernel_rfl) (by simp) ?_
  refine (h4_cons rfl (fun K hK => ?_) AllReadyH.nil)
  go_simp
  ((go_at_call 39; (with_reducible refine (RS.out _).mono ?_); rintro e w10 ⟨rfl, b10⟩; have p10 : Below w9.heap.size w9 w10 := Below.trans (by repeat' (first | (with_reducible assumption) | (with_reducible exact Below.refl _ _) | (with_reducible refine Below.drew ?_) | (with_reducible refine below_drewN ?_ _) | (with_reducible refine Below.alloc ?_ ?_ _) | (with_reducible exact Nat.le_refl _) | (simp; done) | (simp; omega) | omega)) (Below.mono b10 (by first | omega | (simp; done) | (simp; omega))); have b5c_10 := Lib.hid (Box5.below b5c_9.out p10); have b5c_100 := b5c_10.out.c0; have b5c_101 := b5c_10.out.c1; have b5c_102 := b5c_10.out.c2; have b5c_103 := b5c_10.out.c3; have b5c_104 := b5c_10.out.c4; have b5c_10f0 := b5c_10.out.f0; have b5c_10f1 := b5c_10.out.f1; have b5c_10f2 := b5c_10.out.f2; have b5c_10f3 := b5c_10.out.f3; have b5c_10f4 := b5c_10.out.f4; have b5c_10z := b5c_10.out.z; have b3n_10 := Lib.hid (Box3.below b3n_9.out p10); have b3n_100 := b3n_10.out.c0; have b3n_101 := b3n_10.out.c1; have b3n_102 := b3n_10.out.c2; have b3n_10f0 := b3n_10.out.f0; have b3n_10f1 := b3n_10.out.f1; have b3n_10f2 := b3n_10.out.f2; have b3n_10z := b3n_10.out.z; have b2x_10 := Lib.hid (Box2.below b2x_9.out p10); have b2x_100 := b2x_10.out.c0; have b2x_101 := b2x_10.out.c1; have b2x_10f0 := b2x_10.out.f0; have b2x_10f1 := b2x_10.out.f1; have b2x_10z := b2x_10.out.z))
  (try go_wp2_with fail)
  refine hK.out _ _ ?_ (fun hHeld22 => ?_)
  · (try dsimp only)
    ((and_intros <;> (first | (with_reducible assumption) | (go_simp; done) | (simp (maxDischargeDepth := 12) [go_sem]; done) | (simp (maxDischargeDepth := 12) [go_sem, *]; done) | exact (Below.cell (by with_reducible assumption) (by first | (simp; done) | (simp; omega) | omega)).trans (by simp (maxDischargeDepth := 12) [go_sem]))))
  clear hK K hHeld21
  try simp only [Act.put, List.setIfInBounds_toArray, List.set_cons_zero, List.set_cons_succ]
  refine h4_take (i := 22) (v := ?v22) rfl (by kernel_rfl) (by kernel_rfl) (by kernel_rfl) (fun _ _ _ h => h) (by rfl) ?y22 hHeld22 ?r22
  case y22 => (intro wS hSw; (try dsimp only at hSw); go_simp; (try with_reducible rfl))
  try simp only [Act.put, List.setIfInBounds_toArray, List.set_cons_zero, List.set_cons_succ]
  refine h4_take (i := 23) (v := ?v23) rfl (by kernel_rfl) (by kernel_rfl) (by kernel_rfl) (fun _ _ _ h => h) (by rfl) ?y23 hHeld22 ?r23
  case y23 => (intro wS hSw; (try dsimp only at hSw); go_simp; (try with_reducible rfl))
  try simp only [Act.put, List.setIfInBounds_toArray, List.set_cons_zero, List.set_cons_succ]
  refine h4_take (i := 24) (v := ?v24) rfl (by kernel_rfl) (by kernel_rfl) (by kernel_rfl) (fun _ _ _ h => h) (by rfl) ?y24 hHeld22 ?r24
  case y24 => (intro wS hSw; (try dsimp only at hSw); go_simp; (try with_reducible rfl))
  try simp only [Act.put, List.setIfInBounds_toArray, List.set_cons_zero, List.set_cons_succ]
  refine h4_take (i := 25) (v := ?v25) rfl (by kernel_rfl) (by kernel_rfl) (by kernel_rfl) (fun _ _ _ h => h) (by rfl) ?y25 hHeld22 ?r25
  case y25 => (intro wS hSw; (try dsimp only at hSw); go_simp; (try with_reducible rfl))
  try simp only [Act.put, List.setIfInBounds_toArray, List.set_cons_zero, List.set_cons_succ]
  refine h4_take (i := 27) (v := ?v26) rfl (by kernel_rfl) (by kernel_rfl) (by kernel_rfl) (fun _ _ _ h => h) (by rfl) ?y26 hHeld22 ?r26
  case y26 => (intro wS hSw; (try dsimp only at hSw); go_simp; (try with_reducible rfl))
  try simp only [Act.put, List.setIfInBounds_toArray, List.set_cons_zero, List.set_cons_succ]
  refine wpAnyH_ready (rs := [26]) (by kernel_rfl) (by simp) ?_
  refine (h4_cons rfl (fun K hK => ?_) AllReadyH.nil)
  go_simp
  ((go_at_call 29; (with_reducible refine (TR.out _).mono ?_); rintro e w11 ⟨rfl, b11⟩; have p11 : Below w10.heap.size w10 w11 := Below.trans (by repeat' (first | (with_reducible assumption) | (with_reducible exact Below.refl _ _) | (with_reducible refine Below.drew ?_) | (with_reducible refine below_drewN ?_ _) | (with_reducible refine Below.alloc ?_ ?_ _) | (with_reducible exact Nat.le_refl _) | (simp; done) | (simp; omega) | omega)) (Below.mono b11 (by first | omega | (simp; done) | (simp; omega))); have b5c_11 := Lib.hid (Box5.below b5c_10.out p11); have b5c_110 := b5c_11.out.c0; have b5c_111 := b5c_11.out.c1; have b5c_112 := b5c_11.out.c2; have b5c_113 := b5c_11.out.c3; have b5c_114 := b5c_11.out.c4; have b5c_11f0 := b5c_11.out.f0; have b5c_11f1 := b5c_11.out.f1; have b5c_11f2 := b5c_11.out.f2; have b5c_11f3 := b5c_11.out.f3; have b5c_11f4 := b5c_11.out.f4; have b5c_11z := b5c_11.out.z; have b3n_11 := Lib.hid (Box3.below b3n_10.out p11); have b3n_110 := b3n_11.out.c0; have b3n_111 := b3n_11.out.c1; have b3n_112 := b3n_11.out.c2; have b3n_11f0 := b3n_11.out.f0; have b3n_11f1 := b3n_11.out.f1; have b3n_11f2 := b3n_11.out.f2; have b3n_11z := b3n_11.out.z; have b2x_11 := Lib.hid (Box2.below b2x_10.out p11); have b2x_110 := b2x_11.out.c0; have b2x_111 := b2x_11.out.c1; have b2x_11f0 := b2x_11.out.f0; have b2x_11f1 := b2x_11.out.f1; have b2x_11z := b2x_11.out.z))
  (try go_wp2_with fail)
  refine hK.out _ _ ?_ (fun hHeld28 => ?_)
  · (try dsimp only)
    ((and_intros <;> (first | (with_reducible assumption) | (go_simp; done) | (simp (maxDischargeDepth := 12) [go_sem]; done) | (simp (maxDischargeDepth := 12) [go_sem, *]; done) | exact (Below.cell (by with_reducible assumption) (by first | (simp; done) | (simp; omega) | omega)).trans (by simp (maxDischargeDepth := 12) [go_sem]))))
  clear hK K hHeld22
  try simp only [Act.put, List.setIfInBounds_toArray, List.set_cons_zero, List.set_cons_succ]
  refine wpAnyH_ready (rs := [28]) (by kernel_rfl) (by simp) ?_
  refine (h4_cons rfl (fun K hK => ?_) AllReadyH.nil)
  go_simp
  ((go_at_call 40; (with_reducible refine (RT.out _).mono ?_); rintro e w12 ⟨rfl, b12⟩; have p12 : Below w11.heap.size w11 w12 := Below.trans (by repeat' (first | (with_reducible assumption) | (with_reducible exact Below.refl _ _) | (with_reducible refine Below.drew ?_) | (with_reducible refine below_drewN ?_ _) | (with_reducible refine Below.alloc ?_ ?_ _) | (with_reducible exact Nat.le_refl _) | (simp; done) | (simp; omega) | omega)) (Below.mono b12 (by first | omega | (simp; done) | (simp; omega))); have b5c_12 := Lib.hid (Box5.below b5c_11.out p12); have b5c_120 := b5c_12.out.c0; have b5c_121 := b5c_12.out.c1; have b5c_122 := b5c_12.out.c2; have b5c_123 := b5c_12.out.c3; have b5c_124 := b5c_12.out.c4; have b5c_12f0 := b5c_12.out.f0; have b5c_12f1 := b5c_12.out.f1; have b5c_12f2 := b5c_12.out.f2; have b5c_12f3 := b5c_12.out.f3; have b5c_12f4 := b5c_12.out.f4; have b5c_12z := b5c_12.out.z; have b3n_12 := Lib.hid (Box3.below b3n_11.out p12); have b3n_120 := b3n_12.out.c0; have b3n_121 := b3n_12.out.c1; have b3n_122 := b3n_12.out.c2; have b3n_12f0 := b3n_12.out.f0; have b3n_12f1 := b3n_12.out.f1; have b3n_12f2 := b3n_12.out.f2; have b3n_12z := b3n_12.out.z; have b2x_12 := Lib.hid (Box2.below b2x_11.out p12); have b2x_120 := b2x_12.out.c0; have b2x_121 := b2x_12.out.c1; have b2x_12f0 := b2x_12.out.f0; have b2x_12f1 := b2x_12.out.f1; have b2x_12z := b2x_12.out.z))
  (try go_wp2_with fail)
  refine hK.out _ _ ?_ (fun hHeld29 => ?_)
  · (try dsimp only)
    ((and_intros <;> (first | (with_reducible assumption) | (go_simp; done) | (simp (maxDischargeDepth := 12) [go_sem]; done) | (simp (maxDischargeDepth := 12) [go_sem, *]; done) | exact (Below.cell (by with_reducible assumption) (by first | (simp; done) | (simp; omega) | omega)).trans (by simp (maxDischargeDepth := 12) [go_sem]))))
  clear hK K hHeld28
  try simp only [Act.put, List.setIfInBounds_toArray, List.set_cons_zero, List.set_cons_succ]
  refine h4_take (i := 29) (v := ?v29) rfl (by kernel_rfl) (by kernel_rfl) (by kernel_rfl) (fun _ _ _ h => h) (by rfl) ?y29 hHeld29 ?r29
  case y29 => (intro wS hSw; (try dsimp only at hSw); go_simp; (try with_reducible rfl))
  try simp only [Act.put, List.setIfInBounds_toArray, List.set_cons_zero, List.set_cons_succ]
  refine h4_take (i := 30) (v := ?v30) rfl (by kernel_rfl) (by kernel_rfl) (by kernel_rfl) (fun _ _ _ h => h) (by rfl) ?y30 hHeld29 ?r30
  case y30 => (intro wS hSw; (try dsimp only at hSw); go_simp; (try with_reducible rfl))
  try simp only [Act.put, List.setIfInBounds_toArray, List.set_cons_zero, List.set_cons_succ]
  refine wpAnyH_done (by kernel_rfl) ?_ _
  go_upto_region 13 with fail
  have HB12 := Lib.hid (below_step (below_step (below_step (below_step (below_step (below_step (below_step (below_step HB4.out p5) p6) p7) p8) p9) p10) p11) p12)
  clear b5c_4 b5c_4z b5c_40 b5c_41 b5c_42 b5c_43 b5c_44 b5c_4f0 b5c_4f1 b5c_4f2 b5c_4f3 b5c_4f4 b3n_4 b3n_4z b3n_40 b3n_41 b3n_42 b3n_4f0 b3n_4f1 b3n_4f2 b2x_4 b2x_4z b2x_40 b2x_41 b2x_4f0 b2x_4f1 b5c_5 b5c_5z b5c_50 b5c_51 b5c_52 b5c_53 b5c_54 b5c_5f0 b5c_5f1 b5c_5f2 b5c_5f3 b5c_5f4 b3n_5 b3n_5z b3n_50 b3n_51 b3n_52 b3n_5f0 b3n_5f1 b3n_5f2 b2x_5 b2x_5z b2x_50 b2x_51 b2x_5f0 b2x_5f1 b5c_6 b5c_6z b5c_60 b5c_61 b5c_62 b5c_63 b5c_64 b5c_6f0 b5c_6f1 b5c_6f2 b5c_6f3 b5c_6f4 b3n_6 b3n_6z b3n_60 b3n_61 b3n_62 b3n_6f0 b3n_6f1 b3n_6f2 b2x_6 b2x_6z b2x_60 b2x_61 b2x_6f0 b2x_6f1 b5c_7 b5c_7z b5c_70 b5c_71 b5c_72 b5c_73 b5c_74 b5c_7f0 b5c_7f1 b5c_7f2 b5c_7f3 b5c_7f4 b3n_7 b3n_7z b3n_70 b3n_71 b3n_72 b3n_7f0 b3n_7f1 b3n_7f2 b2x_7 b2x_7z b2x_70 b2x_71 b2x_7f0 b2x_7f1 b5c_8 b5c_8z b5c_80 b5c_81 b5c_82 b5c_83 b5c_84 b5c_8f0 b5c_8f1 b5c_8f2 b5c_8f3 b5c_8f4 b3n_8 b3n_8z b3n_80 b3n_81 b3n_82 b3n_8f0 b3n_8f1 b3n_8f2 b2x_8 b2x_8z b2x_80 b2x_81 b2x_8f0 b2x_8f1 b5c_9 b5c_9z b5c_90 b5c_91 b5c_92 b5c_93 b5c_94 b5c_9f0 b5c_9f1 b5c_9f2 b5c_9f3 b5c_9f4 b3n_9 b3n_9z b3n_90 b3n_91 b3n_92 b3n_9f0 b3n_9f1 b3n_9f2 b2x_9 b2x_9z b2x_90 b2x_91 b2x_9f0 b2x_9f1 b5c_10 b5c_10z b5c_100 b5c_101 b5c_102 b5c_103 b5c_104 b5c_10f0 b5c_10f1 b5c_10f2 b5c_10f3 b5c_10f4 b3n_10 b3n_10z b3n_100 b3n_101 b3n_102 b3n_10f0 b3n_10f1 b3n_10f2 b2x_10 b2x_10z b2x_100 b2x_101 b2x_10f0 b2x_10f1 b5c_11 b5c_11z b5c_110 b5c_111 b5c_112 b5c_113 b5c_114 b5c_11f0 b5c_11f1 b5c_11f2 b5c_11f3 b5c_11f4 b3n_11 b3n_11z b3n_110 b3n_111 b3n_112 b3n_11f0 b3n_11f1 b3n_11f2 b2x_11 b2x_11z b2x_110 b2x_111 b2x_11f0 b2x_11f1
  clear b5 b6 b7 b8 b9 b10 b11 b12 p5 p6 p7 p8 p9 p10 p11 p12 HI4 HX5 HX6 HI7 HX7 GD OF SM RS TR RT HB4
  have ez : ((16 : Int) != 16) = false := by simp
  go_upto_region 18 with (first
    | (go_at_call 32; (with_reducible refine (AR.out _).mono ?_); rintro e w13 ⟨rfl, b13⟩; have p13 : Below w12.heap.size w12 w13 := Below.trans (by repeat' (first | (with_reducible assumption) | (with_reducible exact Below.refl _ _) | (with_reducible refine Below.drew ?_) | (with_reducible refine below_drewN ?_ _) | (with_reducible refine Below.alloc ?_ ?_ _) | (with_reducible exact Nat.le_refl _) | (simp; done) | (simp; omega) | omega)) (Below.mono b13 (by first | omega | (simp; done) | (simp; omega))); have b5c_13 := Lib.hid (Box5.below b5c_12.out p13); have b5c_130 := b5c_13.out.c0; have b5c_131 := b5c_13.out.c1; have b5c_132 := b5c_13.out.c2; have b5c_133 := b5c_13.out.c3; have b5c_134 := b5c_13.out.c4; have b5c_13f0 := b5c_13.out.f0; have b5c_13f1 := b5c_13.out.f1; have b5c_13f2 := b5c_13.out.f2; have b5c_13f3 := b5c_13.out.f3; have b5c_13f4 := b5c_13.out.f4; have b5c_13z := b5c_13.out.z; have b3n_13 := Lib.hid (Box3.below b3n_12.out p13); have b3n_130 := b3n_13.out.c0; have b3n_131 := b3n_13.out.c1; have b3n_132 := b3n_13.out.c2; have b3n_13f0 := b3n_13.out.f0; have b3n_13f1 := b3n_13.out.f1; have b3n_13f2 := b3n_13.out.f2; have b3n_13z := b3n_13.out.z)
    | (go_at_call 16; (with_reducible refine (CO.out _).mono ?_); rintro e w14 ⟨rfl, b14⟩; have p14 : Below w13.heap.size w13 w14 := Below.trans (by repeat' (first | (with_reducible assumption) | (with_reducible exact Below.refl _ _) | (with_reducible refine Below.drew ?_) | (with_reducible refine below_drewN ?_ _) | (with_reducible refine Below.alloc ?_ ?_ _) | (with_reducible exact Nat.le_refl _) | (simp; done) | (simp; omega) | omega)) (Below.mono b14 (by first | omega | (simp; done) | (simp; omega))); have b5c_14 := Lib.hid (Box5.below b5c_13.out p14); have b5c_140 := b5c_14.out.c0; have b5c_141 := b5c_14.out.c1; have b5c_142 := b5c_14.out.c2; have b5c_143 := b5c_14.out.c3; have b5c_144 := b5c_14.out.c4; have b5c_14f0 := b5c_14.out.f0; have b5c_14f1 := b5c_14.out.f1; have b5c_14f2 := b5c_14.out.f2; have b5c_14f3 := b5c_14.out.f3; have b5c_14f4 := b5c_14.out.f4; have b5c_14z := b5c_14.out.z; have b3n_14 := Lib.hid (Box3.below b3n_13.out p14); have b3n_140 := b3n_14.out.c0; have b3n_141 := b3n_14.out.c1; have b3n_142 := b3n_14.out.c2; have b3n_14f0 := b3n_14.out.f0; have b3n_14f1 := b3n_14.out.f1; have b3n_14f2 := b3n_14.out.f2; have b3n_14z := b3n_14.out.z; have b5y_14 := Lib.hid ((Box5.make w13 (.string P) (.bool xa) (.int .u64 xh) (.int .u64 xl) (.bool false) 55 rfl).below b14); have b5y_140 := b5y_14.out.c0; have b5y_141 := b5y_14.out.c1; have b5y_142 := b5y_14.out.c2; have b5y_143 := b5y_14.out.c3; have b5y_144 := b5y_14.out.c4; have b5y_14f0 := b5y_14.out.f0; have b5y_14f1 := b5y_14.out.f1; have b5y_14f2 := b5y_14.out.f2; have b5y_14f3 := b5y_14.out.f3; have b5y_14f4 := b5y_14.out.f4; have b5y_14z := b5y_14.out.z)
    | (go_at_call 33; (with_reducible refine (SZ.out _).mono ?_); rintro e w15 ⟨rfl, b15⟩; have p15 : Below w14.heap.size w14 w15 := Below.trans (by repeat' (first | (with_reducible assumption) | (with_reducible exact Below.refl _ _) | (with_reducible refine Below.drew ?_) | (with_reducible refine below_drewN ?_ _) | (with_reducible refine Below.alloc ?_ ?_ _) | (with_reducible exact Nat.le_refl _) | (simp; done) | (simp; omega) | omega)) (Below.mono b15 (by first | omega | (simp; done) | (simp; omega))); have b5c_15 := Lib.hid (Box5.below b5c_14.out p15); have b5c_150 := b5c_15.out.c0; have b5c_151 := b5c_15.out.c1; have b5c_152 := b5c_15.out.c2; have b5c_153 := b5c_15.out.c3; have b5c_154 := b5c_15.out.c4; have b5c_15f0 := b5c_15.out.f0; have b5c_15f1 := b5c_15.out.f1; have b5c_15f2 := b5c_15.out.f2; have b5c_15f3 := b5c_15.out.f3; have b5c_15f4 := b5c_15.out.f4; have b5c_15z := b5c_15.out.z; have b3n_15 := Lib.hid (Box3.below b3n_14.out p15); have b3n_150 := b3n_15.out.c0; have b3n_151 := b3n_15.out.c1; have b3n_152 := b3n_15.out.c2; have b3n_15f0 := b3n_15.out.f0; have b3n_15f1 := b3n_15.out.f1; have b3n_15f2 := b3n_15.out.f2; have b3n_15z := b3n_15.out.z; have b5y_15 := Lib.hid (Box5.below b5y_14.out p15); have b5y_150 := b5y_15.out.c0; have b5y_151 := b5y_15.out.c1; have b5y_152 := b5y_15.out.c2; have b5y_153 := b5y_15.out.c3; have b5y_154 := b5y_15.out.c4; have b5y_15f0 := b5y_15.out.f0; have b5y_15f1 := b5y_15.out.f1; have b5y_15f2 := b5y_15.out.f2; have b5y_15f3 := b5y_15.out.f3; have b5y_15f4 := b5y_15.out.f4; have b5y_15z := b5y_15.out.z))
  have HB15 := Lib.hid (below_step (below_step (below_step HB12.out p13) p14) p15)
  clear b5c_12 b5c_12z b5c_120 b5c_121 b5c_122 b5c_123 b5c_124 b5c_12f0 b5c_12f1 b5c_12f2 b5c_12f3 b5c_12f4 b3n_12 b3n_12z b3n_120 b3n_121 b3n_122 b3n_12f0 b3n_12f1 b3n_12f2 b5c_13 b5c_13z b5c_130 b5c_131 b5c_132 b5c_133 b5c_134 b5c_13f0 b5c_13f1 b5c_13f2 b5c_13f3 b5c_13f4 b3n_13 b3n_13z b3n_130 b3n_131 b3n_132 b3n_13f0 b3n_13f1 b3n_13f2 b5c_14 b5c_14z b5c_140 b5c_141 b5c_142 b5c_143 b5c_144 b5c_14f0 b5c_14f1 b5c_14f2 b5c_14f3 b5c_14f4 b3n_14 b3n_14z b3n_140 b3n_141 b3n_142 b3n_14f0 b3n_14f1 b3n_14f2
  clear b5y_14 b5y_14z b5y_140 b5y_141 b5y_142 b5y_143 b5y_144 b5y_14f0 b5y_14f1 b5y_14f2 b5y_14f3 b5y_14f4
  clear b13 b14 b15 p13 p14 p15 HB12 AR CO SZ
  refine wp_region_held_drew (S := (fun w' => w'.cell? ⟨w.heap.size, 0, none⟩ = some (.int .i64 k) ∧ w'.cell? ⟨w.heap.size, 1, none⟩ = some (.string S) ∧ w'.cell? ⟨w.heap.size, 2, none⟩ = some (.bool n) ∧ w'.cell? ⟨w.heap.size, 3, none⟩ = some (.int .u64 h) ∧ w'.cell? ⟨w.heap.size, 4, none⟩ = some (.int .u64 l) ∧ w'.cell? ⟨w2.heap.size, 0, none⟩ = some (.bool xa) ∧ w'.cell? ⟨w2.heap.size, 1, none⟩ = some (.int .u64 xh) ∧ w'.cell? ⟨w2.heap.size, 2, none⟩ = some (.int .u64 xl) ∧ w'.cell? ⟨w13.heap.size, 0, none⟩ = some (.string P) ∧ w'.cell? ⟨w13.heap.size, 1, none⟩ = some (.bool xa) ∧ w'.cell? ⟨w13.heap.size, 2, none⟩ = some (.int .u64 xh) ∧ w'.cell? ⟨w13.heap.size, 3, none⟩ = some (.int .u64 xl) ∧ w'.cell? ⟨w13.heap.size, 4, none⟩ = some (.bool false))) (by kernel_rfl) ?_ (fun hHeld => ?_)
  · (try dsimp only)
    ((and_intros <;> (first | (with_reducible assumption) | (go_simp; done) | (simp (maxDischargeDepth := 12) [go_sem]; done) | (simp (maxDischargeDepth := 12) [go_sem, *]; done) | exact (Below.cell (by with_reducible assumption) (by first | (simp; done) | (simp; omega) | omega)).trans (by simp (maxDischargeDepth := 12) [go_sem]))))
  refine h4_take (i := 0) (v := ?v31) rfl (by kernel_rfl) (by kernel_rfl) (by kernel_rfl) (fun _ _ _ h => h) (by rfl) ?y31 hHeld ?r31
  case y31 => (intro wS hSw; (try dsimp only at hSw); go_simp; (try with_reducible rfl))
  try simp only [Act.put, List.setIfInBounds_toArray, List.set_cons_zero, List.set_cons_succ]
  refine h4_take (i := 1) (v := ?v32) rfl (by kernel_rfl) (by kernel_rfl) (by kernel_rfl) (fun _ _ _ h => h) (by rfl) ?y32 hHeld ?r32
  case y32 => (intro wS hSw; (try dsimp only at hSw); go_simp; (try with_reducible rfl))
  try simp only [Act.put, List.setIfInBounds_toArray, List.set_cons_zero, List.set_cons_succ]
  refine h4_take (i := 3) (v := ?v33) rfl (by kernel_rfl) (by kernel_rfl) (by kernel_rfl) (fun _ _ _ h => h) (by rfl) ?y33 hHeld ?r33
  case y33 => (intro wS hSw; (try dsimp only at hSw); go_simp; (try with_reducible rfl))
  try simp only [Act.put, List.setIfInBounds_toArray, List.set_cons_zero, List.set_cons_succ]
  refine h4_take (i := 4) (v := ?v34) rfl (by kernel_rfl) (by kernel_rfl) (by kernel_rfl) (fun _ _ _ h => h) (by rfl) ?y34 hHeld ?r34
  case y34 => (intro wS hSw; (try dsimp only at hSw); go_simp; (try with_reducible rfl))
  try simp only [Act.put, List.setIfInBounds_toArray, List.set_cons_zero, List.set_cons_succ]
  refine wpAnyH_ready (rs := [2]) (by kernel_rfl) (by simp) ?_
  refine (h4_cons rfl (fun K hK => ?_) AllReadyH.nil)
  go_simp
  ((go_at_call 30; (with_reducible refine (ST.out _).mono ?_); rintro e w16 ⟨rfl, b16⟩; have p16 : Below w15.heap.size w15 w16 := Below.trans (by repeat' (first | (with_reducible assumption) | (with_reducible exact Below.refl _ _) | (with_reducible refine Below.drew ?_) | (with_reducible refine below_drewN ?_ _) | (with_reducible refine Below.alloc ?_ ?_ _) | (with_reducible exact Nat.le_refl _) | (simp; done) | (simp; omega) | omega)) (Below.mono b16 (by first | omega | (simp; done) | (simp; omega))); have b5c_16 := Lib.hid (Box5.below b5c_15.out p16); have b5c_160 := b5c_16.out.c0; have b5c_161 := b5c_16.out.c1; have b5c_162 := b5c_16.out.c2; have b5c_163 := b5c_16.out.c3; have b5c_164 := b5c_16.out.c4; have b5c_16f0 := b5c_16.out.f0; have b5c_16f1 := b5c_16.out.f1; have b5c_16f2 := b5c_16.out.f2; have b5c_16f3 := b5c_16.out.f3; have b5c_16f4 := b5c_16.out.f4; have b5c_16z := b5c_16.out.z; have b3n_16 := Lib.hid (Box3.below b3n_15.out p16); have b3n_160 := b3n_16.out.c0; have b3n_161 := b3n_16.out.c1; have b3n_162 := b3n_16.out.c2; have b3n_16f0 := b3n_16.out.f0; have b3n_16f1 := b3n_16.out.f1; have b3n_16f2 := b3n_16.out.f2; have b3n_16z := b3n_16.out.z; have b5y_16 := Lib.hid (Box5.below b5y_15.out p16); have b5y_160 := b5y_16.out.c0; have b5y_161 := b5y_16.out.c1; have b5y_162 := b5y_16.out.c2; have b5y_163 := b5y_16.out.c3; have b5y_164 := b5y_16.out.c4; have b5y_16f0 := b5y_16.out.f0; have b5y_16f1 := b5y_16.out.f1; have b5y_16f2 := b5y_16.out.f2; have b5y_16f3 := b5y_16.out.f3; have b5y_16f4 := b5y_16.out.f4; have b5y_16z := b5y_16.out.z))
  (try go_wp2_with fail)
  refine hK.out _ _ ?_ (fun hHeld36 => ?_)
  · (try dsimp only)
    ((and_intros <;> (first | (with_reducible assumption) | (go_simp; done) | (simp (maxDischargeDepth := 12) [go_sem]; done) | (simp (maxDischargeDepth := 12) [go_sem, *]; done) | exact (Below.cell (by with_reducible assumption) (by first | (simp; done) | (simp; omega) | omega)).trans (by simp (maxDischargeDepth := 12) [go_sem]))))
  clear hK K hHeld
  try simp only [Act.put, List.setIfInBounds_toArray, List.set_cons_zero, List.set_cons_succ]
  refine h4_take (i := 5) (v := ?v36) rfl (by kernel_rfl) (by kernel_rfl) (by kernel_rfl) (fun _ _ _ h => h) (by rfl) ?y36 hHeld36 ?r36
  case y36 => (intro wS hSw; (try dsimp only at hSw); go_simp; (try with_reducible rfl))
  try simp only [Act.put, List.setIfInBounds_toArray, List.set_cons_zero, List.set_cons_succ]
  refine h4_skip (i := 6) rfl (by kernel_rfl) (by kernel_rfl) (by kernel_rfl) (fun _ _ _ h => h) (by rfl) hHeld36 ?_
  try simp only [Act.put, List.setIfInBounds_toArray, List.set_cons_zero, List.set_cons_succ]
  refine h4_skip (i := 7) rfl (by kernel_rfl) (by kernel_rfl) (by kernel_rfl) (fun _ _ _ h => h) (by rfl) hHeld36 ?_
  try simp only [Act.put, List.setIfInBounds_toArray, List.set_cons_zero, List.set_cons_succ]
  refine h4_skip (i := 8) rfl (by kernel_rfl) (by kernel_rfl) (by kernel_rfl) (fun _ _ _ h => h) (by rfl) hHeld36 ?_
  try simp only [Act.put, List.setIfInBounds_toArray, List.set_cons_zero, List.set_cons_succ]
  refine h4_skip (i := 9) rfl (by kernel_rfl) (by kernel_rfl) (by kernel_rfl) (fun _ _ _ h => h) (by rfl) hHeld36 ?_
  try simp only [Act.put, List.setIfInBounds_toArray, List.set_cons_zero, List.set_cons_succ]
  refine h4_skip (i := 10) rfl (by kernel_rfl) (by kernel_rfl) (by kernel_rfl) (fun _ _ _ h => h) (by rfl) hHeld36 ?_
  try simp only [Act.put, List.setIfInBounds_toArray, List.set_cons_zero, List.set_cons_succ]
  refine h4_skip (i := 11) rfl (by kernel_rfl) (by kernel_rfl) (by kernel_rfl) (fun _ _ _ h => h) (by rfl) hHeld36 ?_
  try simp only [Act.put, List.setIfInBounds_toArray, List.set_cons_zero, List.set_cons_succ]
  refine h4_skip (i := 12) rfl (by kernel_rfl) (by kernel_rfl) (by kernel_rfl) (fun _ _ _ h => h) (by rfl) hHeld36 ?_
  try simp only [Act.put, List.setIfInBounds_toArray, List.set_cons_zero, List.set_cons_succ]
  refine h4_skip (i := 13) rfl (by kernel_rfl) (by kernel_rfl) (by kernel_rfl) (fun _ _ _ h => h) (by rfl) hHeld36 ?_
  try simp only [Act.put, List.setIfInBounds_toArray, List.set_cons_zero, List.set_cons_succ]
  refine h4_take (i := 14) (v := ?v37) rfl (by kernel_rfl) (by kernel_rfl) (by kernel_rfl) (fun _ _ _ h => h) (by rfl) ?y37 hHeld36 ?r37
  case y37 => (intro wS hSw; (try dsimp only at hSw); go_simp; (try with_reducible rfl))
  try simp only [Act.put, List.setIfInBounds_toArray, List.set_cons_zero, List.set_cons_succ]
  refine h4_take (i := 15) (v := ?v38) rfl (by kernel_rfl) (by kernel_rfl) (by kernel_rfl) (fun _ _ _ h => h) (by rfl) ?y38 hHeld36 ?r38
  case y38 => (intro wS hSw; (try dsimp only at hSw); go_simp; (try with_reducible rfl))
  try simp only [Act.put, List.setIfInBounds_toArray, List.set_cons_zero, List.set_cons_succ]
  refine h4_take (i := 16) (v := ?v39) rfl (by kernel_rfl) (by kernel_rfl) (by kernel_rfl) (fun _ _ _ h => h) (by rfl) ?y39 hHeld36 ?r39
  case y39 => (intro wS hSw; (try dsimp only at hSw); go_simp; (try with_reducible rfl))
  try simp only [Act.put, List.setIfInBounds_toArray, List.set_cons_zero, List.set_cons_succ]
  refine h4_take (i := 17) (v := ?v40) rfl (by kernel_rfl) (by kernel_rfl) (by kernel_rfl) (fun _ _ _ h => h) (by rfl) ?y40 hHeld36 ?r40
  case y40 => (intro wS hSw; (try dsimp only at hSw); go_simp; (try with_reducible rfl))
  try simp only [Act.put, List.setIfInBounds_toArray, List.set_cons_zero, List.set_cons_succ]
  refine wpAnyH_done (by kernel_rfl) ?_ _
  go_wp2_with fail
  all_goals
    go_ret
    exact ⟨by simp [*], by refine (below_step HB15.out p16).trans ?_; (repeat' (first | (with_reducible exact Below.refl _ _) | (refine Below.trans ?_ (Below.mono (by with_reducible assumption) ?_)) | (with_reducible exact Below.refl _ _) | (with_reducible refine below_drewN ?_ _) | (with_reducible refine Below.drew ?_) | (with_reducible refine Below.setCell ?_ ?_ _) | (with_reducible refine Below.alloc ?_ ?_ _) | (with_reducible assumption) | (simp; done) | (simp; omega) | omega))⟩
set_option maxRecDepth 100000 in
set_option maxHeartbeats 6400000 in
theorem ctells_num {S P : ByteArray} (hS : S.size ≤ 200) {n : Bool} {h l : Int} {xa : Bool} {xh xl : Int} {N : Nat} {b fl : Bool}
    (NU0 : ∀ W, Calls Try.prog 34 #[.agg #[.int .i64 1, .string S, .bool n, .int .u64 h, .int .u64 l]] W fun e w' => e = .returned (.tuple #[.agg #[.bool xa, .int .u64 xh, .int .u64 xl], .nilIface]) ∧ Below W.heap.size W w')
    (RN0 : ∀ W, Calls Try.prog 36 #[.agg #[.int .i64 1, .string S, .bool n, .int .u64 h, .int .u64 l]] W (RNum xa N 0 W))
    (RG0 : ∀ W, Calls Try.prog 37 #[.agg #[.int .i64 1, .string S, .bool n, .int .u64 h, .int .u64 l]] W fun e w' => e = .returned (.bool true) ∧ Below W.heap.size W w')
    (GD0 : ∀ W, Calls Try.prog 24 #[.agg #[.int .i64 1, .string S, .bool n, .int .u64 h, .int .u64 l]] W fun e w' => e = .returned (.bool true) ∧ Below W.heap.size W w')
    (CO0 : ∀ W, Calls Try.prog 16 #[.nilIface] W fun e w' => e = .returned (.int .i64 0) ∧ Below W.heap.size W w')
    (OF0 : ∀ W, Calls Try.prog 18 #[.agg #[.bool xa, .int .u64 xh, .int .u64 xl]] W fun e w' => (∃ A c, e = .returned (.agg #[.bool xa, .slice A (dg N).length c]) ∧ RI w' w'.heap.size A (dg N)) ∧ Below W.heap.size W w')
    (SM0 : ∀ (A A' : Option Addr) (c c' : Nat) (W1 W : World), RI W1 W1.heap.size A (dg N) → RI W1 W1.heap.size A' (dg N) → Below W1.heap.size W1 W → Calls Try.prog 38 #[.agg #[.bool xa, .slice A (dg N).length c], .agg #[.bool xa, .slice A' (dg N).length c']] W fun e w' => e = .returned (.bool true) ∧ Below W.heap.size W w')
    (ST0 : ∀ W, Calls Try.prog 30 #[.agg #[.int .i64 1, .string S, .bool n, .int .u64 h, .int .u64 l]] W fun e w' => e = .returned (.string P) ∧ Below W.heap.size W w')
    (RS0 : ∀ W, Calls Try.prog 39 #[.agg #[.int .i64 1, .string S, .bool n, .int .u64 h, .int .u64 l]] W fun e w' => e = .returned (.string P) ∧ Below W.heap.size W w')
    (TR0 : ∀ W, Calls Try.prog 29 #[.agg #[.int .i64 1, .string S, .bool n, .int .u64 h, .int .u64 l]] W fun e w' => e = .returned (.bool b) ∧ Below W.heap.size W w')
    (RT0 : ∀ W, Calls Try.prog 40 #[.agg #[.int .i64 1, .string S, .bool n, .int .u64 h, .int .u64 l]] W fun e w' => e = .returned (.bool b) ∧ Below W.heap.size W w')
    (AR0 : ∀ W, Calls Try.prog 32 #[.agg #[.int .i64 1, .string S, .bool n, .int .u64 h, .int .u64 l]] W fun e w' => e = .returned (.tuple #[.agg #[.string P, .bool xa, .int .u64 xh, .int .u64 xl, .bool true], .nilIface]) ∧ Below W.heap.size W w')
    (SZ0 : ∀ W, Calls Try.prog 33 #[.agg #[.int .i64 1, .string S, .bool n, .int .u64 h, .int .u64 l]] W fun e w' => e = .returned (.int .i64 (16 + (S.size : Int))) ∧ Below W.heap.size W w') (w : World) :
    Calls Try.prog 10 #[.agg #[.int .i64 1, .string S, .bool n, .int .u64 h, .int .u64 l]] w fun e w' => e = .returned (.bool true) ∧ Below w.heap.size w w' := by
  have NU := Lib.hid NU0; have RG := Lib.hid RG0; have GD := Lib.hid GD0; have CO := Lib.hid CO0; have ST := Lib.hid ST0; have RS := Lib.hid RS0; have TR := Lib.hid TR0; have RT := Lib.hid RT0; have AR := Lib.hid AR0; have SZ := Lib.hid SZ0
  obtain ⟨LN, hLN⟩ : ∃ x, x = (dg N).length := ⟨_, rfl⟩
  obtain ⟨D, hD⟩ : ∃ x, x = dg N := ⟨_, rfl⟩
  unfold RNum at RN0
  rw [← hLN] at RN0 OF0 SM0
  rw [← hD] at RN0 OF0 SM0
  have RN := Lib.hid RN0; have OF := Lib.hid OF0; have SM := Lib.hid SM0
  have HA := Lib.hid (Box5.make w (.int .i64 1) (.string S) (.bool n) (.int .u64 h) (.int .u64 l) 41 rfl)
  have eb : (b != b) = false := by simp
  clear NU0 RN0 RG0 GD0 CO0 OF0 SM0 ST0 RS0 TR0 RT0 AR0 SZ0 hLN hD
  go_enter Try.func10, Try.ntmps10
  go_upto_region 8 with (first
    | (go_at_call 20; refine (awake9_any _).mono ?_; rintro e w1 ⟨rfl, b1⟩; have zz1 := b1.size; have b5c_1 := Lib.hid (HA.out.below b1); have b5c_10 := b5c_1.out.c0; have b5c_11 := b5c_1.out.c1; have b5c_12 := b5c_1.out.c2; have b5c_13 := b5c_1.out.c3; have b5c_14 := b5c_1.out.c4; have b5c_1f0 := b5c_1.out.f0; have b5c_1f1 := b5c_1.out.f1; have b5c_1f2 := b5c_1.out.f2; have b5c_1f3 := b5c_1.out.f3; have b5c_1f4 := b5c_1.out.f4; have b5c_1z := b5c_1.out.z)
    | (go_at_call 34; (with_reducible refine (NU.out _).mono ?_); rintro e w2 ⟨rfl, b2⟩; have p2 : Below w1.heap.size w1 w2 := Below.trans (by repeat' (first | (with_reducible assumption) | (with_reducible exact Below.refl _ _) | (with_reducible refine Below.drew ?_) | (with_reducible refine below_drewN ?_ _) | (with_reducible refine Below.alloc ?_ ?_ _) | (with_reducible exact Nat.le_refl _) | (simp; done) | (simp; omega) | omega)) (Below.mono b2 (by first | omega | (simp; done) | (simp; omega))); have b5c_2 := Lib.hid (Box5.below b5c_1.out p2); have b5c_20 := b5c_2.out.c0; have b5c_21 := b5c_2.out.c1; have b5c_22 := b5c_2.out.c2; have b5c_23 := b5c_2.out.c3; have b5c_24 := b5c_2.out.c4; have b5c_2f0 := b5c_2.out.f0; have b5c_2f1 := b5c_2.out.f1; have b5c_2f2 := b5c_2.out.f2; have b5c_2f3 := b5c_2.out.f3; have b5c_2f4 := b5c_2.out.f4; have b5c_2z := b5c_2.out.z)
    | (go_at_call 36; (with_reducible refine (RN.out _).mono ?_); rintro e w3 ⟨⟨A3, c3, rfl, hi⟩, b3⟩; have p3 : Below w2.heap.size w2 w3 := Below.trans (by repeat' (first | (with_reducible assumption) | (with_reducible exact Below.refl _ _) | (with_reducible refine Below.drew ?_) | (with_reducible refine below_drewN ?_ _) | (with_reducible refine Below.alloc ?_ ?_ _) | (with_reducible exact Nat.le_refl _) | (simp; done) | (simp; omega) | omega)) (Below.mono b3 (by first | omega | (simp; done) | (simp; omega))); have b5c_3 := Lib.hid (Box5.below b5c_2.out p3); have b5c_30 := b5c_3.out.c0; have b5c_31 := b5c_3.out.c1; have b5c_32 := b5c_3.out.c2; have b5c_33 := b5c_3.out.c3; have b5c_34 := b5c_3.out.c4; have b5c_3f0 := b5c_3.out.f0; have b5c_3f1 := b5c_3.out.f1; have b5c_3f2 := b5c_3.out.f2; have b5c_3f3 := b5c_3.out.f3; have b5c_3f4 := b5c_3.out.f4; have b5c_3z := b5c_3.out.z; have b3n_3 := Lib.hid ((Box3.make w2 (.bool xa) (.int .u64 xh) (.int .u64 xl) 24 rfl).below b3); have b3n_30 := b3n_3.out.c0; have b3n_31 := b3n_3.out.c1; have b3n_32 := b3n_3.out.c2; have b3n_3f0 := b3n_3.out.f0; have b3n_3f1 := b3n_3.out.f1; have b3n_3f2 := b3n_3.out.f2; have b3n_3z := b3n_3.out.z; have HI3 := Lib.hid hi; clear hi)
    | (go_at_call 37; (with_reducible refine (RG.out _).mono ?_); rintro e w4 ⟨rfl, b4⟩; have p4 : Below w3.heap.size w3 w4 := Below.trans (by repeat' (first | (with_reducible assumption) | (with_reducible exact Below.refl _ _) | (with_reducible refine Below.drew ?_) | (with_reducible refine below_drewN ?_ _) | (with_reducible refine Below.alloc ?_ ?_ _) | (with_reducible exact Nat.le_refl _) | (simp; done) | (simp; omega) | omega)) (Below.mono b4 (by first | omega | (simp; done) | (simp; omega))); have b5c_4 := Lib.hid (Box5.below b5c_3.out p4); have b5c_40 := b5c_4.out.c0; have b5c_41 := b5c_4.out.c1; have b5c_42 := b5c_4.out.c2; have b5c_43 := b5c_4.out.c3; have b5c_44 := b5c_4.out.c4; have b5c_4f0 := b5c_4.out.f0; have b5c_4f1 := b5c_4.out.f1; have b5c_4f2 := b5c_4.out.f2; have b5c_4f3 := b5c_4.out.f3; have b5c_4f4 := b5c_4.out.f4; have b5c_4z := b5c_4.out.z; have b3n_4 := Lib.hid (Box3.below b3n_3.out p4); have b3n_40 := b3n_4.out.c0; have b3n_41 := b3n_4.out.c1; have b3n_42 := b3n_4.out.c2; have b3n_4f0 := b3n_4.out.f0; have b3n_4f1 := b3n_4.out.f1; have b3n_4f2 := b3n_4.out.f2; have b3n_4z := b3n_4.out.z; have b2x_4 := Lib.hid ((Box2.make w3 (.bool xa) (.slice A3 LN c3) 34 rfl).below b4); have b2x_40 := b2x_4.out.c0; have b2x_41 := b2x_4.out.c1; have b2x_4f0 := b2x_4.out.f0; have b2x_4f1 := b2x_4.out.f1; have b2x_4z := b2x_4.out.z; have HI4 := Lib.hid ((HI3.out.below p4).more p4.size)))
  have HB4 := Lib.hid (show Below w.heap.size w w4 by (repeat' (first | (with_reducible exact Below.refl _ _) | (refine Below.trans ?_ (Below.mono (by with_reducible assumption) ?_)) | (with_reducible exact Below.refl _ _) | (with_reducible refine below_drewN ?_ _) | (with_reducible refine Below.drew ?_) | (with_reducible refine Below.setCell ?_ ?_ _) | (with_reducible refine Below.alloc ?_ ?_ _) | (with_reducible assumption) | (simp; done) | (simp; omega) | omega)))
  clear b5c_1 b5c_1z b5c_10 b5c_11 b5c_12 b5c_13 b5c_14 b5c_1f0 b5c_1f1 b5c_1f2 b5c_1f3 b5c_1f4 b5c_2 b5c_2z b5c_20 b5c_21 b5c_22 b5c_23 b5c_24 b5c_2f0 b5c_2f1 b5c_2f2 b5c_2f3 b5c_2f4 b5c_3 b5c_3z b5c_30 b5c_31 b5c_32 b5c_33 b5c_34 b5c_3f0 b5c_3f1 b5c_3f2 b5c_3f3 b5c_3f4
  clear b3n_3 b3n_3z b3n_30 b3n_31 b3n_32 b3n_3f0 b3n_3f1 b3n_3f2
  clear b1 b2 b3 b4 p2 p3 p4 HA HI3 NU RN RG
  refine wp_region_held_drew (S := (fun w' => w'.cell? ⟨w.heap.size, 0, none⟩ = some (.int .i64 1) ∧ w'.cell? ⟨w.heap.size, 1, none⟩ = some (.string S) ∧ w'.cell? ⟨w.heap.size, 2, none⟩ = some (.bool n) ∧ w'.cell? ⟨w.heap.size, 3, none⟩ = some (.int .u64 h) ∧ w'.cell? ⟨w.heap.size, 4, none⟩ = some (.int .u64 l) ∧ w'.cell? ⟨w2.heap.size, 0, none⟩ = some (.bool xa) ∧ w'.cell? ⟨w2.heap.size, 1, none⟩ = some (.int .u64 xh) ∧ w'.cell? ⟨w2.heap.size, 2, none⟩ = some (.int .u64 xl) ∧ w'.cell? ⟨w3.heap.size, 0, none⟩ = some (.bool xa) ∧ w'.cell? ⟨w3.heap.size, 1, none⟩ = some (.slice A3 LN c3))) (by kernel_rfl) ?_ (fun hHeld => ?_)
  · (try dsimp only)
    ((and_intros <;> (first | (with_reducible assumption) | (go_simp; done) | (simp (maxDischargeDepth := 12) [go_sem]; done) | (simp (maxDischargeDepth := 12) [go_sem, *]; done) | exact (Below.cell (by with_reducible assumption) (by first | (simp; done) | (simp; omega) | omega)).trans (by simp (maxDischargeDepth := 12) [go_sem]))))
  refine h4_take (i := 0) (v := ?v41) rfl (by kernel_rfl) (by kernel_rfl) (by kernel_rfl) (fun _ _ _ h => h) (by rfl) ?y41 hHeld ?r41
  case y41 => (intro wS hSw; (try dsimp only at hSw); go_simp; (try with_reducible rfl))
  try simp only [Act.put, List.setIfInBounds_toArray, List.set_cons_zero, List.set_cons_succ]
  refine h4_take (i := 2) (v := ?v42) rfl (by kernel_rfl) (by kernel_rfl) (by kernel_rfl) (fun _ _ _ h => h) (by rfl) ?y42 hHeld ?r42
  case y42 => (intro wS hSw; (try dsimp only at hSw); go_simp; (try with_reducible rfl))
  try simp only [Act.put, List.setIfInBounds_toArray, List.set_cons_zero, List.set_cons_succ]
  refine wpAnyH_ready (rs := [1]) (by kernel_rfl) (by simp) ?_
  refine (h4_cons rfl (fun K hK => ?_) AllReadyH.nil)
  go_simp
  ((go_at_call 24; (with_reducible refine (GD.out _).mono ?_); rintro e w5 ⟨rfl, b5⟩; have p5 : Below w4.heap.size w4 w5 := Below.trans (by repeat' (first | (with_reducible assumption) | (with_reducible exact Below.refl _ _) | (with_reducible refine Below.drew ?_) | (with_reducible refine below_drewN ?_ _) | (with_reducible refine Below.alloc ?_ ?_ _) | (with_reducible exact Nat.le_refl _) | (simp; done) | (simp; omega) | omega)) (Below.mono b5 (by first | omega | (simp; done) | (simp; omega))); have b5c_5 := Lib.hid (Box5.below b5c_4.out p5); have b5c_50 := b5c_5.out.c0; have b5c_51 := b5c_5.out.c1; have b5c_52 := b5c_5.out.c2; have b5c_53 := b5c_5.out.c3; have b5c_54 := b5c_5.out.c4; have b5c_5f0 := b5c_5.out.f0; have b5c_5f1 := b5c_5.out.f1; have b5c_5f2 := b5c_5.out.f2; have b5c_5f3 := b5c_5.out.f3; have b5c_5f4 := b5c_5.out.f4; have b5c_5z := b5c_5.out.z; have b3n_5 := Lib.hid (Box3.below b3n_4.out p5); have b3n_50 := b3n_5.out.c0; have b3n_51 := b3n_5.out.c1; have b3n_52 := b3n_5.out.c2; have b3n_5f0 := b3n_5.out.f0; have b3n_5f1 := b3n_5.out.f1; have b3n_5f2 := b3n_5.out.f2; have b3n_5z := b3n_5.out.z; have b2x_5 := Lib.hid (Box2.below b2x_4.out p5); have b2x_50 := b2x_5.out.c0; have b2x_51 := b2x_5.out.c1; have b2x_5f0 := b2x_5.out.f0; have b2x_5f1 := b2x_5.out.f1; have b2x_5z := b2x_5.out.z; have HX5 := Lib.hid ((HI4.out.below p5).more p5.size)))
  (try go_wp2_with fail)
  refine hK.out _ _ ?_ (fun hHeld44 => ?_)
  · (try dsimp only)
    ((and_intros <;> (first | (with_reducible assumption) | (go_simp; done) | (simp (maxDischargeDepth := 12) [go_sem]; done) | (simp (maxDischargeDepth := 12) [go_sem, *]; done) | exact (Below.cell (by with_reducible assumption) (by first | (simp; done) | (simp; omega) | omega)).trans (by simp (maxDischargeDepth := 12) [go_sem]))))
  clear hK K hHeld
  try simp only [Act.put, List.setIfInBounds_toArray, List.set_cons_zero, List.set_cons_succ]
  refine h4_take (i := 3) (v := ?v44) rfl (by kernel_rfl) (by kernel_rfl) (by kernel_rfl) (fun _ _ _ h => h) (by rfl) ?y44 hHeld44 ?r44
  case y44 => (intro wS hSw; (try dsimp only at hSw); go_simp; (try with_reducible rfl))
  try simp only [Act.put, List.setIfInBounds_toArray, List.set_cons_zero, List.set_cons_succ]
  refine h4_take (i := 4) (v := ?v45) rfl (by kernel_rfl) (by kernel_rfl) (by kernel_rfl) (fun _ _ _ h => h) (by rfl) ?y45 hHeld44 ?r45
  case y45 => (intro wS hSw; (try dsimp only at hSw); go_simp; (try with_reducible rfl))
  try simp only [Act.put, List.setIfInBounds_toArray, List.set_cons_zero, List.set_cons_succ]
  refine h4_take (i := 5) (v := ?v46) rfl (by kernel_rfl) (by kernel_rfl) (by kernel_rfl) (fun _ _ _ h => h) (by rfl) ?y46 hHeld44 ?r46
  case y46 => (intro wS hSw; (try dsimp only at hSw); go_simp; (try with_reducible rfl))
  try simp only [Act.put, List.setIfInBounds_toArray, List.set_cons_zero, List.set_cons_succ]
  refine h4_take (i := 7) (v := ?v47) rfl (by kernel_rfl) (by kernel_rfl) (by kernel_rfl) (fun _ _ _ h => h) (by rfl) ?y47 hHeld44 ?r47
  case y47 => (intro wS hSw; (try dsimp only at hSw); go_simp; (try with_reducible rfl))
  try simp only [Act.put, List.setIfInBounds_toArray, List.set_cons_zero, List.set_cons_succ]
  refine wpAnyH_ready (rs := [6]) (by kernel_rfl) (by simp) ?_
  refine (h4_cons rfl (fun K hK => ?_) AllReadyH.nil)
  go_simp
  ((go_at_call 16; (with_reducible refine (CO.out _).mono ?_); rintro e w6 ⟨rfl, b6⟩; have p6 : Below w5.heap.size w5 w6 := Below.trans (by repeat' (first | (with_reducible assumption) | (with_reducible exact Below.refl _ _) | (with_reducible refine Below.drew ?_) | (with_reducible refine below_drewN ?_ _) | (with_reducible refine Below.alloc ?_ ?_ _) | (with_reducible exact Nat.le_refl _) | (simp; done) | (simp; omega) | omega)) (Below.mono b6 (by first | omega | (simp; done) | (simp; omega))); have b5c_6 := Lib.hid (Box5.below b5c_5.out p6); have b5c_60 := b5c_6.out.c0; have b5c_61 := b5c_6.out.c1; have b5c_62 := b5c_6.out.c2; have b5c_63 := b5c_6.out.c3; have b5c_64 := b5c_6.out.c4; have b5c_6f0 := b5c_6.out.f0; have b5c_6f1 := b5c_6.out.f1; have b5c_6f2 := b5c_6.out.f2; have b5c_6f3 := b5c_6.out.f3; have b5c_6f4 := b5c_6.out.f4; have b5c_6z := b5c_6.out.z; have b3n_6 := Lib.hid (Box3.below b3n_5.out p6); have b3n_60 := b3n_6.out.c0; have b3n_61 := b3n_6.out.c1; have b3n_62 := b3n_6.out.c2; have b3n_6f0 := b3n_6.out.f0; have b3n_6f1 := b3n_6.out.f1; have b3n_6f2 := b3n_6.out.f2; have b3n_6z := b3n_6.out.z; have b2x_6 := Lib.hid (Box2.below b2x_5.out p6); have b2x_60 := b2x_6.out.c0; have b2x_61 := b2x_6.out.c1; have b2x_6f0 := b2x_6.out.f0; have b2x_6f1 := b2x_6.out.f1; have b2x_6z := b2x_6.out.z; have HX6 := Lib.hid ((HX5.out.below p6).more p6.size)))
  (try go_wp2_with fail)
  refine hK.out _ _ ?_ (fun hHeld49 => ?_)
  · (try dsimp only)
    ((and_intros <;> (first | (with_reducible assumption) | (go_simp; done) | (simp (maxDischargeDepth := 12) [go_sem]; done) | (simp (maxDischargeDepth := 12) [go_sem, *]; done) | exact (Below.cell (by with_reducible assumption) (by first | (simp; done) | (simp; omega) | omega)).trans (by simp (maxDischargeDepth := 12) [go_sem]))))
  clear hK K hHeld44
  try simp only [Act.put, List.setIfInBounds_toArray, List.set_cons_zero, List.set_cons_succ]
  refine h4_take (i := 8) (v := ?v49) rfl (by kernel_rfl) (by kernel_rfl) (by kernel_rfl) (fun _ _ _ h => h) (by rfl) ?y49 hHeld49 ?r49
  case y49 => (intro wS hSw; (try dsimp only at hSw); go_simp; (try with_reducible rfl))
  try simp only [Act.put, List.setIfInBounds_toArray, List.set_cons_zero, List.set_cons_succ]
  refine h4_take (i := 9) (v := ?v50) rfl (by kernel_rfl) (by kernel_rfl) (by kernel_rfl) (fun _ _ _ h => h) (by rfl) ?y50 hHeld49 ?r50
  case y50 => (intro wS hSw; (try dsimp only at hSw); go_simp; (try with_reducible rfl))
  try simp only [Act.put, List.setIfInBounds_toArray, List.set_cons_zero, List.set_cons_succ]
  refine h4_take (i := 10) (v := ?v51) rfl (by kernel_rfl) (by kernel_rfl) (by kernel_rfl) (fun _ _ _ h => h) (by rfl) ?y51 hHeld49 ?r51
  case y51 => (intro wS hSw; (try dsimp only at hSw); go_simp; (try with_reducible rfl))
  try simp only [Act.put, List.setIfInBounds_toArray, List.set_cons_zero, List.set_cons_succ]
  refine h4_take (i := 11) (v := ?v52) rfl (by kernel_rfl) (by kernel_rfl) (by kernel_rfl) (fun _ _ _ h => h) (by rfl) ?y52 hHeld49 ?r52
  case y52 => (intro wS hSw; (try dsimp only at hSw); go_simp; (try with_reducible rfl))
  try simp only [Act.put, List.setIfInBounds_toArray, List.set_cons_zero, List.set_cons_succ]
  refine h4_take (i := 13) (v := ?v53) rfl (by kernel_rfl) (by kernel_rfl) (by kernel_rfl) (fun _ _ _ h => h) (by rfl) ?y53 hHeld49 ?r53
  case y53 => (intro wS hSw; (try dsimp only at hSw); go_simp; (try with_reducible rfl))
  try simp only [Act.put, List.setIfInBounds_toArray, List.set_cons_zero, List.set_cons_succ]
  refine wpAnyH_ready (rs := [12]) (by kernel_rfl) (by simp) ?_
  refine (h4_cons rfl (fun K hK => ?_) AllReadyH.nil)
  go_simp
  ((go_at_call 18; (with_reducible refine (OF.out _).mono ?_); rintro e w7 ⟨⟨A7, c7, rfl, hj⟩, b7⟩; have p7 : Below w6.heap.size w6 w7 := Below.trans (by repeat' (first | (with_reducible assumption) | (with_reducible exact Below.refl _ _) | (with_reducible refine Below.drew ?_) | (with_reducible refine below_drewN ?_ _) | (with_reducible refine Below.alloc ?_ ?_ _) | (with_reducible exact Nat.le_refl _) | (simp; done) | (simp; omega) | omega)) (Below.mono b7 (by first | omega | (simp; done) | (simp; omega))); have b5c_7 := Lib.hid (Box5.below b5c_6.out p7); have b5c_70 := b5c_7.out.c0; have b5c_71 := b5c_7.out.c1; have b5c_72 := b5c_7.out.c2; have b5c_73 := b5c_7.out.c3; have b5c_74 := b5c_7.out.c4; have b5c_7f0 := b5c_7.out.f0; have b5c_7f1 := b5c_7.out.f1; have b5c_7f2 := b5c_7.out.f2; have b5c_7f3 := b5c_7.out.f3; have b5c_7f4 := b5c_7.out.f4; have b5c_7z := b5c_7.out.z; have b3n_7 := Lib.hid (Box3.below b3n_6.out p7); have b3n_70 := b3n_7.out.c0; have b3n_71 := b3n_7.out.c1; have b3n_72 := b3n_7.out.c2; have b3n_7f0 := b3n_7.out.f0; have b3n_7f1 := b3n_7.out.f1; have b3n_7f2 := b3n_7.out.f2; have b3n_7z := b3n_7.out.z; have b2x_7 := Lib.hid (Box2.below b2x_6.out p7); have b2x_70 := b2x_7.out.c0; have b2x_71 := b2x_7.out.c1; have b2x_7f0 := b2x_7.out.f0; have b2x_7f1 := b2x_7.out.f1; have b2x_7z := b2x_7.out.z; have HI7 := Lib.hid hj; have HX7 := Lib.hid ((HX6.out.below p7).more p7.size); clear hj))
  (try go_wp2_with fail)
  refine hK.out _ _ ?_ (fun hHeld55 => ?_)
  · (try dsimp only)
    ((and_intros <;> (first | (with_reducible assumption) | (go_simp; done) | (simp (maxDischargeDepth := 12) [go_sem]; done) | (simp (maxDischargeDepth := 12) [go_sem, *]; done) | exact (Below.cell (by with_reducible assumption) (by first | (simp; done) | (simp; omega) | omega)).trans (by simp (maxDischargeDepth := 12) [go_sem]))))
  clear hK K hHeld49
  try simp only [Act.put, List.setIfInBounds_toArray, List.set_cons_zero, List.set_cons_succ]
  refine wpAnyH_ready (rs := [14]) (by kernel_rfl) (by simp) ?_
  refine (h4_cons rfl (fun K hK => ?_) AllReadyH.nil)
  go_simp
  ((go_at_call 38; (with_reducible refine (SM.out A7 A3 c7 c3 w7 _ HI7.out HX7.out (by repeat' (first | (with_reducible exact Below.refl _ _) | (with_reducible assumption) | (with_reducible refine Below.drew ?_) | (with_reducible refine below_drewN ?_ _) | (with_reducible refine Below.alloc ?_ ?_ _) | (with_reducible exact Nat.le_refl _) | (simp; done) | (simp; omega)))).mono ?_); rintro e w8 ⟨rfl, b8⟩; have p8 : Below w7.heap.size w7 w8 := Below.trans (by repeat' (first | (with_reducible assumption) | (with_reducible exact Below.refl _ _) | (with_reducible refine Below.drew ?_) | (with_reducible refine below_drewN ?_ _) | (with_reducible refine Below.alloc ?_ ?_ _) | (with_reducible exact Nat.le_refl _) | (simp; done) | (simp; omega) | omega)) (Below.mono b8 (by first | omega | (simp; done) | (simp; omega))); have b5c_8 := Lib.hid (Box5.below b5c_7.out p8); have b5c_80 := b5c_8.out.c0; have b5c_81 := b5c_8.out.c1; have b5c_82 := b5c_8.out.c2; have b5c_83 := b5c_8.out.c3; have b5c_84 := b5c_8.out.c4; have b5c_8f0 := b5c_8.out.f0; have b5c_8f1 := b5c_8.out.f1; have b5c_8f2 := b5c_8.out.f2; have b5c_8f3 := b5c_8.out.f3; have b5c_8f4 := b5c_8.out.f4; have b5c_8z := b5c_8.out.z; have b3n_8 := Lib.hid (Box3.below b3n_7.out p8); have b3n_80 := b3n_8.out.c0; have b3n_81 := b3n_8.out.c1; have b3n_82 := b3n_8.out.c2; have b3n_8f0 := b3n_8.out.f0; have b3n_8f1 := b3n_8.out.f1; have b3n_8f2 := b3n_8.out.f2; have b3n_8z := b3n_8.out.z; have b2x_8 := Lib.hid (Box2.below b2x_7.out p8); have b2x_80 := b2x_8.out.c0; have b2x_81 := b2x_8.out.c1; have b2x_8f0 := b2x_8.out.f0; have b2x_8f1 := b2x_8.out.f1; have b2x_8z := b2x_8.out.z))
  (try go_wp2_with fail)
  refine hK.out _ _ ?_ (fun hHeld56 => ?_)
  · (try dsimp only)
    ((and_intros <;> (first | (with_reducible assumption) | (go_simp; done) | (simp (maxDischargeDepth := 12) [go_sem]; done) | (simp (maxDischargeDepth := 12) [go_sem, *]; done) | exact (Below.cell (by with_reducible assumption) (by first | (simp; done) | (simp; omega) | omega)).trans (by simp (maxDischargeDepth := 12) [go_sem]))))
  clear hK K hHeld55
  try simp only [Act.put, List.setIfInBounds_toArray, List.set_cons_zero, List.set_cons_succ]
  refine h4_take (i := 15) (v := ?v56) rfl (by kernel_rfl) (by kernel_rfl) (by kernel_rfl) (fun _ _ _ h => h) (by rfl) ?y56 hHeld56 ?r56
  case y56 => (intro wS hSw; (try dsimp only at hSw); go_simp; (try with_reducible rfl))
  try simp only [Act.put, List.setIfInBounds_toArray, List.set_cons_zero, List.set_cons_succ]
  refine h4_take (i := 16) (v := ?v57) rfl (by kernel_rfl) (by kernel_rfl) (by kernel_rfl) (fun _ _ _ h => h) (by rfl) ?y57 hHeld56 ?r57
  case y57 => (intro wS hSw; (try dsimp only at hSw); go_simp; (try with_reducible rfl))
  try simp only [Act.put, List.setIfInBounds_toArray, List.set_cons_zero, List.set_cons_succ]
  refine h4_take (i := 17) (v := ?v58) rfl (by kernel_rfl) (by kernel_rfl) (by kernel_rfl) (fun _ _ _ h => h) (by rfl) ?y58 hHeld56 ?r58
  case y58 => (intro wS hSw; (try dsimp only at hSw); go_simp; (try with_reducible rfl))
  try simp only [Act.put, List.setIfInBounds_toArray, List.set_cons_zero, List.set_cons_succ]
  refine h4_take (i := 18) (v := ?v59) rfl (by kernel_rfl) (by kernel_rfl) (by kernel_rfl) (fun _ _ _ h => h) (by rfl) ?y59 hHeld56 ?r59
  case y59 => (intro wS hSw; (try dsimp only at hSw); go_simp; (try with_reducible rfl))
  try simp only [Act.put, List.setIfInBounds_toArray, List.set_cons_zero, List.set_cons_succ]
  refine h4_take (i := 20) (v := ?v60) rfl (by kernel_rfl) (by kernel_rfl) (by kernel_rfl) (fun _ _ _ h => h) (by rfl) ?y60 hHeld56 ?r60
  case y60 => (intro wS hSw; (try dsimp only at hSw); go_simp; (try with_reducible rfl))
  try simp only [Act.put, List.setIfInBounds_toArray, List.set_cons_zero, List.set_cons_succ]
  refine wpAnyH_ready (rs := [19]) (by kernel_rfl) (by simp) ?_
  refine (h4_cons rfl (fun K hK => ?_) AllReadyH.nil)
  go_simp
  ((go_at_call 30; (with_reducible refine (ST.out _).mono ?_); rintro e w9 ⟨rfl, b9⟩; have p9 : Below w8.heap.size w8 w9 := Below.trans (by repeat' (first | (with_reducible assumption) | (with_reducible exact Below.refl _ _) | (with_reducible refine Below.drew ?_) | (with_reducible refine below_drewN ?_ _) | (with_reducible refine Below.alloc ?_ ?_ _) | (with_reducible exact Nat.le_refl _) | (simp; done) | (simp; omega) | omega)) (Below.mono b9 (by first | omega | (simp; done) | (simp; omega))); have b5c_9 := Lib.hid (Box5.below b5c_8.out p9); have b5c_90 := b5c_9.out.c0; have b5c_91 := b5c_9.out.c1; have b5c_92 := b5c_9.out.c2; have b5c_93 := b5c_9.out.c3; have b5c_94 := b5c_9.out.c4; have b5c_9f0 := b5c_9.out.f0; have b5c_9f1 := b5c_9.out.f1; have b5c_9f2 := b5c_9.out.f2; have b5c_9f3 := b5c_9.out.f3; have b5c_9f4 := b5c_9.out.f4; have b5c_9z := b5c_9.out.z; have b3n_9 := Lib.hid (Box3.below b3n_8.out p9); have b3n_90 := b3n_9.out.c0; have b3n_91 := b3n_9.out.c1; have b3n_92 := b3n_9.out.c2; have b3n_9f0 := b3n_9.out.f0; have b3n_9f1 := b3n_9.out.f1; have b3n_9f2 := b3n_9.out.f2; have b3n_9z := b3n_9.out.z; have b2x_9 := Lib.hid (Box2.below b2x_8.out p9); have b2x_90 := b2x_9.out.c0; have b2x_91 := b2x_9.out.c1; have b2x_9f0 := b2x_9.out.f0; have b2x_9f1 := b2x_9.out.f1; have b2x_9z := b2x_9.out.z))
  (try go_wp2_with fail)
  refine hK.out _ _ ?_ (fun hHeld62 => ?_)
  · (try dsimp only)
    ((and_intros <;> (first | (with_reducible assumption) | (go_simp; done) | (simp (maxDischargeDepth := 12) [go_sem]; done) | (simp (maxDischargeDepth := 12) [go_sem, *]; done) | exact (Below.cell (by with_reducible assumption) (by first | (simp; done) | (simp; omega) | omega)).trans (by simp (maxDischargeDepth := 12) [go_sem]))))
  clear hK K hHeld56
  try simp only [Act.put, List.setIfInBounds_toArray, List.set_cons_zero, List.set_cons_succ]
  refine wpAnyH_ready (rs := [21]) (by kernel_rfl) (by simp) ?_
  refine (h4_cons rfl (fun K hK => ?_) AllReadyH.nil)
  go_simp
  ((go_at_call 39; (with_reducible refine (RS.out _).mono ?_); rintro e w10 ⟨rfl, b10⟩; have p10 : Below w9.heap.size w9 w10 := Below.trans (by repeat' (first | (with_reducible assumption) | (with_reducible exact Below.refl _ _) | (with_reducible refine Below.drew ?_) | (with_reducible refine below_drewN ?_ _) | (with_reducible refine Below.alloc ?_ ?_ _) | (with_reducible exact Nat.le_refl _) | (simp; done) | (simp; omega) | omega)) (Below.mono b10 (by first | omega | (simp; done) | (simp; omega))); have b5c_10 := Lib.hid (Box5.below b5c_9.out p10); have b5c_100 := b5c_10.out.c0; have b5c_101 := b5c_10.out.c1; have b5c_102 := b5c_10.out.c2; have b5c_103 := b5c_10.out.c3; have b5c_104 := b5c_10.out.c4; have b5c_10f0 := b5c_10.out.f0; have b5c_10f1 := b5c_10.out.f1; have b5c_10f2 := b5c_10.out.f2; have b5c_10f3 := b5c_10.out.f3; have b5c_10f4 := b5c_10.out.f4; have b5c_10z := b5c_10.out.z; have b3n_10 := Lib.hid (Box3.below b3n_9.out p10); have b3n_100 := b3n_10.out.c0; have b3n_101 := b3n_10.out.c1; have b3n_102 := b3n_10.out.c2; have b3n_10f0 := b3n_10.out.f0; have b3n_10f1 := b3n_10.out.f1; have b3n_10f2 := b3n_10.out.f2; have b3n_10z := b3n_10.out.z; have b2x_10 := Lib.hid (Box2.below b2x_9.out p10); have b2x_100 := b2x_10.out.c0; have b2x_101 := b2x_10.out.c1; have b2x_10f0 := b2x_10.out.f0; have b2x_10f1 := b2x_10.out.f1; have b2x_10z := b2x_10.out.z))
  (try go_wp2_with fail)
  refine hK.out _ _ ?_ (fun hHeld63 => ?_)
  · (try dsimp only)
    ((and_intros <;> (first | (with_reducible assumption) | (go_simp; done) | (simp (maxDischargeDepth := 12) [go_sem]; done) | (simp (maxDischargeDepth := 12) [go_sem, *]; done) | exact (Below.cell (by with_reducible assumption) (by first | (simp; done) | (simp; omega) | omega)).trans (by simp (maxDischargeDepth := 12) [go_sem]))))
  clear hK K hHeld62
  try simp only [Act.put, List.setIfInBounds_toArray, List.set_cons_zero, List.set_cons_succ]
  refine h4_take (i := 22) (v := ?v63) rfl (by kernel_rfl) (by kernel_rfl) (by kernel_rfl) (fun _ _ _ h => h) (by rfl) ?y63 hHeld63 ?r63
  case y63 => (intro wS hSw; (try dsimp only at hSw); go_simp; (try with_reducible rfl))
  try simp only [Act.put, List.setIfInBounds_toArray, List.set_cons_zero, List.set_cons_succ]
  refine h4_take (i := 23) (v := ?v64) rfl (by kernel_rfl) (by kernel_rfl) (by kernel_rfl) (fun _ _ _ h => h) (by rfl) ?y64 hHeld63 ?r64
  case y64 => (intro wS hSw; (try dsimp only at hSw); go_simp; (try with_reducible rfl))
  try simp only [Act.put, List.setIfInBounds_toArray, List.set_cons_zero, List.set_cons_succ]
  refine h4_take (i := 24) (v := ?v65) rfl (by kernel_rfl) (by kernel_rfl) (by kernel_rfl) (fun _ _ _ h => h) (by rfl) ?y65 hHeld63 ?r65
  case y65 => (intro wS hSw; (try dsimp only at hSw); go_simp; (try with_reducible rfl))
  try simp only [Act.put, List.setIfInBounds_toArray, List.set_cons_zero, List.set_cons_succ]
  refine h4_take (i := 25) (v := ?v66) rfl (by kernel_rfl) (by kernel_rfl) (by kernel_rfl) (fun _ _ _ h => h) (by rfl) ?y66 hHeld63 ?r66
  case y66 => (intro wS hSw; (try dsimp only at hSw); go_simp; (try with_reducible rfl))
  try simp only [Act.put, List.setIfInBounds_toArray, List.set_cons_zero, List.set_cons_succ]
  refine h4_take (i := 27) (v := ?v67) rfl (by kernel_rfl) (by kernel_rfl) (by kernel_rfl) (fun _ _ _ h => h) (by rfl) ?y67 hHeld63 ?r67
  case y67 => (intro wS hSw; (try dsimp only at hSw); go_simp; (try with_reducible rfl))
  try simp only [Act.put, List.setIfInBounds_toArray, List.set_cons_zero, List.set_cons_succ]
  refine wpAnyH_ready (rs := [26]) (by kernel_rfl) (by simp) ?_
  refine (h4_cons rfl (fun K hK => ?_) AllReadyH.nil)
  go_simp
  ((go_at_call 29; (with_reducible refine (TR.out _).mono ?_); rintro e w11 ⟨rfl, b11⟩; have p11 : Below w10.heap.size w10 w11 := Below.trans (by repeat' (first | (with_reducible assumption) | (with_reducible exact Below.refl _ _) | (with_reducible refine Below.drew ?_) | (with_reducible refine below_drewN ?_ _) | (with_reducible refine Below.alloc ?_ ?_ _) | (with_reducible exact Nat.le_refl _) | (simp; done) | (simp; omega) | omega)) (Below.mono b11 (by first | omega | (simp; done) | (simp; omega))); have b5c_11 := Lib.hid (Box5.below b5c_10.out p11); have b5c_110 := b5c_11.out.c0; have b5c_111 := b5c_11.out.c1; have b5c_112 := b5c_11.out.c2; have b5c_113 := b5c_11.out.c3; have b5c_114 := b5c_11.out.c4; have b5c_11f0 := b5c_11.out.f0; have b5c_11f1 := b5c_11.out.f1; have b5c_11f2 := b5c_11.out.f2; have b5c_11f3 := b5c_11.out.f3; have b5c_11f4 := b5c_11.out.f4; have b5c_11z := b5c_11.out.z; have b3n_11 := Lib.hid (Box3.below b3n_10.out p11); have b3n_110 := b3n_11.out.c0; have b3n_111 := b3n_11.out.c1; have b3n_112 := b3n_11.out.c2; have b3n_11f0 := b3n_11.out.f0; have b3n_11f1 := b3n_11.out.f1; have b3n_11f2 := b3n_11.out.f2; have b3n_11z := b3n_11.out.z; have b2x_11 := Lib.hid (Box2.below b2x_10.out p11); have b2x_110 := b2x_11.out.c0; have b2x_111 := b2x_11.out.c1; have b2x_11f0 := b2x_11.out.f0; have b2x_11f1 := b2x_11.out.f1; have b2x_11z := b2x_11.out.z))
  (try go_wp2_with fail)
  refine hK.out _ _ ?_ (fun hHeld69 => ?_)
  · (try dsimp only)
    ((and_intros <;> (first | (with_reducible assumption) | (go_simp; done) | (simp (maxDischargeDepth := 12) [go_sem]; done) | (simp (maxDischargeDepth := 12) [go_sem, *]; done) | exact (Below.cell (by with_reducible assumption) (by first | (simp; done) | (simp; omega) | omega)).trans (by simp (maxDischargeDepth := 12) [go_sem]))))
  clear hK K hHeld63
  try simp only [Act.put, List.setIfInBounds_toArray, List.set_cons_zero, List.set_cons_succ]
  refine wpAnyH_ready (rs := [28]) (by kernel_rfl) (by simp) ?_
  refine (h4_cons rfl (fun K hK => ?_) AllReadyH.nil)
  go_simp
  ((go_at_call 40; (with_reducible refine (RT.out _).mono ?_); rintro e w12 ⟨rfl, b12⟩; have p12 : Below w11.heap.size w11 w12 := Below.trans (by repeat' (first | (with_reducible assumption) | (with_reducible exact Below.refl _ _) | (with_reducible refine Below.drew ?_) | (with_reducible refine below_drewN ?_ _) | (with_reducible refine Below.alloc ?_ ?_ _) | (with_reducible exact Nat.le_refl _) | (simp; done) | (simp; omega) | omega)) (Below.mono b12 (by first | omega | (simp; done) | (simp; omega))); have b5c_12 := Lib.hid (Box5.below b5c_11.out p12); have b5c_120 := b5c_12.out.c0; have b5c_121 := b5c_12.out.c1; have b5c_122 := b5c_12.out.c2; have b5c_123 := b5c_12.out.c3; have b5c_124 := b5c_12.out.c4; have b5c_12f0 := b5c_12.out.f0; have b5c_12f1 := b5c_12.out.f1; have b5c_12f2 := b5c_12.out.f2; have b5c_12f3 := b5c_12.out.f3; have b5c_12f4 := b5c_12.out.f4; have b5c_12z := b5c_12.out.z; have b3n_12 := Lib.hid (Box3.below b3n_11.out p12); have b3n_120 := b3n_12.out.c0; have b3n_121 := b3n_12.out.c1; have b3n_122 := b3n_12.out.c2; have b3n_12f0 := b3n_12.out.f0; have b3n_12f1 := b3n_12.out.f1; have b3n_12f2 := b3n_12.out.f2; have b3n_12z := b3n_12.out.z; have b2x_12 := Lib.hid (Box2.below b2x_11.out p12); have b2x_120 := b2x_12.out.c0; have b2x_121 := b2x_12.out.c1; have b2x_12f0 := b2x_12.out.f0; have b2x_12f1 := b2x_12.out.f1; have b2x_12z := b2x_12.out.z))
  (try go_wp2_with fail)
  refine hK.out _ _ ?_ (fun hHeld70 => ?_)
  · (try dsimp only)
    ((and_intros <;> (first | (with_reducible assumption) | (go_simp; done) | (simp (maxDischargeDepth := 12) [go_sem]; done) | (simp (maxDischargeDepth := 12) [go_sem, *]; done) | exact (Below.cell (by with_reducible assumption) (by first | (simp; done) | (simp; omega) | omega)).trans (by simp (maxDischargeDepth := 12) [go_sem]))))
  clear hK K hHeld69
  try simp only [Act.put, List.setIfInBounds_toArray, List.set_cons_zero, List.set_cons_succ]
  refine h4_take (i := 29) (v := ?v70) rfl (by kernel_rfl) (by kernel_rfl) (by kernel_rfl) (fun _ _ _ h => h) (by rfl) ?y70 hHeld70 ?r70
  case y70 => (intro wS hSw; (try dsimp only at hSw); go_simp; (try with_reducible rfl))
  try simp only [Act.put, List.setIfInBounds_toArray, List.set_cons_zero, List.set_cons_succ]
  refine h4_take (i := 30) (v := ?v71) rfl (by kernel_rfl) (by kernel_rfl) (by kernel_rfl) (fun _ _ _ h => h) (by rfl) ?y71 hHeld70 ?r71
  case y71 => (intro wS hSw; (try dsimp only at hSw); go_simp; (try with_reducible rfl))
  try simp only [Act.put, List.setIfInBounds_toArray, List.set_cons_zero, List.set_cons_succ]
  refine wpAnyH_done (by kernel_rfl) ?_ _
  go_upto_region 13 with fail
  have HB12 := Lib.hid (below_step (below_step (below_step (below_step (below_step (below_step (below_step (below_step HB4.out p5) p6) p7) p8) p9) p10) p11) p12)
  clear b5c_4 b5c_4z b5c_40 b5c_41 b5c_42 b5c_43 b5c_44 b5c_4f0 b5c_4f1 b5c_4f2 b5c_4f3 b5c_4f4 b3n_4 b3n_4z b3n_40 b3n_41 b3n_42 b3n_4f0 b3n_4f1 b3n_4f2 b2x_4 b2x_4z b2x_40 b2x_41 b2x_4f0 b2x_4f1 b5c_5 b5c_5z b5c_50 b5c_51 b5c_52 b5c_53 b5c_54 b5c_5f0 b5c_5f1 b5c_5f2 b5c_5f3 b5c_5f4 b3n_5 b3n_5z b3n_50 b3n_51 b3n_52 b3n_5f0 b3n_5f1 b3n_5f2 b2x_5 b2x_5z b2x_50 b2x_51 b2x_5f0 b2x_5f1 b5c_6 b5c_6z b5c_60 b5c_61 b5c_62 b5c_63 b5c_64 b5c_6f0 b5c_6f1 b5c_6f2 b5c_6f3 b5c_6f4 b3n_6 b3n_6z b3n_60 b3n_61 b3n_62 b3n_6f0 b3n_6f1 b3n_6f2 b2x_6 b2x_6z b2x_60 b2x_61 b2x_6f0 b2x_6f1 b5c_7 b5c_7z b5c_70 b5c_71 b5c_72 b5c_73 b5c_74 b5c_7f0 b5c_7f1 b5c_7f2 b5c_7f3 b5c_7f4 b3n_7 b3n_7z b3n_70 b3n_71 b3n_72 b3n_7f0 b3n_7f1 b3n_7f2 b2x_7 b2x_7z b2x_70 b2x_71 b2x_7f0 b2x_7f1 b5c_8 b5c_8z b5c_80 b5c_81 b5c_82 b5c_83 b5c_84 b5c_8f0 b5c_8f1 b5c_8f2 b5c_8f3 b5c_8f4 b3n_8 b3n_8z b3n_80 b3n_81 b3n_82 b3n_8f0 b3n_8f1 b3n_8f2 b2x_8 b2x_8z b2x_80 b2x_81 b2x_8f0 b2x_8f1 b5c_9 b5c_9z b5c_90 b5c_91 b5c_92 b5c_93 b5c_94 b5c_9f0 b5c_9f1 b5c_9f2 b5c_9f3 b5c_9f4 b3n_9 b3n_9z b3n_90 b3n_91 b3n_92 b3n_9f0 b3n_9f1 b3n_9f2 b2x_9 b2x_9z b2x_90 b2x_91 b2x_9f0 b2x_9f1 b5c_10 b5c_10z b5c_100 b5c_101 b5c_102 b5c_103 b5c_104 b5c_10f0 b5c_10f1 b5c_10f2 b5c_10f3 b5c_10f4 b3n_10 b3n_10z b3n_100 b3n_101 b3n_102 b3n_10f0 b3n_10f1 b3n_10f2 b2x_10 b2x_10z b2x_100 b2x_101 b2x_10f0 b2x_10f1 b5c_11 b5c_11z b5c_110 b5c_111 b5c_112 b5c_113 b5c_114 b5c_11f0 b5c_11f1 b5c_11f2 b5c_11f3 b5c_11f4 b3n_11 b3n_11z b3n_110 b3n_111 b3n_112 b3n_11f0 b3n_11f1 b3n_11f2 b2x_11 b2x_11z b2x_110 b2x_111 b2x_11f0 b2x_11f1
  clear b5 b6 b7 b8 b9 b10 b11 b12 p5 p6 p7 p8 p9 p10 p11 p12 HI4 HX5 HX6 HI7 HX7 GD OF SM RS TR RT HB4
  have ez : ((16 + (S.size : Int) : Int) != 16 + (S.size : Int)) = false := by simp
  go_upto_region 18 with (first
    | (go_at_call 32; (with_reducible refine (AR.out _).mono ?_); rintro e w13 ⟨rfl, b13⟩; have p13 : Below w12.heap.size w12 w13 := Below.trans (by repeat' (first | (with_reducible assumption) | (with_reducible exact Below.refl _ _) | (with_reducible refine Below.drew ?_) | (with_reducible refine below_drewN ?_ _) | (with_reducible refine Below.alloc ?_ ?_ _) | (with_reducible exact Nat.le_refl _) | (simp; done) | (simp; omega) | omega)) (Below.mono b13 (by first | omega | (simp; done) | (simp; omega))); have b5c_13 := Lib.hid (Box5.below b5c_12.out p13); have b5c_130 := b5c_13.out.c0; have b5c_131 := b5c_13.out.c1; have b5c_132 := b5c_13.out.c2; have b5c_133 := b5c_13.out.c3; have b5c_134 := b5c_13.out.c4; have b5c_13f0 := b5c_13.out.f0; have b5c_13f1 := b5c_13.out.f1; have b5c_13f2 := b5c_13.out.f2; have b5c_13f3 := b5c_13.out.f3; have b5c_13f4 := b5c_13.out.f4; have b5c_13z := b5c_13.out.z; have b3n_13 := Lib.hid (Box3.below b3n_12.out p13); have b3n_130 := b3n_13.out.c0; have b3n_131 := b3n_13.out.c1; have b3n_132 := b3n_13.out.c2; have b3n_13f0 := b3n_13.out.f0; have b3n_13f1 := b3n_13.out.f1; have b3n_13f2 := b3n_13.out.f2; have b3n_13z := b3n_13.out.z)
    | (go_at_call 16; (with_reducible refine (CO.out _).mono ?_); rintro e w14 ⟨rfl, b14⟩; have p14 : Below w13.heap.size w13 w14 := Below.trans (by repeat' (first | (with_reducible assumption) | (with_reducible exact Below.refl _ _) | (with_reducible refine Below.drew ?_) | (with_reducible refine below_drewN ?_ _) | (with_reducible refine Below.alloc ?_ ?_ _) | (with_reducible exact Nat.le_refl _) | (simp; done) | (simp; omega) | omega)) (Below.mono b14 (by first | omega | (simp; done) | (simp; omega))); have b5c_14 := Lib.hid (Box5.below b5c_13.out p14); have b5c_140 := b5c_14.out.c0; have b5c_141 := b5c_14.out.c1; have b5c_142 := b5c_14.out.c2; have b5c_143 := b5c_14.out.c3; have b5c_144 := b5c_14.out.c4; have b5c_14f0 := b5c_14.out.f0; have b5c_14f1 := b5c_14.out.f1; have b5c_14f2 := b5c_14.out.f2; have b5c_14f3 := b5c_14.out.f3; have b5c_14f4 := b5c_14.out.f4; have b5c_14z := b5c_14.out.z; have b3n_14 := Lib.hid (Box3.below b3n_13.out p14); have b3n_140 := b3n_14.out.c0; have b3n_141 := b3n_14.out.c1; have b3n_142 := b3n_14.out.c2; have b3n_14f0 := b3n_14.out.f0; have b3n_14f1 := b3n_14.out.f1; have b3n_14f2 := b3n_14.out.f2; have b3n_14z := b3n_14.out.z; have b5y_14 := Lib.hid ((Box5.make w13 (.string P) (.bool xa) (.int .u64 xh) (.int .u64 xl) (.bool true) 55 rfl).below b14); have b5y_140 := b5y_14.out.c0; have b5y_141 := b5y_14.out.c1; have b5y_142 := b5y_14.out.c2; have b5y_143 := b5y_14.out.c3; have b5y_144 := b5y_14.out.c4; have b5y_14f0 := b5y_14.out.f0; have b5y_14f1 := b5y_14.out.f1; have b5y_14f2 := b5y_14.out.f2; have b5y_14f3 := b5y_14.out.f3; have b5y_14f4 := b5y_14.out.f4; have b5y_14z := b5y_14.out.z)
    | (go_at_call 33; (with_reducible refine (SZ.out _).mono ?_); rintro e w15 ⟨rfl, b15⟩; have p15 : Below w14.heap.size w14 w15 := Below.trans (by repeat' (first | (with_reducible assumption) | (with_reducible exact Below.refl _ _) | (with_reducible refine Below.drew ?_) | (with_reducible refine below_drewN ?_ _) | (with_reducible refine Below.alloc ?_ ?_ _) | (with_reducible exact Nat.le_refl _) | (simp; done) | (simp; omega) | omega)) (Below.mono b15 (by first | omega | (simp; done) | (simp; omega))); have b5c_15 := Lib.hid (Box5.below b5c_14.out p15); have b5c_150 := b5c_15.out.c0; have b5c_151 := b5c_15.out.c1; have b5c_152 := b5c_15.out.c2; have b5c_153 := b5c_15.out.c3; have b5c_154 := b5c_15.out.c4; have b5c_15f0 := b5c_15.out.f0; have b5c_15f1 := b5c_15.out.f1; have b5c_15f2 := b5c_15.out.f2; have b5c_15f3 := b5c_15.out.f3; have b5c_15f4 := b5c_15.out.f4; have b5c_15z := b5c_15.out.z; have b3n_15 := Lib.hid (Box3.below b3n_14.out p15); have b3n_150 := b3n_15.out.c0; have b3n_151 := b3n_15.out.c1; have b3n_152 := b3n_15.out.c2; have b3n_15f0 := b3n_15.out.f0; have b3n_15f1 := b3n_15.out.f1; have b3n_15f2 := b3n_15.out.f2; have b3n_15z := b3n_15.out.z; have b5y_15 := Lib.hid (Box5.below b5y_14.out p15); have b5y_150 := b5y_15.out.c0; have b5y_151 := b5y_15.out.c1; have b5y_152 := b5y_15.out.c2; have b5y_153 := b5y_15.out.c3; have b5y_154 := b5y_15.out.c4; have b5y_15f0 := b5y_15.out.f0; have b5y_15f1 := b5y_15.out.f1; have b5y_15f2 := b5y_15.out.f2; have b5y_15f3 := b5y_15.out.f3; have b5y_15f4 := b5y_15.out.f4; have b5y_15z := b5y_15.out.z))
  have HB15 := Lib.hid (below_step (below_step (below_step HB12.out p13) p14) p15)
  clear b5c_12 b5c_12z b5c_120 b5c_121 b5c_122 b5c_123 b5c_124 b5c_12f0 b5c_12f1 b5c_12f2 b5c_12f3 b5c_12f4 b3n_12 b3n_12z b3n_120 b3n_121 b3n_122 b3n_12f0 b3n_12f1 b3n_12f2 b5c_13 b5c_13z b5c_130 b5c_131 b5c_132 b5c_133 b5c_134 b5c_13f0 b5c_13f1 b5c_13f2 b5c_13f3 b5c_13f4 b3n_13 b3n_13z b3n_130 b3n_131 b3n_132 b3n_13f0 b3n_13f1 b3n_13f2 b5c_14 b5c_14z b5c_140 b5c_141 b5c_142 b5c_143 b5c_144 b5c_14f0 b5c_14f1 b5c_14f2 b5c_14f3 b5c_14f4 b3n_14 b3n_14z b3n_140 b3n_141 b3n_142 b3n_14f0 b3n_14f1 b3n_14f2
  clear b5y_14 b5y_14z b5y_140 b5y_141 b5y_142 b5y_143 b5y_144 b5y_14f0 b5y_14f1 b5y_14f2 b5y_14f3 b5y_14f4
  clear b13 b14 b15 p13 p14 p15 HB12 AR CO SZ
  refine wp_region_held_drew (S := (fun w' => w'.cell? ⟨w.heap.size, 0, none⟩ = some (.int .i64 1) ∧ w'.cell? ⟨w.heap.size, 1, none⟩ = some (.string S) ∧ w'.cell? ⟨w.heap.size, 2, none⟩ = some (.bool n) ∧ w'.cell? ⟨w.heap.size, 3, none⟩ = some (.int .u64 h) ∧ w'.cell? ⟨w.heap.size, 4, none⟩ = some (.int .u64 l) ∧ w'.cell? ⟨w2.heap.size, 0, none⟩ = some (.bool xa) ∧ w'.cell? ⟨w2.heap.size, 1, none⟩ = some (.int .u64 xh) ∧ w'.cell? ⟨w2.heap.size, 2, none⟩ = some (.int .u64 xl) ∧ w'.cell? ⟨w13.heap.size, 0, none⟩ = some (.string P) ∧ w'.cell? ⟨w13.heap.size, 1, none⟩ = some (.bool xa) ∧ w'.cell? ⟨w13.heap.size, 2, none⟩ = some (.int .u64 xh) ∧ w'.cell? ⟨w13.heap.size, 3, none⟩ = some (.int .u64 xl) ∧ w'.cell? ⟨w13.heap.size, 4, none⟩ = some (.bool true))) (by kernel_rfl) ?_ (fun hHeld => ?_)
  · (try dsimp only)
    ((and_intros <;> (first | (with_reducible assumption) | (go_simp; done) | (simp (maxDischargeDepth := 12) [go_sem]; done) | (simp (maxDischargeDepth := 12) [go_sem, *]; done) | exact (Below.cell (by with_reducible assumption) (by first | (simp; done) | (simp; omega) | omega)).trans (by simp (maxDischargeDepth := 12) [go_sem]))))
  refine h4_take (i := 0) (v := ?v72) rfl (by kernel_rfl) (by kernel_rfl) (by kernel_rfl) (fun _ _ _ h => h) (by rfl) ?y72 hHeld ?r72
  case y72 => (intro wS hSw; (try dsimp only at hSw); go_simp; (try with_reducible rfl))
  try simp only [Act.put, List.setIfInBounds_toArray, List.set_cons_zero, List.set_cons_succ]
  refine h4_take (i := 1) (v := ?v73) rfl (by kernel_rfl) (by kernel_rfl) (by kernel_rfl) (fun _ _ _ h => h) (by rfl) ?y73 hHeld ?r73
  case y73 => (intro wS hSw; (try dsimp only at hSw); go_simp; (try with_reducible rfl))
  try simp only [Act.put, List.setIfInBounds_toArray, List.set_cons_zero, List.set_cons_succ]
  refine h4_take (i := 3) (v := ?v74) rfl (by kernel_rfl) (by kernel_rfl) (by kernel_rfl) (fun _ _ _ h => h) (by rfl) ?y74 hHeld ?r74
  case y74 => (intro wS hSw; (try dsimp only at hSw); go_simp; (try with_reducible rfl))
  try simp only [Act.put, List.setIfInBounds_toArray, List.set_cons_zero, List.set_cons_succ]
  refine h4_take (i := 4) (v := ?v75) rfl (by kernel_rfl) (by kernel_rfl) (by kernel_rfl) (fun _ _ _ h => h) (by rfl) ?y75 hHeld ?r75
  case y75 => (intro wS hSw; (try dsimp only at hSw); go_simp; (try with_reducible rfl))
  try simp only [Act.put, List.setIfInBounds_toArray, List.set_cons_zero, List.set_cons_succ]
  refine wpAnyH_ready (rs := [2]) (by kernel_rfl) (by simp) ?_
  refine (h4_cons rfl (fun K hK => ?_) AllReadyH.nil)
  go_simp
  ((go_at_call 30; (with_reducible refine (ST.out _).mono ?_); rintro e w16 ⟨rfl, b16⟩; have p16 : Below w15.heap.size w15 w16 := Below.trans (by repeat' (first | (with_reducible assumption) | (with_reducible exact Below.refl _ _) | (with_reducible refine Below.drew ?_) | (with_reducible refine below_drewN ?_ _) | (with_reducible refine Below.alloc ?_ ?_ _) | (with_reducible exact Nat.le_refl _) | (simp; done) | (simp; omega) | omega)) (Below.mono b16 (by first | omega | (simp; done) | (simp; omega))); have b5c_16 := Lib.hid (Box5.below b5c_15.out p16); have b5c_160 := b5c_16.out.c0; have b5c_161 := b5c_16.out.c1; have b5c_162 := b5c_16.out.c2; have b5c_163 := b5c_16.out.c3; have b5c_164 := b5c_16.out.c4; have b5c_16f0 := b5c_16.out.f0; have b5c_16f1 := b5c_16.out.f1; have b5c_16f2 := b5c_16.out.f2; have b5c_16f3 := b5c_16.out.f3; have b5c_16f4 := b5c_16.out.f4; have b5c_16z := b5c_16.out.z; have b3n_16 := Lib.hid (Box3.below b3n_15.out p16); have b3n_160 := b3n_16.out.c0; have b3n_161 := b3n_16.out.c1; have b3n_162 := b3n_16.out.c2; have b3n_16f0 := b3n_16.out.f0; have b3n_16f1 := b3n_16.out.f1; have b3n_16f2 := b3n_16.out.f2; have b3n_16z := b3n_16.out.z; have b5y_16 := Lib.hid (Box5.below b5y_15.out p16); have b5y_160 := b5y_16.out.c0; have b5y_161 := b5y_16.out.c1; have b5y_162 := b5y_16.out.c2; have b5y_163 := b5y_16.out.c3; have b5y_164 := b5y_16.out.c4; have b5y_16f0 := b5y_16.out.f0; have b5y_16f1 := b5y_16.out.f1; have b5y_16f2 := b5y_16.out.f2; have b5y_16f3 := b5y_16.out.f3; have b5y_16f4 := b5y_16.out.f4; have b5y_16z := b5y_16.out.z))
  (try go_wp2_with fail)
  refine hK.out _ _ ?_ (fun hHeld77 => ?_)
  · (try dsimp only)
    ((and_intros <;> (first | (with_reducible assumption) | (go_simp; done) | (simp (maxDischargeDepth := 12) [go_sem]; done) | (simp (maxDischargeDepth := 12) [go_sem, *]; done) | exact (Below.cell (by with_reducible assumption) (by first | (simp; done) | (simp; omega) | omega)).trans (by simp (maxDischargeDepth := 12) [go_sem]))))
  clear hK K hHeld
  try simp only [Act.put, List.setIfInBounds_toArray, List.set_cons_zero, List.set_cons_succ]
  refine h4_take (i := 5) (v := ?v77) rfl (by kernel_rfl) (by kernel_rfl) (by kernel_rfl) (fun _ _ _ h => h) (by rfl) ?y77 hHeld77 ?r77
  case y77 => (intro wS hSw; (try dsimp only at hSw); go_simp; (try with_reducible rfl))
  try simp only [Act.put, List.setIfInBounds_toArray, List.set_cons_zero, List.set_cons_succ]
  refine h4_take (i := 6) (v := ?v78) rfl (by kernel_rfl) (by kernel_rfl) (by kernel_rfl) (fun _ _ _ h => h) (by rfl) ?y78 hHeld77 ?r78
  case y78 => (intro wS hSw; (try dsimp only at hSw); go_simp; (try with_reducible rfl))
  try simp only [Act.put, List.setIfInBounds_toArray, List.set_cons_zero, List.set_cons_succ]
  refine h4_take (i := 7) (v := ?v79) rfl (by kernel_rfl) (by kernel_rfl) (by kernel_rfl) (fun _ _ _ h => h) (by rfl) ?y79 hHeld77 ?r79
  case y79 => (intro wS hSw; (try dsimp only at hSw); go_simp; (try with_reducible rfl))
  try simp only [Act.put, List.setIfInBounds_toArray, List.set_cons_zero, List.set_cons_succ]
  refine h4_take (i := 8) (v := ?v80) rfl (by kernel_rfl) (by kernel_rfl) (by kernel_rfl) (fun _ _ _ h => h) (by rfl) ?y80 hHeld77 ?r80
  case y80 => (intro wS hSw; (try dsimp only at hSw); go_simp; (try with_reducible rfl))
  try simp only [Act.put, List.setIfInBounds_toArray, List.set_cons_zero, List.set_cons_succ]
  refine h4_take (i := 9) (v := ?v81) rfl (by kernel_rfl) (by kernel_rfl) (by kernel_rfl) (fun _ _ _ h => h) (by rfl) ?y81 hHeld77 ?r81
  case y81 => (intro wS hSw; (try dsimp only at hSw); go_simp; (try with_reducible rfl))
  try simp only [Act.put, List.setIfInBounds_toArray, List.set_cons_zero, List.set_cons_succ]
  refine h4_skip (i := 10) rfl (by kernel_rfl) (by kernel_rfl) (by kernel_rfl) (fun _ _ _ h => h) (by rfl) hHeld77 ?_
  try simp only [Act.put, List.setIfInBounds_toArray, List.set_cons_zero, List.set_cons_succ]
  refine h4_skip (i := 11) rfl (by kernel_rfl) (by kernel_rfl) (by kernel_rfl) (fun _ _ _ h => h) (by rfl) hHeld77 ?_
  try simp only [Act.put, List.setIfInBounds_toArray, List.set_cons_zero, List.set_cons_succ]
  refine h4_skip (i := 12) rfl (by kernel_rfl) (by kernel_rfl) (by kernel_rfl) (fun _ _ _ h => h) (by rfl) hHeld77 ?_
  try simp only [Act.put, List.setIfInBounds_toArray, List.set_cons_zero, List.set_cons_succ]
  refine h4_take (i := 13) (v := ?v82) rfl (by kernel_rfl) (by kernel_rfl) (by kernel_rfl) (fun _ _ _ h => h) (by rfl) ?y82 hHeld77 ?r82
  case y82 => (intro wS hSw; (try dsimp only at hSw); go_simp; (try with_reducible rfl))
  try simp only [Act.put, List.setIfInBounds_toArray, List.set_cons_zero, List.set_cons_succ]
  refine h4_take (i := 14) (v := ?v83) rfl (by kernel_rfl) (by kernel_rfl) (by kernel_rfl) (fun _ _ _ h => h) (by rfl) ?y83 hHeld77 ?r83
  case y83 => (intro wS hSw; (try dsimp only at hSw); go_simp; (try with_reducible rfl))
  try simp only [Act.put, List.setIfInBounds_toArray, List.set_cons_zero, List.set_cons_succ]
  refine h4_take (i := 15) (v := ?v84) rfl (by kernel_rfl) (by kernel_rfl) (by kernel_rfl) (fun _ _ _ h => h) (by rfl) ?y84 hHeld77 ?r84
  case y84 => (intro wS hSw; (try dsimp only at hSw); go_simp; (try with_reducible rfl))
  try simp only [Act.put, List.setIfInBounds_toArray, List.set_cons_zero, List.set_cons_succ]
  refine h4_take (i := 16) (v := ?v85) rfl (by kernel_rfl) (by kernel_rfl) (by kernel_rfl) (fun _ _ _ h => h) (by rfl) ?y85 hHeld77 ?r85
  case y85 => (intro wS hSw; (try dsimp only at hSw); go_simp; (try with_reducible rfl))
  try simp only [Act.put, List.setIfInBounds_toArray, List.set_cons_zero, List.set_cons_succ]
  refine h4_take (i := 17) (v := ?v86) rfl (by kernel_rfl) (by kernel_rfl) (by kernel_rfl) (fun _ _ _ h => h) (by rfl) ?y86 hHeld77 ?r86
  case y86 => (intro wS hSw; (try dsimp only at hSw); go_simp; (try with_reducible rfl))
  try simp only [Act.put, List.setIfInBounds_toArray, List.set_cons_zero, List.set_cons_succ]
  refine wpAnyH_done (by kernel_rfl) ?_ _
  go_wp2_with fail
  all_goals
    go_ret
    exact ⟨by simp [*], by refine (below_step HB15.out p16).trans ?_; (repeat' (first | (with_reducible exact Below.refl _ _) | (refine Below.trans ?_ (Below.mono (by with_reducible assumption) ?_)) | (with_reducible exact Below.refl _ _) | (with_reducible refine below_drewN ?_ _) | (with_reducible refine Below.drew ?_) | (with_reducible refine Below.setCell ?_ ?_ _) | (with_reducible refine Below.alloc ?_ ?_ _) | (with_reducible assumption) | (simp; done) | (simp; omega) | omega))⟩
set_option maxRecDepth 100000 in
set_option maxHeartbeats 6400000 in
theorem ctells_rest {k : Int} {S P : ByteArray} (hS : S.size ≤ 200) {n : Bool} {h l : Int} {xa : Bool} {xh xl : Int} {N : Nat} {b fl : Bool} (hk1 : (k == 1) = false) (hk3 : (k == 3) = fl)
    (NU0 : ∀ W, Calls Try.prog 34 #[.agg #[.int .i64 k, .string S, .bool n, .int .u64 h, .int .u64 l]] W fun e w' => e = .returned (.tuple #[.agg #[.bool xa, .int .u64 xh, .int .u64 xl], .nilIface]) ∧ Below W.heap.size W w')
    (RN0 : ∀ W, Calls Try.prog 36 #[.agg #[.int .i64 k, .string S, .bool n, .int .u64 h, .int .u64 l]] W (RNum xa N 0 W))
    (RG0 : ∀ W, Calls Try.prog 37 #[.agg #[.int .i64 k, .string S, .bool n, .int .u64 h, .int .u64 l]] W fun e w' => e = .returned (.bool true) ∧ Below W.heap.size W w')
    (GD0 : ∀ W, Calls Try.prog 24 #[.agg #[.int .i64 k, .string S, .bool n, .int .u64 h, .int .u64 l]] W fun e w' => e = .returned (.bool true) ∧ Below W.heap.size W w')
    (CO0 : ∀ W, Calls Try.prog 16 #[.nilIface] W fun e w' => e = .returned (.int .i64 0) ∧ Below W.heap.size W w')
    (OF0 : ∀ W, Calls Try.prog 18 #[.agg #[.bool xa, .int .u64 xh, .int .u64 xl]] W fun e w' => (∃ A c, e = .returned (.agg #[.bool xa, .slice A (dg N).length c]) ∧ RI w' w'.heap.size A (dg N)) ∧ Below W.heap.size W w')
    (SM0 : ∀ (A A' : Option Addr) (c c' : Nat) (W1 W : World), RI W1 W1.heap.size A (dg N) → RI W1 W1.heap.size A' (dg N) → Below W1.heap.size W1 W → Calls Try.prog 38 #[.agg #[.bool xa, .slice A (dg N).length c], .agg #[.bool xa, .slice A' (dg N).length c']] W fun e w' => e = .returned (.bool true) ∧ Below W.heap.size W w')
    (ST0 : ∀ W, Calls Try.prog 30 #[.agg #[.int .i64 k, .string S, .bool n, .int .u64 h, .int .u64 l]] W fun e w' => e = .returned (.string P) ∧ Below W.heap.size W w')
    (RS0 : ∀ W, Calls Try.prog 39 #[.agg #[.int .i64 k, .string S, .bool n, .int .u64 h, .int .u64 l]] W fun e w' => e = .returned (.string P) ∧ Below W.heap.size W w')
    (TR0 : ∀ W, Calls Try.prog 29 #[.agg #[.int .i64 k, .string S, .bool n, .int .u64 h, .int .u64 l]] W fun e w' => e = .returned (.bool b) ∧ Below W.heap.size W w')
    (RT0 : ∀ W, Calls Try.prog 40 #[.agg #[.int .i64 k, .string S, .bool n, .int .u64 h, .int .u64 l]] W fun e w' => e = .returned (.bool b) ∧ Below W.heap.size W w')
    (AR0 : ∀ W, Calls Try.prog 32 #[.agg #[.int .i64 k, .string S, .bool n, .int .u64 h, .int .u64 l]] W fun e w' => e = .returned (.tuple #[.agg #[.string P, .bool xa, .int .u64 xh, .int .u64 xl, .bool fl], .nilIface]) ∧ Below W.heap.size W w')
    (SZ0 : ∀ W, Calls Try.prog 33 #[.agg #[.int .i64 k, .string S, .bool n, .int .u64 h, .int .u64 l]] W fun e w' => e = .returned (.int .i64 (16 + (S.size : Int))) ∧ Below W.heap.size W w') (w : World) :
    Calls Try.prog 10 #[.agg #[.int .i64 k, .string S, .bool n, .int .u64 h, .int .u64 l]] w fun e w' => e = .returned (.bool true) ∧ Below w.heap.size w w' := by
  have NU := Lib.hid NU0; have RG := Lib.hid RG0; have GD := Lib.hid GD0; have CO := Lib.hid CO0; have ST := Lib.hid ST0; have RS := Lib.hid RS0; have TR := Lib.hid TR0; have RT := Lib.hid RT0; have AR := Lib.hid AR0; have SZ := Lib.hid SZ0
  obtain ⟨LN, hLN⟩ : ∃ x, x = (dg N).length := ⟨_, rfl⟩
  obtain ⟨D, hD⟩ : ∃ x, x = dg N := ⟨_, rfl⟩
  unfold RNum at RN0
  rw [← hLN] at RN0 OF0 SM0
  rw [← hD] at RN0 OF0 SM0
  have RN := Lib.hid RN0; have OF := Lib.hid OF0; have SM := Lib.hid SM0
  have HA := Lib.hid (Box5.make w (.int .i64 k) (.string S) (.bool n) (.int .u64 h) (.int .u64 l) 41 rfl)
  have eb : (b != b) = false := by simp
  clear NU0 RN0 RG0 GD0 CO0 OF0 SM0 ST0 RS0 TR0 RT0 AR0 SZ0 hLN hD
  go_enter Try.func10, Try.ntmps10
  go_upto_region 8 with (first
    | (go_at_call 20; refine (awake9_any _).mono ?_; rintro e w1 ⟨rfl, b1⟩; have zz1 := b1.size; have b5c_1 := Lib.hid (HA.out.below b1); have b5c_10 := b5c_1.out.c0; have b5c_11 := b5c_1.out.c1; have b5c_12 := b5c_1.out.c2; have b5c_13 := b5c_1.out.c3; have b5c_14 := b5c_1.out.c4; have b5c_1f0 := b5c_1.out.f0; have b5c_1f1 := b5c_1.out.f1; have b5c_1f2 := b5c_1.out.f2; have b5c_1f3 := b5c_1.out.f3; have b5c_1f4 := b5c_1.out.f4; have b5c_1z := b5c_1.out.z)
    | (go_at_call 34; (with_reducible refine (NU.out _).mono ?_); rintro e w2 ⟨rfl, b2⟩; have p2 : Below w1.heap.size w1 w2 := Below.trans (by repeat' (first | (with_reducible assumption) | (with_reducible exact Below.refl _ _) | (with_reducible refine Below.drew ?_) | (with_reducible refine below_drewN ?_ _) | (with_reducible refine Below.alloc ?_ ?_ _) | (with_reducible exact Nat.le_refl _) | (simp; done) | (simp; omega) | omega)) (Below.mono b2 (by first | omega | (simp; done) | (simp; omega))); have b5c_2 := Lib.hid (Box5.below b5c_1.out p2); have b5c_20 := b5c_2.out.c0; have b5c_21 := b5c_2.out.c1; have b5c_22 := b5c_2.out.c2; have b5c_23 := b5c_2.out.c3; have b5c_24 := b5c_2.out.c4; have b5c_2f0 := b5c_2.out.f0; have b5c_2f1 := b5c_2.out.f1; have b5c_2f2 := b5c_2.out.f2; have b5c_2f3 := b5c_2.out.f3; have b5c_2f4 := b5c_2.out.f4; have b5c_2z := b5c_2.out.z)
    | (go_at_call 36; (with_reducible refine (RN.out _).mono ?_); rintro e w3 ⟨⟨A3, c3, rfl, hi⟩, b3⟩; have p3 : Below w2.heap.size w2 w3 := Below.trans (by repeat' (first | (with_reducible assumption) | (with_reducible exact Below.refl _ _) | (with_reducible refine Below.drew ?_) | (with_reducible refine below_drewN ?_ _) | (with_reducible refine Below.alloc ?_ ?_ _) | (with_reducible exact Nat.le_refl _) | (simp; done) | (simp; omega) | omega)) (Below.mono b3 (by first | omega | (simp; done) | (simp; omega))); have b5c_3 := Lib.hid (Box5.below b5c_2.out p3); have b5c_30 := b5c_3.out.c0; have b5c_31 := b5c_3.out.c1; have b5c_32 := b5c_3.out.c2; have b5c_33 := b5c_3.out.c3; have b5c_34 := b5c_3.out.c4; have b5c_3f0 := b5c_3.out.f0; have b5c_3f1 := b5c_3.out.f1; have b5c_3f2 := b5c_3.out.f2; have b5c_3f3 := b5c_3.out.f3; have b5c_3f4 := b5c_3.out.f4; have b5c_3z := b5c_3.out.z; have b3n_3 := Lib.hid ((Box3.make w2 (.bool xa) (.int .u64 xh) (.int .u64 xl) 24 rfl).below b3); have b3n_30 := b3n_3.out.c0; have b3n_31 := b3n_3.out.c1; have b3n_32 := b3n_3.out.c2; have b3n_3f0 := b3n_3.out.f0; have b3n_3f1 := b3n_3.out.f1; have b3n_3f2 := b3n_3.out.f2; have b3n_3z := b3n_3.out.z; have HI3 := Lib.hid hi; clear hi)
    | (go_at_call 37; (with_reducible refine (RG.out _).mono ?_); rintro e w4 ⟨rfl, b4⟩; have p4 : Below w3.heap.size w3 w4 := Below.trans (by repeat' (first | (with_reducible assumption) | (with_reducible exact Below.refl _ _) | (with_reducible refine Below.drew ?_) | (with_reducible refine below_drewN ?_ _) | (with_reducible refine Below.alloc ?_ ?_ _) | (with_reducible exact Nat.le_refl _) | (simp; done) | (simp; omega) | omega)) (Below.mono b4 (by first | omega | (simp; done) | (simp; omega))); have b5c_4 := Lib.hid (Box5.below b5c_3.out p4); have b5c_40 := b5c_4.out.c0; have b5c_41 := b5c_4.out.c1; have b5c_42 := b5c_4.out.c2; have b5c_43 := b5c_4.out.c3; have b5c_44 := b5c_4.out.c4; have b5c_4f0 := b5c_4.out.f0; have b5c_4f1 := b5c_4.out.f1; have b5c_4f2 := b5c_4.out.f2; have b5c_4f3 := b5c_4.out.f3; have b5c_4f4 := b5c_4.out.f4; have b5c_4z := b5c_4.out.z; have b3n_4 := Lib.hid (Box3.below b3n_3.out p4); have b3n_40 := b3n_4.out.c0; have b3n_41 := b3n_4.out.c1; have b3n_42 := b3n_4.out.c2; have b3n_4f0 := b3n_4.out.f0; have b3n_4f1 := b3n_4.out.f1; have b3n_4f2 := b3n_4.out.f2; have b3n_4z := b3n_4.out.z; have b2x_4 := Lib.hid ((Box2.make w3 (.bool xa) (.slice A3 LN c3) 34 rfl).below b4); have b2x_40 := b2x_4.out.c0; have b2x_41 := b2x_4.out.c1; have b2x_4f0 := b2x_4.out.f0; have b2x_4f1 := b2x_4.out.f1; have b2x_4z := b2x_4.out.z; have HI4 := Lib.hid ((HI3.out.below p4).more p4.size)))
  have HB4 := Lib.hid (show Below w.heap.size w w4 by (repeat' (first | (with_reducible exact Below.refl _ _) | (refine Below.trans ?_ (Below.mono (by with_reducible assumption) ?_)) | (with_reducible exact Below.refl _ _) | (with_reducible refine below_drewN ?_ _) | (with_reducible refine Below.drew ?_) | (with_reducible refine Below.setCell ?_ ?_ _) | (with_reducible refine Below.alloc ?_ ?_ _) | (with_reducible assumption) | (simp; done) | (simp; omega) | omega)))
  clear b5c_1 b5c_1z b5c_10 b5c_11 b5c_12 b5c_13 b5c_14 b5c_1f0 b5c_1f1 b5c_1f2 b5c_1f3 b5c_1f4 b5c_2 b5c_2z b5c_20 b5c_21 b5c_22 b5c_23 b5c_24 b5c_2f0 b5c_2f1 b5c_2f2 b5c_2f3 b5c_2f4 b5c_3 b5c_3z b5c_30 b5c_31 b5c_32 b5c_33 b5c_34 b5c_3f0 b5c_3f1 b5c_3f2 b5c_3f3 b5c_3f4
  clear b3n_3 b3n_3z b3n_30 b3n_31 b3n_32 b3n_3f0 b3n_3f1 b3n_3f2
  clear b1 b2 b3 b4 p2 p3 p4 HA HI3 NU RN RG
  refine wp_region_held_drew (S := (fun w' => w'.cell? ⟨w.heap.size, 0, none⟩ = some (.int .i64 k) ∧ w'.cell? ⟨w.heap.size, 1, none⟩ = some (.string S) ∧ w'.cell? ⟨w.heap.size, 2, none⟩ = some (.bool n) ∧ w'.cell? ⟨w.heap.size, 3, none⟩ = some (.int .u64 h) ∧ w'.cell? ⟨w.heap.size, 4, none⟩ = some (.int .u64 l) ∧ w'.cell? ⟨w2.heap.size, 0, none⟩ = some (.bool xa) ∧ w'.cell? ⟨w2.heap.size, 1, none⟩ = some (.int .u64 xh) ∧ w'.cell? ⟨w2.heap.size, 2, none⟩ = some (.int .u64 xl) ∧ w'.cell? ⟨w3.heap.size, 0, none⟩ = some (.bool xa) ∧ w'.cell? ⟨w3.heap.size, 1, none⟩ = some (.slice A3 LN c3))) (by kernel_rfl) ?_ (fun hHeld => ?_)
  · (try dsimp only)
    ((and_intros <;> (first | (with_reducible assumption) | (go_simp; done) | (simp (maxDischargeDepth := 12) [go_sem]; done) | (simp (maxDischargeDepth := 12) [go_sem, *]; done) | exact (Below.cell (by with_reducible assumption) (by first | (simp; done) | (simp; omega) | omega)).trans (by simp (maxDischargeDepth := 12) [go_sem]))))
  refine h4_take (i := 0) (v := ?v87) rfl (by kernel_rfl) (by kernel_rfl) (by kernel_rfl) (fun _ _ _ h => h) (by rfl) ?y87 hHeld ?r87
  case y87 => (intro wS hSw; (try dsimp only at hSw); go_simp; (try with_reducible rfl))
  try simp only [Act.put, List.setIfInBounds_toArray, List.set_cons_zero, List.set_cons_succ]
  refine h4_take (i := 2) (v := ?v88) rfl (by kernel_rfl) (by kernel_rfl) (by kernel_rfl) (fun _ _ _ h => h) (by rfl) ?y88 hHeld ?r88
  case y88 => (intro wS hSw; (try dsimp only at hSw); go_simp; (try with_reducible rfl))
  try simp only [Act.put, List.setIfInBounds_toArray, List.set_cons_zero, List.set_cons_succ]
  refine wpAnyH_ready (rs := [1]) (by kernel_rfl) (by simp) ?_
  refine (h4_cons rfl (fun K hK => ?_) AllReadyH.nil)
  go_simp
  ((go_at_call 24; (with_reducible refine (GD.out _).mono ?_); rintro e w5 ⟨rfl, b5⟩; have p5 : Below w4.heap.size w4 w5 := Below.trans (by repeat' (first | (with_reducible assumption) | (with_reducible exact Below.refl _ _) | (with_reducible refine Below.drew ?_) | (with_reducible refine below_drewN ?_ _) | (with_reducible refine Below.alloc ?_ ?_ _) | (with_reducible exact Nat.le_refl _) | (simp; done) | (simp; omega) | omega)) (Below.mono b5 (by first | omega | (simp; done) | (simp; omega))); have b5c_5 := Lib.hid (Box5.below b5c_4.out p5); have b5c_50 := b5c_5.out.c0; have b5c_51 := b5c_5.out.c1; have b5c_52 := b5c_5.out.c2; have b5c_53 := b5c_5.out.c3; have b5c_54 := b5c_5.out.c4; have b5c_5f0 := b5c_5.out.f0; have b5c_5f1 := b5c_5.out.f1; have b5c_5f2 := b5c_5.out.f2; have b5c_5f3 := b5c_5.out.f3; have b5c_5f4 := b5c_5.out.f4; have b5c_5z := b5c_5.out.z; have b3n_5 := Lib.hid (Box3.below b3n_4.out p5); have b3n_50 := b3n_5.out.c0; have b3n_51 := b3n_5.out.c1; have b3n_52 := b3n_5.out.c2; have b3n_5f0 := b3n_5.out.f0; have b3n_5f1 := b3n_5.out.f1; have b3n_5f2 := b3n_5.out.f2; have b3n_5z := b3n_5.out.z; have b2x_5 := Lib.hid (Box2.below b2x_4.out p5); have b2x_50 := b2x_5.out.c0; have b2x_51 := b2x_5.out.c1; have b2x_5f0 := b2x_5.out.f0; have b2x_5f1 := b2x_5.out.f1; have b2x_5z := b2x_5.out.z; have HX5 := Lib.hid ((HI4.out.below p5).more p5.size)))
  (try go_wp2_with fail)
  refine hK.out _ _ ?_ (fun hHeld90 => ?_)
  · (try dsimp only)
    ((and_intros <;> (first | (with_reducible assumption) | (go_simp; done) | (simp (maxDischargeDepth := 12) [go_sem]; done) | (simp (maxDischargeDepth := 12) [go_sem, *]; done) | exact (Below.cell (by with_reducible assumption) (by first | (simp; done) | (simp; omega) | omega)).trans (by simp (maxDischargeDepth := 12) [go_sem]))))
  clear hK K hHeld
  try simp only [Act.put, List.setIfInBounds_toArray, List.set_cons_zero, List.set_cons_succ]
  refine h4_take (i := 3) (v := ?v90) rfl (by kernel_rfl) (by kernel_rfl) (by kernel_rfl) (fun _ _ _ h => h) (by rfl) ?y90 hHeld90 ?r90
  case y90 => (intro wS hSw; (try dsimp only at hSw); go_simp; (try with_reducible rfl))
  try simp only [Act.put, List.setIfInBounds_toArray, List.set_cons_zero, List.set_cons_succ]
  refine h4_take (i := 4) (v := ?v91) rfl (by kernel_rfl) (by kernel_rfl) (by kernel_rfl) (fun _ _ _ h => h) (by rfl) ?y91 hHeld90 ?r91
  case y91 => (intro wS hSw; (try dsimp only at hSw); go_simp; (try with_reducible rfl))
  try simp only [Act.put, List.setIfInBounds_toArray, List.set_cons_zero, List.set_cons_succ]
  refine h4_take (i := 5) (v := ?v92) rfl (by kernel_rfl) (by kernel_rfl) (by kernel_rfl) (fun _ _ _ h => h) (by rfl) ?y92 hHeld90 ?r92
  case y92 => (intro wS hSw; (try dsimp only at hSw); go_simp; (try with_reducible rfl))
  try simp only [Act.put, List.setIfInBounds_toArray, List.set_cons_zero, List.set_cons_succ]
  refine h4_take (i := 7) (v := ?v93) rfl (by kernel_rfl) (by kernel_rfl) (by kernel_rfl) (fun _ _ _ h => h) (by rfl) ?y93 hHeld90 ?r93
  case y93 => (intro wS hSw; (try dsimp only at hSw); go_simp; (try with_reducible rfl))
  try simp only [Act.put, List.setIfInBounds_toArray, List.set_cons_zero, List.set_cons_succ]
  refine wpAnyH_ready (rs := [6]) (by kernel_rfl) (by simp) ?_
  refine (h4_cons rfl (fun K hK => ?_) AllReadyH.nil)
  go_simp
  ((go_at_call 16; (with_reducible refine (CO.out _).mono ?_); rintro e w6 ⟨rfl, b6⟩; have p6 : Below w5.heap.size w5 w6 := Below.trans (by repeat' (first | (with_reducible assumption) | (with_reducible exact Below.refl _ _) | (with_reducible refine Below.drew ?_) | (with_reducible refine below_drewN ?_ _) | (with_reducible refine Below.alloc ?_ ?_ _) | (with_reducible exact Nat.le_refl _) | (simp; done) | (simp; omega) | omega)) (Below.mono b6 (by first | omega | (simp; done) | (simp; omega))); have b5c_6 := Lib.hid (Box5.below b5c_5.out p6); have b5c_60 := b5c_6.out.c0; have b5c_61 := b5c_6.out.c1; have b5c_62 := b5c_6.out.c2; have b5c_63 := b5c_6.out.c3; have b5c_64 := b5c_6.out.c4; have b5c_6f0 := b5c_6.out.f0; have b5c_6f1 := b5c_6.out.f1; have b5c_6f2 := b5c_6.out.f2; have b5c_6f3 := b5c_6.out.f3; have b5c_6f4 := b5c_6.out.f4; have b5c_6z := b5c_6.out.z; have b3n_6 := Lib.hid (Box3.below b3n_5.out p6); have b3n_60 := b3n_6.out.c0; have b3n_61 := b3n_6.out.c1; have b3n_62 := b3n_6.out.c2; have b3n_6f0 := b3n_6.out.f0; have b3n_6f1 := b3n_6.out.f1; have b3n_6f2 := b3n_6.out.f2; have b3n_6z := b3n_6.out.z; have b2x_6 := Lib.hid (Box2.below b2x_5.out p6); have b2x_60 := b2x_6.out.c0; have b2x_61 := b2x_6.out.c1; have b2x_6f0 := b2x_6.out.f0; have b2x_6f1 := b2x_6.out.f1; have b2x_6z := b2x_6.out.z; have HX6 := Lib.hid ((HX5.out.below p6).more p6.size)))
  (try go_wp2_with fail)
  refine hK.out _ _ ?_ (fun hHeld95 => ?_)
  · (try dsimp only)
    ((and_intros <;> (first | (with_reducible assumption) | (go_simp; done) | (simp (maxDischargeDepth := 12) [go_sem]; done) | (simp (maxDischargeDepth := 12) [go_sem, *]; done) | exact (Below.cell (by with_reducible assumption) (by first | (simp; done) | (simp; omega) | omega)).trans (by simp (maxDischargeDepth := 12) [go_sem]))))
  clear hK K hHeld90
  try simp only [Act.put, List.setIfInBounds_toArray, List.set_cons_zero, List.set_cons_succ]
  refine h4_take (i := 8) (v := ?v95) rfl (by kernel_rfl) (by kernel_rfl) (by kernel_rfl) (fun _ _ _ h => h) (by rfl) ?y95 hHeld95 ?r95
  case y95 => (intro wS hSw; (try dsimp only at hSw); go_simp; (try with_reducible rfl))
  try simp only [Act.put, List.setIfInBounds_toArray, List.set_cons_zero, List.set_cons_succ]
  refine h4_take (i := 9) (v := ?v96) rfl (by kernel_rfl) (by kernel_rfl) (by kernel_rfl) (fun _ _ _ h => h) (by rfl) ?y96 hHeld95 ?r96
  case y96 => (intro wS hSw; (try dsimp only at hSw); go_simp; (try with_reducible rfl))
  try simp only [Act.put, List.setIfInBounds_toArray, List.set_cons_zero, List.set_cons_succ]
  refine h4_take (i := 10) (v := ?v97) rfl (by kernel_rfl) (by kernel_rfl) (by kernel_rfl) (fun _ _ _ h => h) (by rfl) ?y97 hHeld95 ?r97
  case y97 => (intro wS hSw; (try dsimp only at hSw); go_simp; (try with_reducible rfl))
  try simp only [Act.put, List.setIfInBounds_toArray, List.set_cons_zero, List.set_cons_succ]
  refine h4_take (i := 11) (v := ?v98) rfl (by kernel_rfl) (by kernel_rfl) (by kernel_rfl) (fun _ _ _ h => h) (by rfl) ?y98 hHeld95 ?r98
  case y98 => (intro wS hSw; (try dsimp only at hSw); go_simp; (try with_reducible rfl))
  try simp only [Act.put, List.setIfInBounds_toArray, List.set_cons_zero, List.set_cons_succ]
  refine h4_take (i := 13) (v := ?v99) rfl (by kernel_rfl) (by kernel_rfl) (by kernel_rfl) (fun _ _ _ h => h) (by rfl) ?y99 hHeld95 ?r99
  case y99 => (intro wS hSw; (try dsimp only at hSw); go_simp; (try with_reducible rfl))
  try simp only [Act.put, List.setIfInBounds_toArray, List.set_cons_zero, List.set_cons_succ]
  refine wpAnyH_ready (rs := [12]) (by kernel_rfl) (by simp) ?_
  refine (h4_cons rfl (fun K hK => ?_) AllReadyH.nil)
  go_simp
  ((go_at_call 18; (with_reducible refine (OF.out _).mono ?_); rintro e w7 ⟨⟨A7, c7, rfl, hj⟩, b7⟩; have p7 : Below w6.heap.size w6 w7 := Below.trans (by repeat' (first | (with_reducible assumption) | (with_reducible exact Below.refl _ _) | (with_reducible refine Below.drew ?_) | (with_reducible refine below_drewN ?_ _) | (with_reducible refine Below.alloc ?_ ?_ _) | (with_reducible exact Nat.le_refl _) | (simp; done) | (simp; omega) | omega)) (Below.mono b7 (by first | omega | (simp; done) | (simp; omega))); have b5c_7 := Lib.hid (Box5.below b5c_6.out p7); have b5c_70 := b5c_7.out.c0; have b5c_71 := b5c_7.out.c1; have b5c_72 := b5c_7.out.c2; have b5c_73 := b5c_7.out.c3; have b5c_74 := b5c_7.out.c4; have b5c_7f0 := b5c_7.out.f0; have b5c_7f1 := b5c_7.out.f1; have b5c_7f2 := b5c_7.out.f2; have b5c_7f3 := b5c_7.out.f3; have b5c_7f4 := b5c_7.out.f4; have b5c_7z := b5c_7.out.z; have b3n_7 := Lib.hid (Box3.below b3n_6.out p7); have b3n_70 := b3n_7.out.c0; have b3n_71 := b3n_7.out.c1; have b3n_72 := b3n_7.out.c2; have b3n_7f0 := b3n_7.out.f0; have b3n_7f1 := b3n_7.out.f1; have b3n_7f2 := b3n_7.out.f2; have b3n_7z := b3n_7.out.z; have b2x_7 := Lib.hid (Box2.below b2x_6.out p7); have b2x_70 := b2x_7.out.c0; have b2x_71 := b2x_7.out.c1; have b2x_7f0 := b2x_7.out.f0; have b2x_7f1 := b2x_7.out.f1; have b2x_7z := b2x_7.out.z; have HI7 := Lib.hid hj; have HX7 := Lib.hid ((HX6.out.below p7).more p7.size); clear hj))
  (try go_wp2_with fail)
  refine hK.out _ _ ?_ (fun hHeld101 => ?_)
  · (try dsimp only)
    ((and_intros <;> (first | (with_reducible assumption) | (go_simp; done) | (simp (maxDischargeDepth := 12) [go_sem]; done) | (simp (maxDischargeDepth := 12) [go_sem, *]; done) | exact (Below.cell (by with_reducible assumption) (by first | (simp; done) | (simp; omega) | omega)).trans (by simp (maxDischargeDepth := 12) [go_sem]))))
  clear hK K hHeld95
  try simp only [Act.put, List.setIfInBounds_toArray, List.set_cons_zero, List.set_cons_succ]
  refine wpAnyH_ready (rs := [14]) (by kernel_rfl) (by simp) ?_
  refine (h4_cons rfl (fun K hK => ?_) AllReadyH.nil)
  go_simp
  ((go_at_call 38; (with_reducible refine (SM.out A7 A3 c7 c3 w7 _ HI7.out HX7.out (by repeat' (first | (with_reducible exact Below.refl _ _) | (with_reducible assumption) | (with_reducible refine Below.drew ?_) | (with_reducible refine below_drewN ?_ _) | (with_reducible refine Below.alloc ?_ ?_ _) | (with_reducible exact Nat.le_refl _) | (simp; done) | (simp; omega)))).mono ?_); rintro e w8 ⟨rfl, b8⟩; have p8 : Below w7.heap.size w7 w8 := Below.trans (by repeat' (first | (with_reducible assumption) | (with_reducible exact Below.refl _ _) | (with_reducible refine Below.drew ?_) | (with_reducible refine below_drewN ?_ _) | (with_reducible refine Below.alloc ?_ ?_ _) | (with_reducible exact Nat.le_refl _) | (simp; done) | (simp; omega) | omega)) (Below.mono b8 (by first | omega | (simp; done) | (simp; omega))); have b5c_8 := Lib.hid (Box5.below b5c_7.out p8); have b5c_80 := b5c_8.out.c0; have b5c_81 := b5c_8.out.c1; have b5c_82 := b5c_8.out.c2; have b5c_83 := b5c_8.out.c3; have b5c_84 := b5c_8.out.c4; have b5c_8f0 := b5c_8.out.f0; have b5c_8f1 := b5c_8.out.f1; have b5c_8f2 := b5c_8.out.f2; have b5c_8f3 := b5c_8.out.f3; have b5c_8f4 := b5c_8.out.f4; have b5c_8z := b5c_8.out.z; have b3n_8 := Lib.hid (Box3.below b3n_7.out p8); have b3n_80 := b3n_8.out.c0; have b3n_81 := b3n_8.out.c1; have b3n_82 := b3n_8.out.c2; have b3n_8f0 := b3n_8.out.f0; have b3n_8f1 := b3n_8.out.f1; have b3n_8f2 := b3n_8.out.f2; have b3n_8z := b3n_8.out.z; have b2x_8 := Lib.hid (Box2.below b2x_7.out p8); have b2x_80 := b2x_8.out.c0; have b2x_81 := b2x_8.out.c1; have b2x_8f0 := b2x_8.out.f0; have b2x_8f1 := b2x_8.out.f1; have b2x_8z := b2x_8.out.z))
  (try go_wp2_with fail)
  refine hK.out _ _ ?_ (fun hHeld102 => ?_)
  · (try dsimp only)
    ((and_intros <;> (first | (with_reducible assumption) | (go_simp; done) | (simp (maxDischargeDepth := 12) [go_sem]; done) | (simp (maxDischargeDepth := 12) [go_sem, *]; done) | exact (Below.cell (by with_reducible assumption) (by first | (simp; done) | (simp; omega) | omega)).trans (by simp (maxDischargeDepth := 12) [go_sem]))))
  clear hK K hHeld101
  try simp only [Act.put, List.setIfInBounds_toArray, List.set_cons_zero, List.set_cons_succ]
  refine h4_take (i := 15) (v := ?v102) rfl (by kernel_rfl) (by kernel_rfl) (by kernel_rfl) (fun _ _ _ h => h) (by rfl) ?y102 hHeld102 ?r102
  case y102 => (intro wS hSw; (try dsimp only at hSw); go_simp; (try with_reducible rfl))
  try simp only [Act.put, List.setIfInBounds_toArray, List.set_cons_zero, List.set_cons_succ]
  refine h4_take (i := 16) (v := ?v103) rfl (by kernel_rfl) (by kernel_rfl) (by kernel_rfl) (fun _ _ _ h => h) (by rfl) ?y103 hHeld102 ?r103
  case y103 => (intro wS hSw; (try dsimp only at hSw); go_simp; (try with_reducible rfl))
  try simp only [Act.put, List.setIfInBounds_toArray, List.set_cons_zero, List.set_cons_succ]
  refine h4_take (i := 17) (v := ?v104) rfl (by kernel_rfl) (by kernel_rfl) (by kernel_rfl) (fun _ _ _ h => h) (by rfl) ?y104 hHeld102 ?r104
  case y104 => (intro wS hSw; (try dsimp only at hSw); go_simp; (try with_reducible rfl))
  try simp only [Act.put, List.setIfInBounds_toArray, List.set_cons_zero, List.set_cons_succ]
  refine h4_take (i := 18) (v := ?v105) rfl (by kernel_rfl) (by kernel_rfl) (by kernel_rfl) (fun _ _ _ h => h) (by rfl) ?y105 hHeld102 ?r105
  case y105 => (intro wS hSw; (try dsimp only at hSw); go_simp; (try with_reducible rfl))
  try simp only [Act.put, List.setIfInBounds_toArray, List.set_cons_zero, List.set_cons_succ]
  refine h4_take (i := 20) (v := ?v106) rfl (by kernel_rfl) (by kernel_rfl) (by kernel_rfl) (fun _ _ _ h => h) (by rfl) ?y106 hHeld102 ?r106
  case y106 => (intro wS hSw; (try dsimp only at hSw); go_simp; (try with_reducible rfl))
  try simp only [Act.put, List.setIfInBounds_toArray, List.set_cons_zero, List.set_cons_succ]
  refine wpAnyH_ready (rs := [19]) (by kernel_rfl) (by simp) ?_
  refine (h4_cons rfl (fun K hK => ?_) AllReadyH.nil)
  go_simp
  ((go_at_call 30; (with_reducible refine (ST.out _).mono ?_); rintro e w9 ⟨rfl, b9⟩; have p9 : Below w8.heap.size w8 w9 := Below.trans (by repeat' (first | (with_reducible assumption) | (with_reducible exact Below.refl _ _) | (with_reducible refine Below.drew ?_) | (with_reducible refine below_drewN ?_ _) | (with_reducible refine Below.alloc ?_ ?_ _) | (with_reducible exact Nat.le_refl _) | (simp; done) | (simp; omega) | omega)) (Below.mono b9 (by first | omega | (simp; done) | (simp; omega))); have b5c_9 := Lib.hid (Box5.below b5c_8.out p9); have b5c_90 := b5c_9.out.c0; have b5c_91 := b5c_9.out.c1; have b5c_92 := b5c_9.out.c2; have b5c_93 := b5c_9.out.c3; have b5c_94 := b5c_9.out.c4; have b5c_9f0 := b5c_9.out.f0; have b5c_9f1 := b5c_9.out.f1; have b5c_9f2 := b5c_9.out.f2; have b5c_9f3 := b5c_9.out.f3; have b5c_9f4 := b5c_9.out.f4; have b5c_9z := b5c_9.out.z; have b3n_9 := Lib.hid (Box3.below b3n_8.out p9); have b3n_90 := b3n_9.out.c0; have b3n_91 := b3n_9.out.c1; have b3n_92 := b3n_9.out.c2; have b3n_9f0 := b3n_9.out.f0; have b3n_9f1 := b3n_9.out.f1; have b3n_9f2 := b3n_9.out.f2; have b3n_9z := b3n_9.out.z; have b2x_9 := Lib.hid (Box2.below b2x_8.out p9); have b2x_90 := b2x_9.out.c0; have b2x_91 := b2x_9.out.c1; have b2x_9f0 := b2x_9.out.f0; have b2x_9f1 := b2x_9.out.f1; have b2x_9z := b2x_9.out.z))
  (try go_wp2_with fail)
  refine hK.out _ _ ?_ (fun hHeld108 => ?_)
  · (try dsimp only)
    ((and_intros <;> (first | (with_reducible assumption) | (go_simp; done) | (simp (maxDischargeDepth := 12) [go_sem]; done) | (simp (maxDischargeDepth := 12) [go_sem, *]; done) | exact (Below.cell (by with_reducible assumption) (by first | (simp; done) | (simp; omega) | omega)).trans (by simp (maxDischargeDepth := 12) [go_sem]))))
  clear hK K hHeld102
  try simp only [Act.put, List.setIfInBounds_toArray, List.set_cons_zero, List.set_cons_succ]
  refine wpAnyH_ready (rs := [21]) (by kernel_rfl) (by simp) ?_
  refine (h4_cons rfl (fun K hK => ?_) AllReadyH.nil)
  go_simp
  ((go_at_call 39; (with_reducible refine (RS.out _).mono ?_); rintro e w10 ⟨rfl, b10⟩; have p10 : Below w9.heap.size w9 w10 := Below.trans (by repeat' (first | (with_reducible assumption) | (with_reducible exact Below.refl _ _) | (with_reducible refine Below.drew ?_) | (with_reducible refine below_drewN ?_ _) | (with_reducible refine Below.alloc ?_ ?_ _) | (with_reducible exact Nat.le_refl _) | (simp; done) | (simp; omega) | omega)) (Below.mono b10 (by first | omega | (simp; done) | (simp; omega))); have b5c_10 := Lib.hid (Box5.below b5c_9.out p10); have b5c_100 := b5c_10.out.c0; have b5c_101 := b5c_10.out.c1; have b5c_102 := b5c_10.out.c2; have b5c_103 := b5c_10.out.c3; have b5c_104 := b5c_10.out.c4; have b5c_10f0 := b5c_10.out.f0; have b5c_10f1 := b5c_10.out.f1; have b5c_10f2 := b5c_10.out.f2; have b5c_10f3 := b5c_10.out.f3; have b5c_10f4 := b5c_10.out.f4; have b5c_10z := b5c_10.out.z; have b3n_10 := Lib.hid (Box3.below b3n_9.out p10); have b3n_100 := b3n_10.out.c0; have b3n_101 := b3n_10.out.c1; have b3n_102 := b3n_10.out.c2; have b3n_10f0 := b3n_10.out.f0; have b3n_10f1 := b3n_10.out.f1; have b3n_10f2 := b3n_10.out.f2; have b3n_10z := b3n_10.out.z; have b2x_10 := Lib.hid (Box2.below b2x_9.out p10); have b2x_100 := b2x_10.out.c0; have b2x_101 := b2x_10.out.c1; have b2x_10f0 := b2x_10.out.f0; have b2x_10f1 := b2x_10.out.f1; have b2x_10z := b2x_10.out.z))
  (try go_wp2_with fail)
  refine hK.out _ _ ?_ (fun hHeld109 => ?_)
  · (try dsimp only)
    ((and_intros <;> (first | (with_reducible assumption) | (go_simp; done) | (simp (maxDischargeDepth := 12) [go_sem]; done) | (simp (maxDischargeDepth := 12) [go_sem, *]; done) | exact (Below.cell (by with_reducible assumption) (by first | (simp; done) | (simp; omega) | omega)).trans (by simp (maxDischargeDepth := 12) [go_sem]))))
  clear hK K hHeld108
  try simp only [Act.put, List.setIfInBounds_toArray, List.set_cons_zero, List.set_cons_succ]
  refine h4_take (i := 22) (v := ?v109) rfl (by kernel_rfl) (by kernel_rfl) (by kernel_rfl) (fun _ _ _ h => h) (by rfl) ?y109 hHeld109 ?r109
  case y109 => (intro wS hSw; (try dsimp only at hSw); go_simp; (try with_reducible rfl))
  try simp only [Act.put, List.setIfInBounds_toArray, List.set_cons_zero, List.set_cons_succ]
  refine h4_take (i := 23) (v := ?v110) rfl (by kernel_rfl) (by kernel_rfl) (by kernel_rfl) (fun _ _ _ h => h) (by rfl) ?y110 hHeld109 ?r110
  case y110 => (intro wS hSw; (try dsimp only at hSw); go_simp; (try with_reducible rfl))
  try simp only [Act.put, List.setIfInBounds_toArray, List.set_cons_zero, List.set_cons_succ]
  refine h4_take (i := 24) (v := ?v111) rfl (by kernel_rfl) (by kernel_rfl) (by kernel_rfl) (fun _ _ _ h => h) (by rfl) ?y111 hHeld109 ?r111
  case y111 => (intro wS hSw; (try dsimp only at hSw); go_simp; (try with_reducible rfl))
  try simp only [Act.put, List.setIfInBounds_toArray, List.set_cons_zero, List.set_cons_succ]
  refine h4_take (i := 25) (v := ?v112) rfl (by kernel_rfl) (by kernel_rfl) (by kernel_rfl) (fun _ _ _ h => h) (by rfl) ?y112 hHeld109 ?r112
  case y112 => (intro wS hSw; (try dsimp only at hSw); go_simp; (try with_reducible rfl))
  try simp only [Act.put, List.setIfInBounds_toArray, List.set_cons_zero, List.set_cons_succ]
  refine h4_take (i := 27) (v := ?v113) rfl (by kernel_rfl) (by kernel_rfl) (by kernel_rfl) (fun _ _ _ h => h) (by rfl) ?y113 hHeld109 ?r113
  case y113 => (intro wS hSw; (try dsimp only at hSw); go_simp; (try with_reducible rfl))
  try simp only [Act.put, List.setIfInBounds_toArray, List.set_cons_zero, List.set_cons_succ]
  refine wpAnyH_ready (rs := [26]) (by kernel_rfl) (by simp) ?_
  refine (h4_cons rfl (fun K hK => ?_) AllReadyH.nil)
  go_simp
  ((go_at_call 29; (with_reducible refine (TR.out _).mono ?_); rintro e w11 ⟨rfl, b11⟩; have p11 : Below w10.heap.size w10 w11 := Below.trans (by repeat' (first | (with_reducible assumption) | (with_reducible exact Below.refl _ _) | (with_reducible refine Below.drew ?_) | (with_reducible refine below_drewN ?_ _) | (with_reducible refine Below.alloc ?_ ?_ _) | (with_reducible exact Nat.le_refl _) | (simp; done) | (simp; omega) | omega)) (Below.mono b11 (by first | omega | (simp; done) | (simp; omega))); have b5c_11 := Lib.hid (Box5.below b5c_10.out p11); have b5c_110 := b5c_11.out.c0; have b5c_111 := b5c_11.out.c1; have b5c_112 := b5c_11.out.c2; have b5c_113 := b5c_11.out.c3; have b5c_114 := b5c_11.out.c4; have b5c_11f0 := b5c_11.out.f0; have b5c_11f1 := b5c_11.out.f1; have b5c_11f2 := b5c_11.out.f2; have b5c_11f3 := b5c_11.out.f3; have b5c_11f4 := b5c_11.out.f4; have b5c_11z := b5c_11.out.z; have b3n_11 := Lib.hid (Box3.below b3n_10.out p11); have b3n_110 := b3n_11.out.c0; have b3n_111 := b3n_11.out.c1; have b3n_112 := b3n_11.out.c2; have b3n_11f0 := b3n_11.out.f0; have b3n_11f1 := b3n_11.out.f1; have b3n_11f2 := b3n_11.out.f2; have b3n_11z := b3n_11.out.z; have b2x_11 := Lib.hid (Box2.below b2x_10.out p11); have b2x_110 := b2x_11.out.c0; have b2x_111 := b2x_11.out.c1; have b2x_11f0 := b2x_11.out.f0; have b2x_11f1 := b2x_11.out.f1; have b2x_11z := b2x_11.out.z))
  (try go_wp2_with fail)
  refine hK.out _ _ ?_ (fun hHeld115 => ?_)
  · (try dsimp only)
    ((and_intros <;> (first | (with_reducible assumption) | (go_simp; done) | (simp (maxDischargeDepth := 12) [go_sem]; done) | (simp (maxDischargeDepth := 12) [go_sem, *]; done) | exact (Below.cell (by with_reducible assumption) (by first | (simp; done) | (simp; omega) | omega)).trans (by simp (maxDischargeDepth := 12) [go_sem]))))
  clear hK K hHeld109
  try simp only [Act.put, List.setIfInBounds_toArray, List.set_cons_zero, List.set_cons_succ]
  refine wpAnyH_ready (rs := [28]) (by kernel_rfl) (by simp) ?_
  refine (h4_cons rfl (fun K hK => ?_) AllReadyH.nil)
  go_simp
  ((go_at_call 40; (with_reducible refine (RT.out _).mono ?_); rintro e w12 ⟨rfl, b12⟩; have p12 : Below w11.heap.size w11 w12 := Below.trans (by repeat' (first | (with_reducible assumption) | (with_reducible exact Below.refl _ _) | (with_reducible refine Below.drew ?_) | (with_reducible refine below_drewN ?_ _) | (with_reducible refine Below.alloc ?_ ?_ _) | (with_reducible exact Nat.le_refl _) | (simp; done) | (simp; omega) | omega)) (Below.mono b12 (by first | omega | (simp; done) | (simp; omega))); have b5c_12 := Lib.hid (Box5.below b5c_11.out p12); have b5c_120 := b5c_12.out.c0; have b5c_121 := b5c_12.out.c1; have b5c_122 := b5c_12.out.c2; have b5c_123 := b5c_12.out.c3; have b5c_124 := b5c_12.out.c4; have b5c_12f0 := b5c_12.out.f0; have b5c_12f1 := b5c_12.out.f1; have b5c_12f2 := b5c_12.out.f2; have b5c_12f3 := b5c_12.out.f3; have b5c_12f4 := b5c_12.out.f4; have b5c_12z := b5c_12.out.z; have b3n_12 := Lib.hid (Box3.below b3n_11.out p12); have b3n_120 := b3n_12.out.c0; have b3n_121 := b3n_12.out.c1; have b3n_122 := b3n_12.out.c2; have b3n_12f0 := b3n_12.out.f0; have b3n_12f1 := b3n_12.out.f1; have b3n_12f2 := b3n_12.out.f2; have b3n_12z := b3n_12.out.z; have b2x_12 := Lib.hid (Box2.below b2x_11.out p12); have b2x_120 := b2x_12.out.c0; have b2x_121 := b2x_12.out.c1; have b2x_12f0 := b2x_12.out.f0; have b2x_12f1 := b2x_12.out.f1; have b2x_12z := b2x_12.out.z))
  (try go_wp2_with fail)
  refine hK.out _ _ ?_ (fun hHeld116 => ?_)
  · (try dsimp only)
    ((and_intros <;> (first | (with_reducible assumption) | (go_simp; done) | (simp (maxDischargeDepth := 12) [go_sem]; done) | (simp (maxDischargeDepth := 12) [go_sem, *]; done) | exact (Below.cell (by with_reducible assumption) (by first | (simp; done) | (simp; omega) | omega)).trans (by simp (maxDischargeDepth := 12) [go_sem]))))
  clear hK K hHeld115
  try simp only [Act.put, List.setIfInBounds_toArray, List.set_cons_zero, List.set_cons_succ]
  refine h4_take (i := 29) (v := ?v116) rfl (by kernel_rfl) (by kernel_rfl) (by kernel_rfl) (fun _ _ _ h => h) (by rfl) ?y116 hHeld116 ?r116
  case y116 => (intro wS hSw; (try dsimp only at hSw); go_simp; (try with_reducible rfl))
  try simp only [Act.put, List.setIfInBounds_toArray, List.set_cons_zero, List.set_cons_succ]
  refine h4_take (i := 30) (v := ?v117) rfl (by kernel_rfl) (by kernel_rfl) (by kernel_rfl) (fun _ _ _ h => h) (by rfl) ?y117 hHeld116 ?r117
  case y117 => (intro wS hSw; (try dsimp only at hSw); go_simp; (try with_reducible rfl))
  try simp only [Act.put, List.setIfInBounds_toArray, List.set_cons_zero, List.set_cons_succ]
  refine wpAnyH_done (by kernel_rfl) ?_ _
  go_upto_region 13 with fail
  have HB12 := Lib.hid (below_step (below_step (below_step (below_step (below_step (below_step (below_step (below_step HB4.out p5) p6) p7) p8) p9) p10) p11) p12)
  clear b5c_4 b5c_4z b5c_40 b5c_41 b5c_42 b5c_43 b5c_44 b5c_4f0 b5c_4f1 b5c_4f2 b5c_4f3 b5c_4f4 b3n_4 b3n_4z b3n_40 b3n_41 b3n_42 b3n_4f0 b3n_4f1 b3n_4f2 b2x_4 b2x_4z b2x_40 b2x_41 b2x_4f0 b2x_4f1 b5c_5 b5c_5z b5c_50 b5c_51 b5c_52 b5c_53 b5c_54 b5c_5f0 b5c_5f1 b5c_5f2 b5c_5f3 b5c_5f4 b3n_5 b3n_5z b3n_50 b3n_51 b3n_52 b3n_5f0 b3n_5f1 b3n_5f2 b2x_5 b2x_5z b2x_50 b2x_51 b2x_5f0 b2x_5f1 b5c_6 b5c_6z b5c_60 b5c_61 b5c_62 b5c_63 b5c_64 b5c_6f0 b5c_6f1 b5c_6f2 b5c_6f3 b5c_6f4 b3n_6 b3n_6z b3n_60 b3n_61 b3n_62 b3n_6f0 b3n_6f1 b3n_6f2 b2x_6 b2x_6z b2x_60 b2x_61 b2x_6f0 b2x_6f1 b5c_7 b5c_7z b5c_70 b5c_71 b5c_72 b5c_73 b5c_74 b5c_7f0 b5c_7f1 b5c_7f2 b5c_7f3 b5c_7f4 b3n_7 b3n_7z b3n_70 b3n_71 b3n_72 b3n_7f0 b3n_7f1 b3n_7f2 b2x_7 b2x_7z b2x_70 b2x_71 b2x_7f0 b2x_7f1 b5c_8 b5c_8z b5c_80 b5c_81 b5c_82 b5c_83 b5c_84 b5c_8f0 b5c_8f1 b5c_8f2 b5c_8f3 b5c_8f4 b3n_8 b3n_8z b3n_80 b3n_81 b3n_82 b3n_8f0 b3n_8f1 b3n_8f2 b2x_8 b2x_8z b2x_80 b2x_81 b2x_8f0 b2x_8f1 b5c_9 b5c_9z b5c_90 b5c_91 b5c_92 b5c_93 b5c_94 b5c_9f0 b5c_9f1 b5c_9f2 b5c_9f3 b5c_9f4 b3n_9 b3n_9z b3n_90 b3n_91 b3n_92 b3n_9f0 b3n_9f1 b3n_9f2 b2x_9 b2x_9z b2x_90 b2x_91 b2x_9f0 b2x_9f1 b5c_10 b5c_10z b5c_100 b5c_101 b5c_102 b5c_103 b5c_104 b5c_10f0 b5c_10f1 b5c_10f2 b5c_10f3 b5c_10f4 b3n_10 b3n_10z b3n_100 b3n_101 b3n_102 b3n_10f0 b3n_10f1 b3n_10f2 b2x_10 b2x_10z b2x_100 b2x_101 b2x_10f0 b2x_10f1 b5c_11 b5c_11z b5c_110 b5c_111 b5c_112 b5c_113 b5c_114 b5c_11f0 b5c_11f1 b5c_11f2 b5c_11f3 b5c_11f4 b3n_11 b3n_11z b3n_110 b3n_111 b3n_112 b3n_11f0 b3n_11f1 b3n_11f2 b2x_11 b2x_11z b2x_110 b2x_111 b2x_11f0 b2x_11f1
  clear b5 b6 b7 b8 b9 b10 b11 b12 p5 p6 p7 p8 p9 p10 p11 p12 HI4 HX5 HX6 HI7 HX7 GD OF SM RS TR RT HB4
  have ez : ((16 + (S.size : Int) : Int) != 16 + (S.size : Int)) = false := by simp
  go_upto_region 18 with (first
    | (go_at_call 32; (with_reducible refine (AR.out _).mono ?_); rintro e w13 ⟨rfl, b13⟩; have p13 : Below w12.heap.size w12 w13 := Below.trans (by repeat' (first | (with_reducible assumption) | (with_reducible exact Below.refl _ _) | (with_reducible refine Below.drew ?_) | (with_reducible refine below_drewN ?_ _) | (with_reducible refine Below.alloc ?_ ?_ _) | (with_reducible exact Nat.le_refl _) | (simp; done) | (simp; omega) | omega)) (Below.mono b13 (by first | omega | (simp; done) | (simp; omega))); have b5c_13 := Lib.hid (Box5.below b5c_12.out p13); have b5c_130 := b5c_13.out.c0; have b5c_131 := b5c_13.out.c1; have b5c_132 := b5c_13.out.c2; have b5c_133 := b5c_13.out.c3; have b5c_134 := b5c_13.out.c4; have b5c_13f0 := b5c_13.out.f0; have b5c_13f1 := b5c_13.out.f1; have b5c_13f2 := b5c_13.out.f2; have b5c_13f3 := b5c_13.out.f3; have b5c_13f4 := b5c_13.out.f4; have b5c_13z := b5c_13.out.z; have b3n_13 := Lib.hid (Box3.below b3n_12.out p13); have b3n_130 := b3n_13.out.c0; have b3n_131 := b3n_13.out.c1; have b3n_132 := b3n_13.out.c2; have b3n_13f0 := b3n_13.out.f0; have b3n_13f1 := b3n_13.out.f1; have b3n_13f2 := b3n_13.out.f2; have b3n_13z := b3n_13.out.z)
    | (go_at_call 16; (with_reducible refine (CO.out _).mono ?_); rintro e w14 ⟨rfl, b14⟩; have p14 : Below w13.heap.size w13 w14 := Below.trans (by repeat' (first | (with_reducible assumption) | (with_reducible exact Below.refl _ _) | (with_reducible refine Below.drew ?_) | (with_reducible refine below_drewN ?_ _) | (with_reducible refine Below.alloc ?_ ?_ _) | (with_reducible exact Nat.le_refl _) | (simp; done) | (simp; omega) | omega)) (Below.mono b14 (by first | omega | (simp; done) | (simp; omega))); have b5c_14 := Lib.hid (Box5.below b5c_13.out p14); have b5c_140 := b5c_14.out.c0; have b5c_141 := b5c_14.out.c1; have b5c_142 := b5c_14.out.c2; have b5c_143 := b5c_14.out.c3; have b5c_144 := b5c_14.out.c4; have b5c_14f0 := b5c_14.out.f0; have b5c_14f1 := b5c_14.out.f1; have b5c_14f2 := b5c_14.out.f2; have b5c_14f3 := b5c_14.out.f3; have b5c_14f4 := b5c_14.out.f4; have b5c_14z := b5c_14.out.z; have b3n_14 := Lib.hid (Box3.below b3n_13.out p14); have b3n_140 := b3n_14.out.c0; have b3n_141 := b3n_14.out.c1; have b3n_142 := b3n_14.out.c2; have b3n_14f0 := b3n_14.out.f0; have b3n_14f1 := b3n_14.out.f1; have b3n_14f2 := b3n_14.out.f2; have b3n_14z := b3n_14.out.z; have b5y_14 := Lib.hid ((Box5.make w13 (.string P) (.bool xa) (.int .u64 xh) (.int .u64 xl) (.bool fl) 55 rfl).below b14); have b5y_140 := b5y_14.out.c0; have b5y_141 := b5y_14.out.c1; have b5y_142 := b5y_14.out.c2; have b5y_143 := b5y_14.out.c3; have b5y_144 := b5y_14.out.c4; have b5y_14f0 := b5y_14.out.f0; have b5y_14f1 := b5y_14.out.f1; have b5y_14f2 := b5y_14.out.f2; have b5y_14f3 := b5y_14.out.f3; have b5y_14f4 := b5y_14.out.f4; have b5y_14z := b5y_14.out.z)
    | (go_at_call 33; (with_reducible refine (SZ.out _).mono ?_); rintro e w15 ⟨rfl, b15⟩; have p15 : Below w14.heap.size w14 w15 := Below.trans (by repeat' (first | (with_reducible assumption) | (with_reducible exact Below.refl _ _) | (with_reducible refine Below.drew ?_) | (with_reducible refine below_drewN ?_ _) | (with_reducible refine Below.alloc ?_ ?_ _) | (with_reducible exact Nat.le_refl _) | (simp; done) | (simp; omega) | omega)) (Below.mono b15 (by first | omega | (simp; done) | (simp; omega))); have b5c_15 := Lib.hid (Box5.below b5c_14.out p15); have b5c_150 := b5c_15.out.c0; have b5c_151 := b5c_15.out.c1; have b5c_152 := b5c_15.out.c2; have b5c_153 := b5c_15.out.c3; have b5c_154 := b5c_15.out.c4; have b5c_15f0 := b5c_15.out.f0; have b5c_15f1 := b5c_15.out.f1; have b5c_15f2 := b5c_15.out.f2; have b5c_15f3 := b5c_15.out.f3; have b5c_15f4 := b5c_15.out.f4; have b5c_15z := b5c_15.out.z; have b3n_15 := Lib.hid (Box3.below b3n_14.out p15); have b3n_150 := b3n_15.out.c0; have b3n_151 := b3n_15.out.c1; have b3n_152 := b3n_15.out.c2; have b3n_15f0 := b3n_15.out.f0; have b3n_15f1 := b3n_15.out.f1; have b3n_15f2 := b3n_15.out.f2; have b3n_15z := b3n_15.out.z; have b5y_15 := Lib.hid (Box5.below b5y_14.out p15); have b5y_150 := b5y_15.out.c0; have b5y_151 := b5y_15.out.c1; have b5y_152 := b5y_15.out.c2; have b5y_153 := b5y_15.out.c3; have b5y_154 := b5y_15.out.c4; have b5y_15f0 := b5y_15.out.f0; have b5y_15f1 := b5y_15.out.f1; have b5y_15f2 := b5y_15.out.f2; have b5y_15f3 := b5y_15.out.f3; have b5y_15f4 := b5y_15.out.f4; have b5y_15z := b5y_15.out.z))
  have HB15 := Lib.hid (below_step (below_step (below_step HB12.out p13) p14) p15)
  clear b5c_12 b5c_12z b5c_120 b5c_121 b5c_122 b5c_123 b5c_124 b5c_12f0 b5c_12f1 b5c_12f2 b5c_12f3 b5c_12f4 b3n_12 b3n_12z b3n_120 b3n_121 b3n_122 b3n_12f0 b3n_12f1 b3n_12f2 b5c_13 b5c_13z b5c_130 b5c_131 b5c_132 b5c_133 b5c_134 b5c_13f0 b5c_13f1 b5c_13f2 b5c_13f3 b5c_13f4 b3n_13 b3n_13z b3n_130 b3n_131 b3n_132 b3n_13f0 b3n_13f1 b3n_13f2 b5c_14 b5c_14z b5c_140 b5c_141 b5c_142 b5c_143 b5c_144 b5c_14f0 b5c_14f1 b5c_14f2 b5c_14f3 b5c_14f4 b3n_14 b3n_14z b3n_140 b3n_141 b3n_142 b3n_14f0 b3n_14f1 b3n_14f2
  clear b5y_14 b5y_14z b5y_140 b5y_141 b5y_142 b5y_143 b5y_144 b5y_14f0 b5y_14f1 b5y_14f2 b5y_14f3 b5y_14f4
  clear b13 b14 b15 p13 p14 p15 HB12 AR CO SZ
  refine wp_region_held_drew (S := (fun w' => w'.cell? ⟨w.heap.size, 0, none⟩ = some (.int .i64 k) ∧ w'.cell? ⟨w.heap.size, 1, none⟩ = some (.string S) ∧ w'.cell? ⟨w.heap.size, 2, none⟩ = some (.bool n) ∧ w'.cell? ⟨w.heap.size, 3, none⟩ = some (.int .u64 h) ∧ w'.cell? ⟨w.heap.size, 4, none⟩ = some (.int .u64 l) ∧ w'.cell? ⟨w2.heap.size, 0, none⟩ = some (.bool xa) ∧ w'.cell? ⟨w2.heap.size, 1, none⟩ = some (.int .u64 xh) ∧ w'.cell? ⟨w2.heap.size, 2, none⟩ = some (.int .u64 xl) ∧ w'.cell? ⟨w13.heap.size, 0, none⟩ = some (.string P) ∧ w'.cell? ⟨w13.heap.size, 1, none⟩ = some (.bool xa) ∧ w'.cell? ⟨w13.heap.size, 2, none⟩ = some (.int .u64 xh) ∧ w'.cell? ⟨w13.heap.size, 3, none⟩ = some (.int .u64 xl) ∧ w'.cell? ⟨w13.heap.size, 4, none⟩ = some (.bool fl))) (by kernel_rfl) ?_ (fun hHeld => ?_)
  · (try dsimp only)
    ((and_intros <;> (first | (with_reducible assumption) | (go_simp; done) | (simp (maxDischargeDepth := 12) [go_sem]; done) | (simp (maxDischargeDepth := 12) [go_sem, *]; done) | exact (Below.cell (by with_reducible assumption) (by first | (simp; done) | (simp; omega) | omega)).trans (by simp (maxDischargeDepth := 12) [go_sem]))))
  refine h4_take (i := 0) (v := ?v118) rfl (by kernel_rfl) (by kernel_rfl) (by kernel_rfl) (fun _ _ _ h => h) (by rfl) ?y118 hHeld ?r118
  case y118 => (intro wS hSw; (try dsimp only at hSw); go_simp; (try with_reducible rfl))
  try simp only [Act.put, List.setIfInBounds_toArray, List.set_cons_zero, List.set_cons_succ]
  refine h4_take (i := 1) (v := ?v119) rfl (by kernel_rfl) (by kernel_rfl) (by kernel_rfl) (fun _ _ _ h => h) (by rfl) ?y119 hHeld ?r119
  case y119 => (intro wS hSw; (try dsimp only at hSw); go_simp; (try with_reducible rfl))
  try simp only [Act.put, List.setIfInBounds_toArray, List.set_cons_zero, List.set_cons_succ]
  refine h4_take (i := 3) (v := ?v120) rfl (by kernel_rfl) (by kernel_rfl) (by kernel_rfl) (fun _ _ _ h => h) (by rfl) ?y120 hHeld ?r120
  case y120 => (intro wS hSw; (try dsimp only at hSw); go_simp; (try with_reducible rfl))
  try simp only [Act.put, List.setIfInBounds_toArray, List.set_cons_zero, List.set_cons_succ]
  refine h4_take (i := 4) (v := ?v121) rfl (by kernel_rfl) (by kernel_rfl) (by kernel_rfl) (fun _ _ _ h => h) (by rfl) ?y121 hHeld ?r121
  case y121 => (intro wS hSw; (try dsimp only at hSw); go_simp; (try with_reducible rfl))
  try simp only [Act.put, List.setIfInBounds_toArray, List.set_cons_zero, List.set_cons_succ]
  refine wpAnyH_ready (rs := [2]) (by kernel_rfl) (by simp) ?_
  refine (h4_cons rfl (fun K hK => ?_) AllReadyH.nil)
  go_simp
  ((go_at_call 30; (with_reducible refine (ST.out _).mono ?_); rintro e w16 ⟨rfl, b16⟩; have p16 : Below w15.heap.size w15 w16 := Below.trans (by repeat' (first | (with_reducible assumption) | (with_reducible exact Below.refl _ _) | (with_reducible refine Below.drew ?_) | (with_reducible refine below_drewN ?_ _) | (with_reducible refine Below.alloc ?_ ?_ _) | (with_reducible exact Nat.le_refl _) | (simp; done) | (simp; omega) | omega)) (Below.mono b16 (by first | omega | (simp; done) | (simp; omega))); have b5c_16 := Lib.hid (Box5.below b5c_15.out p16); have b5c_160 := b5c_16.out.c0; have b5c_161 := b5c_16.out.c1; have b5c_162 := b5c_16.out.c2; have b5c_163 := b5c_16.out.c3; have b5c_164 := b5c_16.out.c4; have b5c_16f0 := b5c_16.out.f0; have b5c_16f1 := b5c_16.out.f1; have b5c_16f2 := b5c_16.out.f2; have b5c_16f3 := b5c_16.out.f3; have b5c_16f4 := b5c_16.out.f4; have b5c_16z := b5c_16.out.z; have b3n_16 := Lib.hid (Box3.below b3n_15.out p16); have b3n_160 := b3n_16.out.c0; have b3n_161 := b3n_16.out.c1; have b3n_162 := b3n_16.out.c2; have b3n_16f0 := b3n_16.out.f0; have b3n_16f1 := b3n_16.out.f1; have b3n_16f2 := b3n_16.out.f2; have b3n_16z := b3n_16.out.z; have b5y_16 := Lib.hid (Box5.below b5y_15.out p16); have b5y_160 := b5y_16.out.c0; have b5y_161 := b5y_16.out.c1; have b5y_162 := b5y_16.out.c2; have b5y_163 := b5y_16.out.c3; have b5y_164 := b5y_16.out.c4; have b5y_16f0 := b5y_16.out.f0; have b5y_16f1 := b5y_16.out.f1; have b5y_16f2 := b5y_16.out.f2; have b5y_16f3 := b5y_16.out.f3; have b5y_16f4 := b5y_16.out.f4; have b5y_16z := b5y_16.out.z))
  (try go_wp2_with fail)
  refine hK.out _ _ ?_ (fun hHeld123 => ?_)
  · (try dsimp only)
    ((and_intros <;> (first | (with_reducible assumption) | (go_simp; done) | (simp (maxDischargeDepth := 12) [go_sem]; done) | (simp (maxDischargeDepth := 12) [go_sem, *]; done) | exact (Below.cell (by with_reducible assumption) (by first | (simp; done) | (simp; omega) | omega)).trans (by simp (maxDischargeDepth := 12) [go_sem]))))
  clear hK K hHeld
  try simp only [Act.put, List.setIfInBounds_toArray, List.set_cons_zero, List.set_cons_succ]
  refine h4_take (i := 5) (v := ?v123) rfl (by kernel_rfl) (by kernel_rfl) (by kernel_rfl) (fun _ _ _ h => h) (by rfl) ?y123 hHeld123 ?r123
  case y123 => (intro wS hSw; (try dsimp only at hSw); go_simp; (try with_reducible rfl))
  try simp only [Act.put, List.setIfInBounds_toArray, List.set_cons_zero, List.set_cons_succ]
  refine h4_take (i := 6) (v := ?v124) rfl (by kernel_rfl) (by kernel_rfl) (by kernel_rfl) (fun _ _ _ h => h) (by rfl) ?y124 hHeld123 ?r124
  case y124 => (intro wS hSw; (try dsimp only at hSw); go_simp; (try with_reducible rfl))
  try simp only [Act.put, List.setIfInBounds_toArray, List.set_cons_zero, List.set_cons_succ]
  refine h4_take (i := 7) (v := ?v125) rfl (by kernel_rfl) (by kernel_rfl) (by kernel_rfl) (fun _ _ _ h => h) (by rfl) ?y125 hHeld123 ?r125
  case y125 => (intro wS hSw; (try dsimp only at hSw); go_simp; (try with_reducible rfl))
  try simp only [Act.put, List.setIfInBounds_toArray, List.set_cons_zero, List.set_cons_succ]
  refine h4_take (i := 8) (v := ?v126) rfl (by kernel_rfl) (by kernel_rfl) (by kernel_rfl) (fun _ _ _ h => h) (by rfl) ?y126 hHeld123 ?r126
  case y126 => (intro wS hSw; (try dsimp only at hSw); go_simp; (try with_reducible rfl))
  try simp only [Act.put, List.setIfInBounds_toArray, List.set_cons_zero, List.set_cons_succ]
  refine h4_take (i := 9) (v := ?v127) rfl (by kernel_rfl) (by kernel_rfl) (by kernel_rfl) (fun _ _ _ h => h) (by rfl) ?y127 hHeld123 ?r127
  case y127 => (intro wS hSw; (try dsimp only at hSw); go_simp; (try with_reducible rfl))
  try simp only [Act.put, List.setIfInBounds_toArray, List.set_cons_zero, List.set_cons_succ]
  refine h4_take (i := 10) (v := ?v128) rfl (by kernel_rfl) (by kernel_rfl) (by kernel_rfl) (fun _ _ _ h => h) (by rfl) ?y128 hHeld123 ?r128
  case y128 => (intro wS hSw; (try dsimp only at hSw); go_simp; (try with_reducible rfl))
  try simp only [Act.put, List.setIfInBounds_toArray, List.set_cons_zero, List.set_cons_succ]
  refine h4_take (i := 11) (v := ?v129) rfl (by kernel_rfl) (by kernel_rfl) (by kernel_rfl) (fun _ _ _ h => h) (by rfl) ?y129 hHeld123 ?r129
  case y129 => (intro wS hSw; (try dsimp only at hSw); go_simp; (try with_reducible rfl))
  try simp only [Act.put, List.setIfInBounds_toArray, List.set_cons_zero, List.set_cons_succ]
  refine h4_take (i := 12) (v := ?v130) rfl (by kernel_rfl) (by kernel_rfl) (by kernel_rfl) (fun _ _ _ h => h) (by rfl) ?y130 hHeld123 ?r130
  case y130 => (intro wS hSw; (try dsimp only at hSw); go_simp; (try with_reducible rfl))
  try simp only [Act.put, List.setIfInBounds_toArray, List.set_cons_zero, List.set_cons_succ]
  refine h4_take (i := 13) (v := ?v131) rfl (by kernel_rfl) (by kernel_rfl) (by kernel_rfl) (fun _ _ _ h => h) (by rfl) ?y131 hHeld123 ?r131
  case y131 => (intro wS hSw; (try dsimp only at hSw); go_simp; (try with_reducible rfl))
  try simp only [Act.put, List.setIfInBounds_toArray, List.set_cons_zero, List.set_cons_succ]
  refine h4_take (i := 14) (v := ?v132) rfl (by kernel_rfl) (by kernel_rfl) (by kernel_rfl) (fun _ _ _ h => h) (by rfl) ?y132 hHeld123 ?r132
  case y132 => (intro wS hSw; (try dsimp only at hSw); go_simp; (try with_reducible rfl))
  try simp only [Act.put, List.setIfInBounds_toArray, List.set_cons_zero, List.set_cons_succ]
  refine h4_take (i := 15) (v := ?v133) rfl (by kernel_rfl) (by kernel_rfl) (by kernel_rfl) (fun _ _ _ h => h) (by rfl) ?y133 hHeld123 ?r133
  case y133 => (intro wS hSw; (try dsimp only at hSw); go_simp; (try with_reducible rfl))
  try simp only [Act.put, List.setIfInBounds_toArray, List.set_cons_zero, List.set_cons_succ]
  refine h4_take (i := 16) (v := ?v134) rfl (by kernel_rfl) (by kernel_rfl) (by kernel_rfl) (fun _ _ _ h => h) (by rfl) ?y134 hHeld123 ?r134
  case y134 => (intro wS hSw; (try dsimp only at hSw); go_simp; (try with_reducible rfl))
  try simp only [Act.put, List.setIfInBounds_toArray, List.set_cons_zero, List.set_cons_succ]
  refine h4_take (i := 17) (v := ?v135) rfl (by kernel_rfl) (by kernel_rfl) (by kernel_rfl) (fun _ _ _ h => h) (by rfl) ?y135 hHeld123 ?r135
  case y135 => (intro wS hSw; (try dsimp only at hSw); go_simp; (try with_reducible rfl))
  try simp only [Act.put, List.setIfInBounds_toArray, List.set_cons_zero, List.set_cons_succ]
  refine wpAnyH_done (by kernel_rfl) ?_ _
  go_wp2_with fail
  all_goals
    go_ret
    exact ⟨by simp [*], by refine (below_step HB15.out p16).trans ?_; (repeat' (first | (with_reducible exact Below.refl _ _) | (refine Below.trans ?_ (Below.mono (by with_reducible assumption) ?_)) | (with_reducible exact Below.refl _ _) | (with_reducible refine below_drewN ?_ _) | (with_reducible refine Below.drew ?_) | (with_reducible refine Below.setCell ?_ ?_ _) | (with_reducible refine Below.alloc ?_ ?_ _) | (with_reducible assumption) | (simp; done) | (simp; omega) | omega))⟩
set_option maxRecDepth 100000 in
set_option maxHeartbeats 6400000 in
theorem ctells_over {k : Int} {S P : ByteArray} (hS : S.size ≤ 200) {n : Bool} {h l : Int} {xa : Bool} {xh xl : Int} {N : Nat} {b fl : Bool}
    (NU0 : ∀ W, Calls Try.prog 34 #[.agg #[.int .i64 k, .string S, .bool n, .int .u64 h, .int .u64 l]] W fun e w' => e = .returned (.tuple #[.agg #[.bool xa, .int .u64 xh, .int .u64 xl], .iface 83 (.int .i64 2)]) ∧ Below W.heap.size W w')
    (RN0 : ∀ W, Calls Try.prog 36 #[.agg #[.int .i64 k, .string S, .bool n, .int .u64 h, .int .u64 l]] W (RNum xa N 2 W))
    (RG0 : ∀ W, Calls Try.prog 37 #[.agg #[.int .i64 k, .string S, .bool n, .int .u64 h, .int .u64 l]] W fun e w' => e = .returned (.bool true) ∧ Below W.heap.size W w')
    (GD0 : ∀ W, Calls Try.prog 24 #[.agg #[.int .i64 k, .string S, .bool n, .int .u64 h, .int .u64 l]] W fun e w' => e = .returned (.bool true) ∧ Below W.heap.size W w')
    (CO0 : ∀ W, Calls Try.prog 16 #[.iface 83 (.int .i64 2)] W fun e w' => e = .returned (.int .i64 2) ∧ Below W.heap.size W w')
    (OF0 : ∀ W, Calls Try.prog 18 #[.agg #[.bool xa, .int .u64 xh, .int .u64 xl]] W fun e w' => (∃ A c, e = .returned (.agg #[.bool xa, .slice A (dg N).length c]) ∧ RI w' w'.heap.size A (dg N)) ∧ Below W.heap.size W w')
    (SM0 : ∀ (A A' : Option Addr) (c c' : Nat) (W1 W : World), RI W1 W1.heap.size A (dg N) → RI W1 W1.heap.size A' (dg N) → Below W1.heap.size W1 W → Calls Try.prog 38 #[.agg #[.bool xa, .slice A (dg N).length c], .agg #[.bool xa, .slice A' (dg N).length c']] W fun e w' => e = .returned (.bool true) ∧ Below W.heap.size W w')
    (ST0 : ∀ W, Calls Try.prog 30 #[.agg #[.int .i64 k, .string S, .bool n, .int .u64 h, .int .u64 l]] W fun e w' => e = .returned (.string P) ∧ Below W.heap.size W w')
    (RS0 : ∀ W, Calls Try.prog 39 #[.agg #[.int .i64 k, .string S, .bool n, .int .u64 h, .int .u64 l]] W fun e w' => e = .returned (.string P) ∧ Below W.heap.size W w')
    (TR0 : ∀ W, Calls Try.prog 29 #[.agg #[.int .i64 k, .string S, .bool n, .int .u64 h, .int .u64 l]] W fun e w' => e = .returned (.bool b) ∧ Below W.heap.size W w')
    (RT0 : ∀ W, Calls Try.prog 40 #[.agg #[.int .i64 k, .string S, .bool n, .int .u64 h, .int .u64 l]] W fun e w' => e = .returned (.bool b) ∧ Below W.heap.size W w')
    (AR0 : ∀ W, Calls Try.prog 32 #[.agg #[.int .i64 k, .string S, .bool n, .int .u64 h, .int .u64 l]] W fun e w' => e = .returned (.tuple #[.agg #[.string { data := #[] }, .bool false, .int .u64 0, .int .u64 0, .bool false], .iface 83 (.int .i64 2)]) ∧ Below W.heap.size W w')
    (SZ0 : ∀ W, Calls Try.prog 33 #[.agg #[.int .i64 k, .string S, .bool n, .int .u64 h, .int .u64 l]] W fun e w' => e = .returned (.int .i64 (16 + (S.size : Int))) ∧ Below W.heap.size W w') (w : World) :
    Calls Try.prog 10 #[.agg #[.int .i64 k, .string S, .bool n, .int .u64 h, .int .u64 l]] w fun e w' => e = .returned (.bool true) ∧ Below w.heap.size w w' := by
  have NU := Lib.hid NU0; have RG := Lib.hid RG0; have GD := Lib.hid GD0; have CO := Lib.hid CO0; have ST := Lib.hid ST0; have RS := Lib.hid RS0; have TR := Lib.hid TR0; have RT := Lib.hid RT0; have AR := Lib.hid AR0; have SZ := Lib.hid SZ0
  obtain ⟨LN, hLN⟩ : ∃ x, x = (dg N).length := ⟨_, rfl⟩
  obtain ⟨D, hD⟩ : ∃ x, x = dg N := ⟨_, rfl⟩
  unfold RNum at RN0
  rw [← hLN] at RN0 OF0 SM0
  rw [← hD] at RN0 OF0 SM0
  have RN := Lib.hid RN0; have OF := Lib.hid OF0; have SM := Lib.hid SM0
  have HA := Lib.hid (Box5.make w (.int .i64 k) (.string S) (.bool n) (.int .u64 h) (.int .u64 l) 41 rfl)
  have eb : (b != b) = false := by simp
  clear NU0 RN0 RG0 GD0 CO0 OF0 SM0 ST0 RS0 TR0 RT0 AR0 SZ0 hLN hD
  go_enter Try.func10, Try.ntmps10
  go_upto_region 8 with (first
    | (go_at_call 20; refine (awake9_any _).mono ?_; rintro e w1 ⟨rfl, b1⟩; have zz1 := b1.size; have b5c_1 := Lib.hid (HA.out.below b1); have b5c_10 := b5c_1.out.c0; have b5c_11 := b5c_1.out.c1; have b5c_12 := b5c_1.out.c2; have b5c_13 := b5c_1.out.c3; have b5c_14 := b5c_1.out.c4; have b5c_1f0 := b5c_1.out.f0; have b5c_1f1 := b5c_1.out.f1; have b5c_1f2 := b5c_1.out.f2; have b5c_1f3 := b5c_1.out.f3; have b5c_1f4 := b5c_1.out.f4; have b5c_1z := b5c_1.out.z)
    | (go_at_call 34; (with_reducible refine (NU.out _).mono ?_); rintro e w2 ⟨rfl, b2⟩; have p2 : Below w1.heap.size w1 w2 := Below.trans (by repeat' (first | (with_reducible assumption) | (with_reducible exact Below.refl _ _) | (with_reducible refine Below.drew ?_) | (with_reducible refine below_drewN ?_ _) | (with_reducible refine Below.alloc ?_ ?_ _) | (with_reducible exact Nat.le_refl _) | (simp; done) | (simp; omega) | omega)) (Below.mono b2 (by first | omega | (simp; done) | (simp; omega))); have b5c_2 := Lib.hid (Box5.below b5c_1.out p2); have b5c_20 := b5c_2.out.c0; have b5c_21 := b5c_2.out.c1; have b5c_22 := b5c_2.out.c2; have b5c_23 := b5c_2.out.c3; have b5c_24 := b5c_2.out.c4; have b5c_2f0 := b5c_2.out.f0; have b5c_2f1 := b5c_2.out.f1; have b5c_2f2 := b5c_2.out.f2; have b5c_2f3 := b5c_2.out.f3; have b5c_2f4 := b5c_2.out.f4; have b5c_2z := b5c_2.out.z)
    | (go_at_call 36; (with_reducible refine (RN.out _).mono ?_); rintro e w3 ⟨⟨A3, c3, rfl, hi⟩, b3⟩; have p3 : Below w2.heap.size w2 w3 := Below.trans (by repeat' (first | (with_reducible assumption) | (with_reducible exact Below.refl _ _) | (with_reducible refine Below.drew ?_) | (with_reducible refine below_drewN ?_ _) | (with_reducible refine Below.alloc ?_ ?_ _) | (with_reducible exact Nat.le_refl _) | (simp; done) | (simp; omega) | omega)) (Below.mono b3 (by first | omega | (simp; done) | (simp; omega))); have b5c_3 := Lib.hid (Box5.below b5c_2.out p3); have b5c_30 := b5c_3.out.c0; have b5c_31 := b5c_3.out.c1; have b5c_32 := b5c_3.out.c2; have b5c_33 := b5c_3.out.c3; have b5c_34 := b5c_3.out.c4; have b5c_3f0 := b5c_3.out.f0; have b5c_3f1 := b5c_3.out.f1; have b5c_3f2 := b5c_3.out.f2; have b5c_3f3 := b5c_3.out.f3; have b5c_3f4 := b5c_3.out.f4; have b5c_3z := b5c_3.out.z; have b3n_3 := Lib.hid ((Box3.make w2 (.bool xa) (.int .u64 xh) (.int .u64 xl) 24 rfl).below b3); have b3n_30 := b3n_3.out.c0; have b3n_31 := b3n_3.out.c1; have b3n_32 := b3n_3.out.c2; have b3n_3f0 := b3n_3.out.f0; have b3n_3f1 := b3n_3.out.f1; have b3n_3f2 := b3n_3.out.f2; have b3n_3z := b3n_3.out.z; have HI3 := Lib.hid hi; clear hi)
    | (go_at_call 37; (with_reducible refine (RG.out _).mono ?_); rintro e w4 ⟨rfl, b4⟩; have p4 : Below w3.heap.size w3 w4 := Below.trans (by repeat' (first | (with_reducible assumption) | (with_reducible exact Below.refl _ _) | (with_reducible refine Below.drew ?_) | (with_reducible refine below_drewN ?_ _) | (with_reducible refine Below.alloc ?_ ?_ _) | (with_reducible exact Nat.le_refl _) | (simp; done) | (simp; omega) | omega)) (Below.mono b4 (by first | omega | (simp; done) | (simp; omega))); have b5c_4 := Lib.hid (Box5.below b5c_3.out p4); have b5c_40 := b5c_4.out.c0; have b5c_41 := b5c_4.out.c1; have b5c_42 := b5c_4.out.c2; have b5c_43 := b5c_4.out.c3; have b5c_44 := b5c_4.out.c4; have b5c_4f0 := b5c_4.out.f0; have b5c_4f1 := b5c_4.out.f1; have b5c_4f2 := b5c_4.out.f2; have b5c_4f3 := b5c_4.out.f3; have b5c_4f4 := b5c_4.out.f4; have b5c_4z := b5c_4.out.z; have b3n_4 := Lib.hid (Box3.below b3n_3.out p4); have b3n_40 := b3n_4.out.c0; have b3n_41 := b3n_4.out.c1; have b3n_42 := b3n_4.out.c2; have b3n_4f0 := b3n_4.out.f0; have b3n_4f1 := b3n_4.out.f1; have b3n_4f2 := b3n_4.out.f2; have b3n_4z := b3n_4.out.z; have b2x_4 := Lib.hid ((Box2.make w3 (.bool xa) (.slice A3 LN c3) 34 rfl).below b4); have b2x_40 := b2x_4.out.c0; have b2x_41 := b2x_4.out.c1; have b2x_4f0 := b2x_4.out.f0; have b2x_4f1 := b2x_4.out.f1; have b2x_4z := b2x_4.out.z; have HI4 := Lib.hid ((HI3.out.below p4).more p4.size)))
  have HB4 := Lib.hid (show Below w.heap.size w w4 by (repeat' (first | (with_reducible exact Below.refl _ _) | (refine Below.trans ?_ (Below.mono (by with_reducible assumption) ?_)) | (with_reducible exact Below.refl _ _) | (with_reducible refine below_drewN ?_ _) | (with_reducible refine Below.drew ?_) | (with_reducible refine Below.setCell ?_ ?_ _) | (with_reducible refine Below.alloc ?_ ?_ _) | (with_reducible assumption) | (simp; done) | (simp; omega) | omega)))
  clear b5c_1 b5c_1z b5c_10 b5c_11 b5c_12 b5c_13 b5c_14 b5c_1f0 b5c_1f1 b5c_1f2 b5c_1f3 b5c_1f4 b5c_2 b5c_2z b5c_20 b5c_21 b5c_22 b5c_23 b5c_24 b5c_2f0 b5c_2f1 b5c_2f2 b5c_2f3 b5c_2f4 b5c_3 b5c_3z b5c_30 b5c_31 b5c_32 b5c_33 b5c_34 b5c_3f0 b5c_3f1 b5c_3f2 b5c_3f3 b5c_3f4
  clear b3n_3 b3n_3z b3n_30 b3n_31 b3n_32 b3n_3f0 b3n_3f1 b3n_3f2
  clear b1 b2 b3 b4 p2 p3 p4 HA HI3 NU RN RG
  refine wp_region_held_drew (S := (fun w' => w'.cell? ⟨w.heap.size, 0, none⟩ = some (.int .i64 k) ∧ w'.cell? ⟨w.heap.size, 1, none⟩ = some (.string S) ∧ w'.cell? ⟨w.heap.size, 2, none⟩ = some (.bool n) ∧ w'.cell? ⟨w.heap.size, 3, none⟩ = some (.int .u64 h) ∧ w'.cell? ⟨w.heap.size, 4, none⟩ = some (.int .u64 l) ∧ w'.cell? ⟨w2.heap.size, 0, none⟩ = some (.bool xa) ∧ w'.cell? ⟨w2.heap.size, 1, none⟩ = some (.int .u64 xh) ∧ w'.cell? ⟨w2.heap.size, 2, none⟩ = some (.int .u64 xl) ∧ w'.cell? ⟨w3.heap.size, 0, none⟩ = some (.bool xa) ∧ w'.cell? ⟨w3.heap.size, 1, none⟩ = some (.slice A3 LN c3))) (by kernel_rfl) ?_ (fun hHeld => ?_)
  · (try dsimp only)
    ((and_intros <;> (first | (with_reducible assumption) | (go_simp; done) | (simp (maxDischargeDepth := 12) [go_sem]; done) | (simp (maxDischargeDepth := 12) [go_sem, *]; done) | exact (Below.cell (by with_reducible assumption) (by first | (simp; done) | (simp; omega) | omega)).trans (by simp (maxDischargeDepth := 12) [go_sem]))))
  refine h4_take (i := 0) (v := ?v136) rfl (by kernel_rfl) (by kernel_rfl) (by kernel_rfl) (fun _ _ _ h => h) (by rfl) ?y136 hHeld ?r136
  case y136 => (intro wS hSw; (try dsimp only at hSw); go_simp; (try with_reducible rfl))
  try simp only [Act.put, List.setIfInBounds_toArray, List.set_cons_zero, List.set_cons_succ]
  refine h4_take (i := 2) (v := ?v137) rfl (by kernel_rfl) (by kernel_rfl) (by kernel_rfl) (fun _ _ _ h => h) (by rfl) ?y137 hHeld ?r137
  case y137 => (intro wS hSw; (try dsimp only at hSw); go_simp; (try with_reducible rfl))
  try simp only [Act.put, List.setIfInBounds_toArray, List.set_cons_zero, List.set_cons_succ]
  refine wpAnyH_ready (rs := [1]) (by kernel_rfl) (by simp) ?_
  refine (h4_cons rfl (fun K hK => ?_) AllReadyH.nil)
  go_simp
  ((go_at_call 24; (with_reducible refine (GD.out _).mono ?_); rintro e w5 ⟨rfl, b5⟩; have p5 : Below w4.heap.size w4 w5 := Below.trans (by repeat' (first | (with_reducible assumption) | (with_reducible exact Below.refl _ _) | (with_reducible refine Below.drew ?_) | (with_reducible refine below_drewN ?_ _) | (with_reducible refine Below.alloc ?_ ?_ _) | (with_reducible exact Nat.le_refl _) | (simp; done) | (simp; omega) | omega)) (Below.mono b5 (by first | omega | (simp; done) | (simp; omega))); have b5c_5 := Lib.hid (Box5.below b5c_4.out p5); have b5c_50 := b5c_5.out.c0; have b5c_51 := b5c_5.out.c1; have b5c_52 := b5c_5.out.c2; have b5c_53 := b5c_5.out.c3; have b5c_54 := b5c_5.out.c4; have b5c_5f0 := b5c_5.out.f0; have b5c_5f1 := b5c_5.out.f1; have b5c_5f2 := b5c_5.out.f2; have b5c_5f3 := b5c_5.out.f3; have b5c_5f4 := b5c_5.out.f4; have b5c_5z := b5c_5.out.z; have b3n_5 := Lib.hid (Box3.below b3n_4.out p5); have b3n_50 := b3n_5.out.c0; have b3n_51 := b3n_5.out.c1; have b3n_52 := b3n_5.out.c2; have b3n_5f0 := b3n_5.out.f0; have b3n_5f1 := b3n_5.out.f1; have b3n_5f2 := b3n_5.out.f2; have b3n_5z := b3n_5.out.z; have b2x_5 := Lib.hid (Box2.below b2x_4.out p5); have b2x_50 := b2x_5.out.c0; have b2x_51 := b2x_5.out.c1; have b2x_5f0 := b2x_5.out.f0; have b2x_5f1 := b2x_5.out.f1; have b2x_5z := b2x_5.out.z; have HX5 := Lib.hid ((HI4.out.below p5).more p5.size)))
  (try go_wp2_with fail)
  refine hK.out _ _ ?_ (fun hHeld139 => ?_)
  · (try dsimp only)
    ((and_intros <;> (first | (with_reducible assumption) | (go_simp; done) | (simp (maxDischargeDepth := 12) [go_sem]; done) | (simp (maxDischargeDepth := 12) [go_sem, *]; done) | exact (Below.cell (by with_reducible assumption) (by first | (simp; done) | (simp; omega) | omega)).trans (by simp (maxDischargeDepth := 12) [go_sem]))))
  clear hK K hHeld
  try simp only [Act.put, List.setIfInBounds_toArray, List.set_cons_zero, List.set_cons_succ]
  refine h4_take (i := 3) (v := ?v139) rfl (by kernel_rfl) (by kernel_rfl) (by kernel_rfl) (fun _ _ _ h => h) (by rfl) ?y139 hHeld139 ?r139
  case y139 => (intro wS hSw; (try dsimp only at hSw); go_simp; (try with_reducible rfl))
  try simp only [Act.put, List.setIfInBounds_toArray, List.set_cons_zero, List.set_cons_succ]
  refine h4_take (i := 4) (v := ?v140) rfl (by kernel_rfl) (by kernel_rfl) (by kernel_rfl) (fun _ _ _ h => h) (by rfl) ?y140 hHeld139 ?r140
  case y140 => (intro wS hSw; (try dsimp only at hSw); go_simp; (try with_reducible rfl))
  try simp only [Act.put, List.setIfInBounds_toArray, List.set_cons_zero, List.set_cons_succ]
  refine h4_take (i := 5) (v := ?v141) rfl (by kernel_rfl) (by kernel_rfl) (by kernel_rfl) (fun _ _ _ h => h) (by rfl) ?y141 hHeld139 ?r141
  case y141 => (intro wS hSw; (try dsimp only at hSw); go_simp; (try with_reducible rfl))
  try simp only [Act.put, List.setIfInBounds_toArray, List.set_cons_zero, List.set_cons_succ]
  refine h4_take (i := 7) (v := ?v142) rfl (by kernel_rfl) (by kernel_rfl) (by kernel_rfl) (fun _ _ _ h => h) (by rfl) ?y142 hHeld139 ?r142
  case y142 => (intro wS hSw; (try dsimp only at hSw); go_simp; (try with_reducible rfl))
  try simp only [Act.put, List.setIfInBounds_toArray, List.set_cons_zero, List.set_cons_succ]
  refine wpAnyH_ready (rs := [6]) (by kernel_rfl) (by simp) ?_
  refine (h4_cons rfl (fun K hK => ?_) AllReadyH.nil)
  go_simp
  ((go_at_call 16; (with_reducible refine (CO.out _).mono ?_); rintro e w6 ⟨rfl, b6⟩; have p6 : Below w5.heap.size w5 w6 := Below.trans (by repeat' (first | (with_reducible assumption) | (with_reducible exact Below.refl _ _) | (with_reducible refine Below.drew ?_) | (with_reducible refine below_drewN ?_ _) | (with_reducible refine Below.alloc ?_ ?_ _) | (with_reducible exact Nat.le_refl _) | (simp; done) | (simp; omega) | omega)) (Below.mono b6 (by first | omega | (simp; done) | (simp; omega))); have b5c_6 := Lib.hid (Box5.below b5c_5.out p6); have b5c_60 := b5c_6.out.c0; have b5c_61 := b5c_6.out.c1; have b5c_62 := b5c_6.out.c2; have b5c_63 := b5c_6.out.c3; have b5c_64 := b5c_6.out.c4; have b5c_6f0 := b5c_6.out.f0; have b5c_6f1 := b5c_6.out.f1; have b5c_6f2 := b5c_6.out.f2; have b5c_6f3 := b5c_6.out.f3; have b5c_6f4 := b5c_6.out.f4; have b5c_6z := b5c_6.out.z; have b3n_6 := Lib.hid (Box3.below b3n_5.out p6); have b3n_60 := b3n_6.out.c0; have b3n_61 := b3n_6.out.c1; have b3n_62 := b3n_6.out.c2; have b3n_6f0 := b3n_6.out.f0; have b3n_6f1 := b3n_6.out.f1; have b3n_6f2 := b3n_6.out.f2; have b3n_6z := b3n_6.out.z; have b2x_6 := Lib.hid (Box2.below b2x_5.out p6); have b2x_60 := b2x_6.out.c0; have b2x_61 := b2x_6.out.c1; have b2x_6f0 := b2x_6.out.f0; have b2x_6f1 := b2x_6.out.f1; have b2x_6z := b2x_6.out.z; have HX6 := Lib.hid ((HX5.out.below p6).more p6.size)))
  (try go_wp2_with fail)
  refine hK.out _ _ ?_ (fun hHeld144 => ?_)
  · (try dsimp only)
    ((and_intros <;> (first | (with_reducible assumption) | (go_simp; done) | (simp (maxDischargeDepth := 12) [go_sem]; done) | (simp (maxDischargeDepth := 12) [go_sem, *]; done) | exact (Below.cell (by with_reducible assumption) (by first | (simp; done) | (simp; omega) | omega)).trans (by simp (maxDischargeDepth := 12) [go_sem]))))
  clear hK K hHeld139
  try simp only [Act.put, List.setIfInBounds_toArray, List.set_cons_zero, List.set_cons_succ]
  refine h4_take (i := 8) (v := ?v144) rfl (by kernel_rfl) (by kernel_rfl) (by kernel_rfl) (fun _ _ _ h => h) (by rfl) ?y144 hHeld144 ?r144
  case y144 => (intro wS hSw; (try dsimp only at hSw); go_simp; (try with_reducible rfl))
  try simp only [Act.put, List.setIfInBounds_toArray, List.set_cons_zero, List.set_cons_succ]
  refine h4_take (i := 9) (v := ?v145) rfl (by kernel_rfl) (by kernel_rfl) (by kernel_rfl) (fun _ _ _ h => h) (by rfl) ?y145 hHeld144 ?r145
  case y145 => (intro wS hSw; (try dsimp only at hSw); go_simp; (try with_reducible rfl))
  try simp only [Act.put, List.setIfInBounds_toArray, List.set_cons_zero, List.set_cons_succ]
  refine h4_take (i := 10) (v := ?v146) rfl (by kernel_rfl) (by kernel_rfl) (by kernel_rfl) (fun _ _ _ h => h) (by rfl) ?y146 hHeld144 ?r146
  case y146 => (intro wS hSw; (try dsimp only at hSw); go_simp; (try with_reducible rfl))
  try simp only [Act.put, List.setIfInBounds_toArray, List.set_cons_zero, List.set_cons_succ]
  refine h4_take (i := 11) (v := ?v147) rfl (by kernel_rfl) (by kernel_rfl) (by kernel_rfl) (fun _ _ _ h => h) (by rfl) ?y147 hHeld144 ?r147
  case y147 => (intro wS hSw; (try dsimp only at hSw); go_simp; (try with_reducible rfl))
  try simp only [Act.put, List.setIfInBounds_toArray, List.set_cons_zero, List.set_cons_succ]
  refine h4_take (i := 13) (v := ?v148) rfl (by kernel_rfl) (by kernel_rfl) (by kernel_rfl) (fun _ _ _ h => h) (by rfl) ?y148 hHeld144 ?r148
  case y148 => (intro wS hSw; (try dsimp only at hSw); go_simp; (try with_reducible rfl))
  try simp only [Act.put, List.setIfInBounds_toArray, List.set_cons_zero, List.set_cons_succ]
  refine wpAnyH_ready (rs := [12]) (by kernel_rfl) (by simp) ?_
  refine (h4_cons rfl (fun K hK => ?_) AllReadyH.nil)
  go_simp
  ((go_at_call 18; (with_reducible refine (OF.out _).mono ?_); rintro e w7 ⟨⟨A7, c7, rfl, hj⟩, b7⟩; have p7 : Below w6.heap.size w6 w7 := Below.trans (by repeat' (first | (with_reducible assumption) | (with_reducible exact Below.refl _ _) | (with_reducible refine Below.drew ?_) | (with_reducible refine below_drewN ?_ _) | (with_reducible refine Below.alloc ?_ ?_ _) | (with_reducible exact Nat.le_refl _) | (simp; done) | (simp; omega) | omega)) (Below.mono b7 (by first | omega | (simp; done) | (simp; omega))); have b5c_7 := Lib.hid (Box5.below b5c_6.out p7); have b5c_70 := b5c_7.out.c0; have b5c_71 := b5c_7.out.c1; have b5c_72 := b5c_7.out.c2; have b5c_73 := b5c_7.out.c3; have b5c_74 := b5c_7.out.c4; have b5c_7f0 := b5c_7.out.f0; have b5c_7f1 := b5c_7.out.f1; have b5c_7f2 := b5c_7.out.f2; have b5c_7f3 := b5c_7.out.f3; have b5c_7f4 := b5c_7.out.f4; have b5c_7z := b5c_7.out.z; have b3n_7 := Lib.hid (Box3.below b3n_6.out p7); have b3n_70 := b3n_7.out.c0; have b3n_71 := b3n_7.out.c1; have b3n_72 := b3n_7.out.c2; have b3n_7f0 := b3n_7.out.f0; have b3n_7f1 := b3n_7.out.f1; have b3n_7f2 := b3n_7.out.f2; have b3n_7z := b3n_7.out.z; have b2x_7 := Lib.hid (Box2.below b2x_6.out p7); have b2x_70 := b2x_7.out.c0; have b2x_71 := b2x_7.out.c1; have b2x_7f0 := b2x_7.out.f0; have b2x_7f1 := b2x_7.out.f1; have b2x_7z := b2x_7.out.z; have HI7 := Lib.hid hj; have HX7 := Lib.hid ((HX6.out.below p7).more p7.size); clear hj))
  (try go_wp2_with fail)
  refine hK.out _ _ ?_ (fun hHeld150 => ?_)
  · (try dsimp only)
    ((and_intros <;> (first | (with_reducible assumption) | (go_simp; done) | (simp (maxDischargeDepth := 12) [go_sem]; done) | (simp (maxDischargeDepth := 12) [go_sem, *]; done) | exact (Below.cell (by with_reducible assumption) (by first | (simp; done) | (simp; omega) | omega)).trans (by simp (maxDischargeDepth := 12) [go_sem]))))
  clear hK K hHeld144
  try simp only [Act.put, List.setIfInBounds_toArray, List.set_cons_zero, List.set_cons_succ]
  refine wpAnyH_ready (rs := [14]) (by kernel_rfl) (by simp) ?_
  refine (h4_cons rfl (fun K hK => ?_) AllReadyH.nil)
  go_simp
  ((go_at_call 38; (with_reducible refine (SM.out A7 A3 c7 c3 w7 _ HI7.out HX7.out (by repeat' (first | (with_reducible exact Below.refl _ _) | (with_reducible assumption) | (with_reducible refine Below.drew ?_) | (with_reducible refine below_drewN ?_ _) | (with_reducible refine Below.alloc ?_ ?_ _) | (with_reducible exact Nat.le_refl _) | (simp; done) | (simp; omega)))).mono ?_); rintro e w8 ⟨rfl, b8⟩; have p8 : Below w7.heap.size w7 w8 := Below.trans (by repeat' (first | (with_reducible assumption) | (with_reducible exact Below.refl _ _) | (with_reducible refine Below.drew ?_) | (with_reducible refine below_drewN ?_ _) | (with_reducible refine Below.alloc ?_ ?_ _) | (with_reducible exact Nat.le_refl _) | (simp; done) | (simp; omega) | omega)) (Below.mono b8 (by first | omega | (simp; done) | (simp; omega))); have b5c_8 := Lib.hid (Box5.below b5c_7.out p8); have b5c_80 := b5c_8.out.c0; have b5c_81 := b5c_8.out.c1; have b5c_82 := b5c_8.out.c2; have b5c_83 := b5c_8.out.c3; have b5c_84 := b5c_8.out.c4; have b5c_8f0 := b5c_8.out.f0; have b5c_8f1 := b5c_8.out.f1; have b5c_8f2 := b5c_8.out.f2; have b5c_8f3 := b5c_8.out.f3; have b5c_8f4 := b5c_8.out.f4; have b5c_8z := b5c_8.out.z; have b3n_8 := Lib.hid (Box3.below b3n_7.out p8); have b3n_80 := b3n_8.out.c0; have b3n_81 := b3n_8.out.c1; have b3n_82 := b3n_8.out.c2; have b3n_8f0 := b3n_8.out.f0; have b3n_8f1 := b3n_8.out.f1; have b3n_8f2 := b3n_8.out.f2; have b3n_8z := b3n_8.out.z; have b2x_8 := Lib.hid (Box2.below b2x_7.out p8); have b2x_80 := b2x_8.out.c0; have b2x_81 := b2x_8.out.c1; have b2x_8f0 := b2x_8.out.f0; have b2x_8f1 := b2x_8.out.f1; have b2x_8z := b2x_8.out.z))
  (try go_wp2_with fail)
  refine hK.out _ _ ?_ (fun hHeld151 => ?_)
  · (try dsimp only)
    ((and_intros <;> (first | (with_reducible assumption) | (go_simp; done) | (simp (maxDischargeDepth := 12) [go_sem]; done) | (simp (maxDischargeDepth := 12) [go_sem, *]; done) | exact (Below.cell (by with_reducible assumption) (by first | (simp; done) | (simp; omega) | omega)).trans (by simp (maxDischargeDepth := 12) [go_sem]))))
  clear hK K hHeld150
  try simp only [Act.put, List.setIfInBounds_toArray, List.set_cons_zero, List.set_cons_succ]
  refine h4_take (i := 15) (v := ?v151) rfl (by kernel_rfl) (by kernel_rfl) (by kernel_rfl) (fun _ _ _ h => h) (by rfl) ?y151 hHeld151 ?r151
  case y151 => (intro wS hSw; (try dsimp only at hSw); go_simp; (try with_reducible rfl))
  try simp only [Act.put, List.setIfInBounds_toArray, List.set_cons_zero, List.set_cons_succ]
  refine h4_take (i := 16) (v := ?v152) rfl (by kernel_rfl) (by kernel_rfl) (by kernel_rfl) (fun _ _ _ h => h) (by rfl) ?y152 hHeld151 ?r152
  case y152 => (intro wS hSw; (try dsimp only at hSw); go_simp; (try with_reducible rfl))
  try simp only [Act.put, List.setIfInBounds_toArray, List.set_cons_zero, List.set_cons_succ]
  refine h4_take (i := 17) (v := ?v153) rfl (by kernel_rfl) (by kernel_rfl) (by kernel_rfl) (fun _ _ _ h => h) (by rfl) ?y153 hHeld151 ?r153
  case y153 => (intro wS hSw; (try dsimp only at hSw); go_simp; (try with_reducible rfl))
  try simp only [Act.put, List.setIfInBounds_toArray, List.set_cons_zero, List.set_cons_succ]
  refine h4_take (i := 18) (v := ?v154) rfl (by kernel_rfl) (by kernel_rfl) (by kernel_rfl) (fun _ _ _ h => h) (by rfl) ?y154 hHeld151 ?r154
  case y154 => (intro wS hSw; (try dsimp only at hSw); go_simp; (try with_reducible rfl))
  try simp only [Act.put, List.setIfInBounds_toArray, List.set_cons_zero, List.set_cons_succ]
  refine h4_take (i := 20) (v := ?v155) rfl (by kernel_rfl) (by kernel_rfl) (by kernel_rfl) (fun _ _ _ h => h) (by rfl) ?y155 hHeld151 ?r155
  case y155 => (intro wS hSw; (try dsimp only at hSw); go_simp; (try with_reducible rfl))
  try simp only [Act.put, List.setIfInBounds_toArray, List.set_cons_zero, List.set_cons_succ]
  refine wpAnyH_ready (rs := [19]) (by kernel_rfl) (by simp) ?_
  refine (h4_cons rfl (fun K hK => ?_) AllReadyH.nil)
  go_simp
  ((go_at_call 30; (with_reducible refine (ST.out _).mono ?_); rintro e w9 ⟨rfl, b9⟩; have p9 : Below w8.heap.size w8 w9 := Below.trans (by repeat' (first | (with_reducible assumption) | (with_reducible exact Below.refl _ _) | (with_reducible refine Below.drew ?_) | (with_reducible refine below_drewN ?_ _) | (with_reducible refine Below.alloc ?_ ?_ _) | (with_reducible exact Nat.le_refl _) | (simp; done) | (simp; omega) | omega)) (Below.mono b9 (by first | omega | (simp; done) | (simp; omega))); have b5c_9 := Lib.hid (Box5.below b5c_8.out p9); have b5c_90 := b5c_9.out.c0; have b5c_91 := b5c_9.out.c1; have b5c_92 := b5c_9.out.c2; have b5c_93 := b5c_9.out.c3; have b5c_94 := b5c_9.out.c4; have b5c_9f0 := b5c_9.out.f0; have b5c_9f1 := b5c_9.out.f1; have b5c_9f2 := b5c_9.out.f2; have b5c_9f3 := b5c_9.out.f3; have b5c_9f4 := b5c_9.out.f4; have b5c_9z := b5c_9.out.z; have b3n_9 := Lib.hid (Box3.below b3n_8.out p9); have b3n_90 := b3n_9.out.c0; have b3n_91 := b3n_9.out.c1; have b3n_92 := b3n_9.out.c2; have b3n_9f0 := b3n_9.out.f0; have b3n_9f1 := b3n_9.out.f1; have b3n_9f2 := b3n_9.out.f2; have b3n_9z := b3n_9.out.z; have b2x_9 := Lib.hid (Box2.below b2x_8.out p9); have b2x_90 := b2x_9.out.c0; have b2x_91 := b2x_9.out.c1; have b2x_9f0 := b2x_9.out.f0; have b2x_9f1 := b2x_9.out.f1; have b2x_9z := b2x_9.out.z))
  (try go_wp2_with fail)
  refine hK.out _ _ ?_ (fun hHeld157 => ?_)
  · (try dsimp only)
    ((and_intros <;> (first | (with_reducible assumption) | (go_simp; done) | (simp (maxDischargeDepth := 12) [go_sem]; done) | (simp (maxDischargeDepth := 12) [go_sem, *]; done) | exact (Below.cell (by with_reducible assumption) (by first | (simp; done) | (simp; omega) | omega)).trans (by simp (maxDischargeDepth := 12) [go_sem]))))
  clear hK K hHeld151
  try simp only [Act.put, List.setIfInBounds_toArray, List.set_cons_zero, List.set_cons_succ]
  refine wpAnyH_ready (rs := [21]) (by kernel_rfl) (by simp) ?_
  refine (h4_cons rfl (fun K hK => ?_) AllReadyH.nil)
  go_simp
  ((go_at_call 39; (with_reducible refine (RS.out _).mono ?_); rintro e w10 ⟨rfl, b10⟩; have p10 : Below w9.heap.size w9 w10 := Below.trans (by repeat' (first | (with_reducible assumption) | (with_reducible exact Below.refl _ _) | (with_reducible refine Below.drew ?_) | (with_reducible refine below_drewN ?_ _) | (with_reducible refine Below.alloc ?_ ?_ _) | (with_reducible exact Nat.le_refl _) | (simp; done) | (simp; omega) | omega)) (Below.mono b10 (by first | omega | (simp; done) | (simp; omega))); have b5c_10 := Lib.hid (Box5.below b5c_9.out p10); have b5c_100 := b5c_10.out.c0; have b5c_101 := b5c_10.out.c1; have b5c_102 := b5c_10.out.c2; have b5c_103 := b5c_10.out.c3; have b5c_104 := b5c_10.out.c4; have b5c_10f0 := b5c_10.out.f0; have b5c_10f1 := b5c_10.out.f1; have b5c_10f2 := b5c_10.out.f2; have b5c_10f3 := b5c_10.out.f3; have b5c_10f4 := b5c_10.out.f4; have b5c_10z := b5c_10.out.z; have b3n_10 := Lib.hid (Box3.below b3n_9.out p10); have b3n_100 := b3n_10.out.c0; have b3n_101 := b3n_10.out.c1; have b3n_102 := b3n_10.out.c2; have b3n_10f0 := b3n_10.out.f0; have b3n_10f1 := b3n_10.out.f1; have b3n_10f2 := b3n_10.out.f2; have b3n_10z := b3n_10.out.z; have b2x_10 := Lib.hid (Box2.below b2x_9.out p10); have b2x_100 := b2x_10.out.c0; have b2x_101 := b2x_10.out.c1; have b2x_10f0 := b2x_10.out.f0; have b2x_10f1 := b2x_10.out.f1; have b2x_10z := b2x_10.out.z))
  (try go_wp2_with fail)
  refine hK.out _ _ ?_ (fun hHeld158 => ?_)
  · (try dsimp only)
    ((and_intros <;> (first | (with_reducible assumption) | (go_simp; done) | (simp (maxDischargeDepth := 12) [go_sem]; done) | (simp (maxDischargeDepth := 12) [go_sem, *]; done) | exact (Below.cell (by with_reducible assumption) (by first | (simp; done) | (simp; omega) | omega)).trans (by simp (maxDischargeDepth := 12) [go_sem]))))
  clear hK K hHeld157
  try simp only [Act.put, List.setIfInBounds_toArray, List.set_cons_zero, List.set_cons_succ]
  refine h4_take (i := 22) (v := ?v158) rfl (by kernel_rfl) (by kernel_rfl) (by kernel_rfl) (fun _ _ _ h => h) (by rfl) ?y158 hHeld158 ?r158
  case y158 => (intro wS hSw; (try dsimp only at hSw); go_simp; (try with_reducible rfl))
  try simp only [Act.put, List.setIfInBounds_toArray, List.set_cons_zero, List.set_cons_succ]
  refine h4_take (i := 23) (v := ?v159) rfl (by kernel_rfl) (by kernel_rfl) (by kernel_rfl) (fun _ _ _ h => h) (by rfl) ?y159 hHeld158 ?r159
  case y159 => (intro wS hSw; (try dsimp only at hSw); go_simp; (try with_reducible rfl))
  try simp only [Act.put, List.setIfInBounds_toArray, List.set_cons_zero, List.set_cons_succ]
  refine h4_take (i := 24) (v := ?v160) rfl (by kernel_rfl) (by kernel_rfl) (by kernel_rfl) (fun _ _ _ h => h) (by rfl) ?y160 hHeld158 ?r160
  case y160 => (intro wS hSw; (try dsimp only at hSw); go_simp; (try with_reducible rfl))
  try simp only [Act.put, List.setIfInBounds_toArray, List.set_cons_zero, List.set_cons_succ]
  refine h4_take (i := 25) (v := ?v161) rfl (by kernel_rfl) (by kernel_rfl) (by kernel_rfl) (fun _ _ _ h => h) (by rfl) ?y161 hHeld158 ?r161
  case y161 => (intro wS hSw; (try dsimp only at hSw); go_simp; (try with_reducible rfl))
  try simp only [Act.put, List.setIfInBounds_toArray, List.set_cons_zero, List.set_cons_succ]
  refine h4_take (i := 27) (v := ?v162) rfl (by kernel_rfl) (by kernel_rfl) (by kernel_rfl) (fun _ _ _ h => h) (by rfl) ?y162 hHeld158 ?r162
  case y162 => (intro wS hSw; (try dsimp only at hSw); go_simp; (try with_reducible rfl))
  try simp only [Act.put, List.setIfInBounds_toArray, List.set_cons_zero, List.set_cons_succ]
  refine wpAnyH_ready (rs := [26]) (by kernel_rfl) (by simp) ?_
  refine (h4_cons rfl (fun K hK => ?_) AllReadyH.nil)
  go_simp
  ((go_at_call 29; (with_reducible refine (TR.out _).mono ?_); rintro e w11 ⟨rfl, b11⟩; have p11 : Below w10.heap.size w10 w11 := Below.trans (by repeat' (first | (with_reducible assumption) | (with_reducible exact Below.refl _ _) | (with_reducible refine Below.drew ?_) | (with_reducible refine below_drewN ?_ _) | (with_reducible refine Below.alloc ?_ ?_ _) | (with_reducible exact Nat.le_refl _) | (simp; done) | (simp; omega) | omega)) (Below.mono b11 (by first | omega | (simp; done) | (simp; omega))); have b5c_11 := Lib.hid (Box5.below b5c_10.out p11); have b5c_110 := b5c_11.out.c0; have b5c_111 := b5c_11.out.c1; have b5c_112 := b5c_11.out.c2; have b5c_113 := b5c_11.out.c3; have b5c_114 := b5c_11.out.c4; have b5c_11f0 := b5c_11.out.f0; have b5c_11f1 := b5c_11.out.f1; have b5c_11f2 := b5c_11.out.f2; have b5c_11f3 := b5c_11.out.f3; have b5c_11f4 := b5c_11.out.f4; have b5c_11z := b5c_11.out.z; have b3n_11 := Lib.hid (Box3.below b3n_10.out p11); have b3n_110 := b3n_11.out.c0; have b3n_111 := b3n_11.out.c1; have b3n_112 := b3n_11.out.c2; have b3n_11f0 := b3n_11.out.f0; have b3n_11f1 := b3n_11.out.f1; have b3n_11f2 := b3n_11.out.f2; have b3n_11z := b3n_11.out.z; have b2x_11 := Lib.hid (Box2.below b2x_10.out p11); have b2x_110 := b2x_11.out.c0; have b2x_111 := b2x_11.out.c1; have b2x_11f0 := b2x_11.out.f0; have b2x_11f1 := b2x_11.out.f1; have b2x_11z := b2x_11.out.z))
  (try go_wp2_with fail)
  refine hK.out _ _ ?_ (fun hHeld164 => ?_)
  · (try dsimp only)
    ((and_intros <;> (first | (with_reducible assumption) | (go_simp; done) | (simp (maxDischargeDepth := 12) [go_sem]; done) | (simp (maxDischargeDepth := 12) [go_sem, *]; done) | exact (Below.cell (by with_reducible assumption) (by first | (simp; done) | (simp; omega) | omega)).trans (by simp (maxDischargeDepth := 12) [go_sem]))))
  clear hK K hHeld158
  try simp only [Act.put, List.setIfInBounds_toArray, List.set_cons_zero, List.set_cons_succ]
  refine wpAnyH_ready (rs := [28]) (by kernel_rfl) (by simp) ?_
  refine (h4_cons rfl (fun K hK => ?_) AllReadyH.nil)
  go_simp
  ((go_at_call 40; (with_reducible refine (RT.out _).mono ?_); rintro e w12 ⟨rfl, b12⟩; have p12 : Below w11.heap.size w11 w12 := Below.trans (by repeat' (first | (with_reducible assumption) | (with_reducible exact Below.refl _ _) | (with_reducible refine Below.drew ?_) | (with_reducible refine below_drewN ?_ _) | (with_reducible refine Below.alloc ?_ ?_ _) | (with_reducible exact Nat.le_refl _) | (simp; done) | (simp; omega) | omega)) (Below.mono b12 (by first | omega | (simp; done) | (simp; omega))); have b5c_12 := Lib.hid (Box5.below b5c_11.out p12); have b5c_120 := b5c_12.out.c0; have b5c_121 := b5c_12.out.c1; have b5c_122 := b5c_12.out.c2; have b5c_123 := b5c_12.out.c3; have b5c_124 := b5c_12.out.c4; have b5c_12f0 := b5c_12.out.f0; have b5c_12f1 := b5c_12.out.f1; have b5c_12f2 := b5c_12.out.f2; have b5c_12f3 := b5c_12.out.f3; have b5c_12f4 := b5c_12.out.f4; have b5c_12z := b5c_12.out.z; have b3n_12 := Lib.hid (Box3.below b3n_11.out p12); have b3n_120 := b3n_12.out.c0; have b3n_121 := b3n_12.out.c1; have b3n_122 := b3n_12.out.c2; have b3n_12f0 := b3n_12.out.f0; have b3n_12f1 := b3n_12.out.f1; have b3n_12f2 := b3n_12.out.f2; have b3n_12z := b3n_12.out.z; have b2x_12 := Lib.hid (Box2.below b2x_11.out p12); have b2x_120 := b2x_12.out.c0; have b2x_121 := b2x_12.out.c1; have b2x_12f0 := b2x_12.out.f0; have b2x_12f1 := b2x_12.out.f1; have b2x_12z := b2x_12.out.z))
  (try go_wp2_with fail)
  refine hK.out _ _ ?_ (fun hHeld165 => ?_)
  · (try dsimp only)
    ((and_intros <;> (first | (with_reducible assumption) | (go_simp; done) | (simp (maxDischargeDepth := 12) [go_sem]; done) | (simp (maxDischargeDepth := 12) [go_sem, *]; done) | exact (Below.cell (by with_reducible assumption) (by first | (simp; done) | (simp; omega) | omega)).trans (by simp (maxDischargeDepth := 12) [go_sem]))))
  clear hK K hHeld164
  try simp only [Act.put, List.setIfInBounds_toArray, List.set_cons_zero, List.set_cons_succ]
  refine h4_take (i := 29) (v := ?v165) rfl (by kernel_rfl) (by kernel_rfl) (by kernel_rfl) (fun _ _ _ h => h) (by rfl) ?y165 hHeld165 ?r165
  case y165 => (intro wS hSw; (try dsimp only at hSw); go_simp; (try with_reducible rfl))
  try simp only [Act.put, List.setIfInBounds_toArray, List.set_cons_zero, List.set_cons_succ]
  refine h4_take (i := 30) (v := ?v166) rfl (by kernel_rfl) (by kernel_rfl) (by kernel_rfl) (fun _ _ _ h => h) (by rfl) ?y166 hHeld165 ?r166
  case y166 => (intro wS hSw; (try dsimp only at hSw); go_simp; (try with_reducible rfl))
  try simp only [Act.put, List.setIfInBounds_toArray, List.set_cons_zero, List.set_cons_succ]
  refine wpAnyH_done (by kernel_rfl) ?_ _
  go_upto_region 13 with fail
  have HB12 := Lib.hid (below_step (below_step (below_step (below_step (below_step (below_step (below_step (below_step HB4.out p5) p6) p7) p8) p9) p10) p11) p12)
  clear b5c_4 b5c_4z b5c_40 b5c_41 b5c_42 b5c_43 b5c_44 b5c_4f0 b5c_4f1 b5c_4f2 b5c_4f3 b5c_4f4 b3n_4 b3n_4z b3n_40 b3n_41 b3n_42 b3n_4f0 b3n_4f1 b3n_4f2 b2x_4 b2x_4z b2x_40 b2x_41 b2x_4f0 b2x_4f1 b5c_5 b5c_5z b5c_50 b5c_51 b5c_52 b5c_53 b5c_54 b5c_5f0 b5c_5f1 b5c_5f2 b5c_5f3 b5c_5f4 b3n_5 b3n_5z b3n_50 b3n_51 b3n_52 b3n_5f0 b3n_5f1 b3n_5f2 b2x_5 b2x_5z b2x_50 b2x_51 b2x_5f0 b2x_5f1 b5c_6 b5c_6z b5c_60 b5c_61 b5c_62 b5c_63 b5c_64 b5c_6f0 b5c_6f1 b5c_6f2 b5c_6f3 b5c_6f4 b3n_6 b3n_6z b3n_60 b3n_61 b3n_62 b3n_6f0 b3n_6f1 b3n_6f2 b2x_6 b2x_6z b2x_60 b2x_61 b2x_6f0 b2x_6f1 b5c_7 b5c_7z b5c_70 b5c_71 b5c_72 b5c_73 b5c_74 b5c_7f0 b5c_7f1 b5c_7f2 b5c_7f3 b5c_7f4 b3n_7 b3n_7z b3n_70 b3n_71 b3n_72 b3n_7f0 b3n_7f1 b3n_7f2 b2x_7 b2x_7z b2x_70 b2x_71 b2x_7f0 b2x_7f1 b5c_8 b5c_8z b5c_80 b5c_81 b5c_82 b5c_83 b5c_84 b5c_8f0 b5c_8f1 b5c_8f2 b5c_8f3 b5c_8f4 b3n_8 b3n_8z b3n_80 b3n_81 b3n_82 b3n_8f0 b3n_8f1 b3n_8f2 b2x_8 b2x_8z b2x_80 b2x_81 b2x_8f0 b2x_8f1 b5c_9 b5c_9z b5c_90 b5c_91 b5c_92 b5c_93 b5c_94 b5c_9f0 b5c_9f1 b5c_9f2 b5c_9f3 b5c_9f4 b3n_9 b3n_9z b3n_90 b3n_91 b3n_92 b3n_9f0 b3n_9f1 b3n_9f2 b2x_9 b2x_9z b2x_90 b2x_91 b2x_9f0 b2x_9f1 b5c_10 b5c_10z b5c_100 b5c_101 b5c_102 b5c_103 b5c_104 b5c_10f0 b5c_10f1 b5c_10f2 b5c_10f3 b5c_10f4 b3n_10 b3n_10z b3n_100 b3n_101 b3n_102 b3n_10f0 b3n_10f1 b3n_10f2 b2x_10 b2x_10z b2x_100 b2x_101 b2x_10f0 b2x_10f1 b5c_11 b5c_11z b5c_110 b5c_111 b5c_112 b5c_113 b5c_114 b5c_11f0 b5c_11f1 b5c_11f2 b5c_11f3 b5c_11f4 b3n_11 b3n_11z b3n_110 b3n_111 b3n_112 b3n_11f0 b3n_11f1 b3n_11f2 b2x_11 b2x_11z b2x_110 b2x_111 b2x_11f0 b2x_11f1
  clear b5 b6 b7 b8 b9 b10 b11 b12 p5 p6 p7 p8 p9 p10 p11 p12 HI4 HX5 HX6 HI7 HX7 GD OF SM RS TR RT HB4
  have ez : ((16 + (S.size : Int) : Int) != 16 + (S.size : Int)) = false := by simp
  go_wp2_with (first
    | (go_at_call 32; (with_reducible refine (AR.out _).mono ?_); rintro e w13 ⟨rfl, b13⟩; have p13 : Below w12.heap.size w12 w13 := Below.trans (by repeat' (first | (with_reducible assumption) | (with_reducible exact Below.refl _ _) | (with_reducible refine Below.drew ?_) | (with_reducible refine below_drewN ?_ _) | (with_reducible refine Below.alloc ?_ ?_ _) | (with_reducible exact Nat.le_refl _) | (simp; done) | (simp; omega) | omega)) (Below.mono b13 (by first | omega | (simp; done) | (simp; omega))); have b5c_13 := Lib.hid (Box5.below b5c_12.out p13); have b5c_130 := b5c_13.out.c0; have b5c_131 := b5c_13.out.c1; have b5c_132 := b5c_13.out.c2; have b5c_133 := b5c_13.out.c3; have b5c_134 := b5c_13.out.c4; have b5c_13f0 := b5c_13.out.f0; have b5c_13f1 := b5c_13.out.f1; have b5c_13f2 := b5c_13.out.f2; have b5c_13f3 := b5c_13.out.f3; have b5c_13f4 := b5c_13.out.f4; have b5c_13z := b5c_13.out.z; have b3n_13 := Lib.hid (Box3.below b3n_12.out p13); have b3n_130 := b3n_13.out.c0; have b3n_131 := b3n_13.out.c1; have b3n_132 := b3n_13.out.c2; have b3n_13f0 := b3n_13.out.f0; have b3n_13f1 := b3n_13.out.f1; have b3n_13f2 := b3n_13.out.f2; have b3n_13z := b3n_13.out.z)
    | (go_at_call 16; (with_reducible refine (CO.out _).mono ?_); rintro e w14 ⟨rfl, b14⟩; have p14 : Below w13.heap.size w13 w14 := Below.trans (by repeat' (first | (with_reducible assumption) | (with_reducible exact Below.refl _ _) | (with_reducible refine Below.drew ?_) | (with_reducible refine below_drewN ?_ _) | (with_reducible refine Below.alloc ?_ ?_ _) | (with_reducible exact Nat.le_refl _) | (simp; done) | (simp; omega) | omega)) (Below.mono b14 (by first | omega | (simp; done) | (simp; omega))); have b5c_14 := Lib.hid (Box5.below b5c_13.out p14); have b5c_140 := b5c_14.out.c0; have b5c_141 := b5c_14.out.c1; have b5c_142 := b5c_14.out.c2; have b5c_143 := b5c_14.out.c3; have b5c_144 := b5c_14.out.c4; have b5c_14f0 := b5c_14.out.f0; have b5c_14f1 := b5c_14.out.f1; have b5c_14f2 := b5c_14.out.f2; have b5c_14f3 := b5c_14.out.f3; have b5c_14f4 := b5c_14.out.f4; have b5c_14z := b5c_14.out.z; have b3n_14 := Lib.hid (Box3.below b3n_13.out p14); have b3n_140 := b3n_14.out.c0; have b3n_141 := b3n_14.out.c1; have b3n_142 := b3n_14.out.c2; have b3n_14f0 := b3n_14.out.f0; have b3n_14f1 := b3n_14.out.f1; have b3n_14f2 := b3n_14.out.f2; have b3n_14z := b3n_14.out.z; have b5y_14 := Lib.hid ((Box5.make w13 (.string { data := #[] }) (.bool false) (.int .u64 0) (.int .u64 0) (.bool false) 55 rfl).below b14); have b5y_140 := b5y_14.out.c0; have b5y_141 := b5y_14.out.c1; have b5y_142 := b5y_14.out.c2; have b5y_143 := b5y_14.out.c3; have b5y_144 := b5y_14.out.c4; have b5y_14f0 := b5y_14.out.f0; have b5y_14f1 := b5y_14.out.f1; have b5y_14f2 := b5y_14.out.f2; have b5y_14f3 := b5y_14.out.f3; have b5y_14f4 := b5y_14.out.f4; have b5y_14z := b5y_14.out.z)
    | (go_at_call 33; (with_reducible refine (SZ.out _).mono ?_); rintro e w15 ⟨rfl, b15⟩; have p15 : Below w14.heap.size w14 w15 := Below.trans (by repeat' (first | (with_reducible assumption) | (with_reducible exact Below.refl _ _) | (with_reducible refine Below.drew ?_) | (with_reducible refine below_drewN ?_ _) | (with_reducible refine Below.alloc ?_ ?_ _) | (with_reducible exact Nat.le_refl _) | (simp; done) | (simp; omega) | omega)) (Below.mono b15 (by first | omega | (simp; done) | (simp; omega))); have b5c_15 := Lib.hid (Box5.below b5c_14.out p15); have b5c_150 := b5c_15.out.c0; have b5c_151 := b5c_15.out.c1; have b5c_152 := b5c_15.out.c2; have b5c_153 := b5c_15.out.c3; have b5c_154 := b5c_15.out.c4; have b5c_15f0 := b5c_15.out.f0; have b5c_15f1 := b5c_15.out.f1; have b5c_15f2 := b5c_15.out.f2; have b5c_15f3 := b5c_15.out.f3; have b5c_15f4 := b5c_15.out.f4; have b5c_15z := b5c_15.out.z; have b3n_15 := Lib.hid (Box3.below b3n_14.out p15); have b3n_150 := b3n_15.out.c0; have b3n_151 := b3n_15.out.c1; have b3n_152 := b3n_15.out.c2; have b3n_15f0 := b3n_15.out.f0; have b3n_15f1 := b3n_15.out.f1; have b3n_15f2 := b3n_15.out.f2; have b3n_15z := b3n_15.out.z; have b5y_15 := Lib.hid (Box5.below b5y_14.out p15); have b5y_150 := b5y_15.out.c0; have b5y_151 := b5y_15.out.c1; have b5y_152 := b5y_15.out.c2; have b5y_153 := b5y_15.out.c3; have b5y_154 := b5y_15.out.c4; have b5y_15f0 := b5y_15.out.f0; have b5y_15f1 := b5y_15.out.f1; have b5y_15f2 := b5y_15.out.f2; have b5y_15f3 := b5y_15.out.f3; have b5y_15f4 := b5y_15.out.f4; have b5y_15z := b5y_15.out.z))
  go_ret
  exact ⟨by simp, by refine (below_step (below_step (below_step HB12.out p13) p14) p15).trans ?_; (repeat' (first | (with_reducible exact Below.refl _ _) | (refine Below.trans ?_ (Below.mono (by with_reducible assumption) ?_)) | (with_reducible exact Below.refl _ _) | (with_reducible refine below_drewN ?_ _) | (with_reducible refine Below.drew ?_) | (with_reducible refine Below.setCell ?_ ?_ _) | (with_reducible refine Below.alloc ?_ ?_ _) | (with_reducible assumption) | (simp; done) | (simp; omega) | omega))⟩
end Go.Proofs.Ytkhhjibpppmekaa
