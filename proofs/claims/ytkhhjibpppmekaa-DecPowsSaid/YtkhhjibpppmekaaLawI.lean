/- fieldfarelaw01.held. -/
import Derived.Test.YtkhhjibpppmekaaRefR
namespace Go.Proofs.Ytkhhjibpppmekaa
open Go.RowKit
set_option maxRecDepth 100000 in
set_option maxHeartbeats 3200000 in
theorem heldl_ok {n : Bool} {ha la z : Int} {A : Option Addr} {c : Nat} (i : IsD n ha la z) (w0 w : World) (h : DS1 w0 A c z.natAbs) (q : Below w0.heap.size w0 w) :
    Calls Try.prog 19 #[.agg #[.bool n, .int .u64 ha, .int .u64 la], .nilIface, .agg #[.bool n, .slice A (dg z.natAbs).length c], .int .i64 0] w fun e w' => e = .returned (.bool true) ∧ Below w.heap.size w w' := by
  have GA := Lib.hid (good_b n ha la (good_of i))
  have hl := len36 i.2.2.2.2
  have OA := Lib.hid (fun W => of_ok i W)
  have C0 := Lib.hid code_b0
  have HQ := Lib.hid q
  have SM := Lib.hid (fun A' c' W (qd : Below w0.heap.size w0 W) (hd : DS1 W A' c' z.natAbs) => same_e (n := n) (m := n) (b := true) hd (h.below qd) (by omega) (by omega) (by simp) (Below.refl W.heap.size W))
  obtain ⟨L, hL⟩ : ∃ L, L = dg z.natAbs := ⟨_, rfl⟩
  have HDS : ∀ (w : World) b v, OI w b v L → ∃ A c, v = .slice A L.length c ∧ DS1 w A c z.natAbs := by
    intro w b v ho
    rw [hL] at ho ⊢
    exact ho.ds
  have HDS := Lib.hid HDS
  rw [← hL] at SM OA ⊢
  clear hL hl i h q
  go_enter Try.func19, Try.ntmps19
  go_upto_region 3 with (first | (go_at_call 16; (with_reducible refine (C0.out _).mono ?_); rintro e w1 ⟨rfl, b1⟩; have xa_0 : Hid (BoxD w1 w.heap.size n ha la) := Lib.hid (((BoxD.make w n ha la rfl).alloc _).below b1); have yx_0 : Hid (BoxN w1 (w.heap.size + 1) n (.slice A L.length c)) := Lib.hid ((BoxN.make (w.alloc _) n (.slice A L.length c) (by simp)).below b1); have xa_1 := Lib.hid (xa_0.out); have xa_10 := xa_1.out.c0; have xa_11 := xa_1.out.c1; have xa_12 := xa_1.out.c2; have xa_1z := xa_1.out.z; have yx_1 := Lib.hid (yx_0.out); have yx_10 := yx_1.out.c0; have yx_11 := yx_1.out.c1; have yx_12 := yx_1.out.f0; have yx_13 := yx_1.out.f1; have yx_1z := yx_1.out.z; clear xa_0 yx_0))
  have p1 : Below w.heap.size w w1 := by (repeat' (first | (with_reducible exact Below.refl _ _) | (refine Below.trans ?_ (Below.mono (by with_reducible assumption) ?_)) | (with_reducible exact Below.refl _ _) | (with_reducible refine below_drewN ?_ _) | (with_reducible refine Below.drew ?_) | (with_reducible refine Below.setCell ?_ ?_ _) | (with_reducible refine Below.alloc ?_ ?_ _) | (with_reducible assumption) | (simp; done) | (simp; omega) | omega))
  have P1 := Lib.hid p1
  clear b1
  have hun : undef = Value.tuple #[] := rfl
  first
  | go_region_with (first
      | (go_at_call 31; (with_reducible refine (GA.out _).mono ?_); rintro e w2 ⟨rfl, b2⟩; have p2 : Below w1.heap.size w1 w2 := Below.trans (by repeat' (first | (with_reducible assumption) | (with_reducible exact Below.refl _ _) | (with_reducible refine Below.drew ?_) | (with_reducible refine below_drewN ?_ _) | (with_reducible refine Below.alloc ?_ ?_ _) | (with_reducible exact Nat.le_refl _) | (simp; done) | (simp; omega) | omega)) (Below.mono b2 (by first | omega | (simp; done) | (simp; omega))); have xa_2 := Lib.hid (BoxD.below xa_1.out p2); have xa_20 := xa_2.out.c0; have xa_21 := xa_2.out.c1; have xa_22 := xa_2.out.c2; have xa_2z := xa_2.out.z; have yx_2 := Lib.hid (BoxN.below yx_1.out p2); have yx_20 := yx_2.out.c0; have yx_21 := yx_2.out.c1; have yx_22 := yx_2.out.f0; have yx_23 := yx_2.out.f1; have yx_2z := yx_2.out.z)
      | (go_at_call 18; (with_reducible refine (OA.out _).mono ?_); rintro e w3 ⟨⟨v, rfl, ho⟩, b3⟩; have p3 : Below w2.heap.size w2 w3 := Below.trans (by repeat' (first | (with_reducible assumption) | (with_reducible exact Below.refl _ _) | (with_reducible refine Below.drew ?_) | (with_reducible refine below_drewN ?_ _) | (with_reducible refine Below.alloc ?_ ?_ _) | (with_reducible exact Nat.le_refl _) | (simp; done) | (simp; omega) | omega)) (Below.mono b3 (by first | omega | (simp; done) | (simp; omega))); have xa_3 := Lib.hid (BoxD.below xa_2.out p3); have xa_30 := xa_3.out.c0; have xa_31 := xa_3.out.c1; have xa_32 := xa_3.out.c2; have xa_3z := xa_3.out.z; have yx_3 := Lib.hid (BoxN.below yx_2.out p3); have yx_30 := yx_3.out.c0; have yx_31 := yx_3.out.c1; have yx_32 := yx_3.out.f0; have yx_33 := yx_3.out.f1; have yx_3z := yx_3.out.z; obtain ⟨A3, c3, rfl, hd3⟩ := HDS.out _ _ _ ho; have HD3 := Lib.hid hd3; clear hd3 ho; have q3 : Below w0.heap.size w0 w3 := HQ.out.trans ((P1.out.trans ((p2.trans (p3.mono p2.size)).mono P1.out.size)).mono HQ.out.size); have HQ3 := Lib.hid q3; clear q3)
      | (go_at_call 38; (with_reducible refine (SM.out _ _ _ (Below.trans HQ3.out (Below.mono (B := w3.heap.size) (by repeat' (first | (with_reducible exact Below.refl _ _) | (with_reducible refine Below.drew ?_) | (with_reducible refine below_drewN ?_ _))) HQ3.out.size)) (HD3.out.below (by repeat' (first | (with_reducible exact Below.refl _ _) | (with_reducible refine Below.drew ?_) | (with_reducible refine below_drewN ?_ _))))).mono ?_); rintro e w4 ⟨rfl, b4⟩; have p4 : Below w3.heap.size w3 w4 := Below.trans (by repeat' (first | (with_reducible assumption) | (with_reducible exact Below.refl _ _) | (with_reducible refine Below.drew ?_) | (with_reducible refine below_drewN ?_ _) | (with_reducible refine Below.alloc ?_ ?_ _) | (with_reducible exact Nat.le_refl _) | (simp; done) | (simp; omega) | omega)) (Below.mono b4 (by first | omega | (simp; done) | (simp; omega))); have xa_4 := Lib.hid (BoxD.below xa_3.out p4); have xa_40 := xa_4.out.c0; have xa_41 := xa_4.out.c1; have xa_42 := xa_4.out.c2; have xa_4z := xa_4.out.z; have yx_4 := Lib.hid (BoxN.below yx_3.out p4); have yx_40 := yx_4.out.c0; have yx_41 := yx_4.out.c1; have yx_42 := yx_4.out.f0; have yx_43 := yx_4.out.f1; have yx_4z := yx_4.out.z))
  | fail
  all_goals
    go_wp2_with fail
    go_ret
    have z1 := P1.out.size; have z2 := p2.size; have z3 := p3.size
    exact ⟨rfl, by refine P1.out.trans ?_; (repeat' (first | (with_reducible exact Below.refl _ _) | (refine Below.trans ?_ (Below.mono (by with_reducible assumption) ?_)) | (with_reducible exact Below.refl _ _) | (with_reducible refine below_drewN ?_ _) | (with_reducible refine Below.drew ?_) | (with_reducible refine Below.setCell ?_ ?_ _) | (with_reducible refine Below.alloc ?_ ?_ _) | (with_reducible assumption) | (simp; done) | (simp; omega) | omega))⟩
set_option maxRecDepth 100000 in
set_option maxHeartbeats 3200000 in
theorem heldl_err (k : Int) (h1 : 1 ≤ k) (h2 : k ≤ 25) (m : Bool) (A : Option Addr) (l c : Nat) (w : World) :
    Calls Try.prog 19 #[.agg #[.bool false, .int .u64 0, .int .u64 0], .iface 83 (.int .i64 k), .agg #[.bool m, .slice A l c], .int .i64 k] w fun e w' => e = .returned (.bool true) ∧ Below w.heap.size w w' := by
  have C0 := Lib.hid (code_bk k h1 h2)
  have hk : (k == 0) = false := by rw [beq_eq_false_iff_ne]; omega
  have hk2 : (k != 0) = true := by rw [bne_iff_ne]; omega
  clear h1 h2
  go_enter Try.func19, Try.ntmps19
  go_upto_region 3 with (first | (go_at_call 16; (with_reducible refine (C0.out _).mono ?_); rintro e w1 ⟨rfl, b1⟩; have xa_0 : Hid (BoxD w1 w.heap.size false 0 0) := Lib.hid (((BoxD.make w false 0 0 rfl).alloc _).below b1); have yx_0 : Hid (BoxN w1 (w.heap.size + 1) m (.slice A l c)) := Lib.hid ((BoxN.make (w.alloc _) m (.slice A l c) (by simp)).below b1); have xa_1 := Lib.hid (xa_0.out); have xa_10 := xa_1.out.c0; have xa_11 := xa_1.out.c1; have xa_12 := xa_1.out.c2; have xa_1z := xa_1.out.z; have yx_1 := Lib.hid (yx_0.out); have yx_10 := yx_1.out.c0; have yx_11 := yx_1.out.c1; have yx_12 := yx_1.out.f0; have yx_13 := yx_1.out.f1; have yx_1z := yx_1.out.z; clear xa_0 yx_0))
  have p1 : Below w.heap.size w w1 := by (repeat' (first | (with_reducible exact Below.refl _ _) | (refine Below.trans ?_ (Below.mono (by with_reducible assumption) ?_)) | (with_reducible exact Below.refl _ _) | (with_reducible refine below_drewN ?_ _) | (with_reducible refine Below.drew ?_) | (with_reducible refine Below.setCell ?_ ?_ _) | (with_reducible refine Below.alloc ?_ ?_ _) | (with_reducible assumption) | (simp; done) | (simp; omega) | omega))
  have P1 := Lib.hid p1
  clear b1
  go_region_with (first | fail)
  all_goals
    go_wp2_with fail
    go_ret
    exact ⟨rfl, by refine P1.out.trans ?_; (repeat' (first | (with_reducible exact Below.refl _ _) | (refine Below.trans ?_ (Below.mono (by with_reducible assumption) ?_)) | (with_reducible exact Below.refl _ _) | (with_reducible refine below_drewN ?_ _) | (with_reducible refine Below.drew ?_) | (with_reducible refine Below.setCell ?_ ?_ _) | (with_reducible refine Below.alloc ?_ ?_ _) | (with_reducible assumption) | (simp; done) | (simp; omega) | omega))⟩
end Go.Proofs.Ytkhhjibpppmekaa
