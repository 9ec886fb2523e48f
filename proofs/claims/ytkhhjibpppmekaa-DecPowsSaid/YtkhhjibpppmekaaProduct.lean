/- dec.product: the product of two magnitudes. -/
import Derived.Test.YtkhhjibpppmekaaDecM
namespace Go.Proofs.Ytkhhjibpppmekaa
open Go.RowKit
theorem mul64_q (x y : Int) (hx : 0 ≤ x) (hx' : x < 18446744073709551616) (hy : 0 ≤ y) (hy' : y < 18446744073709551616) (w : World) :
    Calls Try.prog 77 #[.int .u64 x, .int .u64 y] w fun e w' => e = .returned (.tuple #[.int .u64 (ph x y), .int .u64 (pl x y)]) ∧ w' = w :=
  (mul64 x y hx hx' hy hy' w).mono fun _ _ ⟨he, hw⟩ => ⟨he, hw.symm⟩
def Add (a b s c : Int) : Prop := 0 ≤ s ∧ s < 18446744073709551616 ∧ 0 ≤ c ∧ c ≤ 1 ∧ a + b = c * 18446744073709551616 + s
theorem add_mk {a b : Int} (ha : Wd a) (hb : Wd b) : ∃ s c, Add a b s c ∧ ∀ W : World, (callFunc 97 #[.int .u64 a, .int .u64 b, .int .u64 0]).run Try.prog W = .ok (.value (.tuple #[.int .u64 s, .int .u64 c])) W := by
  obtain ⟨a1, a2⟩ := ha; obtain ⟨b1, b2⟩ := hb
  exact ⟨_, _, by unfold Add; omega, fun W => add64_0 a b a1 b1 W⟩
theorem add_zero {a : Int} (ha : Wd a) : ∀ W : World, (callFunc 97 #[.int .u64 a, .int .u64 0, .int .u64 0]).run Try.prog W = .ok (.value (.tuple #[.int .u64 a, .int .u64 0])) W := by
  obtain ⟨a1, a2⟩ := ha
  intro W
  have := add64_0 a 0 a1 (by decide) W
  rw [show (a + 0) % 18446744073709551616 = a by omega, show (a + 0) / 18446744073709551616 = 0 by omega] at this
  exact this
set_option maxRecDepth 100000 in
set_option maxHeartbeats 1600000 in
theorem product_any (n m : Bool) (x1 x0 y1 y0 : Int) (h1 : Wd x1) (h0 : Wd x0) (g1 : Wd y1) (g0 : Wd y0) (w : World) :
    Calls Try.prog 75 #[.agg #[.bool n, .int .u64 x1, .int .u64 x0], .agg #[.bool m, .int .u64 y1, .int .u64 y0]] w fun e w' => ∃ a b c d : Int, e = .returned (.agg #[.int .u64 a, .int .u64 b, .int .u64 c, .int .u64 d]) ∧ Wd a ∧ Wd b ∧ Wd c ∧ Wd d ∧ lim4 a b c d = (x1 * 18446744073709551616 + x0) * (y1 * 18446744073709551616 + y0) ∧ Below w.heap.size w w' := by
  obtain ⟨a1, a2⟩ := h1; obtain ⟨b1, b2⟩ := h0; obtain ⟨c1, c2⟩ := g1; obtain ⟨d1, d2⟩ := g0
  have l00 := pl_range x0 y0; have l01 := pl_range x0 y1; have l10 := pl_range x1 y0; have l11 := pl_range x1 y1
  have k00 := ph_range b1 b2 d1 d2; have k01 := ph_range b1 b2 c1 c2; have k10 := ph_range a1 a2 d1 d2; have k11 := ph_range a1 a2 c1 c2
  obtain ⟨A, C, hA, eA⟩ := add_mk l01 ⟨k00.1, by omega⟩
  obtain ⟨A1, A2, A3, A4, A5⟩ := id hA
  obtain ⟨B, D, hB, eB⟩ := add_mk l10 ⟨A1, A2⟩
  obtain ⟨B1, B2, B3, B4, B5⟩ := id hB
  obtain ⟨E, F, hE, eE⟩ := add_mk l11 (b := ph x0 y1 + C) ⟨by omega, by omega⟩
  obtain ⟨E1, E2, E3, E4, E5⟩ := id hE
  obtain ⟨G, H, hG, eG⟩ := add_mk (a := E) (b := ph x1 y0 + D) ⟨E1, E2⟩ ⟨by omega, by omega⟩
  obtain ⟨G1, G2, G3, G4, G5⟩ := id hG
  have z00 := add_zero l00; have z01 := add_zero l01; have zB := add_zero (a := B) ⟨B1, B2⟩
  have p00 := phl x0 y0; have p01 := phl x0 y1; have p10 := phl x1 y0; have p11 := phl x1 y1
  have hN : lim4 (pl x0 y0) B G (ph x1 y1 + F + H) = (x1 * 18446744073709551616 + x0) * (y1 * 18446744073709551616 + y0) := by
    unfold lim4
    have : (x1 * 18446744073709551616 + x0) * (y1 * 18446744073709551616 + y0) = (x1 * y1) * 340282366920938463463374607431768211456 + (x1 * y0) * 18446744073709551616 + (x0 * y1) * 18446744073709551616 + x0 * y0 := by
      simp only [Int.add_mul, Int.mul_add, Int.mul_right_comm _ _ y1, Int.mul_right_comm _ _ y0, ← Int.mul_assoc]
      omega
    omega
  have hT : ph x1 y1 + F + H < 18446744073709551616 := by
    have : 0 ≤ pl x0 y0 := l00.1
    have u : (x1 * 18446744073709551616 + x0) * (y1 * 18446744073709551616 + y0) ≤ 340282366920938463463374607431768211455 * 340282366920938463463374607431768211455 :=
      Int.mul_le_mul (by omega) (by omega) (by omega) (by omega)
    rw [← hN] at u
    unfold lim4 at u
    omega
  refine Calls.mono (R := fun e w' => e = .returned (.agg #[.int .u64 (pl x0 y0), .int .u64 B, .int .u64 G, .int .u64 (ph x1 y1 + F + H)]) ∧ Below w.heap.size w w') ?_ ?_
  · clear hN p00 p01 p10 p11 hA hB hE hG A5 B5 E5 G5
    obtain ⟨l001, l002⟩ := l00; obtain ⟨l011, l012⟩ := l01; obtain ⟨l101, l102⟩ := l10; obtain ⟨l111, l112⟩ := l11
    obtain ⟨k001, k002⟩ := k00; obtain ⟨k011, k012⟩ := k01; obtain ⟨k101, k102⟩ := k10; obtain ⟨k111, k112⟩ := k11
    have HA := Lib.hid eA; have HB := Lib.hid eB; have HE := Lib.hid eE; have HG := Lib.hid eG
    have Z0 := Lib.hid z00; have Z1 := Lib.hid z01; have ZB := Lib.hid zB
    clear eA eB eE eG z00 z01 zB
    go_enter Try.func75, Try.ntmps75
    go_upto_region 1 with fail
    go_cut [5, 6] (fun x y wx => ∃ p q : Nat, x = .pointer (some ⟨p, 0, none⟩) ∧ y = .pointer (some ⟨q, 0, none⟩) ∧ wx.cell? ⟨p, 0, none⟩ = some (.int .u64 x0) ∧ wx.cell? ⟨p, 1, none⟩ = some (.int .u64 x1) ∧ wx.cell? ⟨q, 0, none⟩ = some (.int .u64 y0) ∧ wx.cell? ⟨q, 1, none⟩ = some (.int .u64 y1) ∧ p < wx.heap.size ∧ q < wx.heap.size ∧ Below (w.heap.size + 3) (((w.alloc (.cells #[.bool n, .int .u64 x1, .int .u64 x0] 24)).alloc (.cells #[.bool m, .int .u64 y1, .int .u64 y0] 24)).alloc (.cells #[.int .u64 0, .int .u64 0, .int .u64 0, .int .u64 0] 121)) wx)
    case first =>
      clear HA HB HE HG Z0 Z1 ZB A1 A2 A3 A4 B1 B2 B3 B4 E1 E2 E3 E4 G1 G2 G3 G4 hT a1 a2 b1 b2 c1 c2 d1 d2 l001 l002 l011 l012 l101 l102 l111 l112 k001 k002 k011 k012 k101 k102 k111 k112
      go_region
      all_goals (go_wp2_with fail; go_meet; exact ⟨_, _, rfl, rfl, by simp (maxDischargeDepth := 12) [go_sem], by simp (maxDischargeDepth := 12) [go_sem], by simp (maxDischargeDepth := 12) [go_sem], by simp (maxDischargeDepth := 12) [go_sem], by simp, by simp, by (repeat' (first | (with_reducible exact Below.refl _ _) | (refine Below.trans ?_ (Below.mono (by with_reducible assumption) ?_)) | (with_reducible exact Below.refl _ _) | (with_reducible refine below_drewN ?_ _) | (with_reducible refine Below.drew ?_) | (with_reducible refine Below.setCell ?_ ?_ _) | (with_reducible refine Below.alloc ?_ ?_ _) | (with_reducible assumption) | (simp; done) | (simp; omega) | omega))⟩)
    case rest =>
      obtain ⟨p, q, rfl, rfl, u0, u1, v0, v1, hp, hq, hB⟩ := hcut
      have t0 : wc.cell? ⟨w.heap.size + 1 + 1, 0, none⟩ = some (.int .u64 0) := (Below.cell hB (by simp)).trans (by simp [go_sem])
      have t1 : wc.cell? ⟨w.heap.size + 1 + 1, 1, none⟩ = some (.int .u64 0) := (Below.cell hB (by simp)).trans (by simp [go_sem])
      have t2 : wc.cell? ⟨w.heap.size + 1 + 1, 2, none⟩ = some (.int .u64 0) := (Below.cell hB (by simp)).trans (by simp [go_sem])
      have t3 : wc.cell? ⟨w.heap.size + 1 + 1, 3, none⟩ = some (.int .u64 0) := (Below.cell hB (by simp)).trans (by simp [go_sem])
      have f0 : wc.frozen? ⟨w.heap.size + 1 + 1, 0, none⟩ = false := (Below.frozen hB (by simp)).trans (by simp [go_sem])
      have f1 : wc.frozen? ⟨w.heap.size + 1 + 1, 1, none⟩ = false := (Below.frozen hB (by simp)).trans (by simp [go_sem])
      have f2 : wc.frozen? ⟨w.heap.size + 1 + 1, 2, none⟩ = false := (Below.frozen hB (by simp)).trans (by simp [go_sem])
      have f3 : wc.frozen? ⟨w.heap.size + 1 + 1, 3, none⟩ = false := (Below.frozen hB (by simp)).trans (by simp [go_sem])
      have hs := hB.size; simp at hs
      have hB' : Below w.heap.size w wc := Below.trans (by (repeat' (first | (with_reducible exact Below.refl _ _) | (refine Below.trans ?_ (Below.mono (by with_reducible assumption) ?_)) | (with_reducible exact Below.refl _ _) | (with_reducible refine below_drewN ?_ _) | (with_reducible refine Below.drew ?_) | (with_reducible refine Below.setCell ?_ ?_ _) | (with_reducible refine Below.alloc ?_ ?_ _) | (with_reducible assumption) | (simp; done) | (simp; omega) | omega))) (hB.mono (by omega))
      have HB' := Lib.hid hB'
      clear hB hB'
      clear A1 A2 B1 B2 E1 E2 G1 G2
      obtain ⟨wp, rfl⟩ : ∃ wp : World, wp = wc := ⟨_, rfl⟩
      go_upto_block 0 with fail
      go_cut [9] (fun _ wx => wx.cell? ⟨wp.heap.size, 0, none⟩ = some (.int .u64 (pl x0 y0)) ∧ wx.cell? ⟨wp.heap.size, 1, none⟩ = some (.int .u64 B) ∧ wx.cell? ⟨wp.heap.size, 2, none⟩ = some (.int .u64 G) ∧ wx.cell? ⟨wp.heap.size, 3, none⟩ = some (.int .u64 (ph x1 y1 + F + H)) ∧ Below wp.heap.size wp wx)
      case first =>
        go_wp2_with fail
        refine wp_loop_rounds 3 ?_
        rw [rounds_succ]; go_wp2_with fail
        refine wp_loop_rounds 3 ?_
        rw [rounds_succ]; go_wp2_with fail
        go_quiet ((go_at_call 77; refine Calls.quiet_of_same (mul64_q _ _ (by omega) (by omega) (by omega) (by omega) _)))
        have z00 := Z0.out
        go_wp2_with fail
        clear z00
        rw [rounds_succ]; go_wp2_with fail
        go_quiet ((go_at_call 77; refine Calls.quiet_of_same (mul64_q _ _ (by omega) (by omega) (by omega) (by omega) _)))
        have z01 := Z1.out; have eA := HA.out
        go_wp2_with fail
        clear z01 eA
        rw [rounds_succ]; go_wp2_with fail
        rw [rounds_succ]; go_wp2_with fail
        refine wp_loop_rounds 3 ?_
        rw [rounds_succ]; go_wp2_with fail
        go_quiet ((go_at_call 77; refine Calls.quiet_of_same (mul64_q _ _ (by omega) (by omega) (by omega) (by omega) _)))
        have eB := HB.out; have zB := ZB.out
        go_wp2_with fail
        clear eB zB
        rw [rounds_succ]; go_wp2_with fail
        go_quiet ((go_at_call 77; refine Calls.quiet_of_same (mul64_q _ _ (by omega) (by omega) (by omega) (by omega) _)))
        have eE := HE.out; have eG := HG.out
        go_wp2_with fail
        clear eE eG
        rw [rounds_succ]; go_wp2_with fail
        rw [rounds_succ]; go_wp2_with fail
        go_meet
        exact ⟨by simp (maxDischargeDepth := 12) [go_sem], by simp (maxDischargeDepth := 12) [go_sem], by simp (maxDischargeDepth := 12) [go_sem], by simp (maxDischargeDepth := 12) [go_sem], by (repeat' (first | (with_reducible exact Below.refl _ _) | (refine Below.trans ?_ (Below.mono (by with_reducible assumption) ?_)) | (with_reducible exact Below.refl _ _) | (with_reducible refine below_drewN ?_ _) | (with_reducible refine Below.drew ?_) | (with_reducible refine Below.setCell ?_ ?_ _) | (with_reducible refine Below.alloc ?_ ?_ _) | (with_reducible assumption) | (simp; done) | (simp; omega) | omega))⟩
      case rest =>
        obtain ⟨r0, r1, r2, r3, hb⟩ := hcut
        clear A3 A4 B3 B4 E3 E4 G3 G4 hT a1 a2 b1 b2 c1 c2 d1 d2 l001 l002 l011 l012 l101 l102 l111 l112 k001 k002 k011 k012 k101 k102 k111 k112 HA HB HE HG Z0 Z1 ZB u0 u1 v0 v1 hp hq
        have y0 : wc.cell? ⟨w.heap.size + 1 + 1, 0, none⟩ = some (.int .u64 0) := (Below.cell hb (by simp; omega)).trans t0
        have z0 : wc.frozen? ⟨w.heap.size + 1 + 1, 0, none⟩ = false := (Below.frozen hb (by simp; omega)).trans f0
        have y1 : wc.cell? ⟨w.heap.size + 1 + 1, 1, none⟩ = some (.int .u64 0) := (Below.cell hb (by simp; omega)).trans t1
        have z1 : wc.frozen? ⟨w.heap.size + 1 + 1, 1, none⟩ = false := (Below.frozen hb (by simp; omega)).trans f1
        have y2 : wc.cell? ⟨w.heap.size + 1 + 1, 2, none⟩ = some (.int .u64 0) := (Below.cell hb (by simp; omega)).trans t2
        have z2 : wc.frozen? ⟨w.heap.size + 1 + 1, 2, none⟩ = false := (Below.frozen hb (by simp; omega)).trans f2
        have y3 : wc.cell? ⟨w.heap.size + 1 + 1, 3, none⟩ = some (.int .u64 0) := (Below.cell hb (by simp; omega)).trans t3
        have z3 : wc.frozen? ⟨w.heap.size + 1 + 1, 3, none⟩ = false := (Below.frozen hb (by simp; omega)).trans f3
        clear t0 t1 t2 t3 f0 f1 f2 f3
        have hs2 := hb.size
        go_wp2
        (try simp only [Exit.inBlock, Exit.then]); refine bodyPost_ret (by simp [results, Try.results75, go_sem, *]; try rfl) rfl ?_
        exact ⟨rfl, by refine Below.trans HB'.out ?_; refine Below.trans (hb.mono (by omega)) ?_; (repeat' (first | (with_reducible exact Below.refl _ _) | (refine Below.trans ?_ (Below.mono (by with_reducible assumption) ?_)) | (with_reducible exact Below.refl _ _) | (with_reducible refine below_drewN ?_ _) | (with_reducible refine Below.drew ?_) | (with_reducible refine Below.setCell ?_ ?_ _) | (with_reducible refine Below.alloc ?_ ?_ _) | (with_reducible assumption) | (simp; done) | (simp; omega) | omega))⟩
  · rintro e w' ⟨rfl, hw⟩
    exact ⟨_, _, _, _, rfl, l00, ⟨B1, B2⟩, ⟨G1, G2⟩, ⟨by omega, hT⟩, hN, hw⟩
end Go.Proofs.Ytkhhjibpppmekaa
