/- fieldfareref01: lower, signed, held, Neg. -/
import Derived.Test.YtkhhjibpppmekaaRefK
namespace Go.Proofs.Ytkhhjibpppmekaa
open Go.RowKit
/-- The value is a number's sign and digits. -/
def NV (w : World) (B : Nat) (v : Value) (z : Int) : Prop :=
  ∃ (A : Option Addr) (c : Nat), v = .agg #[.bool (zn z), .slice A (dg z.natAbs).length c] ∧ RI w B A (dg z.natAbs) ∧ (dg z.natAbs).length ≤ c ∧ (A = none → dg z.natAbs = [] ∧ c = 0)
theorem NV.below {w w' : World} {B : Nat} {v : Value} {z : Int} (h : NV w B v z) (hb : Below B w w') : NV w' B v z := by
  obtain ⟨A, c, e, hr, hc, ha⟩ := h
  exact ⟨A, c, e, hr.below hb, hc, ha⟩
theorem NV.more {w : World} {B B' : Nat} {v : Value} {z : Int} (h : NV w B v z) (hB : B ≤ B') : NV w B' v z := by
  obtain ⟨A, c, e, hr, hc, ha⟩ := h
  exact ⟨A, c, e, hr.more hB, hc, ha⟩
theorem NV.of {w : World} {b : Nat} {v : Value} {z : Int} {s : Bool} {K : Nat} (h : OI w b v (dg K)) (hs : s = zn z) (hK : K = z.natAbs) : NV w w.heap.size (.agg #[.bool s, v]) z := by
  subst hs hK
  obtain ⟨A, c, rfl, hc, hr, ha⟩ := h.slice
  exact ⟨A, c, rfl, hr, hc, ha⟩
theorem NV.zero (w : World) (B : Nat) : NV w B (.agg #[.bool false, .slice none 0 0]) 0 := ⟨none, 0, rfl, RI.nil, Nat.le_refl _, fun _ => ⟨rfl, rfl⟩⟩
/-- A number, unless it is too great; and the error's number. -/
def heldZ (z : Int) : Int := if ((z.natAbs : Nat) : Int) < LIM then z else 0
def heldC (z : Int) : Int := if ((z.natAbs : Nat) : Int) < LIM then 0 else 2
theorem dg_len_LIM (N : Nat) : (dg N).length ≤ 36 ↔ (N : Int) < LIM := by
  rw [dg_len_iff36]; unfold LIM; omega
set_option maxRecDepth 100000 in
set_option maxHeartbeats 400000 in
theorem lower_any (A : Option Addr) (c N : Nat) (w : World) (B0 : Nat) (hr : RI w B0 A (dg N)) (hc : (dg N).length ≤ c) :
    Calls Try.prog 82 #[.slice A (dg N).length c] w fun e w' => (∃ (A2 : Option Addr) (c2 : Nat), e = .returned (.slice A2 (dg (N / 1000000)).length c2) ∧ RI w' B0 A2 (dg (N / 1000000)) ∧ (dg (N / 1000000)).length ≤ c2 ∧ (A2 = none → dg (N / 1000000) = [] ∧ c2 = 0)) ∧ w = w' := by
  have hd : (dg N).drop 6 = dg (N / 1000000) := dg_lower N 6
  have hA : A = none → dg N = [] := fun e => by
    rcases Nat.eq_zero_or_pos (dg N).length with h | h
    · exact List.length_eq_zero_iff.1 h
    · obtain ⟨ad, e2, _⟩ := hr h; rw [e] at e2; cases e2
  have hrc := hr.cut (k := 6) hc
  rw [hd] at hrc
  have hln : (dg (N / 1000000)).length = (dg N).length - 6 := by rw [← hd, List.length_drop]
  obtain ⟨n, hn⟩ : ∃ n, n = (dg N).length := ⟨_, rfl⟩
  by_cases h6 : (dg N).length ≤ 6
  · have e0 : dg (N / 1000000) = [] := List.length_eq_zero_iff.1 (by rw [hln]; omega)
    rw [e0, List.length_nil]
    rw [← hn] at h6 ⊢
    clear hr hc hd hA hrc hln hn e0
    go_enter Try.func82, Try.ntmps82
    go_wp2
    go_ret
    exact ⟨⟨none, 0, rfl, RI.nil, Nat.le_refl _, fun _ => by simp⟩, rfl⟩
  · have hc6 : ¬ c = 6 := by omega
    rw [if_neg hc6] at hrc
    have hrun := fun W => icut_run A (dg N).length c 6 (by omega) W
    rw [if_neg hc6] at hrun
    obtain ⟨A2, hA2⟩ : ∃ A2, A2 = A.map (·.add 6) := ⟨_, rfl⟩
    rw [← hA2] at hrun hrc
    have HRC := Lib.hid hrc
    have HLN := Lib.hid hln
    have HA := Lib.hid (show A2 = none → dg (N / 1000000) = [] ∧ c - 6 = 0 by
      intro e
      rw [hA2] at e
      have : A = none := by cases A with
        | none => rfl
        | some a => cases e
      have := hA this
      rw [this] at h6; simp at h6)
    have HC := Lib.hid (show (dg (N / 1000000)).length ≤ c - 6 by omega)
    have HA2 := Lib.hid hA2
    rw [← hn] at hrun h6 ⊢
    clear hr hc hd hA hrc hln hA2
    go_enter Try.func82, Try.ntmps82
    go_wp2
    go_ret
    exact ⟨⟨A2, c - 6, by rw [HLN.out, HA2.out, ← hn]; cases A <;> rfl, HRC.out, HC.out, HA.out⟩, rfl⟩
set_option maxRecDepth 100000 in
set_option maxHeartbeats 400000 in
theorem signed_any (s : Bool) (A : Option Addr) (c N : Nat) (w : World) :
    Calls Try.prog 83 #[.bool s, .slice A (dg N).length c] w fun e w' => e = .returned (.agg #[.bool (s && decide (0 < N)), .slice A (dg N).length c]) ∧ Below w.heap.size w w' := by
  obtain ⟨p, hp⟩ : ∃ p, p = decide (0 < N) := ⟨_, rfl⟩
  have hpl : decide (0 < (dg N).length) = p := by rw [hp, decide_eq_decide]; exact ⟨fun h => by rcases Nat.eq_zero_or_pos N with e | e; (rw [e, dg_zero] at h; simp at h); exact e, fun h => dg_len_pos (by omega)⟩
  rw [← hp]
  obtain ⟨n, hn⟩ : ∃ n, n = (dg N).length := ⟨_, rfl⟩
  rw [← hn] at hpl
  rw [← hn]
  clear hp hn
  cases s <;> cases p
  all_goals
    simp only [decide_eq_true_eq, decide_eq_false_iff_not] at hpl
    have h2 : n = 0 ∨ 0 < n := by omega
    go_enter Try.func83, Try.ntmps83
    go_wp2
    go_returns
    exact ⟨rfl, by (repeat' (first | (with_reducible exact Below.refl _ _) | (refine Below.trans ?_ (Below.mono (by with_reducible assumption) ?_)) | (with_reducible exact Below.refl _ _) | (with_reducible refine below_drewN ?_ _) | (with_reducible refine Below.drew ?_) | (with_reducible refine Below.setCell ?_ ?_ _) | (with_reducible refine Below.alloc ?_ ?_ _) | (with_reducible assumption) | (simp; done) | (simp; omega) | omega))⟩
set_option maxRecDepth 100000 in
set_option maxHeartbeats 400000 in
theorem rheld_ok (s : Bool) (A : Option Addr) (c n : Nat) (w : World) (h : n ≤ 36) :
    Calls Try.prog 84 #[.agg #[.bool s, .slice A n c]] w fun e w' => e = .returned (.tuple #[.agg #[.bool s, .slice A n c], .int .i64 0]) ∧ Below w.heap.size w w' := by
  go_enter Try.func84, Try.ntmps84
  go_wp2
  go_returns
  exact ⟨rfl, by (repeat' (first | (with_reducible exact Below.refl _ _) | (refine Below.trans ?_ (Below.mono (by with_reducible assumption) ?_)) | (with_reducible exact Below.refl _ _) | (with_reducible refine below_drewN ?_ _) | (with_reducible refine Below.drew ?_) | (with_reducible refine Below.setCell ?_ ?_ _) | (with_reducible refine Below.alloc ?_ ?_ _) | (with_reducible assumption) | (simp; done) | (simp; omega) | omega))⟩
set_option maxRecDepth 100000 in
set_option maxHeartbeats 400000 in
theorem rheld_over (s : Bool) (A : Option Addr) (c n : Nat) (w : World) (h : 36 < n) :
    Calls Try.prog 84 #[.agg #[.bool s, .slice A n c]] w fun e w' => e = .returned (.tuple #[.agg #[.bool false, .slice none 0 0], .int .i64 2]) ∧ Below w.heap.size w w' := by
  go_enter Try.func84, Try.ntmps84
  go_wp2
  go_returns
  exact ⟨rfl, by (repeat' (first | (with_reducible exact Below.refl _ _) | (refine Below.trans ?_ (Below.mono (by with_reducible assumption) ?_)) | (with_reducible exact Below.refl _ _) | (with_reducible refine below_drewN ?_ _) | (with_reducible refine Below.drew ?_) | (with_reducible refine Below.setCell ?_ ?_ _) | (with_reducible refine Below.alloc ?_ ?_ _) | (with_reducible assumption) | (simp; done) | (simp; omega) | omega))⟩
theorem zn_neg (z : Int) : zn (-z) = (!zn z && decide (0 < z.natAbs)) := by
  unfold zn
  rw [Bool.eq_iff_iff]; simp; omega
/-- held, of a number as the value of an integer. -/
theorem rheld_any (v : Value) (z : Int) (w : World) (B : Nat) (hB : B ≤ w.heap.size) (hv : NV w B v z) :
    Calls Try.prog 84 #[v] w fun e w' => (∃ v', e = .returned (.tuple #[v', .int .i64 (heldC z)]) ∧ NV w' B v' (heldZ z)) ∧ Below w.heap.size w w' := by
  obtain ⟨A, c, rfl, hr, hc, ha⟩ := hv
  unfold heldZ heldC
  by_cases h : ((z.natAbs : Nat) : Int) < LIM
  · rw [if_pos h, if_pos h]
    refine (rheld_ok _ A c _ w ((dg_len_LIM _).2 h)).mono fun e w' ⟨he, hb⟩ => ⟨⟨_, he, A, c, rfl, hr.below (hb.mono hB), hc, ha⟩, hb⟩
  · rw [if_neg h, if_neg h]
    refine (rheld_over _ A c _ w (by have := (not_congr (dg_len_LIM z.natAbs)).2 h; omega)).mono fun e w' ⟨he, hb⟩ => ⟨⟨_, he, NV.zero _ _⟩, hb⟩
end Go.Proofs.Ytkhhjibpppmekaa
