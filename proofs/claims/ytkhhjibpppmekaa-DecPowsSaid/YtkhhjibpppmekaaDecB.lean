/- dec.result, Int, Neg: what each call returns, in whatever world. -/
import Derived.Test.YtkhhjibpppmekaaDecM
namespace Go.Proofs.Ytkhhjibpppmekaa
open Go.RowKit
set_option maxRecDepth 100000 in
set_option maxHeartbeats 400000 in
theorem result_ok (neg : Bool) (a b c d z : Int) (ha : Wd a) (hb : Wd b) (hc : Wd c) (hd : Wd d) (hz : lim4 a b c d = z.natAbs) (hs : z = 0 ∨ neg = decide (z < 0)) (hl : z.natAbs < LIM) (w : World) :
    Calls Try.prog 76 #[.bool neg, .agg #[.int .u64 a, .int .u64 b, .int .u64 c, .int .u64 d]] w fun e w' => e = .returned (.tuple #[.agg #[.bool (zn (z)), .int .u64 (zh (z)), .int .u64 (zl (z))], .nilIface]) ∧ Below w.heap.size w w' := by
  obtain ⟨rfl, rfl, hbl⟩ := lim4_lt ha hb hc hd (by omega)
  rw [lim4_small] at hz
  have hi : z ≠ 0 → IsD neg b a z := fun h => ⟨hb, ha, hz, by rcases hs with hs | hs; exact absurd hs h; exact hs, hl⟩
  obtain ⟨a1, a2⟩ := ha; obtain ⟨b1, b2⟩ := hb
  by_cases h0 : z = 0
  · subst h0
    obtain rfl : a = 0 := by simp at hz; omega
    obtain rfl : b = 0 := by simp at hz; omega
    clear hi hs hl hz a1 a2 b1 b2
    have e1 : zn 0 = false := by decide
    have e2 : zh 0 = 0 := by decide
    have e3 : zl 0 = 0 := by decide
    rw [e1, e2, e3]; clear e1 e2 e3
    go_enter Try.func76, Try.ntmps76
    go_wp2_with (go_at_call 65; refine (below_any _ _ _ _ _).mono ?_; rintro e w' ⟨rfl, rfl⟩)
    go_returns
    exact ⟨rfl, by (repeat' (first | (with_reducible exact Below.refl _ _) | (refine Below.trans ?_ (Below.mono (by with_reducible assumption) ?_)) | (with_reducible exact Below.refl _ _) | (with_reducible refine below_drewN ?_ _) | (with_reducible refine Below.drew ?_) | (with_reducible refine Below.setCell ?_ ?_ _) | (with_reducible refine Below.alloc ?_ ?_ _) | (with_reducible assumption) | (simp; done) | (simp; omega) | omega))⟩
  · obtain ⟨e1, e2, e3⟩ := (hi h0).eq
    rw [← e1, ← e2, ← e3]; clear e1 e2 e3 hi
    by_cases hb0 : b = 0
    · subst hb0
      have ha0 : (a == 0) = false := by rw [beq_eq_false_iff_ne]; omega
      clear hs hl hz h0
      go_enter Try.func76, Try.ntmps76
      go_wp2_with (go_at_call 65; refine (below_any _ _ _ _ _).mono ?_; rintro e w' ⟨rfl, rfl⟩)
      go_returns
      exact ⟨rfl, by (repeat' (first | (with_reducible exact Below.refl _ _) | (refine Below.trans ?_ (Below.mono (by with_reducible assumption) ?_)) | (with_reducible exact Below.refl _ _) | (with_reducible refine below_drewN ?_ _) | (with_reducible refine Below.drew ?_) | (with_reducible refine Below.setCell ?_ ?_ _) | (with_reducible refine Below.alloc ?_ ?_ _) | (with_reducible assumption) | (simp; done) | (simp; omega) | omega))⟩
    · have hb0' : (b == 0) = false := by rw [beq_eq_false_iff_ne]; omega
      clear hs hl hz h0
      go_enter Try.func76, Try.ntmps76
      go_wp2_with (go_at_call 65; refine (below_any _ _ _ _ _).mono ?_; rintro e w' ⟨rfl, rfl⟩)
      go_returns
      exact ⟨rfl, by (repeat' (first | (with_reducible exact Below.refl _ _) | (refine Below.trans ?_ (Below.mono (by with_reducible assumption) ?_)) | (with_reducible exact Below.refl _ _) | (with_reducible refine below_drewN ?_ _) | (with_reducible refine Below.drew ?_) | (with_reducible refine Below.setCell ?_ ?_ _) | (with_reducible refine Below.alloc ?_ ?_ _) | (with_reducible assumption) | (simp; done) | (simp; omega) | omega))⟩

theorem wne {x : Int} (h : x ≠ 0) : (x == 0) = false := by rw [beq_eq_false_iff_ne]; exact h
set_option maxRecDepth 100000 in
set_option maxHeartbeats 400000 in
theorem result_over (neg : Bool) (a b c d : Int) (ha : Wd a) (hb : Wd b) (hc : Wd c) (hd : Wd d) (hl : LIM ≤ lim4 a b c d) (w : World) :
    Calls Try.prog 76 #[.bool neg, .agg #[.int .u64 a, .int .u64 b, .int .u64 c, .int .u64 d]] w fun e w' => e = .returned (.tuple #[.agg #[.bool false, .int .u64 0, .int .u64 0], .iface 83 (.int .i64 2)]) ∧ Below w.heap.size w w' := by
  by_cases hd0 : d = 0
  · subst hd0
    by_cases hc0 : c = 0
    · subst hc0
      have hbl : blw b a 54210108624275221 12919594847110692864 = false := by
        rw [Bool.eq_false_iff]
        intro h
        rw [blw_iff ha hb] at h
        rw [lim4_small] at hl
        omega
      clear ha hb hc hd hl
      go_enter Try.func76, Try.ntmps76
      go_wp2_with (go_at_call 65; refine (below_any _ _ _ _ _).mono ?_; rintro e w' ⟨rfl, rfl⟩)
      go_returns
      exact ⟨rfl, by (repeat' (first | (with_reducible exact Below.refl _ _) | (refine Below.trans ?_ (Below.mono (by with_reducible assumption) ?_)) | (with_reducible exact Below.refl _ _) | (with_reducible refine below_drewN ?_ _) | (with_reducible refine Below.drew ?_) | (with_reducible refine Below.setCell ?_ ?_ _) | (with_reducible refine Below.alloc ?_ ?_ _) | (with_reducible assumption) | (simp; done) | (simp; omega) | omega))⟩
    · have hc1 := wne hc0
      clear ha hb hc hd hl
      go_enter Try.func76, Try.ntmps76
      go_wp2_with (go_at_call 65; refine (below_any _ _ _ _ _).mono ?_; rintro e w' ⟨rfl, rfl⟩)
      go_returns
      exact ⟨rfl, by (repeat' (first | (with_reducible exact Below.refl _ _) | (refine Below.trans ?_ (Below.mono (by with_reducible assumption) ?_)) | (with_reducible exact Below.refl _ _) | (with_reducible refine below_drewN ?_ _) | (with_reducible refine Below.drew ?_) | (with_reducible refine Below.setCell ?_ ?_ _) | (with_reducible refine Below.alloc ?_ ?_ _) | (with_reducible assumption) | (simp; done) | (simp; omega) | omega))⟩
  · have hd1 := wne hd0
    clear ha hb hc hd hl
    go_enter Try.func76, Try.ntmps76
    go_wp2_with (go_at_call 65; refine (below_any _ _ _ _ _).mono ?_; rintro e w' ⟨rfl, rfl⟩)
    go_returns
    exact ⟨rfl, by (repeat' (first | (with_reducible exact Below.refl _ _) | (refine Below.trans ?_ (Below.mono (by with_reducible assumption) ?_)) | (with_reducible exact Below.refl _ _) | (with_reducible refine below_drewN ?_ _) | (with_reducible refine Below.drew ?_) | (with_reducible refine Below.setCell ?_ ?_ _) | (with_reducible refine Below.alloc ?_ ?_ _) | (with_reducible assumption) | (simp; done) | (simp; omega) | omega))⟩

theorem wrap_i64_u64 (n : Int) (h : 0 ≤ n) (h1 : n < 9223372036854775808) : IntKind.u64.wrap n = n := by rw [IntKind.wrap_u64]; omega
theorem wrap_neg_u64 (n : Int) (h : n < 0) (h1 : -9223372036854775808 ≤ n) : IntKind.u64.wrap (-IntKind.u64.wrap n) = -n := by simp only [IntKind.wrap_u64]; omega
set_option maxRecDepth 100000 in
set_option maxHeartbeats 400000 in
theorem int_any (n : Int) (h0 : -9223372036854775808 ≤ n) (h1 : n < 9223372036854775808) (w : World) :
    Calls Try.prog 46 #[.int .i64 n] w fun e w' => e = .returned (.agg #[.bool (zn (n * 1000000)), .int .u64 (zh (n * 1000000)), .int .u64 (zl (n * 1000000))]) ∧ Below w.heap.size w w' := by
  by_cases hn : n < 0
  · have e1 : zn (n * 1000000) = true := by unfold zn; rw [decide_eq_true_eq]; omega
    have e2 : zh (n * 1000000) = ph (-n) 1000000 := by unfold zh ph; omega
    have e3 : zl (n * 1000000) = pl (-n) 1000000 := by unfold zl pl; omega
    rw [e1, e2, e3]; clear e1 e2 e3
    have ew := wrap_neg_u64 n hn h0
    go_enter Try.func46, Try.ntmps46
    go_wp2_with (go_at_call 77; refine (mul64 _ _ (by omega) (by omega) (by omega) (by omega) _).mono ?_; rintro e w' ⟨rfl, rfl⟩)
    go_returns
    exact ⟨rfl, by (repeat' (first | (with_reducible exact Below.refl _ _) | (refine Below.trans ?_ (Below.mono (by with_reducible assumption) ?_)) | (with_reducible exact Below.refl _ _) | (with_reducible refine below_drewN ?_ _) | (with_reducible refine Below.drew ?_) | (with_reducible refine Below.setCell ?_ ?_ _) | (with_reducible refine Below.alloc ?_ ?_ _) | (with_reducible assumption) | (simp; done) | (simp; omega) | omega))⟩
  · have hd : decide (n < 0) = false := decide_eq_false hn
    have e1 : zn (n * 1000000) = false := by unfold zn; rw [decide_eq_false_iff_not]; omega
    have e2 : zh (n * 1000000) = ph n 1000000 := by unfold zh ph; omega
    have e3 : zl (n * 1000000) = pl n 1000000 := by unfold zl pl; omega
    rw [e1, e2, e3]; clear e1 e2 e3
    go_enter Try.func46, Try.ntmps46
    go_wp2_with (go_at_call 77; refine (mul64 _ _ (by omega) (by omega) (by omega) (by omega) _).mono ?_; rintro e w' ⟨rfl, rfl⟩)
    go_returns
    exact ⟨rfl, by (repeat' (first | (with_reducible exact Below.refl _ _) | (refine Below.trans ?_ (Below.mono (by with_reducible assumption) ?_)) | (with_reducible exact Below.refl _ _) | (with_reducible refine below_drewN ?_ _) | (with_reducible refine Below.drew ?_) | (with_reducible refine Below.setCell ?_ ?_ _) | (with_reducible refine Below.alloc ?_ ?_ _) | (with_reducible assumption) | (simp; done) | (simp; omega) | omega))⟩

end Go.Proofs.Ytkhhjibpppmekaa
