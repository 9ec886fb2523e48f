/- dec.small: a whole number of four words divided by one. -/
import Derived.Test.YtkhhjibpppmekaaDecM
namespace Go.Proofs.Ytkhhjibpppmekaa
open Go.RowKit
set_option maxRecDepth 100000 in
set_option maxHeartbeats 400000 in
theorem small_raw (a b c d by_ : Int) (ha : Wd a) (hb : Wd b) (hc : Wd c) (hd : Wd d) (hy0 : 0 < by_) (hy : by_ < 18446744073709551616) (w : World) :
    Calls Try.prog 78 #[.agg #[.int .u64 a, .int .u64 b, .int .u64 c, .int .u64 d], .int .u64 by_] w fun e w' => 
      e = .returned (.tuple #[.agg #[.int .u64 (dq (dr (dr (dr 0 d by_) c by_) b by_) a by_), .int .u64 (dq (dr (dr 0 d by_) c by_) b by_), .int .u64 (dq (dr 0 d by_) c by_), .int .u64 (dq 0 d by_)], .int .u64 (dr (dr (dr (dr 0 d by_) c by_) b by_) a by_)]) ∧ Below w.heap.size w w' := by
  obtain ⟨a1, a2⟩ := ha; obtain ⟨b1, b2⟩ := hb; obtain ⟨c1, c2⟩ := hc; obtain ⟨d1, d2⟩ := hd
  obtain ⟨x1, x2⟩ := dr_range (lo := d) (Int.le_refl 0) hy0
  obtain ⟨x3, x4⟩ := dr_range (lo := c) x1 x2
  obtain ⟨x5, x6⟩ := dr_range (lo := b) x3 x4
  obtain ⟨x7, x8⟩ := dr_range (lo := a) x5 x6
  go_enter Try.func78, Try.ntmps78
  go_wp2_with fail
  refine wp_loop_rounds 5 ?_
  rw [rounds_succ]; go_wp2_with (go_at_call 64; refine (div64_any _ _ _ (by omega) (by omega) (by omega) (by omega) (by omega) _).mono ?_; rintro e w' ⟨rfl, n, rfl⟩)
  rw [rounds_succ]; go_wp2_with (go_at_call 64; refine (div64_any _ _ _ (by omega) (by omega) (by omega) (by omega) (by omega) _).mono ?_; rintro e w' ⟨rfl, n, rfl⟩)
  rw [rounds_succ]; go_wp2_with (go_at_call 64; refine (div64_any _ _ _ (by omega) (by omega) (by omega) (by omega) (by omega) _).mono ?_; rintro e w' ⟨rfl, n, rfl⟩)
  rw [rounds_succ]; go_wp2_with (go_at_call 64; refine (div64_any _ _ _ (by omega) (by omega) (by omega) (by omega) (by omega) _).mono ?_; rintro e w' ⟨rfl, n, rfl⟩)
  rw [rounds_succ]; go_wp2_with (go_at_call 64; refine (div64_any _ _ _ (by omega) (by omega) (by omega) (by omega) (by omega) _).mono ?_; rintro e w' ⟨rfl, n, rfl⟩)
  go_returns
  exact ⟨rfl, by (repeat' (first | (with_reducible exact Below.refl _ _) | (refine Below.trans ?_ (Below.mono (by with_reducible assumption) ?_)) | (with_reducible exact Below.refl _ _) | (with_reducible refine below_drewN ?_ _) | (with_reducible refine Below.drew ?_) | (with_reducible refine Below.setCell ?_ ?_ _) | (with_reducible refine Below.alloc ?_ ?_ _) | (with_reducible assumption) | (simp; done) | (simp; omega) | omega))⟩

theorem small_any (a b c d y : Int) (ha : Wd a) (hb : Wd b) (hc : Wd c) (hd : Wd d) (hy0 : 0 < y) (hy : y < 18446744073709551616) (w : World) :
    Calls Try.prog 78 #[.agg #[.int .u64 a, .int .u64 b, .int .u64 c, .int .u64 d], .int .u64 y] w fun e w' => ∃ q0 q1 q2 q3 r : Int,
      e = .returned (.tuple #[.agg #[.int .u64 q0, .int .u64 q1, .int .u64 q2, .int .u64 q3], .int .u64 r]) ∧ Wd q0 ∧ Wd q1 ∧ Wd q2 ∧ Wd q3 ∧ lim4 q0 q1 q2 q3 = lim4 a b c d / y ∧ r = lim4 a b c d % y ∧ Below w.heap.size w w' := by
  obtain ⟨q0, q1, q2, q3, r, e0, e1, e2, e3, e4, w0, w1, w2, w3, hq, hr⟩ := small_eq ha hb hc hd hy0
  refine (small_raw a b c d y ha hb hc hd hy0 hy w).mono ?_
  rintro e w' ⟨he, hw⟩
  exact ⟨q0, q1, q2, q3, r, by rw [he, e0, e1, e2, e3, e4], w0, w1, w2, w3, hq, hr, hw⟩
end Go.Proofs.Ytkhhjibpppmekaa
