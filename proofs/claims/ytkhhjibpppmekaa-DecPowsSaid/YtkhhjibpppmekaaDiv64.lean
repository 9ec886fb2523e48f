/- math/bits.Div64: of a divisor greater than the high word it returns the quotient and the rest. -/
import Derived.Test.YtkhhjibpppmekaaKit
import Derived.Test.YtkhhjibpppmekaaNat
import Derived.Test.YtkhhjibpppmekaaShelf
import Derived.Laws.BitsAllLaws
namespace Go.Proofs.Ytkhhjibpppmekaa
open Go.RowKit
theorem u64_mask (a : Int) (h1 : 0 ≤ a) (h2 : a < 18446744073709551616) : bits .and .u64 a 4294967295 = a % 4294967296 := by
  rw [u64_and a 4294967295 h1 h2 (by decide) (by decide), show (4294967295 : Int).toNat = 2 ^ 32 - 1 by rfl, Nat.and_two_pow_sub_one_eq_mod]
  omega
theorem u64_join (a b : Int) (p : Nat) (hp : p ≤ 63) (h1 : 0 ≤ a) (h2 : a * 2 ^ p < 18446744073709551616) (h3 : 0 ≤ b) (h4 : b < 2 ^ p) : bits .or .u64 (a * 2 ^ p) b = a * 2 ^ p + b := by
  obtain ⟨a, rfl⟩ := Int.eq_ofNat_of_zero_le h1
  obtain ⟨b, rfl⟩ := Int.eq_ofNat_of_zero_le h3
  have h4' : b < 2 ^ p := by
    have : ((b : Nat) : Int) < ((2 ^ p : Nat) : Int) := by simpa using h4
    omega
  have h2' : a * 2 ^ p < 18446744073709551616 := by
    have : ((a * 2 ^ p : Nat) : Int) < ((18446744073709551616 : Nat) : Int) := by simpa using h2
    omega
  have hb : b < 18446744073709551616 := by
    have : 2 ^ p ≤ 2 ^ 63 := Nat.pow_le_pow_right (by decide) hp
    omega
  have e : (a : Int) * 2 ^ p = ((a * 2 ^ p : Nat) : Int) := by simp
  rw [e, u64_or_nat _ _ h2' hb, Nat.mul_comm, ← Nat.two_pow_add_eq_or_of_lt h4']
  simp
/-- The numbers of Div64, moved. -/
theorem div_pre (hi lo y : Int) (s : Nat) (hs : s ≤ 63) (h1 : 0 ≤ hi) (h2 : hi < y) (h3 : 0 ≤ lo) (h4 : lo < 18446744073709551616) (v1 : 9223372036854775808 ≤ y * 2 ^ s) (v2 : y * 2 ^ s < 18446744073709551616) :
    ∃ u d1 d0 : Int, bits .or .u64 (IntKind.u64.wrap (hi * 2 ^ s)) (lo / 2 ^ (64 - s)) = u ∧ IntKind.u64.wrap (lo * 2 ^ s) / 4294967296 = d1 ∧ bits .and .u64 (IntKind.u64.wrap (lo * 2 ^ s)) 4294967295 = d0 ∧
      Nrm (y * 2 ^ s) (y * 2 ^ s / 4294967296) (y * 2 ^ s % 4294967296) u d1 ∧ 0 ≤ d0 ∧ d0 < 4294967296 ∧ (u * 4294967296 + d1) * 4294967296 + d0 = (hi * 18446744073709551616 + lo) * 2 ^ s := by
  have hp : (0 : Int) < 2 ^ s := Int.pow_pos (by decide)
  have hps : (2 : Int) ^ s * 2 ^ (64 - s) = 18446744073709551616 := by
    rw [← Int.pow_add, show s + (64 - s) = 64 by omega]; rfl
  have hp2 : (0 : Int) < 2 ^ (64 - s) := Int.pow_pos (by decide)
  have a1 : 0 ≤ hi * 2 ^ s := Int.mul_nonneg h1 (by omega)
  have a2 : (hi + 1) * 2 ^ s ≤ y * 2 ^ s := Int.mul_le_mul_of_nonneg_right (by omega) (by omega)
  rw [Int.add_mul, Int.one_mul] at a2
  have c1 : 0 ≤ lo / 2 ^ (64 - s) := Int.ediv_nonneg h3 (by omega)
  have c2 : lo / 2 ^ (64 - s) < 2 ^ s := Int.ediv_lt_of_lt_mul hp2 (by rw [hps]; exact h4)
  have e1 : IntKind.u64.wrap (hi * 2 ^ s) = hi * 2 ^ s := by rw [IntKind.wrap_u64]; omega
  have e2 : lo * 2 ^ s / 18446744073709551616 = lo / 2 ^ (64 - s) := by
    rw [← hps, Int.mul_comm lo, Int.mul_ediv_mul_of_pos _ _ hp]
  rw [e1, u64_join hi _ s hs h1 (by omega) c1 c2, IntKind.wrap_u64, u64_mask _ (by omega) (by omega)]
  generalize hc : lo / 2 ^ (64 - s) = c at *
  generalize hP : (2 : Int) ^ s = P at *
  have e3 := Int.emod_add_mul_ediv (lo * P) 18446744073709551616
  rw [e2] at e3
  generalize hT : lo * P % 18446744073709551616 = T at *
  have t0 : 0 ≤ T := by rw [← hT]; exact Int.emod_nonneg _ (by decide)
  have t1 : T < 18446744073709551616 := by rw [← hT]; exact Int.emod_lt_of_pos _ (by decide)
  refine ⟨_, _, _, rfl, rfl, rfl, ⟨by omega, by omega, by omega, by omega, by omega, by omega, by omega, by omega, by omega⟩, by omega, by omega, ?_⟩
  have : (hi * 18446744073709551616 + lo) * P = hi * P * 18446744073709551616 + lo * P := by rw [Int.add_mul, Int.mul_right_comm]
  omega
theorem lz_any (y : Int) (h1 : 1 ≤ y) (h2 : y < 18446744073709551616) (w : World) :
    Calls Try.prog 89 #[.int .u64 y] w fun e w' => ∃ s : Nat, e = .returned (.int .i64 s) ∧ w = w' ∧ s ≤ 63 ∧ 9223372036854775808 ≤ y * 2 ^ s ∧ y * 2 ^ s < 18446744073709551616 := by
  obtain ⟨n, rfl⟩ := Int.eq_ofNat_of_zero_le (show 0 ≤ y by omega)
  obtain ⟨s, e1, e2, e3, e4⟩ := lz_bounds n (by omega) (by omega)
  refine (Try.bits_LeadingZeros64 n w (by omega) (by omega)).mono ?_
  rintro e w' ⟨rfl, rfl⟩
  refine ⟨s, ?_, rfl, e2, ?_, ?_⟩
  · rw [Int.toNat_natCast, e1]
  · have : ((9223372036854775808 : Nat) : Int) ≤ ((n * 2 ^ s : Nat) : Int) := by omega
    simpa using this
  · have : ((n * 2 ^ s : Nat) : Int) < ((18446744073709551616 : Nat) : Int) := by omega
    simpa using this
theorem u64_unw (a d b : Int) (h0 : 0 ≤ a + d - b) (h1 : a + d - b < 18446744073709551616) : IntKind.u64.wrap (IntKind.u64.wrap (IntKind.u64.wrap a + d) - IntKind.u64.wrap b) = a + d - b := by
  simp only [IntKind.wrap_u64]; omega
/-- What Div64 returns, behind names. -/
def dq (hi lo y : Int) : Int := (hi * 18446744073709551616 + lo) / y
def dr (hi lo y : Int) : Int := (hi * 18446744073709551616 + lo) % y
def DivRel (hi lo y : Int) (v s yh yl u d1 d0 : Value) : Prop :=
  ∃ (S : Nat) (V u' d1' d0' : Int), S ≤ 63 ∧ v = .int .u64 V ∧ s = .int .u64 S ∧ yh = .int .u64 (V / 4294967296) ∧ yl = .int .u64 (V % 4294967296) ∧ u = .int .u64 u' ∧ d1 = .int .u64 d1' ∧ d0 = .int .u64 d0' ∧
    Nrm V (V / 4294967296) (V % 4294967296) u' d1' ∧ 0 ≤ d0' ∧ d0' < 4294967296 ∧ V < 18446744073709551616 ∧
    kq V u' d1' * 4294967296 + kq V ((u' * 4294967296 + d1') % V) d0' = dq hi lo y ∧ (((u' * 4294967296 + d1') % V) * 4294967296 + d0') % V / 2 ^ S = dr hi lo y
set_option maxRecDepth 100000 in
set_option maxHeartbeats 400000 in
theorem div64_pos (hi lo y : Int) (h1 : 0 ≤ hi) (h2 : hi < y) (h3 : 0 ≤ lo) (h4 : lo < 18446744073709551616) (h5 : y < 18446744073709551616) (h6 : 1 ≤ hi) (w : World) :
    Calls Try.prog 64 #[.int .u64 hi, .int .u64 lo, .int .u64 y] w fun e w' => e = .returned (.tuple #[.int .u64 (dq hi lo y), .int .u64 (dr hi lo y)]) ∧ w = w' := by
  go_enter Try.func64, Try.ntmps64
  go_upto_region 8 with (go_at_call 89; refine (lz_any _ (by omega) (by omega) _).mono ?_; rintro e w' ⟨s, rfl, rfl, hs, hv1, hv2⟩)
  go_upto_region 14 with (fail)
  go_cut [2, 8, 9, 10, 11, 13, 14] (fun v s yh yl u d1 d0 w1 => DivRel hi lo y v s yh yl u d1 d0 ∧ w = w1)
  case first =>
    go_wp2_with fail
    go_meet
    obtain ⟨u, d1, d0, e1, e2, e3, hN, g1, g2, hJ⟩ := div_pre hi lo y s hs h1 h2 h3 h4 hv1 hv2
    have hj := kjoin hi lo y (2 ^ s) (y * 2 ^ s) (Int.pow_pos (by decide)) rfl (by omega) u d1 d0 hJ g1 g2
    rw [e1, e2, e3, u64_mask _ (by omega) hv2]
    exact ⟨⟨s, y * 2 ^ s, u, d1, d0, hs, rfl, rfl, rfl, rfl, rfl, rfl, rfl, hN, g1, g2, hv2, hj.1, hj.2⟩, rfl⟩
  case rest =>
    obtain ⟨⟨s', V, u', d1', d0', hs', rfl, rfl, rfl, rfl, rfl, rfl, rfl, hN, g1, g2, hV, hq, hr⟩, rfl⟩ := hcut
    clear hv1 hv2 hs
    have HQ := Lib.hid hq; clear hq
    have HR := Lib.hid hr; clear hr
    have hK := kinv_start hN
    obtain ⟨y1, hy1⟩ : ∃ y1, y1 = V / 4294967296 := ⟨_, rfl⟩
    obtain ⟨y0, hy0⟩ : ∃ y0, y0 = V % 4294967296 := ⟨_, rfl⟩
    rw [← hy1] at hN hK
    rw [← hy0] at hN
    rw [← hy1, ← hy0]
    clear hy1 hy0
    have a1 := hN.a1; have a2 := hN.a2; have b1 := hN.b1; have b2 := hN.b2; have u1 := hN.u1; have u2 := hN.u2; have dd1 := hN.d1; have dd2 := hN.d2
    have k0 := hK.r0; have k1 := hK.r1; have k2 := hK.q0; have k3 := hK.hi
    have p0 : 0 ≤ u' / y1 * y1 := Int.mul_nonneg k2 (by omega)
    go_upto_block 0 with (fail)
    go_cut [15] (fun q w1 => q = .int .u64 (kq V u' d1') ∧ w = w1)
    case first =>
      go_wp2_with fail
      go_loop [15, 16] (fun q r => ∃ q' r' : Int, q = .int .u64 q' ∧ r = .int .u64 r' ∧ Kinv V y1 u' d1' q' r') (fun q _ => (intOf q).toNat)
      case atStart => exact ⟨_, _, rfl, rfl, hK⟩
      case round =>
        obtain ⟨q', r', rfl, rfl, hI⟩ := hrel
        clear hK k0 k1 k2 k3 p0
        have i0 := hI.r0; have i1 := hI.r1; have i2 := hI.q0; have i3 := hI.hi; have i4 := hI.lo
        have hz := (kq_lt hN).1
        by_cases t1 : 4294967296 ≤ q'
        · have hg := kgreat hN hI (.inl t1)
          by_cases t3 : r' + y1 < 4294967296
          · have hI' := knext hN hI (.inl t1) t3
            go_wp2_with fail
            go_round
            case rel => exact ⟨_, _, rfl, rfl, hI'⟩
            case measure => simp [intOf]; omega
          · have HI' := Lib.hid (kbreak hN hI (.inl t1) (by omega))
            go_wp2_with fail
            go_meet
            exact ⟨by rw [HI'.out], rfl⟩
        · have pp := kprod hN hI (by omega) i2
          obtain ⟨pp1, pp2⟩ := pp
          by_cases t2 : 4294967296 * r' + d1' < q' * y0
          · have hg := kgreat hN hI (.inr t2)
            by_cases t3 : r' + y1 < 4294967296
            · have hI' := knext hN hI (.inr t2) t3
              go_wp2_with fail
              go_round
              case rel => exact ⟨_, _, rfl, rfl, hI'⟩
              case measure => simp [intOf]; omega
            · have HI' := Lib.hid (kbreak hN hI (.inr t2) (by omega))
              go_wp2_with fail
              go_meet
              exact ⟨by rw [HI'.out], rfl⟩
          · have HI' := Lib.hid (kdone hN hI (by omega))
            go_wp2_with fail
            go_meet
            exact ⟨by rw [HI'.out], rfl⟩
    case rest =>
      obtain ⟨rfl, rfl⟩ := hcut
      have hu2 := kleft hN
      have hN2 : Nrm V y1 y0 ((u' * 4294967296 + d1') % V) d0' := by
        obtain ⟨c1, c2, c3⟩ := hu2
        rw [c3] at c1 c2
        exact ⟨hN.hv, a1, a2, b1, b2, c1, c2, g1, g2⟩
      have e17 : IntKind.u64.wrap (IntKind.u64.wrap (IntKind.u64.wrap (u' * 4294967296) + d1') - IntKind.u64.wrap (kq V u' d1' * V)) = (u' * 4294967296 + d1') % V := by
        obtain ⟨c1, c2, c3⟩ := hu2
        rw [← c3]
        exact u64_unw _ _ _ c1 (by omega)
      have E17 := Lib.hid e17; clear e17
      obtain ⟨z0, z1⟩ := kq_lt hN
      obtain ⟨Q1, hQ1⟩ : ∃ Q1, Q1 = kq V u' d1' := ⟨_, rfl⟩
      obtain ⟨u2, hu2'⟩ : ∃ u2, u2 = (u' * 4294967296 + d1') % V := ⟨_, rfl⟩
      rw [← hQ1, ← hu2'] at HQ
      rw [← hu2'] at HR hN2
      rw [← hQ1] at z0 z1
      rw [← hQ1, ← hu2'] at E17
      rw [← hQ1]
      clear hQ1 hu2 hu2' hK k0 k1 k2 k3 p0
      go_upto_region 21 with (fail)
      go_cut [17] (fun x w1 => x = .int .u64 u2 ∧ w = w1)
      case first =>
        go_wp2_with fail
        go_meet
        exact ⟨by rw [E17.out], rfl⟩
      case rest =>
        obtain ⟨rfl, rfl⟩ := hcut
        clear E17 hN
        have hK := kinv_start hN2
        have u1' := hN2.u1; have u2' := hN2.u2
        have k0 := hK.r0; have k1 := hK.r1; have k2 := hK.q0; have k3 := hK.hi
        have p0 : 0 ≤ u2 / y1 * y1 := Int.mul_nonneg k2 (by omega)
        go_upto_block 2 with (fail)
        go_cut [18] (fun q w1 => q = .int .u64 (kq V u2 d0') ∧ w = w1)
        case first =>
          go_wp2_with fail
          go_loop [18, 16] (fun q r => ∃ q' r' : Int, q = .int .u64 q' ∧ r = .int .u64 r' ∧ Kinv V y1 u2 d0' q' r') (fun q _ => (intOf q).toNat)
          case atStart => exact ⟨_, _, rfl, rfl, hK⟩
          case round =>
            obtain ⟨q', r', rfl, rfl, hI⟩ := hrel
            clear hK k0 k1 k2 k3 p0
            have i0 := hI.r0; have i1 := hI.r1; have i2 := hI.q0; have i3 := hI.hi; have i4 := hI.lo
            have hz := (kq_lt hN2).1
            by_cases t1 : 4294967296 ≤ q'
            · have hg := kgreat hN2 hI (.inl t1)
              by_cases t3 : r' + y1 < 4294967296
              · have hI' := knext hN2 hI (.inl t1) t3
                go_wp2_with fail
                go_round
                case rel => exact ⟨_, _, rfl, rfl, hI'⟩
                case measure => simp [intOf]; omega
              · have HI' := Lib.hid (kbreak hN2 hI (.inl t1) (by omega))
                go_wp2_with fail
                go_meet
                exact ⟨by rw [HI'.out], rfl⟩
            · have pp := kprod hN2 hI (by omega) i2
              obtain ⟨pp1, pp2⟩ := pp
              by_cases t2 : 4294967296 * r' + d0' < q' * y0
              · have hg := kgreat hN2 hI (.inr t2)
                by_cases t3 : r' + y1 < 4294967296
                · have hI' := knext hN2 hI (.inr t2) t3
                  go_wp2_with fail
                  go_round
                  case rel => exact ⟨_, _, rfl, rfl, hI'⟩
                  case measure => simp [intOf]; omega
                · have HI' := Lib.hid (kbreak hN2 hI (.inr t2) (by omega))
                  go_wp2_with fail
                  go_meet
                  exact ⟨by rw [HI'.out], rfl⟩
              · have HI' := Lib.hid (kdone hN2 hI (by omega))
                go_wp2_with fail
                go_meet
                exact ⟨by rw [HI'.out], rfl⟩
        case rest =>
          obtain ⟨rfl, rfl⟩ := hcut
          obtain ⟨y0', y1'⟩ := kq_lt hN2
          have hl := kleft hN2
          have e7 : IntKind.u64.wrap (IntKind.u64.wrap (IntKind.u64.wrap (u2 * 4294967296) + d0') - IntKind.u64.wrap (kq V u2 d0' * V)) = (u2 * 4294967296 + d0') % V := by
            obtain ⟨c1, c2, c3⟩ := hl
            rw [← c3]
            exact u64_unw _ _ _ c1 (by omega)
          have E7 := Lib.hid e7; clear e7 hl
          obtain ⟨Q0, hQ0⟩ : ∃ Q0, Q0 = kq V u2 d0' := ⟨_, rfl⟩
          rw [← hQ0] at HQ E7 y0' y1'
          rw [← hQ0]
          clear hQ0 hK k0 k1 k2 k3 p0
          go_wp2
          go_ret2
          rw [E7.out, HQ.out, HR.out]
          exact ⟨rfl, rfl⟩
set_option maxHeartbeats 400000 in
theorem div64_zero (lo y : Int) (h2 : 0 < y) (h3 : 0 ≤ lo) (h4 : lo < 18446744073709551616) (h5 : y < 18446744073709551616) (w : World) :
    Calls Try.prog 64 #[.int .u64 0, .int .u64 lo, .int .u64 y] w fun e w' => e = .returned (.tuple #[.int .u64 (dq 0 lo y), .int .u64 (dr 0 lo y)]) ∧ ∃ n, w' = w.drewN n := by
  have hq : dq 0 lo y = lo / y := by simp [dq]
  have hr : dr 0 lo y = lo % y := by simp [dr]
  rw [hq, hr]; clear hq hr
  have hy : (y == 0) = false := by rw [beq_eq_false_iff_ne]; omega
  go_enter Try.func64, Try.ntmps64
  go_wp2_with fail
  go_quiet (fail)
  go_wp2
  go_ret2
  exact ⟨rfl, _, rfl⟩

theorem div64_any (hi lo y : Int) (h1 : 0 ≤ hi) (h2 : hi < y) (h3 : 0 ≤ lo) (h4 : lo < 18446744073709551616) (h5 : y < 18446744073709551616) (w : World) :
    Calls Try.prog 64 #[.int .u64 hi, .int .u64 lo, .int .u64 y] w fun e w' => e = .returned (.tuple #[.int .u64 (dq hi lo y), .int .u64 (dr hi lo y)]) ∧ ∃ n, w' = w.drewN n := by
  by_cases h : hi = 0
  · subst h; exact div64_zero lo y h2 h3 h4 h5 w
  · exact (div64_pos hi lo y h1 h2 h3 h4 h5 (by omega) w).mono fun _ _ ⟨he, hw⟩ => ⟨he, 0, hw.symm⟩
theorem dq_range {hi lo y : Int} (h1 : 0 ≤ hi) (h2 : hi < y) (h3 : 0 ≤ lo) (h4 : lo < 18446744073709551616) : 0 ≤ dq hi lo y ∧ dq hi lo y < 18446744073709551616 :=
  ⟨Int.ediv_nonneg (by omega) (by omega), Int.ediv_lt_of_lt_mul (by omega) (by omega)⟩
theorem dr_range {hi lo y : Int} (h1 : 0 ≤ hi) (h2 : hi < y) : 0 ≤ dr hi lo y ∧ dr hi lo y < y :=
  ⟨Int.emod_nonneg _ (by omega), Int.emod_lt_of_pos _ (by omega)⟩
theorem dqr (hi lo y : Int) : hi * 18446744073709551616 + lo = dq hi lo y * y + dr hi lo y := by
  unfold dq dr; rw [Int.mul_comm (_ / y)]; exact (Int.mul_ediv_add_emod _ _).symm
end Go.Proofs.Ytkhhjibpppmekaa
