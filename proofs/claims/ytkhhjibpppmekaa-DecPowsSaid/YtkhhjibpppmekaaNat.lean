/- Plain arithmetic for math/bits.Div64: how many leading zeros a word has, and how a digit of a quotient is found. No program here. -/
import Derived.Lib.BitFns
namespace Go.Proofs.Ytkhhjibpppmekaa

theorem bl_bounds (x : Nat) : x ≠ 0 → x < 2 ^ 64 → 2 ^ Lib.bitLen x ≤ 2 * x ∧ x < 2 ^ Lib.bitLen x := by
  induction x using Nat.strongRecOn with
  | ind x ih =>
    intro h0 h
    rw [Lib.bitLen_half x h0 h]
    by_cases h1 : x / 2 = 0
    · rw [h1]
      have e : Lib.bitLen 0 = 0 := by decide
      rw [e]
      have : x = 1 := by omega
      subst this; decide
    · have := ih (x / 2) (by omega) h1 (by omega)
      rw [Nat.add_comm 1, Nat.pow_succ]
      omega

theorem lz_bounds (x : Nat) (h0 : x ≠ 0) (h : x < 2 ^ 64) :
    ∃ s : Nat, 64 - (Lib.bitLen x : Int) = s ∧ s ≤ 63 ∧ 9223372036854775808 ≤ x * 2 ^ s ∧ x * 2 ^ s < 18446744073709551616 := by
  have ⟨a, b⟩ := bl_bounds x h0 h
  have c := Lib.bitLen_le x 64 (Nat.le_refl _) h
  have d : 1 ≤ Lib.bitLen x := by
    rcases Nat.eq_zero_or_pos (Lib.bitLen x) with e | e
    · rw [e] at b; omega
    · exact e
  refine ⟨64 - Lib.bitLen x, by omega, by omega, ?_, ?_⟩
  · have e : 2 ^ Lib.bitLen x * 2 ^ (64 - Lib.bitLen x) = 18446744073709551616 := by
      rw [← Nat.pow_add, show Lib.bitLen x + (64 - Lib.bitLen x) = 64 by omega]
    have := Nat.mul_le_mul_right (2 ^ (64 - Lib.bitLen x)) a
    rw [e, Nat.mul_assoc] at this
    omega
  · have e : 2 ^ Lib.bitLen x * 2 ^ (64 - Lib.bitLen x) = 18446744073709551616 := by
      rw [← Nat.pow_add, show Lib.bitLen x + (64 - Lib.bitLen x) = 64 by omega]
    rw [← e]
    exact Nat.mul_lt_mul_of_pos_right b (Nat.pow_pos (by decide))

/-- A divisor that is normal, in two halves; what is left, the next digit. -/
structure Nrm (v y1 y0 u d : Int) : Prop where
  hv : v = y1 * 4294967296 + y0
  a1 : 2147483648 ≤ y1
  a2 : y1 < 4294967296
  b1 : 0 ≤ y0
  b2 : y0 < 4294967296
  u1 : 0 ≤ u
  u2 : u < v
  d1 : 0 ≤ d
  d2 : d < 4294967296

/-- The quotient's digit. -/
def kq (v u d : Int) : Int := (u * 4294967296 + d) / v

/-- What holds while the digit is sought. -/
structure Kinv (v y1 u d q r : Int) : Prop where
  e : q * y1 + r = u
  r0 : 0 ≤ r
  r1 : r < 4294967296
  lo : kq v u d ≤ q
  hi : q ≤ 4294967297
  q0 : 0 ≤ q

section
variable {v y1 y0 u d q r : Int}
theorem kq_lt (h : Nrm v y1 y0 u d) : 0 ≤ kq v u d ∧ kq v u d < 4294967296 := by
  obtain ⟨hv, a1, a2, b1, b2, u1, u2, d1, d2⟩ := h
  unfold kq
  have hp : 0 < v := by omega
  refine ⟨Int.ediv_nonneg (by omega) (by omega), Int.ediv_lt_of_lt_mul hp ?_⟩
  omega
theorem mulv (h : Nrm v y1 y0 u d) (q : Int) : q * v = (q * y1) * 4294967296 + q * y0 := by
  rw [h.hv, Int.mul_add, Int.mul_assoc]
theorem kq_lt_of (h : Nrm v y1 y0 u d) {q : Int} (hq : u * 4294967296 + d < q * v) : kq v u d < q :=
  Int.ediv_lt_of_lt_mul (by have := h.u1; have := h.u2; omega) hq
theorem le_kq_of (h : Nrm v y1 y0 u d) {q : Int} (hq : q * v ≤ u * 4294967296 + d) : q ≤ kq v u d :=
  Int.le_ediv_of_mul_le (by have := h.u1; have := h.u2; omega) hq
theorem kinv_start (h : Nrm v y1 y0 u d) : Kinv v y1 u d (u / y1) (u - u / y1 * y1) := by
  have hm := Int.emod_add_mul_ediv u y1
  have hp : 0 < y1 := by have := h.a1; omega
  have m0 := Int.emod_nonneg u (show y1 ≠ 0 by omega)
  have m1 := Int.emod_lt_of_pos u hp
  have hc : y1 * (u / y1) = u / y1 * y1 := Int.mul_comm _ _
  have hq0 : 0 ≤ u / y1 := Int.ediv_nonneg h.u1 (by omega)
  obtain ⟨hv, a1, a2, b1, b2, u1, u2, d1, d2⟩ := id h
  refine ⟨by omega, by omega, by omega, ?_, ?_, hq0⟩
  · have : kq v u d < u / y1 + 1 := by
      apply kq_lt_of h
      rw [mulv h]
      simp only [Int.add_mul, Int.one_mul]
      have : 0 ≤ u / y1 * y0 := Int.mul_nonneg hq0 b1
      omega
    omega
  · have : u / y1 < 4294967298 := by
      apply Int.ediv_lt_of_lt_mul hp
      omega
    omega
theorem kprod (h : Nrm v y1 y0 u d) (_k : Kinv v y1 u d q r) (hq : q < 4294967296) (hq0 : 0 ≤ q) : 0 ≤ q * y0 ∧ q * y0 < 18446744073709551616 := by
  refine ⟨Int.mul_nonneg hq0 h.b1, ?_⟩
  have a : q * y0 ≤ 4294967295 * y0 := Int.mul_le_mul_of_nonneg_right (by omega) h.b1
  have := h.b2
  omega
theorem kgreat (h : Nrm v y1 y0 u d) (k : Kinv v y1 u d q r) (ht : 4294967296 ≤ q ∨ 4294967296 * r + d < q * y0) : kq v u d < q := by
  rcases ht with ht | ht
  · have := (kq_lt h).2; omega
  · apply kq_lt_of h
    rw [mulv h]
    have := k.e
    omega
theorem kdone (h : Nrm v y1 y0 u d) (k : Kinv v y1 u d q r) (ht : q * y0 ≤ 4294967296 * r + d) : q = kq v u d := by
  have : q ≤ kq v u d := by
    apply le_kq_of h
    rw [mulv h]
    have := k.e
    omega
  have := k.lo
  omega
theorem knext (h : Nrm v y1 y0 u d) (k : Kinv v y1 u d q r) (ht : 4294967296 ≤ q ∨ 4294967296 * r + d < q * y0) (hr : r + y1 < 4294967296) : Kinv v y1 u d (q - 1) (r + y1) := by
  have g := kgreat h k ht
  have q0 := (kq_lt h).1
  obtain ⟨e, r0, r1, lo, hi, _⟩ := k
  have := h.a1
  refine ⟨?_, by omega, hr, by omega, by omega, by omega⟩
  rw [Int.sub_mul]; omega
theorem kbreak (h : Nrm v y1 y0 u d) (k : Kinv v y1 u d q r) (ht : 4294967296 ≤ q ∨ 4294967296 * r + d < q * y0) (hr : 4294967296 ≤ r + y1) : q - 1 = kq v u d := by
  have g := kgreat h k ht
  have q0 := (kq_lt h).1
  obtain ⟨e, r0, r1, lo, hi, _⟩ := k
  have : q - 1 ≤ kq v u d := by
    apply le_kq_of h
    rw [mulv h]
    simp only [Int.sub_mul, Int.one_mul]
    have a : q * y0 ≤ 4294967297 * y0 := Int.mul_le_mul_of_nonneg_right hi h.b1
    have := h.b2
    have := h.b1
    have := h.d1
    omega
  omega
/-- What is left behind a digit. -/
theorem kleft (h : Nrm v y1 y0 u d) : 0 ≤ u * 4294967296 + d - kq v u d * v ∧ u * 4294967296 + d - kq v u d * v < v ∧ u * 4294967296 + d - kq v u d * v = (u * 4294967296 + d) % v := by
  have hp : 0 < v := by have := h.u1; have := h.u2; omega
  have e := Int.emod_add_mul_ediv (u * 4294967296 + d) v
  have m0 := Int.emod_nonneg (u * 4294967296 + d) (show v ≠ 0 by omega)
  have m1 := Int.emod_lt_of_pos (u * 4294967296 + d) hp
  unfold kq
  rw [Int.mul_comm _ v]
  omega
end

/-- The two digits together are the quotient; what is left of the last one is the rest, moved. -/
theorem kjoin (hi lo y p v : Int) (hp : 0 < p) (hv : v = y * p) (hy : 0 < y) (u d1 d0 : Int) (hn : (u * 4294967296 + d1) * 4294967296 + d0 = (hi * 18446744073709551616 + lo) * p) (_h1 : 0 ≤ d0) (_h2 : d0 < 4294967296) :
    kq v u d1 * 4294967296 + kq v ((u * 4294967296 + d1) % v) d0 = (hi * 18446744073709551616 + lo) / y ∧
    (((u * 4294967296 + d1) % v) * 4294967296 + d0) % v / p = (hi * 18446744073709551616 + lo) % y := by
  have hvp : 0 < v := by rw [hv]; exact Int.mul_pos hy hp
  generalize hM : hi * 18446744073709551616 + lo = M at *
  generalize hA : u * 4294967296 + d1 = A at *
  have e := Int.emod_add_mul_ediv A v
  have hN : M * p = (A % v * 4294967296 + d0) + v * (A / v * 4294967296) := by
    rw [← hn, ← Int.mul_assoc]
    have : A * 4294967296 = (A % v + v * (A / v)) * 4294967296 := by rw [e]
    rw [Int.add_mul] at this
    omega
  constructor
  · unfold kq
    rw [hA]
    have q : M * p / v = M / y := by rw [hv]; exact Int.mul_ediv_mul_of_pos_left _ _ hp
    rw [← q, hN, Int.add_mul_ediv_left _ _ (by omega)]
    omega
  · have q : M * p % v = M % y * p := by rw [hv, Int.mul_comm M, Int.mul_comm y, Int.mul_emod_mul_of_pos _ _ hp, Int.mul_comm]
    have r : M * p % v = (A % v * 4294967296 + d0) % v := by rw [hN, Int.add_mul_emod_self_left]
    rw [← r, q]
    exact Int.mul_ediv_cancel _ (by omega)
end Go.Proofs.Ytkhhjibpppmekaa
