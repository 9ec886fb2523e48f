/- Plain facts on a division bit by bit. No program. -/
import Derived.WalkKit
namespace Go.Proofs.Ytkhhjibpppmekaa
/-- A number of four words. -/
def lim (W : Nat → Nat) : Nat := W 0 + W 1 * 18446744073709551616 + W 2 * 340282366920938463463374607431768211456 + W 3 * 6277101735386680763835789423207666416102355444464034512896
theorem word_high {W : Nat → Nat} (hW : ∀ i, W i < 18446744073709551616) (j : Nat) (hj : j < 4) : ∃ M, lim W / 2 ^ (64 * j) = W j + 18446744073709551616 * M := by
  have h0 := hW 0; have h1 := hW 1; have h2 := hW 2; have h3 := hW 3
  unfold lim
  match j, hj with
  | 0, _ => exact ⟨W 1 + W 2 * 18446744073709551616 + W 3 * 340282366920938463463374607431768211456, by rw [show 2 ^ (64 * 0) = 1 by rfl]; omega⟩
  | 1, _ => exact ⟨W 2 + W 3 * 18446744073709551616, by rw [show 2 ^ (64 * 1) = 18446744073709551616 by rfl]; omega⟩
  | 2, _ => exact ⟨W 3, by rw [show 2 ^ (64 * 2) = 340282366920938463463374607431768211456 by rfl]; omega⟩
  | 3, _ => exact ⟨0, by rw [show 2 ^ (64 * 3) = 6277101735386680763835789423207666416102355444464034512896 by rfl]; omega⟩
theorem pow_split (s : Nat) (hs : s < 64) : 2 ^ (s + 1) * 2 ^ (63 - s) = 18446744073709551616 := by
  rw [← Nat.pow_add, show s + 1 + (63 - s) = 64 by omega]
theorem bit_of {W : Nat → Nat} (hW : ∀ i, W i < 18446744073709551616) (k : Nat) (hk : k < 256) : W (k / 64) / 2 ^ (k % 64) % 2 = lim W / 2 ^ k % 2 := by
  obtain ⟨M, hM⟩ := word_high hW (k / 64) (by omega)
  have e : 2 ^ k = 2 ^ (64 * (k / 64)) * 2 ^ (k % 64) := by rw [← Nat.pow_add]; congr 1; omega
  rw [e, ← Nat.div_div_eq_div_mul, hM]
  have p := pow_split (k % 64) (by omega)
  have : 18446744073709551616 * M = 2 ^ (k % 64) * (2 * (2 ^ (63 - k % 64) * M)) := by
    rw [← p, Nat.pow_succ]; simp only [Nat.mul_assoc]
  rw [this, Nat.add_mul_div_left _ _ (Nat.pow_pos (by decide)), Nat.add_mul_mod_self_left]
theorem low_zero {Q : Nat → Nat} (hQ : ∀ i, Q i < 18446744073709551616) (k M : Nat) (hk : k < 256) (h : lim Q = M * 2 ^ (k + 1)) : ∃ m, Q (k / 64) = 2 ^ (k % 64 + 1) * m := by
  obtain ⟨X, hX⟩ := word_high hQ (k / 64) (by omega)
  have e : 2 ^ (k + 1) = 2 ^ (64 * (k / 64)) * 2 ^ (k % 64 + 1) := by rw [← Nat.pow_add]; congr 1; omega
  have p := pow_split (k % 64) (by omega)
  have a : lim Q / 2 ^ (64 * (k / 64)) = 2 ^ (k % 64 + 1) * M := by
    rw [h, e, Nat.mul_comm M, Nat.mul_assoc, Nat.mul_div_cancel_left _ (Nat.pow_pos (by decide))]
  rw [a, ← p, Nat.mul_assoc] at hX
  have : 2 ^ (k % 64 + 1) * (M - 2 ^ (63 - k % 64) * X) = Q (k / 64) := by
    rw [Nat.mul_sub]; omega
  exact ⟨_, this.symm⟩
theorem bit_set {Q : Nat → Nat} (hQ : ∀ i, Q i < 18446744073709551616) (k M : Nat) (hk : k < 256) (h : lim Q = M * 2 ^ (k + 1)) :
    Q (k / 64) ||| 2 ^ (k % 64) = Q (k / 64) + 2 ^ (k % 64) ∧ Q (k / 64) + 2 ^ (k % 64) < 18446744073709551616 := by
  obtain ⟨m, hm⟩ := low_zero hQ k M hk h
  have hlt : 2 ^ (k % 64) < 2 ^ (k % 64 + 1) := Nat.pow_lt_pow_right (by decide) (by omega)
  constructor
  · rw [hm, Nat.two_pow_add_eq_or_of_lt hlt]
  · have p := pow_split (k % 64) (by omega)
    have q := hQ (k / 64)
    rw [hm, ← p] at q
    have : m < 2 ^ (63 - k % 64) := Nat.lt_of_mul_lt_mul_left q
    have r := Nat.mul_le_mul_left (2 ^ (k % 64 + 1)) (show m + 1 ≤ 2 ^ (63 - k % 64) by omega)
    rw [p, Nat.mul_add, ← hm] at r
    omega
/-- A word is put in another one's place. -/
def upd (Q : Nat → Nat) (j v : Nat) : Nat → Nat := fun i => if i = j then v else Q i
theorem upd_lim (Q : Nat → Nat) (k : Nat) (hk : k < 256) : lim (upd Q (k / 64) (Q (k / 64) + 2 ^ (k % 64))) = lim Q + 2 ^ k := by
  have e : 2 ^ k = 2 ^ (64 * (k / 64)) * 2 ^ (k % 64) := by rw [← Nat.pow_add]; congr 1; omega
  rw [e]
  have hj : k / 64 < 4 := by omega
  generalize k / 64 = j at *
  generalize 2 ^ (k % 64) = p
  unfold lim upd
  match j, hj with
  | 0, _ => simp; omega
  | 1, _ => simp; omega
  | 2, _ => simp; omega
  | 3, _ => simp; omega
theorem next_quot (N y k : Nat) (hy : 0 < y) (b : Nat) (hb : b = N / 2 ^ k % 2) :
    N / 2 ^ k = 2 * (N / 2 ^ (k + 1)) + b ∧
    (2 * (N / 2 ^ (k + 1) % y) + b < y → N / 2 ^ k % y = 2 * (N / 2 ^ (k + 1) % y) + b ∧ N / 2 ^ k / y * 2 ^ k = N / 2 ^ (k + 1) / y * 2 ^ (k + 1)) ∧
    (y ≤ 2 * (N / 2 ^ (k + 1) % y) + b → N / 2 ^ k % y = 2 * (N / 2 ^ (k + 1) % y) + b - y ∧ N / 2 ^ k / y * 2 ^ k = N / 2 ^ (k + 1) / y * 2 ^ (k + 1) + 2 ^ k) := by
  have e : N / 2 ^ k = 2 * (N / 2 ^ (k + 1)) + b := by
    rw [Nat.pow_succ, ← Nat.div_div_eq_div_mul]; omega
  generalize hA : N / 2 ^ (k + 1) = A at *
  have d := Nat.div_add_mod A y
  have m := Nat.mod_lt A hy
  generalize A / y = q at *
  generalize A % y = r at *
  have e2 : N / 2 ^ k = y * (2 * q) + (2 * r + b) := by
    rw [e, ← d, Nat.mul_add, Nat.mul_left_comm]; omega
  refine ⟨e, fun h => ?_, fun h => ?_⟩
  · rw [e2, Nat.mul_add_mod, Nat.mod_eq_of_lt h, Nat.mul_add_div hy, Nat.div_eq_of_lt h, Nat.pow_succ, Nat.add_zero]
    exact ⟨rfl, by rw [Nat.mul_comm 2 q, Nat.mul_assoc, Nat.mul_comm 2]⟩
  · have b1 : b ≤ 1 := by omega
    have e3 : N / 2 ^ k = y * (2 * q + 1) + (2 * r + b - y) := by
      rw [e2, Nat.mul_add]; omega
    rw [e3, Nat.mul_add_mod, Nat.mod_eq_of_lt (by omega), Nat.mul_add_div hy, Nat.div_eq_of_lt (by omega), Nat.pow_succ, Nat.add_zero]
    refine ⟨rfl, ?_⟩
    rw [Nat.add_mul, Nat.one_mul, Nat.mul_comm 2 q, Nat.mul_assoc, Nat.mul_comm 2]
end Go.Proofs.Ytkhhjibpppmekaa
