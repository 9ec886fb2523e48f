/- Plain: a number's text out of its digits. -/
import Derived.Test.YtdmifldjeiabdaaRefD
namespace Go.Proofs.Ytdmifldjeiabdaa
open Go.RowKit
/-- The digits of the whole part: one at least. -/
def whD (V : Nat) : List Nat := if V = 0 then [0] else dg V
def chars (l : List Nat) : List Nat := l.map (48 + ·)
theorem digs_whD : ∀ (k V : Nat) (T : List Nat), V < 10 ^ (k + 1) → digs (k + 1) V T = (chars (whD V)).reverse ++ T := by
  intro k
  induction k with
  | zero =>
    intro V T h
    rw [digs_succ, if_pos (by omega)]
    have : V % 10 = V := by omega
    rw [this]
    unfold whD
    split
    · rename_i h0; rw [h0]; rfl
    · rename_i h0; rw [dg_one h0 (by omega)]; rfl
  | succ k ih =>
    intro V T h
    rw [Nat.pow_succ] at h
    rw [digs_succ]
    split
    · rename_i h0
      have : V % 10 = V := by omega
      rw [this]
      unfold whD
      split
      · rename_i h1; rw [h1]; rfl
      · rename_i h1; rw [dg_one h1 (by omega)]; rfl
    · rename_i h0
      rw [ih _ _ (by omega)]
      unfold whD
      rw [if_neg (by omega), if_neg (by omega), dg_succ (show V ≠ 0 by omega)]
      simp [chars]
/-- Digits with zeros behind, seven at least. -/
def padD (N : Nat) : List Nat := dg N ++ List.replicate (7 - (dg N).length) 0
theorem val_zeros (k : Nat) : val (List.replicate k 0) = 0 := by
  induction k with
  | zero => rfl
  | succ k ih => rw [List.replicate_succ]; simp [val, ih]
theorem dig_zeros (k : Nat) : Dig10 (List.replicate k 0) := fun x hx => by rw [(List.mem_replicate.1 hx).2]; decide
theorem padD_dig (N : Nat) : Dig10 (padD N) := (dg_dig N).app (dig_zeros _)
theorem padD_val (N : Nat) : val (padD N) = N := by unfold padD; rw [val_app, val_zeros, val_dg]; simp
theorem padD_len (N : Nat) : 7 ≤ (padD N).length ∧ (dg N).length ≤ (padD N).length ∧ (padD N).length ≤ (dg N).length + 7 := by
  unfold padD; rw [List.length_append, List.length_replicate]; omega
theorem val_take_mod {l : List Nat} (h : Dig10 l) (k : Nat) (hk : k ≤ l.length) : val (l.take k) = val l % 10 ^ k ∧ val (l.drop k) = val l / 10 ^ k := by
  have h1 := val_lt (h.take k)
  rw [List.length_take, Nat.min_eq_left hk] at h1
  have h2 : val l = val (l.take k) + 10 ^ k * val (l.drop k) := by
    conv => lhs; rw [← List.take_append_drop k l]
    rw [val_app, List.length_take, Nat.min_eq_left hk]
  have hp : 0 < 10 ^ k := Nat.pow_pos (by decide)
  constructor
  · rw [h2, Nat.add_mul_mod_self_left, Nat.mod_eq_of_lt h1]
  · rw [h2, Nat.add_mul_div_left _ _ hp, Nat.div_eq_of_lt h1, Nat.zero_add]
theorem padD_drop (N : Nat) : (padD N).drop 6 = whD (N / 1000000) := by
  have hl := padD_len N
  have hv := (val_take_mod (padD_dig N) 6 (by omega)).2
  rw [padD_val] at hv
  unfold whD
  split
  · rename_i h0
    -- N < 10^6: six digits at most
    have h6 : (dg N).length ≤ 6 := dg_len_le (by omega)
    have h7 : (padD N).length = 7 := by unfold padD; rw [List.length_append, List.length_replicate]; omega
    have h8 : ((padD N).drop 6).length = 1 := by rw [List.length_drop, h7]
    obtain ⟨x, hx⟩ := List.length_eq_one_iff.1 h8
    rw [hx] at hv ⊢
    simp only [val] at hv
    congr 1
    have : N / 10 ^ 6 = 0 := by omega
    omega
  · rename_i h0
    have hd : Dig10 ((padD N).drop 6) := (padD_dig N).drop 6
    rw [show N / 1000000 = N / 10 ^ 6 from rfl, ← hv]
    refine (dg_val hd (.inr ?_)).symm
    have h7 : 7 ≤ (dg N).length := by
      rcases Nat.lt_or_ge (dg N).length 7 with h | h
      · have := dg_lt N
        have h2 : 10 ^ (dg N).length ≤ 10 ^ 6 := Nat.pow_le_pow_right (by decide) (by omega)
        omega
      · exact h
    have h8 : padD N = dg N := by unfold padD; rw [show 7 - (dg N).length = 0 by omega]; simp
    have h9 := dg_ge N (by omega)
    rw [hv, h8, List.length_drop, show (dg N).length - 6 - 1 = (dg N).length - 7 by omega]
    obtain ⟨m, hm⟩ : ∃ m, (dg N).length = m + 7 := ⟨(dg N).length - 7, by omega⟩
    rw [hm] at h9 ⊢
    rw [show m + 7 - 1 = m + 6 by omega, Nat.pow_add] at h9
    rw [show m + 7 - 7 = m by omega]
    exact (Nat.le_div_iff_mul_le (by decide)).2 h9
theorem padD_get (N i : Nat) (h : i < (padD N).length) : (padD N)[i] = N / 10 ^ i % 10 := by
  have h1 := (val_take_mod (padD_dig N) i (by omega)).2
  rw [padD_val, List.drop_eq_getElem_cons h] at h1
  have h2 := padD_dig N _ (List.getElem_mem h)
  simp only [val] at h1
  omega
/-- The digits from 'from' on below k, the greatest first, as text. -/
def dn (F f : Nat) : Nat → List Nat
  | 0 => []
  | k + 1 => if f ≤ k then (48 + F / 10 ^ k % 10) :: dn F f k else []
theorem dn_nil {F f : Nat} : ∀ k, k ≤ f → dn F f k = [] := by
  intro k
  cases k with
  | zero => intro _; rfl
  | succ k => intro h; simp only [dn]; rw [if_neg (by omega)]
theorem frs_dn (F f : Nat) (hz : ∀ i, i < f → F / 10 ^ i % 10 = 0) (hf : F / 10 ^ f % 10 ≠ 0) : ∀ k, frs F k = dn F f k := by
  intro k
  induction k with
  | zero => rfl
  | succ k ih =>
    simp only [frs, dn]
    rw [ih]
    rcases Nat.lt_trichotomy f k with h | h | h
    · have hp : 0 < (dn F f k).length := by
        obtain ⟨m, rfl⟩ : ∃ m, k = m + 1 := ⟨k - 1, by omega⟩
        simp only [dn]; rw [if_pos (by omega)]; simp
      have hc : F / 10 ^ k % 10 ≠ 0 ∨ 0 < (dn F f k).length := .inr hp
      have hk : f ≤ k := by omega
      simp only [hc, hk, if_true]
    · subst h
      have hc : F / 10 ^ f % 10 ≠ 0 ∨ 0 < (dn F f f).length := .inl hf
      simp only [hc, Nat.le_refl, if_true]
    · have hn := dn_nil (F := F) (f := f) k (by omega)
      have hk : ¬ f ≤ k := by omega
      have hc : ¬ (F / 10 ^ k % 10 ≠ 0 ∨ 0 < (dn F f k).length) := by
        rw [hn]
        rintro (hh | hh)
        · exact hh (hz k h)
        · simp at hh
      simp only [hc, hk, if_false]
theorem low_zero (F : Nat) (h : F < 1000000) (hz : ∀ i, i < 6 → F / 10 ^ i % 10 = 0) : F = 0 := by
  have g0 := hz 0 (by decide); have g1 := hz 1 (by decide); have g2 := hz 2 (by decide); have g3 := hz 3 (by decide); have g4 := hz 4 (by decide); have g5 := hz 5 (by decide)
  simp only [Nat.reducePow] at g0 g1 g2 g3 g4 g5
  omega
theorem digit_mod (N i : Nat) (h : i < 6) : N / 10 ^ i % 10 = N % 1000000 / 10 ^ i % 10 := by
  have : i = 0 ∨ i = 1 ∨ i = 2 ∨ i = 3 ∨ i = 4 ∨ i = 5 := by omega
  rcases this with rfl | rfl | rfl | rfl | rfl | rfl <;> simp only [Nat.reducePow] <;> omega
end Go.Proofs.Ytdmifldjeiabdaa
