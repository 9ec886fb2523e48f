/- Plain: a numeral's digits, as the reference takes them. -/
import Derived.Test.YtdmifldjeiabdaaNumM
import Derived.Test.YtdmifldjeiabdaaRefB
namespace Go.Proofs.Ytdmifldjeiabdaa
open Go.RowKit
def fdr (B : List Nat) : Nat → List Nat
  | 0 => []
  | j + 1 => fdr B j ++ [B.getD (5 - j) 48 - 48]
def rdig (l : List Nat) : List Nat := (l.map (· - 48)).reverse
theorem fdr_len (B : List Nat) : ∀ j, (fdr B j).length = j := by
  intro j
  induction j with
  | zero => rfl
  | succ j ih => simp [fdr, ih]
theorem fdr_dig {B : List Nat} (h : AllDig B) : ∀ j, Dig10 (fdr B j) := by
  intro j
  induction j with
  | zero => exact Dig10.nil
  | succ j ih => exact ih.app (Dig10.one (by have := getD_dig h (5 - j); omega))
theorem val_fdr (B : List Nat) : val (fdr B 6) = fr 0 B 6 := by
  simp only [fdr, fr, List.nil_append, List.cons_append, val, Nat.sub_self, Nat.sub_zero, Nat.reduceSub]
  omega
theorem rdig_cons (c : Nat) (l : List Nat) : rdig (c :: l) = rdig l ++ [c - 48] := by simp [rdig]
theorem rdig_len (l : List Nat) : (rdig l).length = l.length := by simp [rdig]
theorem rdig_dig {l : List Nat} (h : AllDig l) : Dig10 (rdig l) := by
  intro x hx
  simp only [rdig, List.mem_reverse, List.mem_map] at hx
  obtain ⟨y, hy, rfl⟩ := hx
  have := h y hy; omega
theorem val_rdig_aux : ∀ (l : List Nat) (N : Nat), dv N l = N * 10 ^ l.length + val (rdig l) := by
  intro l
  induction l with
  | nil => intro N; simp [dv, rdig, val]
  | cons c l ih =>
    intro N
    rw [dv_cons, ih, rdig_cons, val_app, rdig_len, List.length_cons, Nat.pow_succ]
    simp only [val]
    rw [Nat.add_mul, Nat.mul_zero, Nat.add_zero, Nat.mul_assoc, Nat.mul_comm 10 (10 ^ l.length), Nat.mul_comm (c - 48)]
    omega
theorem val_rdig (l : List Nat) : val (rdig l) = dv 0 l := by rw [val_rdig_aux l 0]; simp
theorem fr_shift (N : Nat) (B : List Nat) : ∀ k, fr N B k = N * 10 ^ k + fr 0 B k := by
  intro k
  induction k with
  | zero => simp [fr]
  | succ k ih =>
    simp only [fr]
    rw [ih, Nat.pow_succ, ← Nat.mul_assoc]; omega
/-- All the digits, the least first. -/
def allD (bs : List Nat) : List Nat := fdr (behindL bs) 6 ++ rdig (wholeL bs)
theorem allD_dig (bs : List Nat) : Dig10 (allD bs) := (fdr_dig (behind_dig bs) 6).app (rdig_dig (whole_dig bs))
theorem allD_len (bs : List Nat) : (allD bs).length = 6 + nW bs := by unfold allD; rw [List.length_append, fdr_len, rdig_len, whole_len]
theorem val_allD (bs : List Nat) : val (allD bs) = numN bs := by
  unfold allD numN
  rw [val_app, fdr_len, val_fdr, val_rdig, fr_shift (dv 0 (strip (wholeL bs))), dv_strip]
  omega
theorem strip_head {l : List Nat} (h : AllDig l) (hs : 0 < (strip l).length) : 10 ^ ((strip l).length - 1) ≤ dv 0 (strip l) := by
  obtain ⟨c, m, e⟩ : ∃ c m, strip l = c :: m := by
    cases hh : strip l with
    | nil => rw [hh] at hs; simp at hs
    | cons c m => exact ⟨c, m, rfl⟩
  have hc : c ≠ 48 := by
    have : ∀ l : List Nat, ∀ c m, strip l = c :: m → c ≠ 48 := by
      intro l
      induction l with
      | nil => intro c m h; simp [strip] at h
      | cons a l ih =>
        intro c m h
        by_cases ha : a = 48
        · subst ha; rw [strip_cons_zero] at h; exact ih _ _ h
        · rw [strip_cons_other ha] at h; simp at h; omega
    exact this l c m e
  have hcd := (h.strip) c (by rw [e]; exact List.mem_cons_self)
  rw [e, dv_cons, val_rdig_aux, List.length_cons, Nat.add_sub_cancel]
  have : 1 * 10 ^ m.length ≤ (0 * 10 + (c - 48)) * 10 ^ m.length := Nat.mul_le_mul_right _ (by omega)
  omega
theorem over_iff (bs : List Nat) : 36 < (dg (numN bs)).length ↔ 30 < (strip (wholeL bs)).length := by
  have hf := fr_bound (behind_dig bs) 0 6
  have hn : numN bs = dv 0 (strip (wholeL bs)) * 10 ^ 6 + fr 0 (behindL bs) 6 := by unfold numN; rw [fr_shift]
  have hl := dv_bound (whole_dig bs).strip
  constructor
  · intro h
    rcases Nat.lt_or_ge 30 (strip (wholeL bs)).length with h1 | h1
    · exact h1
    · have := numN_lt (bs := bs) h1
      have h2 := dg_len_le (M := numN bs) (k := 36) (by omega)
      omega
  · intro h
    have h1 := strip_head (whole_dig bs) (by omega)
    have h2 : 10 ^ 30 ≤ 10 ^ ((strip (wholeL bs)).length - 1) := Nat.pow_le_pow_right (by decide) (by omega)
    rcases Nat.lt_or_ge 36 (dg (numN bs)).length with h3 | h3
    · exact h3
    · have h4 := dg_lt (numN bs)
      have h5 : 10 ^ (dg (numN bs)).length ≤ 10 ^ 36 := Nat.pow_le_pow_right (by decide) h3
      omega
end Go.Proofs.Ytdmifldjeiabdaa
