/- Several texts put together: NumE. -/
import Derived.Test.YtdiibenofbcfnaaGreatBu4
import Derived.Test.YtdiibenofbcfnaaGreatBu1
set_option linter.unusedSimpArgs false
set_option linter.unusedVariables false
namespace Go.Proofs.YtdiibenofbcfnaaGreat
open Go.RowKit
def wholeL (bs : List Nat) : List Nat := (bs.drop (nI1 bs)).take (nW bs)
def behindL (bs : List Nat) : List Nat := (bs.drop (nI2 bs + 1)).take (nB bs)
def strip (l : List Nat) : List Nat := l.dropWhile (· == 48)
def dv (N : Nat) (l : List Nat) : Nat := l.foldl (fun N c => N * 10 + (c - 48)) N
def fr (N : Nat) (l : List Nat) : Nat → Nat
  | 0 => N
  | k + 1 => fr N l k * 10 + (l.getD k 48 - 48)
def numN (bs : List Nat) : Nat := fr (dv 0 (strip (wholeL bs))) (behindL bs) 6
def AllDig (l : List Nat) : Prop := ∀ x ∈ l, 48 ≤ x ∧ x ≤ 57
theorem span_dig (l : List Nat) : AllDig (l.take (span digB l)) := by
  induction l with
  | nil => intro x hx; simp [span] at hx
  | cons c l ih =>
    intro x hx
    by_cases hc : digB c = true
    · simp only [span, hc, if_true, List.take_succ_cons, List.mem_cons] at hx
      rcases hx with rfl | hx
      · simpa [digB] using hc
      · exact ih x hx
    · simp [span, hc] at hx
theorem whole_dig (bs : List Nat) : AllDig (wholeL bs) := by unfold wholeL nW; exact span_dig _
theorem behind_dig (bs : List Nat) : AllDig (behindL bs) := by
  unfold behindL nB; split
  · exact span_dig _
  · intro x hx; simp at hx
theorem strip_mem {l : List Nat} {x : Nat} (h : x ∈ strip l) : x ∈ l := (List.dropWhile_sublist _).mem h
theorem AllDig.strip {l : List Nat} (h : AllDig l) : AllDig (strip l) := fun x hx => h x (strip_mem hx)
theorem whole_len (bs : List Nat) : (wholeL bs).length = nW bs := by
  have := span_le digB (bs.drop (nI1 bs))
  unfold wholeL nW; rw [List.length_take]; omega
theorem behind_len (bs : List Nat) : (behindL bs).length = nB bs := by
  unfold behindL; rw [List.length_take]
  have : nB bs ≤ (bs.drop (nI2 bs + 1)).length := by
    unfold nB; split
    · exact span_le _ _
    · omega
  omega
theorem dv_snoc (N : Nat) (l : List Nat) (c : Nat) : dv N (l ++ [c]) = dv N l * 10 + (c - 48) := by unfold dv; rw [List.foldl_append]; rfl
theorem dv_bound {l : List Nat} (h : AllDig l) : dv 0 l < 10 ^ l.length := by
  have key : ∀ (l : List Nat) (N : Nat), AllDig l → dv N l < (N + 1) * 10 ^ l.length := by
    intro l
    induction l with
    | nil => intro N _; simp [dv]
    | cons c l ih =>
      intro N hl
      have h1 := ih (N * 10 + (c - 48)) (fun x hx => hl x (List.mem_cons_of_mem _ hx))
      have h2 := hl c (List.mem_cons_self)
      show dv (N * 10 + (c - 48)) l < _
      have h3 : (N * 10 + (c - 48) + 1) * 10 ^ l.length ≤ ((N + 1) * 10) * 10 ^ l.length := Nat.mul_le_mul_right _ (by omega)
      rw [List.length_cons, Nat.pow_succ]
      have h4 : (N + 1) * 10 * 10 ^ l.length = (N + 1) * (10 ^ l.length * 10) := by rw [Nat.mul_assoc, Nat.mul_comm 10]
      omega
  simpa using key l 0 h
theorem getD_dig {l : List Nat} (h : AllDig l) (k : Nat) : 48 ≤ l.getD k 48 ∧ l.getD k 48 ≤ 57 := by
  rw [List.getD_eq_getElem?_getD]
  by_cases hk : k < l.length
  · rw [List.getElem?_eq_getElem hk]; exact h _ (List.getElem_mem hk)
  · rw [List.getElem?_eq_none (by omega)]; decide
theorem fr_bound {l : List Nat} (h : AllDig l) (N : Nat) : ∀ k, fr N l k < (N + 1) * 10 ^ k := by
  intro k
  induction k with
  | zero => simp [fr]
  | succ k ih =>
    have h2 := getD_dig h k
    show fr N l k * 10 + (l.getD k 48 - 48) < _
    rw [Nat.pow_succ, ← Nat.mul_assoc]
    omega
theorem numN_lt {bs : List Nat} (h : (strip (wholeL bs)).length ≤ 30) : numN bs < 1000000000000000000000000000000000000 := by
  have a := dv_bound (whole_dig bs).strip
  have b : (10 : Nat) ^ (strip (wholeL bs)).length ≤ 10 ^ 30 := Nat.pow_le_pow_right (by decide) h
  have c := fr_bound (behind_dig bs) (dv 0 (strip (wholeL bs))) 6
  unfold numN
  omega
theorem strip_cons_zero (l : List Nat) : strip (48 :: l) = strip l := by simp [strip]
theorem strip_cons_other {c : Nat} (h : c ≠ 48) (l : List Nat) : strip (c :: l) = c :: l := by simp [strip, h]
end Go.Proofs.YtdiibenofbcfnaaGreat
