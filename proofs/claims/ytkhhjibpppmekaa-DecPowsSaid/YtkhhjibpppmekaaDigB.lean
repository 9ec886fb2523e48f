/- Plain: sums, differences, products, quotients of digits. -/
import Derived.Test.YtkhhjibpppmekaaDig
namespace Go.Proofs.Ytkhhjibpppmekaa
theorem val_drop_step (l : List Nat) (k : Nat) : val (l.drop k) = l.getD k 0 + 10 * val (l.drop (k + 1)) := by
  rcases Nat.lt_or_ge k l.length with h | h
  · rw [List.drop_eq_getElem_cons h, List.getD_eq_getElem?_getD, List.getElem?_eq_getElem h]
    simp [val]
  · rw [List.drop_eq_nil_of_le h, List.drop_eq_nil_of_le (by omega), List.getD_eq_getElem?_getD, List.getElem?_eq_none h]
    simp [val]
theorem getD_lt {l : List Nat} (h : Dig10 l) (k : Nat) : l.getD k 0 < 10 := by
  rw [List.getD_eq_getElem?_getD]
  rcases Nat.lt_or_ge k l.length with hk | hk
  · rw [List.getElem?_eq_getElem hk]; exact h _ (List.getElem_mem hk)
  · rw [List.getElem?_eq_none hk]; decide
theorem getD_at {l : List Nat} {k : Nat} (h : k < l.length) : l.getD k 0 = l[k] := by
  rw [List.getD_eq_getElem?_getD, List.getElem?_eq_getElem h]; rfl
theorem getD_no {l : List Nat} {k : Nat} (h : l.length ≤ k) : l.getD k 0 = 0 := by
  rw [List.getD_eq_getElem?_getD, List.getElem?_eq_none h]; rfl
/-- One digit more. -/
theorem step_gen {L : List Nat} {r T T' S : Nat} (h : val L + 10 ^ L.length * T = S) (e : T = r + 10 * T') : val (L ++ [r]) + 10 ^ (L ++ [r]).length * T' = S := by
  rw [val_app, List.length_append, List.length_singleton, Nat.pow_succ, ← h, e]
  simp only [val]
  generalize 10 ^ L.length = P
  rw [Nat.mul_zero, Nat.add_zero, Nat.mul_add, Nat.mul_assoc, Nat.add_assoc]
theorem step_sub {L : List Nat} {x y c c' r va vb A A' B' : Nat} (h : val L + 10 ^ L.length * A + vb = va + 10 ^ L.length * (c + (y + 10 * B'))) (ha : A = x + 10 * A') (e : x + 10 * c' = r + c + y) :
    val (L ++ [r]) + 10 ^ (L ++ [r]).length * A' + vb = va + 10 ^ (L ++ [r]).length * (c' + B') := by
  rw [val_app, List.length_append, List.length_singleton, Nat.pow_succ]
  rw [ha] at h
  simp only [val]
  generalize 10 ^ L.length = P at h ⊢
  have h2 : P * (x + 10 * c') = P * (r + c + y) := by rw [e]
  simp only [Nat.mul_add, Nat.mul_assoc, Nat.add_mul, Nat.mul_left_comm P 10] at h h2 ⊢
  omega
theorem sub_end {L : List Nat} {va vb c : Nat} (hd : Dig10 L) (h : val L + vb = va + 10 ^ L.length * c) (hle : vb ≤ va) (hc : c ≤ 1) : c = 0 ∧ val L = va - vb := by
  have h1 := val_lt hd
  rcases (show c = 0 ∨ c = 1 by omega) with rfl | rfl
  · simp at h; omega
  · simp at h; omega
theorem val_zeros (n : Nat) : val (List.replicate n 0) = 0 := by
  induction n with
  | zero => rfl
  | succ n ih => rw [List.replicate_succ]; simp only [val]; omega
theorem Dig10.zeros (n : Nat) : Dig10 (List.replicate n 0) := fun x hx => by
  have := List.eq_of_mem_replicate hx; omega
theorem val_take_step (l : List Nat) (k : Nat) : val (l.take (k + 1)) = val (l.take k) + 10 ^ k * l.getD k 0 := by
  rcases Nat.lt_or_ge k l.length with h | h
  · rw [List.take_succ_eq_append_getElem h, val_app, getD_at h, List.length_take, Nat.min_eq_left (by omega)]
    simp [val]
  · rw [List.take_of_length_le (by omega), List.take_of_length_le h, getD_no h, Nat.mul_zero, Nat.add_zero]
theorem dg_lower (N k : Nat) : ((dg N).drop k) = dg (N / 10 ^ k) := by
  induction k generalizing N with
  | zero => simp
  | succ k ih =>
    by_cases h : N = 0
    · subst h; simp [dg_zero]
    · rw [dg_succ h, List.drop_succ_cons, ih, Nat.pow_succ, Nat.div_div_eq_div_mul, Nat.mul_comm]
theorem dg_len_mono {a b : Nat} (h : a ≤ b) : (dg a).length ≤ (dg b).length := by
  rcases Nat.lt_or_ge (dg b).length (dg a).length with h1 | h1
  · have := less_len h1; omega
  · exact h1
theorem dg_len_bound {N k : Nat} (h : N < 10 ^ k) : (dg N).length ≤ k := by
  rcases Nat.lt_or_ge k (dg N).length with hlt | hge
  · have hM : N ≠ 0 := by rintro rfl; simp [dg_zero] at hlt
    have h1 := dg_ge N hM
    have h2 : 10 ^ k ≤ 10 ^ ((dg N).length - 1) := Nat.pow_le_pow_right (by decide) (by omega)
    omega
  · exact hge
theorem dg_len_lt {N k : Nat} (h : (dg N).length ≤ k) : N < 10 ^ k := Nat.lt_of_lt_of_le (dg_lt N) (Nat.pow_le_pow_right (by decide) h)
theorem dg_len_iff36 (N : Nat) : (dg N).length ≤ 36 ↔ N < 1000000000000000000000000000000000000 :=
  ⟨fun h => dg_len_lt h, fun h => dg_len_bound (k := 36) h⟩
end Go.Proofs.Ytkhhjibpppmekaa
