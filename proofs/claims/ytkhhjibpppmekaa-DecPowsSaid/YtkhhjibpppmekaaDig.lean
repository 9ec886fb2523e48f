/- Plain: the digits of a natural number, the least first. -/
import Derived.Test.YtkhhjibpppmekaaKit
namespace Go.Proofs.Ytkhhjibpppmekaa
/-- What digits say. -/
def val : List Nat → Nat
  | [] => 0
  | d :: l => d + 10 * val l
def Dig10 (l : List Nat) : Prop := ∀ x ∈ l, x < 10
def dgF : Nat → Nat → List Nat
  | 0, _ => []
  | k + 1, N => if N = 0 then [] else N % 10 :: dgF k (N / 10)
/-- The digits of N, without a 0 as greatest one. -/
def dg (N : Nat) : List Nat := dgF N N
theorem dgF_zero (k : Nat) : dgF k 0 = [] := by cases k <;> simp [dgF]
theorem dgF_fuel : ∀ (k k' N : Nat), N ≤ k → N ≤ k' → dgF k N = dgF k' N := by
  intro k
  induction k with
  | zero => intro k' N h _; obtain rfl : N = 0 := by omega
            rw [dgF_zero, dgF_zero]
  | succ k ih =>
    intro k' N h h'
    cases k' with
    | zero => obtain rfl : N = 0 := by omega
              rw [dgF_zero, dgF_zero]
    | succ k' =>
      simp only [dgF]
      split
      · rfl
      · rw [ih k' (N / 10) (by omega) (by omega)]
theorem dg_zero : dg 0 = [] := rfl
theorem dg_succ {N : Nat} (h : N ≠ 0) : dg N = N % 10 :: dg (N / 10) := by
  obtain ⟨m, rfl⟩ : ∃ m, N = m + 1 := ⟨N - 1, by omega⟩
  unfold dg
  simp only [dgF]
  rw [if_neg h, dgF_fuel m ((m + 1) / 10) ((m + 1) / 10) (by omega) (Nat.le_refl _)]
theorem dg_induct (P : Nat → Prop) (h0 : P 0) (h : ∀ N, N ≠ 0 → P (N / 10) → P N) : ∀ N, P N := by
  intro N
  induction N using Nat.strongRecOn with
  | _ N ih =>
    by_cases e : N = 0
    · rw [e]; exact h0
    · exact h N e (ih (N / 10) (by omega))
theorem val_dg : ∀ N, val (dg N) = N := by
  refine dg_induct _ rfl fun N h ih => ?_
  rw [dg_succ h]; simp only [val]; rw [ih]; omega
theorem dg_dig : ∀ N, Dig10 (dg N) := by
  refine dg_induct _ (by intro x hx; simp [dg_zero] at hx) fun N h ih => ?_
  rw [dg_succ h]
  intro x hx
  rcases List.mem_cons.1 hx with rfl | hx
  · omega
  · exact ih x hx
theorem val_lt {l : List Nat} (h : Dig10 l) : val l < 10 ^ l.length := by
  induction l with
  | nil => simp [val]
  | cons d l ih =>
    have h1 := ih (fun x hx => h x (List.mem_cons_of_mem _ hx))
    have h2 := h d List.mem_cons_self
    simp only [val, List.length_cons, Nat.pow_succ]; omega
theorem dg_lt (N : Nat) : N < 10 ^ (dg N).length := by
  have := val_lt (dg_dig N); rwa [val_dg] at this
theorem dg_ge : ∀ N, N ≠ 0 → 10 ^ ((dg N).length - 1) ≤ N := by
  refine dg_induct _ (by intro h; exact absurd rfl h) fun N h ih _ => ?_
  rw [dg_succ h, List.length_cons, Nat.add_sub_cancel]
  by_cases e : N / 10 = 0
  · rw [e, dg_zero]; simp; omega
  · have h1 := ih e
    have h2 : (dg (N / 10)).length ≠ 0 := by rw [dg_succ e]; simp
    obtain ⟨k, hk⟩ : ∃ k, (dg (N / 10)).length = k + 1 := ⟨(dg (N / 10)).length - 1, by omega⟩
    rw [hk] at h1 ⊢
    rw [Nat.add_sub_cancel] at h1
    rw [Nat.pow_succ]; omega
theorem dg_len_pos {N : Nat} (h : N ≠ 0) : 0 < (dg N).length := by rw [dg_succ h]; simp
theorem dg_nil {N : Nat} (h : (dg N).length = 0) : N = 0 := by
  rcases Nat.eq_zero_or_pos N with e | e
  · exact e
  · have := dg_len_pos (N := N) (by omega); omega
theorem dg_val {l : List Nat} (h : Dig10 l) (hl : l = [] ∨ 10 ^ (l.length - 1) ≤ val l) : dg (val l) = l := by
  induction l with
  | nil => rfl
  | cons d l ih =>
    have h2 := h d List.mem_cons_self
    have hl2 : 10 ^ l.length ≤ d + 10 * val l := by
      rcases hl with h | h
      · cases h
      · simpa [val] using h
    have hd : Dig10 l := fun x hx => h x (List.mem_cons_of_mem _ hx)
    have hpos : 0 < 10 ^ l.length := Nat.pow_pos (by decide)
    have hi := ih hd (by
      cases l with
      | nil => exact .inl rfl
      | cons e l =>
        right
        simp only [List.length_cons, Nat.add_sub_cancel, Nat.pow_succ] at hl2 ⊢
        omega)
    simp only [val]
    rw [dg_succ (by omega), show (d + 10 * val l) % 10 = d by omega, show (d + 10 * val l) / 10 = val l by omega, hi]
theorem val_app (l m : List Nat) : val (l ++ m) = val l + 10 ^ l.length * val m := by
  induction l with
  | nil => simp [val]
  | cons d l ih =>
    simp only [List.cons_append, val, ih, List.length_cons, Nat.pow_succ]
    rw [Nat.mul_add, Nat.mul_comm (10 ^ l.length) 10, Nat.mul_assoc]; omega
theorem Dig10.app {l m : List Nat} (hl : Dig10 l) (hm : Dig10 m) : Dig10 (l ++ m) := fun x hx => by
  rcases List.mem_append.1 hx with hx | hx
  · exact hl x hx
  · exact hm x hx
theorem Dig10.one {d : Nat} (h : d < 10) : Dig10 [d] := fun x hx => by simp at hx; omega
theorem Dig10.nil : Dig10 [] := fun x hx => by simp at hx
theorem Dig10.take {l : List Nat} (h : Dig10 l) (k : Nat) : Dig10 (l.take k) := fun x hx => h x (List.mem_of_mem_take hx)
theorem Dig10.drop {l : List Nat} (h : Dig10 l) (k : Nat) : Dig10 (l.drop k) := fun x hx => h x (List.mem_of_mem_drop hx)
/-- Digits with a greatest one that is not 0 are those of what they say. -/
theorem dg_last {l : List Nat} {d : Nat} (h : Dig10 (l ++ [d])) (hd : d ≠ 0) : dg (val (l ++ [d])) = l ++ [d] := by
  refine dg_val h (.inr ?_)
  rw [val_app, List.length_append]
  simp only [val, List.length_singleton, Nat.add_sub_cancel]
  have : 10 ^ l.length * 1 ≤ 10 ^ l.length * (d + 10 * 0) := Nat.mul_le_mul_left _ (by omega)
  omega
theorem dg_one {d : Nat} (h : d ≠ 0) (h1 : d < 10) : dg d = [d] := by
  rw [dg_succ h, show d % 10 = d by omega, show d / 10 = 0 by omega, dg_zero]
/-- cut: the zeros that are greatest go. -/
theorem val_take_zero {l : List Nat} {n : Nat} (h : n < l.length) (hz : l[n] = 0) : val (l.take (n + 1)) = val (l.take n) := by
  rw [List.take_succ_eq_append_getElem h, val_app, hz]; simp [val]
theorem cut_done {l : List Nat} (h : Dig10 l) (n : Nat) (hn : n ≤ l.length) (hv : val (l.take n) = val l) (hl : n = 0 ∨ ∃ k, n = k + 1 ∧ ∃ hk : k < l.length, l[k] ≠ 0) : l.take n = dg (val l) := by
  rw [← hv]
  rcases hl with rfl | ⟨k, rfl, hk, hz⟩
  · rfl
  · rw [List.take_succ_eq_append_getElem hk] at hv ⊢
    exact (dg_last (by rw [← List.take_succ_eq_append_getElem hk]; exact h.take _) hz).symm
/-- Less. -/
theorem less_len {a b : Nat} (h : (dg a).length < (dg b).length) : a < b := by
  have h1 := dg_lt a
  have hb : b ≠ 0 := by rintro rfl; simp [dg_zero] at h
  have h2 := dg_ge b hb
  have h3 : 10 ^ (dg a).length ≤ 10 ^ ((dg b).length - 1) := Nat.pow_le_pow_right (by decide) (by omega)
  omega
theorem val_at {l : List Nat} (i : Nat) (h : i < l.length) : val l = val (l.take i) + 10 ^ i * (l[i] + 10 * val (l.drop (i + 1))) := by
  have e : l = l.take i ++ (l[i] :: l.drop (i + 1)) := by rw [← List.drop_eq_getElem_cons h, List.take_append_drop]
  conv => lhs; rw [e]
  rw [val_app, List.length_take, Nat.min_eq_left (by omega)]; rfl
theorem less_at {l m : List Nat} (hl : Dig10 l) (i : Nat) (h : i < l.length) (h' : i < m.length) (he : l.drop (i + 1) = m.drop (i + 1)) (hlt : l[i] < m[i]) : val l < val m := by
  rw [val_at i h, val_at i h', he]
  have h1 := val_lt (hl.take i)
  rw [List.length_take, Nat.min_eq_left (by omega)] at h1
  have h2 : 10 ^ i * (l[i] + 10 * val (m.drop (i + 1)) + 1) ≤ 10 ^ i * (m[i] + 10 * val (m.drop (i + 1))) := Nat.mul_le_mul_left _ (by omega)
  rw [Nat.mul_add, Nat.mul_one] at h2
  omega
theorem drop_step {l m : List Nat} (i : Nat) (h : i < l.length) (h' : i < m.length) (he : l.drop (i + 1) = m.drop (i + 1)) (heq : l[i] = m[i]) : l.drop i = m.drop i := by
  rw [List.drop_eq_getElem_cons h, List.drop_eq_getElem_cons h', he, heq]
/-- double: twice digits, and a bit. -/
theorem dbl_done {N b : Nat} (hb : b ≤ 1) (L : List Nat) (c : Nat) (hc : c ≤ 1) (hL : Dig10 L) (hlen : L.length = (dg N).length) (hv : val L + 10 ^ L.length * c = 2 * N + b) :
    (c = 1 → L ++ [1] = dg (2 * N + b)) ∧ (c = 0 → L = dg (2 * N + b)) := by
  constructor
  · rintro rfl
    rw [← hv]
    have := dg_last (l := L) (d := 1) (hL.app (Dig10.one (by decide))) (by decide)
    rw [val_app] at this
    simpa [val] using this.symm
  · rintro rfl
    rw [Nat.mul_zero, Nat.add_zero] at hv
    rw [← hv]
    refine (dg_val hL ?_).symm
    by_cases hN : N = 0
    · left; rw [hN, dg_zero] at hlen; exact List.length_eq_zero_iff.1 hlen
    · right
      rw [hlen, hv]
      have := dg_ge N hN
      omega
end Go.Proofs.Ytkhhjibpppmekaa
