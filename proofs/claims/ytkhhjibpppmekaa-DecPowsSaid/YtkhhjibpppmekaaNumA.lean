/- numeral.blank, numeral.digits, fieldfareref02.Blank; slices of bytes. -/
import Derived.Test.YtkhhjibpppmekaaKit
import Derived.Laws.OwnMore
import Derived.Deep.AppendLies
import Derived.Deep.Draws
namespace Go.Proofs.Ytkhhjibpppmekaa
open Go.RowKit
theorem block_of_add (a : Addr) (n : Nat) : (a.add n).block = a.block := by unfold Addr.add; split <;> rfl
theorem add_of_add (a : Addr) (i j : Nat) : (a.add i).add j = a.add (i + j) := by
  unfold Addr.add
  by_cases hi : i = 0 <;> by_cases hj : j = 0 <;> simp [hi, hj, Nat.add_assoc]
/-- A slice of bytes reads as a list, below block B. -/
def RB (w : World) (B : Nat) (A : Option Addr) (bs : List Nat) : Prop :=
  (∀ x ∈ bs, x < 256) ∧ (0 < bs.length → ∃ ad, A = some ad ∧ ad.block < B ∧ ∀ j (h : j < bs.length), w.cell? (ad.add j) = some (.int .u8 ((bs[j] : Nat) : Int)))
section
variable {w w' : World} {B B' : Nat} {A : Option Addr} {bs : List Nat}
theorem RB.keep (h : RB w B A bs) (hk : ∀ p : Addr, p.block < B → w'.cell? p = w.cell? p) : RB w' B A bs :=
  ⟨h.1, fun hn => by
    obtain ⟨ad, e, hb, hc⟩ := h.2 hn
    exact ⟨ad, e, hb, fun j hj => (hk _ (by rw [block_of_add]; exact hb)).trans (hc j hj)⟩⟩
theorem RB.below (h : RB w B A bs) (hb : Below B w w') : RB w' B A bs := h.keep fun _ hp => hb.cell hp
theorem RB.more (h : RB w B A bs) (hB : B ≤ B') : RB w B' A bs :=
  ⟨h.1, fun hn => by
    obtain ⟨ad, e, hb, hc⟩ := h.2 hn
    exact ⟨ad, e, by omega, hc⟩⟩
theorem RB.cut (h : RB w B A bs) {k cap : Nat} (hc : bs.length ≤ cap) : RB w B (if cap = k then A else A.map (·.add k)) (bs.drop k) := by
  refine ⟨fun x hx => h.1 x (List.mem_of_mem_drop hx), fun hn => ?_⟩
  rw [List.length_drop] at hn
  obtain ⟨ad, rfl, hb, hcell⟩ := h.2 (by omega)
  rw [if_neg (by omega)]
  refine ⟨ad.add k, rfl, by rw [block_of_add]; exact hb, fun j hj => ?_⟩
  rw [List.length_drop] at hj
  rw [add_of_add, List.getElem_drop]
  exact hcell (k + j) (by omega)
theorem RB.take (h : RB w B A bs) (k : Nat) : RB w B A (bs.take k) := by
  refine ⟨fun x hx => h.1 x (List.mem_of_mem_take hx), fun hn => ?_⟩
  rw [List.length_take] at hn
  obtain ⟨ad, e, hb, hcell⟩ := h.2 (by omega)
  refine ⟨ad, e, hb, fun j hj => ?_⟩
  rw [List.length_take] at hj
  rw [List.getElem_take]
  exact hcell j (by omega)
theorem RB.nil : RB w B A [] := ⟨by simp, by simp⟩
end
/-- A blank; a digit. -/
def blankB (c : Nat) : Bool := (decide (9 ≤ c) && decide (c ≤ 13)) || decide (c = 32)
def digB (c : Nat) : Bool := decide (48 ≤ c) && decide (c ≤ 57)
/-- How many of the first ones there are. -/
def span (p : Nat → Bool) : List Nat → Nat
  | [] => 0
  | c :: l => if p c then span p l + 1 else 0
theorem span_le (p : Nat → Bool) (l : List Nat) : span p l ≤ l.length := by
  induction l with
  | nil => simp [span]
  | cons c l ih => simp only [span]; split <;> simp <;> omega
theorem span_stop (p : Nat → Bool) (l : List Nat) (h : span p l < l.length) : p (l[span p l]) = false := by
  induction l with
  | nil => simp at h
  | cons c l ih =>
    by_cases hc : p c = true
    · simp only [span, hc, if_true] at h ⊢
      simp only [List.getElem_cons_succ]
      exact ih (by simp at h; omega)
    · simp only [span, hc, Bool.false_eq_true, if_false] at h ⊢
      simpa using hc
theorem span_all (p : Nat → Bool) (l : List Nat) (j : Nat) (h : j < span p l) (hj : j < l.length) : p l[j] = true := by
  induction l generalizing j with
  | nil => simp at hj
  | cons c l ih =>
    by_cases hc : p c = true
    · cases j with
      | zero => simpa using hc
      | succ j =>
        simp only [span, hc, if_true] at h
        simp only [List.getElem_cons_succ]
        exact ih j (by omega) (by simp at hj; omega)
    · simp [span, hc] at h
theorem span_eq (p : Nat → Bool) (l : List Nat) (k : Nat) (hk : k ≤ l.length) (h : ∀ j (hj : j < l.length), j < k → p l[j] = true) (hs : ∀ hj : k < l.length, p l[k] = false) : span p l = k := by
  have a := span_le p l
  rcases Nat.lt_trichotomy (span p l) k with hlt | heq | hgt
  · have := span_stop p l (by omega)
    rw [h _ (by omega) hlt] at this; cases this
  · exact heq
  · have := span_all p l k hgt (by omega)
    rw [hs (by omega)] at this; cases this
set_option maxRecDepth 100000 in
set_option maxHeartbeats 400000 in
theorem blank_any (c : Nat) (w : World) :
    Calls Try.prog 68 #[.int .u8 (c : Int)] w fun e w' => e = .returned (.bool (blankB c)) ∧ w = w' := by
  have hg : blankB c = ((decide (9 ≤ c) && decide (c ≤ 13)) || decide (c = 32)) := rfl
  by_cases h1 : c < 9
  · have e1 : blankB c = false := by rw [hg]; simp; omega
    have h4 : ((c : Int) == 32) = false := by rw [beq_eq_false_iff_ne]; omega
    rw [e1]; clear hg e1
    go_enter Try.func68, Try.ntmps68
    go_wp2
    go_ret
    exact ⟨rfl, rfl⟩
  · by_cases h2 : c ≤ 13
    · have e1 : blankB c = true := by rw [hg]; simp; omega
      have h5 : decide ((c : Int) ≤ 13) = true := by rw [decide_eq_true_eq]; omega
      rw [e1]; clear hg e1
      go_enter Try.func68, Try.ntmps68
      go_wp2
      go_ret
      exact ⟨rfl, rfl⟩
    · by_cases h3 : c = 32
      · subst h3
        go_enter Try.func68, Try.ntmps68
        go_wp2
        go_ret
        exact ⟨rfl, rfl⟩
      · have e1 : blankB c = false := by rw [hg]; simp; omega
        have h4 : ((c : Int) == 32) = false := by rw [beq_eq_false_iff_ne]; omega
        have h5 : decide ((c : Int) ≤ 13) = false := by rw [decide_eq_false_iff_not]; omega
        rw [e1]; clear hg e1 h3
        go_enter Try.func68, Try.ntmps68
        go_wp2
        go_ret
        exact ⟨rfl, rfl⟩
set_option maxRecDepth 100000 in
set_option maxHeartbeats 400000 in
theorem rblank_any (c : Nat) (w : World) :
    Calls Try.prog 92 #[.int .u8 (c : Int)] w fun e w' => e = .returned (.bool (blankB c)) ∧ w = w' := by
  have hg : blankB c = ((decide (9 ≤ c) && decide (c ≤ 13)) || decide (c = 32)) := rfl
  by_cases h3 : c = 32
  · subst h3
    go_enter Try.func92, Try.ntmps92
    go_wp2
    go_ret
    exact ⟨rfl, rfl⟩
  · have h4 : ((c : Int) == 32) = false := by rw [beq_eq_false_iff_ne]; omega
    by_cases h1 : c < 9
    · have e1 : blankB c = false := by rw [hg]; simp; omega
      rw [e1]; clear hg e1 h3
      go_enter Try.func92, Try.ntmps92
      go_wp2
      go_ret
      exact ⟨rfl, rfl⟩
    · by_cases h2 : c ≤ 13
      · have e1 : blankB c = true := by rw [hg]; simp; omega
        have h5 : decide ((c : Int) ≤ 13) = true := by rw [decide_eq_true_eq]; omega
        rw [e1]; clear hg e1 h3
        go_enter Try.func92, Try.ntmps92
        go_wp2
        go_ret
        exact ⟨rfl, rfl⟩
      · have e1 : blankB c = false := by rw [hg]; simp; omega
        have h5 : decide ((c : Int) ≤ 13) = false := by rw [decide_eq_false_iff_not]; omega
        rw [e1]; clear hg e1 h3
        go_enter Try.func92, Try.ntmps92
        go_wp2
        go_ret
        exact ⟨rfl, rfl⟩
end Go.Proofs.Ytkhhjibpppmekaa
