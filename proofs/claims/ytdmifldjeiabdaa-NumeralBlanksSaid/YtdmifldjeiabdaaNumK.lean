/- Plain facts on numerals: a letter ahead, a letter behind. -/
import Derived.Test.YtdmifldjeiabdaaNumG
namespace Go.Proofs.Ytdmifldjeiabdaa
open Go.RowKit
/-- How many bytes the numeral has, 0 where there is none. -/
def nP (bs : List Nat) : Nat := if nW bs + nB bs = 0 then 0 else nI3 bs
theorem nP_le (bs : List Nat) : nP bs ≤ bs.length := by
  unfold nP; split
  · omega
  · exact nI3_le bs
theorem x_ahead (bs : List Nat) : nW (120 :: bs) + nB (120 :: bs) = 0 := by
  have h1 : span blankB (120 :: bs) = 0 := by simp [span, blankB]
  have h2 : sgn (120 :: bs) = 0 := by unfold sgn; rw [h1]; simp
  have h3 : nI1 (120 :: bs) = 0 := by unfold nI1; rw [h1, h2]
  have h4 : nW (120 :: bs) = 0 := by unfold nW; rw [h3]; simp [span, digB]
  have h5 : nI2 (120 :: bs) = 0 := by unfold nI2; rw [h3, h4]
  have h6 : nDot (120 :: bs) = false := by unfold nDot; rw [h5]; rfl
  have h7 : nB (120 :: bs) = 0 := by unfold nB; rw [h6]; rfl
  rw [h4, h7]
theorem looks_ahead (bs : List Nat) : looksB (120 :: bs) = false := by
  unfold looksB; rw [x_ahead]; rfl
theorem span_full {p : Nat → Bool} {l : List Nat} (h : span p l = l.length) (x : Nat) (hx : x ∈ l) : p x = true := by
  obtain ⟨j, hj, rfl⟩ := List.getElem_of_mem hx
  exact span_all p l j (by omega) hj
/-- What a numeral is made of. -/
def numeralB (c : Nat) : Bool := blankB c || digB c || decide (c = 43) || decide (c = 45) || decide (c = 46)
theorem nI3_mem (bs : List Nat) (j : Nat) (hj : j < bs.length) (h : j < nI3 bs) : numeralB bs[j] = true := by
  unfold numeralB
  by_cases h0 : j < span blankB bs
  · rw [span_all blankB bs j h0 hj]; rfl
  by_cases h1 : j < nI1 bs
  · unfold nI1 at h1
    cases hs : (sgn bs == 1)
    · rw [(sgn_zero hs).1] at h1; omega
    · obtain ⟨e, hl, hx, _⟩ := sgn_one hs
      have : j = span blankB bs := by omega
      subst this
      rcases hx with hx | hx <;> rw [hx] <;> rfl
  by_cases h2 : j < nI2 bs
  · have hd := span_all digB (bs.drop (nI1 bs)) (j - nI1 bs) (by unfold nI2 nW at h2; omega) (by rw [List.length_drop]; omega)
    rw [List.getElem_drop] at hd
    have e : nI1 bs + (j - nI1 bs) = j := by omega
    simp only [e] at hd
    rw [hd]; simp
  unfold nI3 at h
  split at h
  · rename_i hdot
    by_cases h3 : j = nI2 bs
    · subst h3
      unfold nDot at hdot
      rw [head_drop hj] at hdot
      have : bs[nI2 bs] = 46 := by simpa using hdot
      rw [this]; rfl
    · have hb : nB bs = span digB (bs.drop (nI2 bs + 1)) := by unfold nB; rw [if_pos hdot]
      have hd := span_all digB (bs.drop (nI2 bs + 1)) (j - (nI2 bs + 1)) (by rw [← hb]; omega) (by rw [List.length_drop]; omega)
      rw [List.getElem_drop] at hd
      have e : nI2 bs + 1 + (j - (nI2 bs + 1)) = j := by omega
      simp only [e] at hd
      rw [hd]; simp
  · omega
theorem looks_behind (bs : List Nat) : looksB (bs ++ [120]) = false := by
  unfold looksB
  rw [Bool.and_eq_false_iff]
  right
  rw [decide_eq_false_iff_not]
  intro h
  have hle : nI3 (bs ++ [120]) ≤ bs.length := by
    rcases Nat.lt_or_ge bs.length (nI3 (bs ++ [120])) with hlt | hge
    · have := nI3_mem (bs ++ [120]) bs.length (by simp) hlt
      simp [numeralB, blankB, digB] at this
    · exact hge
  have := span_full h 120 (by rw [List.drop_append_of_le_length hle]; simp)
  simp [blankB] at this
theorem looks_all {bs : List Nat} (h : looksB bs = true) : 0 < nP bs ∧ ∀ j (hj : j < bs.length), nP bs ≤ j → blankB bs[j] = true := by
  unfold looksB at h
  rw [Bool.and_eq_true, decide_eq_true_eq, decide_eq_true_eq] at h
  obtain ⟨h1, h2⟩ := h
  have e : nP bs = nI3 bs := by unfold nP; rw [if_neg (by omega)]
  rw [e]
  refine ⟨nI3_pos' h1, fun j hj hle => ?_⟩
  have := span_all blankB (bs.drop (nI3 bs)) (j - nI3 bs) (by rw [h2, List.length_drop]; omega) (by rw [List.length_drop]; omega)
  rw [List.getElem_drop] at this
  have e : nI3 bs + (j - nI3 bs) = j := by omega
  simpa only [e] using this
end Go.Proofs.Ytdmifldjeiabdaa
