/- What Prefix returns, and what the reference's does, in the same words. -/
import Derived.Test.YtdmifldjeiabdaaRefF
import Derived.Test.YtdmifldjeiabdaaNumJ
import Derived.Test.YtdmifldjeiabdaaRefC
import Derived.Test.YtdmifldjeiabdaaErrs
namespace Go.Proofs.Ytdmifldjeiabdaa
open Go.RowKit
def pOk (bs : List Nat) : Bool := decide (0 < nW bs + nB bs) && decide ((strip (wholeL bs)).length ≤ 30)
def pOver (bs : List Nat) : Bool := decide (0 < nW bs + nB bs) && decide (30 < (strip (wholeL bs)).length)
def pM (bs : List Nat) : Nat := if pOk bs then numN bs else 0
def pP (bs : List Nat) : Bool := sneg bs && decide (0 < pM bs)
def errV (over : Bool) : Value := if over then .iface 72 (.int .i64 2) else .nilIface
theorem dg_len_iff (M : Nat) : (0 < (dg M).length) ↔ 0 < M := by
  constructor
  · intro h
    rcases Nat.eq_zero_or_pos M with e | e
    · rw [e, dg_zero] at h; simp at h
    · exact e
  · intro h; exact dg_len_pos (by omega)
theorem pM_lt (bs : List Nat) : pM bs < 1000000000000000000000000000000000000 := by
  unfold pM
  split
  · rename_i h
    unfold pOk at h
    rw [Bool.and_eq_true, decide_eq_true_eq, decide_eq_true_eq] at h
    exact numN_lt h.2
  · decide
theorem prefix_q (A : Option Addr) (c : Nat) (bs : List Nat) (w : World) (B0 : Nat) (hB0 : B0 ≤ w.heap.size) (hr : RB w B0 A bs) (hc : bs.length ≤ c) (hm : bs.length ≤ 140737488351232) :
    Calls Try.prog 22 #[.slice A bs.length c] w fun e w' => e = .returned (.tuple #[.agg #[.bool (pP bs), .int .u64 (mh (pM bs)), .int .u64 (ml (pM bs))], .int .i64 ((nP bs : Nat) : Int), errV (pOver bs)]) ∧ Below w.heap.size w w' := by
  refine (prefix_any A c bs w B0 hB0 hr hc hm).mono fun e w' ⟨h, hb⟩ => ⟨?_, hb⟩
  rcases h with ⟨hz, rfl⟩ | ⟨hz, ho, rfl⟩ | ⟨hz, ho, rfl⟩
  · have h1 : pOk bs = false := by unfold pOk; rw [hz]; rfl
    have h2 : pOver bs = false := by unfold pOver; rw [hz]; rfl
    have h3 : pM bs = 0 := by unfold pM; rw [h1]; rfl
    have h4 : nP bs = 0 := by unfold nP; rw [if_pos hz]
    have h5 : pP bs = false := by unfold pP; rw [h3]; simp
    rw [h2, h3, h4, h5]; rfl
  · have h1 : pOk bs = false := by unfold pOk; rw [decide_eq_false (show ¬ (strip (wholeL bs)).length ≤ 30 by omega), Bool.and_false]
    have h2 : pOver bs = true := by unfold pOver; rw [decide_eq_true hz, decide_eq_true ho]; rfl
    have h3 : pM bs = 0 := by unfold pM; rw [h1]; rfl
    have h4 : nP bs = nI3 bs := by unfold nP; rw [if_neg (by omega)]
    have h5 : pP bs = false := by unfold pP; rw [h3]; simp
    rw [h2, h3, h4, h5]; rfl
  · have h1 : pOk bs = true := by unfold pOk; rw [decide_eq_true hz, decide_eq_true ho]; rfl
    have h2 : pOver bs = false := by unfold pOver; rw [decide_eq_false (show ¬ 30 < (strip (wholeL bs)).length by omega), Bool.and_false]
    have h3 : pM bs = numN bs := by unfold pM; rw [h1]; rfl
    have h4 : nP bs = nI3 bs := by unfold nP; rw [if_neg (by omega)]
    have hN := numN_lt (bs := bs) ho
    have h5 : zn (pz bs) = pP bs := by
      unfold zn pz pP
      rw [h3]
      cases sneg bs
      · simp
      · by_cases h : numN bs = 0
        · simp [h]
        · simp <;> omega
    have h6 : zh (pz bs) = mh (pM bs) := by rw [h3]; unfold zh pz mh; split <;> omega
    have h7 : zl (pz bs) = ml (pM bs) := by rw [h3]; unfold zl pz ml; split <;> omega
    rw [h2, h4, h5, h6, h7]; rfl
theorem rprefix_q (bs : List Nat) (w : World) (hb : ∀ x ∈ bs, x < 256) (hl : bs.length ≤ 100000) :
    Calls Try.prog 27 #[.string (strN bs)] w fun e w' => (∃ (A : Option Addr) (c : Nat), e = .returned (.agg #[.bool (pP bs), .slice A (dg (pM bs)).length c, .int .i64 ((nP bs : Nat) : Int), .int .i64 (if pOver bs then 2 else 0)]) ∧ RI w' w'.heap.size A (dg (pM bs)) ∧ (dg (pM bs)).length ≤ c) ∧ Below w.heap.size w w' := by
  refine (rprefix_any bs w hb hl).mono fun e w' ⟨h, hB⟩ => ⟨?_, hB⟩
  rcases h with ⟨hz, rfl⟩ | ⟨hz, ho, rfl⟩ | ⟨hz, ho, A, c, rfl, hri, hc⟩
  · have h1 : pOk bs = false := by unfold pOk; rw [hz]; rfl
    have h2 : pOver bs = false := by unfold pOver; rw [hz]; rfl
    have h3 : pM bs = 0 := by unfold pM; rw [h1]; rfl
    have h4 : nP bs = 0 := by unfold nP; rw [if_pos hz]
    have h5 : pP bs = false := by unfold pP; rw [h3]; simp
    rw [h2, h3, h4, h5, dg_zero]
    exact ⟨none, 0, rfl, RI.nil, by simp⟩
  · have h1 : pOk bs = false := by unfold pOk; rw [decide_eq_false (show ¬ (strip (wholeL bs)).length ≤ 30 by omega), Bool.and_false]
    have h2 : pOver bs = true := by unfold pOver; rw [decide_eq_true hz, decide_eq_true ho]; rfl
    have h3 : pM bs = 0 := by unfold pM; rw [h1]; rfl
    have h4 : nP bs = nI3 bs := by unfold nP; rw [if_neg (by omega)]
    have h5 : pP bs = false := by unfold pP; rw [h3]; simp
    rw [h2, h3, h4, h5, dg_zero]
    exact ⟨none, 0, rfl, RI.nil, by simp⟩
  · have h1 : pOk bs = true := by unfold pOk; rw [decide_eq_true hz, decide_eq_true ho]; rfl
    have h2 : pOver bs = false := by unfold pOver; rw [decide_eq_false (show ¬ 30 < (strip (wholeL bs)).length by omega), Bool.and_false]
    have h3 : pM bs = numN bs := by unfold pM; rw [h1]; rfl
    have h4 : nP bs = nI3 bs := by unfold nP; rw [if_neg (by omega)]
    have h5 : (sneg bs && decide (0 < (dg (numN bs)).length)) = pP bs := by
      unfold pP; rw [h3]; congr 1; exact decide_eq_decide.2 (dg_len_iff _)
    rw [h2, h4, ← h5, h3]
    exact ⟨A, c, rfl, hri, hc⟩
theorem code_errV (o : Bool) (w : World) : Calls Try.prog 28 #[errV o] w fun e w' => e = .returned (.int .i64 (if o then 2 else 0)) ∧ w = w' := by
  cases o
  · exact code_nil w
  · exact code_errno 2 (by decide) (by decide) w
theorem good_pq (bs : List Nat) : goodB (pP bs) (mh (pM bs)) (ml (pM bs)) = true := by
  have hM := pM_lt bs
  have i : IsD (pP bs) (mh (pM bs)) (ml (pM bs)) (if pP bs then -(pM bs : Int) else (pM bs : Int)) := by
    unfold mh ml
    refine ⟨⟨by omega, by omega⟩, ⟨by omega, by omega⟩, ?_, ?_, ?_⟩
    · split <;> omega
    · cases h : pP bs
      · symm; rw [decide_eq_false_iff_not]; simp
      · have : 0 < pM bs := by
          unfold pP at h; rw [Bool.and_eq_true, decide_eq_true_eq] at h; exact h.2
        symm; rw [decide_eq_true_eq]; simp; omega
    · unfold LIM; split <;> omega
  exact good_of i
end Go.Proofs.Ytdmifldjeiabdaa
