/- Plain: blanks ahead of a numeral, a blank behind. -/
import Derived.Test.YtdmifldjeiabdaaNumQ
namespace Go.Proofs.Ytdmifldjeiabdaa
open Go.RowKit
def sp (n : Nat) : List Nat := List.replicate n 32
theorem span_sp (n : Nat) (bs : List Nat) : span blankB (sp n ++ bs) = n + span blankB bs := by
  induction n with
  | zero => simp [sp]
  | succ n ih =>
    have : sp (n + 1) = 32 :: sp n := rfl
    rw [this, List.cons_append]
    have hb : blankB 32 = true := rfl
    simp only [span, hb, if_true]
    rw [ih]; omega
theorem drop_sp (n k : Nat) (bs : List Nat) : (sp n ++ bs).drop (n + k) = bs.drop k := by
  rw [← List.drop_drop]
  congr 1
  have : (sp n).length = n := by simp [sp]
  conv => lhs; rw [← this]
  simp [sp]
structure Shift (n : Nat) (a b : List Nat) : Prop where
  sneg : sneg a = sneg b
  nW : nW a = nW b
  nB : nB a = nB b
  nI3 : nI3 a = n + nI3 b
  whole : wholeL a = wholeL b
  behind : behindL a = behindL b
theorem shift_sp (n : Nat) (bs : List Nat) : Shift n (sp n ++ bs) bs := by
  have h0 := span_sp n bs
  have hs : sgn (sp n ++ bs) = sgn bs := by unfold sgn; rw [h0, drop_sp]
  have hg : Go.Proofs.Ytdmifldjeiabdaa.sneg (sp n ++ bs) = Go.Proofs.Ytdmifldjeiabdaa.sneg bs := by unfold Go.Proofs.Ytdmifldjeiabdaa.sneg; rw [h0, drop_sp]
  have h1 : nI1 (sp n ++ bs) = n + nI1 bs := by unfold nI1; rw [h0, hs]; omega
  have hw : Go.Proofs.Ytdmifldjeiabdaa.nW (sp n ++ bs) = Go.Proofs.Ytdmifldjeiabdaa.nW bs := by unfold Go.Proofs.Ytdmifldjeiabdaa.nW; rw [h1, drop_sp]
  have h2 : nI2 (sp n ++ bs) = n + nI2 bs := by unfold nI2; rw [h1, hw]; omega
  have hd : nDot (sp n ++ bs) = nDot bs := by unfold nDot; rw [h2, drop_sp]
  have hb : Go.Proofs.Ytdmifldjeiabdaa.nB (sp n ++ bs) = Go.Proofs.Ytdmifldjeiabdaa.nB bs := by
    unfold Go.Proofs.Ytdmifldjeiabdaa.nB; rw [hd, h2, show n + nI2 bs + 1 = n + (nI2 bs + 1) by omega, drop_sp]
  refine ⟨hg, hw, hb, ?_, ?_, ?_⟩
  · unfold Go.Proofs.Ytdmifldjeiabdaa.nI3; rw [hd, h2, hb]; split <;> omega
  · unfold wholeL; rw [h1, drop_sp, hw]
  · unfold behindL; rw [h2, show n + nI2 bs + 1 = n + (nI2 bs + 1) by omega, drop_sp, hb]
theorem Shift.q {n : Nat} {a b : List Nat} (h : Shift n a b) : pP a = pP b ∧ pM a = pM b ∧ pOver a = pOver b ∧ nP a = (if nP b = 0 then 0 else nP b + n) := by
  have hok : pOk a = pOk b := by unfold pOk; rw [h.nW, h.nB, h.whole]
  have hN : numN a = numN b := by unfold numN; rw [h.whole, h.behind]
  have hM : pM a = pM b := by unfold pM; rw [hok, hN]
  refine ⟨by unfold pP; rw [h.sneg, hM], hM, by unfold pOver; rw [h.nW, h.nB, h.whole], ?_⟩
  unfold nP
  rw [h.nW, h.nB]
  by_cases hz : Go.Proofs.Ytdmifldjeiabdaa.nW b + Go.Proofs.Ytdmifldjeiabdaa.nB b = 0
  · rw [if_pos hz, if_pos hz]; rfl
  · rw [if_neg hz, if_neg hz]
    have := nI3_pos' (bs := b) (by omega)
    rw [if_neg (by omega), h.nI3]; omega
theorem span_snoc_no {p : Nat → Bool} (hp : p 32 = false) (l : List Nat) : span p (l ++ [32]) = span p l := by
  induction l with
  | nil => simp [span, hp]
  | cons c l ih => simp only [List.cons_append, span]; rw [ih]
theorem span_snoc_yes {p : Nat → Bool} (hp : p 32 = true) (l : List Nat) : span p (l ++ [32]) = if span p l = l.length then l.length + 1 else span p l := by
  induction l with
  | nil => simp [span, hp]
  | cons c l ih =>
    simp only [List.cons_append, span, List.length_cons]
    rw [ih]
    by_cases hc : p c = true
    · simp only [hc, if_true]; split <;> split <;> omega
    · simp only [hc, if_false]
      simp
theorem all_blank {bs : List Nat} (h : span blankB bs = bs.length) : nW bs + nB bs = 0 := by
  have hs : sgn bs = 0 := by unfold sgn; rw [head_none (by omega)]
  have h1 : nI1 bs = bs.length := by unfold nI1; rw [h, hs]; rfl
  have hw : nW bs = 0 := by unfold nW; rw [h1, List.drop_length]; rfl
  have h2 : nI2 bs = bs.length := by unfold nI2; rw [h1, hw]; rfl
  have hd : nDot bs = false := by unfold nDot; rw [h2, List.drop_length]; rfl
  have hb : nB bs = 0 := by unfold nB; rw [hd]; rfl
  omega
theorem looks_snoc (bs : List Nat) : looksB (bs ++ [32]) = looksB bs := by
  have hb32 : blankB 32 = true := rfl
  have hd32 : digB 32 = false := rfl
  have hsp := span_snoc_yes hb32 bs
  have hle := span_le blankB bs
  by_cases hall : span blankB bs = bs.length
  · rw [if_pos hall] at hsp
    have z1 := all_blank hall
    have z2 := all_blank (bs := bs ++ [32]) (by rw [hsp]; simp)
    unfold looksB; rw [z1, z2]; rfl
  · rw [if_neg hall] at hsp
    have hlt : span blankB bs < bs.length := by omega
    have hdr : ∀ k, k ≤ bs.length → (bs ++ [32]).drop k = bs.drop k ++ [32] := fun k hk => List.drop_append_of_le_length hk
    have hhd : ∀ k, k < bs.length → ((bs ++ [32]).drop k).head? = (bs.drop k).head? := fun k hk => by
      rw [hdr k (by omega), List.drop_eq_getElem_cons hk]; rfl
    have hs : sgn (bs ++ [32]) = sgn bs := by unfold sgn; rw [hsp, hhd _ hlt]
    have h1 : nI1 (bs ++ [32]) = nI1 bs := by unfold nI1; rw [hsp, hs]
    have h1l : nI1 bs ≤ bs.length := by
      have := nB_le bs; unfold nI2 at this; omega
    have hw : nW (bs ++ [32]) = nW bs := by unfold nW; rw [h1, hdr _ h1l, span_snoc_no hd32]
    have h2 : nI2 (bs ++ [32]) = nI2 bs := by unfold nI2; rw [h1, hw]
    have h2l : nI2 bs ≤ bs.length := by have := nB_le bs; omega
    have hd : nDot (bs ++ [32]) = nDot bs := by
      unfold nDot; rw [h2]
      rcases Nat.lt_or_ge (nI2 bs) bs.length with h | h
      · rw [hhd _ h]
      · rw [hdr _ h2l, List.drop_of_length_le h]; rfl
    have hb : nB (bs ++ [32]) = nB bs := by
      unfold nB; rw [hd, h2]
      split
      · rename_i hdot
        have hl : nI2 bs < bs.length := by
          rcases Nat.lt_or_ge (nI2 bs) bs.length with h | h
          · exact h
          · unfold nDot at hdot; rw [head_none h] at hdot; cases hdot
        rw [hdr _ (by omega), span_snoc_no hd32]
      · rfl
    have h3 : nI3 (bs ++ [32]) = nI3 bs := by unfold nI3; rw [hd, h2, hb]
    have h3l := nI3_le bs
    unfold looksB
    rw [hw, hb, h3, hdr _ h3l, span_snoc_yes hb32]
    congr 1
    apply decide_eq_decide.2
    rw [List.length_append, List.length_singleton]
    have := span_le blankB (bs.drop (nI3 bs))
    split <;> omega
end Go.Proofs.Ytdmifldjeiabdaa
