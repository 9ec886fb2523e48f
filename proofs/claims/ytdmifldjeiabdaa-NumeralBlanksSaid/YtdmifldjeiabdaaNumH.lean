/- Plain: the text of a number, as the code makes it. -/
import Derived.Test.YtdmifldjeiabdaaNumD
namespace Go.Proofs.Ytdmifldjeiabdaa
open Go.RowKit
/-- A whole number's digits, ahead of what stands there already. -/
def digs : Nat → Nat → List Nat → List Nat
  | 0, _, T => T
  | k + 1, W, T => if W / 10 = 0 then (48 + W % 10) :: T else digs k (W / 10) ((48 + W % 10) :: T)
/-- The least digits behind the point, without the zeros at their end. -/
def frs (F : Nat) : Nat → List Nat
  | 0 => []
  | k + 1 => if F / 10 ^ k % 10 ≠ 0 ∨ 0 < (frs F k).length then (48 + F / 10 ^ k % 10) :: frs F k else []
def frP (F : Nat) : List Nat := if F = 0 then [] else 46 :: frs F 6
/-- The text of a number of millionths. -/
def textL (z : Int) : List Nat := (if z < 0 then [45] else []) ++ digs 31 (z.natAbs / 1000000) (frP (z.natAbs % 1000000))
def Bytes (l : List Nat) : Prop := ∀ x ∈ l, x < 256
theorem frs_len (F : Nat) : ∀ k, (frs F k).length ≤ k := by
  intro k
  induction k with
  | zero => simp [frs]
  | succ k ih => unfold frs; split <;> simp <;> omega
theorem frP_len (F : Nat) : (frP F).length ≤ 7 := by
  have := frs_len F 6
  unfold frP; split <;> simp <;> omega
theorem digs_len : ∀ (k W : Nat) (T : List Nat), (digs k W T).length ≤ k + T.length := by
  intro k
  induction k with
  | zero => intro W T; simp [digs]
  | succ k ih =>
    intro W T
    unfold digs; split
    · simp; omega
    · have := ih (W / 10) ((48 + W % 10) :: T); simp at this; omega
theorem digs_ge : ∀ (k W : Nat) (T : List Nat), T.length ≤ (digs k W T).length := by
  intro k
  induction k with
  | zero => intro W T; simp [digs]
  | succ k ih =>
    intro W T
    unfold digs; split
    · simp
    · have := ih (W / 10) ((48 + W % 10) :: T); simp at this; omega
theorem digs_pos (k W : Nat) (T : List Nat) : 1 ≤ (digs (k + 1) W T).length := by
  unfold digs; split
  · simp
  · have := digs_ge k (W / 10) ((48 + W % 10) :: T); simp at this; omega
theorem frs_bytes (F : Nat) : ∀ k, Bytes (frs F k) := by
  intro k
  induction k with
  | zero => intro x hx; simp [frs] at hx
  | succ k ih =>
    unfold frs; split
    · intro x hx
      rcases List.mem_cons.1 hx with rfl | hx
      · omega
      · exact ih x hx
    · intro x hx; simp at hx
theorem digs_bytes : ∀ (k W : Nat) (T : List Nat), Bytes T → Bytes (digs k W T) := by
  intro k
  induction k with
  | zero => intro W T h; exact h
  | succ k ih =>
    intro W T h
    have hc : Bytes ((48 + W % 10) :: T) := by
      intro x hx
      rcases List.mem_cons.1 hx with rfl | hx
      · omega
      · exact h x hx
    unfold digs; split
    · exact hc
    · exact ih _ _ hc
theorem frP_bytes (F : Nat) : Bytes (frP F) := by
  unfold frP; split
  · intro x hx; simp at hx
  · intro x hx
    rcases List.mem_cons.1 hx with rfl | hx
    · omega
    · exact frs_bytes F 6 x hx
theorem textL_bytes (z : Int) : Bytes (textL z) := by
  unfold textL
  intro x hx
  rcases List.mem_append.1 hx with hx | hx
  · split at hx
    · simp at hx; omega
    · simp at hx
  · exact digs_bytes _ _ _ (frP_bytes _) x hx
theorem textL_len (z : Int) : (textL z).length ≤ 39 := by
  have h1 := frP_len (z.natAbs % 1000000)
  have h2 := digs_len 31 (z.natAbs / 1000000) (frP (z.natAbs % 1000000))
  unfold textL
  rw [List.length_append]
  split <;> simp <;> omega
end Go.Proofs.Ytdmifldjeiabdaa
