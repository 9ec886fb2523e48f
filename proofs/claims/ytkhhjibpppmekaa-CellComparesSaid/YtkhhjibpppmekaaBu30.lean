/- Several texts put together: RefZ. -/
import Derived.Test.YtkhhjibpppmekaaBu29
/- fieldfareref09.Compare. -/
namespace Go.Proofs.Ytkhhjibpppmekaa
open Go.RowKit
/-- How two rows of bytes stand. -/
def cmpN : List Nat → List Nat → Int
  | [], [] => 0
  | [], _ :: _ => -1
  | _ :: _, [] => 1
  | x :: a, y :: b => if x < y then -1 else if y < x then 1 else cmpN a b
theorem u8_lt {x y : Nat} (hx : x < 256) (hy : y < 256) : (UInt8.ofNat x < UInt8.ofNat y) ↔ x < y := by
  rw [UInt8.lt_iff_toNat_lt, UInt8.toNat_ofNat', UInt8.toNat_ofNat']
  rw [Nat.mod_eq_of_lt hx, Nat.mod_eq_of_lt hy]
theorem u8_eq {x y : Nat} (hx : x < 256) (hy : y < 256) : (UInt8.ofNat x = UInt8.ofNat y) ↔ x = y := by
  rw [← UInt8.toNat_inj, UInt8.toNat_ofNat', UInt8.toNat_ofNat']
  rw [Nat.mod_eq_of_lt hx, Nat.mod_eq_of_lt hy]
theorem cmpN_less : ∀ {a b : List Nat}, (∀ x ∈ a, x < 256) → (∀ x ∈ b, x < 256) →
    cmpN a b = if Op.bytesLess (a.map UInt8.ofNat) (b.map UInt8.ofNat) then -1 else if (a.map UInt8.ofNat == b.map UInt8.ofNat) then 0 else 1
  | [], [], _, _ => by simp [cmpN, Op.bytesLess]
  | [], _ :: _, _, _ => by simp [cmpN, Op.bytesLess]
  | _ :: _, [], _, _ => by simp [cmpN, Op.bytesLess]
  | x :: a, y :: b, ha, hb => by
    have hx := ha x (by simp); have hy := hb y (by simp)
    have ih := cmpN_less (a := a) (b := b) (fun z hz => ha z (by simp [hz])) (fun z hz => hb z (by simp [hz]))
    by_cases h1 : x < y
    · have h2 := (u8_lt hx hy).2 h1
      simp [cmpN, Op.bytesLess, h1, h2]
    · have h2 : ¬ (UInt8.ofNat x < UInt8.ofNat y) := fun h => h1 ((u8_lt hx hy).1 h)
      by_cases h3 : y < x
      · have h4 : ¬ (UInt8.ofNat x = UInt8.ofNat y) := fun h => by have := (u8_eq hx hy).1 h; omega
        simp [cmpN, Op.bytesLess, h1, h2, h3, h4]
      · obtain rfl : x = y := by omega
        rw [cmpN, if_neg h1, if_neg h3, ih]
        simp [Op.bytesLess]
theorem cmpS_N {a b : List Nat} (ha : ∀ x ∈ a, x < 256) (hb : ∀ x ∈ b, x < 256) : cmpS (strN a) (strN b) = cmpN a b := by
  rw [cmpN_less ha hb]
  unfold cmpS
  rw [ByteArray.toList_eq, ByteArray.toList_eq]
  rfl
theorem cmpN_step {a b : List Nat} {k : Nat} (h1 : k < a.length) (h2 : k < b.length) : cmpN (a.drop k) (b.drop k) = if a[k] < b[k] then -1 else if b[k] < a[k] then 1 else cmpN (a.drop (k + 1)) (b.drop (k + 1)) := by
  rw [List.drop_eq_getElem_cons h1, List.drop_eq_getElem_cons h2, cmpN]
theorem cmpN_end {a b : List Nat} {k : Nat} (h : ¬ (k < a.length ∧ k < b.length)) (h1 : k ≤ a.length) (h2 : k ≤ b.length) : cmpN (a.drop k) (b.drop k) = if a.length < b.length then -1 else if b.length < a.length then 1 else 0 := by
  by_cases h3 : k < a.length
  · have h4 : b.drop k = [] := List.drop_eq_nil_of_le (by omega)
    rw [h4, List.drop_eq_getElem_cons h3, cmpN, if_neg (by omega), if_pos (by omega)]
  · have h4 : a.drop k = [] := List.drop_eq_nil_of_le (by omega)
    rw [h4]
    by_cases h5 : k < b.length
    · rw [List.drop_eq_getElem_cons h5, cmpN, if_pos (by omega)]
    · rw [List.drop_eq_nil_of_le (by omega), cmpN, if_neg (by omega), if_neg (by omega)]
end Go.Proofs.Ytkhhjibpppmekaa
