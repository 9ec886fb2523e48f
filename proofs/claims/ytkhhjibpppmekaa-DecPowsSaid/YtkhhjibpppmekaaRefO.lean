/- fieldfareref01: Of, Good, Whole, Trunc, Neg, Same of a right number, in the words of its integer. -/
import Derived.Test.YtkhhjibpppmekaaRefN
namespace Go.Proofs.Ytkhhjibpppmekaa
open Go.RowKit
theorem of_ok {n : Bool} {ha la z : Int} (i : IsD n ha la z) (w : World) :
    Calls Try.prog 18 #[.agg #[.bool n, .int .u64 ha, .int .u64 la]] w fun e w' => (∃ v, e = .returned (.agg #[.bool n, v]) ∧ OI w' w.heap.size v (dg z.natAbs)) ∧ Below w.heap.size w w' := by
  obtain ⟨⟨h0, h1⟩, ⟨l0, l1⟩, hz, hn, hl⟩ := i
  obtain ⟨x, rfl⟩ : ∃ x : Nat, ha = (x : Int) := ⟨ha.toNat, by omega⟩
  obtain ⟨y, rfl⟩ : ∃ y : Nat, la = (y : Int) := ⟨la.toNat, by omega⟩
  have := of_any n x y w (by omega) (by omega)
  rw [show x * 18446744073709551616 + y = z.natAbs by omega] at this
  exact this
theorem rgood_i (n : Bool) (ha la : Int) (wa : Wd ha) (xa : Wd la) {b : Bool} (hg : goodB n ha la = b) (w : World) :
    Calls Try.prog 15 #[.agg #[.bool n, .int .u64 ha, .int .u64 la]] w fun e w' => e = .returned (.bool b) ∧ Below w.heap.size w w' := by
  subst hg
  obtain ⟨h0, h1⟩ := wa; obtain ⟨l0, l1⟩ := xa
  obtain ⟨x, rfl⟩ : ∃ x : Nat, ha = (x : Int) := ⟨ha.toNat, by omega⟩
  obtain ⟨y, rfl⟩ : ∃ y : Nat, la = (y : Int) := ⟨la.toNat, by omega⟩
  exact rgood_any n x y w (by omega) (by omega)
/-- A whole part, and whether it fits. -/
def kz (z : Int) : Int := if -9223372036854775808 ≤ z.tdiv 1000000 ∧ z.tdiv 1000000 < 9223372036854775808 then z.tdiv 1000000 else 0
def okz (z : Int) : Bool := decide (-9223372036854775808 ≤ z.tdiv 1000000 ∧ z.tdiv 1000000 < 9223372036854775808)
theorem WholeA.eq {z k : Int} {ok : Bool} (h : WholeA z k ok) : k = kz z ∧ ok = okz z := by
  unfold WholeA at h
  unfold kz okz
  by_cases hr : -9223372036854775808 ≤ z.tdiv 1000000 ∧ z.tdiv 1000000 < 9223372036854775808
  · rw [if_pos hr] at h ⊢; rw [decide_eq_true hr]; exact h
  · rw [if_neg hr] at h ⊢; rw [decide_eq_false hr]; exact h
theorem whole_d {n : Bool} {ha la z : Int} (i : IsD n ha la z) (w : World) :
    Calls Try.prog 50 #[.agg #[.bool n, .int .u64 ha, .int .u64 la]] w fun e w' => e = .returned (.tuple #[.int .i64 (kz z), .bool (okz z)]) ∧ Below w.heap.size w w' := by
  refine (whole_any n ha la z i w).mono fun e w' ⟨⟨k, ok, he, hk⟩, hb⟩ => ⟨?_, hb⟩
  obtain ⟨rfl, rfl⟩ := WholeA.eq (z := z) (k := k) (ok := ok) hk
  exact he
theorem len36 {z : Int} (h : ((z.natAbs : Nat) : Int) < LIM) : (dg z.natAbs).length ≤ 36 := (dg_len_LIM _).2 h
theorem rwhole_d {n : Bool} {z : Int} (hn : n = zn z) (A : Option Addr) (c : Nat) (hc : (dg z.natAbs).length ≤ c) (W1 W : World) (hr : RI W1 W1.heap.size A (dg z.natAbs)) (q : Below W1.heap.size W1 W) :
    Calls Try.prog 54 #[.agg #[.bool n, .slice A (dg z.natAbs).length c]] W fun e w' => e = .returned (.tuple #[.int .i64 (kz z), .bool (okz z)]) ∧ Below W.heap.size W w' := by
  refine (rwhole_any n A c z hn W W1.heap.size q.size (hr.below q) hc).mono fun e w' ⟨⟨k, ok, he, hk⟩, hb⟩ => ⟨?_, hb⟩
  obtain ⟨rfl, rfl⟩ := hk.eq
  exact he
theorem same_d (n : Bool) (K : Nat) (A A' : Option Addr) (c c' : Nat) (hl : (dg K).length ≤ 36) (W1 W2 W : World) (hr : RI W1 W1.heap.size A (dg K)) (q1 : Below W1.heap.size W1 W2) (hr' : RI W2 W2.heap.size A' (dg K)) (q2 : Below W2.heap.size W2 W) :
    Calls Try.prog 38 #[.agg #[.bool n, .slice A (dg K).length c], .agg #[.bool n, .slice A' (dg K).length c']] W fun e w' => e = .returned (.bool true) ∧ Below W.heap.size W w' := by
  have := same_any n n A A' c c' K K W W2.heap.size q2.size (((hr.below q1).more q1.size).below q2) (hr'.below q2) (by omega) (by omega)
  simpa using this
theorem rtrunc_d {n : Bool} {z : Int} (hn : n = zn z) (A : Option Addr) (c : Nat) (hc : (dg z.natAbs).length ≤ c) (hl : (dg z.natAbs).length ≤ 36) (W1 W : World) (hr : RI W1 W1.heap.size A (dg z.natAbs)) (q : Below W1.heap.size W1 W) :
    Calls Try.prog 53 #[.agg #[.bool n, .slice A (dg z.natAbs).length c]] W fun e w' => (∃ v, e = .returned v ∧ NV w' w'.heap.size v (truncZ z)) ∧ Below W.heap.size W w' :=
  rtrunc_any n A c z hn W W1.heap.size q.size (hr.below q) hc (by omega)
/-- A digit slice's value and what it holds. -/
def DV1 (w : World) (A : Option Addr) (l c : Nat) (K : Nat) : Prop := l = (dg K).length ∧ RI w w.heap.size A (dg K) ∧ (dg K).length ≤ c
end Go.Proofs.Ytkhhjibpppmekaa
