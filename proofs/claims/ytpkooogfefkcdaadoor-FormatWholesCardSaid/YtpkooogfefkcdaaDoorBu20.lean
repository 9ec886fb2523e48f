/- Several texts put together: DivM, Divide, DecH, DecI, DecJ, DecG, LawP, LawA, LawB. -/
import Derived.WalkKit
import Derived.Test.YtpkooogfefkcdaaDoorBu6
import Derived.Test.YtpkooogfefkcdaaDoorBu8
import Derived.Laws.BitsAllLaws
import Derived.Test.YtpkooogfefkcdaaDoorBu7
import Derived.Test.YtpkooogfefkcdaaDoorBu19
/- Plain facts on a division bit by bit. No program. -/
namespace Go.Proofs.YtpkooogfefkcdaaDoor
/-- A number of four words. -/
def lim (W : Nat → Nat) : Nat := W 0 + W 1 * 18446744073709551616 + W 2 * 340282366920938463463374607431768211456 + W 3 * 6277101735386680763835789423207666416102355444464034512896
theorem word_high {W : Nat → Nat} (hW : ∀ i, W i < 18446744073709551616) (j : Nat) (hj : j < 4) : ∃ M, lim W / 2 ^ (64 * j) = W j + 18446744073709551616 * M := by
  have h0 := hW 0; have h1 := hW 1; have h2 := hW 2; have h3 := hW 3
  unfold lim
  match j, hj with
  | 0, _ => exact ⟨W 1 + W 2 * 18446744073709551616 + W 3 * 340282366920938463463374607431768211456, by rw [show 2 ^ (64 * 0) = 1 by rfl]; omega⟩
  | 1, _ => exact ⟨W 2 + W 3 * 18446744073709551616, by rw [show 2 ^ (64 * 1) = 18446744073709551616 by rfl]; omega⟩
  | 2, _ => exact ⟨W 3, by rw [show 2 ^ (64 * 2) = 340282366920938463463374607431768211456 by rfl]; omega⟩
  | 3, _ => exact ⟨0, by rw [show 2 ^ (64 * 3) = 6277101735386680763835789423207666416102355444464034512896 by rfl]; omega⟩
theorem pow_split (s : Nat) (hs : s < 64) : 2 ^ (s + 1) * 2 ^ (63 - s) = 18446744073709551616 := by
  rw [← Nat.pow_add, show s + 1 + (63 - s) = 64 by omega]
theorem bit_of {W : Nat → Nat} (hW : ∀ i, W i < 18446744073709551616) (k : Nat) (hk : k < 256) : W (k / 64) / 2 ^ (k % 64) % 2 = lim W / 2 ^ k % 2 := by
  obtain ⟨M, hM⟩ := word_high hW (k / 64) (by omega)
  have e : 2 ^ k = 2 ^ (64 * (k / 64)) * 2 ^ (k % 64) := by rw [← Nat.pow_add]; congr 1; omega
  rw [e, ← Nat.div_div_eq_div_mul, hM]
  have p := pow_split (k % 64) (by omega)
  have : 18446744073709551616 * M = 2 ^ (k % 64) * (2 * (2 ^ (63 - k % 64) * M)) := by
    rw [← p, Nat.pow_succ]; simp only [Nat.mul_assoc]
  rw [this, Nat.add_mul_div_left _ _ (Nat.pow_pos (by decide)), Nat.add_mul_mod_self_left]
theorem low_zero {Q : Nat → Nat} (hQ : ∀ i, Q i < 18446744073709551616) (k M : Nat) (hk : k < 256) (h : lim Q = M * 2 ^ (k + 1)) : ∃ m, Q (k / 64) = 2 ^ (k % 64 + 1) * m := by
  obtain ⟨X, hX⟩ := word_high hQ (k / 64) (by omega)
  have e : 2 ^ (k + 1) = 2 ^ (64 * (k / 64)) * 2 ^ (k % 64 + 1) := by rw [← Nat.pow_add]; congr 1; omega
  have p := pow_split (k % 64) (by omega)
  have a : lim Q / 2 ^ (64 * (k / 64)) = 2 ^ (k % 64 + 1) * M := by
    rw [h, e, Nat.mul_comm M, Nat.mul_assoc, Nat.mul_div_cancel_left _ (Nat.pow_pos (by decide))]
  rw [a, ← p, Nat.mul_assoc] at hX
  have : 2 ^ (k % 64 + 1) * (M - 2 ^ (63 - k % 64) * X) = Q (k / 64) := by
    rw [Nat.mul_sub]; omega
  exact ⟨_, this.symm⟩
theorem bit_set {Q : Nat → Nat} (hQ : ∀ i, Q i < 18446744073709551616) (k M : Nat) (hk : k < 256) (h : lim Q = M * 2 ^ (k + 1)) :
    Q (k / 64) ||| 2 ^ (k % 64) = Q (k / 64) + 2 ^ (k % 64) ∧ Q (k / 64) + 2 ^ (k % 64) < 18446744073709551616 := by
  obtain ⟨m, hm⟩ := low_zero hQ k M hk h
  have hlt : 2 ^ (k % 64) < 2 ^ (k % 64 + 1) := Nat.pow_lt_pow_right (by decide) (by omega)
  constructor
  · rw [hm, Nat.two_pow_add_eq_or_of_lt hlt]
  · have p := pow_split (k % 64) (by omega)
    have q := hQ (k / 64)
    rw [hm, ← p] at q
    have : m < 2 ^ (63 - k % 64) := Nat.lt_of_mul_lt_mul_left q
    have r := Nat.mul_le_mul_left (2 ^ (k % 64 + 1)) (show m + 1 ≤ 2 ^ (63 - k % 64) by omega)
    rw [p, Nat.mul_add, ← hm] at r
    omega
/-- A word is put in another one's place. -/
def upd (Q : Nat → Nat) (j v : Nat) : Nat → Nat := fun i => if i = j then v else Q i
theorem upd_lim (Q : Nat → Nat) (k : Nat) (hk : k < 256) : lim (upd Q (k / 64) (Q (k / 64) + 2 ^ (k % 64))) = lim Q + 2 ^ k := by
  have e : 2 ^ k = 2 ^ (64 * (k / 64)) * 2 ^ (k % 64) := by rw [← Nat.pow_add]; congr 1; omega
  rw [e]
  have hj : k / 64 < 4 := by omega
  generalize k / 64 = j at *
  generalize 2 ^ (k % 64) = p
  unfold lim upd
  match j, hj with
  | 0, _ => simp; omega
  | 1, _ => simp; omega
  | 2, _ => simp; omega
  | 3, _ => simp; omega
theorem next_quot (N y k : Nat) (hy : 0 < y) (b : Nat) (hb : b = N / 2 ^ k % 2) :
    N / 2 ^ k = 2 * (N / 2 ^ (k + 1)) + b ∧
    (2 * (N / 2 ^ (k + 1) % y) + b < y → N / 2 ^ k % y = 2 * (N / 2 ^ (k + 1) % y) + b ∧ N / 2 ^ k / y * 2 ^ k = N / 2 ^ (k + 1) / y * 2 ^ (k + 1)) ∧
    (y ≤ 2 * (N / 2 ^ (k + 1) % y) + b → N / 2 ^ k % y = 2 * (N / 2 ^ (k + 1) % y) + b - y ∧ N / 2 ^ k / y * 2 ^ k = N / 2 ^ (k + 1) / y * 2 ^ (k + 1) + 2 ^ k) := by
  have e : N / 2 ^ k = 2 * (N / 2 ^ (k + 1)) + b := by
    rw [Nat.pow_succ, ← Nat.div_div_eq_div_mul]; omega
  generalize hA : N / 2 ^ (k + 1) = A at *
  have d := Nat.div_add_mod A y
  have m := Nat.mod_lt A hy
  generalize A / y = q at *
  generalize A % y = r at *
  have e2 : N / 2 ^ k = y * (2 * q) + (2 * r + b) := by
    rw [e, ← d, Nat.mul_add, Nat.mul_left_comm]; omega
  refine ⟨e, fun h => ?_, fun h => ?_⟩
  · rw [e2, Nat.mul_add_mod, Nat.mod_eq_of_lt h, Nat.mul_add_div hy, Nat.div_eq_of_lt h, Nat.pow_succ, Nat.add_zero]
    exact ⟨rfl, by rw [Nat.mul_comm 2 q, Nat.mul_assoc, Nat.mul_comm 2]⟩
  · have b1 : b ≤ 1 := by omega
    have e3 : N / 2 ^ k = y * (2 * q + 1) + (2 * r + b - y) := by
      rw [e2, Nat.mul_add]; omega
    rw [e3, Nat.mul_add_mod, Nat.mod_eq_of_lt (by omega), Nat.mul_add_div hy, Nat.div_eq_of_lt (by omega), Nat.pow_succ, Nat.add_zero]
    refine ⟨rfl, ?_⟩
    rw [Nat.add_mul, Nat.one_mul, Nat.mul_comm 2 q, Nat.mul_assoc, Nat.mul_comm 2]
end Go.Proofs.YtpkooogfefkcdaaDoor

/- dec.divide: the quotient of a number of four words by a magnitude, and what is left. -/
namespace Go.Proofs.YtpkooogfefkcdaaDoor
open Go.RowKit
theorem only_drewN {a w : World} {row : Option Nat} (h : a.grownBy w row) (n : Nat) : a.grownBy (w.drewN n) row := ⟨h.os, h.tape, h.output, h.size, h.block⟩
theorem only_setCell {a w : World} {g : Nat} (h : a.grownBy w (some g)) {p : Addr} (hp : p.block = g) (u : Value) : a.grownBy (w.setCell p u) (some g) :=
  ⟨h.os, h.tape, h.output, by simpa [World.setCell] using h.size, fun i hi hne => (Below.heap_setCell w p u i (by
    rintro rfl
    exact hne (by rw [hp]))).trans (h.block i hi hne)⟩
theorem only_refl (a : World) (row : Option Nat) : a.grownBy a row := ⟨rfl, rfl, rfl, Nat.le_refl _, fun _ _ _ => rfl⟩
theorem only_cell {a w : World} {g : Nat} (h : a.grownBy w (some g)) {p : Addr} (hp : p.block < a.heap.size) (hne : p.block ≠ g) : w.cell? p = a.cell? p :=
  World.cell?_of_block (h.block p.block hp (fun e => hne (by injection e)))
theorem only_frozen {a w : World} {g : Nat} (h : a.grownBy w (some g)) {p : Addr} (hp : p.block < a.heap.size) (hne : p.block ≠ g) : w.frozen? p = a.frozen? p :=
  World.frozen?_of_block (h.block p.block hp (fun e => hne (by injection e)))
theorem only_below {a w : World} {g B : Nat} (h : a.grownBy w (some g)) (hg : B ≤ g) (hB : B ≤ a.heap.size) : Below B a w :=
  ⟨h.os, h.tape, h.output, h.size, fun k hk => h.block k (by omega) (fun e => by injection e; omega)⟩
theorem or_two (a b : Nat) (ha : a * 2 < 18446744073709551616) (hb : b < 2) : bits .or .u64 ((a : Int) * 2) (b : Int) = ((a * 2 + b : Nat) : Int) := by
  have e : (a : Int) * 2 = ((a * 2 : Nat) : Int) := by simp
  rw [e, u64_or_nat _ _ ha (by omega)]
  have := Nat.two_pow_add_eq_or_of_lt (i := 1) (b := b) (by simpa using hb) a
  rw [Nat.mul_comm a 2, ← Nat.pow_one 2, ← this]
theorem shift_in (H L b : Nat) (hH : H < 54210108624275222) (hL : L < 18446744073709551616) (hb : b < 2) (x : Int) (hx : x % 2 = b) (hx0 : 0 ≤ x) (hx1 : x ≤ 18446744073709551615) :
    bits .or .u64 ((H : Int) * 2) ((L : Int) / 9223372036854775808) = (((2 * (H * 18446744073709551616 + L) + b) / 18446744073709551616 : Nat) : Int) ∧
    bits .or .u64 (IntKind.u64.wrap ((L : Int) * 2)) (bits .and .u64 x 1) = (((2 * (H * 18446744073709551616 + L) + b) % 18446744073709551616 : Nat) : Int) := by
  constructor
  · rw [show (L : Int) / 9223372036854775808 = ((L / 9223372036854775808 : Nat) : Int) by omega, or_two H _ (by omega) (by omega)]
    congr 1; omega
  · rw [and_one_u64 x hx0 hx1, hx, IntKind.wrap_u64, show (L : Int) * 2 % 18446744073709551616 = ((L % 9223372036854775808 : Nat) : Int) * 2 by omega, or_two _ b (by omega) hb]
    congr 1; omega
def DRel (W0 : World) (g N y : Nat) (hi lo at_ : Value) (wr : World) : Prop :=
  ∃ (k : Nat) (Q : Nat → Nat), k ≤ 256 ∧ at_ = .int .i64 ((k : Int) - 1) ∧ hi = .int .u64 ((N / 2 ^ k % y / 18446744073709551616 : Nat) : Int) ∧ lo = .int .u64 ((N / 2 ^ k % y % 18446744073709551616 : Nat) : Int) ∧
    (∀ i, Q i < 18446744073709551616) ∧ lim Q = N / 2 ^ k / y * 2 ^ k ∧ (∀ i, i < 4 → wr.cell? ⟨g, i, none⟩ = some (.int .u64 ((Q i : Nat) : Int)) ∧ wr.frozen? ⟨g, i, none⟩ = false) ∧ W0.grownBy wr (some g)
end Go.Proofs.YtpkooogfefkcdaaDoor

/- dec.Div. -/
namespace Go.Proofs.YtpkooogfefkcdaaDoor
open Go.RowKit
/-- A quotient, cut behind the sixth place. -/
def divZ (a b : Int) : Int := (a * 1000000).tdiv b
theorem divZ_abs (a b : Int) : ((divZ a b).natAbs : Int) = ((a.natAbs : Int) * 1000000) / b.natAbs := by
  unfold divZ
  rw [Int.natAbs_tdiv, Int.natAbs_mul]
  show (((a.natAbs * 1000000) / b.natAbs : Nat) : Int) = _
  simp
/-- What the quotient leaves in memory. -/
def DivCut (w : World) (n m : Bool) (N : Int) (q : Value) (wx : World) : Prop :=
  ∃ (g : Nat) (q0 q1 q2 q3 : Int), q = .pointer (some ⟨g, 0, none⟩) ∧ Wd q0 ∧ Wd q1 ∧ Wd q2 ∧ Wd q3 ∧ lim4 q0 q1 q2 q3 = N ∧
    wx.cell? ⟨g, 0, none⟩ = some (.int .u64 q0) ∧ wx.cell? ⟨g, 1, none⟩ = some (.int .u64 q1) ∧ wx.cell? ⟨g, 2, none⟩ = some (.int .u64 q2) ∧ wx.cell? ⟨g, 3, none⟩ = some (.int .u64 q3) ∧
    wx.cell? ⟨w.heap.size, 0, none⟩ = some (.bool n) ∧ wx.cell? ⟨w.heap.size + 1, 0, none⟩ = some (.bool m) ∧
    wx.cell? ⟨w.heap.size + 1 + 1, 0, none⟩ = some (.bool false) ∧ wx.cell? ⟨w.heap.size + 1 + 1, 1, none⟩ = some (.int .u64 0) ∧ wx.cell? ⟨w.heap.size + 1 + 1, 2, none⟩ = some (.int .u64 0) ∧
    wx.frozen? ⟨w.heap.size + 1 + 1, 0, none⟩ = false ∧ wx.frozen? ⟨w.heap.size + 1 + 1, 1, none⟩ = false ∧ wx.frozen? ⟨w.heap.size + 1 + 1, 2, none⟩ = false ∧
    w.heap.size + 1 + 1 < wx.heap.size ∧ Below w.heap.size w wx
theorem div_sign {n m : Bool} {za zb : Int} (hn : n = decide (za < 0)) (hm : m = decide (zb < 0)) (hz : zb ≠ 0) : divZ za zb = 0 ∨ (!n == m) = decide (divZ za zb < 0) := by
  by_cases h : divZ za zb = 0
  · exact .inl h
  · refine .inr (sign_of hn hm ?_)
    unfold divZ at h ⊢
    have ha : za * 1000000 ≠ 0 := by intro e; rw [e] at h; exact h (Int.zero_tdiv zb)
    have key : ∀ b : Int, 0 < b → (za * 1000000).tdiv b ≠ 0 → ((za * 1000000).tdiv b < 0 ↔ za < 0) := by
      intro b hb hne
      rw [tdiv_sign hb hne]; omega
    by_cases hb : zb < 0
    · have e : zb = -(-zb) := by omega
      rw [e, Int.tdiv_neg] at h ⊢
      have := key (-zb) (by omega) (by omega)
      omega
    · have := key zb (by omega) h
      simp [hb, this]
end Go.Proofs.YtpkooogfefkcdaaDoor

/- dec.Pow. -/
namespace Go.Proofs.YtpkooogfefkcdaaDoor
open Go.RowKit
/-- The power, step by step: nothing where it grows too great. -/
def powS (a : Int) : Nat → Option Int
  | 0 => some 1000000
  | k + 1 => match powS a k with
    | some p => if ((mulZ p a).natAbs : Int) < LIM then some (mulZ p a) else none
    | none => none
structure PoW (w : World) (n : Bool) (ha la : Int) (m : Bool) (hb lb : Int) (wr : World) : Prop where
  a0 : wr.cell? ⟨w.heap.size, 0, none⟩ = some (.bool n)
  a1 : wr.cell? ⟨w.heap.size, 1, none⟩ = some (.int .u64 ha)
  a2 : wr.cell? ⟨w.heap.size, 2, none⟩ = some (.int .u64 la)
  b0 : wr.cell? ⟨w.heap.size + 1, 0, none⟩ = some (.bool m)
  b1 : wr.cell? ⟨w.heap.size + 1, 1, none⟩ = some (.int .u64 hb)
  b2 : wr.cell? ⟨w.heap.size + 1, 2, none⟩ = some (.int .u64 lb)
  r0 : wr.cell? ⟨w.heap.size + 1 + 1, 0, none⟩ = some (.bool false)
  r1 : wr.cell? ⟨w.heap.size + 1 + 1, 1, none⟩ = some (.int .u64 0)
  r2 : wr.cell? ⟨w.heap.size + 1 + 1, 2, none⟩ = some (.int .u64 0)
  f0 : wr.frozen? ⟨w.heap.size + 1 + 1, 0, none⟩ = false
  f1 : wr.frozen? ⟨w.heap.size + 1 + 1, 1, none⟩ = false
  f2 : wr.frozen? ⟨w.heap.size + 1 + 1, 2, none⟩ = false
  z : w.heap.size + 1 + 1 < wr.heap.size
  bel : Below w.heap.size w wr
theorem PoW.below {w : World} {n m : Bool} {ha la hb lb : Int} {wr w2 : World} (h : PoW w n ha la m hb lb wr) (q : Below wr.heap.size wr w2) : PoW w n ha la m hb lb w2 := by
  have z := h.z
  have hs := q.size
  refine ⟨?_, ?_, ?_, ?_, ?_, ?_, ?_, ?_, ?_, ?_, ?_, ?_, ?_, ?_⟩
  · exact (Below.cell q (by simp only; omega)).trans h.a0
  · exact (Below.cell q (by simp only; omega)).trans h.a1
  · exact (Below.cell q (by simp only; omega)).trans h.a2
  · exact (Below.cell q (by simp only; omega)).trans h.b0
  · exact (Below.cell q (by simp only; omega)).trans h.b1
  · exact (Below.cell q (by simp only; omega)).trans h.b2
  · exact (Below.cell q (by simp only; omega)).trans h.r0
  · exact (Below.cell q (by simp only; omega)).trans h.r1
  · exact (Below.cell q (by simp only; omega)).trans h.r2
  · exact (Below.frozen q (by simp only; omega)).trans h.f0
  · exact (Below.frozen q (by simp only; omega)).trans h.f1
  · exact (Below.frozen q (by simp only; omega)).trans h.f2
  · omega
  · exact h.bel.trans (q.mono (by omega))
structure PL (w : World) (n : Bool) (ha la : Int) (m : Bool) (hb lb : Int) (g : Nat) (p : Int) (wr : World) : Prop where
  pow : PoW w n ha la m hb lb wr
  p0 : wr.cell? ⟨g, 0, none⟩ = some (.bool (zn p))
  p1 : wr.cell? ⟨g, 1, none⟩ = some (.int .u64 (zh p))
  p2 : wr.cell? ⟨g, 2, none⟩ = some (.int .u64 (zl p))
  q0 : wr.frozen? ⟨g, 0, none⟩ = false
  q1 : wr.frozen? ⟨g, 1, none⟩ = false
  q2 : wr.frozen? ⟨g, 2, none⟩ = false
  g1 : w.heap.size + 1 + 1 < g
  g2 : g < wr.heap.size
theorem PL.below {w : World} {n m : Bool} {ha la hb lb p : Int} {g : Nat} {wr w2 : World} (h : PL w n ha la m hb lb g p wr) (q : Below wr.heap.size wr w2) : PL w n ha la m hb lb g p w2 := by
  have z := h.g2
  have hs := q.size
  refine ⟨h.pow.below q, ?_, ?_, ?_, ?_, ?_, ?_, h.g1, by omega⟩
  · exact (Below.cell q (by simp only; omega)).trans h.p0
  · exact (Below.cell q (by simp only; omega)).trans h.p1
  · exact (Below.cell q (by simp only; omega)).trans h.p2
  · exact (Below.frozen q (by simp only; omega)).trans h.q0
  · exact (Below.frozen q (by simp only; omega)).trans h.q1
  · exact (Below.frozen q (by simp only; omega)).trans h.q2
theorem PoW.setCell {w : World} {n m : Bool} {ha la hb lb : Int} {g : Nat} {wr : World} (h : PoW w n ha la m hb lb wr) (hg : w.heap.size + 1 + 1 < g) (j : Nat) (v : Value) : PoW w n ha la m hb lb (wr.setCell ⟨g, j, none⟩ v) := by
  obtain ⟨a0, a1, a2, b0, b1, b2, r0, r1, r2, f0, f1, f2, z, bel⟩ := h
  have x0 : ¬ g = w.heap.size := by omega
  have x1 : ¬ g = w.heap.size + 1 := by omega
  have x2 : ¬ g = w.heap.size + 1 + 1 := by omega
  have y0 : ¬ w.heap.size = g := by omega
  have y1 : ¬ w.heap.size + 1 = g := by omega
  have y2 : ¬ w.heap.size + 1 + 1 = g := by omega
  refine ⟨?_, ?_, ?_, ?_, ?_, ?_, ?_, ?_, ?_, ?_, ?_, ?_, ?_, ?_⟩
  all_goals first
    | (simp [go_sem, *]; done)
    | (simp; omega)
    | exact bel.setCell (by simp only; omega) _
theorem PL.next {w : World} {n m : Bool} {ha la hb lb p : Int} {g : Nat} {wr w2 : World} (h : PL w n ha la m hb lb g p wr) (b : Below wr.heap.size wr w2) (q : Int) :
    PL w n ha la m hb lb g q (((w2.setCell ⟨g, 0, none⟩ (.bool (zn q))).setCell ⟨g, 1, none⟩ (.int .u64 (zh q))).setCell ⟨g, 2, none⟩ (.int .u64 (zl q))) := by
  have h2 := h.below b
  obtain ⟨po, p0, p1, p2, q0, q1, q2, g1, g2⟩ := h2
  refine ⟨((po.setCell g1 _ _).setCell g1 _ _).setCell g1 _ _, ?_, ?_, ?_, ?_, ?_, ?_, g1, by simp; omega⟩
  all_goals simp (maxDischargeDepth := 12) [go_sem, *]
/-- What a power of whole exponent is. -/
def PowPost (za zb : Int) (e : Ending) : Prop :=
  if -1000 ≤ zb.tdiv 1000000 ∧ zb.tdiv 1000000 ≤ 1000 then
    match powS za (zb.tdiv 1000000).natAbs with
    | none => e = .returned (.tuple #[.agg #[.bool false, .int .u64 0, .int .u64 0], .iface 67 (.int .i64 2)])
    | some p =>
      if zb < 0 then
        if p = 0 then e = .returned (.tuple #[.agg #[.bool false, .int .u64 0, .int .u64 0], .iface 67 (.int .i64 3)])
        else if ((divZ 1000000 p).natAbs : Int) < LIM then e = .returned (.tuple #[.agg #[.bool (zn (divZ 1000000 p)), .int .u64 (zh (divZ 1000000 p)), .int .u64 (zl (divZ 1000000 p))], .nilIface])
        else e = .returned (.tuple #[.agg #[.bool false, .int .u64 0, .int .u64 0], .iface 67 (.int .i64 2)])
      else e = .returned (.tuple #[.agg #[.bool (zn (p)), .int .u64 (zh (p)), .int .u64 (zl (p))], .nilIface])
  else e = .returned (.tuple #[.agg #[.bool false, .int .u64 0, .int .u64 0], .iface 67 (.int .i64 2)])
theorem powS_none {a : Int} {j : Nat} (h : powS a j = none) : ∀ {k : Nat}, j ≤ k → powS a k = none
  | 0, hk => by obtain rfl : j = 0 := by omega
                exact h
  | k + 1, hk => by
    rcases Nat.lt_or_ge k j with h1 | h1
    · obtain rfl : j = k + 1 := by omega
      exact h
    · simp only [powS, powS_none h h1]
theorem ite_prop {c : Prop} [Decidable c] {X Y : Prop} (a : c → X) (b : ¬ c → Y) : if c then X else Y := by
  by_cases h : c
  · rw [if_pos h]; exact a h
  · rw [if_neg h]; exact b h
set_option maxRecDepth 100000 in
theorem powPost_of {za zb : Int} {K : Nat} {e : Ending} (hr : -1000 ≤ zb.tdiv 1000000 ∧ zb.tdiv 1000000 ≤ 1000) (hK : K = (zb.tdiv 1000000).natAbs)
    (h0 : powS za K = none → e = .returned (.tuple #[.agg #[.bool false, .int .u64 0, .int .u64 0], .iface 67 (.int .i64 2)]))
    (h1 : ∀ p, powS za K = some p → ¬ zb < 0 → e = .returned (.tuple #[.agg #[.bool (zn (p)), .int .u64 (zh (p)), .int .u64 (zl (p))], .nilIface]))
    (h2 : ∀ p, powS za K = some p → zb < 0 → p = 0 → e = .returned (.tuple #[.agg #[.bool false, .int .u64 0, .int .u64 0], .iface 67 (.int .i64 3)]))
    (h3 : ∀ p, powS za K = some p → zb < 0 → p ≠ 0 → ((divZ 1000000 p).natAbs : Int) < LIM → e = .returned (.tuple #[.agg #[.bool (zn (divZ 1000000 p)), .int .u64 (zh (divZ 1000000 p)), .int .u64 (zl (divZ 1000000 p))], .nilIface]))
    (h4 : ∀ p, powS za K = some p → zb < 0 → p ≠ 0 → ¬ ((divZ 1000000 p).natAbs : Int) < LIM → e = .returned (.tuple #[.agg #[.bool false, .int .u64 0, .int .u64 0], .iface 67 (.int .i64 2)])) : PowPost za zb e := by
  unfold PowPost
  rw [if_pos hr, ← hK]
  cases hp : powS za K with
  | none => exact h0 hp
  | some p =>
    by_cases g1 : zb < 0
    · simp only [if_pos g1]
      by_cases g2 : p = 0
      · rw [if_pos g2]; exact h2 p hp g1 g2
      · rw [if_neg g2]
        have h3' := h3 p hp g1 g2
        have h4' := h4 p hp g1 g2
        clear h0 h1 h2 h3 h4
        generalize divZ 1000000 p = d at *
        clear hr hK
        generalize LIM = L at *
        exact ite_prop h3' h4'
    · simp only [if_neg g1]; exact h1 p hp g1
end Go.Proofs.YtpkooogfefkcdaaDoor

/- dec.Pow: where it answers with an error at once. -/
namespace Go.Proofs.YtpkooogfefkcdaaDoor
open Go.RowKit
theorem trunc_ne {n : Bool} {h l z : Int} (i : IsD n h l z) (hne : truncZ z ≠ z) : (zh (truncZ z) == h) = false ∨ (zl (truncZ z) == l) = false := by
  obtain ⟨e1, e2, e3⟩ := i.eq
  rcases Decidable.em (zh (truncZ z) = h) with h1 | h1
  · right
    rw [beq_eq_false_iff_ne]
    intro h2
    apply hne
    have ha := truncZ_abs z
    have hs : (truncZ z).natAbs = z.natAbs := by
      rw [e2] at h1; rw [e3] at h2
      unfold zh at h1; unfold zl at h2
      omega
    have hm : z.natAbs % 1000000 = 0 := by omega
    unfold truncZ
    have hd : (1000000 : Int) ∣ z := by
      have : (1000000 : Nat) ∣ z.natAbs := Nat.dvd_of_mod_eq_zero hm
      omega
    exact Int.tdiv_mul_cancel hd
  · left; rw [beq_eq_false_iff_ne]; exact h1
end Go.Proofs.YtpkooogfefkcdaaDoor

/- dec.Mod. -/
namespace Go.Proofs.YtpkooogfefkcdaaDoor
open Go.RowKit
theorem tmod_sign {n : Bool} {za zb : Int} (hn : n = decide (za < 0)) : za.tmod zb = 0 ∨ n = decide (za.tmod zb < 0) := by
  by_cases h : za.tmod zb = 0
  · exact .inl h
  · right
    rw [hn, decide_eq_decide]
    by_cases hz : 0 ≤ za
    · have := Int.tmod_nonneg zb hz
      omega
    · have e : za = -(-za) := by omega
      have := Int.tmod_nonneg zb (show 0 ≤ -za by omega)
      rw [e, Int.neg_tmod] at h ⊢
      omega
end Go.Proofs.YtpkooogfefkcdaaDoor

/- Plain facts that the statements of layer 1 say. -/
namespace Go.Proofs.YtpkooogfefkcdaaDoor
theorem mulZ_comm (a b : Int) : mulZ a b = mulZ b a := by unfold mulZ; rw [Int.mul_comm]
theorem mulZ_one (a : Int) : mulZ a 1000000 = a := Int.mul_tdiv_cancel a (by decide)
theorem one_mulZ (a : Int) : mulZ 1000000 a = a := by rw [mulZ_comm, mulZ_one]
theorem mulZ_neg (a b : Int) : mulZ (-a) b = -mulZ a b := by unfold mulZ; rw [Int.neg_mul, Int.neg_tdiv]
theorem divZ_one (a : Int) : divZ a 1000000 = a := Int.mul_tdiv_cancel a (by decide)
theorem divZ_self (a : Int) (h : a ≠ 0) : divZ a a = 1000000 := Int.mul_tdiv_cancel_left 1000000 h
theorem cmpZ_add (a b c : Int) : cmpZ (a + c) (b + c) = cmpZ a b := by
  unfold cmpZ
  by_cases h1 : a < b
  · rw [if_pos h1, if_pos (by omega)]
  · by_cases h2 : a = b
    · rw [if_neg h1, if_pos h2, if_neg (by omega), if_pos (by omega)]
    · rw [if_neg h1, if_neg h2, if_neg (by omega), if_neg (by omega)]
theorem cmpZ_swap (a b : Int) : cmpZ a b = -cmpZ b a := by
  unfold cmpZ
  by_cases h1 : a < b
  · rw [if_pos h1, if_neg (by omega), if_neg (by omega)]
  · by_cases h2 : a = b
    · rw [if_neg h1, if_pos h2, if_neg (by omega), if_pos h2.symm]; rfl
    · rw [if_neg h1, if_neg h2, if_pos (by omega)]; rfl
theorem cmpZ_cases (a b : Int) : cmpZ a b = -1 ∨ cmpZ a b = 0 ∨ cmpZ a b = 1 := by
  unfold cmpZ
  by_cases h1 : a < b
  · rw [if_pos h1]; exact .inl rfl
  · rw [if_neg h1]
    by_cases h2 : a = b
    · rw [if_pos h2]; exact .inr (.inl rfl)
    · rw [if_neg h2]; exact .inr (.inr rfl)
theorem rest_eq (a : Int) : a - truncZ a = a.tmod 1000000 := by
  unfold truncZ
  have := Int.mul_tdiv_add_tmod a 1000000
  omega
theorem trunc_trunc (a : Int) : truncZ (truncZ a) = truncZ a := by
  unfold truncZ
  rw [Int.mul_tdiv_cancel _ (by decide)]
theorem trunc_abs_le (a : Int) : ((truncZ a).natAbs : Int) ≤ a.natAbs := by
  have := truncZ_abs a
  omega
theorem tmod_abs_lt (a b : Int) (hb : b ≠ 0) : ((a.tmod b).natAbs : Int) < b.natAbs := by
  rw [Int.natAbs_tmod]
  have := Nat.mod_lt a.natAbs (show 0 < b.natAbs by omega)
  omega
theorem sub_tmod_mod (a b : Int) : (a - a.tmod b).tmod b = 0 := by
  have h : a - a.tmod b = b * a.tdiv b := by
    have := Int.mul_tdiv_add_tmod a b
    omega
  rw [h, Int.mul_tmod_right]
theorem sub_tmod_abs (a b : Int) : (((a - a.tmod b).natAbs : Nat) : Int) ≤ a.natAbs := by
  have h0 : (a.tmod b).natAbs ≤ a.natAbs := by
    rw [Int.natAbs_tmod]; exact Nat.mod_le _ _
  by_cases h : 0 ≤ a
  · have := Int.tmod_nonneg b h
    omega
  · have h1 := Int.tmod_nonneg b (show 0 ≤ -a by omega)
    rw [Int.neg_tmod] at h1
    omega
theorem one_tdiv : Int.tdiv 1000000 1000000 = 1 := by decide
theorem powS_one {za : Int} (hl : ((za.natAbs : Nat) : Int) < LIM) : powS za 1 = some za := by
  simp only [powS, one_mulZ]
  rw [if_pos hl]
theorem powPost_gen {za zb q : Int} {p : Int} {e : Ending} (h : PowPost za zb e) (h0 : zb.tdiv 1000000 = q) (h1 : -1000 ≤ q ∧ q ≤ 1000) (hp : powS za q.natAbs = some p) (hz : ¬ zb < 0) : e = .returned (.tuple #[.agg #[.bool (zn (p)), .int .u64 (zh (p)), .int .u64 (zl (p))], .nilIface]) := by
  unfold PowPost at h
  rw [h0, if_pos h1, hp] at h
  simp only [if_neg hz] at h
  exact h
theorem powPost_one {za zb : Int} (hb : zb = 1000000) (hl : ((za.natAbs : Nat) : Int) < LIM) {e : Ending} (h : PowPost za zb e) : e = .returned (.tuple #[.agg #[.bool (zn (za)), .int .u64 (zh (za)), .int .u64 (zl (za))], .nilIface]) :=
  powPost_gen (q := 1) (p := za) h (by rw [hb]; exact one_tdiv) (by decide) (powS_one hl) (by omega)
theorem powPost_zero {za zb : Int} (hb : zb = 0) {e : Ending} (h : PowPost za zb e) : e = .returned (.tuple #[.agg #[.bool false, .int .u64 0, .int .u64 1000000], .nilIface]) :=
  powPost_gen (q := 0) (p := 1000000) h (by rw [hb]; exact Int.zero_tdiv _) (by decide) rfl (by omega)
theorem powPost_2_10 {za zb : Int} (ha : za = 2000000) (hb : zb = 10000000) {e : Ending} (h : PowPost za zb e) : e = .returned (.tuple #[.agg #[.bool false, .int .u64 0, .int .u64 1024000000], .nilIface]) :=
  powPost_gen (q := 10) (p := 1024000000) h (by rw [hb]; decide) (by decide) (by rw [ha]; exact (show powS 2000000 10 = some 1024000000 by decide +kernel)) (by omega)
end Go.Proofs.YtpkooogfefkcdaaDoor

/- fieldfarelaw01.awake. -/
namespace Go.Proofs.YtpkooogfefkcdaaDoor
open Go.RowKit
theorem int_k (n : Int) (s : Bool) (h l : Int) (e1 : zn (n * 1000000) = s) (e2 : zh (n * 1000000) = h) (e3 : zl (n * 1000000) = l) (h0 : -9223372036854775808 ≤ n) (h1 : n < 9223372036854775808) (w : World) :
    Calls Tryd.prog 11 #[.int .i64 n] w fun e w' => e = .returned (.agg #[.bool s, .int .u64 h, .int .u64 l]) ∧ Below w.heap.size w w' := by
  subst e1 e2 e3; exact int_any n h0 h1 w
theorem int_1 (w : World) : Calls Tryd.prog 11 #[.int .i64 1] w fun e w' => e = .returned (.agg #[.bool false, .int .u64 0, .int .u64 1000000]) ∧ Below w.heap.size w w' := int_k 1 _ _ _ (by decide) (by decide) (by decide) (by decide) (by decide) w
theorem int_2 (w : World) : Calls Tryd.prog 11 #[.int .i64 2] w fun e w' => e = .returned (.agg #[.bool false, .int .u64 0, .int .u64 2000000]) ∧ Below w.heap.size w w' := int_k 2 _ _ _ (by decide) (by decide) (by decide) (by decide) (by decide) w
theorem int_3 (w : World) : Calls Tryd.prog 11 #[.int .i64 3] w fun e w' => e = .returned (.agg #[.bool false, .int .u64 0, .int .u64 3000000]) ∧ Below w.heap.size w w' := int_k 3 _ _ _ (by decide) (by decide) (by decide) (by decide) (by decide) w
theorem int_10 (w : World) : Calls Tryd.prog 11 #[.int .i64 10] w fun e w' => e = .returned (.agg #[.bool false, .int .u64 0, .int .u64 10000000]) ∧ Below w.heap.size w w' := int_k 10 _ _ _ (by decide) (by decide) (by decide) (by decide) (by decide) w
theorem int_1024 (w : World) : Calls Tryd.prog 11 #[.int .i64 1024] w fun e w' => e = .returned (.agg #[.bool false, .int .u64 0, .int .u64 1024000000]) ∧ Below w.heap.size w w' := int_k 1024 _ _ _ (by decide) (by decide) (by decide) (by decide) (by decide) w
theorem int_m1 (w : World) : Calls Tryd.prog 11 #[.int .i64 (-1)] w fun e w' => e = .returned (.agg #[.bool true, .int .u64 0, .int .u64 1000000]) ∧ Below w.heap.size w w' := int_k (-1) _ _ _ (by decide) (by decide) (by decide) (by decide) (by decide) w
theorem int_m7 (w : World) : Calls Tryd.prog 11 #[.int .i64 (-7)] w fun e w' => e = .returned (.agg #[.bool true, .int .u64 0, .int .u64 7000000]) ∧ Below w.heap.size w w' := int_k (-7) _ _ _ (by decide) (by decide) (by decide) (by decide) (by decide) w
theorem isD_k (z : Int) (s : Bool) (h l : Int) (e1 : zn z = s) (e2 : zh z = h) (e3 : zl z = l) (hl : ((z.natAbs : Nat) : Int) < LIM) : IsD s h l z := by
  subst e1 e2 e3; exact IsD.of hl
theorem isD_1 : IsD false 0 1000000 1000000 := isD_k _ _ _ _ (by decide) (by decide) (by decide) (by decide)
theorem isD_2 : IsD false 0 2000000 2000000 := isD_k _ _ _ _ (by decide) (by decide) (by decide) (by decide)
theorem isD_3 : IsD false 0 3000000 3000000 := isD_k _ _ _ _ (by decide) (by decide) (by decide) (by decide)
theorem isD_10 : IsD false 0 10000000 10000000 := isD_k _ _ _ _ (by decide) (by decide) (by decide) (by decide)
theorem isD_1024 : IsD false 0 1024000000 1024000000 := isD_k _ _ _ _ (by decide) (by decide) (by decide) (by decide)
theorem isD_m1 : IsD true 0 1000000 (-1000000) := isD_k _ _ _ _ (by decide) (by decide) (by decide) (by decide)
theorem isD_m7 : IsD true 0 7000000 (-7000000) := isD_k _ _ _ _ (by decide) (by decide) (by decide) (by decide)
theorem isD_0 : IsD false 0 0 0 := isD_k _ _ _ _ (by decide) (by decide) (by decide) (by decide)
end Go.Proofs.YtpkooogfefkcdaaDoor

/- fieldfarelaw01.awake: the walk. Numbers' boxes. -/
namespace Go.Proofs.YtpkooogfefkcdaaDoor
open Go.RowKit
/-- A number's box. -/
structure BoxD (w : World) (g : Nat) (n : Bool) (h l : Int) : Prop where
  c0 : w.cell? ⟨g, 0, none⟩ = some (.bool n)
  c1 : w.cell? ⟨g, 1, none⟩ = some (.int .u64 h)
  c2 : w.cell? ⟨g, 2, none⟩ = some (.int .u64 l)
  z : g < w.heap.size
theorem BoxD.below {w w' : World} {g : Nat} {n : Bool} {h l : Int} (b : BoxD w g n h l) (q : Below w.heap.size w w') : BoxD w' g n h l :=
  ⟨(q.cell b.z).trans b.c0, (q.cell b.z).trans b.c1, (q.cell b.z).trans b.c2, Nat.lt_of_lt_of_le b.z q.size⟩
theorem BoxD.new (w : World) (n : Bool) (h l : Int) : BoxD (w.alloc (.cells #[.bool n, .int .u64 h, .int .u64 l] 34)) w.heap.size n h l := by
  refine ⟨?_, ?_, ?_, ?_⟩ <;> simp (maxDischargeDepth := 12) [go_sem]
theorem BoxD.make (w : World) (n : Bool) (h l : Int) {g : Nat} (hg : g = w.heap.size) : BoxD (w.alloc (.cells #[.bool n, .int .u64 h, .int .u64 l] 34)) g n h l := by
  subst hg; exact BoxD.new w n h l
theorem BoxD.alloc {w : World} {g : Nat} {n : Bool} {h l : Int} (b : BoxD w g n h l) (o : Obj) : BoxD (w.alloc o) g n h l := b.below ((Below.refl _ _).alloc (Nat.le_refl _) _)
theorem BoxD.drew {w : World} {g : Nat} {n : Bool} {h l : Int} (b : BoxD w g n h l) : BoxD w.drew g n h l := b.below (Below.refl _ _).drew
theorem BoxD.drewN {w : World} {g : Nat} {n : Bool} {h l : Int} (b : BoxD w g n h l) (k : Nat) : BoxD (w.drewN k) g n h l := b.below (below_drewN (Below.refl _ _) k)
/-- A number's box that may be written. -/
structure BoxF (w : World) (g : Nat) (n : Bool) (h l : Int) : Prop where
  c0 : w.cell? ⟨g, 0, none⟩ = some (.bool n)
  c1 : w.cell? ⟨g, 1, none⟩ = some (.int .u64 h)
  c2 : w.cell? ⟨g, 2, none⟩ = some (.int .u64 l)
  f0 : w.frozen? ⟨g, 0, none⟩ = false
  f1 : w.frozen? ⟨g, 1, none⟩ = false
  f2 : w.frozen? ⟨g, 2, none⟩ = false
  z : g < w.heap.size
theorem BoxF.below {w w' : World} {g : Nat} {n : Bool} {h l : Int} (b : BoxF w g n h l) (q : Below w.heap.size w w') : BoxF w' g n h l :=
  ⟨(q.cell b.z).trans b.c0, (q.cell b.z).trans b.c1, (q.cell b.z).trans b.c2, (q.frozen b.z).trans b.f0, (q.frozen b.z).trans b.f1, (q.frozen b.z).trans b.f2, Nat.lt_of_lt_of_le b.z q.size⟩
theorem BoxF.make (w : World) (n : Bool) (h l : Int) {g : Nat} (hg : g = w.heap.size) : BoxF (w.alloc (.cells #[.bool n, .int .u64 h, .int .u64 l] 34)) g n h l := by
  subst hg; refine ⟨?_, ?_, ?_, ?_, ?_, ?_, ?_⟩ <;> simp (maxDischargeDepth := 12) [go_sem]
theorem BoxF.drew {w : World} {g : Nat} {n : Bool} {h l : Int} (b : BoxF w g n h l) : BoxF w.drew g n h l := b.below (Below.refl _ _).drew
theorem BoxF.drewN {w : World} {g : Nat} {n : Bool} {h l : Int} (b : BoxF w g n h l) (k : Nat) : BoxF (w.drewN k) g n h l := b.below (below_drewN (Below.refl _ _) k)
theorem BoxF.box {w : World} {g : Nat} {n : Bool} {h l : Int} (b : BoxF w g n h l) : BoxD w g n h l := ⟨b.c0, b.c1, b.c2, b.z⟩
theorem BoxF.alloc {w : World} {g : Nat} {n : Bool} {h l : Int} (b : BoxF w g n h l) (o : Obj) : BoxF (w.alloc o) g n h l := b.below ((Below.refl _ _).alloc (Nat.le_refl _) _)
theorem good_b (n : Bool) (h l : Int) {b : Bool} (hg : goodB n h l = b) (w : World) :
    Calls Tryd.prog 14 #[.agg #[.bool n, .int .u64 h, .int .u64 l]] w fun e w' => e = .returned (.bool b) ∧ Below w.heap.size w w' := by
  subst hg
  refine (good_any n h l w).mono ?_
  rintro e w' ⟨rfl, rfl⟩
  exact ⟨rfl, (Below.refl _ _).alloc (Nat.le_refl _) _⟩
end Go.Proofs.YtpkooogfefkcdaaDoor
