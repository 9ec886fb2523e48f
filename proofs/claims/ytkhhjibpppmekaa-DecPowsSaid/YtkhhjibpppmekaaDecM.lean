/- Plain facts on numbers of two and of four words. No program. -/
import Derived.Test.YtkhhjibpppmekaaDecA
import Derived.Test.YtkhhjibpppmekaaBits
import Derived.Test.YtkhhjibpppmekaaDiv64
namespace Go.Proofs.Ytkhhjibpppmekaa
open Go.RowKit

theorem blw_iff {b a : Int} (ha : Wd a) (hb : Wd b) : blw b a 54210108624275221 12919594847110692864 = true ↔ b * 18446744073709551616 + a < LIM := by
  obtain ⟨a1, a2⟩ := ha; obtain ⟨b1, b2⟩ := hb
  unfold blw LIM
  simp only [Bool.or_eq_true, decide_eq_true_eq, Bool.and_eq_true, beq_iff_eq]
  omega
theorem blw2_iff {b a d c : Int} (ha : Wd a) (hb : Wd b) (hc : Wd c) (hd : Wd d) : blw b a d c = true ↔ b * 18446744073709551616 + a < d * 18446744073709551616 + c := by
  obtain ⟨a1, a2⟩ := ha; obtain ⟨b1, b2⟩ := hb; obtain ⟨c1, c2⟩ := hc; obtain ⟨d1, d2⟩ := hd
  unfold blw
  simp only [Bool.or_eq_true, decide_eq_true_eq, Bool.and_eq_true, beq_iff_eq]
  omega
theorem lim4_lt {a b c d : Int} (ha : Wd a) (hb : Wd b) (hc : Wd c) (hd : Wd d) (h : lim4 a b c d < LIM) : d = 0 ∧ c = 0 ∧ blw b a 54210108624275221 12919594847110692864 = true := by
  rw [blw_iff ha hb]
  obtain ⟨a1, a2⟩ := ha; obtain ⟨b1, b2⟩ := hb; obtain ⟨c1, c2⟩ := hc; obtain ⟨d1, d2⟩ := hd
  unfold lim4 LIM at *
  omega
theorem lim4_small {a b : Int} : lim4 a b 0 0 = b * 18446744073709551616 + a := by unfold lim4; omega
theorem lim4_nonneg {a b c d : Int} (ha : Wd a) (hb : Wd b) (hc : Wd c) (hd : Wd d) : 0 ≤ lim4 a b c d := by
  obtain ⟨a1, a2⟩ := ha; obtain ⟨b1, b2⟩ := hb; obtain ⟨c1, c2⟩ := hc; obtain ⟨d1, d2⟩ := hd
  unfold lim4; omega
theorem good_of {n : Bool} {h l z : Int} (i : IsD n h l z) : goodB n h l = true := by
  obtain ⟨hh, hl, e, rfl, g⟩ := i
  unfold goodB
  rw [(blw_iff hl hh).2 (by omega)]
  simp only [Bool.true_and]
  rw [Bool.not_eq_true', Bool.and_eq_false_iff, Bool.and_eq_false_iff]
  simp only [decide_eq_false_iff_not, beq_eq_false_iff_ne]
  obtain ⟨a1, a2⟩ := hh; obtain ⟨b1, b2⟩ := hl
  omega
/-- What a right number is in millionths. -/
def zof (n : Bool) (h l : Int) : Int := if n then -(h * 18446744073709551616 + l) else h * 18446744073709551616 + l
theorem of_good {n : Bool} {h l : Int} (hh : Wd h) (hl : Wd l) (g : goodB n h l = true) : IsD n h l (zof n h l) := by
  unfold goodB at g
  rw [Bool.and_eq_true, blw_iff hl hh] at g
  obtain ⟨g1, g2⟩ := g
  rw [Bool.not_eq_true', Bool.and_eq_false_iff, Bool.and_eq_false_iff] at g2
  simp only [beq_eq_false_iff_ne] at g2
  have hh' := hh; have hl' := hl
  obtain ⟨a1, a2⟩ := hh'; obtain ⟨b1, b2⟩ := hl'
  unfold zof
  cases n
  · refine ⟨hh, hl, ?_, ?_, ?_⟩ <;> simp only [Bool.false_eq_true, if_false]
    · omega
    · symm; rw [decide_eq_false_iff_not]; omega
    · omega
  · refine ⟨hh, hl, ?_, ?_, ?_⟩ <;> simp only [if_true]
    · omega
    · symm; rw [decide_eq_true_eq]; simp at g2; omega
    · omega
theorem quot_unique {N Q y r : Int} (h : N = Q * y + r) (h0 : 0 ≤ r) (h1 : r < y) : Q = N / y ∧ r = N % y := by
  have hy : y ≠ 0 := by omega
  subst h
  constructor
  · rw [Int.add_comm, Int.add_mul_ediv_right _ _ hy, Int.ediv_eq_zero_of_lt h0 h1]; omega
  · rw [Int.add_comm, Int.add_mul_emod_self_right, Int.emod_eq_of_lt h0 h1]
theorem small_eq {a b c d y : Int} (ha : Wd a) (hb : Wd b) (hc : Wd c) (hd : Wd d) (hy0 : 0 < y) :
    ∃ q0 q1 q2 q3 r : Int, q0 = dq (dr (dr (dr 0 d y) c y) b y) a y ∧ q1 = dq (dr (dr 0 d y) c y) b y ∧ q2 = dq (dr 0 d y) c y ∧ q3 = dq 0 d y ∧ r = dr (dr (dr (dr 0 d y) c y) b y) a y ∧
      Wd q0 ∧ Wd q1 ∧ Wd q2 ∧ Wd q3 ∧ lim4 q0 q1 q2 q3 = lim4 a b c d / y ∧ r = lim4 a b c d % y := by
  obtain ⟨a1, a2⟩ := ha; obtain ⟨b1, b2⟩ := hb; obtain ⟨c1, c2⟩ := hc; obtain ⟨d1, d2⟩ := hd
  obtain ⟨x1, x2⟩ := dr_range (lo := d) (Int.le_refl 0) hy0
  obtain ⟨x3, x4⟩ := dr_range (lo := c) x1 x2
  obtain ⟨x5, x6⟩ := dr_range (lo := b) x3 x4
  obtain ⟨x7, x8⟩ := dr_range (lo := a) x5 x6
  have w3 := dq_range (Int.le_refl 0) hy0 d1 d2
  have w2 := dq_range x1 x2 c1 c2
  have w1 := dq_range x3 x4 b1 b2
  have w0 := dq_range x5 x6 a1 a2
  have e3 := dqr 0 d y
  have e2 := dqr (dr 0 d y) c y
  have e1 := dqr (dr (dr 0 d y) c y) b y
  have e0 := dqr (dr (dr (dr 0 d y) c y) b y) a y
  have hu : lim4 a b c d = lim4 (dq (dr (dr (dr 0 d y) c y) b y) a y) (dq (dr (dr 0 d y) c y) b y) (dq (dr 0 d y) c y) (dq 0 d y) * y + dr (dr (dr (dr 0 d y) c y) b y) a y := by
    unfold lim4
    simp only [Int.add_mul, Int.mul_right_comm _ _ y]
    omega
  have := quot_unique hu x7 x8
  exact ⟨_, _, _, _, _, rfl, rfl, rfl, rfl, rfl, w0, w1, w2, w3, this.1, this.2⟩
end Go.Proofs.Ytkhhjibpppmekaa
