/- Several texts put together: DecI. -/
import Derived.Test.YtkhhjibpppmekaaBu12
import Derived.Test.YtkhhjibpppmekaaBu13
/- dec.Pow. -/
namespace Go.Proofs.Ytkhhjibpppmekaa
open Go.RowKit
/-- The power, step by step: nothing where it grows too great. -/
def powS (a : Int) : Nat → Option Int
  | 0 => some 1000000
  | k + 1 => match powS a k with
    | some p => if ((mulZ p a).natAbs : Int) < LIM then some (mulZ p a) else none
    | none => none
structure PoW (w : World) (n : Bool) (ha la : Int) (m : Bool) (hb lb : Int) (wr : World) : Prop where
  a0 : wr.cell? ⟨w.heap.size, 0, none⟩ = some (.bool n)
  a1 : wr.cell? ⟨w.heap.size, 1, none⟩ = some (.int .u64 ha)
  a2 : wr.cell? ⟨w.heap.size, 2, none⟩ = some (.int .u64 la)
  b0 : wr.cell? ⟨w.heap.size + 1, 0, none⟩ = some (.bool m)
  b1 : wr.cell? ⟨w.heap.size + 1, 1, none⟩ = some (.int .u64 hb)
  b2 : wr.cell? ⟨w.heap.size + 1, 2, none⟩ = some (.int .u64 lb)
  r0 : wr.cell? ⟨w.heap.size + 1 + 1, 0, none⟩ = some (.bool false)
  r1 : wr.cell? ⟨w.heap.size + 1 + 1, 1, none⟩ = some (.int .u64 0)
  r2 : wr.cell? ⟨w.heap.size + 1 + 1, 2, none⟩ = some (.int .u64 0)
  f0 : wr.frozen? ⟨w.heap.size + 1 + 1, 0, none⟩ = false
  f1 : wr.frozen? ⟨w.heap.size + 1 + 1, 1, none⟩ = false
  f2 : wr.frozen? ⟨w.heap.size + 1 + 1, 2, none⟩ = false
  z : w.heap.size + 1 + 1 < wr.heap.size
  bel : Below w.heap.size w wr
theorem PoW.below {w : World} {n m : Bool} {ha la hb lb : Int} {wr w2 : World} (h : PoW w n ha la m hb lb wr) (q : Below wr.heap.size wr w2) : PoW w n ha la m hb lb w2 := by
  have z := h.z
  have hs := q.size
  refine ⟨?_, ?_, ?_, ?_, ?_, ?_, ?_, ?_, ?_, ?_, ?_, ?_, ?_, ?_⟩
  · exact (Below.cell q (by simp only; omega)).trans h.a0
  · exact (Below.cell q (by simp only; omega)).trans h.a1
  · exact (Below.cell q (by simp only; omega)).trans h.a2
  · exact (Below.cell q (by simp only; omega)).trans h.b0
  · exact (Below.cell q (by simp only; omega)).trans h.b1
  · exact (Below.cell q (by simp only; omega)).trans h.b2
  · exact (Below.cell q (by simp only; omega)).trans h.r0
  · exact (Below.cell q (by simp only; omega)).trans h.r1
  · exact (Below.cell q (by simp only; omega)).trans h.r2
  · exact (Below.frozen q (by simp only; omega)).trans h.f0
  · exact (Below.frozen q (by simp only; omega)).trans h.f1
  · exact (Below.frozen q (by simp only; omega)).trans h.f2
  · omega
  · exact h.bel.trans (q.mono (by omega))
structure PL (w : World) (n : Bool) (ha la : Int) (m : Bool) (hb lb : Int) (g : Nat) (p : Int) (wr : World) : Prop where
  pow : PoW w n ha la m hb lb wr
  p0 : wr.cell? ⟨g, 0, none⟩ = some (.bool (zn p))
  p1 : wr.cell? ⟨g, 1, none⟩ = some (.int .u64 (zh p))
  p2 : wr.cell? ⟨g, 2, none⟩ = some (.int .u64 (zl p))
  q0 : wr.frozen? ⟨g, 0, none⟩ = false
  q1 : wr.frozen? ⟨g, 1, none⟩ = false
  q2 : wr.frozen? ⟨g, 2, none⟩ = false
  g1 : w.heap.size + 1 + 1 < g
  g2 : g < wr.heap.size
theorem PL.below {w : World} {n m : Bool} {ha la hb lb p : Int} {g : Nat} {wr w2 : World} (h : PL w n ha la m hb lb g p wr) (q : Below wr.heap.size wr w2) : PL w n ha la m hb lb g p w2 := by
  have z := h.g2
  have hs := q.size
  refine ⟨h.pow.below q, ?_, ?_, ?_, ?_, ?_, ?_, h.g1, by omega⟩
  · exact (Below.cell q (by simp only; omega)).trans h.p0
  · exact (Below.cell q (by simp only; omega)).trans h.p1
  · exact (Below.cell q (by simp only; omega)).trans h.p2
  · exact (Below.frozen q (by simp only; omega)).trans h.q0
  · exact (Below.frozen q (by simp only; omega)).trans h.q1
  · exact (Below.frozen q (by simp only; omega)).trans h.q2
theorem PoW.setCell {w : World} {n m : Bool} {ha la hb lb : Int} {g : Nat} {wr : World} (h : PoW w n ha la m hb lb wr) (hg : w.heap.size + 1 + 1 < g) (j : Nat) (v : Value) : PoW w n ha la m hb lb (wr.setCell ⟨g, j, none⟩ v) := by
  obtain ⟨a0, a1, a2, b0, b1, b2, r0, r1, r2, f0, f1, f2, z, bel⟩ := h
  have x0 : ¬ g = w.heap.size := by omega
  have x1 : ¬ g = w.heap.size + 1 := by omega
  have x2 : ¬ g = w.heap.size + 1 + 1 := by omega
  have y0 : ¬ w.heap.size = g := by omega
  have y1 : ¬ w.heap.size + 1 = g := by omega
  have y2 : ¬ w.heap.size + 1 + 1 = g := by omega
  refine ⟨?_, ?_, ?_, ?_, ?_, ?_, ?_, ?_, ?_, ?_, ?_, ?_, ?_, ?_⟩
  all_goals first
    | (simp [go_sem, *]; done)
    | (simp; omega)
    | exact bel.setCell (by simp only; omega) _
theorem PL.next {w : World} {n m : Bool} {ha la hb lb p : Int} {g : Nat} {wr w2 : World} (h : PL w n ha la m hb lb g p wr) (b : Below wr.heap.size wr w2) (q : Int) :
    PL w n ha la m hb lb g q (((w2.setCell ⟨g, 0, none⟩ (.bool (zn q))).setCell ⟨g, 1, none⟩ (.int .u64 (zh q))).setCell ⟨g, 2, none⟩ (.int .u64 (zl q))) := by
  have h2 := h.below b
  obtain ⟨po, p0, p1, p2, q0, q1, q2, g1, g2⟩ := h2
  refine ⟨((po.setCell g1 _ _).setCell g1 _ _).setCell g1 _ _, ?_, ?_, ?_, ?_, ?_, ?_, g1, by simp; omega⟩
  all_goals simp (maxDischargeDepth := 12) [go_sem, *]
/-- What a power of whole exponent is. -/
def PowPost (za zb : Int) (e : Ending) : Prop :=
  if -1000 ≤ zb.tdiv 1000000 ∧ zb.tdiv 1000000 ≤ 1000 then
    match powS za (zb.tdiv 1000000).natAbs with
    | none => e = .returned (.tuple #[.agg #[.bool false, .int .u64 0, .int .u64 0], .iface 83 (.int .i64 2)])
    | some p =>
      if zb < 0 then
        if p = 0 then e = .returned (.tuple #[.agg #[.bool false, .int .u64 0, .int .u64 0], .iface 83 (.int .i64 3)])
        else if ((divZ 1000000 p).natAbs : Int) < LIM then e = .returned (.tuple #[.agg #[.bool (zn (divZ 1000000 p)), .int .u64 (zh (divZ 1000000 p)), .int .u64 (zl (divZ 1000000 p))], .nilIface])
        else e = .returned (.tuple #[.agg #[.bool false, .int .u64 0, .int .u64 0], .iface 83 (.int .i64 2)])
      else e = .returned (.tuple #[.agg #[.bool (zn (p)), .int .u64 (zh (p)), .int .u64 (zl (p))], .nilIface])
  else e = .returned (.tuple #[.agg #[.bool false, .int .u64 0, .int .u64 0], .iface 83 (.int .i64 2)])
theorem powS_none {a : Int} {j : Nat} (h : powS a j = none) : ∀ {k : Nat}, j ≤ k → powS a k = none
  | 0, hk => by obtain rfl : j = 0 := by omega
                exact h
  | k + 1, hk => by
    rcases Nat.lt_or_ge k j with h1 | h1
    · obtain rfl : j = k + 1 := by omega
      exact h
    · simp only [powS, powS_none h h1]
theorem ite_prop {c : Prop} [Decidable c] {X Y : Prop} (a : c → X) (b : ¬ c → Y) : if c then X else Y := by
  by_cases h : c
  · rw [if_pos h]; exact a h
  · rw [if_neg h]; exact b h
set_option maxRecDepth 100000 in
theorem powPost_of {za zb : Int} {K : Nat} {e : Ending} (hr : -1000 ≤ zb.tdiv 1000000 ∧ zb.tdiv 1000000 ≤ 1000) (hK : K = (zb.tdiv 1000000).natAbs)
    (h0 : powS za K = none → e = .returned (.tuple #[.agg #[.bool false, .int .u64 0, .int .u64 0], .iface 83 (.int .i64 2)]))
    (h1 : ∀ p, powS za K = some p → ¬ zb < 0 → e = .returned (.tuple #[.agg #[.bool (zn (p)), .int .u64 (zh (p)), .int .u64 (zl (p))], .nilIface]))
    (h2 : ∀ p, powS za K = some p → zb < 0 → p = 0 → e = .returned (.tuple #[.agg #[.bool false, .int .u64 0, .int .u64 0], .iface 83 (.int .i64 3)]))
    (h3 : ∀ p, powS za K = some p → zb < 0 → p ≠ 0 → ((divZ 1000000 p).natAbs : Int) < LIM → e = .returned (.tuple #[.agg #[.bool (zn (divZ 1000000 p)), .int .u64 (zh (divZ 1000000 p)), .int .u64 (zl (divZ 1000000 p))], .nilIface]))
    (h4 : ∀ p, powS za K = some p → zb < 0 → p ≠ 0 → ¬ ((divZ 1000000 p).natAbs : Int) < LIM → e = .returned (.tuple #[.agg #[.bool false, .int .u64 0, .int .u64 0], .iface 83 (.int .i64 2)])) : PowPost za zb e := by
  unfold PowPost
  rw [if_pos hr, ← hK]
  cases hp : powS za K with
  | none => exact h0 hp
  | some p =>
    by_cases g1 : zb < 0
    · simp only [if_pos g1]
      by_cases g2 : p = 0
      · rw [if_pos g2]; exact h2 p hp g1 g2
      · rw [if_neg g2]
        have h3' := h3 p hp g1 g2
        have h4' := h4 p hp g1 g2
        clear h0 h1 h2 h3 h4
        generalize divZ 1000000 p = d at *
        clear hr hK
        generalize LIM = L at *
        exact ite_prop h3' h4'
    · simp only [if_neg g1]; exact h1 p hp g1
set_option maxRecDepth 100000 in
set_option maxHeartbeats 2000000 in
theorem pow_core (n m : Bool) (ha la hb lb za zb : Int) (ia : IsD n ha la za) (ib : IsD m hb lb zb) (hw : truncZ zb = zb) (hA : za ≠ 0 ∨ 0 ≤ zb) (w : World) :
    Calls Try.prog 14 #[.agg #[.bool n, .int .u64 ha, .int .u64 la], .agg #[.bool m, .int .u64 hb, .int .u64 lb]] w fun e w' => PowPost za zb e ∧ Below w.heap.size w w' := by
  have ga := good_of ia
  have gb := good_of ib
  obtain ⟨e1, e2, e3⟩ := ib.eq
  have T := Lib.hid (fun W => trunc_ok m hb lb zb ib W)
  rw [hw, ← e1, ← e2, ← e3] at T
  clear e1 e2 e3
  have hcas : (ha == 0) = false ∨ (ha = 0 ∧ (la == 0) = false) ∨ (ha = 0 ∧ la = 0 ∧ n = false ∧ m = false) := by
    obtain ⟨⟨x1, x2⟩, ⟨x3, x4⟩, x5, x6, x7⟩ := id ia
    by_cases g1 : ha = 0
    · right
      by_cases g2 : la = 0
      · right
        have hz : za = 0 := by omega
        refine ⟨g1, g2, by rw [x6, hz]; decide, ?_⟩
        rw [ib.2.2.2.1, decide_eq_false_iff_not]; omega
      · left; exact ⟨g1, by rw [beq_eq_false_iff_ne]; exact g2⟩
    · left; rw [beq_eq_false_iff_ne]; exact g1
  have HCAS := Lib.hid hcas; clear hcas
  go_enter Try.func14, Try.ntmps14
  go_upto_region 1 with fail
  go_cut [23] (fun x wx => x = .bool false ∧ PoW w n ha la m hb lb wx)
  case first =>
    go_region_held3 (fun w' => w'.cell? ⟨w.heap.size, 0, none⟩ = some (.bool n) ∧ w'.cell? ⟨w.heap.size, 1, none⟩ = some (.int .u64 ha) ∧ w'.cell? ⟨w.heap.size, 2, none⟩ = some (.int .u64 la) ∧ w'.cell? ⟨w.heap.size + 1, 0, none⟩ = some (.bool m) ∧ w'.cell? ⟨w.heap.size + 1, 1, none⟩ = some (.int .u64 hb) ∧ w'.cell? ⟨w.heap.size + 1, 2, none⟩ = some (.int .u64 lb)) ((refine ⟨?_, ?_, ?_, ?_, ?_, ?_⟩ <;> (first | assumption | (go_simp; done) | (simp (maxDischargeDepth := 12) [go_sem]; done) | (simp (maxDischargeDepth := 12) [go_sem, *]; done) | exact (Below.cell (by with_reducible assumption) (by first | (simp; done) | (simp; omega) | omega)).trans (by simp (maxDischargeDepth := 12) [go_sem]))))
        (first | (go_at_call 31; refine (good_any _ _ _ _).mono ?_; rintro e w1 ⟨rfl, rfl⟩) | (go_at_call 49; refine (T.out _).mono ?_; rintro e w1 ⟨rfl, q1⟩; have hs_q1 := Below.size q1; (try simp at hs_q1); have kq1_wheapsize_0 : w1.cell? ⟨w.heap.size, 0, none⟩ = some (.bool n) := (Below.cell q1 (by first | (simp; done) | (simp; omega) | omega)).trans (by first | (simp (maxDischargeDepth := 12) [go_sem]; done) | simp (maxDischargeDepth := 12) [go_sem, *]); have gq1_wheapsize_0 : w1.frozen? ⟨w.heap.size, 0, none⟩ = false := (Below.frozen q1 (by first | (simp; done) | (simp; omega) | omega)).trans (by first | (simp (maxDischargeDepth := 12) [go_sem]; done) | simp (maxDischargeDepth := 12) [go_sem, *]); have kq1_wheapsize_1 : w1.cell? ⟨w.heap.size, 1, none⟩ = some (.int .u64 ha) := (Below.cell q1 (by first | (simp; done) | (simp; omega) | omega)).trans (by first | (simp (maxDischargeDepth := 12) [go_sem]; done) | simp (maxDischargeDepth := 12) [go_sem, *]); have gq1_wheapsize_1 : w1.frozen? ⟨w.heap.size, 1, none⟩ = false := (Below.frozen q1 (by first | (simp; done) | (simp; omega) | omega)).trans (by first | (simp (maxDischargeDepth := 12) [go_sem]; done) | simp (maxDischargeDepth := 12) [go_sem, *]); have kq1_wheapsize_2 : w1.cell? ⟨w.heap.size, 2, none⟩ = some (.int .u64 la) := (Below.cell q1 (by first | (simp; done) | (simp; omega) | omega)).trans (by first | (simp (maxDischargeDepth := 12) [go_sem]; done) | simp (maxDischargeDepth := 12) [go_sem, *]); have gq1_wheapsize_2 : w1.frozen? ⟨w.heap.size, 2, none⟩ = false := (Below.frozen q1 (by first | (simp; done) | (simp; omega) | omega)).trans (by first | (simp (maxDischargeDepth := 12) [go_sem]; done) | simp (maxDischargeDepth := 12) [go_sem, *]); have lq1_wheapsize : w.heap.size < w1.heap.size := (by first | omega | (have := Below.size q1; simp at this; omega)); have lq1_wheapsize' : w.heap.size < w1.heap.size + 1 := Nat.lt_succ_of_lt lq1_wheapsize; have lq1_wheapsize'' : w.heap.size < w1.heap.size + 1 + 1 := Nat.lt_succ_of_lt lq1_wheapsize'; have kq1_wheapsize1_0 : w1.cell? ⟨w.heap.size + 1, 0, none⟩ = some (.bool m) := (Below.cell q1 (by first | (simp; done) | (simp; omega) | omega)).trans (by first | (simp (maxDischargeDepth := 12) [go_sem]; done) | simp (maxDischargeDepth := 12) [go_sem, *]); have gq1_wheapsize1_0 : w1.frozen? ⟨w.heap.size + 1, 0, none⟩ = false := (Below.frozen q1 (by first | (simp; done) | (simp; omega) | omega)).trans (by first | (simp (maxDischargeDepth := 12) [go_sem]; done) | simp (maxDischargeDepth := 12) [go_sem, *]); have kq1_wheapsize1_1 : w1.cell? ⟨w.heap.size + 1, 1, none⟩ = some (.int .u64 hb) := (Below.cell q1 (by first | (simp; done) | (simp; omega) | omega)).trans (by first | (simp (maxDischargeDepth := 12) [go_sem]; done) | simp (maxDischargeDepth := 12) [go_sem, *]); have gq1_wheapsize1_1 : w1.frozen? ⟨w.heap.size + 1, 1, none⟩ = false := (Below.frozen q1 (by first | (simp; done) | (simp; omega) | omega)).trans (by first | (simp (maxDischargeDepth := 12) [go_sem]; done) | simp (maxDischargeDepth := 12) [go_sem, *]); have kq1_wheapsize1_2 : w1.cell? ⟨w.heap.size + 1, 2, none⟩ = some (.int .u64 lb) := (Below.cell q1 (by first | (simp; done) | (simp; omega) | omega)).trans (by first | (simp (maxDischargeDepth := 12) [go_sem]; done) | simp (maxDischargeDepth := 12) [go_sem, *]); have gq1_wheapsize1_2 : w1.frozen? ⟨w.heap.size + 1, 2, none⟩ = false := (Below.frozen q1 (by first | (simp; done) | (simp; omega) | omega)).trans (by first | (simp (maxDischargeDepth := 12) [go_sem]; done) | simp (maxDischargeDepth := 12) [go_sem, *]); have lq1_wheapsize1 : w.heap.size + 1 < w1.heap.size := (by first | omega | (have := Below.size q1; simp at this; omega)); have lq1_wheapsize1' : w.heap.size + 1 < w1.heap.size + 1 := Nat.lt_succ_of_lt lq1_wheapsize1; have lq1_wheapsize1'' : w.heap.size + 1 < w1.heap.size + 1 + 1 := Nat.lt_succ_of_lt lq1_wheapsize1'; have kq1_wheapsize11_0 : w1.cell? ⟨w.heap.size + 1 + 1, 0, none⟩ = some (.bool false) := (Below.cell q1 (by first | (simp; done) | (simp; omega) | omega)).trans (by first | (simp (maxDischargeDepth := 12) [go_sem]; done) | simp (maxDischargeDepth := 12) [go_sem, *]); have gq1_wheapsize11_0 : w1.frozen? ⟨w.heap.size + 1 + 1, 0, none⟩ = false := (Below.frozen q1 (by first | (simp; done) | (simp; omega) | omega)).trans (by first | (simp (maxDischargeDepth := 12) [go_sem]; done) | simp (maxDischargeDepth := 12) [go_sem, *]); have kq1_wheapsize11_1 : w1.cell? ⟨w.heap.size + 1 + 1, 1, none⟩ = some (.int .u64 0) := (Below.cell q1 (by first | (simp; done) | (simp; omega) | omega)).trans (by first | (simp (maxDischargeDepth := 12) [go_sem]; done) | simp (maxDischargeDepth := 12) [go_sem, *]); have gq1_wheapsize11_1 : w1.frozen? ⟨w.heap.size + 1 + 1, 1, none⟩ = false := (Below.frozen q1 (by first | (simp; done) | (simp; omega) | omega)).trans (by first | (simp (maxDischargeDepth := 12) [go_sem]; done) | simp (maxDischargeDepth := 12) [go_sem, *]); have kq1_wheapsize11_2 : w1.cell? ⟨w.heap.size + 1 + 1, 2, none⟩ = some (.int .u64 0) := (Below.cell q1 (by first | (simp; done) | (simp; omega) | omega)).trans (by first | (simp (maxDischargeDepth := 12) [go_sem]; done) | simp (maxDischargeDepth := 12) [go_sem, *]); have gq1_wheapsize11_2 : w1.frozen? ⟨w.heap.size + 1 + 1, 2, none⟩ = false := (Below.frozen q1 (by first | (simp; done) | (simp; omega) | omega)).trans (by first | (simp (maxDischargeDepth := 12) [go_sem]; done) | simp (maxDischargeDepth := 12) [go_sem, *]); have lq1_wheapsize11 : w.heap.size + 1 + 1 < w1.heap.size := (by first | omega | (have := Below.size q1; simp at this; omega)); have lq1_wheapsize11' : w.heap.size + 1 + 1 < w1.heap.size + 1 := Nat.lt_succ_of_lt lq1_wheapsize11; have lq1_wheapsize11'' : w.heap.size + 1 + 1 < w1.heap.size + 1 + 1 := Nat.lt_succ_of_lt lq1_wheapsize11'))
    go_wp2_with fail
    go_meet
    have hz : w.heap.size + 1 + 1 < w1.heap.size := by assumption
    exact ⟨rfl, by assumption, by assumption, by assumption, by assumption, by assumption, by assumption, by assumption, by assumption, by assumption, by assumption, by assumption, by assumption, hz, Below.trans (by (repeat' (first | (with_reducible exact Below.refl _ _) | (refine Below.trans ?_ (Below.mono (by with_reducible assumption) ?_)) | (with_reducible exact Below.refl _ _) | (with_reducible refine below_drewN ?_ _) | (with_reducible refine Below.drew ?_) | (with_reducible refine Below.setCell ?_ ?_ _) | (with_reducible refine Below.alloc ?_ ?_ _) | (with_reducible assumption) | (simp; done) | (simp; omega) | omega))) (Below.mono q1 (by first | (simp; done) | (simp; omega)))⟩
  case rest =>
    obtain ⟨rfl, hP⟩ := hcut
    have HP := Lib.hid hP
    have a0 := hP.a0; have a1 := hP.a1; have a2 := hP.a2; have b0 := hP.b0; have b1 := hP.b1; have b2 := hP.b2
    clear hP
    go_upto_region 3 with fail
    go_cut [32] (fun x wx => x = .bool false ∧ PoW w n ha la m hb lb wx)
    case first =>
      rcases HCAS.out with h1 | ⟨h1, h2⟩ | ⟨h1, h2, h3, h4⟩
      · cases n
        all_goals
          go_wp2_with fail
          go_meet
          exact ⟨rfl, HP.out⟩
      · have HH := Lib.hid h1
        rw [h1] at a1; clear h1
        cases n
        all_goals
          go_wp2_with fail
          go_meet
          exact ⟨rfl, HP.out⟩
      · rw [h1] at a1; rw [h2] at a2; rw [h3] at a0; rw [h4] at b0
        clear h1 h2 h3 h4
        go_wp2_with fail
        go_meet
        exact ⟨rfl, HP.out⟩
    case rest =>
    obtain ⟨rfl, hP⟩ := hcut
    clear HP a0 a1 a2 b0 b1 b2
    have HP := Lib.hid hP
    have b0 := hP.b0; have b1 := hP.b1; have b2 := hP.b2
    clear hP
    have HW := Lib.hid (fun W => whole_any m hb lb zb ib W)
    go_upto_region 6 with (go_at_call 50; refine (HW.out _).mono ?_; rintro e w2 ⟨⟨k, ok, rfl, hko⟩, q2⟩; have HK := Lib.hid hko; have HP2 := Lib.hid (HP.out.below q2); clear hko)
    by_cases hr : -1000 ≤ zb.tdiv 1000000 ∧ zb.tdiv 1000000 ≤ 1000
    · have hk2 := HK.out
      rw [if_pos (by omega)] at hk2
      obtain ⟨hk3, rfl⟩ := hk2
      have hkb : -1000 ≤ k ∧ k ≤ 1000 := by rw [hk3]; exact hr
      obtain ⟨hkb1, hkb2⟩ := hkb
      have HK3 := Lib.hid hk3
      clear HK hk3 hr
      have hP2 := HP2.out
      have r0 := hP2.r0
      clear hP2
      have HI := Lib.hid (fun W => int_any 1 (by decide) (by decide) W)
      go_upto_region 9 with (go_at_call 46; refine (HI.out _).mono ?_; rintro e w3 ⟨rfl, q3⟩; have HP3 := Lib.hid (HP2.out.below q3))

      obtain ⟨K, hmx, hK⟩ : ∃ K : Nat, max k (-k) = (K : Int) ∧ K ≤ 1000 := ⟨k.natAbs, by omega, by omega⟩
      have hKk : K = k.natAbs := by omega
      have hpp := fun e => @powPost_of za zb K e (by rw [← HK3.out]; exact ⟨hkb1, hkb2⟩) (by rw [← HK3.out]; exact hKk)
      have HPP := Lib.hid hpp
      have hm : m = decide (zb < 0) := ib.2.2.2.1
      have HMM := Lib.hid hm
      clear hKk hpp hm
      go_upto_block 0 with fail
      clear hmx
      have hz3 : w.heap.size + 1 + 1 < w3.heap.size := HP3.out.z
      have hPL : PL w n ha la m hb lb w3.heap.size 1000000 (w3.alloc (.cells #[.bool (zn 1000000), .int .u64 (zh 1000000), .int .u64 (zl 1000000)] 24)) :=
        ⟨HP3.out.below ((Below.refl _ _).alloc (Nat.le_refl _) _), by simp (maxDischargeDepth := 12) [go_sem], by simp (maxDischargeDepth := 12) [go_sem], by simp (maxDischargeDepth := 12) [go_sem], by simp (maxDischargeDepth := 12) [go_sem], by simp (maxDischargeDepth := 12) [go_sem], by simp (maxDischargeDepth := 12) [go_sem], hz3, by simp⟩
      have HPL := Lib.hid hPL; clear hPL
      generalize (w3.alloc (.cells #[.bool (zn 1000000), .int .u64 (zh 1000000), .int .u64 (zl 1000000)] 24)) = W4 at *
      obtain ⟨g, hg⟩ : ∃ g, g = w3.heap.size := ⟨_, rfl⟩
      rw [← hg] at HPL
      rw [← hg]
      clear hg hz3 HP3 q3 r0 HP2
      go_wp2_with fail
      go_loopw [57] (fun i wr => ∃ (j : Nat) (p : Int), j ≤ K ∧ i = .int .i64 (j : Int) ∧ Hid (powS za j = some p ∧ (p.natAbs : Int) < LIM) ∧ Hid (PL w n ha la m hb lb g p wr)) (fun i _ => K - (intOf i).toNat)
      case atStart => exact ⟨0, 1000000, Nat.zero_le _, rfl, ⟨rfl, by decide⟩, HPL.out⟩
      case round =>
        obtain ⟨j, p, hj, rfl, HS, HP⟩ := hrel
        have hpl := HS.out.2
        have hsj := HS.out.1
        have hPW := HP.out
        have hp0 := hPW.p0; have hp1 := hPW.p1; have hp2 := hPW.p2; have hq0 := hPW.q0; have hq1 := hPW.q1; have hq2 := hPW.q2; have hg1 := hPW.g1; have hg2 := hPW.g2
        have a0 := hPW.pow.a0; have a1 := hPW.pow.a1; have a2 := hPW.pow.a2; have r0 := hPW.pow.r0; have r1 := hPW.pow.r1; have r2 := hPW.pow.r2; have f0 := hPW.pow.f0; have f1 := hPW.pow.f1; have f2 := hPW.pow.f2
        have hwz := hPW.pow.bel.size
        have ip := IsD.of hpl
        by_cases hlt : j < K
        · by_cases hq : ((mulZ p za).natAbs : Int) < LIM
          · have HM := Lib.hid (fun W => mul_ok _ n _ _ ha la p za _ ip ia rfl hq W)
            have HN := Lib.hid (show powS za (j + 1) = some (mulZ p za) ∧ ((mulZ p za).natAbs : Int) < LIM from ⟨by simp only [powS, hsj, if_pos hq], hq⟩)
            clear hsj hpl hPW hq ip
            go_wp2_with (go_at_call 51; refine (HM.out _).mono ?_; rintro e w5 ⟨rfl, b5⟩; have HNX := Lib.hid (HP.out.next b5 (mulZ p za)); have hs_b5 := Below.size b5; (try simp at hs_b5); have kb5_g_0 : w5.cell? ⟨g, 0, none⟩ = some (.bool (zn p)) := (Below.cell b5 (by first | (simp; done) | (simp; omega) | omega)).trans (by first | (simp (maxDischargeDepth := 12) [go_sem]; done) | simp (maxDischargeDepth := 12) [go_sem, *]); have gb5_g_0 : w5.frozen? ⟨g, 0, none⟩ = false := (Below.frozen b5 (by first | (simp; done) | (simp; omega) | omega)).trans (by first | (simp (maxDischargeDepth := 12) [go_sem]; done) | simp (maxDischargeDepth := 12) [go_sem, *]); have kb5_g_1 : w5.cell? ⟨g, 1, none⟩ = some (.int .u64 (zh p)) := (Below.cell b5 (by first | (simp; done) | (simp; omega) | omega)).trans (by first | (simp (maxDischargeDepth := 12) [go_sem]; done) | simp (maxDischargeDepth := 12) [go_sem, *]); have gb5_g_1 : w5.frozen? ⟨g, 1, none⟩ = false := (Below.frozen b5 (by first | (simp; done) | (simp; omega) | omega)).trans (by first | (simp (maxDischargeDepth := 12) [go_sem]; done) | simp (maxDischargeDepth := 12) [go_sem, *]); have kb5_g_2 : w5.cell? ⟨g, 2, none⟩ = some (.int .u64 (zl p)) := (Below.cell b5 (by first | (simp; done) | (simp; omega) | omega)).trans (by first | (simp (maxDischargeDepth := 12) [go_sem]; done) | simp (maxDischargeDepth := 12) [go_sem, *]); have gb5_g_2 : w5.frozen? ⟨g, 2, none⟩ = false := (Below.frozen b5 (by first | (simp; done) | (simp; omega) | omega)).trans (by first | (simp (maxDischargeDepth := 12) [go_sem]; done) | simp (maxDischargeDepth := 12) [go_sem, *]); have lb5_g : g < w5.heap.size := (by first | omega | (have := Below.size b5; simp at this; omega)); have lb5_g' : g < w5.heap.size + 1 := Nat.lt_succ_of_lt lb5_g; have lb5_g'' : g < w5.heap.size + 1 + 1 := Nat.lt_succ_of_lt lb5_g')
            go_roundw
            case rel => exact ⟨j + 1, _, by omega, by go_num, HN.out, HNX.out⟩
            case measure => simp [intOf]; omega
          · have HM := Lib.hid (fun W => mul_over _ n _ _ ha la p za ip ia (by omega) W)
            have HNO := Lib.hid (show powS za (j + 1) = none by simp only [powS, hsj, if_neg hq])
            clear hsj hpl hPW hq ip
            go_wp2_with (go_at_call 51; refine (HM.out _).mono ?_; rintro e w5 ⟨rfl, b5⟩; have hs_b5 := Below.size b5; (try simp at hs_b5); have kb5_g_0 : w5.cell? ⟨g, 0, none⟩ = some (.bool (zn p)) := (Below.cell b5 (by first | (simp; done) | (simp; omega) | omega)).trans (by first | (simp (maxDischargeDepth := 12) [go_sem]; done) | simp (maxDischargeDepth := 12) [go_sem, *]); have gb5_g_0 : w5.frozen? ⟨g, 0, none⟩ = false := (Below.frozen b5 (by first | (simp; done) | (simp; omega) | omega)).trans (by first | (simp (maxDischargeDepth := 12) [go_sem]; done) | simp (maxDischargeDepth := 12) [go_sem, *]); have kb5_g_1 : w5.cell? ⟨g, 1, none⟩ = some (.int .u64 (zh p)) := (Below.cell b5 (by first | (simp; done) | (simp; omega) | omega)).trans (by first | (simp (maxDischargeDepth := 12) [go_sem]; done) | simp (maxDischargeDepth := 12) [go_sem, *]); have gb5_g_1 : w5.frozen? ⟨g, 1, none⟩ = false := (Below.frozen b5 (by first | (simp; done) | (simp; omega) | omega)).trans (by first | (simp (maxDischargeDepth := 12) [go_sem]; done) | simp (maxDischargeDepth := 12) [go_sem, *]); have kb5_g_2 : w5.cell? ⟨g, 2, none⟩ = some (.int .u64 (zl p)) := (Below.cell b5 (by first | (simp; done) | (simp; omega) | omega)).trans (by first | (simp (maxDischargeDepth := 12) [go_sem]; done) | simp (maxDischargeDepth := 12) [go_sem, *]); have gb5_g_2 : w5.frozen? ⟨g, 2, none⟩ = false := (Below.frozen b5 (by first | (simp; done) | (simp; omega) | omega)).trans (by first | (simp (maxDischargeDepth := 12) [go_sem]; done) | simp (maxDischargeDepth := 12) [go_sem, *]); have lb5_g : g < w5.heap.size := (by first | omega | (have := Below.size b5; simp at this; omega)); have lb5_g' : g < w5.heap.size + 1 := Nat.lt_succ_of_lt lb5_g; have lb5_g'' : g < w5.heap.size + 1 + 1 := Nat.lt_succ_of_lt lb5_g'; have kb5_wheapsize11_0 : w5.cell? ⟨w.heap.size + 1 + 1, 0, none⟩ = some (.bool false) := (Below.cell b5 (by first | (simp; done) | (simp; omega) | omega)).trans (by first | (simp (maxDischargeDepth := 12) [go_sem]; done) | simp (maxDischargeDepth := 12) [go_sem, *]); have gb5_wheapsize11_0 : w5.frozen? ⟨w.heap.size + 1 + 1, 0, none⟩ = false := (Below.frozen b5 (by first | (simp; done) | (simp; omega) | omega)).trans (by first | (simp (maxDischargeDepth := 12) [go_sem]; done) | simp (maxDischargeDepth := 12) [go_sem, *]); have kb5_wheapsize11_1 : w5.cell? ⟨w.heap.size + 1 + 1, 1, none⟩ = some (.int .u64 0) := (Below.cell b5 (by first | (simp; done) | (simp; omega) | omega)).trans (by first | (simp (maxDischargeDepth := 12) [go_sem]; done) | simp (maxDischargeDepth := 12) [go_sem, *]); have gb5_wheapsize11_1 : w5.frozen? ⟨w.heap.size + 1 + 1, 1, none⟩ = false := (Below.frozen b5 (by first | (simp; done) | (simp; omega) | omega)).trans (by first | (simp (maxDischargeDepth := 12) [go_sem]; done) | simp (maxDischargeDepth := 12) [go_sem, *]); have kb5_wheapsize11_2 : w5.cell? ⟨w.heap.size + 1 + 1, 2, none⟩ = some (.int .u64 0) := (Below.cell b5 (by first | (simp; done) | (simp; omega) | omega)).trans (by first | (simp (maxDischargeDepth := 12) [go_sem]; done) | simp (maxDischargeDepth := 12) [go_sem, *]); have gb5_wheapsize11_2 : w5.frozen? ⟨w.heap.size + 1 + 1, 2, none⟩ = false := (Below.frozen b5 (by first | (simp; done) | (simp; omega) | omega)).trans (by first | (simp (maxDischargeDepth := 12) [go_sem]; done) | simp (maxDischargeDepth := 12) [go_sem, *]); have lb5_wheapsize11 : w.heap.size + 1 + 1 < w5.heap.size := (by first | omega | (have := Below.size b5; simp at this; omega)); have lb5_wheapsize11' : w.heap.size + 1 + 1 < w5.heap.size + 1 := Nat.lt_succ_of_lt lb5_wheapsize11; have lb5_wheapsize11'' : w.heap.size + 1 + 1 < w5.heap.size + 1 + 1 := Nat.lt_succ_of_lt lb5_wheapsize11')
            (try simp only [Exit.inBlock, Exit.then]); refine bodyPost_ret (by simp [results, Try.results14, go_sem, *]; try rfl) rfl ?_
            have hno := powS_none HNO.out (k := K) (by omega)
            refine ⟨HPP.out _ (fun _ => rfl) ?_ ?_ ?_ ?_, ?_⟩
            · intro q h; rw [hno] at h; cases h
            · intro q h; rw [hno] at h; cases h
            · intro q h; rw [hno] at h; cases h
            · intro q h; rw [hno] at h; cases h
            · refine Below.trans HP.out.pow.bel ?_
              (repeat' (first | (with_reducible exact Below.refl _ _) | (refine Below.trans ?_ (Below.mono (by with_reducible assumption) ?_)) | (with_reducible exact Below.refl _ _) | (with_reducible refine below_drewN ?_ _) | (with_reducible refine Below.drew ?_) | (with_reducible refine Below.setCell ?_ ?_ _) | (with_reducible refine Below.alloc ?_ ?_ _) | (with_reducible assumption) | (simp; done) | (simp; omega) | omega))
        · obtain rfl : j = K := by omega
          have b0 := hPW.pow.b0
          have hKS := HS.out.1
          clear hlt hj hPW hsj HPL
          cases m
          · have hnb : ¬ zb < 0 := of_decide_eq_false HMM.out.symm
            have HNB := Lib.hid hnb
            have HKS := Lib.hid hKS
            clear hnb hKS hpl ip
            go_wp2_with fail
            (try simp only [Exit.inBlock, Exit.then]); refine bodyPost_ret (by simp [results, Try.results14, go_sem, *]; try rfl) rfl ?_
            refine ⟨HPP.out _ ?_ ?_ ?_ ?_ ?_, ?_⟩
            · intro h; rw [HKS.out] at h; all_goals cases h
            · intro q h _; rw [HKS.out] at h; all_goals (cases h; rfl)
            · intro q _ h; have := HNB.out; omega
            · intro q _ h; have := HNB.out; omega
            · intro q _ h; have := HNB.out; omega
            · refine Below.trans HP.out.pow.bel ?_
              (repeat' (first | (with_reducible exact Below.refl _ _) | (refine Below.trans ?_ (Below.mono (by with_reducible assumption) ?_)) | (with_reducible exact Below.refl _ _) | (with_reducible refine below_drewN ?_ _) | (with_reducible refine Below.drew ?_) | (with_reducible refine Below.setCell ?_ ?_ _) | (with_reducible refine Below.alloc ?_ ?_ _) | (with_reducible assumption) | (simp; done) | (simp; omega) | omega))
          · have hnb : zb < 0 := of_decide_eq_true HMM.out.symm
            have HNB := Lib.hid hnb
            have HKS := Lib.hid hKS
            by_cases hp00 : p = 0
            · have hdz : ∀ W, Calls Try.prog 45 #[.agg #[.bool (zn (1 * 1000000)), .int .u64 (zh (1 * 1000000)), .int .u64 (zl (1 * 1000000))], .agg #[.bool (zn (0)), .int .u64 (zh (0)), .int .u64 (zl (0))]] W fun e w' => e = .returned (.tuple #[.agg #[.bool false, .int .u64 0, .int .u64 0], .iface 83 (.int .i64 3)]) ∧ Below W.heap.size W w' := fun W => div_zero (zn (1 * 1000000)) (zh (1 * 1000000)) (zl (1 * 1000000)) (good_of (IsD.of (z := 1 * 1000000) (by decide))) W
              have HD := Lib.hid hdz
              subst hp00
              clear hnb hKS hpl ip hdz
              go_upto_region 17 with fail
              go_region_held3 (fun w' => w'.cell? ⟨g, 0, none⟩ = some (.bool (zn 0)) ∧ w'.cell? ⟨g, 1, none⟩ = some (.int .u64 (zh 0)) ∧ w'.cell? ⟨g, 2, none⟩ = some (.int .u64 (zl 0))) (refine ⟨?_, ?_, ?_⟩ <;> (first | (with_reducible assumption) | (go_simp; done)))
                (first
                | (go_at_call 46; refine (HI.out _).mono ?_; rintro e w5 ⟨rfl, b5⟩; have hs5 := b5.size; have c5 : Below wr.heap.size wr w5 := Below.trans (by repeat' (first | (with_reducible assumption) | (with_reducible exact Below.refl _ _) | (with_reducible refine Below.drew ?_) | (with_reducible refine below_drewN ?_ _))) (Below.mono b5 (by first | omega | (simp; done) | (simp; omega))); have HP5 := Lib.hid (HP.out.below c5); have v0 := HP5.out.p0; have v1 := HP5.out.p1; have v2 := HP5.out.p2)
                | (go_at_call 45; refine (HD.out _).mono ?_; rintro e w6 ⟨rfl, b6⟩; have c6 : Below w5.heap.size w5 w6 := Below.trans (by repeat' (first | (with_reducible assumption) | (with_reducible exact Below.refl _ _) | (with_reducible refine Below.drew ?_) | (with_reducible refine below_drewN ?_ _))) (Below.mono b6 (by first | omega | (simp; done) | (simp; omega))); have HP6 := Lib.hid (HP5.out.below c6); have t0 := HP6.out.p0; have t1 := HP6.out.p1; have t2 := HP6.out.p2; have z6 : w.heap.size + 1 + 1 < w6.heap.size := HP6.out.pow.z; have r0 := HP6.out.pow.r0; have r1 := HP6.out.pow.r1; have r2 := HP6.out.pow.r2; have f0 := HP6.out.pow.f0; have f1 := HP6.out.pow.f1; have f2 := HP6.out.pow.f2))
              go_wp2_with fail
              (try simp only [Exit.inBlock, Exit.then]); refine bodyPost_ret (by simp [results, Try.results14, go_sem, *]; try rfl) rfl ?_
              refine ⟨HPP.out _ ?_ ?_ ?_ ?_ ?_, ?_⟩
              · intro h; rw [HKS.out] at h; all_goals cases h
              · intro q _ h; have := HNB.out; omega
              · intro q _ _ _; rfl
              · intro q h _ h2; rw [HKS.out] at h; cases h; exact absurd rfl h2
              · intro q h _ h2; rw [HKS.out] at h; cases h; exact absurd rfl h2
              · refine Below.trans HP6.out.pow.bel ?_
                (repeat' (first | (with_reducible exact Below.refl _ _) | (refine Below.trans ?_ (Below.mono (by with_reducible assumption) ?_)) | (with_reducible exact Below.refl _ _) | (with_reducible refine below_drewN ?_ _) | (with_reducible refine Below.drew ?_) | (with_reducible refine Below.setCell ?_ ?_ _) | (with_reducible refine Below.alloc ?_ ?_ _) | (with_reducible assumption) | (simp; done) | (simp; omega) | omega))
            · by_cases hq : ((divZ 1000000 p).natAbs : Int) < LIM
              · have HD := Lib.hid (fun W => div_ok _ _ _ _ _ _ (1 * 1000000) p _ (IsD.of (z := 1 * 1000000) (by decide)) ip hp00 rfl hq W)
                have HQ := Lib.hid hq
                have HPN := Lib.hid hp00
                clear hnb hKS hpl ip hq hp00
                go_upto_region 17 with fail
                go_region_held3 (fun w' => w'.cell? ⟨g, 0, none⟩ = some (.bool (zn p)) ∧ w'.cell? ⟨g, 1, none⟩ = some (.int .u64 (zh p)) ∧ w'.cell? ⟨g, 2, none⟩ = some (.int .u64 (zl p))) (refine ⟨?_, ?_, ?_⟩ <;> (first | (with_reducible assumption) | (go_simp; done)))
                  (first
                  | (go_at_call 46; refine (HI.out _).mono ?_; rintro e w5 ⟨rfl, b5⟩; have hs5 := b5.size; have c5 : Below wr.heap.size wr w5 := Below.trans (by repeat' (first | (with_reducible assumption) | (with_reducible exact Below.refl _ _) | (with_reducible refine Below.drew ?_) | (with_reducible refine below_drewN ?_ _))) (Below.mono b5 (by first | omega | (simp; done) | (simp; omega))); have HP5 := Lib.hid (HP.out.below c5); have v0 := HP5.out.p0; have v1 := HP5.out.p1; have v2 := HP5.out.p2)
                  | (go_at_call 45; refine (HD.out _).mono ?_; rintro e w6 ⟨rfl, b6⟩; have c6 : Below w5.heap.size w5 w6 := Below.trans (by repeat' (first | (with_reducible assumption) | (with_reducible exact Below.refl _ _) | (with_reducible refine Below.drew ?_) | (with_reducible refine below_drewN ?_ _))) (Below.mono b6 (by first | omega | (simp; done) | (simp; omega))); have HP6 := Lib.hid (HP5.out.below c6); have t0 := HP6.out.p0; have t1 := HP6.out.p1; have t2 := HP6.out.p2; have z6 : w.heap.size + 1 + 1 < w6.heap.size := HP6.out.pow.z; have r0 := HP6.out.pow.r0; have r1 := HP6.out.pow.r1; have r2 := HP6.out.pow.r2; have f0 := HP6.out.pow.f0; have f1 := HP6.out.pow.f1; have f2 := HP6.out.pow.f2))
                go_wp2_with fail
                (try simp only [Exit.inBlock, Exit.then]); refine bodyPost_ret (by simp [results, Try.results14, go_sem, *]; try rfl) rfl ?_
                refine ⟨HPP.out _ ?_ ?_ ?_ ?_ ?_, ?_⟩
                · intro h; rw [HKS.out] at h; all_goals cases h
                · intro q _ h; have := HNB.out; omega
                · intro q h _ h2; rw [HKS.out] at h; cases h; exact absurd h2 HPN.out
                · intro q h _ _ _; rw [HKS.out] at h; all_goals (cases h; rfl)
                · intro q h _ _ h2; rw [HKS.out] at h; all_goals (cases h; exact absurd HQ.out (Int.not_lt.2 h2))
                · refine Below.trans HP6.out.pow.bel ?_
                  (repeat' (first | (with_reducible exact Below.refl _ _) | (refine Below.trans ?_ (Below.mono (by with_reducible assumption) ?_)) | (with_reducible exact Below.refl _ _) | (with_reducible refine below_drewN ?_ _) | (with_reducible refine Below.drew ?_) | (with_reducible refine Below.setCell ?_ ?_ _) | (with_reducible refine Below.alloc ?_ ?_ _) | (with_reducible assumption) | (simp; done) | (simp; omega) | omega))
              · have HD := Lib.hid (fun W => div_over _ _ _ _ _ _ (1 * 1000000) p (IsD.of (z := 1 * 1000000) (by decide)) ip hp00 (by simpa using hq) W)
                have HQ := Lib.hid hq
                have HPN := Lib.hid hp00
                clear hnb hKS hpl ip hq hp00
                go_upto_region 17 with fail
                go_region_held3 (fun w' => w'.cell? ⟨g, 0, none⟩ = some (.bool (zn p)) ∧ w'.cell? ⟨g, 1, none⟩ = some (.int .u64 (zh p)) ∧ w'.cell? ⟨g, 2, none⟩ = some (.int .u64 (zl p))) (refine ⟨?_, ?_, ?_⟩ <;> (first | (with_reducible assumption) | (go_simp; done)))
                  (first
                  | (go_at_call 46; refine (HI.out _).mono ?_; rintro e w5 ⟨rfl, b5⟩; have hs5 := b5.size; have c5 : Below wr.heap.size wr w5 := Below.trans (by repeat' (first | (with_reducible assumption) | (with_reducible exact Below.refl _ _) | (with_reducible refine Below.drew ?_) | (with_reducible refine below_drewN ?_ _))) (Below.mono b5 (by first | omega | (simp; done) | (simp; omega))); have HP5 := Lib.hid (HP.out.below c5); have v0 := HP5.out.p0; have v1 := HP5.out.p1; have v2 := HP5.out.p2)
                  | (go_at_call 45; refine (HD.out _).mono ?_; rintro e w6 ⟨rfl, b6⟩; have c6 : Below w5.heap.size w5 w6 := Below.trans (by repeat' (first | (with_reducible assumption) | (with_reducible exact Below.refl _ _) | (with_reducible refine Below.drew ?_) | (with_reducible refine below_drewN ?_ _))) (Below.mono b6 (by first | omega | (simp; done) | (simp; omega))); have HP6 := Lib.hid (HP5.out.below c6); have t0 := HP6.out.p0; have t1 := HP6.out.p1; have t2 := HP6.out.p2; have z6 : w.heap.size + 1 + 1 < w6.heap.size := HP6.out.pow.z; have r0 := HP6.out.pow.r0; have r1 := HP6.out.pow.r1; have r2 := HP6.out.pow.r2; have f0 := HP6.out.pow.f0; have f1 := HP6.out.pow.f1; have f2 := HP6.out.pow.f2))
                go_wp2_with fail
                (try simp only [Exit.inBlock, Exit.then]); refine bodyPost_ret (by simp [results, Try.results14, go_sem, *]; try rfl) rfl ?_
                refine ⟨HPP.out _ ?_ ?_ ?_ ?_ ?_, ?_⟩
                · intro h; rw [HKS.out] at h; all_goals cases h
                · intro q _ h; have := HNB.out; omega
                · intro q h _ h2; rw [HKS.out] at h; cases h; exact absurd h2 HPN.out
                · intro q h _ _ h2; rw [HKS.out] at h; all_goals (cases h; exact absurd h2 (Int.not_lt.2 HQ.out))
                · intro q h _ _ _; rw [HKS.out] at h; all_goals (cases h; rfl)
                · refine Below.trans HP6.out.pow.bel ?_
                  (repeat' (first | (with_reducible exact Below.refl _ _) | (refine Below.trans ?_ (Below.mono (by with_reducible assumption) ?_)) | (with_reducible exact Below.refl _ _) | (with_reducible refine below_drewN ?_ _) | (with_reducible refine Below.drew ?_) | (with_reducible refine Below.setCell ?_ ?_ _) | (with_reducible refine Below.alloc ?_ ?_ _) | (with_reducible assumption) | (simp; done) | (simp; omega) | omega))
    · have hpost : ∀ e, e = Ending.returned (.tuple #[.agg #[.bool false, .int .u64 0, .int .u64 0], .iface 83 (.int .i64 2)]) → PowPost za zb e := fun e he => by unfold PowPost; rw [if_neg hr]; exact he
      have HPO := Lib.hid hpost; clear hpost
      have hP2 := HP2.out
      have r0 := hP2.r0; have r1 := hP2.r1; have r2 := hP2.r2; have f0 := hP2.f0; have f1 := hP2.f1; have f2 := hP2.f2
      have hcase : ok = false ∨ (ok = true ∧ 1000 < k) ∨ (ok = true ∧ k < -1000) := by
        have hk2 := HK.out
        by_cases hin : -9223372036854775808 ≤ zb.tdiv 1000000 ∧ zb.tdiv 1000000 < 9223372036854775808
        · rw [if_pos hin] at hk2
          obtain ⟨h1, h2⟩ := hk2
          right
          rcases (show 1000 < k ∨ k < -1000 by omega) with h | h
          · exact .inl ⟨h2, h⟩
          · exact .inr ⟨h2, h⟩
        · rw [if_neg hin] at hk2; exact .inl hk2.2
      clear HK hr hP2
      rcases hcase with rfl | ⟨rfl, hk⟩ | ⟨rfl, hk⟩
      all_goals
        go_wp2
        (try simp only [Exit.inBlock, Exit.then]); refine bodyPost_ret (by simp [results, Try.results14, go_sem, *]; try rfl) rfl ?_
        exact ⟨HPO.out _ rfl, by refine Below.trans HP2.out.bel ?_; (repeat' (first | (with_reducible exact Below.refl _ _) | (refine Below.trans ?_ (Below.mono (by with_reducible assumption) ?_)) | (with_reducible exact Below.refl _ _) | (with_reducible refine below_drewN ?_ _) | (with_reducible refine Below.drew ?_) | (with_reducible refine Below.setCell ?_ ?_ _) | (with_reducible refine Below.alloc ?_ ?_ _) | (with_reducible assumption) | (simp; done) | (simp; omega) | omega))⟩
end Go.Proofs.Ytkhhjibpppmekaa
