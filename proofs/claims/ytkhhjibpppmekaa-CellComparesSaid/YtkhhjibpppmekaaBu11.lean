/- Several texts put together: Divide. -/
import Derived.Test.YtkhhjibpppmekaaBu8
import Derived.Test.YtkhhjibpppmekaaBu10
import Derived.Laws.BitsAllLaws
/- dec.divide: the quotient of a number of four words by a magnitude, and what is left. -/
namespace Go.Proofs.Ytkhhjibpppmekaa
open Go.RowKit
theorem only_drewN {a w : World} {row : Option Nat} (h : a.grownBy w row) (n : Nat) : a.grownBy (w.drewN n) row := ⟨h.os, h.tape, h.output, h.size, h.block⟩
theorem only_setCell {a w : World} {g : Nat} (h : a.grownBy w (some g)) {p : Addr} (hp : p.block = g) (u : Value) : a.grownBy (w.setCell p u) (some g) :=
  ⟨h.os, h.tape, h.output, by simpa [World.setCell] using h.size, fun i hi hne => (Below.heap_setCell w p u i (by
    rintro rfl
    exact hne (by rw [hp]))).trans (h.block i hi hne)⟩
theorem only_refl (a : World) (row : Option Nat) : a.grownBy a row := ⟨rfl, rfl, rfl, Nat.le_refl _, fun _ _ _ => rfl⟩
theorem only_cell {a w : World} {g : Nat} (h : a.grownBy w (some g)) {p : Addr} (hp : p.block < a.heap.size) (hne : p.block ≠ g) : w.cell? p = a.cell? p :=
  World.cell?_of_block (h.block p.block hp (fun e => hne (by injection e)))
theorem only_frozen {a w : World} {g : Nat} (h : a.grownBy w (some g)) {p : Addr} (hp : p.block < a.heap.size) (hne : p.block ≠ g) : w.frozen? p = a.frozen? p :=
  World.frozen?_of_block (h.block p.block hp (fun e => hne (by injection e)))
theorem only_below {a w : World} {g B : Nat} (h : a.grownBy w (some g)) (hg : B ≤ g) (hB : B ≤ a.heap.size) : Below B a w :=
  ⟨h.os, h.tape, h.output, h.size, fun k hk => h.block k (by omega) (fun e => by injection e; omega)⟩
theorem or_two (a b : Nat) (ha : a * 2 < 18446744073709551616) (hb : b < 2) : bits .or .u64 ((a : Int) * 2) (b : Int) = ((a * 2 + b : Nat) : Int) := by
  have e : (a : Int) * 2 = ((a * 2 : Nat) : Int) := by simp
  rw [e, u64_or_nat _ _ ha (by omega)]
  have := Nat.two_pow_add_eq_or_of_lt (i := 1) (b := b) (by simpa using hb) a
  rw [Nat.mul_comm a 2, ← Nat.pow_one 2, ← this]
theorem shift_in (H L b : Nat) (hH : H < 54210108624275222) (hL : L < 18446744073709551616) (hb : b < 2) (x : Int) (hx : x % 2 = b) (hx0 : 0 ≤ x) (hx1 : x ≤ 18446744073709551615) :
    bits .or .u64 ((H : Int) * 2) ((L : Int) / 9223372036854775808) = (((2 * (H * 18446744073709551616 + L) + b) / 18446744073709551616 : Nat) : Int) ∧
    bits .or .u64 (IntKind.u64.wrap ((L : Int) * 2)) (bits .and .u64 x 1) = (((2 * (H * 18446744073709551616 + L) + b) % 18446744073709551616 : Nat) : Int) := by
  constructor
  · rw [show (L : Int) / 9223372036854775808 = ((L / 9223372036854775808 : Nat) : Int) by omega, or_two H _ (by omega) (by omega)]
    congr 1; omega
  · rw [and_one_u64 x hx0 hx1, hx, IntKind.wrap_u64, show (L : Int) * 2 % 18446744073709551616 = ((L % 9223372036854775808 : Nat) : Int) * 2 by omega, or_two _ b (by omega) hb]
    congr 1; omega
def DRel (W0 : World) (g N y : Nat) (hi lo at_ : Value) (wr : World) : Prop :=
  ∃ (k : Nat) (Q : Nat → Nat), k ≤ 256 ∧ at_ = .int .i64 ((k : Int) - 1) ∧ hi = .int .u64 ((N / 2 ^ k % y / 18446744073709551616 : Nat) : Int) ∧ lo = .int .u64 ((N / 2 ^ k % y % 18446744073709551616 : Nat) : Int) ∧
    (∀ i, Q i < 18446744073709551616) ∧ lim Q = N / 2 ^ k / y * 2 ^ k ∧ (∀ i, i < 4 → wr.cell? ⟨g, i, none⟩ = some (.int .u64 ((Q i : Nat) : Int)) ∧ wr.frozen? ⟨g, i, none⟩ = false) ∧ W0.grownBy wr (some g)
set_option maxRecDepth 100000 in
set_option maxHeartbeats 800000 in
theorem divide_long (n : Bool) (W : Nat → Nat) (h l : Nat) (hW : ∀ i, W i < 18446744073709551616) (h0 : 1 ≤ h) (h1 : h < 54210108624275222) (l1 : l < 18446744073709551616) (w : World) :
    Calls Try.prog 74 #[.agg #[.int .u64 (W 0 : Nat), .int .u64 (W 1 : Nat), .int .u64 (W 2 : Nat), .int .u64 (W 3 : Nat)], .agg #[.bool n, .int .u64 (h : Nat), .int .u64 (l : Nat)]] w fun e w' => ∃ Q : Nat → Nat, (∀ i, Q i < 18446744073709551616) ∧ lim Q = lim W / (h * 18446744073709551616 + l) ∧
      e = .returned (.tuple #[.agg #[.int .u64 (Q 0 : Nat), .int .u64 (Q 1 : Nat), .int .u64 (Q 2 : Nat), .int .u64 (Q 3 : Nat)], .agg #[.int .u64 ((lim W % (h * 18446744073709551616 + l) % 18446744073709551616 : Nat) : Int), .int .u64 ((lim W % (h * 18446744073709551616 + l) / 18446744073709551616 : Nat) : Int), .int .u64 0, .int .u64 0]]) ∧ Below w.heap.size w w' := by
  obtain ⟨N, hN⟩ : ∃ N, N = lim W := ⟨_, rfl⟩
  obtain ⟨y, hy⟩ : ∃ y, y = h * 18446744073709551616 + l := ⟨_, rfl⟩
  have hbit := fun k hk => bit_of hW k hk
  rw [← hN] at hbit
  rw [← hN, ← hy]
  have HB := Lib.hid hbit; clear hbit
  have HY := Lib.hid hy; clear hy
  have HN := Lib.hid hN; clear hN
  have HW := Lib.hid hW; clear hW
  have hh : ((h : Int) == 0) = false := by rw [beq_eq_false_iff_ne]; omega
  go_enter Try.func74, Try.ntmps74
  go_wp2_with fail
  go_loopw [8, 9, 10] (fun hi lo at_ wr => DRel ((((w.alloc (.cells #[.int .u64 (W 0 : Nat), .int .u64 (W 1 : Nat), .int .u64 (W 2 : Nat), .int .u64 (W 3 : Nat)] 121)).alloc (.cells #[.bool n, .int .u64 (h : Nat), .int .u64 (l : Nat)] 24)).alloc (.cells #[.int .u64 0, .int .u64 0, .int .u64 0, .int .u64 0] 121)).alloc (.cells #[.int .u64 0, .int .u64 0, .int .u64 0, .int .u64 0] 121)) (w.heap.size + 1 + 1) N y hi lo at_ wr) (fun _ _ a _ => (intOf a + 1).toNat)
  case atStart =>
    have hlt : N < 2 ^ 256 := by
      have a := HW.out 0; have b := HW.out 1; have c := HW.out 2; have d := HW.out 3
      rw [HN.out]; unfold lim; omega
    have hz : N / 2 ^ 256 = 0 := Nat.div_eq_of_lt hlt
    refine ⟨256, fun _ => 0, Nat.le_refl _, by simp, ?_, ?_, fun _ => by simp, ?_, ?_, only_refl _ _⟩
    · rw [hz]; simp
    · rw [hz]; simp
    · rw [hz]; simp [lim]
    · intro i hi
      match i, hi with
      | 0, _ => exact ⟨by simp (maxDischargeDepth := 12) [go_sem], by simp (maxDischargeDepth := 12) [go_sem]⟩
      | 1, _ => exact ⟨by simp (maxDischargeDepth := 12) [go_sem], by simp (maxDischargeDepth := 12) [go_sem]⟩
      | 2, _ => exact ⟨by simp (maxDischargeDepth := 12) [go_sem], by simp (maxDischargeDepth := 12) [go_sem]⟩
      | 3, _ => exact ⟨by simp (maxDischargeDepth := 12) [go_sem], by simp (maxDischargeDepth := 12) [go_sem]⟩
  case round =>
    obtain ⟨k, Q, hk, rfl, rfl, rfl, hQ, hlQ, hcell, hB⟩ := hrel
    have hs := hB.size; simp at hs
    have hy0 : 0 < y := by rw [HY.out]; omega
    have c1 : wr.cell? ⟨w.heap.size + 1, 1, none⟩ = some (.int .u64 (h : Nat)) := (only_cell hB (by simp) (by simp)).trans (by simp (maxDischargeDepth := 12) [go_sem])
    have c2 : wr.cell? ⟨w.heap.size + 1, 2, none⟩ = some (.int .u64 (l : Nat)) := (only_cell hB (by simp) (by simp)).trans (by simp (maxDischargeDepth := 12) [go_sem])
    by_cases hk0 : k = 0
    · subst hk0
      obtain ⟨c40, f40⟩ := hcell 0 (by decide)
      obtain ⟨c41, f41⟩ := hcell 1 (by decide)
      obtain ⟨c42, f42⟩ := hcell 2 (by decide)
      obtain ⟨c43, f43⟩ := hcell 3 (by decide)
      have c50 : wr.cell? ⟨w.heap.size + 1 + 1 + 1, 0, none⟩ = some (.int .u64 0) := (only_cell hB (by simp) (by simp)).trans (by simp (maxDischargeDepth := 12) [go_sem])
      have f50 : wr.frozen? ⟨w.heap.size + 1 + 1 + 1, 0, none⟩ = false := (only_frozen hB (by simp) (by simp)).trans (by simp (maxDischargeDepth := 12) [go_sem])
      have c51 : wr.cell? ⟨w.heap.size + 1 + 1 + 1, 1, none⟩ = some (.int .u64 0) := (only_cell hB (by simp) (by simp)).trans (by simp (maxDischargeDepth := 12) [go_sem])
      have f51 : wr.frozen? ⟨w.heap.size + 1 + 1 + 1, 1, none⟩ = false := (only_frozen hB (by simp) (by simp)).trans (by simp (maxDischargeDepth := 12) [go_sem])
      have c52 : wr.cell? ⟨w.heap.size + 1 + 1 + 1, 2, none⟩ = some (.int .u64 0) := (only_cell hB (by simp) (by simp)).trans (by simp (maxDischargeDepth := 12) [go_sem])
      have f52 : wr.frozen? ⟨w.heap.size + 1 + 1 + 1, 2, none⟩ = false := (only_frozen hB (by simp) (by simp)).trans (by simp (maxDischargeDepth := 12) [go_sem])
      have c53 : wr.cell? ⟨w.heap.size + 1 + 1 + 1, 3, none⟩ = some (.int .u64 0) := (only_cell hB (by simp) (by simp)).trans (by simp (maxDischargeDepth := 12) [go_sem])
      have f53 : wr.frozen? ⟨w.heap.size + 1 + 1 + 1, 3, none⟩ = false := (only_frozen hB (by simp) (by simp)).trans (by simp (maxDischargeDepth := 12) [go_sem])
      rw [show N / 2 ^ 0 = N by simp] at hlQ
      rw [show N / 2 ^ 0 = N by simp]
      have HB2 := Lib.hid hB
      have HQ2 := Lib.hid hQ
      have HL2 := Lib.hid hlQ
      clear hcell hQ hlQ hB
      go_wp2
      (try simp only [Exit.inBlock, Exit.then]); refine bodyPost_ret (by simp [results, Try.results74, go_sem, *]; try rfl) rfl ?_
      refine ⟨Q, HQ2.out, by rw [HL2.out]; simp, rfl, ?_⟩
      refine Below.trans (Below.trans (by (repeat' (first | (with_reducible exact Below.refl _ _) | (refine Below.trans ?_ (Below.mono (by with_reducible assumption) ?_)) | (with_reducible exact Below.refl _ _) | (with_reducible refine below_drewN ?_ _) | (with_reducible refine Below.drew ?_) | (with_reducible refine Below.setCell ?_ ?_ _) | (with_reducible refine Below.alloc ?_ ?_ _) | (with_reducible assumption) | (simp; done) | (simp; omega) | omega))) (only_below HB2.out (by omega) (by simp; omega))) ?_
      (repeat' (first | (with_reducible exact Below.refl _ _) | (refine Below.trans ?_ (Below.mono (by with_reducible assumption) ?_)) | (with_reducible exact Below.refl _ _) | (with_reducible refine below_drewN ?_ _) | (with_reducible refine Below.drew ?_) | (with_reducible refine Below.setCell ?_ ?_ _) | (with_reducible refine Below.alloc ?_ ?_ _) | (with_reducible assumption) | (simp; done) | (simp; omega) | omega))
    · obtain ⟨k, rfl⟩ : ∃ k', k = k' + 1 := ⟨k - 1, by omega⟩
      have hw : wr.cell? ⟨w.heap.size, k / 64, none⟩ = some (.int .u64 (W (k / 64) : Nat)) := by
        refine (only_cell hB (by simp; omega) (by simp; omega)).trans ?_
        have : k / 64 < 4 := by omega
        generalize k / 64 = j at *
        match j, this with
        | 0, _ => simp (maxDischargeDepth := 12) [go_sem]
        | 1, _ => simp (maxDischargeDepth := 12) [go_sem]
        | 2, _ => simp (maxDischargeDepth := 12) [go_sem]
        | 3, _ => simp (maxDischargeDepth := 12) [go_sem]
      obtain ⟨cq, fq⟩ := hcell (k / 64) (by omega)
      have HC := Lib.hid hcell
      have HQ := Lib.hid hQ
      have HL := Lib.hid hlQ
      clear hcell hQ hlQ
      have e1 : ((k + 1 : Nat) : Int) - 1 = k := by omega
      rw [e1]; clear e1
      have hR := Nat.mod_lt (N / 2 ^ (k + 1)) hy0
      obtain ⟨R, hRe⟩ : ∃ R, R = N / 2 ^ (k + 1) % y := ⟨_, rfl⟩
      rw [← hRe] at hR
      rw [← hRe]
      have HR := Lib.hid hRe; clear hRe
      obtain ⟨H, hH⟩ : ∃ H, H = R / 18446744073709551616 := ⟨_, rfl⟩
      obtain ⟨L, hL⟩ : ∃ L, L = R % 18446744073709551616 := ⟨_, rfl⟩
      have b1 : H < 54210108624275222 := by have := HY.out; omega
      have b2 : L < 18446744073709551616 := by omega
      rw [← hH, ← hL]
      have HH := Lib.hid hH; have HLo := Lib.hid hL; clear hH hL
      have HB' := Lib.hid hB; clear hB
      have bw := HW.out (k / 64)
      have bq := HQ.out (k / 64)
      clear hk0 hR
      obtain ⟨b, hb⟩ : ∃ b, b = N / 2 ^ k % 2 := ⟨_, rfl⟩
      have hb2 : b < 2 := by omega
      have hbx : ((W (k / 64) : Nat) : Int) / 2 ^ (k % 64) % 2 = (b : Nat) := by
        have := HB.out k (by omega)
        rw [hb, ← this]; simp
      have hx0 : 0 ≤ ((W (k / 64) : Nat) : Int) / 2 ^ (k % 64) := Int.ediv_nonneg (by omega) (Int.le_of_lt (Int.pow_pos (by decide)))
      have hx1 : ((W (k / 64) : Nat) : Int) / 2 ^ (k % 64) ≤ 18446744073709551615 := by
        have := Int.ediv_le_self ((2 : Int) ^ (k % 64)) (show 0 ≤ ((W (k / 64) : Nat) : Int) by omega)
        omega
      have hsh := shift_in H L b b1 b2 hb2 _ hbx hx0 hx1
      obtain ⟨T, hT⟩ : ∃ T, T = 2 * (H * 18446744073709551616 + L) + b := ⟨_, rfl⟩
      rw [← hT] at hsh
      have HSH := Lib.hid hsh; clear hsh hx0 hx1 hbx
      have HT := Lib.hid hT; clear hT
      have Hb := Lib.hid hb; clear hb
      go_upto_region 8 with fail
      go_cut [8] (fun x wx => x = .int .u64 ((T / 18446744073709551616 : Nat) : Int) ∧ wr = wx)
      case first =>
        go_wp2_with fail
        go_meet
        exact ⟨by rw [HSH.out.1], rfl⟩
      case rest =>
      obtain ⟨rfl, rfl⟩ := hcut
      go_upto_region 9 with fail
      go_cut [9] (fun x wx => x = .int .u64 ((T % 18446744073709551616 : Nat) : Int) ∧ wr = wx)
      case first =>
        go_wp2_with fail
        go_meet
        exact ⟨by rw [HSH.out.2], rfl⟩
      case rest =>
      obtain ⟨rfl, rfl⟩ := hcut
      have nq := next_quot N y k hy0 b Hb.out
      have hTR : T = 2 * (N / 2 ^ (k + 1) % y) + b := by
        rw [← HR.out, HT.out]; have := HH.out; have := HLo.out; omega
      rw [← hTR] at nq
      obtain ⟨_, n1, n2⟩ := nq
      have hRy : T < 2 * y := by
        have := Nat.mod_lt (N / 2 ^ (k + 1)) hy0; omega
      have hyy : y < 2000000000000000000000000000000000000 := by have := HY.out; omega
      obtain ⟨TH, hTH⟩ : ∃ TH, TH = T / 18446744073709551616 := ⟨_, rfl⟩
      obtain ⟨TL, hTL⟩ : ∃ TL, TL = T % 18446744073709551616 := ⟨_, rfl⟩
      have q1 : TH < 18446744073709551616 := by omega
      have q2 : TL < 18446744073709551616 := by omega
      have hbl : blw (TH : Int) (TL : Int) (h : Int) (l : Int) = true ↔ T < y := by
        rw [blw2_iff ⟨by omega, by omega⟩ ⟨by omega, by omega⟩ ⟨by omega, by omega⟩ ⟨by omega, by omega⟩, HY.out]
        omega
      rw [← hTH, ← hTL]
      by_cases hlt : T < y
      · have hbt := hbl.2 hlt
        have HN1 := Lib.hid (n1 hlt)
        have HTH := Lib.hid hTH; have HTL := Lib.hid hTL
        clear hbl n1 n2 hTR hTH hTL hRy hyy hb2 b1 b2 bw bq
        go_wp2_with (go_at_call 65; refine (below_any _ _ _ _ _).mono ?_; rintro e w1 ⟨rfl, rfl⟩)
        go_roundw
        case rel =>
          refine ⟨k, Q, by omega, by go_num, ?_, ?_, HQ.out, ?_, HC.out, HB'.out⟩
          · rw [HN1.out.1, HTH.out]
          · rw [HN1.out.1, HTL.out]
          · rw [HL.out, HN1.out.2]
        case measure => simp [intOf]
      · have hbt : blw (TH : Int) (TL : Int) (h : Int) (l : Int) = false := by
          rw [Bool.eq_false_iff]; intro e; exact hlt (hbl.1 e)
        obtain ⟨D0, hD0⟩ : ∃ D, D = (T - y) % 18446744073709551616 := ⟨_, rfl⟩
        obtain ⟨D1, hD1⟩ : ∃ D, D = (T - y) / 18446744073709551616 := ⟨_, rfl⟩
        have hbr := bor_range (TL : Int) (l : Int) 0
        have d1 := dif_words (ha := (TH : Int)) (la := (TL : Int)) (hb := (h : Int)) (lb := (l : Int)) ⟨by omega, by omega⟩ ⟨by omega, by omega⟩ ⟨by omega, by omega⟩ ⟨by omega, by omega⟩ (by have := HY.out; omega)
        obtain ⟨_, _, d3⟩ := d1
        rw [lim4_small] at d3
        have f0 : ((TL : Int) - l) % 18446744073709551616 = D0 := by have := HY.out; omega
        have f1 : ((TH : Int) - h - bor (TL : Int) l 0) % 18446744073709551616 = D1 := by have := HY.out; omega
        have s0 := fun W => sub64_0 (TL : Int) (l : Int) (by omega) (by omega) (by omega) W
        have s1 := fun W => sub64 (TH : Int) (h : Int) (bor (TL : Int) l 0) (by omega) (by omega) (by omega) hbr.1 hbr.2 W
        simp only [f0] at s0
        simp only [f1] at s1
        have HN2 := Lib.hid (n2 (by omega))
        have HD0 := Lib.hid hD0; have HD1 := Lib.hid hD1
        have hset := bit_set HQ.out k _ (by omega) HL.out
        clear hbl n1 n2 hTR hTH hTL hRy hyy hb2 b1 b2 bw hlt f0 f1 d3 hbr hD0 hD1
        go_upto_region 14 with (go_at_call 65; refine (below_any _ _ _ _ _).mono ?_; rintro e w1 ⟨rfl, rfl⟩)
        clear s0 s1
        go_region
        go_wp2
        go_roundw
        case rel =>
          refine ⟨k, upd Q (k / 64) (Q (k / 64) + 2 ^ (k % 64)), by omega, by go_num, ?_, ?_, ?_, ?_, ?_, ?_⟩
          · rw [HN2.out.1, HD1.out]
          · rw [HN2.out.1, HD0.out]
          · intro i; unfold upd; split
            · exact hset.2
            · exact HQ.out i
          · rw [upd_lim Q k (by omega), HL.out, HN2.out.2]
          · intro i hi
            have ho : bits BinOp.or IntKind.u64 ((Q (k / 64) : Nat) : Int) (IntKind.u64.wrap (2 ^ (k % 64))) = ((Q (k / 64) + 2 ^ (k % 64) : Nat) : Int) := by
              have hp : 2 ^ (k % 64) < 18446744073709551616 := by
                have := hset.2; omega
              have : IntKind.u64.wrap ((2 : Int) ^ (k % 64)) = ((2 ^ (k % 64) : Nat) : Int) := by
                rw [show (2 : Int) ^ (k % 64) = ((2 ^ (k % 64) : Nat) : Int) by simp]
                generalize 2 ^ (k % 64) = P at hp ⊢
                rw [IntKind.wrap_u64]; omega
              rw [this, u64_or_nat _ _ bq hp, hset.1]
            rw [ho]
            by_cases hij : i = k / 64
            · subst hij
              refine ⟨?_, ?_⟩
              · rw [show upd Q (k / 64) (Q (k / 64) + 2 ^ (k % 64)) (k / 64) = Q (k / 64) + 2 ^ (k % 64) by simp [upd]]
                exact World.cell?_setCell_same wr _ _ cq
              · simp [go_sem, fq]
            · obtain ⟨ci, fi⟩ := HC.out i hi
              refine ⟨?_, ?_⟩
              · rw [show upd Q (k / 64) (Q (k / 64) + 2 ^ (k % 64)) i = Q i by simp [upd, hij]]
                exact (World.cell?_setCell_other wr _ _ _ (by intro e; injection e with e1 e2 e3; exact hij e2.symm)).trans ci
              · simp [go_sem, fi]
          · exact ⟨HB'.out.os, HB'.out.tape, HB'.out.output, by have := HB'.out.size; simpa [World.setCell] using this, fun i hi hne => (Below.heap_setCell wr _ _ i (by rintro rfl; exact hne rfl)).trans (HB'.out.block i hi hne)⟩
        case measure => simp [intOf]
set_option maxRecDepth 100000 in
set_option maxHeartbeats 400000 in
theorem divide_short (n : Bool) (a b c d l : Int) (ha : Wd a) (hb : Wd b) (hc : Wd c) (hd : Wd d) (l0 : 0 < l) (l1 : l < 18446744073709551616) (w : World) :
    Calls Try.prog 74 #[.agg #[.int .u64 a, .int .u64 b, .int .u64 c, .int .u64 d], .agg #[.bool n, .int .u64 0, .int .u64 l]] w fun e w' => ∃ q0 q1 q2 q3 r : Int, e = .returned (.tuple #[.agg #[.int .u64 q0, .int .u64 q1, .int .u64 q2, .int .u64 q3], .agg #[.int .u64 r, .int .u64 0, .int .u64 0, .int .u64 0]]) ∧ Wd q0 ∧ Wd q1 ∧ Wd q2 ∧ Wd q3 ∧ lim4 q0 q1 q2 q3 = lim4 a b c d / l ∧ r = lim4 a b c d % l ∧ Below w.heap.size w w' := by
  have S := Lib.hid (small_any a b c d l ha hb hc hd l0 l1)
  go_enter Try.func74, Try.ntmps74
  go_upto_region 3 with (go_at_call 78; refine (S.out _).mono ?_; rintro e w2 ⟨q0, q1, q2, q3, s4, rfl, t0, t1, t2, t3, hs, hr, b2⟩; have HS := Lib.hid hs; have HR := Lib.hid hr; clear hs hr; obtain ⟨hc_b2, hf_b2⟩ := bcell b2; have hs_b2 := Below.size b2; (try simp at hs_b2); have kb2_wheapsize11_0 : w2.cell? ⟨w.heap.size + 1 + 1, 0, none⟩ = some (.int .u64 0) := (Below.cell b2 (by first | (simp; done) | (simp; omega) | omega)).trans (by first | (simp (maxDischargeDepth := 12) [go_sem]; done) | simp (maxDischargeDepth := 12) [go_sem, *]); have gb2_wheapsize11_0 : w2.frozen? ⟨w.heap.size + 1 + 1, 0, none⟩ = false := (Below.frozen b2 (by first | (simp; done) | (simp; omega) | omega)).trans (by first | (simp (maxDischargeDepth := 12) [go_sem]; done) | simp (maxDischargeDepth := 12) [go_sem, *]); have kb2_wheapsize11_1 : w2.cell? ⟨w.heap.size + 1 + 1, 1, none⟩ = some (.int .u64 0) := (Below.cell b2 (by first | (simp; done) | (simp; omega) | omega)).trans (by first | (simp (maxDischargeDepth := 12) [go_sem]; done) | simp (maxDischargeDepth := 12) [go_sem, *]); have gb2_wheapsize11_1 : w2.frozen? ⟨w.heap.size + 1 + 1, 1, none⟩ = false := (Below.frozen b2 (by first | (simp; done) | (simp; omega) | omega)).trans (by first | (simp (maxDischargeDepth := 12) [go_sem]; done) | simp (maxDischargeDepth := 12) [go_sem, *]); have kb2_wheapsize11_2 : w2.cell? ⟨w.heap.size + 1 + 1, 2, none⟩ = some (.int .u64 0) := (Below.cell b2 (by first | (simp; done) | (simp; omega) | omega)).trans (by first | (simp (maxDischargeDepth := 12) [go_sem]; done) | simp (maxDischargeDepth := 12) [go_sem, *]); have gb2_wheapsize11_2 : w2.frozen? ⟨w.heap.size + 1 + 1, 2, none⟩ = false := (Below.frozen b2 (by first | (simp; done) | (simp; omega) | omega)).trans (by first | (simp (maxDischargeDepth := 12) [go_sem]; done) | simp (maxDischargeDepth := 12) [go_sem, *]); have kb2_wheapsize11_3 : w2.cell? ⟨w.heap.size + 1 + 1, 3, none⟩ = some (.int .u64 0) := (Below.cell b2 (by first | (simp; done) | (simp; omega) | omega)).trans (by first | (simp (maxDischargeDepth := 12) [go_sem]; done) | simp (maxDischargeDepth := 12) [go_sem, *]); have gb2_wheapsize11_3 : w2.frozen? ⟨w.heap.size + 1 + 1, 3, none⟩ = false := (Below.frozen b2 (by first | (simp; done) | (simp; omega) | omega)).trans (by first | (simp (maxDischargeDepth := 12) [go_sem]; done) | simp (maxDischargeDepth := 12) [go_sem, *]); have lb2_wheapsize11 : w.heap.size + 1 + 1 < w2.heap.size := (by first | omega | (have := Below.size b2; simp at this; omega)); have lb2_wheapsize11' : w.heap.size + 1 + 1 < w2.heap.size + 1 := Nat.lt_succ_of_lt lb2_wheapsize11; have lb2_wheapsize11'' : w.heap.size + 1 + 1 < w2.heap.size + 1 + 1 := Nat.lt_succ_of_lt lb2_wheapsize11'; have kb2_wheapsize111_0 : w2.cell? ⟨w.heap.size + 1 + 1 + 1, 0, none⟩ = some (.int .u64 0) := (Below.cell b2 (by first | (simp; done) | (simp; omega) | omega)).trans (by first | (simp (maxDischargeDepth := 12) [go_sem]; done) | simp (maxDischargeDepth := 12) [go_sem, *]); have gb2_wheapsize111_0 : w2.frozen? ⟨w.heap.size + 1 + 1 + 1, 0, none⟩ = false := (Below.frozen b2 (by first | (simp; done) | (simp; omega) | omega)).trans (by first | (simp (maxDischargeDepth := 12) [go_sem]; done) | simp (maxDischargeDepth := 12) [go_sem, *]); have kb2_wheapsize111_1 : w2.cell? ⟨w.heap.size + 1 + 1 + 1, 1, none⟩ = some (.int .u64 0) := (Below.cell b2 (by first | (simp; done) | (simp; omega) | omega)).trans (by first | (simp (maxDischargeDepth := 12) [go_sem]; done) | simp (maxDischargeDepth := 12) [go_sem, *]); have gb2_wheapsize111_1 : w2.frozen? ⟨w.heap.size + 1 + 1 + 1, 1, none⟩ = false := (Below.frozen b2 (by first | (simp; done) | (simp; omega) | omega)).trans (by first | (simp (maxDischargeDepth := 12) [go_sem]; done) | simp (maxDischargeDepth := 12) [go_sem, *]); have kb2_wheapsize111_2 : w2.cell? ⟨w.heap.size + 1 + 1 + 1, 2, none⟩ = some (.int .u64 0) := (Below.cell b2 (by first | (simp; done) | (simp; omega) | omega)).trans (by first | (simp (maxDischargeDepth := 12) [go_sem]; done) | simp (maxDischargeDepth := 12) [go_sem, *]); have gb2_wheapsize111_2 : w2.frozen? ⟨w.heap.size + 1 + 1 + 1, 2, none⟩ = false := (Below.frozen b2 (by first | (simp; done) | (simp; omega) | omega)).trans (by first | (simp (maxDischargeDepth := 12) [go_sem]; done) | simp (maxDischargeDepth := 12) [go_sem, *]); have kb2_wheapsize111_3 : w2.cell? ⟨w.heap.size + 1 + 1 + 1, 3, none⟩ = some (.int .u64 0) := (Below.cell b2 (by first | (simp; done) | (simp; omega) | omega)).trans (by first | (simp (maxDischargeDepth := 12) [go_sem]; done) | simp (maxDischargeDepth := 12) [go_sem, *]); have gb2_wheapsize111_3 : w2.frozen? ⟨w.heap.size + 1 + 1 + 1, 3, none⟩ = false := (Below.frozen b2 (by first | (simp; done) | (simp; omega) | omega)).trans (by first | (simp (maxDischargeDepth := 12) [go_sem]; done) | simp (maxDischargeDepth := 12) [go_sem, *]); have lb2_wheapsize111 : w.heap.size + 1 + 1 + 1 < w2.heap.size := (by first | omega | (have := Below.size b2; simp at this; omega)); have lb2_wheapsize111' : w.heap.size + 1 + 1 + 1 < w2.heap.size + 1 := Nat.lt_succ_of_lt lb2_wheapsize111; have lb2_wheapsize111'' : w.heap.size + 1 + 1 + 1 < w2.heap.size + 1 + 1 := Nat.lt_succ_of_lt lb2_wheapsize111')
  obtain ⟨w3, hw3⟩ : ∃ w3, w3 = w2.alloc (.cells #[.int .u64 q0, .int .u64 q1, .int .u64 q2, .int .u64 q3] 121) := ⟨_, rfl⟩
  rw [← hw3]
  have b3 : Below w2.heap.size w2 w3 := by rw [hw3]; (repeat' (first | (with_reducible exact Below.refl _ _) | (refine Below.trans ?_ (Below.mono (by with_reducible assumption) ?_)) | (with_reducible exact Below.refl _ _) | (with_reducible refine below_drewN ?_ _) | (with_reducible refine Below.drew ?_) | (with_reducible refine Below.setCell ?_ ?_ _) | (with_reducible refine Below.alloc ?_ ?_ _) | (with_reducible assumption) | (simp; done) | (simp; omega) | omega))
  have x0 : w3.cell? ⟨w2.heap.size, 0, none⟩ = some (.int .u64 q0) := by rw [hw3]; simp [go_sem]
  have x1 : w3.cell? ⟨w2.heap.size, 1, none⟩ = some (.int .u64 q1) := by rw [hw3]; simp [go_sem]
  have x2 : w3.cell? ⟨w2.heap.size, 2, none⟩ = some (.int .u64 q2) := by rw [hw3]; simp [go_sem]
  have x3 : w3.cell? ⟨w2.heap.size, 3, none⟩ = some (.int .u64 q3) := by rw [hw3]; simp [go_sem]
  have hs3 := b3.size
  have kb3_wheapsize11_0 : w3.cell? ⟨w.heap.size + 1 + 1, 0, none⟩ = some (.int .u64 0) := (Below.cell b3 (by first | (simp; done) | (simp; omega) | omega)).trans (by first | (simp (maxDischargeDepth := 12) [go_sem]; done) | simp (maxDischargeDepth := 12) [go_sem, *]); have gb3_wheapsize11_0 : w3.frozen? ⟨w.heap.size + 1 + 1, 0, none⟩ = false := (Below.frozen b3 (by first | (simp; done) | (simp; omega) | omega)).trans (by first | (simp (maxDischargeDepth := 12) [go_sem]; done) | simp (maxDischargeDepth := 12) [go_sem, *]); have kb3_wheapsize11_1 : w3.cell? ⟨w.heap.size + 1 + 1, 1, none⟩ = some (.int .u64 0) := (Below.cell b3 (by first | (simp; done) | (simp; omega) | omega)).trans (by first | (simp (maxDischargeDepth := 12) [go_sem]; done) | simp (maxDischargeDepth := 12) [go_sem, *]); have gb3_wheapsize11_1 : w3.frozen? ⟨w.heap.size + 1 + 1, 1, none⟩ = false := (Below.frozen b3 (by first | (simp; done) | (simp; omega) | omega)).trans (by first | (simp (maxDischargeDepth := 12) [go_sem]; done) | simp (maxDischargeDepth := 12) [go_sem, *]); have kb3_wheapsize11_2 : w3.cell? ⟨w.heap.size + 1 + 1, 2, none⟩ = some (.int .u64 0) := (Below.cell b3 (by first | (simp; done) | (simp; omega) | omega)).trans (by first | (simp (maxDischargeDepth := 12) [go_sem]; done) | simp (maxDischargeDepth := 12) [go_sem, *]); have gb3_wheapsize11_2 : w3.frozen? ⟨w.heap.size + 1 + 1, 2, none⟩ = false := (Below.frozen b3 (by first | (simp; done) | (simp; omega) | omega)).trans (by first | (simp (maxDischargeDepth := 12) [go_sem]; done) | simp (maxDischargeDepth := 12) [go_sem, *]); have kb3_wheapsize11_3 : w3.cell? ⟨w.heap.size + 1 + 1, 3, none⟩ = some (.int .u64 0) := (Below.cell b3 (by first | (simp; done) | (simp; omega) | omega)).trans (by first | (simp (maxDischargeDepth := 12) [go_sem]; done) | simp (maxDischargeDepth := 12) [go_sem, *]); have gb3_wheapsize11_3 : w3.frozen? ⟨w.heap.size + 1 + 1, 3, none⟩ = false := (Below.frozen b3 (by first | (simp; done) | (simp; omega) | omega)).trans (by first | (simp (maxDischargeDepth := 12) [go_sem]; done) | simp (maxDischargeDepth := 12) [go_sem, *]); have lb3_wheapsize11 : w.heap.size + 1 + 1 < w3.heap.size := (by first | omega | (have := Below.size b3; simp at this; omega)); have lb3_wheapsize11' : w.heap.size + 1 + 1 < w3.heap.size + 1 := Nat.lt_succ_of_lt lb3_wheapsize11; have lb3_wheapsize11'' : w.heap.size + 1 + 1 < w3.heap.size + 1 + 1 := Nat.lt_succ_of_lt lb3_wheapsize11'
  have kb3_wheapsize111_0 : w3.cell? ⟨w.heap.size + 1 + 1 + 1, 0, none⟩ = some (.int .u64 0) := (Below.cell b3 (by first | (simp; done) | (simp; omega) | omega)).trans (by first | (simp (maxDischargeDepth := 12) [go_sem]; done) | simp (maxDischargeDepth := 12) [go_sem, *]); have gb3_wheapsize111_0 : w3.frozen? ⟨w.heap.size + 1 + 1 + 1, 0, none⟩ = false := (Below.frozen b3 (by first | (simp; done) | (simp; omega) | omega)).trans (by first | (simp (maxDischargeDepth := 12) [go_sem]; done) | simp (maxDischargeDepth := 12) [go_sem, *]); have kb3_wheapsize111_1 : w3.cell? ⟨w.heap.size + 1 + 1 + 1, 1, none⟩ = some (.int .u64 0) := (Below.cell b3 (by first | (simp; done) | (simp; omega) | omega)).trans (by first | (simp (maxDischargeDepth := 12) [go_sem]; done) | simp (maxDischargeDepth := 12) [go_sem, *]); have gb3_wheapsize111_1 : w3.frozen? ⟨w.heap.size + 1 + 1 + 1, 1, none⟩ = false := (Below.frozen b3 (by first | (simp; done) | (simp; omega) | omega)).trans (by first | (simp (maxDischargeDepth := 12) [go_sem]; done) | simp (maxDischargeDepth := 12) [go_sem, *]); have kb3_wheapsize111_2 : w3.cell? ⟨w.heap.size + 1 + 1 + 1, 2, none⟩ = some (.int .u64 0) := (Below.cell b3 (by first | (simp; done) | (simp; omega) | omega)).trans (by first | (simp (maxDischargeDepth := 12) [go_sem]; done) | simp (maxDischargeDepth := 12) [go_sem, *]); have gb3_wheapsize111_2 : w3.frozen? ⟨w.heap.size + 1 + 1 + 1, 2, none⟩ = false := (Below.frozen b3 (by first | (simp; done) | (simp; omega) | omega)).trans (by first | (simp (maxDischargeDepth := 12) [go_sem]; done) | simp (maxDischargeDepth := 12) [go_sem, *]); have kb3_wheapsize111_3 : w3.cell? ⟨w.heap.size + 1 + 1 + 1, 3, none⟩ = some (.int .u64 0) := (Below.cell b3 (by first | (simp; done) | (simp; omega) | omega)).trans (by first | (simp (maxDischargeDepth := 12) [go_sem]; done) | simp (maxDischargeDepth := 12) [go_sem, *]); have gb3_wheapsize111_3 : w3.frozen? ⟨w.heap.size + 1 + 1 + 1, 3, none⟩ = false := (Below.frozen b3 (by first | (simp; done) | (simp; omega) | omega)).trans (by first | (simp (maxDischargeDepth := 12) [go_sem]; done) | simp (maxDischargeDepth := 12) [go_sem, *]); have lb3_wheapsize111 : w.heap.size + 1 + 1 + 1 < w3.heap.size := (by first | omega | (have := Below.size b3; simp at this; omega)); have lb3_wheapsize111' : w.heap.size + 1 + 1 + 1 < w3.heap.size + 1 := Nat.lt_succ_of_lt lb3_wheapsize111; have lb3_wheapsize111'' : w.heap.size + 1 + 1 + 1 < w3.heap.size + 1 + 1 := Nat.lt_succ_of_lt lb3_wheapsize111'
  have b4 : Below w.heap.size w w3 := by refine Below.trans (by (repeat' (first | (with_reducible exact Below.refl _ _) | (refine Below.trans ?_ (Below.mono (by with_reducible assumption) ?_)) | (with_reducible exact Below.refl _ _) | (with_reducible refine below_drewN ?_ _) | (with_reducible refine Below.drew ?_) | (with_reducible refine Below.setCell ?_ ?_ _) | (with_reducible refine Below.alloc ?_ ?_ _) | (with_reducible assumption) | (simp; done) | (simp; omega) | omega))) (b3.mono (by omega))
  have B4 := Lib.hid b4
  clear hw3 b3 b4 S ha hb hc hd l0 l1 hc_b2 hf_b2 b2
  go_wp2
  (try simp only [Exit.inBlock, Exit.then]); refine bodyPost_ret (by simp [results, Try.results74, go_sem, *]; try rfl) rfl ?_
  exact ⟨q0, q1, q2, q3, s4, rfl, t0, t1, t2, t3, HS.out, HR.out, by refine Below.trans B4.out ?_; (repeat' (first | (with_reducible exact Below.refl _ _) | (refine Below.trans ?_ (Below.mono (by with_reducible assumption) ?_)) | (with_reducible exact Below.refl _ _) | (with_reducible refine below_drewN ?_ _) | (with_reducible refine Below.drew ?_) | (with_reducible refine Below.setCell ?_ ?_ _) | (with_reducible refine Below.alloc ?_ ?_ _) | (with_reducible assumption) | (simp; done) | (simp; omega) | omega))⟩
theorem divide_any (n : Bool) (a b c d h l : Int) (ha : Wd a) (hb : Wd b) (hc : Wd c) (hd : Wd d) (h0 : 0 ≤ h) (wl : Wd l) (hy0 : 0 < h * 18446744073709551616 + l) (hy1 : h * 18446744073709551616 + l < LIM) (w : World) :
    Calls Try.prog 74 #[.agg #[.int .u64 a, .int .u64 b, .int .u64 c, .int .u64 d], .agg #[.bool n, .int .u64 h, .int .u64 l]] w fun e w' => ∃ q0 q1 q2 q3 r1 r0 : Int, e = .returned (.tuple #[.agg #[.int .u64 q0, .int .u64 q1, .int .u64 q2, .int .u64 q3], .agg #[.int .u64 r0, .int .u64 r1, .int .u64 0, .int .u64 0]]) ∧ Wd q0 ∧ Wd q1 ∧ Wd q2 ∧ Wd q3 ∧ Wd r0 ∧ Wd r1 ∧ lim4 q0 q1 q2 q3 = lim4 a b c d / (h * 18446744073709551616 + l) ∧ r1 * 18446744073709551616 + r0 = lim4 a b c d % (h * 18446744073709551616 + l) ∧ Below w.heap.size w w' := by
  by_cases hh : h = 0
  · subst hh
    have e1 : 0 * 18446744073709551616 + l = l := by omega
    rw [e1] at hy0 hy1 ⊢
    refine (divide_short n a b c d l ha hb hc hd hy0 wl.2 w).mono ?_
    rintro e w' ⟨q0, q1, q2, q3, r, he, t0, t1, t2, t3, hq, hr, hw⟩
    have r0 : 0 ≤ r := by rw [hr]; exact Int.emod_nonneg _ (by omega)
    have r1 : r < l := by rw [hr]; exact Int.emod_lt_of_pos _ hy0
    have := wl.2
    exact ⟨q0, q1, q2, q3, 0, r, he, t0, t1, t2, t3, ⟨r0, by omega⟩, Wd.zero, hq, by omega, hw⟩
  · obtain ⟨a, rfl⟩ := Int.eq_ofNat_of_zero_le ha.1
    obtain ⟨b, rfl⟩ := Int.eq_ofNat_of_zero_le hb.1
    obtain ⟨c, rfl⟩ := Int.eq_ofNat_of_zero_le hc.1
    obtain ⟨d, rfl⟩ := Int.eq_ofNat_of_zero_le hd.1
    obtain ⟨h, rfl⟩ := Int.eq_ofNat_of_zero_le h0
    obtain ⟨l, rfl⟩ := Int.eq_ofNat_of_zero_le wl.1
    have ha2 := ha.2; have hb2 := hb.2; have hc2 := hc.2; have hd2 := hd.2; have wl2 := wl.2
    unfold LIM at hy1
    have hN : lim4 (a : Int) b c d = ((lim (fun i => if i = 0 then a else if i = 1 then b else if i = 2 then c else if i = 3 then d else 0) : Nat) : Int) := by
      unfold lim lim4; simp
    have hL := divide_long n (fun i => if i = 0 then a else if i = 1 then b else if i = 2 then c else if i = 3 then d else 0) h l (fun i => by split; omega; split; omega; split; omega; split; omega; omega) (by omega) (by omega) (by omega) w
    refine hL.mono ?_
    rintro e w' ⟨Q, hQ, hl, he, hw⟩
    rw [hN]
    generalize lim (fun i => if i = 0 then a else if i = 1 then b else if i = 2 then c else if i = 3 then d else 0) = N at *
    have z0 := hQ 0; have z1 := hQ 1; have z2 := hQ 2; have z3 := hQ 3
    have hr := Nat.mod_lt N (show 0 < h * 18446744073709551616 + l by omega)
    refine ⟨(Q 0 : Nat), (Q 1 : Nat), (Q 2 : Nat), (Q 3 : Nat), _, _, he, ⟨by omega, by omega⟩, ⟨by omega, by omega⟩, ⟨by omega, by omega⟩, ⟨by omega, by omega⟩, ⟨by omega, by omega⟩, ⟨by omega, by omega⟩, ?_, ?_, hw⟩
    · have e1 : lim4 (Q 0 : Int) (Q 1 : Nat) (Q 2 : Nat) (Q 3 : Nat) = ((lim Q : Nat) : Int) := by unfold lim lim4; omega
      rw [e1, hl]; simp
    · generalize hR : N % (h * 18446744073709551616 + l) = R at *
      have : ((N : Nat) : Int) % ((h : Int) * 18446744073709551616 + (l : Int)) = (R : Nat) := by rw [← hR]; simp
      rw [this]; omega
end Go.Proofs.Ytkhhjibpppmekaa
