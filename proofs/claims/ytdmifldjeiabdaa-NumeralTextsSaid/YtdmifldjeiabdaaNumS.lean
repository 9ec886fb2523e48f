/- fieldfarelaw02.NumeralTexts: the walk. -/
import Derived.Test.YtdmifldjeiabdaaRefH
import Derived.Test.YtdmifldjeiabdaaNumR
import Derived.Test.YtdmifldjeiabdaaByc
namespace Go.Proofs.Ytdmifldjeiabdaa
open Go.RowKit
theorem rest_ok (b : Nat) (h : digB b = false) (h2 : b ≠ 46) : NoDig [b, 49] ∧ ([b, 49] : List Nat).head? ≠ some 46 := by
  constructor
  · intro x hx; simp at hx; subst hx; exact h
  · simpa using h2
/-- Memory behind the number's box: it is as it came in. -/
structure NmW (w : World) (n : Bool) (x y : Nat) (wr : World) : Prop where
  a0 : wr.cell? ⟨w.heap.size, 0, none⟩ = some (.bool n)
  a1 : wr.cell? ⟨w.heap.size, 1, none⟩ = some (.int .u64 (x : Int))
  a2 : wr.cell? ⟨w.heap.size, 2, none⟩ = some (.int .u64 (y : Int))
  z : w.heap.size < wr.heap.size
  bel : Below w.heap.size w wr
theorem NmW.below {w : World} {n : Bool} {x y : Nat} {wr w2 : World} (h : NmW w n x y wr) (q : Below wr.heap.size wr w2) : NmW w n x y w2 := by
  have z := h.z
  have hs := q.size
  exact ⟨(q.cell z).trans h.a0, (q.cell z).trans h.a1, (q.cell z).trans h.a2, by omega, h.bel.trans (q.mono (by omega))⟩
set_option maxRecDepth 100000 in
set_option maxHeartbeats 1600000 in
theorem texts_bad (n : Bool) (x y : Nat) (b : Nat) (w : World) (wx : x < 18446744073709551616) (wy : y < 18446744073709551616) (hg : goodB n (x : Int) (y : Int) = false) :
    Calls Try.prog 3 #[.agg #[.bool n, .int .u64 (x : Int), .int .u64 (y : Int)], .int .u8 (b : Int)] w fun e w' => e = .returned (.bool true) ∧ Below w.heap.size w w' := by
  have TB := Lib.hid (fun W => text_bad n (x : Int) (y : Int) hg W)
  have RB := Lib.hid (fun W => rtext_bad n x y W wx wy hg)
  have gd := fun W => good_any n (x : Int) (y : Int) W
  rw [hg] at gd
  have GD := Lib.hid gd
  have he : strN [] = { data := #[] } := rfl
  rw [he] at TB RB
  clear gd hg wx wy he
  go_enter Try.func3, Try.ntmps3
  go_wp2_with (first
    | (go_at_call 18; refine (awake2_any _).mono ?_; rintro e w1 ⟨rfl, b1⟩; have hs_b1 := Below.size b1; (try simp at hs_b1); have kb1_wheapsize_0 : w1.cell? ⟨w.heap.size, 0, none⟩ = some (.bool n) := (Below.cell b1 (by first | (simp; done) | (simp; omega) | omega)).trans (by first | (simp (maxDischargeDepth := 12) [go_sem]; done) | simp (maxDischargeDepth := 12) [go_sem, *]); have gb1_wheapsize_0 : w1.frozen? ⟨w.heap.size, 0, none⟩ = false := (Below.frozen b1 (by first | (simp; done) | (simp; omega) | omega)).trans (by first | (simp (maxDischargeDepth := 12) [go_sem]; done) | simp (maxDischargeDepth := 12) [go_sem, *]); have kb1_wheapsize_1 : w1.cell? ⟨w.heap.size, 1, none⟩ = some (.int .u64 (x : Int)) := (Below.cell b1 (by first | (simp; done) | (simp; omega) | omega)).trans (by first | (simp (maxDischargeDepth := 12) [go_sem]; done) | simp (maxDischargeDepth := 12) [go_sem, *]); have gb1_wheapsize_1 : w1.frozen? ⟨w.heap.size, 1, none⟩ = false := (Below.frozen b1 (by first | (simp; done) | (simp; omega) | omega)).trans (by first | (simp (maxDischargeDepth := 12) [go_sem]; done) | simp (maxDischargeDepth := 12) [go_sem, *]); have kb1_wheapsize_2 : w1.cell? ⟨w.heap.size, 2, none⟩ = some (.int .u64 (y : Int)) := (Below.cell b1 (by first | (simp; done) | (simp; omega) | omega)).trans (by first | (simp (maxDischargeDepth := 12) [go_sem]; done) | simp (maxDischargeDepth := 12) [go_sem, *]); have gb1_wheapsize_2 : w1.frozen? ⟨w.heap.size, 2, none⟩ = false := (Below.frozen b1 (by first | (simp; done) | (simp; omega) | omega)).trans (by first | (simp (maxDischargeDepth := 12) [go_sem]; done) | simp (maxDischargeDepth := 12) [go_sem, *]); have lb1_wheapsize : w.heap.size < w1.heap.size := (by first | omega | (have := Below.size b1; simp at this; omega)); have lb1_wheapsize' : w.heap.size < w1.heap.size + 1 := Nat.lt_succ_of_lt lb1_wheapsize; have lb1_wheapsize'' : w.heap.size < w1.heap.size + 1 + 1 := Nat.lt_succ_of_lt lb1_wheapsize')
    | (go_at_call 19; refine (TB.out _).mono ?_; rintro e w2 ⟨rfl, b2⟩; have hs_b2 := Below.size b2; (try simp at hs_b2); have kb2_wheapsize_0 : w2.cell? ⟨w.heap.size, 0, none⟩ = some (.bool n) := (Below.cell b2 (by first | (simp; done) | (simp; omega) | omega)).trans (by first | (simp (maxDischargeDepth := 12) [go_sem]; done) | simp (maxDischargeDepth := 12) [go_sem, *]); have gb2_wheapsize_0 : w2.frozen? ⟨w.heap.size, 0, none⟩ = false := (Below.frozen b2 (by first | (simp; done) | (simp; omega) | omega)).trans (by first | (simp (maxDischargeDepth := 12) [go_sem]; done) | simp (maxDischargeDepth := 12) [go_sem, *]); have kb2_wheapsize_1 : w2.cell? ⟨w.heap.size, 1, none⟩ = some (.int .u64 (x : Int)) := (Below.cell b2 (by first | (simp; done) | (simp; omega) | omega)).trans (by first | (simp (maxDischargeDepth := 12) [go_sem]; done) | simp (maxDischargeDepth := 12) [go_sem, *]); have gb2_wheapsize_1 : w2.frozen? ⟨w.heap.size, 1, none⟩ = false := (Below.frozen b2 (by first | (simp; done) | (simp; omega) | omega)).trans (by first | (simp (maxDischargeDepth := 12) [go_sem]; done) | simp (maxDischargeDepth := 12) [go_sem, *]); have kb2_wheapsize_2 : w2.cell? ⟨w.heap.size, 2, none⟩ = some (.int .u64 (y : Int)) := (Below.cell b2 (by first | (simp; done) | (simp; omega) | omega)).trans (by first | (simp (maxDischargeDepth := 12) [go_sem]; done) | simp (maxDischargeDepth := 12) [go_sem, *]); have gb2_wheapsize_2 : w2.frozen? ⟨w.heap.size, 2, none⟩ = false := (Below.frozen b2 (by first | (simp; done) | (simp; omega) | omega)).trans (by first | (simp (maxDischargeDepth := 12) [go_sem]; done) | simp (maxDischargeDepth := 12) [go_sem, *]); have lb2_wheapsize : w.heap.size < w2.heap.size := (by first | omega | (have := Below.size b2; simp at this; omega)); have lb2_wheapsize' : w.heap.size < w2.heap.size + 1 := Nat.lt_succ_of_lt lb2_wheapsize; have lb2_wheapsize'' : w.heap.size < w2.heap.size + 1 + 1 := Nat.lt_succ_of_lt lb2_wheapsize')
    | (go_at_call 20; refine (RB.out _).mono ?_; rintro e w3 ⟨rfl, b3⟩; have hs_b3 := Below.size b3; (try simp at hs_b3); have kb3_wheapsize_0 : w3.cell? ⟨w.heap.size, 0, none⟩ = some (.bool n) := (Below.cell b3 (by first | (simp; done) | (simp; omega) | omega)).trans (by first | (simp (maxDischargeDepth := 12) [go_sem]; done) | simp (maxDischargeDepth := 12) [go_sem, *]); have gb3_wheapsize_0 : w3.frozen? ⟨w.heap.size, 0, none⟩ = false := (Below.frozen b3 (by first | (simp; done) | (simp; omega) | omega)).trans (by first | (simp (maxDischargeDepth := 12) [go_sem]; done) | simp (maxDischargeDepth := 12) [go_sem, *]); have kb3_wheapsize_1 : w3.cell? ⟨w.heap.size, 1, none⟩ = some (.int .u64 (x : Int)) := (Below.cell b3 (by first | (simp; done) | (simp; omega) | omega)).trans (by first | (simp (maxDischargeDepth := 12) [go_sem]; done) | simp (maxDischargeDepth := 12) [go_sem, *]); have gb3_wheapsize_1 : w3.frozen? ⟨w.heap.size, 1, none⟩ = false := (Below.frozen b3 (by first | (simp; done) | (simp; omega) | omega)).trans (by first | (simp (maxDischargeDepth := 12) [go_sem]; done) | simp (maxDischargeDepth := 12) [go_sem, *]); have kb3_wheapsize_2 : w3.cell? ⟨w.heap.size, 2, none⟩ = some (.int .u64 (y : Int)) := (Below.cell b3 (by first | (simp; done) | (simp; omega) | omega)).trans (by first | (simp (maxDischargeDepth := 12) [go_sem]; done) | simp (maxDischargeDepth := 12) [go_sem, *]); have gb3_wheapsize_2 : w3.frozen? ⟨w.heap.size, 2, none⟩ = false := (Below.frozen b3 (by first | (simp; done) | (simp; omega) | omega)).trans (by first | (simp (maxDischargeDepth := 12) [go_sem]; done) | simp (maxDischargeDepth := 12) [go_sem, *]); have lb3_wheapsize : w.heap.size < w3.heap.size := (by first | omega | (have := Below.size b3; simp at this; omega)); have lb3_wheapsize' : w.heap.size < w3.heap.size + 1 := Nat.lt_succ_of_lt lb3_wheapsize; have lb3_wheapsize'' : w.heap.size < w3.heap.size + 1 + 1 := Nat.lt_succ_of_lt lb3_wheapsize')
    | (go_at_call 21; refine (GD.out _).mono ?_; rintro e w4 ⟨rfl, rfl⟩))
  go_ret
  exact ⟨rfl, by (repeat' (first | (with_reducible exact Below.refl _ _) | (refine Below.trans ?_ (Below.mono (by with_reducible assumption) ?_)) | (with_reducible exact Below.refl _ _) | (with_reducible refine below_drewN ?_ _) | (with_reducible refine Below.drew ?_) | (with_reducible refine Below.setCell ?_ ?_ _) | (with_reducible refine Below.alloc ?_ ?_ _) | (with_reducible assumption) | (simp; done) | (simp; omega) | omega))⟩
set_option maxRecDepth 100000 in
set_option maxHeartbeats 1600000 in
theorem texts_ok (n : Bool) (x y : Nat) (b : Nat) (z : Int) (w : World) (wx : x < 18446744073709551616) (wy : y < 18446744073709551616) (ia : IsD n (x : Int) (y : Int) z) (hb : b < 256) :
    Calls Try.prog 3 #[.agg #[.bool n, .int .u64 (x : Int), .int .u64 (y : Int)], .int .u8 (b : Int)] w fun e w' => e = .returned (.bool true) ∧ Below w.heap.size w w' := by
  have TX := Lib.hid (fun W => text_ok n (x : Int) (y : Int) z ia W)
  have RT := Lib.hid (fun W => rtext_ok n x y z W wx wy ia)
  have gd := fun W => good_any n (x : Int) (y : Int) W
  rw [good_of ia] at gd
  have GD := Lib.hid gd
  have IA := Lib.hid ia
  obtain ⟨L, hL⟩ : ∃ L, L = textL z := ⟨_, rfl⟩
  have hLb := textL_bytes z
  have hLl := textL_len z
  have hlim := ia.2.2.2.2
  have hr0 := text_read z [] (by intro x hx; simp at hx) (by simp) hlim
  have hr1 := fun h h2 => text_read z [b, 49] (rest_ok b h h2).1 (rest_ok b h h2).2 hlim
  have hlk := text_parse z [] (by intro x hx; simp at hx) (by simp)
  rw [← hL] at hLb hLl hr0 hr1 TX RT hlk
  rw [List.append_nil] at hr0 hlk
  have hlook : looksB L = true := hlk.looks (digs_pos 30 _ _)
  obtain ⟨S, hS⟩ : ∃ S, S = strN L := ⟨_, rfl⟩
  have hSl : S.size = L.length := by rw [hS]; exact strN_size L
  rw [← hS] at TX RT
  have hpf : ∀ (W : World) (A : Option Addr) (c B : Nat) (R : List Nat), B ≤ W.heap.size → RB W B A R → R.length ≤ c → R.length ≤ 140737488351232 → pz R = z → nI3 R = L.length → (strip (wholeL R)).length ≤ 30 → 0 < nW R + nB R →
      Calls Try.prog 22 #[.slice A R.length c] W fun e w' => e = .returned (.tuple #[.agg #[.bool n, .int .u64 (x : Int), .int .u64 (y : Int)], .int .i64 (L.length : Int), .nilIface]) ∧ Below W.heap.size W w' := by
    intro W A c B R h1 h2 h3 h4 r1 r2 r3 r4
    refine (prefix_any A c R W B h1 h2 h3 h4).mono fun e w' ⟨h, hb⟩ => ⟨?_, hb⟩
    obtain ⟨i1, i2, i3⟩ := IA.out.eq
    rcases h with ⟨h, _⟩ | ⟨_, h, _⟩ | ⟨_, _, h⟩
    · omega
    · omega
    · rw [h, r1, r2, ← i1, ← i2, ← i3]
  have HPF := Lib.hid hpf; have HLB := Lib.hid hLb; have HR0 := Lib.hid hr0; have HR1 := Lib.hid hr1; have HLK := Lib.hid hlook; have HS := Lib.hid hS
  clear gd ia hL hLb hlim hr0 hr1 hlk hlook hS hpf wx wy IA
  go_enter Try.func3, Try.ntmps3
  go_upto_region 8 with (first
    | (go_at_call 18; refine (awake2_any _).mono ?_; rintro e w1 ⟨rfl, b1⟩; have hs_b1 := Below.size b1; (try simp at hs_b1); have kb1_wheapsize_0 : w1.cell? ⟨w.heap.size, 0, none⟩ = some (.bool n) := (Below.cell b1 (by first | (simp; done) | (simp; omega) | omega)).trans (by first | (simp (maxDischargeDepth := 12) [go_sem]; done) | simp (maxDischargeDepth := 12) [go_sem, *]); have gb1_wheapsize_0 : w1.frozen? ⟨w.heap.size, 0, none⟩ = false := (Below.frozen b1 (by first | (simp; done) | (simp; omega) | omega)).trans (by first | (simp (maxDischargeDepth := 12) [go_sem]; done) | simp (maxDischargeDepth := 12) [go_sem, *]); have kb1_wheapsize_1 : w1.cell? ⟨w.heap.size, 1, none⟩ = some (.int .u64 (x : Int)) := (Below.cell b1 (by first | (simp; done) | (simp; omega) | omega)).trans (by first | (simp (maxDischargeDepth := 12) [go_sem]; done) | simp (maxDischargeDepth := 12) [go_sem, *]); have gb1_wheapsize_1 : w1.frozen? ⟨w.heap.size, 1, none⟩ = false := (Below.frozen b1 (by first | (simp; done) | (simp; omega) | omega)).trans (by first | (simp (maxDischargeDepth := 12) [go_sem]; done) | simp (maxDischargeDepth := 12) [go_sem, *]); have kb1_wheapsize_2 : w1.cell? ⟨w.heap.size, 2, none⟩ = some (.int .u64 (y : Int)) := (Below.cell b1 (by first | (simp; done) | (simp; omega) | omega)).trans (by first | (simp (maxDischargeDepth := 12) [go_sem]; done) | simp (maxDischargeDepth := 12) [go_sem, *]); have gb1_wheapsize_2 : w1.frozen? ⟨w.heap.size, 2, none⟩ = false := (Below.frozen b1 (by first | (simp; done) | (simp; omega) | omega)).trans (by first | (simp (maxDischargeDepth := 12) [go_sem]; done) | simp (maxDischargeDepth := 12) [go_sem, *]); have lb1_wheapsize : w.heap.size < w1.heap.size := (by first | omega | (have := Below.size b1; simp at this; omega)); have lb1_wheapsize' : w.heap.size < w1.heap.size + 1 := Nat.lt_succ_of_lt lb1_wheapsize; have lb1_wheapsize'' : w.heap.size < w1.heap.size + 1 + 1 := Nat.lt_succ_of_lt lb1_wheapsize')
    | (go_at_call 19; refine (TX.out _).mono ?_; rintro e w2 ⟨rfl, b2⟩; have hs_b2 := Below.size b2; (try simp at hs_b2); have kb2_wheapsize_0 : w2.cell? ⟨w.heap.size, 0, none⟩ = some (.bool n) := (Below.cell b2 (by first | (simp; done) | (simp; omega) | omega)).trans (by first | (simp (maxDischargeDepth := 12) [go_sem]; done) | simp (maxDischargeDepth := 12) [go_sem, *]); have gb2_wheapsize_0 : w2.frozen? ⟨w.heap.size, 0, none⟩ = false := (Below.frozen b2 (by first | (simp; done) | (simp; omega) | omega)).trans (by first | (simp (maxDischargeDepth := 12) [go_sem]; done) | simp (maxDischargeDepth := 12) [go_sem, *]); have kb2_wheapsize_1 : w2.cell? ⟨w.heap.size, 1, none⟩ = some (.int .u64 (x : Int)) := (Below.cell b2 (by first | (simp; done) | (simp; omega) | omega)).trans (by first | (simp (maxDischargeDepth := 12) [go_sem]; done) | simp (maxDischargeDepth := 12) [go_sem, *]); have gb2_wheapsize_1 : w2.frozen? ⟨w.heap.size, 1, none⟩ = false := (Below.frozen b2 (by first | (simp; done) | (simp; omega) | omega)).trans (by first | (simp (maxDischargeDepth := 12) [go_sem]; done) | simp (maxDischargeDepth := 12) [go_sem, *]); have kb2_wheapsize_2 : w2.cell? ⟨w.heap.size, 2, none⟩ = some (.int .u64 (y : Int)) := (Below.cell b2 (by first | (simp; done) | (simp; omega) | omega)).trans (by first | (simp (maxDischargeDepth := 12) [go_sem]; done) | simp (maxDischargeDepth := 12) [go_sem, *]); have gb2_wheapsize_2 : w2.frozen? ⟨w.heap.size, 2, none⟩ = false := (Below.frozen b2 (by first | (simp; done) | (simp; omega) | omega)).trans (by first | (simp (maxDischargeDepth := 12) [go_sem]; done) | simp (maxDischargeDepth := 12) [go_sem, *]); have lb2_wheapsize : w.heap.size < w2.heap.size := (by first | omega | (have := Below.size b2; simp at this; omega)); have lb2_wheapsize' : w.heap.size < w2.heap.size + 1 := Nat.lt_succ_of_lt lb2_wheapsize; have lb2_wheapsize'' : w.heap.size < w2.heap.size + 1 + 1 := Nat.lt_succ_of_lt lb2_wheapsize')
    | (go_at_call 20; refine (RT.out _).mono ?_; rintro e w3 ⟨rfl, b3⟩; have hs_b3 := Below.size b3; (try simp at hs_b3); have kb3_wheapsize_0 : w3.cell? ⟨w.heap.size, 0, none⟩ = some (.bool n) := (Below.cell b3 (by first | (simp; done) | (simp; omega) | omega)).trans (by first | (simp (maxDischargeDepth := 12) [go_sem]; done) | simp (maxDischargeDepth := 12) [go_sem, *]); have gb3_wheapsize_0 : w3.frozen? ⟨w.heap.size, 0, none⟩ = false := (Below.frozen b3 (by first | (simp; done) | (simp; omega) | omega)).trans (by first | (simp (maxDischargeDepth := 12) [go_sem]; done) | simp (maxDischargeDepth := 12) [go_sem, *]); have kb3_wheapsize_1 : w3.cell? ⟨w.heap.size, 1, none⟩ = some (.int .u64 (x : Int)) := (Below.cell b3 (by first | (simp; done) | (simp; omega) | omega)).trans (by first | (simp (maxDischargeDepth := 12) [go_sem]; done) | simp (maxDischargeDepth := 12) [go_sem, *]); have gb3_wheapsize_1 : w3.frozen? ⟨w.heap.size, 1, none⟩ = false := (Below.frozen b3 (by first | (simp; done) | (simp; omega) | omega)).trans (by first | (simp (maxDischargeDepth := 12) [go_sem]; done) | simp (maxDischargeDepth := 12) [go_sem, *]); have kb3_wheapsize_2 : w3.cell? ⟨w.heap.size, 2, none⟩ = some (.int .u64 (y : Int)) := (Below.cell b3 (by first | (simp; done) | (simp; omega) | omega)).trans (by first | (simp (maxDischargeDepth := 12) [go_sem]; done) | simp (maxDischargeDepth := 12) [go_sem, *]); have gb3_wheapsize_2 : w3.frozen? ⟨w.heap.size, 2, none⟩ = false := (Below.frozen b3 (by first | (simp; done) | (simp; omega) | omega)).trans (by first | (simp (maxDischargeDepth := 12) [go_sem]; done) | simp (maxDischargeDepth := 12) [go_sem, *]); have lb3_wheapsize : w.heap.size < w3.heap.size := (by first | omega | (have := Below.size b3; simp at this; omega)); have lb3_wheapsize' : w.heap.size < w3.heap.size + 1 := Nat.lt_succ_of_lt lb3_wheapsize; have lb3_wheapsize'' : w.heap.size < w3.heap.size + 1 + 1 := Nat.lt_succ_of_lt lb3_wheapsize')
    | (go_at_call 21; refine (GD.out _).mono ?_; rintro e w4 ⟨rfl, rfl⟩))
  have hnm : NmW w n x y (w3.alloc (.cells #[.bool n, .int .u64 (x : Int), .int .u64 (y : Int)] 24)) := by
    have hq : Below w3.heap.size w3 (w3.alloc (.cells #[.bool n, .int .u64 (x : Int), .int .u64 (y : Int)] 24)) := by (repeat' (first | (with_reducible exact Below.refl _ _) | (refine Below.trans ?_ (Below.mono (by with_reducible assumption) ?_)) | (with_reducible exact Below.refl _ _) | (with_reducible refine below_drewN ?_ _) | (with_reducible refine Below.drew ?_) | (with_reducible refine Below.setCell ?_ ?_ _) | (with_reducible refine Below.alloc ?_ ?_ _) | (with_reducible assumption) | (simp; done) | (simp; omega) | omega))
    exact NmW.below ⟨by assumption, by assumption, by assumption, by assumption, by (repeat' (first | (with_reducible exact Below.refl _ _) | (refine Below.trans ?_ (Below.mono (by with_reducible assumption) ?_)) | (with_reducible exact Below.refl _ _) | (with_reducible refine below_drewN ?_ _) | (with_reducible refine Below.drew ?_) | (with_reducible refine Below.setCell ?_ ?_ _) | (with_reducible refine Below.alloc ?_ ?_ _) | (with_reducible assumption) | (simp; done) | (simp; omega) | omega))⟩ hq
  have HNM := Lib.hid hnm
  obtain ⟨W, hW⟩ : ∃ W, W = w3.alloc (.cells #[.bool n, .int .u64 (x : Int), .int .u64 (y : Int)] 24) := ⟨_, rfl⟩
  rw [← hW] at HNM
  rw [← hW]
  obtain ⟨c1, C1, f1, hrun, hsb⟩ := conv_run2 W L HLB.out
  rw [← HS.out] at hrun
  have hq1 : Below W.heap.size W ((W.alloc (.cells C1 5 f1)).drew) := by (repeat' (first | (with_reducible exact Below.refl _ _) | (refine Below.trans ?_ (Below.mono (by with_reducible assumption) ?_)) | (with_reducible exact Below.refl _ _) | (with_reducible refine below_drewN ?_ _) | (with_reducible refine Below.drew ?_) | (with_reducible refine Below.setCell ?_ ?_ _) | (with_reducible refine Below.alloc ?_ ?_ _) | (with_reducible assumption) | (simp; done) | (simp; omega) | omega))
  have P1 := Lib.hid (HPF.out _ _ c1 (W.heap.size + 1) L (by simp) hsb.rb hsb.le (by omega) HR0.out.1 HR0.out.2.1 HR0.out.2.2.1 HR0.out.2.2.2)
  have HQ1 := Lib.hid hq1
  clear hW hnm b1 b2 b3 kb1_wheapsize_0 kb1_wheapsize_1 kb1_wheapsize_2 gb1_wheapsize_0 gb1_wheapsize_1 gb1_wheapsize_2 kb2_wheapsize_0 kb2_wheapsize_1 kb2_wheapsize_2 gb2_wheapsize_0 gb2_wheapsize_1 gb2_wheapsize_2 kb3_wheapsize_0 kb3_wheapsize_1 kb3_wheapsize_2 gb3_wheapsize_0 gb3_wheapsize_1 gb3_wheapsize_2 TX RT GD hsb hq1
  go_upto_region 9 with (go_at_call 22; refine (P1.out).mono ?_; rintro e w5 ⟨rfl, b5⟩; have HN5 := Lib.hid ((HNM.out.below HQ1.out).below b5); clear b5)
  clear hrun
  have hn6 := HN5.out.below (w2 := w5.alloc (.cells #[.bool n, .int .u64 (x : Int), .int .u64 (y : Int)] 24)) (by (repeat' (first | (with_reducible exact Below.refl _ _) | (refine Below.trans ?_ (Below.mono (by with_reducible assumption) ?_)) | (with_reducible exact Below.refl _ _) | (with_reducible refine below_drewN ?_ _) | (with_reducible refine Below.drew ?_) | (with_reducible refine Below.setCell ?_ ?_ _) | (with_reducible refine Below.alloc ?_ ?_ _) | (with_reducible assumption) | (simp; done) | (simp; omega) | omega)))
  obtain ⟨W6, hW6⟩ : ∃ W6, W6 = w5.alloc (.cells #[.bool n, .int .u64 (x : Int), .int .u64 (y : Int)] 24) := ⟨_, rfl⟩
  have h60 : W6.cell? ⟨w5.heap.size, 0, none⟩ = some (.bool n) := by rw [hW6]; simp
  have h61 : W6.cell? ⟨w5.heap.size, 1, none⟩ = some (.int .u64 (x : Int)) := by rw [hW6]; simp
  have h62 : W6.cell? ⟨w5.heap.size, 2, none⟩ = some (.int .u64 (y : Int)) := by rw [hW6]; simp
  rw [← hW6] at hn6
  rw [← hW6]
  have a0 := hn6.a0; have a1 := hn6.a1; have a2 := hn6.a2
  have HN6 := Lib.hid hn6
  obtain ⟨c2, C2, f2, hrun, hsb⟩ := conv_run2 W6 L HLB.out
  rw [← HS.out] at hrun
  have hq2 : Below W6.heap.size W6 ((W6.alloc (.cells C2 5 f2)).drew) := by (repeat' (first | (with_reducible exact Below.refl _ _) | (refine Below.trans ?_ (Below.mono (by with_reducible assumption) ?_)) | (with_reducible exact Below.refl _ _) | (with_reducible refine below_drewN ?_ _) | (with_reducible refine Below.drew ?_) | (with_reducible refine Below.setCell ?_ ?_ _) | (with_reducible refine Below.alloc ?_ ?_ _) | (with_reducible assumption) | (simp; done) | (simp; omega) | omega))
  have lk := looks_any _ c2 L _ (W6.heap.size + 1) (by simp) hsb.rb hsb.le (by omega)
  rw [HLK.out] at lk
  have LK := Lib.hid lk
  have HQ2 := Lib.hid hq2
  clear hW6 hn6 hsb hq2 lk HN5 HQ1 P1 HNM
  go_upto_region 11 with (go_at_call 23; refine (LK.out).mono ?_; rintro e w7 ⟨rfl, b7⟩; have HN7 := Lib.hid ((HN6.out.below HQ2.out).below b7); clear b7)
  clear hrun LK HQ2 HLK HN6 h60 h61 h62 a0 a1 a2 HR0
  by_cases hd : digB b = true ∨ b = 46
  · have hcas : (48 ≤ b ∧ b ≤ 57) ∨ b = 46 := by
      rcases hd with h | h
      · left; unfold digB at h; rw [Bool.and_eq_true, decide_eq_true_eq, decide_eq_true_eq] at h; exact h
      · exact .inr h
    rcases hcas with ⟨h1, h2⟩ | h
    · go_wp2
      go_ret
      exact ⟨rfl, HN7.out.bel⟩
    · subst h
      go_wp2
      go_ret
      exact ⟨rfl, HN7.out.bel⟩
  · have hdf : digB b = false := by
      cases h : digB b
      · rfl
      · exact absurd (.inl h) hd
    have h46 : b ≠ 46 := fun h => hd (.inr h)
    have hr1 := HR1.out hdf h46
    have hcas : b < 48 ∨ 57 < b := by
      unfold digB at hdf
      rw [Bool.and_eq_false_iff, decide_eq_false_iff_not, decide_eq_false_iff_not] at hdf
      omega
    have h46b : ((b : Int) == 46) = false := by rw [beq_eq_false_iff_ne]; omega
    obtain ⟨c3, C3, f3, hrun, hsb⟩ := conv_run2 w7 L HLB.out
    rw [← HS.out] at hrun
    have hbb : ∀ y ∈ ([b, 49] : List Nat), y < 256 := by intro y hy; simp at hy; omega
    have e2 : (L ++ [b, 49]).length = L.length + 2 := by simp
    have P2 := fun W A c B h1 h2 h3 => HPF.out W A c B (L ++ [b, 49]) h1 h2 h3 (by rw [e2]; omega) hr1.1 hr1.2.1 hr1.2.2.1 hr1.2.2.2
    rw [e2] at P2
    have P2 := Lib.hid P2
    have HSB := Lib.hid hsb; have HBB := Lib.hid hbb
    have a0 := HN7.out.a0; have a1 := HN7.out.a1; have a2 := HN7.out.a2
    have hbel := HN7.out.bel
    have z7 := HN7.out.z
    have HBEL := Lib.hid hbel
    have hb9 : Below w7.heap.size w7 (((w7.alloc (.cells C3 5 f3)).alloc (.cells (nums [b, 49]) 5)).drew) := by (repeat' (first | (with_reducible exact Below.refl _ _) | (refine Below.trans ?_ (Below.mono (by with_reducible assumption) ?_)) | (with_reducible exact Below.refl _ _) | (with_reducible refine below_drewN ?_ _) | (with_reducible refine Below.drew ?_) | (with_reducible refine Below.setCell ?_ ?_ _) | (with_reducible refine Below.alloc ?_ ?_ _) | (with_reducible assumption) | (simp; done) | (simp; omega) | omega))
    have hs9 : SB (((w7.alloc (.cells C3 5 f3)).alloc (.cells (nums [b, 49]) 5)).drew) w7.heap.size c3 L := by
      have h0 := (Below.refl (w7.alloc (.cells C3 5 f3)).heap.size (w7.alloc (.cells C3 5 f3))).alloc (Nat.le_refl _) (.cells (nums [b, 49]) 5)
      exact SB.below hsb ⟨h0.os, h0.tape, h0.output, h0.size, h0.block⟩
    have hr9 : RB (((w7.alloc (.cells C3 5 f3)).alloc (.cells (nums [b, 49]) 5)).drew) (w7.heap.size + 2) (some ⟨w7.heap.size + 1, 0, none⟩) [b, 49] := by
      have h := rb_row (w7.alloc (.cells C3 5 f3)) [b, 49] hbb 5 (0, 0)
      rw [World.size_alloc] at h
      exact h.below (Below.refl _ _).drew
    have HB9 := Lib.hid hb9; have HS9 := Lib.hid hs9; have HR9 := Lib.hid hr9
    clear hd hdf h46 hr1 hsb hbb e2 hbel HPF HR1 HLB hb hb9 hs9 hr9
    rcases hcas with hc | hc
    all_goals
      go_upto_region 14 with (first
        | (at_builtin; refine wpList_appC rfl (.tmp 63) (.tmp 65) rfl w7.heap.size w7.heap.size c3 L [b, 49] w7 (Nat.le_refl _) rfl HS9.out HB9.out ⟨w7.heap.size + 1, 0, none⟩ 2 2 (w7.heap.size + 2) rfl rfl HR9.out (by simp; omega) ?_; intro A8 d8 w8 hd8 hrb8 hb8; have HR8 := Lib.hid hrb8; have HB8 := Lib.hid hb8; have hs8 := hb8.size; clear hrb8 hb8)
        | (go_at_call 22; refine (P2.out w8 A8 d8 w8.heap.size (Nat.le_refl _) HR8.out hd8).mono ?_; rintro e w9 ⟨rfl, b9⟩; have HN9 := Lib.hid ((HN7.out.below HB8.out).below b9); clear b9))
      clear hrun P2 a0 a1 a2
      have a0 := HN9.out.a0; have a1 := HN9.out.a1; have a2 := HN9.out.a2; have z9 := HN9.out.z
      go_wp2
      go_ret
      exact ⟨by simp, HN9.out.bel.trans (by (repeat' (first | (with_reducible exact Below.refl _ _) | (refine Below.trans ?_ (Below.mono (by with_reducible assumption) ?_)) | (with_reducible exact Below.refl _ _) | (with_reducible refine below_drewN ?_ _) | (with_reducible refine Below.drew ?_) | (with_reducible refine Below.setCell ?_ ?_ _) | (with_reducible refine Below.alloc ?_ ?_ _) | (with_reducible assumption) | (simp; done) | (simp; omega) | omega)))⟩
theorem texts_law (n : Bool) (x y b : Int) (w : World) (wx : Wd x) (wy : Wd y) (hb : 0 ≤ b ∧ b < 256) :
    Calls Try.prog 3 #[.agg #[.bool n, .int .u64 x, .int .u64 y], .int .u8 b] w fun e w' => e = .returned (.bool true) ∧ Below w.heap.size w w' := by
  obtain ⟨X, rfl⟩ := Int.eq_ofNat_of_zero_le wx.1
  obtain ⟨Y, rfl⟩ := Int.eq_ofNat_of_zero_le wy.1
  obtain ⟨B, rfl⟩ := Int.eq_ofNat_of_zero_le hb.1
  have hx : X < 18446744073709551616 := by have := wx.2; omega
  have hy : Y < 18446744073709551616 := by have := wy.2; omega
  cases g : goodB n (X : Int) (Y : Int)
  · exact texts_bad n X Y B w hx hy g
  · exact texts_ok n X Y B _ w hx hy (of_good wx wy g) (by omega)
end Go.Proofs.Ytdmifldjeiabdaa
