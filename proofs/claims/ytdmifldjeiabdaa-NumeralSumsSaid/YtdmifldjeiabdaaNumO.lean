/- fieldfarelaw02.NumeralSums: the walk. -/
import Derived.Test.YtdmifldjeiabdaaNumJ
import Derived.Test.YtdmifldjeiabdaaNumM
namespace Go.Proofs.Ytdmifldjeiabdaa
open Go.RowKit
set_option maxRecDepth 100000 in
set_option maxHeartbeats 800000 in
theorem sums_law (n : Bool) (x y f b : Int) (w : World) (wx : Wd x) (wy : Wd y) (hf : 0 ≤ f ∧ f < 256) (hb : 0 ≤ b ∧ b < 256) :
    Calls Try.prog 5 #[.agg #[.bool n, .int .u64 x, .int .u64 y], .int .u8 f, .int .u8 b] w fun e w' => e = .returned (.bool true) ∧ Below w.heap.size w w' := by
  cases g : goodB n x y
  · go_enter Try.func5, Try.ntmps5
    go_wp2_with (first
      | (go_at_call 18; refine (awake2_any _).mono ?_; rintro e w1 ⟨rfl, b1⟩; have hs_b1 := Below.size b1; (try simp at hs_b1); have kb1_wheapsize_0 : w1.cell? ⟨w.heap.size, 0, none⟩ = some (.bool n) := (Below.cell b1 (by first | (simp; done) | (simp; omega) | omega)).trans (by first | (simp (maxDischargeDepth := 12) [go_sem]; done) | simp (maxDischargeDepth := 12) [go_sem, *]); have gb1_wheapsize_0 : w1.frozen? ⟨w.heap.size, 0, none⟩ = false := (Below.frozen b1 (by first | (simp; done) | (simp; omega) | omega)).trans (by first | (simp (maxDischargeDepth := 12) [go_sem]; done) | simp (maxDischargeDepth := 12) [go_sem, *]); have kb1_wheapsize_1 : w1.cell? ⟨w.heap.size, 1, none⟩ = some (.int .u64 x) := (Below.cell b1 (by first | (simp; done) | (simp; omega) | omega)).trans (by first | (simp (maxDischargeDepth := 12) [go_sem]; done) | simp (maxDischargeDepth := 12) [go_sem, *]); have gb1_wheapsize_1 : w1.frozen? ⟨w.heap.size, 1, none⟩ = false := (Below.frozen b1 (by first | (simp; done) | (simp; omega) | omega)).trans (by first | (simp (maxDischargeDepth := 12) [go_sem]; done) | simp (maxDischargeDepth := 12) [go_sem, *]); have kb1_wheapsize_2 : w1.cell? ⟨w.heap.size, 2, none⟩ = some (.int .u64 y) := (Below.cell b1 (by first | (simp; done) | (simp; omega) | omega)).trans (by first | (simp (maxDischargeDepth := 12) [go_sem]; done) | simp (maxDischargeDepth := 12) [go_sem, *]); have gb1_wheapsize_2 : w1.frozen? ⟨w.heap.size, 2, none⟩ = false := (Below.frozen b1 (by first | (simp; done) | (simp; omega) | omega)).trans (by first | (simp (maxDischargeDepth := 12) [go_sem]; done) | simp (maxDischargeDepth := 12) [go_sem, *]); have lb1_wheapsize : w.heap.size < w1.heap.size := (by first | omega | (have := Below.size b1; simp at this; omega)); have lb1_wheapsize' : w.heap.size < w1.heap.size + 1 := Nat.lt_succ_of_lt lb1_wheapsize; have lb1_wheapsize'' : w.heap.size < w1.heap.size + 1 + 1 := Nat.lt_succ_of_lt lb1_wheapsize')
      | (go_at_call 21; refine (good_any _ _ _ _).mono ?_; rintro e w1 ⟨rfl, rfl⟩))
    go_returns
    exact ⟨rfl, by (repeat' (first | (with_reducible exact Below.refl _ _) | (refine Below.trans ?_ (Below.mono (by with_reducible assumption) ?_)) | (with_reducible exact Below.refl _ _) | (with_reducible refine below_drewN ?_ _) | (with_reducible refine Below.drew ?_) | (with_reducible refine Below.setCell ?_ ?_ _) | (with_reducible refine Below.alloc ?_ ?_ _) | (with_reducible assumption) | (simp; done) | (simp; omega) | omega))⟩
  cases n
  case true =>
    go_enter Try.func5, Try.ntmps5
    go_wp2_with (first
      | (go_at_call 18; refine (awake2_any _).mono ?_; rintro e w1 ⟨rfl, b1⟩; have hs_b1 := Below.size b1; (try simp at hs_b1); have kb1_wheapsize_0 : w1.cell? ⟨w.heap.size, 0, none⟩ = some (.bool true) := (Below.cell b1 (by first | (simp; done) | (simp; omega) | omega)).trans (by first | (simp (maxDischargeDepth := 12) [go_sem]; done) | simp (maxDischargeDepth := 12) [go_sem, *]); have gb1_wheapsize_0 : w1.frozen? ⟨w.heap.size, 0, none⟩ = false := (Below.frozen b1 (by first | (simp; done) | (simp; omega) | omega)).trans (by first | (simp (maxDischargeDepth := 12) [go_sem]; done) | simp (maxDischargeDepth := 12) [go_sem, *]); have kb1_wheapsize_1 : w1.cell? ⟨w.heap.size, 1, none⟩ = some (.int .u64 x) := (Below.cell b1 (by first | (simp; done) | (simp; omega) | omega)).trans (by first | (simp (maxDischargeDepth := 12) [go_sem]; done) | simp (maxDischargeDepth := 12) [go_sem, *]); have gb1_wheapsize_1 : w1.frozen? ⟨w.heap.size, 1, none⟩ = false := (Below.frozen b1 (by first | (simp; done) | (simp; omega) | omega)).trans (by first | (simp (maxDischargeDepth := 12) [go_sem]; done) | simp (maxDischargeDepth := 12) [go_sem, *]); have kb1_wheapsize_2 : w1.cell? ⟨w.heap.size, 2, none⟩ = some (.int .u64 y) := (Below.cell b1 (by first | (simp; done) | (simp; omega) | omega)).trans (by first | (simp (maxDischargeDepth := 12) [go_sem]; done) | simp (maxDischargeDepth := 12) [go_sem, *]); have gb1_wheapsize_2 : w1.frozen? ⟨w.heap.size, 2, none⟩ = false := (Below.frozen b1 (by first | (simp; done) | (simp; omega) | omega)).trans (by first | (simp (maxDischargeDepth := 12) [go_sem]; done) | simp (maxDischargeDepth := 12) [go_sem, *]); have lb1_wheapsize : w.heap.size < w1.heap.size := (by first | omega | (have := Below.size b1; simp at this; omega)); have lb1_wheapsize' : w.heap.size < w1.heap.size + 1 := Nat.lt_succ_of_lt lb1_wheapsize; have lb1_wheapsize'' : w.heap.size < w1.heap.size + 1 + 1 := Nat.lt_succ_of_lt lb1_wheapsize')
      | (go_at_call 21; refine (good_any _ _ _ _).mono ?_; rintro e w1 ⟨rfl, rfl⟩))
    go_returns
    exact ⟨rfl, by (repeat' (first | (with_reducible exact Below.refl _ _) | (refine Below.trans ?_ (Below.mono (by with_reducible assumption) ?_)) | (with_reducible exact Below.refl _ _) | (with_reducible refine below_drewN ?_ _) | (with_reducible refine Below.drew ?_) | (with_reducible refine Below.setCell ?_ ?_ _) | (with_reducible refine Below.alloc ?_ ?_ _) | (with_reducible assumption) | (simp; done) | (simp; omega) | omega))⟩
  case false =>
    by_cases hf60 : f ≤ 60
    case neg =>
      go_enter Try.func5, Try.ntmps5
      go_wp2_with (first
        | (go_at_call 18; refine (awake2_any _).mono ?_; rintro e w1 ⟨rfl, b1⟩; have hs_b1 := Below.size b1; (try simp at hs_b1); have kb1_wheapsize_0 : w1.cell? ⟨w.heap.size, 0, none⟩ = some (.bool false) := (Below.cell b1 (by first | (simp; done) | (simp; omega) | omega)).trans (by first | (simp (maxDischargeDepth := 12) [go_sem]; done) | simp (maxDischargeDepth := 12) [go_sem, *]); have gb1_wheapsize_0 : w1.frozen? ⟨w.heap.size, 0, none⟩ = false := (Below.frozen b1 (by first | (simp; done) | (simp; omega) | omega)).trans (by first | (simp (maxDischargeDepth := 12) [go_sem]; done) | simp (maxDischargeDepth := 12) [go_sem, *]); have kb1_wheapsize_1 : w1.cell? ⟨w.heap.size, 1, none⟩ = some (.int .u64 x) := (Below.cell b1 (by first | (simp; done) | (simp; omega) | omega)).trans (by first | (simp (maxDischargeDepth := 12) [go_sem]; done) | simp (maxDischargeDepth := 12) [go_sem, *]); have gb1_wheapsize_1 : w1.frozen? ⟨w.heap.size, 1, none⟩ = false := (Below.frozen b1 (by first | (simp; done) | (simp; omega) | omega)).trans (by first | (simp (maxDischargeDepth := 12) [go_sem]; done) | simp (maxDischargeDepth := 12) [go_sem, *]); have kb1_wheapsize_2 : w1.cell? ⟨w.heap.size, 2, none⟩ = some (.int .u64 y) := (Below.cell b1 (by first | (simp; done) | (simp; omega) | omega)).trans (by first | (simp (maxDischargeDepth := 12) [go_sem]; done) | simp (maxDischargeDepth := 12) [go_sem, *]); have gb1_wheapsize_2 : w1.frozen? ⟨w.heap.size, 2, none⟩ = false := (Below.frozen b1 (by first | (simp; done) | (simp; omega) | omega)).trans (by first | (simp (maxDischargeDepth := 12) [go_sem]; done) | simp (maxDischargeDepth := 12) [go_sem, *]); have lb1_wheapsize : w.heap.size < w1.heap.size := (by first | omega | (have := Below.size b1; simp at this; omega)); have lb1_wheapsize' : w.heap.size < w1.heap.size + 1 := Nat.lt_succ_of_lt lb1_wheapsize; have lb1_wheapsize'' : w.heap.size < w1.heap.size + 1 + 1 := Nat.lt_succ_of_lt lb1_wheapsize')
        | (go_at_call 21; refine (good_any _ _ _ _).mono ?_; rintro e w1 ⟨rfl, rfl⟩))
      go_returns
      exact ⟨rfl, by (repeat' (first | (with_reducible exact Below.refl _ _) | (refine Below.trans ?_ (Below.mono (by with_reducible assumption) ?_)) | (with_reducible exact Below.refl _ _) | (with_reducible refine below_drewN ?_ _) | (with_reducible refine Below.drew ?_) | (with_reducible refine Below.setCell ?_ ?_ _) | (with_reducible refine Below.alloc ?_ ?_ _) | (with_reducible assumption) | (simp; done) | (simp; omega) | omega))⟩
    case pos =>
      by_cases hb60 : b ≤ 60
      case neg =>
        go_enter Try.func5, Try.ntmps5
        go_wp2_with (first
          | (go_at_call 18; refine (awake2_any _).mono ?_; rintro e w1 ⟨rfl, b1⟩; have hs_b1 := Below.size b1; (try simp at hs_b1); have kb1_wheapsize_0 : w1.cell? ⟨w.heap.size, 0, none⟩ = some (.bool false) := (Below.cell b1 (by first | (simp; done) | (simp; omega) | omega)).trans (by first | (simp (maxDischargeDepth := 12) [go_sem]; done) | simp (maxDischargeDepth := 12) [go_sem, *]); have gb1_wheapsize_0 : w1.frozen? ⟨w.heap.size, 0, none⟩ = false := (Below.frozen b1 (by first | (simp; done) | (simp; omega) | omega)).trans (by first | (simp (maxDischargeDepth := 12) [go_sem]; done) | simp (maxDischargeDepth := 12) [go_sem, *]); have kb1_wheapsize_1 : w1.cell? ⟨w.heap.size, 1, none⟩ = some (.int .u64 x) := (Below.cell b1 (by first | (simp; done) | (simp; omega) | omega)).trans (by first | (simp (maxDischargeDepth := 12) [go_sem]; done) | simp (maxDischargeDepth := 12) [go_sem, *]); have gb1_wheapsize_1 : w1.frozen? ⟨w.heap.size, 1, none⟩ = false := (Below.frozen b1 (by first | (simp; done) | (simp; omega) | omega)).trans (by first | (simp (maxDischargeDepth := 12) [go_sem]; done) | simp (maxDischargeDepth := 12) [go_sem, *]); have kb1_wheapsize_2 : w1.cell? ⟨w.heap.size, 2, none⟩ = some (.int .u64 y) := (Below.cell b1 (by first | (simp; done) | (simp; omega) | omega)).trans (by first | (simp (maxDischargeDepth := 12) [go_sem]; done) | simp (maxDischargeDepth := 12) [go_sem, *]); have gb1_wheapsize_2 : w1.frozen? ⟨w.heap.size, 2, none⟩ = false := (Below.frozen b1 (by first | (simp; done) | (simp; omega) | omega)).trans (by first | (simp (maxDischargeDepth := 12) [go_sem]; done) | simp (maxDischargeDepth := 12) [go_sem, *]); have lb1_wheapsize : w.heap.size < w1.heap.size := (by first | omega | (have := Below.size b1; simp at this; omega)); have lb1_wheapsize' : w.heap.size < w1.heap.size + 1 := Nat.lt_succ_of_lt lb1_wheapsize; have lb1_wheapsize'' : w.heap.size < w1.heap.size + 1 + 1 := Nat.lt_succ_of_lt lb1_wheapsize')
          | (go_at_call 21; refine (good_any _ _ _ _).mono ?_; rintro e w1 ⟨rfl, rfl⟩))
        go_returns
        exact ⟨rfl, by (repeat' (first | (with_reducible exact Below.refl _ _) | (refine Below.trans ?_ (Below.mono (by with_reducible assumption) ?_)) | (with_reducible exact Below.refl _ _) | (with_reducible refine below_drewN ?_ _) | (with_reducible refine Below.drew ?_) | (with_reducible refine Below.setCell ?_ ?_ _) | (with_reducible refine Below.alloc ?_ ?_ _) | (with_reducible assumption) | (simp; done) | (simp; omega) | omega))⟩
      case pos =>
        have ia := of_good wx wy g
        obtain ⟨z, hz⟩ : ∃ z, z = zof false x y := ⟨_, rfl⟩
        rw [← hz] at ia
        have TX := Lib.hid (fun W => text_ok false x y z ia W)
        have IA := Lib.hid ia
        clear ia hz
        go_enter Try.func5, Try.ntmps5
        go_upto_region 6 with (first
          | (go_at_call 18; refine (awake2_any _).mono ?_; rintro e w1 ⟨rfl, b1⟩; have hs_b1 := Below.size b1; (try simp at hs_b1); have kb1_wheapsize_0 : w1.cell? ⟨w.heap.size, 0, none⟩ = some (.bool false) := (Below.cell b1 (by first | (simp; done) | (simp; omega) | omega)).trans (by first | (simp (maxDischargeDepth := 12) [go_sem]; done) | simp (maxDischargeDepth := 12) [go_sem, *]); have gb1_wheapsize_0 : w1.frozen? ⟨w.heap.size, 0, none⟩ = false := (Below.frozen b1 (by first | (simp; done) | (simp; omega) | omega)).trans (by first | (simp (maxDischargeDepth := 12) [go_sem]; done) | simp (maxDischargeDepth := 12) [go_sem, *]); have kb1_wheapsize_1 : w1.cell? ⟨w.heap.size, 1, none⟩ = some (.int .u64 x) := (Below.cell b1 (by first | (simp; done) | (simp; omega) | omega)).trans (by first | (simp (maxDischargeDepth := 12) [go_sem]; done) | simp (maxDischargeDepth := 12) [go_sem, *]); have gb1_wheapsize_1 : w1.frozen? ⟨w.heap.size, 1, none⟩ = false := (Below.frozen b1 (by first | (simp; done) | (simp; omega) | omega)).trans (by first | (simp (maxDischargeDepth := 12) [go_sem]; done) | simp (maxDischargeDepth := 12) [go_sem, *]); have kb1_wheapsize_2 : w1.cell? ⟨w.heap.size, 2, none⟩ = some (.int .u64 y) := (Below.cell b1 (by first | (simp; done) | (simp; omega) | omega)).trans (by first | (simp (maxDischargeDepth := 12) [go_sem]; done) | simp (maxDischargeDepth := 12) [go_sem, *]); have gb1_wheapsize_2 : w1.frozen? ⟨w.heap.size, 2, none⟩ = false := (Below.frozen b1 (by first | (simp; done) | (simp; omega) | omega)).trans (by first | (simp (maxDischargeDepth := 12) [go_sem]; done) | simp (maxDischargeDepth := 12) [go_sem, *]); have lb1_wheapsize : w.heap.size < w1.heap.size := (by first | omega | (have := Below.size b1; simp at this; omega)); have lb1_wheapsize' : w.heap.size < w1.heap.size + 1 := Nat.lt_succ_of_lt lb1_wheapsize; have lb1_wheapsize'' : w.heap.size < w1.heap.size + 1 + 1 := Nat.lt_succ_of_lt lb1_wheapsize')
          | (go_at_call 21; refine (good_any _ _ _ _).mono ?_; rintro e w1 ⟨rfl, rfl⟩)
          | (go_at_call 19; refine (TX.out _).mono ?_; rintro e w2 ⟨rfl, b2⟩; have hs_b2 := Below.size b2; (try simp at hs_b2); have kb2_wheapsize_0 : w2.cell? ⟨w.heap.size, 0, none⟩ = some (.bool false) := (Below.cell b2 (by first | (simp; done) | (simp; omega) | omega)).trans (by first | (simp (maxDischargeDepth := 12) [go_sem]; done) | simp (maxDischargeDepth := 12) [go_sem, *]); have gb2_wheapsize_0 : w2.frozen? ⟨w.heap.size, 0, none⟩ = false := (Below.frozen b2 (by first | (simp; done) | (simp; omega) | omega)).trans (by first | (simp (maxDischargeDepth := 12) [go_sem]; done) | simp (maxDischargeDepth := 12) [go_sem, *]); have kb2_wheapsize_1 : w2.cell? ⟨w.heap.size, 1, none⟩ = some (.int .u64 x) := (Below.cell b2 (by first | (simp; done) | (simp; omega) | omega)).trans (by first | (simp (maxDischargeDepth := 12) [go_sem]; done) | simp (maxDischargeDepth := 12) [go_sem, *]); have gb2_wheapsize_1 : w2.frozen? ⟨w.heap.size, 1, none⟩ = false := (Below.frozen b2 (by first | (simp; done) | (simp; omega) | omega)).trans (by first | (simp (maxDischargeDepth := 12) [go_sem]; done) | simp (maxDischargeDepth := 12) [go_sem, *]); have kb2_wheapsize_2 : w2.cell? ⟨w.heap.size, 2, none⟩ = some (.int .u64 y) := (Below.cell b2 (by first | (simp; done) | (simp; omega) | omega)).trans (by first | (simp (maxDischargeDepth := 12) [go_sem]; done) | simp (maxDischargeDepth := 12) [go_sem, *]); have gb2_wheapsize_2 : w2.frozen? ⟨w.heap.size, 2, none⟩ = false := (Below.frozen b2 (by first | (simp; done) | (simp; omega) | omega)).trans (by first | (simp (maxDischargeDepth := 12) [go_sem]; done) | simp (maxDischargeDepth := 12) [go_sem, *]); have lb2_wheapsize : w.heap.size < w2.heap.size := (by first | omega | (have := Below.size b2; simp at this; omega)); have lb2_wheapsize' : w.heap.size < w2.heap.size + 1 := Nat.lt_succ_of_lt lb2_wheapsize; have lb2_wheapsize'' : w.heap.size < w2.heap.size + 1 + 1 := Nat.lt_succ_of_lt lb2_wheapsize'))
        have HB2 : Below w.heap.size w w2 := by (repeat' (first | (with_reducible exact Below.refl _ _) | (refine Below.trans ?_ (Below.mono (by with_reducible assumption) ?_)) | (with_reducible exact Below.refl _ _) | (with_reducible refine below_drewN ?_ _) | (with_reducible refine Below.drew ?_) | (with_reducible refine Below.setCell ?_ ?_ _) | (with_reducible refine Below.alloc ?_ ?_ _) | (with_reducible assumption) | (simp; done) | (simp; omega) | omega))
        have HB2 := Lib.hid HB2
        obtain ⟨L, hL⟩ : ∃ L, L = textL z := ⟨_, rfl⟩
        have hLb := textL_bytes z
        have hLl := textL_len z
        rw [← hL] at hLb hLl
        rw [← hL]
        have HL := Lib.hid hL; have HLB := Lib.hid hLb
        obtain ⟨S, hS⟩ : ∃ S, S = strN L := ⟨_, rfl⟩
        have hSl : S.size = L.length := by rw [hS]; exact strN_size L
        have hSg : ∀ k (hk : k < L.length) (hk' : k < S.size), (S[k].toNat : Int) = ((L[k] : Nat) : Int) := by
          intro k hk hk'
          subst hS
          exact strN_get hLb k hk hk'
        rw [← hS]
        have HS := Lib.hid hS; have HSG := Lib.hid hSg
        clear hL hLb hS hSg b1 b2
        go_upto_block 0 with fail
        go_cut [8] (fun p wx => p = .bool (hasDot L) ∧ w2 = wx)
        case first =>
          go_wp2_with fail
          go_loop [8, 9] (fun p i => ∃ k : Nat, k ≤ L.length ∧ i = .int .i64 k ∧ p = .bool (hasDot (L.take k))) (fun _ i => L.length - (intOf i).toNat)
          case atStart => exact ⟨0, Nat.zero_le _, rfl, rfl⟩
          case round =>
            obtain ⟨k, hk, rfl, rfl⟩ := hrel
            by_cases hlt : k < L.length
            · have hsg := HSG.out k hlt (by omega)
              have hth := take_has L k hlt
              have HT := Lib.hid hth; have HSK := Lib.hid hsg; clear hth hsg
              cases hp : hasDot (L.take k)
              · have HP := Lib.hid hp
                go_wp2_with fail
                refine ⟨⟨k + 1, by omega, by go_num, ?_⟩, by simp [intOf]; omega⟩
                rw [HT.out, HP.out, HSK.out, Bool.false_or, show (((L[k] : Nat) : Int) == 46) = (L[k] == 46) from by rw [Bool.eq_iff_iff]; simp only [beq_iff_eq]; omega]
              · have HP := Lib.hid hp
                go_wp2_with fail
                refine ⟨⟨k + 1, by omega, by go_num, ?_⟩, by simp [intOf]; omega⟩
                rw [HT.out, HP.out, Bool.true_or]
            · obtain rfl : k = L.length := by omega
              go_wp2_with fail
              go_meet
              exact ⟨rfl, rfl⟩
        case rest =>
          obtain ⟨rfl, rfl⟩ := hcut
          have hz0 : 0 ≤ z := by
            have := IA.out.2.2.2.1
            have := of_decide_eq_false this.symm
            omega
          have hdot := text_dot z hz0
          rw [← HL.out] at hdot
          obtain ⟨M, hM⟩ : ∃ M, M = dotted z := ⟨_, rfl⟩
          rw [← hM] at hdot
          have hdot2 : (hasDot L = true ∧ S = strN M) ∨ (hasDot L = false ∧ S ++ ⟨#[46]⟩ = strN M) := by
            rcases hdot with ⟨h1, h2⟩ | ⟨h1, h2⟩
            · exact .inl ⟨h1, by rw [HS.out, h2]⟩
            · exact .inr ⟨h1, by rw [HS.out, ← h2, ← strN_app]; rfl⟩
          obtain ⟨d, hd⟩ : ∃ d, d = hasDot L := ⟨_, rfl⟩
          rw [← hd] at hdot2
          rw [← hd]
          clear hd
          have HM := Lib.hid hM; have HD := Lib.hid hdot2
          have hSz : S.size ≤ 200 := by omega
          clear hM hdot hdot2 hSl
          go_upto_if 48 with fail
          go_cut [7] (fun s wx => s = .string (strN M) ∧ w2 = wx)
          case first =>
            cases d
            · go_wp2_with fail
              go_meet
              refine ⟨?_, rfl⟩
              rcases HD.out with ⟨h1, h2⟩ | ⟨h1, h2⟩
              · cases h1
              · rw [← h2]
            · go_wp2_with fail
              go_meet
              refine ⟨?_, rfl⟩
              rcases HD.out with ⟨h1, h2⟩ | ⟨h1, h2⟩
              · rw [← h2]
              · cases h1
          case rest =>
            obtain ⟨rfl, rfl⟩ := hcut
            obtain ⟨f, rfl⟩ := Int.eq_ofNat_of_zero_le hf.1
            obtain ⟨b, rfl⟩ := Int.eq_ofNat_of_zero_le hb.1
            have hf6 : f ≤ 60 := by omega
            have hb6 : b ≤ 60 := by omega
            have HMl : Hid (M.length ≤ 60) := by
              refine Lib.hid ?_
              rw [HM.out]; unfold dotted
              have h1 := digs_len 31 (z.natAbs / 1000000) []
              have h2 := frs_len (z.natAbs % 1000000) 6
              simp at h1 ⊢; omega
            clear hf60 hb60 HD hf hb hSz
            go_upto_block 2 with fail
            go_cut [7] (fun s wx => s = .string (strN (List.replicate f 48 ++ M)) ∧ w2 = wx)
            case first =>
              go_wp2_with fail
              go_loop [7, 10] (fun s i => ∃ k : Nat, k ≤ f ∧ i = .int .i64 k ∧ s = .string (strN (List.replicate k 48 ++ M))) (fun _ i => f - (intOf i).toNat)
              case atStart => exact ⟨0, Nat.zero_le _, rfl, by simp⟩
              case round =>
                obtain ⟨k, hk, rfl, rfl⟩ := hrel
                obtain ⟨S2, hS2⟩ : ∃ S2, S2 = strN (List.replicate k 48 ++ M) := ⟨_, rfl⟩
                rw [← hS2]
                have hSz : S2.size ≤ 200 := by
                  have := HMl.out
                  rw [hS2, strN_size]; simp; omega
                have HS2 := Lib.hid hS2; clear hS2
                by_cases hlt : k < f
                · go_wp2_with fail
                  refine ⟨⟨k + 1, by omega, by go_num, ?_⟩, by simp [intOf]; omega⟩
                  rw [HS2.out, List.replicate_succ, List.cons_append, show (48 :: (List.replicate k 48 ++ M)) = [48] ++ (List.replicate k 48 ++ M) from rfl, ← strN_app [48] (List.replicate k 48 ++ M)]
                  rfl
                · obtain rfl : k = f := by omega
                  go_wp2_with fail
                  go_meet
                  exact ⟨by rw [HS2.out], rfl⟩
            case rest =>
              obtain ⟨rfl, rfl⟩ := hcut
              obtain ⟨M2, hM2⟩ : ∃ M2, M2 = List.replicate f 48 ++ M := ⟨_, rfl⟩
              rw [← hM2]
              have HM2 := Lib.hid hM2; clear hM2
              go_upto_block 4 with fail
              go_cut [7] (fun s wx => s = .string (strN (M2 ++ List.replicate b 48)) ∧ w2 = wx)
              case first =>
                go_wp2_with fail
                go_loop [7, 11] (fun s i => ∃ k : Nat, k ≤ b ∧ i = .int .i64 k ∧ s = .string (strN (M2 ++ List.replicate k 48))) (fun _ i => b - (intOf i).toNat)
                case atStart => exact ⟨0, Nat.zero_le _, rfl, by simp⟩
                case round =>
                  obtain ⟨k, hk, rfl, rfl⟩ := hrel
                  obtain ⟨S2, hS2⟩ : ∃ S2, S2 = strN (M2 ++ List.replicate k 48) := ⟨_, rfl⟩
                  rw [← hS2]
                  have hSz : S2.size ≤ 200 := by
                    have := HMl.out
                    rw [hS2, strN_size, HM2.out]; simp; omega
                  have HS2 := Lib.hid hS2; clear hS2
                  by_cases hlt : k < b
                  · go_wp2_with fail
                    refine ⟨⟨k + 1, by omega, by go_num, ?_⟩, by simp [intOf]; omega⟩
                    rw [HS2.out, List.replicate_succ', ← List.append_assoc, ← strN_app (M2 ++ List.replicate k 48)]
                    rfl
                  · obtain rfl : k = b := by omega
                    go_wp2_with fail
                    go_meet
                    exact ⟨by rw [HS2.out], rfl⟩
              case rest =>
                obtain ⟨rfl, rfl⟩ := hcut
                have hread := dotted_read z hz0 IA.out.2.2.2.2 f b
                simp only at hread
                rw [← HM.out, ← HM2.out] at hread
                have hb9 : ∀ x ∈ M2 ++ List.replicate b 48, x < 256 := by
                  rw [HM2.out, HM.out]
                  exact bytes_app (bytes_app (bytes_rep _) (dotted_bytes z)) (bytes_rep _)
                obtain ⟨R, hR⟩ : ∃ R, R = M2 ++ List.replicate b 48 := ⟨_, rfl⟩
                rw [← hR] at hread hb9
                rw [← hR]
                have hRl : R.length ≤ 200 := by
                  have := HMl.out
                  rw [hR, HM2.out]; simp; omega
                have hRs : (strN R).size = R.length := strN_size R
                obtain ⟨c, C, fr, hrun, hcc, hrb⟩ := conv_run w2 R hb9
                have hp : Calls Try.prog 22 #[.slice (some ⟨w2.heap.size, 0, none⟩) R.length c] ((w2.alloc (.cells C 5 fr)).drew) fun e w' => e = .returned (.tuple #[.agg #[.bool false, .int .u64 x, .int .u64 y], .int .i64 (R.length : Int), .nilIface]) ∧ Below (w2.heap.size + 1) ((w2.alloc (.cells C 5 fr)).drew) w' := by
                  refine (prefix_any _ c R _ _ (by simp) hrb hcc (by omega)).mono fun e w' ⟨h, hb⟩ => ⟨?_, hb.mono (by simp)⟩
                  obtain ⟨r1, r2, r3, r4⟩ := hread
                  obtain ⟨i1, i2, i3⟩ := IA.out.eq
                  rcases h with ⟨h, _⟩ | ⟨_, h, _⟩ | ⟨_, _, h⟩
                  · omega
                  · omega
                  · rw [h, r1, r2, ← i1, ← i2, ← i3]
                have HP := Lib.hid hp
                clear hp hrb hread hb9 hR HMl HM2 TX HL HLB HS HSG hcc hLl hf6 hb6
                have hrs : R.length = (strN R).size := hRs.symm
                obtain ⟨Z, hZ⟩ : ∃ Z, Z = strN R := ⟨_, rfl⟩
                rw [← hZ] at hrun hRs hrs
                rw [← hZ]
                clear hZ hrs
                go_upto_region 22 with (go_at_call 22; refine (HP.out).mono ?_; rintro e w3 ⟨rfl, b3⟩; have hs_b3 := Below.size b3; (try simp at hs_b3); have hb3 : Below w2.heap.size w2 w3 := (by refine Below.trans ?_ (b3.mono (by omega)); exact ((Below.refl _ _).alloc (Nat.le_refl _) _).drew); have khb3_wheapsize_0 : w3.cell? ⟨w.heap.size, 0, none⟩ = some (.bool false) := (Below.cell hb3 (by first | (simp; done) | (simp; omega) | omega)).trans (by first | (simp (maxDischargeDepth := 12) [go_sem]; done) | simp (maxDischargeDepth := 12) [go_sem, *]); have ghb3_wheapsize_0 : w3.frozen? ⟨w.heap.size, 0, none⟩ = false := (Below.frozen hb3 (by first | (simp; done) | (simp; omega) | omega)).trans (by first | (simp (maxDischargeDepth := 12) [go_sem]; done) | simp (maxDischargeDepth := 12) [go_sem, *]); have khb3_wheapsize_1 : w3.cell? ⟨w.heap.size, 1, none⟩ = some (.int .u64 x) := (Below.cell hb3 (by first | (simp; done) | (simp; omega) | omega)).trans (by first | (simp (maxDischargeDepth := 12) [go_sem]; done) | simp (maxDischargeDepth := 12) [go_sem, *]); have ghb3_wheapsize_1 : w3.frozen? ⟨w.heap.size, 1, none⟩ = false := (Below.frozen hb3 (by first | (simp; done) | (simp; omega) | omega)).trans (by first | (simp (maxDischargeDepth := 12) [go_sem]; done) | simp (maxDischargeDepth := 12) [go_sem, *]); have khb3_wheapsize_2 : w3.cell? ⟨w.heap.size, 2, none⟩ = some (.int .u64 y) := (Below.cell hb3 (by first | (simp; done) | (simp; omega) | omega)).trans (by first | (simp (maxDischargeDepth := 12) [go_sem]; done) | simp (maxDischargeDepth := 12) [go_sem, *]); have ghb3_wheapsize_2 : w3.frozen? ⟨w.heap.size, 2, none⟩ = false := (Below.frozen hb3 (by first | (simp; done) | (simp; omega) | omega)).trans (by first | (simp (maxDischargeDepth := 12) [go_sem]; done) | simp (maxDischargeDepth := 12) [go_sem, *]); have lhb3_wheapsize : w.heap.size < w3.heap.size := (by first | omega | (have := Below.size hb3; simp at this; omega)); have lhb3_wheapsize' : w.heap.size < w3.heap.size + 1 := Nat.lt_succ_of_lt lhb3_wheapsize; have lhb3_wheapsize'' : w.heap.size < w3.heap.size + 1 + 1 := Nat.lt_succ_of_lt lhb3_wheapsize')
                clear hrun
                go_wp2_with fail
                go_returns
                exact ⟨rfl, HB2.out.trans (by refine Below.trans (hb3.mono (by omega)) ?_; (repeat' (first | (with_reducible exact Below.refl _ _) | (refine Below.trans ?_ (Below.mono (by with_reducible assumption) ?_)) | (with_reducible exact Below.refl _ _) | (with_reducible refine below_drewN ?_ _) | (with_reducible refine Below.drew ?_) | (with_reducible refine Below.setCell ?_ ?_ _) | (with_reducible refine Below.alloc ?_ ?_ _) | (with_reducible assumption) | (simp; done) | (simp; omega) | omega)))⟩
end Go.Proofs.Ytdmifldjeiabdaa
