/- fieldfareref01: Whole. -/
import Derived.Test.YtkhhjibpppmekaaRefM
namespace Go.Proofs.Ytkhhjibpppmekaa
open Go.RowKit
theorem val_drop_le (L : List Nat) (j : Nat) : val (L.drop j) ≤ val L := by
  induction j with
  | zero => simp
  | succ j ih => rw [val_drop_step L j] at ih; omega
/-- What a whole part is, as the code tells it. -/
def WholeA (z k : Int) (ok : Bool) : Prop := if -9223372036854775808 ≤ z.tdiv 1000000 ∧ z.tdiv 1000000 < 9223372036854775808 then k = z.tdiv 1000000 ∧ ok = true else k = 0 ∧ ok = false
def WholeP (z : Int) (e : Ending) : Prop := ∃ (k : Int) (ok : Bool), e = .returned (.tuple #[.int .i64 k, .bool ok]) ∧ WholeA z k ok
theorem whole_nat (z : Int) : ∃ Q : Nat, Q = z.natAbs / 1000000 ∧ z.tdiv 1000000 = (if zn z then -(Q : Int) else (Q : Int)) := by
  refine ⟨_, rfl, ?_⟩
  have h := tdiv_abs z
  by_cases hz : z < 0
  · have h1 : zn z = true := by unfold zn; rw [decide_eq_true_eq]; exact hz
    rw [h1, if_pos rfl]
    have h2 : z.tdiv 1000000 ≤ 0 := by
      have := Int.tdiv_nonneg (a := -z) (b := 1000000) (by omega) (by decide)
      rw [Int.neg_tdiv] at this; omega
    omega
  · have h1 : zn z = false := by unfold zn; rw [decide_eq_false_iff_not]; exact hz
    rw [h1]
    have h2 : 0 ≤ z.tdiv 1000000 := Int.tdiv_nonneg (by omega) (by decide)
    simp only [Bool.false_eq_true, if_false]
    omega
set_option maxRecDepth 100000 in
set_option maxHeartbeats 1600000 in
theorem rwhole_any (n : Bool) (A : Option Addr) (c : Nat) (z : Int) (hn : n = zn z) (w : World) (B0 : Nat) (hB0 : B0 ≤ w.heap.size) (hr : RI w B0 A (dg z.natAbs)) (hc : (dg z.natAbs).length ≤ c) :
    Calls Try.prog 54 #[.agg #[.bool n, .slice A (dg z.natAbs).length c]] w fun e w' => WholeP z e ∧ Below w.heap.size w w' := by
  obtain ⟨Q, hQ, hzq⟩ := whole_nat z
  rw [← hn] at hzq
  obtain ⟨N, hN⟩ : ∃ N, N = z.natAbs := ⟨_, rfl⟩
  rw [← hN] at hr hc hQ ⊢
  have hlow := fun W h => lower_any A c N W B0 h hc
  rw [← hQ] at hlow
  have hlen : (dg Q).length ≤ 19 ↔ Q < 10000000000000000000 := ⟨fun h => dg_len_lt h, fun h => dg_len_bound (k := 19) h⟩
  have hvq := val_dg Q
  have hdq := dg_dig Q
  obtain ⟨L, hL⟩ : ∃ L, L = dg Q := ⟨_, rfl⟩
  rw [← hL] at hlow hlen hvq hdq
  obtain ⟨l, hl⟩ : ∃ l, l = (dg N).length := ⟨_, rfl⟩
  rw [← hl] at hlow ⊢
  have hb1 : Below w.heap.size w (w.alloc (.cells #[.bool n, .slice A l c] 34)) := by (repeat' (first | (with_reducible exact Below.refl _ _) | (refine Below.trans ?_ (Below.mono (by with_reducible assumption) ?_)) | (with_reducible exact Below.refl _ _) | (with_reducible refine below_drewN ?_ _) | (with_reducible refine Below.drew ?_) | (with_reducible refine Below.setCell ?_ ?_ _) | (with_reducible refine Below.alloc ?_ ?_ _) | (with_reducible assumption) | (simp; done) | (simp; omega) | omega))
  have HR := Lib.hid (hr.below (hb1.mono hB0)); have LO := Lib.hid hlow; have HZQ := Lib.hid hzq; have HVQ := Lib.hid hvq; have HDQ := Lib.hid hdq; have HLEN := Lib.hid hlen
  have HB0 := Lib.hid hb1; have HBB := Lib.hid hB0
  clear hr hc hB0 hlow hlen hvq hdq hL hl hN hQ hzq hb1 hn
  by_cases h19 : L.length ≤ 19
  · have hQ19 := HLEN.out.1 h19
    have HQ := Lib.hid hQ19
    go_enter Try.func54, Try.ntmps54
    go_upto_block 0 with (first
      | (go_at_call 82; (with_reducible refine (LO.out _ HR.out).mono ?_); rintro e w1 ⟨⟨A2, c2, rfl, hri2, hc2, han2⟩, rfl⟩; have HR2 := Lib.hid hri2; clear hri2 hc2 han2))
    obtain ⟨w1, hw1⟩ : ∃ x, x = w.alloc (.cells #[.bool n, .slice A l c] 34) := ⟨_, rfl⟩
    have yc0 : w1.cell? ⟨w.heap.size, 0, none⟩ = some (.bool n) := by rw [hw1]; simp (maxDischargeDepth := 12) [go_sem]
    rw [← hw1] at HR2 HB0 ⊢
    clear hw1
    go_cut [5, 6] (fun u _ wx => u = .int .u64 (Q : Int) ∧ w1 = wx)
    case first =>
      go_wp2_with fail
      go_loop [5, 6] (fun u i => ∃ (j V : Nat), i = .int .i64 ((j : Int) - 1) ∧ j ≤ L.length ∧ u = .int .u64 (V : Int) ∧ Hid (V = val (L.drop j))) (fun _ i => (intOf i + 1).toNat)
      case atStart => exact ⟨L.length, 0, rfl, Nat.le_refl _, rfl, Lib.hid (by simp [val])⟩
      case round =>
        obtain ⟨j, V, rfl, hj, rfl, hV⟩ := hrel
        cases j with
        | zero =>
          obtain rfl : V = Q := by have := hV.out; rwa [List.drop_zero, HVQ.out] at this
          clear hQ19
          go_wp2_with fail
          go_meet
          exact ⟨rfl, rfl⟩
        | succ j =>
          have h1 : j < L.length := by omega
          obtain ⟨ad, rfl, hbk, hcell⟩ := HR2.out (by omega)
          have hcl := hcell j h1
          obtain ⟨x, hx⟩ : ∃ x, x = L.getD j 0 := ⟨_, rfl⟩
          have hx9 : x < 10 := by rw [hx]; exact getD_lt HDQ.out j
          rw [← getD_at h1, ← hx] at hcl
          obtain ⟨V', hV'⟩ : ∃ V', V' = 10 * V + x := ⟨_, rfl⟩
          have hVd : V' = val (L.drop j) := by rw [val_drop_step L j, ← hx, ← hV.out, hV']; omega
          have hVle : V' ≤ Q := by rw [hVd, ← HVQ.out]; exact val_drop_le L j
          have hw1 : IntKind.u64.wrap (10 * (V : Int)) = 10 * (V : Int) := by rw [IntKind.wrap_u64]; omega
          have hw2 : IntKind.u64.wrap (x : Int) = (x : Int) := by rw [IntKind.wrap_u64]; omega
          have hw3 : IntKind.u64.wrap (10 * (V : Int) + (x : Int)) = (V' : Int) := by rw [IntKind.wrap_u64]; omega
          have HVD := Lib.hid hVd
          clear hx hV' hVd hVle hcell hbk hQ19
          go_wp2_with fail
          go_round
          case rel => exact ⟨j, V', by go_num, by omega, rfl, HVD⟩
          case measure => simp [intOf]
    case rest =>
      obtain ⟨rfl, rfl⟩ := hcut
      have hcas : (n = true ∧ Q ≤ 9223372036854775808) ∨ (n = false ∧ Q < 9223372036854775808) ∨ (n = true ∧ 9223372036854775808 < Q) ∨ (n = false ∧ 9223372036854775808 ≤ Q) := by
        cases n
        · have : Q < 9223372036854775808 ∨ 9223372036854775808 ≤ Q := by omega
          rcases this with h | h
          · exact .inr (.inl ⟨rfl, h⟩)
          · exact .inr (.inr (.inr ⟨rfl, h⟩))
        · have : Q ≤ 9223372036854775808 ∨ 9223372036854775808 < Q := by omega
          rcases this with h | h
          · exact .inl ⟨rfl, h⟩
          · exact .inr (.inr (.inl ⟨rfl, h⟩))
      rcases hcas with ⟨rfl, h⟩ | ⟨rfl, h⟩ | ⟨rfl, h⟩ | ⟨rfl, h⟩
      · have hwb : wrap64 (IntKind.u64.wrap (-(Q : Int))) = -(Q : Int) := wrap_back Q (by omega) (by omega)
        have hi : (Q : Int) ≤ 9223372036854775808 := by omega
        clear hQ19
        go_wp2_with fail
        (try simp only [Exit.inBlock, Exit.then]); refine bodyPost_ret (by simp [results, Try.results54, go_sem, *]; try rfl) rfl ?_
        have hz := HZQ.out
        simp only [if_true] at hz
        exact ⟨⟨_, _, rfl, by unfold WholeA; rw [hz, if_pos (by omega)]; exact ⟨by first | rfl | simp [hwb] | omega, rfl⟩⟩, HB0.out⟩
      · have hwb : IntKind.i64.wrap (Q : Int) = (Q : Int) := by rw [IntKind.wrap_i64]; omega
        have hi : (Q : Int) < 9223372036854775808 := by omega
        clear hQ19
        go_wp2_with fail
        (try simp only [Exit.inBlock, Exit.then]); refine bodyPost_ret (by simp [results, Try.results54, go_sem, *]; try rfl) rfl ?_
        have hz := HZQ.out
        simp only [Bool.false_eq_true, if_false] at hz
        exact ⟨⟨_, _, rfl, by unfold WholeA; rw [hz, if_pos (by omega)]; exact ⟨by first | rfl | simp [hwb] | omega, rfl⟩⟩, HB0.out⟩
      · have hi : ¬ (Q : Int) ≤ 9223372036854775808 := by omega
        clear hQ19
        go_wp2_with fail
        (try simp only [Exit.inBlock, Exit.then]); refine bodyPost_ret (by simp [results, Try.results54, go_sem, *]; try rfl) rfl ?_
        have hz := HZQ.out
        simp only [if_true] at hz
        exact ⟨⟨_, _, rfl, by unfold WholeA; rw [hz, if_neg (by omega)]; exact ⟨rfl, rfl⟩⟩, HB0.out⟩
      · have hi : ¬ (Q : Int) < 9223372036854775808 := by omega
        clear hQ19
        go_wp2_with fail
        (try simp only [Exit.inBlock, Exit.then]); refine bodyPost_ret (by simp [results, Try.results54, go_sem, *]; try rfl) rfl ?_
        have hz := HZQ.out
        simp only [Bool.false_eq_true, if_false] at hz
        exact ⟨⟨_, _, rfl, by unfold WholeA; rw [hz, if_neg (by omega)]; exact ⟨rfl, rfl⟩⟩, HB0.out⟩
  · have hQ19 : 10000000000000000000 ≤ Q := by have := (not_congr HLEN.out).1 h19; omega
    have HQ := Lib.hid hQ19
    have h20 : 19 < L.length := by omega
    clear hQ19 h19
    go_enter Try.func54, Try.ntmps54
    go_wp2_with (first
      | (go_at_call 82; (with_reducible refine (LO.out _ HR.out).mono ?_); rintro e w1 ⟨⟨A2, c2, rfl, hri2, hc2, han2⟩, rfl⟩; clear hri2 hc2 han2))
    (try simp only [Exit.inBlock, Exit.then]); refine bodyPost_ret (by simp [results, Try.results54, go_sem, *]; try rfl) rfl ?_
    have hz := HZQ.out
    have hq := HQ.out
    exact ⟨⟨_, _, rfl, by unfold WholeA; rw [hz, if_neg (by split <;> omega)]; exact ⟨rfl, rfl⟩⟩, HB0.out⟩
end Go.Proofs.Ytkhhjibpppmekaa
