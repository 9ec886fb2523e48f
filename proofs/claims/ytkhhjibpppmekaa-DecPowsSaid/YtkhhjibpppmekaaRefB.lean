/- fieldfareref01: Of. -/
import Derived.Test.YtkhhjibpppmekaaRefA
import Derived.Laws.BitsAllLaws
namespace Go.Proofs.Ytkhhjibpppmekaa
open Go.RowKit
theorem dg_len_le {M k : Nat} (h : M < 10 ^ k) : (dg M).length ≤ k := by
  rcases Nat.lt_or_ge k (dg M).length with hlt | hge
  · have hM : M ≠ 0 := by rintro rfl; simp [dg_zero] at hlt
    have h1 := dg_ge M hM
    have h2 : 10 ^ k ≤ 10 ^ ((dg M).length - 1) := Nat.pow_le_pow_right (by decide) (by omega)
    omega
  · exact hge
theorem of_bit (x j : Nat) (hx : x < 18446744073709551616) : wrap64 (bits .and .u64 ((x : Int) / 2 ^ j) 1) = ((x / 2 ^ j % 2 : Nat) : Int) := by
  have e : ((x : Int) / 2 ^ j) = ((x / 2 ^ j : Nat) : Int) := by simp [Int.natCast_ediv, Int.natCast_pow]
  have hl : x / 2 ^ j ≤ x := Nat.div_le_self _ _
  rw [e, show (1 : Int) = ((1 : Nat) : Int) from rfl, u64_and_nat _ _ (by omega) (by decide), Nat.and_one_is_mod]
  unfold wrap64; omega
theorem half_step (M j : Nat) : 2 * (M / 2 ^ (j + 1)) + M / 2 ^ j % 2 = M / 2 ^ j := by
  rw [Nat.pow_succ, ← Nat.div_div_eq_div_mul]; omega
theorem low_bit (x y j : Nat) (hj : j < 64) : y / 2 ^ j % 2 = (x * 18446744073709551616 + y) / 2 ^ j % 2 := by
  have e : x * 18446744073709551616 = 2 ^ j * (x * 2 ^ (64 - j)) := by
    rw [Nat.mul_left_comm, ← Nat.pow_add, show j + (64 - j) = 64 by omega]
  rw [e, Nat.mul_add_div (Nat.pow_pos (by decide))]
  obtain ⟨k, hk⟩ : ∃ k, 64 - j = k + 1 := ⟨63 - j, by omega⟩
  rw [hk, Nat.pow_succ, ← Nat.mul_assoc]
  omega
/-- Memory while Of reads a number: its box, and the answer's. -/
def W0 (n : Bool) (x y : Nat) (w : World) : World := (w.alloc (.cells #[.bool n, .int .u64 (x : Int), .int .u64 (y : Int)] 24)).alloc (.cells #[.bool false, .slice none 0 0] 34)
theorem W0_size (n : Bool) (x y : Nat) (w : World) : (W0 n x y w).heap.size = w.heap.size + 2 := by simp [W0]
structure OfW (n : Bool) (x y : Nat) (w : World) (v : Value) (M : Nat) (wr : World) : Prop where
  own : OI wr (w.heap.size + 2) v (dg M)
  bel : Below (w.heap.size + 2) (W0 n x y w) wr
theorem OfW.cells {n : Bool} {x y : Nat} {w : World} {v : Value} {M : Nat} {wr : World} (h : OfW n x y w v M wr) :
    wr.cell? ⟨w.heap.size, 0, none⟩ = some (.bool n) ∧ wr.cell? ⟨w.heap.size, 1, none⟩ = some (.int .u64 (x : Int)) ∧ wr.cell? ⟨w.heap.size, 2, none⟩ = some (.int .u64 (y : Int)) ∧
    wr.cell? ⟨w.heap.size + 1, 0, none⟩ = some (.bool false) ∧ wr.cell? ⟨w.heap.size + 1, 1, none⟩ = some (.slice none 0 0) ∧
    wr.frozen? ⟨w.heap.size + 1, 0, none⟩ = false ∧ wr.frozen? ⟨w.heap.size + 1, 1, none⟩ = false ∧ w.heap.size + 2 ≤ wr.heap.size := by
  have b := h.bel
  have hs := b.size
  rw [W0_size] at hs
  refine ⟨?_, ?_, ?_, ?_, ?_, ?_, ?_, hs⟩
  · exact (b.cell (by simp)).trans (by simp (maxDischargeDepth := 12) [W0, go_sem])
  · exact (b.cell (by simp)).trans (by simp (maxDischargeDepth := 12) [W0, go_sem])
  · exact (b.cell (by simp)).trans (by simp (maxDischargeDepth := 12) [W0, go_sem])
  · exact (b.cell (by simp)).trans (by simp (maxDischargeDepth := 12) [W0, go_sem])
  · exact (b.cell (by simp)).trans (by simp (maxDischargeDepth := 12) [W0, go_sem])
  · exact (b.frozen (by simp)).trans (by simp (maxDischargeDepth := 12) [W0, go_sem])
  · exact (b.frozen (by simp)).trans (by simp (maxDischargeDepth := 12) [W0, go_sem])
theorem OfW.next {n : Bool} {x y : Nat} {w : World} {v v' : Value} {M M' : Nat} {wr w' : World} (h : OfW n x y w v M wr) (ho : OI w' wr.heap.size v' (dg M')) (hb : Below wr.heap.size wr w') : OfW n x y w v' M' w' := by
  have hs := h.cells.2.2.2.2.2.2.2
  exact ⟨ho.mono hs, h.bel.trans (hb.mono hs)⟩
set_option maxRecDepth 100000 in
set_option maxHeartbeats 800000 in
theorem of_any (n : Bool) (x y : Nat) (w : World) (wx : x < 18446744073709551616) (wy : y < 18446744073709551616) :
    Calls Try.prog 18 #[.agg #[.bool n, .int .u64 (x : Int), .int .u64 (y : Int)]] w fun e w' => (∃ v, e = .returned (.agg #[.bool n, v]) ∧ OI w' w.heap.size v (dg (x * 18446744073709551616 + y))) ∧ Below w.heap.size w w' := by
  obtain ⟨N, hN⟩ : ∃ N, N = x * 18446744073709551616 + y := ⟨_, rfl⟩
  have hNl : N < 10 ^ 39 := by omega
  rw [← hN]
  have hx0 : x / 2 ^ 64 = 0 := Nat.div_eq_of_lt wx
  have hy0 : N / 2 ^ 64 = x := by omega
  have HXL := Lib.hid (show x < 10 ^ 39 by omega)
  have HX0 := Lib.hid hx0; have HY0 := Lib.hid hy0; have HNL := Lib.hid hNl; have HN := Lib.hid hN
  have HWX := Lib.hid wx; have HWY := Lib.hid wy
  clear hN hNl hx0 hy0 wx wy
  go_enter Try.func18, Try.ntmps18
  go_upto_block 0 with fail
  go_cut [3] (fun v wx => OfW n x y w v x wx)
  case first =>
    go_wp2_with fail
    have HS := Lib.hid (show OfW n x y w (.slice none 0 0) 0 (W0 n x y w) from ⟨OI.nil _ _, Below.refl _ _⟩)
    go_loopw [3, 4] (fun v i wr => ∃ j M : Nat, j ≤ 64 ∧ i = .int .i64 ((j : Int) - 1) ∧ Hid (M = x / 2 ^ j) ∧ Hid (OfW n x y w v M wr)) (fun _ i _ => (intOf i + 1).toNat)
    case atStart =>
      exact ⟨64, 0, Nat.le_refl _, rfl, Lib.hid HX0.out.symm, HS.out⟩
    case round =>
      obtain ⟨j, M, hj, rfl, hM, HO⟩ := hrel
      have hO := HO.out
      have hc := hO.cells
      obtain ⟨A, c, rfl, hcl, hri, _⟩ := hO.own.slice
      cases j with
      | zero =>
        obtain rfl : M = x := by have := hM.out; rwa [Nat.pow_zero, Nat.div_one] at this
        clear hO hri
        go_wp2_with fail
        go_meet
        exact HO.out
      | succ j =>
        have c1 := hc.2.1
        obtain ⟨b, hb⟩ : ∃ b, b = x / 2 ^ j % 2 := ⟨_, rfl⟩
        have hbit := of_bit x j HWX.out
        rw [← hb] at hbit
        have hb1 : b ≤ 1 := by omega
        have hMl : M ≤ x := by rw [hM.out]; exact Nat.div_le_self _ _
        have hl1 : (dg M).length ≤ 39 := dg_len_le (Nat.lt_of_le_of_lt hMl HXL.out)
        obtain ⟨M', hM'⟩ : ∃ M', M' = x / 2 ^ j := ⟨_, rfl⟩
        have hstep : 2 * M + b = M' := by
          rw [hM.out, hb, hM']; exact half_step _ _
        have DB := double_any A c M b wr wr.heap.size (Nat.le_refl _) hri hcl hb1 (by omega)
        rw [hstep] at DB
        have DBB := Lib.hid DB; have HM' := Lib.hid hM'
        clear hO hri hc DB hl1 hb hM' hstep hMl
        go_wp2_with fail
        rw [hbit]
        (with_reducible refine (DBB.out).mono ?_)
        rintro e w2 ⟨⟨v2, rfl, ho2⟩, b2⟩
        have HO2 := Lib.hid (HO.out.next ho2 b2)
        clear ho2 b2
        go_wp2_with fail
        go_roundw
        case rel => exact ⟨j, M', by omega, by go_num, HM', HO2⟩
        case measure => simp [intOf]
  case rest =>
    have HS := Lib.hid hcut
    go_upto_block 2 with fail
    go_cut [3] (fun v wx => OfW n x y w v N wx)
    case first =>
      go_wp2_with fail
      go_loopw [3, 5] (fun v i wr => ∃ j M : Nat, j ≤ 64 ∧ i = .int .i64 ((j : Int) - 1) ∧ Hid (M = N / 2 ^ j) ∧ Hid (OfW n x y w v M wr)) (fun _ i _ => (intOf i + 1).toNat)
      case atStart =>
        exact ⟨64, x, Nat.le_refl _, rfl, Lib.hid HY0.out.symm, HS.out⟩
      case round =>
        obtain ⟨j, M, hj, rfl, hM, HO⟩ := hrel
        have hO := HO.out
        have hc := hO.cells
        obtain ⟨A, c, rfl, hcl, hri, _⟩ := hO.own.slice
        cases j with
        | zero =>
          obtain rfl : M = N := by have := hM.out; rwa [Nat.pow_zero, Nat.div_one] at this
          clear hO hri
          go_wp2_with fail
          go_meet
          exact HO.out
        | succ j =>
          have c1 := hc.2.2.1
          obtain ⟨b, hb⟩ : ∃ b, b = y / 2 ^ j % 2 := ⟨_, rfl⟩
          have hbit := of_bit y j HWY.out
          rw [← hb] at hbit
          have hb1 : b ≤ 1 := by omega
          have hMl : M ≤ N := by rw [hM.out]; exact Nat.div_le_self _ _
          have hl1 : (dg M).length ≤ 39 := dg_len_le (Nat.lt_of_le_of_lt hMl HNL.out)
          obtain ⟨M', hM'⟩ : ∃ M', M' = N / 2 ^ j := ⟨_, rfl⟩
          have hstep : 2 * M + b = M' := by
            rw [hM.out, hb, hM', low_bit x y j (by omega), ← HN.out]; exact half_step _ _
          have DB := double_any A c M b wr wr.heap.size (Nat.le_refl _) hri hcl hb1 (by omega)
          rw [hstep] at DB
          have DBB := Lib.hid DB; have HM' := Lib.hid hM'
          clear hO hri hc DB hl1 hb hM' hstep hMl
          go_wp2_with fail
          rw [hbit]
          (with_reducible refine (DBB.out).mono ?_)
          rintro e w2 ⟨⟨v2, rfl, ho2⟩, b2⟩
          have HO2 := Lib.hid (HO.out.next ho2 b2)
          clear ho2 b2
          go_wp2_with fail
          go_roundw
          case rel => exact ⟨j, M', by omega, by go_num, HM', HO2⟩
          case measure => simp [intOf]
    case rest =>
      have hO := hcut
      have hc := hO.cells
      obtain ⟨A, c, rfl, hcl, hri, hAn⟩ := hO.own.slice
      have hl1 : (dg N).length ≤ 39 := dg_len_le HNL.out
      have CU := fun W hB h => rcut_any A c (dg N) W wc.heap.size hB h hcl hAn (dg_dig N) (by omega)
      rw [val_dg] at CU
      have HO := Lib.hid hO; have HC := Lib.hid CU; have HRI := Lib.hid hri
      obtain ⟨k0, k1, k2, r0, r1, f0, f1, hz⟩ := hc
      clear hO hri CU hcut hl1 HS
      go_upto_region 10 with fail
      go_region_held3 (fun w' => w'.cell? ⟨w.heap.size, 0, none⟩ = some (.bool n)) ((first | assumption | (go_simp; done) | (simp (maxDischargeDepth := 12) [go_sem]; done) | (simp (maxDischargeDepth := 12) [go_sem, *]; done)))
        ((go_at_call 58; refine (HC.out _ (by simp) (by exact HRI.out)).mono ?_; rintro e w2 ⟨⟨v2, rfl, ho2⟩, b2⟩; obtain ⟨A2, c2, rfl, hc2, hri2, han2⟩ := ho2.slice; clear hri2 han2; have HO2 := Lib.hid ho2; clear ho2; have hz2 := Below.size b2; (try simp at hz2); have HB2 := Lib.hid b2; have t0 : w2.cell? ⟨w.heap.size, 0, none⟩ = some (.bool n) := (Below.cell b2 (by simp; omega)).trans (by simpa using k0); have r0' : w2.cell? ⟨w.heap.size + 1, 0, none⟩ = some (.bool false) := (Below.cell b2 (by simp; omega)).trans (by simpa using r0); have r1' : w2.cell? ⟨w.heap.size + 1, 1, none⟩ = some (.slice none 0 0) := (Below.cell b2 (by simp; omega)).trans (by simpa using r1); have f0' : w2.frozen? ⟨w.heap.size + 1, 0, none⟩ = false := (Below.frozen b2 (by simp; omega)).trans (by simpa using f0); have f1' : w2.frozen? ⟨w.heap.size + 1, 1, none⟩ = false := (Below.frozen b2 (by simp; omega)).trans (by simpa using f1); have hz3 : w.heap.size + 1 < w2.heap.size := (by omega)))
      go_wp2
      (try simp only [Exit.inBlock, Exit.then]); refine bodyPost_ret (by simp [results, Try.results18, go_sem, *]; try rfl) rfl ?_
      refine ⟨⟨_, rfl, ((HO2.out.setCell (by simp; omega) _).setCell (by simp; omega) _).mono (by simp; omega)⟩, ?_⟩
      have hb0 : Below w.heap.size w (W0 n x y w) := by unfold W0; (repeat' (first | (with_reducible exact Below.refl _ _) | (refine Below.trans ?_ (Below.mono (by with_reducible assumption) ?_)) | (with_reducible exact Below.refl _ _) | (with_reducible refine below_drewN ?_ _) | (with_reducible refine Below.drew ?_) | (with_reducible refine Below.setCell ?_ ?_ _) | (with_reducible refine Below.alloc ?_ ?_ _) | (with_reducible assumption) | (simp; done) | (simp; omega) | omega))
      exact ((((hb0.trans (HO.out.bel.mono (by omega))).drew).trans (HB2.out.mono (by simp; omega))).setCell (by simp) _).setCell (by simp) _
end Go.Proofs.Ytkhhjibpppmekaa
