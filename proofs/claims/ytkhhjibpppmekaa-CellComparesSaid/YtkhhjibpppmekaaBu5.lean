/- Several texts put together: RefA, RefB, RefD, Byt. -/
import Derived.Test.YtkhhjibpppmekaaBu4
import Derived.Laws.BitsAllLaws
import Derived.Test.YtkhhjibpppmekaaBu1
import Derived.Laws.AppendOwnNone
import Derived.Below
import Derived.Laws.IdiomStrings
import Derived.Lib.SlBytesConst
/- fieldfareref01: cut, double. -/
namespace Go.Proofs.Ytkhhjibpppmekaa
open Go.RowKit
theorem itake_run (A : Option Addr) (n c i : Nat) (h : i ≤ c) (W : World) : (Instr.slice 32 (.slice A n c) none (some (.int .i64 (i : Int))) none).run Try.prog W = .ok (.slice A i c) W := by
  rw [run_slice_h W 32 A n c (by kernel_rfl) .i64 i (by omega) (by omega)]
  simp [go_sem]
theorem icut_run (A : Option Addr) (n c i : Nat) (h : i ≤ n) (W : World) : (Instr.slice 32 (.slice A n c) (some (.int .i64 (i : Int))) none none).run Try.prog W = .ok (.slice (if c = i then A else A.map (·.add i)) (n - i) (c - i)) W := by
  rw [run_slice_l W 32 A n c (by kernel_rfl) .i64 i (by omega) (by omega)]
  simp [go_sem]
set_option maxRecDepth 100000 in
set_option maxHeartbeats 800000 in
theorem rcut_any (A : Option Addr) (c : Nat) (ds : List Nat) (w : World) (B0 : Nat) (hB0 : B0 ≤ w.heap.size) (hr : RI w B0 A ds) (hc : ds.length ≤ c) (hA : A = none → ds = [] ∧ c = 0) (hd : Dig10 ds) (hm : ds.length ≤ 1000000) :
    Calls Try.prog 58 #[.slice A ds.length c] w fun e w' => (∃ v, e = .returned v ∧ OI w' w.heap.size v (dg (val ds))) ∧ Below w.heap.size w w' := by
  have HR := Lib.hid hr
  have HA := Lib.hid hA
  have HD := Lib.hid hd
  have HV := Lib.hid (show val (ds.take ds.length) = val ds by rw [List.take_length])
  clear hr hA hd
  go_enter Try.func58, Try.ntmps58
  go_upto_block 0 with fail
  go_cut [3] (fun n wx => ∃ k : Nat, n = .int .i64 (k : Int) ∧ k ≤ ds.length ∧ Hid (ds.take k = dg (val ds)) ∧ w = wx)
  case first =>
    go_wp2_with fail
    go_loop [3] (fun n => ∃ k : Nat, n = .int .i64 (k : Int) ∧ k ≤ ds.length ∧ Hid (val (ds.take k) = val ds)) (fun n => (intOf n).toNat)
    case atStart => exact ⟨ds.length, rfl, Nat.le_refl _, HV.out⟩
    case round =>
      obtain ⟨k, rfl, hk, hv⟩ := hrel
      cases k with
      | zero =>
        have hfin := cut_done HD.out 0 (by omega) hv.out (.inl rfl)
        have HF := Lib.hid hfin; clear hfin
        go_wp2_with fail
        go_meet
        exact ⟨0, rfl, by omega, HF, rfl⟩
      | succ k =>
        obtain ⟨ad, rfl, hb, hcell⟩ := HR.out (by omega)
        have hcl := hcell k (by omega)
        have hlt : k < ds.length := by omega
        obtain ⟨x, hx⟩ : ∃ x, x = ds[k] := ⟨_, rfl⟩
        rw [← hx] at hcl
        have HX := Lib.hid hx; clear hx hcell hb
        by_cases h0 : x = 0
        · subst h0
          have hv2 := (val_take_zero hlt HX.out.symm).symm.trans hv.out
          have HV2 := Lib.hid hv2; clear hv2
          go_wp2_with fail
          go_round
          case rel => exact ⟨k, rfl, by omega, HV2.out⟩
          case measure => simp [intOf]
        · have hfin := cut_done HD.out (k + 1) hk hv.out (.inr ⟨k, rfl, hlt, by rw [← HX.out]; exact h0⟩)
          have h1 : ((x : Int) == 0) = false := by rw [beq_eq_false_iff_ne]; omega
          have HF := Lib.hid hfin; clear hfin h0
          go_wp2_with fail
          go_meet
          exact ⟨k + 1, by go_num, hk, HF, rfl⟩
  case rest =>
    obtain ⟨k, rfl, hk, hF, rfl⟩ := hcut
    have hts := fun W => itake_run A ds.length c k (by omega) W
    have hb1 : Below w.heap.size w (w.alloc (.cells (inums []) 3)) := by (repeat' (first | (with_reducible exact Below.refl _ _) | (refine Below.trans ?_ (Below.mono (by with_reducible assumption) ?_)) | (with_reducible exact Below.refl _ _) | (with_reducible refine below_drewN ?_ _) | (with_reducible refine Below.drew ?_) | (with_reducible refine Below.setCell ?_ ?_ _) | (with_reducible refine Below.alloc ?_ ?_ _) | (with_reducible assumption) | (simp; done) | (simp; omega) | omega))
    have HO := Lib.hid (OI.lit w [] (base := w.heap.size) (Nat.le_refl _) (by decide))
    have HR1 := Lib.hid ((HR.out.below (hb1.mono hB0)).take k)
    have HB1 := Lib.hid hb1
    clear hb1
    have hkl : (ds.take k).length = k := by rw [List.length_take]; omega
    have HKL := Lib.hid hkl; clear hkl
    go_wp2_with (at_builtin; refine wpList_appI rfl (.tmp 18) (.tmp 21) rfl w.heap.size (by simp) _ [] rfl HO.out A k c (ds.take k) _ rfl HKL.out (by intro e; obtain ⟨h1, h2⟩ := HA.out e; rw [h1]; exact ⟨by simp, h2⟩) HR1.out (by have := HKL.out; simp; omega) ?_; intro v2 w5 ho5 hg5; have HB5 := Lib.hid (HO.out.below hg5 HB1.out (Nat.le_refl _) (by simp)); have HO5 := Lib.hid ho5; clear ho5 hg5)
    go_ret
    exact ⟨⟨v2, rfl, by rw [← hF.out]; exact HO5.out⟩, HB5.out⟩
set_option maxRecDepth 100000 in
set_option maxHeartbeats 800000 in
theorem double_any (A : Option Addr) (c N b : Nat) (w : World) (B0 : Nat) (hB0 : B0 ≤ w.heap.size) (hr : RI w B0 A (dg N)) (hc : (dg N).length ≤ c) (hb : b ≤ 1) (hm : (dg N).length ≤ 1000000) :
    Calls Try.prog 57 #[.slice A (dg N).length c, .int .i64 (b : Int)] w fun e w' => (∃ v, e = .returned v ∧ OI w' w.heap.size v (dg (2 * N + b))) ∧ Below w.heap.size w w' := by
  have HR := Lib.hid hr
  have HD := Lib.hid (dg_dig N)
  obtain ⟨ds, hds⟩ : ∃ ds, ds = dg N := ⟨_, rfl⟩
  have hvd : val ds = N := by rw [hds, val_dg]
  rw [← hds] at HR HD hc hm
  rw [← hds]
  have HDS := Lib.hid hds; have HV := Lib.hid hvd
  clear hr hds hvd
  go_enter Try.func57, Try.ntmps57
  go_upto_block 0 with fail
  go_cut [1, 5] (fun x v wx => ∃ (q : Nat) (L : List Nat), x = .int .i64 (q : Int) ∧ q ≤ 1 ∧ Hid (OI wx w.heap.size v L) ∧ Hid (L.length = ds.length ∧ Dig10 L ∧ val L + 10 ^ L.length * q = 2 * N + b) ∧ w.heap.size ≤ wx.heap.size ∧ Hid (Below w.heap.size w wx))
  case first =>
    go_wp2_with fail
    go_loopw [1, 5, 6] (fun x v i wr => ∃ (k q : Nat) (L : List Nat), i = .int .i64 (k : Int) ∧ k ≤ ds.length ∧ x = .int .i64 (q : Int) ∧ q ≤ 1 ∧ Hid (OI wr w.heap.size v L) ∧ Hid (L.length = k ∧ Dig10 L ∧ val L + 10 ^ L.length * (q + 2 * val (ds.drop k)) = 2 * N + b) ∧ w.heap.size ≤ wr.heap.size ∧ Hid (Below w.heap.size w wr)) (fun _ _ i _ => ds.length - (intOf i).toNat)
    case atStart => exact ⟨0, b, [], rfl, Nat.zero_le _, rfl, hb, Lib.hid (OI.nil _ _), Lib.hid ⟨rfl, Dig10.nil, by simp [val, HV.out]; omega⟩, Nat.le_refl _, Lib.hid (Below.refl _ _)⟩
    case round =>
      obtain ⟨k, q, L, rfl, hk, rfl, hq, hO, hL, hwr, hB⟩ := hrel
      by_cases hlt : k < ds.length
      · have hRr := HR.out.below (hB.out.mono hB0)
        obtain ⟨ad, rfl, hbk, hcell⟩ := hRr (by omega)
        have hcl := hcell k hlt
        have hxd := HD.out ds[k] (List.getElem_mem hlt)
        have hdr : ds.drop k = ds[k] :: ds.drop (k + 1) := List.drop_eq_getElem_cons hlt
        obtain ⟨x, hx⟩ : ∃ x, x = ds[k] := ⟨_, rfl⟩
        rw [← hx] at hcl hxd hdr
        obtain ⟨r, hr⟩ : ∃ r, r = (2 * x + q) % 10 := ⟨_, rfl⟩
        obtain ⟨q', hq'⟩ : ∃ q', q' = (2 * x + q) / 10 := ⟨_, rfl⟩
        have hr1 : (2 * (x : Int) + (q : Int)) % 10 = (r : Int) := by omega
        have hq1 : (2 * (x : Int) + (q : Int)) / 10 = (q' : Int) := by omega
        have hq2 : q' ≤ 1 := by omega
        have hr2 : r < 10 := by omega
        have hnew : (L ++ [r]).length = k + 1 ∧ Dig10 (L ++ [r]) ∧ val (L ++ [r]) + 10 ^ (L ++ [r]).length * (q' + 2 * val (ds.drop (k + 1))) = 2 * N + b := by
          obtain ⟨l1, l2, l3⟩ := hL.out
          refine ⟨by simp [l1], l2.app (Dig10.one hr2), ?_⟩
          rw [hdr] at l3
          simp only [val] at l3
          rw [val_app, List.length_append, List.length_singleton, Nat.pow_succ]
          simp only [val]
          rw [← l3]
          have e : q + 2 * (x + 10 * val (ds.drop (k + 1))) = r + 10 * (q' + 2 * val (ds.drop (k + 1))) := by omega
          rw [e]
          generalize 10 ^ L.length = P
          generalize q' + 2 * val (ds.drop (k + 1)) = M
          rw [Nat.mul_zero, Nat.add_zero, Nat.mul_add, Nat.mul_assoc, Nat.add_assoc]
        have HN := Lib.hid hnew
        have hb1 : Below w.heap.size w (wr.alloc (.cells (inums [r]) 3)) := by refine hB.out.trans ?_; (repeat' (first | (with_reducible exact Below.refl _ _) | (refine Below.trans ?_ (Below.mono (by with_reducible assumption) ?_)) | (with_reducible exact Below.refl _ _) | (with_reducible refine below_drewN ?_ _) | (with_reducible refine Below.drew ?_) | (with_reducible refine Below.setCell ?_ ?_ _) | (with_reducible refine Below.alloc ?_ ?_ _) | (with_reducible assumption) | (simp; done) | (simp; omega) | omega))
        have HB1 := Lib.hid hb1
        have HO1 := Lib.hid (hO.out.alloc (.cells (inums [r]) 3))
        clear hnew hb1 hx hdr hr hq' hcell hbk hRr
        go_wp2_with (at_builtin; refine wpList_appI rfl (.tmp 21) (.tmp 24) rfl w.heap.size (by simp; omega) _ L rfl HO1.out (some ⟨wr.heap.size, 0, none⟩) 1 1 [r] _ rfl rfl (by intro e; cases e) (ri_row wr [r] _ _) (by have := hL.out.1; simp; omega) ?_; intro v2 w5 ho5 hg5; have HB5 := Lib.hid (HO1.out.below hg5 HB1.out (Nat.le_refl _) (by simp; omega)); have hz5 : w.heap.size ≤ w5.heap.size := Nat.le_trans (by simp; omega) hg5.size; have HO5 := Lib.hid ho5; clear ho5 hg5)
        go_roundw
        case rel => exact ⟨k + 1, q', L ++ [r], by go_num, by omega, congrArg (Value.int .i64) (by omega), hq2, HO5, HN, hz5, HB5⟩
        case measure => simp [intOf]; omega
      · obtain rfl : k = ds.length := by omega
        go_wp2_with fail
        go_meet
        refine ⟨q, L, rfl, hq, hO, Lib.hid ?_, hwr, hB⟩
        obtain ⟨l1, l2, l3⟩ := hL.out
        exact ⟨l1, l2, by simpa [val] using l3⟩
  case rest =>
    obtain ⟨q, L, rfl, hq, hO, hL, hwr, hB⟩ := hcut
    have hdone := dbl_done hb L q hq hL.out.2.1 (by rw [hL.out.1, HDS.out]) hL.out.2.2
    have HDN := Lib.hid hdone
    clear hdone
    by_cases h1 : q = 1
    · subst h1
      have hb1 : Below w.heap.size w (wc.alloc (.cells (inums [1]) 3)) := by refine hB.out.trans ?_; (repeat' (first | (with_reducible exact Below.refl _ _) | (refine Below.trans ?_ (Below.mono (by with_reducible assumption) ?_)) | (with_reducible exact Below.refl _ _) | (with_reducible refine below_drewN ?_ _) | (with_reducible refine Below.drew ?_) | (with_reducible refine Below.setCell ?_ ?_ _) | (with_reducible refine Below.alloc ?_ ?_ _) | (with_reducible assumption) | (simp; done) | (simp; omega) | omega))
      have HB1 := Lib.hid hb1
      have HO1 := Lib.hid (hO.out.alloc (.cells (inums [1]) 3))
      clear hb1
      go_wp2_with (at_builtin; refine wpList_appI rfl (.tmp 30) (.tmp 32) rfl w.heap.size (by simp; omega) _ L rfl HO1.out (some ⟨wc.heap.size, 0, none⟩) 1 1 [1] _ rfl rfl (by intro e; cases e) (ri_row wc [1] _ _) (by have := hL.out.1; simp; omega) ?_; intro v2 w5 ho5 hg5; have HB5 := Lib.hid (HO1.out.below hg5 HB1.out (Nat.le_refl _) (by simp; omega)); have HO5 := Lib.hid ho5; clear ho5 hg5)
      go_ret
      exact ⟨⟨v2, rfl, by rw [← HDN.out.1 trivial]; exact HO5.out⟩, HB5.out⟩
    · obtain rfl : q = 0 := by omega
      clear h1
      go_wp2_with fail
      go_ret
      exact ⟨⟨u5, rfl, by rw [← HDN.out.2 trivial]; exact hO.out⟩, hB.out⟩
end Go.Proofs.Ytkhhjibpppmekaa

/- fieldfareref01: Of. -/
namespace Go.Proofs.Ytkhhjibpppmekaa
open Go.RowKit
theorem dg_len_le {M k : Nat} (h : M < 10 ^ k) : (dg M).length ≤ k := by
  rcases Nat.lt_or_ge k (dg M).length with hlt | hge
  · have hM : M ≠ 0 := by rintro rfl; simp [dg_zero] at hlt
    have h1 := dg_ge M hM
    have h2 : 10 ^ k ≤ 10 ^ ((dg M).length - 1) := Nat.pow_le_pow_right (by decide) (by omega)
    omega
  · exact hge
theorem of_bit (x j : Nat) (hx : x < 18446744073709551616) : wrap64 (bits .and .u64 ((x : Int) / 2 ^ j) 1) = ((x / 2 ^ j % 2 : Nat) : Int) := by
  have e : ((x : Int) / 2 ^ j) = ((x / 2 ^ j : Nat) : Int) := by simp [Int.natCast_ediv, Int.natCast_pow]
  have hl : x / 2 ^ j ≤ x := Nat.div_le_self _ _
  rw [e, show (1 : Int) = ((1 : Nat) : Int) from rfl, u64_and_nat _ _ (by omega) (by decide), Nat.and_one_is_mod]
  unfold wrap64; omega
theorem half_step (M j : Nat) : 2 * (M / 2 ^ (j + 1)) + M / 2 ^ j % 2 = M / 2 ^ j := by
  rw [Nat.pow_succ, ← Nat.div_div_eq_div_mul]; omega
theorem low_bit (x y j : Nat) (hj : j < 64) : y / 2 ^ j % 2 = (x * 18446744073709551616 + y) / 2 ^ j % 2 := by
  have e : x * 18446744073709551616 = 2 ^ j * (x * 2 ^ (64 - j)) := by
    rw [Nat.mul_left_comm, ← Nat.pow_add, show j + (64 - j) = 64 by omega]
  rw [e, Nat.mul_add_div (Nat.pow_pos (by decide))]
  obtain ⟨k, hk⟩ : ∃ k, 64 - j = k + 1 := ⟨63 - j, by omega⟩
  rw [hk, Nat.pow_succ, ← Nat.mul_assoc]
  omega
/-- Memory while Of reads a number: its box, and the answer's. -/
def W0 (n : Bool) (x y : Nat) (w : World) : World := (w.alloc (.cells #[.bool n, .int .u64 (x : Int), .int .u64 (y : Int)] 24)).alloc (.cells #[.bool false, .slice none 0 0] 34)
theorem W0_size (n : Bool) (x y : Nat) (w : World) : (W0 n x y w).heap.size = w.heap.size + 2 := by simp [W0]
structure OfW (n : Bool) (x y : Nat) (w : World) (v : Value) (M : Nat) (wr : World) : Prop where
  own : OI wr (w.heap.size + 2) v (dg M)
  bel : Below (w.heap.size + 2) (W0 n x y w) wr
theorem OfW.cells {n : Bool} {x y : Nat} {w : World} {v : Value} {M : Nat} {wr : World} (h : OfW n x y w v M wr) :
    wr.cell? ⟨w.heap.size, 0, none⟩ = some (.bool n) ∧ wr.cell? ⟨w.heap.size, 1, none⟩ = some (.int .u64 (x : Int)) ∧ wr.cell? ⟨w.heap.size, 2, none⟩ = some (.int .u64 (y : Int)) ∧
    wr.cell? ⟨w.heap.size + 1, 0, none⟩ = some (.bool false) ∧ wr.cell? ⟨w.heap.size + 1, 1, none⟩ = some (.slice none 0 0) ∧
    wr.frozen? ⟨w.heap.size + 1, 0, none⟩ = false ∧ wr.frozen? ⟨w.heap.size + 1, 1, none⟩ = false ∧ w.heap.size + 2 ≤ wr.heap.size := by
  have b := h.bel
  have hs := b.size
  rw [W0_size] at hs
  refine ⟨?_, ?_, ?_, ?_, ?_, ?_, ?_, hs⟩
  · exact (b.cell (by simp)).trans (by simp (maxDischargeDepth := 12) [W0, go_sem])
  · exact (b.cell (by simp)).trans (by simp (maxDischargeDepth := 12) [W0, go_sem])
  · exact (b.cell (by simp)).trans (by simp (maxDischargeDepth := 12) [W0, go_sem])
  · exact (b.cell (by simp)).trans (by simp (maxDischargeDepth := 12) [W0, go_sem])
  · exact (b.cell (by simp)).trans (by simp (maxDischargeDepth := 12) [W0, go_sem])
  · exact (b.frozen (by simp)).trans (by simp (maxDischargeDepth := 12) [W0, go_sem])
  · exact (b.frozen (by simp)).trans (by simp (maxDischargeDepth := 12) [W0, go_sem])
theorem OfW.next {n : Bool} {x y : Nat} {w : World} {v v' : Value} {M M' : Nat} {wr w' : World} (h : OfW n x y w v M wr) (ho : OI w' wr.heap.size v' (dg M')) (hb : Below wr.heap.size wr w') : OfW n x y w v' M' w' := by
  have hs := h.cells.2.2.2.2.2.2.2
  exact ⟨ho.mono hs, h.bel.trans (hb.mono hs)⟩
set_option maxRecDepth 100000 in
set_option maxHeartbeats 800000 in
theorem of_any (n : Bool) (x y : Nat) (w : World) (wx : x < 18446744073709551616) (wy : y < 18446744073709551616) :
    Calls Try.prog 18 #[.agg #[.bool n, .int .u64 (x : Int), .int .u64 (y : Int)]] w fun e w' => (∃ v, e = .returned (.agg #[.bool n, v]) ∧ OI w' w.heap.size v (dg (x * 18446744073709551616 + y))) ∧ Below w.heap.size w w' := by
  obtain ⟨N, hN⟩ : ∃ N, N = x * 18446744073709551616 + y := ⟨_, rfl⟩
  have hNl : N < 10 ^ 39 := by omega
  rw [← hN]
  have hx0 : x / 2 ^ 64 = 0 := Nat.div_eq_of_lt wx
  have hy0 : N / 2 ^ 64 = x := by omega
  have HXL := Lib.hid (show x < 10 ^ 39 by omega)
  have HX0 := Lib.hid hx0; have HY0 := Lib.hid hy0; have HNL := Lib.hid hNl; have HN := Lib.hid hN
  have HWX := Lib.hid wx; have HWY := Lib.hid wy
  clear hN hNl hx0 hy0 wx wy
  go_enter Try.func18, Try.ntmps18
  go_upto_block 0 with fail
  go_cut [3] (fun v wx => OfW n x y w v x wx)
  case first =>
    go_wp2_with fail
    have HS := Lib.hid (show OfW n x y w (.slice none 0 0) 0 (W0 n x y w) from ⟨OI.nil _ _, Below.refl _ _⟩)
    go_loopw [3, 4] (fun v i wr => ∃ j M : Nat, j ≤ 64 ∧ i = .int .i64 ((j : Int) - 1) ∧ Hid (M = x / 2 ^ j) ∧ Hid (OfW n x y w v M wr)) (fun _ i _ => (intOf i + 1).toNat)
    case atStart =>
      exact ⟨64, 0, Nat.le_refl _, rfl, Lib.hid HX0.out.symm, HS.out⟩
    case round =>
      obtain ⟨j, M, hj, rfl, hM, HO⟩ := hrel
      have hO := HO.out
      have hc := hO.cells
      obtain ⟨A, c, rfl, hcl, hri, _⟩ := hO.own.slice
      cases j with
      | zero =>
        obtain rfl : M = x := by have := hM.out; rwa [Nat.pow_zero, Nat.div_one] at this
        clear hO hri
        go_wp2_with fail
        go_meet
        exact HO.out
      | succ j =>
        have c1 := hc.2.1
        obtain ⟨b, hb⟩ : ∃ b, b = x / 2 ^ j % 2 := ⟨_, rfl⟩
        have hbit := of_bit x j HWX.out
        rw [← hb] at hbit
        have hb1 : b ≤ 1 := by omega
        have hMl : M ≤ x := by rw [hM.out]; exact Nat.div_le_self _ _
        have hl1 : (dg M).length ≤ 39 := dg_len_le (Nat.lt_of_le_of_lt hMl HXL.out)
        obtain ⟨M', hM'⟩ : ∃ M', M' = x / 2 ^ j := ⟨_, rfl⟩
        have hstep : 2 * M + b = M' := by
          rw [hM.out, hb, hM']; exact half_step _ _
        have DB := double_any A c M b wr wr.heap.size (Nat.le_refl _) hri hcl hb1 (by omega)
        rw [hstep] at DB
        have DBB := Lib.hid DB; have HM' := Lib.hid hM'
        clear hO hri hc DB hl1 hb hM' hstep hMl
        go_wp2_with fail
        rw [hbit]
        (with_reducible refine (DBB.out).mono ?_)
        rintro e w2 ⟨⟨v2, rfl, ho2⟩, b2⟩
        have HO2 := Lib.hid (HO.out.next ho2 b2)
        clear ho2 b2
        go_wp2_with fail
        go_roundw
        case rel => exact ⟨j, M', by omega, by go_num, HM', HO2⟩
        case measure => simp [intOf]
  case rest =>
    have HS := Lib.hid hcut
    go_upto_block 2 with fail
    go_cut [3] (fun v wx => OfW n x y w v N wx)
    case first =>
      go_wp2_with fail
      go_loopw [3, 5] (fun v i wr => ∃ j M : Nat, j ≤ 64 ∧ i = .int .i64 ((j : Int) - 1) ∧ Hid (M = N / 2 ^ j) ∧ Hid (OfW n x y w v M wr)) (fun _ i _ => (intOf i + 1).toNat)
      case atStart =>
        exact ⟨64, x, Nat.le_refl _, rfl, Lib.hid HY0.out.symm, HS.out⟩
      case round =>
        obtain ⟨j, M, hj, rfl, hM, HO⟩ := hrel
        have hO := HO.out
        have hc := hO.cells
        obtain ⟨A, c, rfl, hcl, hri, _⟩ := hO.own.slice
        cases j with
        | zero =>
          obtain rfl : M = N := by have := hM.out; rwa [Nat.pow_zero, Nat.div_one] at this
          clear hO hri
          go_wp2_with fail
          go_meet
          exact HO.out
        | succ j =>
          have c1 := hc.2.2.1
          obtain ⟨b, hb⟩ : ∃ b, b = y / 2 ^ j % 2 := ⟨_, rfl⟩
          have hbit := of_bit y j HWY.out
          rw [← hb] at hbit
          have hb1 : b ≤ 1 := by omega
          have hMl : M ≤ N := by rw [hM.out]; exact Nat.div_le_self _ _
          have hl1 : (dg M).length ≤ 39 := dg_len_le (Nat.lt_of_le_of_lt hMl HNL.out)
          obtain ⟨M', hM'⟩ : ∃ M', M' = N / 2 ^ j := ⟨_, rfl⟩
          have hstep : 2 * M + b = M' := by
            rw [hM.out, hb, hM', low_bit x y j (by omega), ← HN.out]; exact half_step _ _
          have DB := double_any A c M b wr wr.heap.size (Nat.le_refl _) hri hcl hb1 (by omega)
          rw [hstep] at DB
          have DBB := Lib.hid DB; have HM' := Lib.hid hM'
          clear hO hri hc DB hl1 hb hM' hstep hMl
          go_wp2_with fail
          rw [hbit]
          (with_reducible refine (DBB.out).mono ?_)
          rintro e w2 ⟨⟨v2, rfl, ho2⟩, b2⟩
          have HO2 := Lib.hid (HO.out.next ho2 b2)
          clear ho2 b2
          go_wp2_with fail
          go_roundw
          case rel => exact ⟨j, M', by omega, by go_num, HM', HO2⟩
          case measure => simp [intOf]
    case rest =>
      have hO := hcut
      have hc := hO.cells
      obtain ⟨A, c, rfl, hcl, hri, hAn⟩ := hO.own.slice
      have hl1 : (dg N).length ≤ 39 := dg_len_le HNL.out
      have CU := fun W hB h => rcut_any A c (dg N) W wc.heap.size hB h hcl hAn (dg_dig N) (by omega)
      rw [val_dg] at CU
      have HO := Lib.hid hO; have HC := Lib.hid CU; have HRI := Lib.hid hri
      obtain ⟨k0, k1, k2, r0, r1, f0, f1, hz⟩ := hc
      clear hO hri CU hcut hl1 HS
      go_upto_region 10 with fail
      go_region_held3 (fun w' => w'.cell? ⟨w.heap.size, 0, none⟩ = some (.bool n)) ((first | assumption | (go_simp; done) | (simp (maxDischargeDepth := 12) [go_sem]; done) | (simp (maxDischargeDepth := 12) [go_sem, *]; done)))
        ((go_at_call 58; refine (HC.out _ (by simp) (by exact HRI.out)).mono ?_; rintro e w2 ⟨⟨v2, rfl, ho2⟩, b2⟩; obtain ⟨A2, c2, rfl, hc2, hri2, han2⟩ := ho2.slice; clear hri2 han2; have HO2 := Lib.hid ho2; clear ho2; have hz2 := Below.size b2; (try simp at hz2); have HB2 := Lib.hid b2; have t0 : w2.cell? ⟨w.heap.size, 0, none⟩ = some (.bool n) := (Below.cell b2 (by simp; omega)).trans (by simpa using k0); have r0' : w2.cell? ⟨w.heap.size + 1, 0, none⟩ = some (.bool false) := (Below.cell b2 (by simp; omega)).trans (by simpa using r0); have r1' : w2.cell? ⟨w.heap.size + 1, 1, none⟩ = some (.slice none 0 0) := (Below.cell b2 (by simp; omega)).trans (by simpa using r1); have f0' : w2.frozen? ⟨w.heap.size + 1, 0, none⟩ = false := (Below.frozen b2 (by simp; omega)).trans (by simpa using f0); have f1' : w2.frozen? ⟨w.heap.size + 1, 1, none⟩ = false := (Below.frozen b2 (by simp; omega)).trans (by simpa using f1); have hz3 : w.heap.size + 1 < w2.heap.size := (by omega)))
      go_wp2
      (try simp only [Exit.inBlock, Exit.then]); refine bodyPost_ret (by simp [results, Try.results18, go_sem, *]; try rfl) rfl ?_
      refine ⟨⟨_, rfl, ((HO2.out.setCell (by simp; omega) _).setCell (by simp; omega) _).mono (by simp; omega)⟩, ?_⟩
      have hb0 : Below w.heap.size w (W0 n x y w) := by unfold W0; (repeat' (first | (with_reducible exact Below.refl _ _) | (refine Below.trans ?_ (Below.mono (by with_reducible assumption) ?_)) | (with_reducible exact Below.refl _ _) | (with_reducible refine below_drewN ?_ _) | (with_reducible refine Below.drew ?_) | (with_reducible refine Below.setCell ?_ ?_ _) | (with_reducible refine Below.alloc ?_ ?_ _) | (with_reducible assumption) | (simp; done) | (simp; omega) | omega))
      exact ((((hb0.trans (HO.out.bel.mono (by omega))).drew).trans (HB2.out.mono (by simp; omega))).setCell (by simp) _).setCell (by simp) _
end Go.Proofs.Ytkhhjibpppmekaa

/- Plain: a numeral's digits, as the reference takes them. -/
namespace Go.Proofs.Ytkhhjibpppmekaa
open Go.RowKit
def fdr (B : List Nat) : Nat → List Nat
  | 0 => []
  | j + 1 => fdr B j ++ [B.getD (5 - j) 48 - 48]
def rdig (l : List Nat) : List Nat := (l.map (· - 48)).reverse
theorem fdr_len (B : List Nat) : ∀ j, (fdr B j).length = j := by
  intro j
  induction j with
  | zero => rfl
  | succ j ih => simp [fdr, ih]
theorem fdr_dig {B : List Nat} (h : AllDig B) : ∀ j, Dig10 (fdr B j) := by
  intro j
  induction j with
  | zero => exact Dig10.nil
  | succ j ih => exact ih.app (Dig10.one (by have := getD_dig h (5 - j); omega))
theorem val_fdr (B : List Nat) : val (fdr B 6) = fr 0 B 6 := by
  simp only [fdr, fr, List.nil_append, List.cons_append, val, Nat.sub_self, Nat.sub_zero, Nat.reduceSub]
  omega
theorem rdig_cons (c : Nat) (l : List Nat) : rdig (c :: l) = rdig l ++ [c - 48] := by simp [rdig]
theorem rdig_len (l : List Nat) : (rdig l).length = l.length := by simp [rdig]
theorem rdig_dig {l : List Nat} (h : AllDig l) : Dig10 (rdig l) := by
  intro x hx
  simp only [rdig, List.mem_reverse, List.mem_map] at hx
  obtain ⟨y, hy, rfl⟩ := hx
  have := h y hy; omega
theorem val_rdig_aux : ∀ (l : List Nat) (N : Nat), dv N l = N * 10 ^ l.length + val (rdig l) := by
  intro l
  induction l with
  | nil => intro N; simp [dv, rdig, val]
  | cons c l ih =>
    intro N
    rw [dv_cons, ih, rdig_cons, val_app, rdig_len, List.length_cons, Nat.pow_succ]
    simp only [val]
    rw [Nat.add_mul, Nat.mul_zero, Nat.add_zero, Nat.mul_assoc, Nat.mul_comm 10 (10 ^ l.length), Nat.mul_comm (c - 48)]
    omega
theorem val_rdig (l : List Nat) : val (rdig l) = dv 0 l := by rw [val_rdig_aux l 0]; simp
theorem fr_shift (N : Nat) (B : List Nat) : ∀ k, fr N B k = N * 10 ^ k + fr 0 B k := by
  intro k
  induction k with
  | zero => simp [fr]
  | succ k ih =>
    simp only [fr]
    rw [ih, Nat.pow_succ, ← Nat.mul_assoc]; omega
/-- All the digits, the least first. -/
def allD (bs : List Nat) : List Nat := fdr (behindL bs) 6 ++ rdig (wholeL bs)
theorem allD_dig (bs : List Nat) : Dig10 (allD bs) := (fdr_dig (behind_dig bs) 6).app (rdig_dig (whole_dig bs))
theorem allD_len (bs : List Nat) : (allD bs).length = 6 + nW bs := by unfold allD; rw [List.length_append, fdr_len, rdig_len, whole_len]
theorem val_allD (bs : List Nat) : val (allD bs) = numN bs := by
  unfold allD numN
  rw [val_app, fdr_len, val_fdr, val_rdig, fr_shift (dv 0 (strip (wholeL bs))), dv_strip]
  omega
theorem strip_head {l : List Nat} (h : AllDig l) (hs : 0 < (strip l).length) : 10 ^ ((strip l).length - 1) ≤ dv 0 (strip l) := by
  obtain ⟨c, m, e⟩ : ∃ c m, strip l = c :: m := by
    cases hh : strip l with
    | nil => rw [hh] at hs; simp at hs
    | cons c m => exact ⟨c, m, rfl⟩
  have hc : c ≠ 48 := by
    have : ∀ l : List Nat, ∀ c m, strip l = c :: m → c ≠ 48 := by
      intro l
      induction l with
      | nil => intro c m h; simp [strip] at h
      | cons a l ih =>
        intro c m h
        by_cases ha : a = 48
        · subst ha; rw [strip_cons_zero] at h; exact ih _ _ h
        · rw [strip_cons_other ha] at h; simp at h; omega
    exact this l c m e
  have hcd := (h.strip) c (by rw [e]; exact List.mem_cons_self)
  rw [e, dv_cons, val_rdig_aux, List.length_cons, Nat.add_sub_cancel]
  have : 1 * 10 ^ m.length ≤ (0 * 10 + (c - 48)) * 10 ^ m.length := Nat.mul_le_mul_right _ (by omega)
  omega
theorem over_iff (bs : List Nat) : 36 < (dg (numN bs)).length ↔ 30 < (strip (wholeL bs)).length := by
  have hf := fr_bound (behind_dig bs) 0 6
  have hn : numN bs = dv 0 (strip (wholeL bs)) * 10 ^ 6 + fr 0 (behindL bs) 6 := by unfold numN; rw [fr_shift]
  have hl := dv_bound (whole_dig bs).strip
  constructor
  · intro h
    rcases Nat.lt_or_ge 30 (strip (wholeL bs)).length with h1 | h1
    · exact h1
    · have := numN_lt (bs := bs) h1
      have h2 := dg_len_le (M := numN bs) (k := 36) (by omega)
      omega
  · intro h
    have h1 := strip_head (whole_dig bs) (by omega)
    have h2 : 10 ^ 30 ≤ 10 ^ ((strip (wholeL bs)).length - 1) := Nat.pow_le_pow_right (by decide) (by omega)
    rcases Nat.lt_or_ge 36 (dg (numN bs)).length with h3 | h3
    · exact h3
    · have h4 := dg_lt (numN bs)
      have h5 : 10 ^ (dg (numN bs)).length ≤ 10 ^ 36 := Nat.pow_le_pow_right (by decide) h3
      omega
end Go.Proofs.Ytkhhjibpppmekaa

/- Bytes that a call has made: appending to them. -/
namespace Go.Proofs.Ytkhhjibpppmekaa
open Go.RowKit
theorem rb_of {w : World} {B b : Nat} {bs : List Nat} (hb : ∀ x ∈ bs, x < 256) (h : b < B) (hc : ∀ j (h : j < bs.length), w.cell? ⟨b, j, none⟩ = some (.int .u8 ((bs[j] : Nat) : Int))) : RB w B (some ⟨b, 0, none⟩) bs := by
  refine ⟨hb, fun _ => ⟨_, rfl, h, fun j hj => ?_⟩⟩
  have : (⟨b, 0, none⟩ : Addr).add j = ⟨b, j, none⟩ := by unfold Addr.add; split <;> simp_all
  rw [this]; exact hc j hj
def nums (bs : List Nat) : Array Value := (bs.map fun x => Value.int .u8 ((x : Nat) : Int)).toArray
theorem rb_row (w : World) (bs : List Nat) (hb : ∀ x ∈ bs, x < 256) (t : TypeId) (f : Nat × Nat) : RB (w.alloc (.cells (nums bs) t f)) (w.heap.size + 1) (some ⟨w.heap.size, 0, none⟩) bs := by
  refine rb_of hb (by omega) fun j hj => ?_
  rw [World.cell?_alloc_mark]
  simp [nums, hj]
def bv (x : Nat) : Value := .int .u8 (x : Int)
/-- The value v is a slice that owns its row, which holds bytes. -/
def OB (w : World) (base : Nat) (v : Value) (bs : List Nat) : Prop := (∀ x ∈ bs, x < 256) ∧ w.ownsRow base 5 1 v bs.length (bs.map bv)
theorem OB.slice {w : World} {base : Nat} {v : Value} {bs : List Nat} (h : OB w base v bs) :
    ∃ (A : Option Addr) (c : Nat), v = .slice A bs.length c ∧ bs.length ≤ c ∧ RB w w.heap.size A bs ∧ (A = none → bs = [] ∧ c = 0) := by
  obtain ⟨hb, hl, h | ⟨g, cap, cur, hv, hg, hh, hn, hm, hs, ht⟩⟩ := h
  · obtain ⟨rfl, h0⟩ := h
    refine ⟨none, 0, by rw [h0], by omega, ?_, fun _ => ⟨List.length_eq_zero_iff.1 h0, rfl⟩⟩
    rw [List.length_eq_zero_iff.1 h0]; exact RB.nil
  · refine ⟨some ⟨g, 0, none⟩, cap, hv, hn, ?_, fun e => by cases e⟩
    have hlt : g < w.heap.size := by
      rcases Nat.lt_or_ge g w.heap.size with h | h
      · exact h
      · rw [Array.getElem?_eq_none h] at hh; cases hh
    refine rb_of hb hlt fun j hj => ?_
    rw [cell_of_row w g j cur 5 (0, 0) hh]
    have : (cur.toList.take (bs.length * 1))[j]? = (bs.map bv)[j]? := by rw [ht]
    rw [List.getElem?_take, if_pos (by omega), List.getElem?_map, List.getElem?_eq_getElem hj] at this
    simpa [bv] using this
theorem OB.kept {w w' : World} {base : Nat} {v : Value} {bs : List Nat} {row : Option Nat} (h : OB w base v bs) (hg : w.grownBy w' row) (hne : v.ownBlock = none ∨ v.ownBlock ≠ row) : OB w' base v bs := ⟨h.1, h.2.kept hg hne⟩
theorem OB.alloc {w : World} {base : Nat} {v : Value} {bs : List Nat} (h : OB w base v bs) (o : Obj) : OB (w.alloc o) base v bs := ⟨h.1, h.2.alloc o⟩
theorem OB.nil (w : World) (base : Nat) : OB w base (.slice none 0 0) [] := ⟨by simp, World.ownsRow_nil _ _ _ _⟩
theorem OB.setCell {w : World} {base : Nat} {v : Value} {bs : List Nat} (h : OB w base v bs) {a : Addr} (ha : a.block < base) (u : Value) : OB (w.setCell a u) base v bs := ⟨h.1, ownsRow_setCell_below h.2 ha u⟩
theorem OB.lit (w : World) (bs : List Nat) {base : Nat} (hb : ∀ x ∈ bs, x < 256) (hB : base ≤ w.heap.size) (hl : bs.length ≤ maxLen) : OB (w.alloc (.cells (nums bs) 5)) base (.slice (some ⟨w.heap.size, 0, none⟩) bs.length bs.length) bs :=
  ⟨hb, World.ownsRow_lit w (nums bs) bs.length hB hl (by simp [nums])⟩
theorem OB.block {w : World} {base : Nat} {v : Value} {bs : List Nat} (h : OB w base v bs) : ∀ k, v.ownBlock = some k → base ≤ k ∧ k < w.heap.size := h.2.lt
theorem info_u8 : (Try.prog.info? 5).map (fun i => (i.zero, i.size, i.bytes)) = some (some (.int .u8 0), 1, 1) := by kernel_rfl
/-- append(v, x...) of bytes, to a slice of the call's own. -/
theorem wpList_appB {w : World} {ops : Array Oper} {rest : List Oper} {o : Oper} {a : Act} {Q : Exit → Act → World → Prop} (hgd : o.guard = none) (s x : Operand)
    (ho : o.op = .call { callee := .builtin .append, args := #[s, x], argTypes := #[62, 62] }) (base : Nat) (hbase : base ≤ w.heap.size) (v : Value) (bs : List Nat) (hs : a.eval s = v) (hown : OB w base v bs)
    (A : Option Addr) (m c : Nat) (cs : List Nat) (B : Nat) (hx : a.eval x = .slice A m c) (hm : cs.length = m) (hA : A = none → cs = [] ∧ c = 0) (hr : RB w B A cs) (hlen : bs.length + cs.length ≤ 140737488351232)
    (h : ∀ v' w', OB w' base v' (bs ++ cs) → w.grownBy w' v.ownBlock → wpList Try.prog ops Q rest (a.put o.dst v') w') : wpList Try.prog ops Q (o :: rest) a w := by
  obtain ⟨i0, hi, hz0, hz1, hz2⟩ := info_parts info_u8
  subst hm
  cases A with
  | none =>
    obtain ⟨rfl, rfl⟩ := hA rfl
    refine wpList_append_own_none hgd s x 62 ho base 5 i0 1 Try.underlying62 hi v bs.length (bs.map bv) hs hown.2 hx ?_
    refine h v w (by rw [List.append_nil]; exact hown) ⟨rfl, rfl, rfl, Nat.le_refl _, fun _ _ _ => rfl⟩
  | some ad =>
    refine wpList_append_own w hgd s x 62 ho base 5 i0 (.int .u8 0) 1 1 Try.underlying62 hi hz0 hz1 hz2 rfl (by decide) v bs.length (bs.map bv) hs hown.2 ad cs.length c (cs.map bv) hx (by simp) ?_ ?_ (by unfold maxLen; omega) (by omega) hbase ?_
    · intro j u hu
      rw [List.getElem?_map] at hu
      rcases Nat.lt_or_ge j cs.length with hj | hj
      · obtain ⟨ad', e, _, hc⟩ := hr.2 (by omega)
        cases e
        rw [hc j hj]
        rw [List.getElem?_eq_getElem hj] at hu
        exact hu
      · rw [List.getElem?_eq_none hj] at hu; cases hu
    · intro u hu
      obtain ⟨y, _, rfl⟩ := List.mem_map.1 hu
      rfl
    · intro v' w' hown' hg _
      exact h v' w' ⟨fun y hy => by rcases List.mem_append.1 hy with hy | hy; exact hown.1 y hy; exact hr.1 y hy, by rw [List.length_append, List.map_append]; exact hown'⟩ hg
theorem wpList_appBw {w : World} {ops : Array Oper} {rest : List Oper} {o : Oper} {a : Act} {Q : Exit → Act → World → Prop} (hw : Region.wanted o (yielded ops a.tmps) = true) (s x : Operand)
    (ho : o.op = .call { callee := .builtin .append, args := #[s, x], argTypes := #[62, 62] }) (base : Nat) (hbase : base ≤ w.heap.size) (v : Value) (bs : List Nat) (hs : a.eval s = v) (hown : OB w base v bs)
    (A : Option Addr) (m c : Nat) (cs : List Nat) (B : Nat) (hx : a.eval x = .slice A m c) (hm : cs.length = m) (hA : A = none → cs = [] ∧ c = 0) (hr : RB w B A cs) (hlen : bs.length + cs.length ≤ 140737488351232)
    (h : ∀ v' w', OB w' base v' (bs ++ cs) → w.grownBy w' v.ownBlock → wpList Try.prog ops Q rest (a.put o.dst v') w') : wpList Try.prog ops Q (o :: rest) a w := by
  obtain ⟨i0, hi, hz0, hz1, hz2⟩ := info_parts info_u8
  subst hm
  cases A with
  | none =>
    obtain ⟨rfl, rfl⟩ := hA rfl
    have hrun := run_append_owned_none (P := Try.prog) (w := w) base 62 o.type 5 i0 1 Try.underlying62 hi v bs.length (bs.map bv) hown.2
    refine wpList_step fun K hK => ?_
    rw [if_pos hw]
    unfold Oper.wp
    simp [execOp, ho, resolve, invoke, builtin, hs, hx, hrun, Result.andThen]
    refine hK _ _ (h v w (by rw [List.append_nil]; exact hown) ⟨rfl, rfl, rfl, Nat.le_refl _, fun _ _ _ => rfl⟩)
  | some ad =>
    refine wpList_step fun K hK => ?_
    rw [if_pos hw]
    refine wp_append_own w s x 62 ho base 5 i0 (.int .u8 0) 1 1 Try.underlying62 hi hz0 hz1 hz2 rfl (by decide) v bs.length (bs.map bv) hs hown.2 ad cs.length c (cs.map bv) hx (by simp) ?_ ?_ (by unfold maxLen; omega) (by omega) hbase ?_
    · intro j u hu
      rw [List.getElem?_map] at hu
      rcases Nat.lt_or_ge j cs.length with hj | hj
      · obtain ⟨ad', e, _, hc⟩ := hr.2 (by omega)
        cases e
        rw [hc j hj]
        rw [List.getElem?_eq_getElem hj] at hu
        exact hu
      · rw [List.getElem?_eq_none hj] at hu; cases hu
    · intro u hu
      obtain ⟨y, _, rfl⟩ := List.mem_map.1 hu
      rfl
    · intro v' w' hown' hg _
      exact hK _ _ (h v' w' ⟨fun y hy => by rcases List.mem_append.1 hy with hy | hy; exact hown.1 y hy; exact hr.1 y hy, by rw [List.length_append, List.map_append]; exact hown'⟩ hg)
theorem OB.below {w w' : World} {base B : Nat} {v : Value} {bs : List Nat} {W : World} (h : OB w base v bs) (hg : w.grownBy w' v.ownBlock) (hb : Below B W w) (hB : B ≤ base) (hbase : B ≤ w.heap.size) : Below B W w' :=
  hb.grown hg hbase fun k hk => Nat.le_trans hB (h.block k hk).1
theorem OB.apart {w w' : World} {base b : Nat} {v v' : Value} {bs bs' : List Nat} (h : OB w base v bs) (h' : OB w' b v' bs') (hb : w.heap.size ≤ b) : v.ownBlock = none ∨ v.ownBlock ≠ v'.ownBlock := by
  cases e : v.ownBlock with
  | none => exact .inl rfl
  | some k =>
    right
    intro e2
    have h1 := h.block k e
    have h2 := h'.block k e2.symm
    omega
theorem OB.mono {w : World} {base base' : Nat} {v : Value} {bs : List Nat} (h : OB w base v bs) (hb : base' ≤ base) : OB w base' v bs := by
  obtain ⟨h1, h2, h3 | ⟨g, cap, cur, e, hg, hr⟩⟩ := h
  · exact ⟨h1, h2, .inl h3⟩
  · exact ⟨h1, h2, .inr ⟨g, cap, cur, e, Nat.le_trans hb hg, hr⟩⟩
theorem OB.next {w w' : World} {base : Nat} {v : Value} {bs : List Nat} (h : OB w base v bs) (q : Below w.heap.size w w') : OB w' base v bs :=
  h.kept (row := none) ⟨q.os, q.tape, q.output, q.size, fun k hk _ => q.block k hk⟩ (by cases v.ownBlock <;> simp)
/-- The text as a string of the program's. -/
def strN (l : List Nat) : ByteArray := ⟨(l.map fun x => UInt8.ofNat x).toArray⟩
theorem strN_size (a : List Nat) : (strN a).size = a.length := by simp [strN, ByteArray.size]
theorem strN_app (a b : List Nat) : strN a ++ strN b = strN (a ++ b) := by
  have : (strN a ++ strN b).data = (strN (a ++ b)).data := by
    rw [ByteArray.data_append]; simp [strN]
  cases h1 : strN a ++ strN b; cases h2 : strN (a ++ b); rw [h1, h2] at this; simpa using this
theorem strN_get {L : List Nat} (hb : ∀ x ∈ L, x < 256) (k : Nat) (hk : k < L.length) (hk' : k < (strN L).size) : ((strN L)[k].toNat : Int) = ((L[k] : Nat) : Int) := by
  have e : (strN L)[k] = UInt8.ofNat L[k] := by
    show (strN L).data[k] = _
    simp [strN]
  rw [e, UInt8.toNat_ofNat', Nat.mod_eq_of_lt (show L[k] < 2 ^ 8 from hb _ (List.getElem_mem hk))]
/-- []byte of a string: where the bytes lie. -/
theorem conv_run (W : World) (L : List Nat) (hb : ∀ x ∈ L, x < 256) :
    ∃ (c : Nat) (C : Array Value) (f : Nat × Nat), (convert 9 62 (.string (strN L))).run Try.prog W = .ok (.slice (some ⟨W.heap.size, 0, none⟩) L.length c) ((W.alloc (.cells C 5 f)).drew) ∧ L.length ≤ c ∧
      RB ((W.alloc (.cells C 5 f)).drew) (W.heap.size + 1) (some ⟨W.heap.size, 0, none⟩) L := by
  have h := run_bytes_of_string (P := Try.prog) W 9 62 5 (strN L) Try.underlying9 Try.underlying62 Try.underlying5
  rw [strN_size] at h
  refine ⟨_, _, _, h, grownCap_ge _ _ _ _, ?_⟩
  refine rb_of hb (by omega) fun j hj => ?_
  rw [World.cell?_drew, World.cell?_alloc_mark]
  have hj2 : j < (strN L).data.size := by simpa [strN] using hj
  rw [bytesRow_at _ _ _ hj2]
  exact congrArg (fun x => some (Value.int .u8 x)) (strN_get hb j hj hj2)
end Go.Proofs.Ytkhhjibpppmekaa
