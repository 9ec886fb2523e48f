/- fieldfareref01: cut, double. -/
import Derived.Test.YtkhhjibpppmekaaInts
import Derived.Test.YtkhhjibpppmekaaDig
namespace Go.Proofs.Ytkhhjibpppmekaa
open Go.RowKit
theorem itake_run (A : Option Addr) (n c i : Nat) (h : i ≤ c) (W : World) : (Instr.slice 32 (.slice A n c) none (some (.int .i64 (i : Int))) none).run Try.prog W = .ok (.slice A i c) W := by
  rw [run_slice_h W 32 A n c (by kernel_rfl) .i64 i (by omega) (by omega)]
  simp [go_sem]
theorem icut_run (A : Option Addr) (n c i : Nat) (h : i ≤ n) (W : World) : (Instr.slice 32 (.slice A n c) (some (.int .i64 (i : Int))) none none).run Try.prog W = .ok (.slice (if c = i then A else A.map (·.add i)) (n - i) (c - i)) W := by
  rw [run_slice_l W 32 A n c (by kernel_rfl) .i64 i (by omega) (by omega)]
  simp [go_sem]
set_option maxRecDepth 100000 in
set_option maxHeartbeats 800000 in
theorem rcut_any (A : Option Addr) (c : Nat) (ds : List Nat) (w : World) (B0 : Nat) (hB0 : B0 ≤ w.heap.size) (hr : RI w B0 A ds) (hc : ds.length ≤ c) (hA : A = none → ds = [] ∧ c = 0) (hd : Dig10 ds) (hm : ds.length ≤ 1000000) :
    Calls Try.prog 58 #[.slice A ds.length c] w fun e w' => (∃ v, e = .returned v ∧ OI w' w.heap.size v (dg (val ds))) ∧ Below w.heap.size w w' := by
  have HR := Lib.hid hr
  have HA := Lib.hid hA
  have HD := Lib.hid hd
  have HV := Lib.hid (show val (ds.take ds.length) = val ds by rw [List.take_length])
  clear hr hA hd
  go_enter Try.func58, Try.ntmps58
  go_upto_block 0 with fail
  go_cut [3] (fun n wx => ∃ k : Nat, n = .int .i64 (k : Int) ∧ k ≤ ds.length ∧ Hid (ds.take k = dg (val ds)) ∧ w = wx)
  case first =>
    go_wp2_with fail
    go_loop [3] (fun n => ∃ k : Nat, n = .int .i64 (k : Int) ∧ k ≤ ds.length ∧ Hid (val (ds.take k) = val ds)) (fun n => (intOf n).toNat)
    case atStart => exact ⟨ds.length, rfl, Nat.le_refl _, HV.out⟩
    case round =>
      obtain ⟨k, rfl, hk, hv⟩ := hrel
      cases k with
      | zero =>
        have hfin := cut_done HD.out 0 (by omega) hv.out (.inl rfl)
        have HF := Lib.hid hfin; clear hfin
        go_wp2_with fail
        go_meet
        exact ⟨0, rfl, by omega, HF, rfl⟩
      | succ k =>
        obtain ⟨ad, rfl, hb, hcell⟩ := HR.out (by omega)
        have hcl := hcell k (by omega)
        have hlt : k < ds.length := by omega
        obtain ⟨x, hx⟩ : ∃ x, x = ds[k] := ⟨_, rfl⟩
        rw [← hx] at hcl
        have HX := Lib.hid hx; clear hx hcell hb
        by_cases h0 : x = 0
        · subst h0
          have hv2 := (val_take_zero hlt HX.out.symm).symm.trans hv.out
          have HV2 := Lib.hid hv2; clear hv2
          go_wp2_with fail
          go_round
          case rel => exact ⟨k, rfl, by omega, HV2.out⟩
          case measure => simp [intOf]
        · have hfin := cut_done HD.out (k + 1) hk hv.out (.inr ⟨k, rfl, hlt, by rw [← HX.out]; exact h0⟩)
          have h1 : ((x : Int) == 0) = false := by rw [beq_eq_false_iff_ne]; omega
          have HF := Lib.hid hfin; clear hfin h0
          go_wp2_with fail
          go_meet
          exact ⟨k + 1, by go_num, hk, HF, rfl⟩
  case rest =>
    obtain ⟨k, rfl, hk, hF, rfl⟩ := hcut
    have hts := fun W => itake_run A ds.length c k (by omega) W
    have hb1 : Below w.heap.size w (w.alloc (.cells (inums []) 3)) := by (repeat' (first | (with_reducible exact Below.refl _ _) | (refine Below.trans ?_ (Below.mono (by with_reducible assumption) ?_)) | (with_reducible exact Below.refl _ _) | (with_reducible refine below_drewN ?_ _) | (with_reducible refine Below.drew ?_) | (with_reducible refine Below.setCell ?_ ?_ _) | (with_reducible refine Below.alloc ?_ ?_ _) | (with_reducible assumption) | (simp; done) | (simp; omega) | omega))
    have HO := Lib.hid (OI.lit w [] (base := w.heap.size) (Nat.le_refl _) (by decide))
    have HR1 := Lib.hid ((HR.out.below (hb1.mono hB0)).take k)
    have HB1 := Lib.hid hb1
    clear hb1
    have hkl : (ds.take k).length = k := by rw [List.length_take]; omega
    have HKL := Lib.hid hkl; clear hkl
    go_wp2_with (at_builtin; refine wpList_appI rfl (.tmp 18) (.tmp 21) rfl w.heap.size (by simp) _ [] rfl HO.out A k c (ds.take k) _ rfl HKL.out (by intro e; obtain ⟨h1, h2⟩ := HA.out e; rw [h1]; exact ⟨by simp, h2⟩) HR1.out (by have := HKL.out; simp; omega) ?_; intro v2 w5 ho5 hg5; have HB5 := Lib.hid (HO.out.below hg5 HB1.out (Nat.le_refl _) (by simp)); have HO5 := Lib.hid ho5; clear ho5 hg5)
    go_ret
    exact ⟨⟨v2, rfl, by rw [← hF.out]; exact HO5.out⟩, HB5.out⟩
set_option maxRecDepth 100000 in
set_option maxHeartbeats 800000 in
theorem double_any (A : Option Addr) (c N b : Nat) (w : World) (B0 : Nat) (hB0 : B0 ≤ w.heap.size) (hr : RI w B0 A (dg N)) (hc : (dg N).length ≤ c) (hb : b ≤ 1) (hm : (dg N).length ≤ 1000000) :
    Calls Try.prog 57 #[.slice A (dg N).length c, .int .i64 (b : Int)] w fun e w' => (∃ v, e = .returned v ∧ OI w' w.heap.size v (dg (2 * N + b))) ∧ Below w.heap.size w w' := by
  have HR := Lib.hid hr
  have HD := Lib.hid (dg_dig N)
  obtain ⟨ds, hds⟩ : ∃ ds, ds = dg N := ⟨_, rfl⟩
  have hvd : val ds = N := by rw [hds, val_dg]
  rw [← hds] at HR HD hc hm
  rw [← hds]
  have HDS := Lib.hid hds; have HV := Lib.hid hvd
  clear hr hds hvd
  go_enter Try.func57, Try.ntmps57
  go_upto_block 0 with fail
  go_cut [1, 5] (fun x v wx => ∃ (q : Nat) (L : List Nat), x = .int .i64 (q : Int) ∧ q ≤ 1 ∧ Hid (OI wx w.heap.size v L) ∧ Hid (L.length = ds.length ∧ Dig10 L ∧ val L + 10 ^ L.length * q = 2 * N + b) ∧ w.heap.size ≤ wx.heap.size ∧ Hid (Below w.heap.size w wx))
  case first =>
    go_wp2_with fail
    go_loopw [1, 5, 6] (fun x v i wr => ∃ (k q : Nat) (L : List Nat), i = .int .i64 (k : Int) ∧ k ≤ ds.length ∧ x = .int .i64 (q : Int) ∧ q ≤ 1 ∧ Hid (OI wr w.heap.size v L) ∧ Hid (L.length = k ∧ Dig10 L ∧ val L + 10 ^ L.length * (q + 2 * val (ds.drop k)) = 2 * N + b) ∧ w.heap.size ≤ wr.heap.size ∧ Hid (Below w.heap.size w wr)) (fun _ _ i _ => ds.length - (intOf i).toNat)
    case atStart => exact ⟨0, b, [], rfl, Nat.zero_le _, rfl, hb, Lib.hid (OI.nil _ _), Lib.hid ⟨rfl, Dig10.nil, by simp [val, HV.out]; omega⟩, Nat.le_refl _, Lib.hid (Below.refl _ _)⟩
    case round =>
      obtain ⟨k, q, L, rfl, hk, rfl, hq, hO, hL, hwr, hB⟩ := hrel
      by_cases hlt : k < ds.length
      · have hRr := HR.out.below (hB.out.mono hB0)
        obtain ⟨ad, rfl, hbk, hcell⟩ := hRr (by omega)
        have hcl := hcell k hlt
        have hxd := HD.out ds[k] (List.getElem_mem hlt)
        have hdr : ds.drop k = ds[k] :: ds.drop (k + 1) := List.drop_eq_getElem_cons hlt
        obtain ⟨x, hx⟩ : ∃ x, x = ds[k] := ⟨_, rfl⟩
        rw [← hx] at hcl hxd hdr
        obtain ⟨r, hr⟩ : ∃ r, r = (2 * x + q) % 10 := ⟨_, rfl⟩
        obtain ⟨q', hq'⟩ : ∃ q', q' = (2 * x + q) / 10 := ⟨_, rfl⟩
        have hr1 : (2 * (x : Int) + (q : Int)) % 10 = (r : Int) := by omega
        have hq1 : (2 * (x : Int) + (q : Int)) / 10 = (q' : Int) := by omega
        have hq2 : q' ≤ 1 := by omega
        have hr2 : r < 10 := by omega
        have hnew : (L ++ [r]).length = k + 1 ∧ Dig10 (L ++ [r]) ∧ val (L ++ [r]) + 10 ^ (L ++ [r]).length * (q' + 2 * val (ds.drop (k + 1))) = 2 * N + b := by
          obtain ⟨l1, l2, l3⟩ := hL.out
          refine ⟨by simp [l1], l2.app (Dig10.one hr2), ?_⟩
          rw [hdr] at l3
          simp only [val] at l3
          rw [val_app, List.length_append, List.length_singleton, Nat.pow_succ]
          simp only [val]
          rw [← l3]
          have e : q + 2 * (x + 10 * val (ds.drop (k + 1))) = r + 10 * (q' + 2 * val (ds.drop (k + 1))) := by omega
          rw [e]
          generalize 10 ^ L.length = P
          generalize q' + 2 * val (ds.drop (k + 1)) = M
          rw [Nat.mul_zero, Nat.add_zero, Nat.mul_add, Nat.mul_assoc, Nat.add_assoc]
        have HN := Lib.hid hnew
        have hb1 : Below w.heap.size w (wr.alloc (.cells (inums [r]) 3)) := by refine hB.out.trans ?_; (repeat' (first | (with_reducible exact Below.refl _ _) | (refine Below.trans ?_ (Below.mono (by with_reducible assumption) ?_)) | (with_reducible exact Below.refl _ _) | (with_reducible refine below_drewN ?_ _) | (with_reducible refine Below.drew ?_) | (with_reducible refine Below.setCell ?_ ?_ _) | (with_reducible refine Below.alloc ?_ ?_ _) | (with_reducible assumption) | (simp; done) | (simp; omega) | omega))
        have HB1 := Lib.hid hb1
        have HO1 := Lib.hid (hO.out.alloc (.cells (inums [r]) 3))
        clear hnew hb1 hx hdr hr hq' hcell hbk hRr
        go_wp2_with (at_builtin; refine wpList_appI rfl (.tmp 21) (.tmp 24) rfl w.heap.size (by simp; omega) _ L rfl HO1.out (some ⟨wr.heap.size, 0, none⟩) 1 1 [r] _ rfl rfl (by intro e; cases e) (ri_row wr [r] _ _) (by have := hL.out.1; simp; omega) ?_; intro v2 w5 ho5 hg5; have HB5 := Lib.hid (HO1.out.below hg5 HB1.out (Nat.le_refl _) (by simp; omega)); have hz5 : w.heap.size ≤ w5.heap.size := Nat.le_trans (by simp; omega) hg5.size; have HO5 := Lib.hid ho5; clear ho5 hg5)
        go_roundw
        case rel => exact ⟨k + 1, q', L ++ [r], by go_num, by omega, congrArg (Value.int .i64) (by omega), hq2, HO5, HN, hz5, HB5⟩
        case measure => simp [intOf]; omega
      · obtain rfl : k = ds.length := by omega
        go_wp2_with fail
        go_meet
        refine ⟨q, L, rfl, hq, hO, Lib.hid ?_, hwr, hB⟩
        obtain ⟨l1, l2, l3⟩ := hL.out
        exact ⟨l1, l2, by simpa [val] using l3⟩
  case rest =>
    obtain ⟨q, L, rfl, hq, hO, hL, hwr, hB⟩ := hcut
    have hdone := dbl_done hb L q hq hL.out.2.1 (by rw [hL.out.1, HDS.out]) hL.out.2.2
    have HDN := Lib.hid hdone
    clear hdone
    by_cases h1 : q = 1
    · subst h1
      have hb1 : Below w.heap.size w (wc.alloc (.cells (inums [1]) 3)) := by refine hB.out.trans ?_; (repeat' (first | (with_reducible exact Below.refl _ _) | (refine Below.trans ?_ (Below.mono (by with_reducible assumption) ?_)) | (with_reducible exact Below.refl _ _) | (with_reducible refine below_drewN ?_ _) | (with_reducible refine Below.drew ?_) | (with_reducible refine Below.setCell ?_ ?_ _) | (with_reducible refine Below.alloc ?_ ?_ _) | (with_reducible assumption) | (simp; done) | (simp; omega) | omega))
      have HB1 := Lib.hid hb1
      have HO1 := Lib.hid (hO.out.alloc (.cells (inums [1]) 3))
      clear hb1
      go_wp2_with (at_builtin; refine wpList_appI rfl (.tmp 30) (.tmp 32) rfl w.heap.size (by simp; omega) _ L rfl HO1.out (some ⟨wc.heap.size, 0, none⟩) 1 1 [1] _ rfl rfl (by intro e; cases e) (ri_row wc [1] _ _) (by have := hL.out.1; simp; omega) ?_; intro v2 w5 ho5 hg5; have HB5 := Lib.hid (HO1.out.below hg5 HB1.out (Nat.le_refl _) (by simp; omega)); have HO5 := Lib.hid ho5; clear ho5 hg5)
      go_ret
      exact ⟨⟨v2, rfl, by rw [← HDN.out.1 trivial]; exact HO5.out⟩, HB5.out⟩
    · obtain rfl : q = 0 := by omega
      clear h1
      go_wp2_with fail
      go_ret
      exact ⟨⟨u5, rfl, by rw [← HDN.out.2 trivial]; exact hO.out⟩, hB.out⟩
end Go.Proofs.Ytkhhjibpppmekaa
