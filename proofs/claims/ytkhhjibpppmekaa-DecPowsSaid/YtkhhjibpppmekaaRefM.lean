/- fieldfareref01: Trunc. Boxes of the reference's numbers. -/
import Derived.Test.YtkhhjibpppmekaaRefL
import Derived.Test.YtkhhjibpppmekaaDecF
namespace Go.Proofs.Ytkhhjibpppmekaa
open Go.RowKit
/-- A box of a sign and digits, that may be written. -/
structure BoxN (w : World) (g : Nat) (n : Bool) (v : Value) : Prop where
  c0 : w.cell? ⟨g, 0, none⟩ = some (.bool n)
  c1 : w.cell? ⟨g, 1, none⟩ = some v
  f0 : w.frozen? ⟨g, 0, none⟩ = false
  f1 : w.frozen? ⟨g, 1, none⟩ = false
  z : g < w.heap.size
theorem BoxN.below {w w' : World} {g : Nat} {n : Bool} {v : Value} (b : BoxN w g n v) (q : Below w.heap.size w w') : BoxN w' g n v :=
  ⟨(q.cell b.z).trans b.c0, (q.cell b.z).trans b.c1, (q.frozen b.z).trans b.f0, (q.frozen b.z).trans b.f1, Nat.lt_of_lt_of_le b.z q.size⟩
theorem BoxN.make (w : World) (n : Bool) (v : Value) {g : Nat} (hg : g = w.heap.size) : BoxN (w.alloc (.cells #[.bool n, v] 34)) g n v := by
  subst hg; refine ⟨?_, ?_, ?_, ?_, ?_⟩ <;> simp (maxDischargeDepth := 12) [go_sem]
theorem BoxN.alloc {w : World} {g : Nat} {n : Bool} {v : Value} (b : BoxN w g n v) (o : Obj) : BoxN (w.alloc o) g n v := b.below ((Below.refl _ _).alloc (Nat.le_refl _) _)
theorem BoxN.drew {w : World} {g : Nat} {n : Bool} {v : Value} (b : BoxN w g n v) : BoxN w.drew g n v := b.below (Below.refl _ _).drew
theorem BoxN.drewN {w : World} {g : Nat} {n : Bool} {v : Value} (b : BoxN w g n v) (k : Nat) : BoxN (w.drewN k) g n v := b.below (below_drewN (Below.refl _ _) k)
theorem BoxN.set {w : World} {g : Nat} {n m : Bool} {v u : Value} (b : BoxN w g n v) : BoxN ((w.setCell ⟨g, 0, none⟩ (.bool m)).setCell ⟨g, 1, none⟩ u) g m u := by
  obtain ⟨c0, c1, f0, f1, z⟩ := b
  refine ⟨?_, ?_, ?_, ?_, ?_⟩ <;> (first | (simp (maxDischargeDepth := 12) [go_sem, *]; done) | (simp; omega))
theorem zn_trunc (z : Int) : zn (truncZ z) = (zn z && decide (0 < (truncZ z).natAbs)) := by
  rcases truncZ_sign (n := zn z) (z := z) rfl with h | h
  · rw [h]; simp [zn]
  · unfold zn at h ⊢
    rw [← h]
    by_cases hz : z < 0
    · rw [decide_eq_true hz] at h ⊢
      symm at h; rw [decide_eq_true_eq] at h
      symm; rw [Bool.true_and, decide_eq_true_eq]; omega
    · rw [decide_eq_false hz]; rfl
theorem trunc_digits (N : Nat) : val ([0, 0, 0, 0, 0, 0] ++ dg (N / 1000000)) = N / 1000000 * 1000000 := by
  rw [val_app, val_dg]; simp [val]; omega
theorem trunc_nat (z : Int) : (truncZ z).natAbs = z.natAbs / 1000000 * 1000000 := by
  have := truncZ_abs z; omega
set_option maxRecDepth 100000 in
set_option maxHeartbeats 800000 in
theorem rtrunc_any (n : Bool) (A : Option Addr) (c : Nat) (z : Int) (hn : n = zn z) (w : World) (B0 : Nat) (hB0 : B0 ≤ w.heap.size) (hr : RI w B0 A (dg z.natAbs)) (hc : (dg z.natAbs).length ≤ c) (hm : (dg z.natAbs).length ≤ 1000) :
    Calls Try.prog 53 #[.agg #[.bool n, .slice A (dg z.natAbs).length c]] w fun e w' => (∃ v, e = .returned v ∧ NV w' w'.heap.size v (truncZ z)) ∧ Below w.heap.size w w' := by
  have htn := trunc_nat z
  have hzt := zn_trunc z
  rw [htn, ← hn] at hzt
  obtain ⟨N, hN⟩ : ∃ N, N = z.natAbs := ⟨_, rfl⟩
  rw [← hN] at hr hc hm htn hzt ⊢
  obtain ⟨l, hl⟩ : ∃ l, l = (dg N).length := ⟨_, rfl⟩
  have hW : Below w.heap.size w (((w.alloc (.cells #[.bool n, .slice A l c] 34)).alloc (.cells #[.bool false, .slice none 0 0] 34)).alloc (.cells (inums [0, 0, 0, 0, 0, 0]) 3)) := by (repeat' (first | (with_reducible exact Below.refl _ _) | (refine Below.trans ?_ (Below.mono (by with_reducible assumption) ?_)) | (with_reducible exact Below.refl _ _) | (with_reducible refine below_drewN ?_ _) | (with_reducible refine Below.drew ?_) | (with_reducible refine Below.setCell ?_ ?_ _) | (with_reducible refine Below.alloc ?_ ?_ _) | (with_reducible assumption) | (simp; done) | (simp; omega) | omega))
  have LO := fun W h => lower_any A c N W B0 h hc
  have hlow : (dg (N / 1000000)).length ≤ 1000 := Nat.le_trans (dg_len_mono (Nat.div_le_self _ _)) hm
  rw [← hl] at LO ⊢
  have HR := Lib.hid (hr.below (hW.mono hB0)); have HLO := Lib.hid LO
  have HBB := Lib.hid hB0; have HTN := Lib.hid htn; have HZT := Lib.hid hzt; have HLW := Lib.hid hlow
  have ho := OI.lit ((w.alloc (.cells #[.bool n, .slice A l c] 34)).alloc (.cells #[.bool false, .slice none 0 0] 34)) [0, 0, 0, 0, 0, 0] (base := w.heap.size + 1 + 1) (by simp) (by simp [maxLen])
  rw [show ((w.alloc (.cells #[.bool n, .slice A l c] 34)).alloc (.cells #[.bool false, .slice none 0 0] 34)).heap.size = w.heap.size + 1 + 1 by simp] at ho
  have HO := Lib.hid ho
  clear ho
  have HW := Lib.hid (show Below (w.heap.size + 1 + 1) ((w.alloc (.cells #[.bool n, .slice A l c] 34)).alloc (.cells #[.bool false, .slice none 0 0] 34)) (((w.alloc (.cells #[.bool n, .slice A l c] 34)).alloc (.cells #[.bool false, .slice none 0 0] 34)).alloc (.cells (inums [0, 0, 0, 0, 0, 0]) 3)) from (Below.refl _ _).alloc (by simp) _)
  have ya_0 := Lib.hid ((BoxN.make w n (.slice A l c) (g := w.heap.size) rfl).alloc (.cells #[.bool false, .slice none 0 0] 34))
  have yr_0 := Lib.hid (BoxN.make (w.alloc (.cells #[.bool n, .slice A l c] 34)) false (.slice none 0 0) (g := w.heap.size + 1) (by simp))
  obtain ⟨Z, hZ⟩ : ∃ Z, Z = [0, 0, 0, 0, 0, 0] ++ dg (N / 1000000) := ⟨_, rfl⟩
  obtain ⟨K, hK⟩ : ∃ K, K = N / 1000000 * 1000000 := ⟨_, rfl⟩
  have hZv : val Z = K := by rw [hZ, hK]; exact trunc_digits N
  have hZd : Dig10 Z := by rw [hZ]; exact Dig10.app (by intro x hx; simp at hx; omega) (dg_dig _)
  have hZl : Z.length ≤ 1000000 := by rw [hZ]; simp; omega
  have HZ := Lib.hid hZ; have HZV := Lib.hid hZv; have HZD := Lib.hid hZd; have HZL := Lib.hid hZl
  rw [← hK] at HTN HZT
  obtain ⟨s, hs⟩ : ∃ s, s = (n && decide (0 < K)) := ⟨_, rfl⟩
  rw [← hs] at HZT
  have SG0 := fun W A' c' => signed_any n A' c' K W
  rw [← hs] at SG0
  have SG := Lib.hid SG0
  clear hZ hK hZv hZd hZl hs SG0 hW LO hr hB0 htn hzt hlow hc hm hl hN hn
  go_enter Try.func53, Try.ntmps53
  go_upto_region 2 with (first
    | (go_at_call 82; refine (HLO.out _ HR.out).mono ?_; rintro e w1 ⟨⟨A2, c2, rfl, hri2, hc2, han2⟩, rfl⟩; have HR2 := Lib.hid hri2; have HC2 := Lib.hid hc2; have HAN2 := Lib.hid han2; clear hri2 hc2 han2)
    | (at_builtin; refine wpList_appI rfl (.tmp 4) (.tmp 7) rfl (w.heap.size + 1 + 1) (by simp) _ [0, 0, 0, 0, 0, 0] rfl HO.out A2 _ c2 (dg (N / 1000000)) _ rfl rfl (by intro e; exact HAN2.out e) HR2.out (by have := HLW.out; simp; omega) ?_; intro v5 w5 ho5 hg5; have HB5 := Lib.hid (HO.out.below hg5 HW.out (Nat.le_refl _) (by simp)); rw [← HZ.out] at ho5; obtain ⟨A5, c5, rfl, hc5, hri5, han5⟩ := ho5.slice; have HO5 := Lib.hid ho5; have HC5 := Lib.hid hc5; have HRI5 := Lib.hid hri5; have HAN5 := Lib.hid han5; clear ho5 hg5 hc5 hri5 han5))
  have hb5 := HB5.out
  have ya_5 := Lib.hid ((ya_0.out.below (hb5.mono (by simp)))); have ya_50 := ya_5.out.c0; have ya_51 := ya_5.out.c1; have ya_52 := ya_5.out.f0; have ya_53 := ya_5.out.f1; have ya_5z := ya_5.out.z
  have yr_5 := Lib.hid ((yr_0.out.below (hb5.mono (by simp)))); have yr_50 := yr_5.out.c0; have yr_51 := yr_5.out.c1; have yr_52 := yr_5.out.f0; have yr_53 := yr_5.out.f1; have yr_5z := yr_5.out.z
  have hz5 : w.heap.size + 1 + 1 ≤ w5.heap.size := by have := hb5.size; simpa using this
  have HBW := Lib.hid (show Below w.heap.size w w5 from ((show Below w.heap.size w ((w.alloc (.cells #[.bool n, .slice A l c] 34)).alloc (.cells #[.bool false, .slice none 0 0] 34)) by (repeat' (first | (with_reducible exact Below.refl _ _) | (refine Below.trans ?_ (Below.mono (by with_reducible assumption) ?_)) | (with_reducible exact Below.refl _ _) | (with_reducible refine below_drewN ?_ _) | (with_reducible refine Below.drew ?_) | (with_reducible refine Below.setCell ?_ ?_ _) | (with_reducible refine Below.alloc ?_ ?_ _) | (with_reducible assumption) | (simp; done) | (simp; omega) | omega))).trans (hb5.mono (by omega))))
  have CU0 : ∀ W, Below w5.heap.size w5 W → Calls Try.prog 58 #[.slice A5 Z.length c5] W fun e w' => (∃ v, e = .returned v ∧ OI w' W.heap.size v (dg K)) ∧ Below W.heap.size W w' := by
    intro W q
    have := rcut_any A5 c5 Z W w5.heap.size q.size (HRI5.out.below q) HC5.out HAN5.out HZD.out HZL.out
    rw [HZV.out] at this
    exact this
  have CU := Lib.hid CU0
  clear CU0 hb5
  go_region_held3 (fun w' => w'.cell? ⟨w.heap.size, 0, none⟩ = some (.bool n) ∧ w'.cell? ⟨w.heap.size, 1, none⟩ = some ((.slice A l c))) ((and_intros <;> (first | (with_reducible assumption) | (go_simp; done) | (simp (maxDischargeDepth := 12) [go_sem]; done) | (simp (maxDischargeDepth := 12) [go_sem, *]; done) | exact (Below.cell (by with_reducible assumption) (by first | (simp; done) | (simp; omega) | omega)).trans (by simp (maxDischargeDepth := 12) [go_sem]))))
    (first
      | (go_at_call 58; (with_reducible refine (CU.out _ (by repeat' (first | (with_reducible exact Below.refl _ _) | (with_reducible refine Below.drew ?_) | (with_reducible refine below_drewN ?_ _)))).mono ?_); rintro e w6 ⟨⟨v6, rfl, ho6⟩, b6⟩; have p6 : Below w5.heap.size w5 w6 := Below.trans (by repeat' (first | (with_reducible assumption) | (with_reducible exact Below.refl _ _) | (with_reducible refine Below.drew ?_) | (with_reducible refine below_drewN ?_ _) | (with_reducible refine Below.alloc ?_ ?_ _) | (with_reducible exact Nat.le_refl _) | (simp; done) | (simp; omega) | omega)) (Below.mono b6 (by first | omega | (simp; done) | (simp; omega))); have ya_6 := Lib.hid (BoxN.below ya_5.out p6); have ya_60 := ya_6.out.c0; have ya_61 := ya_6.out.c1; have ya_62 := ya_6.out.f0; have ya_63 := ya_6.out.f1; have ya_6z := ya_6.out.z; have yr_6 := Lib.hid (BoxN.below yr_5.out p6); have yr_60 := yr_6.out.c0; have yr_61 := yr_6.out.c1; have yr_62 := yr_6.out.f0; have yr_63 := yr_6.out.f1; have yr_6z := yr_6.out.z; obtain ⟨A6, c6, rfl, hc6, hri6, han6⟩ := ho6.slice; have HO6 := Lib.hid ho6; clear ho6 hc6 hri6 han6)
      | (go_at_call 83; (with_reducible refine (SG.out _ _ _).mono ?_); rintro e w7 ⟨rfl, b7⟩; have p7 : Below w6.heap.size w6 w7 := Below.trans (by repeat' (first | (with_reducible assumption) | (with_reducible exact Below.refl _ _) | (with_reducible refine Below.drew ?_) | (with_reducible refine below_drewN ?_ _) | (with_reducible refine Below.alloc ?_ ?_ _) | (with_reducible exact Nat.le_refl _) | (simp; done) | (simp; omega) | omega)) (Below.mono b7 (by first | omega | (simp; done) | (simp; omega))); have ya_7 := Lib.hid (BoxN.below ya_6.out p7); have ya_70 := ya_7.out.c0; have ya_71 := ya_7.out.c1; have ya_72 := ya_7.out.f0; have ya_73 := ya_7.out.f1; have ya_7z := ya_7.out.z; have yr_7 := Lib.hid (BoxN.below yr_6.out p7); have yr_70 := yr_7.out.c0; have yr_71 := yr_7.out.c1; have yr_72 := yr_7.out.f0; have yr_73 := yr_7.out.f1; have yr_7z := yr_7.out.z))
  go_wp2_with fail
  (try simp only [Exit.inBlock, Exit.then]); refine bodyPost_ret (by simp [results, Try.results53, go_sem, *]; try rfl) rfl ?_
  have hz6 := p6.size; have hz7 := p7.size
  have q7 : Below w.heap.size w w7 := HBW.out.trans ((p6.trans (p7.mono hz6)).mono (by omega))
  refine ⟨⟨_, rfl, NV.of (b := w5.heap.size) ?_ HZT.out.symm HTN.out.symm⟩, ?_⟩
  · exact (((HO6.out.mono (by simp)).next p7).setCell (by simp; omega) _).setCell (by simp; omega) _
  · exact (q7.setCell (by simp) _).setCell (by simp) _
end Go.Proofs.Ytkhhjibpppmekaa
