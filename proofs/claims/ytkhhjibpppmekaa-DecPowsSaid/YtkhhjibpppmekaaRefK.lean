/- fieldfareref01: over. -/
import Derived.Test.YtkhhjibpppmekaaRefJ
import Derived.Test.YtkhhjibpppmekaaRefC
namespace Go.Proofs.Ytkhhjibpppmekaa
open Go.RowKit
theorem over_step {x V Q b r n s : Nat} (h : V = Q * b + r) (h' : s + n * b = x + 10 * r) : x + 10 * V = (n + 10 * Q) * b + s := by
  subst h
  rw [Nat.mul_add, Nat.add_mul, Nat.mul_assoc]; omega
theorem over_more {x b r k s : Nat} (h9 : x < 10) (hr : r < b) (h : s + k * b = x + 10 * r) (hs : b ≤ s) : k + 1 ≤ 9 := by
  rcases Nat.lt_or_ge k 9 with h1 | h1
  · omega
  · exfalso
    have := Nat.mul_le_mul_right b h1
    omega
theorem over_k {x b r k s : Nat} (h9 : x < 10) (hr : r < b) (h : s + k * b = x + 10 * r) : k < 10 := by
  rcases Nat.lt_or_ge k 10 with h1 | h1
  · exact h1
  · exfalso
    have := Nat.mul_le_mul_right b h1
    omega
set_option maxRecDepth 100000 in
set_option maxHeartbeats 3200000 in
theorem over_any (A A' : Option Addr) (c c' a b : Nat) (w : World) (B0 : Nat) (hB0 : B0 ≤ w.heap.size) (hr : RI w B0 A (dg a)) (hr' : RI w B0 A' (dg b)) (hc : (dg a).length ≤ c) (hc' : (dg b).length ≤ c') (hb : b ≠ 0) (hm : (dg a).length ≤ 1000) (hm' : (dg b).length ≤ 1000) :
    Calls Try.prog 86 #[.slice A (dg a).length c, .slice A' (dg b).length c'] w fun e w' => (∃ v v', e = .returned (.tuple #[v, v']) ∧ OI w' w.heap.size v (dg (a / b)) ∧ OI w' w.heap.size v' (dg (a % b))) ∧ Below w.heap.size w w' := by
  have HR := Lib.hid hr
  have HR' := Lib.hid hr'
  have HBB := Lib.hid hB0
  have HD := Lib.hid (dg_dig a)
  have hva := val_dg a
  obtain ⟨xs, hxs⟩ : ∃ xs, xs = dg a := ⟨_, rfl⟩
  rw [← hxs] at HR HD hc hm hva
  rw [← hxs]
  obtain ⟨nb, hnb⟩ : ∃ nb, nb = (dg b).length := ⟨_, rfl⟩
  have HVA := Lib.hid hva
  have HNB := Lib.hid hnb
  rw [← hnb] at hc' hm'
  rw [← hnb]
  clear hr hr' hB0 hxs hva hnb
  go_enter Try.func86, Try.ntmps86
  go_upto_block 0 with fail
  go_cut [6, 7, 8, 9] (fun vq vr _ _ wx => ∃ (Q : List Nat), Hid (OI wx w.heap.size vq Q) ∧ Hid (OI wx w.heap.size vr (dg (a % b))) ∧ Hid (Dig10 Q ∧ val Q = a / b) ∧ Q.length ≤ 1000 ∧ w.heap.size ≤ wx.heap.size ∧ Hid (Below w.heap.size w wx))
  case first =>
    go_wp2_with fail
    go_loopw [6, 7, 8] (fun vq vr i wr => ∃ (j r : Nat) (Q : List Nat), i = .int .i64 ((j : Int) - 1) ∧ j ≤ xs.length ∧ Hid (OI wr w.heap.size vq Q) ∧ Hid (OI wr w.heap.size vr (dg r)) ∧ Hid (r < b ∧ Q.length = xs.length - j ∧ Dig10 Q ∧ val (xs.drop j) = val Q * b + r) ∧ w.heap.size ≤ wr.heap.size ∧ Hid (Below w.heap.size w wr)) (fun _ _ i _ => (intOf i + 1).toNat)
    case atStart => exact ⟨xs.length, 0, [], rfl, Nat.le_refl _, Lib.hid (OI.nil _ _), Lib.hid (OI.nil _ _), Lib.hid ⟨by omega, by simp, Dig10.nil, by simp [val]⟩, Nat.le_refl _, Lib.hid (Below.refl _ _)⟩
    case round =>
      obtain ⟨j, r, Q, rfl, hj, hQ, hO, hI, hwr, hB⟩ := hrel
      cases j with
      | zero =>
        have hdone : r = a % b ∧ val Q = a / b := by
          obtain ⟨l1, l2, l3, l4⟩ := hI.out
          rw [List.drop_zero, HVA.out] at l4
          have hb0 : 0 < b := by omega
          rw [l4, Nat.mul_comm]
          exact ⟨by rw [Nat.mul_add_mod, Nat.mod_eq_of_lt l1], by rw [Nat.mul_add_div hb0, Nat.div_eq_of_lt l1, Nat.add_zero]⟩
        obtain ⟨rfl, hq⟩ := hdone
        have hql : Q.length ≤ 1000 := by have := hI.out.2.1; omega
        have HQ2 := Lib.hid hq
        have HQL := Lib.hid hql
        clear hq hql
        go_wp2_with fail
        go_meet
        exact ⟨Q, hQ, hO, Lib.hid ⟨hI.out.2.2.1, HQ2.out⟩, HQL.out, hwr, hB⟩
      | succ j =>
        obtain ⟨w1, rfl⟩ : ∃ w1, w1 = wr := ⟨_, rfl⟩
        have hR1 := HR.out.below (hB.out.mono HBB.out)
        have hB1 := HR'.out.below (hB.out.mono HBB.out)
        have h1 : j < xs.length := by omega
        obtain ⟨ad, rfl, hbk, hcell⟩ := hR1 (by omega)
        have hcl := hcell j h1
        obtain ⟨x, hx⟩ : ∃ x, x = xs.getD j 0 := ⟨_, rfl⟩
        have hx9 : x < 10 := by rw [hx]; exact getD_lt HD.out j
        rw [← getD_at h1, ← hx] at hcl
        obtain ⟨Ar, cr, rfl, hcr, hrir, hanr⟩ := hO.out.slice
        have hrl : (dg r).length ≤ nb := by rw [HNB.out]; exact dg_len_mono (Nat.le_of_lt hI.out.1)
        obtain ⟨nr, hnr⟩ : ∃ nr, nr = (dg r).length := ⟨_, rfl⟩
        rw [← hnr] at hcr hrl
        have hb1 : Below w1.heap.size w1 (w1.alloc (.cells (inums [x]) 3)) := by (repeat' (first | (with_reducible exact Below.refl _ _) | (refine Below.trans ?_ (Below.mono (by with_reducible assumption) ?_)) | (with_reducible exact Below.refl _ _) | (with_reducible refine below_drewN ?_ _) | (with_reducible refine Below.drew ?_) | (with_reducible refine Below.setCell ?_ ?_ _) | (with_reducible refine Below.alloc ?_ ?_ _) | (with_reducible assumption) | (simp; done) | (simp; omega) | omega))
        have HL1 := Lib.hid (OI.lit w1 [x] (base := w1.heap.size) (Nat.le_refl _) (by simp [maxLen]))
        have HRR := Lib.hid (hrir.below hb1)
        have HAN := Lib.hid hanr
        have HB1 := Lib.hid hb1
        have HNR := Lib.hid hnr
        obtain ⟨Z, hZ⟩ : ∃ Z, Z = [x] ++ dg r := ⟨_, rfl⟩
        have hZl : Z.length = nr + 1 := by rw [hZ, hnr]; simp
        have hZv : val Z = x + 10 * r := by rw [hZ]; simp only [List.cons_append, List.nil_append, val]; rw [val_dg]
        have hZd : Dig10 Z := by rw [hZ]; exact (Dig10.one hx9).app (dg_dig r)
        have CU : ∀ W A2 c2, RI W W.heap.size A2 Z → Z.length ≤ c2 → (A2 = none → Z = [] ∧ c2 = 0) → Calls Try.prog 58 #[.slice A2 Z.length c2] W fun e w' => (∃ v, e = .returned v ∧ OI w' W.heap.size v (dg (x + 10 * r))) ∧ Below W.heap.size W w' := by
          intro W A2 c2 k1 k2 k3
          have := rcut_any A2 c2 Z W W.heap.size (Nat.le_refl _) k1 k2 k3 hZd (by omega)
          rw [hZv] at this
          exact this
        have HCU := Lib.hid CU
        have HZ := Lib.hid hZ
        have HX := Lib.hid hx
        have HB2 := Lib.hid hB1
        clear hcell hbk hR1 hB1 hrir hanr hb1 hnr hZ hZv hZd hZl CU hx
        rw [← HNR.out]
        go_upto_block 2 with (first
          | (at_builtin; refine wpList_appI rfl (.tmp 21) (.tmp 22) rfl w1.heap.size (by simp) _ [x] rfl HL1.out Ar nr cr (dg r) _ rfl HNR.out.symm (by intro e; exact HAN.out e) HRR.out (by have := HNR.out; simp; omega) ?_; intro v2 w5 ho5 hg5; rw [← HZ.out] at ho5; obtain ⟨A5, c5, rfl, hc5, hri5, han5⟩ := ho5.slice; have HB5 := Lib.hid (HL1.out.below hg5 HB1.out (Nat.le_refl _) (by simp)); have hz5 : w1.heap.size ≤ w5.heap.size := Nat.le_trans (by simp) hg5.size; have HRI5 := Lib.hid hri5; have HC5 := Lib.hid hc5; have HAN5 := Lib.hid han5; clear ho5 hg5 hri5 hc5 han5)
          | (go_at_call 58; refine (HCU.out _ _ _ HRI5.out HC5.out HAN5.out).mono ?_; rintro e w6 ⟨⟨v6, rfl, ho6⟩, b6⟩; have hz6 : w1.heap.size ≤ w6.heap.size := (by have := b6.size; omega); have HO6 := Lib.hid (ho6.mono (Nat.le_trans hwr hz5)); have HB6 := Lib.hid (HB5.out.trans (b6.mono hz5)); clear ho6 b6))
        have hI1 := hI.out.1
        go_cut [7, 9] from 13 to 37 (fun vr n wx => ∃ (k s : Nat), n = .int .i64 (k : Int) ∧ k ≤ 9 ∧ s < b ∧ Hid (s + k * b = x + 10 * r) ∧ Hid (OI wx w.heap.size vr (dg s)) ∧ w1.heap.size ≤ wx.heap.size ∧ Hid (Below w1.heap.size w1 wx))
        case first =>
          go_wp2_with fail
          go_loopw [7, 9] (fun vr n wr => ∃ (k s : Nat), n = .int .i64 (k : Int) ∧ k ≤ 9 ∧ Hid (s + k * b = x + 10 * r) ∧ Hid (OI wr w.heap.size vr (dg s)) ∧ w1.heap.size ≤ wr.heap.size ∧ Hid (Below w1.heap.size w1 wr)) (fun _ n _ => 9 - (intOf n).toNat)
          case atStart => exact ⟨0, x + 10 * r, rfl, Nat.zero_le _, Lib.hid (by simp), HO6, hz6, HB6⟩
          case round =>
            obtain ⟨k, s, rfl, hk, hS, hO3, hwr3, hB3⟩ := hrel
            obtain ⟨As, cs, rfl, hcs, hris, hans⟩ := hO3.out.slice
            have HRS := Lib.hid hris
            have HRB := Lib.hid ((HB2.out.below (hB3.out.mono (Nat.le_trans HBB.out hwr))).more (Nat.le_trans HBB.out (Nat.le_trans hwr hwr3)))
            have hsl : (dg s).length ≤ 2000 := by
              have h9 : s < 10 ^ (nb + 1) := by
                have h2 := dg_lt b
                rw [← HNB.out] at h2
                have := hS.out
                rw [Nat.pow_succ]
                have : s ≤ x + 10 * r := by omega
                omega
              have := dg_len_bound h9
              omega
            have LS := fun W h h' => less_any As A' cs c' s b W wr.heap.size h h' (by omega)
            rw [← HNB.out] at LS
            by_cases hs : s < b
            · rw [decide_eq_true hs] at LS
              have HLS := Lib.hid LS
              clear LS hris hans hsl
              go_wp2_with (go_at_call 70; refine (HLS.out _ HRS.out HRB.out).mono ?_; rintro e w7 ⟨rfl, m7, rfl⟩)
              go_meet
              exact ⟨k, s, rfl, hk, hs, hS, Lib.hid (hO3.out.next (below_drewN (Below.refl _ _) _)), by simpa using hwr3, Lib.hid (below_drewN hB3.out _)⟩
            · rw [decide_eq_false hs] at LS
              have MN := fun W h1 h2 h3 => minus_any As A' cs c' (dg s) (dg b) W wr.heap.size h1 h2 h3 hcs (by rw [← HNB.out]; exact hc') (dg_dig _) (dg_dig _) (by rw [val_dg, val_dg]; omega) (dg_len_mono (by omega)) (by omega)
              rw [val_dg, val_dg, ← HNB.out] at MN
              have HLS := Lib.hid LS
              have HMN := Lib.hid MN
              have hk1 := over_more hx9 hI1 hS.out (by omega)
              have HS1 := Lib.hid (show (s - b) + (k + 1) * b = x + 10 * r by have := hS.out; rw [Nat.add_mul, Nat.one_mul]; omega)
              clear LS MN hris hans hsl hs
              go_wp2_with (first
                | (go_at_call 70; refine (HLS.out _ HRS.out HRB.out).mono ?_; rintro e w7 ⟨rfl, m7, rfl⟩)
                | (go_at_call 99; refine (HMN.out _ (by simp) (HRS.out.drewN _) (HRB.out.drewN _)).mono ?_; rintro e w8 ⟨⟨v8, rfl, ho8⟩, b8⟩; have hz8 : wr.heap.size ≤ w8.heap.size := (by have := b8.size; simpa using this); have HO8 := Lib.hid (ho8.mono (base' := w.heap.size) (by simp; omega)); have HB8 := Lib.hid ((below_drewN hB3.out m7).trans (b8.mono (by simp; omega))); clear ho8 b8))
              go_roundw
              case rel => exact ⟨k + 1, s - b, by go_num, hk1, HS1, HO8, by omega, HB8⟩
              case measure => simp [intOf]; omega
        case rest =>
        obtain ⟨w2, rfl⟩ : ∃ w2, w2 = wc := ⟨_, rfl⟩
        obtain ⟨k, s, rfl, hk, hs, hS, hO3, hw2, hB3⟩ := hcut
        obtain ⟨Aq, cq, rfl, hcq, hriq, hanq⟩ := hQ.out.slice
        have hb2 : Below w1.heap.size w1 (w2.alloc (.cells (inums [k]) 3)) := by refine hB3.out.trans ?_; (repeat' (first | (with_reducible exact Below.refl _ _) | (refine Below.trans ?_ (Below.mono (by with_reducible assumption) ?_)) | (with_reducible exact Below.refl _ _) | (with_reducible refine below_drewN ?_ _) | (with_reducible refine Below.drew ?_) | (with_reducible refine Below.setCell ?_ ?_ _) | (with_reducible refine Below.alloc ?_ ?_ _) | (with_reducible assumption) | (simp; done) | (simp; omega) | omega))
        have hb3 : Below w2.heap.size w2 (w2.alloc (.cells (inums [k]) 3)) := (Below.refl _ _).alloc (Nat.le_refl _) _
        have HL2 := Lib.hid (OI.lit w2 [k] (base := w2.heap.size) (Nat.le_refl _) (by simp [maxLen]))
        have HRQ := Lib.hid (hriq.below hb2)
        have HANQ := Lib.hid hanq
        have HB3' := Lib.hid hb3
        have hQl : Q.length ≤ 1000 := by have := hI.out.2.1; omega
        have hnew : Hid (s < b ∧ ([k] ++ Q).length = xs.length - j ∧ Dig10 ([k] ++ Q) ∧ val (xs.drop j) = val ([k] ++ Q) * b + s) := by
          obtain ⟨l1, l2, l3, l4⟩ := hI.out
          refine Lib.hid ⟨hs, by simp; omega, (Dig10.one (by omega)).app l3, ?_⟩
          rw [val_drop_step xs j, ← HX.out]
          simp only [List.cons_append, List.nil_append, val]
          exact over_step l4 hS.out
        clear hriq hanq hb2 hb3
        obtain ⟨nq, hnq⟩ : ∃ nq, nq = Q.length := ⟨_, rfl⟩
        have HNQ := Lib.hid hnq
        rw [← hnq] at hQl hcq ⊢
        clear hnq
        go_wp2_with (at_builtin; refine wpList_appI rfl (.tmp 35) (.tmp 36) rfl w2.heap.size (by simp) _ [k] rfl HL2.out Aq nq cq Q _ rfl HNQ.out.symm (by intro e; exact HANQ.out e) HRQ.out (by have := HNQ.out; simp; omega) ?_; intro v5 w5 ho5 hg5; have HB7 := Lib.hid (HL2.out.below hg5 HB3'.out (Nat.le_refl _) (by simp)); have hz7 : w2.heap.size ≤ w5.heap.size := Nat.le_trans (by simp) hg5.size; have HO7 := Lib.hid (ho5.mono (Nat.le_trans hwr hw2)); clear ho5 hg5)
        go_roundw
        case rel => exact ⟨j, s, [k] ++ Q, by go_num, by omega, HO7, Lib.hid (hO3.out.next HB7.out), hnew, by omega, Lib.hid (hB.out.trans ((hB3.out.trans (HB7.out.mono hw2)).mono hwr))⟩
        case measure => simp [intOf]
  case rest =>
    obtain ⟨Q, hQ, hO, hV, hql, hwr, hB⟩ := hcut
    obtain ⟨A2, c2, rfl, hc2, hri, han⟩ := hQ.out.slice
    have CU := rcut_any A2 c2 Q wc wc.heap.size (Nat.le_refl _) hri hc2 han hV.out.1 (by omega)
    rw [hV.out.2] at CU
    have HCU := Lib.hid CU
    clear CU hri han
    go_wp2_with (go_at_call 58; refine (HCU.out).mono ?_; rintro e w2 ⟨⟨v2, rfl, ho2⟩, b2⟩; have HO2 := Lib.hid (ho2.mono hwr); have HB2 := Lib.hid b2; clear ho2 b2)
    (try simp only [Exit.inBlock, Exit.then]); refine bodyPost_ret (by simp [results, Try.results86, go_sem, *]; try rfl) rfl ?_
    exact ⟨⟨v2, _, rfl, HO2.out, hO.out.next HB2.out⟩, hB.out.trans (HB2.out.mono hwr)⟩
end Go.Proofs.Ytkhhjibpppmekaa
