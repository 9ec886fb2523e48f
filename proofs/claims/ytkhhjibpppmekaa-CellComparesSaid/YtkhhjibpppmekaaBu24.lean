/- Several texts put together: RefK, RefL, RefM, RefN. -/
import Derived.Test.YtkhhjibpppmekaaBu23
import Derived.Test.YtkhhjibpppmekaaBu8
import Derived.Test.YtkhhjibpppmekaaBu13
/- fieldfareref01: over. -/
namespace Go.Proofs.Ytkhhjibpppmekaa
open Go.RowKit
theorem over_step {x V Q b r n s : Nat} (h : V = Q * b + r) (h' : s + n * b = x + 10 * r) : x + 10 * V = (n + 10 * Q) * b + s := by
  subst h
  rw [Nat.mul_add, Nat.add_mul, Nat.mul_assoc]; omega
theorem over_more {x b r k s : Nat} (h9 : x < 10) (hr : r < b) (h : s + k * b = x + 10 * r) (hs : b ≤ s) : k + 1 ≤ 9 := by
  rcases Nat.lt_or_ge k 9 with h1 | h1
  · omega
  · exfalso
    have := Nat.mul_le_mul_right b h1
    omega
theorem over_k {x b r k s : Nat} (h9 : x < 10) (hr : r < b) (h : s + k * b = x + 10 * r) : k < 10 := by
  rcases Nat.lt_or_ge k 10 with h1 | h1
  · exact h1
  · exfalso
    have := Nat.mul_le_mul_right b h1
    omega
set_option maxRecDepth 100000 in
set_option maxHeartbeats 3200000 in
theorem over_any (A A' : Option Addr) (c c' a b : Nat) (w : World) (B0 : Nat) (hB0 : B0 ≤ w.heap.size) (hr : RI w B0 A (dg a)) (hr' : RI w B0 A' (dg b)) (hc : (dg a).length ≤ c) (hc' : (dg b).length ≤ c') (hb : b ≠ 0) (hm : (dg a).length ≤ 1000) (hm' : (dg b).length ≤ 1000) :
    Calls Try.prog 86 #[.slice A (dg a).length c, .slice A' (dg b).length c'] w fun e w' => (∃ v v', e = .returned (.tuple #[v, v']) ∧ OI w' w.heap.size v (dg (a / b)) ∧ OI w' w.heap.size v' (dg (a % b))) ∧ Below w.heap.size w w' := by
  have HR := Lib.hid hr
  have HR' := Lib.hid hr'
  have HBB := Lib.hid hB0
  have HD := Lib.hid (dg_dig a)
  have hva := val_dg a
  obtain ⟨xs, hxs⟩ : ∃ xs, xs = dg a := ⟨_, rfl⟩
  rw [← hxs] at HR HD hc hm hva
  rw [← hxs]
  obtain ⟨nb, hnb⟩ : ∃ nb, nb = (dg b).length := ⟨_, rfl⟩
  have HVA := Lib.hid hva
  have HNB := Lib.hid hnb
  rw [← hnb] at hc' hm'
  rw [← hnb]
  clear hr hr' hB0 hxs hva hnb
  go_enter Try.func86, Try.ntmps86
  go_upto_block 0 with fail
  go_cut [6, 7, 8, 9] (fun vq vr _ _ wx => ∃ (Q : List Nat), Hid (OI wx w.heap.size vq Q) ∧ Hid (OI wx w.heap.size vr (dg (a % b))) ∧ Hid (Dig10 Q ∧ val Q = a / b) ∧ Q.length ≤ 1000 ∧ w.heap.size ≤ wx.heap.size ∧ Hid (Below w.heap.size w wx))
  case first =>
    go_wp2_with fail
    go_loopw [6, 7, 8] (fun vq vr i wr => ∃ (j r : Nat) (Q : List Nat), i = .int .i64 ((j : Int) - 1) ∧ j ≤ xs.length ∧ Hid (OI wr w.heap.size vq Q) ∧ Hid (OI wr w.heap.size vr (dg r)) ∧ Hid (r < b ∧ Q.length = xs.length - j ∧ Dig10 Q ∧ val (xs.drop j) = val Q * b + r) ∧ w.heap.size ≤ wr.heap.size ∧ Hid (Below w.heap.size w wr)) (fun _ _ i _ => (intOf i + 1).toNat)
    case atStart => exact ⟨xs.length, 0, [], rfl, Nat.le_refl _, Lib.hid (OI.nil _ _), Lib.hid (OI.nil _ _), Lib.hid ⟨by omega, by simp, Dig10.nil, by simp [val]⟩, Nat.le_refl _, Lib.hid (Below.refl _ _)⟩
    case round =>
      obtain ⟨j, r, Q, rfl, hj, hQ, hO, hI, hwr, hB⟩ := hrel
      cases j with
      | zero =>
        have hdone : r = a % b ∧ val Q = a / b := by
          obtain ⟨l1, l2, l3, l4⟩ := hI.out
          rw [List.drop_zero, HVA.out] at l4
          have hb0 : 0 < b := by omega
          rw [l4, Nat.mul_comm]
          exact ⟨by rw [Nat.mul_add_mod, Nat.mod_eq_of_lt l1], by rw [Nat.mul_add_div hb0, Nat.div_eq_of_lt l1, Nat.add_zero]⟩
        obtain ⟨rfl, hq⟩ := hdone
        have hql : Q.length ≤ 1000 := by have := hI.out.2.1; omega
        have HQ2 := Lib.hid hq
        have HQL := Lib.hid hql
        clear hq hql
        go_wp2_with fail
        go_meet
        exact ⟨Q, hQ, hO, Lib.hid ⟨hI.out.2.2.1, HQ2.out⟩, HQL.out, hwr, hB⟩
      | succ j =>
        obtain ⟨w1, rfl⟩ : ∃ w1, w1 = wr := ⟨_, rfl⟩
        have hR1 := HR.out.below (hB.out.mono HBB.out)
        have hB1 := HR'.out.below (hB.out.mono HBB.out)
        have h1 : j < xs.length := by omega
        obtain ⟨ad, rfl, hbk, hcell⟩ := hR1 (by omega)
        have hcl := hcell j h1
        obtain ⟨x, hx⟩ : ∃ x, x = xs.getD j 0 := ⟨_, rfl⟩
        have hx9 : x < 10 := by rw [hx]; exact getD_lt HD.out j
        rw [← getD_at h1, ← hx] at hcl
        obtain ⟨Ar, cr, rfl, hcr, hrir, hanr⟩ := hO.out.slice
        have hrl : (dg r).length ≤ nb := by rw [HNB.out]; exact dg_len_mono (Nat.le_of_lt hI.out.1)
        obtain ⟨nr, hnr⟩ : ∃ nr, nr = (dg r).length := ⟨_, rfl⟩
        rw [← hnr] at hcr hrl
        have hb1 : Below w1.heap.size w1 (w1.alloc (.cells (inums [x]) 3)) := by (repeat' (first | (with_reducible exact Below.refl _ _) | (refine Below.trans ?_ (Below.mono (by with_reducible assumption) ?_)) | (with_reducible exact Below.refl _ _) | (with_reducible refine below_drewN ?_ _) | (with_reducible refine Below.drew ?_) | (with_reducible refine Below.setCell ?_ ?_ _) | (with_reducible refine Below.alloc ?_ ?_ _) | (with_reducible assumption) | (simp; done) | (simp; omega) | omega))
        have HL1 := Lib.hid (OI.lit w1 [x] (base := w1.heap.size) (Nat.le_refl _) (by simp [maxLen]))
        have HRR := Lib.hid (hrir.below hb1)
        have HAN := Lib.hid hanr
        have HB1 := Lib.hid hb1
        have HNR := Lib.hid hnr
        obtain ⟨Z, hZ⟩ : ∃ Z, Z = [x] ++ dg r := ⟨_, rfl⟩
        have hZl : Z.length = nr + 1 := by rw [hZ, hnr]; simp
        have hZv : val Z = x + 10 * r := by rw [hZ]; simp only [List.cons_append, List.nil_append, val]; rw [val_dg]
        have hZd : Dig10 Z := by rw [hZ]; exact (Dig10.one hx9).app (dg_dig r)
        have CU : ∀ W A2 c2, RI W W.heap.size A2 Z → Z.length ≤ c2 → (A2 = none → Z = [] ∧ c2 = 0) → Calls Try.prog 58 #[.slice A2 Z.length c2] W fun e w' => (∃ v, e = .returned v ∧ OI w' W.heap.size v (dg (x + 10 * r))) ∧ Below W.heap.size W w' := by
          intro W A2 c2 k1 k2 k3
          have := rcut_any A2 c2 Z W W.heap.size (Nat.le_refl _) k1 k2 k3 hZd (by omega)
          rw [hZv] at this
          exact this
        have HCU := Lib.hid CU
        have HZ := Lib.hid hZ
        have HX := Lib.hid hx
        have HB2 := Lib.hid hB1
        clear hcell hbk hR1 hB1 hrir hanr hb1 hnr hZ hZv hZd hZl CU hx
        rw [← HNR.out]
        go_upto_block 2 with (first
          | (at_builtin; refine wpList_appI rfl (.tmp 21) (.tmp 22) rfl w1.heap.size (by simp) _ [x] rfl HL1.out Ar nr cr (dg r) _ rfl HNR.out.symm (by intro e; exact HAN.out e) HRR.out (by have := HNR.out; simp; omega) ?_; intro v2 w5 ho5 hg5; rw [← HZ.out] at ho5; obtain ⟨A5, c5, rfl, hc5, hri5, han5⟩ := ho5.slice; have HB5 := Lib.hid (HL1.out.below hg5 HB1.out (Nat.le_refl _) (by simp)); have hz5 : w1.heap.size ≤ w5.heap.size := Nat.le_trans (by simp) hg5.size; have HRI5 := Lib.hid hri5; have HC5 := Lib.hid hc5; have HAN5 := Lib.hid han5; clear ho5 hg5 hri5 hc5 han5)
          | (go_at_call 58; refine (HCU.out _ _ _ HRI5.out HC5.out HAN5.out).mono ?_; rintro e w6 ⟨⟨v6, rfl, ho6⟩, b6⟩; have hz6 : w1.heap.size ≤ w6.heap.size := (by have := b6.size; omega); have HO6 := Lib.hid (ho6.mono (Nat.le_trans hwr hz5)); have HB6 := Lib.hid (HB5.out.trans (b6.mono hz5)); clear ho6 b6))
        have hI1 := hI.out.1
        go_cut [7, 9] from 13 to 37 (fun vr n wx => ∃ (k s : Nat), n = .int .i64 (k : Int) ∧ k ≤ 9 ∧ s < b ∧ Hid (s + k * b = x + 10 * r) ∧ Hid (OI wx w.heap.size vr (dg s)) ∧ w1.heap.size ≤ wx.heap.size ∧ Hid (Below w1.heap.size w1 wx))
        case first =>
          go_wp2_with fail
          go_loopw [7, 9] (fun vr n wr => ∃ (k s : Nat), n = .int .i64 (k : Int) ∧ k ≤ 9 ∧ Hid (s + k * b = x + 10 * r) ∧ Hid (OI wr w.heap.size vr (dg s)) ∧ w1.heap.size ≤ wr.heap.size ∧ Hid (Below w1.heap.size w1 wr)) (fun _ n _ => 9 - (intOf n).toNat)
          case atStart => exact ⟨0, x + 10 * r, rfl, Nat.zero_le _, Lib.hid (by simp), HO6, hz6, HB6⟩
          case round =>
            obtain ⟨k, s, rfl, hk, hS, hO3, hwr3, hB3⟩ := hrel
            obtain ⟨As, cs, rfl, hcs, hris, hans⟩ := hO3.out.slice
            have HRS := Lib.hid hris
            have HRB := Lib.hid ((HB2.out.below (hB3.out.mono (Nat.le_trans HBB.out hwr))).more (Nat.le_trans HBB.out (Nat.le_trans hwr hwr3)))
            have hsl : (dg s).length ≤ 2000 := by
              have h9 : s < 10 ^ (nb + 1) := by
                have h2 := dg_lt b
                rw [← HNB.out] at h2
                have := hS.out
                rw [Nat.pow_succ]
                have : s ≤ x + 10 * r := by omega
                omega
              have := dg_len_bound h9
              omega
            have LS := fun W h h' => less_any As A' cs c' s b W wr.heap.size h h' (by omega)
            rw [← HNB.out] at LS
            by_cases hs : s < b
            · rw [decide_eq_true hs] at LS
              have HLS := Lib.hid LS
              clear LS hris hans hsl
              go_wp2_with (go_at_call 70; refine (HLS.out _ HRS.out HRB.out).mono ?_; rintro e w7 ⟨rfl, m7, rfl⟩)
              go_meet
              exact ⟨k, s, rfl, hk, hs, hS, Lib.hid (hO3.out.next (below_drewN (Below.refl _ _) _)), by simpa using hwr3, Lib.hid (below_drewN hB3.out _)⟩
            · rw [decide_eq_false hs] at LS
              have MN := fun W h1 h2 h3 => minus_any As A' cs c' (dg s) (dg b) W wr.heap.size h1 h2 h3 hcs (by rw [← HNB.out]; exact hc') (dg_dig _) (dg_dig _) (by rw [val_dg, val_dg]; omega) (dg_len_mono (by omega)) (by omega)
              rw [val_dg, val_dg, ← HNB.out] at MN
              have HLS := Lib.hid LS
              have HMN := Lib.hid MN
              have hk1 := over_more hx9 hI1 hS.out (by omega)
              have HS1 := Lib.hid (show (s - b) + (k + 1) * b = x + 10 * r by have := hS.out; rw [Nat.add_mul, Nat.one_mul]; omega)
              clear LS MN hris hans hsl hs
              go_wp2_with (first
                | (go_at_call 70; refine (HLS.out _ HRS.out HRB.out).mono ?_; rintro e w7 ⟨rfl, m7, rfl⟩)
                | (go_at_call 99; refine (HMN.out _ (by simp) (HRS.out.drewN _) (HRB.out.drewN _)).mono ?_; rintro e w8 ⟨⟨v8, rfl, ho8⟩, b8⟩; have hz8 : wr.heap.size ≤ w8.heap.size := (by have := b8.size; simpa using this); have HO8 := Lib.hid (ho8.mono (base' := w.heap.size) (by simp; omega)); have HB8 := Lib.hid ((below_drewN hB3.out m7).trans (b8.mono (by simp; omega))); clear ho8 b8))
              go_roundw
              case rel => exact ⟨k + 1, s - b, by go_num, hk1, HS1, HO8, by omega, HB8⟩
              case measure => simp [intOf]; omega
        case rest =>
        obtain ⟨w2, rfl⟩ : ∃ w2, w2 = wc := ⟨_, rfl⟩
        obtain ⟨k, s, rfl, hk, hs, hS, hO3, hw2, hB3⟩ := hcut
        obtain ⟨Aq, cq, rfl, hcq, hriq, hanq⟩ := hQ.out.slice
        have hb2 : Below w1.heap.size w1 (w2.alloc (.cells (inums [k]) 3)) := by refine hB3.out.trans ?_; (repeat' (first | (with_reducible exact Below.refl _ _) | (refine Below.trans ?_ (Below.mono (by with_reducible assumption) ?_)) | (with_reducible exact Below.refl _ _) | (with_reducible refine below_drewN ?_ _) | (with_reducible refine Below.drew ?_) | (with_reducible refine Below.setCell ?_ ?_ _) | (with_reducible refine Below.alloc ?_ ?_ _) | (with_reducible assumption) | (simp; done) | (simp; omega) | omega))
        have hb3 : Below w2.heap.size w2 (w2.alloc (.cells (inums [k]) 3)) := (Below.refl _ _).alloc (Nat.le_refl _) _
        have HL2 := Lib.hid (OI.lit w2 [k] (base := w2.heap.size) (Nat.le_refl _) (by simp [maxLen]))
        have HRQ := Lib.hid (hriq.below hb2)
        have HANQ := Lib.hid hanq
        have HB3' := Lib.hid hb3
        have hQl : Q.length ≤ 1000 := by have := hI.out.2.1; omega
        have hnew : Hid (s < b ∧ ([k] ++ Q).length = xs.length - j ∧ Dig10 ([k] ++ Q) ∧ val (xs.drop j) = val ([k] ++ Q) * b + s) := by
          obtain ⟨l1, l2, l3, l4⟩ := hI.out
          refine Lib.hid ⟨hs, by simp; omega, (Dig10.one (by omega)).app l3, ?_⟩
          rw [val_drop_step xs j, ← HX.out]
          simp only [List.cons_append, List.nil_append, val]
          exact over_step l4 hS.out
        clear hriq hanq hb2 hb3
        obtain ⟨nq, hnq⟩ : ∃ nq, nq = Q.length := ⟨_, rfl⟩
        have HNQ := Lib.hid hnq
        rw [← hnq] at hQl hcq ⊢
        clear hnq
        go_wp2_with (at_builtin; refine wpList_appI rfl (.tmp 35) (.tmp 36) rfl w2.heap.size (by simp) _ [k] rfl HL2.out Aq nq cq Q _ rfl HNQ.out.symm (by intro e; exact HANQ.out e) HRQ.out (by have := HNQ.out; simp; omega) ?_; intro v5 w5 ho5 hg5; have HB7 := Lib.hid (HL2.out.below hg5 HB3'.out (Nat.le_refl _) (by simp)); have hz7 : w2.heap.size ≤ w5.heap.size := Nat.le_trans (by simp) hg5.size; have HO7 := Lib.hid (ho5.mono (Nat.le_trans hwr hw2)); clear ho5 hg5)
        go_roundw
        case rel => exact ⟨j, s, [k] ++ Q, by go_num, by omega, HO7, Lib.hid (hO3.out.next HB7.out), hnew, by omega, Lib.hid (hB.out.trans ((hB3.out.trans (HB7.out.mono hw2)).mono hwr))⟩
        case measure => simp [intOf]
  case rest =>
    obtain ⟨Q, hQ, hO, hV, hql, hwr, hB⟩ := hcut
    obtain ⟨A2, c2, rfl, hc2, hri, han⟩ := hQ.out.slice
    have CU := rcut_any A2 c2 Q wc wc.heap.size (Nat.le_refl _) hri hc2 han hV.out.1 (by omega)
    rw [hV.out.2] at CU
    have HCU := Lib.hid CU
    clear CU hri han
    go_wp2_with (go_at_call 58; refine (HCU.out).mono ?_; rintro e w2 ⟨⟨v2, rfl, ho2⟩, b2⟩; have HO2 := Lib.hid (ho2.mono hwr); have HB2 := Lib.hid b2; clear ho2 b2)
    (try simp only [Exit.inBlock, Exit.then]); refine bodyPost_ret (by simp [results, Try.results86, go_sem, *]; try rfl) rfl ?_
    exact ⟨⟨v2, _, rfl, HO2.out, hO.out.next HB2.out⟩, hB.out.trans (HB2.out.mono hwr)⟩
end Go.Proofs.Ytkhhjibpppmekaa

/- fieldfareref01: lower, signed, held, Neg. -/
namespace Go.Proofs.Ytkhhjibpppmekaa
open Go.RowKit
/-- The value is a number's sign and digits. -/
def NV (w : World) (B : Nat) (v : Value) (z : Int) : Prop :=
  ∃ (A : Option Addr) (c : Nat), v = .agg #[.bool (zn z), .slice A (dg z.natAbs).length c] ∧ RI w B A (dg z.natAbs) ∧ (dg z.natAbs).length ≤ c ∧ (A = none → dg z.natAbs = [] ∧ c = 0)
theorem NV.below {w w' : World} {B : Nat} {v : Value} {z : Int} (h : NV w B v z) (hb : Below B w w') : NV w' B v z := by
  obtain ⟨A, c, e, hr, hc, ha⟩ := h
  exact ⟨A, c, e, hr.below hb, hc, ha⟩
theorem NV.more {w : World} {B B' : Nat} {v : Value} {z : Int} (h : NV w B v z) (hB : B ≤ B') : NV w B' v z := by
  obtain ⟨A, c, e, hr, hc, ha⟩ := h
  exact ⟨A, c, e, hr.more hB, hc, ha⟩
theorem NV.of {w : World} {b : Nat} {v : Value} {z : Int} {s : Bool} {K : Nat} (h : OI w b v (dg K)) (hs : s = zn z) (hK : K = z.natAbs) : NV w w.heap.size (.agg #[.bool s, v]) z := by
  subst hs hK
  obtain ⟨A, c, rfl, hc, hr, ha⟩ := h.slice
  exact ⟨A, c, rfl, hr, hc, ha⟩
theorem NV.zero (w : World) (B : Nat) : NV w B (.agg #[.bool false, .slice none 0 0]) 0 := ⟨none, 0, rfl, RI.nil, Nat.le_refl _, fun _ => ⟨rfl, rfl⟩⟩
/-- A number, unless it is too great; and the error's number. -/
def heldZ (z : Int) : Int := if ((z.natAbs : Nat) : Int) < LIM then z else 0
def heldC (z : Int) : Int := if ((z.natAbs : Nat) : Int) < LIM then 0 else 2
theorem dg_len_LIM (N : Nat) : (dg N).length ≤ 36 ↔ (N : Int) < LIM := by
  rw [dg_len_iff36]; unfold LIM; omega
set_option maxRecDepth 100000 in
set_option maxHeartbeats 400000 in
theorem lower_any (A : Option Addr) (c N : Nat) (w : World) (B0 : Nat) (hr : RI w B0 A (dg N)) (hc : (dg N).length ≤ c) :
    Calls Try.prog 82 #[.slice A (dg N).length c] w fun e w' => (∃ (A2 : Option Addr) (c2 : Nat), e = .returned (.slice A2 (dg (N / 1000000)).length c2) ∧ RI w' B0 A2 (dg (N / 1000000)) ∧ (dg (N / 1000000)).length ≤ c2 ∧ (A2 = none → dg (N / 1000000) = [] ∧ c2 = 0)) ∧ w = w' := by
  have hd : (dg N).drop 6 = dg (N / 1000000) := dg_lower N 6
  have hA : A = none → dg N = [] := fun e => by
    rcases Nat.eq_zero_or_pos (dg N).length with h | h
    · exact List.length_eq_zero_iff.1 h
    · obtain ⟨ad, e2, _⟩ := hr h; rw [e] at e2; cases e2
  have hrc := hr.cut (k := 6) hc
  rw [hd] at hrc
  have hln : (dg (N / 1000000)).length = (dg N).length - 6 := by rw [← hd, List.length_drop]
  obtain ⟨n, hn⟩ : ∃ n, n = (dg N).length := ⟨_, rfl⟩
  by_cases h6 : (dg N).length ≤ 6
  · have e0 : dg (N / 1000000) = [] := List.length_eq_zero_iff.1 (by rw [hln]; omega)
    rw [e0, List.length_nil]
    rw [← hn] at h6 ⊢
    clear hr hc hd hA hrc hln hn e0
    go_enter Try.func82, Try.ntmps82
    go_wp2
    go_ret
    exact ⟨⟨none, 0, rfl, RI.nil, Nat.le_refl _, fun _ => by simp⟩, rfl⟩
  · have hc6 : ¬ c = 6 := by omega
    rw [if_neg hc6] at hrc
    have hrun := fun W => icut_run A (dg N).length c 6 (by omega) W
    rw [if_neg hc6] at hrun
    obtain ⟨A2, hA2⟩ : ∃ A2, A2 = A.map (·.add 6) := ⟨_, rfl⟩
    rw [← hA2] at hrun hrc
    have HRC := Lib.hid hrc
    have HLN := Lib.hid hln
    have HA := Lib.hid (show A2 = none → dg (N / 1000000) = [] ∧ c - 6 = 0 by
      intro e
      rw [hA2] at e
      have : A = none := by cases A with
        | none => rfl
        | some a => cases e
      have := hA this
      rw [this] at h6; simp at h6)
    have HC := Lib.hid (show (dg (N / 1000000)).length ≤ c - 6 by omega)
    have HA2 := Lib.hid hA2
    rw [← hn] at hrun h6 ⊢
    clear hr hc hd hA hrc hln hA2
    go_enter Try.func82, Try.ntmps82
    go_wp2
    go_ret
    exact ⟨⟨A2, c - 6, by rw [HLN.out, HA2.out, ← hn]; cases A <;> rfl, HRC.out, HC.out, HA.out⟩, rfl⟩
set_option maxRecDepth 100000 in
set_option maxHeartbeats 400000 in
theorem signed_any (s : Bool) (A : Option Addr) (c N : Nat) (w : World) :
    Calls Try.prog 83 #[.bool s, .slice A (dg N).length c] w fun e w' => e = .returned (.agg #[.bool (s && decide (0 < N)), .slice A (dg N).length c]) ∧ Below w.heap.size w w' := by
  obtain ⟨p, hp⟩ : ∃ p, p = decide (0 < N) := ⟨_, rfl⟩
  have hpl : decide (0 < (dg N).length) = p := by rw [hp, decide_eq_decide]; exact ⟨fun h => by rcases Nat.eq_zero_or_pos N with e | e; (rw [e, dg_zero] at h; simp at h); exact e, fun h => dg_len_pos (by omega)⟩
  rw [← hp]
  obtain ⟨n, hn⟩ : ∃ n, n = (dg N).length := ⟨_, rfl⟩
  rw [← hn] at hpl
  rw [← hn]
  clear hp hn
  cases s <;> cases p
  all_goals
    simp only [decide_eq_true_eq, decide_eq_false_iff_not] at hpl
    have h2 : n = 0 ∨ 0 < n := by omega
    go_enter Try.func83, Try.ntmps83
    go_wp2
    go_returns
    exact ⟨rfl, by (repeat' (first | (with_reducible exact Below.refl _ _) | (refine Below.trans ?_ (Below.mono (by with_reducible assumption) ?_)) | (with_reducible exact Below.refl _ _) | (with_reducible refine below_drewN ?_ _) | (with_reducible refine Below.drew ?_) | (with_reducible refine Below.setCell ?_ ?_ _) | (with_reducible refine Below.alloc ?_ ?_ _) | (with_reducible assumption) | (simp; done) | (simp; omega) | omega))⟩
set_option maxRecDepth 100000 in
set_option maxHeartbeats 400000 in
theorem rheld_ok (s : Bool) (A : Option Addr) (c n : Nat) (w : World) (h : n ≤ 36) :
    Calls Try.prog 84 #[.agg #[.bool s, .slice A n c]] w fun e w' => e = .returned (.tuple #[.agg #[.bool s, .slice A n c], .int .i64 0]) ∧ Below w.heap.size w w' := by
  go_enter Try.func84, Try.ntmps84
  go_wp2
  go_returns
  exact ⟨rfl, by (repeat' (first | (with_reducible exact Below.refl _ _) | (refine Below.trans ?_ (Below.mono (by with_reducible assumption) ?_)) | (with_reducible exact Below.refl _ _) | (with_reducible refine below_drewN ?_ _) | (with_reducible refine Below.drew ?_) | (with_reducible refine Below.setCell ?_ ?_ _) | (with_reducible refine Below.alloc ?_ ?_ _) | (with_reducible assumption) | (simp; done) | (simp; omega) | omega))⟩
set_option maxRecDepth 100000 in
set_option maxHeartbeats 400000 in
theorem rheld_over (s : Bool) (A : Option Addr) (c n : Nat) (w : World) (h : 36 < n) :
    Calls Try.prog 84 #[.agg #[.bool s, .slice A n c]] w fun e w' => e = .returned (.tuple #[.agg #[.bool false, .slice none 0 0], .int .i64 2]) ∧ Below w.heap.size w w' := by
  go_enter Try.func84, Try.ntmps84
  go_wp2
  go_returns
  exact ⟨rfl, by (repeat' (first | (with_reducible exact Below.refl _ _) | (refine Below.trans ?_ (Below.mono (by with_reducible assumption) ?_)) | (with_reducible exact Below.refl _ _) | (with_reducible refine below_drewN ?_ _) | (with_reducible refine Below.drew ?_) | (with_reducible refine Below.setCell ?_ ?_ _) | (with_reducible refine Below.alloc ?_ ?_ _) | (with_reducible assumption) | (simp; done) | (simp; omega) | omega))⟩
theorem zn_neg (z : Int) : zn (-z) = (!zn z && decide (0 < z.natAbs)) := by
  unfold zn
  rw [Bool.eq_iff_iff]; simp; omega
/-- held, of a number as the value of an integer. -/
theorem rheld_any (v : Value) (z : Int) (w : World) (B : Nat) (hB : B ≤ w.heap.size) (hv : NV w B v z) :
    Calls Try.prog 84 #[v] w fun e w' => (∃ v', e = .returned (.tuple #[v', .int .i64 (heldC z)]) ∧ NV w' B v' (heldZ z)) ∧ Below w.heap.size w w' := by
  obtain ⟨A, c, rfl, hr, hc, ha⟩ := hv
  unfold heldZ heldC
  by_cases h : ((z.natAbs : Nat) : Int) < LIM
  · rw [if_pos h, if_pos h]
    refine (rheld_ok _ A c _ w ((dg_len_LIM _).2 h)).mono fun e w' ⟨he, hb⟩ => ⟨⟨_, he, A, c, rfl, hr.below (hb.mono hB), hc, ha⟩, hb⟩
  · rw [if_neg h, if_neg h]
    refine (rheld_over _ A c _ w (by have := (not_congr (dg_len_LIM z.natAbs)).2 h; omega)).mono fun e w' ⟨he, hb⟩ => ⟨⟨_, he, NV.zero _ _⟩, hb⟩
end Go.Proofs.Ytkhhjibpppmekaa

/- fieldfareref01: Trunc. Boxes of the reference's numbers. -/
namespace Go.Proofs.Ytkhhjibpppmekaa
open Go.RowKit
/-- A box of a sign and digits, that may be written. -/
structure BoxN (w : World) (g : Nat) (n : Bool) (v : Value) : Prop where
  c0 : w.cell? ⟨g, 0, none⟩ = some (.bool n)
  c1 : w.cell? ⟨g, 1, none⟩ = some v
  f0 : w.frozen? ⟨g, 0, none⟩ = false
  f1 : w.frozen? ⟨g, 1, none⟩ = false
  z : g < w.heap.size
theorem BoxN.below {w w' : World} {g : Nat} {n : Bool} {v : Value} (b : BoxN w g n v) (q : Below w.heap.size w w') : BoxN w' g n v :=
  ⟨(q.cell b.z).trans b.c0, (q.cell b.z).trans b.c1, (q.frozen b.z).trans b.f0, (q.frozen b.z).trans b.f1, Nat.lt_of_lt_of_le b.z q.size⟩
theorem BoxN.make (w : World) (n : Bool) (v : Value) {g : Nat} (hg : g = w.heap.size) : BoxN (w.alloc (.cells #[.bool n, v] 34)) g n v := by
  subst hg; refine ⟨?_, ?_, ?_, ?_, ?_⟩ <;> simp (maxDischargeDepth := 12) [go_sem]
theorem BoxN.alloc {w : World} {g : Nat} {n : Bool} {v : Value} (b : BoxN w g n v) (o : Obj) : BoxN (w.alloc o) g n v := b.below ((Below.refl _ _).alloc (Nat.le_refl _) _)
theorem BoxN.drew {w : World} {g : Nat} {n : Bool} {v : Value} (b : BoxN w g n v) : BoxN w.drew g n v := b.below (Below.refl _ _).drew
theorem BoxN.drewN {w : World} {g : Nat} {n : Bool} {v : Value} (b : BoxN w g n v) (k : Nat) : BoxN (w.drewN k) g n v := b.below (below_drewN (Below.refl _ _) k)
theorem BoxN.set {w : World} {g : Nat} {n m : Bool} {v u : Value} (b : BoxN w g n v) : BoxN ((w.setCell ⟨g, 0, none⟩ (.bool m)).setCell ⟨g, 1, none⟩ u) g m u := by
  obtain ⟨c0, c1, f0, f1, z⟩ := b
  refine ⟨?_, ?_, ?_, ?_, ?_⟩ <;> (first | (simp (maxDischargeDepth := 12) [go_sem, *]; done) | (simp; omega))
theorem zn_trunc (z : Int) : zn (truncZ z) = (zn z && decide (0 < (truncZ z).natAbs)) := by
  rcases truncZ_sign (n := zn z) (z := z) rfl with h | h
  · rw [h]; simp [zn]
  · unfold zn at h ⊢
    rw [← h]
    by_cases hz : z < 0
    · rw [decide_eq_true hz] at h ⊢
      symm at h; rw [decide_eq_true_eq] at h
      symm; rw [Bool.true_and, decide_eq_true_eq]; omega
    · rw [decide_eq_false hz]; rfl
theorem trunc_digits (N : Nat) : val ([0, 0, 0, 0, 0, 0] ++ dg (N / 1000000)) = N / 1000000 * 1000000 := by
  rw [val_app, val_dg]; simp [val]; omega
theorem trunc_nat (z : Int) : (truncZ z).natAbs = z.natAbs / 1000000 * 1000000 := by
  have := truncZ_abs z; omega
set_option maxRecDepth 100000 in
set_option maxHeartbeats 800000 in
theorem rtrunc_any (n : Bool) (A : Option Addr) (c : Nat) (z : Int) (hn : n = zn z) (w : World) (B0 : Nat) (hB0 : B0 ≤ w.heap.size) (hr : RI w B0 A (dg z.natAbs)) (hc : (dg z.natAbs).length ≤ c) (hm : (dg z.natAbs).length ≤ 1000) :
    Calls Try.prog 53 #[.agg #[.bool n, .slice A (dg z.natAbs).length c]] w fun e w' => (∃ v, e = .returned v ∧ NV w' w'.heap.size v (truncZ z)) ∧ Below w.heap.size w w' := by
  have htn := trunc_nat z
  have hzt := zn_trunc z
  rw [htn, ← hn] at hzt
  obtain ⟨N, hN⟩ : ∃ N, N = z.natAbs := ⟨_, rfl⟩
  rw [← hN] at hr hc hm htn hzt ⊢
  obtain ⟨l, hl⟩ : ∃ l, l = (dg N).length := ⟨_, rfl⟩
  have hW : Below w.heap.size w (((w.alloc (.cells #[.bool n, .slice A l c] 34)).alloc (.cells #[.bool false, .slice none 0 0] 34)).alloc (.cells (inums [0, 0, 0, 0, 0, 0]) 3)) := by (repeat' (first | (with_reducible exact Below.refl _ _) | (refine Below.trans ?_ (Below.mono (by with_reducible assumption) ?_)) | (with_reducible exact Below.refl _ _) | (with_reducible refine below_drewN ?_ _) | (with_reducible refine Below.drew ?_) | (with_reducible refine Below.setCell ?_ ?_ _) | (with_reducible refine Below.alloc ?_ ?_ _) | (with_reducible assumption) | (simp; done) | (simp; omega) | omega))
  have LO := fun W h => lower_any A c N W B0 h hc
  have hlow : (dg (N / 1000000)).length ≤ 1000 := Nat.le_trans (dg_len_mono (Nat.div_le_self _ _)) hm
  rw [← hl] at LO ⊢
  have HR := Lib.hid (hr.below (hW.mono hB0)); have HLO := Lib.hid LO
  have HBB := Lib.hid hB0; have HTN := Lib.hid htn; have HZT := Lib.hid hzt; have HLW := Lib.hid hlow
  have ho := OI.lit ((w.alloc (.cells #[.bool n, .slice A l c] 34)).alloc (.cells #[.bool false, .slice none 0 0] 34)) [0, 0, 0, 0, 0, 0] (base := w.heap.size + 1 + 1) (by simp) (by simp [maxLen])
  rw [show ((w.alloc (.cells #[.bool n, .slice A l c] 34)).alloc (.cells #[.bool false, .slice none 0 0] 34)).heap.size = w.heap.size + 1 + 1 by simp] at ho
  have HO := Lib.hid ho
  clear ho
  have HW := Lib.hid (show Below (w.heap.size + 1 + 1) ((w.alloc (.cells #[.bool n, .slice A l c] 34)).alloc (.cells #[.bool false, .slice none 0 0] 34)) (((w.alloc (.cells #[.bool n, .slice A l c] 34)).alloc (.cells #[.bool false, .slice none 0 0] 34)).alloc (.cells (inums [0, 0, 0, 0, 0, 0]) 3)) from (Below.refl _ _).alloc (by simp) _)
  have ya_0 := Lib.hid ((BoxN.make w n (.slice A l c) (g := w.heap.size) rfl).alloc (.cells #[.bool false, .slice none 0 0] 34))
  have yr_0 := Lib.hid (BoxN.make (w.alloc (.cells #[.bool n, .slice A l c] 34)) false (.slice none 0 0) (g := w.heap.size + 1) (by simp))
  obtain ⟨Z, hZ⟩ : ∃ Z, Z = [0, 0, 0, 0, 0, 0] ++ dg (N / 1000000) := ⟨_, rfl⟩
  obtain ⟨K, hK⟩ : ∃ K, K = N / 1000000 * 1000000 := ⟨_, rfl⟩
  have hZv : val Z = K := by rw [hZ, hK]; exact trunc_digits N
  have hZd : Dig10 Z := by rw [hZ]; exact Dig10.app (by intro x hx; simp at hx; omega) (dg_dig _)
  have hZl : Z.length ≤ 1000000 := by rw [hZ]; simp; omega
  have HZ := Lib.hid hZ; have HZV := Lib.hid hZv; have HZD := Lib.hid hZd; have HZL := Lib.hid hZl
  rw [← hK] at HTN HZT
  obtain ⟨s, hs⟩ : ∃ s, s = (n && decide (0 < K)) := ⟨_, rfl⟩
  rw [← hs] at HZT
  have SG0 := fun W A' c' => signed_any n A' c' K W
  rw [← hs] at SG0
  have SG := Lib.hid SG0
  clear hZ hK hZv hZd hZl hs SG0 hW LO hr hB0 htn hzt hlow hc hm hl hN hn
  go_enter Try.func53, Try.ntmps53
  go_upto_region 2 with (first
    | (go_at_call 82; refine (HLO.out _ HR.out).mono ?_; rintro e w1 ⟨⟨A2, c2, rfl, hri2, hc2, han2⟩, rfl⟩; have HR2 := Lib.hid hri2; have HC2 := Lib.hid hc2; have HAN2 := Lib.hid han2; clear hri2 hc2 han2)
    | (at_builtin; refine wpList_appI rfl (.tmp 4) (.tmp 7) rfl (w.heap.size + 1 + 1) (by simp) _ [0, 0, 0, 0, 0, 0] rfl HO.out A2 _ c2 (dg (N / 1000000)) _ rfl rfl (by intro e; exact HAN2.out e) HR2.out (by have := HLW.out; simp; omega) ?_; intro v5 w5 ho5 hg5; have HB5 := Lib.hid (HO.out.below hg5 HW.out (Nat.le_refl _) (by simp)); rw [← HZ.out] at ho5; obtain ⟨A5, c5, rfl, hc5, hri5, han5⟩ := ho5.slice; have HO5 := Lib.hid ho5; have HC5 := Lib.hid hc5; have HRI5 := Lib.hid hri5; have HAN5 := Lib.hid han5; clear ho5 hg5 hc5 hri5 han5))
  have hb5 := HB5.out
  have ya_5 := Lib.hid ((ya_0.out.below (hb5.mono (by simp)))); have ya_50 := ya_5.out.c0; have ya_51 := ya_5.out.c1; have ya_52 := ya_5.out.f0; have ya_53 := ya_5.out.f1; have ya_5z := ya_5.out.z
  have yr_5 := Lib.hid ((yr_0.out.below (hb5.mono (by simp)))); have yr_50 := yr_5.out.c0; have yr_51 := yr_5.out.c1; have yr_52 := yr_5.out.f0; have yr_53 := yr_5.out.f1; have yr_5z := yr_5.out.z
  have hz5 : w.heap.size + 1 + 1 ≤ w5.heap.size := by have := hb5.size; simpa using this
  have HBW := Lib.hid (show Below w.heap.size w w5 from ((show Below w.heap.size w ((w.alloc (.cells #[.bool n, .slice A l c] 34)).alloc (.cells #[.bool false, .slice none 0 0] 34)) by (repeat' (first | (with_reducible exact Below.refl _ _) | (refine Below.trans ?_ (Below.mono (by with_reducible assumption) ?_)) | (with_reducible exact Below.refl _ _) | (with_reducible refine below_drewN ?_ _) | (with_reducible refine Below.drew ?_) | (with_reducible refine Below.setCell ?_ ?_ _) | (with_reducible refine Below.alloc ?_ ?_ _) | (with_reducible assumption) | (simp; done) | (simp; omega) | omega))).trans (hb5.mono (by omega))))
  have CU0 : ∀ W, Below w5.heap.size w5 W → Calls Try.prog 58 #[.slice A5 Z.length c5] W fun e w' => (∃ v, e = .returned v ∧ OI w' W.heap.size v (dg K)) ∧ Below W.heap.size W w' := by
    intro W q
    have := rcut_any A5 c5 Z W w5.heap.size q.size (HRI5.out.below q) HC5.out HAN5.out HZD.out HZL.out
    rw [HZV.out] at this
    exact this
  have CU := Lib.hid CU0
  clear CU0 hb5
  go_region_held3 (fun w' => w'.cell? ⟨w.heap.size, 0, none⟩ = some (.bool n) ∧ w'.cell? ⟨w.heap.size, 1, none⟩ = some ((.slice A l c))) ((and_intros <;> (first | (with_reducible assumption) | (go_simp; done) | (simp (maxDischargeDepth := 12) [go_sem]; done) | (simp (maxDischargeDepth := 12) [go_sem, *]; done) | exact (Below.cell (by with_reducible assumption) (by first | (simp; done) | (simp; omega) | omega)).trans (by simp (maxDischargeDepth := 12) [go_sem]))))
    (first
      | (go_at_call 58; (with_reducible refine (CU.out _ (by repeat' (first | (with_reducible exact Below.refl _ _) | (with_reducible refine Below.drew ?_) | (with_reducible refine below_drewN ?_ _)))).mono ?_); rintro e w6 ⟨⟨v6, rfl, ho6⟩, b6⟩; have p6 : Below w5.heap.size w5 w6 := Below.trans (by repeat' (first | (with_reducible assumption) | (with_reducible exact Below.refl _ _) | (with_reducible refine Below.drew ?_) | (with_reducible refine below_drewN ?_ _) | (with_reducible refine Below.alloc ?_ ?_ _) | (with_reducible exact Nat.le_refl _) | (simp; done) | (simp; omega) | omega)) (Below.mono b6 (by first | omega | (simp; done) | (simp; omega))); have ya_6 := Lib.hid (BoxN.below ya_5.out p6); have ya_60 := ya_6.out.c0; have ya_61 := ya_6.out.c1; have ya_62 := ya_6.out.f0; have ya_63 := ya_6.out.f1; have ya_6z := ya_6.out.z; have yr_6 := Lib.hid (BoxN.below yr_5.out p6); have yr_60 := yr_6.out.c0; have yr_61 := yr_6.out.c1; have yr_62 := yr_6.out.f0; have yr_63 := yr_6.out.f1; have yr_6z := yr_6.out.z; obtain ⟨A6, c6, rfl, hc6, hri6, han6⟩ := ho6.slice; have HO6 := Lib.hid ho6; clear ho6 hc6 hri6 han6)
      | (go_at_call 83; (with_reducible refine (SG.out _ _ _).mono ?_); rintro e w7 ⟨rfl, b7⟩; have p7 : Below w6.heap.size w6 w7 := Below.trans (by repeat' (first | (with_reducible assumption) | (with_reducible exact Below.refl _ _) | (with_reducible refine Below.drew ?_) | (with_reducible refine below_drewN ?_ _) | (with_reducible refine Below.alloc ?_ ?_ _) | (with_reducible exact Nat.le_refl _) | (simp; done) | (simp; omega) | omega)) (Below.mono b7 (by first | omega | (simp; done) | (simp; omega))); have ya_7 := Lib.hid (BoxN.below ya_6.out p7); have ya_70 := ya_7.out.c0; have ya_71 := ya_7.out.c1; have ya_72 := ya_7.out.f0; have ya_73 := ya_7.out.f1; have ya_7z := ya_7.out.z; have yr_7 := Lib.hid (BoxN.below yr_6.out p7); have yr_70 := yr_7.out.c0; have yr_71 := yr_7.out.c1; have yr_72 := yr_7.out.f0; have yr_73 := yr_7.out.f1; have yr_7z := yr_7.out.z))
  go_wp2_with fail
  (try simp only [Exit.inBlock, Exit.then]); refine bodyPost_ret (by simp [results, Try.results53, go_sem, *]; try rfl) rfl ?_
  have hz6 := p6.size; have hz7 := p7.size
  have q7 : Below w.heap.size w w7 := HBW.out.trans ((p6.trans (p7.mono hz6)).mono (by omega))
  refine ⟨⟨_, rfl, NV.of (b := w5.heap.size) ?_ HZT.out.symm HTN.out.symm⟩, ?_⟩
  · exact (((HO6.out.mono (by simp)).next p7).setCell (by simp; omega) _).setCell (by simp; omega) _
  · exact (q7.setCell (by simp) _).setCell (by simp) _
end Go.Proofs.Ytkhhjibpppmekaa

/- fieldfareref01: Whole. -/
namespace Go.Proofs.Ytkhhjibpppmekaa
open Go.RowKit
theorem val_drop_le (L : List Nat) (j : Nat) : val (L.drop j) ≤ val L := by
  induction j with
  | zero => simp
  | succ j ih => rw [val_drop_step L j] at ih; omega
/-- What a whole part is, as the code tells it. -/
def WholeA (z k : Int) (ok : Bool) : Prop := if -9223372036854775808 ≤ z.tdiv 1000000 ∧ z.tdiv 1000000 < 9223372036854775808 then k = z.tdiv 1000000 ∧ ok = true else k = 0 ∧ ok = false
def WholeP (z : Int) (e : Ending) : Prop := ∃ (k : Int) (ok : Bool), e = .returned (.tuple #[.int .i64 k, .bool ok]) ∧ WholeA z k ok
theorem whole_nat (z : Int) : ∃ Q : Nat, Q = z.natAbs / 1000000 ∧ z.tdiv 1000000 = (if zn z then -(Q : Int) else (Q : Int)) := by
  refine ⟨_, rfl, ?_⟩
  have h := tdiv_abs z
  by_cases hz : z < 0
  · have h1 : zn z = true := by unfold zn; rw [decide_eq_true_eq]; exact hz
    rw [h1, if_pos rfl]
    have h2 : z.tdiv 1000000 ≤ 0 := by
      have := Int.tdiv_nonneg (a := -z) (b := 1000000) (by omega) (by decide)
      rw [Int.neg_tdiv] at this; omega
    omega
  · have h1 : zn z = false := by unfold zn; rw [decide_eq_false_iff_not]; exact hz
    rw [h1]
    have h2 : 0 ≤ z.tdiv 1000000 := Int.tdiv_nonneg (by omega) (by decide)
    simp only [Bool.false_eq_true, if_false]
    omega
set_option maxRecDepth 100000 in
set_option maxHeartbeats 1600000 in
theorem rwhole_any (n : Bool) (A : Option Addr) (c : Nat) (z : Int) (hn : n = zn z) (w : World) (B0 : Nat) (hB0 : B0 ≤ w.heap.size) (hr : RI w B0 A (dg z.natAbs)) (hc : (dg z.natAbs).length ≤ c) :
    Calls Try.prog 54 #[.agg #[.bool n, .slice A (dg z.natAbs).length c]] w fun e w' => WholeP z e ∧ Below w.heap.size w w' := by
  obtain ⟨Q, hQ, hzq⟩ := whole_nat z
  rw [← hn] at hzq
  obtain ⟨N, hN⟩ : ∃ N, N = z.natAbs := ⟨_, rfl⟩
  rw [← hN] at hr hc hQ ⊢
  have hlow := fun W h => lower_any A c N W B0 h hc
  rw [← hQ] at hlow
  have hlen : (dg Q).length ≤ 19 ↔ Q < 10000000000000000000 := ⟨fun h => dg_len_lt h, fun h => dg_len_bound (k := 19) h⟩
  have hvq := val_dg Q
  have hdq := dg_dig Q
  obtain ⟨L, hL⟩ : ∃ L, L = dg Q := ⟨_, rfl⟩
  rw [← hL] at hlow hlen hvq hdq
  obtain ⟨l, hl⟩ : ∃ l, l = (dg N).length := ⟨_, rfl⟩
  rw [← hl] at hlow ⊢
  have hb1 : Below w.heap.size w (w.alloc (.cells #[.bool n, .slice A l c] 34)) := by (repeat' (first | (with_reducible exact Below.refl _ _) | (refine Below.trans ?_ (Below.mono (by with_reducible assumption) ?_)) | (with_reducible exact Below.refl _ _) | (with_reducible refine below_drewN ?_ _) | (with_reducible refine Below.drew ?_) | (with_reducible refine Below.setCell ?_ ?_ _) | (with_reducible refine Below.alloc ?_ ?_ _) | (with_reducible assumption) | (simp; done) | (simp; omega) | omega))
  have HR := Lib.hid (hr.below (hb1.mono hB0)); have LO := Lib.hid hlow; have HZQ := Lib.hid hzq; have HVQ := Lib.hid hvq; have HDQ := Lib.hid hdq; have HLEN := Lib.hid hlen
  have HB0 := Lib.hid hb1; have HBB := Lib.hid hB0
  clear hr hc hB0 hlow hlen hvq hdq hL hl hN hQ hzq hb1 hn
  by_cases h19 : L.length ≤ 19
  · have hQ19 := HLEN.out.1 h19
    have HQ := Lib.hid hQ19
    go_enter Try.func54, Try.ntmps54
    go_upto_block 0 with (first
      | (go_at_call 82; (with_reducible refine (LO.out _ HR.out).mono ?_); rintro e w1 ⟨⟨A2, c2, rfl, hri2, hc2, han2⟩, rfl⟩; have HR2 := Lib.hid hri2; clear hri2 hc2 han2))
    obtain ⟨w1, hw1⟩ : ∃ x, x = w.alloc (.cells #[.bool n, .slice A l c] 34) := ⟨_, rfl⟩
    have yc0 : w1.cell? ⟨w.heap.size, 0, none⟩ = some (.bool n) := by rw [hw1]; simp (maxDischargeDepth := 12) [go_sem]
    rw [← hw1] at HR2 HB0 ⊢
    clear hw1
    go_cut [5, 6] (fun u _ wx => u = .int .u64 (Q : Int) ∧ w1 = wx)
    case first =>
      go_wp2_with fail
      go_loop [5, 6] (fun u i => ∃ (j V : Nat), i = .int .i64 ((j : Int) - 1) ∧ j ≤ L.length ∧ u = .int .u64 (V : Int) ∧ Hid (V = val (L.drop j))) (fun _ i => (intOf i + 1).toNat)
      case atStart => exact ⟨L.length, 0, rfl, Nat.le_refl _, rfl, Lib.hid (by simp [val])⟩
      case round =>
        obtain ⟨j, V, rfl, hj, rfl, hV⟩ := hrel
        cases j with
        | zero =>
          obtain rfl : V = Q := by have := hV.out; rwa [List.drop_zero, HVQ.out] at this
          clear hQ19
          go_wp2_with fail
          go_meet
          exact ⟨rfl, rfl⟩
        | succ j =>
          have h1 : j < L.length := by omega
          obtain ⟨ad, rfl, hbk, hcell⟩ := HR2.out (by omega)
          have hcl := hcell j h1
          obtain ⟨x, hx⟩ : ∃ x, x = L.getD j 0 := ⟨_, rfl⟩
          have hx9 : x < 10 := by rw [hx]; exact getD_lt HDQ.out j
          rw [← getD_at h1, ← hx] at hcl
          obtain ⟨V', hV'⟩ : ∃ V', V' = 10 * V + x := ⟨_, rfl⟩
          have hVd : V' = val (L.drop j) := by rw [val_drop_step L j, ← hx, ← hV.out, hV']; omega
          have hVle : V' ≤ Q := by rw [hVd, ← HVQ.out]; exact val_drop_le L j
          have hw1 : IntKind.u64.wrap (10 * (V : Int)) = 10 * (V : Int) := by rw [IntKind.wrap_u64]; omega
          have hw2 : IntKind.u64.wrap (x : Int) = (x : Int) := by rw [IntKind.wrap_u64]; omega
          have hw3 : IntKind.u64.wrap (10 * (V : Int) + (x : Int)) = (V' : Int) := by rw [IntKind.wrap_u64]; omega
          have HVD := Lib.hid hVd
          clear hx hV' hVd hVle hcell hbk hQ19
          go_wp2_with fail
          go_round
          case rel => exact ⟨j, V', by go_num, by omega, rfl, HVD⟩
          case measure => simp [intOf]
    case rest =>
      obtain ⟨rfl, rfl⟩ := hcut
      have hcas : (n = true ∧ Q ≤ 9223372036854775808) ∨ (n = false ∧ Q < 9223372036854775808) ∨ (n = true ∧ 9223372036854775808 < Q) ∨ (n = false ∧ 9223372036854775808 ≤ Q) := by
        cases n
        · have : Q < 9223372036854775808 ∨ 9223372036854775808 ≤ Q := by omega
          rcases this with h | h
          · exact .inr (.inl ⟨rfl, h⟩)
          · exact .inr (.inr (.inr ⟨rfl, h⟩))
        · have : Q ≤ 9223372036854775808 ∨ 9223372036854775808 < Q := by omega
          rcases this with h | h
          · exact .inl ⟨rfl, h⟩
          · exact .inr (.inr (.inl ⟨rfl, h⟩))
      rcases hcas with ⟨rfl, h⟩ | ⟨rfl, h⟩ | ⟨rfl, h⟩ | ⟨rfl, h⟩
      · have hwb : wrap64 (IntKind.u64.wrap (-(Q : Int))) = -(Q : Int) := wrap_back Q (by omega) (by omega)
        have hi : (Q : Int) ≤ 9223372036854775808 := by omega
        clear hQ19
        go_wp2_with fail
        (try simp only [Exit.inBlock, Exit.then]); refine bodyPost_ret (by simp [results, Try.results54, go_sem, *]; try rfl) rfl ?_
        have hz := HZQ.out
        simp only [if_true] at hz
        exact ⟨⟨_, _, rfl, by unfold WholeA; rw [hz, if_pos (by omega)]; exact ⟨by first | rfl | simp [hwb] | omega, rfl⟩⟩, HB0.out⟩
      · have hwb : IntKind.i64.wrap (Q : Int) = (Q : Int) := by rw [IntKind.wrap_i64]; omega
        have hi : (Q : Int) < 9223372036854775808 := by omega
        clear hQ19
        go_wp2_with fail
        (try simp only [Exit.inBlock, Exit.then]); refine bodyPost_ret (by simp [results, Try.results54, go_sem, *]; try rfl) rfl ?_
        have hz := HZQ.out
        simp only [Bool.false_eq_true, if_false] at hz
        exact ⟨⟨_, _, rfl, by unfold WholeA; rw [hz, if_pos (by omega)]; exact ⟨by first | rfl | simp [hwb] | omega, rfl⟩⟩, HB0.out⟩
      · have hi : ¬ (Q : Int) ≤ 9223372036854775808 := by omega
        clear hQ19
        go_wp2_with fail
        (try simp only [Exit.inBlock, Exit.then]); refine bodyPost_ret (by simp [results, Try.results54, go_sem, *]; try rfl) rfl ?_
        have hz := HZQ.out
        simp only [if_true] at hz
        exact ⟨⟨_, _, rfl, by unfold WholeA; rw [hz, if_neg (by omega)]; exact ⟨rfl, rfl⟩⟩, HB0.out⟩
      · have hi : ¬ (Q : Int) < 9223372036854775808 := by omega
        clear hQ19
        go_wp2_with fail
        (try simp only [Exit.inBlock, Exit.then]); refine bodyPost_ret (by simp [results, Try.results54, go_sem, *]; try rfl) rfl ?_
        have hz := HZQ.out
        simp only [Bool.false_eq_true, if_false] at hz
        exact ⟨⟨_, _, rfl, by unfold WholeA; rw [hz, if_neg (by omega)]; exact ⟨rfl, rfl⟩⟩, HB0.out⟩
  · have hQ19 : 10000000000000000000 ≤ Q := by have := (not_congr HLEN.out).1 h19; omega
    have HQ := Lib.hid hQ19
    have h20 : 19 < L.length := by omega
    clear hQ19 h19
    go_enter Try.func54, Try.ntmps54
    go_wp2_with (first
      | (go_at_call 82; (with_reducible refine (LO.out _ HR.out).mono ?_); rintro e w1 ⟨⟨A2, c2, rfl, hri2, hc2, han2⟩, rfl⟩; clear hri2 hc2 han2))
    (try simp only [Exit.inBlock, Exit.then]); refine bodyPost_ret (by simp [results, Try.results54, go_sem, *]; try rfl) rfl ?_
    have hz := HZQ.out
    have hq := HQ.out
    exact ⟨⟨_, _, rfl, by unfold WholeA; rw [hz, if_neg (by split <;> omega)]; exact ⟨rfl, rfl⟩⟩, HB0.out⟩
end Go.Proofs.Ytkhhjibpppmekaa
