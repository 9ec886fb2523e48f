/- fieldfareref01: Less, Good, Same. -/
import Derived.Test.YtkhhjibpppmekaaRefB
import Derived.Test.YtkhhjibpppmekaaDecM
namespace Go.Proofs.Ytkhhjibpppmekaa
open Go.RowKit
theorem RI.drewN {w : World} {B : Nat} {A : Option Addr} {bs : List Nat} (h : RI w B A bs) (n : Nat) : RI (w.drewN n) B A bs := h.keep fun _ _ => by simp
theorem drew3 (w : World) (a b c : Nat) : ∃ n, ((w.drewN a).drewN b).drewN c = w.drewN n := ⟨a + b + c, by simp [Nat.add_assoc]⟩
set_option maxRecDepth 100000 in
set_option maxHeartbeats 800000 in
theorem less_any (A A' : Option Addr) (c c' a b : Nat) (w : World) (B0 : Nat) (hr : RI w B0 A (dg a)) (hr' : RI w B0 A' (dg b)) (hm : (dg a).length ≤ 1000000) :
    Calls Try.prog 70 #[.slice A (dg a).length c, .slice A' (dg b).length c'] w fun e w' => e = .returned (.bool (decide (a < b))) ∧ ∃ n, w' = w.drewN n := by
  obtain ⟨ds, hds⟩ : ∃ ds, ds = dg a := ⟨_, rfl⟩
  obtain ⟨es, hes⟩ : ∃ es, es = dg b := ⟨_, rfl⟩
  have hda := dg_dig a; have hdb := dg_dig b
  have hva := val_dg a; have hvb := val_dg b
  have hll := @less_len a b; have hlg := @less_len b a
  rw [← hds] at hr hm hda hva hll hlg
  rw [← hes] at hr' hdb hvb hll hlg
  rw [← hds, ← hes]
  have HR := Lib.hid hr; have HR' := Lib.hid hr'; have HDA := Lib.hid hda; have HDB := Lib.hid hdb; have HVA := Lib.hid hva; have HVB := Lib.hid hvb
  have HDS := Lib.hid hds; have HES := Lib.hid hes
  clear hr hr' hda hdb hva hvb hds hes
  rcases Nat.lt_trichotomy ds.length es.length with hlt | heq | hgt
  · have hd : decide (a < b) = true := by rw [decide_eq_true_eq]; exact hll hlt
    rw [hd]; clear hd hll hlg
    have h1 : (((ds.length : Nat) : Int) != ((es.length : Nat) : Int)) = true := by rw [bne_iff_ne]; omega
    go_enter Try.func70, Try.ntmps70
    go_wp2
    go_ret
    exact ⟨by simp <;> omega, 0, rfl⟩
  · clear hll hlg
    have HEQ := Lib.hid heq
    obtain ⟨n, hn⟩ : ∃ n, n = ds.length := ⟨_, rfl⟩
    rw [← heq, ← hn]
    rw [← hn] at hm heq
    have HN := Lib.hid hn
    clear hn heq
    go_enter Try.func70, Try.ntmps70
    go_wp2
    go_loopw [5] (fun i wr => ∃ k : Nat, k ≤ n ∧ i = .int .i64 ((k : Int) - 1) ∧ Hid (ds.drop k = es.drop k) ∧ ∃ m, w.drewN m = wr) (fun i _ => (intOf i + 1).toNat)
    case atStart => exact ⟨n, Nat.le_refl _, rfl, Lib.hid (by rw [HN.out, List.drop_length, HEQ.out, List.drop_length]), 0, rfl⟩
    case round =>
      obtain ⟨k, hk, rfl, hE, m, rfl⟩ := hrel
      cases k with
      | zero =>
        have hfin : decide (a < b) = false := by
          have : ds = es := by simpa using hE.out
          rw [decide_eq_false_iff_not, ← HVA.out, ← HVB.out, this]; omega
        have HF := Lib.hid hfin
        clear hfin
        go_wp2
        go_ret
        exact ⟨by rw [HF.out]; rfl, _, rfl⟩
      | succ k =>
        have hlt : k < ds.length := by rw [← HN.out]; omega
        have hlt' : k < es.length := by rw [← HEQ.out]; exact hlt
        obtain ⟨ad, rfl, hb, hcell⟩ := HR.out (by omega)
        obtain ⟨ad', rfl, hb', hcell'⟩ := HR'.out (by omega)
        have hcl := hcell k hlt
        have hcl' := hcell' k hlt'
        have hst := drop_step k hlt hlt' hE.out
        have hl1 := less_at HDA.out k hlt hlt' hE.out
        have hl2 := less_at HDB.out k hlt' hlt hE.out.symm
        obtain ⟨x, hx⟩ : ∃ x, x = ds[k] := ⟨_, rfl⟩
        obtain ⟨y, hy⟩ : ∃ y, y = es[k] := ⟨_, rfl⟩
        rw [← hx] at hcl hst hl1 hl2
        rw [← hy] at hcl' hst hl1 hl2
        rw [HVA.out, HVB.out] at hl1
        rw [HVA.out, HVB.out] at hl2
        clear hx hy hcell hcell' hb hb'
        have hkn : (k : Int) < (n : Int) := by omega
        clear hlt hlt'
        rcases Nat.lt_trichotomy x y with hxy | hxy | hxy
        · have hfin : decide (a < b) = true := by rw [decide_eq_true_eq]; exact hl1 hxy
          have HF := Lib.hid hfin
          have h1 : ((x : Int) != (y : Int)) = true := by rw [bne_iff_ne]; omega
          clear hfin hl1 hl2 hst
          go_wp2_with fail
          go_quiet (fail)
          go_wp2_with fail
          go_quiet (fail)
          go_wp2_with fail
          go_ret
          exact ⟨by rw [HF.out]; simp <;> omega, drew3 _ _ _ _⟩
        · subst hxy
          have HS := Lib.hid (hst rfl)
          clear hl1 hl2 hst
          go_wp2_with fail
          go_quiet (fail)
          go_wp2_with fail
          go_roundw
          case rel => exact ⟨k, by omega, by go_num, HS, _, rfl⟩
          case measure => simp [intOf]
        · have hfin : decide (a < b) = false := by rw [decide_eq_false_iff_not]; have := hl2 hxy; omega
          have HF := Lib.hid hfin
          have h1 : ((x : Int) != (y : Int)) = true := by rw [bne_iff_ne]; omega
          clear hfin hl1 hl2 hst
          go_wp2_with fail
          go_quiet (fail)
          go_wp2_with fail
          go_quiet (fail)
          go_wp2_with fail
          go_ret
          exact ⟨by rw [HF.out]; simp <;> omega, drew3 _ _ _ _⟩
  · have hd : decide (a < b) = false := by rw [decide_eq_false_iff_not]; have := hlg hgt; omega
    rw [hd]; clear hd hll hlg
    have h1 : (((ds.length : Nat) : Int) != ((es.length : Nat) : Int)) = true := by rw [bne_iff_ne]; omega
    go_enter Try.func70, Try.ntmps70
    go_wp2
    go_ret
    exact ⟨by simp <;> omega, 0, rfl⟩
theorem good_dg (n : Bool) (x y : Nat) (hx : x < 18446744073709551616) (hy : y < 18446744073709551616) :
    goodB n (x : Int) (y : Int) = (decide ((dg (x * 18446744073709551616 + y)).length ≤ 36) && !(n && decide ((dg (x * 18446744073709551616 + y)).length = 0))) := by
  have hX : Wd (x : Int) := ⟨by omega, by omega⟩
  have hY : Wd (y : Int) := ⟨by omega, by omega⟩
  obtain ⟨N, hN⟩ : ∃ N, N = x * 18446744073709551616 + y := ⟨_, rfl⟩
  rw [← hN]
  have h1 : blw (x : Int) (y : Int) 54210108624275221 12919594847110692864 = decide ((dg N).length ≤ 36) := by
    rw [Bool.eq_iff_iff, blw_iff hY hX, decide_eq_true_eq]
    constructor
    · intro h
      refine dg_len_le ?_
      unfold LIM at h; omega
    · intro h
      have h2 := dg_lt N
      have h3 : 10 ^ (dg N).length ≤ 10 ^ 36 := Nat.pow_le_pow_right (by decide) h
      unfold LIM; omega
  have h2 : ((x : Int) == 0 && (y : Int) == 0) = decide ((dg N).length = 0) := by
    rw [Bool.eq_iff_iff, decide_eq_true_eq, Bool.and_eq_true, beq_iff_eq, beq_iff_eq]
    constructor
    · rintro ⟨h, h'⟩
      have : N = 0 := by omega
      rw [this]; rfl
    · intro h
      have := dg_nil h
      omega
  unfold goodB
  rw [h1, Bool.and_assoc, h2]
set_option maxRecDepth 100000 in
set_option maxHeartbeats 800000 in
theorem rgood_any (n : Bool) (x y : Nat) (w : World) (wx : x < 18446744073709551616) (wy : y < 18446744073709551616) :
    Calls Try.prog 15 #[.agg #[.bool n, .int .u64 (x : Int), .int .u64 (y : Int)]] w fun e w' => e = .returned (.bool (goodB n (x : Int) (y : Int))) ∧ Below w.heap.size w w' := by
  have hg := good_dg n x y wx wy
  have OF := fun W => of_any n x y W wx wy
  obtain ⟨ds, hds⟩ : ∃ ds, ds = dg (x * 18446744073709551616 + y) := ⟨_, rfl⟩
  obtain ⟨G, hG⟩ : ∃ G, G = goodB n (x : Int) (y : Int) := ⟨_, rfl⟩
  rw [← hds] at hg OF
  rw [← hG] at hg
  rw [← hG]
  clear hG
  have HG := Lib.hid hg; have OF := Lib.hid OF
  clear hds hg wx wy
  have hcas : (ds.length = 0) ∨ (1 ≤ ds.length ∧ ds.length ≤ 36) ∨ 36 < ds.length := by omega
  rcases hcas with h | ⟨h1, h2⟩ | h
  · have HF := Lib.hid (show G = !n by rw [HG.out]; simp [h])
    obtain rfl : ds = [] := List.length_eq_zero_iff.1 h
    clear h
    cases n
    all_goals
      go_enter Try.func15, Try.ntmps15
      go_wp2_with (go_at_call 18; refine (OF.out _).mono ?_; rintro e w1 ⟨⟨v, rfl, ho⟩, b1⟩; obtain ⟨A, c, rfl, hc, hri, han⟩ := ho.slice; clear hri han ho; have hs_b1 := Below.size b1; (try simp at hs_b1))
      go_returns
      exact ⟨by rw [HF.out]; rfl, by (repeat' (first | (with_reducible exact Below.refl _ _) | (refine Below.trans ?_ (Below.mono (by with_reducible assumption) ?_)) | (with_reducible exact Below.refl _ _) | (with_reducible refine below_drewN ?_ _) | (with_reducible refine Below.drew ?_) | (with_reducible refine Below.setCell ?_ ?_ _) | (with_reducible refine Below.alloc ?_ ?_ _) | (with_reducible assumption) | (simp; done) | (simp; omega) | omega))⟩
  · have HF := Lib.hid (show G = true by rw [HG.out, decide_eq_true h2, decide_eq_false (show ¬ ds.length = 0 by omega), Bool.and_false]; rfl)
    have h3 : ((ds.length : Int) == 0) = false := by rw [beq_eq_false_iff_ne]; omega
    cases n
    all_goals
      go_enter Try.func15, Try.ntmps15
      go_wp2_with (go_at_call 18; refine (OF.out _).mono ?_; rintro e w1 ⟨⟨v, rfl, ho⟩, b1⟩; obtain ⟨A, c, rfl, hc, hri, han⟩ := ho.slice; clear hri han ho; have hs_b1 := Below.size b1; (try simp at hs_b1))
      go_returns
      exact ⟨by rw [HF.out]; rfl, by (repeat' (first | (with_reducible exact Below.refl _ _) | (refine Below.trans ?_ (Below.mono (by with_reducible assumption) ?_)) | (with_reducible exact Below.refl _ _) | (with_reducible refine below_drewN ?_ _) | (with_reducible refine Below.drew ?_) | (with_reducible refine Below.setCell ?_ ?_ _) | (with_reducible refine Below.alloc ?_ ?_ _) | (with_reducible assumption) | (simp; done) | (simp; omega) | omega))⟩
  · have HF := Lib.hid (show G = false by rw [HG.out, decide_eq_false (show ¬ ds.length ≤ 36 by omega)]; rfl)
    go_enter Try.func15, Try.ntmps15
    go_wp2_with (go_at_call 18; refine (OF.out _).mono ?_; rintro e w1 ⟨⟨v, rfl, ho⟩, b1⟩; obtain ⟨A, c, rfl, hc, hri, han⟩ := ho.slice; clear hri han ho; have hs_b1 := Below.size b1; (try simp at hs_b1))
    go_returns
    exact ⟨by rw [HF.out]; rfl, by (repeat' (first | (with_reducible exact Below.refl _ _) | (refine Below.trans ?_ (Below.mono (by with_reducible assumption) ?_)) | (with_reducible exact Below.refl _ _) | (with_reducible refine below_drewN ?_ _) | (with_reducible refine Below.drew ?_) | (with_reducible refine Below.setCell ?_ ?_ _) | (with_reducible refine Below.alloc ?_ ?_ _) | (with_reducible assumption) | (simp; done) | (simp; omega) | omega))⟩
set_option maxRecDepth 100000 in
set_option maxHeartbeats 800000 in
theorem same_any (n m : Bool) (A A' : Option Addr) (c c' a b : Nat) (w : World) (B0 : Nat) (hB0 : B0 ≤ w.heap.size) (hr : RI w B0 A (dg a)) (hr' : RI w B0 A' (dg b)) (hm : (dg a).length ≤ 1000000) (hm' : (dg b).length ≤ 1000000) :
    Calls Try.prog 38 #[.agg #[.bool n, .slice A (dg a).length c], .agg #[.bool m, .slice A' (dg b).length c']] w fun e w' => e = .returned (.bool (n == m && decide (a = b))) ∧ Below w.heap.size w w' := by
  have L1 := Lib.hid (fun W hr hr' => less_any A A' c c' a b W B0 hr hr' hm)
  have L2 := Lib.hid (fun W hr hr' => less_any A' A c' c b a W B0 hr hr' hm')
  obtain ⟨la, hla⟩ : ∃ la, la = (dg a).length := ⟨_, rfl⟩
  obtain ⟨lb, hlb⟩ : ∃ lb, lb = (dg b).length := ⟨_, rfl⟩
  rw [← hla, ← hlb] at L1 L2
  rw [← hla, ← hlb]
  have hb2 : Below w.heap.size w ((w.alloc (.cells #[.bool n, .slice A la c] 34)).alloc (.cells #[.bool m, .slice A' lb c'] 34)) := by (repeat' (first | (with_reducible exact Below.refl _ _) | (refine Below.trans ?_ (Below.mono (by with_reducible assumption) ?_)) | (with_reducible exact Below.refl _ _) | (with_reducible refine below_drewN ?_ _) | (with_reducible refine Below.drew ?_) | (with_reducible refine Below.setCell ?_ ?_ _) | (with_reducible refine Below.alloc ?_ ?_ _) | (with_reducible assumption) | (simp; done) | (simp; omega) | omega))
  have HR := Lib.hid (hr.below (hb2.mono hB0)); have HR' := Lib.hid (hr'.below (hb2.mono hB0))
  clear hr hr' hm hm' hla hlb hb2
  obtain ⟨p, hp⟩ : ∃ p, p = decide (a < b) := ⟨_, rfl⟩
  obtain ⟨q, hq⟩ : ∃ q, q = decide (b < a) := ⟨_, rfl⟩
  have hpq : decide (a = b) = (!p && !q) := by
    rw [hp, hq, Bool.eq_iff_iff]; simp; omega
  rw [← hp] at L1
  rw [← hq] at L2
  rw [hpq]
  clear hp hq hpq
  cases n <;> cases m <;> cases p <;> cases q
  all_goals
    go_enter Try.func38, Try.ntmps38
    go_wp2_with (first
      | (go_at_call 70; (with_reducible refine (L1.out _ (by first | exact HR.out | exact HR.out.drewN _) (by first | exact HR'.out | exact HR'.out.drewN _)).mono ?_); rintro e w1 ⟨rfl, k1, rfl⟩)
      | (go_at_call 70; (with_reducible refine (L2.out _ (by first | exact HR'.out | exact HR'.out.drewN _) (by first | exact HR.out | exact HR.out.drewN _)).mono ?_); rintro e w1 ⟨rfl, k2, rfl⟩))
    go_returns
    exact ⟨by rfl, by (repeat' (first | (with_reducible exact Below.refl _ _) | (refine Below.trans ?_ (Below.mono (by with_reducible assumption) ?_)) | (with_reducible exact Below.refl _ _) | (with_reducible refine below_drewN ?_ _) | (with_reducible refine Below.drew ?_) | (with_reducible refine Below.setCell ?_ ?_ _) | (with_reducible refine Below.alloc ?_ ?_ _) | (with_reducible assumption) | (simp; done) | (simp; omega) | omega))⟩
end Go.Proofs.Ytkhhjibpppmekaa
