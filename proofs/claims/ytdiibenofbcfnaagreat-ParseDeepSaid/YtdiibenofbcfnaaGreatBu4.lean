/- Several texts put together: NumC. -/
import Derived.Test.YtdiibenofbcfnaaGreatBu1
set_option linter.unusedSimpArgs false
set_option linter.unusedVariables false
namespace Go.Proofs.YtdiibenofbcfnaaGreat
open Go.RowKit
def sgn (bs : List Nat) : Nat := match (bs.drop (span blankB bs)).head? with | some x => if x = 43 ∨ x = 45 then 1 else 0 | none => 0
def sneg (bs : List Nat) : Bool := match (bs.drop (span blankB bs)).head? with | some x => decide (x = 45) | none => false
def nI1 (bs : List Nat) : Nat := span blankB bs + sgn bs
def nW (bs : List Nat) : Nat := span digB (bs.drop (nI1 bs))
def nI2 (bs : List Nat) : Nat := nI1 bs + nW bs
def nDot (bs : List Nat) : Bool := (bs.drop (nI2 bs)).head? == some 46
def nB (bs : List Nat) : Nat := if nDot bs then span digB (bs.drop (nI2 bs + 1)) else 0
def nI3 (bs : List Nat) : Nat := if nDot bs then nI2 bs + 1 + nB bs else nI2 bs
theorem head_drop {l : List Nat} {i : Nat} (h : i < l.length) : (l.drop i).head? = some l[i] := by
  rw [List.head?_drop, List.getElem?_eq_getElem h]
theorem head_none {l : List Nat} {i : Nat} (h : l.length ≤ i) : (l.drop i).head? = none := by
  rw [List.head?_drop, List.getElem?_eq_none h]
theorem sgn_zero {bs : List Nat} (h : (sgn bs == 1) = false) : sgn bs = 0 ∧ sneg bs = false := by
  unfold sgn sneg at *
  split at h
  · split at h
    · cases h
    · rename_i x _ hx; simp only [hx, if_false]; simp; omega
  · exact ⟨rfl, rfl⟩
theorem sgn_one {bs : List Nat} (h : (sgn bs == 1) = true) : sgn bs = 1 ∧ ∃ h : span blankB bs < bs.length, (bs[span blankB bs] = 43 ∨ bs[span blankB bs] = 45) ∧ sneg bs = decide (bs[span blankB bs] = 45) := by
  have hl : span blankB bs < bs.length := by
    rcases Nat.lt_or_ge (span blankB bs) bs.length with h1 | h1
    · exact h1
    · unfold sgn at h; rw [head_none h1] at h; cases h
  unfold sgn sneg at *
  rw [head_drop hl] at *
  simp only at h ⊢
  split at h
  · rename_i hx; exact ⟨by rw [if_pos hx], hl, hx, trivial⟩
  · cases h
def cutA (A : Option Addr) (c i : Nat) : Option Addr := if c = i then A else A.map (·.add i)
theorem cut_run (A : Option Addr) (n c i : Nat) (h : i ≤ n) (W : World) : (Instr.slice 23 (.slice A n c) (some (.int .i64 (i : Int))) none none).run Tryz.prog W = .ok (.slice (cutA A c i) (n - i) (c - i)) W := by
  rw [run_slice_l W 23 A n c (by kernel_rfl) .i64 i (by omega) (by omega)]
  simp [go_sem, cutA]
theorem RB.cutA {w : World} {B : Nat} {A : Option Addr} {bs : List Nat} (h : RB w B A bs) {k c : Nat} (hc : bs.length ≤ c) : RB w B (cutA A c k) (bs.drop k) := h.cut hc
theorem digits_n (A : Option Addr) (n c : Nat) (bs : List Nat) (w : World) (hn : bs.length = n) (hr : RB w w.heap.size A bs) (hc : n ≤ c) (hm : n ≤ 140737488351232) :
    Calls Tryz.prog 53 #[.slice A n c] w fun e w' => e = .returned (.slice A (span digB bs) c) ∧ w = w' := by
  subst hn; exact digits_any A c bs w hr hc hm
def ScanPost (A : Option Addr) (c : Nat) (bs : List Nat) (w : World) (B0 : Nat) (e : Ending) : Prop :=
  (nW bs + nB bs = 0 ∧ e = .returned (.agg #[.bool false, .slice none 0 0, .slice none 0 0, .int .i64 0])) ∨
  (0 < nW bs + nB bs ∧ ∃ (Ab : Option Addr) (cb : Nat), e = .returned (.agg #[.bool (sneg bs), .slice (cutA A c (nI1 bs)) (nW bs) (c - nI1 bs), .slice Ab (nB bs) cb, .int .i64 ((nI3 bs : Nat) : Int)]) ∧
    nB bs ≤ cb ∧ RB w B0 Ab ((bs.drop (nI2 bs + 1)).take (nB bs)))
theorem nB_le (bs : List Nat) : nI2 bs + nB bs ≤ bs.length := by
  have h1 := span_le blankB bs
  have h2 : nI1 bs ≤ bs.length := by
    unfold nI1
    cases hs : (sgn bs == 1)
    · rw [(sgn_zero hs).1]; exact h1
    · obtain ⟨e, hl, _⟩ := sgn_one hs; rw [e]; omega
  have h3 := span_le digB (bs.drop (nI1 bs))
  rw [List.length_drop] at h3
  have h4 := span_le digB (bs.drop (nI2 bs + 1))
  rw [List.length_drop] at h4
  unfold nB
  split
  · unfold nI2 nW at *; omega
  · unfold nI2 nW at *; omega
set_option maxRecDepth 100000 in
set_option maxHeartbeats 800000 in
theorem scan_any (A : Option Addr) (c : Nat) (bs : List Nat) (w : World) (B0 : Nat) (hB0 : B0 ≤ w.heap.size) (hr : RB w B0 A bs) (hc : bs.length ≤ c) (hm : bs.length ≤ 140737488351232) :
    Calls Tryz.prog 46 #[.slice A bs.length c] w fun e w' => ScanPost A c bs w B0 e ∧ Below w.heap.size w w' := by
  have hH := Lib.hid hr
  clear hr
  go_enter Tryz.func46, Tryz.ntmps46
  go_upto_block 0 with fail
  go_cut [4] (fun i wx => i = .int .i64 ((span blankB bs : Nat) : Int) ∧ (w.alloc (.cells #[.bool false, .slice none 0 0, .slice none 0 0, .int .i64 0] 102)).alloc (.cells #[.bool false, .slice none 0 0, .slice none 0 0, .int .i64 0] 102) = wx)
  case first =>
    go_wp2_with fail
    go_loop [4] (fun n => ∃ k : Nat, k ≤ bs.length ∧ n = .int .i64 k ∧ Hid (∀ j (hj : j < bs.length), j < k → blankB bs[j] = true)) (fun n => bs.length - (intOf n).toNat)
    case atStart => exact ⟨0, Nat.zero_le _, rfl, Lib.hid (fun _ _ h => absurd h (by omega))⟩
    case round =>
      obtain ⟨k, hk, rfl, hall⟩ := hrel
      by_cases hlt : k < bs.length
      · obtain ⟨ad, rfl, hb', hcell⟩ := hH.out.2 (by omega)
        have hb := Nat.lt_of_lt_of_le hb' hB0
        have hcl := hcell k hlt
        have hbl : ad.block < w.heap.size := hb
        have hcl2 : ((w.alloc (.cells #[.bool false, .slice none 0 0, .slice none 0 0, .int .i64 0] 102)).alloc (.cells #[.bool false, .slice none 0 0, .slice none 0 0, .int .i64 0] 102)).cell? (ad.add k) = some (.int .u8 ((bs[k] : Nat) : Int)) :=
          (Below.cell (show Below w.heap.size w _ by (repeat' (first | (with_reducible exact Below.refl _ _) | (refine Below.trans ?_ (Below.mono (by with_reducible assumption) ?_)) | (with_reducible exact Below.refl _ _) | (with_reducible refine below_drewN ?_ _) | (with_reducible refine Below.drew ?_) | (with_reducible refine Below.setCell ?_ ?_ _) | (with_reducible refine Below.alloc ?_ ?_ _) | (with_reducible assumption) | (simp; done) | (simp; omega) | omega))) (by rw [block_of_add]; exact hb)).trans hcl
        obtain ⟨x, hxe⟩ : ∃ x, x = bs[k] := ⟨_, rfl⟩
        rw [← hxe] at hcl2
        have HX := Lib.hid hxe; clear hxe hcell hb hb' hcl
        cases hbx : blankB x
        · have he : span blankB bs = k := span_eq _ _ _ hk (fun j hj hjk => hall.out j hj hjk) (fun hj => by rw [← HX.out]; exact hbx)
          have HE := Lib.hid he; clear he
          go_wp2_with (go_at_call 52; refine (blank_any _ _).mono ?_; rintro e w' ⟨rfl, rfl⟩)
          go_meet
          exact ⟨by rw [HE.out], rfl⟩
        · go_wp2_with (go_at_call 52; refine (blank_any _ _).mono ?_; rintro e w' ⟨rfl, rfl⟩)
          go_round
          case rel => exact ⟨k + 1, by omega, by go_num, Lib.hid (fun j hj hjk => by
            by_cases e : j = k
            · subst e; rw [← HX.out]; exact hbx
            · exact hall.out j hj (by omega))⟩
          case measure => simp [intOf]; omega
      · have he : span blankB bs = k := span_eq _ _ _ hk (fun j hj hjk => hall.out j hj hjk) (fun hj => by omega)
        have HE := Lib.hid he; clear he
        go_wp2_with fail
        go_meet
        exact ⟨by rw [HE.out], rfl⟩
  case rest =>
    obtain ⟨rfl, rfl⟩ := hcut
    obtain ⟨i0, hi0⟩ : ∃ i0, i0 = span blankB bs := ⟨_, rfl⟩
    have hi0l : i0 ≤ bs.length := by rw [hi0]; exact span_le _ _
    rw [← hi0]
    have HI0 := Lib.hid hi0; clear hi0
    have hcells : ∀ k (hk : k < bs.length), ∃ (ad : Addr) (x : Nat), A = some ad ∧ x = bs[k] ∧ x < 256 ∧ ad.block < w.heap.size ∧ w.cell? (ad.add k) = some (.int .u8 (x : Int)) := by
      intro k hk
      obtain ⟨ad, rfl, hb, hcell⟩ := hH.out.2 (by omega)
      exact ⟨ad, bs[k], rfl, rfl, hH.out.1 _ (List.getElem_mem _), Nat.lt_of_lt_of_le hb hB0, hcell k hk⟩
    have HC := Lib.hid hcells; clear hcells
    go_upto_region 5 with (fail)
    go_cut [35] (fun x wx => x = .bool (sgn bs == 1) ∧ ((w.alloc (.cells #[.bool false, .slice none 0 0, .slice none 0 0, .int .i64 0] 102)).alloc (.cells #[.bool false, .slice none 0 0, .slice none 0 0, .int .i64 0] 102)) = wx)
    case first =>
      by_cases hlt : i0 < bs.length
      · obtain ⟨ad, x, rfl, hx, hx2, hb, hcell⟩ := HC.out i0 hlt
        have hcl2 : (((w.alloc (.cells #[.bool false, .slice none 0 0, .slice none 0 0, .int .i64 0] 102)).alloc (.cells #[.bool false, .slice none 0 0, .slice none 0 0, .int .i64 0] 102))).cell? (ad.add i0) = some (.int .u8 (x : Int)) :=
          (Below.cell (show Below w.heap.size w _ by (repeat' (first | (with_reducible exact Below.refl _ _) | (refine Below.trans ?_ (Below.mono (by with_reducible assumption) ?_)) | (with_reducible exact Below.refl _ _) | (with_reducible refine below_drewN ?_ _) | (with_reducible refine Below.drew ?_) | (with_reducible refine Below.setCell ?_ ?_ _) | (with_reducible refine Below.alloc ?_ ?_ _) | (with_reducible assumption) | (simp; done) | (simp; omega) | omega))) (by rw [block_of_add]; exact hb)).trans hcell
        have hsg : sgn bs = if x = 43 ∨ x = 45 then 1 else 0 := by
          unfold sgn; rw [← HI0.out, head_drop hlt, ← hx]
        have HX := Lib.hid hx; clear hx hcell hb
        by_cases h1 : x = 43
        · subst h1
          have e : (sgn bs == 1) = true := by rw [hsg]; rfl
          have HE := Lib.hid e; clear e hsg
          go_wp2_with fail
          go_meet
          exact ⟨by rw [HE.out], rfl⟩
        · by_cases h2 : x = 45
          · subst h2
            have e : (sgn bs == 1) = true := by rw [hsg]; rfl
            have HE := Lib.hid e; clear e hsg h1
            go_wp2_with fail
            go_meet
            exact ⟨by rw [HE.out], rfl⟩
          · have e : (sgn bs == 1) = false := by rw [hsg]; simp [h1, h2]
            have g1 : ((x : Int) == 43) = false := by rw [beq_eq_false_iff_ne]; omega
            have g2 : ((x : Int) == 45) = false := by rw [beq_eq_false_iff_ne]; omega
            have HE := Lib.hid e; clear e hsg h1 h2
            go_wp2_with fail
            go_meet
            exact ⟨by rw [HE.out], rfl⟩
      · have e : (sgn bs == 1) = false := by unfold sgn; rw [← HI0.out, head_none (by omega)]; rfl
        have HE := Lib.hid e; clear e
        go_wp2_with fail
        go_meet
        exact ⟨by rw [HE.out], rfl⟩
    case rest =>
    obtain ⟨rfl, rfl⟩ := hcut
    go_upto_if 35 with (fail)
    have hi1 : nI1 bs = i0 + sgn bs := by unfold nI1; rw [← HI0.out]
    have HI1 := Lib.hid hi1; clear hi1
    go_cut [4] (fun x wx => x = .int .i64 ((nI1 bs : Nat) : Int) ∧ nI1 bs ≤ bs.length ∧ ((w.alloc (.cells #[.bool false, .slice none 0 0, .slice none 0 0, .int .i64 0] 102)).alloc (.cells #[.bool (sneg bs), .slice none 0 0, .slice none 0 0, .int .i64 0] 102)) = wx)
    case first =>
      cases hs : (sgn bs == 1)
      · obtain ⟨e1, e2⟩ := sgn_zero hs
        have HE1 := Lib.hid e1; have HE2 := Lib.hid e2; clear e1 e2
        go_wp2_with fail
        go_meet
        exact ⟨by rw [HI1.out, HE1.out]; rfl, by rw [HI1.out, HE1.out]; exact hi0l, by rw [HE2.out]⟩
      · obtain ⟨e1, hlt, hx0, e2⟩ := sgn_one hs
        rw [← HI0.out] at hlt
        obtain ⟨ad, x, rfl, hx, hx2, hb, hcell⟩ := HC.out i0 hlt
        have hcl2 : (((w.alloc (.cells #[.bool false, .slice none 0 0, .slice none 0 0, .int .i64 0] 102)).alloc (.cells #[.bool false, .slice none 0 0, .slice none 0 0, .int .i64 0] 102))).cell? (ad.add i0) = some (.int .u8 (x : Int)) :=
          (Below.cell (show Below w.heap.size w _ by (repeat' (first | (with_reducible exact Below.refl _ _) | (refine Below.trans ?_ (Below.mono (by with_reducible assumption) ?_)) | (with_reducible exact Below.refl _ _) | (with_reducible refine below_drewN ?_ _) | (with_reducible refine Below.drew ?_) | (with_reducible refine Below.setCell ?_ ?_ _) | (with_reducible refine Below.alloc ?_ ?_ _) | (with_reducible assumption) | (simp; done) | (simp; omega) | omega))) (by rw [block_of_add]; exact hb)).trans hcell
        have e2' : sneg bs = (x == 45) := by
          rw [e2, hx]
          have : ∀ (k : Nat) (hk : k < bs.length) (hk' : i0 < bs.length), k = i0 → decide (bs[k] = 45) = (bs[i0] == 45) := by
            intro k hk hk' e; subst e; rfl
          exact this _ _ _ HI0.out.symm
        clear e2 hx0 hx hcell hb
        have HE1 := Lib.hid e1; have HE2 := Lib.hid e2'; clear e1 e2'
        by_cases h1 : x = 45
        · subst h1
          go_wp2_with fail
          go_meet
          exact ⟨by rw [HI1.out, HE1.out]; go_num, by rw [HI1.out, HE1.out]; omega, by rw [HE2.out]; rfl⟩
        · have g1 : ((x : Int) == 45) = false := by rw [beq_eq_false_iff_ne]; omega
          have g2 : (x == 45) = false := by rw [beq_eq_false_iff_ne]; exact h1
          rw [g2] at HE2
          clear h1 g2
          go_wp2_with fail
          go_meet
          exact ⟨by rw [HI1.out, HE1.out]; go_num, by rw [HI1.out, HE1.out]; omega, by rw [HE2.out]⟩
    case rest =>
    obtain ⟨rfl, hi1l, rfl⟩ := hcut
    obtain ⟨i1, hi1⟩ : ∃ i1, i1 = nI1 bs := ⟨_, rfl⟩
    rw [← hi1] at hi1l
    rw [← hi1]
    have HJ1 := Lib.hid hi1; clear hi1
    have hsl := fun W => cut_run A bs.length c i1 hi1l W
    have hb0 : Below w.heap.size w (((w.alloc (.cells #[.bool false, .slice none 0 0, .slice none 0 0, .int .i64 0] 102)).alloc (.cells #[.bool (sneg bs), .slice none 0 0, .slice none 0 0, .int .i64 0] 102))) := by (repeat' (first | (with_reducible exact Below.refl _ _) | (refine Below.trans ?_ (Below.mono (by with_reducible assumption) ?_)) | (with_reducible exact Below.refl _ _) | (with_reducible refine below_drewN ?_ _) | (with_reducible refine Below.drew ?_) | (with_reducible refine Below.setCell ?_ ?_ _) | (with_reducible refine Below.alloc ?_ ?_ _) | (with_reducible assumption) | (simp; done) | (simp; omega) | omega))
    have HR1 := Lib.hid (((hH.out.below (hb0.mono hB0)).more (B' := (((w.alloc (.cells #[.bool false, .slice none 0 0, .slice none 0 0, .int .i64 0] 102)).alloc (.cells #[.bool (sneg bs), .slice none 0 0, .slice none 0 0, .int .i64 0] 102))).heap.size) (by simp; omega)).cutA (k := i1) (c := c) hc)
    clear hb0
    have hw : span digB (bs.drop i1) = nW bs := by unfold nW; rw [← HJ1.out]
    have HW := Lib.hid hw; clear hw
    have hwl : i1 + nW bs ≤ bs.length := by
      have := span_le digB (bs.drop i1); rw [HW.out, List.length_drop] at this; omega
    obtain ⟨i2, hi2⟩ : ∃ i2, i2 = nI2 bs := ⟨_, rfl⟩
    have hi2e : i2 = i1 + nW bs := by rw [hi2]; unfold nI2; rw [← HJ1.out]
    have HI2 := Lib.hid hi2e; have HJ2 := Lib.hid hi2; clear hi2 hi2e
    have hi2l : i2 ≤ bs.length := by rw [HI2.out]; exact hwl
    go_upto_region 9 with (go_at_call 53; refine (digits_n _ _ _ (bs.drop i1) _ (by simp) HR1.out (by omega) (by omega)).mono ?_; rintro e w' ⟨rfl, rfl⟩; rw [HW.out])
    clear hsl
    go_cut [4] (fun x wx => x = .int .i64 (i2 : Int) ∧ ((w.alloc (.cells #[.bool false, .slice none 0 0, .slice none 0 0, .int .i64 0] 102)).alloc (.cells #[.bool (sneg bs), .slice (cutA A c i1) (nW bs) (c - i1), .slice none 0 0, .int .i64 0] 102)) = wx)
    case first =>
      go_wp2_with fail
      go_meet
      exact ⟨by rw [HI2.out]; go_num, rfl⟩
    case rest =>
    obtain ⟨rfl, rfl⟩ := hcut
    go_upto_region 10 with (fail)
    go_cut [64] (fun x wx => x = .bool (nDot bs) ∧ ((w.alloc (.cells #[.bool false, .slice none 0 0, .slice none 0 0, .int .i64 0] 102)).alloc (.cells #[.bool (sneg bs), .slice (cutA A c i1) (nW bs) (c - i1), .slice none 0 0, .int .i64 0] 102)) = wx)
    case first =>
      by_cases hlt : i2 < bs.length
      · obtain ⟨ad, x, eA, hx, hx2, hb, hcell⟩ := HC.out i2 hlt
        have hcl2 : (((w.alloc (.cells #[.bool false, .slice none 0 0, .slice none 0 0, .int .i64 0] 102)).alloc (.cells #[.bool (sneg bs), .slice (cutA A c i1) (nW bs) (c - i1), .slice none 0 0, .int .i64 0] 102))).cell? (ad.add i2) = some (.int .u8 (x : Int)) :=
          (Below.cell (show Below w.heap.size w _ by (repeat' (first | (with_reducible exact Below.refl _ _) | (refine Below.trans ?_ (Below.mono (by with_reducible assumption) ?_)) | (with_reducible exact Below.refl _ _) | (with_reducible refine below_drewN ?_ _) | (with_reducible refine Below.drew ?_) | (with_reducible refine Below.setCell ?_ ?_ _) | (with_reducible refine Below.alloc ?_ ?_ _) | (with_reducible assumption) | (simp; done) | (simp; omega) | omega))) (by rw [block_of_add]; exact hb)).trans hcell
        have hd : nDot bs = (x == 46) := by
          unfold nDot; rw [← HJ2.out, head_drop hlt, ← hx]; rfl
        clear hx hcell hb
        subst eA
        by_cases h1 : x = 46
        · subst h1
          have HE := Lib.hid hd; clear hd
          go_wp2_with fail
          go_meet
          exact ⟨by rw [HE.out]; rfl, rfl⟩
        · have e : nDot bs = false := by rw [hd]; simpa using h1
          have g1 : ((x : Int) == 46) = false := by rw [beq_eq_false_iff_ne]; omega
          have HE := Lib.hid e; clear e hd h1
          go_wp2_with fail
          go_meet
          exact ⟨by rw [HE.out], rfl⟩
      · have e : nDot bs = false := by unfold nDot; rw [← HJ2.out, head_none (by omega)]; rfl
        have HE := Lib.hid e; clear e
        go_wp2_with fail
        go_meet
        exact ⟨by rw [HE.out], rfl⟩
    case rest =>
    obtain ⟨rfl, rfl⟩ := hcut
    go_upto_if 64 with (fail)
    go_cut [4] (fun x wx => x = .int .i64 ((nI3 bs : Nat) : Int) ∧ ((w.alloc (.cells #[.bool false, .slice none 0 0, .slice none 0 0, .int .i64 0] 102)).alloc (.cells #[.bool (sneg bs), .slice (cutA A c i1) (nW bs) (c - i1), (if nDot bs then .slice (cutA A c (i2 + 1)) (nB bs) (c - (i2 + 1)) else .slice none 0 0), .int .i64 0] 102)) = wx)
    case first =>
      cases hd : nDot bs
      · have e : nI3 bs = i2 := by unfold nI3; rw [hd, ← HJ2.out]; rfl
        have HE := Lib.hid e; clear e
        go_wp2_with fail
        go_meet
        exact ⟨by rw [HE.out], by rw [hd]; rfl⟩
      · have hlt : i2 < bs.length := by
          rcases Nat.lt_or_ge i2 bs.length with h | h
          · exact h
          · unfold nDot at hd; rw [← HJ2.out, head_none h] at hd; cases hd
        have hsl : ∀ W, (Instr.slice 23 (.slice A bs.length c) (some (.int .i64 ((i2 : Int) + 1))) none none).run Tryz.prog W = .ok (.slice (cutA A c (i2 + 1)) (bs.length - (i2 + 1)) (c - (i2 + 1))) W := fun W => by
          have := cut_run A bs.length c (i2 + 1) (by omega) W
          rw [show ((i2 + 1 : Nat) : Int) = (i2 : Int) + 1 by omega] at this
          exact this
        have hb0 : Below w.heap.size w (((w.alloc (.cells #[.bool false, .slice none 0 0, .slice none 0 0, .int .i64 0] 102)).alloc (.cells #[.bool (sneg bs), .slice (cutA A c i1) (nW bs) (c - i1), .slice none 0 0, .int .i64 0] 102))) := by (repeat' (first | (with_reducible exact Below.refl _ _) | (refine Below.trans ?_ (Below.mono (by with_reducible assumption) ?_)) | (with_reducible exact Below.refl _ _) | (with_reducible refine below_drewN ?_ _) | (with_reducible refine Below.drew ?_) | (with_reducible refine Below.setCell ?_ ?_ _) | (with_reducible refine Below.alloc ?_ ?_ _) | (with_reducible assumption) | (simp; done) | (simp; omega) | omega))
        have HR2 := Lib.hid (((hH.out.below (hb0.mono hB0)).more (B' := (((w.alloc (.cells #[.bool false, .slice none 0 0, .slice none 0 0, .int .i64 0] 102)).alloc (.cells #[.bool (sneg bs), .slice (cutA A c i1) (nW bs) (c - i1), .slice none 0 0, .int .i64 0] 102))).heap.size) (by simp; omega)).cutA (k := i2 + 1) (c := c) hc)
        clear hb0
        have hwb : span digB (bs.drop (i2 + 1)) = nB bs := by unfold nB; rw [hd, ← HJ2.out]; rfl
        have HWB := Lib.hid hwb; clear hwb
        have hbl : i2 + 1 + nB bs ≤ bs.length := by
          have := span_le digB (bs.drop (i2 + 1)); rw [HWB.out, List.length_drop] at this; omega
        have e : nI3 bs = i2 + 1 + nB bs := by unfold nI3; rw [hd, ← HJ2.out]; rfl
        have HE := Lib.hid e; clear e
        go_wp2_with (go_at_call 53; refine (digits_n _ _ _ (bs.drop (i2 + 1)) _ (by simp) HR2.out (by omega) (by omega)).mono ?_; rintro e w' ⟨rfl, rfl⟩; rw [HWB.out])
        go_meet
        exact ⟨by rw [HE.out]; go_num, by rw [hd]; rfl⟩
    case rest =>
    obtain ⟨rfl, rfl⟩ := hcut
    have hV : ∃ (Ab : Option Addr) (cb : Nat), (if nDot bs then .slice (cutA A c (i2 + 1)) (nB bs) (c - (i2 + 1)) else .slice none 0 0 : Value) = .slice Ab (nB bs) cb ∧ nB bs ≤ cb ∧ RB w B0 Ab ((bs.drop (nI2 bs + 1)).take (nB bs)) := by
      cases hd : nDot bs
      · have e0 : nB bs = 0 := by unfold nB; rw [hd]; rfl
        exact ⟨none, 0, by rw [e0]; rfl, by omega, by rw [e0]; exact RB.nil⟩
      · have hbl := nB_le bs
        have hwb : nB bs = span digB (bs.drop (nI2 bs + 1)) := by unfold nB; rw [hd]; rfl
        have h4 := span_le digB (bs.drop (nI2 bs + 1))
        rw [← hwb, List.length_drop] at h4
        refine ⟨cutA A c (i2 + 1), c - (i2 + 1), rfl, ?_, ?_⟩
        · rw [HJ2.out]; omega
        · rw [HJ2.out]; exact (hH.out.cutA hc).take _
    obtain ⟨Ab, cb, hV, hcb, hRb⟩ := hV
    rw [hV]; clear hV
    have HRB := Lib.hid hRb; clear hRb
    have hnB := nB_le bs
    rw [← HJ2.out] at hnB
    obtain ⟨W, hW⟩ : ∃ W, W = nW bs := ⟨_, rfl⟩
    obtain ⟨B, hB⟩ : ∃ B, B = nB bs := ⟨_, rfl⟩
    rw [← hW] at hwl
    rw [← hB] at hnB hcb
    rw [← hW, ← hB]
    have HWW := Lib.hid hW; have HBB := Lib.hid hB; clear hW hB
    by_cases hz : W + B = 0
    · obtain rfl : W = 0 := by omega
      obtain rfl : B = 0 := by omega
      clear hz
      go_wp2
      (try simp only [Exit.inBlock, Exit.then]); refine bodyPost_ret (by simp [results, Tryz.results46, go_sem, *]; try rfl) rfl ?_
      exact ⟨.inl ⟨by rw [← HWW.out, ← HBB.out], rfl⟩, by (repeat' (first | (with_reducible exact Below.refl _ _) | (refine Below.trans ?_ (Below.mono (by with_reducible assumption) ?_)) | (with_reducible exact Below.refl _ _) | (with_reducible refine below_drewN ?_ _) | (with_reducible refine Below.drew ?_) | (with_reducible refine Below.setCell ?_ ?_ _) | (with_reducible refine Below.alloc ?_ ?_ _) | (with_reducible assumption) | (simp; done) | (simp; omega) | omega))⟩
    · have hz1 : ((W : Int) + (B : Int) == 0) = false := by rw [beq_eq_false_iff_ne]; omega
      have HZ := Lib.hid hz; clear hz
      go_wp2
      (try simp only [Exit.inBlock, Exit.then]); refine bodyPost_ret (by simp [results, Tryz.results46, go_sem, *]; try rfl) rfl ?_
      refine ⟨.inr ⟨by rw [← HWW.out, ← HBB.out]; have := HZ.out; omega, Ab, cb, ?_, by rw [← HBB.out]; exact hcb, HRB.out⟩, by (repeat' (first | (with_reducible exact Below.refl _ _) | (refine Below.trans ?_ (Below.mono (by with_reducible assumption) ?_)) | (with_reducible exact Below.refl _ _) | (with_reducible refine below_drewN ?_ _) | (with_reducible refine Below.drew ?_) | (with_reducible refine Below.setCell ?_ ?_ _) | (with_reducible refine Below.alloc ?_ ?_ _) | (with_reducible assumption) | (simp; done) | (simp; omega) | omega))⟩
      rw [← HWW.out, ← HBB.out, ← HJ1.out]
end Go.Proofs.YtdiibenofbcfnaaGreat
