/- Several texts put together: NumC, NumE, NumF. -/
import Derived.Test.YthipoccbeloceaaBu1
set_option linter.unusedSimpArgs false
set_option linter.unusedVariables false
namespace Go.Proofs.Ythipoccbeloceaa
open Go.RowKit
def sgn (bs : List Nat) : Nat := match (bs.drop (span blankB bs)).head? with | some x => if x = 43 ∨ x = 45 then 1 else 0 | none => 0
def sneg (bs : List Nat) : Bool := match (bs.drop (span blankB bs)).head? with | some x => decide (x = 45) | none => false
def nI1 (bs : List Nat) : Nat := span blankB bs + sgn bs
def nW (bs : List Nat) : Nat := span digB (bs.drop (nI1 bs))
def nI2 (bs : List Nat) : Nat := nI1 bs + nW bs
def nDot (bs : List Nat) : Bool := (bs.drop (nI2 bs)).head? == some 46
def nB (bs : List Nat) : Nat := if nDot bs then span digB (bs.drop (nI2 bs + 1)) else 0
def nI3 (bs : List Nat) : Nat := if nDot bs then nI2 bs + 1 + nB bs else nI2 bs
theorem head_drop {l : List Nat} {i : Nat} (h : i < l.length) : (l.drop i).head? = some l[i] := by
  rw [List.head?_drop, List.getElem?_eq_getElem h]
theorem head_none {l : List Nat} {i : Nat} (h : l.length ≤ i) : (l.drop i).head? = none := by
  rw [List.head?_drop, List.getElem?_eq_none h]
theorem sgn_zero {bs : List Nat} (h : (sgn bs == 1) = false) : sgn bs = 0 ∧ sneg bs = false := by
  unfold sgn sneg at *
  split at h
  · split at h
    · cases h
    · rename_i x _ hx; simp only [hx, if_false]; simp; omega
  · exact ⟨rfl, rfl⟩
theorem sgn_one {bs : List Nat} (h : (sgn bs == 1) = true) : sgn bs = 1 ∧ ∃ h : span blankB bs < bs.length, (bs[span blankB bs] = 43 ∨ bs[span blankB bs] = 45) ∧ sneg bs = decide (bs[span blankB bs] = 45) := by
  have hl : span blankB bs < bs.length := by
    rcases Nat.lt_or_ge (span blankB bs) bs.length with h1 | h1
    · exact h1
    · unfold sgn at h; rw [head_none h1] at h; cases h
  unfold sgn sneg at *
  rw [head_drop hl] at *
  simp only at h ⊢
  split at h
  · rename_i hx; exact ⟨by rw [if_pos hx], hl, hx, trivial⟩
  · cases h
def cutA (A : Option Addr) (c i : Nat) : Option Addr := if c = i then A else A.map (·.add i)
theorem cut_run (A : Option Addr) (n c i : Nat) (h : i ≤ n) (W : World) : (Instr.slice 22 (.slice A n c) (some (.int .i64 (i : Int))) none none).run Try.prog W = .ok (.slice (cutA A c i) (n - i) (c - i)) W := by
  rw [run_slice_l W 22 A n c (by kernel_rfl) .i64 i (by omega) (by omega)]
  simp [go_sem, cutA]
theorem RB.cutA {w : World} {B : Nat} {A : Option Addr} {bs : List Nat} (h : RB w B A bs) {k c : Nat} (hc : bs.length ≤ c) : RB w B (cutA A c k) (bs.drop k) := h.cut hc
theorem digits_n (A : Option Addr) (n c : Nat) (bs : List Nat) (w : World) (hn : bs.length = n) (hr : RB w w.heap.size A bs) (hc : n ≤ c) (hm : n ≤ 140737488351232) :
    Calls Try.prog 74 #[.slice A n c] w fun e w' => e = .returned (.slice A (span digB bs) c) ∧ w = w' := by
  subst hn; exact digits_any A c bs w hr hc hm
def ScanPost (A : Option Addr) (c : Nat) (bs : List Nat) (w : World) (B0 : Nat) (e : Ending) : Prop :=
  (nW bs + nB bs = 0 ∧ e = .returned (.agg #[.bool false, .slice none 0 0, .slice none 0 0, .int .i64 0])) ∨
  (0 < nW bs + nB bs ∧ ∃ (Ab : Option Addr) (cb : Nat), e = .returned (.agg #[.bool (sneg bs), .slice (cutA A c (nI1 bs)) (nW bs) (c - nI1 bs), .slice Ab (nB bs) cb, .int .i64 ((nI3 bs : Nat) : Int)]) ∧
    nB bs ≤ cb ∧ RB w B0 Ab ((bs.drop (nI2 bs + 1)).take (nB bs)))
theorem nB_le (bs : List Nat) : nI2 bs + nB bs ≤ bs.length := by
  have h1 := span_le blankB bs
  have h2 : nI1 bs ≤ bs.length := by
    unfold nI1
    cases hs : (sgn bs == 1)
    · rw [(sgn_zero hs).1]; exact h1
    · obtain ⟨e, hl, _⟩ := sgn_one hs; rw [e]; omega
  have h3 := span_le digB (bs.drop (nI1 bs))
  rw [List.length_drop] at h3
  have h4 := span_le digB (bs.drop (nI2 bs + 1))
  rw [List.length_drop] at h4
  unfold nB
  split
  · unfold nI2 nW at *; omega
  · unfold nI2 nW at *; omega
set_option maxRecDepth 100000 in
set_option maxHeartbeats 800000 in
theorem scan_any (A : Option Addr) (c : Nat) (bs : List Nat) (w : World) (B0 : Nat) (hB0 : B0 ≤ w.heap.size) (hr : RB w B0 A bs) (hc : bs.length ≤ c) (hm : bs.length ≤ 140737488351232) :
    Calls Try.prog 65 #[.slice A bs.length c] w fun e w' => ScanPost A c bs w B0 e ∧ Below w.heap.size w w' := by
  have hH := Lib.hid hr
  clear hr
  go_enter Try.func65, Try.ntmps65
  go_upto_block 0 with fail
  go_cut [4] (fun i wx => i = .int .i64 ((span blankB bs : Nat) : Int) ∧ (w.alloc (.cells #[.bool false, .slice none 0 0, .slice none 0 0, .int .i64 0] 128)).alloc (.cells #[.bool false, .slice none 0 0, .slice none 0 0, .int .i64 0] 128) = wx)
  case first =>
    go_wp2_with fail
    go_loop [4] (fun n => ∃ k : Nat, k ≤ bs.length ∧ n = .int .i64 k ∧ Hid (∀ j (hj : j < bs.length), j < k → blankB bs[j] = true)) (fun n => bs.length - (intOf n).toNat)
    case atStart => exact ⟨0, Nat.zero_le _, rfl, Lib.hid (fun _ _ h => absurd h (by omega))⟩
    case round =>
      obtain ⟨k, hk, rfl, hall⟩ := hrel
      by_cases hlt : k < bs.length
      · obtain ⟨ad, rfl, hb', hcell⟩ := hH.out.2 (by omega)
        have hb := Nat.lt_of_lt_of_le hb' hB0
        have hcl := hcell k hlt
        have hbl : ad.block < w.heap.size := hb
        have hcl2 : ((w.alloc (.cells #[.bool false, .slice none 0 0, .slice none 0 0, .int .i64 0] 128)).alloc (.cells #[.bool false, .slice none 0 0, .slice none 0 0, .int .i64 0] 128)).cell? (ad.add k) = some (.int .u8 ((bs[k] : Nat) : Int)) :=
          (Below.cell (show Below w.heap.size w _ by (repeat' (first | (with_reducible exact Below.refl _ _) | (refine Below.trans ?_ (Below.mono (by with_reducible assumption) ?_)) | (with_reducible exact Below.refl _ _) | (with_reducible refine below_drewN ?_ _) | (with_reducible refine Below.drew ?_) | (with_reducible refine Below.setCell ?_ ?_ _) | (with_reducible refine Below.alloc ?_ ?_ _) | (with_reducible assumption) | (simp; done) | (simp; omega) | omega))) (by rw [block_of_add]; exact hb)).trans hcl
        obtain ⟨x, hxe⟩ : ∃ x, x = bs[k] := ⟨_, rfl⟩
        rw [← hxe] at hcl2
        have HX := Lib.hid hxe; clear hxe hcell hb hb' hcl
        cases hbx : blankB x
        · have he : span blankB bs = k := span_eq _ _ _ hk (fun j hj hjk => hall.out j hj hjk) (fun hj => by rw [← HX.out]; exact hbx)
          have HE := Lib.hid he; clear he
          go_wp2_with (go_at_call 73; refine (blank_any _ _).mono ?_; rintro e w' ⟨rfl, rfl⟩)
          go_meet
          exact ⟨by rw [HE.out], rfl⟩
        · go_wp2_with (go_at_call 73; refine (blank_any _ _).mono ?_; rintro e w' ⟨rfl, rfl⟩)
          go_round
          case rel => exact ⟨k + 1, by omega, by go_num, Lib.hid (fun j hj hjk => by
            by_cases e : j = k
            · subst e; rw [← HX.out]; exact hbx
            · exact hall.out j hj (by omega))⟩
          case measure => simp [intOf]; omega
      · have he : span blankB bs = k := span_eq _ _ _ hk (fun j hj hjk => hall.out j hj hjk) (fun hj => by omega)
        have HE := Lib.hid he; clear he
        go_wp2_with fail
        go_meet
        exact ⟨by rw [HE.out], rfl⟩
  case rest =>
    obtain ⟨rfl, rfl⟩ := hcut
    obtain ⟨i0, hi0⟩ : ∃ i0, i0 = span blankB bs := ⟨_, rfl⟩
    have hi0l : i0 ≤ bs.length := by rw [hi0]; exact span_le _ _
    rw [← hi0]
    have HI0 := Lib.hid hi0; clear hi0
    have hcells : ∀ k (hk : k < bs.length), ∃ (ad : Addr) (x : Nat), A = some ad ∧ x = bs[k] ∧ x < 256 ∧ ad.block < w.heap.size ∧ w.cell? (ad.add k) = some (.int .u8 (x : Int)) := by
      intro k hk
      obtain ⟨ad, rfl, hb, hcell⟩ := hH.out.2 (by omega)
      exact ⟨ad, bs[k], rfl, rfl, hH.out.1 _ (List.getElem_mem _), Nat.lt_of_lt_of_le hb hB0, hcell k hk⟩
    have HC := Lib.hid hcells; clear hcells
    go_upto_region 5 with (fail)
    go_cut [35] (fun x wx => x = .bool (sgn bs == 1) ∧ ((w.alloc (.cells #[.bool false, .slice none 0 0, .slice none 0 0, .int .i64 0] 128)).alloc (.cells #[.bool false, .slice none 0 0, .slice none 0 0, .int .i64 0] 128)) = wx)
    case first =>
      by_cases hlt : i0 < bs.length
      · obtain ⟨ad, x, rfl, hx, hx2, hb, hcell⟩ := HC.out i0 hlt
        have hcl2 : (((w.alloc (.cells #[.bool false, .slice none 0 0, .slice none 0 0, .int .i64 0] 128)).alloc (.cells #[.bool false, .slice none 0 0, .slice none 0 0, .int .i64 0] 128))).cell? (ad.add i0) = some (.int .u8 (x : Int)) :=
          (Below.cell (show Below w.heap.size w _ by (repeat' (first | (with_reducible exact Below.refl _ _) | (refine Below.trans ?_ (Below.mono (by with_reducible assumption) ?_)) | (with_reducible exact Below.refl _ _) | (with_reducible refine below_drewN ?_ _) | (with_reducible refine Below.drew ?_) | (with_reducible refine Below.setCell ?_ ?_ _) | (with_reducible refine Below.alloc ?_ ?_ _) | (with_reducible assumption) | (simp; done) | (simp; omega) | omega))) (by rw [block_of_add]; exact hb)).trans hcell
        have hsg : sgn bs = if x = 43 ∨ x = 45 then 1 else 0 := by
          unfold sgn; rw [← HI0.out, head_drop hlt, ← hx]
        have HX := Lib.hid hx; clear hx hcell hb
        by_cases h1 : x = 43
        · subst h1
          have e : (sgn bs == 1) = true := by rw [hsg]; rfl
          have HE := Lib.hid e; clear e hsg
          go_wp2_with fail
          go_meet
          exact ⟨by rw [HE.out], rfl⟩
        · by_cases h2 : x = 45
          · subst h2
            have e : (sgn bs == 1) = true := by rw [hsg]; rfl
            have HE := Lib.hid e; clear e hsg h1
            go_wp2_with fail
            go_meet
            exact ⟨by rw [HE.out], rfl⟩
          · have e : (sgn bs == 1) = false := by rw [hsg]; simp [h1, h2]
            have g1 : ((x : Int) == 43) = false := by rw [beq_eq_false_iff_ne]; omega
            have g2 : ((x : Int) == 45) = false := by rw [beq_eq_false_iff_ne]; omega
            have HE := Lib.hid e; clear e hsg h1 h2
            go_wp2_with fail
            go_meet
            exact ⟨by rw [HE.out], rfl⟩
      · have e : (sgn bs == 1) = false := by unfold sgn; rw [← HI0.out, head_none (by omega)]; rfl
        have HE := Lib.hid e; clear e
        go_wp2_with fail
        go_meet
        exact ⟨by rw [HE.out], rfl⟩
    case rest =>
    obtain ⟨rfl, rfl⟩ := hcut
    go_upto_if 35 with (fail)
    have hi1 : nI1 bs = i0 + sgn bs := by unfold nI1; rw [← HI0.out]
    have HI1 := Lib.hid hi1; clear hi1
    go_cut [4] (fun x wx => x = .int .i64 ((nI1 bs : Nat) : Int) ∧ nI1 bs ≤ bs.length ∧ ((w.alloc (.cells #[.bool false, .slice none 0 0, .slice none 0 0, .int .i64 0] 128)).alloc (.cells #[.bool (sneg bs), .slice none 0 0, .slice none 0 0, .int .i64 0] 128)) = wx)
    case first =>
      cases hs : (sgn bs == 1)
      · obtain ⟨e1, e2⟩ := sgn_zero hs
        have HE1 := Lib.hid e1; have HE2 := Lib.hid e2; clear e1 e2
        go_wp2_with fail
        go_meet
        exact ⟨by rw [HI1.out, HE1.out]; rfl, by rw [HI1.out, HE1.out]; exact hi0l, by rw [HE2.out]⟩
      · obtain ⟨e1, hlt, hx0, e2⟩ := sgn_one hs
        rw [← HI0.out] at hlt
        obtain ⟨ad, x, rfl, hx, hx2, hb, hcell⟩ := HC.out i0 hlt
        have hcl2 : (((w.alloc (.cells #[.bool false, .slice none 0 0, .slice none 0 0, .int .i64 0] 128)).alloc (.cells #[.bool false, .slice none 0 0, .slice none 0 0, .int .i64 0] 128))).cell? (ad.add i0) = some (.int .u8 (x : Int)) :=
          (Below.cell (show Below w.heap.size w _ by (repeat' (first | (with_reducible exact Below.refl _ _) | (refine Below.trans ?_ (Below.mono (by with_reducible assumption) ?_)) | (with_reducible exact Below.refl _ _) | (with_reducible refine below_drewN ?_ _) | (with_reducible refine Below.drew ?_) | (with_reducible refine Below.setCell ?_ ?_ _) | (with_reducible refine Below.alloc ?_ ?_ _) | (with_reducible assumption) | (simp; done) | (simp; omega) | omega))) (by rw [block_of_add]; exact hb)).trans hcell
        have e2' : sneg bs = (x == 45) := by
          rw [e2, hx]
          have : ∀ (k : Nat) (hk : k < bs.length) (hk' : i0 < bs.length), k = i0 → decide (bs[k] = 45) = (bs[i0] == 45) := by
            intro k hk hk' e; subst e; rfl
          exact this _ _ _ HI0.out.symm
        clear e2 hx0 hx hcell hb
        have HE1 := Lib.hid e1; have HE2 := Lib.hid e2'; clear e1 e2'
        by_cases h1 : x = 45
        · subst h1
          go_wp2_with fail
          go_meet
          exact ⟨by rw [HI1.out, HE1.out]; go_num, by rw [HI1.out, HE1.out]; omega, by rw [HE2.out]; rfl⟩
        · have g1 : ((x : Int) == 45) = false := by rw [beq_eq_false_iff_ne]; omega
          have g2 : (x == 45) = false := by rw [beq_eq_false_iff_ne]; exact h1
          rw [g2] at HE2
          clear h1 g2
          go_wp2_with fail
          go_meet
          exact ⟨by rw [HI1.out, HE1.out]; go_num, by rw [HI1.out, HE1.out]; omega, by rw [HE2.out]⟩
    case rest =>
    obtain ⟨rfl, hi1l, rfl⟩ := hcut
    obtain ⟨i1, hi1⟩ : ∃ i1, i1 = nI1 bs := ⟨_, rfl⟩
    rw [← hi1] at hi1l
    rw [← hi1]
    have HJ1 := Lib.hid hi1; clear hi1
    have hsl := fun W => cut_run A bs.length c i1 hi1l W
    have hb0 : Below w.heap.size w (((w.alloc (.cells #[.bool false, .slice none 0 0, .slice none 0 0, .int .i64 0] 128)).alloc (.cells #[.bool (sneg bs), .slice none 0 0, .slice none 0 0, .int .i64 0] 128))) := by (repeat' (first | (with_reducible exact Below.refl _ _) | (refine Below.trans ?_ (Below.mono (by with_reducible assumption) ?_)) | (with_reducible exact Below.refl _ _) | (with_reducible refine below_drewN ?_ _) | (with_reducible refine Below.drew ?_) | (with_reducible refine Below.setCell ?_ ?_ _) | (with_reducible refine Below.alloc ?_ ?_ _) | (with_reducible assumption) | (simp; done) | (simp; omega) | omega))
    have HR1 := Lib.hid (((hH.out.below (hb0.mono hB0)).more (B' := (((w.alloc (.cells #[.bool false, .slice none 0 0, .slice none 0 0, .int .i64 0] 128)).alloc (.cells #[.bool (sneg bs), .slice none 0 0, .slice none 0 0, .int .i64 0] 128))).heap.size) (by simp; omega)).cutA (k := i1) (c := c) hc)
    clear hb0
    have hw : span digB (bs.drop i1) = nW bs := by unfold nW; rw [← HJ1.out]
    have HW := Lib.hid hw; clear hw
    have hwl : i1 + nW bs ≤ bs.length := by
      have := span_le digB (bs.drop i1); rw [HW.out, List.length_drop] at this; omega
    obtain ⟨i2, hi2⟩ : ∃ i2, i2 = nI2 bs := ⟨_, rfl⟩
    have hi2e : i2 = i1 + nW bs := by rw [hi2]; unfold nI2; rw [← HJ1.out]
    have HI2 := Lib.hid hi2e; have HJ2 := Lib.hid hi2; clear hi2 hi2e
    have hi2l : i2 ≤ bs.length := by rw [HI2.out]; exact hwl
    go_upto_region 9 with (go_at_call 74; refine (digits_n _ _ _ (bs.drop i1) _ (by simp) HR1.out (by omega) (by omega)).mono ?_; rintro e w' ⟨rfl, rfl⟩; rw [HW.out])
    clear hsl
    go_cut [4] (fun x wx => x = .int .i64 (i2 : Int) ∧ ((w.alloc (.cells #[.bool false, .slice none 0 0, .slice none 0 0, .int .i64 0] 128)).alloc (.cells #[.bool (sneg bs), .slice (cutA A c i1) (nW bs) (c - i1), .slice none 0 0, .int .i64 0] 128)) = wx)
    case first =>
      go_wp2_with fail
      go_meet
      exact ⟨by rw [HI2.out]; go_num, rfl⟩
    case rest =>
    obtain ⟨rfl, rfl⟩ := hcut
    go_upto_region 10 with (fail)
    go_cut [64] (fun x wx => x = .bool (nDot bs) ∧ ((w.alloc (.cells #[.bool false, .slice none 0 0, .slice none 0 0, .int .i64 0] 128)).alloc (.cells #[.bool (sneg bs), .slice (cutA A c i1) (nW bs) (c - i1), .slice none 0 0, .int .i64 0] 128)) = wx)
    case first =>
      by_cases hlt : i2 < bs.length
      · obtain ⟨ad, x, eA, hx, hx2, hb, hcell⟩ := HC.out i2 hlt
        have hcl2 : (((w.alloc (.cells #[.bool false, .slice none 0 0, .slice none 0 0, .int .i64 0] 128)).alloc (.cells #[.bool (sneg bs), .slice (cutA A c i1) (nW bs) (c - i1), .slice none 0 0, .int .i64 0] 128))).cell? (ad.add i2) = some (.int .u8 (x : Int)) :=
          (Below.cell (show Below w.heap.size w _ by (repeat' (first | (with_reducible exact Below.refl _ _) | (refine Below.trans ?_ (Below.mono (by with_reducible assumption) ?_)) | (with_reducible exact Below.refl _ _) | (with_reducible refine below_drewN ?_ _) | (with_reducible refine Below.drew ?_) | (with_reducible refine Below.setCell ?_ ?_ _) | (with_reducible refine Below.alloc ?_ ?_ _) | (with_reducible assumption) | (simp; done) | (simp; omega) | omega))) (by rw [block_of_add]; exact hb)).trans hcell
        have hd : nDot bs = (x == 46) := by
          unfold nDot; rw [← HJ2.out, head_drop hlt, ← hx]; rfl
        clear hx hcell hb
        subst eA
        by_cases h1 : x = 46
        · subst h1
          have HE := Lib.hid hd; clear hd
          go_wp2_with fail
          go_meet
          exact ⟨by rw [HE.out]; rfl, rfl⟩
        · have e : nDot bs = false := by rw [hd]; simpa using h1
          have g1 : ((x : Int) == 46) = false := by rw [beq_eq_false_iff_ne]; omega
          have HE := Lib.hid e; clear e hd h1
          go_wp2_with fail
          go_meet
          exact ⟨by rw [HE.out], rfl⟩
      · have e : nDot bs = false := by unfold nDot; rw [← HJ2.out, head_none (by omega)]; rfl
        have HE := Lib.hid e; clear e
        go_wp2_with fail
        go_meet
        exact ⟨by rw [HE.out], rfl⟩
    case rest =>
    obtain ⟨rfl, rfl⟩ := hcut
    go_upto_if 64 with (fail)
    go_cut [4] (fun x wx => x = .int .i64 ((nI3 bs : Nat) : Int) ∧ ((w.alloc (.cells #[.bool false, .slice none 0 0, .slice none 0 0, .int .i64 0] 128)).alloc (.cells #[.bool (sneg bs), .slice (cutA A c i1) (nW bs) (c - i1), (if nDot bs then .slice (cutA A c (i2 + 1)) (nB bs) (c - (i2 + 1)) else .slice none 0 0), .int .i64 0] 128)) = wx)
    case first =>
      cases hd : nDot bs
      · have e : nI3 bs = i2 := by unfold nI3; rw [hd, ← HJ2.out]; rfl
        have HE := Lib.hid e; clear e
        go_wp2_with fail
        go_meet
        exact ⟨by rw [HE.out], by rw [hd]; rfl⟩
      · have hlt : i2 < bs.length := by
          rcases Nat.lt_or_ge i2 bs.length with h | h
          · exact h
          · unfold nDot at hd; rw [← HJ2.out, head_none h] at hd; cases hd
        have hsl : ∀ W, (Instr.slice 22 (.slice A bs.length c) (some (.int .i64 ((i2 : Int) + 1))) none none).run Try.prog W = .ok (.slice (cutA A c (i2 + 1)) (bs.length - (i2 + 1)) (c - (i2 + 1))) W := fun W => by
          have := cut_run A bs.length c (i2 + 1) (by omega) W
          rw [show ((i2 + 1 : Nat) : Int) = (i2 : Int) + 1 by omega] at this
          exact this
        have hb0 : Below w.heap.size w (((w.alloc (.cells #[.bool false, .slice none 0 0, .slice none 0 0, .int .i64 0] 128)).alloc (.cells #[.bool (sneg bs), .slice (cutA A c i1) (nW bs) (c - i1), .slice none 0 0, .int .i64 0] 128))) := by (repeat' (first | (with_reducible exact Below.refl _ _) | (refine Below.trans ?_ (Below.mono (by with_reducible assumption) ?_)) | (with_reducible exact Below.refl _ _) | (with_reducible refine below_drewN ?_ _) | (with_reducible refine Below.drew ?_) | (with_reducible refine Below.setCell ?_ ?_ _) | (with_reducible refine Below.alloc ?_ ?_ _) | (with_reducible assumption) | (simp; done) | (simp; omega) | omega))
        have HR2 := Lib.hid (((hH.out.below (hb0.mono hB0)).more (B' := (((w.alloc (.cells #[.bool false, .slice none 0 0, .slice none 0 0, .int .i64 0] 128)).alloc (.cells #[.bool (sneg bs), .slice (cutA A c i1) (nW bs) (c - i1), .slice none 0 0, .int .i64 0] 128))).heap.size) (by simp; omega)).cutA (k := i2 + 1) (c := c) hc)
        clear hb0
        have hwb : span digB (bs.drop (i2 + 1)) = nB bs := by unfold nB; rw [hd, ← HJ2.out]; rfl
        have HWB := Lib.hid hwb; clear hwb
        have hbl : i2 + 1 + nB bs ≤ bs.length := by
          have := span_le digB (bs.drop (i2 + 1)); rw [HWB.out, List.length_drop] at this; omega
        have e : nI3 bs = i2 + 1 + nB bs := by unfold nI3; rw [hd, ← HJ2.out]; rfl
        have HE := Lib.hid e; clear e
        go_wp2_with (go_at_call 74; refine (digits_n _ _ _ (bs.drop (i2 + 1)) _ (by simp) HR2.out (by omega) (by omega)).mono ?_; rintro e w' ⟨rfl, rfl⟩; rw [HWB.out])
        go_meet
        exact ⟨by rw [HE.out]; go_num, by rw [hd]; rfl⟩
    case rest =>
    obtain ⟨rfl, rfl⟩ := hcut
    have hV : ∃ (Ab : Option Addr) (cb : Nat), (if nDot bs then .slice (cutA A c (i2 + 1)) (nB bs) (c - (i2 + 1)) else .slice none 0 0 : Value) = .slice Ab (nB bs) cb ∧ nB bs ≤ cb ∧ RB w B0 Ab ((bs.drop (nI2 bs + 1)).take (nB bs)) := by
      cases hd : nDot bs
      · have e0 : nB bs = 0 := by unfold nB; rw [hd]; rfl
        exact ⟨none, 0, by rw [e0]; rfl, by omega, by rw [e0]; exact RB.nil⟩
      · have hbl := nB_le bs
        have hwb : nB bs = span digB (bs.drop (nI2 bs + 1)) := by unfold nB; rw [hd]; rfl
        have h4 := span_le digB (bs.drop (nI2 bs + 1))
        rw [← hwb, List.length_drop] at h4
        refine ⟨cutA A c (i2 + 1), c - (i2 + 1), rfl, ?_, ?_⟩
        · rw [HJ2.out]; omega
        · rw [HJ2.out]; exact (hH.out.cutA hc).take _
    obtain ⟨Ab, cb, hV, hcb, hRb⟩ := hV
    rw [hV]; clear hV
    have HRB := Lib.hid hRb; clear hRb
    have hnB := nB_le bs
    rw [← HJ2.out] at hnB
    obtain ⟨W, hW⟩ : ∃ W, W = nW bs := ⟨_, rfl⟩
    obtain ⟨B, hB⟩ : ∃ B, B = nB bs := ⟨_, rfl⟩
    rw [← hW] at hwl
    rw [← hB] at hnB hcb
    rw [← hW, ← hB]
    have HWW := Lib.hid hW; have HBB := Lib.hid hB; clear hW hB
    by_cases hz : W + B = 0
    · obtain rfl : W = 0 := by omega
      obtain rfl : B = 0 := by omega
      clear hz
      go_wp2
      (try simp only [Exit.inBlock, Exit.then]); refine bodyPost_ret (by simp [results, Try.results65, go_sem, *]; try rfl) rfl ?_
      exact ⟨.inl ⟨by rw [← HWW.out, ← HBB.out], rfl⟩, by (repeat' (first | (with_reducible exact Below.refl _ _) | (refine Below.trans ?_ (Below.mono (by with_reducible assumption) ?_)) | (with_reducible exact Below.refl _ _) | (with_reducible refine below_drewN ?_ _) | (with_reducible refine Below.drew ?_) | (with_reducible refine Below.setCell ?_ ?_ _) | (with_reducible refine Below.alloc ?_ ?_ _) | (with_reducible assumption) | (simp; done) | (simp; omega) | omega))⟩
    · have hz1 : ((W : Int) + (B : Int) == 0) = false := by rw [beq_eq_false_iff_ne]; omega
      have HZ := Lib.hid hz; clear hz
      go_wp2
      (try simp only [Exit.inBlock, Exit.then]); refine bodyPost_ret (by simp [results, Try.results65, go_sem, *]; try rfl) rfl ?_
      refine ⟨.inr ⟨by rw [← HWW.out, ← HBB.out]; have := HZ.out; omega, Ab, cb, ?_, by rw [← HBB.out]; exact hcb, HRB.out⟩, by (repeat' (first | (with_reducible exact Below.refl _ _) | (refine Below.trans ?_ (Below.mono (by with_reducible assumption) ?_)) | (with_reducible exact Below.refl _ _) | (with_reducible refine below_drewN ?_ _) | (with_reducible refine Below.drew ?_) | (with_reducible refine Below.setCell ?_ ?_ _) | (with_reducible refine Below.alloc ?_ ?_ _) | (with_reducible assumption) | (simp; done) | (simp; omega) | omega))⟩
      rw [← HWW.out, ← HBB.out, ← HJ1.out]
open Go.RowKit
def wholeL (bs : List Nat) : List Nat := (bs.drop (nI1 bs)).take (nW bs)
def behindL (bs : List Nat) : List Nat := (bs.drop (nI2 bs + 1)).take (nB bs)
def strip (l : List Nat) : List Nat := l.dropWhile (· == 48)
def dv (N : Nat) (l : List Nat) : Nat := l.foldl (fun N c => N * 10 + (c - 48)) N
def fr (N : Nat) (l : List Nat) : Nat → Nat
  | 0 => N
  | k + 1 => fr N l k * 10 + (l.getD k 48 - 48)
def numN (bs : List Nat) : Nat := fr (dv 0 (strip (wholeL bs))) (behindL bs) 6
def AllDig (l : List Nat) : Prop := ∀ x ∈ l, 48 ≤ x ∧ x ≤ 57
theorem span_dig (l : List Nat) : AllDig (l.take (span digB l)) := by
  induction l with
  | nil => intro x hx; simp [span] at hx
  | cons c l ih =>
    intro x hx
    by_cases hc : digB c = true
    · simp only [span, hc, if_true, List.take_succ_cons, List.mem_cons] at hx
      rcases hx with rfl | hx
      · simpa [digB] using hc
      · exact ih x hx
    · simp [span, hc] at hx
theorem whole_dig (bs : List Nat) : AllDig (wholeL bs) := by unfold wholeL nW; exact span_dig _
theorem behind_dig (bs : List Nat) : AllDig (behindL bs) := by
  unfold behindL nB; split
  · exact span_dig _
  · intro x hx; simp at hx
theorem strip_mem {l : List Nat} {x : Nat} (h : x ∈ strip l) : x ∈ l := (List.dropWhile_sublist _).mem h
theorem AllDig.strip {l : List Nat} (h : AllDig l) : AllDig (strip l) := fun x hx => h x (strip_mem hx)
theorem whole_len (bs : List Nat) : (wholeL bs).length = nW bs := by
  have := span_le digB (bs.drop (nI1 bs))
  unfold wholeL nW; rw [List.length_take]; omega
theorem behind_len (bs : List Nat) : (behindL bs).length = nB bs := by
  unfold behindL; rw [List.length_take]
  have : nB bs ≤ (bs.drop (nI2 bs + 1)).length := by
    unfold nB; split
    · exact span_le _ _
    · omega
  omega
theorem dv_snoc (N : Nat) (l : List Nat) (c : Nat) : dv N (l ++ [c]) = dv N l * 10 + (c - 48) := by unfold dv; rw [List.foldl_append]; rfl
theorem dv_bound {l : List Nat} (h : AllDig l) : dv 0 l < 10 ^ l.length := by
  have key : ∀ (l : List Nat) (N : Nat), AllDig l → dv N l < (N + 1) * 10 ^ l.length := by
    intro l
    induction l with
    | nil => intro N _; simp [dv]
    | cons c l ih =>
      intro N hl
      have h1 := ih (N * 10 + (c - 48)) (fun x hx => hl x (List.mem_cons_of_mem _ hx))
      have h2 := hl c (List.mem_cons_self)
      show dv (N * 10 + (c - 48)) l < _
      have h3 : (N * 10 + (c - 48) + 1) * 10 ^ l.length ≤ ((N + 1) * 10) * 10 ^ l.length := Nat.mul_le_mul_right _ (by omega)
      rw [List.length_cons, Nat.pow_succ]
      have h4 : (N + 1) * 10 * 10 ^ l.length = (N + 1) * (10 ^ l.length * 10) := by rw [Nat.mul_assoc, Nat.mul_comm 10]
      omega
  simpa using key l 0 h
theorem getD_dig {l : List Nat} (h : AllDig l) (k : Nat) : 48 ≤ l.getD k 48 ∧ l.getD k 48 ≤ 57 := by
  rw [List.getD_eq_getElem?_getD]
  by_cases hk : k < l.length
  · rw [List.getElem?_eq_getElem hk]; exact h _ (List.getElem_mem hk)
  · rw [List.getElem?_eq_none (by omega)]; decide
theorem fr_bound {l : List Nat} (h : AllDig l) (N : Nat) : ∀ k, fr N l k < (N + 1) * 10 ^ k := by
  intro k
  induction k with
  | zero => simp [fr]
  | succ k ih =>
    have h2 := getD_dig h k
    show fr N l k * 10 + (l.getD k 48 - 48) < _
    rw [Nat.pow_succ, ← Nat.mul_assoc]
    omega
theorem numN_lt {bs : List Nat} (h : (strip (wholeL bs)).length ≤ 30) : numN bs < 1000000000000000000000000000000000000 := by
  have a := dv_bound (whole_dig bs).strip
  have b : (10 : Nat) ^ (strip (wholeL bs)).length ≤ 10 ^ 30 := Nat.pow_le_pow_right (by decide) h
  have c := fr_bound (behind_dig bs) (dv 0 (strip (wholeL bs))) 6
  unfold numN
  omega
theorem strip_cons_zero (l : List Nat) : strip (48 :: l) = strip l := by simp [strip]
theorem strip_cons_other {c : Nat} (h : c ≠ 48) (l : List Nat) : strip (c :: l) = c :: l := by simp [strip, h]
open Go.RowKit
def pz (bs : List Nat) : Int := if sneg bs then -(numN bs : Int) else (numN bs : Int)
def PrefixPost (bs : List Nat) (e : Ending) : Prop :=
  (nW bs + nB bs = 0 ∧ e = .returned (.tuple #[.agg #[.bool false, .int .u64 0, .int .u64 0], .int .i64 0, .nilIface])) ∨
  (0 < nW bs + nB bs ∧ 30 < (strip (wholeL bs)).length ∧ e = .returned (.tuple #[.agg #[.bool false, .int .u64 0, .int .u64 0], .int .i64 ((nI3 bs : Nat) : Int), .iface 71 (.int .i64 2)])) ∨
  (0 < nW bs + nB bs ∧ (strip (wholeL bs)).length ≤ 30 ∧ e = .returned (.tuple #[.agg #[.bool (zn (pz bs)), .int .u64 (zh (pz bs)), .int .u64 (zl (pz bs))], .int .i64 ((nI3 bs : Nat) : Int), .nilIface]))
structure PW (w : World) (g : Nat) (bs : List Nat) (Ab : Option Addr) (cb N : Nat) (wr : World) : Prop where
  c0 : wr.cell? ⟨w.heap.size, 0, none⟩ = some (.bool false)
  c1 : wr.cell? ⟨w.heap.size, 1, none⟩ = some (.int .u64 (mh N))
  c2 : wr.cell? ⟨w.heap.size, 2, none⟩ = some (.int .u64 (ml N))
  f0 : wr.frozen? ⟨w.heap.size, 0, none⟩ = false
  f1 : wr.frozen? ⟨w.heap.size, 1, none⟩ = false
  f2 : wr.frozen? ⟨w.heap.size, 2, none⟩ = false
  s0 : wr.cell? ⟨g, 0, none⟩ = some (.bool (sneg bs))
  s2 : wr.cell? ⟨g, 2, none⟩ = some (.slice Ab (nB bs) cb)
  s3 : wr.cell? ⟨g, 3, none⟩ = some (.int .i64 ((nI3 bs : Nat) : Int))
  z0 : w.heap.size < wr.heap.size
  z1 : g < wr.heap.size
  b : Below w.heap.size w wr
theorem PW.next {w : World} {g : Nat} {bs : List Nat} {Ab : Option Addr} {cb N N' : Nat} {wr w2 : World} (h : PW w g bs Ab cb N wr) (hg : w.heap.size < g) (hb : Below wr.heap.size wr w2) :
    PW w g bs Ab cb N' (((w2.setCell ⟨w.heap.size, 0, none⟩ (.bool false)).setCell ⟨w.heap.size, 1, none⟩ (.int .u64 (mh N'))).setCell ⟨w.heap.size, 2, none⟩ (.int .u64 (ml N'))) := by
  have k0 := (Below.cell hb (p := ⟨w.heap.size, 0, none⟩) h.z0).trans h.c0
  have k1 := (Below.cell hb (p := ⟨w.heap.size, 1, none⟩) h.z0).trans h.c1
  have k2 := (Below.cell hb (p := ⟨w.heap.size, 2, none⟩) h.z0).trans h.c2
  have l0 := (Below.frozen hb (p := ⟨w.heap.size, 0, none⟩) h.z0).trans h.f0
  have l1 := (Below.frozen hb (p := ⟨w.heap.size, 1, none⟩) h.z0).trans h.f1
  have l2 := (Below.frozen hb (p := ⟨w.heap.size, 2, none⟩) h.z0).trans h.f2
  have m0 := (Below.cell hb (p := ⟨g, 0, none⟩) h.z1).trans h.s0
  have m2 := (Below.cell hb (p := ⟨g, 2, none⟩) h.z1).trans h.s2
  have m3 := (Below.cell hb (p := ⟨g, 3, none⟩) h.z1).trans h.s3
  have hne : w.heap.size ≠ g := by omega
  have hs := hb.size
  have z0 := h.z0; have z1 := h.z1
  have hbb : Below w.heap.size w w2 := h.b.trans (hb.mono (by omega))
  refine ⟨?_, ?_, ?_, ?_, ?_, ?_, ?_, ?_, ?_, ?_, ?_, ?_⟩
  · simp (maxDischargeDepth := 12) [go_sem, *]
  · simp (maxDischargeDepth := 12) [go_sem, *]
  · simp (maxDischargeDepth := 12) [go_sem, *]
  · simp (maxDischargeDepth := 12) [go_sem, *]
  · simp (maxDischargeDepth := 12) [go_sem, *]
  · simp (maxDischargeDepth := 12) [go_sem, *]
  · simp (maxDischargeDepth := 12) [go_sem, *]
  · simp (maxDischargeDepth := 12) [go_sem, *]
  · simp (maxDischargeDepth := 12) [go_sem, *]
  · simp; omega
  · simp; omega
  · (repeat' (first | (with_reducible exact Below.refl _ _) | (refine Below.trans ?_ (Below.mono (by with_reducible assumption) ?_)) | (with_reducible exact Below.refl _ _) | (with_reducible refine below_drewN ?_ _) | (with_reducible refine Below.drew ?_) | (with_reducible refine Below.setCell ?_ ?_ _) | (with_reducible refine Below.alloc ?_ ?_ _) | (with_reducible assumption) | (simp; done) | (simp; omega) | omega))
theorem PW.drew {w : World} {g : Nat} {bs : List Nat} {Ab : Option Addr} {cb N : Nat} {wr : World} (h : PW w g bs Ab cb N wr) : PW w g bs Ab cb N wr.drew :=
  ⟨h.c0, h.c1, h.c2, h.f0, h.f1, h.f2, h.s0, h.s2, h.s3, h.z0, h.z1, h.b.drew⟩
theorem RB.via {w w1 w2 : World} {B : Nat} {A : Option Addr} {l : List Nat} (h : RB w1 B A l) (h1 : Below B w w1) (h2 : Below B w w2) : RB w2 B A l :=
  h.keep fun _ hp => (h2.cell hp).trans (h1.cell hp).symm
theorem scan_zero (A : Option Addr) (c : Nat) (bs : List Nat) (w : World) (B0 : Nat) (hB0 : B0 ≤ w.heap.size) (hr : RB w B0 A bs) (hc : bs.length ≤ c) (hm : bs.length ≤ 140737488351232) (hz : nW bs + nB bs = 0) :
    Calls Try.prog 65 #[.slice A bs.length c] w fun e w' => e = .returned (.agg #[.bool false, .slice none 0 0, .slice none 0 0, .int .i64 0]) ∧ Below w.heap.size w w' :=
  (scan_any A c bs w B0 hB0 hr hc hm).mono fun _ _ ⟨h, hb⟩ => ⟨by rcases h with ⟨_, he⟩ | ⟨h0, _⟩; exact he; omega, hb⟩
theorem scan_some (A : Option Addr) (c : Nat) (bs : List Nat) (w : World) (B0 : Nat) (hB0 : B0 ≤ w.heap.size) (hr : RB w B0 A bs) (hc : bs.length ≤ c) (hm : bs.length ≤ 140737488351232) (hz : 0 < nW bs + nB bs) :
    Calls Try.prog 65 #[.slice A bs.length c] w fun e w' => ∃ (A1 Ab : Option Addr) (c1 cb : Nat), e = .returned (.agg #[.bool (sneg bs), .slice A1 (nW bs) c1, .slice Ab (nB bs) cb, .int .i64 ((nI3 bs : Nat) : Int)]) ∧ nW bs ≤ c1 ∧ nB bs ≤ cb ∧ RB w B0 A1 (wholeL bs) ∧ RB w B0 Ab (behindL bs) ∧ Below w.heap.size w w' :=
  (scan_any A c bs w B0 hB0 hr hc hm).mono fun _ _ ⟨h, hb⟩ => by
    rcases h with ⟨h0, _⟩ | ⟨_, Ab, cb, he, hcb, hR⟩
    · omega
    · refine ⟨_, Ab, _, cb, he, ?_, hcb, (hr.cutA hc).take _, hR, hb⟩
      have := nB_le bs
      unfold nI2 at this; omega
theorem nI3_pos {bs : List Nat} (h : 0 < nW bs + nB bs) : 0 < nI3 bs := by
  unfold nI3; split
  · omega
  · rename_i hd
    have : nB bs = 0 := by unfold nB; rw [if_neg hd]
    unfold nI2; omega
theorem RB.tail {w : World} {B : Nat} {A : Option Addr} {x : Nat} {l : List Nat} (h : RB w B A (x :: l)) {c : Nat} (hc : (x :: l).length ≤ c) : RB w B (Go.Proofs.Ythipoccbeloceaa.cutA A c 1) l := by
  have := h.cutA (k := 1) hc
  simpa using this
set_option maxRecDepth 100000 in
set_option maxHeartbeats 400000 in
theorem prefix_zero (A : Option Addr) (c : Nat) (bs : List Nat) (w : World) (B0 : Nat) (hB0 : B0 ≤ w.heap.size) (hr : RB w B0 A bs) (hc : bs.length ≤ c) (hm : bs.length ≤ 140737488351232) (hz : nW bs + nB bs = 0) :
    Calls Try.prog 55 #[.slice A bs.length c] w fun e w' => e = .returned (.tuple #[.agg #[.bool false, .int .u64 0, .int .u64 0], .int .i64 0, .nilIface]) ∧ Below w.heap.size w w' := by
  have HR := Lib.hid (fun (W : World) (hW : B0 ≤ W.heap.size) (h : RB W B0 A bs) => scan_zero A c bs W B0 hW h hc hm hz)
  have hb0 : Below w.heap.size w (w.alloc (.cells #[.bool false, .int .u64 0, .int .u64 0] 42)) := by (repeat' (first | (with_reducible exact Below.refl _ _) | (refine Below.trans ?_ (Below.mono (by with_reducible assumption) ?_)) | (with_reducible exact Below.refl _ _) | (with_reducible refine below_drewN ?_ _) | (with_reducible refine Below.drew ?_) | (with_reducible refine Below.setCell ?_ ?_ _) | (with_reducible refine Below.alloc ?_ ?_ _) | (with_reducible assumption) | (simp; done) | (simp; omega) | omega))
  have HR1 := Lib.hid (hr.below (hb0.mono hB0))
  clear hr hb0 hz
  go_enter Try.func55, Try.ntmps55
  go_wp2_with (go_at_call 65; refine (HR.out _ (by simp; omega) HR1.out).mono ?_; rintro e w1 ⟨rfl, b1⟩; have hs_b1 := Below.size b1; (try simp at hs_b1); have kb1_wheapsize_0 : w1.cell? ⟨w.heap.size, 0, none⟩ = some (.bool false) := (Below.cell b1 (by first | (simp; done) | (simp; omega) | omega)).trans (by first | (simp (maxDischargeDepth := 12) [go_sem]; done) | simp (maxDischargeDepth := 12) [go_sem, *]); have gb1_wheapsize_0 : w1.frozen? ⟨w.heap.size, 0, none⟩ = false := (Below.frozen b1 (by first | (simp; done) | (simp; omega) | omega)).trans (by first | (simp (maxDischargeDepth := 12) [go_sem]; done) | simp (maxDischargeDepth := 12) [go_sem, *]); have kb1_wheapsize_1 : w1.cell? ⟨w.heap.size, 1, none⟩ = some (.int .u64 0) := (Below.cell b1 (by first | (simp; done) | (simp; omega) | omega)).trans (by first | (simp (maxDischargeDepth := 12) [go_sem]; done) | simp (maxDischargeDepth := 12) [go_sem, *]); have gb1_wheapsize_1 : w1.frozen? ⟨w.heap.size, 1, none⟩ = false := (Below.frozen b1 (by first | (simp; done) | (simp; omega) | omega)).trans (by first | (simp (maxDischargeDepth := 12) [go_sem]; done) | simp (maxDischargeDepth := 12) [go_sem, *]); have kb1_wheapsize_2 : w1.cell? ⟨w.heap.size, 2, none⟩ = some (.int .u64 0) := (Below.cell b1 (by first | (simp; done) | (simp; omega) | omega)).trans (by first | (simp (maxDischargeDepth := 12) [go_sem]; done) | simp (maxDischargeDepth := 12) [go_sem, *]); have gb1_wheapsize_2 : w1.frozen? ⟨w.heap.size, 2, none⟩ = false := (Below.frozen b1 (by first | (simp; done) | (simp; omega) | omega)).trans (by first | (simp (maxDischargeDepth := 12) [go_sem]; done) | simp (maxDischargeDepth := 12) [go_sem, *]); have lb1_wheapsize : w.heap.size < w1.heap.size := (by first | omega | (have := Below.size b1; simp at this; omega)); have lb1_wheapsize' : w.heap.size < w1.heap.size + 1 := Nat.lt_succ_of_lt lb1_wheapsize; have lb1_wheapsize'' : w.heap.size < w1.heap.size + 1 + 1 := Nat.lt_succ_of_lt lb1_wheapsize')
  (try simp only [Exit.inBlock, Exit.then]); refine bodyPost_ret (by simp [results, Try.results55, go_sem, *]; try rfl) rfl ?_
  exact ⟨rfl, by (repeat' (first | (with_reducible exact Below.refl _ _) | (refine Below.trans ?_ (Below.mono (by with_reducible assumption) ?_)) | (with_reducible exact Below.refl _ _) | (with_reducible refine below_drewN ?_ _) | (with_reducible refine Below.drew ?_) | (with_reducible refine Below.setCell ?_ ?_ _) | (with_reducible refine Below.alloc ?_ ?_ _) | (with_reducible assumption) | (simp; done) | (simp; omega) | omega))⟩
set_option maxRecDepth 100000 in
set_option maxHeartbeats 1600000 in
theorem prefix_some (A : Option Addr) (c : Nat) (bs : List Nat) (w : World) (B0 : Nat) (hB0 : B0 ≤ w.heap.size) (hr : RB w B0 A bs) (hc : bs.length ≤ c) (hm : bs.length ≤ 140737488351232) (hz : 0 < nW bs + nB bs) :
    Calls Try.prog 55 #[.slice A bs.length c] w fun e w' => PrefixPost bs e ∧ Below w.heap.size w w' := by
  have HR := Lib.hid (fun (W : World) (hW : B0 ≤ W.heap.size) (h : RB W B0 A bs) => scan_some A c bs W B0 hW h hc hm hz)
  have hb0 : Below w.heap.size w (w.alloc (.cells #[.bool false, .int .u64 0, .int .u64 0] 42)) := by (repeat' (first | (with_reducible exact Below.refl _ _) | (refine Below.trans ?_ (Below.mono (by with_reducible assumption) ?_)) | (with_reducible exact Below.refl _ _) | (with_reducible refine below_drewN ?_ _) | (with_reducible refine Below.drew ?_) | (with_reducible refine Below.setCell ?_ ?_ _) | (with_reducible refine Below.alloc ?_ ?_ _) | (with_reducible assumption) | (simp; done) | (simp; omega) | omega))
  have HR1 := Lib.hid (hr.below (hb0.mono hB0))
  have HZ := Lib.hid hz
  have hn3 : (((nI3 bs : Nat) : Int) == 0) = false := by rw [beq_eq_false_iff_ne]; have := nI3_pos hz; omega
  have hb3 := nB_le bs
  clear hr hb0 hz
  go_enter Try.func55, Try.ntmps55
  go_upto_region 2 with (go_at_call 65; refine (HR.out _ (by simp; omega) HR1.out).mono ?_; rintro e w1 ⟨A1, Ab, c1, cb, rfl, k1, kb, ra, rb, b1⟩; have RA := Lib.hid ra; have RBB := Lib.hid rb; clear ra rb; have hs_b1 := Below.size b1; (try simp at hs_b1); have kb1_wheapsize_0 : w1.cell? ⟨w.heap.size, 0, none⟩ = some (.bool false) := (Below.cell b1 (by first | (simp; done) | (simp; omega) | omega)).trans (by first | (simp (maxDischargeDepth := 12) [go_sem]; done) | simp (maxDischargeDepth := 12) [go_sem, *]); have gb1_wheapsize_0 : w1.frozen? ⟨w.heap.size, 0, none⟩ = false := (Below.frozen b1 (by first | (simp; done) | (simp; omega) | omega)).trans (by first | (simp (maxDischargeDepth := 12) [go_sem]; done) | simp (maxDischargeDepth := 12) [go_sem, *]); have kb1_wheapsize_1 : w1.cell? ⟨w.heap.size, 1, none⟩ = some (.int .u64 0) := (Below.cell b1 (by first | (simp; done) | (simp; omega) | omega)).trans (by first | (simp (maxDischargeDepth := 12) [go_sem]; done) | simp (maxDischargeDepth := 12) [go_sem, *]); have gb1_wheapsize_1 : w1.frozen? ⟨w.heap.size, 1, none⟩ = false := (Below.frozen b1 (by first | (simp; done) | (simp; omega) | omega)).trans (by first | (simp (maxDischargeDepth := 12) [go_sem]; done) | simp (maxDischargeDepth := 12) [go_sem, *]); have kb1_wheapsize_2 : w1.cell? ⟨w.heap.size, 2, none⟩ = some (.int .u64 0) := (Below.cell b1 (by first | (simp; done) | (simp; omega) | omega)).trans (by first | (simp (maxDischargeDepth := 12) [go_sem]; done) | simp (maxDischargeDepth := 12) [go_sem, *]); have gb1_wheapsize_2 : w1.frozen? ⟨w.heap.size, 2, none⟩ = false := (Below.frozen b1 (by first | (simp; done) | (simp; omega) | omega)).trans (by first | (simp (maxDischargeDepth := 12) [go_sem]; done) | simp (maxDischargeDepth := 12) [go_sem, *]); have lb1_wheapsize : w.heap.size < w1.heap.size := (by first | omega | (have := Below.size b1; simp at this; omega)); have lb1_wheapsize' : w.heap.size < w1.heap.size + 1 := Nat.lt_succ_of_lt lb1_wheapsize; have lb1_wheapsize'' : w.heap.size < w1.heap.size + 1 + 1 := Nat.lt_succ_of_lt lb1_wheapsize')
  go_upto_block 0 with fail
  have hb1 : Below w.heap.size w w1 := by refine Below.trans (by (repeat' (first | (with_reducible exact Below.refl _ _) | (refine Below.trans ?_ (Below.mono (by with_reducible assumption) ?_)) | (with_reducible exact Below.refl _ _) | (with_reducible refine below_drewN ?_ _) | (with_reducible refine Below.drew ?_) | (with_reducible refine Below.setCell ?_ ?_ _) | (with_reducible refine Below.alloc ?_ ?_ _) | (with_reducible assumption) | (simp; done) | (simp; omega) | omega))) (b1.mono (by simp))
  have HB1 := Lib.hid hb1
  have RA' := Lib.hid (RA.out.below (b1.mono (by simp; omega)))
  have RB' := Lib.hid (RBB.out.below (b1.mono (by simp; omega)))
  have hB1 : B0 ≤ w1.heap.size := by omega
  have hwl : nW bs ≤ bs.length := by unfold nI2 at hb3; omega
  clear b1 hb1 RA RBB HR HR1
  go_cut [25] (fun _ wx => ∃ (A2 : Option Addr) (c2 : Nat), w1.alloc (.cells #[.bool (sneg bs), .slice A2 (strip (wholeL bs)).length c2, .slice Ab (nB bs) cb, .int .i64 ((nI3 bs : Nat) : Int)] 128) = wx ∧ (strip (wholeL bs)).length ≤ c2 ∧ RB w1 B0 A2 (strip (wholeL bs)))
  case first =>
    go_wp2_with fail
    go_loopg [25] (wholeL bs).length (fun k _ wx => ∃ (A2 : Option Addr) (c2 : Nat) (l : List Nat), l.length = k ∧ w1.alloc (.cells #[.bool (sneg bs), .slice A2 l.length c2, .slice Ab (nB bs) cb, .int .i64 ((nI3 bs : Nat) : Int)] 128) = wx ∧ l.length ≤ c2 ∧ RB w1 B0 A2 l ∧ Hid (strip l = strip (wholeL bs)) ∧ k ≤ 140737488351232)
    case atStart => exact ⟨A1, c1, wholeL bs, rfl, by rw [whole_len], by rw [whole_len]; exact k1, RA'.out, Lib.hid rfl, by rw [whole_len]; omega⟩
    case round =>
      obtain ⟨A2, c2, l, rfl, rfl, hl, hR, hS, hk⟩ := hrel
      match l, hl, hR, hS, hk with
      | [], hl, hR, hS, hk =>
        have HR3 := Lib.hid hR; clear hR
        go_wp2_with fail
        go_meet
        exact ⟨A2, c2, by rw [← hS.out]; rfl, by rw [← hS.out]; exact hl, by rw [← hS.out]; exact HR3.out⟩
      | x :: l, hl, hR, hS, hk =>
        have HR3 := Lib.hid hR
        obtain ⟨ad, eA, hb, hcell⟩ := hR.2 (by simp)
        have hb := Nat.lt_of_lt_of_le hb hB1
        have hcl := hcell 0 (by simp)
        rw [show ad.add 0 = ad by simp [Addr.add]] at hcl
        simp only [List.getElem_cons_zero] at hcl
        have hcl2 : (w1.alloc (.cells #[.bool (sneg bs), .slice A2 (x :: l).length c2, .slice Ab (nB bs) cb, .int .i64 ((nI3 bs : Nat) : Int)] 128)).cell? ad = some (.int .u8 ((x : Nat) : Int)) := (Below.cell (show Below w1.heap.size w1 _ by (repeat' (first | (with_reducible exact Below.refl _ _) | (refine Below.trans ?_ (Below.mono (by with_reducible assumption) ?_)) | (with_reducible exact Below.refl _ _) | (with_reducible refine below_drewN ?_ _) | (with_reducible refine Below.drew ?_) | (with_reducible refine Below.setCell ?_ ?_ _) | (with_reducible refine Below.alloc ?_ ?_ _) | (with_reducible assumption) | (simp; done) | (simp; omega) | omega))) hb).trans hcl
        simp only [List.length_cons] at hcl2 hl hk
        simp only [List.length_cons]
        subst eA
        have hsl : ∀ W, (Instr.slice 22 (.slice (some ad) (l.length + 1) c2) (some (.int .i64 1)) none none).run Try.prog W = .ok (.slice (cutA (some ad) c2 1) l.length (c2 - 1)) W := fun W => by
          have := cut_run (some ad) (l.length + 1) c2 1 (by omega) W
          simpa using this
        clear hcell hcl hb hR
        by_cases hx : x = 48
        · subst hx
          have HS := Lib.hid ((strip_cons_zero l).symm.trans hS.out)
          go_wp2_with fail
          go_roundg l.length
          case measure => simp
          case rel => exact ⟨_, _, l, rfl, rfl, by omega, HR3.out.tail (by simp; omega), HS, by omega⟩
        · have hx1 : ((x : Int) == 48) = false := by rw [beq_eq_false_iff_ne]; omega
          have HS := Lib.hid ((strip_cons_other hx l).symm.trans hS.out)
          clear hx
          go_wp2_with fail
          go_meet
          exact ⟨_, _, by rw [← HS.out]; rfl, by rw [← HS.out]; exact hl, by rw [← HS.out]; exact HR3.out⟩
  case rest =>
    obtain ⟨A2, c2, rfl, hc2, hR2⟩ := hcut
    obtain ⟨ds, hds⟩ : ∃ ds, ds = strip (wholeL bs) := ⟨_, rfl⟩
    rw [← hds] at hc2 hR2
    rw [← hds]
    have hdl : ds.length ≤ bs.length := by
      have := (List.dropWhile_sublist (fun x => x == 48) (l := wholeL bs)).length_le
      rw [whole_len] at this; rw [hds]; unfold strip; omega
    have HDS := Lib.hid hds; have HR2 := Lib.hid hR2; clear hds hR2
    by_cases h30 : 30 < ds.length
    · have hpost : ∀ e, e = Ending.returned (.tuple #[.agg #[.bool false, .int .u64 0, .int .u64 0], .int .i64 ((nI3 bs : Nat) : Int), .iface 71 (.int .i64 2)]) → PrefixPost bs e := fun e he => .inr (.inl ⟨HZ.out, by rw [← HDS.out]; exact h30, he⟩)
      have HPO := Lib.hid hpost; clear hpost
      go_upto_region 7 with fail
      go_region
      all_goals
        go_wp2
        (try simp only [Exit.inBlock, Exit.then]); refine bodyPost_ret (by simp [results, Try.results55, go_sem, *]; try rfl) rfl ?_
        exact ⟨HPO.out _ rfl, by refine Below.trans HB1.out ?_; (repeat' (first | (with_reducible exact Below.refl _ _) | (refine Below.trans ?_ (Below.mono (by with_reducible assumption) ?_)) | (with_reducible exact Below.refl _ _) | (with_reducible refine below_drewN ?_ _) | (with_reducible refine Below.drew ?_) | (with_reducible refine Below.setCell ?_ ?_ _) | (with_reducible refine Below.alloc ?_ ?_ _) | (with_reducible assumption) | (simp; done) | (simp; omega) | omega))⟩
    · have hPW : PW w w1.heap.size bs Ab cb 0 (w1.alloc (.cells #[.bool (sneg bs), .slice A2 ds.length c2, .slice Ab (nB bs) cb, .int .i64 ((nI3 bs : Nat) : Int)] 128)) := by
        have e1 : mh 0 = 0 := by decide
        have e2 : ml 0 = 0 := by decide
        refine ⟨?_, ?_, ?_, ?_, ?_, ?_, ?_, ?_, ?_, ?_, ?_, ?_⟩
        · simp (maxDischargeDepth := 12) [go_sem, *]
        · simp (maxDischargeDepth := 12) [go_sem, *]
        · simp (maxDischargeDepth := 12) [go_sem, *]
        · simp (maxDischargeDepth := 12) [go_sem, *]
        · simp (maxDischargeDepth := 12) [go_sem, *]
        · simp (maxDischargeDepth := 12) [go_sem, *]
        · simp (maxDischargeDepth := 12) [go_sem, *]
        · simp (maxDischargeDepth := 12) [go_sem, *]
        · simp (maxDischargeDepth := 12) [go_sem, *]
        · simp; omega
        · simp
        · exact (HB1.out).alloc (by omega) _
      have HPW := Lib.hid hPW; clear hPW
      have hg : w.heap.size < w1.heap.size := by omega
      have hdig : AllDig ds := by rw [HDS.out]; exact (whole_dig bs).strip
      have HDG := Lib.hid hdig; clear hdig
      go_upto_block 2 with fail
      go_cut [41] (fun _ wx => PW w w1.heap.size bs Ab cb (dv 0 ds) wx)
      case first =>
        go_wp2_with fail
        go_loopw [41] (fun i wr => ∃ k : Nat, k ≤ ds.length ∧ i = .int .i64 k ∧ PW w w1.heap.size bs Ab cb (dv 0 (ds.take k)) wr) (fun i _ => ds.length - (intOf i).toNat)
        case atStart => exact ⟨0, Nat.zero_le _, rfl, HPW.out⟩
        case round =>
          obtain ⟨k, hk, rfl, hP⟩ := hrel
          by_cases hlt : k < ds.length
          · have hRr := HR2.out.via (HB1.out.mono hB0) (hP.b.mono hB0)
            obtain ⟨ad, eA, hb, hcell⟩ := hRr.2 (by omega)
            subst eA
            have hcl := hcell k hlt
            have hxd := HDG.out ds[k] (List.getElem_mem hlt)
            have hsn : dv 0 (ds.take (k + 1)) = dv 0 (ds.take k) * 10 + (ds[k] - 48) := by
              rw [List.take_succ_eq_append_getElem hlt, dv_snoc]
            have hNb : dv 0 (ds.take k) < 10000000000000000000000000000000000000 := by
              have h1 := dv_bound (l := ds.take k) (fun x hx => HDG.out x (List.mem_of_mem_take hx))
              have h2 : (10 : Nat) ^ (ds.take k).length ≤ 10 ^ 30 := Nat.pow_le_pow_right (by decide) (by rw [List.length_take]; omega)
              omega
            obtain ⟨x, hxe⟩ : ∃ x, x = ds[k] := ⟨_, rfl⟩
            rw [← hxe] at hcl hxd hsn
            obtain ⟨N, hNe⟩ : ∃ N, N = dv 0 (ds.take k) := ⟨_, rfl⟩
            rw [← hNe] at hP hsn hNb
            have HSN := Lib.hid hsn
            have HP := Lib.hid hP
            have MA := Lib.hid (fun W => more_any false N x hNb hxd.1 hxd.2 W)
            have c0 := hP.c0; have c1 := hP.c1; have c2 := hP.c2; have f0 := hP.f0; have f1 := hP.f1; have f2 := hP.f2; have z0 := hP.z0
            clear hcell hRr hb hxe hNe hsn hP hNb hxd
            go_wp2_with (go_at_call 66; refine (MA.out _).mono ?_; rintro e w2 ⟨rfl, b2⟩; have HNX := Lib.hid (HP.out.next hg b2 (N' := N * 10 + (x - 48))); have hs_b2 := Below.size b2; (try simp at hs_b2); have kb2_wheapsize_0 : w2.cell? ⟨w.heap.size, 0, none⟩ = some (.bool false) := (Below.cell b2 (by first | (simp; done) | (simp; omega) | omega)).trans (by first | (simp (maxDischargeDepth := 12) [go_sem]; done) | simp (maxDischargeDepth := 12) [go_sem, *]); have gb2_wheapsize_0 : w2.frozen? ⟨w.heap.size, 0, none⟩ = false := (Below.frozen b2 (by first | (simp; done) | (simp; omega) | omega)).trans (by first | (simp (maxDischargeDepth := 12) [go_sem]; done) | simp (maxDischargeDepth := 12) [go_sem, *]); have kb2_wheapsize_1 : w2.cell? ⟨w.heap.size, 1, none⟩ = some (.int .u64 (mh N)) := (Below.cell b2 (by first | (simp; done) | (simp; omega) | omega)).trans (by first | (simp (maxDischargeDepth := 12) [go_sem]; done) | simp (maxDischargeDepth := 12) [go_sem, *]); have gb2_wheapsize_1 : w2.frozen? ⟨w.heap.size, 1, none⟩ = false := (Below.frozen b2 (by first | (simp; done) | (simp; omega) | omega)).trans (by first | (simp (maxDischargeDepth := 12) [go_sem]; done) | simp (maxDischargeDepth := 12) [go_sem, *]); have kb2_wheapsize_2 : w2.cell? ⟨w.heap.size, 2, none⟩ = some (.int .u64 (ml N)) := (Below.cell b2 (by first | (simp; done) | (simp; omega) | omega)).trans (by first | (simp (maxDischargeDepth := 12) [go_sem]; done) | simp (maxDischargeDepth := 12) [go_sem, *]); have gb2_wheapsize_2 : w2.frozen? ⟨w.heap.size, 2, none⟩ = false := (Below.frozen b2 (by first | (simp; done) | (simp; omega) | omega)).trans (by first | (simp (maxDischargeDepth := 12) [go_sem]; done) | simp (maxDischargeDepth := 12) [go_sem, *]); have lb2_wheapsize : w.heap.size < w2.heap.size := (by first | omega | (have := Below.size b2; simp at this; omega)); have lb2_wheapsize' : w.heap.size < w2.heap.size + 1 := Nat.lt_succ_of_lt lb2_wheapsize; have lb2_wheapsize'' : w.heap.size < w2.heap.size + 1 + 1 := Nat.lt_succ_of_lt lb2_wheapsize')
            go_roundw
            case rel => exact ⟨k + 1, by omega, by go_num, by rw [HSN.out]; exact HNX.out⟩
            case measure => simp [intOf]; omega
          · obtain rfl : k = ds.length := by omega
            rw [List.take_length] at hP
            have HP := Lib.hid hP; clear hP
            go_wp2_with fail
            go_meet
            exact HP.out
      case rest =>
        have hPW0 := Lib.hid hcut
        clear hcut HPW
        obtain ⟨N0, hN0⟩ : ∃ N0, N0 = dv 0 ds := ⟨_, rfl⟩
        have hNb0 : N0 < 1000000000000000000000000000000 := by
          have h1 := dv_bound HDG.out
          have h2 : (10 : Nat) ^ ds.length ≤ 10 ^ 30 := Nat.pow_le_pow_right (by decide) (by omega)
          rw [hN0]; omega
        rw [← hN0] at hPW0
        have HN0 := Lib.hid hN0; clear hN0
        have HBD := Lib.hid (behind_dig bs)
        have hbl := behind_len bs
        have HBL := Lib.hid hbl; clear hbl
        go_upto_block 4 with fail
        go_cut [49] (fun _ wx => PW w w1.heap.size bs Ab cb (fr N0 (behindL bs) 6) wx)
        case first =>
          go_wp2_with fail
          go_loopw [49] (fun i wr => ∃ k : Nat, k ≤ 6 ∧ i = .int .i64 k ∧ PW w w1.heap.size bs Ab cb (fr N0 (behindL bs) k) wr) (fun i _ => 6 - (intOf i).toNat)
          case atStart => exact ⟨0, Nat.zero_le _, rfl, hPW0.out⟩
          case round =>
            obtain ⟨k, hk, rfl, hP⟩ := hrel
            by_cases hlt : k < 6
            · have hxd := getD_dig HBD.out k
              have hfb := fr_bound HBD.out N0 k
              have hpk : (10 : Nat) ^ k ≤ 10 ^ 6 := Nat.pow_le_pow_right (by decide) (by omega)
              have hNb : fr N0 (behindL bs) k < 10000000000000000000000000000000000000 := by
                have : (N0 + 1) * 10 ^ k ≤ (N0 + 1) * 10 ^ 6 := Nat.mul_le_mul_left _ hpk
                omega
              have hsn : fr N0 (behindL bs) (k + 1) = fr N0 (behindL bs) k * 10 + ((behindL bs).getD k 48 - 48) := rfl
              have hRr := RB'.out.via (HB1.out.mono hB0) (hP.b.mono hB0)
              obtain ⟨N, hNe⟩ : ∃ N, N = fr N0 (behindL bs) k := ⟨_, rfl⟩
              rw [← hNe] at hP hsn hNb
              by_cases hkb : k < nB bs
              · obtain ⟨ad, eA, hb, hcell⟩ := hRr.2 (by rw [HBL.out]; omega)
                subst eA
                have hkl : k < (behindL bs).length := by rw [HBL.out]; exact hkb
                have hcl := hcell k hkl
                obtain ⟨x, hxe⟩ : ∃ x, x = (behindL bs).getD k 48 := ⟨_, rfl⟩
                have hx2 : (behindL bs)[k] = x := by rw [hxe, List.getD_eq_getElem?_getD, List.getElem?_eq_getElem hkl]; rfl
                rw [hx2] at hcl
                rw [← hxe] at hxd hsn
                have HSN := Lib.hid hsn
                have HP := Lib.hid hP
                have MA := Lib.hid (fun W => more_any false N x hNb hxd.1 hxd.2 W)
                have c0 := hP.c0; have c1 := hP.c1; have c2 := hP.c2; have f0 := hP.f0; have f1 := hP.f1; have f2 := hP.f2; have z0 := hP.z0; have s2 := hP.s2; have z1 := hP.z1
                clear hcell hRr hb hxe hx2 hNe hsn hP hNb hxd hfb hpk hNb0
                go_upto_region 17 with fail
                go_region_with (go_at_call 66; refine (MA.out _).mono ?_; rintro e w2 ⟨rfl, b2⟩; have HNX := Lib.hid (HP.out.drew.next hg b2 (N' := N * 10 + (x - 48))); have hs_b2 := Below.size b2; (try simp at hs_b2); have kb2_wheapsize_0 : w2.cell? ⟨w.heap.size, 0, none⟩ = some (.bool false) := (Below.cell b2 (by first | (simp; done) | (simp; omega) | omega)).trans (by first | (simp (maxDischargeDepth := 12) [go_sem]; done) | simp (maxDischargeDepth := 12) [go_sem, *]); have gb2_wheapsize_0 : w2.frozen? ⟨w.heap.size, 0, none⟩ = false := (Below.frozen b2 (by first | (simp; done) | (simp; omega) | omega)).trans (by first | (simp (maxDischargeDepth := 12) [go_sem]; done) | simp (maxDischargeDepth := 12) [go_sem, *]); have kb2_wheapsize_1 : w2.cell? ⟨w.heap.size, 1, none⟩ = some (.int .u64 (mh N)) := (Below.cell b2 (by first | (simp; done) | (simp; omega) | omega)).trans (by first | (simp (maxDischargeDepth := 12) [go_sem]; done) | simp (maxDischargeDepth := 12) [go_sem, *]); have gb2_wheapsize_1 : w2.frozen? ⟨w.heap.size, 1, none⟩ = false := (Below.frozen b2 (by first | (simp; done) | (simp; omega) | omega)).trans (by first | (simp (maxDischargeDepth := 12) [go_sem]; done) | simp (maxDischargeDepth := 12) [go_sem, *]); have kb2_wheapsize_2 : w2.cell? ⟨w.heap.size, 2, none⟩ = some (.int .u64 (ml N)) := (Below.cell b2 (by first | (simp; done) | (simp; omega) | omega)).trans (by first | (simp (maxDischargeDepth := 12) [go_sem]; done) | simp (maxDischargeDepth := 12) [go_sem, *]); have gb2_wheapsize_2 : w2.frozen? ⟨w.heap.size, 2, none⟩ = false := (Below.frozen b2 (by first | (simp; done) | (simp; omega) | omega)).trans (by first | (simp (maxDischargeDepth := 12) [go_sem]; done) | simp (maxDischargeDepth := 12) [go_sem, *]); have lb2_wheapsize : w.heap.size < w2.heap.size := (by first | omega | (have := Below.size b2; simp at this; omega)); have lb2_wheapsize' : w.heap.size < w2.heap.size + 1 := Nat.lt_succ_of_lt lb2_wheapsize; have lb2_wheapsize'' : w.heap.size < w2.heap.size + 1 + 1 := Nat.lt_succ_of_lt lb2_wheapsize')
                go_goals
                all_goals
                  go_wp2_with fail
                  go_roundw
                  case rel => exact ⟨k + 1, by omega, by go_num, by rw [HSN.out]; exact HNX.out⟩
                  case measure => simp [intOf]; omega
              · have hx2 : (behindL bs).getD k 48 = 48 := by
                  rw [List.getD_eq_getElem?_getD, List.getElem?_eq_none (by rw [HBL.out]; omega)]; rfl
                rw [hx2] at hsn
                have HSN := Lib.hid hsn
                have HP := Lib.hid hP
                have MA := Lib.hid (fun W => more_any false N 48 hNb (by decide) (by decide) W)
                have c0 := hP.c0; have c1 := hP.c1; have c2 := hP.c2; have f0 := hP.f0; have f1 := hP.f1; have f2 := hP.f2; have z0 := hP.z0; have s2 := hP.s2; have z1 := hP.z1
                clear hRr hx2 hNe hsn hP hNb hxd hfb hpk hNb0
                go_wp2_with (go_at_call 66; refine (MA.out _).mono ?_; rintro e w2 ⟨rfl, b2⟩; have HNX := Lib.hid (HP.out.next hg b2 (N' := N * 10)); have hs_b2 := Below.size b2; (try simp at hs_b2); have kb2_wheapsize_0 : w2.cell? ⟨w.heap.size, 0, none⟩ = some (.bool false) := (Below.cell b2 (by first | (simp; done) | (simp; omega) | omega)).trans (by first | (simp (maxDischargeDepth := 12) [go_sem]; done) | simp (maxDischargeDepth := 12) [go_sem, *]); have gb2_wheapsize_0 : w2.frozen? ⟨w.heap.size, 0, none⟩ = false := (Below.frozen b2 (by first | (simp; done) | (simp; omega) | omega)).trans (by first | (simp (maxDischargeDepth := 12) [go_sem]; done) | simp (maxDischargeDepth := 12) [go_sem, *]); have kb2_wheapsize_1 : w2.cell? ⟨w.heap.size, 1, none⟩ = some (.int .u64 (mh N)) := (Below.cell b2 (by first | (simp; done) | (simp; omega) | omega)).trans (by first | (simp (maxDischargeDepth := 12) [go_sem]; done) | simp (maxDischargeDepth := 12) [go_sem, *]); have gb2_wheapsize_1 : w2.frozen? ⟨w.heap.size, 1, none⟩ = false := (Below.frozen b2 (by first | (simp; done) | (simp; omega) | omega)).trans (by first | (simp (maxDischargeDepth := 12) [go_sem]; done) | simp (maxDischargeDepth := 12) [go_sem, *]); have kb2_wheapsize_2 : w2.cell? ⟨w.heap.size, 2, none⟩ = some (.int .u64 (ml N)) := (Below.cell b2 (by first | (simp; done) | (simp; omega) | omega)).trans (by first | (simp (maxDischargeDepth := 12) [go_sem]; done) | simp (maxDischargeDepth := 12) [go_sem, *]); have gb2_wheapsize_2 : w2.frozen? ⟨w.heap.size, 2, none⟩ = false := (Below.frozen b2 (by first | (simp; done) | (simp; omega) | omega)).trans (by first | (simp (maxDischargeDepth := 12) [go_sem]; done) | simp (maxDischargeDepth := 12) [go_sem, *]); have lb2_wheapsize : w.heap.size < w2.heap.size := (by first | omega | (have := Below.size b2; simp at this; omega)); have lb2_wheapsize' : w.heap.size < w2.heap.size + 1 := Nat.lt_succ_of_lt lb2_wheapsize; have lb2_wheapsize'' : w.heap.size < w2.heap.size + 1 + 1 := Nat.lt_succ_of_lt lb2_wheapsize')
                go_roundw
                case rel => exact ⟨k + 1, by omega, by go_num, by rw [HSN.out]; exact HNX.out⟩
                case measure => simp [intOf]; omega
            · obtain rfl : k = 6 := by omega
              have HP := Lib.hid hP; clear hP
              go_wp2_with fail
              go_meet
              exact HP.out
        case rest =>
          have hP := hcut
          have hnum : fr N0 (behindL bs) 6 = numN bs := by unfold numN; rw [HN0.out, HDS.out]
          rw [hnum] at hP
          have hNl := numN_lt (bs := bs) (by rw [← HDS.out]; omega)
          have hpost : ∀ e, e = Ending.returned (.tuple #[.agg #[.bool (zn (pz bs)), .int .u64 (zh (pz bs)), .int .u64 (zl (pz bs))], .int .i64 ((nI3 bs : Nat) : Int), .nilIface]) → PrefixPost bs e := fun e he => .inr (.inr ⟨HZ.out, by rw [← HDS.out]; omega, he⟩)
          have hz2 : zh (pz bs) = mh (numN bs) := by unfold zh pz mh; split <;> omega
          have hz3 : zl (pz bs) = ml (numN bs) := by unfold zl pz ml; split <;> omega
          rw [hz2, hz3] at hpost
          have hz1 : zn (pz bs) = (sneg bs && decide (numN bs ≠ 0)) := by
            unfold zn pz
            cases sneg bs
            · simp
            · by_cases h : numN bs = 0
              · simp [h]
              · simp [h]; omega
          rw [hz1] at hpost
          obtain ⟨N, hNe⟩ : ∃ N, N = numN bs := ⟨_, rfl⟩
          rw [← hNe] at hP hpost hNl
          have HPO := Lib.hid hpost
          have HP := Lib.hid hP
          have c0 := hP.c0; have f0 := hP.f0; have f1 := hP.f1; have f2 := hP.f2; have z0 := hP.z0; have s0 := hP.s0; have s3 := hP.s3; have z1 := hP.z1; have c1 := hP.c1; have c2 := hP.c2
          clear hcut hnum hpost hz2 hz3 hz1 hNe hP
          by_cases hN : N = 0
          · subst hN
            have e1 : mh 0 = 0 := by decide
            have e2 : ml 0 = 0 := by decide
            rw [e1] at c1; rw [e2] at c2
            go_upto_region 22 with fail
            go_region
            all_goals
              go_wp2
              (try simp only [Exit.inBlock, Exit.then]); refine bodyPost_ret (by simp [results, Try.results55, go_sem, *]; try rfl) rfl ?_
              exact ⟨HPO.out _ (by simp [e1, e2]), by refine Below.trans HP.out.b ?_; (repeat' (first | (with_reducible exact Below.refl _ _) | (refine Below.trans ?_ (Below.mono (by with_reducible assumption) ?_)) | (with_reducible exact Below.refl _ _) | (with_reducible refine below_drewN ?_ _) | (with_reducible refine Below.drew ?_) | (with_reducible refine Below.setCell ?_ ?_ _) | (with_reducible refine Below.alloc ?_ ?_ _) | (with_reducible assumption) | (simp; done) | (simp; omega) | omega))⟩
          · have hw : (mh N == 0) = false ∨ (mh N = 0 ∧ (ml N == 0) = false) := by
              by_cases h : mh N = 0
              · right; refine ⟨h, ?_⟩; rw [beq_eq_false_iff_ne]; unfold mh ml at *; omega
              · left; rw [beq_eq_false_iff_ne]; exact h
            have hsn : (sneg bs && decide (N ≠ 0)) = sneg bs := by simp [hN]
            have HSN := Lib.hid hsn
            have HHN := Lib.hid hN
            clear hsn hN hNl
            rcases hw with hw | ⟨hw1, hw⟩
            · go_upto_region 22 with fail
              go_region
              all_goals
                go_wp2
                (try simp only [Exit.inBlock, Exit.then]); refine bodyPost_ret (by simp [results, Try.results55, go_sem, *]; try rfl) rfl ?_
                exact ⟨HPO.out _ (by rw [HSN.out]), by refine Below.trans HP.out.b ?_; (repeat' (first | (with_reducible exact Below.refl _ _) | (refine Below.trans ?_ (Below.mono (by with_reducible assumption) ?_)) | (with_reducible exact Below.refl _ _) | (with_reducible refine below_drewN ?_ _) | (with_reducible refine Below.drew ?_) | (with_reducible refine Below.setCell ?_ ?_ _) | (with_reducible refine Below.alloc ?_ ?_ _) | (with_reducible assumption) | (simp; done) | (simp; omega) | omega))⟩
            · rw [hw1] at c1
              have HW1 := Lib.hid hw1; clear hw1
              go_upto_region 22 with fail
              go_region
              all_goals
                go_wp2
                (try simp only [Exit.inBlock, Exit.then]); refine bodyPost_ret (by simp [results, Try.results55, go_sem, *]; try rfl) rfl ?_
                exact ⟨HPO.out _ (by rw [HSN.out, HW1.out]), by refine Below.trans HP.out.b ?_; (repeat' (first | (with_reducible exact Below.refl _ _) | (refine Below.trans ?_ (Below.mono (by with_reducible assumption) ?_)) | (with_reducible exact Below.refl _ _) | (with_reducible refine below_drewN ?_ _) | (with_reducible refine Below.drew ?_) | (with_reducible refine Below.setCell ?_ ?_ _) | (with_reducible refine Below.alloc ?_ ?_ _) | (with_reducible assumption) | (simp; done) | (simp; omega) | omega))⟩
theorem prefix_any (A : Option Addr) (c : Nat) (bs : List Nat) (w : World) (B0 : Nat) (hB0 : B0 ≤ w.heap.size) (hr : RB w B0 A bs) (hc : bs.length ≤ c) (hm : bs.length ≤ 140737488351232) :
    Calls Try.prog 55 #[.slice A bs.length c] w fun e w' => PrefixPost bs e ∧ Below w.heap.size w w' := by
  by_cases hz : nW bs + nB bs = 0
  · exact (prefix_zero A c bs w B0 hB0 hr hc hm hz).mono fun _ _ ⟨he, hb⟩ => ⟨.inl ⟨hz, he⟩, hb⟩
  · exact prefix_some A c bs w B0 hB0 hr hc hm (by omega)
end Go.Proofs.Ythipoccbeloceaa
