/- Several texts put together: RefV. -/
import Derived.Test.YtkhhjibpppmekaaBu26
/- fieldfareref09.Good. -/
namespace Go.Proofs.Ytkhhjibpppmekaa
open Go.RowKit
theorem goodC_goodB {k : Int} {bs : List Nat} {n : Bool} {h l : Int} (hg : goodC k bs n h l = true) : goodB n h l = true := by
  unfold goodC at hg
  by_cases h0 : k = 0
  · rw [if_pos h0] at hg
    simp at hg
    obtain ⟨_, rfl, rfl, rfl⟩ := hg
    exact goodB_zero
  rw [if_neg h0] at hg
  by_cases h1 : k = 1
  · rw [if_pos h1] at hg
    simp at hg
    exact hg.2
  rw [if_neg h1] at hg
  by_cases h2 : k = 2
  · rw [if_pos h2] at hg
    simp at hg
    obtain ⟨rfl, rfl, rfl⟩ := hg
    exact goodB_zero
  rw [if_neg h2] at hg
  by_cases h3 : k = 3
  · rw [if_pos h3] at hg
    simp at hg
    obtain ⟨_, rfl, rfl, rfl⟩ := hg
    exact good_pq bs
  · rw [if_neg h3] at hg; cases hg
theorem zero_cases (n : Bool) (h l : Int) : (n = true) ∨ (n = false ∧ (h == 0) = false) ∨ (n = false ∧ h = 0 ∧ (l == 0) = false) ∨ (n = false ∧ h = 0 ∧ l = 0) := by
  cases n
  · by_cases h1 : h = 0
    · by_cases h2 : l = 0
      · exact .inr (.inr (.inr ⟨rfl, h1, h2⟩))
      · exact .inr (.inr (.inl ⟨rfl, h1, beq_eq_false_iff_ne.2 h2⟩))
    · exact .inr (.inl ⟨rfl, beq_eq_false_iff_ne.2 h1⟩)
  · exact .inl rfl
theorem same_like {bs : List Nat} {n : Bool} {h l z : Int} (i : IsD n h l z) : (pP bs == n && decide (pM bs = z.natAbs)) = decide (n = pP bs ∧ h = mh (pM bs) ∧ l = ml (pM bs)) := by
  obtain ⟨⟨h1, h2⟩, ⟨h3, h4⟩, h5, h6, h7⟩ := i
  rw [Bool.eq_iff_iff, Bool.and_eq_true, beq_iff_eq, decide_eq_true_eq, decide_eq_true_eq]
  unfold mh ml
  constructor
  · rintro ⟨e1, e2⟩
    refine ⟨e1.symm, ?_, ?_⟩ <;> omega
  · rintro ⟨e1, e2, e3⟩
    exact ⟨e1.symm, by omega⟩
set_option maxRecDepth 100000 in
set_option maxHeartbeats 800000 in
theorem rcgood_bad {k : Int} {S : ByteArray} {n : Bool} {h l : Int} (w : World) (wh : Wd h) (wl : Wd l) (hg : goodB n h l = false) :
    Calls Try.prog 37 #[.agg #[.int .i64 k, .string S, .bool n, .int .u64 h, .int .u64 l]] w fun e w' => e = .returned (.bool false) ∧ Below w.heap.size w w' := by
  have RG := Lib.hid (fun W => rgood_i n h l wh wl hg W)
  clear wh wl hg
  go_enter Try.func37, Try.ntmps37
  go_wp2_with (go_at_call 15; (with_reducible refine (RG.out _).mono ?_); rintro e w1 ⟨rfl, b1⟩; have z1 := Below.size b1; (try simp at z1))
  go_ret
  exact ⟨by simp, by (repeat' (first | (with_reducible exact Below.refl _ _) | (refine Below.trans ?_ (Below.mono (by with_reducible assumption) ?_)) | (with_reducible exact Below.refl _ _) | (with_reducible refine below_drewN ?_ _) | (with_reducible refine Below.drew ?_) | (with_reducible refine Below.setCell ?_ ?_ _) | (with_reducible refine Below.alloc ?_ ?_ _) | (with_reducible assumption) | (simp; done) | (simp; omega) | omega))⟩
set_option maxRecDepth 100000 in
set_option maxHeartbeats 1600000 in
theorem rcgood_small {k : Int} {S : ByteArray} {n : Bool} {h l : Int} (w : World) (wh : Wd h) (wl : Wd l) (hg : goodB n h l = true) (b : Bool)
    (hk : (k = 0 ∧ b = (S.toList.isEmpty && (!n && (decide (h = 0) && decide (l = 0))))) ∨ (k = 1 ∧ b = S.toList.isEmpty) ∨ (k = 2 ∧ b = (!n && (decide (h = 0) && decide (l = 0)))) ∨ (((k == 0) = false ∧ (k == 1) = false ∧ (k == 2) = false ∧ (k == 3) = false) ∧ b = false)) :
    Calls Try.prog 37 #[.agg #[.int .i64 k, .string S, .bool n, .int .u64 h, .int .u64 l]] w fun e w' => e = .returned (.bool b) ∧ Below w.heap.size w w' := by
  have RG := Lib.hid (fun W => rgood_i n h l wh wl hg W)
  clear wh wl hg
  have HA := Lib.hid (Box5.make w (.int .i64 k) (.string S) (.bool n) (.int .u64 h) (.int .u64 l) 41 rfl)
  rcases hk with ⟨rfl, hb⟩ | ⟨rfl, hb⟩ | ⟨rfl, hb⟩ | ⟨⟨h0, h1, h2, h3⟩, hb⟩
  all_goals
    have HB := Lib.hid hb
    clear hb
    go_enter Try.func37, Try.ntmps37
    go_wp2_with (go_at_call 15; refine (RG.out _).mono ?_; rintro e w2 ⟨rfl, q2⟩; have b5a_2 := Lib.hid (HA.out.below q2); have b5a_20 := b5a_2.out.c0; have b5a_21 := b5a_2.out.c1; have b5a_22 := b5a_2.out.c2; have b5a_23 := b5a_2.out.c3; have b5a_24 := b5a_2.out.c4; have b5a_2f0 := b5a_2.out.f0; have b5a_2f1 := b5a_2.out.f1; have b5a_2f2 := b5a_2.out.f2; have b5a_2f3 := b5a_2.out.f3; have b5a_2f4 := b5a_2.out.f4; have b5a_2z := b5a_2.out.z)
    all_goals
      go_ret
      exact ⟨by simp [HB.out, *], by (repeat' (first | (with_reducible exact Below.refl _ _) | (refine Below.trans ?_ (Below.mono (by with_reducible assumption) ?_)) | (with_reducible exact Below.refl _ _) | (with_reducible refine below_drewN ?_ _) | (with_reducible refine Below.drew ?_) | (with_reducible refine Below.setCell ?_ ?_ _) | (with_reducible refine Below.alloc ?_ ?_ _) | (with_reducible assumption) | (simp; done) | (simp; omega) | omega))⟩
set_option maxRecDepth 100000 in
set_option maxHeartbeats 1600000 in
theorem rcgood_nolike {S : ByteArray} {n : Bool} {h l : Int} (w : World) (wh : Wd h) (wl : Wd l) (hg : goodB n h l = true)
    (RL0 : ∀ W, Calls Try.prog 60 #[.string S] W fun e w' => e = .returned (.bool false) ∧ Below W.heap.size W w') :
    Calls Try.prog 37 #[.agg #[.int .i64 3, .string S, .bool n, .int .u64 h, .int .u64 l]] w fun e w' => e = .returned (.bool false) ∧ Below w.heap.size w w' := by
  have RG := Lib.hid (fun W => rgood_i n h l wh wl hg W)
  have RL := Lib.hid RL0
  have HA := Lib.hid (Box5.make w (.int .i64 3) (.string S) (.bool n) (.int .u64 h) (.int .u64 l) 41 rfl)
  clear wh wl hg RL0
  have hz : (n = true) ∨ (n = false ∧ (h == 0) = false) ∨ (n = false ∧ h = 0 ∧ (l == 0) = false) ∨ (n = false ∧ h = 0 ∧ l = 0) := zero_cases n h l
  rcases hz with rfl | ⟨rfl, e1⟩ | ⟨rfl, rfl, e1⟩ | ⟨rfl, rfl, rfl⟩
  · go_enter Try.func37, Try.ntmps37
    go_upto_region 12 with (go_at_call 15; refine (RG.out _).mono ?_; rintro e w2 ⟨rfl, q2⟩; have b5a_2 := Lib.hid (HA.out.below q2); have b5a_20 := b5a_2.out.c0; have b5a_21 := b5a_2.out.c1; have b5a_22 := b5a_2.out.c2; have b5a_23 := b5a_2.out.c3; have b5a_24 := b5a_2.out.c4; have b5a_2f0 := b5a_2.out.f0; have b5a_2f1 := b5a_2.out.f1; have b5a_2f2 := b5a_2.out.f2; have b5a_2f3 := b5a_2.out.f3; have b5a_2f4 := b5a_2.out.f4; have b5a_2z := b5a_2.out.z)
    have HB2 := Lib.hid (show Below w.heap.size w w2 by (repeat' (first | (with_reducible exact Below.refl _ _) | (refine Below.trans ?_ (Below.mono (by with_reducible assumption) ?_)) | (with_reducible exact Below.refl _ _) | (with_reducible refine below_drewN ?_ _) | (with_reducible refine Below.drew ?_) | (with_reducible refine Below.setCell ?_ ?_ _) | (with_reducible refine Below.alloc ?_ ?_ _) | (with_reducible assumption) | (simp; done) | (simp; omega) | omega)))
    clear HA
    refine wp_region_held_drew (S := (fun w' => w'.cell? ⟨w.heap.size, 0, none⟩ = some (.int .i64 3) ∧ w'.cell? ⟨w.heap.size, 1, none⟩ = some (.string S) ∧ w'.cell? ⟨w.heap.size, 2, none⟩ = some (.bool true) ∧ w'.cell? ⟨w.heap.size, 3, none⟩ = some (.int .u64 h) ∧ w'.cell? ⟨w.heap.size, 4, none⟩ = some (.int .u64 l))) (by kernel_rfl) ?_ (fun hHeld => ?_)
    · (try dsimp only)
      ((and_intros <;> (first | (with_reducible assumption) | (go_simp; done) | (simp (maxDischargeDepth := 12) [go_sem]; done) | (simp (maxDischargeDepth := 12) [go_sem, *]; done) | exact (Below.cell (by with_reducible assumption) (by first | (simp; done) | (simp; omega) | omega)).trans (by simp (maxDischargeDepth := 12) [go_sem]))))
    refine h4_take (i := 0) (v := ?v0) rfl (by kernel_rfl) (by kernel_rfl) (by kernel_rfl) (fun _ _ _ h => h) (by rfl) ?y0 hHeld ?r0
    case y0 => (intro wS hSw; (try dsimp only at hSw); go_simp; (try with_reducible rfl))
    try simp only [Act.put, List.setIfInBounds_toArray, List.set_cons_zero, List.set_cons_succ]
    refine h4_take (i := 1) (v := ?v1) rfl (by kernel_rfl) (by kernel_rfl) (by kernel_rfl) (fun _ _ _ h => h) (by rfl) ?y1 hHeld ?r1
    case y1 => (intro wS hSw; (try dsimp only at hSw); go_simp; (try with_reducible rfl))
    try simp only [Act.put, List.setIfInBounds_toArray, List.set_cons_zero, List.set_cons_succ]
    refine wpAnyH_ready (rs := [2]) (by kernel_rfl) (by simp) ?_
    refine (h4_cons rfl (fun K hK => ?_) AllReadyH.nil)
    go_simp
    ((go_at_call 60; (with_reducible refine (RL.out _).mono ?_); rintro e w3 ⟨rfl, b3⟩; have p3 : Below w2.heap.size w2 w3 := Below.trans (by repeat' (first | (with_reducible assumption) | (with_reducible exact Below.refl _ _) | (with_reducible refine Below.drew ?_) | (with_reducible refine below_drewN ?_ _) | (with_reducible refine Below.alloc ?_ ?_ _) | (with_reducible exact Nat.le_refl _) | (simp; done) | (simp; omega) | omega)) (Below.mono b3 (by first | omega | (simp; done) | (simp; omega))); have b5a_3 := Lib.hid (Box5.below b5a_2.out p3); have b5a_30 := b5a_3.out.c0; have b5a_31 := b5a_3.out.c1; have b5a_32 := b5a_3.out.c2; have b5a_33 := b5a_3.out.c3; have b5a_34 := b5a_3.out.c4; have b5a_3f0 := b5a_3.out.f0; have b5a_3f1 := b5a_3.out.f1; have b5a_3f2 := b5a_3.out.f2; have b5a_3f3 := b5a_3.out.f3; have b5a_3f4 := b5a_3.out.f4; have b5a_3z := b5a_3.out.z))
    (try go_wp2_with fail)
    refine hK.out _ _ ?_ (fun hHeld3 => ?_)
    · (try dsimp only)
      ((and_intros <;> (first | (with_reducible assumption) | (go_simp; done) | (simp (maxDischargeDepth := 12) [go_sem]; done) | (simp (maxDischargeDepth := 12) [go_sem, *]; done) | exact (Below.cell (by with_reducible assumption) (by first | (simp; done) | (simp; omega) | omega)).trans (by simp (maxDischargeDepth := 12) [go_sem]))))
    clear hK K hHeld
    try simp only [Act.put, List.setIfInBounds_toArray, List.set_cons_zero, List.set_cons_succ]
    refine h4_take (i := 3) (v := ?v3) rfl (by kernel_rfl) (by kernel_rfl) (by kernel_rfl) (fun _ _ _ h => h) (by rfl) ?y3 hHeld3 ?r3
    case y3 => (intro wS hSw; (try dsimp only at hSw); go_simp; (try with_reducible rfl))
    try simp only [Act.put, List.setIfInBounds_toArray, List.set_cons_zero, List.set_cons_succ]
    refine h4_skip (i := 4) rfl (by kernel_rfl) (by kernel_rfl) (by kernel_rfl) (fun _ _ _ h => h) (by rfl) hHeld3 ?_
    try simp only [Act.put, List.setIfInBounds_toArray, List.set_cons_zero, List.set_cons_succ]
    refine h4_skip (i := 5) rfl (by kernel_rfl) (by kernel_rfl) (by kernel_rfl) (fun _ _ _ h => h) (by rfl) hHeld3 ?_
    try simp only [Act.put, List.setIfInBounds_toArray, List.set_cons_zero, List.set_cons_succ]
    refine h4_skip (i := 6) rfl (by kernel_rfl) (by kernel_rfl) (by kernel_rfl) (fun _ _ _ h => h) (by rfl) hHeld3 ?_
    try simp only [Act.put, List.setIfInBounds_toArray, List.set_cons_zero, List.set_cons_succ]
    refine h4_skip (i := 7) rfl (by kernel_rfl) (by kernel_rfl) (by kernel_rfl) (fun _ _ _ h => h) (by rfl) hHeld3 ?_
    try simp only [Act.put, List.setIfInBounds_toArray, List.set_cons_zero, List.set_cons_succ]
    refine h4_skip (i := 8) rfl (by kernel_rfl) (by kernel_rfl) (by kernel_rfl) (fun _ _ _ h => h) (by rfl) hHeld3 ?_
    try simp only [Act.put, List.setIfInBounds_toArray, List.set_cons_zero, List.set_cons_succ]
    refine h4_skip (i := 9) rfl (by kernel_rfl) (by kernel_rfl) (by kernel_rfl) (fun _ _ _ h => h) (by rfl) hHeld3 ?_
    try simp only [Act.put, List.setIfInBounds_toArray, List.set_cons_zero, List.set_cons_succ]
    refine h4_skip (i := 10) rfl (by kernel_rfl) (by kernel_rfl) (by kernel_rfl) (fun _ _ _ h => h) (by rfl) hHeld3 ?_
    try simp only [Act.put, List.setIfInBounds_toArray, List.set_cons_zero, List.set_cons_succ]
    refine h4_skip (i := 11) rfl (by kernel_rfl) (by kernel_rfl) (by kernel_rfl) (fun _ _ _ h => h) (by rfl) hHeld3 ?_
    try simp only [Act.put, List.setIfInBounds_toArray, List.set_cons_zero, List.set_cons_succ]
    refine h4_take (i := 12) (v := ?v4) rfl (by kernel_rfl) (by kernel_rfl) (by kernel_rfl) (fun _ _ _ h => h) (by rfl) ?y4 hHeld3 ?r4
    case y4 => (intro wS hSw; (try dsimp only at hSw); go_simp; (try with_reducible rfl))
    try simp only [Act.put, List.setIfInBounds_toArray, List.set_cons_zero, List.set_cons_succ]
    refine h4_take (i := 13) (v := ?v5) rfl (by kernel_rfl) (by kernel_rfl) (by kernel_rfl) (fun _ _ _ h => h) (by rfl) ?y5 hHeld3 ?r5
    case y5 => (intro wS hSw; (try dsimp only at hSw); go_simp; (try with_reducible rfl))
    try simp only [Act.put, List.setIfInBounds_toArray, List.set_cons_zero, List.set_cons_succ]
    refine wpAnyH_done (by kernel_rfl) ?_ _
    go_wp2_with fail
    go_ret
    exact ⟨by simp, by refine (below_step HB2.out p3).trans ?_; (repeat' (first | (with_reducible exact Below.refl _ _) | (refine Below.trans ?_ (Below.mono (by with_reducible assumption) ?_)) | (with_reducible exact Below.refl _ _) | (with_reducible refine below_drewN ?_ _) | (with_reducible refine Below.drew ?_) | (with_reducible refine Below.setCell ?_ ?_ _) | (with_reducible refine Below.alloc ?_ ?_ _) | (with_reducible assumption) | (simp; done) | (simp; omega) | omega))⟩
  · go_enter Try.func37, Try.ntmps37
    go_upto_region 12 with (go_at_call 15; refine (RG.out _).mono ?_; rintro e w2 ⟨rfl, q2⟩; have b5a_2 := Lib.hid (HA.out.below q2); have b5a_20 := b5a_2.out.c0; have b5a_21 := b5a_2.out.c1; have b5a_22 := b5a_2.out.c2; have b5a_23 := b5a_2.out.c3; have b5a_24 := b5a_2.out.c4; have b5a_2f0 := b5a_2.out.f0; have b5a_2f1 := b5a_2.out.f1; have b5a_2f2 := b5a_2.out.f2; have b5a_2f3 := b5a_2.out.f3; have b5a_2f4 := b5a_2.out.f4; have b5a_2z := b5a_2.out.z)
    have HB2 := Lib.hid (show Below w.heap.size w w2 by (repeat' (first | (with_reducible exact Below.refl _ _) | (refine Below.trans ?_ (Below.mono (by with_reducible assumption) ?_)) | (with_reducible exact Below.refl _ _) | (with_reducible refine below_drewN ?_ _) | (with_reducible refine Below.drew ?_) | (with_reducible refine Below.setCell ?_ ?_ _) | (with_reducible refine Below.alloc ?_ ?_ _) | (with_reducible assumption) | (simp; done) | (simp; omega) | omega)))
    clear HA
    refine wp_region_held_drew (S := (fun w' => w'.cell? ⟨w.heap.size, 0, none⟩ = some (.int .i64 3) ∧ w'.cell? ⟨w.heap.size, 1, none⟩ = some (.string S) ∧ w'.cell? ⟨w.heap.size, 2, none⟩ = some (.bool false) ∧ w'.cell? ⟨w.heap.size, 3, none⟩ = some (.int .u64 h) ∧ w'.cell? ⟨w.heap.size, 4, none⟩ = some (.int .u64 l))) (by kernel_rfl) ?_ (fun hHeld => ?_)
    · (try dsimp only)
      ((and_intros <;> (first | (with_reducible assumption) | (go_simp; done) | (simp (maxDischargeDepth := 12) [go_sem]; done) | (simp (maxDischargeDepth := 12) [go_sem, *]; done) | exact (Below.cell (by with_reducible assumption) (by first | (simp; done) | (simp; omega) | omega)).trans (by simp (maxDischargeDepth := 12) [go_sem]))))
    refine h4_take (i := 0) (v := ?v6) rfl (by kernel_rfl) (by kernel_rfl) (by kernel_rfl) (fun _ _ _ h => h) (by rfl) ?y6 hHeld ?r6
    case y6 => (intro wS hSw; (try dsimp only at hSw); go_simp; (try with_reducible rfl))
    try simp only [Act.put, List.setIfInBounds_toArray, List.set_cons_zero, List.set_cons_succ]
    refine h4_take (i := 1) (v := ?v7) rfl (by kernel_rfl) (by kernel_rfl) (by kernel_rfl) (fun _ _ _ h => h) (by rfl) ?y7 hHeld ?r7
    case y7 => (intro wS hSw; (try dsimp only at hSw); go_simp; (try with_reducible rfl))
    try simp only [Act.put, List.setIfInBounds_toArray, List.set_cons_zero, List.set_cons_succ]
    refine wpAnyH_ready (rs := [2]) (by kernel_rfl) (by simp) ?_
    refine (h4_cons rfl (fun K hK => ?_) AllReadyH.nil)
    go_simp
    ((go_at_call 60; (with_reducible refine (RL.out _).mono ?_); rintro e w3 ⟨rfl, b3⟩; have p3 : Below w2.heap.size w2 w3 := Below.trans (by repeat' (first | (with_reducible assumption) | (with_reducible exact Below.refl _ _) | (with_reducible refine Below.drew ?_) | (with_reducible refine below_drewN ?_ _) | (with_reducible refine Below.alloc ?_ ?_ _) | (with_reducible exact Nat.le_refl _) | (simp; done) | (simp; omega) | omega)) (Below.mono b3 (by first | omega | (simp; done) | (simp; omega))); have b5a_3 := Lib.hid (Box5.below b5a_2.out p3); have b5a_30 := b5a_3.out.c0; have b5a_31 := b5a_3.out.c1; have b5a_32 := b5a_3.out.c2; have b5a_33 := b5a_3.out.c3; have b5a_34 := b5a_3.out.c4; have b5a_3f0 := b5a_3.out.f0; have b5a_3f1 := b5a_3.out.f1; have b5a_3f2 := b5a_3.out.f2; have b5a_3f3 := b5a_3.out.f3; have b5a_3f4 := b5a_3.out.f4; have b5a_3z := b5a_3.out.z))
    (try go_wp2_with fail)
    refine hK.out _ _ ?_ (fun hHeld9 => ?_)
    · (try dsimp only)
      ((and_intros <;> (first | (with_reducible assumption) | (go_simp; done) | (simp (maxDischargeDepth := 12) [go_sem]; done) | (simp (maxDischargeDepth := 12) [go_sem, *]; done) | exact (Below.cell (by with_reducible assumption) (by first | (simp; done) | (simp; omega) | omega)).trans (by simp (maxDischargeDepth := 12) [go_sem]))))
    clear hK K hHeld
    try simp only [Act.put, List.setIfInBounds_toArray, List.set_cons_zero, List.set_cons_succ]
    refine h4_take (i := 3) (v := ?v9) rfl (by kernel_rfl) (by kernel_rfl) (by kernel_rfl) (fun _ _ _ h => h) (by rfl) ?y9 hHeld9 ?r9
    case y9 => (intro wS hSw; (try dsimp only at hSw); go_simp; (try with_reducible rfl))
    try simp only [Act.put, List.setIfInBounds_toArray, List.set_cons_zero, List.set_cons_succ]
    refine h4_skip (i := 4) rfl (by kernel_rfl) (by kernel_rfl) (by kernel_rfl) (fun _ _ _ h => h) (by rfl) hHeld9 ?_
    try simp only [Act.put, List.setIfInBounds_toArray, List.set_cons_zero, List.set_cons_succ]
    refine h4_skip (i := 5) rfl (by kernel_rfl) (by kernel_rfl) (by kernel_rfl) (fun _ _ _ h => h) (by rfl) hHeld9 ?_
    try simp only [Act.put, List.setIfInBounds_toArray, List.set_cons_zero, List.set_cons_succ]
    refine h4_skip (i := 6) rfl (by kernel_rfl) (by kernel_rfl) (by kernel_rfl) (fun _ _ _ h => h) (by rfl) hHeld9 ?_
    try simp only [Act.put, List.setIfInBounds_toArray, List.set_cons_zero, List.set_cons_succ]
    refine h4_skip (i := 7) rfl (by kernel_rfl) (by kernel_rfl) (by kernel_rfl) (fun _ _ _ h => h) (by rfl) hHeld9 ?_
    try simp only [Act.put, List.setIfInBounds_toArray, List.set_cons_zero, List.set_cons_succ]
    refine h4_skip (i := 8) rfl (by kernel_rfl) (by kernel_rfl) (by kernel_rfl) (fun _ _ _ h => h) (by rfl) hHeld9 ?_
    try simp only [Act.put, List.setIfInBounds_toArray, List.set_cons_zero, List.set_cons_succ]
    refine h4_skip (i := 9) rfl (by kernel_rfl) (by kernel_rfl) (by kernel_rfl) (fun _ _ _ h => h) (by rfl) hHeld9 ?_
    try simp only [Act.put, List.setIfInBounds_toArray, List.set_cons_zero, List.set_cons_succ]
    refine h4_skip (i := 10) rfl (by kernel_rfl) (by kernel_rfl) (by kernel_rfl) (fun _ _ _ h => h) (by rfl) hHeld9 ?_
    try simp only [Act.put, List.setIfInBounds_toArray, List.set_cons_zero, List.set_cons_succ]
    refine h4_skip (i := 11) rfl (by kernel_rfl) (by kernel_rfl) (by kernel_rfl) (fun _ _ _ h => h) (by rfl) hHeld9 ?_
    try simp only [Act.put, List.setIfInBounds_toArray, List.set_cons_zero, List.set_cons_succ]
    refine h4_take (i := 12) (v := ?v10) rfl (by kernel_rfl) (by kernel_rfl) (by kernel_rfl) (fun _ _ _ h => h) (by rfl) ?y10 hHeld9 ?r10
    case y10 => (intro wS hSw; (try dsimp only at hSw); go_simp; (try with_reducible rfl))
    try simp only [Act.put, List.setIfInBounds_toArray, List.set_cons_zero, List.set_cons_succ]
    refine h4_take (i := 13) (v := ?v11) rfl (by kernel_rfl) (by kernel_rfl) (by kernel_rfl) (fun _ _ _ h => h) (by rfl) ?y11 hHeld9 ?r11
    case y11 => (intro wS hSw; (try dsimp only at hSw); go_simp; (try with_reducible rfl))
    try simp only [Act.put, List.setIfInBounds_toArray, List.set_cons_zero, List.set_cons_succ]
    refine wpAnyH_done (by kernel_rfl) ?_ _
    go_wp2_with fail
    go_ret
    exact ⟨by simp, by refine (below_step HB2.out p3).trans ?_; (repeat' (first | (with_reducible exact Below.refl _ _) | (refine Below.trans ?_ (Below.mono (by with_reducible assumption) ?_)) | (with_reducible exact Below.refl _ _) | (with_reducible refine below_drewN ?_ _) | (with_reducible refine Below.drew ?_) | (with_reducible refine Below.setCell ?_ ?_ _) | (with_reducible refine Below.alloc ?_ ?_ _) | (with_reducible assumption) | (simp; done) | (simp; omega) | omega))⟩
  · go_enter Try.func37, Try.ntmps37
    go_upto_region 12 with (go_at_call 15; refine (RG.out _).mono ?_; rintro e w2 ⟨rfl, q2⟩; have b5a_2 := Lib.hid (HA.out.below q2); have b5a_20 := b5a_2.out.c0; have b5a_21 := b5a_2.out.c1; have b5a_22 := b5a_2.out.c2; have b5a_23 := b5a_2.out.c3; have b5a_24 := b5a_2.out.c4; have b5a_2f0 := b5a_2.out.f0; have b5a_2f1 := b5a_2.out.f1; have b5a_2f2 := b5a_2.out.f2; have b5a_2f3 := b5a_2.out.f3; have b5a_2f4 := b5a_2.out.f4; have b5a_2z := b5a_2.out.z)
    have HB2 := Lib.hid (show Below w.heap.size w w2 by (repeat' (first | (with_reducible exact Below.refl _ _) | (refine Below.trans ?_ (Below.mono (by with_reducible assumption) ?_)) | (with_reducible exact Below.refl _ _) | (with_reducible refine below_drewN ?_ _) | (with_reducible refine Below.drew ?_) | (with_reducible refine Below.setCell ?_ ?_ _) | (with_reducible refine Below.alloc ?_ ?_ _) | (with_reducible assumption) | (simp; done) | (simp; omega) | omega)))
    clear HA
    refine wp_region_held_drew (S := (fun w' => w'.cell? ⟨w.heap.size, 0, none⟩ = some (.int .i64 3) ∧ w'.cell? ⟨w.heap.size, 1, none⟩ = some (.string S) ∧ w'.cell? ⟨w.heap.size, 2, none⟩ = some (.bool false) ∧ w'.cell? ⟨w.heap.size, 3, none⟩ = some (.int .u64 0) ∧ w'.cell? ⟨w.heap.size, 4, none⟩ = some (.int .u64 l))) (by kernel_rfl) ?_ (fun hHeld => ?_)
    · (try dsimp only)
      ((and_intros <;> (first | (with_reducible assumption) | (go_simp; done) | (simp (maxDischargeDepth := 12) [go_sem]; done) | (simp (maxDischargeDepth := 12) [go_sem, *]; done) | exact (Below.cell (by with_reducible assumption) (by first | (simp; done) | (simp; omega) | omega)).trans (by simp (maxDischargeDepth := 12) [go_sem]))))
    refine h4_take (i := 0) (v := ?v12) rfl (by kernel_rfl) (by kernel_rfl) (by kernel_rfl) (fun _ _ _ h => h) (by rfl) ?y12 hHeld ?r12
    case y12 => (intro wS hSw; (try dsimp only at hSw); go_simp; (try with_reducible rfl))
    try simp only [Act.put, List.setIfInBounds_toArray, List.set_cons_zero, List.set_cons_succ]
    refine h4_take (i := 1) (v := ?v13) rfl (by kernel_rfl) (by kernel_rfl) (by kernel_rfl) (fun _ _ _ h => h) (by rfl) ?y13 hHeld ?r13
    case y13 => (intro wS hSw; (try dsimp only at hSw); go_simp; (try with_reducible rfl))
    try simp only [Act.put, List.setIfInBounds_toArray, List.set_cons_zero, List.set_cons_succ]
    refine wpAnyH_ready (rs := [2]) (by kernel_rfl) (by simp) ?_
    refine (h4_cons rfl (fun K hK => ?_) AllReadyH.nil)
    go_simp
    ((go_at_call 60; (with_reducible refine (RL.out _).mono ?_); rintro e w3 ⟨rfl, b3⟩; have p3 : Below w2.heap.size w2 w3 := Below.trans (by repeat' (first | (with_reducible assumption) | (with_reducible exact Below.refl _ _) | (with_reducible refine Below.drew ?_) | (with_reducible refine below_drewN ?_ _) | (with_reducible refine Below.alloc ?_ ?_ _) | (with_reducible exact Nat.le_refl _) | (simp; done) | (simp; omega) | omega)) (Below.mono b3 (by first | omega | (simp; done) | (simp; omega))); have b5a_3 := Lib.hid (Box5.below b5a_2.out p3); have b5a_30 := b5a_3.out.c0; have b5a_31 := b5a_3.out.c1; have b5a_32 := b5a_3.out.c2; have b5a_33 := b5a_3.out.c3; have b5a_34 := b5a_3.out.c4; have b5a_3f0 := b5a_3.out.f0; have b5a_3f1 := b5a_3.out.f1; have b5a_3f2 := b5a_3.out.f2; have b5a_3f3 := b5a_3.out.f3; have b5a_3f4 := b5a_3.out.f4; have b5a_3z := b5a_3.out.z))
    (try go_wp2_with fail)
    refine hK.out _ _ ?_ (fun hHeld15 => ?_)
    · (try dsimp only)
      ((and_intros <;> (first | (with_reducible assumption) | (go_simp; done) | (simp (maxDischargeDepth := 12) [go_sem]; done) | (simp (maxDischargeDepth := 12) [go_sem, *]; done) | exact (Below.cell (by with_reducible assumption) (by first | (simp; done) | (simp; omega) | omega)).trans (by simp (maxDischargeDepth := 12) [go_sem]))))
    clear hK K hHeld
    try simp only [Act.put, List.setIfInBounds_toArray, List.set_cons_zero, List.set_cons_succ]
    refine h4_take (i := 3) (v := ?v15) rfl (by kernel_rfl) (by kernel_rfl) (by kernel_rfl) (fun _ _ _ h => h) (by rfl) ?y15 hHeld15 ?r15
    case y15 => (intro wS hSw; (try dsimp only at hSw); go_simp; (try with_reducible rfl))
    try simp only [Act.put, List.setIfInBounds_toArray, List.set_cons_zero, List.set_cons_succ]
    refine h4_skip (i := 4) rfl (by kernel_rfl) (by kernel_rfl) (by kernel_rfl) (fun _ _ _ h => h) (by rfl) hHeld15 ?_
    try simp only [Act.put, List.setIfInBounds_toArray, List.set_cons_zero, List.set_cons_succ]
    refine h4_skip (i := 5) rfl (by kernel_rfl) (by kernel_rfl) (by kernel_rfl) (fun _ _ _ h => h) (by rfl) hHeld15 ?_
    try simp only [Act.put, List.setIfInBounds_toArray, List.set_cons_zero, List.set_cons_succ]
    refine h4_skip (i := 6) rfl (by kernel_rfl) (by kernel_rfl) (by kernel_rfl) (fun _ _ _ h => h) (by rfl) hHeld15 ?_
    try simp only [Act.put, List.setIfInBounds_toArray, List.set_cons_zero, List.set_cons_succ]
    refine h4_skip (i := 7) rfl (by kernel_rfl) (by kernel_rfl) (by kernel_rfl) (fun _ _ _ h => h) (by rfl) hHeld15 ?_
    try simp only [Act.put, List.setIfInBounds_toArray, List.set_cons_zero, List.set_cons_succ]
    refine h4_skip (i := 8) rfl (by kernel_rfl) (by kernel_rfl) (by kernel_rfl) (fun _ _ _ h => h) (by rfl) hHeld15 ?_
    try simp only [Act.put, List.setIfInBounds_toArray, List.set_cons_zero, List.set_cons_succ]
    refine h4_skip (i := 9) rfl (by kernel_rfl) (by kernel_rfl) (by kernel_rfl) (fun _ _ _ h => h) (by rfl) hHeld15 ?_
    try simp only [Act.put, List.setIfInBounds_toArray, List.set_cons_zero, List.set_cons_succ]
    refine h4_skip (i := 10) rfl (by kernel_rfl) (by kernel_rfl) (by kernel_rfl) (fun _ _ _ h => h) (by rfl) hHeld15 ?_
    try simp only [Act.put, List.setIfInBounds_toArray, List.set_cons_zero, List.set_cons_succ]
    refine h4_skip (i := 11) rfl (by kernel_rfl) (by kernel_rfl) (by kernel_rfl) (fun _ _ _ h => h) (by rfl) hHeld15 ?_
    try simp only [Act.put, List.setIfInBounds_toArray, List.set_cons_zero, List.set_cons_succ]
    refine h4_take (i := 12) (v := ?v16) rfl (by kernel_rfl) (by kernel_rfl) (by kernel_rfl) (fun _ _ _ h => h) (by rfl) ?y16 hHeld15 ?r16
    case y16 => (intro wS hSw; (try dsimp only at hSw); go_simp; (try with_reducible rfl))
    try simp only [Act.put, List.setIfInBounds_toArray, List.set_cons_zero, List.set_cons_succ]
    refine h4_take (i := 13) (v := ?v17) rfl (by kernel_rfl) (by kernel_rfl) (by kernel_rfl) (fun _ _ _ h => h) (by rfl) ?y17 hHeld15 ?r17
    case y17 => (intro wS hSw; (try dsimp only at hSw); go_simp; (try with_reducible rfl))
    try simp only [Act.put, List.setIfInBounds_toArray, List.set_cons_zero, List.set_cons_succ]
    refine wpAnyH_done (by kernel_rfl) ?_ _
    go_wp2_with fail
    go_ret
    exact ⟨by simp, by refine (below_step HB2.out p3).trans ?_; (repeat' (first | (with_reducible exact Below.refl _ _) | (refine Below.trans ?_ (Below.mono (by with_reducible assumption) ?_)) | (with_reducible exact Below.refl _ _) | (with_reducible refine below_drewN ?_ _) | (with_reducible refine Below.drew ?_) | (with_reducible refine Below.setCell ?_ ?_ _) | (with_reducible refine Below.alloc ?_ ?_ _) | (with_reducible assumption) | (simp; done) | (simp; omega) | omega))⟩
  · go_enter Try.func37, Try.ntmps37
    go_upto_region 12 with (go_at_call 15; refine (RG.out _).mono ?_; rintro e w2 ⟨rfl, q2⟩; have b5a_2 := Lib.hid (HA.out.below q2); have b5a_20 := b5a_2.out.c0; have b5a_21 := b5a_2.out.c1; have b5a_22 := b5a_2.out.c2; have b5a_23 := b5a_2.out.c3; have b5a_24 := b5a_2.out.c4; have b5a_2f0 := b5a_2.out.f0; have b5a_2f1 := b5a_2.out.f1; have b5a_2f2 := b5a_2.out.f2; have b5a_2f3 := b5a_2.out.f3; have b5a_2f4 := b5a_2.out.f4; have b5a_2z := b5a_2.out.z)
    have HB2 := Lib.hid (show Below w.heap.size w w2 by (repeat' (first | (with_reducible exact Below.refl _ _) | (refine Below.trans ?_ (Below.mono (by with_reducible assumption) ?_)) | (with_reducible exact Below.refl _ _) | (with_reducible refine below_drewN ?_ _) | (with_reducible refine Below.drew ?_) | (with_reducible refine Below.setCell ?_ ?_ _) | (with_reducible refine Below.alloc ?_ ?_ _) | (with_reducible assumption) | (simp; done) | (simp; omega) | omega)))
    clear HA
    refine wp_region_held_drew (S := (fun w' => w'.cell? ⟨w.heap.size, 0, none⟩ = some (.int .i64 3) ∧ w'.cell? ⟨w.heap.size, 1, none⟩ = some (.string S) ∧ w'.cell? ⟨w.heap.size, 2, none⟩ = some (.bool false) ∧ w'.cell? ⟨w.heap.size, 3, none⟩ = some (.int .u64 0) ∧ w'.cell? ⟨w.heap.size, 4, none⟩ = some (.int .u64 0))) (by kernel_rfl) ?_ (fun hHeld => ?_)
    · (try dsimp only)
      ((and_intros <;> (first | (with_reducible assumption) | (go_simp; done) | (simp (maxDischargeDepth := 12) [go_sem]; done) | (simp (maxDischargeDepth := 12) [go_sem, *]; done) | exact (Below.cell (by with_reducible assumption) (by first | (simp; done) | (simp; omega) | omega)).trans (by simp (maxDischargeDepth := 12) [go_sem]))))
    refine h4_take (i := 0) (v := ?v18) rfl (by kernel_rfl) (by kernel_rfl) (by kernel_rfl) (fun _ _ _ h => h) (by rfl) ?y18 hHeld ?r18
    case y18 => (intro wS hSw; (try dsimp only at hSw); go_simp; (try with_reducible rfl))
    try simp only [Act.put, List.setIfInBounds_toArray, List.set_cons_zero, List.set_cons_succ]
    refine h4_take (i := 1) (v := ?v19) rfl (by kernel_rfl) (by kernel_rfl) (by kernel_rfl) (fun _ _ _ h => h) (by rfl) ?y19 hHeld ?r19
    case y19 => (intro wS hSw; (try dsimp only at hSw); go_simp; (try with_reducible rfl))
    try simp only [Act.put, List.setIfInBounds_toArray, List.set_cons_zero, List.set_cons_succ]
    refine wpAnyH_ready (rs := [2]) (by kernel_rfl) (by simp) ?_
    refine (h4_cons rfl (fun K hK => ?_) AllReadyH.nil)
    go_simp
    ((go_at_call 60; (with_reducible refine (RL.out _).mono ?_); rintro e w3 ⟨rfl, b3⟩; have p3 : Below w2.heap.size w2 w3 := Below.trans (by repeat' (first | (with_reducible assumption) | (with_reducible exact Below.refl _ _) | (with_reducible refine Below.drew ?_) | (with_reducible refine below_drewN ?_ _) | (with_reducible refine Below.alloc ?_ ?_ _) | (with_reducible exact Nat.le_refl _) | (simp; done) | (simp; omega) | omega)) (Below.mono b3 (by first | omega | (simp; done) | (simp; omega))); have b5a_3 := Lib.hid (Box5.below b5a_2.out p3); have b5a_30 := b5a_3.out.c0; have b5a_31 := b5a_3.out.c1; have b5a_32 := b5a_3.out.c2; have b5a_33 := b5a_3.out.c3; have b5a_34 := b5a_3.out.c4; have b5a_3f0 := b5a_3.out.f0; have b5a_3f1 := b5a_3.out.f1; have b5a_3f2 := b5a_3.out.f2; have b5a_3f3 := b5a_3.out.f3; have b5a_3f4 := b5a_3.out.f4; have b5a_3z := b5a_3.out.z))
    (try go_wp2_with fail)
    refine hK.out _ _ ?_ (fun hHeld21 => ?_)
    · (try dsimp only)
      ((and_intros <;> (first | (with_reducible assumption) | (go_simp; done) | (simp (maxDischargeDepth := 12) [go_sem]; done) | (simp (maxDischargeDepth := 12) [go_sem, *]; done) | exact (Below.cell (by with_reducible assumption) (by first | (simp; done) | (simp; omega) | omega)).trans (by simp (maxDischargeDepth := 12) [go_sem]))))
    clear hK K hHeld
    try simp only [Act.put, List.setIfInBounds_toArray, List.set_cons_zero, List.set_cons_succ]
    refine h4_take (i := 3) (v := ?v21) rfl (by kernel_rfl) (by kernel_rfl) (by kernel_rfl) (fun _ _ _ h => h) (by rfl) ?y21 hHeld21 ?r21
    case y21 => (intro wS hSw; (try dsimp only at hSw); go_simp; (try with_reducible rfl))
    try simp only [Act.put, List.setIfInBounds_toArray, List.set_cons_zero, List.set_cons_succ]
    refine h4_skip (i := 4) rfl (by kernel_rfl) (by kernel_rfl) (by kernel_rfl) (fun _ _ _ h => h) (by rfl) hHeld21 ?_
    try simp only [Act.put, List.setIfInBounds_toArray, List.set_cons_zero, List.set_cons_succ]
    refine h4_skip (i := 5) rfl (by kernel_rfl) (by kernel_rfl) (by kernel_rfl) (fun _ _ _ h => h) (by rfl) hHeld21 ?_
    try simp only [Act.put, List.setIfInBounds_toArray, List.set_cons_zero, List.set_cons_succ]
    refine h4_skip (i := 6) rfl (by kernel_rfl) (by kernel_rfl) (by kernel_rfl) (fun _ _ _ h => h) (by rfl) hHeld21 ?_
    try simp only [Act.put, List.setIfInBounds_toArray, List.set_cons_zero, List.set_cons_succ]
    refine h4_skip (i := 7) rfl (by kernel_rfl) (by kernel_rfl) (by kernel_rfl) (fun _ _ _ h => h) (by rfl) hHeld21 ?_
    try simp only [Act.put, List.setIfInBounds_toArray, List.set_cons_zero, List.set_cons_succ]
    refine h4_skip (i := 8) rfl (by kernel_rfl) (by kernel_rfl) (by kernel_rfl) (fun _ _ _ h => h) (by rfl) hHeld21 ?_
    try simp only [Act.put, List.setIfInBounds_toArray, List.set_cons_zero, List.set_cons_succ]
    refine h4_skip (i := 9) rfl (by kernel_rfl) (by kernel_rfl) (by kernel_rfl) (fun _ _ _ h => h) (by rfl) hHeld21 ?_
    try simp only [Act.put, List.setIfInBounds_toArray, List.set_cons_zero, List.set_cons_succ]
    refine h4_skip (i := 10) rfl (by kernel_rfl) (by kernel_rfl) (by kernel_rfl) (fun _ _ _ h => h) (by rfl) hHeld21 ?_
    try simp only [Act.put, List.setIfInBounds_toArray, List.set_cons_zero, List.set_cons_succ]
    refine h4_skip (i := 11) rfl (by kernel_rfl) (by kernel_rfl) (by kernel_rfl) (fun _ _ _ h => h) (by rfl) hHeld21 ?_
    try simp only [Act.put, List.setIfInBounds_toArray, List.set_cons_zero, List.set_cons_succ]
    refine h4_take (i := 12) (v := ?v22) rfl (by kernel_rfl) (by kernel_rfl) (by kernel_rfl) (fun _ _ _ h => h) (by rfl) ?y22 hHeld21 ?r22
    case y22 => (intro wS hSw; (try dsimp only at hSw); go_simp; (try with_reducible rfl))
    try simp only [Act.put, List.setIfInBounds_toArray, List.set_cons_zero, List.set_cons_succ]
    refine h4_take (i := 13) (v := ?v23) rfl (by kernel_rfl) (by kernel_rfl) (by kernel_rfl) (fun _ _ _ h => h) (by rfl) ?y23 hHeld21 ?r23
    case y23 => (intro wS hSw; (try dsimp only at hSw); go_simp; (try with_reducible rfl))
    try simp only [Act.put, List.setIfInBounds_toArray, List.set_cons_zero, List.set_cons_succ]
    refine wpAnyH_done (by kernel_rfl) ?_ _
    go_wp2_with fail
    go_ret
    exact ⟨by simp, by refine (below_step HB2.out p3).trans ?_; (repeat' (first | (with_reducible exact Below.refl _ _) | (refine Below.trans ?_ (Below.mono (by with_reducible assumption) ?_)) | (with_reducible exact Below.refl _ _) | (with_reducible refine below_drewN ?_ _) | (with_reducible refine Below.drew ?_) | (with_reducible refine Below.setCell ?_ ?_ _) | (with_reducible refine Below.alloc ?_ ?_ _) | (with_reducible assumption) | (simp; done) | (simp; omega) | omega))⟩
set_option maxRecDepth 100000 in
set_option maxHeartbeats 3200000 in
theorem rcgood_like {S : ByteArray} {n : Bool} {h l z : Int} {b pn : Bool} {M : Nat} {np pe : Int} (w : World) (ia : IsD n h l z) (hM : (dg M).length ≤ 1000)
    (hb : (pn == n && decide (M = z.natAbs)) = b)
    (RL0 : ∀ W, Calls Try.prog 60 #[.string S] W fun e w' => e = .returned (.bool true) ∧ Below W.heap.size W w')
    (PF0 : ∀ W, Calls Try.prog 69 #[.string S] W fun e w' => (∃ (A : Option Addr) (c : Nat), e = .returned (.agg #[.bool pn, .slice A (dg M).length c, .int .i64 np, .int .i64 pe]) ∧ RI w' w'.heap.size A (dg M) ∧ (dg M).length ≤ c) ∧ Below W.heap.size W w') :
    Calls Try.prog 37 #[.agg #[.int .i64 3, .string S, .bool n, .int .u64 h, .int .u64 l]] w fun e w' => e = .returned (.bool b) ∧ Below w.heap.size w w' := by
  have RG := Lib.hid (fun W => rgood_i n h l ia.1 ia.2.1 (good_of ia) W)
  have RL := Lib.hid RL0; have PF := Lib.hid PF0
  have OA := Lib.hid (fun W => of_ds ia W)
  have hK : (dg z.natAbs).length ≤ 1000 := Nat.le_trans (len36 ia.2.2.2.2) (by decide)
  have SM0 := fun (A A' : Option Addr) (c c' : Nat) (W1 W : World) (hr : RI W1 W1.heap.size A (dg M)) (hr' : RI W1 W1.heap.size A' (dg z.natAbs)) (q : Below W1.heap.size W1 W) => same_any pn n A A' c c' M z.natAbs W W1.heap.size q.size (hr.below q) (hr'.below q) (by omega) (by omega)
  rw [hb] at SM0
  have SM := Lib.hid SM0
  have HA := Lib.hid (Box5.make w (.int .i64 3) (.string S) (.bool n) (.int .u64 h) (.int .u64 l) 41 rfl)
  have hfX := field_gX
  obtain ⟨N, hN⟩ : ∃ N, N = z.natAbs := ⟨_, rfl⟩
  rw [← hN] at OA SM
  clear ia RL0 PF0 SM0 hK hM hb hN
  obtain ⟨LM, hLM⟩ : ∃ x, x = (dg M).length := ⟨_, rfl⟩
  obtain ⟨LN, hLN⟩ : ∃ x, x = (dg N).length := ⟨_, rfl⟩
  have PF1 : Hid (∀ W, Calls Try.prog 69 #[.string S] W fun e w' => (∃ (A : Option Addr) (c : Nat), e = .returned (.agg #[.bool pn, .slice A LM c, .int .i64 np, .int .i64 pe]) ∧ RI w' w'.heap.size A (dg M)) ∧ Below W.heap.size W w') := Lib.hid (fun W => (PF.out W).mono fun e w' ⟨⟨A, c, h1, h2, _⟩, h3⟩ => ⟨⟨A, c, by rw [hLM]; exact h1, h2⟩, h3⟩)
  have OA1 : Hid (∀ W, Calls Try.prog 18 #[.agg #[.bool n, .int .u64 h, .int .u64 l]] W fun e w' => (∃ A c, e = .returned (.agg #[.bool n, .slice A LN c]) ∧ RI w' w'.heap.size A (dg N)) ∧ Below W.heap.size W w') := Lib.hid (fun W => (OA.out W).mono fun e w' ⟨⟨A, c, h1, h2⟩, h3⟩ => ⟨⟨A, c, by rw [hLN]; exact h1, h2.1⟩, h3⟩)
  rw [← hLM, ← hLN] at SM
  clear PF OA hLM hLN
  have hz : (n = true) ∨ (n = false ∧ (h == 0) = false) ∨ (n = false ∧ h = 0 ∧ (l == 0) = false) ∨ (n = false ∧ h = 0 ∧ l = 0) := zero_cases n h l
  rcases hz with rfl | ⟨rfl, e1⟩ | ⟨rfl, rfl, e1⟩ | ⟨rfl, rfl, rfl⟩
  · go_enter Try.func37, Try.ntmps37
    go_upto_region 12 with (go_at_call 15; refine (RG.out _).mono ?_; rintro e w2 ⟨rfl, q2⟩; have b5a_2 := Lib.hid (HA.out.below q2); have b5a_20 := b5a_2.out.c0; have b5a_21 := b5a_2.out.c1; have b5a_22 := b5a_2.out.c2; have b5a_23 := b5a_2.out.c3; have b5a_24 := b5a_2.out.c4; have b5a_2f0 := b5a_2.out.f0; have b5a_2f1 := b5a_2.out.f1; have b5a_2f2 := b5a_2.out.f2; have b5a_2f3 := b5a_2.out.f3; have b5a_2f4 := b5a_2.out.f4; have b5a_2z := b5a_2.out.z)
    have HB2 := Lib.hid (show Below w.heap.size w w2 by (repeat' (first | (with_reducible exact Below.refl _ _) | (refine Below.trans ?_ (Below.mono (by with_reducible assumption) ?_)) | (with_reducible exact Below.refl _ _) | (with_reducible refine below_drewN ?_ _) | (with_reducible refine Below.drew ?_) | (with_reducible refine Below.setCell ?_ ?_ _) | (with_reducible refine Below.alloc ?_ ?_ _) | (with_reducible assumption) | (simp; done) | (simp; omega) | omega)))
    clear HA
    refine wp_region_held_drew (S := (fun w' => w'.cell? ⟨w.heap.size, 0, none⟩ = some (.int .i64 3) ∧ w'.cell? ⟨w.heap.size, 1, none⟩ = some (.string S) ∧ w'.cell? ⟨w.heap.size, 2, none⟩ = some (.bool true) ∧ w'.cell? ⟨w.heap.size, 3, none⟩ = some (.int .u64 h) ∧ w'.cell? ⟨w.heap.size, 4, none⟩ = some (.int .u64 l))) (by kernel_rfl) ?_ (fun hHeld => ?_)
    · (try dsimp only)
      ((and_intros <;> (first | (with_reducible assumption) | (go_simp; done) | (simp (maxDischargeDepth := 12) [go_sem]; done) | (simp (maxDischargeDepth := 12) [go_sem, *]; done) | exact (Below.cell (by with_reducible assumption) (by first | (simp; done) | (simp; omega) | omega)).trans (by simp (maxDischargeDepth := 12) [go_sem]))))
    refine h4_take (i := 0) (v := ?v24) rfl (by kernel_rfl) (by kernel_rfl) (by kernel_rfl) (fun _ _ _ h => h) (by rfl) ?y24 hHeld ?r24
    case y24 => (intro wS hSw; (try dsimp only at hSw); go_simp; (try with_reducible rfl))
    try simp only [Act.put, List.setIfInBounds_toArray, List.set_cons_zero, List.set_cons_succ]
    refine h4_take (i := 1) (v := ?v25) rfl (by kernel_rfl) (by kernel_rfl) (by kernel_rfl) (fun _ _ _ h => h) (by rfl) ?y25 hHeld ?r25
    case y25 => (intro wS hSw; (try dsimp only at hSw); go_simp; (try with_reducible rfl))
    try simp only [Act.put, List.setIfInBounds_toArray, List.set_cons_zero, List.set_cons_succ]
    refine wpAnyH_ready (rs := [2]) (by kernel_rfl) (by simp) ?_
    refine (h4_cons rfl (fun K hK => ?_) AllReadyH.nil)
    go_simp
    ((go_at_call 60; (with_reducible refine (RL.out _).mono ?_); rintro e w3 ⟨rfl, b3⟩; have p3 : Below w2.heap.size w2 w3 := Below.trans (by repeat' (first | (with_reducible assumption) | (with_reducible exact Below.refl _ _) | (with_reducible refine Below.drew ?_) | (with_reducible refine below_drewN ?_ _) | (with_reducible refine Below.alloc ?_ ?_ _) | (with_reducible exact Nat.le_refl _) | (simp; done) | (simp; omega) | omega)) (Below.mono b3 (by first | omega | (simp; done) | (simp; omega))); have b5a_3 := Lib.hid (Box5.below b5a_2.out p3); have b5a_30 := b5a_3.out.c0; have b5a_31 := b5a_3.out.c1; have b5a_32 := b5a_3.out.c2; have b5a_33 := b5a_3.out.c3; have b5a_34 := b5a_3.out.c4; have b5a_3f0 := b5a_3.out.f0; have b5a_3f1 := b5a_3.out.f1; have b5a_3f2 := b5a_3.out.f2; have b5a_3f3 := b5a_3.out.f3; have b5a_3f4 := b5a_3.out.f4; have b5a_3z := b5a_3.out.z))
    (try go_wp2_with fail)
    refine hK.out _ _ ?_ (fun hHeld27 => ?_)
    · (try dsimp only)
      ((and_intros <;> (first | (with_reducible assumption) | (go_simp; done) | (simp (maxDischargeDepth := 12) [go_sem]; done) | (simp (maxDischargeDepth := 12) [go_sem, *]; done) | exact (Below.cell (by with_reducible assumption) (by first | (simp; done) | (simp; omega) | omega)).trans (by simp (maxDischargeDepth := 12) [go_sem]))))
    clear hK K hHeld
    try simp only [Act.put, List.setIfInBounds_toArray, List.set_cons_zero, List.set_cons_succ]
    refine h4_take (i := 3) (v := ?v27) rfl (by kernel_rfl) (by kernel_rfl) (by kernel_rfl) (fun _ _ _ h => h) (by rfl) ?y27 hHeld27 ?r27
    case y27 => (intro wS hSw; (try dsimp only at hSw); go_simp; (try with_reducible rfl))
    try simp only [Act.put, List.setIfInBounds_toArray, List.set_cons_zero, List.set_cons_succ]
    refine h4_take (i := 4) (v := ?v28) rfl (by kernel_rfl) (by kernel_rfl) (by kernel_rfl) (fun _ _ _ h => h) (by rfl) ?y28 hHeld27 ?r28
    case y28 => (intro wS hSw; (try dsimp only at hSw); go_simp; (try with_reducible rfl))
    try simp only [Act.put, List.setIfInBounds_toArray, List.set_cons_zero, List.set_cons_succ]
    refine h4_take (i := 5) (v := ?v29) rfl (by kernel_rfl) (by kernel_rfl) (by kernel_rfl) (fun _ _ _ h => h) (by rfl) ?y29 hHeld27 ?r29
    case y29 => (intro wS hSw; (try dsimp only at hSw); go_simp; (try with_reducible rfl))
    try simp only [Act.put, List.setIfInBounds_toArray, List.set_cons_zero, List.set_cons_succ]
    refine h4_take (i := 8) (v := ?v30) rfl (by kernel_rfl) (by kernel_rfl) (by kernel_rfl) (fun _ _ _ h => h) (by rfl) ?y30 hHeld27 ?r30
    case y30 => (intro wS hSw; (try dsimp only at hSw); go_simp; (try with_reducible rfl))
    try simp only [Act.put, List.setIfInBounds_toArray, List.set_cons_zero, List.set_cons_succ]
    refine h4_take (i := 9) (v := ?v31) rfl (by kernel_rfl) (by kernel_rfl) (by kernel_rfl) (fun _ _ _ h => h) (by rfl) ?y31 hHeld27 ?r31
    case y31 => (intro wS hSw; (try dsimp only at hSw); go_simp; (try with_reducible rfl))
    try simp only [Act.put, List.setIfInBounds_toArray, List.set_cons_zero, List.set_cons_succ]
    refine wpAnyH_ready (rs := [6]) (by kernel_rfl) (by simp) ?_
    refine (h4_cons rfl (fun K hK => ?_) AllReadyH.nil)
    go_simp
    ((go_at_call 69; (with_reducible refine (PF1.out _).mono ?_); rintro e w4 ⟨⟨A4, c4, rfl, hi⟩, b4⟩; have p4 : Below w3.heap.size w3 w4 := Below.trans (by repeat' (first | (with_reducible assumption) | (with_reducible exact Below.refl _ _) | (with_reducible refine Below.drew ?_) | (with_reducible refine below_drewN ?_ _) | (with_reducible refine Below.alloc ?_ ?_ _) | (with_reducible exact Nat.le_refl _) | (simp; done) | (simp; omega) | omega)) (Below.mono b4 (by first | omega | (simp; done) | (simp; omega))); have b5a_4 := Lib.hid (Box5.below b5a_3.out p4); have b5a_40 := b5a_4.out.c0; have b5a_41 := b5a_4.out.c1; have b5a_42 := b5a_4.out.c2; have b5a_43 := b5a_4.out.c3; have b5a_44 := b5a_4.out.c4; have b5a_4f0 := b5a_4.out.f0; have b5a_4f1 := b5a_4.out.f1; have b5a_4f2 := b5a_4.out.f2; have b5a_4f3 := b5a_4.out.f3; have b5a_4f4 := b5a_4.out.f4; have b5a_4z := b5a_4.out.z))
    (try go_wp2_with fail)
    refine hK.out _ _ ?_ (fun hHeld33 => ?_)
    · (try dsimp only)
      ((and_intros <;> (first | (with_reducible assumption) | (go_simp; done) | (simp (maxDischargeDepth := 12) [go_sem]; done) | (simp (maxDischargeDepth := 12) [go_sem, *]; done) | exact (Below.cell (by with_reducible assumption) (by first | (simp; done) | (simp; omega) | omega)).trans (by simp (maxDischargeDepth := 12) [go_sem]))))
    clear hK K hHeld27
    try simp only [Act.put, List.setIfInBounds_toArray, List.set_cons_zero, List.set_cons_succ]
    refine h4_take (i := 7) (v := ?v33) rfl (by kernel_rfl) (by kernel_rfl) (by kernel_rfl) (fun _ _ _ h => h) (by rfl) ?y33 hHeld33 ?r33
    case y33 => (intro wS hSw; (try dsimp only at hSw); go_simp; (try with_reducible rfl))
    try simp only [Act.put, List.setIfInBounds_toArray, List.set_cons_zero, List.set_cons_succ]
    refine wpAnyH_ready (rs := [10]) (by kernel_rfl) (by simp) ?_
    refine (h4_cons rfl (fun K hK => ?_) AllReadyH.nil)
    go_simp
    ((go_at_call 18; (with_reducible refine (OA1.out _).mono ?_); rintro e w5 ⟨⟨A5, c5, rfl, hj⟩, b5⟩; have p5 : Below w4.heap.size w4 w5 := Below.trans (by repeat' (first | (with_reducible assumption) | (with_reducible exact Below.refl _ _) | (with_reducible refine Below.drew ?_) | (with_reducible refine below_drewN ?_ _) | (with_reducible refine Below.alloc ?_ ?_ _) | (with_reducible exact Nat.le_refl _) | (simp; done) | (simp; omega) | omega)) (Below.mono b5 (by first | omega | (simp; done) | (simp; omega))); have b5a_5 := Lib.hid (Box5.below b5a_4.out p5); have b5a_50 := b5a_5.out.c0; have b5a_51 := b5a_5.out.c1; have b5a_52 := b5a_5.out.c2; have b5a_53 := b5a_5.out.c3; have b5a_54 := b5a_5.out.c4; have b5a_5f0 := b5a_5.out.f0; have b5a_5f1 := b5a_5.out.f1; have b5a_5f2 := b5a_5.out.f2; have b5a_5f3 := b5a_5.out.f3; have b5a_5f4 := b5a_5.out.f4; have b5a_5z := b5a_5.out.z; have HJ5 := Lib.hid hj; have HI5 := Lib.hid ((hi.below p5).more p5.size); clear hj))
    (try go_wp2_with fail)
    refine hK.out _ _ ?_ (fun hHeld35 => ?_)
    · (try dsimp only)
      ((and_intros <;> (first | (with_reducible assumption) | (go_simp; done) | (simp (maxDischargeDepth := 12) [go_sem]; done) | (simp (maxDischargeDepth := 12) [go_sem, *]; done) | exact (Below.cell (by with_reducible assumption) (by first | (simp; done) | (simp; omega) | omega)).trans (by simp (maxDischargeDepth := 12) [go_sem]))))
    clear hK K hHeld33
    try simp only [Act.put, List.setIfInBounds_toArray, List.set_cons_zero, List.set_cons_succ]
    refine wpAnyH_ready (rs := [11]) (by kernel_rfl) (by simp) ?_
    refine (h4_cons rfl (fun K hK => ?_) AllReadyH.nil)
    go_simp
    ((go_at_call 38; (with_reducible refine (SM.out A4 A5 c4 c5 w5 _ HI5.out HJ5.out (by repeat' (first | (with_reducible exact Below.refl _ _) | (with_reducible assumption) | (with_reducible refine Below.drew ?_) | (with_reducible refine below_drewN ?_ _) | (with_reducible refine Below.alloc ?_ ?_ _) | (with_reducible exact Nat.le_refl _) | (simp; done) | (simp; omega)))).mono ?_); rintro e w6 ⟨rfl, b6⟩; have p6 : Below w5.heap.size w5 w6 := Below.trans (by repeat' (first | (with_reducible assumption) | (with_reducible exact Below.refl _ _) | (with_reducible refine Below.drew ?_) | (with_reducible refine below_drewN ?_ _) | (with_reducible refine Below.alloc ?_ ?_ _) | (with_reducible exact Nat.le_refl _) | (simp; done) | (simp; omega) | omega)) (Below.mono b6 (by first | omega | (simp; done) | (simp; omega))); have b5a_6 := Lib.hid (Box5.below b5a_5.out p6); have b5a_60 := b5a_6.out.c0; have b5a_61 := b5a_6.out.c1; have b5a_62 := b5a_6.out.c2; have b5a_63 := b5a_6.out.c3; have b5a_64 := b5a_6.out.c4; have b5a_6f0 := b5a_6.out.f0; have b5a_6f1 := b5a_6.out.f1; have b5a_6f2 := b5a_6.out.f2; have b5a_6f3 := b5a_6.out.f3; have b5a_6f4 := b5a_6.out.f4; have b5a_6z := b5a_6.out.z))
    (try go_wp2_with fail)
    refine hK.out _ _ ?_ (fun hHeld36 => ?_)
    · (try dsimp only)
      ((and_intros <;> (first | (with_reducible assumption) | (go_simp; done) | (simp (maxDischargeDepth := 12) [go_sem]; done) | (simp (maxDischargeDepth := 12) [go_sem, *]; done) | exact (Below.cell (by with_reducible assumption) (by first | (simp; done) | (simp; omega) | omega)).trans (by simp (maxDischargeDepth := 12) [go_sem]))))
    clear hK K hHeld35
    try simp only [Act.put, List.setIfInBounds_toArray, List.set_cons_zero, List.set_cons_succ]
    refine h4_take (i := 12) (v := ?v36) rfl (by kernel_rfl) (by kernel_rfl) (by kernel_rfl) (fun _ _ _ h => h) (by rfl) ?y36 hHeld36 ?r36
    case y36 => (intro wS hSw; (try dsimp only at hSw); go_simp; (try with_reducible rfl))
    try simp only [Act.put, List.setIfInBounds_toArray, List.set_cons_zero, List.set_cons_succ]
    refine h4_take (i := 13) (v := ?v37) rfl (by kernel_rfl) (by kernel_rfl) (by kernel_rfl) (fun _ _ _ h => h) (by rfl) ?y37 hHeld36 ?r37
    case y37 => (intro wS hSw; (try dsimp only at hSw); go_simp; (try with_reducible rfl))
    try simp only [Act.put, List.setIfInBounds_toArray, List.set_cons_zero, List.set_cons_succ]
    refine wpAnyH_done (by kernel_rfl) ?_ _
    go_wp2_with fail
    go_ret
    exact ⟨by simp, by refine (below_step (below_step (below_step (below_step HB2.out p3) p4) p5) p6).trans ?_; (repeat' (first | (with_reducible exact Below.refl _ _) | (refine Below.trans ?_ (Below.mono (by with_reducible assumption) ?_)) | (with_reducible exact Below.refl _ _) | (with_reducible refine below_drewN ?_ _) | (with_reducible refine Below.drew ?_) | (with_reducible refine Below.setCell ?_ ?_ _) | (with_reducible refine Below.alloc ?_ ?_ _) | (with_reducible assumption) | (simp; done) | (simp; omega) | omega))⟩
  · go_enter Try.func37, Try.ntmps37
    go_upto_region 12 with (go_at_call 15; refine (RG.out _).mono ?_; rintro e w2 ⟨rfl, q2⟩; have b5a_2 := Lib.hid (HA.out.below q2); have b5a_20 := b5a_2.out.c0; have b5a_21 := b5a_2.out.c1; have b5a_22 := b5a_2.out.c2; have b5a_23 := b5a_2.out.c3; have b5a_24 := b5a_2.out.c4; have b5a_2f0 := b5a_2.out.f0; have b5a_2f1 := b5a_2.out.f1; have b5a_2f2 := b5a_2.out.f2; have b5a_2f3 := b5a_2.out.f3; have b5a_2f4 := b5a_2.out.f4; have b5a_2z := b5a_2.out.z)
    have HB2 := Lib.hid (show Below w.heap.size w w2 by (repeat' (first | (with_reducible exact Below.refl _ _) | (refine Below.trans ?_ (Below.mono (by with_reducible assumption) ?_)) | (with_reducible exact Below.refl _ _) | (with_reducible refine below_drewN ?_ _) | (with_reducible refine Below.drew ?_) | (with_reducible refine Below.setCell ?_ ?_ _) | (with_reducible refine Below.alloc ?_ ?_ _) | (with_reducible assumption) | (simp; done) | (simp; omega) | omega)))
    clear HA
    refine wp_region_held_drew (S := (fun w' => w'.cell? ⟨w.heap.size, 0, none⟩ = some (.int .i64 3) ∧ w'.cell? ⟨w.heap.size, 1, none⟩ = some (.string S) ∧ w'.cell? ⟨w.heap.size, 2, none⟩ = some (.bool false) ∧ w'.cell? ⟨w.heap.size, 3, none⟩ = some (.int .u64 h) ∧ w'.cell? ⟨w.heap.size, 4, none⟩ = some (.int .u64 l))) (by kernel_rfl) ?_ (fun hHeld => ?_)
    · (try dsimp only)
      ((and_intros <;> (first | (with_reducible assumption) | (go_simp; done) | (simp (maxDischargeDepth := 12) [go_sem]; done) | (simp (maxDischargeDepth := 12) [go_sem, *]; done) | exact (Below.cell (by with_reducible assumption) (by first | (simp; done) | (simp; omega) | omega)).trans (by simp (maxDischargeDepth := 12) [go_sem]))))
    refine h4_take (i := 0) (v := ?v38) rfl (by kernel_rfl) (by kernel_rfl) (by kernel_rfl) (fun _ _ _ h => h) (by rfl) ?y38 hHeld ?r38
    case y38 => (intro wS hSw; (try dsimp only at hSw); go_simp; (try with_reducible rfl))
    try simp only [Act.put, List.setIfInBounds_toArray, List.set_cons_zero, List.set_cons_succ]
    refine h4_take (i := 1) (v := ?v39) rfl (by kernel_rfl) (by kernel_rfl) (by kernel_rfl) (fun _ _ _ h => h) (by rfl) ?y39 hHeld ?r39
    case y39 => (intro wS hSw; (try dsimp only at hSw); go_simp; (try with_reducible rfl))
    try simp only [Act.put, List.setIfInBounds_toArray, List.set_cons_zero, List.set_cons_succ]
    refine wpAnyH_ready (rs := [2]) (by kernel_rfl) (by simp) ?_
    refine (h4_cons rfl (fun K hK => ?_) AllReadyH.nil)
    go_simp
    ((go_at_call 60; (with_reducible refine (RL.out _).mono ?_); rintro e w3 ⟨rfl, b3⟩; have p3 : Below w2.heap.size w2 w3 := Below.trans (by repeat' (first | (with_reducible assumption) | (with_reducible exact Below.refl _ _) | (with_reducible refine Below.drew ?_) | (with_reducible refine below_drewN ?_ _) | (with_reducible refine Below.alloc ?_ ?_ _) | (with_reducible exact Nat.le_refl _) | (simp; done) | (simp; omega) | omega)) (Below.mono b3 (by first | omega | (simp; done) | (simp; omega))); have b5a_3 := Lib.hid (Box5.below b5a_2.out p3); have b5a_30 := b5a_3.out.c0; have b5a_31 := b5a_3.out.c1; have b5a_32 := b5a_3.out.c2; have b5a_33 := b5a_3.out.c3; have b5a_34 := b5a_3.out.c4; have b5a_3f0 := b5a_3.out.f0; have b5a_3f1 := b5a_3.out.f1; have b5a_3f2 := b5a_3.out.f2; have b5a_3f3 := b5a_3.out.f3; have b5a_3f4 := b5a_3.out.f4; have b5a_3z := b5a_3.out.z))
    (try go_wp2_with fail)
    refine hK.out _ _ ?_ (fun hHeld41 => ?_)
    · (try dsimp only)
      ((and_intros <;> (first | (with_reducible assumption) | (go_simp; done) | (simp (maxDischargeDepth := 12) [go_sem]; done) | (simp (maxDischargeDepth := 12) [go_sem, *]; done) | exact (Below.cell (by with_reducible assumption) (by first | (simp; done) | (simp; omega) | omega)).trans (by simp (maxDischargeDepth := 12) [go_sem]))))
    clear hK K hHeld
    try simp only [Act.put, List.setIfInBounds_toArray, List.set_cons_zero, List.set_cons_succ]
    refine h4_take (i := 3) (v := ?v41) rfl (by kernel_rfl) (by kernel_rfl) (by kernel_rfl) (fun _ _ _ h => h) (by rfl) ?y41 hHeld41 ?r41
    case y41 => (intro wS hSw; (try dsimp only at hSw); go_simp; (try with_reducible rfl))
    try simp only [Act.put, List.setIfInBounds_toArray, List.set_cons_zero, List.set_cons_succ]
    refine h4_take (i := 4) (v := ?v42) rfl (by kernel_rfl) (by kernel_rfl) (by kernel_rfl) (fun _ _ _ h => h) (by rfl) ?y42 hHeld41 ?r42
    case y42 => (intro wS hSw; (try dsimp only at hSw); go_simp; (try with_reducible rfl))
    try simp only [Act.put, List.setIfInBounds_toArray, List.set_cons_zero, List.set_cons_succ]
    refine h4_take (i := 5) (v := ?v43) rfl (by kernel_rfl) (by kernel_rfl) (by kernel_rfl) (fun _ _ _ h => h) (by rfl) ?y43 hHeld41 ?r43
    case y43 => (intro wS hSw; (try dsimp only at hSw); go_simp; (try with_reducible rfl))
    try simp only [Act.put, List.setIfInBounds_toArray, List.set_cons_zero, List.set_cons_succ]
    refine h4_take (i := 8) (v := ?v44) rfl (by kernel_rfl) (by kernel_rfl) (by kernel_rfl) (fun _ _ _ h => h) (by rfl) ?y44 hHeld41 ?r44
    case y44 => (intro wS hSw; (try dsimp only at hSw); go_simp; (try with_reducible rfl))
    try simp only [Act.put, List.setIfInBounds_toArray, List.set_cons_zero, List.set_cons_succ]
    refine h4_take (i := 9) (v := ?v45) rfl (by kernel_rfl) (by kernel_rfl) (by kernel_rfl) (fun _ _ _ h => h) (by rfl) ?y45 hHeld41 ?r45
    case y45 => (intro wS hSw; (try dsimp only at hSw); go_simp; (try with_reducible rfl))
    try simp only [Act.put, List.setIfInBounds_toArray, List.set_cons_zero, List.set_cons_succ]
    refine wpAnyH_ready (rs := [6]) (by kernel_rfl) (by simp) ?_
    refine (h4_cons rfl (fun K hK => ?_) AllReadyH.nil)
    go_simp
    ((go_at_call 69; (with_reducible refine (PF1.out _).mono ?_); rintro e w4 ⟨⟨A4, c4, rfl, hi⟩, b4⟩; have p4 : Below w3.heap.size w3 w4 := Below.trans (by repeat' (first | (with_reducible assumption) | (with_reducible exact Below.refl _ _) | (with_reducible refine Below.drew ?_) | (with_reducible refine below_drewN ?_ _) | (with_reducible refine Below.alloc ?_ ?_ _) | (with_reducible exact Nat.le_refl _) | (simp; done) | (simp; omega) | omega)) (Below.mono b4 (by first | omega | (simp; done) | (simp; omega))); have b5a_4 := Lib.hid (Box5.below b5a_3.out p4); have b5a_40 := b5a_4.out.c0; have b5a_41 := b5a_4.out.c1; have b5a_42 := b5a_4.out.c2; have b5a_43 := b5a_4.out.c3; have b5a_44 := b5a_4.out.c4; have b5a_4f0 := b5a_4.out.f0; have b5a_4f1 := b5a_4.out.f1; have b5a_4f2 := b5a_4.out.f2; have b5a_4f3 := b5a_4.out.f3; have b5a_4f4 := b5a_4.out.f4; have b5a_4z := b5a_4.out.z))
    (try go_wp2_with fail)
    refine hK.out _ _ ?_ (fun hHeld47 => ?_)
    · (try dsimp only)
      ((and_intros <;> (first | (with_reducible assumption) | (go_simp; done) | (simp (maxDischargeDepth := 12) [go_sem]; done) | (simp (maxDischargeDepth := 12) [go_sem, *]; done) | exact (Below.cell (by with_reducible assumption) (by first | (simp; done) | (simp; omega) | omega)).trans (by simp (maxDischargeDepth := 12) [go_sem]))))
    clear hK K hHeld41
    try simp only [Act.put, List.setIfInBounds_toArray, List.set_cons_zero, List.set_cons_succ]
    refine h4_take (i := 7) (v := ?v47) rfl (by kernel_rfl) (by kernel_rfl) (by kernel_rfl) (fun _ _ _ h => h) (by rfl) ?y47 hHeld47 ?r47
    case y47 => (intro wS hSw; (try dsimp only at hSw); go_simp; (try with_reducible rfl))
    try simp only [Act.put, List.setIfInBounds_toArray, List.set_cons_zero, List.set_cons_succ]
    refine wpAnyH_ready (rs := [10]) (by kernel_rfl) (by simp) ?_
    refine (h4_cons rfl (fun K hK => ?_) AllReadyH.nil)
    go_simp
    ((go_at_call 18; (with_reducible refine (OA1.out _).mono ?_); rintro e w5 ⟨⟨A5, c5, rfl, hj⟩, b5⟩; have p5 : Below w4.heap.size w4 w5 := Below.trans (by repeat' (first | (with_reducible assumption) | (with_reducible exact Below.refl _ _) | (with_reducible refine Below.drew ?_) | (with_reducible refine below_drewN ?_ _) | (with_reducible refine Below.alloc ?_ ?_ _) | (with_reducible exact Nat.le_refl _) | (simp; done) | (simp; omega) | omega)) (Below.mono b5 (by first | omega | (simp; done) | (simp; omega))); have b5a_5 := Lib.hid (Box5.below b5a_4.out p5); have b5a_50 := b5a_5.out.c0; have b5a_51 := b5a_5.out.c1; have b5a_52 := b5a_5.out.c2; have b5a_53 := b5a_5.out.c3; have b5a_54 := b5a_5.out.c4; have b5a_5f0 := b5a_5.out.f0; have b5a_5f1 := b5a_5.out.f1; have b5a_5f2 := b5a_5.out.f2; have b5a_5f3 := b5a_5.out.f3; have b5a_5f4 := b5a_5.out.f4; have b5a_5z := b5a_5.out.z; have HJ5 := Lib.hid hj; have HI5 := Lib.hid ((hi.below p5).more p5.size); clear hj))
    (try go_wp2_with fail)
    refine hK.out _ _ ?_ (fun hHeld49 => ?_)
    · (try dsimp only)
      ((and_intros <;> (first | (with_reducible assumption) | (go_simp; done) | (simp (maxDischargeDepth := 12) [go_sem]; done) | (simp (maxDischargeDepth := 12) [go_sem, *]; done) | exact (Below.cell (by with_reducible assumption) (by first | (simp; done) | (simp; omega) | omega)).trans (by simp (maxDischargeDepth := 12) [go_sem]))))
    clear hK K hHeld47
    try simp only [Act.put, List.setIfInBounds_toArray, List.set_cons_zero, List.set_cons_succ]
    refine wpAnyH_ready (rs := [11]) (by kernel_rfl) (by simp) ?_
    refine (h4_cons rfl (fun K hK => ?_) AllReadyH.nil)
    go_simp
    ((go_at_call 38; (with_reducible refine (SM.out A4 A5 c4 c5 w5 _ HI5.out HJ5.out (by repeat' (first | (with_reducible exact Below.refl _ _) | (with_reducible assumption) | (with_reducible refine Below.drew ?_) | (with_reducible refine below_drewN ?_ _) | (with_reducible refine Below.alloc ?_ ?_ _) | (with_reducible exact Nat.le_refl _) | (simp; done) | (simp; omega)))).mono ?_); rintro e w6 ⟨rfl, b6⟩; have p6 : Below w5.heap.size w5 w6 := Below.trans (by repeat' (first | (with_reducible assumption) | (with_reducible exact Below.refl _ _) | (with_reducible refine Below.drew ?_) | (with_reducible refine below_drewN ?_ _) | (with_reducible refine Below.alloc ?_ ?_ _) | (with_reducible exact Nat.le_refl _) | (simp; done) | (simp; omega) | omega)) (Below.mono b6 (by first | omega | (simp; done) | (simp; omega))); have b5a_6 := Lib.hid (Box5.below b5a_5.out p6); have b5a_60 := b5a_6.out.c0; have b5a_61 := b5a_6.out.c1; have b5a_62 := b5a_6.out.c2; have b5a_63 := b5a_6.out.c3; have b5a_64 := b5a_6.out.c4; have b5a_6f0 := b5a_6.out.f0; have b5a_6f1 := b5a_6.out.f1; have b5a_6f2 := b5a_6.out.f2; have b5a_6f3 := b5a_6.out.f3; have b5a_6f4 := b5a_6.out.f4; have b5a_6z := b5a_6.out.z))
    (try go_wp2_with fail)
    refine hK.out _ _ ?_ (fun hHeld50 => ?_)
    · (try dsimp only)
      ((and_intros <;> (first | (with_reducible assumption) | (go_simp; done) | (simp (maxDischargeDepth := 12) [go_sem]; done) | (simp (maxDischargeDepth := 12) [go_sem, *]; done) | exact (Below.cell (by with_reducible assumption) (by first | (simp; done) | (simp; omega) | omega)).trans (by simp (maxDischargeDepth := 12) [go_sem]))))
    clear hK K hHeld49
    try simp only [Act.put, List.setIfInBounds_toArray, List.set_cons_zero, List.set_cons_succ]
    refine h4_take (i := 12) (v := ?v50) rfl (by kernel_rfl) (by kernel_rfl) (by kernel_rfl) (fun _ _ _ h => h) (by rfl) ?y50 hHeld50 ?r50
    case y50 => (intro wS hSw; (try dsimp only at hSw); go_simp; (try with_reducible rfl))
    try simp only [Act.put, List.setIfInBounds_toArray, List.set_cons_zero, List.set_cons_succ]
    refine h4_take (i := 13) (v := ?v51) rfl (by kernel_rfl) (by kernel_rfl) (by kernel_rfl) (fun _ _ _ h => h) (by rfl) ?y51 hHeld50 ?r51
    case y51 => (intro wS hSw; (try dsimp only at hSw); go_simp; (try with_reducible rfl))
    try simp only [Act.put, List.setIfInBounds_toArray, List.set_cons_zero, List.set_cons_succ]
    refine wpAnyH_done (by kernel_rfl) ?_ _
    go_wp2_with fail
    go_ret
    exact ⟨by simp, by refine (below_step (below_step (below_step (below_step HB2.out p3) p4) p5) p6).trans ?_; (repeat' (first | (with_reducible exact Below.refl _ _) | (refine Below.trans ?_ (Below.mono (by with_reducible assumption) ?_)) | (with_reducible exact Below.refl _ _) | (with_reducible refine below_drewN ?_ _) | (with_reducible refine Below.drew ?_) | (with_reducible refine Below.setCell ?_ ?_ _) | (with_reducible refine Below.alloc ?_ ?_ _) | (with_reducible assumption) | (simp; done) | (simp; omega) | omega))⟩
  · go_enter Try.func37, Try.ntmps37
    go_upto_region 12 with (go_at_call 15; refine (RG.out _).mono ?_; rintro e w2 ⟨rfl, q2⟩; have b5a_2 := Lib.hid (HA.out.below q2); have b5a_20 := b5a_2.out.c0; have b5a_21 := b5a_2.out.c1; have b5a_22 := b5a_2.out.c2; have b5a_23 := b5a_2.out.c3; have b5a_24 := b5a_2.out.c4; have b5a_2f0 := b5a_2.out.f0; have b5a_2f1 := b5a_2.out.f1; have b5a_2f2 := b5a_2.out.f2; have b5a_2f3 := b5a_2.out.f3; have b5a_2f4 := b5a_2.out.f4; have b5a_2z := b5a_2.out.z)
    have HB2 := Lib.hid (show Below w.heap.size w w2 by (repeat' (first | (with_reducible exact Below.refl _ _) | (refine Below.trans ?_ (Below.mono (by with_reducible assumption) ?_)) | (with_reducible exact Below.refl _ _) | (with_reducible refine below_drewN ?_ _) | (with_reducible refine Below.drew ?_) | (with_reducible refine Below.setCell ?_ ?_ _) | (with_reducible refine Below.alloc ?_ ?_ _) | (with_reducible assumption) | (simp; done) | (simp; omega) | omega)))
    clear HA
    refine wp_region_held_drew (S := (fun w' => w'.cell? ⟨w.heap.size, 0, none⟩ = some (.int .i64 3) ∧ w'.cell? ⟨w.heap.size, 1, none⟩ = some (.string S) ∧ w'.cell? ⟨w.heap.size, 2, none⟩ = some (.bool false) ∧ w'.cell? ⟨w.heap.size, 3, none⟩ = some (.int .u64 0) ∧ w'.cell? ⟨w.heap.size, 4, none⟩ = some (.int .u64 l))) (by kernel_rfl) ?_ (fun hHeld => ?_)
    · (try dsimp only)
      ((and_intros <;> (first | (with_reducible assumption) | (go_simp; done) | (simp (maxDischargeDepth := 12) [go_sem]; done) | (simp (maxDischargeDepth := 12) [go_sem, *]; done) | exact (Below.cell (by with_reducible assumption) (by first | (simp; done) | (simp; omega) | omega)).trans (by simp (maxDischargeDepth := 12) [go_sem]))))
    refine h4_take (i := 0) (v := ?v52) rfl (by kernel_rfl) (by kernel_rfl) (by kernel_rfl) (fun _ _ _ h => h) (by rfl) ?y52 hHeld ?r52
    case y52 => (intro wS hSw; (try dsimp only at hSw); go_simp; (try with_reducible rfl))
    try simp only [Act.put, List.setIfInBounds_toArray, List.set_cons_zero, List.set_cons_succ]
    refine h4_take (i := 1) (v := ?v53) rfl (by kernel_rfl) (by kernel_rfl) (by kernel_rfl) (fun _ _ _ h => h) (by rfl) ?y53 hHeld ?r53
    case y53 => (intro wS hSw; (try dsimp only at hSw); go_simp; (try with_reducible rfl))
    try simp only [Act.put, List.setIfInBounds_toArray, List.set_cons_zero, List.set_cons_succ]
    refine wpAnyH_ready (rs := [2]) (by kernel_rfl) (by simp) ?_
    refine (h4_cons rfl (fun K hK => ?_) AllReadyH.nil)
    go_simp
    ((go_at_call 60; (with_reducible refine (RL.out _).mono ?_); rintro e w3 ⟨rfl, b3⟩; have p3 : Below w2.heap.size w2 w3 := Below.trans (by repeat' (first | (with_reducible assumption) | (with_reducible exact Below.refl _ _) | (with_reducible refine Below.drew ?_) | (with_reducible refine below_drewN ?_ _) | (with_reducible refine Below.alloc ?_ ?_ _) | (with_reducible exact Nat.le_refl _) | (simp; done) | (simp; omega) | omega)) (Below.mono b3 (by first | omega | (simp; done) | (simp; omega))); have b5a_3 := Lib.hid (Box5.below b5a_2.out p3); have b5a_30 := b5a_3.out.c0; have b5a_31 := b5a_3.out.c1; have b5a_32 := b5a_3.out.c2; have b5a_33 := b5a_3.out.c3; have b5a_34 := b5a_3.out.c4; have b5a_3f0 := b5a_3.out.f0; have b5a_3f1 := b5a_3.out.f1; have b5a_3f2 := b5a_3.out.f2; have b5a_3f3 := b5a_3.out.f3; have b5a_3f4 := b5a_3.out.f4; have b5a_3z := b5a_3.out.z))
    (try go_wp2_with fail)
    refine hK.out _ _ ?_ (fun hHeld55 => ?_)
    · (try dsimp only)
      ((and_intros <;> (first | (with_reducible assumption) | (go_simp; done) | (simp (maxDischargeDepth := 12) [go_sem]; done) | (simp (maxDischargeDepth := 12) [go_sem, *]; done) | exact (Below.cell (by with_reducible assumption) (by first | (simp; done) | (simp; omega) | omega)).trans (by simp (maxDischargeDepth := 12) [go_sem]))))
    clear hK K hHeld
    try simp only [Act.put, List.setIfInBounds_toArray, List.set_cons_zero, List.set_cons_succ]
    refine h4_take (i := 3) (v := ?v55) rfl (by kernel_rfl) (by kernel_rfl) (by kernel_rfl) (fun _ _ _ h => h) (by rfl) ?y55 hHeld55 ?r55
    case y55 => (intro wS hSw; (try dsimp only at hSw); go_simp; (try with_reducible rfl))
    try simp only [Act.put, List.setIfInBounds_toArray, List.set_cons_zero, List.set_cons_succ]
    refine h4_take (i := 4) (v := ?v56) rfl (by kernel_rfl) (by kernel_rfl) (by kernel_rfl) (fun _ _ _ h => h) (by rfl) ?y56 hHeld55 ?r56
    case y56 => (intro wS hSw; (try dsimp only at hSw); go_simp; (try with_reducible rfl))
    try simp only [Act.put, List.setIfInBounds_toArray, List.set_cons_zero, List.set_cons_succ]
    refine h4_take (i := 5) (v := ?v57) rfl (by kernel_rfl) (by kernel_rfl) (by kernel_rfl) (fun _ _ _ h => h) (by rfl) ?y57 hHeld55 ?r57
    case y57 => (intro wS hSw; (try dsimp only at hSw); go_simp; (try with_reducible rfl))
    try simp only [Act.put, List.setIfInBounds_toArray, List.set_cons_zero, List.set_cons_succ]
    refine h4_take (i := 8) (v := ?v58) rfl (by kernel_rfl) (by kernel_rfl) (by kernel_rfl) (fun _ _ _ h => h) (by rfl) ?y58 hHeld55 ?r58
    case y58 => (intro wS hSw; (try dsimp only at hSw); go_simp; (try with_reducible rfl))
    try simp only [Act.put, List.setIfInBounds_toArray, List.set_cons_zero, List.set_cons_succ]
    refine h4_take (i := 9) (v := ?v59) rfl (by kernel_rfl) (by kernel_rfl) (by kernel_rfl) (fun _ _ _ h => h) (by rfl) ?y59 hHeld55 ?r59
    case y59 => (intro wS hSw; (try dsimp only at hSw); go_simp; (try with_reducible rfl))
    try simp only [Act.put, List.setIfInBounds_toArray, List.set_cons_zero, List.set_cons_succ]
    refine wpAnyH_ready (rs := [6]) (by kernel_rfl) (by simp) ?_
    refine (h4_cons rfl (fun K hK => ?_) AllReadyH.nil)
    go_simp
    ((go_at_call 69; (with_reducible refine (PF1.out _).mono ?_); rintro e w4 ⟨⟨A4, c4, rfl, hi⟩, b4⟩; have p4 : Below w3.heap.size w3 w4 := Below.trans (by repeat' (first | (with_reducible assumption) | (with_reducible exact Below.refl _ _) | (with_reducible refine Below.drew ?_) | (with_reducible refine below_drewN ?_ _) | (with_reducible refine Below.alloc ?_ ?_ _) | (with_reducible exact Nat.le_refl _) | (simp; done) | (simp; omega) | omega)) (Below.mono b4 (by first | omega | (simp; done) | (simp; omega))); have b5a_4 := Lib.hid (Box5.below b5a_3.out p4); have b5a_40 := b5a_4.out.c0; have b5a_41 := b5a_4.out.c1; have b5a_42 := b5a_4.out.c2; have b5a_43 := b5a_4.out.c3; have b5a_44 := b5a_4.out.c4; have b5a_4f0 := b5a_4.out.f0; have b5a_4f1 := b5a_4.out.f1; have b5a_4f2 := b5a_4.out.f2; have b5a_4f3 := b5a_4.out.f3; have b5a_4f4 := b5a_4.out.f4; have b5a_4z := b5a_4.out.z))
    (try go_wp2_with fail)
    refine hK.out _ _ ?_ (fun hHeld61 => ?_)
    · (try dsimp only)
      ((and_intros <;> (first | (with_reducible assumption) | (go_simp; done) | (simp (maxDischargeDepth := 12) [go_sem]; done) | (simp (maxDischargeDepth := 12) [go_sem, *]; done) | exact (Below.cell (by with_reducible assumption) (by first | (simp; done) | (simp; omega) | omega)).trans (by simp (maxDischargeDepth := 12) [go_sem]))))
    clear hK K hHeld55
    try simp only [Act.put, List.setIfInBounds_toArray, List.set_cons_zero, List.set_cons_succ]
    refine h4_take (i := 7) (v := ?v61) rfl (by kernel_rfl) (by kernel_rfl) (by kernel_rfl) (fun _ _ _ h => h) (by rfl) ?y61 hHeld61 ?r61
    case y61 => (intro wS hSw; (try dsimp only at hSw); go_simp; (try with_reducible rfl))
    try simp only [Act.put, List.setIfInBounds_toArray, List.set_cons_zero, List.set_cons_succ]
    refine wpAnyH_ready (rs := [10]) (by kernel_rfl) (by simp) ?_
    refine (h4_cons rfl (fun K hK => ?_) AllReadyH.nil)
    go_simp
    ((go_at_call 18; (with_reducible refine (OA1.out _).mono ?_); rintro e w5 ⟨⟨A5, c5, rfl, hj⟩, b5⟩; have p5 : Below w4.heap.size w4 w5 := Below.trans (by repeat' (first | (with_reducible assumption) | (with_reducible exact Below.refl _ _) | (with_reducible refine Below.drew ?_) | (with_reducible refine below_drewN ?_ _) | (with_reducible refine Below.alloc ?_ ?_ _) | (with_reducible exact Nat.le_refl _) | (simp; done) | (simp; omega) | omega)) (Below.mono b5 (by first | omega | (simp; done) | (simp; omega))); have b5a_5 := Lib.hid (Box5.below b5a_4.out p5); have b5a_50 := b5a_5.out.c0; have b5a_51 := b5a_5.out.c1; have b5a_52 := b5a_5.out.c2; have b5a_53 := b5a_5.out.c3; have b5a_54 := b5a_5.out.c4; have b5a_5f0 := b5a_5.out.f0; have b5a_5f1 := b5a_5.out.f1; have b5a_5f2 := b5a_5.out.f2; have b5a_5f3 := b5a_5.out.f3; have b5a_5f4 := b5a_5.out.f4; have b5a_5z := b5a_5.out.z; have HJ5 := Lib.hid hj; have HI5 := Lib.hid ((hi.below p5).more p5.size); clear hj))
    (try go_wp2_with fail)
    refine hK.out _ _ ?_ (fun hHeld63 => ?_)
    · (try dsimp only)
      ((and_intros <;> (first | (with_reducible assumption) | (go_simp; done) | (simp (maxDischargeDepth := 12) [go_sem]; done) | (simp (maxDischargeDepth := 12) [go_sem, *]; done) | exact (Below.cell (by with_reducible assumption) (by first | (simp; done) | (simp; omega) | omega)).trans (by simp (maxDischargeDepth := 12) [go_sem]))))
    clear hK K hHeld61
    try simp only [Act.put, List.setIfInBounds_toArray, List.set_cons_zero, List.set_cons_succ]
    refine wpAnyH_ready (rs := [11]) (by kernel_rfl) (by simp) ?_
    refine (h4_cons rfl (fun K hK => ?_) AllReadyH.nil)
    go_simp
    ((go_at_call 38; (with_reducible refine (SM.out A4 A5 c4 c5 w5 _ HI5.out HJ5.out (by repeat' (first | (with_reducible exact Below.refl _ _) | (with_reducible assumption) | (with_reducible refine Below.drew ?_) | (with_reducible refine below_drewN ?_ _) | (with_reducible refine Below.alloc ?_ ?_ _) | (with_reducible exact Nat.le_refl _) | (simp; done) | (simp; omega)))).mono ?_); rintro e w6 ⟨rfl, b6⟩; have p6 : Below w5.heap.size w5 w6 := Below.trans (by repeat' (first | (with_reducible assumption) | (with_reducible exact Below.refl _ _) | (with_reducible refine Below.drew ?_) | (with_reducible refine below_drewN ?_ _) | (with_reducible refine Below.alloc ?_ ?_ _) | (with_reducible exact Nat.le_refl _) | (simp; done) | (simp; omega) | omega)) (Below.mono b6 (by first | omega | (simp; done) | (simp; omega))); have b5a_6 := Lib.hid (Box5.below b5a_5.out p6); have b5a_60 := b5a_6.out.c0; have b5a_61 := b5a_6.out.c1; have b5a_62 := b5a_6.out.c2; have b5a_63 := b5a_6.out.c3; have b5a_64 := b5a_6.out.c4; have b5a_6f0 := b5a_6.out.f0; have b5a_6f1 := b5a_6.out.f1; have b5a_6f2 := b5a_6.out.f2; have b5a_6f3 := b5a_6.out.f3; have b5a_6f4 := b5a_6.out.f4; have b5a_6z := b5a_6.out.z))
    (try go_wp2_with fail)
    refine hK.out _ _ ?_ (fun hHeld64 => ?_)
    · (try dsimp only)
      ((and_intros <;> (first | (with_reducible assumption) | (go_simp; done) | (simp (maxDischargeDepth := 12) [go_sem]; done) | (simp (maxDischargeDepth := 12) [go_sem, *]; done) | exact (Below.cell (by with_reducible assumption) (by first | (simp; done) | (simp; omega) | omega)).trans (by simp (maxDischargeDepth := 12) [go_sem]))))
    clear hK K hHeld63
    try simp only [Act.put, List.setIfInBounds_toArray, List.set_cons_zero, List.set_cons_succ]
    refine h4_take (i := 12) (v := ?v64) rfl (by kernel_rfl) (by kernel_rfl) (by kernel_rfl) (fun _ _ _ h => h) (by rfl) ?y64 hHeld64 ?r64
    case y64 => (intro wS hSw; (try dsimp only at hSw); go_simp; (try with_reducible rfl))
    try simp only [Act.put, List.setIfInBounds_toArray, List.set_cons_zero, List.set_cons_succ]
    refine h4_take (i := 13) (v := ?v65) rfl (by kernel_rfl) (by kernel_rfl) (by kernel_rfl) (fun _ _ _ h => h) (by rfl) ?y65 hHeld64 ?r65
    case y65 => (intro wS hSw; (try dsimp only at hSw); go_simp; (try with_reducible rfl))
    try simp only [Act.put, List.setIfInBounds_toArray, List.set_cons_zero, List.set_cons_succ]
    refine wpAnyH_done (by kernel_rfl) ?_ _
    go_wp2_with fail
    go_ret
    exact ⟨by simp, by refine (below_step (below_step (below_step (below_step HB2.out p3) p4) p5) p6).trans ?_; (repeat' (first | (with_reducible exact Below.refl _ _) | (refine Below.trans ?_ (Below.mono (by with_reducible assumption) ?_)) | (with_reducible exact Below.refl _ _) | (with_reducible refine below_drewN ?_ _) | (with_reducible refine Below.drew ?_) | (with_reducible refine Below.setCell ?_ ?_ _) | (with_reducible refine Below.alloc ?_ ?_ _) | (with_reducible assumption) | (simp; done) | (simp; omega) | omega))⟩
  · go_enter Try.func37, Try.ntmps37
    go_upto_region 12 with (go_at_call 15; refine (RG.out _).mono ?_; rintro e w2 ⟨rfl, q2⟩; have b5a_2 := Lib.hid (HA.out.below q2); have b5a_20 := b5a_2.out.c0; have b5a_21 := b5a_2.out.c1; have b5a_22 := b5a_2.out.c2; have b5a_23 := b5a_2.out.c3; have b5a_24 := b5a_2.out.c4; have b5a_2f0 := b5a_2.out.f0; have b5a_2f1 := b5a_2.out.f1; have b5a_2f2 := b5a_2.out.f2; have b5a_2f3 := b5a_2.out.f3; have b5a_2f4 := b5a_2.out.f4; have b5a_2z := b5a_2.out.z)
    have HB2 := Lib.hid (show Below w.heap.size w w2 by (repeat' (first | (with_reducible exact Below.refl _ _) | (refine Below.trans ?_ (Below.mono (by with_reducible assumption) ?_)) | (with_reducible exact Below.refl _ _) | (with_reducible refine below_drewN ?_ _) | (with_reducible refine Below.drew ?_) | (with_reducible refine Below.setCell ?_ ?_ _) | (with_reducible refine Below.alloc ?_ ?_ _) | (with_reducible assumption) | (simp; done) | (simp; omega) | omega)))
    clear HA
    refine wp_region_held_drew (S := (fun w' => w'.cell? ⟨w.heap.size, 0, none⟩ = some (.int .i64 3) ∧ w'.cell? ⟨w.heap.size, 1, none⟩ = some (.string S) ∧ w'.cell? ⟨w.heap.size, 2, none⟩ = some (.bool false) ∧ w'.cell? ⟨w.heap.size, 3, none⟩ = some (.int .u64 0) ∧ w'.cell? ⟨w.heap.size, 4, none⟩ = some (.int .u64 0))) (by kernel_rfl) ?_ (fun hHeld => ?_)
    · (try dsimp only)
      ((and_intros <;> (first | (with_reducible assumption) | (go_simp; done) | (simp (maxDischargeDepth := 12) [go_sem]; done) | (simp (maxDischargeDepth := 12) [go_sem, *]; done) | exact (Below.cell (by with_reducible assumption) (by first | (simp; done) | (simp; omega) | omega)).trans (by simp (maxDischargeDepth := 12) [go_sem]))))
    refine h4_take (i := 0) (v := ?v66) rfl (by kernel_rfl) (by kernel_rfl) (by kernel_rfl) (fun _ _ _ h => h) (by rfl) ?y66 hHeld ?r66
    case y66 => (intro wS hSw; (try dsimp only at hSw); go_simp; (try with_reducible rfl))
    try simp only [Act.put, List.setIfInBounds_toArray, List.set_cons_zero, List.set_cons_succ]
    refine h4_take (i := 1) (v := ?v67) rfl (by kernel_rfl) (by kernel_rfl) (by kernel_rfl) (fun _ _ _ h => h) (by rfl) ?y67 hHeld ?r67
    case y67 => (intro wS hSw; (try dsimp only at hSw); go_simp; (try with_reducible rfl))
    try simp only [Act.put, List.setIfInBounds_toArray, List.set_cons_zero, List.set_cons_succ]
    refine wpAnyH_ready (rs := [2]) (by kernel_rfl) (by simp) ?_
    refine (h4_cons rfl (fun K hK => ?_) AllReadyH.nil)
    go_simp
    ((go_at_call 60; (with_reducible refine (RL.out _).mono ?_); rintro e w3 ⟨rfl, b3⟩; have p3 : Below w2.heap.size w2 w3 := Below.trans (by repeat' (first | (with_reducible assumption) | (with_reducible exact Below.refl _ _) | (with_reducible refine Below.drew ?_) | (with_reducible refine below_drewN ?_ _) | (with_reducible refine Below.alloc ?_ ?_ _) | (with_reducible exact Nat.le_refl _) | (simp; done) | (simp; omega) | omega)) (Below.mono b3 (by first | omega | (simp; done) | (simp; omega))); have b5a_3 := Lib.hid (Box5.below b5a_2.out p3); have b5a_30 := b5a_3.out.c0; have b5a_31 := b5a_3.out.c1; have b5a_32 := b5a_3.out.c2; have b5a_33 := b5a_3.out.c3; have b5a_34 := b5a_3.out.c4; have b5a_3f0 := b5a_3.out.f0; have b5a_3f1 := b5a_3.out.f1; have b5a_3f2 := b5a_3.out.f2; have b5a_3f3 := b5a_3.out.f3; have b5a_3f4 := b5a_3.out.f4; have b5a_3z := b5a_3.out.z))
    (try go_wp2_with fail)
    refine hK.out _ _ ?_ (fun hHeld69 => ?_)
    · (try dsimp only)
      ((and_intros <;> (first | (with_reducible assumption) | (go_simp; done) | (simp (maxDischargeDepth := 12) [go_sem]; done) | (simp (maxDischargeDepth := 12) [go_sem, *]; done) | exact (Below.cell (by with_reducible assumption) (by first | (simp; done) | (simp; omega) | omega)).trans (by simp (maxDischargeDepth := 12) [go_sem]))))
    clear hK K hHeld
    try simp only [Act.put, List.setIfInBounds_toArray, List.set_cons_zero, List.set_cons_succ]
    refine h4_take (i := 3) (v := ?v69) rfl (by kernel_rfl) (by kernel_rfl) (by kernel_rfl) (fun _ _ _ h => h) (by rfl) ?y69 hHeld69 ?r69
    case y69 => (intro wS hSw; (try dsimp only at hSw); go_simp; (try with_reducible rfl))
    try simp only [Act.put, List.setIfInBounds_toArray, List.set_cons_zero, List.set_cons_succ]
    refine h4_take (i := 4) (v := ?v70) rfl (by kernel_rfl) (by kernel_rfl) (by kernel_rfl) (fun _ _ _ h => h) (by rfl) ?y70 hHeld69 ?r70
    case y70 => (intro wS hSw; (try dsimp only at hSw); go_simp; (try with_reducible rfl))
    try simp only [Act.put, List.setIfInBounds_toArray, List.set_cons_zero, List.set_cons_succ]
    refine h4_take (i := 5) (v := ?v71) rfl (by kernel_rfl) (by kernel_rfl) (by kernel_rfl) (fun _ _ _ h => h) (by rfl) ?y71 hHeld69 ?r71
    case y71 => (intro wS hSw; (try dsimp only at hSw); go_simp; (try with_reducible rfl))
    try simp only [Act.put, List.setIfInBounds_toArray, List.set_cons_zero, List.set_cons_succ]
    refine h4_take (i := 8) (v := ?v72) rfl (by kernel_rfl) (by kernel_rfl) (by kernel_rfl) (fun _ _ _ h => h) (by rfl) ?y72 hHeld69 ?r72
    case y72 => (intro wS hSw; (try dsimp only at hSw); go_simp; (try with_reducible rfl))
    try simp only [Act.put, List.setIfInBounds_toArray, List.set_cons_zero, List.set_cons_succ]
    refine h4_take (i := 9) (v := ?v73) rfl (by kernel_rfl) (by kernel_rfl) (by kernel_rfl) (fun _ _ _ h => h) (by rfl) ?y73 hHeld69 ?r73
    case y73 => (intro wS hSw; (try dsimp only at hSw); go_simp; (try with_reducible rfl))
    try simp only [Act.put, List.setIfInBounds_toArray, List.set_cons_zero, List.set_cons_succ]
    refine wpAnyH_ready (rs := [6]) (by kernel_rfl) (by simp) ?_
    refine (h4_cons rfl (fun K hK => ?_) AllReadyH.nil)
    go_simp
    ((go_at_call 69; (with_reducible refine (PF1.out _).mono ?_); rintro e w4 ⟨⟨A4, c4, rfl, hi⟩, b4⟩; have p4 : Below w3.heap.size w3 w4 := Below.trans (by repeat' (first | (with_reducible assumption) | (with_reducible exact Below.refl _ _) | (with_reducible refine Below.drew ?_) | (with_reducible refine below_drewN ?_ _) | (with_reducible refine Below.alloc ?_ ?_ _) | (with_reducible exact Nat.le_refl _) | (simp; done) | (simp; omega) | omega)) (Below.mono b4 (by first | omega | (simp; done) | (simp; omega))); have b5a_4 := Lib.hid (Box5.below b5a_3.out p4); have b5a_40 := b5a_4.out.c0; have b5a_41 := b5a_4.out.c1; have b5a_42 := b5a_4.out.c2; have b5a_43 := b5a_4.out.c3; have b5a_44 := b5a_4.out.c4; have b5a_4f0 := b5a_4.out.f0; have b5a_4f1 := b5a_4.out.f1; have b5a_4f2 := b5a_4.out.f2; have b5a_4f3 := b5a_4.out.f3; have b5a_4f4 := b5a_4.out.f4; have b5a_4z := b5a_4.out.z))
    (try go_wp2_with fail)
    refine hK.out _ _ ?_ (fun hHeld75 => ?_)
    · (try dsimp only)
      ((and_intros <;> (first | (with_reducible assumption) | (go_simp; done) | (simp (maxDischargeDepth := 12) [go_sem]; done) | (simp (maxDischargeDepth := 12) [go_sem, *]; done) | exact (Below.cell (by with_reducible assumption) (by first | (simp; done) | (simp; omega) | omega)).trans (by simp (maxDischargeDepth := 12) [go_sem]))))
    clear hK K hHeld69
    try simp only [Act.put, List.setIfInBounds_toArray, List.set_cons_zero, List.set_cons_succ]
    refine h4_take (i := 7) (v := ?v75) rfl (by kernel_rfl) (by kernel_rfl) (by kernel_rfl) (fun _ _ _ h => h) (by rfl) ?y75 hHeld75 ?r75
    case y75 => (intro wS hSw; (try dsimp only at hSw); go_simp; (try with_reducible rfl))
    try simp only [Act.put, List.setIfInBounds_toArray, List.set_cons_zero, List.set_cons_succ]
    refine wpAnyH_ready (rs := [10]) (by kernel_rfl) (by simp) ?_
    refine (h4_cons rfl (fun K hK => ?_) AllReadyH.nil)
    go_simp
    ((go_at_call 18; (with_reducible refine (OA1.out _).mono ?_); rintro e w5 ⟨⟨A5, c5, rfl, hj⟩, b5⟩; have p5 : Below w4.heap.size w4 w5 := Below.trans (by repeat' (first | (with_reducible assumption) | (with_reducible exact Below.refl _ _) | (with_reducible refine Below.drew ?_) | (with_reducible refine below_drewN ?_ _) | (with_reducible refine Below.alloc ?_ ?_ _) | (with_reducible exact Nat.le_refl _) | (simp; done) | (simp; omega) | omega)) (Below.mono b5 (by first | omega | (simp; done) | (simp; omega))); have b5a_5 := Lib.hid (Box5.below b5a_4.out p5); have b5a_50 := b5a_5.out.c0; have b5a_51 := b5a_5.out.c1; have b5a_52 := b5a_5.out.c2; have b5a_53 := b5a_5.out.c3; have b5a_54 := b5a_5.out.c4; have b5a_5f0 := b5a_5.out.f0; have b5a_5f1 := b5a_5.out.f1; have b5a_5f2 := b5a_5.out.f2; have b5a_5f3 := b5a_5.out.f3; have b5a_5f4 := b5a_5.out.f4; have b5a_5z := b5a_5.out.z; have HJ5 := Lib.hid hj; have HI5 := Lib.hid ((hi.below p5).more p5.size); clear hj))
    (try go_wp2_with fail)
    refine hK.out _ _ ?_ (fun hHeld77 => ?_)
    · (try dsimp only)
      ((and_intros <;> (first | (with_reducible assumption) | (go_simp; done) | (simp (maxDischargeDepth := 12) [go_sem]; done) | (simp (maxDischargeDepth := 12) [go_sem, *]; done) | exact (Below.cell (by with_reducible assumption) (by first | (simp; done) | (simp; omega) | omega)).trans (by simp (maxDischargeDepth := 12) [go_sem]))))
    clear hK K hHeld75
    try simp only [Act.put, List.setIfInBounds_toArray, List.set_cons_zero, List.set_cons_succ]
    refine wpAnyH_ready (rs := [11]) (by kernel_rfl) (by simp) ?_
    refine (h4_cons rfl (fun K hK => ?_) AllReadyH.nil)
    go_simp
    ((go_at_call 38; (with_reducible refine (SM.out A4 A5 c4 c5 w5 _ HI5.out HJ5.out (by repeat' (first | (with_reducible exact Below.refl _ _) | (with_reducible assumption) | (with_reducible refine Below.drew ?_) | (with_reducible refine below_drewN ?_ _) | (with_reducible refine Below.alloc ?_ ?_ _) | (with_reducible exact Nat.le_refl _) | (simp; done) | (simp; omega)))).mono ?_); rintro e w6 ⟨rfl, b6⟩; have p6 : Below w5.heap.size w5 w6 := Below.trans (by repeat' (first | (with_reducible assumption) | (with_reducible exact Below.refl _ _) | (with_reducible refine Below.drew ?_) | (with_reducible refine below_drewN ?_ _) | (with_reducible refine Below.alloc ?_ ?_ _) | (with_reducible exact Nat.le_refl _) | (simp; done) | (simp; omega) | omega)) (Below.mono b6 (by first | omega | (simp; done) | (simp; omega))); have b5a_6 := Lib.hid (Box5.below b5a_5.out p6); have b5a_60 := b5a_6.out.c0; have b5a_61 := b5a_6.out.c1; have b5a_62 := b5a_6.out.c2; have b5a_63 := b5a_6.out.c3; have b5a_64 := b5a_6.out.c4; have b5a_6f0 := b5a_6.out.f0; have b5a_6f1 := b5a_6.out.f1; have b5a_6f2 := b5a_6.out.f2; have b5a_6f3 := b5a_6.out.f3; have b5a_6f4 := b5a_6.out.f4; have b5a_6z := b5a_6.out.z))
    (try go_wp2_with fail)
    refine hK.out _ _ ?_ (fun hHeld78 => ?_)
    · (try dsimp only)
      ((and_intros <;> (first | (with_reducible assumption) | (go_simp; done) | (simp (maxDischargeDepth := 12) [go_sem]; done) | (simp (maxDischargeDepth := 12) [go_sem, *]; done) | exact (Below.cell (by with_reducible assumption) (by first | (simp; done) | (simp; omega) | omega)).trans (by simp (maxDischargeDepth := 12) [go_sem]))))
    clear hK K hHeld77
    try simp only [Act.put, List.setIfInBounds_toArray, List.set_cons_zero, List.set_cons_succ]
    refine h4_take (i := 12) (v := ?v78) rfl (by kernel_rfl) (by kernel_rfl) (by kernel_rfl) (fun _ _ _ h => h) (by rfl) ?y78 hHeld78 ?r78
    case y78 => (intro wS hSw; (try dsimp only at hSw); go_simp; (try with_reducible rfl))
    try simp only [Act.put, List.setIfInBounds_toArray, List.set_cons_zero, List.set_cons_succ]
    refine h4_take (i := 13) (v := ?v79) rfl (by kernel_rfl) (by kernel_rfl) (by kernel_rfl) (fun _ _ _ h => h) (by rfl) ?y79 hHeld78 ?r79
    case y79 => (intro wS hSw; (try dsimp only at hSw); go_simp; (try with_reducible rfl))
    try simp only [Act.put, List.setIfInBounds_toArray, List.set_cons_zero, List.set_cons_succ]
    refine wpAnyH_done (by kernel_rfl) ?_ _
    go_wp2_with fail
    go_ret
    exact ⟨by simp, by refine (below_step (below_step (below_step (below_step HB2.out p3) p4) p5) p6).trans ?_; (repeat' (first | (with_reducible exact Below.refl _ _) | (refine Below.trans ?_ (Below.mono (by with_reducible assumption) ?_)) | (with_reducible exact Below.refl _ _) | (with_reducible refine below_drewN ?_ _) | (with_reducible refine Below.drew ?_) | (with_reducible refine Below.setCell ?_ ?_ _) | (with_reducible refine Below.alloc ?_ ?_ _) | (with_reducible assumption) | (simp; done) | (simp; omega) | omega))⟩
end Go.Proofs.Ytkhhjibpppmekaa
