/- Several texts put together: CelB, CelC, CelD. -/
import Derived.Test.YtkhhjibpppmekaaBu16
import Derived.WalkLawsBesides
/- cell.Good. -/
namespace Go.Proofs.Ytkhhjibpppmekaa
open Go.RowKit
/-- Which cells are right. -/
def goodC (k : Int) (bs : List Nat) (n : Bool) (h l : Int) : Bool :=
  if k = 0 then decide (bs = []) && (!n && (decide (h = 0) && decide (l = 0)))
  else if k = 1 then decide (bs = []) && goodB n h l
  else if k = 2 then !n && (decide (h = 0) && decide (l = 0))
  else if k = 3 then likeB bs && decide (n = pP bs ∧ h = mh (pM bs) ∧ l = ml (pM bs))
  else false
theorem strN_nil (bs : List Nat) : (strN bs).toList = [] ↔ bs = [] := by
  rw [ByteArray.toList_eq]; simp [strN]
set_option maxRecDepth 100000 in
set_option maxHeartbeats 800000 in
theorem cgood_any (k : Int) (bs : List Nat) (n : Bool) (h l : Int) (w : World) (hb : ∀ x ∈ bs, x < 256) (hl : bs.length ≤ 140737488351232) :
    Calls Try.prog 24 #[.agg #[.int .i64 k, .string (strN bs), .bool n, .int .u64 h, .int .u64 l]] w fun e w' => e = .returned (.bool (goodC k bs n h l)) ∧ Below w.heap.size w w' := by
  have hS0 := strN_nil bs
  have LK0 := fun W => like_any bs W hb hl
  have GD := Lib.hid (fun W => good_any n h l W)
  obtain ⟨S, hS⟩ : ∃ S, S = strN bs := ⟨_, rfl⟩
  rw [← hS] at hS0 LK0 ⊢
  have HS := Lib.hid hS0
  by_cases h0 : k = 0
  · subst h0
    have HB := Lib.hid (show goodC 0 bs n h l = (decide (S.toList = []) && (!n && (decide (h = 0) && decide (l = 0)))) by unfold goodC; rw [if_pos rfl, decide_eq_decide.2 hS0])
    generalize goodC 0 bs n h l = b at *
    clear LK0 GD hS hS0 hb hl HS
    go_enter Try.func24, Try.ntmps24
    go_wp2_with fail
    all_goals
      go_ret
      exact ⟨by rw [HB.out]; simp [*], by (repeat' (first | (with_reducible exact Below.refl _ _) | (refine Below.trans ?_ (Below.mono (by with_reducible assumption) ?_)) | (with_reducible exact Below.refl _ _) | (with_reducible refine below_drewN ?_ _) | (with_reducible refine Below.drew ?_) | (with_reducible refine Below.setCell ?_ ?_ _) | (with_reducible refine Below.alloc ?_ ?_ _) | (with_reducible assumption) | (simp; done) | (simp; omega) | omega))⟩
  by_cases h1 : k = 1
  · subst h1
    have HB := Lib.hid (show goodC 1 bs n h l = (decide (S.toList = []) && goodB n h l) by unfold goodC; rw [if_neg (by decide), if_pos rfl, decide_eq_decide.2 hS0])
    generalize goodC 1 bs n h l = b at *
    generalize goodB n h l = g at *
    clear LK0 hS hS0 hb hl HS h0
    go_enter Try.func24, Try.ntmps24
    go_wp2_with (go_at_call 31; refine (GD.out _).mono ?_; rintro e w2 ⟨rfl, rfl⟩)
    all_goals
      go_ret
      exact ⟨by rw [HB.out]; simp [*], by (repeat' (first | (with_reducible exact Below.refl _ _) | (refine Below.trans ?_ (Below.mono (by with_reducible assumption) ?_)) | (with_reducible exact Below.refl _ _) | (with_reducible refine below_drewN ?_ _) | (with_reducible refine Below.drew ?_) | (with_reducible refine Below.setCell ?_ ?_ _) | (with_reducible refine Below.alloc ?_ ?_ _) | (with_reducible assumption) | (simp; done) | (simp; omega) | omega))⟩
  by_cases h2 : k = 2
  · subst h2
    have HB := Lib.hid (show goodC 2 bs n h l = (!n && (decide (h = 0) && decide (l = 0))) by unfold goodC; rw [if_neg (by decide), if_neg (by decide), if_pos rfl])
    generalize goodC 2 bs n h l = b at *
    clear LK0 GD hS hS0 hb hl HS h0 h1
    go_enter Try.func24, Try.ntmps24
    go_wp2_with fail
    all_goals
      go_ret
      exact ⟨by rw [HB.out]; simp [*], by (repeat' (first | (with_reducible exact Below.refl _ _) | (refine Below.trans ?_ (Below.mono (by with_reducible assumption) ?_)) | (with_reducible exact Below.refl _ _) | (with_reducible refine below_drewN ?_ _) | (with_reducible refine Below.drew ?_) | (with_reducible refine Below.setCell ?_ ?_ _) | (with_reducible refine Below.alloc ?_ ?_ _) | (with_reducible assumption) | (simp; done) | (simp; omega) | omega))⟩
  by_cases h3 : k = 3
  · subst h3
    have hgp := good_pq bs
    have HB0 : goodC 3 bs n h l = (likeB bs && decide (n = pP bs ∧ h = mh (pM bs) ∧ l = ml (pM bs))) := by unfold goodC; rw [if_neg (by decide), if_neg (by decide), if_neg (by decide), if_pos rfl]
    cases hlk : likeB bs
    · rw [hlk] at HB0 LK0
      have HB := Lib.hid (show goodC 3 bs n h l = false by rw [HB0]; rfl)
      have LK := Lib.hid LK0
      generalize goodC 3 bs n h l = b at *
      generalize kn bs = pn at *
      generalize kh bs = ph at *
      generalize kl bs = pl at *
      clear LK0 HB0 hgp GD hS hS0 hb hl HS h0 h1 h2 hlk
      have ba_0 : Box5 (w.alloc (.cells #[.int .i64 3, .string S, .bool n, .int .u64 h, .int .u64 l] 41)) w.heap.size (.int .i64 3) (.string S) (.bool n) (.int .u64 h) (.int .u64 l) := Box5.make _ _ _ _ _ _ _ rfl
      have HA := Lib.hid ba_0
      clear ba_0
      go_enter Try.func24, Try.ntmps24
      go_wp2_with (go_at_call 59; refine (LK.out _).mono ?_; rintro e w2 ⟨rfl, q2⟩; have b5a_2 := Lib.hid (HA.out.below q2); have b5a_20 := b5a_2.out.c0; have b5a_21 := b5a_2.out.c1; have b5a_22 := b5a_2.out.c2; have b5a_23 := b5a_2.out.c3; have b5a_24 := b5a_2.out.c4; have b5a_2f0 := b5a_2.out.f0; have b5a_2f1 := b5a_2.out.f1; have b5a_2f2 := b5a_2.out.f2; have b5a_2f3 := b5a_2.out.f3; have b5a_2f4 := b5a_2.out.f4; have b5a_2z := b5a_2.out.z)
      all_goals
        go_ret
        exact ⟨by simp [HB.out], by (repeat' (first | (with_reducible exact Below.refl _ _) | (refine Below.trans ?_ (Below.mono (by with_reducible assumption) ?_)) | (with_reducible exact Below.refl _ _) | (with_reducible refine below_drewN ?_ _) | (with_reducible refine Below.drew ?_) | (with_reducible refine Below.setCell ?_ ?_ _) | (with_reducible refine Below.alloc ?_ ?_ _) | (with_reducible assumption) | (simp; done) | (simp; omega) | omega))⟩
    · have e1 : kn bs = pP bs := by unfold kn; rw [hlk]; rfl
      have e2 : kh bs = mh (pM bs) := by unfold kh; rw [hlk]; rfl
      have e3 : kl bs = ml (pM bs) := by unfold kl; rw [hlk]; rfl
      rw [hlk, e1, e2, e3] at LK0
      rw [hlk, Bool.true_and] at HB0
      have LK := Lib.hid LK0
      by_cases he : n = pP bs ∧ h = mh (pM bs) ∧ l = ml (pM bs)
      · obtain ⟨rfl, rfl, rfl⟩ := he
        have HB := Lib.hid (show goodC 3 bs (pP bs) (mh (pM bs)) (ml (pM bs)) = true by rw [HB0]; simp)
        rw [hgp] at GD
        generalize goodC 3 bs (pP bs) (mh (pM bs)) (ml (pM bs)) = b at *
        generalize pP bs = n at *
        generalize mh (pM bs) = h at *
        generalize ml (pM bs) = l at *
        clear LK0 HB0 hgp hS hS0 hb hl HS h0 h1 h2 hlk e1 e2 e3
        have ba_0 : Box5 (w.alloc (.cells #[.int .i64 3, .string S, .bool n, .int .u64 h, .int .u64 l] 41)) w.heap.size (.int .i64 3) (.string S) (.bool n) (.int .u64 h) (.int .u64 l) := Box5.make _ _ _ _ _ _ _ rfl
        have HA := Lib.hid ba_0
        clear ba_0
        go_enter Try.func24, Try.ntmps24
        go_wp2_with (first
          | (go_at_call 59; refine (LK.out _).mono ?_; rintro e w2 ⟨rfl, q2⟩; have b5a_2 := Lib.hid (HA.out.below q2); have b5a_20 := b5a_2.out.c0; have b5a_21 := b5a_2.out.c1; have b5a_22 := b5a_2.out.c2; have b5a_23 := b5a_2.out.c3; have b5a_24 := b5a_2.out.c4; have b5a_2f0 := b5a_2.out.f0; have b5a_2f1 := b5a_2.out.f1; have b5a_2f2 := b5a_2.out.f2; have b5a_2f3 := b5a_2.out.f3; have b5a_2f4 := b5a_2.out.f4; have b5a_2z := b5a_2.out.z)
          | (go_at_call 31; refine (GD.out _).mono ?_; rintro e w3 ⟨rfl, rfl⟩))
        all_goals
          go_ret
          exact ⟨by simp [HB.out], by (repeat' (first | (with_reducible exact Below.refl _ _) | (refine Below.trans ?_ (Below.mono (by with_reducible assumption) ?_)) | (with_reducible exact Below.refl _ _) | (with_reducible refine below_drewN ?_ _) | (with_reducible refine Below.drew ?_) | (with_reducible refine Below.setCell ?_ ?_ _) | (with_reducible refine Below.alloc ?_ ?_ _) | (with_reducible assumption) | (simp; done) | (simp; omega) | omega))⟩
      · have HB := Lib.hid (show goodC 3 bs n h l = false by rw [HB0]; exact decide_eq_false he)
        have HE := Lib.hid he
        generalize goodC 3 bs n h l = b at *
        generalize pP bs = pn at *
        generalize mh (pM bs) = ph at *
        generalize ml (pM bs) = pl at *
        clear LK0 HB0 hgp hS hS0 hb hl HS h0 h1 h2 hlk he e1 e2 e3
        have ba_0 : Box5 (w.alloc (.cells #[.int .i64 3, .string S, .bool n, .int .u64 h, .int .u64 l] 41)) w.heap.size (.int .i64 3) (.string S) (.bool n) (.int .u64 h) (.int .u64 l) := Box5.make _ _ _ _ _ _ _ rfl
        have HA := Lib.hid ba_0
        clear ba_0
        go_enter Try.func24, Try.ntmps24
        go_wp2_with (first
          | (go_at_call 59; refine (LK.out _).mono ?_; rintro e w2 ⟨rfl, q2⟩; have b5a_2 := Lib.hid (HA.out.below q2); have b5a_20 := b5a_2.out.c0; have b5a_21 := b5a_2.out.c1; have b5a_22 := b5a_2.out.c2; have b5a_23 := b5a_2.out.c3; have b5a_24 := b5a_2.out.c4; have b5a_2f0 := b5a_2.out.f0; have b5a_2f1 := b5a_2.out.f1; have b5a_2f2 := b5a_2.out.f2; have b5a_2f3 := b5a_2.out.f3; have b5a_2f4 := b5a_2.out.f4; have b5a_2z := b5a_2.out.z)
          | (go_at_call 31; exfalso; exact HE.out ⟨Eq.symm (by assumption), Eq.symm (by assumption), Eq.symm (by assumption)⟩))
        all_goals
          go_ret
          exact ⟨by simp [HB.out], by (repeat' (first | (with_reducible exact Below.refl _ _) | (refine Below.trans ?_ (Below.mono (by with_reducible assumption) ?_)) | (with_reducible exact Below.refl _ _) | (with_reducible refine below_drewN ?_ _) | (with_reducible refine Below.drew ?_) | (with_reducible refine Below.setCell ?_ ?_ _) | (with_reducible refine Below.alloc ?_ ?_ _) | (with_reducible assumption) | (simp; done) | (simp; omega) | omega))⟩
  · have HB := Lib.hid (show goodC k bs n h l = false by unfold goodC; rw [if_neg h0, if_neg h1, if_neg h2, if_neg h3])
    generalize goodC k bs n h l = b at *
    have g0 : (k == 0) = false := beq_eq_false_iff_ne.2 h0
    have g1 : (k == 1) = false := beq_eq_false_iff_ne.2 h1
    have g2 : (k == 2) = false := beq_eq_false_iff_ne.2 h2
    have g3 : (k == 3) = false := beq_eq_false_iff_ne.2 h3
    clear LK0 GD hS hS0 hb hl HS h0 h1 h2 h3
    go_enter Try.func24, Try.ntmps24
    go_wp2_with fail
    go_ret
    exact ⟨by simp [HB.out], by (repeat' (first | (with_reducible exact Below.refl _ _) | (refine Below.trans ?_ (Below.mono (by with_reducible assumption) ?_)) | (with_reducible exact Below.refl _ _) | (with_reducible refine below_drewN ?_ _) | (with_reducible refine Below.drew ?_) | (with_reducible refine Below.setCell ?_ ?_ _) | (with_reducible refine Below.alloc ?_ ?_ _) | (with_reducible assumption) | (simp; done) | (simp; omega) | omega))⟩
end Go.Proofs.Ytkhhjibpppmekaa

/- cell.right, cell.Num, cell.Text, cell.Input. -/
namespace Go.Proofs.Ytkhhjibpppmekaa
open Go.RowKit
/-- A cell's value. -/
abbrev cvZ : Value := .agg #[.int .i64 0, .string { data := #[] }, .bool false, .int .u64 0, .int .u64 0]
set_option maxRecDepth 100000 in
set_option maxHeartbeats 800000 in
theorem right_ok {k : Int} {bs : List Nat} {n : Bool} {h l : Int} (hb : ∀ x ∈ bs, x < 256) (hl : bs.length ≤ 140737488351232) (hg : goodC k bs n h l = true) (w : World) :
    Calls Try.prog 61 #[.agg #[.int .i64 k, .string (strN bs), .bool n, .int .u64 h, .int .u64 l]] w fun e w' => e = .returned (.agg #[.int .i64 k, .string (strN bs), .bool n, .int .u64 h, .int .u64 l]) ∧ Below w.heap.size w w' := by
  have G := fun W => cgood_any k bs n h l W hb hl
  rw [hg] at G
  have GD := Lib.hid G
  generalize strN bs = S at *
  clear G hg hb hl
  have ba := (Box5.make w (.int .i64 k) (.string S) (.bool n) (.int .u64 h) (.int .u64 l) 41 rfl).alloc (.cells #[.int .i64 0, .string { data := #[] }, .bool false, .int .u64 0, .int .u64 0] 41)
  have br := Box5.make (w.alloc (.cells #[.int .i64 k, .string S, .bool n, .int .u64 h, .int .u64 l] 41)) (.int .i64 0) (.string { data := #[] }) (.bool false) (.int .u64 0) (.int .u64 0) 41 (g := w.heap.size + 1) (by simp)
  have HA := Lib.hid ba; have HR := Lib.hid br
  clear ba br
  go_enter Try.func61, Try.ntmps61
  go_wp2_with (go_at_call 24; refine (GD.out _).mono ?_; rintro e w2 ⟨rfl, q2⟩; have b5a_2 := Lib.hid (HA.out.below q2); have b5a_20 := b5a_2.out.c0; have b5a_21 := b5a_2.out.c1; have b5a_22 := b5a_2.out.c2; have b5a_23 := b5a_2.out.c3; have b5a_24 := b5a_2.out.c4; have b5a_2f0 := b5a_2.out.f0; have b5a_2f1 := b5a_2.out.f1; have b5a_2f2 := b5a_2.out.f2; have b5a_2f3 := b5a_2.out.f3; have b5a_2f4 := b5a_2.out.f4; have b5a_2z := b5a_2.out.z; have b5r_2 := Lib.hid (HR.out.below q2); have b5r_20 := b5r_2.out.c0; have b5r_21 := b5r_2.out.c1; have b5r_22 := b5r_2.out.c2; have b5r_23 := b5r_2.out.c3; have b5r_24 := b5r_2.out.c4; have b5r_2f0 := b5r_2.out.f0; have b5r_2f1 := b5r_2.out.f1; have b5r_2f2 := b5r_2.out.f2; have b5r_2f3 := b5r_2.out.f3; have b5r_2f4 := b5r_2.out.f4; have b5r_2z := b5r_2.out.z)
  (try simp only [Exit.inBlock, Exit.then]); refine bodyPost_ret (by simp [results, Try.results61, go_sem, *]; try rfl) rfl ?_
  exact ⟨rfl, by (repeat' (first | (with_reducible exact Below.refl _ _) | (refine Below.trans ?_ (Below.mono (by with_reducible assumption) ?_)) | (with_reducible exact Below.refl _ _) | (with_reducible refine below_drewN ?_ _) | (with_reducible refine Below.drew ?_) | (with_reducible refine Below.setCell ?_ ?_ _) | (with_reducible refine Below.alloc ?_ ?_ _) | (with_reducible assumption) | (simp; done) | (simp; omega) | omega))⟩
set_option maxRecDepth 100000 in
set_option maxHeartbeats 800000 in
theorem right_bad {k : Int} {bs : List Nat} {n : Bool} {h l : Int} (hb : ∀ x ∈ bs, x < 256) (hl : bs.length ≤ 140737488351232) (hg : goodC k bs n h l = false) (w : World) :
    Calls Try.prog 61 #[.agg #[.int .i64 k, .string (strN bs), .bool n, .int .u64 h, .int .u64 l]] w fun e w' => e = .returned cvZ ∧ Below w.heap.size w w' := by
  have G := fun W => cgood_any k bs n h l W hb hl
  rw [hg] at G
  have GD := Lib.hid G
  generalize strN bs = S at *
  clear G hg hb hl
  have ba := (Box5.make w (.int .i64 k) (.string S) (.bool n) (.int .u64 h) (.int .u64 l) 41 rfl).alloc (.cells #[.int .i64 0, .string { data := #[] }, .bool false, .int .u64 0, .int .u64 0] 41)
  have br := Box5.make (w.alloc (.cells #[.int .i64 k, .string S, .bool n, .int .u64 h, .int .u64 l] 41)) (.int .i64 0) (.string { data := #[] }) (.bool false) (.int .u64 0) (.int .u64 0) 41 (g := w.heap.size + 1) (by simp)
  have HA := Lib.hid ba; have HR := Lib.hid br
  clear ba br
  go_enter Try.func61, Try.ntmps61
  go_wp2_with (go_at_call 24; refine (GD.out _).mono ?_; rintro e w2 ⟨rfl, q2⟩; have b5a_2 := Lib.hid (HA.out.below q2); have b5a_20 := b5a_2.out.c0; have b5a_21 := b5a_2.out.c1; have b5a_22 := b5a_2.out.c2; have b5a_23 := b5a_2.out.c3; have b5a_24 := b5a_2.out.c4; have b5a_2f0 := b5a_2.out.f0; have b5a_2f1 := b5a_2.out.f1; have b5a_2f2 := b5a_2.out.f2; have b5a_2f3 := b5a_2.out.f3; have b5a_2f4 := b5a_2.out.f4; have b5a_2z := b5a_2.out.z; have b5r_2 := Lib.hid (HR.out.below q2); have b5r_20 := b5r_2.out.c0; have b5r_21 := b5r_2.out.c1; have b5r_22 := b5r_2.out.c2; have b5r_23 := b5r_2.out.c3; have b5r_24 := b5r_2.out.c4; have b5r_2f0 := b5r_2.out.f0; have b5r_2f1 := b5r_2.out.f1; have b5r_2f2 := b5r_2.out.f2; have b5r_2f3 := b5r_2.out.f3; have b5r_2f4 := b5r_2.out.f4; have b5r_2z := b5r_2.out.z)
  (try simp only [Exit.inBlock, Exit.then]); refine bodyPost_ret (by simp [results, Try.results61, go_sem, *]; try rfl) rfl ?_
  exact ⟨rfl, by (repeat' (first | (with_reducible exact Below.refl _ _) | (refine Below.trans ?_ (Below.mono (by with_reducible assumption) ?_)) | (with_reducible exact Below.refl _ _) | (with_reducible refine below_drewN ?_ _) | (with_reducible refine Below.drew ?_) | (with_reducible refine Below.setCell ?_ ?_ _) | (with_reducible refine Below.alloc ?_ ?_ _) | (with_reducible assumption) | (simp; done) | (simp; omega) | omega))⟩
/-- A cell is right as it is, or something right stands in its place. -/
structure RightOf (k : Int) (bs : List Nat) (n : Bool) (h l : Int) (k' : Int) (bs' : List Nat) (n' : Bool) (h' l' : Int) : Prop where
  is : (goodC k bs n h l = true ∧ k' = k ∧ bs' = bs ∧ n' = n ∧ h' = h ∧ l' = l) ∨ (goodC k bs n h l = false ∧ k' = 0 ∧ bs' = [] ∧ n' = false ∧ h' = 0 ∧ l' = 0)
  run : ∀ W, Calls Try.prog 61 #[.agg #[.int .i64 k, .string (strN bs), .bool n, .int .u64 h, .int .u64 l]] W fun e w' => e = .returned (.agg #[.int .i64 k', .string (strN bs'), .bool n', .int .u64 h', .int .u64 l']) ∧ Below W.heap.size W w'
theorem right_ex (k : Int) (bs : List Nat) (n : Bool) (h l : Int) (hb : ∀ x ∈ bs, x < 256) (hl : bs.length ≤ 140737488351232) : ∃ k' bs' n' h' l', RightOf k bs n h l k' bs' n' h' l' := by
  cases hg : goodC k bs n h l
  · exact ⟨0, [], false, 0, 0, .inr ⟨hg, rfl, rfl, rfl, rfl, rfl⟩, fun W => right_bad hb hl hg W⟩
  · exact ⟨k, bs, n, h, l, .inl ⟨hg, rfl, rfl, rfl, rfl, rfl⟩, fun W => right_ok hb hl hg W⟩
set_option maxHeartbeats 400000 in
theorem num_ok {n : Bool} {h l : Int} (hg : goodB n h l = true) (w : World) :
    Calls Try.prog 21 #[.agg #[.bool n, .int .u64 h, .int .u64 l]] w fun e w' => e = .returned (.agg #[.int .i64 1, .string { data := #[] }, .bool n, .int .u64 h, .int .u64 l]) ∧ Below w.heap.size w w' := by
  have G := fun W => good_any n h l W
  rw [hg] at G
  have GD := Lib.hid G
  clear G hg
  go_enter Try.func21, Try.ntmps21
  go_wp2_with (go_at_call 31; refine (GD.out _).mono ?_; rintro e w2 ⟨rfl, rfl⟩)
  (try simp only [Exit.inBlock, Exit.then]); refine bodyPost_ret (by simp [results, Try.results21, go_sem, *]; try rfl) rfl ?_
  exact ⟨rfl, by (repeat' (first | (with_reducible exact Below.refl _ _) | (refine Below.trans ?_ (Below.mono (by with_reducible assumption) ?_)) | (with_reducible exact Below.refl _ _) | (with_reducible refine below_drewN ?_ _) | (with_reducible refine Below.drew ?_) | (with_reducible refine Below.setCell ?_ ?_ _) | (with_reducible refine Below.alloc ?_ ?_ _) | (with_reducible assumption) | (simp; done) | (simp; omega) | omega))⟩
set_option maxHeartbeats 400000 in
theorem num_bad {n : Bool} {h l : Int} (hg : goodB n h l = false) (w : World) :
    Calls Try.prog 21 #[.agg #[.bool n, .int .u64 h, .int .u64 l]] w fun e w' => e = .returned cvZ ∧ Below w.heap.size w w' := by
  have G := fun W => good_any n h l W
  rw [hg] at G
  have GD := Lib.hid G
  clear G hg
  go_enter Try.func21, Try.ntmps21
  go_wp2_with (go_at_call 31; refine (GD.out _).mono ?_; rintro e w2 ⟨rfl, rfl⟩)
  (try simp only [Exit.inBlock, Exit.then]); refine bodyPost_ret (by simp [results, Try.results21, go_sem, *]; try rfl) rfl ?_
  exact ⟨rfl, by (repeat' (first | (with_reducible exact Below.refl _ _) | (refine Below.trans ?_ (Below.mono (by with_reducible assumption) ?_)) | (with_reducible exact Below.refl _ _) | (with_reducible refine below_drewN ?_ _) | (with_reducible refine Below.drew ?_) | (with_reducible refine Below.setCell ?_ ?_ _) | (with_reducible refine Below.alloc ?_ ?_ _) | (with_reducible assumption) | (simp; done) | (simp; omega) | omega))⟩
set_option maxHeartbeats 400000 in
theorem ctext_any (S : ByteArray) (w : World) :
    Calls Try.prog 22 #[.string S] w fun e w' => e = .returned (.agg #[.int .i64 2, .string S, .bool false, .int .u64 0, .int .u64 0]) ∧ Below w.heap.size w w' := by
  go_enter Try.func22, Try.ntmps22
  go_wp2_with fail
  (try simp only [Exit.inBlock, Exit.then]); refine bodyPost_ret (by simp [results, Try.results22, go_sem, *]; try rfl) rfl ?_
  exact ⟨rfl, by (repeat' (first | (with_reducible exact Below.refl _ _) | (refine Below.trans ?_ (Below.mono (by with_reducible assumption) ?_)) | (with_reducible exact Below.refl _ _) | (with_reducible refine below_drewN ?_ _) | (with_reducible refine Below.drew ?_) | (with_reducible refine Below.setCell ?_ ?_ _) | (with_reducible refine Below.alloc ?_ ?_ _) | (with_reducible assumption) | (simp; done) | (simp; omega) | omega))⟩
set_option maxRecDepth 100000 in
set_option maxHeartbeats 800000 in
theorem input_like {bs : List Nat} (hb : ∀ x ∈ bs, x < 256) (hl : bs.length ≤ 140737488351232) (hg : likeB bs = true) (w : World) :
    Calls Try.prog 23 #[.string (strN bs)] w fun e w' => e = .returned (.agg #[.int .i64 3, .string (strN bs), .bool (pP bs), .int .u64 (mh (pM bs)), .int .u64 (ml (pM bs))]) ∧ Below w.heap.size w w' := by
  have e1 : kn bs = pP bs := by unfold kn; rw [hg]; rfl
  have e2 : kh bs = mh (pM bs) := by unfold kh; rw [hg]; rfl
  have e3 : kl bs = ml (pM bs) := by unfold kl; rw [hg]; rfl
  have G := fun W => like_any bs W hb hl
  rw [hg, e1, e2, e3] at G
  have GD := Lib.hid G
  generalize strN bs = S at *
  generalize pP bs = n at *
  generalize mh (pM bs) = h at *
  generalize ml (pM bs) = l at *
  clear G hg hb hl e1 e2 e3
  have br := Box5.make w (.int .i64 0) (.string { data := #[] }) (.bool false) (.int .u64 0) (.int .u64 0) 41 rfl
  have HR := Lib.hid br
  clear br
  go_enter Try.func23, Try.ntmps23
  go_wp2_with (go_at_call 59; refine (GD.out _).mono ?_; rintro e w2 ⟨rfl, q2⟩; have b5r_2 := Lib.hid (HR.out.below q2); have b5r_20 := b5r_2.out.c0; have b5r_21 := b5r_2.out.c1; have b5r_22 := b5r_2.out.c2; have b5r_23 := b5r_2.out.c3; have b5r_24 := b5r_2.out.c4; have b5r_2f0 := b5r_2.out.f0; have b5r_2f1 := b5r_2.out.f1; have b5r_2f2 := b5r_2.out.f2; have b5r_2f3 := b5r_2.out.f3; have b5r_2f4 := b5r_2.out.f4; have b5r_2z := b5r_2.out.z)
  (try simp only [Exit.inBlock, Exit.then]); refine bodyPost_ret (by simp [results, Try.results23, go_sem, *]; try rfl) rfl ?_
  exact ⟨rfl, by (repeat' (first | (with_reducible exact Below.refl _ _) | (refine Below.trans ?_ (Below.mono (by with_reducible assumption) ?_)) | (with_reducible exact Below.refl _ _) | (with_reducible refine below_drewN ?_ _) | (with_reducible refine Below.drew ?_) | (with_reducible refine Below.setCell ?_ ?_ _) | (with_reducible refine Below.alloc ?_ ?_ _) | (with_reducible assumption) | (simp; done) | (simp; omega) | omega))⟩
set_option maxRecDepth 100000 in
set_option maxHeartbeats 800000 in
theorem input_text {bs : List Nat} (hb : ∀ x ∈ bs, x < 256) (hl : bs.length ≤ 140737488351232) (hg : likeB bs = false) (w : World) :
    Calls Try.prog 23 #[.string (strN bs)] w fun e w' => e = .returned (.agg #[.int .i64 2, .string (strN bs), .bool false, .int .u64 0, .int .u64 0]) ∧ Below w.heap.size w w' := by
  have G := fun W => like_any bs W hb hl
  rw [hg] at G
  have GD := Lib.hid G
  generalize strN bs = S at *
  generalize kn bs = n at *
  generalize kh bs = h at *
  generalize kl bs = l at *
  clear G hg hb hl
  have br := Box5.make w (.int .i64 0) (.string { data := #[] }) (.bool false) (.int .u64 0) (.int .u64 0) 41 rfl
  have HR := Lib.hid br
  clear br
  go_enter Try.func23, Try.ntmps23
  go_wp2_with (first
    | (go_at_call 59; refine (GD.out _).mono ?_; rintro e w2 ⟨rfl, q2⟩; have b5r_2 := Lib.hid (HR.out.below q2); have b5r_20 := b5r_2.out.c0; have b5r_21 := b5r_2.out.c1; have b5r_22 := b5r_2.out.c2; have b5r_23 := b5r_2.out.c3; have b5r_24 := b5r_2.out.c4; have b5r_2f0 := b5r_2.out.f0; have b5r_2f1 := b5r_2.out.f1; have b5r_2f2 := b5r_2.out.f2; have b5r_2f3 := b5r_2.out.f3; have b5r_2f4 := b5r_2.out.f4; have b5r_2z := b5r_2.out.z; have p2 : Below w.heap.size w w2 := Below.trans (by repeat' (first | (with_reducible assumption) | (with_reducible exact Below.refl _ _) | (with_reducible refine Below.drew ?_) | (with_reducible refine below_drewN ?_ _) | (with_reducible refine Below.alloc ?_ ?_ _) | (with_reducible exact Nat.le_refl _) | (simp; done) | (simp; omega) | omega)) (Below.mono q2 (by first | omega | (simp; done) | (simp; omega))))
    | (go_at_call 22; refine (ctext_any S _).mono ?_; rintro e w3 ⟨rfl, q3⟩; have p3 : Below w2.heap.size w2 w3 := Below.trans (by repeat' (first | (with_reducible assumption) | (with_reducible exact Below.refl _ _) | (with_reducible refine Below.drew ?_) | (with_reducible refine below_drewN ?_ _) | (with_reducible refine Below.alloc ?_ ?_ _) | (with_reducible exact Nat.le_refl _) | (simp; done) | (simp; omega) | omega)) (Below.mono q3 (by first | omega | (simp; done) | (simp; omega))); have b5r_3 := Lib.hid (Box5.below b5r_2.out p3); have b5r_30 := b5r_3.out.c0; have b5r_31 := b5r_3.out.c1; have b5r_32 := b5r_3.out.c2; have b5r_33 := b5r_3.out.c3; have b5r_34 := b5r_3.out.c4; have b5r_3f0 := b5r_3.out.f0; have b5r_3f1 := b5r_3.out.f1; have b5r_3f2 := b5r_3.out.f2; have b5r_3f3 := b5r_3.out.f3; have b5r_3f4 := b5r_3.out.f4; have b5r_3z := b5r_3.out.z))
  (try simp only [Exit.inBlock, Exit.then]); refine bodyPost_ret (by simp [results, Try.results23, go_sem, *]; try rfl) rfl ?_
  exact ⟨rfl, by (repeat' (first | (with_reducible exact Below.refl _ _) | (refine Below.trans ?_ (Below.mono (by with_reducible assumption) ?_)) | (with_reducible exact Below.refl _ _) | (with_reducible refine below_drewN ?_ _) | (with_reducible refine Below.drew ?_) | (with_reducible refine Below.setCell ?_ ?_ _) | (with_reducible refine Below.alloc ?_ ?_ _) | (with_reducible assumption) | (simp; done) | (simp; omega) | omega))⟩
end Go.Proofs.Ytkhhjibpppmekaa

/- cmp.Compare of strings; cell.Number, String, Truth, Size. -/
namespace Go.Proofs.Ytkhhjibpppmekaa
open Go.RowKit
/-- How two texts stand. -/
def cmpS (S T : ByteArray) : Int := if Op.bytesLess S.toList T.toList then -1 else if S.toList == T.toList then 0 else 1
theorem isnan_any (S : ByteArray) (w : World) :
    Calls Try.prog 88 #[.string S] w fun e w' => e = .returned (.bool false) ∧ w = w' := by
  go_enter Try.func88, Try.ntmps88
  go_wp2_with fail
  go_ret
  exact ⟨by simp, rfl⟩
set_option maxRecDepth 100000 in
set_option maxHeartbeats 400000 in
theorem cmps_any (S T : ByteArray) (w : World) :
    Calls Try.prog 62 #[.string S, .string T] w fun e w' => e = .returned (.int .i64 (cmpS S T)) ∧ w = w' := by
  have HC := Lib.hid (show cmpS S T = if Op.bytesLess S.toList T.toList then -1 else if (S.toList == T.toList) then 0 else 1 from rfl)
  generalize cmpS S T = r at *
  have I1 := Lib.hid (fun W => isnan_any S W)
  have I2 := Lib.hid (fun W => isnan_any T W)
  go_enter Try.func62, Try.ntmps62
  go_wp2_with (first
    | (go_at_call 88; refine (I1.out _).mono ?_; rintro e w2 ⟨rfl, rfl⟩)
    | (go_at_call 88; refine (I2.out _).mono ?_; rintro e w2 ⟨rfl, rfl⟩))
  all_goals
    go_ret
    exact ⟨by rw [HC.out]; simp_all, rfl⟩
/-- The kinds of right cells. -/
theorem RightOf.kinds {k : Int} {bs : List Nat} {n : Bool} {h l : Int} {k' : Int} {bs' : List Nat} {n' : Bool} {h' l' : Int} (R : RightOf k bs n h l k' bs' n' h' l') :
    (k' = 0 ∧ bs' = [] ∧ n' = false ∧ h' = 0 ∧ l' = 0) ∨ (k' = 1 ∧ bs' = [] ∧ goodB n' h' l' = true) ∨ (k' = 2 ∧ n' = false ∧ h' = 0 ∧ l' = 0) ∨ (k' = 3 ∧ likeB bs' = true ∧ n' = pP bs' ∧ h' = mh (pM bs') ∧ l' = ml (pM bs')) := by
  rcases R.is with ⟨hg, rfl, rfl, rfl, rfl, rfl⟩ | ⟨_, rfl, rfl, rfl, rfl, rfl⟩
  · unfold goodC at hg
    by_cases h0 : k' = 0
    · rw [if_pos h0] at hg
      simp at hg
      exact .inl ⟨h0, hg.1, hg.2.1, hg.2.2.1, hg.2.2.2⟩
    rw [if_neg h0] at hg
    by_cases h1 : k' = 1
    · rw [if_pos h1] at hg
      simp at hg
      exact .inr (.inl ⟨h1, hg.1, hg.2⟩)
    rw [if_neg h1] at hg
    by_cases h2 : k' = 2
    · rw [if_pos h2] at hg
      simp at hg
      exact .inr (.inr (.inl ⟨h2, hg.1, hg.2.1, hg.2.2⟩))
    rw [if_neg h2] at hg
    by_cases h3 : k' = 3
    · rw [if_pos h3] at hg
      simp at hg
      exact .inr (.inr (.inr ⟨h3, hg.1, hg.2.1, hg.2.2.1, hg.2.2.2⟩))
    · rw [if_neg h3] at hg; cases hg
  · exact .inl ⟨rfl, rfl, rfl, rfl, rfl⟩
theorem goodB_zero : goodB false 0 0 = true := by decide
theorem RightOf.good {k : Int} {bs : List Nat} {n : Bool} {h l : Int} {k' : Int} {bs' : List Nat} {n' : Bool} {h' l' : Int} (R : RightOf k bs n h l k' bs' n' h' l') : goodB n' h' l' = true := by
  rcases R.kinds with ⟨_, _, rfl, rfl, rfl⟩ | ⟨_, _, hg⟩ | ⟨_, rfl, rfl, rfl⟩ | ⟨_, _, rfl, rfl, rfl⟩
  · exact goodB_zero
  · exact hg
  · exact goodB_zero
  · exact good_pq bs'
/-- A right cell's text; whether it counts as true; its number. -/
def strC (k : Int) (bs : List Nat) (n : Bool) (h l : Int) : List Nat := if k = 1 then textL (zof n h l) else bs
def truC (k : Int) (bs : List Nat) (n : Bool) (h l : Int) : Bool := if k = 2 then !decide (bs = []) else !(!n && (decide (h = 0) && decide (l = 0)))
def numN' (k : Int) (bs : List Nat) (n : Bool) : Bool := if k = 2 then pP bs else n
def numH (k : Int) (bs : List Nat) (h : Int) : Int := if k = 2 then mh (pM bs) else h
def numL (k : Int) (bs : List Nat) (l : Int) : Int := if k = 2 then ml (pM bs) else l
def numO (k : Int) (bs : List Nat) : Bool := if k = 2 then pOver bs else false
set_option maxRecDepth 100000 in
set_option maxHeartbeats 800000 in
theorem cstring_any {k : Int} {bs : List Nat} {n : Bool} {h l : Int} {k' : Int} {bs' : List Nat} {n' : Bool} {h' l' : Int} (R : RightOf k bs n h l k' bs' n' h' l') (wh : Wd h') (wl : Wd l') (w : World) :
    Calls Try.prog 30 #[.agg #[.int .i64 k, .string (strN bs), .bool n, .int .u64 h, .int .u64 l]] w fun e w' => e = .returned (.string (strN (strC k' bs' n' h' l'))) ∧ Below w.heap.size w w' := by
  have RT := Lib.hid R.run
  have KS := R.kinds
  have IA := of_good wh wl R.good
  have TX := Lib.hid (fun W => text_ok n' h' l' (zof n' h' l') IA W)
  have HA := Lib.hid (Box5.make w (.int .i64 k) (.string (strN bs)) (.bool n) (.int .u64 h) (.int .u64 l) 41 rfl)
  have KS2 : (k' = 0 ∧ strC k' bs' n' h' l' = []) ∨ (k' = 1 ∧ strC k' bs' n' h' l' = textL (zof n' h' l')) ∨ (k' = 2 ∧ strC k' bs' n' h' l' = bs') ∨ (k' = 3 ∧ strC k' bs' n' h' l' = bs') := by
    rcases KS with ⟨rfl, rfl, _⟩ | ⟨rfl, _⟩ | ⟨rfl, _⟩ | ⟨rfl, _⟩ <;> simp [strC]
  clear KS IA R wh wl
  generalize strC k' bs' n' h' l' = r at *
  generalize textL (zof n' h' l') = t at *
  rcases KS2 with ⟨rfl, rfl⟩ | ⟨rfl, rfl⟩ | ⟨rfl, rfl⟩ | ⟨rfl, rfl⟩
  all_goals
    generalize strN bs = S at *
    go_enter Try.func30, Try.ntmps30
    go_wp2_with (first
      | (go_at_call 61; refine (RT.out _).mono ?_; rintro e w2 ⟨rfl, q2⟩; have b5a_2 := Lib.hid (HA.out.below q2); have b5a_20 := b5a_2.out.c0; have b5a_21 := b5a_2.out.c1; have b5a_22 := b5a_2.out.c2; have b5a_23 := b5a_2.out.c3; have b5a_24 := b5a_2.out.c4; have b5a_2f0 := b5a_2.out.f0; have b5a_2f1 := b5a_2.out.f1; have b5a_2f2 := b5a_2.out.f2; have b5a_2f3 := b5a_2.out.f3; have b5a_2f4 := b5a_2.out.f4; have b5a_2z := b5a_2.out.z)
      | (go_at_call 28; refine (TX.out _).mono ?_; rintro e w3 ⟨rfl, q3⟩))
    go_ret
    exact ⟨by first | rfl | simp [strN], by (repeat' (first | (with_reducible exact Below.refl _ _) | (refine Below.trans ?_ (Below.mono (by with_reducible assumption) ?_)) | (with_reducible exact Below.refl _ _) | (with_reducible refine below_drewN ?_ _) | (with_reducible refine Below.drew ?_) | (with_reducible refine Below.setCell ?_ ?_ _) | (with_reducible refine Below.alloc ?_ ?_ _) | (with_reducible assumption) | (simp; done) | (simp; omega) | omega))⟩
theorem field_cS (a b d e : Value) (S : ByteArray) (w : World) : (Instr.field 41 (.agg #[a, .string S, b, d, e]) 1).run Try.prog w = .ok (.string S) w := by
  simp [Instr.field, run_underlying Try.underlying41, asAgg, go_sem]
set_option maxRecDepth 100000 in
set_option maxHeartbeats 800000 in
theorem csize_any {k : Int} {bs : List Nat} {n : Bool} {h l : Int} {k' : Int} {bs' : List Nat} {n' : Bool} {h' l' : Int} (R : RightOf k bs n h l k' bs' n' h' l') (hl : bs'.length ≤ 140737488351232) (w : World) :
    Calls Try.prog 33 #[.agg #[.int .i64 k, .string (strN bs), .bool n, .int .u64 h, .int .u64 l]] w fun e w' => e = .returned (.int .i64 (16 + (bs'.length : Int))) ∧ Below w.heap.size w w' := by
  have RT := Lib.hid R.run
  have hsz := strN_size bs'
  have HA := Lib.hid (Box5.make w (.int .i64 k) (.string (strN bs)) (.bool n) (.int .u64 h) (.int .u64 l) 41 rfl)
  generalize strN bs = S at *
  generalize strN bs' = S' at *
  rw [← hsz] at hl ⊢
  clear hsz R
  have hfi := field_cS
  go_enter Try.func33, Try.ntmps33
  go_wp2_with (first
      | (go_at_call 61; refine (RT.out _).mono ?_; rintro e w2 ⟨rfl, q2⟩; have b5a_2 := Lib.hid (HA.out.below q2); have b5a_20 := b5a_2.out.c0; have b5a_21 := b5a_2.out.c1; have b5a_22 := b5a_2.out.c2; have b5a_23 := b5a_2.out.c3; have b5a_24 := b5a_2.out.c4; have b5a_2f0 := b5a_2.out.f0; have b5a_2f1 := b5a_2.out.f1; have b5a_2f2 := b5a_2.out.f2; have b5a_2f3 := b5a_2.out.f3; have b5a_2f4 := b5a_2.out.f4; have b5a_2z := b5a_2.out.z))
  go_ret
  exact ⟨by simp, by (repeat' (first | (with_reducible exact Below.refl _ _) | (refine Below.trans ?_ (Below.mono (by with_reducible assumption) ?_)) | (with_reducible exact Below.refl _ _) | (with_reducible refine below_drewN ?_ _) | (with_reducible refine Below.drew ?_) | (with_reducible refine Below.setCell ?_ ?_ _) | (with_reducible refine Below.alloc ?_ ?_ _) | (with_reducible assumption) | (simp; done) | (simp; omega) | omega))⟩
set_option maxRecDepth 100000 in
set_option maxHeartbeats 800000 in
theorem ctruth_any {k : Int} {bs : List Nat} {n : Bool} {h l : Int} {k' : Int} {bs' : List Nat} {n' : Bool} {h' l' : Int} (R : RightOf k bs n h l k' bs' n' h' l') (w : World) :
    Calls Try.prog 29 #[.agg #[.int .i64 k, .string (strN bs), .bool n, .int .u64 h, .int .u64 l]] w fun e w' => e = .returned (.bool (truC k' bs' n' h' l')) ∧ Below w.heap.size w w' := by
  have RT := Lib.hid R.run
  have KS := R.kinds
  have HA := Lib.hid (Box5.make w (.int .i64 k) (.string (strN bs)) (.bool n) (.int .u64 h) (.int .u64 l) 41 rfl)
  have hS0 := strN_nil bs'
  have KS2 : (k' = 0 ∧ truC k' bs' n' h' l' = false) ∨ ((k' = 1 ∨ k' = 3) ∧ truC k' bs' n' h' l' = !(!n' && (decide (h' = 0) && decide (l' = 0)))) ∨ (k' = 2 ∧ truC k' bs' n' h' l' = !(strN bs').toList.isEmpty) := by
    rcases KS with ⟨rfl, rfl, rfl, rfl, rfl⟩ | ⟨rfl, _⟩ | ⟨rfl, _⟩ | ⟨rfl, _⟩
    · left; simp [truC]
    · right; left; simp [truC]
    · right; right; refine ⟨rfl, ?_⟩; unfold truC; rw [if_pos rfl]; congr 1; rw [Bool.eq_iff_iff, decide_eq_true_eq, List.isEmpty_iff]; exact hS0.symm
    · right; left; simp [truC]
  clear KS R hS0
  generalize truC k' bs' n' h' l' = r at *
  generalize strN bs' = S' at *
  generalize strN bs = S at *
  rcases KS2 with ⟨rfl, hr⟩ | ⟨rfl | rfl, hr⟩ | ⟨rfl, hr⟩
  all_goals
    have HB := Lib.hid hr
    clear hr
    go_enter Try.func29, Try.ntmps29
    go_wp2_with (first
      | (go_at_call 61; refine (RT.out _).mono ?_; rintro e w2 ⟨rfl, q2⟩; have b5a_2 := Lib.hid (HA.out.below q2); have b5a_20 := b5a_2.out.c0; have b5a_21 := b5a_2.out.c1; have b5a_22 := b5a_2.out.c2; have b5a_23 := b5a_2.out.c3; have b5a_24 := b5a_2.out.c4; have b5a_2f0 := b5a_2.out.f0; have b5a_2f1 := b5a_2.out.f1; have b5a_2f2 := b5a_2.out.f2; have b5a_2f3 := b5a_2.out.f3; have b5a_2f4 := b5a_2.out.f4; have b5a_2z := b5a_2.out.z))
    all_goals
      go_ret
      exact ⟨by simp [HB.out, *], by (repeat' (first | (with_reducible exact Below.refl _ _) | (refine Below.trans ?_ (Below.mono (by with_reducible assumption) ?_)) | (with_reducible exact Below.refl _ _) | (with_reducible refine below_drewN ?_ _) | (with_reducible refine Below.drew ?_) | (with_reducible refine Below.setCell ?_ ?_ _) | (with_reducible refine Below.alloc ?_ ?_ _) | (with_reducible assumption) | (simp; done) | (simp; omega) | omega))⟩
theorem pM_over {bs : List Nat} (h : pOver bs = true) : pM bs = 0 ∧ pP bs = false := by
  have h1 : pM bs = 0 := by
    unfold pM
    have : pOk bs = false := by
      unfold pOver at h
      unfold pOk
      rw [Bool.and_eq_true, decide_eq_true_eq, decide_eq_true_eq] at h
      rw [Bool.and_eq_false_iff]
      right
      rw [decide_eq_false_iff_not]; omega
    rw [this]; rfl
  exact ⟨h1, by unfold pP; rw [h1]; simp⟩
end Go.Proofs.Ytkhhjibpppmekaa
