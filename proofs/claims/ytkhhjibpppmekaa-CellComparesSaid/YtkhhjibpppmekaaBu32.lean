/- Several texts put together: LawX. -/
import Derived.Test.YtkhhjibpppmekaaBu22
import Derived.Test.YtkhhjibpppmekaaBu31
import Derived.Test.YtkhhjibpppmekaaBu15
/- fieldfarelaw09.CellCompares: the walk, the law. -/
namespace Go.Proofs.Ytkhhjibpppmekaa
open Go.RowKit
theorem cmpN_swap : ∀ (a b : List Nat), cmpN b a = -cmpN a b
  | [], [] => rfl
  | [], _ :: _ => rfl
  | _ :: _, [] => rfl
  | x :: a, y :: b => by
    simp only [cmpN]
    by_cases h1 : x < y
    · rw [if_neg (by omega), if_pos h1, if_pos h1]; rfl
    · by_cases h2 : y < x
      · rw [if_pos h2, if_neg h1, if_pos h2]
      · rw [if_neg h2, if_neg h1, if_neg h1, if_neg h2]; exact cmpN_swap a b
theorem cmpN_self : ∀ (a : List Nat), cmpN a a = 0
  | [] => rfl
  | x :: a => by simp only [cmpN]; rw [if_neg (by omega), if_neg (by omega)]; exact cmpN_self a
theorem cmpN_cases : ∀ (a b : List Nat), cmpN a b = -1 ∨ cmpN a b = 0 ∨ cmpN a b = 1
  | [], [] => .inr (.inl rfl)
  | [], _ :: _ => .inl rfl
  | _ :: _, [] => .inr (.inr rfl)
  | x :: a, y :: b => by
    simp only [cmpN]
    by_cases h1 : x < y
    · rw [if_pos h1]; exact .inl rfl
    · rw [if_neg h1]
      by_cases h2 : y < x
      · rw [if_pos h2]; exact .inr (.inr rfl)
      · rw [if_neg h2]; exact cmpN_cases a b
theorem strC_bytes {k : Int} {bs : List Nat} {n : Bool} {h l : Int} (hb : ∀ x ∈ bs, x < 256) {N : Nat} (hl : bs.length ≤ N) (hN : 39 ≤ N) : (∀ x ∈ strC k bs n h l, x < 256) ∧ (strC k bs n h l).length ≤ N := by
  unfold strC
  split
  · exact ⟨textL_bytes _, Nat.le_trans (textL_len _) hN⟩
  · exact ⟨hb, hl⟩
theorem rstring_any {k : Int} {bs : List Nat} {n : Bool} {h l : Int} {k' : Int} {bs' : List Nat} {n' : Bool} {h' l' : Int} (R : RightOf k bs n h l k' bs' n' h' l') (hb : ∀ x ∈ bs, x < 256) (hl : bs.length ≤ 100000) (wh : Wd h) (wl : Wd l) (W : World) :
    Calls Try.prog 39 #[.agg #[.int .i64 k, .string (strN bs), .bool n, .int .u64 h, .int .u64 l]] W fun e w' => e = .returned (.string (strN (strC k' bs' n' h' l'))) ∧ Below W.heap.size W w' := by
  have RG := fun W => rcgood_any k bs n h l W hb hl wh wl
  rcases R.is with ⟨hg, rfl, rfl, rfl, rfl, rfl⟩ | ⟨hg, rfl, rfl, rfl, rfl, rfl⟩
  · rw [hg] at RG
    have IA := of_good wh wl (goodC_goodB hg)
    by_cases h1 : k' = 1
    · subst h1
      refine rstr_x W RG (fun _ _ W => ?_) (.inr (.inl ⟨rfl, rfl⟩))
      obtain ⟨a1, a2⟩ := IA.1
      obtain ⟨b1, b2⟩ := IA.2.1
      generalize zof n' h' l' = z at *
      obtain ⟨x, rfl⟩ := Int.eq_ofNat_of_zero_le a1
      obtain ⟨y, rfl⟩ := Int.eq_ofNat_of_zero_le b1
      have := rtext_ok n' x y z W (by omega) (by omega) IA
      have e : strC 1 bs' n' (x : Int) (y : Int) = textL z := by
        unfold strC; rw [if_pos rfl]
        congr 1
        have := (of_good IA.1 IA.2.1 (good_of IA))
        obtain ⟨_, _, c1, c2, _⟩ := this
        obtain ⟨_, _, d1, d2, _⟩ := IA
        have : decide (zof n' (x : Int) (y : Int) < 0) = decide (z < 0) := by rw [← c2, ← d2]
        rw [decide_eq_decide] at this
        omega
      rw [e]; exact this
    · refine rstr_x W RG (fun _ h => absurd h h1) (.inr (.inr ⟨rfl, beq_eq_false_iff_ne.2 h1, ?_⟩))
      unfold strC; rw [if_neg h1]
  · rw [hg] at RG
    exact rstr_x W RG (fun h => by cases h) (.inl ⟨rfl, rfl⟩)
theorem rnumber_any {k : Int} {bs : List Nat} {n : Bool} {h l : Int} {k' : Int} {bs' : List Nat} {n' : Bool} {h' l' : Int} (R : RightOf k bs n h l k' bs' n' h' l') (hb : ∀ x ∈ bs, x < 256) (hl : bs.length ≤ 100000) (wh : Wd h) (wl : Wd l) (h2 : k' ≠ 2) (W : World) :
    Calls Try.prog 36 #[.agg #[.int .i64 k, .string (strN bs), .bool n, .int .u64 h, .int .u64 l]] W (RNum n' (zof n' h' l').natAbs 0 W) := by
  have RG := fun W => rcgood_any k bs n h l W hb hl wh wl
  rcases R.is with ⟨hg, rfl, rfl, rfl, rfl, rfl⟩ | ⟨hg, rfl, rfl, rfl, rfl, rfl⟩
  · rw [hg] at RG
    exact rnum_of W (of_good wh wl (goodC_goodB hg)) (beq_eq_false_iff_ne.2 h2) RG
  · rw [hg] at RG
    exact rnum_bad W RG
theorem kind_flag {k : Int} {bs : List Nat} {n : Bool} {h l : Int} {k' : Int} {bs' : List Nat} {n' : Bool} {h' l' : Int} (R : RightOf k bs n h l k' bs' n' h' l') : (k' = 2 → goodC k bs n h l = true ∧ k = 2) ∧ (k' ≠ 2 → goodC k bs n h l = false ∨ (goodC k bs n h l = true ∧ (k == 2) = false)) := by
  rcases R.is with ⟨hg, rfl, rfl, rfl, rfl, rfl⟩ | ⟨hg, rfl, rfl, rfl, rfl, rfl⟩
  · exact ⟨fun e => ⟨hg, e⟩, fun e => .inr ⟨hg, beq_eq_false_iff_ne.2 e⟩⟩
  · exact ⟨fun e => absurd e (by decide), fun _ => .inl hg⟩
theorem rccompare_any {k : Int} {bs : List Nat} {n : Bool} {h l : Int} {k' : Int} {bs' : List Nat} {n' : Bool} {h' l' : Int} {m : Int} {ds : List Nat} {o : Bool} {i j : Int} {m' : Int} {ds' : List Nat} {o' : Bool} {i' j' : Int}
    (R : RightOf k bs n h l k' bs' n' h' l') (Q : RightOf m ds o i j m' ds' o' i' j') (hb : ∀ x ∈ bs, x < 256) (hl : bs.length ≤ 1000) (hd : ∀ x ∈ ds, x < 256) (hm : ds.length ≤ 1000) (wh : Wd h) (wl : Wd l) (wi : Wd i) (wj : Wd j) (w : World) :
    Calls Try.prog 27 #[.agg #[.int .i64 k, .string (strN bs), .bool n, .int .u64 h, .int .u64 l], .agg #[.int .i64 m, .string (strN ds), .bool o, .int .u64 i, .int .u64 j]] w fun e w' => e = .returned (.int .i64 (cmpC k' bs' n' h' l' m' ds' o' i' j')) ∧ Below w.heap.size w w' := by
  have GA := fun W => rcgood_any k bs n h l W hb (by omega) wh wl
  have GB := fun W => rcgood_any m ds o i j W hd (by omega) wi wj
  obtain ⟨hb', hl'⟩ := R.bytes hb hl
  obtain ⟨hd', hm'⟩ := Q.bytes hd hm
  obtain ⟨wh', wl'⟩ := R.words wh wl
  obtain ⟨wi', wj'⟩ := Q.words wi wj
  unfold cmpC
  by_cases hk : k' = 2 ∨ m' = 2
  · rw [if_pos hk]
    have b1 := strC_bytes (k := k') (n := n') (h := h') (l := l') hb' hl' (by decide)
    have b2 := strC_bytes (k := m') (n := o') (h := i') (l := j') hd' hm' (by decide)
    refine rccmp_text w b1.1 b2.1 b1.2 b2.2 GA GB (fun W => rstring_any R hb (by omega) wh wl W) (fun W => rstring_any Q hd (by omega) wi wj W) ?_
    by_cases h2 : k' = 2
    · exact .inl ((kind_flag R).1 h2)
    · exact .inr ⟨(kind_flag R).2 h2, (kind_flag Q).1 (by omega)⟩
  · rw [if_neg hk]
    have ia := of_good wh' wl' R.good
    have ib := of_good wi' wj' Q.good
    exact rccmp_num w GA GB (fun W => rnumber_any R hb (by omega) wh wl (by omega) W) (fun W => rnumber_any Q hd (by omega) wi wj (by omega) W) ia.2.2.2.1 ib.2.2.2.1 (len36 ia.2.2.2.2) (len36 ib.2.2.2.2) ((kind_flag R).2 (by omega)) ((kind_flag Q).2 (by omega))
set_option maxRecDepth 100000 in
set_option maxHeartbeats 1600000 in
theorem ccompares_x {k m : Int} {S T : ByteArray} (hS : S.size ≤ 200) (hT : T.size ≤ 200) {n o : Bool} {h l i j c : Int} (hc : -1 ≤ c ∧ c ≤ 1)
    (C10 : ∀ W, Calls Try.prog 26 #[.agg #[.int .i64 k, .string S, .bool n, .int .u64 h, .int .u64 l], .agg #[.int .i64 m, .string T, .bool o, .int .u64 i, .int .u64 j]] W fun e w' => e = .returned (.int .i64 c) ∧ Below W.heap.size W w')
    (RC0 : ∀ W, Calls Try.prog 27 #[.agg #[.int .i64 k, .string S, .bool n, .int .u64 h, .int .u64 l], .agg #[.int .i64 m, .string T, .bool o, .int .u64 i, .int .u64 j]] W fun e w' => e = .returned (.int .i64 c) ∧ Below W.heap.size W w')
    (C20 : ∀ W, Calls Try.prog 26 #[.agg #[.int .i64 m, .string T, .bool o, .int .u64 i, .int .u64 j], .agg #[.int .i64 k, .string S, .bool n, .int .u64 h, .int .u64 l]] W fun e w' => e = .returned (.int .i64 (-c)) ∧ Below W.heap.size W w')
    (C30 : ∀ W, Calls Try.prog 26 #[.agg #[.int .i64 k, .string S, .bool n, .int .u64 h, .int .u64 l], .agg #[.int .i64 k, .string S, .bool n, .int .u64 h, .int .u64 l]] W fun e w' => e = .returned (.int .i64 0) ∧ Below W.heap.size W w') (w : World) :
    Calls Try.prog 5 #[.agg #[.int .i64 k, .string S, .bool n, .int .u64 h, .int .u64 l], .agg #[.int .i64 m, .string T, .bool o, .int .u64 i, .int .u64 j]] w fun e w' => e = .returned (.bool true) ∧ Below w.heap.size w w' := by
  have C1 := Lib.hid C10; have RC := Lib.hid RC0; have C2 := Lib.hid C20; have C3 := Lib.hid C30
  obtain ⟨hc1, hc2⟩ := hc
  have HA := Lib.hid ((Box5.make w (.int .i64 k) (.string S) (.bool n) (.int .u64 h) (.int .u64 l) 41 rfl).alloc (.cells #[.int .i64 m, .string T, .bool o, .int .u64 i, .int .u64 j] 41))
  have HB := Lib.hid (Box5.make (w.alloc (.cells #[.int .i64 k, .string S, .bool n, .int .u64 h, .int .u64 l] 41)) (.int .i64 m) (.string T) (.bool o) (.int .u64 i) (.int .u64 j) 41 (g := w.heap.size + 1) (by simp))
  have HB0 := Lib.hid (show Below w.heap.size w ((w.alloc (.cells #[.int .i64 k, .string S, .bool n, .int .u64 h, .int .u64 l] 41)).alloc (.cells #[.int .i64 m, .string T, .bool o, .int .u64 i, .int .u64 j] 41)) by (repeat' (first | (with_reducible exact Below.refl _ _) | (refine Below.trans ?_ (Below.mono (by with_reducible assumption) ?_)) | (with_reducible exact Below.refl _ _) | (with_reducible refine below_drewN ?_ _) | (with_reducible refine Below.drew ?_) | (with_reducible refine Below.setCell ?_ ?_ _) | (with_reducible refine Below.alloc ?_ ?_ _) | (with_reducible assumption) | (simp; done) | (simp; omega) | omega)))
  have e1 : (c == c) = true := by simp
  have e2 : (-c == -c) = true := by simp
  clear C10 RC0 C20 C30
  go_enter Try.func5, Try.ntmps5
  go_wp2_with (first
    | (go_at_call 20; refine (awake9_any _).mono ?_; rintro e w2 ⟨rfl, q2⟩; have b5a_2 := Lib.hid (HA.out.below q2); have b5a_20 := b5a_2.out.c0; have b5a_21 := b5a_2.out.c1; have b5a_22 := b5a_2.out.c2; have b5a_23 := b5a_2.out.c3; have b5a_24 := b5a_2.out.c4; have b5a_2f0 := b5a_2.out.f0; have b5a_2f1 := b5a_2.out.f1; have b5a_2f2 := b5a_2.out.f2; have b5a_2f3 := b5a_2.out.f3; have b5a_2f4 := b5a_2.out.f4; have b5a_2z := b5a_2.out.z; have b5b_2 := Lib.hid (HB.out.below q2); have b5b_20 := b5b_2.out.c0; have b5b_21 := b5b_2.out.c1; have b5b_22 := b5b_2.out.c2; have b5b_23 := b5b_2.out.c3; have b5b_24 := b5b_2.out.c4; have b5b_2f0 := b5b_2.out.f0; have b5b_2f1 := b5b_2.out.f1; have b5b_2f2 := b5b_2.out.f2; have b5b_2f3 := b5b_2.out.f3; have b5b_2f4 := b5b_2.out.f4; have b5b_2z := b5b_2.out.z; have HB2 := Lib.hid (HB0.out.trans (q2.mono HB0.out.size)))
    | (go_at_call 26; (with_reducible refine (C3.out _).mono ?_); rintro e w6 ⟨rfl, b6⟩; have p6 : Below w5.heap.size w5 w6 := Below.trans (by repeat' (first | (with_reducible assumption) | (with_reducible exact Below.refl _ _) | (with_reducible refine Below.drew ?_) | (with_reducible refine below_drewN ?_ _) | (with_reducible refine Below.alloc ?_ ?_ _) | (with_reducible exact Nat.le_refl _) | (simp; done) | (simp; omega) | omega)) (Below.mono b6 (by first | omega | (simp; done) | (simp; omega))); have b5a_6 := Lib.hid (Box5.below b5a_5.out p6); have b5a_60 := b5a_6.out.c0; have b5a_61 := b5a_6.out.c1; have b5a_62 := b5a_6.out.c2; have b5a_63 := b5a_6.out.c3; have b5a_64 := b5a_6.out.c4; have b5a_6f0 := b5a_6.out.f0; have b5a_6f1 := b5a_6.out.f1; have b5a_6f2 := b5a_6.out.f2; have b5a_6f3 := b5a_6.out.f3; have b5a_6f4 := b5a_6.out.f4; have b5a_6z := b5a_6.out.z; have b5b_6 := Lib.hid (Box5.below b5b_5.out p6); have b5b_60 := b5b_6.out.c0; have b5b_61 := b5b_6.out.c1; have b5b_62 := b5b_6.out.c2; have b5b_63 := b5b_6.out.c3; have b5b_64 := b5b_6.out.c4; have b5b_6f0 := b5b_6.out.f0; have b5b_6f1 := b5b_6.out.f1; have b5b_6f2 := b5b_6.out.f2; have b5b_6f3 := b5b_6.out.f3; have b5b_6f4 := b5b_6.out.f4; have b5b_6z := b5b_6.out.z)
    | (go_at_call 26; (with_reducible refine (C2.out _).mono ?_); rintro e w5 ⟨rfl, b5⟩; have p5 : Below w4.heap.size w4 w5 := Below.trans (by repeat' (first | (with_reducible assumption) | (with_reducible exact Below.refl _ _) | (with_reducible refine Below.drew ?_) | (with_reducible refine below_drewN ?_ _) | (with_reducible refine Below.alloc ?_ ?_ _) | (with_reducible exact Nat.le_refl _) | (simp; done) | (simp; omega) | omega)) (Below.mono b5 (by first | omega | (simp; done) | (simp; omega))); have b5a_5 := Lib.hid (Box5.below b5a_4.out p5); have b5a_50 := b5a_5.out.c0; have b5a_51 := b5a_5.out.c1; have b5a_52 := b5a_5.out.c2; have b5a_53 := b5a_5.out.c3; have b5a_54 := b5a_5.out.c4; have b5a_5f0 := b5a_5.out.f0; have b5a_5f1 := b5a_5.out.f1; have b5a_5f2 := b5a_5.out.f2; have b5a_5f3 := b5a_5.out.f3; have b5a_5f4 := b5a_5.out.f4; have b5a_5z := b5a_5.out.z; have b5b_5 := Lib.hid (Box5.below b5b_4.out p5); have b5b_50 := b5b_5.out.c0; have b5b_51 := b5b_5.out.c1; have b5b_52 := b5b_5.out.c2; have b5b_53 := b5b_5.out.c3; have b5b_54 := b5b_5.out.c4; have b5b_5f0 := b5b_5.out.f0; have b5b_5f1 := b5b_5.out.f1; have b5b_5f2 := b5b_5.out.f2; have b5b_5f3 := b5b_5.out.f3; have b5b_5f4 := b5b_5.out.f4; have b5b_5z := b5b_5.out.z)
    | (go_at_call 27; (with_reducible refine (RC.out _).mono ?_); rintro e w4 ⟨rfl, b4⟩; have p4 : Below w3.heap.size w3 w4 := Below.trans (by repeat' (first | (with_reducible assumption) | (with_reducible exact Below.refl _ _) | (with_reducible refine Below.drew ?_) | (with_reducible refine below_drewN ?_ _) | (with_reducible refine Below.alloc ?_ ?_ _) | (with_reducible exact Nat.le_refl _) | (simp; done) | (simp; omega) | omega)) (Below.mono b4 (by first | omega | (simp; done) | (simp; omega))); have b5a_4 := Lib.hid (Box5.below b5a_3.out p4); have b5a_40 := b5a_4.out.c0; have b5a_41 := b5a_4.out.c1; have b5a_42 := b5a_4.out.c2; have b5a_43 := b5a_4.out.c3; have b5a_44 := b5a_4.out.c4; have b5a_4f0 := b5a_4.out.f0; have b5a_4f1 := b5a_4.out.f1; have b5a_4f2 := b5a_4.out.f2; have b5a_4f3 := b5a_4.out.f3; have b5a_4f4 := b5a_4.out.f4; have b5a_4z := b5a_4.out.z; have b5b_4 := Lib.hid (Box5.below b5b_3.out p4); have b5b_40 := b5b_4.out.c0; have b5b_41 := b5b_4.out.c1; have b5b_42 := b5b_4.out.c2; have b5b_43 := b5b_4.out.c3; have b5b_44 := b5b_4.out.c4; have b5b_4f0 := b5b_4.out.f0; have b5b_4f1 := b5b_4.out.f1; have b5b_4f2 := b5b_4.out.f2; have b5b_4f3 := b5b_4.out.f3; have b5b_4f4 := b5b_4.out.f4; have b5b_4z := b5b_4.out.z)
    | (go_at_call 26; (with_reducible refine (C1.out _).mono ?_); rintro e w3 ⟨rfl, b3⟩; have p3 : Below w2.heap.size w2 w3 := Below.trans (by repeat' (first | (with_reducible assumption) | (with_reducible exact Below.refl _ _) | (with_reducible refine Below.drew ?_) | (with_reducible refine below_drewN ?_ _) | (with_reducible refine Below.alloc ?_ ?_ _) | (with_reducible exact Nat.le_refl _) | (simp; done) | (simp; omega) | omega)) (Below.mono b3 (by first | omega | (simp; done) | (simp; omega))); have b5a_3 := Lib.hid (Box5.below b5a_2.out p3); have b5a_30 := b5a_3.out.c0; have b5a_31 := b5a_3.out.c1; have b5a_32 := b5a_3.out.c2; have b5a_33 := b5a_3.out.c3; have b5a_34 := b5a_3.out.c4; have b5a_3f0 := b5a_3.out.f0; have b5a_3f1 := b5a_3.out.f1; have b5a_3f2 := b5a_3.out.f2; have b5a_3f3 := b5a_3.out.f3; have b5a_3f4 := b5a_3.out.f4; have b5a_3z := b5a_3.out.z; have b5b_3 := Lib.hid (Box5.below b5b_2.out p3); have b5b_30 := b5b_3.out.c0; have b5b_31 := b5b_3.out.c1; have b5b_32 := b5b_3.out.c2; have b5b_33 := b5b_3.out.c3; have b5b_34 := b5b_3.out.c4; have b5b_3f0 := b5b_3.out.f0; have b5b_3f1 := b5b_3.out.f1; have b5b_3f2 := b5b_3.out.f2; have b5b_3f3 := b5b_3.out.f3; have b5b_3f4 := b5b_3.out.f4; have b5b_3z := b5b_3.out.z))
  go_ret
  exact ⟨by simp, by refine (below_step (below_step (below_step (below_step HB2.out p3) p4) p5) p6).trans ?_; (repeat' (first | (with_reducible exact Below.refl _ _) | (refine Below.trans ?_ (Below.mono (by with_reducible assumption) ?_)) | (with_reducible exact Below.refl _ _) | (with_reducible refine below_drewN ?_ _) | (with_reducible refine Below.drew ?_) | (with_reducible refine Below.setCell ?_ ?_ _) | (with_reducible refine Below.alloc ?_ ?_ _) | (with_reducible assumption) | (simp; done) | (simp; omega) | omega))⟩
theorem cmpC_swap {k : Int} {bs : List Nat} {n : Bool} {h l m : Int} {ds : List Nat} {o : Bool} {i j : Int} (hb : ∀ x ∈ bs, x < 256) (hl : bs.length ≤ 1000) (hd : ∀ x ∈ ds, x < 256) (hm : ds.length ≤ 1000) : cmpC m ds o i j k bs n h l = -cmpC k bs n h l m ds o i j := by
  have b1 := strC_bytes (k := k) (n := n) (h := h) (l := l) hb hl (by decide)
  have b2 := strC_bytes (k := m) (n := o) (h := i) (l := j) hd hm (by decide)
  unfold cmpC
  by_cases hk : k = 2 ∨ m = 2
  · rw [if_pos hk, if_pos (Or.symm hk), cmpS_N b1.1 b2.1, cmpS_N b2.1 b1.1]; exact cmpN_swap _ _
  · rw [if_neg hk, if_neg (fun h => hk (Or.symm h)), cmpZ_swap]
theorem cmpC_cases {k : Int} {bs : List Nat} {n : Bool} {h l m : Int} {ds : List Nat} {o : Bool} {i j : Int} (hb : ∀ x ∈ bs, x < 256) (hl : bs.length ≤ 1000) (hd : ∀ x ∈ ds, x < 256) (hm : ds.length ≤ 1000) : -1 ≤ cmpC k bs n h l m ds o i j ∧ cmpC k bs n h l m ds o i j ≤ 1 := by
  have b1 := strC_bytes (k := k) (n := n) (h := h) (l := l) hb hl (by decide)
  have b2 := strC_bytes (k := m) (n := o) (h := i) (l := j) hd hm (by decide)
  unfold cmpC
  by_cases hk : k = 2 ∨ m = 2
  · rw [if_pos hk, cmpS_N b1.1 b2.1]
    rcases cmpN_cases (strC k bs n h l) (strC m ds o i j) with e | e | e <;> omega
  · rw [if_neg hk]
    rcases cmpZ_cases (zof n h l) (zof o i j) with e | e | e <;> omega
theorem cmpC_self {k : Int} {bs : List Nat} {n : Bool} {h l : Int} (hb : ∀ x ∈ bs, x < 256) (hl : bs.length ≤ 1000) : cmpC k bs n h l k bs n h l = 0 := by
  have := cmpC_swap (k := k) (n := n) (h := h) (l := l) (m := k) (o := n) (i := h) (j := l) hb hl hb hl
  omega
theorem ccompares_law (k : Int) (S : ByteArray) (n : Bool) (h l : Int) (m : Int) (T : ByteArray) (o : Bool) (i j : Int) (w : World) (_ : -9223372036854775808 ≤ k ∧ k < 9223372036854775808) (_ : S.size ≤ maxLen) (wh : Wd h) (wl : Wd l) (_ : -9223372036854775808 ≤ m ∧ m < 9223372036854775808) (_ : T.size ≤ maxLen) (wi : Wd i) (wj : Wd j) :
    Calls Try.prog 5 #[.agg #[.int .i64 k, .string S, .bool n, .int .u64 h, .int .u64 l], .agg #[.int .i64 m, .string T, .bool o, .int .u64 i, .int .u64 j]] w fun e w' => e = .returned (.bool true) ∧ Below w.heap.size w w' := by
  by_cases hS : S.size ≤ 200
  · by_cases hT : T.size ≤ 200
    · have hb := numsS_lt S
      have hlen := numsS_len S
      have hSS := strN_numsS S
      have hd := numsS_lt T
      have hlen' := numsS_len T
      have hTT := strN_numsS T
      generalize numsS S = bs at *
      generalize numsS T = ds at *
      obtain ⟨k', bs', n', h', l', R⟩ := right_ex k bs n h l hb (by omega)
      obtain ⟨m', ds', o', i', j', Q⟩ := right_ex m ds o i j hd (by omega)
      obtain ⟨hb', hl'⟩ := R.bytes hb (N := 1000) (by omega)
      obtain ⟨hd', hm'⟩ := Q.bytes hd (N := 1000) (by omega)
      obtain ⟨wh', wl'⟩ := R.words wh wl
      obtain ⟨wi', wj'⟩ := Q.words wi wj
      have C1 := fun W => ccompare_any R Q hb' (by omega) hd' (by omega) wh' wl' wi' wj' W
      have RC := fun W => rccompare_any R Q hb (by omega) hd (by omega) wh wl wi wj W
      have C2 := fun W => ccompare_any Q R hd' (by omega) hb' (by omega) wi' wj' wh' wl' W
      have C3 := fun W => ccompare_any R R hb' (by omega) hb' (by omega) wh' wl' wh' wl' W
      rw [cmpC_swap hb' hl' hd' hm'] at C2
      rw [cmpC_self hb' hl'] at C3
      rw [hSS, hTT] at C1 RC C2
      rw [hSS] at C3
      exact ccompares_x hS hT (cmpC_cases hb' hl' hd' hm') C1 RC C2 C3 w
    · have hT' : (200 : Int) < (T.size : Int) := by omega
      have hS' : (S.size : Int) ≤ 200 := by omega
      clear hS hT wh wl wi wj
      have HA := Lib.hid ((Box5.make w (.int .i64 k) (.string S) (.bool n) (.int .u64 h) (.int .u64 l) 41 rfl).alloc (.cells #[.int .i64 m, .string T, .bool o, .int .u64 i, .int .u64 j] 41))
      have HB := Lib.hid (Box5.make (w.alloc (.cells #[.int .i64 k, .string S, .bool n, .int .u64 h, .int .u64 l] 41)) (.int .i64 m) (.string T) (.bool o) (.int .u64 i) (.int .u64 j) 41 (g := w.heap.size + 1) (by simp))
      go_enter Try.func5, Try.ntmps5
      go_wp2_with (go_at_call 20; refine (awake9_any _).mono ?_; rintro e w2 ⟨rfl, q2⟩; have b5a_2 := Lib.hid (HA.out.below q2); have b5a_20 := b5a_2.out.c0; have b5a_21 := b5a_2.out.c1; have b5a_22 := b5a_2.out.c2; have b5a_23 := b5a_2.out.c3; have b5a_24 := b5a_2.out.c4; have b5a_2f0 := b5a_2.out.f0; have b5a_2f1 := b5a_2.out.f1; have b5a_2f2 := b5a_2.out.f2; have b5a_2f3 := b5a_2.out.f3; have b5a_2f4 := b5a_2.out.f4; have b5a_2z := b5a_2.out.z; have b5b_2 := Lib.hid (HB.out.below q2); have b5b_20 := b5b_2.out.c0; have b5b_21 := b5b_2.out.c1; have b5b_22 := b5b_2.out.c2; have b5b_23 := b5b_2.out.c3; have b5b_24 := b5b_2.out.c4; have b5b_2f0 := b5b_2.out.f0; have b5b_2f1 := b5b_2.out.f1; have b5b_2f2 := b5b_2.out.f2; have b5b_2f3 := b5b_2.out.f3; have b5b_2f4 := b5b_2.out.f4; have b5b_2z := b5b_2.out.z)
      go_ret
      exact ⟨rfl, by (repeat' (first | (with_reducible exact Below.refl _ _) | (refine Below.trans ?_ (Below.mono (by with_reducible assumption) ?_)) | (with_reducible exact Below.refl _ _) | (with_reducible refine below_drewN ?_ _) | (with_reducible refine Below.drew ?_) | (with_reducible refine Below.setCell ?_ ?_ _) | (with_reducible refine Below.alloc ?_ ?_ _) | (with_reducible assumption) | (simp; done) | (simp; omega) | omega))⟩
  · have hS' : (200 : Int) < (S.size : Int) := by omega
    clear hS wh wl wi wj
    have HA := Lib.hid ((Box5.make w (.int .i64 k) (.string S) (.bool n) (.int .u64 h) (.int .u64 l) 41 rfl).alloc (.cells #[.int .i64 m, .string T, .bool o, .int .u64 i, .int .u64 j] 41))
    have HB := Lib.hid (Box5.make (w.alloc (.cells #[.int .i64 k, .string S, .bool n, .int .u64 h, .int .u64 l] 41)) (.int .i64 m) (.string T) (.bool o) (.int .u64 i) (.int .u64 j) 41 (g := w.heap.size + 1) (by simp))
    go_enter Try.func5, Try.ntmps5
    go_wp2_with (go_at_call 20; refine (awake9_any _).mono ?_; rintro e w2 ⟨rfl, q2⟩; have b5a_2 := Lib.hid (HA.out.below q2); have b5a_20 := b5a_2.out.c0; have b5a_21 := b5a_2.out.c1; have b5a_22 := b5a_2.out.c2; have b5a_23 := b5a_2.out.c3; have b5a_24 := b5a_2.out.c4; have b5a_2f0 := b5a_2.out.f0; have b5a_2f1 := b5a_2.out.f1; have b5a_2f2 := b5a_2.out.f2; have b5a_2f3 := b5a_2.out.f3; have b5a_2f4 := b5a_2.out.f4; have b5a_2z := b5a_2.out.z; have b5b_2 := Lib.hid (HB.out.below q2); have b5b_20 := b5b_2.out.c0; have b5b_21 := b5b_2.out.c1; have b5b_22 := b5b_2.out.c2; have b5b_23 := b5b_2.out.c3; have b5b_24 := b5b_2.out.c4; have b5b_2f0 := b5b_2.out.f0; have b5b_2f1 := b5b_2.out.f1; have b5b_2f2 := b5b_2.out.f2; have b5b_2f3 := b5b_2.out.f3; have b5b_2f4 := b5b_2.out.f4; have b5b_2z := b5b_2.out.z)
    go_ret
    exact ⟨rfl, by (repeat' (first | (with_reducible exact Below.refl _ _) | (refine Below.trans ?_ (Below.mono (by with_reducible assumption) ?_)) | (with_reducible exact Below.refl _ _) | (with_reducible refine below_drewN ?_ _) | (with_reducible refine Below.drew ?_) | (with_reducible refine Below.setCell ?_ ?_ _) | (with_reducible refine Below.alloc ?_ ?_ _) | (with_reducible assumption) | (simp; done) | (simp; omega) | omega))⟩
end Go.Proofs.Ytkhhjibpppmekaa
