/- Several texts put together: LawW. -/
import Derived.Test.YtkhhjibpppmekaaBu30
/- fieldfarelaw09.CellTells: the law. -/
namespace Go.Proofs.Ytkhhjibpppmekaa
open Go.RowKit
theorem zof_pq (bs : List Nat) : IsD (pP bs) (mh (pM bs)) (ml (pM bs)) (zof (pP bs) (mh (pM bs)) (ml (pM bs))) ∧ (zof (pP bs) (mh (pM bs)) (ml (pM bs))).natAbs = pM bs := by
  have hM := mh_wd (N := pM bs) (by have := pM_lt bs; unfold LIM; omega)
  have i := of_good hM.1 hM.2 (good_pq bs)
  refine ⟨i, ?_⟩
  have h3 := i.2.2.1
  unfold mh ml at h3 ⊢
  omega
theorem errV_code2 (o : Bool) (W : World) : Calls Try.prog 16 #[errV o] W fun e w' => e = .returned (.int .i64 (if o then 2 else 0)) ∧ Below W.heap.size W w' :=
  (code_errV o W).mono fun e w' ⟨h1, h2⟩ => ⟨h1, by subst h2; exact Below.refl _ _⟩
theorem of_ri {n : Bool} {h l z : Int} (i : IsD n h l z) {N : Nat} (hN : z.natAbs = N) (W : World) :
    Calls Try.prog 18 #[.agg #[.bool n, .int .u64 h, .int .u64 l]] W fun e w' => (∃ A c, e = .returned (.agg #[.bool n, .slice A (dg N).length c]) ∧ RI w' w'.heap.size A (dg N)) ∧ Below W.heap.size W w' := by
  subst hN
  exact (of_ds i W).mono fun e w' ⟨⟨A, c, h1, h2⟩, h3⟩ => ⟨⟨A, c, h1, h2.1⟩, h3⟩
theorem same_self {xa : Bool} {N : Nat} (hl : (dg N).length ≤ 1000) (A A' : Option Addr) (c c' : Nat) (W1 W : World) (hr : RI W1 W1.heap.size A (dg N)) (hr' : RI W1 W1.heap.size A' (dg N)) (q : Below W1.heap.size W1 W) :
    Calls Try.prog 38 #[.agg #[.bool xa, .slice A (dg N).length c], .agg #[.bool xa, .slice A' (dg N).length c']] W fun e w' => e = .returned (.bool true) ∧ Below W.heap.size W w' :=
  same_r hr hr' hl hl (by simp) q
theorem rtext_i {n : Bool} {h l z : Int} (i : IsD n h l z) (W : World) :
    Calls Try.prog 71 #[.agg #[.bool n, .int .u64 h, .int .u64 l]] W fun e w' => e = .returned (.string (strN (textL z))) ∧ Below W.heap.size W w' := by
  obtain ⟨a1, a2⟩ := i.1
  obtain ⟨b1, b2⟩ := i.2.1
  obtain ⟨x, rfl⟩ := Int.eq_ofNat_of_zero_le a1
  obtain ⟨y, rfl⟩ := Int.eq_ofNat_of_zero_le b1
  exact rtext_ok n x y z W (by omega) (by omega) i
theorem dg1000 {z : Int} {n : Bool} {h l : Int} (i : IsD n h l z) {N : Nat} (hN : z.natAbs = N) : (dg N).length ≤ 1000 := by
  subst hN; exact Nat.le_trans (len36 i.2.2.2.2) (by decide)
theorem rnum_as {k : Int} {S : ByteArray} {n : Bool} {h l : Int} {s s' : Bool} {K K' : Nat} {C C' : Int} (h1 : s = s') (h2 : K = K') (h3 : C = C') (R : ∀ W, Calls Try.prog 36 #[.agg #[.int .i64 k, .string S, .bool n, .int .u64 h, .int .u64 l]] W (RNum s K C W)) :
    ∀ W, Calls Try.prog 36 #[.agg #[.int .i64 k, .string S, .bool n, .int .u64 h, .int .u64 l]] W (RNum s' K' C' W) := by subst h1 h2 h3; exact R
theorem ctells_law (k : Int) (S : ByteArray) (n : Bool) (h l : Int) (w : World) (_ : -9223372036854775808 ≤ k ∧ k < 9223372036854775808) (_ : S.size ≤ maxLen) (wh : Wd h) (wl : Wd l) :
    Calls Try.prog 10 #[.agg #[.int .i64 k, .string S, .bool n, .int .u64 h, .int .u64 l]] w fun e w' => e = .returned (.bool true) ∧ Below w.heap.size w w' := by
  by_cases hS : S.size ≤ 200
  · have hb := numsS_lt S
    have hlen := numsS_len S
    have hSS := strN_numsS S
    generalize numsS S = bs at *
    have hl : bs.length ≤ 140737488351232 := by omega
    have hl' : bs.length ≤ 100000 := by omega
    have w0 : Wd 0 := ⟨by decide, by decide⟩
    have RG := fun W => rcgood_any k bs n h l W hb hl' wh wl
    have GD := fun W => cgood_any k bs n h l W hb hl
    have nil0 : strN [] = { data := #[] } := rfl
    cases hg : goodC k bs n h l
    · have R : RightOf k bs n h l 0 [] false 0 0 := ⟨.inr ⟨hg, rfl, rfl, rfl, rfl, rfl⟩, fun W => right_bad hb hl hg W⟩
      have NU := fun W => cnumber_any R (by simp) (by decide) W
      have ST := fun W => cstring_any R w0 w0 W
      have TR := fun W => ctruth_any R W
      have AR := fun W => carg_any R (by simp) (by decide) w0 w0 rfl W
      have SZ := fun W => csize_any R (by decide) W
      have i0 : IsD false 0 0 0 := isD_0
      rw [hg] at RG GD
      rw [hSS] at RG GD NU ST TR AR SZ
      rw [show truC 0 [] false 0 0 = false by decide] at TR
      exact ctells_bad (fl := false) (P := { data := #[] }) (N := 0) (b := false) hS NU (fun W => rnum_bad W RG) RG GD (fun W => errV_code2 false W) (fun W => of_ri i0 rfl W) (same_self (by decide)) ST (fun W => rstr_x W RG (P := { data := #[] }) (fun hk => by cases hk) (.inl ⟨rfl, rfl⟩)) TR (fun W => rtruth_x W RG (.inl ⟨rfl, rfl⟩)) AR SZ w
    · have R := right_self hb hl hg
      have hgb := goodC_goodB hg
      have IA := of_good wh wl hgb
      have NU := fun W => cnumber_any R hb hl W
      have ST := fun W => cstring_any R wh wl W
      have TR := fun W => ctruth_any R W
      have SZ := fun W => csize_any R hl W
      rw [hg] at RG GD
      unfold NumV at NU
      have ht : truC k bs n h l = if k = 2 then !S.toList.isEmpty else !(!n && (decide (h = 0) && decide (l = 0))) := by
        unfold truC
        split
        · congr 1; rw [← hSS, Bool.eq_iff_iff, decide_eq_true_eq, List.isEmpty_iff]; exact (strN_nil bs).symm
        · rfl
      rw [hlen] at SZ
      by_cases h2 : k = 2
      · subst h2
        obtain ⟨IP, hIP⟩ := zof_pq bs
        rw [show numO 2 bs = pOver bs from rfl, show numN' 2 bs n = pP bs from rfl, show numH 2 bs h = mh (pM bs) from rfl, show numL 2 bs l = ml (pM bs) from rfl] at NU
        rw [if_pos rfl] at ht
        rw [ht] at TR
        rw [show strC 2 bs n h l = bs from rfl] at ST
        rw [hSS] at RG GD NU ST TR SZ
        have PF := fun W => rprefix_q bs W hb hl'
        rw [hSS] at PF
        have RN := fun W => rnum_text W RG PF
        have RS := fun W => rstr_x W RG (P := S) (fun _ hk => by cases hk) (.inr (.inr ⟨rfl, by decide, rfl⟩))
        have RT := fun W => rtruth_x W RG (b := !S.toList.isEmpty) (.inr (.inl ⟨rfl, rfl, rfl⟩))
        have CO := fun W => errV_code2 (pOver bs) W
        cases ho : pOver bs
        · have AR := fun W => carg_any R hb hl wh wl ho W
          rw [show strC 2 bs n h l = bs from rfl, show numN' 2 bs n = pP bs from rfl, show numH 2 bs h = mh (pM bs) from rfl, show numL 2 bs l = ml (pM bs) from rfl, show isNum 2 = false by decide, hSS] at AR
          rw [ho] at NU RN CO
          exact ctells_rest (fl := false) hS (by decide) (by decide) NU RN RG GD CO (fun W => of_ri IP hIP W) (same_self (dg1000 IP hIP)) ST RS TR RT AR SZ w
        · have AR := fun W => carg_over R hb hl wh wl ho W
          rw [hSS] at AR
          rw [ho] at NU RN CO
          exact ctells_over (fl := false) hS NU RN RG GD CO (fun W => of_ri IP hIP W) (same_self (dg1000 IP hIP)) ST RS TR RT AR SZ w
      · have hk2 : (k == 2) = false := beq_eq_false_iff_ne.2 h2
        have eo : numO k bs = false := by unfold numO; rw [if_neg h2]
        have en : numN' k bs n = n := by unfold numN'; rw [if_neg h2]
        have eh : numH k bs h = h := by unfold numH; rw [if_neg h2]
        have el : numL k bs l = l := by unfold numL; rw [if_neg h2]
        have AR := fun W => carg_any R hb hl wh wl eo W
        rw [eo, en, eh, el] at NU
        rw [en, eh, el] at AR
        rw [if_neg h2] at ht
        rw [ht] at TR
        rw [hSS] at RG GD NU ST TR SZ AR
        have RN := fun W => rnum_of W IA hk2 RG
        have RT := fun W => rtruth_x W RG (b := !(!n && (decide (h = 0) && decide (l = 0)))) (.inr (.inr ⟨rfl, hk2, rfl⟩))
        have CO := fun W => errV_code2 false W
        by_cases h1 : k = 1
        · subst h1
          rw [show strC 1 bs n h l = textL (zof n h l) from rfl] at ST AR
          rw [show isNum 1 = true by decide] at AR
          have RS := fun W => rstr_x W RG (P := strN (textL (zof n h l))) (fun _ _ W => rtext_i IA W) (.inr (.inl ⟨rfl, rfl⟩))
          exact ctells_num (fl := true) hS NU RN RG GD CO (fun W => of_ri IA rfl W) (same_self (dg1000 IA rfl)) ST RS TR RT AR SZ w
        · have hk1 : (k == 1) = false := beq_eq_false_iff_ne.2 h1
          rw [show strC k bs n h l = bs by unfold strC; rw [if_neg h1], hSS] at ST AR
          have RS := fun W => rstr_x W RG (P := S) (fun _ hk => absurd hk h1) (.inr (.inr ⟨rfl, hk1, rfl⟩))
          have e3 : isNum k = (k == 3) := by
            unfold isNum
            rw [Bool.eq_iff_iff, decide_eq_true_eq, beq_iff_eq]
            constructor
            · rintro (h | h)
              · exact absurd h h1
              · exact h
            · exact .inr
          rw [e3] at AR
          exact ctells_rest (fl := (k == 3)) hS hk1 rfl NU RN RG GD CO (fun W => of_ri IA rfl W) (same_self (dg1000 IA rfl)) ST RS TR RT AR SZ w
  · have hS' : (200 : Int) < (S.size : Int) := by omega
    clear hS wh wl
    have HA := Lib.hid (Box5.make w (.int .i64 k) (.string S) (.bool n) (.int .u64 h) (.int .u64 l) 41 rfl)
    go_enter Try.func10, Try.ntmps10
    go_wp2_with (go_at_call 20; refine (awake9_any _).mono ?_; rintro e w1 ⟨rfl, b1⟩; have b5c_1 := Lib.hid (HA.out.below b1); have b5c_10 := b5c_1.out.c0; have b5c_11 := b5c_1.out.c1; have b5c_12 := b5c_1.out.c2; have b5c_13 := b5c_1.out.c3; have b5c_14 := b5c_1.out.c4; have b5c_1f0 := b5c_1.out.f0; have b5c_1f1 := b5c_1.out.f1; have b5c_1f2 := b5c_1.out.f2; have b5c_1f3 := b5c_1.out.f3; have b5c_1f4 := b5c_1.out.f4; have b5c_1z := b5c_1.out.z)
    go_ret
    exact ⟨rfl, by (repeat' (first | (with_reducible exact Below.refl _ _) | (refine Below.trans ?_ (Below.mono (by with_reducible assumption) ?_)) | (with_reducible exact Below.refl _ _) | (with_reducible refine below_drewN ?_ _) | (with_reducible refine Below.drew ?_) | (with_reducible refine Below.setCell ?_ ?_ _) | (with_reducible refine Below.alloc ?_ ?_ _) | (with_reducible assumption) | (simp; done) | (simp; omega) | omega))⟩
end Go.Proofs.Ytkhhjibpppmekaa
