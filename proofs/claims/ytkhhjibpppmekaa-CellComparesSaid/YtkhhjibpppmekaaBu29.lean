/- Several texts put together: RefX, RefY. -/
import Derived.Test.YtkhhjibpppmekaaBu28
/- fieldfareref01.Cmp at digits of any capacity; fieldfareref09: Number, Compare. -/
namespace Go.Proofs.Ytkhhjibpppmekaa
open Go.RowKit
theorem same_r {n m : Bool} {A A' : Option Addr} {c c' N M : Nat} {W1 W : World} (h : RI W1 W1.heap.size A (dg N)) (h' : RI W1 W1.heap.size A' (dg M)) (hl : (dg N).length ≤ 1000) (hl' : (dg M).length ≤ 1000) {b : Bool} (hb : (n == m && decide (N = M)) = b) (q : Below W1.heap.size W1 W) :
    Calls Try.prog 38 #[.agg #[.bool n, .slice A (dg N).length c], .agg #[.bool m, .slice A' (dg M).length c']] W fun e w' => e = .returned (.bool b) ∧ Below W.heap.size W w' := by
  subst hb
  exact same_any n m A A' c c' N M W W1.heap.size q.size (h.below q) (h'.below q) (by omega) (by omega)
theorem less_r {A A' : Option Addr} {c c' N M : Nat} {W1 W : World} (h : RI W1 W1.heap.size A (dg N)) (h' : RI W1 W1.heap.size A' (dg M)) (hl : (dg N).length ≤ 1000) (q : Below W1.heap.size W1 W) :
    Calls Try.prog 70 #[.slice A (dg N).length c, .slice A' (dg M).length c'] W fun e w' => e = .returned (.bool (decide (N < M))) ∧ Below W.heap.size W w' := by
  refine (less_any A A' c c' N M W W1.heap.size (h.below q) (h'.below q) (by omega)).mono ?_
  rintro e w' ⟨he, k, rfl⟩
  exact ⟨he, below_drewN (Below.refl _ _) k⟩
set_option maxRecDepth 100000 in
set_option maxHeartbeats 1600000 in
theorem rcmp_r {n m : Bool} {A A' : Option Addr} {c c' : Nat} {za zb : Int} (hn : n = zn za) (hm : m = zn zb) (w0 w : World) (h : RI w0 w0.heap.size A (dg za.natAbs)) (h' : RI w0 w0.heap.size A' (dg zb.natAbs)) (hl : (dg za.natAbs).length ≤ 36) (hl' : (dg zb.natAbs).length ≤ 36) (q : Below w0.heap.size w0 w) :
    Calls Try.prog 63 #[.agg #[.bool n, .slice A (dg za.natAbs).length c], .agg #[.bool m, .slice A' (dg zb.natAbs).length c']] w fun e w' => e = .returned (.int .i64 (cmpZ za zb)) ∧ Below w.heap.size w w' := by
  have hcas : (n = m ∧ za = zb) ∨ (n = m ∧ za ≠ zb ∧ za.natAbs ≠ zb.natAbs) ∨ (n = false ∧ m = true) ∨ (n = true ∧ m = false) := by
    by_cases h1 : n = m
    · by_cases h2 : za = zb
      · exact .inl ⟨h1, h2⟩
      · refine .inr (.inl ⟨h1, h2, ?_⟩)
        rw [hn, hm] at h1
        unfold zn at h1
        rw [decide_eq_decide] at h1
        omega
    · cases n <;> cases m
      · exact absurd rfl h1
      · exact .inr (.inr (.inl ⟨rfl, rfl⟩))
      · exact .inr (.inr (.inr ⟨rfl, rfl⟩))
      · exact absurd rfl h1
  have hw2 : Below w.heap.size w ((w.alloc (.cells #[.bool n, .slice A (dg za.natAbs).length c] 34)).alloc (.cells #[.bool m, .slice A' (dg zb.natAbs).length c'] 34)) := by (repeat' (first | (with_reducible exact Below.refl _ _) | (refine Below.trans ?_ (Below.mono (by with_reducible assumption) ?_)) | (with_reducible exact Below.refl _ _) | (with_reducible refine below_drewN ?_ _) | (with_reducible refine Below.drew ?_) | (with_reducible refine Below.setCell ?_ ?_ _) | (with_reducible refine Below.alloc ?_ ?_ _) | (with_reducible assumption) | (simp; done) | (simp; omega) | omega))
  have Q2 := q.trans (hw2.mono q.size)
  have HA := Lib.hid ((h.below Q2).more Q2.size); have HB := Lib.hid ((h'.below Q2).more Q2.size)
  clear Q2
  rcases hcas with ⟨rfl, rfl⟩ | ⟨rfl, h1, h2⟩ | ⟨rfl, rfl⟩ | ⟨rfl, rfl⟩
  · have S := Lib.hid (fun W qq => same_r (n := n) (m := n) (b := true) (c := c) (c' := c') HA.out HB.out (W := W) (by omega) (by omega) (by simp) qq)
    have hc0 : cmpZ za za = 0 := by simp [cmpZ]
    rw [hc0]
    obtain ⟨l, hl0⟩ : ∃ l, l = (dg za.natAbs).length := ⟨_, rfl⟩
    rw [← hl0] at S ⊢
    clear HA HB hw2 h h' hl hl' q hn hm hc0 hl0
    go_enter Try.func63, Try.ntmps63
    go_wp2_with (first | (go_at_call 38; (with_reducible refine (S.out _ (by repeat' (first | (with_reducible exact Below.refl _ _) | (with_reducible assumption) | (with_reducible refine Below.drew ?_) | (with_reducible refine below_drewN ?_ _) | (with_reducible refine Below.alloc ?_ ?_ _) | (with_reducible exact Nat.le_refl _) | (simp; done) | (simp; omega)))).mono ?_); rintro e w3 ⟨rfl, b3⟩; have hs_b3 := Below.size b3; (try simp at hs_b3)))
    (try simp only [Exit.inBlock, Exit.then]); refine bodyPost_ret (by simp [results, Try.results63, go_sem, *]; try rfl) rfl ?_
    exact ⟨rfl, by (repeat' (first | (with_reducible exact Below.refl _ _) | (refine Below.trans ?_ (Below.mono (by with_reducible assumption) ?_)) | (with_reducible exact Below.refl _ _) | (with_reducible refine below_drewN ?_ _) | (with_reducible refine Below.drew ?_) | (with_reducible refine Below.setCell ?_ ?_ _) | (with_reducible refine Below.alloc ?_ ?_ _) | (with_reducible assumption) | (simp; done) | (simp; omega) | omega))⟩
  · have S := Lib.hid (fun W qq => same_r (n := n) (m := n) (b := false) (c := c) (c' := c') HA.out HB.out (W := W) (by omega) (by omega) (by simp [h2]) qq)
    have LS := Lib.hid (fun W qq => less_r (c := c) (c' := c') HA.out HB.out (W := W) (by omega) qq)
    have hc : cmpZ za zb = (if decide (za.natAbs < zb.natAbs) = n then 1 else -1) := by
      have e1 := hn; have e2 := hm
      unfold zn at e1 e2
      unfold cmpZ
      cases n
      · have a1 : ¬ za < 0 := by symm at e1; rwa [decide_eq_false_iff_not] at e1
        have a2 : ¬ zb < 0 := by symm at e2; rwa [decide_eq_false_iff_not] at e2
        by_cases hlt : za.natAbs < zb.natAbs
        · rw [decide_eq_true hlt, if_pos (by omega)]; rfl
        · rw [decide_eq_false hlt, if_neg (by omega), if_neg h1]; rfl
      · have a1 : za < 0 := by symm at e1; rwa [decide_eq_true_eq] at e1
        have a2 : zb < 0 := by symm at e2; rwa [decide_eq_true_eq] at e2
        by_cases hlt : za.natAbs < zb.natAbs
        · rw [decide_eq_true hlt, if_neg (by omega), if_neg h1]; rfl
        · rw [decide_eq_false hlt, if_pos (by omega)]; rfl
    rw [hc]
    obtain ⟨b, hb⟩ : ∃ b, b = decide (za.natAbs < zb.natAbs) := ⟨_, rfl⟩
    rw [← hb] at LS ⊢
    obtain ⟨l, hl0⟩ : ∃ l, l = (dg za.natAbs).length := ⟨_, rfl⟩
    obtain ⟨l', hl0'⟩ : ∃ l, l = (dg zb.natAbs).length := ⟨_, rfl⟩
    rw [← hl0, ← hl0'] at S LS ⊢
    clear HA HB hw2 h h' hl hl' q hn hm hc hl0 hl0' hb h1 h2
    cases n <;> cases b
    · go_enter Try.func63, Try.ntmps63
      go_upto_region 7 with (first | (go_at_call 38; (with_reducible refine (S.out _ (by repeat' (first | (with_reducible exact Below.refl _ _) | (with_reducible assumption) | (with_reducible refine Below.drew ?_) | (with_reducible refine below_drewN ?_ _) | (with_reducible refine Below.alloc ?_ ?_ _) | (with_reducible exact Nat.le_refl _) | (simp; done) | (simp; omega)))).mono ?_); rintro e w3 ⟨rfl, b3⟩; have ya_3 : Hid (BoxN w3 w.heap.size false (.slice A l c)) := Lib.hid (((BoxN.make w false (.slice A l c) rfl).alloc _).below b3); have yb_3 : Hid (BoxN w3 (w.heap.size + 1) false (.slice A' l' c')) := Lib.hid ((BoxN.make (w.alloc _) false (.slice A' l' c') (by simp)).below b3); have ya_4 := Lib.hid (ya_3.out); have ya_40 := ya_4.out.c0; have ya_41 := ya_4.out.c1; have ya_42 := ya_4.out.f0; have ya_43 := ya_4.out.f1; have ya_4z := ya_4.out.z; have yb_4 := Lib.hid (yb_3.out); have yb_40 := yb_4.out.c0; have yb_41 := yb_4.out.c1; have yb_42 := yb_4.out.f0; have yb_43 := yb_4.out.f1; have yb_4z := yb_4.out.z))
      have z3 := b3.size
      have p3 : Below w.heap.size w w3 := by (repeat' (first | (with_reducible exact Below.refl _ _) | (refine Below.trans ?_ (Below.mono (by with_reducible assumption) ?_)) | (with_reducible exact Below.refl _ _) | (with_reducible refine below_drewN ?_ _) | (with_reducible refine Below.drew ?_) | (with_reducible refine Below.setCell ?_ ?_ _) | (with_reducible refine Below.alloc ?_ ?_ _) | (with_reducible assumption) | (simp; done) | (simp; omega) | omega))
      go_region_held3 (fun w' => w'.cell? ⟨w.heap.size, 0, none⟩ = some (.bool false) ∧ w'.cell? ⟨w.heap.size, 1, none⟩ = some ((.slice A l c)) ∧ w'.cell? ⟨w.heap.size + 1, 0, none⟩ = some (.bool false) ∧ w'.cell? ⟨w.heap.size + 1, 1, none⟩ = some ((.slice A' l' c'))) ((and_intros <;> (first | (with_reducible assumption) | (go_simp; done) | (simp (maxDischargeDepth := 12) [go_sem]; done) | (simp (maxDischargeDepth := 12) [go_sem, *]; done) | exact (Below.cell (by with_reducible assumption) (by first | (simp; done) | (simp; omega) | omega)).trans (by simp (maxDischargeDepth := 12) [go_sem]))))
        (first | (go_at_call 70; (with_reducible refine (LS.out _ (by refine Below.trans b3 (Below.mono (B := w3.heap.size) ?_ z3); repeat' (first | (with_reducible exact Below.refl _ _) | (with_reducible refine Below.drew ?_) | (with_reducible refine below_drewN ?_ _)))).mono ?_); rintro e w5 ⟨rfl, b5⟩; have p5 : Below w3.heap.size w3 w5 := Below.trans (by repeat' (first | (with_reducible assumption) | (with_reducible exact Below.refl _ _) | (with_reducible refine Below.drew ?_) | (with_reducible refine below_drewN ?_ _) | (with_reducible refine Below.alloc ?_ ?_ _) | (with_reducible exact Nat.le_refl _) | (simp; done) | (simp; omega) | omega)) (Below.mono b5 (by first | omega | (simp; done) | (simp; omega))); have ya_5 := Lib.hid (BoxN.below ya_4.out p5); have ya_50 := ya_5.out.c0; have ya_51 := ya_5.out.c1; have ya_52 := ya_5.out.f0; have ya_53 := ya_5.out.f1; have ya_5z := ya_5.out.z; have yb_5 := Lib.hid (BoxN.below yb_4.out p5); have yb_50 := yb_5.out.c0; have yb_51 := yb_5.out.c1; have yb_52 := yb_5.out.f0; have yb_53 := yb_5.out.f1; have yb_5z := yb_5.out.z))
      go_wp2_with fail
      (try simp only [Exit.inBlock, Exit.then]); refine bodyPost_ret (by simp [results, Try.results63, go_sem, *]; try rfl) rfl ?_
      exact ⟨rfl, p3.trans (by refine (Below.trans (p5.mono p3.size) ?_); (repeat' (first | (with_reducible exact Below.refl _ _) | (refine Below.trans ?_ (Below.mono (by with_reducible assumption) ?_)) | (with_reducible exact Below.refl _ _) | (with_reducible refine below_drewN ?_ _) | (with_reducible refine Below.drew ?_) | (with_reducible refine Below.setCell ?_ ?_ _) | (with_reducible refine Below.alloc ?_ ?_ _) | (with_reducible assumption) | (simp; done) | (simp; omega) | omega)))⟩
    · go_enter Try.func63, Try.ntmps63
      go_upto_region 7 with (first | (go_at_call 38; (with_reducible refine (S.out _ (by repeat' (first | (with_reducible exact Below.refl _ _) | (with_reducible assumption) | (with_reducible refine Below.drew ?_) | (with_reducible refine below_drewN ?_ _) | (with_reducible refine Below.alloc ?_ ?_ _) | (with_reducible exact Nat.le_refl _) | (simp; done) | (simp; omega)))).mono ?_); rintro e w3 ⟨rfl, b3⟩; have ya_3 : Hid (BoxN w3 w.heap.size false (.slice A l c)) := Lib.hid (((BoxN.make w false (.slice A l c) rfl).alloc _).below b3); have yb_3 : Hid (BoxN w3 (w.heap.size + 1) false (.slice A' l' c')) := Lib.hid ((BoxN.make (w.alloc _) false (.slice A' l' c') (by simp)).below b3); have ya_4 := Lib.hid (ya_3.out); have ya_40 := ya_4.out.c0; have ya_41 := ya_4.out.c1; have ya_42 := ya_4.out.f0; have ya_43 := ya_4.out.f1; have ya_4z := ya_4.out.z; have yb_4 := Lib.hid (yb_3.out); have yb_40 := yb_4.out.c0; have yb_41 := yb_4.out.c1; have yb_42 := yb_4.out.f0; have yb_43 := yb_4.out.f1; have yb_4z := yb_4.out.z))
      have z3 := b3.size
      have p3 : Below w.heap.size w w3 := by (repeat' (first | (with_reducible exact Below.refl _ _) | (refine Below.trans ?_ (Below.mono (by with_reducible assumption) ?_)) | (with_reducible exact Below.refl _ _) | (with_reducible refine below_drewN ?_ _) | (with_reducible refine Below.drew ?_) | (with_reducible refine Below.setCell ?_ ?_ _) | (with_reducible refine Below.alloc ?_ ?_ _) | (with_reducible assumption) | (simp; done) | (simp; omega) | omega))
      go_region_held3 (fun w' => w'.cell? ⟨w.heap.size, 0, none⟩ = some (.bool false) ∧ w'.cell? ⟨w.heap.size, 1, none⟩ = some ((.slice A l c)) ∧ w'.cell? ⟨w.heap.size + 1, 0, none⟩ = some (.bool false) ∧ w'.cell? ⟨w.heap.size + 1, 1, none⟩ = some ((.slice A' l' c'))) ((and_intros <;> (first | (with_reducible assumption) | (go_simp; done) | (simp (maxDischargeDepth := 12) [go_sem]; done) | (simp (maxDischargeDepth := 12) [go_sem, *]; done) | exact (Below.cell (by with_reducible assumption) (by first | (simp; done) | (simp; omega) | omega)).trans (by simp (maxDischargeDepth := 12) [go_sem]))))
        (first | (go_at_call 70; (with_reducible refine (LS.out _ (by refine Below.trans b3 (Below.mono (B := w3.heap.size) ?_ z3); repeat' (first | (with_reducible exact Below.refl _ _) | (with_reducible refine Below.drew ?_) | (with_reducible refine below_drewN ?_ _)))).mono ?_); rintro e w5 ⟨rfl, b5⟩; have p5 : Below w3.heap.size w3 w5 := Below.trans (by repeat' (first | (with_reducible assumption) | (with_reducible exact Below.refl _ _) | (with_reducible refine Below.drew ?_) | (with_reducible refine below_drewN ?_ _) | (with_reducible refine Below.alloc ?_ ?_ _) | (with_reducible exact Nat.le_refl _) | (simp; done) | (simp; omega) | omega)) (Below.mono b5 (by first | omega | (simp; done) | (simp; omega))); have ya_5 := Lib.hid (BoxN.below ya_4.out p5); have ya_50 := ya_5.out.c0; have ya_51 := ya_5.out.c1; have ya_52 := ya_5.out.f0; have ya_53 := ya_5.out.f1; have ya_5z := ya_5.out.z; have yb_5 := Lib.hid (BoxN.below yb_4.out p5); have yb_50 := yb_5.out.c0; have yb_51 := yb_5.out.c1; have yb_52 := yb_5.out.f0; have yb_53 := yb_5.out.f1; have yb_5z := yb_5.out.z))
      go_wp2_with fail
      (try simp only [Exit.inBlock, Exit.then]); refine bodyPost_ret (by simp [results, Try.results63, go_sem, *]; try rfl) rfl ?_
      exact ⟨rfl, p3.trans (by refine (Below.trans (p5.mono p3.size) ?_); (repeat' (first | (with_reducible exact Below.refl _ _) | (refine Below.trans ?_ (Below.mono (by with_reducible assumption) ?_)) | (with_reducible exact Below.refl _ _) | (with_reducible refine below_drewN ?_ _) | (with_reducible refine Below.drew ?_) | (with_reducible refine Below.setCell ?_ ?_ _) | (with_reducible refine Below.alloc ?_ ?_ _) | (with_reducible assumption) | (simp; done) | (simp; omega) | omega)))⟩
    · go_enter Try.func63, Try.ntmps63
      go_upto_region 7 with (first | (go_at_call 38; (with_reducible refine (S.out _ (by repeat' (first | (with_reducible exact Below.refl _ _) | (with_reducible assumption) | (with_reducible refine Below.drew ?_) | (with_reducible refine below_drewN ?_ _) | (with_reducible refine Below.alloc ?_ ?_ _) | (with_reducible exact Nat.le_refl _) | (simp; done) | (simp; omega)))).mono ?_); rintro e w3 ⟨rfl, b3⟩; have ya_3 : Hid (BoxN w3 w.heap.size true (.slice A l c)) := Lib.hid (((BoxN.make w true (.slice A l c) rfl).alloc _).below b3); have yb_3 : Hid (BoxN w3 (w.heap.size + 1) true (.slice A' l' c')) := Lib.hid ((BoxN.make (w.alloc _) true (.slice A' l' c') (by simp)).below b3); have ya_4 := Lib.hid (ya_3.out); have ya_40 := ya_4.out.c0; have ya_41 := ya_4.out.c1; have ya_42 := ya_4.out.f0; have ya_43 := ya_4.out.f1; have ya_4z := ya_4.out.z; have yb_4 := Lib.hid (yb_3.out); have yb_40 := yb_4.out.c0; have yb_41 := yb_4.out.c1; have yb_42 := yb_4.out.f0; have yb_43 := yb_4.out.f1; have yb_4z := yb_4.out.z))
      have z3 := b3.size
      have p3 : Below w.heap.size w w3 := by (repeat' (first | (with_reducible exact Below.refl _ _) | (refine Below.trans ?_ (Below.mono (by with_reducible assumption) ?_)) | (with_reducible exact Below.refl _ _) | (with_reducible refine below_drewN ?_ _) | (with_reducible refine Below.drew ?_) | (with_reducible refine Below.setCell ?_ ?_ _) | (with_reducible refine Below.alloc ?_ ?_ _) | (with_reducible assumption) | (simp; done) | (simp; omega) | omega))
      go_region_held3 (fun w' => w'.cell? ⟨w.heap.size, 0, none⟩ = some (.bool true) ∧ w'.cell? ⟨w.heap.size, 1, none⟩ = some ((.slice A l c)) ∧ w'.cell? ⟨w.heap.size + 1, 0, none⟩ = some (.bool true) ∧ w'.cell? ⟨w.heap.size + 1, 1, none⟩ = some ((.slice A' l' c'))) ((and_intros <;> (first | (with_reducible assumption) | (go_simp; done) | (simp (maxDischargeDepth := 12) [go_sem]; done) | (simp (maxDischargeDepth := 12) [go_sem, *]; done) | exact (Below.cell (by with_reducible assumption) (by first | (simp; done) | (simp; omega) | omega)).trans (by simp (maxDischargeDepth := 12) [go_sem]))))
        (first | (go_at_call 70; (with_reducible refine (LS.out _ (by refine Below.trans b3 (Below.mono (B := w3.heap.size) ?_ z3); repeat' (first | (with_reducible exact Below.refl _ _) | (with_reducible refine Below.drew ?_) | (with_reducible refine below_drewN ?_ _)))).mono ?_); rintro e w5 ⟨rfl, b5⟩; have p5 : Below w3.heap.size w3 w5 := Below.trans (by repeat' (first | (with_reducible assumption) | (with_reducible exact Below.refl _ _) | (with_reducible refine Below.drew ?_) | (with_reducible refine below_drewN ?_ _) | (with_reducible refine Below.alloc ?_ ?_ _) | (with_reducible exact Nat.le_refl _) | (simp; done) | (simp; omega) | omega)) (Below.mono b5 (by first | omega | (simp; done) | (simp; omega))); have ya_5 := Lib.hid (BoxN.below ya_4.out p5); have ya_50 := ya_5.out.c0; have ya_51 := ya_5.out.c1; have ya_52 := ya_5.out.f0; have ya_53 := ya_5.out.f1; have ya_5z := ya_5.out.z; have yb_5 := Lib.hid (BoxN.below yb_4.out p5); have yb_50 := yb_5.out.c0; have yb_51 := yb_5.out.c1; have yb_52 := yb_5.out.f0; have yb_53 := yb_5.out.f1; have yb_5z := yb_5.out.z))
      go_wp2_with fail
      (try simp only [Exit.inBlock, Exit.then]); refine bodyPost_ret (by simp [results, Try.results63, go_sem, *]; try rfl) rfl ?_
      exact ⟨rfl, p3.trans (by refine (Below.trans (p5.mono p3.size) ?_); (repeat' (first | (with_reducible exact Below.refl _ _) | (refine Below.trans ?_ (Below.mono (by with_reducible assumption) ?_)) | (with_reducible exact Below.refl _ _) | (with_reducible refine below_drewN ?_ _) | (with_reducible refine Below.drew ?_) | (with_reducible refine Below.setCell ?_ ?_ _) | (with_reducible refine Below.alloc ?_ ?_ _) | (with_reducible assumption) | (simp; done) | (simp; omega) | omega)))⟩
    · go_enter Try.func63, Try.ntmps63
      go_upto_region 7 with (first | (go_at_call 38; (with_reducible refine (S.out _ (by repeat' (first | (with_reducible exact Below.refl _ _) | (with_reducible assumption) | (with_reducible refine Below.drew ?_) | (with_reducible refine below_drewN ?_ _) | (with_reducible refine Below.alloc ?_ ?_ _) | (with_reducible exact Nat.le_refl _) | (simp; done) | (simp; omega)))).mono ?_); rintro e w3 ⟨rfl, b3⟩; have ya_3 : Hid (BoxN w3 w.heap.size true (.slice A l c)) := Lib.hid (((BoxN.make w true (.slice A l c) rfl).alloc _).below b3); have yb_3 : Hid (BoxN w3 (w.heap.size + 1) true (.slice A' l' c')) := Lib.hid ((BoxN.make (w.alloc _) true (.slice A' l' c') (by simp)).below b3); have ya_4 := Lib.hid (ya_3.out); have ya_40 := ya_4.out.c0; have ya_41 := ya_4.out.c1; have ya_42 := ya_4.out.f0; have ya_43 := ya_4.out.f1; have ya_4z := ya_4.out.z; have yb_4 := Lib.hid (yb_3.out); have yb_40 := yb_4.out.c0; have yb_41 := yb_4.out.c1; have yb_42 := yb_4.out.f0; have yb_43 := yb_4.out.f1; have yb_4z := yb_4.out.z))
      have z3 := b3.size
      have p3 : Below w.heap.size w w3 := by (repeat' (first | (with_reducible exact Below.refl _ _) | (refine Below.trans ?_ (Below.mono (by with_reducible assumption) ?_)) | (with_reducible exact Below.refl _ _) | (with_reducible refine below_drewN ?_ _) | (with_reducible refine Below.drew ?_) | (with_reducible refine Below.setCell ?_ ?_ _) | (with_reducible refine Below.alloc ?_ ?_ _) | (with_reducible assumption) | (simp; done) | (simp; omega) | omega))
      go_region_held3 (fun w' => w'.cell? ⟨w.heap.size, 0, none⟩ = some (.bool true) ∧ w'.cell? ⟨w.heap.size, 1, none⟩ = some ((.slice A l c)) ∧ w'.cell? ⟨w.heap.size + 1, 0, none⟩ = some (.bool true) ∧ w'.cell? ⟨w.heap.size + 1, 1, none⟩ = some ((.slice A' l' c'))) ((and_intros <;> (first | (with_reducible assumption) | (go_simp; done) | (simp (maxDischargeDepth := 12) [go_sem]; done) | (simp (maxDischargeDepth := 12) [go_sem, *]; done) | exact (Below.cell (by with_reducible assumption) (by first | (simp; done) | (simp; omega) | omega)).trans (by simp (maxDischargeDepth := 12) [go_sem]))))
        (first | (go_at_call 70; (with_reducible refine (LS.out _ (by refine Below.trans b3 (Below.mono (B := w3.heap.size) ?_ z3); repeat' (first | (with_reducible exact Below.refl _ _) | (with_reducible refine Below.drew ?_) | (with_reducible refine below_drewN ?_ _)))).mono ?_); rintro e w5 ⟨rfl, b5⟩; have p5 : Below w3.heap.size w3 w5 := Below.trans (by repeat' (first | (with_reducible assumption) | (with_reducible exact Below.refl _ _) | (with_reducible refine Below.drew ?_) | (with_reducible refine below_drewN ?_ _) | (with_reducible refine Below.alloc ?_ ?_ _) | (with_reducible exact Nat.le_refl _) | (simp; done) | (simp; omega) | omega)) (Below.mono b5 (by first | omega | (simp; done) | (simp; omega))); have ya_5 := Lib.hid (BoxN.below ya_4.out p5); have ya_50 := ya_5.out.c0; have ya_51 := ya_5.out.c1; have ya_52 := ya_5.out.f0; have ya_53 := ya_5.out.f1; have ya_5z := ya_5.out.z; have yb_5 := Lib.hid (BoxN.below yb_4.out p5); have yb_50 := yb_5.out.c0; have yb_51 := yb_5.out.c1; have yb_52 := yb_5.out.f0; have yb_53 := yb_5.out.f1; have yb_5z := yb_5.out.z))
      go_wp2_with fail
      (try simp only [Exit.inBlock, Exit.then]); refine bodyPost_ret (by simp [results, Try.results63, go_sem, *]; try rfl) rfl ?_
      exact ⟨rfl, p3.trans (by refine (Below.trans (p5.mono p3.size) ?_); (repeat' (first | (with_reducible exact Below.refl _ _) | (refine Below.trans ?_ (Below.mono (by with_reducible assumption) ?_)) | (with_reducible exact Below.refl _ _) | (with_reducible refine below_drewN ?_ _) | (with_reducible refine Below.drew ?_) | (with_reducible refine Below.setCell ?_ ?_ _) | (with_reducible refine Below.alloc ?_ ?_ _) | (with_reducible assumption) | (simp; done) | (simp; omega) | omega)))⟩
  · have S := Lib.hid (fun W qq => same_r (n := false) (m := true) (b := false) (c := c) (c' := c') HA.out HB.out (W := W) (by omega) (by omega) (by simp) qq)
    have hc : cmpZ za zb = 1 := by
      unfold zn at hn hm; symm at hn hm
      rw [decide_eq_false_iff_not] at hn; rw [decide_eq_true_eq] at hm
      unfold cmpZ; rw [if_neg (by omega), if_neg (by omega)]
    rw [hc]
    obtain ⟨l, hl0⟩ : ∃ l, l = (dg za.natAbs).length := ⟨_, rfl⟩
    obtain ⟨l', hl0'⟩ : ∃ l, l = (dg zb.natAbs).length := ⟨_, rfl⟩
    rw [← hl0, ← hl0'] at S ⊢
    clear HA HB hw2 h h' hl hl' q hn hm hc hl0 hl0'
    go_enter Try.func63, Try.ntmps63
    go_wp2_with (first | (go_at_call 38; (with_reducible refine (S.out _ (by repeat' (first | (with_reducible exact Below.refl _ _) | (with_reducible assumption) | (with_reducible refine Below.drew ?_) | (with_reducible refine below_drewN ?_ _) | (with_reducible refine Below.alloc ?_ ?_ _) | (with_reducible exact Nat.le_refl _) | (simp; done) | (simp; omega)))).mono ?_); rintro e w3 ⟨rfl, b3⟩; have hs_b3 := Below.size b3; (try simp at hs_b3); have k0 : w3.cell? ⟨w.heap.size, 0, none⟩ = some (.bool false) := (Below.cell b3 (by simp <;> omega)).trans (by simp (maxDischargeDepth := 12) [go_sem]); have k2 : w3.cell? ⟨w.heap.size + 1, 0, none⟩ = some (.bool true) := (Below.cell b3 (by simp <;> omega)).trans (by simp (maxDischargeDepth := 12) [go_sem])))
    (try simp only [Exit.inBlock, Exit.then]); refine bodyPost_ret (by simp [results, Try.results63, go_sem, *]; try rfl) rfl ?_
    exact ⟨rfl, by (repeat' (first | (with_reducible exact Below.refl _ _) | (refine Below.trans ?_ (Below.mono (by with_reducible assumption) ?_)) | (with_reducible exact Below.refl _ _) | (with_reducible refine below_drewN ?_ _) | (with_reducible refine Below.drew ?_) | (with_reducible refine Below.setCell ?_ ?_ _) | (with_reducible refine Below.alloc ?_ ?_ _) | (with_reducible assumption) | (simp; done) | (simp; omega) | omega))⟩
  · have S := Lib.hid (fun W qq => same_r (n := true) (m := false) (b := false) (c := c) (c' := c') HA.out HB.out (W := W) (by omega) (by omega) (by simp) qq)
    have hc : cmpZ za zb = -1 := by
      unfold zn at hn hm; symm at hn hm
      rw [decide_eq_true_eq] at hn; rw [decide_eq_false_iff_not] at hm
      unfold cmpZ; rw [if_pos (by omega)]
    rw [hc]
    obtain ⟨l, hl0⟩ : ∃ l, l = (dg za.natAbs).length := ⟨_, rfl⟩
    obtain ⟨l', hl0'⟩ : ∃ l, l = (dg zb.natAbs).length := ⟨_, rfl⟩
    rw [← hl0, ← hl0'] at S ⊢
    clear HA HB hw2 h h' hl hl' q hn hm hc hl0 hl0'
    go_enter Try.func63, Try.ntmps63
    go_wp2_with (first | (go_at_call 38; (with_reducible refine (S.out _ (by repeat' (first | (with_reducible exact Below.refl _ _) | (with_reducible assumption) | (with_reducible refine Below.drew ?_) | (with_reducible refine below_drewN ?_ _) | (with_reducible refine Below.alloc ?_ ?_ _) | (with_reducible exact Nat.le_refl _) | (simp; done) | (simp; omega)))).mono ?_); rintro e w3 ⟨rfl, b3⟩; have hs_b3 := Below.size b3; (try simp at hs_b3); have k0 : w3.cell? ⟨w.heap.size, 0, none⟩ = some (.bool true) := (Below.cell b3 (by simp <;> omega)).trans (by simp (maxDischargeDepth := 12) [go_sem]); have k2 : w3.cell? ⟨w.heap.size + 1, 0, none⟩ = some (.bool false) := (Below.cell b3 (by simp <;> omega)).trans (by simp (maxDischargeDepth := 12) [go_sem])))
    (try simp only [Exit.inBlock, Exit.then]); refine bodyPost_ret (by simp [results, Try.results63, go_sem, *]; try rfl) rfl ?_
    exact ⟨rfl, by (repeat' (first | (with_reducible exact Below.refl _ _) | (refine Below.trans ?_ (Below.mono (by with_reducible assumption) ?_)) | (with_reducible exact Below.refl _ _) | (with_reducible refine below_drewN ?_ _) | (with_reducible refine Below.drew ?_) | (with_reducible refine Below.setCell ?_ ?_ _) | (with_reducible refine Below.alloc ?_ ?_ _) | (with_reducible assumption) | (simp; done) | (simp; omega) | omega))⟩
end Go.Proofs.Ytkhhjibpppmekaa

/- fieldfareref09.Number. -/
namespace Go.Proofs.Ytkhhjibpppmekaa
open Go.RowKit
theorem RI.setNo {w : World} {B : Nat} {A : Option Addr} {ds : List Nat} (h : RI w B A ds) {p : Addr} {v : Value} (hp : w.cell? p = some v) (hv : ∀ k, v ≠ .int .i64 k) (u : Value) : RI (w.setCell p u) B A ds := by
  intro hn
  obtain ⟨ad, e, hb, hc⟩ := h hn
  refine ⟨ad, e, hb, fun j hj => ?_⟩
  have hne : p ≠ ad.add j := by
    rintro rfl
    rw [hc j hj] at hp
    exact hv _ (Option.some.inj hp).symm
  rw [World.cell?_setCell_other w p _ u hne]
  exact hc j hj
theorem RI.box {w : World} {A A' : Option Addr} {ds : List Nat} {l c' g : Nat} {n m : Bool} {u : Value} (h : RI w w.heap.size A ds) (b : Box2 w g (.bool n) (.slice A' l c')) : RI ((w.setCell ⟨g, 0, none⟩ (.bool m)).setCell ⟨g, 1, none⟩ u) ((w.setCell ⟨g, 0, none⟩ (.bool m)).setCell ⟨g, 1, none⟩ u).heap.size A ds := by
  have := (h.setNo b.c0 (by intro k e; cases e) (.bool m)).setNo (p := ⟨g, 1, none⟩) (v := .slice A' l c') (by have := b.c1; have := b.f0; simp (maxDischargeDepth := 12) [go_sem, *]) (by intro k e; cases e) u
  exact this.more (by simp)
/-- What the reference's Number answers: digits of K with a sign, an error's number. -/
def RNum (s : Bool) (K : Nat) (C : Int) (w : World) (e : Ending) (w' : World) : Prop := (∃ A c, e = .returned (.tuple #[.agg #[.bool s, .slice A (dg K).length c], .int .i64 C]) ∧ RI w' w'.heap.size A (dg K)) ∧ Below w.heap.size w w'
set_option maxRecDepth 100000 in
set_option maxHeartbeats 800000 in
theorem rnum_bad {k : Int} {S : ByteArray} {n : Bool} {h l : Int} (w : World)
    (RG0 : ∀ W, Calls Try.prog 37 #[.agg #[.int .i64 k, .string S, .bool n, .int .u64 h, .int .u64 l]] W fun e w' => e = .returned (.bool false) ∧ Below W.heap.size W w') :
    Calls Try.prog 36 #[.agg #[.int .i64 k, .string S, .bool n, .int .u64 h, .int .u64 l]] w (RNum false 0 0 w) := by
  have RG := Lib.hid RG0
  have HR := Lib.hid (Box2.make (w.alloc (.cells #[.int .i64 k, .string S, .bool n, .int .u64 h, .int .u64 l] 41)) (.bool false) (.slice none 0 0) 34 (g := w.heap.size + 1) (by simp))
  clear RG0
  go_enter Try.func36, Try.ntmps36
  go_wp2_with (go_at_call 37; refine (RG.out _).mono ?_; rintro e w2 ⟨rfl, q2⟩; have b2r_2 := Lib.hid (HR.out.below q2); have b2r_20 := b2r_2.out.c0; have b2r_21 := b2r_2.out.c1; have b2r_2f0 := b2r_2.out.f0; have b2r_2f1 := b2r_2.out.f1; have b2r_2z := b2r_2.out.z)
  (try simp only [Exit.inBlock, Exit.then]); refine bodyPost_ret (by simp [results, Try.results36, go_sem, *]; try rfl) rfl ?_
  exact ⟨⟨none, 0, rfl, RI.nil⟩, by (repeat' (first | (with_reducible exact Below.refl _ _) | (refine Below.trans ?_ (Below.mono (by with_reducible assumption) ?_)) | (with_reducible exact Below.refl _ _) | (with_reducible refine below_drewN ?_ _) | (with_reducible refine Below.drew ?_) | (with_reducible refine Below.setCell ?_ ?_ _) | (with_reducible refine Below.alloc ?_ ?_ _) | (with_reducible assumption) | (simp; done) | (simp; omega) | omega))⟩
set_option maxRecDepth 100000 in
set_option maxHeartbeats 800000 in
theorem rnum_of {k : Int} {S : ByteArray} {n : Bool} {h l z : Int} (w : World) (ia : IsD n h l z) (hk : (k == 2) = false)
    (RG0 : ∀ W, Calls Try.prog 37 #[.agg #[.int .i64 k, .string S, .bool n, .int .u64 h, .int .u64 l]] W fun e w' => e = .returned (.bool true) ∧ Below W.heap.size W w') :
    Calls Try.prog 36 #[.agg #[.int .i64 k, .string S, .bool n, .int .u64 h, .int .u64 l]] w (RNum n z.natAbs 0 w) := by
  have RG := Lib.hid RG0
  have OA := Lib.hid (fun W => of_ds ia W)
  obtain ⟨N, hN⟩ : ∃ N, N = z.natAbs := ⟨_, rfl⟩
  rw [← hN] at OA ⊢
  obtain ⟨LN, hLN⟩ : ∃ x, x = (dg N).length := ⟨_, rfl⟩
  have OA1 : Hid (∀ W, Calls Try.prog 18 #[.agg #[.bool n, .int .u64 h, .int .u64 l]] W fun e w' => (∃ A c, e = .returned (.agg #[.bool n, .slice A LN c]) ∧ RI w' w'.heap.size A (dg N)) ∧ Below W.heap.size W w') := Lib.hid (fun W => (OA.out W).mono fun e w' ⟨⟨A, c, h1, h2⟩, h3⟩ => ⟨⟨A, c, by rw [hLN]; exact h1, h2.1⟩, h3⟩)
  have HA := Lib.hid ((Box5.make w (.int .i64 k) (.string S) (.bool n) (.int .u64 h) (.int .u64 l) 41 rfl).alloc (.cells #[.bool false, .slice none 0 0] 34))
  have HR := Lib.hid (Box2.make (w.alloc (.cells #[.int .i64 k, .string S, .bool n, .int .u64 h, .int .u64 l] 41)) (.bool false) (.slice none 0 0) 34 (g := w.heap.size + 1) (by simp))
  have HL := Lib.hid hLN
  clear RG0 OA hLN ia hN
  go_enter Try.func36, Try.ntmps36
  go_wp2_with (first
    | (go_at_call 37; refine (RG.out _).mono ?_; rintro e w2 ⟨rfl, q2⟩; have b5a_2 := Lib.hid (HA.out.below q2); have b5a_20 := b5a_2.out.c0; have b5a_21 := b5a_2.out.c1; have b5a_22 := b5a_2.out.c2; have b5a_23 := b5a_2.out.c3; have b5a_24 := b5a_2.out.c4; have b5a_2f0 := b5a_2.out.f0; have b5a_2f1 := b5a_2.out.f1; have b5a_2f2 := b5a_2.out.f2; have b5a_2f3 := b5a_2.out.f3; have b5a_2f4 := b5a_2.out.f4; have b5a_2z := b5a_2.out.z; have b2r_2 := Lib.hid (HR.out.below q2); have b2r_20 := b2r_2.out.c0; have b2r_21 := b2r_2.out.c1; have b2r_2f0 := b2r_2.out.f0; have b2r_2f1 := b2r_2.out.f1; have b2r_2z := b2r_2.out.z)
    | (go_at_call 18; (with_reducible refine (OA1.out _).mono ?_); rintro e w3 ⟨⟨A3, c3, rfl, hi⟩, b3⟩; have p3 : Below w2.heap.size w2 w3 := Below.trans (by repeat' (first | (with_reducible assumption) | (with_reducible exact Below.refl _ _) | (with_reducible refine Below.drew ?_) | (with_reducible refine below_drewN ?_ _) | (with_reducible refine Below.alloc ?_ ?_ _) | (with_reducible exact Nat.le_refl _) | (simp; done) | (simp; omega) | omega)) (Below.mono b3 (by first | omega | (simp; done) | (simp; omega))); have b2r_3 := Lib.hid (Box2.below b2r_2.out p3); have b2r_30 := b2r_3.out.c0; have b2r_31 := b2r_3.out.c1; have b2r_3f0 := b2r_3.out.f0; have b2r_3f1 := b2r_3.out.f1; have b2r_3z := b2r_3.out.z; have HI := Lib.hid hi; clear hi))
  (try simp only [Exit.inBlock, Exit.then]); refine bodyPost_ret (by simp [results, Try.results36, go_sem, *]; try rfl) rfl ?_
  exact ⟨⟨A3, c3, by rw [HL.out], HI.out.box b2r_3.out⟩, by (repeat' (first | (with_reducible exact Below.refl _ _) | (refine Below.trans ?_ (Below.mono (by with_reducible assumption) ?_)) | (with_reducible exact Below.refl _ _) | (with_reducible refine below_drewN ?_ _) | (with_reducible refine Below.drew ?_) | (with_reducible refine Below.setCell ?_ ?_ _) | (with_reducible refine Below.alloc ?_ ?_ _) | (with_reducible assumption) | (simp; done) | (simp; omega) | omega))⟩
set_option maxRecDepth 100000 in
set_option maxHeartbeats 1600000 in
theorem rnum_text {S : ByteArray} {n : Bool} {h l : Int} {pn : Bool} {M : Nat} {np pe : Int} (w : World)
    (RG0 : ∀ W, Calls Try.prog 37 #[.agg #[.int .i64 2, .string S, .bool n, .int .u64 h, .int .u64 l]] W fun e w' => e = .returned (.bool true) ∧ Below W.heap.size W w')
    (PF0 : ∀ W, Calls Try.prog 69 #[.string S] W fun e w' => (∃ (A : Option Addr) (c : Nat), e = .returned (.agg #[.bool pn, .slice A (dg M).length c, .int .i64 np, .int .i64 pe]) ∧ RI w' w'.heap.size A (dg M) ∧ (dg M).length ≤ c) ∧ Below W.heap.size W w') :
    Calls Try.prog 36 #[.agg #[.int .i64 2, .string S, .bool n, .int .u64 h, .int .u64 l]] w (RNum pn M pe w) := by
  have RG := Lib.hid RG0
  obtain ⟨LM, hLM⟩ : ∃ x, x = (dg M).length := ⟨_, rfl⟩
  have PF1 : Hid (∀ W, Calls Try.prog 69 #[.string S] W fun e w' => (∃ (A : Option Addr) (c : Nat), e = .returned (.agg #[.bool pn, .slice A LM c, .int .i64 np, .int .i64 pe]) ∧ RI w' w'.heap.size A (dg M)) ∧ Below W.heap.size W w') := Lib.hid (fun W => (PF0 W).mono fun e w' ⟨⟨A, c, h1, h2, _⟩, h3⟩ => ⟨⟨A, c, by rw [hLM]; exact h1, h2⟩, h3⟩)
  have HA := Lib.hid ((Box5.make w (.int .i64 2) (.string S) (.bool n) (.int .u64 h) (.int .u64 l) 41 rfl).alloc (.cells #[.bool false, .slice none 0 0] 34))
  have HR := Lib.hid (Box2.make (w.alloc (.cells #[.int .i64 2, .string S, .bool n, .int .u64 h, .int .u64 l] 41)) (.bool false) (.slice none 0 0) 34 (g := w.heap.size + 1) (by simp))
  have HL := Lib.hid hLM
  clear RG0 PF0 hLM
  go_enter Try.func36, Try.ntmps36
  go_upto_region 5 with (first
    | (go_at_call 37; refine (RG.out _).mono ?_; rintro e w2 ⟨rfl, q2⟩; have b5a_2 := Lib.hid (HA.out.below q2); have b5a_20 := b5a_2.out.c0; have b5a_21 := b5a_2.out.c1; have b5a_22 := b5a_2.out.c2; have b5a_23 := b5a_2.out.c3; have b5a_24 := b5a_2.out.c4; have b5a_2f0 := b5a_2.out.f0; have b5a_2f1 := b5a_2.out.f1; have b5a_2f2 := b5a_2.out.f2; have b5a_2f3 := b5a_2.out.f3; have b5a_2f4 := b5a_2.out.f4; have b5a_2z := b5a_2.out.z; have b2r_2 := Lib.hid (HR.out.below q2); have b2r_20 := b2r_2.out.c0; have b2r_21 := b2r_2.out.c1; have b2r_2f0 := b2r_2.out.f0; have b2r_2f1 := b2r_2.out.f1; have b2r_2z := b2r_2.out.z; have z2 := q2.size)
    | (go_at_call 69; (with_reducible refine (PF1.out _).mono ?_); rintro e w3 ⟨⟨A3, c3, rfl, hi⟩, b3⟩; have p3 : Below w2.heap.size w2 w3 := Below.trans (by repeat' (first | (with_reducible assumption) | (with_reducible exact Below.refl _ _) | (with_reducible refine Below.drew ?_) | (with_reducible refine below_drewN ?_ _) | (with_reducible refine Below.alloc ?_ ?_ _) | (with_reducible exact Nat.le_refl _) | (simp; done) | (simp; omega) | omega)) (Below.mono b3 (by first | omega | (simp; done) | (simp; omega))); have b2r_3 := Lib.hid (Box2.below b2r_2.out p3); have b2r_30 := b2r_3.out.c0; have b2r_31 := b2r_3.out.c1; have b2r_3f0 := b2r_3.out.f0; have b2r_3f1 := b2r_3.out.f1; have b2r_3z := b2r_3.out.z; have HI := Lib.hid hi; clear hi))
  have p4 : Below w3.heap.size w3 (w3.alloc (.cells #[.bool pn, .slice A3 LM c3, .int .i64 np, .int .i64 pe] 108)) := (Below.refl _ _).alloc (Nat.le_refl _) _
  have bg := Box4.make w3 (.bool pn) (.slice A3 LM c3) (.int .i64 np) (.int .i64 pe) 108 rfl
  have HB2 : Below w.heap.size w w2 := by (repeat' (first | (with_reducible exact Below.refl _ _) | (refine Below.trans ?_ (Below.mono (by with_reducible assumption) ?_)) | (with_reducible exact Below.refl _ _) | (with_reducible refine below_drewN ?_ _) | (with_reducible refine Below.drew ?_) | (with_reducible refine Below.setCell ?_ ?_ _) | (with_reducible refine Below.alloc ?_ ?_ _) | (with_reducible assumption) | (simp; done) | (simp; omega) | omega))
  obtain ⟨w4, hw4⟩ : ∃ x, x = w3.alloc (.cells #[.bool pn, .slice A3 LM c3, .int .i64 np, .int .i64 pe] 108) := ⟨_, rfl⟩; rw [← hw4]
  rw [← hw4] at p4 bg
  clear hw4
  have b2r_4 := Lib.hid (Box2.below b2r_3.out p4); have b2r_40 := b2r_4.out.c0; have b2r_41 := b2r_4.out.c1; have b2r_4f0 := b2r_4.out.f0; have b2r_4f1 := b2r_4.out.f1; have b2r_4z := b2r_4.out.z
  have b4g_4 := Lib.hid (bg); have b4g_40 := b4g_4.out.c0; have b4g_41 := b4g_4.out.c1; have b4g_42 := b4g_4.out.c2; have b4g_43 := b4g_4.out.c3; have b4g_4f0 := b4g_4.out.f0; have b4g_4f1 := b4g_4.out.f1; have b4g_4f2 := b4g_4.out.f2; have b4g_4f3 := b4g_4.out.f3; have b4g_4z := b4g_4.out.z
  have HI4 := Lib.hid ((HI.out.below p4).more p4.size)
  have HB4 := Lib.hid (below_step (below_step HB2 p3) p4)
  have hne1 : w.heap.size + 1 ≠ w3.heap.size := by omega
  have hne2 : w3.heap.size ≠ w.heap.size + 1 := by omega
  clear b2r_2 b2r_2z b2r_20 b2r_21 b2r_2f0 b2r_2f1 b2r_3 b2r_3z b2r_30 b2r_31 b2r_3f0 b2r_3f1
  clear HI bg HB2 p3 p4 HA HR
  refine wp_region_held_drew (S := (fun w' => w'.cell? ⟨w3.heap.size, 0, none⟩ = some (.bool pn) ∧ w'.cell? ⟨w3.heap.size, 1, none⟩ = some (.slice A3 LM c3) ∧ w'.cell? ⟨w3.heap.size, 2, none⟩ = some (.int .i64 np) ∧ w'.cell? ⟨w3.heap.size, 3, none⟩ = some (.int .i64 pe))) (by kernel_rfl) ?_ (fun hHeld => ?_)
  · (try dsimp only)
    ((and_intros <;> (first | (with_reducible assumption) | (go_simp; done) | (simp (maxDischargeDepth := 12) [go_sem]; done) | (simp (maxDischargeDepth := 12) [go_sem, *]; done) | exact (Below.cell (by with_reducible assumption) (by first | (simp; done) | (simp; omega) | omega)).trans (by simp (maxDischargeDepth := 12) [go_sem]))))
  refine h4_take (i := 0) (v := ?v0) rfl (by kernel_rfl) (by kernel_rfl) (by kernel_rfl) (fun _ _ _ h => h) (by rfl) ?y0 hHeld ?r0
  case y0 => (intro wS hSw; (try dsimp only at hSw); go_simp; (try with_reducible rfl))
  try simp only [Act.put, List.setIfInBounds_toArray, List.set_cons_zero, List.set_cons_succ]
  refine h4_take (i := 1) (v := ?v1) rfl (by kernel_rfl) (by kernel_rfl) (by kernel_rfl) (fun _ _ _ h => h) (by rfl) ?y1 hHeld ?r1
  case y1 => (intro wS hSw; (try dsimp only at hSw); go_simp; (try with_reducible rfl))
  try simp only [Act.put, List.setIfInBounds_toArray, List.set_cons_zero, List.set_cons_succ]
  refine h4_take (i := 2) (v := ?v2) rfl (by kernel_rfl) (by kernel_rfl) (by kernel_rfl) (fun _ _ _ h => h) (by rfl) ?y2 hHeld ?r2
  case y2 => (intro wS hSw; (try dsimp only at hSw); go_simp; (try with_reducible rfl))
  try simp only [Act.put, List.setIfInBounds_toArray, List.set_cons_zero, List.set_cons_succ]
  refine h4_take (i := 3) (v := ?v3) rfl (by kernel_rfl) (by kernel_rfl) (by kernel_rfl) (fun _ _ _ h => h) (by rfl) ?y3 hHeld ?r3
  case y3 => (intro wS hSw; (try dsimp only at hSw); go_simp; (try with_reducible rfl))
  try simp only [Act.put, List.setIfInBounds_toArray, List.set_cons_zero, List.set_cons_succ]
  refine wpAnyH_ready (rs := [4]) (by kernel_rfl) (by simp) ?_
  refine (h4_cons rfl (fun K hK => ?_) AllReadyH.nil)
  go_simp
  refine hK.out _ _ ?_ (fun hHeld5 => ?_)
  · (try dsimp only)
    ((and_intros <;> (first | (with_reducible assumption) | (go_simp; done) | (simp (maxDischargeDepth := 12) [go_sem]; done) | (simp (maxDischargeDepth := 12) [go_sem, *]; done) | exact (Below.cell (by with_reducible assumption) (by first | (simp; done) | (simp; omega) | omega)).trans (by simp (maxDischargeDepth := 12) [go_sem]))))
  clear hK K hHeld
  try simp only [Act.put, List.setIfInBounds_toArray, List.set_cons_zero, List.set_cons_succ]
  refine h4_take (i := 5) (v := ?v5) rfl (by kernel_rfl) (by kernel_rfl) (by kernel_rfl) (fun _ _ _ h => h) (by rfl) ?y5 hHeld5 ?r5
  case y5 => (intro wS hSw; (try dsimp only at hSw); go_simp; (try with_reducible rfl))
  try simp only [Act.put, List.setIfInBounds_toArray, List.set_cons_zero, List.set_cons_succ]
  refine wpAnyH_done (by kernel_rfl) ?_ _
  go_wp2_with fail
  (try simp only [Exit.inBlock, Exit.then]); refine bodyPost_ret (by simp [results, Try.results36, go_sem, *]; try rfl) rfl ?_
  exact ⟨⟨A3, c3, by rw [HL.out], HI4.out.box b2r_4.out⟩, by refine HB4.out.trans ?_; (repeat' (first | (with_reducible exact Below.refl _ _) | (refine Below.trans ?_ (Below.mono (by with_reducible assumption) ?_)) | (with_reducible exact Below.refl _ _) | (with_reducible refine below_drewN ?_ _) | (with_reducible refine Below.drew ?_) | (with_reducible refine Below.setCell ?_ ?_ _) | (with_reducible refine Below.alloc ?_ ?_ _) | (with_reducible assumption) | (simp; done) | (simp; omega) | omega))⟩
end Go.Proofs.Ytkhhjibpppmekaa
