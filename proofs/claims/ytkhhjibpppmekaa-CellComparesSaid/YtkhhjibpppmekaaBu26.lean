/- Several texts put together: RefR, RegH, RefU. -/
import Derived.Test.YtkhhjibpppmekaaBu25
import Derived.Test.YtkhhjibpppmekaaBu1
import Derived.Deep.RegionHeld3
import Derived.Test.YtkhhjibpppmekaaBu21
import Derived.Test.YtkhhjibpppmekaaBu7
/- fieldfareref01: Cmp; fieldfarelaw01.held. -/
namespace Go.Proofs.Ytkhhjibpppmekaa
open Go.RowKit
theorem same_e {n m : Bool} {A A' : Option Addr} {c c' N M : Nat} {W1 W : World} (h : DS1 W1 A c N) (h' : DS1 W1 A' c' M) (hl : (dg N).length ≤ 1000) (hl' : (dg M).length ≤ 1000) {b : Bool} (hb : (n == m && decide (N = M)) = b) (q : Below W1.heap.size W1 W) :
    Calls Try.prog 38 #[.agg #[.bool n, .slice A (dg N).length c], .agg #[.bool m, .slice A' (dg M).length c']] W fun e w' => e = .returned (.bool b) ∧ Below W.heap.size W w' := by
  subst hb
  exact same_any n m A A' c c' N M W W1.heap.size q.size (h.1.below q) (h'.1.below q) (by omega) (by omega)
set_option maxRecDepth 100000 in
set_option maxHeartbeats 1600000 in
theorem rcmp_d {n m : Bool} {A A' : Option Addr} {c c' : Nat} {za zb : Int} (hn : n = zn za) (hm : m = zn zb) (w0 w : World) (h : DS1 w0 A c za.natAbs) (h' : DS1 w0 A' c' zb.natAbs) (hl : (dg za.natAbs).length ≤ 36) (hl' : (dg zb.natAbs).length ≤ 36) (q : Below w0.heap.size w0 w) :
    Calls Try.prog 63 #[.agg #[.bool n, .slice A (dg za.natAbs).length c], .agg #[.bool m, .slice A' (dg zb.natAbs).length c']] w fun e w' => e = .returned (.int .i64 (cmpZ za zb)) ∧ Below w.heap.size w w' := by
  have hcas : (n = m ∧ za = zb) ∨ (n = m ∧ za ≠ zb ∧ za.natAbs ≠ zb.natAbs) ∨ (n = false ∧ m = true) ∨ (n = true ∧ m = false) := by
    by_cases h1 : n = m
    · by_cases h2 : za = zb
      · exact .inl ⟨h1, h2⟩
      · refine .inr (.inl ⟨h1, h2, ?_⟩)
        rw [hn, hm] at h1
        unfold zn at h1
        rw [decide_eq_decide] at h1
        omega
    · cases n <;> cases m
      · exact absurd rfl h1
      · exact .inr (.inr (.inl ⟨rfl, rfl⟩))
      · exact .inr (.inr (.inr ⟨rfl, rfl⟩))
      · exact absurd rfl h1
  have hw2 : Below w.heap.size w ((w.alloc (.cells #[.bool n, .slice A (dg za.natAbs).length c] 34)).alloc (.cells #[.bool m, .slice A' (dg zb.natAbs).length c'] 34)) := by (repeat' (first | (with_reducible exact Below.refl _ _) | (refine Below.trans ?_ (Below.mono (by with_reducible assumption) ?_)) | (with_reducible exact Below.refl _ _) | (with_reducible refine below_drewN ?_ _) | (with_reducible refine Below.drew ?_) | (with_reducible refine Below.setCell ?_ ?_ _) | (with_reducible refine Below.alloc ?_ ?_ _) | (with_reducible assumption) | (simp; done) | (simp; omega) | omega))
  have HA := Lib.hid (h.below (q.trans (hw2.mono q.size))); have HB := Lib.hid (h'.below (q.trans (hw2.mono q.size)))
  rcases hcas with ⟨rfl, rfl⟩ | ⟨rfl, h1, h2⟩ | ⟨rfl, rfl⟩ | ⟨rfl, rfl⟩
  · have S := Lib.hid (fun W qq => same_e (n := n) (m := n) (b := true) HA.out HB.out (W := W) (by omega) (by omega) (by simp) qq)
    have hc0 : cmpZ za za = 0 := by simp [cmpZ]
    rw [hc0]
    obtain ⟨l, hl0⟩ : ∃ l, l = (dg za.natAbs).length := ⟨_, rfl⟩
    rw [← hl0] at S ⊢
    clear HA HB hw2 h h' hl hl' q hn hm hc0 hl0
    go_enter Try.func63, Try.ntmps63
    go_wp2_with (first | (go_at_call 38; (with_reducible refine (S.out _ (by repeat' (first | (with_reducible exact Below.refl _ _) | (with_reducible assumption) | (with_reducible refine Below.drew ?_) | (with_reducible refine below_drewN ?_ _) | (with_reducible refine Below.alloc ?_ ?_ _) | (with_reducible exact Nat.le_refl _) | (simp; done) | (simp; omega)))).mono ?_); rintro e w3 ⟨rfl, b3⟩; have hs_b3 := Below.size b3; (try simp at hs_b3)))
    (try simp only [Exit.inBlock, Exit.then]); refine bodyPost_ret (by simp [results, Try.results63, go_sem, *]; try rfl) rfl ?_
    exact ⟨rfl, by (repeat' (first | (with_reducible exact Below.refl _ _) | (refine Below.trans ?_ (Below.mono (by with_reducible assumption) ?_)) | (with_reducible exact Below.refl _ _) | (with_reducible refine below_drewN ?_ _) | (with_reducible refine Below.drew ?_) | (with_reducible refine Below.setCell ?_ ?_ _) | (with_reducible refine Below.alloc ?_ ?_ _) | (with_reducible assumption) | (simp; done) | (simp; omega) | omega))⟩
  · have S := Lib.hid (fun W qq => same_e (n := n) (m := n) (b := false) HA.out HB.out (W := W) (by omega) (by omega) (by simp [h2]) qq)
    have LS := Lib.hid (fun W qq => less_d HA.out HB.out (W := W) (by omega) qq)
    have hc : cmpZ za zb = (if decide (za.natAbs < zb.natAbs) = n then 1 else -1) := by
      have e1 := hn; have e2 := hm
      unfold zn at e1 e2
      unfold cmpZ
      cases n
      · have a1 : ¬ za < 0 := by symm at e1; rwa [decide_eq_false_iff_not] at e1
        have a2 : ¬ zb < 0 := by symm at e2; rwa [decide_eq_false_iff_not] at e2
        by_cases hlt : za.natAbs < zb.natAbs
        · rw [decide_eq_true hlt, if_pos (by omega)]; rfl
        · rw [decide_eq_false hlt, if_neg (by omega), if_neg h1]; rfl
      · have a1 : za < 0 := by symm at e1; rwa [decide_eq_true_eq] at e1
        have a2 : zb < 0 := by symm at e2; rwa [decide_eq_true_eq] at e2
        by_cases hlt : za.natAbs < zb.natAbs
        · rw [decide_eq_true hlt, if_neg (by omega), if_neg h1]; rfl
        · rw [decide_eq_false hlt, if_pos (by omega)]; rfl
    rw [hc]
    obtain ⟨b, hb⟩ : ∃ b, b = decide (za.natAbs < zb.natAbs) := ⟨_, rfl⟩
    rw [← hb] at LS ⊢
    obtain ⟨l, hl0⟩ : ∃ l, l = (dg za.natAbs).length := ⟨_, rfl⟩
    obtain ⟨l', hl0'⟩ : ∃ l, l = (dg zb.natAbs).length := ⟨_, rfl⟩
    rw [← hl0, ← hl0'] at S LS ⊢
    clear HA HB hw2 h h' hl hl' q hn hm hc hl0 hl0' hb h1 h2
    cases n <;> cases b
    · go_enter Try.func63, Try.ntmps63
      go_upto_region 7 with (first | (go_at_call 38; (with_reducible refine (S.out _ (by repeat' (first | (with_reducible exact Below.refl _ _) | (with_reducible assumption) | (with_reducible refine Below.drew ?_) | (with_reducible refine below_drewN ?_ _) | (with_reducible refine Below.alloc ?_ ?_ _) | (with_reducible exact Nat.le_refl _) | (simp; done) | (simp; omega)))).mono ?_); rintro e w3 ⟨rfl, b3⟩; have ya_3 : Hid (BoxN w3 w.heap.size false (.slice A l c)) := Lib.hid (((BoxN.make w false (.slice A l c) rfl).alloc _).below b3); have yb_3 : Hid (BoxN w3 (w.heap.size + 1) false (.slice A' l' c')) := Lib.hid ((BoxN.make (w.alloc _) false (.slice A' l' c') (by simp)).below b3); have ya_4 := Lib.hid (ya_3.out); have ya_40 := ya_4.out.c0; have ya_41 := ya_4.out.c1; have ya_42 := ya_4.out.f0; have ya_43 := ya_4.out.f1; have ya_4z := ya_4.out.z; have yb_4 := Lib.hid (yb_3.out); have yb_40 := yb_4.out.c0; have yb_41 := yb_4.out.c1; have yb_42 := yb_4.out.f0; have yb_43 := yb_4.out.f1; have yb_4z := yb_4.out.z))
      have z3 := b3.size
      have p3 : Below w.heap.size w w3 := by (repeat' (first | (with_reducible exact Below.refl _ _) | (refine Below.trans ?_ (Below.mono (by with_reducible assumption) ?_)) | (with_reducible exact Below.refl _ _) | (with_reducible refine below_drewN ?_ _) | (with_reducible refine Below.drew ?_) | (with_reducible refine Below.setCell ?_ ?_ _) | (with_reducible refine Below.alloc ?_ ?_ _) | (with_reducible assumption) | (simp; done) | (simp; omega) | omega))
      go_region_held3 (fun w' => w'.cell? ⟨w.heap.size, 0, none⟩ = some (.bool false) ∧ w'.cell? ⟨w.heap.size, 1, none⟩ = some ((.slice A l c)) ∧ w'.cell? ⟨w.heap.size + 1, 0, none⟩ = some (.bool false) ∧ w'.cell? ⟨w.heap.size + 1, 1, none⟩ = some ((.slice A' l' c'))) ((and_intros <;> (first | (with_reducible assumption) | (go_simp; done) | (simp (maxDischargeDepth := 12) [go_sem]; done) | (simp (maxDischargeDepth := 12) [go_sem, *]; done) | exact (Below.cell (by with_reducible assumption) (by first | (simp; done) | (simp; omega) | omega)).trans (by simp (maxDischargeDepth := 12) [go_sem]))))
        (first | (go_at_call 70; (with_reducible refine (LS.out _ (by refine Below.trans b3 (Below.mono (B := w3.heap.size) ?_ z3); repeat' (first | (with_reducible exact Below.refl _ _) | (with_reducible refine Below.drew ?_) | (with_reducible refine below_drewN ?_ _)))).mono ?_); rintro e w5 ⟨rfl, b5⟩; have p5 : Below w3.heap.size w3 w5 := Below.trans (by repeat' (first | (with_reducible assumption) | (with_reducible exact Below.refl _ _) | (with_reducible refine Below.drew ?_) | (with_reducible refine below_drewN ?_ _) | (with_reducible refine Below.alloc ?_ ?_ _) | (with_reducible exact Nat.le_refl _) | (simp; done) | (simp; omega) | omega)) (Below.mono b5 (by first | omega | (simp; done) | (simp; omega))); have ya_5 := Lib.hid (BoxN.below ya_4.out p5); have ya_50 := ya_5.out.c0; have ya_51 := ya_5.out.c1; have ya_52 := ya_5.out.f0; have ya_53 := ya_5.out.f1; have ya_5z := ya_5.out.z; have yb_5 := Lib.hid (BoxN.below yb_4.out p5); have yb_50 := yb_5.out.c0; have yb_51 := yb_5.out.c1; have yb_52 := yb_5.out.f0; have yb_53 := yb_5.out.f1; have yb_5z := yb_5.out.z))
      go_wp2_with fail
      (try simp only [Exit.inBlock, Exit.then]); refine bodyPost_ret (by simp [results, Try.results63, go_sem, *]; try rfl) rfl ?_
      exact ⟨rfl, p3.trans (by refine (Below.trans (p5.mono p3.size) ?_); (repeat' (first | (with_reducible exact Below.refl _ _) | (refine Below.trans ?_ (Below.mono (by with_reducible assumption) ?_)) | (with_reducible exact Below.refl _ _) | (with_reducible refine below_drewN ?_ _) | (with_reducible refine Below.drew ?_) | (with_reducible refine Below.setCell ?_ ?_ _) | (with_reducible refine Below.alloc ?_ ?_ _) | (with_reducible assumption) | (simp; done) | (simp; omega) | omega)))⟩
    · go_enter Try.func63, Try.ntmps63
      go_upto_region 7 with (first | (go_at_call 38; (with_reducible refine (S.out _ (by repeat' (first | (with_reducible exact Below.refl _ _) | (with_reducible assumption) | (with_reducible refine Below.drew ?_) | (with_reducible refine below_drewN ?_ _) | (with_reducible refine Below.alloc ?_ ?_ _) | (with_reducible exact Nat.le_refl _) | (simp; done) | (simp; omega)))).mono ?_); rintro e w3 ⟨rfl, b3⟩; have ya_3 : Hid (BoxN w3 w.heap.size false (.slice A l c)) := Lib.hid (((BoxN.make w false (.slice A l c) rfl).alloc _).below b3); have yb_3 : Hid (BoxN w3 (w.heap.size + 1) false (.slice A' l' c')) := Lib.hid ((BoxN.make (w.alloc _) false (.slice A' l' c') (by simp)).below b3); have ya_4 := Lib.hid (ya_3.out); have ya_40 := ya_4.out.c0; have ya_41 := ya_4.out.c1; have ya_42 := ya_4.out.f0; have ya_43 := ya_4.out.f1; have ya_4z := ya_4.out.z; have yb_4 := Lib.hid (yb_3.out); have yb_40 := yb_4.out.c0; have yb_41 := yb_4.out.c1; have yb_42 := yb_4.out.f0; have yb_43 := yb_4.out.f1; have yb_4z := yb_4.out.z))
      have z3 := b3.size
      have p3 : Below w.heap.size w w3 := by (repeat' (first | (with_reducible exact Below.refl _ _) | (refine Below.trans ?_ (Below.mono (by with_reducible assumption) ?_)) | (with_reducible exact Below.refl _ _) | (with_reducible refine below_drewN ?_ _) | (with_reducible refine Below.drew ?_) | (with_reducible refine Below.setCell ?_ ?_ _) | (with_reducible refine Below.alloc ?_ ?_ _) | (with_reducible assumption) | (simp; done) | (simp; omega) | omega))
      go_region_held3 (fun w' => w'.cell? ⟨w.heap.size, 0, none⟩ = some (.bool false) ∧ w'.cell? ⟨w.heap.size, 1, none⟩ = some ((.slice A l c)) ∧ w'.cell? ⟨w.heap.size + 1, 0, none⟩ = some (.bool false) ∧ w'.cell? ⟨w.heap.size + 1, 1, none⟩ = some ((.slice A' l' c'))) ((and_intros <;> (first | (with_reducible assumption) | (go_simp; done) | (simp (maxDischargeDepth := 12) [go_sem]; done) | (simp (maxDischargeDepth := 12) [go_sem, *]; done) | exact (Below.cell (by with_reducible assumption) (by first | (simp; done) | (simp; omega) | omega)).trans (by simp (maxDischargeDepth := 12) [go_sem]))))
        (first | (go_at_call 70; (with_reducible refine (LS.out _ (by refine Below.trans b3 (Below.mono (B := w3.heap.size) ?_ z3); repeat' (first | (with_reducible exact Below.refl _ _) | (with_reducible refine Below.drew ?_) | (with_reducible refine below_drewN ?_ _)))).mono ?_); rintro e w5 ⟨rfl, b5⟩; have p5 : Below w3.heap.size w3 w5 := Below.trans (by repeat' (first | (with_reducible assumption) | (with_reducible exact Below.refl _ _) | (with_reducible refine Below.drew ?_) | (with_reducible refine below_drewN ?_ _) | (with_reducible refine Below.alloc ?_ ?_ _) | (with_reducible exact Nat.le_refl _) | (simp; done) | (simp; omega) | omega)) (Below.mono b5 (by first | omega | (simp; done) | (simp; omega))); have ya_5 := Lib.hid (BoxN.below ya_4.out p5); have ya_50 := ya_5.out.c0; have ya_51 := ya_5.out.c1; have ya_52 := ya_5.out.f0; have ya_53 := ya_5.out.f1; have ya_5z := ya_5.out.z; have yb_5 := Lib.hid (BoxN.below yb_4.out p5); have yb_50 := yb_5.out.c0; have yb_51 := yb_5.out.c1; have yb_52 := yb_5.out.f0; have yb_53 := yb_5.out.f1; have yb_5z := yb_5.out.z))
      go_wp2_with fail
      (try simp only [Exit.inBlock, Exit.then]); refine bodyPost_ret (by simp [results, Try.results63, go_sem, *]; try rfl) rfl ?_
      exact ⟨rfl, p3.trans (by refine (Below.trans (p5.mono p3.size) ?_); (repeat' (first | (with_reducible exact Below.refl _ _) | (refine Below.trans ?_ (Below.mono (by with_reducible assumption) ?_)) | (with_reducible exact Below.refl _ _) | (with_reducible refine below_drewN ?_ _) | (with_reducible refine Below.drew ?_) | (with_reducible refine Below.setCell ?_ ?_ _) | (with_reducible refine Below.alloc ?_ ?_ _) | (with_reducible assumption) | (simp; done) | (simp; omega) | omega)))⟩
    · go_enter Try.func63, Try.ntmps63
      go_upto_region 7 with (first | (go_at_call 38; (with_reducible refine (S.out _ (by repeat' (first | (with_reducible exact Below.refl _ _) | (with_reducible assumption) | (with_reducible refine Below.drew ?_) | (with_reducible refine below_drewN ?_ _) | (with_reducible refine Below.alloc ?_ ?_ _) | (with_reducible exact Nat.le_refl _) | (simp; done) | (simp; omega)))).mono ?_); rintro e w3 ⟨rfl, b3⟩; have ya_3 : Hid (BoxN w3 w.heap.size true (.slice A l c)) := Lib.hid (((BoxN.make w true (.slice A l c) rfl).alloc _).below b3); have yb_3 : Hid (BoxN w3 (w.heap.size + 1) true (.slice A' l' c')) := Lib.hid ((BoxN.make (w.alloc _) true (.slice A' l' c') (by simp)).below b3); have ya_4 := Lib.hid (ya_3.out); have ya_40 := ya_4.out.c0; have ya_41 := ya_4.out.c1; have ya_42 := ya_4.out.f0; have ya_43 := ya_4.out.f1; have ya_4z := ya_4.out.z; have yb_4 := Lib.hid (yb_3.out); have yb_40 := yb_4.out.c0; have yb_41 := yb_4.out.c1; have yb_42 := yb_4.out.f0; have yb_43 := yb_4.out.f1; have yb_4z := yb_4.out.z))
      have z3 := b3.size
      have p3 : Below w.heap.size w w3 := by (repeat' (first | (with_reducible exact Below.refl _ _) | (refine Below.trans ?_ (Below.mono (by with_reducible assumption) ?_)) | (with_reducible exact Below.refl _ _) | (with_reducible refine below_drewN ?_ _) | (with_reducible refine Below.drew ?_) | (with_reducible refine Below.setCell ?_ ?_ _) | (with_reducible refine Below.alloc ?_ ?_ _) | (with_reducible assumption) | (simp; done) | (simp; omega) | omega))
      go_region_held3 (fun w' => w'.cell? ⟨w.heap.size, 0, none⟩ = some (.bool true) ∧ w'.cell? ⟨w.heap.size, 1, none⟩ = some ((.slice A l c)) ∧ w'.cell? ⟨w.heap.size + 1, 0, none⟩ = some (.bool true) ∧ w'.cell? ⟨w.heap.size + 1, 1, none⟩ = some ((.slice A' l' c'))) ((and_intros <;> (first | (with_reducible assumption) | (go_simp; done) | (simp (maxDischargeDepth := 12) [go_sem]; done) | (simp (maxDischargeDepth := 12) [go_sem, *]; done) | exact (Below.cell (by with_reducible assumption) (by first | (simp; done) | (simp; omega) | omega)).trans (by simp (maxDischargeDepth := 12) [go_sem]))))
        (first | (go_at_call 70; (with_reducible refine (LS.out _ (by refine Below.trans b3 (Below.mono (B := w3.heap.size) ?_ z3); repeat' (first | (with_reducible exact Below.refl _ _) | (with_reducible refine Below.drew ?_) | (with_reducible refine below_drewN ?_ _)))).mono ?_); rintro e w5 ⟨rfl, b5⟩; have p5 : Below w3.heap.size w3 w5 := Below.trans (by repeat' (first | (with_reducible assumption) | (with_reducible exact Below.refl _ _) | (with_reducible refine Below.drew ?_) | (with_reducible refine below_drewN ?_ _) | (with_reducible refine Below.alloc ?_ ?_ _) | (with_reducible exact Nat.le_refl _) | (simp; done) | (simp; omega) | omega)) (Below.mono b5 (by first | omega | (simp; done) | (simp; omega))); have ya_5 := Lib.hid (BoxN.below ya_4.out p5); have ya_50 := ya_5.out.c0; have ya_51 := ya_5.out.c1; have ya_52 := ya_5.out.f0; have ya_53 := ya_5.out.f1; have ya_5z := ya_5.out.z; have yb_5 := Lib.hid (BoxN.below yb_4.out p5); have yb_50 := yb_5.out.c0; have yb_51 := yb_5.out.c1; have yb_52 := yb_5.out.f0; have yb_53 := yb_5.out.f1; have yb_5z := yb_5.out.z))
      go_wp2_with fail
      (try simp only [Exit.inBlock, Exit.then]); refine bodyPost_ret (by simp [results, Try.results63, go_sem, *]; try rfl) rfl ?_
      exact ⟨rfl, p3.trans (by refine (Below.trans (p5.mono p3.size) ?_); (repeat' (first | (with_reducible exact Below.refl _ _) | (refine Below.trans ?_ (Below.mono (by with_reducible assumption) ?_)) | (with_reducible exact Below.refl _ _) | (with_reducible refine below_drewN ?_ _) | (with_reducible refine Below.drew ?_) | (with_reducible refine Below.setCell ?_ ?_ _) | (with_reducible refine Below.alloc ?_ ?_ _) | (with_reducible assumption) | (simp; done) | (simp; omega) | omega)))⟩
    · go_enter Try.func63, Try.ntmps63
      go_upto_region 7 with (first | (go_at_call 38; (with_reducible refine (S.out _ (by repeat' (first | (with_reducible exact Below.refl _ _) | (with_reducible assumption) | (with_reducible refine Below.drew ?_) | (with_reducible refine below_drewN ?_ _) | (with_reducible refine Below.alloc ?_ ?_ _) | (with_reducible exact Nat.le_refl _) | (simp; done) | (simp; omega)))).mono ?_); rintro e w3 ⟨rfl, b3⟩; have ya_3 : Hid (BoxN w3 w.heap.size true (.slice A l c)) := Lib.hid (((BoxN.make w true (.slice A l c) rfl).alloc _).below b3); have yb_3 : Hid (BoxN w3 (w.heap.size + 1) true (.slice A' l' c')) := Lib.hid ((BoxN.make (w.alloc _) true (.slice A' l' c') (by simp)).below b3); have ya_4 := Lib.hid (ya_3.out); have ya_40 := ya_4.out.c0; have ya_41 := ya_4.out.c1; have ya_42 := ya_4.out.f0; have ya_43 := ya_4.out.f1; have ya_4z := ya_4.out.z; have yb_4 := Lib.hid (yb_3.out); have yb_40 := yb_4.out.c0; have yb_41 := yb_4.out.c1; have yb_42 := yb_4.out.f0; have yb_43 := yb_4.out.f1; have yb_4z := yb_4.out.z))
      have z3 := b3.size
      have p3 : Below w.heap.size w w3 := by (repeat' (first | (with_reducible exact Below.refl _ _) | (refine Below.trans ?_ (Below.mono (by with_reducible assumption) ?_)) | (with_reducible exact Below.refl _ _) | (with_reducible refine below_drewN ?_ _) | (with_reducible refine Below.drew ?_) | (with_reducible refine Below.setCell ?_ ?_ _) | (with_reducible refine Below.alloc ?_ ?_ _) | (with_reducible assumption) | (simp; done) | (simp; omega) | omega))
      go_region_held3 (fun w' => w'.cell? ⟨w.heap.size, 0, none⟩ = some (.bool true) ∧ w'.cell? ⟨w.heap.size, 1, none⟩ = some ((.slice A l c)) ∧ w'.cell? ⟨w.heap.size + 1, 0, none⟩ = some (.bool true) ∧ w'.cell? ⟨w.heap.size + 1, 1, none⟩ = some ((.slice A' l' c'))) ((and_intros <;> (first | (with_reducible assumption) | (go_simp; done) | (simp (maxDischargeDepth := 12) [go_sem]; done) | (simp (maxDischargeDepth := 12) [go_sem, *]; done) | exact (Below.cell (by with_reducible assumption) (by first | (simp; done) | (simp; omega) | omega)).trans (by simp (maxDischargeDepth := 12) [go_sem]))))
        (first | (go_at_call 70; (with_reducible refine (LS.out _ (by refine Below.trans b3 (Below.mono (B := w3.heap.size) ?_ z3); repeat' (first | (with_reducible exact Below.refl _ _) | (with_reducible refine Below.drew ?_) | (with_reducible refine below_drewN ?_ _)))).mono ?_); rintro e w5 ⟨rfl, b5⟩; have p5 : Below w3.heap.size w3 w5 := Below.trans (by repeat' (first | (with_reducible assumption) | (with_reducible exact Below.refl _ _) | (with_reducible refine Below.drew ?_) | (with_reducible refine below_drewN ?_ _) | (with_reducible refine Below.alloc ?_ ?_ _) | (with_reducible exact Nat.le_refl _) | (simp; done) | (simp; omega) | omega)) (Below.mono b5 (by first | omega | (simp; done) | (simp; omega))); have ya_5 := Lib.hid (BoxN.below ya_4.out p5); have ya_50 := ya_5.out.c0; have ya_51 := ya_5.out.c1; have ya_52 := ya_5.out.f0; have ya_53 := ya_5.out.f1; have ya_5z := ya_5.out.z; have yb_5 := Lib.hid (BoxN.below yb_4.out p5); have yb_50 := yb_5.out.c0; have yb_51 := yb_5.out.c1; have yb_52 := yb_5.out.f0; have yb_53 := yb_5.out.f1; have yb_5z := yb_5.out.z))
      go_wp2_with fail
      (try simp only [Exit.inBlock, Exit.then]); refine bodyPost_ret (by simp [results, Try.results63, go_sem, *]; try rfl) rfl ?_
      exact ⟨rfl, p3.trans (by refine (Below.trans (p5.mono p3.size) ?_); (repeat' (first | (with_reducible exact Below.refl _ _) | (refine Below.trans ?_ (Below.mono (by with_reducible assumption) ?_)) | (with_reducible exact Below.refl _ _) | (with_reducible refine below_drewN ?_ _) | (with_reducible refine Below.drew ?_) | (with_reducible refine Below.setCell ?_ ?_ _) | (with_reducible refine Below.alloc ?_ ?_ _) | (with_reducible assumption) | (simp; done) | (simp; omega) | omega)))⟩
  · have S := Lib.hid (fun W qq => same_e (n := false) (m := true) (b := false) HA.out HB.out (W := W) (by omega) (by omega) (by simp) qq)
    have hc : cmpZ za zb = 1 := by
      unfold zn at hn hm; symm at hn hm
      rw [decide_eq_false_iff_not] at hn; rw [decide_eq_true_eq] at hm
      unfold cmpZ; rw [if_neg (by omega), if_neg (by omega)]
    rw [hc]
    obtain ⟨l, hl0⟩ : ∃ l, l = (dg za.natAbs).length := ⟨_, rfl⟩
    obtain ⟨l', hl0'⟩ : ∃ l, l = (dg zb.natAbs).length := ⟨_, rfl⟩
    rw [← hl0, ← hl0'] at S ⊢
    clear HA HB hw2 h h' hl hl' q hn hm hc hl0 hl0'
    go_enter Try.func63, Try.ntmps63
    go_wp2_with (first | (go_at_call 38; (with_reducible refine (S.out _ (by repeat' (first | (with_reducible exact Below.refl _ _) | (with_reducible assumption) | (with_reducible refine Below.drew ?_) | (with_reducible refine below_drewN ?_ _) | (with_reducible refine Below.alloc ?_ ?_ _) | (with_reducible exact Nat.le_refl _) | (simp; done) | (simp; omega)))).mono ?_); rintro e w3 ⟨rfl, b3⟩; have hs_b3 := Below.size b3; (try simp at hs_b3); have k0 : w3.cell? ⟨w.heap.size, 0, none⟩ = some (.bool false) := (Below.cell b3 (by simp <;> omega)).trans (by simp (maxDischargeDepth := 12) [go_sem]); have k2 : w3.cell? ⟨w.heap.size + 1, 0, none⟩ = some (.bool true) := (Below.cell b3 (by simp <;> omega)).trans (by simp (maxDischargeDepth := 12) [go_sem])))
    (try simp only [Exit.inBlock, Exit.then]); refine bodyPost_ret (by simp [results, Try.results63, go_sem, *]; try rfl) rfl ?_
    exact ⟨rfl, by (repeat' (first | (with_reducible exact Below.refl _ _) | (refine Below.trans ?_ (Below.mono (by with_reducible assumption) ?_)) | (with_reducible exact Below.refl _ _) | (with_reducible refine below_drewN ?_ _) | (with_reducible refine Below.drew ?_) | (with_reducible refine Below.setCell ?_ ?_ _) | (with_reducible refine Below.alloc ?_ ?_ _) | (with_reducible assumption) | (simp; done) | (simp; omega) | omega))⟩
  · have S := Lib.hid (fun W qq => same_e (n := true) (m := false) (b := false) HA.out HB.out (W := W) (by omega) (by omega) (by simp) qq)
    have hc : cmpZ za zb = -1 := by
      unfold zn at hn hm; symm at hn hm
      rw [decide_eq_true_eq] at hn; rw [decide_eq_false_iff_not] at hm
      unfold cmpZ; rw [if_pos (by omega)]
    rw [hc]
    obtain ⟨l, hl0⟩ : ∃ l, l = (dg za.natAbs).length := ⟨_, rfl⟩
    obtain ⟨l', hl0'⟩ : ∃ l, l = (dg zb.natAbs).length := ⟨_, rfl⟩
    rw [← hl0, ← hl0'] at S ⊢
    clear HA HB hw2 h h' hl hl' q hn hm hc hl0 hl0'
    go_enter Try.func63, Try.ntmps63
    go_wp2_with (first | (go_at_call 38; (with_reducible refine (S.out _ (by repeat' (first | (with_reducible exact Below.refl _ _) | (with_reducible assumption) | (with_reducible refine Below.drew ?_) | (with_reducible refine below_drewN ?_ _) | (with_reducible refine Below.alloc ?_ ?_ _) | (with_reducible exact Nat.le_refl _) | (simp; done) | (simp; omega)))).mono ?_); rintro e w3 ⟨rfl, b3⟩; have hs_b3 := Below.size b3; (try simp at hs_b3); have k0 : w3.cell? ⟨w.heap.size, 0, none⟩ = some (.bool true) := (Below.cell b3 (by simp <;> omega)).trans (by simp (maxDischargeDepth := 12) [go_sem]); have k2 : w3.cell? ⟨w.heap.size + 1, 0, none⟩ = some (.bool false) := (Below.cell b3 (by simp <;> omega)).trans (by simp (maxDischargeDepth := 12) [go_sem])))
    (try simp only [Exit.inBlock, Exit.then]); refine bodyPost_ret (by simp [results, Try.results63, go_sem, *]; try rfl) rfl ?_
    exact ⟨rfl, by (repeat' (first | (with_reducible exact Below.refl _ _) | (refine Below.trans ?_ (Below.mono (by with_reducible assumption) ?_)) | (with_reducible exact Below.refl _ _) | (with_reducible refine below_drewN ?_ _) | (with_reducible refine Below.drew ?_) | (with_reducible refine Below.setCell ?_ ?_ _) | (with_reducible refine Below.alloc ?_ ?_ _) | (with_reducible assumption) | (simp; done) | (simp; omega) | omega))⟩
theorem DS1.alloc {w : World} {A : Option Addr} {c K : Nat} (h : DS1 w A c K) (o : Obj) : DS1 (w.alloc o) A c K := h.below ((Below.refl _ _).alloc (Nat.le_refl _) _)
theorem DS1.drew {w : World} {A : Option Addr} {c K : Nat} (h : DS1 w A c K) : DS1 w.drew A c K := h.below (Below.refl _ _).drew
theorem DS1.drewN {w : World} {A : Option Addr} {c K : Nat} (h : DS1 w A c K) (k : Nat) : DS1 (w.drewN k) A c K := h.below (below_drewN (Below.refl _ _) k)
/-- What 'x, y := Of(a), Of(b)' leaves. -/
def Of2 (W : World) (n m : Bool) (K M : Nat) (x y : Value) (wx : World) : Prop :=
  ∃ (g h : Nat) (A A' : Option Addr) (c c' : Nat), x = .pointer (some ⟨g, 0, none⟩) ∧ y = .pointer (some ⟨h, 0, none⟩) ∧ BoxN wx g n (.slice A (dg K).length c) ∧ BoxN wx h m (.slice A' (dg M).length c') ∧ DS1 wx A c K ∧ DS1 wx A' c' M ∧ Below W.heap.size W wx
theorem BoxN.other {w : World} {g h : Nat} {n m : Bool} {v u : Value} (b : BoxN w g n v) (hne : h ≠ g) : BoxN ((w.setCell ⟨h, 0, none⟩ (.bool m)).setCell ⟨h, 1, none⟩ u) g n v := by
  obtain ⟨c0, c1, f0, f1, z⟩ := b
  have hne' : g ≠ h := fun e => hne e.symm
  refine ⟨?_, ?_, ?_, ?_, ?_⟩ <;> (first | (simp (maxDischargeDepth := 12) [go_sem, *]; done) | (simp; omega))
theorem of2_done {W X : World} {g h : Nat} {n m : Bool} {K M : Nat} {A A' : Option Addr} {c c' : Nat} (bg : BoxN X g false (.slice none 0 0)) (bh : BoxN X h false (.slice none 0 0)) (hne : g ≠ h) (d : DS1 X A c K) (d' : DS1 X A' c' M) (q : Below W.heap.size W X) (hg : W.heap.size ≤ g) (hh : W.heap.size ≤ h) :
    Of2 W n m K M (.pointer (some ⟨g, 0, none⟩)) (.pointer (some ⟨h, 0, none⟩)) ((((X.setCell ⟨g, 0, none⟩ (.bool n)).setCell ⟨g, 1, none⟩ (.slice A (dg K).length c)).setCell ⟨h, 0, none⟩ (.bool m)).setCell ⟨h, 1, none⟩ (.slice A' (dg M).length c')) := by
  have bg1 := bg.set2 (m := n) (A' := A) (l' := (dg K).length) (c' := c)
  have bh1 := bh.other (h := g) (m := n) (u := .slice A (dg K).length c) hne
  have hz : g < X.heap.size := bg.z
  have hz' : h < X.heap.size := bh.z
  exact ⟨g, h, A, A', c, c', rfl, rfl, bg1.other (fun e => hne e.symm), bh1.set2, (d.box bg).box bh1, (d'.box bg).box bh1,
    ((((q.setCell hg _).setCell hg _).setCell hh _).setCell hh _)⟩
section
variable {W X : World} {g h : Nat} {n m : Bool} {K M : Nat} {A A' : Option Addr} {c c' : Nat}
theorem of2_aa (d : DS1 X A c K) (d' : DS1 X A' c' M) (q : Below W.heap.size W X) :
    Of2 W n m K M (.pointer (some ⟨X.heap.size, 0, none⟩)) (.pointer (some ⟨X.heap.size + 1, 0, none⟩)) ((X.alloc (.cells #[.bool n, .slice A (dg K).length c] 34)).alloc (.cells #[.bool m, .slice A' (dg M).length c'] 34)) :=
  ⟨_, _, A, A', c, c', rfl, rfl, (BoxN.make X n (.slice A (dg K).length c) rfl).alloc _, BoxN.make _ m (.slice A' (dg M).length c') (by simp), (d.alloc _).alloc _, (d'.alloc _).alloc _, (q.alloc q.size _).alloc (by simp; have := q.size; omega) _⟩
theorem of2_ab (d : DS1 X A c K) (d' : DS1 X A' c' M) (q : Below W.heap.size W X) :
    Of2 W n m K M (.pointer (some ⟨X.heap.size + 1, 0, none⟩)) (.pointer (some ⟨X.heap.size, 0, none⟩)) ((X.alloc (.cells #[.bool m, .slice A' (dg M).length c'] 34)).alloc (.cells #[.bool n, .slice A (dg K).length c] 34)) :=
  ⟨_, _, A, A', c, c', rfl, rfl, BoxN.make _ n (.slice A (dg K).length c) (by simp), (BoxN.make X m (.slice A' (dg M).length c') rfl).alloc _, (d.alloc _).alloc _, (d'.alloc _).alloc _, (q.alloc q.size _).alloc (by simp; have := q.size; omega) _⟩
theorem of2_sa (d : DS1 X A c K) (d' : DS1 X A' c' M) (q : Below W.heap.size W X) (b : BoxN X g false (.slice none 0 0)) (hg : W.heap.size ≤ g) :
    Of2 W n m K M (.pointer (some ⟨g, 0, none⟩)) (.pointer (some ⟨X.heap.size, 0, none⟩)) (((X.setCell ⟨g, 0, none⟩ (.bool n)).setCell ⟨g, 1, none⟩ (.slice A (dg K).length c)).alloc (.cells #[.bool m, .slice A' (dg M).length c'] 34)) :=
  ⟨_, _, A, A', c, c', rfl, rfl, b.set2.alloc _, BoxN.make _ m (.slice A' (dg M).length c') (by simp), (d.box b).alloc _, (d'.box b).alloc _, ((q.setCell hg _).setCell hg _).alloc (by simp; exact q.size) _⟩
theorem of2_sb (d : DS1 X A c K) (d' : DS1 X A' c' M) (q : Below W.heap.size W X) (b : BoxN X h false (.slice none 0 0)) (hh : W.heap.size ≤ h) :
    Of2 W n m K M (.pointer (some ⟨X.heap.size, 0, none⟩)) (.pointer (some ⟨h, 0, none⟩)) (((X.setCell ⟨h, 0, none⟩ (.bool m)).setCell ⟨h, 1, none⟩ (.slice A' (dg M).length c')).alloc (.cells #[.bool n, .slice A (dg K).length c] 34)) :=
  ⟨_, _, A, A', c, c', rfl, rfl, BoxN.make _ n (.slice A (dg K).length c) (by simp), b.set2.alloc _, (d.box b).alloc _, (d'.box b).alloc _, ((q.setCell hh _).setCell hh _).alloc (by simp; exact q.size) _⟩
theorem of2_ss (d : DS1 X A c K) (d' : DS1 X A' c' M) (q : Below W.heap.size W X) (bg : BoxN X g false (.slice none 0 0)) (bh : BoxN X h false (.slice none 0 0)) (hne : g ≠ h) (hg : W.heap.size ≤ g) (hh : W.heap.size ≤ h) :
    Of2 W n m K M (.pointer (some ⟨g, 0, none⟩)) (.pointer (some ⟨h, 0, none⟩)) ((((X.setCell ⟨g, 0, none⟩ (.bool n)).setCell ⟨g, 1, none⟩ (.slice A (dg K).length c)).setCell ⟨h, 0, none⟩ (.bool m)).setCell ⟨h, 1, none⟩ (.slice A' (dg M).length c')) :=
  of2_done bg bh hne d d' q hg hh
end
theorem of_ds {n : Bool} {ha la z : Int} (i : IsD n ha la z) (w : World) :
    Calls Try.prog 18 #[.agg #[.bool n, .int .u64 ha, .int .u64 la]] w fun e w' => (∃ A c, e = .returned (.agg #[.bool n, .slice A (dg z.natAbs).length c]) ∧ DS1 w' A c z.natAbs) ∧ Below w.heap.size w w' := by
  refine (of_ok i w).mono fun e w' ⟨⟨v, he, ho⟩, hb⟩ => ⟨?_, hb⟩
  obtain ⟨A, c, rfl, hd⟩ := ho.ds
  exact ⟨A, c, he, hd⟩
end Go.Proofs.Ytkhhjibpppmekaa

/- The moves of a walk through a region that draws its order, the operations by their literal text. -/
namespace Go.Proofs.Ytkhhjibpppmekaa
section
variable {P : Program} {ops : Array Oper} {Q : Exit → Act → World → Prop} {md : Region.Mode} {S : World → Prop}
theorem lit_at {i : Nat} {oi : Oper} (h : (ops.toList.drop i).head? = some oi) : ops[i]? = some oi := by
  rw [List.head?_drop] at h
  simpa using h
theorem h4_take {i : Nat} {oi : Oper} {v : Value} {fuel : Nat} {listed : Array Bool} {a : Act} {w : World} (hi : (ops.toList.drop i).head? = some oi)
    (hs : Region.noSelect ops = true) (hf : Region.free md ops listed i = true) (hr : (Region.ready md ops listed).contains i = true)
    (hQ : ∀ c a w, Q (.panic c) (a.put oi.dst v) w → Q (.panic c) a w) (hw : Region.wanted oi (yielded ops a.tmps) = true) (hy : ∀ w, S w → (execOp a.eval oi).run P w = .ok (.value v) w) (hS : S w)
    (h : wpAnyH P md ops Q S fuel (listed.setIfInBounds i true) (a.put oi.dst v) w) : wpAnyH P md ops Q S (fuel + 1) listed a w :=
  wpAnyH_take (lit_at hi) hs hf hr hQ (.inl ⟨hw, hy⟩) hS h
theorem h4_skip {i : Nat} {oi : Oper} {fuel : Nat} {listed : Array Bool} {a : Act} {w : World} (hi : (ops.toList.drop i).head? = some oi)
    (hs : Region.noSelect ops = true) (hf : Region.free md ops listed i = true) (hr : (Region.ready md ops listed).contains i = true)
    (hQ : ∀ c a w, Q (.panic c) (a.put oi.dst undef) w → Q (.panic c) a w) (hw : Region.wanted oi (yielded ops a.tmps) = false) (hS : S w)
    (h : wpAnyH P md ops Q S fuel (listed.setIfInBounds i true) (a.put oi.dst undef) w) : wpAnyH P md ops Q S (fuel + 1) listed a w :=
  wpAnyH_take (lit_at hi) hs hf hr hQ (.inr ⟨hw, rfl⟩) hS h
theorem h4_cons {fuel : Nat} {listed : Array Bool} {a : Act} {w : World} {i : Nat} {o : Oper} {rs : List Nat} (ho : (ops.toList.drop i).head? = some o)
    (h : ∀ K' : Act → World → Prop, Shut (∀ a w, S w → (S w → wpAnyH P md ops Q S fuel (listed.setIfInBounds i true) a w) → K' a w) → if Region.wanted o (yielded ops a.tmps) = true then Oper.wp P o a w K' Q else K' (a.put o.dst undef) w)
    (hs : AllReadyH P md ops Q S fuel listed a w rs) : AllReadyH P md ops Q S fuel listed a w (i :: rs) :=
  AllReadyH.cons (lit_at ho) h hs
end
end Go.Proofs.Ytkhhjibpppmekaa

/- fieldfareref09: like, Kind, Good. -/
namespace Go.Proofs.Ytkhhjibpppmekaa
open Go.RowKit
theorem field_gE (a : Bool) (A : Option Addr) (l c : Nat) (n e : Int) (w : World) : (Instr.field 108 (.agg #[.bool a, .slice A l c, .int .i64 n, .int .i64 e]) 2).run Try.prog w = .ok (.int .i64 e) w := by
  simp [Instr.field, run_underlying Try.underlying108, asAgg, go_sem]
theorem field_gX (a : Bool) (A : Option Addr) (l c : Nat) (n e : Int) (w : World) : (Instr.field 108 (.agg #[.bool a, .slice A l c, .int .i64 n, .int .i64 e]) 0).run Try.prog w = .ok (.agg #[.bool a, .slice A l c]) w := by
  simp [Instr.field, run_underlying Try.underlying108, asAgg, go_sem]
set_option maxRecDepth 100000 in
set_option maxHeartbeats 800000 in
theorem rlike_any (bs : List Nat) (w : World) (hb : ∀ x ∈ bs, x < 256) (hl : bs.length ≤ 100000) :
    Calls Try.prog 60 #[.string (strN bs)] w fun e w' => e = .returned (.bool (likeB bs)) ∧ Below w.heap.size w w' := by
  have L0 := fun W => rlooks_any bs W hb hl
  have P0 := fun W => rprefix_q bs W hb hl
  have hlk : likeB bs = (looksB bs && !pOver bs) := rfl
  rw [hlk]
  clear hlk
  generalize strN bs = S at *
  generalize pP bs = pn at *
  generalize looksB bs = lk at *
  generalize ((nP bs : Nat) : Int) = np at *
  have hfE := field_gE
  cases lk
  · have LK := Lib.hid L0
    clear L0 P0
    go_enter Try.func60, Try.ntmps60
    go_wp2_with (go_at_call 87; (with_reducible refine (LK.out _).mono ?_); rintro e w1 ⟨rfl, b1⟩; have z1 := Below.size b1; (try simp at z1))
    go_ret
    exact ⟨by simp, by (repeat' (first | (with_reducible exact Below.refl _ _) | (refine Below.trans ?_ (Below.mono (by with_reducible assumption) ?_)) | (with_reducible exact Below.refl _ _) | (with_reducible refine below_drewN ?_ _) | (with_reducible refine Below.drew ?_) | (with_reducible refine Below.setCell ?_ ?_ _) | (with_reducible refine Below.alloc ?_ ?_ _) | (with_reducible assumption) | (simp; done) | (simp; omega) | omega))⟩
  · have LK := Lib.hid L0
    cases ho : pOver bs
    · rw [ho] at P0
      have PF := Lib.hid P0
      clear L0 P0 ho
      go_enter Try.func60, Try.ntmps60
      go_wp2_with (first
        | (go_at_call 87; (with_reducible refine (LK.out _).mono ?_); rintro e w1 ⟨rfl, b1⟩; have z1 := Below.size b1; (try simp at z1))
        | (go_at_call 69; (with_reducible refine (PF.out _).mono ?_); rintro e w2 ⟨⟨A2, c2, rfl, hd2⟩, b2⟩; have z2 := Below.size b2; (try simp at z2); clear hd2))
      go_ret
      exact ⟨by simp, by (repeat' (first | (with_reducible exact Below.refl _ _) | (refine Below.trans ?_ (Below.mono (by with_reducible assumption) ?_)) | (with_reducible exact Below.refl _ _) | (with_reducible refine below_drewN ?_ _) | (with_reducible refine Below.drew ?_) | (with_reducible refine Below.setCell ?_ ?_ _) | (with_reducible refine Below.alloc ?_ ?_ _) | (with_reducible assumption) | (simp; done) | (simp; omega) | omega))⟩
    · rw [ho] at P0
      have PF := Lib.hid P0
      clear L0 P0 ho
      go_enter Try.func60, Try.ntmps60
      go_wp2_with (first
        | (go_at_call 87; (with_reducible refine (LK.out _).mono ?_); rintro e w1 ⟨rfl, b1⟩; have z1 := Below.size b1; (try simp at z1))
        | (go_at_call 69; (with_reducible refine (PF.out _).mono ?_); rintro e w2 ⟨⟨A2, c2, rfl, hd2⟩, b2⟩; have z2 := Below.size b2; (try simp at z2); clear hd2))
      go_ret
      exact ⟨by simp, by (repeat' (first | (with_reducible exact Below.refl _ _) | (refine Below.trans ?_ (Below.mono (by with_reducible assumption) ?_)) | (with_reducible exact Below.refl _ _) | (with_reducible refine below_drewN ?_ _) | (with_reducible refine Below.drew ?_) | (with_reducible refine Below.setCell ?_ ?_ _) | (with_reducible refine Below.alloc ?_ ?_ _) | (with_reducible assumption) | (simp; done) | (simp; omega) | omega))⟩
theorem rkind_any (bs : List Nat) (w : World) (hb : ∀ x ∈ bs, x < 256) (hl : bs.length ≤ 100000) :
    Calls Try.prog 25 #[.string (strN bs)] w fun e w' => e = .returned (.int .i64 (if likeB bs then 3 else 2)) ∧ Below w.heap.size w w' := by
  have L0 := fun W => rlike_any bs W hb hl
  generalize strN bs = S at *
  cases hk : likeB bs
  all_goals
    rw [hk] at L0
    have LK := Lib.hid L0
    clear L0 hk hb hl
    go_enter Try.func25, Try.ntmps25
    go_wp2_with (go_at_call 60; (with_reducible refine (LK.out _).mono ?_); rintro e w1 ⟨rfl, b1⟩; have z1 := Below.size b1; (try simp at z1))
    go_ret
    exact ⟨by simp, by (repeat' (first | (with_reducible exact Below.refl _ _) | (refine Below.trans ?_ (Below.mono (by with_reducible assumption) ?_)) | (with_reducible exact Below.refl _ _) | (with_reducible refine below_drewN ?_ _) | (with_reducible refine Below.drew ?_) | (with_reducible refine Below.setCell ?_ ?_ _) | (with_reducible refine Below.alloc ?_ ?_ _) | (with_reducible assumption) | (simp; done) | (simp; omega) | omega))⟩
end Go.Proofs.Ytkhhjibpppmekaa
