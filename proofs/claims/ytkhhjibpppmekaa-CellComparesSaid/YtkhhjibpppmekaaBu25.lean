/- Several texts put together: RefO, RefP, RefQ, LawF. -/
import Derived.Test.YtkhhjibpppmekaaBu24
import Derived.Test.YtkhhjibpppmekaaBu10
import Derived.Test.YtkhhjibpppmekaaBu21
import Derived.Test.YtkhhjibpppmekaaBu9
/- fieldfareref01: Of, Good, Whole, Trunc, Neg, Same of a right number, in the words of its integer. -/
namespace Go.Proofs.Ytkhhjibpppmekaa
open Go.RowKit
theorem of_ok {n : Bool} {ha la z : Int} (i : IsD n ha la z) (w : World) :
    Calls Try.prog 18 #[.agg #[.bool n, .int .u64 ha, .int .u64 la]] w fun e w' => (∃ v, e = .returned (.agg #[.bool n, v]) ∧ OI w' w.heap.size v (dg z.natAbs)) ∧ Below w.heap.size w w' := by
  obtain ⟨⟨h0, h1⟩, ⟨l0, l1⟩, hz, hn, hl⟩ := i
  obtain ⟨x, rfl⟩ : ∃ x : Nat, ha = (x : Int) := ⟨ha.toNat, by omega⟩
  obtain ⟨y, rfl⟩ : ∃ y : Nat, la = (y : Int) := ⟨la.toNat, by omega⟩
  have := of_any n x y w (by omega) (by omega)
  rw [show x * 18446744073709551616 + y = z.natAbs by omega] at this
  exact this
theorem rgood_i (n : Bool) (ha la : Int) (wa : Wd ha) (xa : Wd la) {b : Bool} (hg : goodB n ha la = b) (w : World) :
    Calls Try.prog 15 #[.agg #[.bool n, .int .u64 ha, .int .u64 la]] w fun e w' => e = .returned (.bool b) ∧ Below w.heap.size w w' := by
  subst hg
  obtain ⟨h0, h1⟩ := wa; obtain ⟨l0, l1⟩ := xa
  obtain ⟨x, rfl⟩ : ∃ x : Nat, ha = (x : Int) := ⟨ha.toNat, by omega⟩
  obtain ⟨y, rfl⟩ : ∃ y : Nat, la = (y : Int) := ⟨la.toNat, by omega⟩
  exact rgood_any n x y w (by omega) (by omega)
/-- A whole part, and whether it fits. -/
def kz (z : Int) : Int := if -9223372036854775808 ≤ z.tdiv 1000000 ∧ z.tdiv 1000000 < 9223372036854775808 then z.tdiv 1000000 else 0
def okz (z : Int) : Bool := decide (-9223372036854775808 ≤ z.tdiv 1000000 ∧ z.tdiv 1000000 < 9223372036854775808)
theorem WholeA.eq {z k : Int} {ok : Bool} (h : WholeA z k ok) : k = kz z ∧ ok = okz z := by
  unfold WholeA at h
  unfold kz okz
  by_cases hr : -9223372036854775808 ≤ z.tdiv 1000000 ∧ z.tdiv 1000000 < 9223372036854775808
  · rw [if_pos hr] at h ⊢; rw [decide_eq_true hr]; exact h
  · rw [if_neg hr] at h ⊢; rw [decide_eq_false hr]; exact h
theorem whole_d {n : Bool} {ha la z : Int} (i : IsD n ha la z) (w : World) :
    Calls Try.prog 50 #[.agg #[.bool n, .int .u64 ha, .int .u64 la]] w fun e w' => e = .returned (.tuple #[.int .i64 (kz z), .bool (okz z)]) ∧ Below w.heap.size w w' := by
  refine (whole_any n ha la z i w).mono fun e w' ⟨⟨k, ok, he, hk⟩, hb⟩ => ⟨?_, hb⟩
  obtain ⟨rfl, rfl⟩ := WholeA.eq (z := z) (k := k) (ok := ok) hk
  exact he
theorem len36 {z : Int} (h : ((z.natAbs : Nat) : Int) < LIM) : (dg z.natAbs).length ≤ 36 := (dg_len_LIM _).2 h
theorem rwhole_d {n : Bool} {z : Int} (hn : n = zn z) (A : Option Addr) (c : Nat) (hc : (dg z.natAbs).length ≤ c) (W1 W : World) (hr : RI W1 W1.heap.size A (dg z.natAbs)) (q : Below W1.heap.size W1 W) :
    Calls Try.prog 54 #[.agg #[.bool n, .slice A (dg z.natAbs).length c]] W fun e w' => e = .returned (.tuple #[.int .i64 (kz z), .bool (okz z)]) ∧ Below W.heap.size W w' := by
  refine (rwhole_any n A c z hn W W1.heap.size q.size (hr.below q) hc).mono fun e w' ⟨⟨k, ok, he, hk⟩, hb⟩ => ⟨?_, hb⟩
  obtain ⟨rfl, rfl⟩ := hk.eq
  exact he
theorem same_d (n : Bool) (K : Nat) (A A' : Option Addr) (c c' : Nat) (hl : (dg K).length ≤ 36) (W1 W2 W : World) (hr : RI W1 W1.heap.size A (dg K)) (q1 : Below W1.heap.size W1 W2) (hr' : RI W2 W2.heap.size A' (dg K)) (q2 : Below W2.heap.size W2 W) :
    Calls Try.prog 38 #[.agg #[.bool n, .slice A (dg K).length c], .agg #[.bool n, .slice A' (dg K).length c']] W fun e w' => e = .returned (.bool true) ∧ Below W.heap.size W w' := by
  have := same_any n n A A' c c' K K W W2.heap.size q2.size (((hr.below q1).more q1.size).below q2) (hr'.below q2) (by omega) (by omega)
  simpa using this
theorem rtrunc_d {n : Bool} {z : Int} (hn : n = zn z) (A : Option Addr) (c : Nat) (hc : (dg z.natAbs).length ≤ c) (hl : (dg z.natAbs).length ≤ 36) (W1 W : World) (hr : RI W1 W1.heap.size A (dg z.natAbs)) (q : Below W1.heap.size W1 W) :
    Calls Try.prog 53 #[.agg #[.bool n, .slice A (dg z.natAbs).length c]] W fun e w' => (∃ v, e = .returned v ∧ NV w' w'.heap.size v (truncZ z)) ∧ Below W.heap.size W w' :=
  rtrunc_any n A c z hn W W1.heap.size q.size (hr.below q) hc (by omega)
/-- A digit slice's value and what it holds. -/
def DV1 (w : World) (A : Option Addr) (l c : Nat) (K : Nat) : Prop := l = (dg K).length ∧ RI w w.heap.size A (dg K) ∧ (dg K).length ≤ c
end Go.Proofs.Ytkhhjibpppmekaa

/- fieldfareref01: Mul. -/
namespace Go.Proofs.Ytkhhjibpppmekaa
open Go.RowKit
theorem mulZ_nat (a b : Int) : (mulZ a b).natAbs = a.natAbs * b.natAbs / 1000000 := by
  unfold mulZ
  rw [Int.natAbs_tdiv, Int.natAbs_mul]; rfl
theorem mul_zn (a b : Int) : zn (mulZ a b) = ((!zn a == zn b) && decide (0 < (mulZ a b).natAbs)) := by
  have h := mul_sign (n := zn a) (m := zn b) (za := a) (zb := b) rfl rfl
  rcases h with h | h
  · rw [h]; simp [zn]
  · have e : (!zn a == zn b) = zn (mulZ a b) := by
      rw [show zn (mulZ a b) = decide (mulZ a b < 0) from rfl, ← h]
    rw [e]
    cases hz : zn (mulZ a b)
    · rfl
    · unfold zn at hz; rw [decide_eq_true_eq] at hz
      symm; rw [Bool.true_and, decide_eq_true_eq]; omega
/-- A slice of the digits of K. -/
def DS1 (w : World) (A : Option Addr) (c K : Nat) : Prop := RI w w.heap.size A (dg K) ∧ (dg K).length ≤ c ∧ (A = none → dg K = [] ∧ c = 0)
theorem DS1.below {w w' : World} {A : Option Addr} {c K : Nat} (h : DS1 w A c K) (q : Below w.heap.size w w') : DS1 w' A c K := ⟨(h.1.below q).more q.size, h.2.1, h.2.2⟩
theorem DS1.setCell {w : World} {A : Option Addr} {c K : Nat} (h : DS1 w A c K) {p : Addr} {v : Value} (hp : w.cell? p = some v) (hv : ∀ k, v ≠ .int .i64 k) (u : Value) : DS1 (w.setCell p u) A c K := by
  refine ⟨fun hn => ?_, h.2.1, h.2.2⟩
  obtain ⟨ad, e, hb, hc⟩ := h.1 hn
  refine ⟨ad, e, by simpa using hb, fun j hj => ?_⟩
  have hne : p ≠ ad.add j := by
    rintro rfl
    rw [hc j hj] at hp
    exact hv _ (Option.some.inj hp).symm
  rw [World.cell?_setCell_other w p _ u hne]
  exact hc j hj
theorem DS1.box {w : World} {A A' : Option Addr} {c c' K l g : Nat} {n m : Bool} {u : Value} (h : DS1 w A c K) (b : BoxN w g n (.slice A' l c')) : DS1 ((w.setCell ⟨g, 0, none⟩ (.bool m)).setCell ⟨g, 1, none⟩ u) A c K :=
  (h.setCell b.c0 (by intro k e; cases e) _).setCell (v := .slice A' l c') (by have := b.c1; have := b.f0; simp (maxDischargeDepth := 12) [go_sem, *]) (by intro k e; cases e) _
theorem OI.ds {w : World} {b : Nat} {v : Value} {K : Nat} (h : OI w b v (dg K)) : ∃ A c, v = .slice A (dg K).length c ∧ DS1 w A c K := by
  obtain ⟨A, c, rfl, hc, hr, ha⟩ := h.slice
  exact ⟨A, c, rfl, hr, hc, ha⟩
theorem DS1.nv {w : World} {A : Option Addr} {c K : Nat} (h : DS1 w A c K) {s : Bool} {z : Int} (hs : s = zn z) (hK : K = z.natAbs) : NV w w.heap.size (.agg #[.bool s, .slice A (dg K).length c]) z := by
  subst hs hK; exact ⟨A, c, rfl, h.1, h.2.1, h.2.2⟩
theorem NV.ds {w : World} {v : Value} {z : Int} (h : NV w w.heap.size v z) : ∃ A c, v = .agg #[.bool (zn z), .slice A (dg z.natAbs).length c] ∧ DS1 w A c z.natAbs := by
  obtain ⟨A, c, rfl, hr, hc, ha⟩ := h
  exact ⟨A, c, rfl, hr, hc, ha⟩
theorem plus_d {A A' : Option Addr} {c c' N M : Nat} {W1 W : World} (h : DS1 W1 A c N) (h' : DS1 W1 A' c' M) (hl : (dg N).length ≤ 1000) (hl' : (dg M).length ≤ 1000) (q : Below W1.heap.size W1 W) :
    Calls Try.prog 98 #[.slice A (dg N).length c, .slice A' (dg M).length c'] W fun e w' => (∃ A2 c2, e = .returned (.slice A2 (dg (N + M)).length c2) ∧ DS1 w' A2 c2 (N + M)) ∧ Below W.heap.size W w' := by
  have := plus_any A A' c c' (dg N) (dg M) 1000 W W1.heap.size q.size (h.1.below q) (h'.1.below q) h.2.1 h'.2.1 (dg_dig _) (dg_dig _) hl hl' (by omega)
  rw [val_dg, val_dg] at this
  refine this.mono fun e w' ⟨⟨v, he, ho⟩, hb⟩ => ⟨?_, hb⟩
  obtain ⟨A2, c2, rfl, hd⟩ := ho.ds
  exact ⟨A2, c2, he, hd⟩
theorem minus_d {A A' : Option Addr} {c c' N M : Nat} {W1 W : World} (h : DS1 W1 A c N) (h' : DS1 W1 A' c' M) (hl : (dg N).length ≤ 1000) (hle : M ≤ N) (q : Below W1.heap.size W1 W) :
    Calls Try.prog 99 #[.slice A (dg N).length c, .slice A' (dg M).length c'] W fun e w' => (∃ A2 c2, e = .returned (.slice A2 (dg (N - M)).length c2) ∧ DS1 w' A2 c2 (N - M)) ∧ Below W.heap.size W w' := by
  have := minus_any A A' c c' (dg N) (dg M) W W1.heap.size q.size (h.1.below q) (h'.1.below q) h.2.1 h'.2.1 (dg_dig _) (dg_dig _) (by rw [val_dg, val_dg]; exact hle) (dg_len_mono hle) (by omega)
  rw [val_dg, val_dg] at this
  refine this.mono fun e w' ⟨⟨v, he, ho⟩, hb⟩ => ⟨?_, hb⟩
  obtain ⟨A2, c2, rfl, hd⟩ := ho.ds
  exact ⟨A2, c2, he, hd⟩
theorem times_d {A A' : Option Addr} {c c' N M : Nat} {W1 W : World} (h : DS1 W1 A c N) (h' : DS1 W1 A' c' M) (hl : (dg N).length ≤ 1000) (hl' : (dg M).length ≤ 1000) (q : Below W1.heap.size W1 W) :
    Calls Try.prog 85 #[.slice A (dg N).length c, .slice A' (dg M).length c'] W fun e w' => (∃ A2 c2, e = .returned (.slice A2 (dg (N * M)).length c2) ∧ DS1 w' A2 c2 (N * M)) ∧ Below W.heap.size W w' := by
  have := times_any A A' c c' (dg N) (dg M) W W1.heap.size q.size (h.1.below q) (h'.1.below q) h.2.1 h'.2.1 (dg_dig _) (dg_dig _) hl hl'
  rw [val_dg, val_dg] at this
  refine this.mono fun e w' ⟨⟨v, he, ho⟩, hb⟩ => ⟨?_, hb⟩
  obtain ⟨A2, c2, rfl, hd⟩ := ho.ds
  exact ⟨A2, c2, he, hd⟩
theorem over_d {A A' : Option Addr} {c c' N M : Nat} {W1 W2 W : World} (h : DS1 W1 A c N) (q1 : Below W1.heap.size W1 W2) (h' : DS1 W2 A' c' M) (hM : M ≠ 0) (hl : (dg N).length ≤ 1000) (hl' : (dg M).length ≤ 1000) (q : Below W2.heap.size W2 W) :
    Calls Try.prog 86 #[.slice A (dg N).length c, .slice A' (dg M).length c'] W fun e w' => (∃ A2 c2 A3 c3, e = .returned (.tuple #[.slice A2 (dg (N / M)).length c2, .slice A3 (dg (N % M)).length c3]) ∧ DS1 w' A2 c2 (N / M) ∧ DS1 w' A3 c3 (N % M)) ∧ Below W.heap.size W w' := by
  refine (over_any A A' c c' N M W W2.heap.size q.size ((h.below q1).1.below q) (h'.1.below q) h.2.1 h'.2.1 hM hl hl').mono fun e w' ⟨⟨v, v', he, ho, ho'⟩, hb⟩ => ⟨?_, hb⟩
  obtain ⟨A2, c2, rfl, hd⟩ := ho.ds
  obtain ⟨A3, c3, rfl, hd3⟩ := ho'.ds
  exact ⟨A2, c2, A3, c3, he, hd, hd3⟩
theorem lower_d {A : Option Addr} {c N : Nat} {W1 W : World} (h : DS1 W1 A c N) (q : Below W1.heap.size W1 W) :
    Calls Try.prog 82 #[.slice A (dg N).length c] W fun e w' => (∃ A2 c2, e = .returned (.slice A2 (dg (N / 1000000)).length c2) ∧ DS1 w' A2 c2 (N / 1000000)) ∧ Below W.heap.size W w' := by
  refine (lower_any A c N W W1.heap.size (h.1.below q) h.2.1).mono ?_
  rintro e w' ⟨⟨A2, c2, he, hr, hc, ha⟩, rfl⟩
  exact ⟨⟨A2, c2, he, hr.more q.size, hc, ha⟩, Below.refl _ _⟩
theorem cut_d {A : Option Addr} {c N : Nat} {W1 W : World} (h : DS1 W1 A c N) (hl : (dg N).length ≤ 1000) (q : Below W1.heap.size W1 W) :
    Calls Try.prog 58 #[.slice A (dg N).length c] W fun e w' => (∃ A2 c2, e = .returned (.slice A2 (dg N).length c2) ∧ DS1 w' A2 c2 N) ∧ Below W.heap.size W w' := by
  have := rcut_any A c (dg N) W W1.heap.size q.size (h.1.below q) h.2.1 h.2.2 (dg_dig _) (by omega)
  rw [val_dg] at this
  refine this.mono fun e w' ⟨⟨v, he, ho⟩, hb⟩ => ⟨?_, hb⟩
  obtain ⟨A2, c2, rfl, hd⟩ := ho.ds
  exact ⟨A2, c2, he, hd⟩
theorem less_d {A A' : Option Addr} {c c' N M : Nat} {W1 W : World} (h : DS1 W1 A c N) (h' : DS1 W1 A' c' M) (hl : (dg N).length ≤ 1000) (q : Below W1.heap.size W1 W) :
    Calls Try.prog 70 #[.slice A (dg N).length c, .slice A' (dg M).length c'] W fun e w' => e = .returned (.bool (decide (N < M))) ∧ Below W.heap.size W w' := by
  refine (less_any A A' c c' N M W W1.heap.size (h.1.below q) (h'.1.below q) (by omega)).mono ?_
  rintro e w' ⟨he, k, rfl⟩
  exact ⟨he, below_drewN (Below.refl _ _) k⟩
theorem held_d {s : Bool} {A : Option Addr} {c K : Nat} {z : Int} {W1 W : World} (h : DS1 W1 A c K) (hs : s = zn z) (hK : K = z.natAbs) (q : Below W1.heap.size W1 W) :
    Calls Try.prog 84 #[.agg #[.bool s, .slice A (dg K).length c]] W fun e w' => (∃ A2 c2, e = .returned (.tuple #[.agg #[.bool (zn (heldZ z)), .slice A2 (dg (heldZ z).natAbs).length c2], .int .i64 (heldC z)]) ∧ DS1 w' A2 c2 (heldZ z).natAbs) ∧ Below W.heap.size W w' := by
  refine (rheld_any _ z W W.heap.size (Nat.le_refl _) ((h.below q).nv hs hK)).mono fun e w' ⟨⟨v, he, hv⟩, hb⟩ => ⟨?_, hb⟩
  obtain ⟨A2, c2, rfl, hd⟩ := (hv.more hb.size).ds
  exact ⟨A2, c2, he, hd⟩
set_option maxRecDepth 100000 in
set_option maxHeartbeats 1600000 in
theorem rmul_d {n m : Bool} {A A' : Option Addr} {c c' : Nat} {za zb : Int} (hn : n = zn za) (hm : m = zn zb) (w0 w : World) (h : DS1 w0 A c za.natAbs) (h' : DS1 w0 A' c' zb.natAbs) (hl : (dg za.natAbs).length ≤ 36) (hl' : (dg zb.natAbs).length ≤ 36) (q : Below w0.heap.size w0 w) :
    Calls Try.prog 55 #[.agg #[.bool n, .slice A (dg za.natAbs).length c], .agg #[.bool m, .slice A' (dg zb.natAbs).length c']] w fun e w' => (∃ A2 c2, e = .returned (.tuple #[.agg #[.bool (zn (heldZ (mulZ za zb))), .slice A2 (dg (heldZ (mulZ za zb)).natAbs).length c2], .int .i64 (heldC (mulZ za zb))]) ∧ DS1 w' A2 c2 (heldZ (mulZ za zb)).natAbs) ∧ Below w.heap.size w w' := by
  have hz := mul_zn za zb
  have hzn := mulZ_nat za zb
  rw [← hn, ← hm] at hz
  obtain ⟨N, hN⟩ : ∃ N, N = za.natAbs := ⟨_, rfl⟩
  obtain ⟨M, hM⟩ : ∃ M, M = zb.natAbs := ⟨_, rfl⟩
  rw [← hN] at h hl
  rw [← hM] at h' hl'
  rw [← hN, ← hM] at hzn ⊢
  have hlp : (dg (N * M)).length ≤ 72 := by
    refine dg_len_bound ?_
    have := Nat.mul_lt_mul'' (dg_len_lt hl) (dg_len_lt hl')
    rw [← Nat.pow_add] at this
    exact this
  have hlk : (dg (N * M / 1000000)).length ≤ 72 := Nat.le_trans (dg_len_mono (Nat.div_le_self _ _)) hlp
  have SG0 := fun W A' c' => signed_any (!n == m) A' c' (N * M / 1000000) W
  rw [hzn] at hz
  rw [← hz] at SG0
  have hw3 : Below w.heap.size w (((w.alloc (.cells #[.bool n, .slice A (dg N).length c] 34)).alloc (.cells #[.bool m, .slice A' (dg M).length c'] 34)).alloc (.cells #[.bool false, .slice none 0 0] 34)) := by (repeat' (first | (with_reducible exact Below.refl _ _) | (refine Below.trans ?_ (Below.mono (by with_reducible assumption) ?_)) | (with_reducible exact Below.refl _ _) | (with_reducible refine below_drewN ?_ _) | (with_reducible refine Below.drew ?_) | (with_reducible refine Below.setCell ?_ ?_ _) | (with_reducible refine Below.alloc ?_ ?_ _) | (with_reducible assumption) | (simp; done) | (simp; omega) | omega))
  have ya_3 : Hid (BoxN _ w.heap.size n _) := Lib.hid (((BoxN.make w n (.slice A (dg N).length c) rfl).alloc (.cells #[.bool m, .slice A' (dg M).length c'] 34)).alloc (.cells #[.bool false, .slice none 0 0] 34))
  have yb_3 : Hid (BoxN _ (w.heap.size + 1) m _) := Lib.hid ((BoxN.make (w.alloc (.cells #[.bool n, .slice A (dg N).length c] 34)) m (.slice A' (dg M).length c') (by simp)).alloc (.cells #[.bool false, .slice none 0 0] 34))
  have yr_3 : Hid (BoxN _ (w.heap.size + 1 + 1) false _) := Lib.hid (BoxN.make ((w.alloc (.cells #[.bool n, .slice A (dg N).length c] 34)).alloc (.cells #[.bool m, .slice A' (dg M).length c'] 34)) false (.slice none 0 0) (by simp))
  have HA := Lib.hid (h.below (q.trans (hw3.mono q.size))); have HB := Lib.hid (h'.below (q.trans (hw3.mono q.size)))
  have SG := Lib.hid SG0; have HLN := Lib.hid hl; have HLM := Lib.hid hl'; have HLP := Lib.hid hlp; have HLK := Lib.hid hlk; have HW3 := Lib.hid hw3; have HKZ := Lib.hid hzn
  obtain ⟨ln, hln⟩ : ∃ ln, ln = (dg N).length := ⟨_, rfl⟩
  obtain ⟨lm, hlm⟩ : ∃ lm, lm = (dg M).length := ⟨_, rfl⟩
  rw [← hln, ← hlm] at HA HB ya_3 yb_3 yr_3 HW3 ⊢
  have TM := Lib.hid (fun W qq => times_d HA.out HB.out (W := W) (by have := HLN.out; omega) (by have := HLM.out; omega) qq)
  rw [← hln, ← hlm] at TM
  clear hz hzn hN hM h h' hl hl' hlp hlk SG0 hw3 q hln hlm hn hm
  go_enter Try.func55, Try.ntmps55
  go_upto_region 1 with fail
  obtain ⟨w3, hw3⟩ : ∃ x, x = (((w.alloc (.cells #[.bool n, .slice A ln c] 34)).alloc (.cells #[.bool m, .slice A' lm c'] 34)).alloc (.cells #[.bool false, .slice none 0 0] 34)) := ⟨_, rfl⟩; rw [← hw3]
  rw [← hw3] at HA HB ya_3 yb_3 yr_3 HW3 TM
  clear hw3
  have ya_4 := Lib.hid (ya_3.out); have ya_40 := ya_4.out.c0; have ya_41 := ya_4.out.c1; have ya_42 := ya_4.out.f0; have ya_43 := ya_4.out.f1; have ya_4z := ya_4.out.z
  have yb_4 := Lib.hid (yb_3.out); have yb_40 := yb_4.out.c0; have yb_41 := yb_4.out.c1; have yb_42 := yb_4.out.f0; have yb_43 := yb_4.out.f1; have yb_4z := yb_4.out.z
  have yr_4 := Lib.hid (yr_3.out); have yr_40 := yr_4.out.c0; have yr_41 := yr_4.out.c1; have yr_42 := yr_4.out.f0; have yr_43 := yr_4.out.f1; have yr_4z := yr_4.out.z
  have z34 : w3.heap.size ≤ w3.heap.size := Nat.le_refl _
  go_region_held3 (fun w' => w'.cell? ⟨w.heap.size, 0, none⟩ = some (.bool n) ∧ w'.cell? ⟨w.heap.size, 1, none⟩ = some ((.slice A ln c)) ∧ w'.cell? ⟨w.heap.size + 1, 0, none⟩ = some (.bool m) ∧ w'.cell? ⟨w.heap.size + 1, 1, none⟩ = some ((.slice A' lm c'))) ((and_intros <;> (first | (with_reducible assumption) | (go_simp; done) | (simp (maxDischargeDepth := 12) [go_sem]; done) | (simp (maxDischargeDepth := 12) [go_sem, *]; done) | exact (Below.cell (by with_reducible assumption) (by first | (simp; done) | (simp; omega) | omega)).trans (by simp (maxDischargeDepth := 12) [go_sem]))))
    (first
      | (go_at_call 85; (with_reducible refine (TM.out _ (by repeat' (first | (with_reducible exact Below.refl _ _) | (with_reducible assumption) | (with_reducible refine Below.drew ?_) | (with_reducible refine below_drewN ?_ _) | (with_reducible refine Below.alloc ?_ ?_ _) | (with_reducible exact Nat.le_refl _) | (simp; done) | (simp; omega)))).mono ?_); rintro e w5 ⟨⟨A5, c5, rfl, hd5⟩, b5⟩; have p5 : Below w3.heap.size w3 w5 := Below.trans (by repeat' (first | (with_reducible assumption) | (with_reducible exact Below.refl _ _) | (with_reducible refine Below.drew ?_) | (with_reducible refine below_drewN ?_ _) | (with_reducible refine Below.alloc ?_ ?_ _) | (with_reducible exact Nat.le_refl _) | (simp; done) | (simp; omega) | omega)) (Below.mono b5 (by first | omega | (simp; done) | (simp; omega))); have ya_5 := Lib.hid (BoxN.below ya_4.out p5); have ya_50 := ya_5.out.c0; have ya_51 := ya_5.out.c1; have ya_52 := ya_5.out.f0; have ya_53 := ya_5.out.f1; have ya_5z := ya_5.out.z; have yb_5 := Lib.hid (BoxN.below yb_4.out p5); have yb_50 := yb_5.out.c0; have yb_51 := yb_5.out.c1; have yb_52 := yb_5.out.f0; have yb_53 := yb_5.out.f1; have yb_5z := yb_5.out.z; have yr_5 := Lib.hid (BoxN.below yr_4.out p5); have yr_50 := yr_5.out.c0; have yr_51 := yr_5.out.c1; have yr_52 := yr_5.out.f0; have yr_53 := yr_5.out.f1; have yr_5z := yr_5.out.z; have HD5 := Lib.hid hd5; clear hd5)
      | (go_at_call 82; (with_reducible refine (lower_d HD5.out (by repeat' (first | (with_reducible exact Below.refl _ _) | (with_reducible assumption) | (with_reducible refine Below.drew ?_) | (with_reducible refine below_drewN ?_ _) | (with_reducible refine Below.alloc ?_ ?_ _) | (with_reducible exact Nat.le_refl _) | (simp; done) | (simp; omega)))).mono ?_); rintro e w6 ⟨⟨A6, c6, rfl, hd6⟩, b6⟩; have p6 : Below w5.heap.size w5 w6 := Below.trans (by repeat' (first | (with_reducible assumption) | (with_reducible exact Below.refl _ _) | (with_reducible refine Below.drew ?_) | (with_reducible refine below_drewN ?_ _) | (with_reducible refine Below.alloc ?_ ?_ _) | (with_reducible exact Nat.le_refl _) | (simp; done) | (simp; omega) | omega)) (Below.mono b6 (by first | omega | (simp; done) | (simp; omega))); have ya_6 := Lib.hid (BoxN.below ya_5.out p6); have ya_60 := ya_6.out.c0; have ya_61 := ya_6.out.c1; have ya_62 := ya_6.out.f0; have ya_63 := ya_6.out.f1; have ya_6z := ya_6.out.z; have yb_6 := Lib.hid (BoxN.below yb_5.out p6); have yb_60 := yb_6.out.c0; have yb_61 := yb_6.out.c1; have yb_62 := yb_6.out.f0; have yb_63 := yb_6.out.f1; have yb_6z := yb_6.out.z; have yr_6 := Lib.hid (BoxN.below yr_5.out p6); have yr_60 := yr_6.out.c0; have yr_61 := yr_6.out.c1; have yr_62 := yr_6.out.f0; have yr_63 := yr_6.out.f1; have yr_6z := yr_6.out.z; have HD6 := Lib.hid hd6; clear hd6)
      | (go_at_call 58; (with_reducible refine (cut_d HD6.out (Nat.le_trans HLK.out (by decide)) (by repeat' (first | (with_reducible exact Below.refl _ _) | (with_reducible assumption) | (with_reducible refine Below.drew ?_) | (with_reducible refine below_drewN ?_ _) | (with_reducible refine Below.alloc ?_ ?_ _) | (with_reducible exact Nat.le_refl _) | (simp; done) | (simp; omega)))).mono ?_); rintro e w7 ⟨⟨A7, c7, rfl, hd7⟩, b7⟩; have p7 : Below w6.heap.size w6 w7 := Below.trans (by repeat' (first | (with_reducible assumption) | (with_reducible exact Below.refl _ _) | (with_reducible refine Below.drew ?_) | (with_reducible refine below_drewN ?_ _) | (with_reducible refine Below.alloc ?_ ?_ _) | (with_reducible exact Nat.le_refl _) | (simp; done) | (simp; omega) | omega)) (Below.mono b7 (by first | omega | (simp; done) | (simp; omega))); have ya_7 := Lib.hid (BoxN.below ya_6.out p7); have ya_70 := ya_7.out.c0; have ya_71 := ya_7.out.c1; have ya_72 := ya_7.out.f0; have ya_73 := ya_7.out.f1; have ya_7z := ya_7.out.z; have yb_7 := Lib.hid (BoxN.below yb_6.out p7); have yb_70 := yb_7.out.c0; have yb_71 := yb_7.out.c1; have yb_72 := yb_7.out.f0; have yb_73 := yb_7.out.f1; have yb_7z := yb_7.out.z; have yr_7 := Lib.hid (BoxN.below yr_6.out p7); have yr_70 := yr_7.out.c0; have yr_71 := yr_7.out.c1; have yr_72 := yr_7.out.f0; have yr_73 := yr_7.out.f1; have yr_7z := yr_7.out.z; have HD7 := Lib.hid hd7; clear hd7)
      | (go_at_call 83; (with_reducible refine (SG.out _ _ _).mono ?_); rintro e w8 ⟨rfl, b8⟩; have p8 : Below w7.heap.size w7 w8 := Below.trans (by repeat' (first | (with_reducible assumption) | (with_reducible exact Below.refl _ _) | (with_reducible refine Below.drew ?_) | (with_reducible refine below_drewN ?_ _) | (with_reducible refine Below.alloc ?_ ?_ _) | (with_reducible exact Nat.le_refl _) | (simp; done) | (simp; omega) | omega)) (Below.mono b8 (by first | omega | (simp; done) | (simp; omega))); have ya_8 := Lib.hid (BoxN.below ya_7.out p8); have ya_80 := ya_8.out.c0; have ya_81 := ya_8.out.c1; have ya_82 := ya_8.out.f0; have ya_83 := ya_8.out.f1; have ya_8z := ya_8.out.z; have yb_8 := Lib.hid (BoxN.below yb_7.out p8); have yb_80 := yb_8.out.c0; have yb_81 := yb_8.out.c1; have yb_82 := yb_8.out.f0; have yb_83 := yb_8.out.f1; have yb_8z := yb_8.out.z; have yr_8 := Lib.hid (BoxN.below yr_7.out p8); have yr_80 := yr_8.out.c0; have yr_81 := yr_8.out.c1; have yr_82 := yr_8.out.f0; have yr_83 := yr_8.out.f1; have yr_8z := yr_8.out.z; have HD8 := Lib.hid (HD7.out.below p8))
      | (go_at_call 84; (with_reducible refine (held_d HD8.out rfl HKZ.out.symm (by repeat' (first | (with_reducible exact Below.refl _ _) | (with_reducible assumption) | (with_reducible refine Below.drew ?_) | (with_reducible refine below_drewN ?_ _) | (with_reducible refine Below.alloc ?_ ?_ _) | (with_reducible exact Nat.le_refl _) | (simp; done) | (simp; omega)))).mono ?_); rintro e w9 ⟨⟨A9, c9, rfl, hd9⟩, b9⟩; have p9 : Below w8.heap.size w8 w9 := Below.trans (by repeat' (first | (with_reducible assumption) | (with_reducible exact Below.refl _ _) | (with_reducible refine Below.drew ?_) | (with_reducible refine below_drewN ?_ _) | (with_reducible refine Below.alloc ?_ ?_ _) | (with_reducible exact Nat.le_refl _) | (simp; done) | (simp; omega) | omega)) (Below.mono b9 (by first | omega | (simp; done) | (simp; omega))); have ya_9 := Lib.hid (BoxN.below ya_8.out p9); have ya_90 := ya_9.out.c0; have ya_91 := ya_9.out.c1; have ya_92 := ya_9.out.f0; have ya_93 := ya_9.out.f1; have ya_9z := ya_9.out.z; have yb_9 := Lib.hid (BoxN.below yb_8.out p9); have yb_90 := yb_9.out.c0; have yb_91 := yb_9.out.c1; have yb_92 := yb_9.out.f0; have yb_93 := yb_9.out.f1; have yb_9z := yb_9.out.z; have yr_9 := Lib.hid (BoxN.below yr_8.out p9); have yr_90 := yr_9.out.c0; have yr_91 := yr_9.out.c1; have yr_92 := yr_9.out.f0; have yr_93 := yr_9.out.f1; have yr_9z := yr_9.out.z; have HD9 := Lib.hid hd9; clear hd9))
  go_wp2_with fail
  (try simp only [Exit.inBlock, Exit.then]); refine bodyPost_ret (by simp [results, Try.results55, go_sem, *]; try rfl) rfl ?_
  have z5 := p5.size; have z6 := p6.size; have z7 := p7.size; have z8 := p8.size; have z3 := HW3.out.size
  have q9 : Below w.heap.size w w9 := HW3.out.trans ((p5.trans ((p6.trans ((p7.trans ((p8.trans (p9.mono z8)).mono z7)).mono z6)).mono z5)).mono z3)
  exact ⟨⟨A9, c9, rfl, HD9.out.box yr_9.out⟩, (q9.setCell (by simp; omega) _).setCell (by simp; omega) _⟩
end Go.Proofs.Ytkhhjibpppmekaa

/- fieldfareref01: Add. -/
namespace Go.Proofs.Ytkhhjibpppmekaa
open Go.RowKit
theorem BoxN.set2 {w : World} {g : Nat} {n m : Bool} {A A' : Option Addr} {l l' c c' : Nat} (b : BoxN w g n (.slice A l c)) : BoxN ((w.setCell ⟨g, 0, none⟩ (.bool m)).setCell ⟨g, 1, none⟩ (.slice A' l' c')) g m (.slice A' l' c') := b.set
/-- The sign and the magnitude of a sum. -/
theorem add_same_zn {za zb : Int} (h : zn za = zn zb) : (zn za && decide (0 < za.natAbs + zb.natAbs)) = zn (za + zb) ∧ za.natAbs + zb.natAbs = (za + zb).natAbs := by
  unfold zn at h ⊢
  rw [decide_eq_decide] at h
  constructor
  · rw [Bool.eq_iff_iff, Bool.and_eq_true, decide_eq_true_eq, decide_eq_true_eq, decide_eq_true_eq]; omega
  · omega
theorem add_lt_zn {za zb : Int} (h : zn za ≠ zn zb) (hlt : za.natAbs < zb.natAbs) : (zn zb && decide (0 < zb.natAbs - za.natAbs)) = zn (za + zb) ∧ zb.natAbs - za.natAbs = (za + zb).natAbs := by
  unfold zn at h ⊢
  rw [Ne, decide_eq_decide] at h
  constructor
  · rw [Bool.eq_iff_iff, Bool.and_eq_true, decide_eq_true_eq, decide_eq_true_eq, decide_eq_true_eq]; omega
  · omega
theorem add_ge_zn {za zb : Int} (h : zn za ≠ zn zb) (hge : ¬ za.natAbs < zb.natAbs) : (zn za && decide (0 < za.natAbs - zb.natAbs)) = zn (za + zb) ∧ za.natAbs - zb.natAbs = (za + zb).natAbs := by
  unfold zn at h ⊢
  rw [Ne, decide_eq_decide] at h
  constructor
  · rw [Bool.eq_iff_iff, Bool.and_eq_true, decide_eq_true_eq, decide_eq_true_eq, decide_eq_true_eq]; omega
  · omega
end Go.Proofs.Ytkhhjibpppmekaa

/- fieldfarelaw01.DecSigns: the walk. -/
namespace Go.Proofs.Ytkhhjibpppmekaa
open Go.RowKit
theorem code_b0 (W : World) : Calls Try.prog 16 #[.nilIface] W fun e w' => e = .returned (.int .i64 0) ∧ Below W.heap.size W w' := by
  refine (code_nil W).mono ?_
  rintro e w' ⟨rfl, rfl⟩
  exact ⟨rfl, Below.refl _ _⟩
theorem code_bk (k : Int) (h1 : 1 ≤ k) (h2 : k ≤ 25) (W : World) : Calls Try.prog 16 #[.iface 83 (.int .i64 k)] W fun e w' => e = .returned (.int .i64 k) ∧ Below W.heap.size W w' := by
  refine (code_errno k h1 h2 W).mono ?_
  rintro e w' ⟨rfl, rfl⟩
  exact ⟨rfl, Below.refl _ _⟩
/-- What the error of an answer counts. -/
theorem OkV.code {z : Int} {rn : Bool} {rh rl : Int} {er : Value} (h : OkV z rn rh rl er) : ∃ K : Int, ∀ W, Calls Try.prog 16 #[er] W fun e w' => e = .returned (.int .i64 K) ∧ Below W.heap.size W w' := by
  rcases h with ⟨rfl, _⟩ | ⟨rfl, _⟩
  · exact ⟨0, code_b0⟩
  · exact ⟨2, code_bk 2 (by decide) (by decide)⟩
theorem OkV.uniq {z : Int} {rn sn : Bool} {rh rl sh sl : Int} {er fr : Value} (h : OkV z rn rh rl er) (h' : OkV z sn sh sl fr) : sn = rn ∧ sh = rh ∧ sl = rl ∧ fr = er := by
  rcases h with ⟨rfl, i⟩ | ⟨rfl, rfl, rfl, rfl, hl⟩ <;> rcases h' with ⟨rfl, j⟩ | ⟨rfl, rfl, rfl, rfl, hl'⟩
  · obtain ⟨a, b, c⟩ := i.eq
    obtain ⟨a', b', c'⟩ := j.eq
    exact ⟨a'.trans a.symm, b'.trans b.symm, c'.trans c.symm, rfl⟩
  · have := i.2.2.2.2; omega
  · have := j.2.2.2.2; omega
  · exact ⟨rfl, rfl, rfl, rfl⟩
end Go.Proofs.Ytkhhjibpppmekaa
