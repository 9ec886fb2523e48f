/- Several texts put together: CodE, CodF, CodG, CodH. -/
import Derived.Test.YtanbplnagcmlcaaBu2
import Derived.Test.YtanbplnagcmlcaaShelf
/- Layer 15: the variable of a place. -/
namespace Go.Proofs.Ytanbplnagcmlcaa
open Go.RowKit
/-- What (a pointer to) heights holds of its code: its first cells, and what they read as. -/
structure Gs (w : World) (B g : Nat) (C : CodeV) (G L P J : Value) (row : Value × List InsV) (loc : Value × List VarV) : Prop where
  ok : C.ok w B G L P J
  rok : rowOk w B row
  lok : varsOk w B loc
  c0 : w.cell? ⟨g, 0, none⟩ = some G
  c1 : w.cell? ⟨g, 1, none⟩ = some L
  c2 : w.cell? ⟨g, 2, none⟩ = some P
  c3 : w.cell? ⟨g, 3, none⟩ = some J
  c4 : w.cell? ⟨g, 4, none⟩ = some row.1
  c5 : w.cell? ⟨g, 5, none⟩ = some loc.1
  hB : B ≤ w.heap.size
  hg : g < w.heap.size
theorem Gs.below {w w' : World} {B g : Nat} {C : CodeV} {G L P J : Value} {row : Value × List InsV} {loc : Value × List VarV} (H : Gs w B g C G L P J row loc) (q : Below w.heap.size w w') : Gs w' B g C G L P J row loc :=
  have q' := q.mono H.hB
  ⟨H.ok.below q', H.rok.below q', H.lok.below q', (q.cell H.hg).trans H.c0, (q.cell H.hg).trans H.c1, (q.cell H.hg).trans H.c2, (q.cell H.hg).trans H.c3, (q.cell H.hg).trans H.c4, (q.cell H.hg).trans H.c5, Nat.le_trans H.hB q.size, Nat.lt_of_lt_of_le H.hg q.size⟩
def mineV (loc : Value × List VarV) : List Bool := loc.2.map (·.2)
def vOk (C : CodeV) (loc : Value × List VarV) (sc i : Int) : Bool := (varAt (pNms C) (mineV loc) sc i).isSome
def vArr (C : CodeV) (loc : Value × List VarV) (sc i : Int) : Bool := (varAt (pNms C) (mineV loc) sc i).getD false
def VarPost (C : CodeV) (loc : Value × List VarV) (sc i : Int) (w : World) (e : Ending) (w' : World) : Prop :=
  (∃ s, e = .returned (.tuple #[.agg #[.string s, .bool (vArr C loc sc i)], .bool (vOk C loc sc i)])) ∧ Below w.heap.size w w'
theorem vars_at {w : World} {B j n : Nat} {A : Option Addr} {l : List VarV} (hl : l.length = n) (h : Reads w B 2 A n (l.flatMap varC)) (hj : j < n) :
    ∃ ad q s b, A = some ad ∧ ad.add (j * 2) = q ∧ q.block < B ∧ (l.map (·.2))[j]? = some b ∧ w.cell? q = some (.string s) ∧ w.cell? ⟨q.block, q.off + 1, none⟩ = some (.bool b) := by
  obtain ⟨ad, e, hb, hc⟩ := reads_at h hj
  obtain ⟨u0, h0, c0⟩ := hc 0 (by omega)
  obtain ⟨u1, h1, c1⟩ := hc 1 (by omega)
  rw [flat_at varC 2 (fun _ => rfl) l j _ (by omega) (by omega)] at h0 h1
  simp [varC] at h0 h1
  subst h0 h1
  refine ⟨ad, _, _, _, e, rfl, by rw [block_of_add]; exact hb, by rw [List.getElem?_map, List.getElem?_eq_getElem (by omega)]; rfl, by simpa using c0, ?_⟩
  rw [← add_of_add] at c1
  exact c1
theorem atI_nat {α : Type} (l : List α) (k : Nat) : atI l (k : Int) = l[k]? := by
  unfold atI; rw [if_neg (by omega), Int.toNat_natCast]
theorem atI_out {α : Type} (l : List α) (i : Int) (h : ¬ (0 ≤ i ∧ i < l.length)) : atI l i = none := by
  unfold atI
  by_cases h0 : i < 0
  · rw [if_pos h0]
  · rw [if_neg h0, List.getElem?_eq_none]; omega
theorem vOk_loc {C : CodeV} {loc : Value × List VarV} {i : Int} : vOk C loc 1 i = (atI (loc.2.map (·.2)) i).isSome ∧ vArr C loc 1 i = (atI (loc.2.map (·.2)) i).getD false := ⟨rfl, rfl⟩
theorem vOk_gl {C : CodeV} {loc : Value × List VarV} {i : Int} : vOk C loc 0 i = (atI (C.gl.map (·.2)) i).isSome ∧ vArr C loc 0 i = (atI (C.gl.map (·.2)) i).getD false := ⟨rfl, rfl⟩
theorem vOk_no {C : CodeV} {loc : Value × List VarV} {sc i : Int} (h1 : sc ≠ 1) (h0 : sc ≠ 0) : vOk C loc sc i = false ∧ vArr C loc sc i = false := by
  unfold vOk vArr varAt; rw [if_neg h1, if_neg h0]; exact ⟨rfl, rfl⟩
theorem var_yes {C : CodeV} {loc : Value × List VarV} {sc i : Int} {w w' : World} {s : ByteArray} {b : Bool} {e : Ending} (he : e = .returned (.tuple #[.agg #[.string s, .bool b], .bool true])) (h1 : vOk C loc sc i = true) (h2 : vArr C loc sc i = b) (hb : Below w.heap.size w w') : VarPost C loc sc i w e w' :=
  ⟨⟨s, by rw [h1, h2, he]⟩, hb⟩
theorem var_no {C : CodeV} {loc : Value × List VarV} {sc i : Int} {w w' : World} {s : ByteArray} {e : Ending} (he : e = .returned (.tuple #[.agg #[.string s, .bool false], .bool false])) (h1 : vOk C loc sc i = false) (h2 : vArr C loc sc i = false) (hb : Below w.heap.size w w') : VarPost C loc sc i w e w' :=
  ⟨⟨s, by rw [h1, h2, he]⟩, hb⟩
set_option maxHeartbeats 400000 in
theorem variable_any {w : World} {B g : Nat} {C : CodeV} {G L P J : Value} {row : Value × List InsV} {loc : Value × List VarV} (H : Gs w B g C G L P J row loc) (sc i : Int) (hi : I64 i) :
    Calls Try.prog 20 #[.pointer (some ⟨g, 0, none⟩), .int .i64 sc, .int .i64 i] w (VarPost C loc sc i w) := by
  have h0 := H.c0
  have h5 := H.c5
  have hg := H.hg
  have hB := H.hB
  obtain ⟨A, c, e1, hc1, hc2, hn, hr⟩ := H.ok.g
  obtain ⟨A', c', e1', hc1', hc2', hn', hr'⟩ := H.lok
  rw [e1] at h0
  rw [e1'] at h5
  clear H
  unfold I64 at hi
  unfold maxLen at hc2 hc2'
  by_cases s1 : sc = 1
  · subst s1
    by_cases r : 0 ≤ i ∧ i < loc.2.length
    · obtain ⟨k, rfl⟩ : ∃ k : Nat, i = (k : Int) := ⟨i.toNat, by omega⟩
      obtain ⟨ad, q, s, b, rfl, hq, hb, hv, hx, hy⟩ := vars_at rfl hr' (j := k) (by omega)
      have hk : k < loc.2.length := by omega
      have hqb : q.block < w.heap.size := by omega
      have HV := Lib.hid hv
      clear r hr hr' e1 e1' hn hn' hv hb
      go_enter Try.func20, Try.ntmps20
      go_wp2
      (try simp only [Exit.inBlock, Exit.then]); refine bodyPost_ret (by simp [results, Try.results20, go_sem, *]; try rfl) rfl ?_
      exact var_yes rfl (by rw [vOk_loc.1, atI_nat, HV.out]; rfl) (by rw [vOk_loc.2, atI_nat, HV.out]; rfl) (by (repeat' (first | (with_reducible exact Below.refl _ _) | (refine Below.trans ?_ (Below.mono (by with_reducible assumption) ?_)) | (with_reducible exact Below.refl _ _) | (with_reducible refine below_drewN ?_ _) | (with_reducible refine Below.drew ?_) | (with_reducible refine Below.setCell ?_ ?_ _) | (with_reducible refine Below.alloc ?_ ?_ _) | (with_reducible assumption) | (simp; done) | (simp; omega) | omega)))
    · have hv := atI_out (loc.2.map (·.2)) i (by rw [List.length_map]; exact r)
      have HV := Lib.hid hv
      have HR := Lib.hid r
      clear r hr hr' e1 e1' hn hn' hv
      by_cases h0i : 0 ≤ i
      · obtain ⟨k, rfl⟩ : ∃ k : Nat, i = (k : Int) := ⟨i.toNat, by omega⟩
        have hk : loc.2.length ≤ k := by have := HR.out; omega
        clear HR
        go_enter Try.func20, Try.ntmps20
        go_wp2
        (try simp only [Exit.inBlock, Exit.then]); refine bodyPost_ret (by simp [results, Try.results20, go_sem, *]; try rfl) rfl ?_
        exact var_no rfl (by rw [vOk_loc.1, HV.out]; rfl) (by rw [vOk_loc.2, HV.out]; rfl) (by (repeat' (first | (with_reducible exact Below.refl _ _) | (refine Below.trans ?_ (Below.mono (by with_reducible assumption) ?_)) | (with_reducible exact Below.refl _ _) | (with_reducible refine below_drewN ?_ _) | (with_reducible refine Below.drew ?_) | (with_reducible refine Below.setCell ?_ ?_ _) | (with_reducible refine Below.alloc ?_ ?_ _) | (with_reducible assumption) | (simp; done) | (simp; omega) | omega)))
      · have hk : i < 0 := by omega
        clear HR
        go_enter Try.func20, Try.ntmps20
        go_wp2
        (try simp only [Exit.inBlock, Exit.then]); refine bodyPost_ret (by simp [results, Try.results20, go_sem, *]; try rfl) rfl ?_
        exact var_no rfl (by rw [vOk_loc.1, HV.out]; rfl) (by rw [vOk_loc.2, HV.out]; rfl) (by (repeat' (first | (with_reducible exact Below.refl _ _) | (refine Below.trans ?_ (Below.mono (by with_reducible assumption) ?_)) | (with_reducible exact Below.refl _ _) | (with_reducible refine below_drewN ?_ _) | (with_reducible refine Below.drew ?_) | (with_reducible refine Below.setCell ?_ ?_ _) | (with_reducible refine Below.alloc ?_ ?_ _) | (with_reducible assumption) | (simp; done) | (simp; omega) | omega)))
  · by_cases s0 : sc = 0
    · subst s0
      by_cases r : 0 ≤ i ∧ i < C.gl.length
      · obtain ⟨k, rfl⟩ : ∃ k : Nat, i = (k : Int) := ⟨i.toNat, by omega⟩
        obtain ⟨ad, q, s, b, rfl, hq, hb, hv, hx, hy⟩ := vars_at rfl hr (j := k) (by omega)
        have hk : k < C.gl.length := by omega
        have hqb : q.block < w.heap.size := by omega
        have HV := Lib.hid hv
        clear r hr hr' e1 e1' hn hn' hv hb
        go_enter Try.func20, Try.ntmps20
        go_wp2
        (try simp only [Exit.inBlock, Exit.then]); refine bodyPost_ret (by simp [results, Try.results20, go_sem, *]; try rfl) rfl ?_
        exact var_yes rfl (by rw [vOk_gl.1, atI_nat, HV.out]; rfl) (by rw [vOk_gl.2, atI_nat, HV.out]; rfl) (by (repeat' (first | (with_reducible exact Below.refl _ _) | (refine Below.trans ?_ (Below.mono (by with_reducible assumption) ?_)) | (with_reducible exact Below.refl _ _) | (with_reducible refine below_drewN ?_ _) | (with_reducible refine Below.drew ?_) | (with_reducible refine Below.setCell ?_ ?_ _) | (with_reducible refine Below.alloc ?_ ?_ _) | (with_reducible assumption) | (simp; done) | (simp; omega) | omega)))
      · have hv := atI_out (C.gl.map (·.2)) i (by rw [List.length_map]; exact r)
        have HV := Lib.hid hv
        have HR := Lib.hid r
        clear r hr hr' e1 e1' hn hn' hv
        by_cases h0i : 0 ≤ i
        · obtain ⟨k, rfl⟩ : ∃ k : Nat, i = (k : Int) := ⟨i.toNat, by omega⟩
          have hk : C.gl.length ≤ k := by have := HR.out; omega
          clear HR
          go_enter Try.func20, Try.ntmps20
          go_wp2
          (try simp only [Exit.inBlock, Exit.then]); refine bodyPost_ret (by simp [results, Try.results20, go_sem, *]; try rfl) rfl ?_
          exact var_no rfl (by rw [vOk_gl.1, HV.out]; rfl) (by rw [vOk_gl.2, HV.out]; rfl) (by (repeat' (first | (with_reducible exact Below.refl _ _) | (refine Below.trans ?_ (Below.mono (by with_reducible assumption) ?_)) | (with_reducible exact Below.refl _ _) | (with_reducible refine below_drewN ?_ _) | (with_reducible refine Below.drew ?_) | (with_reducible refine Below.setCell ?_ ?_ _) | (with_reducible refine Below.alloc ?_ ?_ _) | (with_reducible assumption) | (simp; done) | (simp; omega) | omega)))
        · have hk : i < 0 := by omega
          clear HR
          go_enter Try.func20, Try.ntmps20
          go_wp2
          (try simp only [Exit.inBlock, Exit.then]); refine bodyPost_ret (by simp [results, Try.results20, go_sem, *]; try rfl) rfl ?_
          exact var_no rfl (by rw [vOk_gl.1, HV.out]; rfl) (by rw [vOk_gl.2, HV.out]; rfl) (by (repeat' (first | (with_reducible exact Below.refl _ _) | (refine Below.trans ?_ (Below.mono (by with_reducible assumption) ?_)) | (with_reducible exact Below.refl _ _) | (with_reducible refine below_drewN ?_ _) | (with_reducible refine Below.drew ?_) | (with_reducible refine Below.setCell ?_ ?_ _) | (with_reducible refine Below.alloc ?_ ?_ _) | (with_reducible assumption) | (simp; done) | (simp; omega) | omega)))
    · have hno := vOk_no (C := C) (loc := loc) (i := i) s1 s0
      have HV := Lib.hid hno
      clear hr hr' e1 e1' hn hn' hno
      go_enter Try.func20, Try.ntmps20
      go_wp2
      (try simp only [Exit.inBlock, Exit.then]); refine bodyPost_ret (by simp [results, Try.results20, go_sem, *]; try rfl) rfl ?_
      exact var_no rfl HV.out.1 HV.out.2 (by (repeat' (first | (with_reducible exact Below.refl _ _) | (refine Below.trans ?_ (Below.mono (by with_reducible assumption) ?_)) | (with_reducible exact Below.refl _ _) | (with_reducible refine below_drewN ?_ _) | (with_reducible refine Below.drew ?_) | (with_reducible refine Below.setCell ?_ ?_ _) | (with_reducible refine Below.alloc ?_ ?_ _) | (with_reducible assumption) | (simp; done) | (simp; omega) | omega)))
end Go.Proofs.Ytanbplnagcmlcaa

/- Layer 15: places of numbers, of arrays. -/
namespace Go.Proofs.Ytanbplnagcmlcaa
open Go.RowKit
def numB (C : CodeV) (loc : Value × List VarV) (sc i : Int) : Bool := isNumber (pNms C) (mineV loc) sc i
def arrB (C : CodeV) (loc : Value × List VarV) (sc i : Int) : Bool := isArray (pNms C) (mineV loc) sc i
def BoolPost (w : World) (b : Bool) (e : Ending) (w' : World) : Prop := e = .returned (.bool b) ∧ Below w.heap.size w w'
theorem numB_own {C : CodeV} {loc : Value × List VarV} {i : Int} : numB C loc 2 i = decide (0 ≤ i ∧ i ≤ 8) := rfl
theorem numB_var {C : CodeV} {loc : Value × List VarV} {sc i : Int} (h : sc ≠ 2) : numB C loc sc i = (vOk C loc sc i && !vArr C loc sc i) := by
  unfold numB isNumber vOk vArr; rw [if_neg h]
  cases varAt (pNms C) (mineV loc) sc i with
  | none => rfl
  | some b => cases b <;> rfl
theorem arrB_var {C : CodeV} {loc : Value × List VarV} {sc i : Int} : arrB C loc sc i = (vOk C loc sc i && vArr C loc sc i) := by
  unfold arrB isArray vOk vArr
  cases varAt (pNms C) (mineV loc) sc i with
  | none => rfl
  | some b => cases b <;> rfl
set_option maxHeartbeats 400000 in
theorem number_any {w : World} {B g : Nat} {C : CodeV} {G L P J : Value} {row : Value × List InsV} {loc : Value × List VarV} (H : Gs w B g C G L P J row loc) (sc i : Int) (hi : I64 i) :
    Calls Try.prog 15 #[.pointer (some ⟨g, 0, none⟩), .int .i64 sc, .int .i64 i] w (BoolPost w (numB C loc sc i)) := by
  by_cases s2 : sc = 2
  · subst s2
    rw [numB_own]
    unfold I64 at hi
    by_cases h0 : 0 ≤ i
    · by_cases h8 : i ≤ 8
      · rw [decide_eq_true (by omega : 0 ≤ i ∧ i ≤ 8)]
        clear H
        go_enter Try.func15, Try.ntmps15
        go_wp2
        go_ret
        exact ⟨rfl, Below.refl _ _⟩
      · rw [decide_eq_false (by omega : ¬ (0 ≤ i ∧ i ≤ 8))]
        clear H
        go_enter Try.func15, Try.ntmps15
        go_wp2
        go_ret
        exact ⟨rfl, Below.refl _ _⟩
    · rw [decide_eq_false (by omega : ¬ (0 ≤ i ∧ i ≤ 8))]
      clear H
      go_enter Try.func15, Try.ntmps15
      go_wp2
      go_ret
      exact ⟨rfl, Below.refl _ _⟩
  · rw [numB_var s2]
    have HC := Lib.hid (variable_any H sc i hi)
    clear H
    unfold VarPost at HC
    generalize vOk C loc sc i = ok at HC ⊢
    generalize vArr C loc sc i = ar at HC ⊢
    cases ok <;> cases ar
    all_goals
      go_enter Try.func15, Try.ntmps15
      go_wp2_with (go_at_call 20; (with_reducible refine HC.out.mono ?_); rintro e w1 ⟨⟨s, rfl⟩, b1⟩; have z1 := b1.size)
      go_ret
      exact ⟨rfl, by (repeat' (first | (with_reducible exact Below.refl _ _) | (refine Below.trans ?_ (Below.mono (by with_reducible assumption) ?_)) | (with_reducible exact Below.refl _ _) | (with_reducible refine below_drewN ?_ _) | (with_reducible refine Below.drew ?_) | (with_reducible refine Below.setCell ?_ ?_ _) | (with_reducible refine Below.alloc ?_ ?_ _) | (with_reducible assumption) | (simp; done) | (simp; omega) | omega))⟩
set_option maxHeartbeats 400000 in
theorem array_any {w : World} {B g : Nat} {C : CodeV} {G L P J : Value} {row : Value × List InsV} {loc : Value × List VarV} (H : Gs w B g C G L P J row loc) (sc i : Int) (hi : I64 i) :
    Calls Try.prog 16 #[.pointer (some ⟨g, 0, none⟩), .int .i64 sc, .int .i64 i] w (BoolPost w (arrB C loc sc i)) := by
  rw [arrB_var]
  have HC := Lib.hid (variable_any H sc i hi)
  clear H
  unfold VarPost at HC
  generalize vOk C loc sc i = ok at HC ⊢
  generalize vArr C loc sc i = ar at HC ⊢
  cases ok <;> cases ar
  all_goals
    go_enter Try.func16, Try.ntmps16
    go_wp2_with (go_at_call 20; (with_reducible refine HC.out.mono ?_); rintro e w1 ⟨⟨s, rfl⟩, b1⟩; have z1 := b1.size)
    go_ret
    exact ⟨rfl, by (repeat' (first | (with_reducible exact Below.refl _ _) | (refine Below.trans ?_ (Below.mono (by with_reducible assumption) ?_)) | (with_reducible exact Below.refl _ _) | (with_reducible refine below_drewN ?_ _) | (with_reducible refine Below.drew ?_) | (with_reducible refine Below.setCell ?_ ?_ _) | (with_reducible refine Below.alloc ?_ ?_ _) | (with_reducible assumption) | (simp; done) | (simp; omega) | omega))⟩
end Go.Proofs.Ytanbplnagcmlcaa

/- Layer 15: an instruction's place. -/
namespace Go.Proofs.Ytanbplnagcmlcaa
open Go.RowKit
def plT (C : CodeV) (loc : Value × List VarV) (x : Ins) : Int := (placeOf (pNms C) (mineV loc) x).1
def plB (C : CodeV) (loc : Value × List VarV) (x : Ins) : Bool := (placeOf (pNms C) (mineV loc) x).2
theorem pl_var {C : CodeV} {loc : Value × List VarV} {x : InsV} (h : x.a = 0) : plT C loc (pIns x) = 0 ∧ plB C loc (pIns x) = numB C loc x.c x.b := by
  unfold plT plB placeOf; rw [if_pos (show (pIns x).a = 0 from h)]; exact ⟨rfl, rfl⟩
theorem pl_elem {C : CodeV} {loc : Value × List VarV} {x : InsV} (h : x.a = 1) : plT C loc (pIns x) = 1 ∧ plB C loc (pIns x) = arrB C loc x.c x.b := by
  unfold plT plB placeOf; rw [if_neg (by show ¬ x.a = 0; omega), if_pos (show (pIns x).a = 1 from h)]; exact ⟨rfl, rfl⟩
theorem pl_field {C : CodeV} {loc : Value × List VarV} {x : InsV} (h : x.a = 2) : plT C loc (pIns x) = 1 ∧ plB C loc (pIns x) = (decide (x.c = 0) && decide (x.b = 0)) := by
  unfold plT plB placeOf; rw [if_neg (by show ¬ x.a = 0; omega), if_neg (by show ¬ x.a = 1; omega), if_pos (show (pIns x).a = 2 from h)]; exact ⟨rfl, rfl⟩
theorem pl_no {C : CodeV} {loc : Value × List VarV} {x : InsV} (h0 : ¬ x.a = 0) (h1 : ¬ x.a = 1) (h2 : ¬ x.a = 2) : plT C loc (pIns x) = 0 ∧ plB C loc (pIns x) = false := by
  unfold plT plB placeOf; rw [if_neg (show ¬ (pIns x).a = 0 from h0), if_neg (show ¬ (pIns x).a = 1 from h1), if_neg (show ¬ (pIns x).a = 2 from h2)]; exact ⟨rfl, rfl⟩
def IntBool (w : World) (t : Int) (b : Bool) (e : Ending) (w' : World) : Prop := e = .returned (.tuple #[.int .i64 t, .bool b]) ∧ Below w.heap.size w w'
set_option maxHeartbeats 400000 in
theorem place_any {w : World} {B g : Nat} {C : CodeV} {G L P J : Value} {row : Value × List InsV} {loc : Value × List VarV} (H : Gs w B g C G L P J row loc) (x : InsV) (hb : I64 x.b) (hc : I64 x.c) :
    Calls Try.prog 24 #[.pointer (some ⟨g, 0, none⟩), .agg #[.int .i64 x.op, .int .i64 x.a, .int .i64 x.b, .int .i64 x.c, .int .i64 x.at', .string x.s, .bool x.n, .int .u64 x.h, .int .u64 x.l, x.L]] w (IntBool w (plT C loc (pIns x)) (plB C loc (pIns x))) := by
  have HH := Lib.hid H
  clear H
  have f0 := pl_var (C := C) (loc := loc) (x := x)
  have f1 := pl_elem (C := C) (loc := loc) (x := x)
  have f2 := pl_field (C := C) (loc := loc) (x := x)
  have f3 := pl_no (C := C) (loc := loc) (x := x)
  obtain ⟨op, a, b, c, at', s, n, h, l, Lv, ls⟩ := x
  dsimp only at *
  generalize pIns ⟨op, a, b, c, at', s, n, h, l, Lv, ls⟩ = X at *
  by_cases a0 : a = 0
  · subst a0
    rw [(f0 rfl).1, (f0 rfl).2]
    clear f0 f1 f2 f3
    generalize hq : numB C loc c b = q
    have HQ := Lib.hid hq
    clear hq
    go_enter Try.func24, Try.ntmps24
    go_wp2_with (go_at_call 15; (with_reducible refine (number_any (HH.out.below (by repeat' (first | (with_reducible exact Below.refl _ _) | (with_reducible assumption) | (with_reducible refine Below.drew ?_) | (with_reducible refine below_drewN ?_ _) | (with_reducible refine Below.alloc ?_ ?_ _) | (with_reducible exact Nat.le_refl _) | (simp; done) | (simp; omega)))) c b hb).mono ?_); rw [HQ.out]; rintro e w1 ⟨rfl, b1⟩; have z1 := b1.size; (try simp at z1))
    go_ret2
    exact ⟨rfl, by (repeat' (first | (with_reducible exact Below.refl _ _) | (refine Below.trans ?_ (Below.mono (by with_reducible assumption) ?_)) | (with_reducible exact Below.refl _ _) | (with_reducible refine below_drewN ?_ _) | (with_reducible refine Below.drew ?_) | (with_reducible refine Below.setCell ?_ ?_ _) | (with_reducible refine Below.alloc ?_ ?_ _) | (with_reducible assumption) | (simp; done) | (simp; omega) | omega))⟩
  · by_cases a1 : a = 1
    · subst a1
      rw [(f1 rfl).1, (f1 rfl).2]
      clear f0 f1 f2 f3
      generalize hq : arrB C loc c b = q
      have HQ := Lib.hid hq
      clear hq
      go_enter Try.func24, Try.ntmps24
      go_wp2_with (go_at_call 16; (with_reducible refine (array_any (HH.out.below (by repeat' (first | (with_reducible exact Below.refl _ _) | (with_reducible assumption) | (with_reducible refine Below.drew ?_) | (with_reducible refine below_drewN ?_ _) | (with_reducible refine Below.alloc ?_ ?_ _) | (with_reducible exact Nat.le_refl _) | (simp; done) | (simp; omega)))) c b hb).mono ?_); rw [HQ.out]; rintro e w1 ⟨rfl, b1⟩; have z1 := b1.size; (try simp at z1))
      go_ret2
      exact ⟨rfl, by (repeat' (first | (with_reducible exact Below.refl _ _) | (refine Below.trans ?_ (Below.mono (by with_reducible assumption) ?_)) | (with_reducible exact Below.refl _ _) | (with_reducible refine below_drewN ?_ _) | (with_reducible refine Below.drew ?_) | (with_reducible refine Below.setCell ?_ ?_ _) | (with_reducible refine Below.alloc ?_ ?_ _) | (with_reducible assumption) | (simp; done) | (simp; omega) | omega))⟩
    · by_cases a2 : a = 2
      · subst a2
        rw [(f2 rfl).1, (f2 rfl).2]
        clear f0 f1 f2 f3
        by_cases c0 : c = 0
        · subst c0
          by_cases b0 : b = 0
          · subst b0
            rw [decide_eq_true rfl, Bool.and_true]
            go_enter Try.func24, Try.ntmps24
            go_wp2
            go_quiet (fail)
            go_wp2
            go_ret2
            exact ⟨rfl, by (repeat' (first | (with_reducible exact Below.refl _ _) | (refine Below.trans ?_ (Below.mono (by with_reducible assumption) ?_)) | (with_reducible exact Below.refl _ _) | (with_reducible refine below_drewN ?_ _) | (with_reducible refine Below.drew ?_) | (with_reducible refine Below.setCell ?_ ?_ _) | (with_reducible refine Below.alloc ?_ ?_ _) | (with_reducible assumption) | (simp; done) | (simp; omega) | omega))⟩
          · rw [decide_eq_true rfl, decide_eq_false b0]
            have hb0 : (b == 0) = false := by simpa using b0
            go_enter Try.func24, Try.ntmps24
            go_wp2
            go_quiet (fail)
            go_wp2
            go_ret2
            exact ⟨rfl, by (repeat' (first | (with_reducible exact Below.refl _ _) | (refine Below.trans ?_ (Below.mono (by with_reducible assumption) ?_)) | (with_reducible exact Below.refl _ _) | (with_reducible refine below_drewN ?_ _) | (with_reducible refine Below.drew ?_) | (with_reducible refine Below.setCell ?_ ?_ _) | (with_reducible refine Below.alloc ?_ ?_ _) | (with_reducible assumption) | (simp; done) | (simp; omega) | omega))⟩
        · rw [decide_eq_false c0]
          go_enter Try.func24, Try.ntmps24
          go_wp2
          go_quiet (fail)
          go_wp2
          go_ret2
          exact ⟨rfl, by (repeat' (first | (with_reducible exact Below.refl _ _) | (refine Below.trans ?_ (Below.mono (by with_reducible assumption) ?_)) | (with_reducible exact Below.refl _ _) | (with_reducible refine below_drewN ?_ _) | (with_reducible refine Below.drew ?_) | (with_reducible refine Below.setCell ?_ ?_ _) | (with_reducible refine Below.alloc ?_ ?_ _) | (with_reducible assumption) | (simp; done) | (simp; omega) | omega))⟩
      · rw [(f3 a0 a1 a2).1, (f3 a0 a1 a2).2]
        clear f0 f1 f2 f3
        go_enter Try.func24, Try.ntmps24
        go_wp2
        go_ret2
        exact ⟨rfl, by (repeat' (first | (with_reducible exact Below.refl _ _) | (refine Below.trans ?_ (Below.mono (by with_reducible assumption) ?_)) | (with_reducible exact Below.refl _ _) | (with_reducible refine below_drewN ?_ _) | (with_reducible refine Below.drew ?_) | (with_reducible refine Below.setCell ?_ ?_ _) | (with_reducible refine Below.alloc ?_ ?_ _) | (with_reducible assumption) | (simp; done) | (simp; omega) | omega))⟩
end Go.Proofs.Ytanbplnagcmlcaa

/- Layer 15: signs, built-in functions. -/
namespace Go.Proofs.Ytanbplnagcmlcaa
open Go.RowKit
def lits (l : List (List UInt8)) : List ByteArray := l.map fun m => ⟨m.toArray⟩
theorem lit_mem (x : ByteArray) (l : List (List UInt8)) : x ∈ lits l ↔ x.toList ∈ l := by
  unfold lits
  rw [List.mem_map, ByteArray.toList_eq]
  constructor
  · rintro ⟨m, hm, rfl⟩; simpa using hm
  · intro h; exact ⟨_, h, by cases x; rfl⟩
theorem contains_lit (l : List (List UInt8)) (x : ByteArray) (w : World) (t : TypeId) (hl : l.length ≤ 100) (n c : Nat) (hn : n = l.length) (b : Bool) (hb : b = decide (x.toList ∈ l)) (arr : Array Value) (ha : arr = ((lits l).map Value.string).toArray) :
    Calls Try.prog 18 #[.slice (some ⟨w.heap.size, 0, none⟩) n c, .string x] (w.alloc (.cells arr t)) fun e w' => e = .returned (.bool b) ∧ w' = w.alloc (.cells arr t) := by
  subst ha
  have hl2 : (lits l).length = l.length := by unfold lits; rw [List.length_map]
  rw [← hl2] at hn hl
  subst hn hb
  refine (Try.slices_Contains_string w.heap.size 0 (lits l).length c (lits l) x _ (Nat.le_refl _) (by omega) ?_).mono ?_
  · intro j hj
    rw [Nat.zero_add, World.cell?_alloc_mark]
    simp [hj]
  · rintro e w' ⟨rfl, rfl⟩
    refine ⟨?_, rfl⟩
    rw [List.take_of_length_le (Nat.le_refl _)]
    congr 2
    rw [Bool.eq_iff_iff, Lib.containsS_iff, decide_eq_true_iff, lit_mem]
theorem arithB_mem (s : List UInt8) : arithB s = decide (s ∈ [[43], [45], [42], [47], [37], [94]]) := by
  rw [Bool.eq_iff_iff]; simp [arithB, or_assoc]
theorem compB_mem (s : List UInt8) : compB s = decide (s ∈ [[60], [60, 61], [61, 61], [33, 61], [62], [62, 61]]) := by
  rw [Bool.eq_iff_iff]; simp [compB, or_assoc]
theorem countB_mem (s : List UInt8) : countB s = decide (s ∈ [[43, 120], [45, 120], [120, 43], [120, 45]]) := by
  rw [Bool.eq_iff_iff]; simp [countB, or_assoc]
set_option maxHeartbeats 400000 in
theorem arith_any (s : ByteArray) (w : World) : Calls Try.prog 17 #[.string s] w (BoolPost w (arithB s.toList)) := by
  have HB := Lib.hid (arithB_mem s.toList)
  generalize arithB s.toList = b at HB ⊢
  go_enter Try.func17, Try.ntmps17
  go_wp2_with (go_at_call 18; (with_reducible refine (contains_lit [[43], [45], [42], [47], [37], [94]] s w _ (by decide) 6 6 rfl b HB.out _ (by simp [lits])).mono ?_); rintro e w1 ⟨rfl, rfl⟩)
  go_ret
  exact ⟨rfl, by (repeat' (first | (with_reducible exact Below.refl _ _) | (refine Below.trans ?_ (Below.mono (by with_reducible assumption) ?_)) | (with_reducible exact Below.refl _ _) | (with_reducible refine below_drewN ?_ _) | (with_reducible refine Below.drew ?_) | (with_reducible refine Below.setCell ?_ ?_ _) | (with_reducible refine Below.alloc ?_ ?_ _) | (with_reducible assumption) | (simp; done) | (simp; omega) | omega))⟩
set_option maxHeartbeats 400000 in
theorem built_any (s : ByteArray) (n : Int) (w : World) : Calls Try.prog 23 #[.string s, .int .i64 n] w fun e w' => e = .returned (.bool (builtB s.toList n)) ∧ w' = w := by
  generalize hq : builtB s.toList n = q
  by_cases k0 : s.toList = [108, 101, 110, 103, 116, 104]
  · rw [k0] at hq
    have HQ := Lib.hid hq
    clear hq
    go_enter Try.func23, Try.ntmps23
    go_wp2
    all_goals (go_ret; exact ⟨congrArg (fun x => Ending.returned (Value.bool x)) (by rw [← HQ.out, Bool.eq_iff_iff]; simp [builtB, *] <;> omega), rfl⟩)
  have b0 : (s.toList == [108, 101, 110, 103, 116, 104]) = false := by simpa using k0
  by_cases k1 : s.toList = [115, 117, 98, 115, 116, 114]
  · rw [k1] at hq
    have HQ := Lib.hid hq
    clear hq
    clear k0
    go_enter Try.func23, Try.ntmps23
    go_wp2
    all_goals (go_ret; exact ⟨congrArg (fun x => Ending.returned (Value.bool x)) (by rw [← HQ.out, Bool.eq_iff_iff]; simp [builtB, *] <;> omega), rfl⟩)
  have b1 : (s.toList == [115, 117, 98, 115, 116, 114]) = false := by simpa using k1
  by_cases k2 : s.toList = [105, 110, 100, 101, 120]
  · rw [k2] at hq
    have HQ := Lib.hid hq
    clear hq
    clear k0
    clear k1
    go_enter Try.func23, Try.ntmps23
    go_wp2
    all_goals (go_ret; exact ⟨congrArg (fun x => Ending.returned (Value.bool x)) (by rw [← HQ.out, Bool.eq_iff_iff]; simp [builtB, *] <;> omega), rfl⟩)
  have b2 : (s.toList == [105, 110, 100, 101, 120]) = false := by simpa using k2
  by_cases k3 : s.toList = [109, 97, 116, 99, 104]
  · rw [k3] at hq
    have HQ := Lib.hid hq
    clear hq
    clear k0
    clear k1
    clear k2
    go_enter Try.func23, Try.ntmps23
    go_wp2
    all_goals (go_ret; exact ⟨congrArg (fun x => Ending.returned (Value.bool x)) (by rw [← HQ.out, Bool.eq_iff_iff]; simp [builtB, *] <;> omega), rfl⟩)
  have b3 : (s.toList == [109, 97, 116, 99, 104]) = false := by simpa using k3
  by_cases k4 : s.toList = [115, 112, 114, 105, 110, 116, 102]
  · rw [k4] at hq
    have HQ := Lib.hid hq
    clear hq
    clear k0
    clear k1
    clear k2
    clear k3
    go_enter Try.func23, Try.ntmps23
    go_wp2
    all_goals (go_ret; exact ⟨congrArg (fun x => Ending.returned (Value.bool x)) (by rw [← HQ.out, Bool.eq_iff_iff]; simp [builtB, *] <;> omega), rfl⟩)
  have b4 : (s.toList == [115, 112, 114, 105, 110, 116, 102]) = false := by simpa using k4
  by_cases k5 : s.toList = [105, 110, 116]
  · rw [k5] at hq
    have HQ := Lib.hid hq
    clear hq
    clear k0
    clear k1
    clear k2
    clear k3
    clear k4
    go_enter Try.func23, Try.ntmps23
    go_wp2
    all_goals (go_ret; exact ⟨congrArg (fun x => Ending.returned (Value.bool x)) (by rw [← HQ.out, Bool.eq_iff_iff]; simp [builtB, *] <;> omega), rfl⟩)
  have b5 : (s.toList == [105, 110, 116]) = false := by simpa using k5
  by_cases k6 : s.toList = [116, 111, 108, 111, 119, 101, 114]
  · rw [k6] at hq
    have HQ := Lib.hid hq
    clear hq
    clear k0
    clear k1
    clear k2
    clear k3
    clear k4
    clear k5
    go_enter Try.func23, Try.ntmps23
    go_wp2
    all_goals (go_ret; exact ⟨congrArg (fun x => Ending.returned (Value.bool x)) (by rw [← HQ.out, Bool.eq_iff_iff]; simp [builtB, *] <;> omega), rfl⟩)
  have b6 : (s.toList == [116, 111, 108, 111, 119, 101, 114]) = false := by simpa using k6
  by_cases k7 : s.toList = [116, 111, 117, 112, 112, 101, 114]
  · rw [k7] at hq
    have HQ := Lib.hid hq
    clear hq
    clear k0
    clear k1
    clear k2
    clear k3
    clear k4
    clear k5
    clear k6
    go_enter Try.func23, Try.ntmps23
    go_wp2
    all_goals (go_ret; exact ⟨congrArg (fun x => Ending.returned (Value.bool x)) (by rw [← HQ.out, Bool.eq_iff_iff]; simp [builtB, *] <;> omega), rfl⟩)
  have b7 : (s.toList == [116, 111, 117, 112, 112, 101, 114]) = false := by simpa using k7
  by_cases k8 : s.toList = [99, 108, 111, 115, 101]
  · rw [k8] at hq
    have HQ := Lib.hid hq
    clear hq
    clear k0
    clear k1
    clear k2
    clear k3
    clear k4
    clear k5
    clear k6
    clear k7
    go_enter Try.func23, Try.ntmps23
    go_wp2
    all_goals (go_ret; exact ⟨congrArg (fun x => Ending.returned (Value.bool x)) (by rw [← HQ.out, Bool.eq_iff_iff]; simp [builtB, *] <;> omega), rfl⟩)
  have b8 : (s.toList == [99, 108, 111, 115, 101]) = false := by simpa using k8
  have HQ := Lib.hid hq
  clear hq
  go_enter Try.func23, Try.ntmps23
  go_wp2
  all_goals (go_ret; exact ⟨congrArg (fun x => Ending.returned (Value.bool x)) (by rw [← HQ.out, Bool.eq_iff_iff]; simp [builtB, *] <;> omega), rfl⟩)
end Go.Proofs.Ytanbplnagcmlcaa
