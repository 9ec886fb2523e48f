/- Several texts put together: CodJ. -/
import Derived.Test.YtanbplnagcmlcaaBu4
import Derived.IntWalk
/- Layer 15: what an instruction takes and puts (the rarer ones). -/
namespace Go.Proofs.Ytanbplnagcmlcaa
open Go.RowKit
def CntPost (C : CodeV) (loc : Value × List VarV) (x : Ins) (w : World) (e : Ending) (w' : World) : Prop :=
  (∃ (t p : Int) (ok : Bool), e = .returned (.tuple #[.int .i64 t, .int .i64 p, .bool ok]) ∧ countsOf (pNms C) (mineV loc) x = if ok then some (t, p) else none) ∧ Below w.heap.size w w'
theorem pl_bound (C : CodeV) (loc : Value × List VarV) (x : Ins) : 0 ≤ plT C loc x ∧ plT C loc x ≤ 1 := by
  unfold plT placeOf; split
  · simp
  · split
    · simp
    · split <;> simp
theorem cnt_of {C : CodeV} {loc : Value × List VarV} {x : Ins} {w w' : World} {t p : Int} {ok b : Bool} (hc : countsOf (pNms C) (mineV loc) x = if b then some (t, p) else none) (h : ok = b) (q : Below w.heap.size w w') :
    CntPost C loc x w (.returned (.tuple #[.int .i64 t, .int .i64 p, .bool ok])) w' := ⟨⟨t, p, ok, rfl, by rw [hc, h]⟩, q⟩
theorem cnt_no {C : CodeV} {loc : Value × List VarV} {x : Ins} {w w' : World} {t t' p p' : Int} {ok b : Bool} (hc : countsOf (pNms C) (mineV loc) x = if b then some (t', p') else none) (hb : b = false) (h : ok = false) (q : Below w.heap.size w w') :
    CntPost C loc x w (.returned (.tuple #[.int .i64 t, .int .i64 p, .bool ok])) w' := ⟨⟨t, p, ok, rfl, by rw [hc, h, hb]; rfl⟩, q⟩
theorem cnt_24 {C : CodeV} {loc : Value × List VarV} {x : InsV} (h : x.op = 24) : countsOf (pNms C) (mineV loc) (pIns x) = if clB C loc (pIns x) then some (clT C loc (pIns x), 1) else none := by
  have h' : (pIns x).op = 24 := h
  simp only [countsOf, h']
  rfl
theorem cnt_28 {C : CodeV} {loc : Value × List VarV} {x : InsV} (h : x.op = 28) : countsOf (pNms C) (mineV loc) (pIns x) = if (decide (x.c = 0 ∨ x.c = 1) && decide (x.c ≤ x.a)) then some (x.a, 0) else none := by
  have h' : (pIns x).op = 28 := h
  simp only [countsOf, h']
  rfl
theorem cnt_29 {C : CodeV} {loc : Value × List VarV} {x : InsV} (h : x.op = 29) : countsOf (pNms C) (mineV loc) (pIns x) = if (decide (x.c = 0 ∨ x.c = 1) && decide (x.c < x.a)) then some (x.a, 0) else none := by
  have h' : (pIns x).op = 29 := h
  simp only [countsOf, h']
  rfl
theorem cnt_30 {C : CodeV} {loc : Value × List VarV} {x : InsV} (h : x.op = 30) : countsOf (pNms C) (mineV loc) (pIns x) = if builtB x.s.toList x.a then some (x.a, 1) else none := by
  have h' : (pIns x).op = 30 := h
  simp only [countsOf, h']
  rfl
theorem cnt_31 {C : CodeV} {loc : Value × List VarV} {x : InsV} (h : x.op = 31) : countsOf (pNms C) (mineV loc) (pIns x) = if (plB C loc (pIns x) && (decide (x.s.toList = [115, 117, 98]) || decide (x.s.toList = [103, 115, 117, 98]))) then some ((plT C loc (pIns x) + 2), 1) else none := by
  have h' : (pIns x).op = 31 := h
  simp only [countsOf, h']
  rfl
theorem cnt_32 {C : CodeV} {loc : Value × List VarV} {x : InsV} (h : x.op = 32) : countsOf (pNms C) (mineV loc) (pIns x) = if (decide (x.c = 0 ∨ x.c = 1) && arrB C loc x.a x.b) then some ((x.c + 1), 1) else none := by
  have h' : (pIns x).op = 32 := h
  simp only [countsOf, h']
  rfl
theorem cnt_36 {C : CodeV} {loc : Value × List VarV} {x : InsV} (h : x.op = 36) : countsOf (pNms C) (mineV loc) (pIns x) = if decide (x.a = 0 ∨ x.a = 1) then some (x.a, 2) else none := by
  have h' : (pIns x).op = 36 := h
  simp only [countsOf, h']
  rfl
theorem cnt_37 {C : CodeV} {loc : Value × List VarV} {x : InsV} (h : x.op = 37) : countsOf (pNms C) (mineV loc) (pIns x) = if (plB C loc (pIns x) && arithB x.s.toList) then some ((plT C loc (pIns x) + 1), 1) else none := by
  have h' : (pIns x).op = 37 := h
  simp only [countsOf, h']
  rfl
theorem cnt_38 {C : CodeV} {loc : Value × List VarV} {x : InsV} (h : x.op = 38) : countsOf (pNms C) (mineV loc) (pIns x) = if (plB C loc (pIns x) && countB x.s.toList) then some (plT C loc (pIns x), 1) else none := by
  have h' : (pIns x).op = 38 := h
  simp only [countsOf, h']
  rfl
def countsOps : List Int := [0, 35, 21, 26, 1, 2, 34, 3, 25, 27, 23, 22, 4, 5, 6, 7, 9, 10, 8, 11, 33, 12, 20, 13, 17, 14, 15, 18, 19, 16]
def moreOps : List Int := [24, 28, 29, 30, 31, 32, 36, 37, 38]
theorem cnt_none {C : CodeV} {loc : Value × List VarV} {x : InsV} (h1 : x.op ∉ countsOps) (h2 : x.op ∉ moreOps) : countsOf (pNms C) (mineV loc) (pIns x) = none := by
  have h1' : (pIns x).op ∉ countsOps := h1
  have h2' : (pIns x).op ∉ moreOps := h2
  generalize pIns x = X at h1' h2'
  simp only [countsOps, moreOps, List.mem_cons, List.not_mem_nil, or_false, not_or] at h1' h2'
  unfold countsOf
  simp only [h1', h2', or_self, if_false]
set_option maxRecDepth 100000 in
set_option maxHeartbeats 1600000 in
theorem more_any {w : World} {B g : Nat} {C : CodeV} {G L P J : Value} {row : Value × List InsV} {loc : Value × List VarV} (H : Gs w B g C G L P J row loc) (x : InsV) (hx : x.ok w B) (hno : x.op ∉ countsOps) :
    Calls Try.prog 19 #[.pointer (some ⟨g, 0, none⟩), .agg #[.int .i64 x.op, .int .i64 x.a, .int .i64 x.b, .int .i64 x.c, .int .i64 x.at', .string x.s, .bool x.n, .int .u64 x.h, .int .u64 x.l, x.L]] w (CntPost C loc (pIns x) w) := by
  have HH := Lib.hid H
  have HX := Lib.hid hx
  have hB := H.hB
  have hxa := hx.a
  have hxb := hx.b
  have hxc := hx.c
  have pb := pl_bound C loc (pIns x)
  clear H hx
  have g24 := Lib.hid (fun h => cnt_24 (C := C) (loc := loc) (x := x) h)
  have g28 := Lib.hid (fun h => cnt_28 (C := C) (loc := loc) (x := x) h)
  have g29 := Lib.hid (fun h => cnt_29 (C := C) (loc := loc) (x := x) h)
  have g30 := Lib.hid (fun h => cnt_30 (C := C) (loc := loc) (x := x) h)
  have g31 := Lib.hid (fun h => cnt_31 (C := C) (loc := loc) (x := x) h)
  have g32 := Lib.hid (fun h => cnt_32 (C := C) (loc := loc) (x := x) h)
  have g36 := Lib.hid (fun h => cnt_36 (C := C) (loc := loc) (x := x) h)
  have g37 := Lib.hid (fun h => cnt_37 (C := C) (loc := loc) (x := x) h)
  have g38 := Lib.hid (fun h => cnt_38 (C := C) (loc := loc) (x := x) h)
  have gn := Lib.hid (fun h => cnt_none (C := C) (loc := loc) (x := x) hno h)
  clear hno
  obtain ⟨op, a, b, c, at', s, n, h, l, Lv, ls⟩ := x
  dsimp only at *
  by_cases o24 : op = 24
  · subst o24
    have hc := g24.out rfl
    clear g24 g28 g29 g30 g31 g32 g36 g37 g38 gn
    have ra := hxa
    have rb := hxb
    have rc := hxc
    unfold I64 at ra rb rc
    have HC := Lib.hid hc
    clear hc
    go_enter Try.func19, Try.ntmps19
    go_wp2_with (go_at_call 22; (with_reducible refine (call_any (HH.out.below (by repeat' (first | (with_reducible exact Below.refl _ _) | (with_reducible assumption) | (with_reducible refine Below.drew ?_) | (with_reducible refine below_drewN ?_ _) | (with_reducible refine Below.alloc ?_ ?_ _) | (with_reducible exact Nat.le_refl _) | (simp; done) | (simp; omega)))) ⟨24, a, b, c, at', s, n, h, l, Lv, ls⟩ (HX.out.below (Below.mono (by repeat' (first | (with_reducible exact Below.refl _ _) | (with_reducible assumption) | (with_reducible refine Below.drew ?_) | (with_reducible refine below_drewN ?_ _) | (with_reducible refine Below.alloc ?_ ?_ _) | (with_reducible exact Nat.le_refl _) | (simp; done) | (simp; omega))) hB))).mono ?_); rintro e w1 ⟨rfl, b1⟩; have z1 := b1.size; (try simp at z1))
    (try simp only [Exit.inBlock, Exit.then]); refine bodyPost_ret (by simp [results, Try.results19, go_sem, *]; try rfl) rfl ?_
    exact cnt_of HC.out rfl (by (repeat' (first | (with_reducible exact Below.refl _ _) | (refine Below.trans ?_ (Below.mono (by with_reducible assumption) ?_)) | (with_reducible exact Below.refl _ _) | (with_reducible refine below_drewN ?_ _) | (with_reducible refine Below.drew ?_) | (with_reducible refine Below.setCell ?_ ?_ _) | (with_reducible refine Below.alloc ?_ ?_ _) | (with_reducible assumption) | (simp; done) | (simp; omega) | omega)))
  by_cases o28 : op = 28
  · subst o28
    have hc := g28.out rfl
    clear g24 g28 g29 g30 g31 g32 g36 g37 g38 gn o24
    have ra := hxa
    have rb := hxb
    have rc := hxc
    unfold I64 at ra rb rc
    by_cases c0 : c = 0
    · subst c0
      have HC := Lib.hid hc
      clear hc
      go_enter Try.func19, Try.ntmps19
      go_wp2
      go_quiet (fail)
      go_wp2
      (try simp only [Exit.inBlock, Exit.then]); refine bodyPost_ret (by simp [results, Try.results19, go_sem, *]; try rfl) rfl ?_
      exact cnt_of HC.out (by simp) (by (repeat' (first | (with_reducible exact Below.refl _ _) | (refine Below.trans ?_ (Below.mono (by with_reducible assumption) ?_)) | (with_reducible exact Below.refl _ _) | (with_reducible refine below_drewN ?_ _) | (with_reducible refine Below.drew ?_) | (with_reducible refine Below.setCell ?_ ?_ _) | (with_reducible refine Below.alloc ?_ ?_ _) | (with_reducible assumption) | (simp; done) | (simp; omega) | omega)))
    · by_cases c1 : c = 1
      · subst c1
        have HC := Lib.hid hc
        clear hc
        go_enter Try.func19, Try.ntmps19
        go_wp2
        go_quiet (fail)
        go_wp2
        (try simp only [Exit.inBlock, Exit.then]); refine bodyPost_ret (by simp [results, Try.results19, go_sem, *]; try rfl) rfl ?_
        exact cnt_of HC.out (by simp) (by (repeat' (first | (with_reducible exact Below.refl _ _) | (refine Below.trans ?_ (Below.mono (by with_reducible assumption) ?_)) | (with_reducible exact Below.refl _ _) | (with_reducible refine below_drewN ?_ _) | (with_reducible refine Below.drew ?_) | (with_reducible refine Below.setCell ?_ ?_ _) | (with_reducible refine Below.alloc ?_ ?_ _) | (with_reducible assumption) | (simp; done) | (simp; omega) | omega)))
      · have c0b : (c == 0) = false := by simpa using c0
        have c1b : (c == 1) = false := by simpa using c1
        have HC := Lib.hid hc
        clear hc
        go_enter Try.func19, Try.ntmps19
        go_wp2
        go_quiet (fail)
        go_wp2
        (try simp only [Exit.inBlock, Exit.then]); refine bodyPost_ret (by simp [results, Try.results19, go_sem, *]; try rfl) rfl ?_
        exact cnt_no HC.out (by simp [c0, c1]) rfl (by (repeat' (first | (with_reducible exact Below.refl _ _) | (refine Below.trans ?_ (Below.mono (by with_reducible assumption) ?_)) | (with_reducible exact Below.refl _ _) | (with_reducible refine below_drewN ?_ _) | (with_reducible refine Below.drew ?_) | (with_reducible refine Below.setCell ?_ ?_ _) | (with_reducible refine Below.alloc ?_ ?_ _) | (with_reducible assumption) | (simp; done) | (simp; omega) | omega)))
  by_cases o29 : op = 29
  · subst o29
    have hc := g29.out rfl
    clear g24 g28 g29 g30 g31 g32 g36 g37 g38 gn o24 o28
    have ra := hxa
    have rb := hxb
    have rc := hxc
    unfold I64 at ra rb rc
    by_cases c0 : c = 0
    · subst c0
      have HC := Lib.hid hc
      clear hc
      go_enter Try.func19, Try.ntmps19
      go_wp2
      go_quiet (fail)
      go_wp2
      (try simp only [Exit.inBlock, Exit.then]); refine bodyPost_ret (by simp [results, Try.results19, go_sem, *]; try rfl) rfl ?_
      exact cnt_of HC.out (by simp) (by (repeat' (first | (with_reducible exact Below.refl _ _) | (refine Below.trans ?_ (Below.mono (by with_reducible assumption) ?_)) | (with_reducible exact Below.refl _ _) | (with_reducible refine below_drewN ?_ _) | (with_reducible refine Below.drew ?_) | (with_reducible refine Below.setCell ?_ ?_ _) | (with_reducible refine Below.alloc ?_ ?_ _) | (with_reducible assumption) | (simp; done) | (simp; omega) | omega)))
    · by_cases c1 : c = 1
      · subst c1
        have HC := Lib.hid hc
        clear hc
        go_enter Try.func19, Try.ntmps19
        go_wp2
        go_quiet (fail)
        go_wp2
        (try simp only [Exit.inBlock, Exit.then]); refine bodyPost_ret (by simp [results, Try.results19, go_sem, *]; try rfl) rfl ?_
        exact cnt_of HC.out (by simp) (by (repeat' (first | (with_reducible exact Below.refl _ _) | (refine Below.trans ?_ (Below.mono (by with_reducible assumption) ?_)) | (with_reducible exact Below.refl _ _) | (with_reducible refine below_drewN ?_ _) | (with_reducible refine Below.drew ?_) | (with_reducible refine Below.setCell ?_ ?_ _) | (with_reducible refine Below.alloc ?_ ?_ _) | (with_reducible assumption) | (simp; done) | (simp; omega) | omega)))
      · have c0b : (c == 0) = false := by simpa using c0
        have c1b : (c == 1) = false := by simpa using c1
        have HC := Lib.hid hc
        clear hc
        go_enter Try.func19, Try.ntmps19
        go_wp2
        go_quiet (fail)
        go_wp2
        (try simp only [Exit.inBlock, Exit.then]); refine bodyPost_ret (by simp [results, Try.results19, go_sem, *]; try rfl) rfl ?_
        exact cnt_no HC.out (by simp [c0, c1]) rfl (by (repeat' (first | (with_reducible exact Below.refl _ _) | (refine Below.trans ?_ (Below.mono (by with_reducible assumption) ?_)) | (with_reducible exact Below.refl _ _) | (with_reducible refine below_drewN ?_ _) | (with_reducible refine Below.drew ?_) | (with_reducible refine Below.setCell ?_ ?_ _) | (with_reducible refine Below.alloc ?_ ?_ _) | (with_reducible assumption) | (simp; done) | (simp; omega) | omega)))
  by_cases o30 : op = 30
  · subst o30
    have hc := g30.out rfl
    clear g24 g28 g29 g30 g31 g32 g36 g37 g38 gn o24 o28 o29
    have ra := hxa
    have rb := hxb
    have rc := hxc
    unfold I64 at ra rb rc
    have HC := Lib.hid hc
    clear hc
    go_enter Try.func19, Try.ntmps19
    go_wp2
    go_quiet ((go_at_call 23; exact Calls.quiet_of_same (built_any _ _ _)))
    go_wp2
    (try simp only [Exit.inBlock, Exit.then]); refine bodyPost_ret (by simp [results, Try.results19, go_sem, *]; try rfl) rfl ?_
    exact cnt_of HC.out rfl (by (repeat' (first | (with_reducible exact Below.refl _ _) | (refine Below.trans ?_ (Below.mono (by with_reducible assumption) ?_)) | (with_reducible exact Below.refl _ _) | (with_reducible refine below_drewN ?_ _) | (with_reducible refine Below.drew ?_) | (with_reducible refine Below.setCell ?_ ?_ _) | (with_reducible refine Below.alloc ?_ ?_ _) | (with_reducible assumption) | (simp; done) | (simp; omega) | omega)))
  by_cases o31 : op = 31
  · subst o31
    have hc := g31.out rfl
    clear g24 g28 g29 g30 g31 g32 g36 g37 g38 gn o24 o28 o29 o30
    have ra := hxa
    have rb := hxb
    have rc := hxc
    unfold I64 at ra rb rc
    generalize hq : plB C loc (pIns ⟨31, a, b, c, at', s, n, h, l, Lv, ls⟩) = q at hc
    generalize ht : plT C loc (pIns ⟨31, a, b, c, at', s, n, h, l, Lv, ls⟩) = t at hc pb
    have HQ := Lib.hid hq
    have HT := Lib.hid ht
    clear hq ht
    have HC := Lib.hid hc
    clear hc
    cases q
    · go_enter Try.func19, Try.ntmps19
      go_wp2_with (go_at_call 24; (with_reducible refine (place_any (HH.out.below (by repeat' (first | (with_reducible exact Below.refl _ _) | (with_reducible assumption) | (with_reducible refine Below.drew ?_) | (with_reducible refine below_drewN ?_ _) | (with_reducible refine Below.alloc ?_ ?_ _) | (with_reducible exact Nat.le_refl _) | (simp; done) | (simp; omega)))) ⟨31, a, b, c, at', s, n, h, l, Lv, ls⟩ hxb hxc).mono ?_); rw [HT.out, HQ.out]; rintro e w1 ⟨rfl, b1⟩; have z1 := b1.size; (try simp at z1); have y1 : w.heap.size < w1.heap.size := (by omega); try (have cS : w1.cell? ⟨w.heap.size, 5, none⟩ = some (.string s) := (Below.cell b1 (by simp)).trans (by simp (maxDischargeDepth := 12) [go_sem])))
      have hw : IntKind.i64.wrap (t + 2) = t + 2 := IntWalk.i64_in _ (by omega)
      go_quiet (fail)
      clear hw
      go_wp2
      (try simp only [Exit.inBlock, Exit.then]); refine bodyPost_ret (by simp [results, Try.results19, go_sem, *]; try rfl) rfl ?_
      exact cnt_no HC.out rfl rfl (by (repeat' (first | (with_reducible exact Below.refl _ _) | (refine Below.trans ?_ (Below.mono (by with_reducible assumption) ?_)) | (with_reducible exact Below.refl _ _) | (with_reducible refine below_drewN ?_ _) | (with_reducible refine Below.drew ?_) | (with_reducible refine Below.setCell ?_ ?_ _) | (with_reducible refine Below.alloc ?_ ?_ _) | (with_reducible assumption) | (simp; done) | (simp; omega) | omega)))
    · by_cases s1 : s.toList = [115, 117, 98]
      · go_enter Try.func19, Try.ntmps19
        go_wp2_with (go_at_call 24; (with_reducible refine (place_any (HH.out.below (by repeat' (first | (with_reducible exact Below.refl _ _) | (with_reducible assumption) | (with_reducible refine Below.drew ?_) | (with_reducible refine below_drewN ?_ _) | (with_reducible refine Below.alloc ?_ ?_ _) | (with_reducible exact Nat.le_refl _) | (simp; done) | (simp; omega)))) ⟨31, a, b, c, at', s, n, h, l, Lv, ls⟩ hxb hxc).mono ?_); rw [HT.out, HQ.out]; rintro e w1 ⟨rfl, b1⟩; have z1 := b1.size; (try simp at z1); have y1 : w.heap.size < w1.heap.size := (by omega); try (have cS : w1.cell? ⟨w.heap.size, 5, none⟩ = some (.string s) := (Below.cell b1 (by simp)).trans (by simp (maxDischargeDepth := 12) [go_sem])))
        have hw : IntKind.i64.wrap (t + 2) = t + 2 := IntWalk.i64_in _ (by omega)
        go_quiet (fail)
        clear hw
        go_wp2
        (try simp only [Exit.inBlock, Exit.then]); refine bodyPost_ret (by simp [results, Try.results19, go_sem, *]; try rfl) rfl ?_
        exact cnt_of HC.out (by simp [s1]) (by (repeat' (first | (with_reducible exact Below.refl _ _) | (refine Below.trans ?_ (Below.mono (by with_reducible assumption) ?_)) | (with_reducible exact Below.refl _ _) | (with_reducible refine below_drewN ?_ _) | (with_reducible refine Below.drew ?_) | (with_reducible refine Below.setCell ?_ ?_ _) | (with_reducible refine Below.alloc ?_ ?_ _) | (with_reducible assumption) | (simp; done) | (simp; omega) | omega)))
      · have s1b : (s.toList == [115, 117, 98]) = false := by simpa using s1
        by_cases s2 : s.toList = [103, 115, 117, 98]
        · go_enter Try.func19, Try.ntmps19
          go_wp2_with (go_at_call 24; (with_reducible refine (place_any (HH.out.below (by repeat' (first | (with_reducible exact Below.refl _ _) | (with_reducible assumption) | (with_reducible refine Below.drew ?_) | (with_reducible refine below_drewN ?_ _) | (with_reducible refine Below.alloc ?_ ?_ _) | (with_reducible exact Nat.le_refl _) | (simp; done) | (simp; omega)))) ⟨31, a, b, c, at', s, n, h, l, Lv, ls⟩ hxb hxc).mono ?_); rw [HT.out, HQ.out]; rintro e w1 ⟨rfl, b1⟩; have z1 := b1.size; (try simp at z1); have y1 : w.heap.size < w1.heap.size := (by omega); try (have cS : w1.cell? ⟨w.heap.size, 5, none⟩ = some (.string s) := (Below.cell b1 (by simp)).trans (by simp (maxDischargeDepth := 12) [go_sem])))
          have hw : IntKind.i64.wrap (t + 2) = t + 2 := IntWalk.i64_in _ (by omega)
          go_quiet (fail)
          clear hw
          go_wp2
          (try simp only [Exit.inBlock, Exit.then]); refine bodyPost_ret (by simp [results, Try.results19, go_sem, *]; try rfl) rfl ?_
          exact cnt_of HC.out (by simp [s2]) (by (repeat' (first | (with_reducible exact Below.refl _ _) | (refine Below.trans ?_ (Below.mono (by with_reducible assumption) ?_)) | (with_reducible exact Below.refl _ _) | (with_reducible refine below_drewN ?_ _) | (with_reducible refine Below.drew ?_) | (with_reducible refine Below.setCell ?_ ?_ _) | (with_reducible refine Below.alloc ?_ ?_ _) | (with_reducible assumption) | (simp; done) | (simp; omega) | omega)))
        · have s2b : (s.toList == [103, 115, 117, 98]) = false := by simpa using s2
          go_enter Try.func19, Try.ntmps19
          go_wp2_with (go_at_call 24; (with_reducible refine (place_any (HH.out.below (by repeat' (first | (with_reducible exact Below.refl _ _) | (with_reducible assumption) | (with_reducible refine Below.drew ?_) | (with_reducible refine below_drewN ?_ _) | (with_reducible refine Below.alloc ?_ ?_ _) | (with_reducible exact Nat.le_refl _) | (simp; done) | (simp; omega)))) ⟨31, a, b, c, at', s, n, h, l, Lv, ls⟩ hxb hxc).mono ?_); rw [HT.out, HQ.out]; rintro e w1 ⟨rfl, b1⟩; have z1 := b1.size; (try simp at z1); have y1 : w.heap.size < w1.heap.size := (by omega); try (have cS : w1.cell? ⟨w.heap.size, 5, none⟩ = some (.string s) := (Below.cell b1 (by simp)).trans (by simp (maxDischargeDepth := 12) [go_sem])))
          have hw : IntKind.i64.wrap (t + 2) = t + 2 := IntWalk.i64_in _ (by omega)
          go_quiet (fail)
          clear hw
          go_wp2
          (try simp only [Exit.inBlock, Exit.then]); refine bodyPost_ret (by simp [results, Try.results19, go_sem, *]; try rfl) rfl ?_
          exact cnt_no HC.out (by simp [s1, s2]) rfl (by (repeat' (first | (with_reducible exact Below.refl _ _) | (refine Below.trans ?_ (Below.mono (by with_reducible assumption) ?_)) | (with_reducible exact Below.refl _ _) | (with_reducible refine below_drewN ?_ _) | (with_reducible refine Below.drew ?_) | (with_reducible refine Below.setCell ?_ ?_ _) | (with_reducible refine Below.alloc ?_ ?_ _) | (with_reducible assumption) | (simp; done) | (simp; omega) | omega)))
  by_cases o32 : op = 32
  · subst o32
    have hc := g32.out rfl
    clear g24 g28 g29 g30 g31 g32 g36 g37 g38 gn o24 o28 o29 o30 o31
    have ra := hxa
    have rb := hxb
    have rc := hxc
    unfold I64 at ra rb rc
    by_cases c0 : c = 0
    · subst c0
      have HC := Lib.hid hc
      clear hc
      go_enter Try.func19, Try.ntmps19
      go_wp2
      refine wp_region_held_drew (S := (fun w' => w'.cell? ⟨w.heap.size, 0, none⟩ = some (.int .i64 32) ∧ w'.cell? ⟨w.heap.size, 1, none⟩ = some (.int .i64 a) ∧ w'.cell? ⟨w.heap.size, 2, none⟩ = some (.int .i64 b) ∧ w'.cell? ⟨w.heap.size, 3, none⟩ = some (.int .i64 0))) (by kernel_rfl) ?_ (fun hHeld => ?_)
      · (try dsimp only)
        ((and_intros <;> (first | (with_reducible assumption) | (go_simp; done) | (simp (maxDischargeDepth := 12) [go_sem]; done) | (simp (maxDischargeDepth := 12) [go_sem, *]; done) | exact (Below.cell (by with_reducible assumption) (by first | (simp; done) | (simp; omega) | omega)).trans (by simp (maxDischargeDepth := 12) [go_sem]))))
      refine h4_take (i := 0) (v := ?v0) rfl (by kernel_rfl) (by kernel_rfl) (by kernel_rfl) (fun _ _ _ h => h) (by rfl) ?y0 hHeld ?r0
      case y0 => (intro wS hSw; (try dsimp only at hSw); go_simp; (try with_reducible rfl))
      try simp only [Act.put, List.setIfInBounds_toArray, List.set_cons_zero, List.set_cons_succ]
      refine h4_take (i := 1) (v := ?v1) rfl (by kernel_rfl) (by kernel_rfl) (by kernel_rfl) (fun _ _ _ h => h) (by rfl) ?y1 hHeld ?r1
      case y1 => (intro wS hSw; (try dsimp only at hSw); go_simp; (try with_reducible rfl))
      try simp only [Act.put, List.setIfInBounds_toArray, List.set_cons_zero, List.set_cons_succ]
      refine h4_take (i := 2) (v := ?v2) rfl (by kernel_rfl) (by kernel_rfl) (by kernel_rfl) (fun _ _ _ h => h) (by rfl) ?y2 hHeld ?r2
      case y2 => (intro wS hSw; (try dsimp only at hSw); go_simp; (try with_reducible rfl))
      try simp only [Act.put, List.setIfInBounds_toArray, List.set_cons_zero, List.set_cons_succ]
      refine h4_take (i := 3) (v := ?v3) rfl (by kernel_rfl) (by kernel_rfl) (by kernel_rfl) (fun _ _ _ h => h) (by rfl) ?y3 hHeld ?r3
      case y3 => (intro wS hSw; (try dsimp only at hSw); go_simp; (try with_reducible rfl))
      try simp only [Act.put, List.setIfInBounds_toArray, List.set_cons_zero, List.set_cons_succ]
      refine h4_take (i := 4) (v := ?v4) rfl (by kernel_rfl) (by kernel_rfl) (by kernel_rfl) (fun _ _ _ h => h) (by rfl) ?y4 hHeld ?r4
      case y4 => (intro wS hSw; (try dsimp only at hSw); go_simp; (try with_reducible rfl))
      try simp only [Act.put, List.setIfInBounds_toArray, List.set_cons_zero, List.set_cons_succ]
      refine h4_take (i := 5) (v := ?v5) rfl (by kernel_rfl) (by kernel_rfl) (by kernel_rfl) (fun _ _ _ h => h) (by rfl) ?y5 hHeld ?r5
      case y5 => (intro wS hSw; (try dsimp only at hSw); go_simp; (try with_reducible rfl))
      try simp only [Act.put, List.setIfInBounds_toArray, List.set_cons_zero, List.set_cons_succ]
      refine h4_take (i := 6) (v := ?v6) rfl (by kernel_rfl) (by kernel_rfl) (by kernel_rfl) (fun _ _ _ h => h) (by rfl) ?y6 hHeld ?r6
      case y6 => (intro wS hSw; (try dsimp only at hSw); go_simp; (try with_reducible rfl))
      try simp only [Act.put, List.setIfInBounds_toArray, List.set_cons_zero, List.set_cons_succ]
      refine h4_skip (i := 7) rfl (by kernel_rfl) (by kernel_rfl) (by kernel_rfl) (fun _ _ _ h => h) (by rfl) hHeld ?_
      try simp only [Act.put, List.setIfInBounds_toArray, List.set_cons_zero, List.set_cons_succ]
      refine h4_skip (i := 8) rfl (by kernel_rfl) (by kernel_rfl) (by kernel_rfl) (fun _ _ _ h => h) (by rfl) hHeld ?_
      try simp only [Act.put, List.setIfInBounds_toArray, List.set_cons_zero, List.set_cons_succ]
      refine h4_skip (i := 9) rfl (by kernel_rfl) (by kernel_rfl) (by kernel_rfl) (fun _ _ _ h => h) (by rfl) hHeld ?_
      try simp only [Act.put, List.setIfInBounds_toArray, List.set_cons_zero, List.set_cons_succ]
      refine h4_take (i := 10) (v := ?v7) rfl (by kernel_rfl) (by kernel_rfl) (by kernel_rfl) (fun _ _ _ h => h) (by rfl) ?y7 hHeld ?r7
      case y7 => (intro wS hSw; (try dsimp only at hSw); go_simp; (try with_reducible rfl))
      try simp only [Act.put, List.setIfInBounds_toArray, List.set_cons_zero, List.set_cons_succ]
      refine h4_take (i := 11) (v := ?v8) rfl (by kernel_rfl) (by kernel_rfl) (by kernel_rfl) (fun _ _ _ h => h) (by rfl) ?y8 hHeld ?r8
      case y8 => (intro wS hSw; (try dsimp only at hSw); go_simp; (try with_reducible rfl))
      try simp only [Act.put, List.setIfInBounds_toArray, List.set_cons_zero, List.set_cons_succ]
      refine h4_take (i := 12) (v := ?v9) rfl (by kernel_rfl) (by kernel_rfl) (by kernel_rfl) (fun _ _ _ h => h) (by rfl) ?y9 hHeld ?r9
      case y9 => (intro wS hSw; (try dsimp only at hSw); go_simp; (try with_reducible rfl))
      try simp only [Act.put, List.setIfInBounds_toArray, List.set_cons_zero, List.set_cons_succ]
      refine h4_take (i := 13) (v := ?v10) rfl (by kernel_rfl) (by kernel_rfl) (by kernel_rfl) (fun _ _ _ h => h) (by rfl) ?y10 hHeld ?r10
      case y10 => (intro wS hSw; (try dsimp only at hSw); go_simp; (try with_reducible rfl))
      try simp only [Act.put, List.setIfInBounds_toArray, List.set_cons_zero, List.set_cons_succ]
      refine h4_take (i := 14) (v := ?v11) rfl (by kernel_rfl) (by kernel_rfl) (by kernel_rfl) (fun _ _ _ h => h) (by rfl) ?y11 hHeld ?r11
      case y11 => (intro wS hSw; (try dsimp only at hSw); go_simp; (try with_reducible rfl))
      try simp only [Act.put, List.setIfInBounds_toArray, List.set_cons_zero, List.set_cons_succ]
      refine h4_take (i := 15) (v := ?v12) rfl (by kernel_rfl) (by kernel_rfl) (by kernel_rfl) (fun _ _ _ h => h) (by rfl) ?y12 hHeld ?r12
      case y12 => (intro wS hSw; (try dsimp only at hSw); go_simp; (try with_reducible rfl))
      try simp only [Act.put, List.setIfInBounds_toArray, List.set_cons_zero, List.set_cons_succ]
      refine h4_take (i := 16) (v := ?v13) rfl (by kernel_rfl) (by kernel_rfl) (by kernel_rfl) (fun _ _ _ h => h) (by rfl) ?y13 hHeld ?r13
      case y13 => (intro wS hSw; (try dsimp only at hSw); go_simp; (try with_reducible rfl))
      try simp only [Act.put, List.setIfInBounds_toArray, List.set_cons_zero, List.set_cons_succ]
      refine wpAnyH_ready (rs := [17]) (by kernel_rfl) (by simp) ?_
      refine (h4_cons rfl (fun K hK => ?_) AllReadyH.nil)
      go_simp
      ((go_at_call 16; (with_reducible refine (array_any (HH.out.below (by repeat' (first | (with_reducible exact Below.refl _ _) | (with_reducible assumption) | (with_reducible refine Below.drew ?_) | (with_reducible refine below_drewN ?_ _) | (with_reducible refine Below.alloc ?_ ?_ _) | (with_reducible exact Nat.le_refl _) | (simp; done) | (simp; omega)))) a b hxb).mono ?_); rintro e w1 ⟨rfl, b1⟩; have z1 := b1.size; (try simp at z1)))
      (try go_wp2_with fail)
      refine hK.out _ _ ?_ (fun hHeld15 => ?_)
      · (try dsimp only)
        ((and_intros <;> (first | (with_reducible assumption) | (go_simp; done) | (simp (maxDischargeDepth := 12) [go_sem]; done) | (simp (maxDischargeDepth := 12) [go_sem, *]; done) | exact (Below.cell (by with_reducible assumption) (by first | (simp; done) | (simp; omega) | omega)).trans (by simp (maxDischargeDepth := 12) [go_sem]))))
      clear hK K hHeld
      try simp only [Act.put, List.setIfInBounds_toArray, List.set_cons_zero, List.set_cons_succ]
      refine h4_take (i := 18) (v := ?v15) rfl (by kernel_rfl) (by kernel_rfl) (by kernel_rfl) (fun _ _ _ h => h) (by rfl) ?y15 hHeld15 ?r15
      case y15 => (intro wS hSw; (try dsimp only at hSw); go_simp; (try with_reducible rfl))
      try simp only [Act.put, List.setIfInBounds_toArray, List.set_cons_zero, List.set_cons_succ]
      refine h4_take (i := 19) (v := ?v16) rfl (by kernel_rfl) (by kernel_rfl) (by kernel_rfl) (fun _ _ _ h => h) (by rfl) ?y16 hHeld15 ?r16
      case y16 => (intro wS hSw; (try dsimp only at hSw); go_simp; (try with_reducible rfl))
      try simp only [Act.put, List.setIfInBounds_toArray, List.set_cons_zero, List.set_cons_succ]
      refine h4_take (i := 20) (v := ?v17) rfl (by kernel_rfl) (by kernel_rfl) (by kernel_rfl) (fun _ _ _ h => h) (by rfl) ?y17 hHeld15 ?r17
      case y17 => (intro wS hSw; (try dsimp only at hSw); go_simp; (try with_reducible rfl))
      try simp only [Act.put, List.setIfInBounds_toArray, List.set_cons_zero, List.set_cons_succ]
      refine h4_take (i := 21) (v := ?v18) rfl (by kernel_rfl) (by kernel_rfl) (by kernel_rfl) (fun _ _ _ h => h) (by rfl) ?y18 hHeld15 ?r18
      case y18 => (intro wS hSw; (try dsimp only at hSw); go_simp; (try with_reducible rfl))
      try simp only [Act.put, List.setIfInBounds_toArray, List.set_cons_zero, List.set_cons_succ]
      refine wpAnyH_done (by kernel_rfl) ?_ _
      go_wp2
      (try simp only [Exit.inBlock, Exit.then]); refine bodyPost_ret (by simp [results, Try.results19, go_sem, *]; try rfl) rfl ?_
      exact cnt_of HC.out (by simp) (by (repeat' (first | (with_reducible exact Below.refl _ _) | (refine Below.trans ?_ (Below.mono (by with_reducible assumption) ?_)) | (with_reducible exact Below.refl _ _) | (with_reducible refine below_drewN ?_ _) | (with_reducible refine Below.drew ?_) | (with_reducible refine Below.setCell ?_ ?_ _) | (with_reducible refine Below.alloc ?_ ?_ _) | (with_reducible assumption) | (simp; done) | (simp; omega) | omega)))
    · by_cases c1 : c = 1
      · subst c1
        have HC := Lib.hid hc
        clear hc
        go_enter Try.func19, Try.ntmps19
        go_wp2
        refine wp_region_held_drew (S := (fun w' => w'.cell? ⟨w.heap.size, 0, none⟩ = some (.int .i64 32) ∧ w'.cell? ⟨w.heap.size, 1, none⟩ = some (.int .i64 a) ∧ w'.cell? ⟨w.heap.size, 2, none⟩ = some (.int .i64 b) ∧ w'.cell? ⟨w.heap.size, 3, none⟩ = some (.int .i64 1))) (by kernel_rfl) ?_ (fun hHeld => ?_)
        · (try dsimp only)
          ((and_intros <;> (first | (with_reducible assumption) | (go_simp; done) | (simp (maxDischargeDepth := 12) [go_sem]; done) | (simp (maxDischargeDepth := 12) [go_sem, *]; done) | exact (Below.cell (by with_reducible assumption) (by first | (simp; done) | (simp; omega) | omega)).trans (by simp (maxDischargeDepth := 12) [go_sem]))))
        refine h4_take (i := 0) (v := ?v19) rfl (by kernel_rfl) (by kernel_rfl) (by kernel_rfl) (fun _ _ _ h => h) (by rfl) ?y19 hHeld ?r19
        case y19 => (intro wS hSw; (try dsimp only at hSw); go_simp; (try with_reducible rfl))
        try simp only [Act.put, List.setIfInBounds_toArray, List.set_cons_zero, List.set_cons_succ]
        refine h4_take (i := 1) (v := ?v20) rfl (by kernel_rfl) (by kernel_rfl) (by kernel_rfl) (fun _ _ _ h => h) (by rfl) ?y20 hHeld ?r20
        case y20 => (intro wS hSw; (try dsimp only at hSw); go_simp; (try with_reducible rfl))
        try simp only [Act.put, List.setIfInBounds_toArray, List.set_cons_zero, List.set_cons_succ]
        refine h4_take (i := 2) (v := ?v21) rfl (by kernel_rfl) (by kernel_rfl) (by kernel_rfl) (fun _ _ _ h => h) (by rfl) ?y21 hHeld ?r21
        case y21 => (intro wS hSw; (try dsimp only at hSw); go_simp; (try with_reducible rfl))
        try simp only [Act.put, List.setIfInBounds_toArray, List.set_cons_zero, List.set_cons_succ]
        refine h4_take (i := 3) (v := ?v22) rfl (by kernel_rfl) (by kernel_rfl) (by kernel_rfl) (fun _ _ _ h => h) (by rfl) ?y22 hHeld ?r22
        case y22 => (intro wS hSw; (try dsimp only at hSw); go_simp; (try with_reducible rfl))
        try simp only [Act.put, List.setIfInBounds_toArray, List.set_cons_zero, List.set_cons_succ]
        refine h4_take (i := 4) (v := ?v23) rfl (by kernel_rfl) (by kernel_rfl) (by kernel_rfl) (fun _ _ _ h => h) (by rfl) ?y23 hHeld ?r23
        case y23 => (intro wS hSw; (try dsimp only at hSw); go_simp; (try with_reducible rfl))
        try simp only [Act.put, List.setIfInBounds_toArray, List.set_cons_zero, List.set_cons_succ]
        refine h4_take (i := 5) (v := ?v24) rfl (by kernel_rfl) (by kernel_rfl) (by kernel_rfl) (fun _ _ _ h => h) (by rfl) ?y24 hHeld ?r24
        case y24 => (intro wS hSw; (try dsimp only at hSw); go_simp; (try with_reducible rfl))
        try simp only [Act.put, List.setIfInBounds_toArray, List.set_cons_zero, List.set_cons_succ]
        refine h4_take (i := 6) (v := ?v25) rfl (by kernel_rfl) (by kernel_rfl) (by kernel_rfl) (fun _ _ _ h => h) (by rfl) ?y25 hHeld ?r25
        case y25 => (intro wS hSw; (try dsimp only at hSw); go_simp; (try with_reducible rfl))
        try simp only [Act.put, List.setIfInBounds_toArray, List.set_cons_zero, List.set_cons_succ]
        refine h4_take (i := 7) (v := ?v26) rfl (by kernel_rfl) (by kernel_rfl) (by kernel_rfl) (fun _ _ _ h => h) (by rfl) ?y26 hHeld ?r26
        case y26 => (intro wS hSw; (try dsimp only at hSw); go_simp; (try with_reducible rfl))
        try simp only [Act.put, List.setIfInBounds_toArray, List.set_cons_zero, List.set_cons_succ]
        refine h4_take (i := 8) (v := ?v27) rfl (by kernel_rfl) (by kernel_rfl) (by kernel_rfl) (fun _ _ _ h => h) (by rfl) ?y27 hHeld ?r27
        case y27 => (intro wS hSw; (try dsimp only at hSw); go_simp; (try with_reducible rfl))
        try simp only [Act.put, List.setIfInBounds_toArray, List.set_cons_zero, List.set_cons_succ]
        refine h4_take (i := 9) (v := ?v28) rfl (by kernel_rfl) (by kernel_rfl) (by kernel_rfl) (fun _ _ _ h => h) (by rfl) ?y28 hHeld ?r28
        case y28 => (intro wS hSw; (try dsimp only at hSw); go_simp; (try with_reducible rfl))
        try simp only [Act.put, List.setIfInBounds_toArray, List.set_cons_zero, List.set_cons_succ]
        refine h4_take (i := 10) (v := ?v29) rfl (by kernel_rfl) (by kernel_rfl) (by kernel_rfl) (fun _ _ _ h => h) (by rfl) ?y29 hHeld ?r29
        case y29 => (intro wS hSw; (try dsimp only at hSw); go_simp; (try with_reducible rfl))
        try simp only [Act.put, List.setIfInBounds_toArray, List.set_cons_zero, List.set_cons_succ]
        refine h4_take (i := 11) (v := ?v30) rfl (by kernel_rfl) (by kernel_rfl) (by kernel_rfl) (fun _ _ _ h => h) (by rfl) ?y30 hHeld ?r30
        case y30 => (intro wS hSw; (try dsimp only at hSw); go_simp; (try with_reducible rfl))
        try simp only [Act.put, List.setIfInBounds_toArray, List.set_cons_zero, List.set_cons_succ]
        refine h4_take (i := 12) (v := ?v31) rfl (by kernel_rfl) (by kernel_rfl) (by kernel_rfl) (fun _ _ _ h => h) (by rfl) ?y31 hHeld ?r31
        case y31 => (intro wS hSw; (try dsimp only at hSw); go_simp; (try with_reducible rfl))
        try simp only [Act.put, List.setIfInBounds_toArray, List.set_cons_zero, List.set_cons_succ]
        refine h4_take (i := 13) (v := ?v32) rfl (by kernel_rfl) (by kernel_rfl) (by kernel_rfl) (fun _ _ _ h => h) (by rfl) ?y32 hHeld ?r32
        case y32 => (intro wS hSw; (try dsimp only at hSw); go_simp; (try with_reducible rfl))
        try simp only [Act.put, List.setIfInBounds_toArray, List.set_cons_zero, List.set_cons_succ]
        refine h4_take (i := 14) (v := ?v33) rfl (by kernel_rfl) (by kernel_rfl) (by kernel_rfl) (fun _ _ _ h => h) (by rfl) ?y33 hHeld ?r33
        case y33 => (intro wS hSw; (try dsimp only at hSw); go_simp; (try with_reducible rfl))
        try simp only [Act.put, List.setIfInBounds_toArray, List.set_cons_zero, List.set_cons_succ]
        refine h4_take (i := 15) (v := ?v34) rfl (by kernel_rfl) (by kernel_rfl) (by kernel_rfl) (fun _ _ _ h => h) (by rfl) ?y34 hHeld ?r34
        case y34 => (intro wS hSw; (try dsimp only at hSw); go_simp; (try with_reducible rfl))
        try simp only [Act.put, List.setIfInBounds_toArray, List.set_cons_zero, List.set_cons_succ]
        refine h4_take (i := 16) (v := ?v35) rfl (by kernel_rfl) (by kernel_rfl) (by kernel_rfl) (fun _ _ _ h => h) (by rfl) ?y35 hHeld ?r35
        case y35 => (intro wS hSw; (try dsimp only at hSw); go_simp; (try with_reducible rfl))
        try simp only [Act.put, List.setIfInBounds_toArray, List.set_cons_zero, List.set_cons_succ]
        refine wpAnyH_ready (rs := [17]) (by kernel_rfl) (by simp) ?_
        refine (h4_cons rfl (fun K hK => ?_) AllReadyH.nil)
        go_simp
        ((go_at_call 16; (with_reducible refine (array_any (HH.out.below (by repeat' (first | (with_reducible exact Below.refl _ _) | (with_reducible assumption) | (with_reducible refine Below.drew ?_) | (with_reducible refine below_drewN ?_ _) | (with_reducible refine Below.alloc ?_ ?_ _) | (with_reducible exact Nat.le_refl _) | (simp; done) | (simp; omega)))) a b hxb).mono ?_); rintro e w1 ⟨rfl, b1⟩; have z1 := b1.size; (try simp at z1)))
        (try go_wp2_with fail)
        refine hK.out _ _ ?_ (fun hHeld37 => ?_)
        · (try dsimp only)
          ((and_intros <;> (first | (with_reducible assumption) | (go_simp; done) | (simp (maxDischargeDepth := 12) [go_sem]; done) | (simp (maxDischargeDepth := 12) [go_sem, *]; done) | exact (Below.cell (by with_reducible assumption) (by first | (simp; done) | (simp; omega) | omega)).trans (by simp (maxDischargeDepth := 12) [go_sem]))))
        clear hK K hHeld
        try simp only [Act.put, List.setIfInBounds_toArray, List.set_cons_zero, List.set_cons_succ]
        refine h4_take (i := 18) (v := ?v37) rfl (by kernel_rfl) (by kernel_rfl) (by kernel_rfl) (fun _ _ _ h => h) (by rfl) ?y37 hHeld37 ?r37
        case y37 => (intro wS hSw; (try dsimp only at hSw); go_simp; (try with_reducible rfl))
        try simp only [Act.put, List.setIfInBounds_toArray, List.set_cons_zero, List.set_cons_succ]
        refine h4_take (i := 19) (v := ?v38) rfl (by kernel_rfl) (by kernel_rfl) (by kernel_rfl) (fun _ _ _ h => h) (by rfl) ?y38 hHeld37 ?r38
        case y38 => (intro wS hSw; (try dsimp only at hSw); go_simp; (try with_reducible rfl))
        try simp only [Act.put, List.setIfInBounds_toArray, List.set_cons_zero, List.set_cons_succ]
        refine h4_take (i := 20) (v := ?v39) rfl (by kernel_rfl) (by kernel_rfl) (by kernel_rfl) (fun _ _ _ h => h) (by rfl) ?y39 hHeld37 ?r39
        case y39 => (intro wS hSw; (try dsimp only at hSw); go_simp; (try with_reducible rfl))
        try simp only [Act.put, List.setIfInBounds_toArray, List.set_cons_zero, List.set_cons_succ]
        refine h4_take (i := 21) (v := ?v40) rfl (by kernel_rfl) (by kernel_rfl) (by kernel_rfl) (fun _ _ _ h => h) (by rfl) ?y40 hHeld37 ?r40
        case y40 => (intro wS hSw; (try dsimp only at hSw); go_simp; (try with_reducible rfl))
        try simp only [Act.put, List.setIfInBounds_toArray, List.set_cons_zero, List.set_cons_succ]
        refine wpAnyH_done (by kernel_rfl) ?_ _
        go_wp2
        (try simp only [Exit.inBlock, Exit.then]); refine bodyPost_ret (by simp [results, Try.results19, go_sem, *]; try rfl) rfl ?_
        exact cnt_of HC.out (by simp) (by (repeat' (first | (with_reducible exact Below.refl _ _) | (refine Below.trans ?_ (Below.mono (by with_reducible assumption) ?_)) | (with_reducible exact Below.refl _ _) | (with_reducible refine below_drewN ?_ _) | (with_reducible refine Below.drew ?_) | (with_reducible refine Below.setCell ?_ ?_ _) | (with_reducible refine Below.alloc ?_ ?_ _) | (with_reducible assumption) | (simp; done) | (simp; omega) | omega)))
      · have c0b : (c == 0) = false := by simpa using c0
        have c1b : (c == 1) = false := by simpa using c1
        have HC := Lib.hid hc
        clear hc
        go_enter Try.func19, Try.ntmps19
        go_wp2
        go_quiet (fail)
        go_wp2
        (try simp only [Exit.inBlock, Exit.then]); refine bodyPost_ret (by simp [results, Try.results19, go_sem, *]; try rfl) rfl ?_
        exact cnt_no HC.out (by simp [c0, c1]) rfl (by (repeat' (first | (with_reducible exact Below.refl _ _) | (refine Below.trans ?_ (Below.mono (by with_reducible assumption) ?_)) | (with_reducible exact Below.refl _ _) | (with_reducible refine below_drewN ?_ _) | (with_reducible refine Below.drew ?_) | (with_reducible refine Below.setCell ?_ ?_ _) | (with_reducible refine Below.alloc ?_ ?_ _) | (with_reducible assumption) | (simp; done) | (simp; omega) | omega)))
  by_cases o36 : op = 36
  · subst o36
    have hc := g36.out rfl
    clear g24 g28 g29 g30 g31 g32 g36 g37 g38 gn o24 o28 o29 o30 o31 o32
    have ra := hxa
    have rb := hxb
    have rc := hxc
    unfold I64 at ra rb rc
    by_cases c0 : a = 0
    · subst c0
      have HC := Lib.hid hc
      clear hc
      go_enter Try.func19, Try.ntmps19
      go_wp2
      go_quiet (fail)
      go_wp2
      (try simp only [Exit.inBlock, Exit.then]); refine bodyPost_ret (by simp [results, Try.results19, go_sem, *]; try rfl) rfl ?_
      exact cnt_of HC.out (by simp) (by (repeat' (first | (with_reducible exact Below.refl _ _) | (refine Below.trans ?_ (Below.mono (by with_reducible assumption) ?_)) | (with_reducible exact Below.refl _ _) | (with_reducible refine below_drewN ?_ _) | (with_reducible refine Below.drew ?_) | (with_reducible refine Below.setCell ?_ ?_ _) | (with_reducible refine Below.alloc ?_ ?_ _) | (with_reducible assumption) | (simp; done) | (simp; omega) | omega)))
    · by_cases c1 : a = 1
      · subst c1
        have HC := Lib.hid hc
        clear hc
        go_enter Try.func19, Try.ntmps19
        go_wp2
        go_quiet (fail)
        go_wp2
        (try simp only [Exit.inBlock, Exit.then]); refine bodyPost_ret (by simp [results, Try.results19, go_sem, *]; try rfl) rfl ?_
        exact cnt_of HC.out (by simp) (by (repeat' (first | (with_reducible exact Below.refl _ _) | (refine Below.trans ?_ (Below.mono (by with_reducible assumption) ?_)) | (with_reducible exact Below.refl _ _) | (with_reducible refine below_drewN ?_ _) | (with_reducible refine Below.drew ?_) | (with_reducible refine Below.setCell ?_ ?_ _) | (with_reducible refine Below.alloc ?_ ?_ _) | (with_reducible assumption) | (simp; done) | (simp; omega) | omega)))
      · have c0b : (a == 0) = false := by simpa using c0
        have c1b : (a == 1) = false := by simpa using c1
        have HC := Lib.hid hc
        clear hc
        go_enter Try.func19, Try.ntmps19
        go_wp2
        go_quiet (fail)
        go_wp2
        (try simp only [Exit.inBlock, Exit.then]); refine bodyPost_ret (by simp [results, Try.results19, go_sem, *]; try rfl) rfl ?_
        exact cnt_no HC.out (by simp [c0, c1]) rfl (by (repeat' (first | (with_reducible exact Below.refl _ _) | (refine Below.trans ?_ (Below.mono (by with_reducible assumption) ?_)) | (with_reducible exact Below.refl _ _) | (with_reducible refine below_drewN ?_ _) | (with_reducible refine Below.drew ?_) | (with_reducible refine Below.setCell ?_ ?_ _) | (with_reducible refine Below.alloc ?_ ?_ _) | (with_reducible assumption) | (simp; done) | (simp; omega) | omega)))
  by_cases o37 : op = 37
  · subst o37
    have hc := g37.out rfl
    clear g24 g28 g29 g30 g31 g32 g36 g37 g38 gn o24 o28 o29 o30 o31 o32 o36
    have ra := hxa
    have rb := hxb
    have rc := hxc
    unfold I64 at ra rb rc
    generalize hq : plB C loc (pIns ⟨37, a, b, c, at', s, n, h, l, Lv, ls⟩) = q at hc
    generalize ht : plT C loc (pIns ⟨37, a, b, c, at', s, n, h, l, Lv, ls⟩) = t at hc pb
    have HQ := Lib.hid hq
    have HT := Lib.hid ht
    clear hq ht
    have HC := Lib.hid hc
    clear hc
    cases q
    · go_enter Try.func19, Try.ntmps19
      go_wp2_with (go_at_call 24; (with_reducible refine (place_any (HH.out.below (by repeat' (first | (with_reducible exact Below.refl _ _) | (with_reducible assumption) | (with_reducible refine Below.drew ?_) | (with_reducible refine below_drewN ?_ _) | (with_reducible refine Below.alloc ?_ ?_ _) | (with_reducible exact Nat.le_refl _) | (simp; done) | (simp; omega)))) ⟨37, a, b, c, at', s, n, h, l, Lv, ls⟩ hxb hxc).mono ?_); rw [HT.out, HQ.out]; rintro e w1 ⟨rfl, b1⟩; have z1 := b1.size; (try simp at z1); have y1 : w.heap.size < w1.heap.size := (by omega); try (have cS : w1.cell? ⟨w.heap.size, 5, none⟩ = some (.string s) := (Below.cell b1 (by simp)).trans (by simp (maxDischargeDepth := 12) [go_sem])))
      (try simp only [Exit.inBlock, Exit.then]); refine bodyPost_ret (by simp [results, Try.results19, go_sem, *]; try rfl) rfl ?_
      exact cnt_no HC.out rfl rfl (by (repeat' (first | (with_reducible exact Below.refl _ _) | (refine Below.trans ?_ (Below.mono (by with_reducible assumption) ?_)) | (with_reducible exact Below.refl _ _) | (with_reducible refine below_drewN ?_ _) | (with_reducible refine Below.drew ?_) | (with_reducible refine Below.setCell ?_ ?_ _) | (with_reducible refine Below.alloc ?_ ?_ _) | (with_reducible assumption) | (simp; done) | (simp; omega) | omega)))
    · go_enter Try.func19, Try.ntmps19
      go_wp2_with (first | (go_at_call 24; (with_reducible refine (place_any (HH.out.below (by repeat' (first | (with_reducible exact Below.refl _ _) | (with_reducible assumption) | (with_reducible refine Below.drew ?_) | (with_reducible refine below_drewN ?_ _) | (with_reducible refine Below.alloc ?_ ?_ _) | (with_reducible exact Nat.le_refl _) | (simp; done) | (simp; omega)))) ⟨37, a, b, c, at', s, n, h, l, Lv, ls⟩ hxb hxc).mono ?_); rw [HT.out, HQ.out]; rintro e w1 ⟨rfl, b1⟩; have z1 := b1.size; (try simp at z1); have y1 : w.heap.size < w1.heap.size := (by omega); try (have cS : w1.cell? ⟨w.heap.size, 5, none⟩ = some (.string s) := (Below.cell b1 (by simp)).trans (by simp (maxDischargeDepth := 12) [go_sem]))) | (go_at_call 17; (with_reducible refine (arith_any s _).mono ?_); rintro e w2 ⟨rfl, b2⟩; have z2 := b2.size; (try simp at z2)))
      (try simp only [Exit.inBlock, Exit.then]); refine bodyPost_ret (by simp [results, Try.results19, go_sem, *]; try rfl) rfl ?_
      exact cnt_of HC.out (by simp) (by (repeat' (first | (with_reducible exact Below.refl _ _) | (refine Below.trans ?_ (Below.mono (by with_reducible assumption) ?_)) | (with_reducible exact Below.refl _ _) | (with_reducible refine below_drewN ?_ _) | (with_reducible refine Below.drew ?_) | (with_reducible refine Below.setCell ?_ ?_ _) | (with_reducible refine Below.alloc ?_ ?_ _) | (with_reducible assumption) | (simp; done) | (simp; omega) | omega)))
  by_cases o38 : op = 38
  · subst o38
    have hc := g38.out rfl
    clear g24 g28 g29 g30 g31 g32 g36 g37 g38 gn o24 o28 o29 o30 o31 o32 o36 o37
    have ra := hxa
    have rb := hxb
    have rc := hxc
    unfold I64 at ra rb rc
    generalize hq : plB C loc (pIns ⟨38, a, b, c, at', s, n, h, l, Lv, ls⟩) = q at hc
    generalize ht : plT C loc (pIns ⟨38, a, b, c, at', s, n, h, l, Lv, ls⟩) = t at hc pb
    have HQ := Lib.hid hq
    have HT := Lib.hid ht
    clear hq ht
    have HC := Lib.hid hc
    clear hc
    cases q
    · go_enter Try.func19, Try.ntmps19
      go_wp2_with (go_at_call 24; (with_reducible refine (place_any (HH.out.below (by repeat' (first | (with_reducible exact Below.refl _ _) | (with_reducible assumption) | (with_reducible refine Below.drew ?_) | (with_reducible refine below_drewN ?_ _) | (with_reducible refine Below.alloc ?_ ?_ _) | (with_reducible exact Nat.le_refl _) | (simp; done) | (simp; omega)))) ⟨38, a, b, c, at', s, n, h, l, Lv, ls⟩ hxb hxc).mono ?_); rw [HT.out, HQ.out]; rintro e w1 ⟨rfl, b1⟩; have z1 := b1.size; (try simp at z1); have y1 : w.heap.size < w1.heap.size := (by omega); try (have cS : w1.cell? ⟨w.heap.size, 5, none⟩ = some (.string s) := (Below.cell b1 (by simp)).trans (by simp (maxDischargeDepth := 12) [go_sem])))
      (try simp only [Exit.inBlock, Exit.then]); refine bodyPost_ret (by simp [results, Try.results19, go_sem, *]; try rfl) rfl ?_
      exact cnt_no HC.out rfl rfl (by (repeat' (first | (with_reducible exact Below.refl _ _) | (refine Below.trans ?_ (Below.mono (by with_reducible assumption) ?_)) | (with_reducible exact Below.refl _ _) | (with_reducible refine below_drewN ?_ _) | (with_reducible refine Below.drew ?_) | (with_reducible refine Below.setCell ?_ ?_ _) | (with_reducible refine Below.alloc ?_ ?_ _) | (with_reducible assumption) | (simp; done) | (simp; omega) | omega)))
    · go_enter Try.func19, Try.ntmps19
      go_wp2_with (first | (go_at_call 24; (with_reducible refine (place_any (HH.out.below (by repeat' (first | (with_reducible exact Below.refl _ _) | (with_reducible assumption) | (with_reducible refine Below.drew ?_) | (with_reducible refine below_drewN ?_ _) | (with_reducible refine Below.alloc ?_ ?_ _) | (with_reducible exact Nat.le_refl _) | (simp; done) | (simp; omega)))) ⟨38, a, b, c, at', s, n, h, l, Lv, ls⟩ hxb hxc).mono ?_); rw [HT.out, HQ.out]; rintro e w1 ⟨rfl, b1⟩; have z1 := b1.size; (try simp at z1); have y1 : w.heap.size < w1.heap.size := (by omega); try (have cS : w1.cell? ⟨w.heap.size, 5, none⟩ = some (.string s) := (Below.cell b1 (by simp)).trans (by simp (maxDischargeDepth := 12) [go_sem]))) | (go_at_call 18; (with_reducible refine (contains_lit [[43, 120], [45, 120], [120, 43], [120, 45]] s _ _ (by decide) 4 4 rfl _ (countB_mem s.toList) _ (by simp [lits])).mono ?_); rintro e w2 ⟨rfl, rfl⟩))
      (try simp only [Exit.inBlock, Exit.then]); refine bodyPost_ret (by simp [results, Try.results19, go_sem, *]; try rfl) rfl ?_
      exact cnt_of HC.out (by simp) (by (repeat' (first | (with_reducible exact Below.refl _ _) | (refine Below.trans ?_ (Below.mono (by with_reducible assumption) ?_)) | (with_reducible exact Below.refl _ _) | (with_reducible refine below_drewN ?_ _) | (with_reducible refine Below.drew ?_) | (with_reducible refine Below.setCell ?_ ?_ _) | (with_reducible refine Below.alloc ?_ ?_ _) | (with_reducible assumption) | (simp; done) | (simp; omega) | omega)))
  have hc := gn.out (by simp [moreOps, *])
  have HC := Lib.hid hc
  clear hc g24 g28 g29 g30 g31 g32 g36 g37 g38 gn
  have e24 : (op == 24) = false := by simpa using o24
  have e28 : (op == 28) = false := by simpa using o28
  have e29 : (op == 29) = false := by simpa using o29
  have e30 : (op == 30) = false := by simpa using o30
  have e31 : (op == 31) = false := by simpa using o31
  have e32 : (op == 32) = false := by simpa using o32
  have e36 : (op == 36) = false := by simpa using o36
  have e37 : (op == 37) = false := by simpa using o37
  have e38 : (op == 38) = false := by simpa using o38
  clear o24 o28 o29 o30 o31 o32 o36 o37 o38
  go_enter Try.func19, Try.ntmps19
  go_wp2
  (try simp only [Exit.inBlock, Exit.then]); refine bodyPost_ret (by simp [results, Try.results19, go_sem, *]; try rfl) rfl ?_
  exact ⟨⟨_, _, _, rfl, HC.out⟩, by (repeat' (first | (with_reducible exact Below.refl _ _) | (refine Below.trans ?_ (Below.mono (by with_reducible assumption) ?_)) | (with_reducible exact Below.refl _ _) | (with_reducible refine below_drewN ?_ _) | (with_reducible refine Below.drew ?_) | (with_reducible refine Below.setCell ?_ ?_ _) | (with_reducible refine Below.alloc ?_ ?_ _) | (with_reducible assumption) | (simp; done) | (simp; omega) | omega))⟩
end Go.Proofs.Ytanbplnagcmlcaa
