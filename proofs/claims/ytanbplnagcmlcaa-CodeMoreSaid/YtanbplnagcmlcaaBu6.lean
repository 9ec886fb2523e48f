/- Several texts put together: CodK, CodKa. -/
import Derived.Test.YtanbplnagcmlcaaBu5
/- Layer 15: what an instruction takes and puts. -/
namespace Go.Proofs.Ytanbplnagcmlcaa
open Go.RowKit
/- Exits out of nested blocks. -/
theorem then_exit {K : Act → World → Prop} {Q : Exit → Act → World → Prop} {i : Nat} {a : Act} {w : World} (h : Q (.exit i) a w) : Exit.then K Q (.exit i) a w := h
theorem then_ret {K : Act → World → Prop} {Q : Exit → Act → World → Prop} {a : Act} {w : World} (h : Q .ret a w) : Exit.then K Q .ret a w := h
theorem then_normal {K : Act → World → Prop} {Q : Exit → Act → World → Prop} {a : Act} {w : World} (h : K a w) : Exit.then K Q .normal a w := h
theorem inBlock_hit {Q : Exit → Act → World → Prop} {i : Nat} {a : Act} {w : World} (h : Q .normal a w) : Exit.inBlock i Q (.exit i) a w := by simp only [Exit.inBlock, if_true]; exact h
theorem inBlock_miss {Q : Exit → Act → World → Prop} {i j : Nat} {a : Act} {w : World} (hij : (j == i) = false) (h : Q (.exit j) a w) : Exit.inBlock i Q (.exit j) a w := by
  have : ¬ j = i := by simpa using hij
  simp only [Exit.inBlock, this, if_false]; exact h
theorem inBlock_ret {Q : Exit → Act → World → Prop} {i : Nat} {a : Act} {w : World} (h : Q .ret a w) : Exit.inBlock i Q .ret a w := h
theorem inBlock_normal {Q : Exit → Act → World → Prop} {i : Nat} {a : Act} {w : World} (h : Q .normal a w) : Exit.inBlock i Q .normal a w := h
theorem cnt_yes {C : CodeV} {loc : Value × List VarV} {x : Ins} {w w' : World} {t p : Int} (hc : countsOf (pNms C) (mineV loc) x = some (t, p)) (q : Below w.heap.size w w') :
    CntPost C loc x w (.returned (.tuple #[.int .i64 t, .int .i64 p, .bool true])) w' := ⟨⟨t, p, true, rfl, hc⟩, q⟩
theorem cnt_0 {C : CodeV} {loc : Value × List VarV} {x : InsV} (h : x.op = 0) : countsOf (pNms C) (mineV loc) (pIns x) = some (0, 0) := by
  have h' : (pIns x).op = 0 := h
  simp only [countsOf, h']
  rfl
theorem cnt_35 {C : CodeV} {loc : Value × List VarV} {x : InsV} (h : x.op = 35) : countsOf (pNms C) (mineV loc) (pIns x) = some (0, 0) := by
  have h' : (pIns x).op = 35 := h
  simp only [countsOf, h']
  rfl
theorem cnt_21 {C : CodeV} {loc : Value × List VarV} {x : InsV} (h : x.op = 21) : countsOf (pNms C) (mineV loc) (pIns x) = some (0, 0) := by
  have h' : (pIns x).op = 21 := h
  simp only [countsOf, h']
  rfl
theorem cnt_26 {C : CodeV} {loc : Value × List VarV} {x : InsV} (h : x.op = 26) : countsOf (pNms C) (mineV loc) (pIns x) = some (0, 0) := by
  have h' : (pIns x).op = 26 := h
  simp only [countsOf, h']
  rfl
theorem cnt_1 {C : CodeV} {loc : Value × List VarV} {x : InsV} (h : x.op = 1) : countsOf (pNms C) (mineV loc) (pIns x) = some (0, 1) := by
  have h' : (pIns x).op = 1 := h
  simp only [countsOf, h']
  rfl
theorem cnt_2 {C : CodeV} {loc : Value × List VarV} {x : InsV} (h : x.op = 2) : countsOf (pNms C) (mineV loc) (pIns x) = some (0, 1) := by
  have h' : (pIns x).op = 2 := h
  simp only [countsOf, h']
  rfl
theorem cnt_34 {C : CodeV} {loc : Value × List VarV} {x : InsV} (h : x.op = 34) : countsOf (pNms C) (mineV loc) (pIns x) = some (0, 1) := by
  have h' : (pIns x).op = 34 := h
  simp only [countsOf, h']
  rfl
theorem cnt_3 {C : CodeV} {loc : Value × List VarV} {x : InsV} (h : x.op = 3) : countsOf (pNms C) (mineV loc) (pIns x) = some (1, 0) := by
  have h' : (pIns x).op = 3 := h
  simp only [countsOf, h']
  rfl
theorem cnt_25 {C : CodeV} {loc : Value × List VarV} {x : InsV} (h : x.op = 25) : countsOf (pNms C) (mineV loc) (pIns x) = some (1, 0) := by
  have h' : (pIns x).op = 25 := h
  simp only [countsOf, h']
  rfl
theorem cnt_27 {C : CodeV} {loc : Value × List VarV} {x : InsV} (h : x.op = 27) : countsOf (pNms C) (mineV loc) (pIns x) = some (1, 0) := by
  have h' : (pIns x).op = 27 := h
  simp only [countsOf, h']
  rfl
theorem cnt_23 {C : CodeV} {loc : Value × List VarV} {x : InsV} (h : x.op = 23) : countsOf (pNms C) (mineV loc) (pIns x) = some (1, 0) := by
  have h' : (pIns x).op = 23 := h
  simp only [countsOf, h']
  rfl
theorem cnt_22 {C : CodeV} {loc : Value × List VarV} {x : InsV} (h : x.op = 22) : countsOf (pNms C) (mineV loc) (pIns x) = some (1, 0) := by
  have h' : (pIns x).op = 22 := h
  simp only [countsOf, h']
  rfl
theorem cnt_4 {C : CodeV} {loc : Value × List VarV} {x : InsV} (h : x.op = 4) : countsOf (pNms C) (mineV loc) (pIns x) = some (2, 2) := by
  have h' : (pIns x).op = 4 := h
  simp only [countsOf, h']
  rfl
theorem cnt_5 {C : CodeV} {loc : Value × List VarV} {x : InsV} (h : x.op = 5) : countsOf (pNms C) (mineV loc) (pIns x) = if numB C loc x.a x.b then some (0, 1) else none := by
  have h' : (pIns x).op = 5 := h
  simp only [countsOf, h']
  rfl
theorem cnt_6 {C : CodeV} {loc : Value × List VarV} {x : InsV} (h : x.op = 6) : countsOf (pNms C) (mineV loc) (pIns x) = if numB C loc x.a x.b then some (1, 1) else none := by
  have h' : (pIns x).op = 6 := h
  simp only [countsOf, h']
  rfl
theorem cnt_7 {C : CodeV} {loc : Value × List VarV} {x : InsV} (h : x.op = 7) : countsOf (pNms C) (mineV loc) (pIns x) = if arrB C loc x.a x.b then some (1, 1) else none := by
  have h' : (pIns x).op = 7 := h
  simp only [countsOf, h']
  rfl
theorem cnt_9 {C : CodeV} {loc : Value × List VarV} {x : InsV} (h : x.op = 9) : countsOf (pNms C) (mineV loc) (pIns x) = if arrB C loc x.a x.b then some (1, 1) else none := by
  have h' : (pIns x).op = 9 := h
  simp only [countsOf, h']
  rfl
theorem cnt_10 {C : CodeV} {loc : Value × List VarV} {x : InsV} (h : x.op = 10) : countsOf (pNms C) (mineV loc) (pIns x) = if arrB C loc x.a x.b then some (1, 0) else none := by
  have h' : (pIns x).op = 10 := h
  simp only [countsOf, h']
  rfl
theorem cnt_8 {C : CodeV} {loc : Value × List VarV} {x : InsV} (h : x.op = 8) : countsOf (pNms C) (mineV loc) (pIns x) = if arrB C loc x.a x.b then some (2, 1) else none := by
  have h' : (pIns x).op = 8 := h
  simp only [countsOf, h']
  rfl
theorem cnt_11 {C : CodeV} {loc : Value × List VarV} {x : InsV} (h : x.op = 11) : countsOf (pNms C) (mineV loc) (pIns x) = if arrB C loc x.a x.b then some (0, 0) else none := by
  have h' : (pIns x).op = 11 := h
  simp only [countsOf, h']
  rfl
theorem cnt_33 {C : CodeV} {loc : Value × List VarV} {x : InsV} (h : x.op = 33) : countsOf (pNms C) (mineV loc) (pIns x) = if arrB C loc x.a x.b then some (0, 0) else none := by
  have h' : (pIns x).op = 33 := h
  simp only [countsOf, h']
  rfl
theorem cnt_12 {C : CodeV} {loc : Value × List VarV} {x : InsV} (h : x.op = 12) : countsOf (pNms C) (mineV loc) (pIns x) = some (1, 1) := by
  have h' : (pIns x).op = 12 := h
  simp only [countsOf, h']
  rfl
theorem cnt_20 {C : CodeV} {loc : Value × List VarV} {x : InsV} (h : x.op = 20) : countsOf (pNms C) (mineV loc) (pIns x) = some (1, 1) := by
  have h' : (pIns x).op = 20 := h
  simp only [countsOf, h']
  rfl
theorem cnt_13 {C : CodeV} {loc : Value × List VarV} {x : InsV} (h : x.op = 13) : countsOf (pNms C) (mineV loc) (pIns x) = some (2, 1) := by
  have h' : (pIns x).op = 13 := h
  simp only [countsOf, h']
  rfl
theorem cnt_17 {C : CodeV} {loc : Value × List VarV} {x : InsV} (h : x.op = 17) : countsOf (pNms C) (mineV loc) (pIns x) = some (2, 1) := by
  have h' : (pIns x).op = 17 := h
  simp only [countsOf, h']
  rfl
theorem cnt_14 {C : CodeV} {loc : Value × List VarV} {x : InsV} (h : x.op = 14) : countsOf (pNms C) (mineV loc) (pIns x) = if decide (1 ≤ x.a) then some (x.a, 1) else none := by
  have h' : (pIns x).op = 14 := h
  simp only [countsOf, h']
  rfl
theorem cnt_15 {C : CodeV} {loc : Value × List VarV} {x : InsV} (h : x.op = 15) : countsOf (pNms C) (mineV loc) (pIns x) = if arithB x.s.toList then some (2, 1) else none := by
  have h' : (pIns x).op = 15 := h
  simp only [countsOf, h']
  rfl
theorem cnt_18 {C : CodeV} {loc : Value × List VarV} {x : InsV} (h : x.op = 18) : countsOf (pNms C) (mineV loc) (pIns x) = if compB x.s.toList then some (2, 1) else none := by
  have h' : (pIns x).op = 18 := h
  simp only [countsOf, h']
  rfl
theorem cnt_19 {C : CodeV} {loc : Value × List VarV} {x : InsV} (h : x.op = 19) : countsOf (pNms C) (mineV loc) (pIns x) = if (decide (x.s.toList = [126]) || decide (x.s.toList = [33, 126])) then some (2, 1) else none := by
  have h' : (pIns x).op = 19 := h
  simp only [countsOf, h']
  rfl
theorem cnt_16 {C : CodeV} {loc : Value × List VarV} {x : InsV} (h : x.op = 16) : countsOf (pNms C) (mineV loc) (pIns x) = if (decide (x.s.toList = [43]) || decide (x.s.toList = [45]) || decide (x.s.toList = [33])) then some (1, 1) else none := by
  have h' : (pIns x).op = 16 := h
  simp only [countsOf, h']
  rfl
end Go.Proofs.Ytanbplnagcmlcaa

/- Layer 15: what an instruction takes and puts, walked (a). -/
namespace Go.Proofs.Ytanbplnagcmlcaa
open Go.RowKit
set_option maxRecDepth 100000 in
set_option maxHeartbeats 1600000 in
theorem counts_0 {w : World} {B g : Nat} {C : CodeV} {G L P J : Value} {row : Value × List InsV} {loc : Value × List VarV} (H : Gs w B g C G L P J row loc) (x : InsV) (hx : x.ok w B) (hop : x.op = 0) :
    Calls Try.prog 14 #[.pointer (some ⟨g, 0, none⟩), .agg #[.int .i64 x.op, .int .i64 x.a, .int .i64 x.b, .int .i64 x.c, .int .i64 x.at', .string x.s, .bool x.n, .int .u64 x.h, .int .u64 x.l, x.L]] w (CntPost C loc (pIns x) w) := by
  have HH := Lib.hid H
  have hxa := hx.a
  have hxb := hx.b
  clear H hx
  have HC := Lib.hid (cnt_0 (C := C) (loc := loc) (x := x) hop)
  obtain ⟨op, a, b, c, at', s, n, h, l, Lv, ls⟩ := x
  dsimp only at *
  subst hop
  go_enter Try.func14, Try.ntmps14
  repeat' (first | (with_reducible refine then_exit ?_) | (with_reducible refine then_ret ?_) | (with_reducible refine then_normal ?_) | (with_reducible refine inBlock_hit ?_) | ((with_reducible refine inBlock_miss ?_ ?_); (exact rfl)) | (with_reducible refine inBlock_ret ?_) | (with_reducible refine inBlock_normal ?_) | go_values | go_skip | go_guarded | go_step | go_upon | go_in | go_back | (simp only [Int.not_lt, Int.not_le] at *; go_simp) | (go_values <;> (try go_simp)) | (go_ite <;> go_prune <;> (try go_simp)) | (split <;> (first | (rename_i hx; exact (hx _ rfl).elim) | go_prune)))
  (try simp only [Exit.inBlock, Exit.then]); refine bodyPost_ret (by simp [results, Try.results14, go_sem, *]; try rfl) rfl ?_
  exact cnt_yes HC.out (by (repeat' (first | (with_reducible exact Below.refl _ _) | (refine Below.trans ?_ (Below.mono (by with_reducible assumption) ?_)) | (with_reducible exact Below.refl _ _) | (with_reducible refine below_drewN ?_ _) | (with_reducible refine Below.drew ?_) | (with_reducible refine Below.setCell ?_ ?_ _) | (with_reducible refine Below.alloc ?_ ?_ _) | (with_reducible assumption) | (simp; done) | (simp; omega) | omega)))
set_option maxRecDepth 100000 in
set_option maxHeartbeats 1600000 in
theorem counts_35 {w : World} {B g : Nat} {C : CodeV} {G L P J : Value} {row : Value × List InsV} {loc : Value × List VarV} (H : Gs w B g C G L P J row loc) (x : InsV) (hx : x.ok w B) (hop : x.op = 35) :
    Calls Try.prog 14 #[.pointer (some ⟨g, 0, none⟩), .agg #[.int .i64 x.op, .int .i64 x.a, .int .i64 x.b, .int .i64 x.c, .int .i64 x.at', .string x.s, .bool x.n, .int .u64 x.h, .int .u64 x.l, x.L]] w (CntPost C loc (pIns x) w) := by
  have HH := Lib.hid H
  have hxa := hx.a
  have hxb := hx.b
  clear H hx
  have HC := Lib.hid (cnt_35 (C := C) (loc := loc) (x := x) hop)
  obtain ⟨op, a, b, c, at', s, n, h, l, Lv, ls⟩ := x
  dsimp only at *
  subst hop
  go_enter Try.func14, Try.ntmps14
  repeat' (first | (with_reducible refine then_exit ?_) | (with_reducible refine then_ret ?_) | (with_reducible refine then_normal ?_) | (with_reducible refine inBlock_hit ?_) | ((with_reducible refine inBlock_miss ?_ ?_); (exact rfl)) | (with_reducible refine inBlock_ret ?_) | (with_reducible refine inBlock_normal ?_) | go_values | go_skip | go_guarded | go_step | go_upon | go_in | go_back | (simp only [Int.not_lt, Int.not_le] at *; go_simp) | (go_values <;> (try go_simp)) | (go_ite <;> go_prune <;> (try go_simp)) | (split <;> (first | (rename_i hx; exact (hx _ rfl).elim) | go_prune)))
  (try simp only [Exit.inBlock, Exit.then]); refine bodyPost_ret (by simp [results, Try.results14, go_sem, *]; try rfl) rfl ?_
  exact cnt_yes HC.out (by (repeat' (first | (with_reducible exact Below.refl _ _) | (refine Below.trans ?_ (Below.mono (by with_reducible assumption) ?_)) | (with_reducible exact Below.refl _ _) | (with_reducible refine below_drewN ?_ _) | (with_reducible refine Below.drew ?_) | (with_reducible refine Below.setCell ?_ ?_ _) | (with_reducible refine Below.alloc ?_ ?_ _) | (with_reducible assumption) | (simp; done) | (simp; omega) | omega)))
set_option maxRecDepth 100000 in
set_option maxHeartbeats 1600000 in
theorem counts_21 {w : World} {B g : Nat} {C : CodeV} {G L P J : Value} {row : Value × List InsV} {loc : Value × List VarV} (H : Gs w B g C G L P J row loc) (x : InsV) (hx : x.ok w B) (hop : x.op = 21) :
    Calls Try.prog 14 #[.pointer (some ⟨g, 0, none⟩), .agg #[.int .i64 x.op, .int .i64 x.a, .int .i64 x.b, .int .i64 x.c, .int .i64 x.at', .string x.s, .bool x.n, .int .u64 x.h, .int .u64 x.l, x.L]] w (CntPost C loc (pIns x) w) := by
  have HH := Lib.hid H
  have hxa := hx.a
  have hxb := hx.b
  clear H hx
  have HC := Lib.hid (cnt_21 (C := C) (loc := loc) (x := x) hop)
  obtain ⟨op, a, b, c, at', s, n, h, l, Lv, ls⟩ := x
  dsimp only at *
  subst hop
  go_enter Try.func14, Try.ntmps14
  repeat' (first | (with_reducible refine then_exit ?_) | (with_reducible refine then_ret ?_) | (with_reducible refine then_normal ?_) | (with_reducible refine inBlock_hit ?_) | ((with_reducible refine inBlock_miss ?_ ?_); (exact rfl)) | (with_reducible refine inBlock_ret ?_) | (with_reducible refine inBlock_normal ?_) | go_values | go_skip | go_guarded | go_step | go_upon | go_in | go_back | (simp only [Int.not_lt, Int.not_le] at *; go_simp) | (go_values <;> (try go_simp)) | (go_ite <;> go_prune <;> (try go_simp)) | (split <;> (first | (rename_i hx; exact (hx _ rfl).elim) | go_prune)))
  (try simp only [Exit.inBlock, Exit.then]); refine bodyPost_ret (by simp [results, Try.results14, go_sem, *]; try rfl) rfl ?_
  exact cnt_yes HC.out (by (repeat' (first | (with_reducible exact Below.refl _ _) | (refine Below.trans ?_ (Below.mono (by with_reducible assumption) ?_)) | (with_reducible exact Below.refl _ _) | (with_reducible refine below_drewN ?_ _) | (with_reducible refine Below.drew ?_) | (with_reducible refine Below.setCell ?_ ?_ _) | (with_reducible refine Below.alloc ?_ ?_ _) | (with_reducible assumption) | (simp; done) | (simp; omega) | omega)))
set_option maxRecDepth 100000 in
set_option maxHeartbeats 1600000 in
theorem counts_26 {w : World} {B g : Nat} {C : CodeV} {G L P J : Value} {row : Value × List InsV} {loc : Value × List VarV} (H : Gs w B g C G L P J row loc) (x : InsV) (hx : x.ok w B) (hop : x.op = 26) :
    Calls Try.prog 14 #[.pointer (some ⟨g, 0, none⟩), .agg #[.int .i64 x.op, .int .i64 x.a, .int .i64 x.b, .int .i64 x.c, .int .i64 x.at', .string x.s, .bool x.n, .int .u64 x.h, .int .u64 x.l, x.L]] w (CntPost C loc (pIns x) w) := by
  have HH := Lib.hid H
  have hxa := hx.a
  have hxb := hx.b
  clear H hx
  have HC := Lib.hid (cnt_26 (C := C) (loc := loc) (x := x) hop)
  obtain ⟨op, a, b, c, at', s, n, h, l, Lv, ls⟩ := x
  dsimp only at *
  subst hop
  go_enter Try.func14, Try.ntmps14
  repeat' (first | (with_reducible refine then_exit ?_) | (with_reducible refine then_ret ?_) | (with_reducible refine then_normal ?_) | (with_reducible refine inBlock_hit ?_) | ((with_reducible refine inBlock_miss ?_ ?_); (exact rfl)) | (with_reducible refine inBlock_ret ?_) | (with_reducible refine inBlock_normal ?_) | go_values | go_skip | go_guarded | go_step | go_upon | go_in | go_back | (simp only [Int.not_lt, Int.not_le] at *; go_simp) | (go_values <;> (try go_simp)) | (go_ite <;> go_prune <;> (try go_simp)) | (split <;> (first | (rename_i hx; exact (hx _ rfl).elim) | go_prune)))
  (try simp only [Exit.inBlock, Exit.then]); refine bodyPost_ret (by simp [results, Try.results14, go_sem, *]; try rfl) rfl ?_
  exact cnt_yes HC.out (by (repeat' (first | (with_reducible exact Below.refl _ _) | (refine Below.trans ?_ (Below.mono (by with_reducible assumption) ?_)) | (with_reducible exact Below.refl _ _) | (with_reducible refine below_drewN ?_ _) | (with_reducible refine Below.drew ?_) | (with_reducible refine Below.setCell ?_ ?_ _) | (with_reducible refine Below.alloc ?_ ?_ _) | (with_reducible assumption) | (simp; done) | (simp; omega) | omega)))
set_option maxRecDepth 100000 in
set_option maxHeartbeats 1600000 in
theorem counts_1 {w : World} {B g : Nat} {C : CodeV} {G L P J : Value} {row : Value × List InsV} {loc : Value × List VarV} (H : Gs w B g C G L P J row loc) (x : InsV) (hx : x.ok w B) (hop : x.op = 1) :
    Calls Try.prog 14 #[.pointer (some ⟨g, 0, none⟩), .agg #[.int .i64 x.op, .int .i64 x.a, .int .i64 x.b, .int .i64 x.c, .int .i64 x.at', .string x.s, .bool x.n, .int .u64 x.h, .int .u64 x.l, x.L]] w (CntPost C loc (pIns x) w) := by
  have HH := Lib.hid H
  have hxa := hx.a
  have hxb := hx.b
  clear H hx
  have HC := Lib.hid (cnt_1 (C := C) (loc := loc) (x := x) hop)
  obtain ⟨op, a, b, c, at', s, n, h, l, Lv, ls⟩ := x
  dsimp only at *
  subst hop
  go_enter Try.func14, Try.ntmps14
  repeat' (first | (with_reducible refine then_exit ?_) | (with_reducible refine then_ret ?_) | (with_reducible refine then_normal ?_) | (with_reducible refine inBlock_hit ?_) | ((with_reducible refine inBlock_miss ?_ ?_); (exact rfl)) | (with_reducible refine inBlock_ret ?_) | (with_reducible refine inBlock_normal ?_) | go_values | go_skip | go_guarded | go_step | go_upon | go_in | go_back | (simp only [Int.not_lt, Int.not_le] at *; go_simp) | (go_values <;> (try go_simp)) | (go_ite <;> go_prune <;> (try go_simp)) | (split <;> (first | (rename_i hx; exact (hx _ rfl).elim) | go_prune)))
  (try simp only [Exit.inBlock, Exit.then]); refine bodyPost_ret (by simp [results, Try.results14, go_sem, *]; try rfl) rfl ?_
  exact cnt_yes HC.out (by (repeat' (first | (with_reducible exact Below.refl _ _) | (refine Below.trans ?_ (Below.mono (by with_reducible assumption) ?_)) | (with_reducible exact Below.refl _ _) | (with_reducible refine below_drewN ?_ _) | (with_reducible refine Below.drew ?_) | (with_reducible refine Below.setCell ?_ ?_ _) | (with_reducible refine Below.alloc ?_ ?_ _) | (with_reducible assumption) | (simp; done) | (simp; omega) | omega)))
set_option maxRecDepth 100000 in
set_option maxHeartbeats 1600000 in
theorem counts_2 {w : World} {B g : Nat} {C : CodeV} {G L P J : Value} {row : Value × List InsV} {loc : Value × List VarV} (H : Gs w B g C G L P J row loc) (x : InsV) (hx : x.ok w B) (hop : x.op = 2) :
    Calls Try.prog 14 #[.pointer (some ⟨g, 0, none⟩), .agg #[.int .i64 x.op, .int .i64 x.a, .int .i64 x.b, .int .i64 x.c, .int .i64 x.at', .string x.s, .bool x.n, .int .u64 x.h, .int .u64 x.l, x.L]] w (CntPost C loc (pIns x) w) := by
  have HH := Lib.hid H
  have hxa := hx.a
  have hxb := hx.b
  clear H hx
  have HC := Lib.hid (cnt_2 (C := C) (loc := loc) (x := x) hop)
  obtain ⟨op, a, b, c, at', s, n, h, l, Lv, ls⟩ := x
  dsimp only at *
  subst hop
  go_enter Try.func14, Try.ntmps14
  repeat' (first | (with_reducible refine then_exit ?_) | (with_reducible refine then_ret ?_) | (with_reducible refine then_normal ?_) | (with_reducible refine inBlock_hit ?_) | ((with_reducible refine inBlock_miss ?_ ?_); (exact rfl)) | (with_reducible refine inBlock_ret ?_) | (with_reducible refine inBlock_normal ?_) | go_values | go_skip | go_guarded | go_step | go_upon | go_in | go_back | (simp only [Int.not_lt, Int.not_le] at *; go_simp) | (go_values <;> (try go_simp)) | (go_ite <;> go_prune <;> (try go_simp)) | (split <;> (first | (rename_i hx; exact (hx _ rfl).elim) | go_prune)))
  (try simp only [Exit.inBlock, Exit.then]); refine bodyPost_ret (by simp [results, Try.results14, go_sem, *]; try rfl) rfl ?_
  exact cnt_yes HC.out (by (repeat' (first | (with_reducible exact Below.refl _ _) | (refine Below.trans ?_ (Below.mono (by with_reducible assumption) ?_)) | (with_reducible exact Below.refl _ _) | (with_reducible refine below_drewN ?_ _) | (with_reducible refine Below.drew ?_) | (with_reducible refine Below.setCell ?_ ?_ _) | (with_reducible refine Below.alloc ?_ ?_ _) | (with_reducible assumption) | (simp; done) | (simp; omega) | omega)))
set_option maxRecDepth 100000 in
set_option maxHeartbeats 1600000 in
theorem counts_34 {w : World} {B g : Nat} {C : CodeV} {G L P J : Value} {row : Value × List InsV} {loc : Value × List VarV} (H : Gs w B g C G L P J row loc) (x : InsV) (hx : x.ok w B) (hop : x.op = 34) :
    Calls Try.prog 14 #[.pointer (some ⟨g, 0, none⟩), .agg #[.int .i64 x.op, .int .i64 x.a, .int .i64 x.b, .int .i64 x.c, .int .i64 x.at', .string x.s, .bool x.n, .int .u64 x.h, .int .u64 x.l, x.L]] w (CntPost C loc (pIns x) w) := by
  have HH := Lib.hid H
  have hxa := hx.a
  have hxb := hx.b
  clear H hx
  have HC := Lib.hid (cnt_34 (C := C) (loc := loc) (x := x) hop)
  obtain ⟨op, a, b, c, at', s, n, h, l, Lv, ls⟩ := x
  dsimp only at *
  subst hop
  go_enter Try.func14, Try.ntmps14
  repeat' (first | (with_reducible refine then_exit ?_) | (with_reducible refine then_ret ?_) | (with_reducible refine then_normal ?_) | (with_reducible refine inBlock_hit ?_) | ((with_reducible refine inBlock_miss ?_ ?_); (exact rfl)) | (with_reducible refine inBlock_ret ?_) | (with_reducible refine inBlock_normal ?_) | go_values | go_skip | go_guarded | go_step | go_upon | go_in | go_back | (simp only [Int.not_lt, Int.not_le] at *; go_simp) | (go_values <;> (try go_simp)) | (go_ite <;> go_prune <;> (try go_simp)) | (split <;> (first | (rename_i hx; exact (hx _ rfl).elim) | go_prune)))
  (try simp only [Exit.inBlock, Exit.then]); refine bodyPost_ret (by simp [results, Try.results14, go_sem, *]; try rfl) rfl ?_
  exact cnt_yes HC.out (by (repeat' (first | (with_reducible exact Below.refl _ _) | (refine Below.trans ?_ (Below.mono (by with_reducible assumption) ?_)) | (with_reducible exact Below.refl _ _) | (with_reducible refine below_drewN ?_ _) | (with_reducible refine Below.drew ?_) | (with_reducible refine Below.setCell ?_ ?_ _) | (with_reducible refine Below.alloc ?_ ?_ _) | (with_reducible assumption) | (simp; done) | (simp; omega) | omega)))
set_option maxRecDepth 100000 in
set_option maxHeartbeats 1600000 in
theorem counts_3 {w : World} {B g : Nat} {C : CodeV} {G L P J : Value} {row : Value × List InsV} {loc : Value × List VarV} (H : Gs w B g C G L P J row loc) (x : InsV) (hx : x.ok w B) (hop : x.op = 3) :
    Calls Try.prog 14 #[.pointer (some ⟨g, 0, none⟩), .agg #[.int .i64 x.op, .int .i64 x.a, .int .i64 x.b, .int .i64 x.c, .int .i64 x.at', .string x.s, .bool x.n, .int .u64 x.h, .int .u64 x.l, x.L]] w (CntPost C loc (pIns x) w) := by
  have HH := Lib.hid H
  have hxa := hx.a
  have hxb := hx.b
  clear H hx
  have HC := Lib.hid (cnt_3 (C := C) (loc := loc) (x := x) hop)
  obtain ⟨op, a, b, c, at', s, n, h, l, Lv, ls⟩ := x
  dsimp only at *
  subst hop
  go_enter Try.func14, Try.ntmps14
  repeat' (first | (with_reducible refine then_exit ?_) | (with_reducible refine then_ret ?_) | (with_reducible refine then_normal ?_) | (with_reducible refine inBlock_hit ?_) | ((with_reducible refine inBlock_miss ?_ ?_); (exact rfl)) | (with_reducible refine inBlock_ret ?_) | (with_reducible refine inBlock_normal ?_) | go_values | go_skip | go_guarded | go_step | go_upon | go_in | go_back | (simp only [Int.not_lt, Int.not_le] at *; go_simp) | (go_values <;> (try go_simp)) | (go_ite <;> go_prune <;> (try go_simp)) | (split <;> (first | (rename_i hx; exact (hx _ rfl).elim) | go_prune)))
  (try simp only [Exit.inBlock, Exit.then]); refine bodyPost_ret (by simp [results, Try.results14, go_sem, *]; try rfl) rfl ?_
  exact cnt_yes HC.out (by (repeat' (first | (with_reducible exact Below.refl _ _) | (refine Below.trans ?_ (Below.mono (by with_reducible assumption) ?_)) | (with_reducible exact Below.refl _ _) | (with_reducible refine below_drewN ?_ _) | (with_reducible refine Below.drew ?_) | (with_reducible refine Below.setCell ?_ ?_ _) | (with_reducible refine Below.alloc ?_ ?_ _) | (with_reducible assumption) | (simp; done) | (simp; omega) | omega)))
set_option maxRecDepth 100000 in
set_option maxHeartbeats 1600000 in
theorem counts_25 {w : World} {B g : Nat} {C : CodeV} {G L P J : Value} {row : Value × List InsV} {loc : Value × List VarV} (H : Gs w B g C G L P J row loc) (x : InsV) (hx : x.ok w B) (hop : x.op = 25) :
    Calls Try.prog 14 #[.pointer (some ⟨g, 0, none⟩), .agg #[.int .i64 x.op, .int .i64 x.a, .int .i64 x.b, .int .i64 x.c, .int .i64 x.at', .string x.s, .bool x.n, .int .u64 x.h, .int .u64 x.l, x.L]] w (CntPost C loc (pIns x) w) := by
  have HH := Lib.hid H
  have hxa := hx.a
  have hxb := hx.b
  clear H hx
  have HC := Lib.hid (cnt_25 (C := C) (loc := loc) (x := x) hop)
  obtain ⟨op, a, b, c, at', s, n, h, l, Lv, ls⟩ := x
  dsimp only at *
  subst hop
  go_enter Try.func14, Try.ntmps14
  repeat' (first | (with_reducible refine then_exit ?_) | (with_reducible refine then_ret ?_) | (with_reducible refine then_normal ?_) | (with_reducible refine inBlock_hit ?_) | ((with_reducible refine inBlock_miss ?_ ?_); (exact rfl)) | (with_reducible refine inBlock_ret ?_) | (with_reducible refine inBlock_normal ?_) | go_values | go_skip | go_guarded | go_step | go_upon | go_in | go_back | (simp only [Int.not_lt, Int.not_le] at *; go_simp) | (go_values <;> (try go_simp)) | (go_ite <;> go_prune <;> (try go_simp)) | (split <;> (first | (rename_i hx; exact (hx _ rfl).elim) | go_prune)))
  (try simp only [Exit.inBlock, Exit.then]); refine bodyPost_ret (by simp [results, Try.results14, go_sem, *]; try rfl) rfl ?_
  exact cnt_yes HC.out (by (repeat' (first | (with_reducible exact Below.refl _ _) | (refine Below.trans ?_ (Below.mono (by with_reducible assumption) ?_)) | (with_reducible exact Below.refl _ _) | (with_reducible refine below_drewN ?_ _) | (with_reducible refine Below.drew ?_) | (with_reducible refine Below.setCell ?_ ?_ _) | (with_reducible refine Below.alloc ?_ ?_ _) | (with_reducible assumption) | (simp; done) | (simp; omega) | omega)))
set_option maxRecDepth 100000 in
set_option maxHeartbeats 1600000 in
theorem counts_27 {w : World} {B g : Nat} {C : CodeV} {G L P J : Value} {row : Value × List InsV} {loc : Value × List VarV} (H : Gs w B g C G L P J row loc) (x : InsV) (hx : x.ok w B) (hop : x.op = 27) :
    Calls Try.prog 14 #[.pointer (some ⟨g, 0, none⟩), .agg #[.int .i64 x.op, .int .i64 x.a, .int .i64 x.b, .int .i64 x.c, .int .i64 x.at', .string x.s, .bool x.n, .int .u64 x.h, .int .u64 x.l, x.L]] w (CntPost C loc (pIns x) w) := by
  have HH := Lib.hid H
  have hxa := hx.a
  have hxb := hx.b
  clear H hx
  have HC := Lib.hid (cnt_27 (C := C) (loc := loc) (x := x) hop)
  obtain ⟨op, a, b, c, at', s, n, h, l, Lv, ls⟩ := x
  dsimp only at *
  subst hop
  go_enter Try.func14, Try.ntmps14
  repeat' (first | (with_reducible refine then_exit ?_) | (with_reducible refine then_ret ?_) | (with_reducible refine then_normal ?_) | (with_reducible refine inBlock_hit ?_) | ((with_reducible refine inBlock_miss ?_ ?_); (exact rfl)) | (with_reducible refine inBlock_ret ?_) | (with_reducible refine inBlock_normal ?_) | go_values | go_skip | go_guarded | go_step | go_upon | go_in | go_back | (simp only [Int.not_lt, Int.not_le] at *; go_simp) | (go_values <;> (try go_simp)) | (go_ite <;> go_prune <;> (try go_simp)) | (split <;> (first | (rename_i hx; exact (hx _ rfl).elim) | go_prune)))
  (try simp only [Exit.inBlock, Exit.then]); refine bodyPost_ret (by simp [results, Try.results14, go_sem, *]; try rfl) rfl ?_
  exact cnt_yes HC.out (by (repeat' (first | (with_reducible exact Below.refl _ _) | (refine Below.trans ?_ (Below.mono (by with_reducible assumption) ?_)) | (with_reducible exact Below.refl _ _) | (with_reducible refine below_drewN ?_ _) | (with_reducible refine Below.drew ?_) | (with_reducible refine Below.setCell ?_ ?_ _) | (with_reducible refine Below.alloc ?_ ?_ _) | (with_reducible assumption) | (simp; done) | (simp; omega) | omega)))
end Go.Proofs.Ytanbplnagcmlcaa
