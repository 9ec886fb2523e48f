/- Several texts put together: CodKd, CodL, CodM. -/
import Derived.Test.YtanbplnagcmlcaaBu6
import Derived.Test.YtanbplnagcmlcaaBu7
/- Layer 15: what an instruction takes and puts, walked (d). -/
namespace Go.Proofs.Ytanbplnagcmlcaa
open Go.RowKit
theorem contains_lit2 (l : List (List UInt8)) (x : ByteArray) (w : World) (t : TypeId) (hl : l.length ≤ 100) (n c : Nat) (hn : n = l.length) (b : Bool) (hb : b = decide (x.toList ∈ l)) (arr : Array Value) (ha : arr = ((lits l).map Value.string).toArray) {g : Nat} (hg : g = w.heap.size) :
    Calls Try.prog 18 #[.slice (some ⟨g, 0, none⟩) n c, .string x] (w.alloc (.cells arr t)) fun e w' => e = .returned (.bool b) ∧ w' = w.alloc (.cells arr t) := by
  subst hg
  exact contains_lit l x w t hl n c hn b hb arr ha
set_option maxRecDepth 100000 in
set_option maxHeartbeats 1600000 in
theorem counts_18 {w : World} {B g : Nat} {C : CodeV} {G L P J : Value} {row : Value × List InsV} {loc : Value × List VarV} (H : Gs w B g C G L P J row loc) (x : InsV) (hx : x.ok w B) (hop : x.op = 18) :
    Calls Try.prog 14 #[.pointer (some ⟨g, 0, none⟩), .agg #[.int .i64 x.op, .int .i64 x.a, .int .i64 x.b, .int .i64 x.c, .int .i64 x.at', .string x.s, .bool x.n, .int .u64 x.h, .int .u64 x.l, x.L]] w (CntPost C loc (pIns x) w) := by
  have HH := Lib.hid H
  have hxa := hx.a
  have hxb := hx.b
  clear H hx
  have HC := Lib.hid (cnt_18 (C := C) (loc := loc) (x := x) hop)
  obtain ⟨op, a, b, c, at', s, n, h, l, Lv, ls⟩ := x
  dsimp only at *
  subst hop
  have HB := Lib.hid (compB_mem s.toList)
  generalize compB s.toList = qq at HB HC
  go_enter Try.func14, Try.ntmps14
  repeat' (first | (with_reducible refine then_exit ?_) | (with_reducible refine then_ret ?_) | (with_reducible refine then_normal ?_) | (with_reducible refine inBlock_hit ?_) | ((with_reducible refine inBlock_miss ?_ ?_); (exact rfl)) | (with_reducible refine inBlock_ret ?_) | (with_reducible refine inBlock_normal ?_) | (go_big_may; (go_at_call 18; (with_reducible refine (contains_lit2 [[60], [60, 61], [61, 61], [33, 61], [62], [62, 61]] s _ _ (by decide) 6 6 rfl qq HB.out _ (by simp [lits]) (by simp)).mono ?_); rintro e w2 ⟨rfl, rfl⟩)) | go_values | go_skip | go_guarded | go_step | go_upon | go_back | (simp only [Int.not_lt, Int.not_le] at *; go_simp) | (go_values <;> (try go_simp)) | (go_ite <;> go_prune <;> (try go_simp)) | (split <;> (first | (rename_i hx; exact (hx _ rfl).elim) | go_prune)))
  (try simp only [Exit.inBlock, Exit.then]); refine bodyPost_ret (by simp [results, Try.results14, go_sem, *]; try rfl) rfl ?_
  exact cnt_of HC.out rfl (by (repeat' (first | (with_reducible exact Below.refl _ _) | (refine Below.trans ?_ (Below.mono (by with_reducible assumption) ?_)) | (with_reducible exact Below.refl _ _) | (with_reducible refine below_drewN ?_ _) | (with_reducible refine Below.drew ?_) | (with_reducible refine Below.setCell ?_ ?_ _) | (with_reducible refine Below.alloc ?_ ?_ _) | (with_reducible assumption) | (simp; done) | (simp; omega) | omega)))
set_option maxRecDepth 100000 in
set_option maxHeartbeats 1600000 in
theorem counts_19 {w : World} {B g : Nat} {C : CodeV} {G L P J : Value} {row : Value × List InsV} {loc : Value × List VarV} (H : Gs w B g C G L P J row loc) (x : InsV) (hx : x.ok w B) (hop : x.op = 19) :
    Calls Try.prog 14 #[.pointer (some ⟨g, 0, none⟩), .agg #[.int .i64 x.op, .int .i64 x.a, .int .i64 x.b, .int .i64 x.c, .int .i64 x.at', .string x.s, .bool x.n, .int .u64 x.h, .int .u64 x.l, x.L]] w (CntPost C loc (pIns x) w) := by
  have HH := Lib.hid H
  have hxa := hx.a
  have hxb := hx.b
  clear H hx
  have HC := Lib.hid (cnt_19 (C := C) (loc := loc) (x := x) hop)
  obtain ⟨op, a, b, c, at', s, n, h, l, Lv, ls⟩ := x
  dsimp only at *
  subst hop
  go_enter Try.func14, Try.ntmps14
  repeat' (first | (with_reducible refine then_exit ?_) | (with_reducible refine then_ret ?_) | (with_reducible refine then_normal ?_) | (with_reducible refine inBlock_hit ?_) | ((with_reducible refine inBlock_miss ?_ ?_); (exact rfl)) | (with_reducible refine inBlock_ret ?_) | (with_reducible refine inBlock_normal ?_) | go_values | go_skip | go_guarded | go_step | go_upon | go_in | go_back | (simp only [Int.not_lt, Int.not_le] at *; go_simp) | (go_values <;> (try go_simp)) | (go_ite <;> go_prune <;> (try go_simp)) | (split <;> (first | (rename_i hx; exact (hx _ rfl).elim) | go_prune)))
  by_cases s0 : s.toList = [126]
  · go_quiet (fail)
    repeat' (first | (with_reducible refine then_exit ?_) | (with_reducible refine then_ret ?_) | (with_reducible refine then_normal ?_) | (with_reducible refine inBlock_hit ?_) | ((with_reducible refine inBlock_miss ?_ ?_); (exact rfl)) | (with_reducible refine inBlock_ret ?_) | (with_reducible refine inBlock_normal ?_) | go_values | go_skip | go_guarded | go_step | go_upon | go_in | go_back | (simp only [Int.not_lt, Int.not_le] at *; go_simp) | (go_values <;> (try go_simp)) | (go_ite <;> go_prune <;> (try go_simp)) | (split <;> (first | (rename_i hx; exact (hx _ rfl).elim) | go_prune)))
    (try simp only [Exit.inBlock, Exit.then]); refine bodyPost_ret (by simp [results, Try.results14, go_sem, *]; try rfl) rfl ?_
    exact cnt_of HC.out (by simp [s0]) (by (repeat' (first | (with_reducible exact Below.refl _ _) | (refine Below.trans ?_ (Below.mono (by with_reducible assumption) ?_)) | (with_reducible exact Below.refl _ _) | (with_reducible refine below_drewN ?_ _) | (with_reducible refine Below.drew ?_) | (with_reducible refine Below.setCell ?_ ?_ _) | (with_reducible refine Below.alloc ?_ ?_ _) | (with_reducible assumption) | (simp; done) | (simp; omega) | omega)))
  have s0b : (s.toList == [126]) = false := by simpa using s0
  by_cases s1 : s.toList = [33, 126]
  · go_quiet (fail)
    repeat' (first | (with_reducible refine then_exit ?_) | (with_reducible refine then_ret ?_) | (with_reducible refine then_normal ?_) | (with_reducible refine inBlock_hit ?_) | ((with_reducible refine inBlock_miss ?_ ?_); (exact rfl)) | (with_reducible refine inBlock_ret ?_) | (with_reducible refine inBlock_normal ?_) | go_values | go_skip | go_guarded | go_step | go_upon | go_in | go_back | (simp only [Int.not_lt, Int.not_le] at *; go_simp) | (go_values <;> (try go_simp)) | (go_ite <;> go_prune <;> (try go_simp)) | (split <;> (first | (rename_i hx; exact (hx _ rfl).elim) | go_prune)))
    (try simp only [Exit.inBlock, Exit.then]); refine bodyPost_ret (by simp [results, Try.results14, go_sem, *]; try rfl) rfl ?_
    exact cnt_of HC.out (by simp [s1]) (by (repeat' (first | (with_reducible exact Below.refl _ _) | (refine Below.trans ?_ (Below.mono (by with_reducible assumption) ?_)) | (with_reducible exact Below.refl _ _) | (with_reducible refine below_drewN ?_ _) | (with_reducible refine Below.drew ?_) | (with_reducible refine Below.setCell ?_ ?_ _) | (with_reducible refine Below.alloc ?_ ?_ _) | (with_reducible assumption) | (simp; done) | (simp; omega) | omega)))
  have s1b : (s.toList == [33, 126]) = false := by simpa using s1
  go_quiet (fail)
  repeat' (first | (with_reducible refine then_exit ?_) | (with_reducible refine then_ret ?_) | (with_reducible refine then_normal ?_) | (with_reducible refine inBlock_hit ?_) | ((with_reducible refine inBlock_miss ?_ ?_); (exact rfl)) | (with_reducible refine inBlock_ret ?_) | (with_reducible refine inBlock_normal ?_) | go_values | go_skip | go_guarded | go_step | go_upon | go_in | go_back | (simp only [Int.not_lt, Int.not_le] at *; go_simp) | (go_values <;> (try go_simp)) | (go_ite <;> go_prune <;> (try go_simp)) | (split <;> (first | (rename_i hx; exact (hx _ rfl).elim) | go_prune)))
  (try simp only [Exit.inBlock, Exit.then]); refine bodyPost_ret (by simp [results, Try.results14, go_sem, *]; try rfl) rfl ?_
  exact cnt_no HC.out (by simp [s0, s1]) rfl (by (repeat' (first | (with_reducible exact Below.refl _ _) | (refine Below.trans ?_ (Below.mono (by with_reducible assumption) ?_)) | (with_reducible exact Below.refl _ _) | (with_reducible refine below_drewN ?_ _) | (with_reducible refine Below.drew ?_) | (with_reducible refine Below.setCell ?_ ?_ _) | (with_reducible refine Below.alloc ?_ ?_ _) | (with_reducible assumption) | (simp; done) | (simp; omega) | omega)))
set_option maxRecDepth 100000 in
set_option maxHeartbeats 1600000 in
theorem counts_16 {w : World} {B g : Nat} {C : CodeV} {G L P J : Value} {row : Value × List InsV} {loc : Value × List VarV} (H : Gs w B g C G L P J row loc) (x : InsV) (hx : x.ok w B) (hop : x.op = 16) :
    Calls Try.prog 14 #[.pointer (some ⟨g, 0, none⟩), .agg #[.int .i64 x.op, .int .i64 x.a, .int .i64 x.b, .int .i64 x.c, .int .i64 x.at', .string x.s, .bool x.n, .int .u64 x.h, .int .u64 x.l, x.L]] w (CntPost C loc (pIns x) w) := by
  have HH := Lib.hid H
  have hxa := hx.a
  have hxb := hx.b
  clear H hx
  have HC := Lib.hid (cnt_16 (C := C) (loc := loc) (x := x) hop)
  obtain ⟨op, a, b, c, at', s, n, h, l, Lv, ls⟩ := x
  dsimp only at *
  subst hop
  go_enter Try.func14, Try.ntmps14
  repeat' (first | (with_reducible refine then_exit ?_) | (with_reducible refine then_ret ?_) | (with_reducible refine then_normal ?_) | (with_reducible refine inBlock_hit ?_) | ((with_reducible refine inBlock_miss ?_ ?_); (exact rfl)) | (with_reducible refine inBlock_ret ?_) | (with_reducible refine inBlock_normal ?_) | go_values | go_skip | go_guarded | go_step | go_upon | go_in | go_back | (simp only [Int.not_lt, Int.not_le] at *; go_simp) | (go_values <;> (try go_simp)) | (go_ite <;> go_prune <;> (try go_simp)) | (split <;> (first | (rename_i hx; exact (hx _ rfl).elim) | go_prune)))
  by_cases s0 : s.toList = [43]
  · go_quiet (fail)
    repeat' (first | (with_reducible refine then_exit ?_) | (with_reducible refine then_ret ?_) | (with_reducible refine then_normal ?_) | (with_reducible refine inBlock_hit ?_) | ((with_reducible refine inBlock_miss ?_ ?_); (exact rfl)) | (with_reducible refine inBlock_ret ?_) | (with_reducible refine inBlock_normal ?_) | go_values | go_skip | go_guarded | go_step | go_upon | go_in | go_back | (simp only [Int.not_lt, Int.not_le] at *; go_simp) | (go_values <;> (try go_simp)) | (go_ite <;> go_prune <;> (try go_simp)) | (split <;> (first | (rename_i hx; exact (hx _ rfl).elim) | go_prune)))
    (try simp only [Exit.inBlock, Exit.then]); refine bodyPost_ret (by simp [results, Try.results14, go_sem, *]; try rfl) rfl ?_
    exact cnt_of HC.out (by simp [s0]) (by (repeat' (first | (with_reducible exact Below.refl _ _) | (refine Below.trans ?_ (Below.mono (by with_reducible assumption) ?_)) | (with_reducible exact Below.refl _ _) | (with_reducible refine below_drewN ?_ _) | (with_reducible refine Below.drew ?_) | (with_reducible refine Below.setCell ?_ ?_ _) | (with_reducible refine Below.alloc ?_ ?_ _) | (with_reducible assumption) | (simp; done) | (simp; omega) | omega)))
  have s0b : (s.toList == [43]) = false := by simpa using s0
  by_cases s1 : s.toList = [45]
  · go_quiet (fail)
    repeat' (first | (with_reducible refine then_exit ?_) | (with_reducible refine then_ret ?_) | (with_reducible refine then_normal ?_) | (with_reducible refine inBlock_hit ?_) | ((with_reducible refine inBlock_miss ?_ ?_); (exact rfl)) | (with_reducible refine inBlock_ret ?_) | (with_reducible refine inBlock_normal ?_) | go_values | go_skip | go_guarded | go_step | go_upon | go_in | go_back | (simp only [Int.not_lt, Int.not_le] at *; go_simp) | (go_values <;> (try go_simp)) | (go_ite <;> go_prune <;> (try go_simp)) | (split <;> (first | (rename_i hx; exact (hx _ rfl).elim) | go_prune)))
    (try simp only [Exit.inBlock, Exit.then]); refine bodyPost_ret (by simp [results, Try.results14, go_sem, *]; try rfl) rfl ?_
    exact cnt_of HC.out (by simp [s1]) (by (repeat' (first | (with_reducible exact Below.refl _ _) | (refine Below.trans ?_ (Below.mono (by with_reducible assumption) ?_)) | (with_reducible exact Below.refl _ _) | (with_reducible refine below_drewN ?_ _) | (with_reducible refine Below.drew ?_) | (with_reducible refine Below.setCell ?_ ?_ _) | (with_reducible refine Below.alloc ?_ ?_ _) | (with_reducible assumption) | (simp; done) | (simp; omega) | omega)))
  have s1b : (s.toList == [45]) = false := by simpa using s1
  by_cases s2 : s.toList = [33]
  · go_quiet (fail)
    repeat' (first | (with_reducible refine then_exit ?_) | (with_reducible refine then_ret ?_) | (with_reducible refine then_normal ?_) | (with_reducible refine inBlock_hit ?_) | ((with_reducible refine inBlock_miss ?_ ?_); (exact rfl)) | (with_reducible refine inBlock_ret ?_) | (with_reducible refine inBlock_normal ?_) | go_values | go_skip | go_guarded | go_step | go_upon | go_in | go_back | (simp only [Int.not_lt, Int.not_le] at *; go_simp) | (go_values <;> (try go_simp)) | (go_ite <;> go_prune <;> (try go_simp)) | (split <;> (first | (rename_i hx; exact (hx _ rfl).elim) | go_prune)))
    (try simp only [Exit.inBlock, Exit.then]); refine bodyPost_ret (by simp [results, Try.results14, go_sem, *]; try rfl) rfl ?_
    exact cnt_of HC.out (by simp [s2]) (by (repeat' (first | (with_reducible exact Below.refl _ _) | (refine Below.trans ?_ (Below.mono (by with_reducible assumption) ?_)) | (with_reducible exact Below.refl _ _) | (with_reducible refine below_drewN ?_ _) | (with_reducible refine Below.drew ?_) | (with_reducible refine Below.setCell ?_ ?_ _) | (with_reducible refine Below.alloc ?_ ?_ _) | (with_reducible assumption) | (simp; done) | (simp; omega) | omega)))
  have s2b : (s.toList == [33]) = false := by simpa using s2
  go_quiet (fail)
  repeat' (first | (with_reducible refine then_exit ?_) | (with_reducible refine then_ret ?_) | (with_reducible refine then_normal ?_) | (with_reducible refine inBlock_hit ?_) | ((with_reducible refine inBlock_miss ?_ ?_); (exact rfl)) | (with_reducible refine inBlock_ret ?_) | (with_reducible refine inBlock_normal ?_) | go_values | go_skip | go_guarded | go_step | go_upon | go_in | go_back | (simp only [Int.not_lt, Int.not_le] at *; go_simp) | (go_values <;> (try go_simp)) | (go_ite <;> go_prune <;> (try go_simp)) | (split <;> (first | (rename_i hx; exact (hx _ rfl).elim) | go_prune)))
  (try simp only [Exit.inBlock, Exit.then]); refine bodyPost_ret (by simp [results, Try.results14, go_sem, *]; try rfl) rfl ?_
  exact cnt_no HC.out (by simp [s0, s1, s2]) rfl (by (repeat' (first | (with_reducible exact Below.refl _ _) | (refine Below.trans ?_ (Below.mono (by with_reducible assumption) ?_)) | (with_reducible exact Below.refl _ _) | (with_reducible refine below_drewN ?_ _) | (with_reducible refine Below.drew ?_) | (with_reducible refine Below.setCell ?_ ?_ _) | (with_reducible refine Below.alloc ?_ ?_ _) | (with_reducible assumption) | (simp; done) | (simp; omega) | omega)))
end Go.Proofs.Ytanbplnagcmlcaa

/- Layer 15: what any instruction takes and puts. -/
namespace Go.Proofs.Ytanbplnagcmlcaa
open Go.RowKit
set_option maxRecDepth 100000 in
set_option maxHeartbeats 1600000 in
theorem counts_any {w : World} {B g : Nat} {C : CodeV} {G L P J : Value} {row : Value × List InsV} {loc : Value × List VarV} (H : Gs w B g C G L P J row loc) (x : InsV) (hx : x.ok w B) :
    Calls Try.prog 14 #[.pointer (some ⟨g, 0, none⟩), .agg #[.int .i64 x.op, .int .i64 x.a, .int .i64 x.b, .int .i64 x.c, .int .i64 x.at', .string x.s, .bool x.n, .int .u64 x.h, .int .u64 x.l, x.L]] w (CntPost C loc (pIns x) w) := by
  by_cases o0 : x.op = 0
  · exact counts_0 H x hx o0
  by_cases o35 : x.op = 35
  · exact counts_35 H x hx o35
  by_cases o21 : x.op = 21
  · exact counts_21 H x hx o21
  by_cases o26 : x.op = 26
  · exact counts_26 H x hx o26
  by_cases o1 : x.op = 1
  · exact counts_1 H x hx o1
  by_cases o2 : x.op = 2
  · exact counts_2 H x hx o2
  by_cases o34 : x.op = 34
  · exact counts_34 H x hx o34
  by_cases o3 : x.op = 3
  · exact counts_3 H x hx o3
  by_cases o25 : x.op = 25
  · exact counts_25 H x hx o25
  by_cases o27 : x.op = 27
  · exact counts_27 H x hx o27
  by_cases o23 : x.op = 23
  · exact counts_23 H x hx o23
  by_cases o22 : x.op = 22
  · exact counts_22 H x hx o22
  by_cases o4 : x.op = 4
  · exact counts_4 H x hx o4
  by_cases o5 : x.op = 5
  · exact counts_5 H x hx o5
  by_cases o6 : x.op = 6
  · exact counts_6 H x hx o6
  by_cases o7 : x.op = 7
  · exact counts_7 H x hx o7
  by_cases o9 : x.op = 9
  · exact counts_9 H x hx o9
  by_cases o10 : x.op = 10
  · exact counts_10 H x hx o10
  by_cases o8 : x.op = 8
  · exact counts_8 H x hx o8
  by_cases o11 : x.op = 11
  · exact counts_11 H x hx o11
  by_cases o33 : x.op = 33
  · exact counts_33 H x hx o33
  by_cases o12 : x.op = 12
  · exact counts_12 H x hx o12
  by_cases o20 : x.op = 20
  · exact counts_20 H x hx o20
  by_cases o13 : x.op = 13
  · exact counts_13 H x hx o13
  by_cases o17 : x.op = 17
  · exact counts_17 H x hx o17
  by_cases o14 : x.op = 14
  · exact counts_14 H x hx o14
  by_cases o15 : x.op = 15
  · exact counts_15 H x hx o15
  by_cases o18 : x.op = 18
  · exact counts_18 H x hx o18
  by_cases o19 : x.op = 19
  · exact counts_19 H x hx o19
  by_cases o16 : x.op = 16
  · exact counts_16 H x hx o16
  have hno : x.op ∉ countsOps := by simp [countsOps, *]
  have e0 : (x.op == 0) = false := by simpa using o0
  have e35 : (x.op == 35) = false := by simpa using o35
  have e21 : (x.op == 21) = false := by simpa using o21
  have e26 : (x.op == 26) = false := by simpa using o26
  have e1 : (x.op == 1) = false := by simpa using o1
  have e2 : (x.op == 2) = false := by simpa using o2
  have e34 : (x.op == 34) = false := by simpa using o34
  have e3 : (x.op == 3) = false := by simpa using o3
  have e25 : (x.op == 25) = false := by simpa using o25
  have e27 : (x.op == 27) = false := by simpa using o27
  have e23 : (x.op == 23) = false := by simpa using o23
  have e22 : (x.op == 22) = false := by simpa using o22
  have e4 : (x.op == 4) = false := by simpa using o4
  have e5 : (x.op == 5) = false := by simpa using o5
  have e6 : (x.op == 6) = false := by simpa using o6
  have e7 : (x.op == 7) = false := by simpa using o7
  have e9 : (x.op == 9) = false := by simpa using o9
  have e10 : (x.op == 10) = false := by simpa using o10
  have e8 : (x.op == 8) = false := by simpa using o8
  have e11 : (x.op == 11) = false := by simpa using o11
  have e33 : (x.op == 33) = false := by simpa using o33
  have e12 : (x.op == 12) = false := by simpa using o12
  have e20 : (x.op == 20) = false := by simpa using o20
  have e13 : (x.op == 13) = false := by simpa using o13
  have e17 : (x.op == 17) = false := by simpa using o17
  have e14 : (x.op == 14) = false := by simpa using o14
  have e15 : (x.op == 15) = false := by simpa using o15
  have e18 : (x.op == 18) = false := by simpa using o18
  have e19 : (x.op == 19) = false := by simpa using o19
  have e16 : (x.op == 16) = false := by simpa using o16
  clear o0 o35 o21 o26 o1 o2 o34 o3 o25 o27 o23 o22 o4 o5 o6 o7 o9 o10 o8 o11 o33 o12 o20 o13 o17 o14 o15 o18 o19 o16
  have HH := Lib.hid H
  have HX := Lib.hid hx
  have HN := Lib.hid hno
  have hB := H.hB
  clear H hx hno
  obtain ⟨op, a, b, c, at', s, n, h, l, Lv, ls⟩ := x
  dsimp only at *
  go_enter Try.func14, Try.ntmps14
  repeat' (first | (with_reducible refine then_exit ?_) | (with_reducible refine then_ret ?_) | (with_reducible refine then_normal ?_) | (with_reducible refine inBlock_hit ?_) | ((with_reducible refine inBlock_miss ?_ ?_); (exact rfl)) | (with_reducible refine inBlock_ret ?_) | (with_reducible refine inBlock_normal ?_) | (go_big_may; (go_at_call 19; (with_reducible refine (more_any (HH.out.below (by repeat' (first | (with_reducible exact Below.refl _ _) | (with_reducible assumption) | (with_reducible refine Below.drew ?_) | (with_reducible refine below_drewN ?_ _) | (with_reducible refine Below.alloc ?_ ?_ _) | (with_reducible exact Nat.le_refl _) | (simp; done) | (simp; omega)))) ⟨op, a, b, c, at', s, n, h, l, Lv, ls⟩ (HX.out.below (Below.mono (by repeat' (first | (with_reducible exact Below.refl _ _) | (with_reducible assumption) | (with_reducible refine Below.drew ?_) | (with_reducible refine below_drewN ?_ _) | (with_reducible refine Below.alloc ?_ ?_ _) | (with_reducible exact Nat.le_refl _) | (simp; done) | (simp; omega))) hB)) HN.out).mono ?_); rintro e w1 ⟨⟨t, p, ok, rfl, hcnt⟩, b1⟩; have HC := Lib.hid hcnt; clear hcnt; have z1 := b1.size; (try simp at z1))) | go_values | go_skip | go_guarded | go_step | go_upon | go_back | (simp only [Int.not_lt, Int.not_le] at *; go_simp) | (go_values <;> (try go_simp)) | (go_ite <;> go_prune <;> (try go_simp)) | (split <;> (first | (rename_i hx; exact (hx _ rfl).elim) | go_prune)))
  (try simp only [Exit.inBlock, Exit.then]); refine bodyPost_ret (by simp [results, Try.results14, go_sem, *]; try rfl) rfl ?_
  exact ⟨⟨_, _, _, rfl, HC.out⟩, by (repeat' (first | (with_reducible exact Below.refl _ _) | (refine Below.trans ?_ (Below.mono (by with_reducible assumption) ?_)) | (with_reducible exact Below.refl _ _) | (with_reducible refine below_drewN ?_ _) | (with_reducible refine Below.drew ?_) | (with_reducible refine Below.setCell ?_ ?_ _) | (with_reducible refine Below.alloc ?_ ?_ _) | (with_reducible assumption) | (simp; done) | (simp; omega) | omega))⟩
end Go.Proofs.Ytanbplnagcmlcaa

/- Layer 15: where an instruction goes on. -/
namespace Go.Proofs.Ytanbplnagcmlcaa
open Go.RowKit
theorem ins_at {w : World} {B j n : Nat} {A : Option Addr} {l : List InsV} (hl : l.length = n) (h : Reads w B 10 A n (l.flatMap insC)) (hj : j < n) :
    ∃ ad q x, A = some ad ∧ ad.add (j * 10) = q ∧ q.block < B ∧ l[j]? = some x ∧ ∀ i v, (insC x)[i]? = some v → w.cell? (q.add i) = some v := by
  obtain ⟨ad, e, hb, hc⟩ := reads_at h hj
  refine ⟨ad, _, l[j], e, rfl, by rw [block_of_add]; exact hb, List.getElem?_eq_getElem (by omega), fun i v hi => ?_⟩
  have hi10 : i < 10 := by
    have := (List.getElem?_eq_some_iff.1 hi).1
    simpa [insC] using this
  obtain ⟨u, h0, c0⟩ := hc i hi10
  rw [flat_at insC 10 (fun _ => rfl) l j _ (by omega) (by omega), hi] at h0
  injection h0 with h0
  subst h0
  rw [add_of_add]
  exact c0
theorem counts_no {w : World} {B g : Nat} {C : CodeV} {G L P J : Value} {row : Value × List InsV} {loc : Value × List VarV} (H : Gs w B g C G L P J row loc) (x : InsV) (hx : x.ok w B) (hc : countsOf (pNms C) (mineV loc) (pIns x) = none) :
    Calls Try.prog 14 #[.pointer (some ⟨g, 0, none⟩), .agg #[.int .i64 x.op, .int .i64 x.a, .int .i64 x.b, .int .i64 x.c, .int .i64 x.at', .string x.s, .bool x.n, .int .u64 x.h, .int .u64 x.l, x.L]] w fun e w' => (∃ t p : Int, e = .returned (.tuple #[.int .i64 t, .int .i64 p, .bool false])) ∧ Below w.heap.size w w' := by
  refine (counts_any H x hx).mono ?_
  rintro e w' ⟨⟨t, p, ok, rfl, h⟩, hb⟩
  refine ⟨⟨t, p, ?_⟩, hb⟩
  cases ok
  · rfl
  · rw [hc] at h; cases h
theorem counts_yes {w : World} {B g : Nat} {C : CodeV} {G L P J : Value} {row : Value × List InsV} {loc : Value × List VarV} (H : Gs w B g C G L P J row loc) (x : InsV) (hx : x.ok w B) {t p : Int} (hc : countsOf (pNms C) (mineV loc) (pIns x) = some (t, p)) :
    Calls Try.prog 14 #[.pointer (some ⟨g, 0, none⟩), .agg #[.int .i64 x.op, .int .i64 x.a, .int .i64 x.b, .int .i64 x.c, .int .i64 x.at', .string x.s, .bool x.n, .int .u64 x.h, .int .u64 x.l, x.L]] w fun e w' => e = .returned (.tuple #[.int .i64 t, .int .i64 p, .bool true]) ∧ Below w.heap.size w w' := by
  refine (counts_any H x hx).mono ?_
  rintro e w' ⟨⟨t', p', ok, rfl, h⟩, hb⟩
  rw [hc] at h
  cases ok
  · cases h
  · rw [if_pos rfl] at h
    injection h with h; injection h with h1 h2; subst h1 h2
    exact ⟨rfl, hb⟩
/-- Takes and puts are few. -/
theorem callOf_low (g : Nms) (mine : List Bool) : ∀ (l : List Int) (ps : List Bool) (n : Int), 0 ≤ n → 0 ≤ (callOf g mine l ps n).1
  | [], ps, n, h => by simpa [callOf] using h
  | _ :: _, [], n, h => by simp [callOf]
  | v :: l, p :: ps, n, h => by
    have h1 := callOf_low g mine l ps n h
    have h2 := callOf_low g mine l ps (n + 1) (by omega)
    rw [callOf]
    repeat' split
    all_goals first | assumption | simp
theorem built_low {s : List UInt8} {n : Int} (h : builtB s n = true) : 0 ≤ n := by
  unfold builtB at h
  repeat' split at h
  all_goals first | (have := of_decide_eq_true h; omega) | cases h
def Low (o : Option (Int × Int)) : Prop := ∀ t p, o = some (t, p) → 0 ≤ t ∧ 0 ≤ p ∧ p ≤ 2
theorem low_ite {c : Prop} [Decidable c] {a b : Option (Int × Int)} (ha : c → Low a) (hb : Low b) : Low (if c then a else b) := by
  by_cases h : c
  · rw [if_pos h]; exact ha h
  · rw [if_neg h]; exact hb
theorem low_none : Low none := fun _ _ h => by cases h
theorem low_some {t p : Int} (ht : 0 ≤ t) (hp : 0 ≤ p ∧ p ≤ 2) : Low (some (t, p)) := fun _ _ h => by
  injection h with h; injection h with h1 h2; subst h1 h2; exact ⟨ht, hp⟩
theorem counts_low {C : CodeV} {loc : Value × List VarV} {x : Ins} : Low (countsOf (pNms C) (mineV loc) x) := by
  have hp := pl_bound C loc x
  unfold plT at hp
  have hcl : 0 ≤ (callAt (pNms C) (mineV loc) x).1 := by
    unfold callAt
    split
    · simp
    · split
      · simp
      · exact callOf_low _ _ _ _ _ (by omega)
  unfold countsOf
  generalize placeOf (pNms C) (mineV loc) x = pl at *
  generalize callAt (pNms C) (mineV loc) x = cl at *
  dsimp only
  repeat' refine low_ite (fun hcond => ?_) ?_
  all_goals first
    | exact low_none
    | (refine low_some ?_ (by omega); first | omega | exact built_low hcond | (simp only [Bool.and_eq_true, decide_eq_true_eq] at hcond; omega))
def wayC (x : Int × Int × Int) : List Value := [.int .i64 x.1, .int .i64 x.2.1, .int .i64 x.2.2]
/-- A row of ways in a block of its own. -/
def WaySl (w : World) (A : Option Addr) (l : List (Int × Int × Int)) : Prop := (A = none ∧ l = []) ∨ ∃ b, A = some ⟨b, 0, none⟩ ∧ Blk w b 55 (l.flatMap wayC).toArray
theorem way_new {w : World} {arr : Array Value} {b : Nat} {l : List (Int × Int × Int)} (h : arr = (l.flatMap wayC).toArray) (hb : b = w.heap.size) : WaySl (w.alloc (.cells arr 55)) (some ⟨b, 0, none⟩) l := by
  subst h hb
  exact .inr ⟨_, rfl, Blk.new _ _ _⟩
def WaysPost (res : Option (List (Int × Int × Int))) (w : World) (e : Ending) (w' : World) : Prop :=
  (match res with
    | none => e = .returned (.tuple #[.slice none 0 0, .bool false])
    | some l => ∃ (A : Option Addr), e = .returned (.tuple #[.slice A l.length l.length, .bool true]) ∧ WaySl w' A l) ∧ Below w.heap.size w w'
end Go.Proofs.Ytanbplnagcmlcaa
