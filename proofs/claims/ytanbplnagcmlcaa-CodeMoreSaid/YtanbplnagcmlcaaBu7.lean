/- Several texts put together: CodKb, CodKc. -/
import Derived.Test.YtanbplnagcmlcaaBu6
/- Layer 15: what an instruction takes and puts, walked (b). -/
namespace Go.Proofs.Ytanbplnagcmlcaa
open Go.RowKit
set_option maxRecDepth 100000 in
set_option maxHeartbeats 1600000 in
theorem counts_23 {w : World} {B g : Nat} {C : CodeV} {G L P J : Value} {row : Value × List InsV} {loc : Value × List VarV} (H : Gs w B g C G L P J row loc) (x : InsV) (hx : x.ok w B) (hop : x.op = 23) :
    Calls Try.prog 14 #[.pointer (some ⟨g, 0, none⟩), .agg #[.int .i64 x.op, .int .i64 x.a, .int .i64 x.b, .int .i64 x.c, .int .i64 x.at', .string x.s, .bool x.n, .int .u64 x.h, .int .u64 x.l, x.L]] w (CntPost C loc (pIns x) w) := by
  have HH := Lib.hid H
  have hxa := hx.a
  have hxb := hx.b
  clear H hx
  have HC := Lib.hid (cnt_23 (C := C) (loc := loc) (x := x) hop)
  obtain ⟨op, a, b, c, at', s, n, h, l, Lv, ls⟩ := x
  dsimp only at *
  subst hop
  go_enter Try.func14, Try.ntmps14
  repeat' (first | (with_reducible refine then_exit ?_) | (with_reducible refine then_ret ?_) | (with_reducible refine then_normal ?_) | (with_reducible refine inBlock_hit ?_) | ((with_reducible refine inBlock_miss ?_ ?_); (exact rfl)) | (with_reducible refine inBlock_ret ?_) | (with_reducible refine inBlock_normal ?_) | go_values | go_skip | go_guarded | go_step | go_upon | go_in | go_back | (simp only [Int.not_lt, Int.not_le] at *; go_simp) | (go_values <;> (try go_simp)) | (go_ite <;> go_prune <;> (try go_simp)) | (split <;> (first | (rename_i hx; exact (hx _ rfl).elim) | go_prune)))
  (try simp only [Exit.inBlock, Exit.then]); refine bodyPost_ret (by simp [results, Try.results14, go_sem, *]; try rfl) rfl ?_
  exact cnt_yes HC.out (by (repeat' (first | (with_reducible exact Below.refl _ _) | (refine Below.trans ?_ (Below.mono (by with_reducible assumption) ?_)) | (with_reducible exact Below.refl _ _) | (with_reducible refine below_drewN ?_ _) | (with_reducible refine Below.drew ?_) | (with_reducible refine Below.setCell ?_ ?_ _) | (with_reducible refine Below.alloc ?_ ?_ _) | (with_reducible assumption) | (simp; done) | (simp; omega) | omega)))
set_option maxRecDepth 100000 in
set_option maxHeartbeats 1600000 in
theorem counts_22 {w : World} {B g : Nat} {C : CodeV} {G L P J : Value} {row : Value × List InsV} {loc : Value × List VarV} (H : Gs w B g C G L P J row loc) (x : InsV) (hx : x.ok w B) (hop : x.op = 22) :
    Calls Try.prog 14 #[.pointer (some ⟨g, 0, none⟩), .agg #[.int .i64 x.op, .int .i64 x.a, .int .i64 x.b, .int .i64 x.c, .int .i64 x.at', .string x.s, .bool x.n, .int .u64 x.h, .int .u64 x.l, x.L]] w (CntPost C loc (pIns x) w) := by
  have HH := Lib.hid H
  have hxa := hx.a
  have hxb := hx.b
  clear H hx
  have HC := Lib.hid (cnt_22 (C := C) (loc := loc) (x := x) hop)
  obtain ⟨op, a, b, c, at', s, n, h, l, Lv, ls⟩ := x
  dsimp only at *
  subst hop
  go_enter Try.func14, Try.ntmps14
  repeat' (first | (with_reducible refine then_exit ?_) | (with_reducible refine then_ret ?_) | (with_reducible refine then_normal ?_) | (with_reducible refine inBlock_hit ?_) | ((with_reducible refine inBlock_miss ?_ ?_); (exact rfl)) | (with_reducible refine inBlock_ret ?_) | (with_reducible refine inBlock_normal ?_) | go_values | go_skip | go_guarded | go_step | go_upon | go_in | go_back | (simp only [Int.not_lt, Int.not_le] at *; go_simp) | (go_values <;> (try go_simp)) | (go_ite <;> go_prune <;> (try go_simp)) | (split <;> (first | (rename_i hx; exact (hx _ rfl).elim) | go_prune)))
  (try simp only [Exit.inBlock, Exit.then]); refine bodyPost_ret (by simp [results, Try.results14, go_sem, *]; try rfl) rfl ?_
  exact cnt_yes HC.out (by (repeat' (first | (with_reducible exact Below.refl _ _) | (refine Below.trans ?_ (Below.mono (by with_reducible assumption) ?_)) | (with_reducible exact Below.refl _ _) | (with_reducible refine below_drewN ?_ _) | (with_reducible refine Below.drew ?_) | (with_reducible refine Below.setCell ?_ ?_ _) | (with_reducible refine Below.alloc ?_ ?_ _) | (with_reducible assumption) | (simp; done) | (simp; omega) | omega)))
set_option maxRecDepth 100000 in
set_option maxHeartbeats 1600000 in
theorem counts_4 {w : World} {B g : Nat} {C : CodeV} {G L P J : Value} {row : Value × List InsV} {loc : Value × List VarV} (H : Gs w B g C G L P J row loc) (x : InsV) (hx : x.ok w B) (hop : x.op = 4) :
    Calls Try.prog 14 #[.pointer (some ⟨g, 0, none⟩), .agg #[.int .i64 x.op, .int .i64 x.a, .int .i64 x.b, .int .i64 x.c, .int .i64 x.at', .string x.s, .bool x.n, .int .u64 x.h, .int .u64 x.l, x.L]] w (CntPost C loc (pIns x) w) := by
  have HH := Lib.hid H
  have hxa := hx.a
  have hxb := hx.b
  clear H hx
  have HC := Lib.hid (cnt_4 (C := C) (loc := loc) (x := x) hop)
  obtain ⟨op, a, b, c, at', s, n, h, l, Lv, ls⟩ := x
  dsimp only at *
  subst hop
  go_enter Try.func14, Try.ntmps14
  repeat' (first | (with_reducible refine then_exit ?_) | (with_reducible refine then_ret ?_) | (with_reducible refine then_normal ?_) | (with_reducible refine inBlock_hit ?_) | ((with_reducible refine inBlock_miss ?_ ?_); (exact rfl)) | (with_reducible refine inBlock_ret ?_) | (with_reducible refine inBlock_normal ?_) | go_values | go_skip | go_guarded | go_step | go_upon | go_in | go_back | (simp only [Int.not_lt, Int.not_le] at *; go_simp) | (go_values <;> (try go_simp)) | (go_ite <;> go_prune <;> (try go_simp)) | (split <;> (first | (rename_i hx; exact (hx _ rfl).elim) | go_prune)))
  (try simp only [Exit.inBlock, Exit.then]); refine bodyPost_ret (by simp [results, Try.results14, go_sem, *]; try rfl) rfl ?_
  exact cnt_yes HC.out (by (repeat' (first | (with_reducible exact Below.refl _ _) | (refine Below.trans ?_ (Below.mono (by with_reducible assumption) ?_)) | (with_reducible exact Below.refl _ _) | (with_reducible refine below_drewN ?_ _) | (with_reducible refine Below.drew ?_) | (with_reducible refine Below.setCell ?_ ?_ _) | (with_reducible refine Below.alloc ?_ ?_ _) | (with_reducible assumption) | (simp; done) | (simp; omega) | omega)))
set_option maxRecDepth 100000 in
set_option maxHeartbeats 1600000 in
theorem counts_5 {w : World} {B g : Nat} {C : CodeV} {G L P J : Value} {row : Value × List InsV} {loc : Value × List VarV} (H : Gs w B g C G L P J row loc) (x : InsV) (hx : x.ok w B) (hop : x.op = 5) :
    Calls Try.prog 14 #[.pointer (some ⟨g, 0, none⟩), .agg #[.int .i64 x.op, .int .i64 x.a, .int .i64 x.b, .int .i64 x.c, .int .i64 x.at', .string x.s, .bool x.n, .int .u64 x.h, .int .u64 x.l, x.L]] w (CntPost C loc (pIns x) w) := by
  have HH := Lib.hid H
  have hxa := hx.a
  have hxb := hx.b
  clear H hx
  have HC := Lib.hid (cnt_5 (C := C) (loc := loc) (x := x) hop)
  obtain ⟨op, a, b, c, at', s, n, h, l, Lv, ls⟩ := x
  dsimp only at *
  subst hop
  go_enter Try.func14, Try.ntmps14
  repeat' (first | (with_reducible refine then_exit ?_) | (with_reducible refine then_ret ?_) | (with_reducible refine then_normal ?_) | (with_reducible refine inBlock_hit ?_) | ((with_reducible refine inBlock_miss ?_ ?_); (exact rfl)) | (with_reducible refine inBlock_ret ?_) | (with_reducible refine inBlock_normal ?_) | (go_big_may; (go_at_call 15; (with_reducible refine (number_any (HH.out.below (by repeat' (first | (with_reducible exact Below.refl _ _) | (with_reducible assumption) | (with_reducible refine Below.drew ?_) | (with_reducible refine below_drewN ?_ _) | (with_reducible refine Below.alloc ?_ ?_ _) | (with_reducible exact Nat.le_refl _) | (simp; done) | (simp; omega)))) a b hxb).mono ?_); rintro e w1 ⟨rfl, b1⟩; have z1 := b1.size; (try simp at z1))) | go_values | go_skip | go_guarded | go_step | go_upon | go_back | (simp only [Int.not_lt, Int.not_le] at *; go_simp) | (go_values <;> (try go_simp)) | (go_ite <;> go_prune <;> (try go_simp)) | (split <;> (first | (rename_i hx; exact (hx _ rfl).elim) | go_prune)))
  (try simp only [Exit.inBlock, Exit.then]); refine bodyPost_ret (by simp [results, Try.results14, go_sem, *]; try rfl) rfl ?_
  exact cnt_of HC.out rfl (by (repeat' (first | (with_reducible exact Below.refl _ _) | (refine Below.trans ?_ (Below.mono (by with_reducible assumption) ?_)) | (with_reducible exact Below.refl _ _) | (with_reducible refine below_drewN ?_ _) | (with_reducible refine Below.drew ?_) | (with_reducible refine Below.setCell ?_ ?_ _) | (with_reducible refine Below.alloc ?_ ?_ _) | (with_reducible assumption) | (simp; done) | (simp; omega) | omega)))
set_option maxRecDepth 100000 in
set_option maxHeartbeats 1600000 in
theorem counts_6 {w : World} {B g : Nat} {C : CodeV} {G L P J : Value} {row : Value × List InsV} {loc : Value × List VarV} (H : Gs w B g C G L P J row loc) (x : InsV) (hx : x.ok w B) (hop : x.op = 6) :
    Calls Try.prog 14 #[.pointer (some ⟨g, 0, none⟩), .agg #[.int .i64 x.op, .int .i64 x.a, .int .i64 x.b, .int .i64 x.c, .int .i64 x.at', .string x.s, .bool x.n, .int .u64 x.h, .int .u64 x.l, x.L]] w (CntPost C loc (pIns x) w) := by
  have HH := Lib.hid H
  have hxa := hx.a
  have hxb := hx.b
  clear H hx
  have HC := Lib.hid (cnt_6 (C := C) (loc := loc) (x := x) hop)
  obtain ⟨op, a, b, c, at', s, n, h, l, Lv, ls⟩ := x
  dsimp only at *
  subst hop
  go_enter Try.func14, Try.ntmps14
  repeat' (first | (with_reducible refine then_exit ?_) | (with_reducible refine then_ret ?_) | (with_reducible refine then_normal ?_) | (with_reducible refine inBlock_hit ?_) | ((with_reducible refine inBlock_miss ?_ ?_); (exact rfl)) | (with_reducible refine inBlock_ret ?_) | (with_reducible refine inBlock_normal ?_) | (go_big_may; (go_at_call 15; (with_reducible refine (number_any (HH.out.below (by repeat' (first | (with_reducible exact Below.refl _ _) | (with_reducible assumption) | (with_reducible refine Below.drew ?_) | (with_reducible refine below_drewN ?_ _) | (with_reducible refine Below.alloc ?_ ?_ _) | (with_reducible exact Nat.le_refl _) | (simp; done) | (simp; omega)))) a b hxb).mono ?_); rintro e w1 ⟨rfl, b1⟩; have z1 := b1.size; (try simp at z1))) | go_values | go_skip | go_guarded | go_step | go_upon | go_back | (simp only [Int.not_lt, Int.not_le] at *; go_simp) | (go_values <;> (try go_simp)) | (go_ite <;> go_prune <;> (try go_simp)) | (split <;> (first | (rename_i hx; exact (hx _ rfl).elim) | go_prune)))
  (try simp only [Exit.inBlock, Exit.then]); refine bodyPost_ret (by simp [results, Try.results14, go_sem, *]; try rfl) rfl ?_
  exact cnt_of HC.out rfl (by (repeat' (first | (with_reducible exact Below.refl _ _) | (refine Below.trans ?_ (Below.mono (by with_reducible assumption) ?_)) | (with_reducible exact Below.refl _ _) | (with_reducible refine below_drewN ?_ _) | (with_reducible refine Below.drew ?_) | (with_reducible refine Below.setCell ?_ ?_ _) | (with_reducible refine Below.alloc ?_ ?_ _) | (with_reducible assumption) | (simp; done) | (simp; omega) | omega)))
set_option maxRecDepth 100000 in
set_option maxHeartbeats 1600000 in
theorem counts_7 {w : World} {B g : Nat} {C : CodeV} {G L P J : Value} {row : Value × List InsV} {loc : Value × List VarV} (H : Gs w B g C G L P J row loc) (x : InsV) (hx : x.ok w B) (hop : x.op = 7) :
    Calls Try.prog 14 #[.pointer (some ⟨g, 0, none⟩), .agg #[.int .i64 x.op, .int .i64 x.a, .int .i64 x.b, .int .i64 x.c, .int .i64 x.at', .string x.s, .bool x.n, .int .u64 x.h, .int .u64 x.l, x.L]] w (CntPost C loc (pIns x) w) := by
  have HH := Lib.hid H
  have hxa := hx.a
  have hxb := hx.b
  clear H hx
  have HC := Lib.hid (cnt_7 (C := C) (loc := loc) (x := x) hop)
  obtain ⟨op, a, b, c, at', s, n, h, l, Lv, ls⟩ := x
  dsimp only at *
  subst hop
  go_enter Try.func14, Try.ntmps14
  repeat' (first | (with_reducible refine then_exit ?_) | (with_reducible refine then_ret ?_) | (with_reducible refine then_normal ?_) | (with_reducible refine inBlock_hit ?_) | ((with_reducible refine inBlock_miss ?_ ?_); (exact rfl)) | (with_reducible refine inBlock_ret ?_) | (with_reducible refine inBlock_normal ?_) | (go_big_may; (go_at_call 16; (with_reducible refine (array_any (HH.out.below (by repeat' (first | (with_reducible exact Below.refl _ _) | (with_reducible assumption) | (with_reducible refine Below.drew ?_) | (with_reducible refine below_drewN ?_ _) | (with_reducible refine Below.alloc ?_ ?_ _) | (with_reducible exact Nat.le_refl _) | (simp; done) | (simp; omega)))) a b hxb).mono ?_); rintro e w1 ⟨rfl, b1⟩; have z1 := b1.size; (try simp at z1))) | go_values | go_skip | go_guarded | go_step | go_upon | go_back | (simp only [Int.not_lt, Int.not_le] at *; go_simp) | (go_values <;> (try go_simp)) | (go_ite <;> go_prune <;> (try go_simp)) | (split <;> (first | (rename_i hx; exact (hx _ rfl).elim) | go_prune)))
  (try simp only [Exit.inBlock, Exit.then]); refine bodyPost_ret (by simp [results, Try.results14, go_sem, *]; try rfl) rfl ?_
  exact cnt_of HC.out rfl (by (repeat' (first | (with_reducible exact Below.refl _ _) | (refine Below.trans ?_ (Below.mono (by with_reducible assumption) ?_)) | (with_reducible exact Below.refl _ _) | (with_reducible refine below_drewN ?_ _) | (with_reducible refine Below.drew ?_) | (with_reducible refine Below.setCell ?_ ?_ _) | (with_reducible refine Below.alloc ?_ ?_ _) | (with_reducible assumption) | (simp; done) | (simp; omega) | omega)))
set_option maxRecDepth 100000 in
set_option maxHeartbeats 1600000 in
theorem counts_9 {w : World} {B g : Nat} {C : CodeV} {G L P J : Value} {row : Value × List InsV} {loc : Value × List VarV} (H : Gs w B g C G L P J row loc) (x : InsV) (hx : x.ok w B) (hop : x.op = 9) :
    Calls Try.prog 14 #[.pointer (some ⟨g, 0, none⟩), .agg #[.int .i64 x.op, .int .i64 x.a, .int .i64 x.b, .int .i64 x.c, .int .i64 x.at', .string x.s, .bool x.n, .int .u64 x.h, .int .u64 x.l, x.L]] w (CntPost C loc (pIns x) w) := by
  have HH := Lib.hid H
  have hxa := hx.a
  have hxb := hx.b
  clear H hx
  have HC := Lib.hid (cnt_9 (C := C) (loc := loc) (x := x) hop)
  obtain ⟨op, a, b, c, at', s, n, h, l, Lv, ls⟩ := x
  dsimp only at *
  subst hop
  go_enter Try.func14, Try.ntmps14
  repeat' (first | (with_reducible refine then_exit ?_) | (with_reducible refine then_ret ?_) | (with_reducible refine then_normal ?_) | (with_reducible refine inBlock_hit ?_) | ((with_reducible refine inBlock_miss ?_ ?_); (exact rfl)) | (with_reducible refine inBlock_ret ?_) | (with_reducible refine inBlock_normal ?_) | (go_big_may; (go_at_call 16; (with_reducible refine (array_any (HH.out.below (by repeat' (first | (with_reducible exact Below.refl _ _) | (with_reducible assumption) | (with_reducible refine Below.drew ?_) | (with_reducible refine below_drewN ?_ _) | (with_reducible refine Below.alloc ?_ ?_ _) | (with_reducible exact Nat.le_refl _) | (simp; done) | (simp; omega)))) a b hxb).mono ?_); rintro e w1 ⟨rfl, b1⟩; have z1 := b1.size; (try simp at z1))) | go_values | go_skip | go_guarded | go_step | go_upon | go_back | (simp only [Int.not_lt, Int.not_le] at *; go_simp) | (go_values <;> (try go_simp)) | (go_ite <;> go_prune <;> (try go_simp)) | (split <;> (first | (rename_i hx; exact (hx _ rfl).elim) | go_prune)))
  (try simp only [Exit.inBlock, Exit.then]); refine bodyPost_ret (by simp [results, Try.results14, go_sem, *]; try rfl) rfl ?_
  exact cnt_of HC.out rfl (by (repeat' (first | (with_reducible exact Below.refl _ _) | (refine Below.trans ?_ (Below.mono (by with_reducible assumption) ?_)) | (with_reducible exact Below.refl _ _) | (with_reducible refine below_drewN ?_ _) | (with_reducible refine Below.drew ?_) | (with_reducible refine Below.setCell ?_ ?_ _) | (with_reducible refine Below.alloc ?_ ?_ _) | (with_reducible assumption) | (simp; done) | (simp; omega) | omega)))
set_option maxRecDepth 100000 in
set_option maxHeartbeats 1600000 in
theorem counts_10 {w : World} {B g : Nat} {C : CodeV} {G L P J : Value} {row : Value × List InsV} {loc : Value × List VarV} (H : Gs w B g C G L P J row loc) (x : InsV) (hx : x.ok w B) (hop : x.op = 10) :
    Calls Try.prog 14 #[.pointer (some ⟨g, 0, none⟩), .agg #[.int .i64 x.op, .int .i64 x.a, .int .i64 x.b, .int .i64 x.c, .int .i64 x.at', .string x.s, .bool x.n, .int .u64 x.h, .int .u64 x.l, x.L]] w (CntPost C loc (pIns x) w) := by
  have HH := Lib.hid H
  have hxa := hx.a
  have hxb := hx.b
  clear H hx
  have HC := Lib.hid (cnt_10 (C := C) (loc := loc) (x := x) hop)
  obtain ⟨op, a, b, c, at', s, n, h, l, Lv, ls⟩ := x
  dsimp only at *
  subst hop
  go_enter Try.func14, Try.ntmps14
  repeat' (first | (with_reducible refine then_exit ?_) | (with_reducible refine then_ret ?_) | (with_reducible refine then_normal ?_) | (with_reducible refine inBlock_hit ?_) | ((with_reducible refine inBlock_miss ?_ ?_); (exact rfl)) | (with_reducible refine inBlock_ret ?_) | (with_reducible refine inBlock_normal ?_) | (go_big_may; (go_at_call 16; (with_reducible refine (array_any (HH.out.below (by repeat' (first | (with_reducible exact Below.refl _ _) | (with_reducible assumption) | (with_reducible refine Below.drew ?_) | (with_reducible refine below_drewN ?_ _) | (with_reducible refine Below.alloc ?_ ?_ _) | (with_reducible exact Nat.le_refl _) | (simp; done) | (simp; omega)))) a b hxb).mono ?_); rintro e w1 ⟨rfl, b1⟩; have z1 := b1.size; (try simp at z1))) | go_values | go_skip | go_guarded | go_step | go_upon | go_back | (simp only [Int.not_lt, Int.not_le] at *; go_simp) | (go_values <;> (try go_simp)) | (go_ite <;> go_prune <;> (try go_simp)) | (split <;> (first | (rename_i hx; exact (hx _ rfl).elim) | go_prune)))
  (try simp only [Exit.inBlock, Exit.then]); refine bodyPost_ret (by simp [results, Try.results14, go_sem, *]; try rfl) rfl ?_
  exact cnt_of HC.out rfl (by (repeat' (first | (with_reducible exact Below.refl _ _) | (refine Below.trans ?_ (Below.mono (by with_reducible assumption) ?_)) | (with_reducible exact Below.refl _ _) | (with_reducible refine below_drewN ?_ _) | (with_reducible refine Below.drew ?_) | (with_reducible refine Below.setCell ?_ ?_ _) | (with_reducible refine Below.alloc ?_ ?_ _) | (with_reducible assumption) | (simp; done) | (simp; omega) | omega)))
set_option maxRecDepth 100000 in
set_option maxHeartbeats 1600000 in
theorem counts_8 {w : World} {B g : Nat} {C : CodeV} {G L P J : Value} {row : Value × List InsV} {loc : Value × List VarV} (H : Gs w B g C G L P J row loc) (x : InsV) (hx : x.ok w B) (hop : x.op = 8) :
    Calls Try.prog 14 #[.pointer (some ⟨g, 0, none⟩), .agg #[.int .i64 x.op, .int .i64 x.a, .int .i64 x.b, .int .i64 x.c, .int .i64 x.at', .string x.s, .bool x.n, .int .u64 x.h, .int .u64 x.l, x.L]] w (CntPost C loc (pIns x) w) := by
  have HH := Lib.hid H
  have hxa := hx.a
  have hxb := hx.b
  clear H hx
  have HC := Lib.hid (cnt_8 (C := C) (loc := loc) (x := x) hop)
  obtain ⟨op, a, b, c, at', s, n, h, l, Lv, ls⟩ := x
  dsimp only at *
  subst hop
  go_enter Try.func14, Try.ntmps14
  repeat' (first | (with_reducible refine then_exit ?_) | (with_reducible refine then_ret ?_) | (with_reducible refine then_normal ?_) | (with_reducible refine inBlock_hit ?_) | ((with_reducible refine inBlock_miss ?_ ?_); (exact rfl)) | (with_reducible refine inBlock_ret ?_) | (with_reducible refine inBlock_normal ?_) | (go_big_may; (go_at_call 16; (with_reducible refine (array_any (HH.out.below (by repeat' (first | (with_reducible exact Below.refl _ _) | (with_reducible assumption) | (with_reducible refine Below.drew ?_) | (with_reducible refine below_drewN ?_ _) | (with_reducible refine Below.alloc ?_ ?_ _) | (with_reducible exact Nat.le_refl _) | (simp; done) | (simp; omega)))) a b hxb).mono ?_); rintro e w1 ⟨rfl, b1⟩; have z1 := b1.size; (try simp at z1))) | go_values | go_skip | go_guarded | go_step | go_upon | go_back | (simp only [Int.not_lt, Int.not_le] at *; go_simp) | (go_values <;> (try go_simp)) | (go_ite <;> go_prune <;> (try go_simp)) | (split <;> (first | (rename_i hx; exact (hx _ rfl).elim) | go_prune)))
  (try simp only [Exit.inBlock, Exit.then]); refine bodyPost_ret (by simp [results, Try.results14, go_sem, *]; try rfl) rfl ?_
  exact cnt_of HC.out rfl (by (repeat' (first | (with_reducible exact Below.refl _ _) | (refine Below.trans ?_ (Below.mono (by with_reducible assumption) ?_)) | (with_reducible exact Below.refl _ _) | (with_reducible refine below_drewN ?_ _) | (with_reducible refine Below.drew ?_) | (with_reducible refine Below.setCell ?_ ?_ _) | (with_reducible refine Below.alloc ?_ ?_ _) | (with_reducible assumption) | (simp; done) | (simp; omega) | omega)))
set_option maxRecDepth 100000 in
set_option maxHeartbeats 1600000 in
theorem counts_11 {w : World} {B g : Nat} {C : CodeV} {G L P J : Value} {row : Value × List InsV} {loc : Value × List VarV} (H : Gs w B g C G L P J row loc) (x : InsV) (hx : x.ok w B) (hop : x.op = 11) :
    Calls Try.prog 14 #[.pointer (some ⟨g, 0, none⟩), .agg #[.int .i64 x.op, .int .i64 x.a, .int .i64 x.b, .int .i64 x.c, .int .i64 x.at', .string x.s, .bool x.n, .int .u64 x.h, .int .u64 x.l, x.L]] w (CntPost C loc (pIns x) w) := by
  have HH := Lib.hid H
  have hxa := hx.a
  have hxb := hx.b
  clear H hx
  have HC := Lib.hid (cnt_11 (C := C) (loc := loc) (x := x) hop)
  obtain ⟨op, a, b, c, at', s, n, h, l, Lv, ls⟩ := x
  dsimp only at *
  subst hop
  go_enter Try.func14, Try.ntmps14
  repeat' (first | (with_reducible refine then_exit ?_) | (with_reducible refine then_ret ?_) | (with_reducible refine then_normal ?_) | (with_reducible refine inBlock_hit ?_) | ((with_reducible refine inBlock_miss ?_ ?_); (exact rfl)) | (with_reducible refine inBlock_ret ?_) | (with_reducible refine inBlock_normal ?_) | (go_big_may; (go_at_call 16; (with_reducible refine (array_any (HH.out.below (by repeat' (first | (with_reducible exact Below.refl _ _) | (with_reducible assumption) | (with_reducible refine Below.drew ?_) | (with_reducible refine below_drewN ?_ _) | (with_reducible refine Below.alloc ?_ ?_ _) | (with_reducible exact Nat.le_refl _) | (simp; done) | (simp; omega)))) a b hxb).mono ?_); rintro e w1 ⟨rfl, b1⟩; have z1 := b1.size; (try simp at z1))) | go_values | go_skip | go_guarded | go_step | go_upon | go_back | (simp only [Int.not_lt, Int.not_le] at *; go_simp) | (go_values <;> (try go_simp)) | (go_ite <;> go_prune <;> (try go_simp)) | (split <;> (first | (rename_i hx; exact (hx _ rfl).elim) | go_prune)))
  (try simp only [Exit.inBlock, Exit.then]); refine bodyPost_ret (by simp [results, Try.results14, go_sem, *]; try rfl) rfl ?_
  exact cnt_of HC.out rfl (by (repeat' (first | (with_reducible exact Below.refl _ _) | (refine Below.trans ?_ (Below.mono (by with_reducible assumption) ?_)) | (with_reducible exact Below.refl _ _) | (with_reducible refine below_drewN ?_ _) | (with_reducible refine Below.drew ?_) | (with_reducible refine Below.setCell ?_ ?_ _) | (with_reducible refine Below.alloc ?_ ?_ _) | (with_reducible assumption) | (simp; done) | (simp; omega) | omega)))
end Go.Proofs.Ytanbplnagcmlcaa

/- Layer 15: what an instruction takes and puts, walked (c). -/
namespace Go.Proofs.Ytanbplnagcmlcaa
open Go.RowKit
set_option maxRecDepth 100000 in
set_option maxHeartbeats 1600000 in
theorem counts_33 {w : World} {B g : Nat} {C : CodeV} {G L P J : Value} {row : Value × List InsV} {loc : Value × List VarV} (H : Gs w B g C G L P J row loc) (x : InsV) (hx : x.ok w B) (hop : x.op = 33) :
    Calls Try.prog 14 #[.pointer (some ⟨g, 0, none⟩), .agg #[.int .i64 x.op, .int .i64 x.a, .int .i64 x.b, .int .i64 x.c, .int .i64 x.at', .string x.s, .bool x.n, .int .u64 x.h, .int .u64 x.l, x.L]] w (CntPost C loc (pIns x) w) := by
  have HH := Lib.hid H
  have hxa := hx.a
  have hxb := hx.b
  clear H hx
  have HC := Lib.hid (cnt_33 (C := C) (loc := loc) (x := x) hop)
  obtain ⟨op, a, b, c, at', s, n, h, l, Lv, ls⟩ := x
  dsimp only at *
  subst hop
  go_enter Try.func14, Try.ntmps14
  repeat' (first | (with_reducible refine then_exit ?_) | (with_reducible refine then_ret ?_) | (with_reducible refine then_normal ?_) | (with_reducible refine inBlock_hit ?_) | ((with_reducible refine inBlock_miss ?_ ?_); (exact rfl)) | (with_reducible refine inBlock_ret ?_) | (with_reducible refine inBlock_normal ?_) | (go_big_may; (go_at_call 16; (with_reducible refine (array_any (HH.out.below (by repeat' (first | (with_reducible exact Below.refl _ _) | (with_reducible assumption) | (with_reducible refine Below.drew ?_) | (with_reducible refine below_drewN ?_ _) | (with_reducible refine Below.alloc ?_ ?_ _) | (with_reducible exact Nat.le_refl _) | (simp; done) | (simp; omega)))) a b hxb).mono ?_); rintro e w1 ⟨rfl, b1⟩; have z1 := b1.size; (try simp at z1))) | go_values | go_skip | go_guarded | go_step | go_upon | go_back | (simp only [Int.not_lt, Int.not_le] at *; go_simp) | (go_values <;> (try go_simp)) | (go_ite <;> go_prune <;> (try go_simp)) | (split <;> (first | (rename_i hx; exact (hx _ rfl).elim) | go_prune)))
  (try simp only [Exit.inBlock, Exit.then]); refine bodyPost_ret (by simp [results, Try.results14, go_sem, *]; try rfl) rfl ?_
  exact cnt_of HC.out rfl (by (repeat' (first | (with_reducible exact Below.refl _ _) | (refine Below.trans ?_ (Below.mono (by with_reducible assumption) ?_)) | (with_reducible exact Below.refl _ _) | (with_reducible refine below_drewN ?_ _) | (with_reducible refine Below.drew ?_) | (with_reducible refine Below.setCell ?_ ?_ _) | (with_reducible refine Below.alloc ?_ ?_ _) | (with_reducible assumption) | (simp; done) | (simp; omega) | omega)))
set_option maxRecDepth 100000 in
set_option maxHeartbeats 1600000 in
theorem counts_12 {w : World} {B g : Nat} {C : CodeV} {G L P J : Value} {row : Value × List InsV} {loc : Value × List VarV} (H : Gs w B g C G L P J row loc) (x : InsV) (hx : x.ok w B) (hop : x.op = 12) :
    Calls Try.prog 14 #[.pointer (some ⟨g, 0, none⟩), .agg #[.int .i64 x.op, .int .i64 x.a, .int .i64 x.b, .int .i64 x.c, .int .i64 x.at', .string x.s, .bool x.n, .int .u64 x.h, .int .u64 x.l, x.L]] w (CntPost C loc (pIns x) w) := by
  have HH := Lib.hid H
  have hxa := hx.a
  have hxb := hx.b
  clear H hx
  have HC := Lib.hid (cnt_12 (C := C) (loc := loc) (x := x) hop)
  obtain ⟨op, a, b, c, at', s, n, h, l, Lv, ls⟩ := x
  dsimp only at *
  subst hop
  go_enter Try.func14, Try.ntmps14
  repeat' (first | (with_reducible refine then_exit ?_) | (with_reducible refine then_ret ?_) | (with_reducible refine then_normal ?_) | (with_reducible refine inBlock_hit ?_) | ((with_reducible refine inBlock_miss ?_ ?_); (exact rfl)) | (with_reducible refine inBlock_ret ?_) | (with_reducible refine inBlock_normal ?_) | go_values | go_skip | go_guarded | go_step | go_upon | go_in | go_back | (simp only [Int.not_lt, Int.not_le] at *; go_simp) | (go_values <;> (try go_simp)) | (go_ite <;> go_prune <;> (try go_simp)) | (split <;> (first | (rename_i hx; exact (hx _ rfl).elim) | go_prune)))
  (try simp only [Exit.inBlock, Exit.then]); refine bodyPost_ret (by simp [results, Try.results14, go_sem, *]; try rfl) rfl ?_
  exact cnt_yes HC.out (by (repeat' (first | (with_reducible exact Below.refl _ _) | (refine Below.trans ?_ (Below.mono (by with_reducible assumption) ?_)) | (with_reducible exact Below.refl _ _) | (with_reducible refine below_drewN ?_ _) | (with_reducible refine Below.drew ?_) | (with_reducible refine Below.setCell ?_ ?_ _) | (with_reducible refine Below.alloc ?_ ?_ _) | (with_reducible assumption) | (simp; done) | (simp; omega) | omega)))
set_option maxRecDepth 100000 in
set_option maxHeartbeats 1600000 in
theorem counts_20 {w : World} {B g : Nat} {C : CodeV} {G L P J : Value} {row : Value × List InsV} {loc : Value × List VarV} (H : Gs w B g C G L P J row loc) (x : InsV) (hx : x.ok w B) (hop : x.op = 20) :
    Calls Try.prog 14 #[.pointer (some ⟨g, 0, none⟩), .agg #[.int .i64 x.op, .int .i64 x.a, .int .i64 x.b, .int .i64 x.c, .int .i64 x.at', .string x.s, .bool x.n, .int .u64 x.h, .int .u64 x.l, x.L]] w (CntPost C loc (pIns x) w) := by
  have HH := Lib.hid H
  have hxa := hx.a
  have hxb := hx.b
  clear H hx
  have HC := Lib.hid (cnt_20 (C := C) (loc := loc) (x := x) hop)
  obtain ⟨op, a, b, c, at', s, n, h, l, Lv, ls⟩ := x
  dsimp only at *
  subst hop
  go_enter Try.func14, Try.ntmps14
  repeat' (first | (with_reducible refine then_exit ?_) | (with_reducible refine then_ret ?_) | (with_reducible refine then_normal ?_) | (with_reducible refine inBlock_hit ?_) | ((with_reducible refine inBlock_miss ?_ ?_); (exact rfl)) | (with_reducible refine inBlock_ret ?_) | (with_reducible refine inBlock_normal ?_) | go_values | go_skip | go_guarded | go_step | go_upon | go_in | go_back | (simp only [Int.not_lt, Int.not_le] at *; go_simp) | (go_values <;> (try go_simp)) | (go_ite <;> go_prune <;> (try go_simp)) | (split <;> (first | (rename_i hx; exact (hx _ rfl).elim) | go_prune)))
  (try simp only [Exit.inBlock, Exit.then]); refine bodyPost_ret (by simp [results, Try.results14, go_sem, *]; try rfl) rfl ?_
  exact cnt_yes HC.out (by (repeat' (first | (with_reducible exact Below.refl _ _) | (refine Below.trans ?_ (Below.mono (by with_reducible assumption) ?_)) | (with_reducible exact Below.refl _ _) | (with_reducible refine below_drewN ?_ _) | (with_reducible refine Below.drew ?_) | (with_reducible refine Below.setCell ?_ ?_ _) | (with_reducible refine Below.alloc ?_ ?_ _) | (with_reducible assumption) | (simp; done) | (simp; omega) | omega)))
set_option maxRecDepth 100000 in
set_option maxHeartbeats 1600000 in
theorem counts_13 {w : World} {B g : Nat} {C : CodeV} {G L P J : Value} {row : Value × List InsV} {loc : Value × List VarV} (H : Gs w B g C G L P J row loc) (x : InsV) (hx : x.ok w B) (hop : x.op = 13) :
    Calls Try.prog 14 #[.pointer (some ⟨g, 0, none⟩), .agg #[.int .i64 x.op, .int .i64 x.a, .int .i64 x.b, .int .i64 x.c, .int .i64 x.at', .string x.s, .bool x.n, .int .u64 x.h, .int .u64 x.l, x.L]] w (CntPost C loc (pIns x) w) := by
  have HH := Lib.hid H
  have hxa := hx.a
  have hxb := hx.b
  clear H hx
  have HC := Lib.hid (cnt_13 (C := C) (loc := loc) (x := x) hop)
  obtain ⟨op, a, b, c, at', s, n, h, l, Lv, ls⟩ := x
  dsimp only at *
  subst hop
  go_enter Try.func14, Try.ntmps14
  repeat' (first | (with_reducible refine then_exit ?_) | (with_reducible refine then_ret ?_) | (with_reducible refine then_normal ?_) | (with_reducible refine inBlock_hit ?_) | ((with_reducible refine inBlock_miss ?_ ?_); (exact rfl)) | (with_reducible refine inBlock_ret ?_) | (with_reducible refine inBlock_normal ?_) | go_values | go_skip | go_guarded | go_step | go_upon | go_in | go_back | (simp only [Int.not_lt, Int.not_le] at *; go_simp) | (go_values <;> (try go_simp)) | (go_ite <;> go_prune <;> (try go_simp)) | (split <;> (first | (rename_i hx; exact (hx _ rfl).elim) | go_prune)))
  (try simp only [Exit.inBlock, Exit.then]); refine bodyPost_ret (by simp [results, Try.results14, go_sem, *]; try rfl) rfl ?_
  exact cnt_yes HC.out (by (repeat' (first | (with_reducible exact Below.refl _ _) | (refine Below.trans ?_ (Below.mono (by with_reducible assumption) ?_)) | (with_reducible exact Below.refl _ _) | (with_reducible refine below_drewN ?_ _) | (with_reducible refine Below.drew ?_) | (with_reducible refine Below.setCell ?_ ?_ _) | (with_reducible refine Below.alloc ?_ ?_ _) | (with_reducible assumption) | (simp; done) | (simp; omega) | omega)))
set_option maxRecDepth 100000 in
set_option maxHeartbeats 1600000 in
theorem counts_17 {w : World} {B g : Nat} {C : CodeV} {G L P J : Value} {row : Value × List InsV} {loc : Value × List VarV} (H : Gs w B g C G L P J row loc) (x : InsV) (hx : x.ok w B) (hop : x.op = 17) :
    Calls Try.prog 14 #[.pointer (some ⟨g, 0, none⟩), .agg #[.int .i64 x.op, .int .i64 x.a, .int .i64 x.b, .int .i64 x.c, .int .i64 x.at', .string x.s, .bool x.n, .int .u64 x.h, .int .u64 x.l, x.L]] w (CntPost C loc (pIns x) w) := by
  have HH := Lib.hid H
  have hxa := hx.a
  have hxb := hx.b
  clear H hx
  have HC := Lib.hid (cnt_17 (C := C) (loc := loc) (x := x) hop)
  obtain ⟨op, a, b, c, at', s, n, h, l, Lv, ls⟩ := x
  dsimp only at *
  subst hop
  go_enter Try.func14, Try.ntmps14
  repeat' (first | (with_reducible refine then_exit ?_) | (with_reducible refine then_ret ?_) | (with_reducible refine then_normal ?_) | (with_reducible refine inBlock_hit ?_) | ((with_reducible refine inBlock_miss ?_ ?_); (exact rfl)) | (with_reducible refine inBlock_ret ?_) | (with_reducible refine inBlock_normal ?_) | go_values | go_skip | go_guarded | go_step | go_upon | go_in | go_back | (simp only [Int.not_lt, Int.not_le] at *; go_simp) | (go_values <;> (try go_simp)) | (go_ite <;> go_prune <;> (try go_simp)) | (split <;> (first | (rename_i hx; exact (hx _ rfl).elim) | go_prune)))
  (try simp only [Exit.inBlock, Exit.then]); refine bodyPost_ret (by simp [results, Try.results14, go_sem, *]; try rfl) rfl ?_
  exact cnt_yes HC.out (by (repeat' (first | (with_reducible exact Below.refl _ _) | (refine Below.trans ?_ (Below.mono (by with_reducible assumption) ?_)) | (with_reducible exact Below.refl _ _) | (with_reducible refine below_drewN ?_ _) | (with_reducible refine Below.drew ?_) | (with_reducible refine Below.setCell ?_ ?_ _) | (with_reducible refine Below.alloc ?_ ?_ _) | (with_reducible assumption) | (simp; done) | (simp; omega) | omega)))
set_option maxRecDepth 100000 in
set_option maxHeartbeats 1600000 in
theorem counts_14 {w : World} {B g : Nat} {C : CodeV} {G L P J : Value} {row : Value × List InsV} {loc : Value × List VarV} (H : Gs w B g C G L P J row loc) (x : InsV) (hx : x.ok w B) (hop : x.op = 14) :
    Calls Try.prog 14 #[.pointer (some ⟨g, 0, none⟩), .agg #[.int .i64 x.op, .int .i64 x.a, .int .i64 x.b, .int .i64 x.c, .int .i64 x.at', .string x.s, .bool x.n, .int .u64 x.h, .int .u64 x.l, x.L]] w (CntPost C loc (pIns x) w) := by
  have HH := Lib.hid H
  have hxa := hx.a
  have hxb := hx.b
  clear H hx
  have HC := Lib.hid (cnt_14 (C := C) (loc := loc) (x := x) hop)
  obtain ⟨op, a, b, c, at', s, n, h, l, Lv, ls⟩ := x
  dsimp only at *
  subst hop
  go_enter Try.func14, Try.ntmps14
  repeat' (first | (with_reducible refine then_exit ?_) | (with_reducible refine then_ret ?_) | (with_reducible refine then_normal ?_) | (with_reducible refine inBlock_hit ?_) | ((with_reducible refine inBlock_miss ?_ ?_); (exact rfl)) | (with_reducible refine inBlock_ret ?_) | (with_reducible refine inBlock_normal ?_) | go_values | go_skip | go_guarded | go_step | go_upon | go_in | go_back | (simp only [Int.not_lt, Int.not_le] at *; go_simp) | (go_values <;> (try go_simp)) | (go_ite <;> go_prune <;> (try go_simp)) | (split <;> (first | (rename_i hx; exact (hx _ rfl).elim) | go_prune)))
  go_quiet (fail)
  repeat' (first | (with_reducible refine then_exit ?_) | (with_reducible refine then_ret ?_) | (with_reducible refine then_normal ?_) | (with_reducible refine inBlock_hit ?_) | ((with_reducible refine inBlock_miss ?_ ?_); (exact rfl)) | (with_reducible refine inBlock_ret ?_) | (with_reducible refine inBlock_normal ?_) | go_values | go_skip | go_guarded | go_step | go_upon | go_in | go_back | (simp only [Int.not_lt, Int.not_le] at *; go_simp) | (go_values <;> (try go_simp)) | (go_ite <;> go_prune <;> (try go_simp)) | (split <;> (first | (rename_i hx; exact (hx _ rfl).elim) | go_prune)))
  (try simp only [Exit.inBlock, Exit.then]); refine bodyPost_ret (by simp [results, Try.results14, go_sem, *]; try rfl) rfl ?_
  exact cnt_of HC.out (by simp) (by (repeat' (first | (with_reducible exact Below.refl _ _) | (refine Below.trans ?_ (Below.mono (by with_reducible assumption) ?_)) | (with_reducible exact Below.refl _ _) | (with_reducible refine below_drewN ?_ _) | (with_reducible refine Below.drew ?_) | (with_reducible refine Below.setCell ?_ ?_ _) | (with_reducible refine Below.alloc ?_ ?_ _) | (with_reducible assumption) | (simp; done) | (simp; omega) | omega)))
set_option maxRecDepth 100000 in
set_option maxHeartbeats 1600000 in
theorem counts_15 {w : World} {B g : Nat} {C : CodeV} {G L P J : Value} {row : Value × List InsV} {loc : Value × List VarV} (H : Gs w B g C G L P J row loc) (x : InsV) (hx : x.ok w B) (hop : x.op = 15) :
    Calls Try.prog 14 #[.pointer (some ⟨g, 0, none⟩), .agg #[.int .i64 x.op, .int .i64 x.a, .int .i64 x.b, .int .i64 x.c, .int .i64 x.at', .string x.s, .bool x.n, .int .u64 x.h, .int .u64 x.l, x.L]] w (CntPost C loc (pIns x) w) := by
  have HH := Lib.hid H
  have hxa := hx.a
  have hxb := hx.b
  clear H hx
  have HC := Lib.hid (cnt_15 (C := C) (loc := loc) (x := x) hop)
  obtain ⟨op, a, b, c, at', s, n, h, l, Lv, ls⟩ := x
  dsimp only at *
  subst hop
  go_enter Try.func14, Try.ntmps14
  repeat' (first | (with_reducible refine then_exit ?_) | (with_reducible refine then_ret ?_) | (with_reducible refine then_normal ?_) | (with_reducible refine inBlock_hit ?_) | ((with_reducible refine inBlock_miss ?_ ?_); (exact rfl)) | (with_reducible refine inBlock_ret ?_) | (with_reducible refine inBlock_normal ?_) | (go_big_may; (go_at_call 17; (with_reducible refine (arith_any s _).mono ?_); rintro e w2 ⟨rfl, b2⟩; have z2 := b2.size; (try simp at z2))) | go_values | go_skip | go_guarded | go_step | go_upon | go_back | (simp only [Int.not_lt, Int.not_le] at *; go_simp) | (go_values <;> (try go_simp)) | (go_ite <;> go_prune <;> (try go_simp)) | (split <;> (first | (rename_i hx; exact (hx _ rfl).elim) | go_prune)))
  (try simp only [Exit.inBlock, Exit.then]); refine bodyPost_ret (by simp [results, Try.results14, go_sem, *]; try rfl) rfl ?_
  exact cnt_of HC.out rfl (by (repeat' (first | (with_reducible exact Below.refl _ _) | (refine Below.trans ?_ (Below.mono (by with_reducible assumption) ?_)) | (with_reducible exact Below.refl _ _) | (with_reducible refine below_drewN ?_ _) | (with_reducible refine Below.drew ?_) | (with_reducible refine Below.setCell ?_ ?_ _) | (with_reducible refine Below.alloc ?_ ?_ _) | (with_reducible assumption) | (simp; done) | (simp; omega) | omega)))
end Go.Proofs.Ytanbplnagcmlcaa
