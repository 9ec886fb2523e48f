/- Several texts put together: CodN. -/
import Derived.Test.YtanbplnagcmlcaaBu8
/- Layer 15: where an instruction goes on, walked. -/
namespace Go.Proofs.Ytanbplnagcmlcaa
open Go.RowKit
def Wo (C : CodeV) (loc : Value × List VarV) (x : InsV) (k : Nat) (cells each : Int) : Option (List (Int × Int × Int)) := waysOf (pNms C) (mineV loc) (pIns x) k cells each
/-- A row's instruction: its address, its cells. -/
structure InsAt (w : World) (B : Nat) (row : Value × List InsV) (k : Nat) (q : Addr) (x : InsV) (ad : Addr) (c : Nat) : Prop where
  e : row.1 = .slice (some ad) row.2.length c
  hq : ad.add (k * 10) = q
  hb : q.block < B
  hx : x.ok w B
  i0 : w.cell? q = some (.int .i64 x.op)
  i1 : w.cell? ⟨q.block, q.off + 1, none⟩ = some (.int .i64 x.a)
  i2 : w.cell? ⟨q.block, q.off + 2, none⟩ = some (.int .i64 x.b)
  i3 : w.cell? ⟨q.block, q.off + 3, none⟩ = some (.int .i64 x.c)
  i4 : w.cell? ⟨q.block, q.off + 4, none⟩ = some (.int .i64 x.at')
  i5 : w.cell? ⟨q.block, q.off + 5, none⟩ = some (.string x.s)
  i6 : w.cell? ⟨q.block, q.off + 6, none⟩ = some (.bool x.n)
  i7 : w.cell? ⟨q.block, q.off + 7, none⟩ = some (.int .u64 x.h)
  i8 : w.cell? ⟨q.block, q.off + 8, none⟩ = some (.int .u64 x.l)
  i9 : w.cell? ⟨q.block, q.off + 9, none⟩ = some x.L
theorem row_at {w : World} {B k : Nat} {row : Value × List InsV} (h : rowOk w B row) {x : InsV} (hx : row.2[k]? = some x) : ∃ q ad c, InsAt w B row k q x ad c := by
  obtain ⟨⟨A, c, e, h1, h2, h3, h4⟩, hok⟩ := h
  obtain ⟨hk, rfl⟩ := List.getElem?_eq_some_iff.1 hx
  obtain ⟨ad, q, x, rfl, hq, hb, hx', hc⟩ := ins_at rfl h4 hk
  rw [hx] at hx'
  injection hx' with hx'
  subst hx'
  exact ⟨q, ad, c, e, hq, hb, hok _ (List.getElem_mem hk), hc 0 _ rfl, hc 1 _ rfl, hc 2 _ rfl, hc 3 _ rfl, hc 4 _ rfl, hc 5 _ rfl, hc 6 _ rfl, hc 7 _ rfl, hc 8 _ rfl, hc 9 _ rfl⟩
set_option maxRecDepth 100000 in
set_option maxHeartbeats 1600000 in
theorem ways_none {w : World} {B g : Nat} {C : CodeV} {G L P J : Value} {row : Value × List InsV} {loc : Value × List VarV} (H : Gs w B g C G L P J row loc) {k : Nat} {x : InsV} (hx : row.2[k]? = some x) (cells each : Int) (hc : countsOf (pNms C) (mineV loc) (pIns x) = none) :
    Calls Try.prog 13 #[.pointer (some ⟨g, 0, none⟩), .int .i64 (k : Int), .agg #[.int .i64 cells, .int .i64 each]] w (WaysPost none w) := by
  have h4 := H.c4
  have hg := H.hg
  have hB := H.hB
  have hk := (List.getElem?_eq_some_iff.1 hx).1
  obtain ⟨q, ad, c, HI⟩ := row_at H.rok hx
  have hlen := Sl.len H.rok.1
  unfold maxLen at hlen
  rw [HI.e] at h4
  have HH := Lib.hid H
  have HX := Lib.hid HI.hx
  obtain ⟨_, hq, hb, ⟨hop, ha, hxb, hc', hls, AL, cL, eL, _⟩, i0, i1, i2, i3, i4, i5, i6, i7, i8, i9⟩ := HI
  have hbw : q.block < w.heap.size := by omega
  clear hx H hls
  obtain ⟨op, a, b, c'', at', s, n, h, l, Lv, ls⟩ := x
  dsimp only at *
  subst eL
  have HC := Lib.hid hc
  clear hc
  go_enter Try.func13, Try.ntmps13
  repeat' (first | (with_reducible refine then_exit ?_) | (with_reducible refine then_ret ?_) | (with_reducible refine then_normal ?_) | (with_reducible refine inBlock_hit ?_) | ((with_reducible refine inBlock_miss ?_ ?_); (exact rfl)) | (with_reducible refine inBlock_ret ?_) | (with_reducible refine inBlock_normal ?_) | (go_big_may; (go_at_call 14; (with_reducible refine (counts_no (HH.out.below (by repeat' (first | (with_reducible exact Below.refl _ _) | (with_reducible assumption) | (with_reducible refine Below.drew ?_) | (with_reducible refine below_drewN ?_ _) | (with_reducible refine Below.alloc ?_ ?_ _) | (with_reducible exact Nat.le_refl _) | (simp; done) | (simp; omega)))) ⟨op, a, b, c'', at', s, n, h, l, .slice AL ls.length cL, ls⟩ (HX.out.below (Below.mono (by repeat' (first | (with_reducible exact Below.refl _ _) | (with_reducible assumption) | (with_reducible refine Below.drew ?_) | (with_reducible refine below_drewN ?_ _) | (with_reducible refine Below.alloc ?_ ?_ _) | (with_reducible exact Nat.le_refl _) | (simp; done) | (simp; omega))) hB)) HC.out).mono ?_); rintro e w1 ⟨⟨t, p, rfl⟩, b1⟩; have z1 := b1.size; (try simp at z1))) | go_values | go_skip | go_guarded | go_step | go_upon | go_back | (simp only [Int.not_lt, Int.not_le] at *; go_simp) | (go_values <;> (try go_simp)) | (go_ite <;> go_prune <;> (try go_simp)) | (split <;> (first | (rename_i hx; exact (hx _ rfl).elim) | go_prune)))
  (try simp only [Exit.inBlock, Exit.then]); refine bodyPost_ret (by simp [results, Try.results13, go_sem, *]; try rfl) rfl ?_
  exact ⟨rfl, by (repeat' (first | (with_reducible exact Below.refl _ _) | (refine Below.trans ?_ (Below.mono (by with_reducible assumption) ?_)) | (with_reducible exact Below.refl _ _) | (with_reducible refine below_drewN ?_ _) | (with_reducible refine Below.drew ?_) | (with_reducible refine Below.setCell ?_ ?_ _) | (with_reducible refine Below.alloc ?_ ?_ _) | (with_reducible assumption) | (simp; done) | (simp; omega) | omega))⟩
set_option maxRecDepth 100000 in
set_option maxHeartbeats 1600000 in
theorem ways_low {w : World} {B g : Nat} {C : CodeV} {G L P J : Value} {row : Value × List InsV} {loc : Value × List VarV} (H : Gs w B g C G L P J row loc) {k : Nat} {x : InsV} (hx : row.2[k]? = some x) (cells each : Int) {t p : Int} (hc : countsOf (pNms C) (mineV loc) (pIns x) = some (t, p)) (hlow : cells < t) :
    Calls Try.prog 13 #[.pointer (some ⟨g, 0, none⟩), .int .i64 (k : Int), .agg #[.int .i64 cells, .int .i64 each]] w (WaysPost none w) := by
  have h4 := H.c4
  have hg := H.hg
  have hB := H.hB
  have hk := (List.getElem?_eq_some_iff.1 hx).1
  obtain ⟨q, ad, c, HI⟩ := row_at H.rok hx
  have hlen := Sl.len H.rok.1
  unfold maxLen at hlen
  rw [HI.e] at h4
  have HH := Lib.hid H
  have HX := Lib.hid HI.hx
  obtain ⟨_, hq, hb, ⟨hop, ha, hxb, hc', hls, AL, cL, eL, _⟩, i0, i1, i2, i3, i4, i5, i6, i7, i8, i9⟩ := HI
  have hbw : q.block < w.heap.size := by omega
  clear hx H hls
  obtain ⟨op, a, b, c'', at', s, n, h, l, Lv, ls⟩ := x
  dsimp only at *
  subst eL
  have HC := Lib.hid hc
  clear hc
  go_enter Try.func13, Try.ntmps13
  repeat' (first | (with_reducible refine then_exit ?_) | (with_reducible refine then_ret ?_) | (with_reducible refine then_normal ?_) | (with_reducible refine inBlock_hit ?_) | ((with_reducible refine inBlock_miss ?_ ?_); (exact rfl)) | (with_reducible refine inBlock_ret ?_) | (with_reducible refine inBlock_normal ?_) | (go_big_may; (go_at_call 14; (with_reducible refine (counts_yes (HH.out.below (by repeat' (first | (with_reducible exact Below.refl _ _) | (with_reducible assumption) | (with_reducible refine Below.drew ?_) | (with_reducible refine below_drewN ?_ _) | (with_reducible refine Below.alloc ?_ ?_ _) | (with_reducible exact Nat.le_refl _) | (simp; done) | (simp; omega)))) ⟨op, a, b, c'', at', s, n, h, l, .slice AL ls.length cL, ls⟩ (HX.out.below (Below.mono (by repeat' (first | (with_reducible exact Below.refl _ _) | (with_reducible assumption) | (with_reducible refine Below.drew ?_) | (with_reducible refine below_drewN ?_ _) | (with_reducible refine Below.alloc ?_ ?_ _) | (with_reducible exact Nat.le_refl _) | (simp; done) | (simp; omega))) hB)) HC.out).mono ?_); rintro e w1 ⟨rfl, b1⟩; have z1 := b1.size; (try simp at z1); have m0 : w1.cell? ⟨w.heap.size, 0, none⟩ = some (.int .i64 cells) := (Below.cell b1 (by first | (simp; done) | (simp; omega))).trans (by simp (maxDischargeDepth := 12) [go_sem]); have m1 : w1.cell? ⟨w.heap.size, 1, none⟩ = some (.int .i64 each) := (Below.cell b1 (by first | (simp; done) | (simp; omega))).trans (by simp (maxDischargeDepth := 12) [go_sem]); have m2 : w1.cell? ⟨w.heap.size + 1, 0, none⟩ = some (.int .i64 op) := (Below.cell b1 (by first | (simp; done) | (simp; omega))).trans (by simp (maxDischargeDepth := 12) [go_sem]); have m3 : w1.cell? ⟨w.heap.size + 1, 2, none⟩ = some (.int .i64 b) := (Below.cell b1 (by first | (simp; done) | (simp; omega))).trans (by simp (maxDischargeDepth := 12) [go_sem]); have z2 : w.heap.size < w1.heap.size := (by omega); have z3 : w.heap.size + 1 < w1.heap.size := (by omega))) | go_values | go_skip | go_guarded | go_step | go_upon | go_back | (simp only [Int.not_lt, Int.not_le] at *; go_simp) | (go_values <;> (try go_simp)) | (go_ite <;> go_prune <;> (try go_simp)) | (split <;> (first | (rename_i hx; exact (hx _ rfl).elim) | go_prune)))
  (try simp only [Exit.inBlock, Exit.then]); refine bodyPost_ret (by simp [results, Try.results13, go_sem, *]; try rfl) rfl ?_
  exact ⟨rfl, by (repeat' (first | (with_reducible exact Below.refl _ _) | (refine Below.trans ?_ (Below.mono (by with_reducible assumption) ?_)) | (with_reducible exact Below.refl _ _) | (with_reducible refine below_drewN ?_ _) | (with_reducible refine Below.drew ?_) | (with_reducible refine Below.setCell ?_ ?_ _) | (with_reducible refine Below.alloc ?_ ?_ _) | (with_reducible assumption) | (simp; done) | (simp; omega) | omega))⟩
set_option maxRecDepth 100000 in
set_option maxHeartbeats 1600000 in
theorem ways_25 {w : World} {B g : Nat} {C : CodeV} {G L P J : Value} {row : Value × List InsV} {loc : Value × List VarV} (H : Gs w B g C G L P J row loc) {k : Nat} {x : InsV} (hx : row.2[k]? = some x) (cells each : Int) {t p : Int} (hc : countsOf (pNms C) (mineV loc) (pIns x) = some (t, p)) (hlow : ¬ cells < t) (c0 : 0 ≤ cells) (c1 : cells ≤ 1000) (e0 : 0 ≤ each) (e1 : each ≤ 1000) (t0 : 0 ≤ t) (p0 : 0 ≤ p) (p2 : p ≤ 2) (hop : x.op = 25) :
    Calls Try.prog 13 #[.pointer (some ⟨g, 0, none⟩), .int .i64 (k : Int), .agg #[.int .i64 cells, .int .i64 each]] w (WaysPost (some []) w) := by
  have h4 := H.c4
  have hg := H.hg
  have hB := H.hB
  have hk := (List.getElem?_eq_some_iff.1 hx).1
  obtain ⟨q, ad, c, HI⟩ := row_at H.rok hx
  have hlen := Sl.len H.rok.1
  unfold maxLen at hlen
  rw [HI.e] at h4
  have HH := Lib.hid H
  have HX := Lib.hid HI.hx
  obtain ⟨_, hq, hb, ⟨hopI, ha, hxb, hc', hls, AL, cL, eL, _⟩, i0, i1, i2, i3, i4, i5, i6, i7, i8, i9⟩ := HI
  have hbw : q.block < w.heap.size := by omega
  clear hx H hls
  obtain ⟨op, a, b, c'', at', s, n, h, l, Lv, ls⟩ := x
  dsimp only at *
  subst eL
  subst hop
  unfold I64 at hxb
  have HC := Lib.hid hc
  clear hc
  go_enter Try.func13, Try.ntmps13
  repeat' (first | (with_reducible refine then_exit ?_) | (with_reducible refine then_ret ?_) | (with_reducible refine then_normal ?_) | (with_reducible refine inBlock_hit ?_) | ((with_reducible refine inBlock_miss ?_ ?_); (exact rfl)) | (with_reducible refine inBlock_ret ?_) | (with_reducible refine inBlock_normal ?_) | (go_big_may; (go_at_call 14; (with_reducible refine (counts_yes (HH.out.below (by repeat' (first | (with_reducible exact Below.refl _ _) | (with_reducible assumption) | (with_reducible refine Below.drew ?_) | (with_reducible refine below_drewN ?_ _) | (with_reducible refine Below.alloc ?_ ?_ _) | (with_reducible exact Nat.le_refl _) | (simp; done) | (simp; omega)))) ⟨25, a, b, c'', at', s, n, h, l, .slice AL ls.length cL, ls⟩ (HX.out.below (Below.mono (by repeat' (first | (with_reducible exact Below.refl _ _) | (with_reducible assumption) | (with_reducible refine Below.drew ?_) | (with_reducible refine below_drewN ?_ _) | (with_reducible refine Below.alloc ?_ ?_ _) | (with_reducible exact Nat.le_refl _) | (simp; done) | (simp; omega))) hB)) HC.out).mono ?_); rintro e w1 ⟨rfl, b1⟩; have z1 := b1.size; (try simp at z1); have m0 : w1.cell? ⟨w.heap.size, 0, none⟩ = some (.int .i64 cells) := (Below.cell b1 (by first | (simp; done) | (simp; omega))).trans (by simp (maxDischargeDepth := 12) [go_sem]); have m1 : w1.cell? ⟨w.heap.size, 1, none⟩ = some (.int .i64 each) := (Below.cell b1 (by first | (simp; done) | (simp; omega))).trans (by simp (maxDischargeDepth := 12) [go_sem]); have m2 : w1.cell? ⟨w.heap.size + 1, 0, none⟩ = some (.int .i64 25) := (Below.cell b1 (by first | (simp; done) | (simp; omega))).trans (by simp (maxDischargeDepth := 12) [go_sem]); have m3 : w1.cell? ⟨w.heap.size + 1, 2, none⟩ = some (.int .i64 b) := (Below.cell b1 (by first | (simp; done) | (simp; omega))).trans (by simp (maxDischargeDepth := 12) [go_sem]); have z2 : w.heap.size < w1.heap.size := (by omega); have z3 : w.heap.size + 1 < w1.heap.size := (by omega))) | go_values | go_skip | go_guarded | go_step | go_upon | go_back | (simp only [Int.not_lt, Int.not_le] at *; go_simp) | (go_values <;> (try go_simp)) | (go_ite <;> go_prune <;> (try go_simp)) | (split <;> (first | (rename_i hx; exact (hx _ rfl).elim) | go_prune)))
  (try simp only [Exit.inBlock, Exit.then]); refine bodyPost_ret (by simp [results, Try.results13, go_sem, *]; try rfl) rfl ?_
  exact ⟨⟨_, rfl, .inl ⟨rfl, rfl⟩⟩, by (repeat' (first | (with_reducible exact Below.refl _ _) | (refine Below.trans ?_ (Below.mono (by with_reducible assumption) ?_)) | (with_reducible exact Below.refl _ _) | (with_reducible refine below_drewN ?_ _) | (with_reducible refine Below.drew ?_) | (with_reducible refine Below.setCell ?_ ?_ _) | (with_reducible refine Below.alloc ?_ ?_ _) | (with_reducible assumption) | (simp; done) | (simp; omega) | omega))⟩
set_option maxRecDepth 100000 in
set_option maxHeartbeats 1600000 in
theorem ways_27 {w : World} {B g : Nat} {C : CodeV} {G L P J : Value} {row : Value × List InsV} {loc : Value × List VarV} (H : Gs w B g C G L P J row loc) {k : Nat} {x : InsV} (hx : row.2[k]? = some x) (cells each : Int) {t p : Int} (hc : countsOf (pNms C) (mineV loc) (pIns x) = some (t, p)) (hlow : ¬ cells < t) (c0 : 0 ≤ cells) (c1 : cells ≤ 1000) (e0 : 0 ≤ each) (e1 : each ≤ 1000) (t0 : 0 ≤ t) (p0 : 0 ≤ p) (p2 : p ≤ 2) (hop : x.op = 27) :
    Calls Try.prog 13 #[.pointer (some ⟨g, 0, none⟩), .int .i64 (k : Int), .agg #[.int .i64 cells, .int .i64 each]] w (WaysPost (some []) w) := by
  have h4 := H.c4
  have hg := H.hg
  have hB := H.hB
  have hk := (List.getElem?_eq_some_iff.1 hx).1
  obtain ⟨q, ad, c, HI⟩ := row_at H.rok hx
  have hlen := Sl.len H.rok.1
  unfold maxLen at hlen
  rw [HI.e] at h4
  have HH := Lib.hid H
  have HX := Lib.hid HI.hx
  obtain ⟨_, hq, hb, ⟨hopI, ha, hxb, hc', hls, AL, cL, eL, _⟩, i0, i1, i2, i3, i4, i5, i6, i7, i8, i9⟩ := HI
  have hbw : q.block < w.heap.size := by omega
  clear hx H hls
  obtain ⟨op, a, b, c'', at', s, n, h, l, Lv, ls⟩ := x
  dsimp only at *
  subst eL
  subst hop
  unfold I64 at hxb
  have HC := Lib.hid hc
  clear hc
  go_enter Try.func13, Try.ntmps13
  repeat' (first | (with_reducible refine then_exit ?_) | (with_reducible refine then_ret ?_) | (with_reducible refine then_normal ?_) | (with_reducible refine inBlock_hit ?_) | ((with_reducible refine inBlock_miss ?_ ?_); (exact rfl)) | (with_reducible refine inBlock_ret ?_) | (with_reducible refine inBlock_normal ?_) | (go_big_may; (go_at_call 14; (with_reducible refine (counts_yes (HH.out.below (by repeat' (first | (with_reducible exact Below.refl _ _) | (with_reducible assumption) | (with_reducible refine Below.drew ?_) | (with_reducible refine below_drewN ?_ _) | (with_reducible refine Below.alloc ?_ ?_ _) | (with_reducible exact Nat.le_refl _) | (simp; done) | (simp; omega)))) ⟨27, a, b, c'', at', s, n, h, l, .slice AL ls.length cL, ls⟩ (HX.out.below (Below.mono (by repeat' (first | (with_reducible exact Below.refl _ _) | (with_reducible assumption) | (with_reducible refine Below.drew ?_) | (with_reducible refine below_drewN ?_ _) | (with_reducible refine Below.alloc ?_ ?_ _) | (with_reducible exact Nat.le_refl _) | (simp; done) | (simp; omega))) hB)) HC.out).mono ?_); rintro e w1 ⟨rfl, b1⟩; have z1 := b1.size; (try simp at z1); have m0 : w1.cell? ⟨w.heap.size, 0, none⟩ = some (.int .i64 cells) := (Below.cell b1 (by first | (simp; done) | (simp; omega))).trans (by simp (maxDischargeDepth := 12) [go_sem]); have m1 : w1.cell? ⟨w.heap.size, 1, none⟩ = some (.int .i64 each) := (Below.cell b1 (by first | (simp; done) | (simp; omega))).trans (by simp (maxDischargeDepth := 12) [go_sem]); have m2 : w1.cell? ⟨w.heap.size + 1, 0, none⟩ = some (.int .i64 27) := (Below.cell b1 (by first | (simp; done) | (simp; omega))).trans (by simp (maxDischargeDepth := 12) [go_sem]); have m3 : w1.cell? ⟨w.heap.size + 1, 2, none⟩ = some (.int .i64 b) := (Below.cell b1 (by first | (simp; done) | (simp; omega))).trans (by simp (maxDischargeDepth := 12) [go_sem]); have z2 : w.heap.size < w1.heap.size := (by omega); have z3 : w.heap.size + 1 < w1.heap.size := (by omega))) | go_values | go_skip | go_guarded | go_step | go_upon | go_back | (simp only [Int.not_lt, Int.not_le] at *; go_simp) | (go_values <;> (try go_simp)) | (go_ite <;> go_prune <;> (try go_simp)) | (split <;> (first | (rename_i hx; exact (hx _ rfl).elim) | go_prune)))
  (try simp only [Exit.inBlock, Exit.then]); refine bodyPost_ret (by simp [results, Try.results13, go_sem, *]; try rfl) rfl ?_
  exact ⟨⟨_, rfl, .inl ⟨rfl, rfl⟩⟩, by (repeat' (first | (with_reducible exact Below.refl _ _) | (refine Below.trans ?_ (Below.mono (by with_reducible assumption) ?_)) | (with_reducible exact Below.refl _ _) | (with_reducible refine below_drewN ?_ _) | (with_reducible refine Below.drew ?_) | (with_reducible refine Below.setCell ?_ ?_ _) | (with_reducible refine Below.alloc ?_ ?_ _) | (with_reducible assumption) | (simp; done) | (simp; omega) | omega))⟩
set_option maxRecDepth 100000 in
set_option maxHeartbeats 1600000 in
theorem ways_26 {w : World} {B g : Nat} {C : CodeV} {G L P J : Value} {row : Value × List InsV} {loc : Value × List VarV} (H : Gs w B g C G L P J row loc) {k : Nat} {x : InsV} (hx : row.2[k]? = some x) (cells each : Int) {t p : Int} (hc : countsOf (pNms C) (mineV loc) (pIns x) = some (t, p)) (hlow : ¬ cells < t) (c0 : 0 ≤ cells) (c1 : cells ≤ 1000) (e0 : 0 ≤ each) (e1 : each ≤ 1000) (t0 : 0 ≤ t) (p0 : 0 ≤ p) (p2 : p ≤ 2) (hop : x.op = 26) :
    Calls Try.prog 13 #[.pointer (some ⟨g, 0, none⟩), .int .i64 (k : Int), .agg #[.int .i64 cells, .int .i64 each]] w (WaysPost (some []) w) := by
  have h4 := H.c4
  have hg := H.hg
  have hB := H.hB
  have hk := (List.getElem?_eq_some_iff.1 hx).1
  obtain ⟨q, ad, c, HI⟩ := row_at H.rok hx
  have hlen := Sl.len H.rok.1
  unfold maxLen at hlen
  rw [HI.e] at h4
  have HH := Lib.hid H
  have HX := Lib.hid HI.hx
  obtain ⟨_, hq, hb, ⟨hopI, ha, hxb, hc', hls, AL, cL, eL, _⟩, i0, i1, i2, i3, i4, i5, i6, i7, i8, i9⟩ := HI
  have hbw : q.block < w.heap.size := by omega
  clear hx H hls
  obtain ⟨op, a, b, c'', at', s, n, h, l, Lv, ls⟩ := x
  dsimp only at *
  subst eL
  subst hop
  unfold I64 at hxb
  have HC := Lib.hid hc
  clear hc
  go_enter Try.func13, Try.ntmps13
  repeat' (first | (with_reducible refine then_exit ?_) | (with_reducible refine then_ret ?_) | (with_reducible refine then_normal ?_) | (with_reducible refine inBlock_hit ?_) | ((with_reducible refine inBlock_miss ?_ ?_); (exact rfl)) | (with_reducible refine inBlock_ret ?_) | (with_reducible refine inBlock_normal ?_) | (go_big_may; (go_at_call 14; (with_reducible refine (counts_yes (HH.out.below (by repeat' (first | (with_reducible exact Below.refl _ _) | (with_reducible assumption) | (with_reducible refine Below.drew ?_) | (with_reducible refine below_drewN ?_ _) | (with_reducible refine Below.alloc ?_ ?_ _) | (with_reducible exact Nat.le_refl _) | (simp; done) | (simp; omega)))) ⟨26, a, b, c'', at', s, n, h, l, .slice AL ls.length cL, ls⟩ (HX.out.below (Below.mono (by repeat' (first | (with_reducible exact Below.refl _ _) | (with_reducible assumption) | (with_reducible refine Below.drew ?_) | (with_reducible refine below_drewN ?_ _) | (with_reducible refine Below.alloc ?_ ?_ _) | (with_reducible exact Nat.le_refl _) | (simp; done) | (simp; omega))) hB)) HC.out).mono ?_); rintro e w1 ⟨rfl, b1⟩; have z1 := b1.size; (try simp at z1); have m0 : w1.cell? ⟨w.heap.size, 0, none⟩ = some (.int .i64 cells) := (Below.cell b1 (by first | (simp; done) | (simp; omega))).trans (by simp (maxDischargeDepth := 12) [go_sem]); have m1 : w1.cell? ⟨w.heap.size, 1, none⟩ = some (.int .i64 each) := (Below.cell b1 (by first | (simp; done) | (simp; omega))).trans (by simp (maxDischargeDepth := 12) [go_sem]); have m2 : w1.cell? ⟨w.heap.size + 1, 0, none⟩ = some (.int .i64 26) := (Below.cell b1 (by first | (simp; done) | (simp; omega))).trans (by simp (maxDischargeDepth := 12) [go_sem]); have m3 : w1.cell? ⟨w.heap.size + 1, 2, none⟩ = some (.int .i64 b) := (Below.cell b1 (by first | (simp; done) | (simp; omega))).trans (by simp (maxDischargeDepth := 12) [go_sem]); have z2 : w.heap.size < w1.heap.size := (by omega); have z3 : w.heap.size + 1 < w1.heap.size := (by omega))) | go_values | go_skip | go_guarded | go_step | go_upon | go_back | (simp only [Int.not_lt, Int.not_le] at *; go_simp) | (go_values <;> (try go_simp)) | (go_ite <;> go_prune <;> (try go_simp)) | (split <;> (first | (rename_i hx; exact (hx _ rfl).elim) | go_prune)))
  (try simp only [Exit.inBlock, Exit.then]); refine bodyPost_ret (by simp [results, Try.results13, go_sem, *]; try rfl) rfl ?_
  exact ⟨⟨_, rfl, .inl ⟨rfl, rfl⟩⟩, by (repeat' (first | (with_reducible exact Below.refl _ _) | (refine Below.trans ?_ (Below.mono (by with_reducible assumption) ?_)) | (with_reducible exact Below.refl _ _) | (with_reducible refine below_drewN ?_ _) | (with_reducible refine Below.drew ?_) | (with_reducible refine Below.setCell ?_ ?_ _) | (with_reducible refine Below.alloc ?_ ?_ _) | (with_reducible assumption) | (simp; done) | (simp; omega) | omega))⟩
set_option maxRecDepth 100000 in
set_option maxHeartbeats 1600000 in
theorem ways_21 {w : World} {B g : Nat} {C : CodeV} {G L P J : Value} {row : Value × List InsV} {loc : Value × List VarV} (H : Gs w B g C G L P J row loc) {k : Nat} {x : InsV} (hx : row.2[k]? = some x) (cells each : Int) {t p : Int} (hc : countsOf (pNms C) (mineV loc) (pIns x) = some (t, p)) (hlow : ¬ cells < t) (c0 : 0 ≤ cells) (c1 : cells ≤ 1000) (e0 : 0 ≤ each) (e1 : each ≤ 1000) (t0 : 0 ≤ t) (p0 : 0 ≤ p) (p2 : p ≤ 2) (hop : x.op = 21) :
    Calls Try.prog 13 #[.pointer (some ⟨g, 0, none⟩), .int .i64 (k : Int), .agg #[.int .i64 cells, .int .i64 each]] w (WaysPost (some [(x.b, cells - t + p, each)]) w) := by
  have h4 := H.c4
  have hg := H.hg
  have hB := H.hB
  have hk := (List.getElem?_eq_some_iff.1 hx).1
  obtain ⟨q, ad, c, HI⟩ := row_at H.rok hx
  have hlen := Sl.len H.rok.1
  unfold maxLen at hlen
  rw [HI.e] at h4
  have HH := Lib.hid H
  have HX := Lib.hid HI.hx
  obtain ⟨_, hq, hb, ⟨hopI, ha, hxb, hc', hls, AL, cL, eL, _⟩, i0, i1, i2, i3, i4, i5, i6, i7, i8, i9⟩ := HI
  have hbw : q.block < w.heap.size := by omega
  clear hx H hls
  obtain ⟨op, a, b, c'', at', s, n, h, l, Lv, ls⟩ := x
  dsimp only at *
  subst eL
  subst hop
  unfold I64 at hxb
  have HC := Lib.hid hc
  clear hc
  go_enter Try.func13, Try.ntmps13
  repeat' (first | (with_reducible refine then_exit ?_) | (with_reducible refine then_ret ?_) | (with_reducible refine then_normal ?_) | (with_reducible refine inBlock_hit ?_) | ((with_reducible refine inBlock_miss ?_ ?_); (exact rfl)) | (with_reducible refine inBlock_ret ?_) | (with_reducible refine inBlock_normal ?_) | (go_big_may; (go_at_call 14; (with_reducible refine (counts_yes (HH.out.below (by repeat' (first | (with_reducible exact Below.refl _ _) | (with_reducible assumption) | (with_reducible refine Below.drew ?_) | (with_reducible refine below_drewN ?_ _) | (with_reducible refine Below.alloc ?_ ?_ _) | (with_reducible exact Nat.le_refl _) | (simp; done) | (simp; omega)))) ⟨21, a, b, c'', at', s, n, h, l, .slice AL ls.length cL, ls⟩ (HX.out.below (Below.mono (by repeat' (first | (with_reducible exact Below.refl _ _) | (with_reducible assumption) | (with_reducible refine Below.drew ?_) | (with_reducible refine below_drewN ?_ _) | (with_reducible refine Below.alloc ?_ ?_ _) | (with_reducible exact Nat.le_refl _) | (simp; done) | (simp; omega))) hB)) HC.out).mono ?_); rintro e w1 ⟨rfl, b1⟩; have z1 := b1.size; (try simp at z1); have m0 : w1.cell? ⟨w.heap.size, 0, none⟩ = some (.int .i64 cells) := (Below.cell b1 (by first | (simp; done) | (simp; omega))).trans (by simp (maxDischargeDepth := 12) [go_sem]); have m1 : w1.cell? ⟨w.heap.size, 1, none⟩ = some (.int .i64 each) := (Below.cell b1 (by first | (simp; done) | (simp; omega))).trans (by simp (maxDischargeDepth := 12) [go_sem]); have m2 : w1.cell? ⟨w.heap.size + 1, 0, none⟩ = some (.int .i64 21) := (Below.cell b1 (by first | (simp; done) | (simp; omega))).trans (by simp (maxDischargeDepth := 12) [go_sem]); have m3 : w1.cell? ⟨w.heap.size + 1, 2, none⟩ = some (.int .i64 b) := (Below.cell b1 (by first | (simp; done) | (simp; omega))).trans (by simp (maxDischargeDepth := 12) [go_sem]); have z2 : w.heap.size < w1.heap.size := (by omega); have z3 : w.heap.size + 1 < w1.heap.size := (by omega))) | go_values | go_skip | go_guarded | go_step | go_upon | go_back | (simp only [Int.not_lt, Int.not_le] at *; go_simp) | (go_values <;> (try go_simp)) | (go_ite <;> go_prune <;> (try go_simp)) | (split <;> (first | (rename_i hx; exact (hx _ rfl).elim) | go_prune)))
  (try simp only [Exit.inBlock, Exit.then]); refine bodyPost_ret (by simp [results, Try.results13, go_sem, *]; try rfl) rfl ?_
  exact ⟨⟨_, rfl, way_new rfl (by simp)⟩, by (repeat' (first | (with_reducible exact Below.refl _ _) | (refine Below.trans ?_ (Below.mono (by with_reducible assumption) ?_)) | (with_reducible exact Below.refl _ _) | (with_reducible refine below_drewN ?_ _) | (with_reducible refine Below.drew ?_) | (with_reducible refine Below.setCell ?_ ?_ _) | (with_reducible refine Below.alloc ?_ ?_ _) | (with_reducible assumption) | (simp; done) | (simp; omega) | omega))⟩
set_option maxRecDepth 100000 in
set_option maxHeartbeats 1600000 in
theorem ways_23 {w : World} {B g : Nat} {C : CodeV} {G L P J : Value} {row : Value × List InsV} {loc : Value × List VarV} (H : Gs w B g C G L P J row loc) {k : Nat} {x : InsV} (hx : row.2[k]? = some x) (cells each : Int) {t p : Int} (hc : countsOf (pNms C) (mineV loc) (pIns x) = some (t, p)) (hlow : ¬ cells < t) (c0 : 0 ≤ cells) (c1 : cells ≤ 1000) (e0 : 0 ≤ each) (e1 : each ≤ 1000) (t0 : 0 ≤ t) (p0 : 0 ≤ p) (p2 : p ≤ 2) (hop : x.op = 23) :
    Calls Try.prog 13 #[.pointer (some ⟨g, 0, none⟩), .int .i64 (k : Int), .agg #[.int .i64 cells, .int .i64 each]] w (WaysPost (some [(k + 1, cells - t + p, each), (x.b, cells - t, each)]) w) := by
  have h4 := H.c4
  have hg := H.hg
  have hB := H.hB
  have hk := (List.getElem?_eq_some_iff.1 hx).1
  obtain ⟨q, ad, c, HI⟩ := row_at H.rok hx
  have hlen := Sl.len H.rok.1
  unfold maxLen at hlen
  rw [HI.e] at h4
  have HH := Lib.hid H
  have HX := Lib.hid HI.hx
  obtain ⟨_, hq, hb, ⟨hopI, ha, hxb, hc', hls, AL, cL, eL, _⟩, i0, i1, i2, i3, i4, i5, i6, i7, i8, i9⟩ := HI
  have hbw : q.block < w.heap.size := by omega
  clear hx H hls
  obtain ⟨op, a, b, c'', at', s, n, h, l, Lv, ls⟩ := x
  dsimp only at *
  subst eL
  subst hop
  unfold I64 at hxb
  have HC := Lib.hid hc
  clear hc
  go_enter Try.func13, Try.ntmps13
  repeat' (first | (with_reducible refine then_exit ?_) | (with_reducible refine then_ret ?_) | (with_reducible refine then_normal ?_) | (with_reducible refine inBlock_hit ?_) | ((with_reducible refine inBlock_miss ?_ ?_); (exact rfl)) | (with_reducible refine inBlock_ret ?_) | (with_reducible refine inBlock_normal ?_) | (go_big_may; (go_at_call 14; (with_reducible refine (counts_yes (HH.out.below (by repeat' (first | (with_reducible exact Below.refl _ _) | (with_reducible assumption) | (with_reducible refine Below.drew ?_) | (with_reducible refine below_drewN ?_ _) | (with_reducible refine Below.alloc ?_ ?_ _) | (with_reducible exact Nat.le_refl _) | (simp; done) | (simp; omega)))) ⟨23, a, b, c'', at', s, n, h, l, .slice AL ls.length cL, ls⟩ (HX.out.below (Below.mono (by repeat' (first | (with_reducible exact Below.refl _ _) | (with_reducible assumption) | (with_reducible refine Below.drew ?_) | (with_reducible refine below_drewN ?_ _) | (with_reducible refine Below.alloc ?_ ?_ _) | (with_reducible exact Nat.le_refl _) | (simp; done) | (simp; omega))) hB)) HC.out).mono ?_); rintro e w1 ⟨rfl, b1⟩; have z1 := b1.size; (try simp at z1); have m0 : w1.cell? ⟨w.heap.size, 0, none⟩ = some (.int .i64 cells) := (Below.cell b1 (by first | (simp; done) | (simp; omega))).trans (by simp (maxDischargeDepth := 12) [go_sem]); have m1 : w1.cell? ⟨w.heap.size, 1, none⟩ = some (.int .i64 each) := (Below.cell b1 (by first | (simp; done) | (simp; omega))).trans (by simp (maxDischargeDepth := 12) [go_sem]); have m2 : w1.cell? ⟨w.heap.size + 1, 0, none⟩ = some (.int .i64 23) := (Below.cell b1 (by first | (simp; done) | (simp; omega))).trans (by simp (maxDischargeDepth := 12) [go_sem]); have m3 : w1.cell? ⟨w.heap.size + 1, 2, none⟩ = some (.int .i64 b) := (Below.cell b1 (by first | (simp; done) | (simp; omega))).trans (by simp (maxDischargeDepth := 12) [go_sem]); have z2 : w.heap.size < w1.heap.size := (by omega); have z3 : w.heap.size + 1 < w1.heap.size := (by omega))) | go_values | go_skip | go_guarded | go_step | go_upon | go_back | (simp only [Int.not_lt, Int.not_le] at *; go_simp) | (go_values <;> (try go_simp)) | (go_ite <;> go_prune <;> (try go_simp)) | (split <;> (first | (rename_i hx; exact (hx _ rfl).elim) | go_prune)))
  (try simp only [Exit.inBlock, Exit.then]); refine bodyPost_ret (by simp [results, Try.results13, go_sem, *]; try rfl) rfl ?_
  exact ⟨⟨_, rfl, way_new rfl (by simp)⟩, by (repeat' (first | (with_reducible exact Below.refl _ _) | (refine Below.trans ?_ (Below.mono (by with_reducible assumption) ?_)) | (with_reducible exact Below.refl _ _) | (with_reducible refine below_drewN ?_ _) | (with_reducible refine Below.drew ?_) | (with_reducible refine Below.setCell ?_ ?_ _) | (with_reducible refine Below.alloc ?_ ?_ _) | (with_reducible assumption) | (simp; done) | (simp; omega) | omega))⟩
set_option maxRecDepth 100000 in
set_option maxHeartbeats 1600000 in
theorem ways_22 {w : World} {B g : Nat} {C : CodeV} {G L P J : Value} {row : Value × List InsV} {loc : Value × List VarV} (H : Gs w B g C G L P J row loc) {k : Nat} {x : InsV} (hx : row.2[k]? = some x) (cells each : Int) {t p : Int} (hc : countsOf (pNms C) (mineV loc) (pIns x) = some (t, p)) (hlow : ¬ cells < t) (c0 : 0 ≤ cells) (c1 : cells ≤ 1000) (e0 : 0 ≤ each) (e1 : each ≤ 1000) (t0 : 0 ≤ t) (p0 : 0 ≤ p) (p2 : p ≤ 2) (hop : x.op = 22) :
    Calls Try.prog 13 #[.pointer (some ⟨g, 0, none⟩), .int .i64 (k : Int), .agg #[.int .i64 cells, .int .i64 each]] w (WaysPost (some [(k + 1, cells - t + p, each), (x.b, cells - t, each)]) w) := by
  have h4 := H.c4
  have hg := H.hg
  have hB := H.hB
  have hk := (List.getElem?_eq_some_iff.1 hx).1
  obtain ⟨q, ad, c, HI⟩ := row_at H.rok hx
  have hlen := Sl.len H.rok.1
  unfold maxLen at hlen
  rw [HI.e] at h4
  have HH := Lib.hid H
  have HX := Lib.hid HI.hx
  obtain ⟨_, hq, hb, ⟨hopI, ha, hxb, hc', hls, AL, cL, eL, _⟩, i0, i1, i2, i3, i4, i5, i6, i7, i8, i9⟩ := HI
  have hbw : q.block < w.heap.size := by omega
  clear hx H hls
  obtain ⟨op, a, b, c'', at', s, n, h, l, Lv, ls⟩ := x
  dsimp only at *
  subst eL
  subst hop
  unfold I64 at hxb
  have HC := Lib.hid hc
  clear hc
  go_enter Try.func13, Try.ntmps13
  repeat' (first | (with_reducible refine then_exit ?_) | (with_reducible refine then_ret ?_) | (with_reducible refine then_normal ?_) | (with_reducible refine inBlock_hit ?_) | ((with_reducible refine inBlock_miss ?_ ?_); (exact rfl)) | (with_reducible refine inBlock_ret ?_) | (with_reducible refine inBlock_normal ?_) | (go_big_may; (go_at_call 14; (with_reducible refine (counts_yes (HH.out.below (by repeat' (first | (with_reducible exact Below.refl _ _) | (with_reducible assumption) | (with_reducible refine Below.drew ?_) | (with_reducible refine below_drewN ?_ _) | (with_reducible refine Below.alloc ?_ ?_ _) | (with_reducible exact Nat.le_refl _) | (simp; done) | (simp; omega)))) ⟨22, a, b, c'', at', s, n, h, l, .slice AL ls.length cL, ls⟩ (HX.out.below (Below.mono (by repeat' (first | (with_reducible exact Below.refl _ _) | (with_reducible assumption) | (with_reducible refine Below.drew ?_) | (with_reducible refine below_drewN ?_ _) | (with_reducible refine Below.alloc ?_ ?_ _) | (with_reducible exact Nat.le_refl _) | (simp; done) | (simp; omega))) hB)) HC.out).mono ?_); rintro e w1 ⟨rfl, b1⟩; have z1 := b1.size; (try simp at z1); have m0 : w1.cell? ⟨w.heap.size, 0, none⟩ = some (.int .i64 cells) := (Below.cell b1 (by first | (simp; done) | (simp; omega))).trans (by simp (maxDischargeDepth := 12) [go_sem]); have m1 : w1.cell? ⟨w.heap.size, 1, none⟩ = some (.int .i64 each) := (Below.cell b1 (by first | (simp; done) | (simp; omega))).trans (by simp (maxDischargeDepth := 12) [go_sem]); have m2 : w1.cell? ⟨w.heap.size + 1, 0, none⟩ = some (.int .i64 22) := (Below.cell b1 (by first | (simp; done) | (simp; omega))).trans (by simp (maxDischargeDepth := 12) [go_sem]); have m3 : w1.cell? ⟨w.heap.size + 1, 2, none⟩ = some (.int .i64 b) := (Below.cell b1 (by first | (simp; done) | (simp; omega))).trans (by simp (maxDischargeDepth := 12) [go_sem]); have z2 : w.heap.size < w1.heap.size := (by omega); have z3 : w.heap.size + 1 < w1.heap.size := (by omega))) | go_values | go_skip | go_guarded | go_step | go_upon | go_back | (simp only [Int.not_lt, Int.not_le] at *; go_simp) | (go_values <;> (try go_simp)) | (go_ite <;> go_prune <;> (try go_simp)) | (split <;> (first | (rename_i hx; exact (hx _ rfl).elim) | go_prune)))
  (try simp only [Exit.inBlock, Exit.then]); refine bodyPost_ret (by simp [results, Try.results13, go_sem, *]; try rfl) rfl ?_
  exact ⟨⟨_, rfl, way_new rfl (by simp)⟩, by (repeat' (first | (with_reducible exact Below.refl _ _) | (refine Below.trans ?_ (Below.mono (by with_reducible assumption) ?_)) | (with_reducible exact Below.refl _ _) | (with_reducible refine below_drewN ?_ _) | (with_reducible refine Below.drew ?_) | (with_reducible refine Below.setCell ?_ ?_ _) | (with_reducible refine Below.alloc ?_ ?_ _) | (with_reducible assumption) | (simp; done) | (simp; omega) | omega))⟩
set_option maxRecDepth 100000 in
set_option maxHeartbeats 1600000 in
theorem ways_34 {w : World} {B g : Nat} {C : CodeV} {G L P J : Value} {row : Value × List InsV} {loc : Value × List VarV} (H : Gs w B g C G L P J row loc) {k : Nat} {x : InsV} (hx : row.2[k]? = some x) (cells each : Int) {t p : Int} (hc : countsOf (pNms C) (mineV loc) (pIns x) = some (t, p)) (hlow : ¬ cells < t) (c0 : 0 ≤ cells) (c1 : cells ≤ 1000) (e0 : 0 ≤ each) (e1 : each ≤ 1000) (t0 : 0 ≤ t) (p0 : 0 ≤ p) (p2 : p ≤ 2) (hop : x.op = 34) :
    Calls Try.prog 13 #[.pointer (some ⟨g, 0, none⟩), .int .i64 (k : Int), .agg #[.int .i64 cells, .int .i64 each]] w (WaysPost (some [(k + 1, cells - t + p, each), (x.b, cells - t, each - 1)]) w) := by
  have h4 := H.c4
  have hg := H.hg
  have hB := H.hB
  have hk := (List.getElem?_eq_some_iff.1 hx).1
  obtain ⟨q, ad, c, HI⟩ := row_at H.rok hx
  have hlen := Sl.len H.rok.1
  unfold maxLen at hlen
  rw [HI.e] at h4
  have HH := Lib.hid H
  have HX := Lib.hid HI.hx
  obtain ⟨_, hq, hb, ⟨hopI, ha, hxb, hc', hls, AL, cL, eL, _⟩, i0, i1, i2, i3, i4, i5, i6, i7, i8, i9⟩ := HI
  have hbw : q.block < w.heap.size := by omega
  clear hx H hls
  obtain ⟨op, a, b, c'', at', s, n, h, l, Lv, ls⟩ := x
  dsimp only at *
  subst eL
  subst hop
  unfold I64 at hxb
  have HC := Lib.hid hc
  clear hc
  go_enter Try.func13, Try.ntmps13
  repeat' (first | (with_reducible refine then_exit ?_) | (with_reducible refine then_ret ?_) | (with_reducible refine then_normal ?_) | (with_reducible refine inBlock_hit ?_) | ((with_reducible refine inBlock_miss ?_ ?_); (exact rfl)) | (with_reducible refine inBlock_ret ?_) | (with_reducible refine inBlock_normal ?_) | (go_big_may; (go_at_call 14; (with_reducible refine (counts_yes (HH.out.below (by repeat' (first | (with_reducible exact Below.refl _ _) | (with_reducible assumption) | (with_reducible refine Below.drew ?_) | (with_reducible refine below_drewN ?_ _) | (with_reducible refine Below.alloc ?_ ?_ _) | (with_reducible exact Nat.le_refl _) | (simp; done) | (simp; omega)))) ⟨34, a, b, c'', at', s, n, h, l, .slice AL ls.length cL, ls⟩ (HX.out.below (Below.mono (by repeat' (first | (with_reducible exact Below.refl _ _) | (with_reducible assumption) | (with_reducible refine Below.drew ?_) | (with_reducible refine below_drewN ?_ _) | (with_reducible refine Below.alloc ?_ ?_ _) | (with_reducible exact Nat.le_refl _) | (simp; done) | (simp; omega))) hB)) HC.out).mono ?_); rintro e w1 ⟨rfl, b1⟩; have z1 := b1.size; (try simp at z1); have m0 : w1.cell? ⟨w.heap.size, 0, none⟩ = some (.int .i64 cells) := (Below.cell b1 (by first | (simp; done) | (simp; omega))).trans (by simp (maxDischargeDepth := 12) [go_sem]); have m1 : w1.cell? ⟨w.heap.size, 1, none⟩ = some (.int .i64 each) := (Below.cell b1 (by first | (simp; done) | (simp; omega))).trans (by simp (maxDischargeDepth := 12) [go_sem]); have m2 : w1.cell? ⟨w.heap.size + 1, 0, none⟩ = some (.int .i64 34) := (Below.cell b1 (by first | (simp; done) | (simp; omega))).trans (by simp (maxDischargeDepth := 12) [go_sem]); have m3 : w1.cell? ⟨w.heap.size + 1, 2, none⟩ = some (.int .i64 b) := (Below.cell b1 (by first | (simp; done) | (simp; omega))).trans (by simp (maxDischargeDepth := 12) [go_sem]); have z2 : w.heap.size < w1.heap.size := (by omega); have z3 : w.heap.size + 1 < w1.heap.size := (by omega))) | go_values | go_skip | go_guarded | go_step | go_upon | go_back | (simp only [Int.not_lt, Int.not_le] at *; go_simp) | (go_values <;> (try go_simp)) | (go_ite <;> go_prune <;> (try go_simp)) | (split <;> (first | (rename_i hx; exact (hx _ rfl).elim) | go_prune)))
  (try simp only [Exit.inBlock, Exit.then]); refine bodyPost_ret (by simp [results, Try.results13, go_sem, *]; try rfl) rfl ?_
  exact ⟨⟨_, rfl, way_new rfl (by simp)⟩, by (repeat' (first | (with_reducible exact Below.refl _ _) | (refine Below.trans ?_ (Below.mono (by with_reducible assumption) ?_)) | (with_reducible exact Below.refl _ _) | (with_reducible refine below_drewN ?_ _) | (with_reducible refine Below.drew ?_) | (with_reducible refine Below.setCell ?_ ?_ _) | (with_reducible refine Below.alloc ?_ ?_ _) | (with_reducible assumption) | (simp; done) | (simp; omega) | omega))⟩
set_option maxRecDepth 100000 in
set_option maxHeartbeats 1600000 in
theorem ways_36 {w : World} {B g : Nat} {C : CodeV} {G L P J : Value} {row : Value × List InsV} {loc : Value × List VarV} (H : Gs w B g C G L P J row loc) {k : Nat} {x : InsV} (hx : row.2[k]? = some x) (cells each : Int) {t p : Int} (hc : countsOf (pNms C) (mineV loc) (pIns x) = some (t, p)) (hlow : ¬ cells < t) (c0 : 0 ≤ cells) (c1 : cells ≤ 1000) (e0 : 0 ≤ each) (e1 : each ≤ 1000) (t0 : 0 ≤ t) (p0 : 0 ≤ p) (p2 : p ≤ 2) (hop : x.op = 36) :
    Calls Try.prog 13 #[.pointer (some ⟨g, 0, none⟩), .int .i64 (k : Int), .agg #[.int .i64 cells, .int .i64 each]] w (WaysPost (some [(k + 1, cells - t + p, each), (x.b, cells - t + 1, each)]) w) := by
  have h4 := H.c4
  have hg := H.hg
  have hB := H.hB
  have hk := (List.getElem?_eq_some_iff.1 hx).1
  obtain ⟨q, ad, c, HI⟩ := row_at H.rok hx
  have hlen := Sl.len H.rok.1
  unfold maxLen at hlen
  rw [HI.e] at h4
  have HH := Lib.hid H
  have HX := Lib.hid HI.hx
  obtain ⟨_, hq, hb, ⟨hopI, ha, hxb, hc', hls, AL, cL, eL, _⟩, i0, i1, i2, i3, i4, i5, i6, i7, i8, i9⟩ := HI
  have hbw : q.block < w.heap.size := by omega
  clear hx H hls
  obtain ⟨op, a, b, c'', at', s, n, h, l, Lv, ls⟩ := x
  dsimp only at *
  subst eL
  subst hop
  unfold I64 at hxb
  have HC := Lib.hid hc
  clear hc
  go_enter Try.func13, Try.ntmps13
  repeat' (first | (with_reducible refine then_exit ?_) | (with_reducible refine then_ret ?_) | (with_reducible refine then_normal ?_) | (with_reducible refine inBlock_hit ?_) | ((with_reducible refine inBlock_miss ?_ ?_); (exact rfl)) | (with_reducible refine inBlock_ret ?_) | (with_reducible refine inBlock_normal ?_) | (go_big_may; (go_at_call 14; (with_reducible refine (counts_yes (HH.out.below (by repeat' (first | (with_reducible exact Below.refl _ _) | (with_reducible assumption) | (with_reducible refine Below.drew ?_) | (with_reducible refine below_drewN ?_ _) | (with_reducible refine Below.alloc ?_ ?_ _) | (with_reducible exact Nat.le_refl _) | (simp; done) | (simp; omega)))) ⟨36, a, b, c'', at', s, n, h, l, .slice AL ls.length cL, ls⟩ (HX.out.below (Below.mono (by repeat' (first | (with_reducible exact Below.refl _ _) | (with_reducible assumption) | (with_reducible refine Below.drew ?_) | (with_reducible refine below_drewN ?_ _) | (with_reducible refine Below.alloc ?_ ?_ _) | (with_reducible exact Nat.le_refl _) | (simp; done) | (simp; omega))) hB)) HC.out).mono ?_); rintro e w1 ⟨rfl, b1⟩; have z1 := b1.size; (try simp at z1); have m0 : w1.cell? ⟨w.heap.size, 0, none⟩ = some (.int .i64 cells) := (Below.cell b1 (by first | (simp; done) | (simp; omega))).trans (by simp (maxDischargeDepth := 12) [go_sem]); have m1 : w1.cell? ⟨w.heap.size, 1, none⟩ = some (.int .i64 each) := (Below.cell b1 (by first | (simp; done) | (simp; omega))).trans (by simp (maxDischargeDepth := 12) [go_sem]); have m2 : w1.cell? ⟨w.heap.size + 1, 0, none⟩ = some (.int .i64 36) := (Below.cell b1 (by first | (simp; done) | (simp; omega))).trans (by simp (maxDischargeDepth := 12) [go_sem]); have m3 : w1.cell? ⟨w.heap.size + 1, 2, none⟩ = some (.int .i64 b) := (Below.cell b1 (by first | (simp; done) | (simp; omega))).trans (by simp (maxDischargeDepth := 12) [go_sem]); have z2 : w.heap.size < w1.heap.size := (by omega); have z3 : w.heap.size + 1 < w1.heap.size := (by omega))) | go_values | go_skip | go_guarded | go_step | go_upon | go_back | (simp only [Int.not_lt, Int.not_le] at *; go_simp) | (go_values <;> (try go_simp)) | (go_ite <;> go_prune <;> (try go_simp)) | (split <;> (first | (rename_i hx; exact (hx _ rfl).elim) | go_prune)))
  (try simp only [Exit.inBlock, Exit.then]); refine bodyPost_ret (by simp [results, Try.results13, go_sem, *]; try rfl) rfl ?_
  exact ⟨⟨_, rfl, way_new rfl (by simp)⟩, by (repeat' (first | (with_reducible exact Below.refl _ _) | (refine Below.trans ?_ (Below.mono (by with_reducible assumption) ?_)) | (with_reducible exact Below.refl _ _) | (with_reducible refine below_drewN ?_ _) | (with_reducible refine Below.drew ?_) | (with_reducible refine Below.setCell ?_ ?_ _) | (with_reducible refine Below.alloc ?_ ?_ _) | (with_reducible assumption) | (simp; done) | (simp; omega) | omega))⟩
set_option maxRecDepth 100000 in
set_option maxHeartbeats 1600000 in
theorem ways_33 {w : World} {B g : Nat} {C : CodeV} {G L P J : Value} {row : Value × List InsV} {loc : Value × List VarV} (H : Gs w B g C G L P J row loc) {k : Nat} {x : InsV} (hx : row.2[k]? = some x) (cells each : Int) {t p : Int} (hc : countsOf (pNms C) (mineV loc) (pIns x) = some (t, p)) (hlow : ¬ cells < t) (c0 : 0 ≤ cells) (c1 : cells ≤ 1000) (e0 : 0 ≤ each) (e1 : each ≤ 1000) (t0 : 0 ≤ t) (p0 : 0 ≤ p) (p2 : p ≤ 2) (hop : x.op = 33) :
    Calls Try.prog 13 #[.pointer (some ⟨g, 0, none⟩), .int .i64 (k : Int), .agg #[.int .i64 cells, .int .i64 each]] w (WaysPost (some [(k + 1, cells - t + p, each + 1)]) w) := by
  have h4 := H.c4
  have hg := H.hg
  have hB := H.hB
  have hk := (List.getElem?_eq_some_iff.1 hx).1
  obtain ⟨q, ad, c, HI⟩ := row_at H.rok hx
  have hlen := Sl.len H.rok.1
  unfold maxLen at hlen
  rw [HI.e] at h4
  have HH := Lib.hid H
  have HX := Lib.hid HI.hx
  obtain ⟨_, hq, hb, ⟨hopI, ha, hxb, hc', hls, AL, cL, eL, _⟩, i0, i1, i2, i3, i4, i5, i6, i7, i8, i9⟩ := HI
  have hbw : q.block < w.heap.size := by omega
  clear hx H hls
  obtain ⟨op, a, b, c'', at', s, n, h, l, Lv, ls⟩ := x
  dsimp only at *
  subst eL
  subst hop
  unfold I64 at hxb
  have HC := Lib.hid hc
  clear hc
  go_enter Try.func13, Try.ntmps13
  repeat' (first | (with_reducible refine then_exit ?_) | (with_reducible refine then_ret ?_) | (with_reducible refine then_normal ?_) | (with_reducible refine inBlock_hit ?_) | ((with_reducible refine inBlock_miss ?_ ?_); (exact rfl)) | (with_reducible refine inBlock_ret ?_) | (with_reducible refine inBlock_normal ?_) | (go_big_may; (go_at_call 14; (with_reducible refine (counts_yes (HH.out.below (by repeat' (first | (with_reducible exact Below.refl _ _) | (with_reducible assumption) | (with_reducible refine Below.drew ?_) | (with_reducible refine below_drewN ?_ _) | (with_reducible refine Below.alloc ?_ ?_ _) | (with_reducible exact Nat.le_refl _) | (simp; done) | (simp; omega)))) ⟨33, a, b, c'', at', s, n, h, l, .slice AL ls.length cL, ls⟩ (HX.out.below (Below.mono (by repeat' (first | (with_reducible exact Below.refl _ _) | (with_reducible assumption) | (with_reducible refine Below.drew ?_) | (with_reducible refine below_drewN ?_ _) | (with_reducible refine Below.alloc ?_ ?_ _) | (with_reducible exact Nat.le_refl _) | (simp; done) | (simp; omega))) hB)) HC.out).mono ?_); rintro e w1 ⟨rfl, b1⟩; have z1 := b1.size; (try simp at z1); have m0 : w1.cell? ⟨w.heap.size, 0, none⟩ = some (.int .i64 cells) := (Below.cell b1 (by first | (simp; done) | (simp; omega))).trans (by simp (maxDischargeDepth := 12) [go_sem]); have m1 : w1.cell? ⟨w.heap.size, 1, none⟩ = some (.int .i64 each) := (Below.cell b1 (by first | (simp; done) | (simp; omega))).trans (by simp (maxDischargeDepth := 12) [go_sem]); have m2 : w1.cell? ⟨w.heap.size + 1, 0, none⟩ = some (.int .i64 33) := (Below.cell b1 (by first | (simp; done) | (simp; omega))).trans (by simp (maxDischargeDepth := 12) [go_sem]); have m3 : w1.cell? ⟨w.heap.size + 1, 2, none⟩ = some (.int .i64 b) := (Below.cell b1 (by first | (simp; done) | (simp; omega))).trans (by simp (maxDischargeDepth := 12) [go_sem]); have z2 : w.heap.size < w1.heap.size := (by omega); have z3 : w.heap.size + 1 < w1.heap.size := (by omega))) | go_values | go_skip | go_guarded | go_step | go_upon | go_back | (simp only [Int.not_lt, Int.not_le] at *; go_simp) | (go_values <;> (try go_simp)) | (go_ite <;> go_prune <;> (try go_simp)) | (split <;> (first | (rename_i hx; exact (hx _ rfl).elim) | go_prune)))
  (try simp only [Exit.inBlock, Exit.then]); refine bodyPost_ret (by simp [results, Try.results13, go_sem, *]; try rfl) rfl ?_
  exact ⟨⟨_, rfl, way_new rfl (by simp)⟩, by (repeat' (first | (with_reducible exact Below.refl _ _) | (refine Below.trans ?_ (Below.mono (by with_reducible assumption) ?_)) | (with_reducible exact Below.refl _ _) | (with_reducible refine below_drewN ?_ _) | (with_reducible refine Below.drew ?_) | (with_reducible refine Below.setCell ?_ ?_ _) | (with_reducible refine Below.alloc ?_ ?_ _) | (with_reducible assumption) | (simp; done) | (simp; omega) | omega))⟩
set_option maxRecDepth 100000 in
set_option maxHeartbeats 1600000 in
theorem ways_35 {w : World} {B g : Nat} {C : CodeV} {G L P J : Value} {row : Value × List InsV} {loc : Value × List VarV} (H : Gs w B g C G L P J row loc) {k : Nat} {x : InsV} (hx : row.2[k]? = some x) (cells each : Int) {t p : Int} (hc : countsOf (pNms C) (mineV loc) (pIns x) = some (t, p)) (hlow : ¬ cells < t) (c0 : 0 ≤ cells) (c1 : cells ≤ 1000) (e0 : 0 ≤ each) (e1 : each ≤ 1000) (t0 : 0 ≤ t) (p0 : 0 ≤ p) (p2 : p ≤ 2) (hop : x.op = 35) :
    Calls Try.prog 13 #[.pointer (some ⟨g, 0, none⟩), .int .i64 (k : Int), .agg #[.int .i64 cells, .int .i64 each]] w (WaysPost (some [(k + 1, cells - t + p, each - 1)]) w) := by
  have h4 := H.c4
  have hg := H.hg
  have hB := H.hB
  have hk := (List.getElem?_eq_some_iff.1 hx).1
  obtain ⟨q, ad, c, HI⟩ := row_at H.rok hx
  have hlen := Sl.len H.rok.1
  unfold maxLen at hlen
  rw [HI.e] at h4
  have HH := Lib.hid H
  have HX := Lib.hid HI.hx
  obtain ⟨_, hq, hb, ⟨hopI, ha, hxb, hc', hls, AL, cL, eL, _⟩, i0, i1, i2, i3, i4, i5, i6, i7, i8, i9⟩ := HI
  have hbw : q.block < w.heap.size := by omega
  clear hx H hls
  obtain ⟨op, a, b, c'', at', s, n, h, l, Lv, ls⟩ := x
  dsimp only at *
  subst eL
  subst hop
  unfold I64 at hxb
  have HC := Lib.hid hc
  clear hc
  go_enter Try.func13, Try.ntmps13
  repeat' (first | (with_reducible refine then_exit ?_) | (with_reducible refine then_ret ?_) | (with_reducible refine then_normal ?_) | (with_reducible refine inBlock_hit ?_) | ((with_reducible refine inBlock_miss ?_ ?_); (exact rfl)) | (with_reducible refine inBlock_ret ?_) | (with_reducible refine inBlock_normal ?_) | (go_big_may; (go_at_call 14; (with_reducible refine (counts_yes (HH.out.below (by repeat' (first | (with_reducible exact Below.refl _ _) | (with_reducible assumption) | (with_reducible refine Below.drew ?_) | (with_reducible refine below_drewN ?_ _) | (with_reducible refine Below.alloc ?_ ?_ _) | (with_reducible exact Nat.le_refl _) | (simp; done) | (simp; omega)))) ⟨35, a, b, c'', at', s, n, h, l, .slice AL ls.length cL, ls⟩ (HX.out.below (Below.mono (by repeat' (first | (with_reducible exact Below.refl _ _) | (with_reducible assumption) | (with_reducible refine Below.drew ?_) | (with_reducible refine below_drewN ?_ _) | (with_reducible refine Below.alloc ?_ ?_ _) | (with_reducible exact Nat.le_refl _) | (simp; done) | (simp; omega))) hB)) HC.out).mono ?_); rintro e w1 ⟨rfl, b1⟩; have z1 := b1.size; (try simp at z1); have m0 : w1.cell? ⟨w.heap.size, 0, none⟩ = some (.int .i64 cells) := (Below.cell b1 (by first | (simp; done) | (simp; omega))).trans (by simp (maxDischargeDepth := 12) [go_sem]); have m1 : w1.cell? ⟨w.heap.size, 1, none⟩ = some (.int .i64 each) := (Below.cell b1 (by first | (simp; done) | (simp; omega))).trans (by simp (maxDischargeDepth := 12) [go_sem]); have m2 : w1.cell? ⟨w.heap.size + 1, 0, none⟩ = some (.int .i64 35) := (Below.cell b1 (by first | (simp; done) | (simp; omega))).trans (by simp (maxDischargeDepth := 12) [go_sem]); have m3 : w1.cell? ⟨w.heap.size + 1, 2, none⟩ = some (.int .i64 b) := (Below.cell b1 (by first | (simp; done) | (simp; omega))).trans (by simp (maxDischargeDepth := 12) [go_sem]); have z2 : w.heap.size < w1.heap.size := (by omega); have z3 : w.heap.size + 1 < w1.heap.size := (by omega))) | go_values | go_skip | go_guarded | go_step | go_upon | go_back | (simp only [Int.not_lt, Int.not_le] at *; go_simp) | (go_values <;> (try go_simp)) | (go_ite <;> go_prune <;> (try go_simp)) | (split <;> (first | (rename_i hx; exact (hx _ rfl).elim) | go_prune)))
  (try simp only [Exit.inBlock, Exit.then]); refine bodyPost_ret (by simp [results, Try.results13, go_sem, *]; try rfl) rfl ?_
  exact ⟨⟨_, rfl, way_new rfl (by simp)⟩, by (repeat' (first | (with_reducible exact Below.refl _ _) | (refine Below.trans ?_ (Below.mono (by with_reducible assumption) ?_)) | (with_reducible exact Below.refl _ _) | (with_reducible refine below_drewN ?_ _) | (with_reducible refine Below.drew ?_) | (with_reducible refine Below.setCell ?_ ?_ _) | (with_reducible refine Below.alloc ?_ ?_ _) | (with_reducible assumption) | (simp; done) | (simp; omega) | omega))⟩
set_option maxRecDepth 100000 in
set_option maxHeartbeats 1600000 in
theorem ways_rest {w : World} {B g : Nat} {C : CodeV} {G L P J : Value} {row : Value × List InsV} {loc : Value × List VarV} (H : Gs w B g C G L P J row loc) {k : Nat} {x : InsV} (hx : row.2[k]? = some x) (cells each : Int) {t p : Int} (hc : countsOf (pNms C) (mineV loc) (pIns x) = some (t, p)) (hlow : ¬ cells < t) (c0 : 0 ≤ cells) (c1 : cells ≤ 1000) (e0 : 0 ≤ each) (e1 : each ≤ 1000) (t0 : 0 ≤ t) (p0 : 0 ≤ p) (p2 : p ≤ 2) (n25 : (x.op == 25) = false) (n27 : (x.op == 27) = false) (n26 : (x.op == 26) = false) (n21 : (x.op == 21) = false) (n23 : (x.op == 23) = false) (n22 : (x.op == 22) = false) (n34 : (x.op == 34) = false) (n36 : (x.op == 36) = false) (n33 : (x.op == 33) = false) (n35 : (x.op == 35) = false) :
    Calls Try.prog 13 #[.pointer (some ⟨g, 0, none⟩), .int .i64 (k : Int), .agg #[.int .i64 cells, .int .i64 each]] w (WaysPost (some [(k + 1, cells - t + p, each)]) w) := by
  have h4 := H.c4
  have hg := H.hg
  have hB := H.hB
  have hk := (List.getElem?_eq_some_iff.1 hx).1
  obtain ⟨q, ad, c, HI⟩ := row_at H.rok hx
  have hlen := Sl.len H.rok.1
  unfold maxLen at hlen
  rw [HI.e] at h4
  have HH := Lib.hid H
  have HX := Lib.hid HI.hx
  obtain ⟨_, hq, hb, ⟨hopI, ha, hxb, hc', hls, AL, cL, eL, _⟩, i0, i1, i2, i3, i4, i5, i6, i7, i8, i9⟩ := HI
  have hbw : q.block < w.heap.size := by omega
  clear hx H hls
  obtain ⟨op, a, b, c'', at', s, n, h, l, Lv, ls⟩ := x
  dsimp only at *
  subst eL
  unfold I64 at hxb
  have HC := Lib.hid hc
  clear hc
  go_enter Try.func13, Try.ntmps13
  repeat' (first | (with_reducible refine then_exit ?_) | (with_reducible refine then_ret ?_) | (with_reducible refine then_normal ?_) | (with_reducible refine inBlock_hit ?_) | ((with_reducible refine inBlock_miss ?_ ?_); (exact rfl)) | (with_reducible refine inBlock_ret ?_) | (with_reducible refine inBlock_normal ?_) | (go_big_may; (go_at_call 14; (with_reducible refine (counts_yes (HH.out.below (by repeat' (first | (with_reducible exact Below.refl _ _) | (with_reducible assumption) | (with_reducible refine Below.drew ?_) | (with_reducible refine below_drewN ?_ _) | (with_reducible refine Below.alloc ?_ ?_ _) | (with_reducible exact Nat.le_refl _) | (simp; done) | (simp; omega)))) ⟨op, a, b, c'', at', s, n, h, l, .slice AL ls.length cL, ls⟩ (HX.out.below (Below.mono (by repeat' (first | (with_reducible exact Below.refl _ _) | (with_reducible assumption) | (with_reducible refine Below.drew ?_) | (with_reducible refine below_drewN ?_ _) | (with_reducible refine Below.alloc ?_ ?_ _) | (with_reducible exact Nat.le_refl _) | (simp; done) | (simp; omega))) hB)) HC.out).mono ?_); rintro e w1 ⟨rfl, b1⟩; have z1 := b1.size; (try simp at z1); have m0 : w1.cell? ⟨w.heap.size, 0, none⟩ = some (.int .i64 cells) := (Below.cell b1 (by first | (simp; done) | (simp; omega))).trans (by simp (maxDischargeDepth := 12) [go_sem]); have m1 : w1.cell? ⟨w.heap.size, 1, none⟩ = some (.int .i64 each) := (Below.cell b1 (by first | (simp; done) | (simp; omega))).trans (by simp (maxDischargeDepth := 12) [go_sem]); have m2 : w1.cell? ⟨w.heap.size + 1, 0, none⟩ = some (.int .i64 op) := (Below.cell b1 (by first | (simp; done) | (simp; omega))).trans (by simp (maxDischargeDepth := 12) [go_sem]); have m3 : w1.cell? ⟨w.heap.size + 1, 2, none⟩ = some (.int .i64 b) := (Below.cell b1 (by first | (simp; done) | (simp; omega))).trans (by simp (maxDischargeDepth := 12) [go_sem]); have z2 : w.heap.size < w1.heap.size := (by omega); have z3 : w.heap.size + 1 < w1.heap.size := (by omega))) | go_values | go_skip | go_guarded | go_step | go_upon | go_back | (simp only [Int.not_lt, Int.not_le] at *; go_simp) | (go_values <;> (try go_simp)) | (go_ite <;> go_prune <;> (try go_simp)) | (split <;> (first | (rename_i hx; exact (hx _ rfl).elim) | go_prune)))
  (try simp only [Exit.inBlock, Exit.then]); refine bodyPost_ret (by simp [results, Try.results13, go_sem, *]; try rfl) rfl ?_
  exact ⟨⟨_, rfl, way_new rfl (by simp)⟩, by (repeat' (first | (with_reducible exact Below.refl _ _) | (refine Below.trans ?_ (Below.mono (by with_reducible assumption) ?_)) | (with_reducible exact Below.refl _ _) | (with_reducible refine below_drewN ?_ _) | (with_reducible refine Below.drew ?_) | (with_reducible refine Below.setCell ?_ ?_ _) | (with_reducible refine Below.alloc ?_ ?_ _) | (with_reducible assumption) | (simp; done) | (simp; omega) | omega))⟩
end Go.Proofs.Ytanbplnagcmlcaa
