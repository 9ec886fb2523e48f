/- Several texts put together: CelE. -/
import Derived.Test.YtkhhjibpppmekaaBu17
/- cell.Number. -/
namespace Go.Proofs.Ytkhhjibpppmekaa
open Go.RowKit
/-- What a cell's number answers. -/
abbrev NumV (k' : Int) (bs' : List Nat) (n' : Bool) (h' l' : Int) : Value := .tuple #[.agg #[.bool (numN' k' bs' n'), .int .u64 (numH k' bs' h'), .int .u64 (numL k' bs' l')], errV (numO k' bs')]
set_option maxRecDepth 100000 in
set_option maxHeartbeats 800000 in
theorem cnumber_rest {k : Int} {S : ByteArray} {n : Bool} {h l : Int} {k' : Int} {S' : ByteArray} {n' : Bool} {h' l' : Int} (hk : (k' = 0 ∧ n' = false ∧ h' = 0 ∧ l' = 0) ∨ k' = 1 ∨ k' = 3)
    (RT0 : ∀ W, Calls Try.prog 61 #[.agg #[.int .i64 k, .string S, .bool n, .int .u64 h, .int .u64 l]] W fun e w' => e = .returned (.agg #[.int .i64 k', .string S', .bool n', .int .u64 h', .int .u64 l']) ∧ Below W.heap.size W w') (w : World) :
    Calls Try.prog 34 #[.agg #[.int .i64 k, .string S, .bool n, .int .u64 h, .int .u64 l]] w fun e w' => e = .returned (.tuple #[.agg #[.bool n', .int .u64 h', .int .u64 l'], .nilIface]) ∧ Below w.heap.size w w' := by
  have RT := Lib.hid RT0
  have HA := Lib.hid ((Box5.make w (.int .i64 k) (.string S) (.bool n) (.int .u64 h) (.int .u64 l) 41 rfl).alloc (.cells #[.bool false, .int .u64 0, .int .u64 0] 24))
  have HR := Lib.hid (Box3.make (w.alloc (.cells #[.int .i64 k, .string S, .bool n, .int .u64 h, .int .u64 l] 41)) (.bool false) (.int .u64 0) (.int .u64 0) 24 (g := w.heap.size + 1) (by simp))
  clear RT0
  rcases hk with ⟨rfl, rfl, rfl, rfl⟩ | rfl | rfl
  · go_enter Try.func34, Try.ntmps34
    go_upto_region 2 with (go_at_call 61; refine (RT.out _).mono ?_; rintro e w2 ⟨rfl, q2⟩; have b5a_2 := Lib.hid (HA.out.below q2); have b5a_20 := b5a_2.out.c0; have b5a_21 := b5a_2.out.c1; have b5a_22 := b5a_2.out.c2; have b5a_23 := b5a_2.out.c3; have b5a_24 := b5a_2.out.c4; have b5a_2f0 := b5a_2.out.f0; have b5a_2f1 := b5a_2.out.f1; have b5a_2f2 := b5a_2.out.f2; have b5a_2f3 := b5a_2.out.f3; have b5a_2f4 := b5a_2.out.f4; have b5a_2z := b5a_2.out.z; have b3r_2 := Lib.hid (HR.out.below q2); have b3r_20 := b3r_2.out.c0; have b3r_21 := b3r_2.out.c1; have b3r_22 := b3r_2.out.c2; have b3r_2f0 := b3r_2.out.f0; have b3r_2f1 := b3r_2.out.f1; have b3r_2f2 := b3r_2.out.f2; have b3r_2z := b3r_2.out.z)
    have HB2 := Lib.hid (show Below w.heap.size w w2 by (repeat' (first | (with_reducible exact Below.refl _ _) | (refine Below.trans ?_ (Below.mono (by with_reducible assumption) ?_)) | (with_reducible exact Below.refl _ _) | (with_reducible refine below_drewN ?_ _) | (with_reducible refine Below.drew ?_) | (with_reducible refine Below.setCell ?_ ?_ _) | (with_reducible refine Below.alloc ?_ ?_ _) | (with_reducible assumption) | (simp; done) | (simp; omega) | omega)))
    clear q2
    have hs5 := b5a_2.out.set (u0 := .int .i64 0) (u1 := .string S') (u2 := .bool false) (u3 := .int .u64 0) (u4 := .int .u64 0)
    have hr5 := ((((b3r_2.out.other (h := w.heap.size) (by omega) 0 (.int .i64 0)).other (h := w.heap.size) (by omega) 1 (.string S')).other (h := w.heap.size) (by omega) 2 (.bool false)).other (h := w.heap.size) (by omega) 3 (.int .u64 0)).other (h := w.heap.size) (by omega) 4 (.int .u64 0)
    have hb5 : Below w.heap.size w (((((w2.setCell ⟨w.heap.size, 0, none⟩ (.int .i64 0)).setCell ⟨w.heap.size, 1, none⟩ (.string S')).setCell ⟨w.heap.size, 2, none⟩ (.bool false)).setCell ⟨w.heap.size, 3, none⟩ (.int .u64 0)).setCell ⟨w.heap.size, 4, none⟩ (.int .u64 0)) := by refine ((((HB2.out.setCell ?_ _).setCell ?_ _).setCell ?_ _).setCell ?_ _).setCell ?_ _ <;> simp
    obtain ⟨w6, hw6⟩ : ∃ x, x = (((((w2.setCell ⟨w.heap.size, 0, none⟩ (.int .i64 0)).setCell ⟨w.heap.size, 1, none⟩ (.string S')).setCell ⟨w.heap.size, 2, none⟩ (.bool false)).setCell ⟨w.heap.size, 3, none⟩ (.int .u64 0)).setCell ⟨w.heap.size, 4, none⟩ (.int .u64 0)) := ⟨_, rfl⟩; rw [← hw6]
    rw [← hw6] at hs5 hr5 hb5
    clear hw6
    have b5a_6 := Lib.hid (hs5); have b5a_60 := b5a_6.out.c0; have b5a_61 := b5a_6.out.c1; have b5a_62 := b5a_6.out.c2; have b5a_63 := b5a_6.out.c3; have b5a_64 := b5a_6.out.c4; have b5a_6f0 := b5a_6.out.f0; have b5a_6f1 := b5a_6.out.f1; have b5a_6f2 := b5a_6.out.f2; have b5a_6f3 := b5a_6.out.f3; have b5a_6f4 := b5a_6.out.f4; have b5a_6z := b5a_6.out.z
    have b3r_6 := Lib.hid (hr5); have b3r_60 := b3r_6.out.c0; have b3r_61 := b3r_6.out.c1; have b3r_62 := b3r_6.out.c2; have b3r_6f0 := b3r_6.out.f0; have b3r_6f1 := b3r_6.out.f1; have b3r_6f2 := b3r_6.out.f2; have b3r_6z := b3r_6.out.z
    have HB6 := Lib.hid hb5
    clear b5a_2 b5a_2z b5a_20 b5a_21 b5a_22 b5a_23 b5a_24 b5a_2f0 b5a_2f1 b5a_2f2 b5a_2f3 b5a_2f4 b3r_2 b3r_2z b3r_20 b3r_21 b3r_22 b3r_2f0 b3r_2f1 b3r_2f2
    clear hs5 hr5 hb5 HB2 HA HR
    go_wp2_with fail
    (try simp only [Exit.inBlock, Exit.then]); refine bodyPost_ret (by simp [results, Try.results34, go_sem, *]; try rfl) rfl ?_
    exact ⟨rfl, by refine HB6.out.trans ?_; (repeat' (first | (with_reducible exact Below.refl _ _) | (refine Below.trans ?_ (Below.mono (by with_reducible assumption) ?_)) | (with_reducible exact Below.refl _ _) | (with_reducible refine below_drewN ?_ _) | (with_reducible refine Below.drew ?_) | (with_reducible refine Below.setCell ?_ ?_ _) | (with_reducible refine Below.alloc ?_ ?_ _) | (with_reducible assumption) | (simp; done) | (simp; omega) | omega))⟩
  · go_enter Try.func34, Try.ntmps34
    go_upto_region 2 with (go_at_call 61; refine (RT.out _).mono ?_; rintro e w2 ⟨rfl, q2⟩; have b5a_2 := Lib.hid (HA.out.below q2); have b5a_20 := b5a_2.out.c0; have b5a_21 := b5a_2.out.c1; have b5a_22 := b5a_2.out.c2; have b5a_23 := b5a_2.out.c3; have b5a_24 := b5a_2.out.c4; have b5a_2f0 := b5a_2.out.f0; have b5a_2f1 := b5a_2.out.f1; have b5a_2f2 := b5a_2.out.f2; have b5a_2f3 := b5a_2.out.f3; have b5a_2f4 := b5a_2.out.f4; have b5a_2z := b5a_2.out.z; have b3r_2 := Lib.hid (HR.out.below q2); have b3r_20 := b3r_2.out.c0; have b3r_21 := b3r_2.out.c1; have b3r_22 := b3r_2.out.c2; have b3r_2f0 := b3r_2.out.f0; have b3r_2f1 := b3r_2.out.f1; have b3r_2f2 := b3r_2.out.f2; have b3r_2z := b3r_2.out.z)
    have HB2 := Lib.hid (show Below w.heap.size w w2 by (repeat' (first | (with_reducible exact Below.refl _ _) | (refine Below.trans ?_ (Below.mono (by with_reducible assumption) ?_)) | (with_reducible exact Below.refl _ _) | (with_reducible refine below_drewN ?_ _) | (with_reducible refine Below.drew ?_) | (with_reducible refine Below.setCell ?_ ?_ _) | (with_reducible refine Below.alloc ?_ ?_ _) | (with_reducible assumption) | (simp; done) | (simp; omega) | omega)))
    clear q2
    have hs5 := b5a_2.out.set (u0 := .int .i64 1) (u1 := .string S') (u2 := .bool n') (u3 := .int .u64 h') (u4 := .int .u64 l')
    have hr5 := ((((b3r_2.out.other (h := w.heap.size) (by omega) 0 (.int .i64 1)).other (h := w.heap.size) (by omega) 1 (.string S')).other (h := w.heap.size) (by omega) 2 (.bool n')).other (h := w.heap.size) (by omega) 3 (.int .u64 h')).other (h := w.heap.size) (by omega) 4 (.int .u64 l')
    have hb5 : Below w.heap.size w (((((w2.setCell ⟨w.heap.size, 0, none⟩ (.int .i64 1)).setCell ⟨w.heap.size, 1, none⟩ (.string S')).setCell ⟨w.heap.size, 2, none⟩ (.bool n')).setCell ⟨w.heap.size, 3, none⟩ (.int .u64 h')).setCell ⟨w.heap.size, 4, none⟩ (.int .u64 l')) := by refine ((((HB2.out.setCell ?_ _).setCell ?_ _).setCell ?_ _).setCell ?_ _).setCell ?_ _ <;> simp
    obtain ⟨w6, hw6⟩ : ∃ x, x = (((((w2.setCell ⟨w.heap.size, 0, none⟩ (.int .i64 1)).setCell ⟨w.heap.size, 1, none⟩ (.string S')).setCell ⟨w.heap.size, 2, none⟩ (.bool n')).setCell ⟨w.heap.size, 3, none⟩ (.int .u64 h')).setCell ⟨w.heap.size, 4, none⟩ (.int .u64 l')) := ⟨_, rfl⟩; rw [← hw6]
    rw [← hw6] at hs5 hr5 hb5
    clear hw6
    have b5a_6 := Lib.hid (hs5); have b5a_60 := b5a_6.out.c0; have b5a_61 := b5a_6.out.c1; have b5a_62 := b5a_6.out.c2; have b5a_63 := b5a_6.out.c3; have b5a_64 := b5a_6.out.c4; have b5a_6f0 := b5a_6.out.f0; have b5a_6f1 := b5a_6.out.f1; have b5a_6f2 := b5a_6.out.f2; have b5a_6f3 := b5a_6.out.f3; have b5a_6f4 := b5a_6.out.f4; have b5a_6z := b5a_6.out.z
    have b3r_6 := Lib.hid (hr5); have b3r_60 := b3r_6.out.c0; have b3r_61 := b3r_6.out.c1; have b3r_62 := b3r_6.out.c2; have b3r_6f0 := b3r_6.out.f0; have b3r_6f1 := b3r_6.out.f1; have b3r_6f2 := b3r_6.out.f2; have b3r_6z := b3r_6.out.z
    have HB6 := Lib.hid hb5
    clear b5a_2 b5a_2z b5a_20 b5a_21 b5a_22 b5a_23 b5a_24 b5a_2f0 b5a_2f1 b5a_2f2 b5a_2f3 b5a_2f4 b3r_2 b3r_2z b3r_20 b3r_21 b3r_22 b3r_2f0 b3r_2f1 b3r_2f2
    clear hs5 hr5 hb5 HB2 HA HR
    go_wp2_with fail
    (try simp only [Exit.inBlock, Exit.then]); refine bodyPost_ret (by simp [results, Try.results34, go_sem, *]; try rfl) rfl ?_
    exact ⟨rfl, by refine HB6.out.trans ?_; (repeat' (first | (with_reducible exact Below.refl _ _) | (refine Below.trans ?_ (Below.mono (by with_reducible assumption) ?_)) | (with_reducible exact Below.refl _ _) | (with_reducible refine below_drewN ?_ _) | (with_reducible refine Below.drew ?_) | (with_reducible refine Below.setCell ?_ ?_ _) | (with_reducible refine Below.alloc ?_ ?_ _) | (with_reducible assumption) | (simp; done) | (simp; omega) | omega))⟩
  · go_enter Try.func34, Try.ntmps34
    go_upto_region 2 with (go_at_call 61; refine (RT.out _).mono ?_; rintro e w2 ⟨rfl, q2⟩; have b5a_2 := Lib.hid (HA.out.below q2); have b5a_20 := b5a_2.out.c0; have b5a_21 := b5a_2.out.c1; have b5a_22 := b5a_2.out.c2; have b5a_23 := b5a_2.out.c3; have b5a_24 := b5a_2.out.c4; have b5a_2f0 := b5a_2.out.f0; have b5a_2f1 := b5a_2.out.f1; have b5a_2f2 := b5a_2.out.f2; have b5a_2f3 := b5a_2.out.f3; have b5a_2f4 := b5a_2.out.f4; have b5a_2z := b5a_2.out.z; have b3r_2 := Lib.hid (HR.out.below q2); have b3r_20 := b3r_2.out.c0; have b3r_21 := b3r_2.out.c1; have b3r_22 := b3r_2.out.c2; have b3r_2f0 := b3r_2.out.f0; have b3r_2f1 := b3r_2.out.f1; have b3r_2f2 := b3r_2.out.f2; have b3r_2z := b3r_2.out.z)
    have HB2 := Lib.hid (show Below w.heap.size w w2 by (repeat' (first | (with_reducible exact Below.refl _ _) | (refine Below.trans ?_ (Below.mono (by with_reducible assumption) ?_)) | (with_reducible exact Below.refl _ _) | (with_reducible refine below_drewN ?_ _) | (with_reducible refine Below.drew ?_) | (with_reducible refine Below.setCell ?_ ?_ _) | (with_reducible refine Below.alloc ?_ ?_ _) | (with_reducible assumption) | (simp; done) | (simp; omega) | omega)))
    clear q2
    have hs5 := b5a_2.out.set (u0 := .int .i64 3) (u1 := .string S') (u2 := .bool n') (u3 := .int .u64 h') (u4 := .int .u64 l')
    have hr5 := ((((b3r_2.out.other (h := w.heap.size) (by omega) 0 (.int .i64 3)).other (h := w.heap.size) (by omega) 1 (.string S')).other (h := w.heap.size) (by omega) 2 (.bool n')).other (h := w.heap.size) (by omega) 3 (.int .u64 h')).other (h := w.heap.size) (by omega) 4 (.int .u64 l')
    have hb5 : Below w.heap.size w (((((w2.setCell ⟨w.heap.size, 0, none⟩ (.int .i64 3)).setCell ⟨w.heap.size, 1, none⟩ (.string S')).setCell ⟨w.heap.size, 2, none⟩ (.bool n')).setCell ⟨w.heap.size, 3, none⟩ (.int .u64 h')).setCell ⟨w.heap.size, 4, none⟩ (.int .u64 l')) := by refine ((((HB2.out.setCell ?_ _).setCell ?_ _).setCell ?_ _).setCell ?_ _).setCell ?_ _ <;> simp
    obtain ⟨w6, hw6⟩ : ∃ x, x = (((((w2.setCell ⟨w.heap.size, 0, none⟩ (.int .i64 3)).setCell ⟨w.heap.size, 1, none⟩ (.string S')).setCell ⟨w.heap.size, 2, none⟩ (.bool n')).setCell ⟨w.heap.size, 3, none⟩ (.int .u64 h')).setCell ⟨w.heap.size, 4, none⟩ (.int .u64 l')) := ⟨_, rfl⟩; rw [← hw6]
    rw [← hw6] at hs5 hr5 hb5
    clear hw6
    have b5a_6 := Lib.hid (hs5); have b5a_60 := b5a_6.out.c0; have b5a_61 := b5a_6.out.c1; have b5a_62 := b5a_6.out.c2; have b5a_63 := b5a_6.out.c3; have b5a_64 := b5a_6.out.c4; have b5a_6f0 := b5a_6.out.f0; have b5a_6f1 := b5a_6.out.f1; have b5a_6f2 := b5a_6.out.f2; have b5a_6f3 := b5a_6.out.f3; have b5a_6f4 := b5a_6.out.f4; have b5a_6z := b5a_6.out.z
    have b3r_6 := Lib.hid (hr5); have b3r_60 := b3r_6.out.c0; have b3r_61 := b3r_6.out.c1; have b3r_62 := b3r_6.out.c2; have b3r_6f0 := b3r_6.out.f0; have b3r_6f1 := b3r_6.out.f1; have b3r_6f2 := b3r_6.out.f2; have b3r_6z := b3r_6.out.z
    have HB6 := Lib.hid hb5
    clear b5a_2 b5a_2z b5a_20 b5a_21 b5a_22 b5a_23 b5a_24 b5a_2f0 b5a_2f1 b5a_2f2 b5a_2f3 b5a_2f4 b3r_2 b3r_2z b3r_20 b3r_21 b3r_22 b3r_2f0 b3r_2f1 b3r_2f2
    clear hs5 hr5 hb5 HB2 HA HR
    go_wp2_with fail
    (try simp only [Exit.inBlock, Exit.then]); refine bodyPost_ret (by simp [results, Try.results34, go_sem, *]; try rfl) rfl ?_
    exact ⟨rfl, by refine HB6.out.trans ?_; (repeat' (first | (with_reducible exact Below.refl _ _) | (refine Below.trans ?_ (Below.mono (by with_reducible assumption) ?_)) | (with_reducible exact Below.refl _ _) | (with_reducible refine below_drewN ?_ _) | (with_reducible refine Below.drew ?_) | (with_reducible refine Below.setCell ?_ ?_ _) | (with_reducible refine Below.alloc ?_ ?_ _) | (with_reducible assumption) | (simp; done) | (simp; omega) | omega))⟩
set_option maxRecDepth 100000 in
set_option maxHeartbeats 1600000 in
theorem cnumber_text {k : Int} {S : ByteArray} {n : Bool} {h l : Int} {bs' : List Nat} {n' : Bool} {h' l' : Int} (hb : ∀ x ∈ bs', x < 256) (hl : bs'.length ≤ 140737488351232)
    (RT0 : ∀ W, Calls Try.prog 61 #[.agg #[.int .i64 k, .string S, .bool n, .int .u64 h, .int .u64 l]] W fun e w' => e = .returned (.agg #[.int .i64 2, .string (strN bs'), .bool n', .int .u64 h', .int .u64 l']) ∧ Below W.heap.size W w') (w : World) :
    Calls Try.prog 34 #[.agg #[.int .i64 k, .string S, .bool n, .int .u64 h, .int .u64 l]] w fun e w' => e = .returned (.tuple #[.agg #[.bool (pP bs'), .int .u64 (mh (pM bs')), .int .u64 (ml (pM bs'))], errV (pOver bs')]) ∧ Below w.heap.size w w' := by
  have RT := Lib.hid RT0
  have HA := Lib.hid ((Box5.make w (.int .i64 k) (.string S) (.bool n) (.int .u64 h) (.int .u64 l) 41 rfl).alloc (.cells #[.bool false, .int .u64 0, .int .u64 0] 24))
  have HR := Lib.hid (Box3.make (w.alloc (.cells #[.int .i64 k, .string S, .bool n, .int .u64 h, .int .u64 l] 41)) (.bool false) (.int .u64 0) (.int .u64 0) 24 (g := w.heap.size + 1) (by simp))
  have HCV := Lib.hid (fun W => conv_run2 W bs' hb)
  have HPF := Lib.hid (fun W A c (hr : RB W W.heap.size A bs') (hc : bs'.length ≤ c) => prefix_q A c bs' W W.heap.size (Nat.le_refl _) hr hc hl)
  have hov := pM_over (bs := bs')
  generalize pP bs' = xn at *
  generalize pM bs' = xm at *
  generalize pOver bs' = po at *
  generalize (nP bs' : Int) = xq at *
  generalize strN bs' = S' at *
  clear RT0 hb hl
  go_enter Try.func34, Try.ntmps34
  go_upto_region 6 with (go_at_call 61; refine (RT.out _).mono ?_; rintro e w2 ⟨rfl, q2⟩; have b5a_2 := Lib.hid (HA.out.below q2); have b5a_20 := b5a_2.out.c0; have b5a_21 := b5a_2.out.c1; have b5a_22 := b5a_2.out.c2; have b5a_23 := b5a_2.out.c3; have b5a_24 := b5a_2.out.c4; have b5a_2f0 := b5a_2.out.f0; have b5a_2f1 := b5a_2.out.f1; have b5a_2f2 := b5a_2.out.f2; have b5a_2f3 := b5a_2.out.f3; have b5a_2f4 := b5a_2.out.f4; have b5a_2z := b5a_2.out.z; have b3r_2 := Lib.hid (HR.out.below q2); have b3r_20 := b3r_2.out.c0; have b3r_21 := b3r_2.out.c1; have b3r_22 := b3r_2.out.c2; have b3r_2f0 := b3r_2.out.f0; have b3r_2f1 := b3r_2.out.f1; have b3r_2f2 := b3r_2.out.f2; have b3r_2z := b3r_2.out.z)
  have HB2 := Lib.hid (show Below w.heap.size w w2 by (repeat' (first | (with_reducible exact Below.refl _ _) | (refine Below.trans ?_ (Below.mono (by with_reducible assumption) ?_)) | (with_reducible exact Below.refl _ _) | (with_reducible refine below_drewN ?_ _) | (with_reducible refine Below.drew ?_) | (with_reducible refine Below.setCell ?_ ?_ _) | (with_reducible refine Below.alloc ?_ ?_ _) | (with_reducible assumption) | (simp; done) | (simp; omega) | omega)))
  clear q2
  have hs5 := b5a_2.out.set (u0 := .int .i64 2) (u1 := .string S') (u2 := .bool n') (u3 := .int .u64 h') (u4 := .int .u64 l')
  have hr5 := ((((b3r_2.out.other (h := w.heap.size) (by omega) 0 (.int .i64 2)).other (h := w.heap.size) (by omega) 1 (.string S')).other (h := w.heap.size) (by omega) 2 (.bool n')).other (h := w.heap.size) (by omega) 3 (.int .u64 h')).other (h := w.heap.size) (by omega) 4 (.int .u64 l')
  have hb5 : Below w.heap.size w (((((w2.setCell ⟨w.heap.size, 0, none⟩ (.int .i64 2)).setCell ⟨w.heap.size, 1, none⟩ (.string S')).setCell ⟨w.heap.size, 2, none⟩ (.bool n')).setCell ⟨w.heap.size, 3, none⟩ (.int .u64 h')).setCell ⟨w.heap.size, 4, none⟩ (.int .u64 l')) := by refine ((((HB2.out.setCell ?_ _).setCell ?_ _).setCell ?_ _).setCell ?_ _).setCell ?_ _ <;> simp
  obtain ⟨w6, hw6⟩ : ∃ x, x = (((((w2.setCell ⟨w.heap.size, 0, none⟩ (.int .i64 2)).setCell ⟨w.heap.size, 1, none⟩ (.string S')).setCell ⟨w.heap.size, 2, none⟩ (.bool n')).setCell ⟨w.heap.size, 3, none⟩ (.int .u64 h')).setCell ⟨w.heap.size, 4, none⟩ (.int .u64 l')) := ⟨_, rfl⟩; rw [← hw6]
  rw [← hw6] at hs5 hr5 hb5
  clear hw6
  have b5a_6 := Lib.hid (hs5); have b5a_60 := b5a_6.out.c0; have b5a_61 := b5a_6.out.c1; have b5a_62 := b5a_6.out.c2; have b5a_63 := b5a_6.out.c3; have b5a_64 := b5a_6.out.c4; have b5a_6f0 := b5a_6.out.f0; have b5a_6f1 := b5a_6.out.f1; have b5a_6f2 := b5a_6.out.f2; have b5a_6f3 := b5a_6.out.f3; have b5a_6f4 := b5a_6.out.f4; have b5a_6z := b5a_6.out.z
  have b3r_6 := Lib.hid (hr5); have b3r_60 := b3r_6.out.c0; have b3r_61 := b3r_6.out.c1; have b3r_62 := b3r_6.out.c2; have b3r_6f0 := b3r_6.out.f0; have b3r_6f1 := b3r_6.out.f1; have b3r_6f2 := b3r_6.out.f2; have b3r_6z := b3r_6.out.z
  have HB6 := Lib.hid hb5
  clear b5a_2 b5a_2z b5a_20 b5a_21 b5a_22 b5a_23 b5a_24 b5a_2f0 b5a_2f1 b5a_2f2 b5a_2f3 b5a_2f4 b3r_2 b3r_2z b3r_20 b3r_21 b3r_22 b3r_2f0 b3r_2f1 b3r_2f2
  clear hs5 hr5 hb5 HB2 HA HR
  obtain ⟨c, C, f, hrun, hsb⟩ := HCV.out w6
  have q6 : Below w6.heap.size w6 ((w6.alloc (.cells C 5 f)).drew) := by (repeat' (first | (with_reducible exact Below.refl _ _) | (refine Below.trans ?_ (Below.mono (by with_reducible assumption) ?_)) | (with_reducible exact Below.refl _ _) | (with_reducible refine below_drewN ?_ _) | (with_reducible refine Below.drew ?_) | (with_reducible refine Below.setCell ?_ ?_ _) | (with_reducible refine Below.alloc ?_ ?_ _) | (with_reducible assumption) | (simp; done) | (simp; omega) | omega))
  have hrb := hsb.rb
  have hz1 : w6.heap.size + 1 = ((w6.alloc (.cells C 5 f)).drew).heap.size := by simp
  rw [hz1] at hrb
  have PF0 := HPF.out _ _ _ hrb hsb.le
  have b5a_7 := Lib.hid (Box5.below b5a_6.out q6); have b5a_70 := b5a_7.out.c0; have b5a_71 := b5a_7.out.c1; have b5a_72 := b5a_7.out.c2; have b5a_73 := b5a_7.out.c3; have b5a_74 := b5a_7.out.c4; have b5a_7f0 := b5a_7.out.f0; have b5a_7f1 := b5a_7.out.f1; have b5a_7f2 := b5a_7.out.f2; have b5a_7f3 := b5a_7.out.f3; have b5a_7f4 := b5a_7.out.f4; have b5a_7z := b5a_7.out.z; have b3r_7 := Lib.hid (Box3.below b3r_6.out q6); have b3r_70 := b3r_7.out.c0; have b3r_71 := b3r_7.out.c1; have b3r_72 := b3r_7.out.c2; have b3r_7f0 := b3r_7.out.f0; have b3r_7f1 := b3r_7.out.f1; have b3r_7f2 := b3r_7.out.f2; have b3r_7z := b3r_7.out.z
  have HB7 := Lib.hid (HB6.out.trans (q6.mono HB6.out.size))
  obtain ⟨w7, hw7⟩ : ∃ x, x = ((w6.alloc (.cells C 5 f)).drew) := ⟨_, rfl⟩
  rw [← hw7] at hrun PF0 HB7 b5a_7 b3r_7 b5a_70 b5a_71 b5a_72 b5a_73 b5a_74 b5a_7f0 b5a_7f1 b5a_7f2 b5a_7f3 b5a_7f4 b5a_7z b3r_70 b3r_71 b3r_72 b3r_7f0 b3r_7f1 b3r_7f2 b3r_7z
  clear hw7 q6 hz1 hrb hsb HPF HCV
  cases po
  · rw [show errV false = Value.nilIface from rfl] at PF0
    have PF := Lib.hid PF0
    clear PF0 hov
    go_wp2_with (first
      | (go_at_call 66; (with_reducible refine (PF.out).mono ?_); rintro e w8 ⟨rfl, b8⟩; have p8 : Below w7.heap.size w7 w8 := Below.trans (by repeat' (first | (with_reducible assumption) | (with_reducible exact Below.refl _ _) | (with_reducible refine Below.drew ?_) | (with_reducible refine below_drewN ?_ _) | (with_reducible refine Below.alloc ?_ ?_ _) | (with_reducible exact Nat.le_refl _) | (simp; done) | (simp; omega) | omega)) (Below.mono b8 (by first | omega | (simp; done) | (simp; omega))); have b3r_8 := Lib.hid (Box3.below b3r_7.out p8); have b3r_80 := b3r_8.out.c0; have b3r_81 := b3r_8.out.c1; have b3r_82 := b3r_8.out.c2; have b3r_8f0 := b3r_8.out.f0; have b3r_8f1 := b3r_8.out.f1; have b3r_8f2 := b3r_8.out.f2; have b3r_8z := b3r_8.out.z))
    (try simp only [Exit.inBlock, Exit.then]); refine bodyPost_ret (by simp [results, Try.results34, go_sem, *]; try rfl) rfl ?_
    exact ⟨rfl, by refine HB7.out.trans ?_; (repeat' (first | (with_reducible exact Below.refl _ _) | (refine Below.trans ?_ (Below.mono (by with_reducible assumption) ?_)) | (with_reducible exact Below.refl _ _) | (with_reducible refine below_drewN ?_ _) | (with_reducible refine Below.drew ?_) | (with_reducible refine Below.setCell ?_ ?_ _) | (with_reducible refine Below.alloc ?_ ?_ _) | (with_reducible assumption) | (simp; done) | (simp; omega) | omega))⟩
  · rw [show errV true = .iface 83 (.int .i64 2) from rfl] at PF0
    obtain ⟨rfl, rfl⟩ := hov rfl
    rw [show mh 0 = 0 by decide, show ml 0 = 0 by decide] at PF0
    have PF := Lib.hid PF0
    clear PF0 hov
    go_wp2_with (first
      | (go_at_call 66; (with_reducible refine (PF.out).mono ?_); rintro e w8 ⟨rfl, b8⟩; have p8 : Below w7.heap.size w7 w8 := Below.trans (by repeat' (first | (with_reducible assumption) | (with_reducible exact Below.refl _ _) | (with_reducible refine Below.drew ?_) | (with_reducible refine below_drewN ?_ _) | (with_reducible refine Below.alloc ?_ ?_ _) | (with_reducible exact Nat.le_refl _) | (simp; done) | (simp; omega) | omega)) (Below.mono b8 (by first | omega | (simp; done) | (simp; omega))); have b3r_8 := Lib.hid (Box3.below b3r_7.out p8); have b3r_80 := b3r_8.out.c0; have b3r_81 := b3r_8.out.c1; have b3r_82 := b3r_8.out.c2; have b3r_8f0 := b3r_8.out.f0; have b3r_8f1 := b3r_8.out.f1; have b3r_8f2 := b3r_8.out.f2; have b3r_8z := b3r_8.out.z))
    (try simp only [Exit.inBlock, Exit.then]); refine bodyPost_ret (by simp [results, Try.results34, go_sem, *]; try rfl) rfl ?_
    exact ⟨rfl, by refine HB7.out.trans ?_; (repeat' (first | (with_reducible exact Below.refl _ _) | (refine Below.trans ?_ (Below.mono (by with_reducible assumption) ?_)) | (with_reducible exact Below.refl _ _) | (with_reducible refine below_drewN ?_ _) | (with_reducible refine Below.drew ?_) | (with_reducible refine Below.setCell ?_ ?_ _) | (with_reducible refine Below.alloc ?_ ?_ _) | (with_reducible assumption) | (simp; done) | (simp; omega) | omega))⟩
theorem cnumber_any {k : Int} {bs : List Nat} {n : Bool} {h l : Int} {k' : Int} {bs' : List Nat} {n' : Bool} {h' l' : Int} (R : RightOf k bs n h l k' bs' n' h' l') (hb : ∀ x ∈ bs', x < 256) (hl : bs'.length ≤ 140737488351232) (w : World) :
    Calls Try.prog 34 #[.agg #[.int .i64 k, .string (strN bs), .bool n, .int .u64 h, .int .u64 l]] w fun e w' => e = .returned (NumV k' bs' n' h' l') ∧ Below w.heap.size w w' := by
  have hr := R.run
  unfold NumV
  rcases R.kinds with ⟨rfl, _, rfl, rfl, rfl⟩ | ⟨rfl, _⟩ | ⟨rfl, _⟩ | ⟨rfl, _⟩
  · exact cnumber_rest (.inl ⟨rfl, rfl, rfl, rfl⟩) hr w
  · exact cnumber_rest (.inr (.inl rfl)) hr w
  · exact cnumber_text hb hl hr w
  · exact cnumber_rest (.inr (.inr rfl)) hr w
end Go.Proofs.Ytkhhjibpppmekaa
