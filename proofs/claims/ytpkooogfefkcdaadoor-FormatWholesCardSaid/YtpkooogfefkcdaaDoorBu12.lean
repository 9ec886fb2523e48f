/- Several texts put together: FmtP, FmtQ. -/
import Derived.Test.YtpkooogfefkcdaaDoorBu11
/- Layer 8: body, of characters, octal and hexadecimal numbers. -/
namespace Go.Proofs.YtpkooogfefkcdaaDoor
open Go.RowKit
set_option maxRecDepth 100000 in
set_option maxHeartbeats 3200000 in
theorem body_c0 (at' next : Nat) (s : SpecF) (hv : s.verb = 99) (a : ArgF) (z : Int) (hn : a.num = false) (hl : a.s.length ≤ 1000000) (w : World) :
    Calls Tryd.prog 33 #[.agg (specV at' s next), argV a] w (BodyPost s a z w) := by
  have hsz := strN_size a.s
  simp only [specV, specC, argV]
  rw [hv, show ((99 : Nat) : Int) = 99 from rfl, hn]
  have hb : bodyF s a z = .ok ([], a.s.take 1) := by
    unfold bodyF
    rw [if_neg (by omega), if_neg (by omega), if_neg (by omega), if_pos ⟨hv, hn⟩]
  have HB := Lib.hid hb
  obtain ⟨m, hm⟩ : ∃ m, m = min 1 a.s.length := ⟨_, rfl⟩
  have hsl := fun W => sslice_h a.s m (by omega) W
  have htk : a.s.take m = a.s.take 1 := by
    rcases Nat.lt_or_ge a.s.length 1 with h | h
    · have : a.s = [] := List.length_eq_zero_iff.1 (by omega)
      rw [this]; simp
    · rw [hm, Nat.min_eq_left h]
  rw [htk] at hsl
  obtain ⟨X, hX⟩ : ∃ X, X = strN (a.s.take 1) := ⟨_, rfl⟩
  rw [← hX] at hsl
  have HX := Lib.hid hX
  obtain ⟨S, hS⟩ : ∃ S, S = strN a.s := ⟨_, rfl⟩
  rw [← hS] at hsl hsz ⊢
  have hmn : min 1 (S.size : Int) = (m : Int) := by omega
  have hms : (m : Int) ≤ (S.size : Int) := by omega
  clear hX hS hb hsz htk hm
  go_enter Tryd.func33, Tryd.ntmps33
  go_wp2_with fail
  go_quiet (fail)
  go_wp2_with fail
  (try simp only [Exit.inBlock, Exit.then]); refine bodyPost_ret (by simp [results, Tryd.results33, go_sem, *]; try rfl) rfl ?_
  exact ⟨.inr ⟨_, _, HB.out, by rw [← HX.out]; rfl⟩, by (repeat' (first | (with_reducible exact Below.refl _ _) | (refine Below.trans ?_ (Below.mono (by with_reducible assumption) ?_)) | (with_reducible exact Below.refl _ _) | (with_reducible refine below_drewN ?_ _) | (with_reducible refine Below.drew ?_) | (with_reducible refine Below.setCell ?_ ?_ _) | (with_reducible refine Below.alloc ?_ ?_ _) | (with_reducible assumption) | (simp; done) | (simp; omega) | omega))⟩
/-- A verb that tells a whole number. -/
def WholeV (v : Nat) (num : Bool) : Prop := (v = 99 ∧ num = true) ∨ v = 111 ∨ v = 120 ∨ v = 88
theorem bodyF_whole (s : SpecF) (a : ArgF) (z : Int) (hw : WholeV s.verb a.num) : bodyF s a z = if (wholeZ z).2 = false then .error 2 else if s.verb = 99 then .ok ([], [((wholeZ z).1 % 256).toNat]) else if s.verb = 111 then .ok ([], filledF s.prec (baseF false 8 22 (u64F (wholeZ z).1))) else .ok ([], filledF s.prec (baseF (s.verb == 88) 16 16 (u64F (wholeZ z).1))) := by
  unfold bodyF
  rcases hw with ⟨h, h2⟩ | h | h | h
  · rw [if_neg (by omega), if_neg (by omega), if_neg (by omega), if_neg (by rw [h2]; simp)]
  all_goals rw [if_neg (by omega), if_neg (by omega), if_neg (by omega), if_neg (by omega)]
set_option maxRecDepth 100000 in
set_option maxHeartbeats 3200000 in
theorem body_over (at' next : Nat) (s : SpecF) (a : ArgF) (z : Int) (hw : WholeV s.verb a.num) (ia : IsD a.n a.h a.l z) (hf : (wholeZ z).2 = false) (w : World) :
    Calls Tryd.prog 33 #[.agg (specV at' s next), argV a] w (BodyPost s a z w) := by
  have hb := bodyF_whole s a z hw
  rw [if_pos hf] at hb
  have HB := Lib.hid hb
  have HW := Lib.hid (fun W => whole_z a.n a.h a.l z ia W)
  rw [hf] at HW
  generalize (wholeZ z).1 = k at HW
  simp only [specV, specC, argV]
  clear hb ia hf
  obtain ⟨num, hnum⟩ : ∃ x, x = a.num := ⟨_, rfl⟩
  rw [← hnum] at hw ⊢
  clear hnum
  rcases hw with ⟨h, rfl⟩ | h | h | h
  · rw [h, show ((99 : Nat) : Int) = 99 from rfl]
    go_enter Tryd.func33, Tryd.ntmps33
    go_wp2_with (first
      | (go_at_call 48; (with_reducible refine (HW.out _).mono ?_); rintro e w2 ⟨rfl, b2⟩)
      | fail)
    (try simp only [Exit.inBlock, Exit.then]); refine bodyPost_ret (by simp [results, Tryd.results33, go_sem, *]; try rfl) rfl ?_
    exact ⟨.inl ⟨⟨_, HB.out⟩, _, _, rfl⟩, by (repeat' (first | (with_reducible exact Below.refl _ _) | (refine Below.trans ?_ (Below.mono (by with_reducible assumption) ?_)) | (with_reducible exact Below.refl _ _) | (with_reducible refine below_drewN ?_ _) | (with_reducible refine Below.drew ?_) | (with_reducible refine Below.setCell ?_ ?_ _) | (with_reducible refine Below.alloc ?_ ?_ _) | (with_reducible assumption) | (simp; done) | (simp; omega) | omega))⟩
  · rw [h, show ((111 : Nat) : Int) = 111 from rfl]
    go_enter Tryd.func33, Tryd.ntmps33
    go_wp2_with (first
      | (go_at_call 48; (with_reducible refine (HW.out _).mono ?_); rintro e w2 ⟨rfl, b2⟩)
      | fail)
    (try simp only [Exit.inBlock, Exit.then]); refine bodyPost_ret (by simp [results, Tryd.results33, go_sem, *]; try rfl) rfl ?_
    exact ⟨.inl ⟨⟨_, HB.out⟩, _, _, rfl⟩, by (repeat' (first | (with_reducible exact Below.refl _ _) | (refine Below.trans ?_ (Below.mono (by with_reducible assumption) ?_)) | (with_reducible exact Below.refl _ _) | (with_reducible refine below_drewN ?_ _) | (with_reducible refine Below.drew ?_) | (with_reducible refine Below.setCell ?_ ?_ _) | (with_reducible refine Below.alloc ?_ ?_ _) | (with_reducible assumption) | (simp; done) | (simp; omega) | omega))⟩
  · rw [h, show ((120 : Nat) : Int) = 120 from rfl]
    go_enter Tryd.func33, Tryd.ntmps33
    go_wp2_with (first
      | (go_at_call 48; (with_reducible refine (HW.out _).mono ?_); rintro e w2 ⟨rfl, b2⟩)
      | fail)
    (try simp only [Exit.inBlock, Exit.then]); refine bodyPost_ret (by simp [results, Tryd.results33, go_sem, *]; try rfl) rfl ?_
    exact ⟨.inl ⟨⟨_, HB.out⟩, _, _, rfl⟩, by (repeat' (first | (with_reducible exact Below.refl _ _) | (refine Below.trans ?_ (Below.mono (by with_reducible assumption) ?_)) | (with_reducible exact Below.refl _ _) | (with_reducible refine below_drewN ?_ _) | (with_reducible refine Below.drew ?_) | (with_reducible refine Below.setCell ?_ ?_ _) | (with_reducible refine Below.alloc ?_ ?_ _) | (with_reducible assumption) | (simp; done) | (simp; omega) | omega))⟩
  · rw [h, show ((88 : Nat) : Int) = 88 from rfl]
    go_enter Tryd.func33, Tryd.ntmps33
    go_wp2_with (first
      | (go_at_call 48; (with_reducible refine (HW.out _).mono ?_); rintro e w2 ⟨rfl, b2⟩)
      | fail)
    (try simp only [Exit.inBlock, Exit.then]); refine bodyPost_ret (by simp [results, Tryd.results33, go_sem, *]; try rfl) rfl ?_
    exact ⟨.inl ⟨⟨_, HB.out⟩, _, _, rfl⟩, by (repeat' (first | (with_reducible exact Below.refl _ _) | (refine Below.trans ?_ (Below.mono (by with_reducible assumption) ?_)) | (with_reducible exact Below.refl _ _) | (with_reducible refine below_drewN ?_ _) | (with_reducible refine Below.drew ?_) | (with_reducible refine Below.setCell ?_ ?_ _) | (with_reducible refine Below.alloc ?_ ?_ _) | (with_reducible assumption) | (simp; done) | (simp; omega) | omega))⟩
theorem chr_conv (W : World) (g : Nat) (x : Int) (h0 : 0 ≤ x) (h1 : x < 256) (h2 : W.cell? ⟨g, 0, none⟩ = some (.int .u8 x)) :
    (convert 46 9 (.slice (some ⟨g, 0, none⟩) 1 1)).run Tryd.prog W = .ok (.string (strN [x.toNat])) W := by
  rw [← strN_nums]
  refine run_convert_bytes_arg (P := Tryd.prog) W 46 5 Tryd.underlying46 Tryd.underlying5 g 0 1 1 ([x.toNat].map Int.ofNat) rfl (fun i hi => ?_) 9 Tryd.underlying9
  obtain rfl : i = 0 := by omega
  rw [h2]
  simp [Int.toNat_of_nonneg h0]
set_option maxRecDepth 100000 in
set_option maxHeartbeats 3200000 in
theorem body_c1 (at' next : Nat) (s : SpecF) (hv : s.verb = 99) (a : ArgF) (z : Int) (hn : a.num = true) (ia : IsD a.n a.h a.l z) (hf : (wholeZ z).2 = true) (w : World) :
    Calls Tryd.prog 33 #[.agg (specV at' s next), argV a] w (BodyPost s a z w) := by
  have hb := bodyF_whole s a z (.inl ⟨hv, hn⟩)
  rw [if_neg (by rw [hf]; simp), if_pos hv] at hb
  have HB := Lib.hid hb
  have HW := Lib.hid (fun W => whole_z a.n a.h a.l z ia W)
  rw [hf] at HW
  generalize (wholeZ z).1 = k at HW HB
  simp only [specV, specC, argV]
  clear hb ia hf
  rw [hv, show ((99 : Nat) : Int) = 99 from rfl, hn]
  go_enter Tryd.func33, Tryd.ntmps33
  go_upto_region 21 with (first
    | (go_at_call 48; (with_reducible refine (HW.out _).mono ?_); rintro e w2 ⟨rfl, b2⟩; have kb2_wheapsize_0 : w2.cell? ⟨w.heap.size, 0, none⟩ = some (.int .i64 (at' : Int)) := (Below.cell b2 (by first | (simp; done) | (simp; omega) | omega)).trans (by first | (simp (maxDischargeDepth := 12) [go_sem]; done) | simp (maxDischargeDepth := 12) [go_sem, *]); have gb2_wheapsize_0 : w2.frozen? ⟨w.heap.size, 0, none⟩ = false := (Below.frozen b2 (by first | (simp; done) | (simp; omega) | omega)).trans (by first | (simp (maxDischargeDepth := 12) [go_sem]; done) | simp (maxDischargeDepth := 12) [go_sem, *]); have kb2_wheapsize_1 : w2.cell? ⟨w.heap.size, 1, none⟩ = some (.bool s.fl.left) := (Below.cell b2 (by first | (simp; done) | (simp; omega) | omega)).trans (by first | (simp (maxDischargeDepth := 12) [go_sem]; done) | simp (maxDischargeDepth := 12) [go_sem, *]); have gb2_wheapsize_1 : w2.frozen? ⟨w.heap.size, 1, none⟩ = false := (Below.frozen b2 (by first | (simp; done) | (simp; omega) | omega)).trans (by first | (simp (maxDischargeDepth := 12) [go_sem]; done) | simp (maxDischargeDepth := 12) [go_sem, *]); have kb2_wheapsize_2 : w2.cell? ⟨w.heap.size, 2, none⟩ = some (.bool s.fl.zero) := (Below.cell b2 (by first | (simp; done) | (simp; omega) | omega)).trans (by first | (simp (maxDischargeDepth := 12) [go_sem]; done) | simp (maxDischargeDepth := 12) [go_sem, *]); have gb2_wheapsize_2 : w2.frozen? ⟨w.heap.size, 2, none⟩ = false := (Below.frozen b2 (by first | (simp; done) | (simp; omega) | omega)).trans (by first | (simp (maxDischargeDepth := 12) [go_sem]; done) | simp (maxDischargeDepth := 12) [go_sem, *]); have kb2_wheapsize_3 : w2.cell? ⟨w.heap.size, 3, none⟩ = some (.bool s.fl.plus) := (Below.cell b2 (by first | (simp; done) | (simp; omega) | omega)).trans (by first | (simp (maxDischargeDepth := 12) [go_sem]; done) | simp (maxDischargeDepth := 12) [go_sem, *]); have gb2_wheapsize_3 : w2.frozen? ⟨w.heap.size, 3, none⟩ = false := (Below.frozen b2 (by first | (simp; done) | (simp; omega) | omega)).trans (by first | (simp (maxDischargeDepth := 12) [go_sem]; done) | simp (maxDischargeDepth := 12) [go_sem, *]); have kb2_wheapsize_4 : w2.cell? ⟨w.heap.size, 4, none⟩ = some (.bool s.fl.blank) := (Below.cell b2 (by first | (simp; done) | (simp; omega) | omega)).trans (by first | (simp (maxDischargeDepth := 12) [go_sem]; done) | simp (maxDischargeDepth := 12) [go_sem, *]); have gb2_wheapsize_4 : w2.frozen? ⟨w.heap.size, 4, none⟩ = false := (Below.frozen b2 (by first | (simp; done) | (simp; omega) | omega)).trans (by first | (simp (maxDischargeDepth := 12) [go_sem]; done) | simp (maxDischargeDepth := 12) [go_sem, *]); have kb2_wheapsize_5 : w2.cell? ⟨w.heap.size, 5, none⟩ = some (.int .i64 (s.width : Int)) := (Below.cell b2 (by first | (simp; done) | (simp; omega) | omega)).trans (by first | (simp (maxDischargeDepth := 12) [go_sem]; done) | simp (maxDischargeDepth := 12) [go_sem, *]); have gb2_wheapsize_5 : w2.frozen? ⟨w.heap.size, 5, none⟩ = false := (Below.frozen b2 (by first | (simp; done) | (simp; omega) | omega)).trans (by first | (simp (maxDischargeDepth := 12) [go_sem]; done) | simp (maxDischargeDepth := 12) [go_sem, *]); have kb2_wheapsize_6 : w2.cell? ⟨w.heap.size, 6, none⟩ = some (.int .i64 s.prec) := (Below.cell b2 (by first | (simp; done) | (simp; omega) | omega)).trans (by first | (simp (maxDischargeDepth := 12) [go_sem]; done) | simp (maxDischargeDepth := 12) [go_sem, *]); have gb2_wheapsize_6 : w2.frozen? ⟨w.heap.size, 6, none⟩ = false := (Below.frozen b2 (by first | (simp; done) | (simp; omega) | omega)).trans (by first | (simp (maxDischargeDepth := 12) [go_sem]; done) | simp (maxDischargeDepth := 12) [go_sem, *]); have kb2_wheapsize_7 : w2.cell? ⟨w.heap.size, 7, none⟩ = some (.bool s.sw) := (Below.cell b2 (by first | (simp; done) | (simp; omega) | omega)).trans (by first | (simp (maxDischargeDepth := 12) [go_sem]; done) | simp (maxDischargeDepth := 12) [go_sem, *]); have gb2_wheapsize_7 : w2.frozen? ⟨w.heap.size, 7, none⟩ = false := (Below.frozen b2 (by first | (simp; done) | (simp; omega) | omega)).trans (by first | (simp (maxDischargeDepth := 12) [go_sem]; done) | simp (maxDischargeDepth := 12) [go_sem, *]); have kb2_wheapsize_8 : w2.cell? ⟨w.heap.size, 8, none⟩ = some (.bool s.sp) := (Below.cell b2 (by first | (simp; done) | (simp; omega) | omega)).trans (by first | (simp (maxDischargeDepth := 12) [go_sem]; done) | simp (maxDischargeDepth := 12) [go_sem, *]); have gb2_wheapsize_8 : w2.frozen? ⟨w.heap.size, 8, none⟩ = false := (Below.frozen b2 (by first | (simp; done) | (simp; omega) | omega)).trans (by first | (simp (maxDischargeDepth := 12) [go_sem]; done) | simp (maxDischargeDepth := 12) [go_sem, *]); have kb2_wheapsize_9 : w2.cell? ⟨w.heap.size, 9, none⟩ = some (.int .u8 99) := (Below.cell b2 (by first | (simp; done) | (simp; omega) | omega)).trans (by first | (simp (maxDischargeDepth := 12) [go_sem]; done) | simp (maxDischargeDepth := 12) [go_sem, *]); have gb2_wheapsize_9 : w2.frozen? ⟨w.heap.size, 9, none⟩ = false := (Below.frozen b2 (by first | (simp; done) | (simp; omega) | omega)).trans (by first | (simp (maxDischargeDepth := 12) [go_sem]; done) | simp (maxDischargeDepth := 12) [go_sem, *]); have kb2_wheapsize_10 : w2.cell? ⟨w.heap.size, 10, none⟩ = some (.int .i64 (next : Int)) := (Below.cell b2 (by first | (simp; done) | (simp; omega) | omega)).trans (by first | (simp (maxDischargeDepth := 12) [go_sem]; done) | simp (maxDischargeDepth := 12) [go_sem, *]); have gb2_wheapsize_10 : w2.frozen? ⟨w.heap.size, 10, none⟩ = false := (Below.frozen b2 (by first | (simp; done) | (simp; omega) | omega)).trans (by first | (simp (maxDischargeDepth := 12) [go_sem]; done) | simp (maxDischargeDepth := 12) [go_sem, *]); have lb2_wheapsize : w.heap.size < w2.heap.size := (by first | omega | (have := Below.size b2; simp at this; omega)); have lb2_wheapsize' : w.heap.size < w2.heap.size + 1 := Nat.lt_succ_of_lt lb2_wheapsize; have lb2_wheapsize'' : w.heap.size < w2.heap.size + 1 + 1 := Nat.lt_succ_of_lt lb2_wheapsize')
    | fail)
  have hu : IntKind.u8.wrap k = k % 256 := IntKind.wrap_u8 k
  have hcv := chr_conv ((w2.alloc (.cells #[.int .u8 (IntKind.u8.wrap k)] 5)).drew) w2.heap.size (IntKind.u8.wrap k) (by rw [hu]; omega) (by rw [hu]; omega) (by simp [go_sem])
  obtain ⟨X, hX⟩ : ∃ X, X = strN [(IntKind.u8.wrap k).toNat] := ⟨_, rfl⟩
  rw [← hX] at hcv
  rw [hu] at hX
  have HX := Lib.hid hX
  clear hX hu
  go_region_with (fail)
  all_goals
    go_wp2_with fail
    (try simp only [Exit.inBlock, Exit.then]); refine bodyPost_ret (by simp [results, Tryd.results33, go_sem, *]; try rfl) rfl ?_
    exact ⟨.inr ⟨_, _, HB.out, by rw [← HX.out]; rfl⟩, by (repeat' (first | (with_reducible exact Below.refl _ _) | (refine Below.trans ?_ (Below.mono (by with_reducible assumption) ?_)) | (with_reducible exact Below.refl _ _) | (with_reducible refine below_drewN ?_ _) | (with_reducible refine Below.drew ?_) | (with_reducible refine Below.setCell ?_ ?_ _) | (with_reducible refine Below.alloc ?_ ?_ _) | (with_reducible assumption) | (simp; done) | (simp; omega) | omega))⟩
end Go.Proofs.YtpkooogfefkcdaaDoor

/- Layer 8: body, of octal and hexadecimal numbers; of any verb. -/
namespace Go.Proofs.YtpkooogfefkcdaaDoor
open Go.RowKit
/-- The spec's box, and the table. -/
def SU (a : Nat) (s : SpecF) (V : Int) (next g : Nat) (w w' : World) : Prop := specK a s V next w' g ∧ TzOk w' ∧ Below w.heap.size w w'
theorem SU.next {a : Nat} {s : SpecF} {V : Int} {nx g : Nat} {w x y : World} (p : SU a s V nx g w x) (q : Below x.heap.size x y) : SU a s V nx g w y :=
  ⟨Box11.below p.1 q, p.2.1.below q, below_step p.2.2 q⟩
theorem SU.tz {a : Nat} {s : SpecF} {V : Int} {nx g : Nat} {w x : World} (p : SU a s V nx g w x) : TzOk x := p.2.1
theorem SU.start (at' : Nat) (s : SpecF) (V : Int) (next : Nat) (S : ByteArray) (n : Bool) (h l : Int) (nm : Bool) (w : World) (T T' : TypeId) (ht : TzOk w) :
    SU at' s V next w.heap.size w ((w.alloc (.cells #[.int .i64 (at' : Int), .bool s.fl.left, .bool s.fl.zero, .bool s.fl.plus, .bool s.fl.blank, .int .i64 (s.width : Int), .int .i64 s.prec, .bool s.sw, .bool s.sp, .int .u8 V, .int .i64 (next : Int)] T)).alloc (.cells #[.string S, .bool n, .int .u64 h, .int .u64 l, .bool nm] T')) :=
  ⟨Box11.alloc (Box11.make w _ _ _ _ _ _ _ _ _ _ _ _ rfl) _, ht.below (by (repeat' (first | (with_reducible exact Below.refl _ _) | (refine Below.trans ?_ (Below.mono (by with_reducible assumption) ?_)) | (with_reducible exact Below.refl _ _) | (with_reducible refine below_drewN ?_ _) | (with_reducible refine Below.drew ?_) | (with_reducible refine Below.setCell ?_ ?_ _) | (with_reducible refine Below.alloc ?_ ?_ _) | (with_reducible assumption) | (simp; done) | (simp; omega) | omega))), by (repeat' (first | (with_reducible exact Below.refl _ _) | (refine Below.trans ?_ (Below.mono (by with_reducible assumption) ?_)) | (with_reducible exact Below.refl _ _) | (with_reducible refine below_drewN ?_ _) | (with_reducible refine Below.drew ?_) | (with_reducible refine Below.setCell ?_ ?_ _) | (with_reducible refine Below.alloc ?_ ?_ _) | (with_reducible assumption) | (simp; done) | (simp; omega) | omega))⟩
theorem baseF_len (up : Bool) (b : Nat) : ∀ k n, (baseF up b k n).length ≤ k
  | 0, n => by simp [baseF]
  | k + 1, n => by
    have := baseF_len up b k (n / b)
    rw [baseF, List.length_append, List.length_singleton]
    split <;> simp <;> omega
theorem baseF_byte (up : Bool) (b : Nat) (hb : b ≤ 16) (hb0 : 0 < b) : ∀ k n, ∀ x ∈ baseF up b k n, x < 128
  | 0, n => by simp [baseF]
  | k + 1, n => by
    intro x hx
    have ih := baseF_byte up b hb hb0 k (n / b) x
    have hm := Nat.mod_lt n hb0
    rw [baseF] at hx
    rcases List.mem_append.1 hx with hx | hx
    · split at hx
      · cases hx
      · exact ih hx
    · rw [List.mem_singleton] at hx
      subst hx
      split
      · omega
      · split <;> omega
theorem up_dig : ∀ d : Fin 16, Lib.upperB (UInt8.ofNat (if d.val < 10 then 48 + d.val else 87 + d.val)) = UInt8.ofNat (if d.val < 10 then 48 + d.val else 55 + d.val) := by decide
theorem upper_base (b : Nat) (hb : b ≤ 16) (hb0 : 0 < b) : ∀ k n, Lib.toUpperA ((baseF false b k n).map UInt8.ofNat) = (baseF true b k n).map UInt8.ofNat
  | 0, n => rfl
  | k + 1, n => by
    have ih := upper_base b hb hb0 k (n / b)
    have hm := Nat.mod_lt n hb0
    unfold Lib.toUpperA at ih ⊢
    rw [baseF, baseF]
    simp only [List.map_append, List.map_cons, List.map_nil]
    congr 1
    · split
      · rfl
      · exact ih
    · exact congrArg (· :: []) (up_dig ⟨n % b, by omega⟩)
theorem upper_any (k n : Nat) (hk : k ≤ 100) (W : World) : Calls Tryd.prog 55 #[.string (strN (baseF false 16 k n))] W fun e w' => e = .returned (.string (strN (baseF true 16 k n))) ∧ Below W.heap.size W w' := by
  have hl := baseF_len false 16 k n
  refine (Tryd.strings_ToUpper_ascii (strN (baseF false 16 k n)) W (by rw [strN_size]; omega) (fun j b hj => ?_)).mono fun e w' h => ⟨?_, h.2⟩
  · rw [strN_data, List.getElem?_map] at hj
    cases hx : (baseF false 16 k n)[j]? with
    | none => rw [hx] at hj; cases hj
    | some x =>
      rw [hx] at hj
      injection hj with hj
      have := baseF_byte false 16 (by decide) (by decide) k n x (List.mem_of_getElem? hx)
      rw [← hj, UInt8.toNat_ofNat', Nat.mod_eq_of_lt (show x < 2 ^ 8 by omega)]
      exact this
  · rw [h.1, strN_data, upper_base 16 (by decide) (by decide)]; rfl
theorem u64F_eq (k : Int) : IntKind.u64.wrap k = ((u64F k : Nat) : Int) := by
  rw [IntKind.wrap_u64]; unfold u64F; omega
theorem u64F_lt (k : Int) : u64F k < 18446744073709551616 := by unfold u64F; omega
set_option maxRecDepth 100000 in
set_option maxHeartbeats 3200000 in
theorem body_111 (at' next : Nat) (s : SpecF) (hv : s.verb = 111) (hp : -1000 < s.prec ∧ s.prec < 1000) (a : ArgF) (z : Int) (ia : IsD a.n a.h a.l z) (hf : (wholeZ z).2 = true) (w : World) (ht : TzOk w) :
    Calls Tryd.prog 33 #[.agg (specV at' s next), argV a] w (BodyPost s a z w) := by
  have hb := bodyF_whole s a z (by unfold WholeV; omega)
  rw [if_neg (by rw [hf]; simp), if_neg (by omega)] at hb
  have HW := Lib.hid (fun W => whole_z a.n a.h a.l z ia W)
  rw [hf] at HW
  generalize (wholeZ z).1 = k at HW hb
  have hb : bodyF s a z = .ok ([], filledF s.prec (baseF false 8 22 (u64F k))) := by rw [hb, hv]; rfl
  have HB := Lib.hid hb
  have hwr := u64F_eq k
  have hlt := u64F_lt k
  generalize u64F k = N at hwr HB hlt
  have HU := Lib.hid (fun W h => uint_8 N hlt W h)
  have HF := Lib.hid (fun W => filled_any at' next s hp (baseF false 8 22 N) (by have := baseF_len false 8 22 N; omega) W)
  simp only [specV, specC, argV] at HF ⊢
  obtain ⟨X1, hX1⟩ : ∃ x, x = strN (baseF false 8 22 N) := ⟨_, rfl⟩
  obtain ⟨X2, hX2⟩ : ∃ x, x = strN (filledF s.prec (baseF false 8 22 N)) := ⟨_, rfl⟩
  rw [← hX1] at HU
  rw [← hX1, ← hX2] at HF
  have HX2 := Lib.hid hX2
  clear hX1 hX2 hb ia hf
  rw [hv, show ((111 : Nat) : Int) = 111 from rfl] at HF ⊢
  have HK := Lib.hid (fun (x y : World) (p : SU at' s 111 next w.heap.size w x) (q : Below x.heap.size x y) => p.next q)
  have HS0 := Lib.hid (SU.start at' s 111 next (strN a.s) a.n a.h a.l a.num w 52 37 ht)
  clear ht
  go_enter Tryd.func33, Tryd.ntmps33
  go_upto_region 23 with (first
    | (go_at_call 48; (with_reducible refine (HW.out _).mono ?_); rintro e w2 ⟨rfl, b2⟩; have S2 := HK.out _ _ HS0.out b2; have HS2 := Lib.hid S2; unfold SU specK at S2; have k0 := S2.1.c0; have k9 := S2.1.c9; clear S2 b2)
    | fail)
  clear k0 k9
  refine wp_region_held_drew (S := (fun w' => SU at' s 111 next w.heap.size w w')) (by kernel_rfl) ?_ (fun hHeld => ?_)
  · (try dsimp only)
    (first | exact HS2.out.next (Below.refl _ _).drew | (refine HK.out _ _ ?_ (by with_reducible assumption); with_reducible assumption))
  refine h4_take (i := 0) (v := ?v0) rfl (by kernel_rfl) (by kernel_rfl) (by kernel_rfl) (fun _ _ _ h => h) (by rfl) ?y0 hHeld ?r0
  case y0 => (intro wS hSw; obtain ⟨hq1, _, _⟩ := hSw; unfold specK at hq1; obtain ⟨k0, k1, k2, k3, k4, k5, k6, k7, k8, k9, k10, _, _, _, _, _, _, _, _, _, _, _, kz⟩ := hq1; go_simp; (try with_reducible rfl))
  try simp only [Act.put, List.setIfInBounds_toArray, List.set_cons_zero, List.set_cons_succ]
  refine h4_take (i := 1) (v := ?v1) rfl (by kernel_rfl) (by kernel_rfl) (by kernel_rfl) (fun _ _ _ h => h) (by rfl) ?y1 hHeld ?r1
  case y1 => (intro wS hSw; obtain ⟨hq1, _, _⟩ := hSw; unfold specK at hq1; obtain ⟨k0, k1, k2, k3, k4, k5, k6, k7, k8, k9, k10, _, _, _, _, _, _, _, _, _, _, _, kz⟩ := hq1; go_simp; (try with_reducible rfl))
  try simp only [Act.put, List.setIfInBounds_toArray, List.set_cons_zero, List.set_cons_succ]
  refine h4_take (i := 2) (v := ?v2) rfl (by kernel_rfl) (by kernel_rfl) (by kernel_rfl) (fun _ _ _ h => h) (by rfl) ?y2 hHeld ?r2
  case y2 => (intro wS hSw; obtain ⟨hq1, _, _⟩ := hSw; unfold specK at hq1; obtain ⟨k0, k1, k2, k3, k4, k5, k6, k7, k8, k9, k10, _, _, _, _, _, _, _, _, _, _, _, kz⟩ := hq1; go_simp; (try with_reducible rfl))
  try simp only [Act.put, List.setIfInBounds_toArray, List.set_cons_zero, List.set_cons_succ]
  refine wpAnyH_ready (rs := [3]) (by kernel_rfl) (by simp) ?_
  refine (h4_cons rfl (fun K hK => ?_) AllReadyH.nil)
  go_simp
  ((go_at_call 54; (with_reducible refine (HU.out _ (SU.tz (by with_reducible assumption))).mono ?_); rintro e w4 ⟨rfl, b4⟩))
  (try go_wp2_with fail)
  refine hK.out _ _ ?_ (fun hHeld4 => ?_)
  · (try dsimp only)
    (first | exact HS2.out.next (Below.refl _ _).drew | (refine HK.out _ _ ?_ (by with_reducible assumption); with_reducible assumption))
  clear hK K hHeld
  try simp only [Act.put, List.setIfInBounds_toArray, List.set_cons_zero, List.set_cons_succ]
  refine wpAnyH_ready (rs := [4]) (by kernel_rfl) (by simp) ?_
  refine (h4_cons rfl (fun K hK => ?_) AllReadyH.nil)
  go_simp
  ((go_at_call 52; (with_reducible refine (HF.out _).mono ?_); rintro e w5 ⟨rfl, b5⟩))
  (try go_wp2_with fail)
  refine hK.out _ _ ?_ (fun hHeld5 => ?_)
  · (try dsimp only)
    (first | exact HS2.out.next (Below.refl _ _).drew | (refine HK.out _ _ ?_ (by with_reducible assumption); with_reducible assumption))
  clear hK K hHeld4
  try simp only [Act.put, List.setIfInBounds_toArray, List.set_cons_zero, List.set_cons_succ]
  refine h4_take (i := 5) (v := ?v5) rfl (by kernel_rfl) (by kernel_rfl) (by kernel_rfl) (fun _ _ _ h => h) (by rfl) ?y5 hHeld5 ?r5
  case y5 => (intro wS hSw; obtain ⟨hq1, _, _⟩ := hSw; unfold specK at hq1; obtain ⟨k0, k1, k2, k3, k4, k5, k6, k7, k8, k9, k10, _, _, _, _, _, _, _, _, _, _, _, kz⟩ := hq1; go_simp; (try with_reducible rfl))
  try simp only [Act.put, List.setIfInBounds_toArray, List.set_cons_zero, List.set_cons_succ]
  refine h4_take (i := 6) (v := ?v6) rfl (by kernel_rfl) (by kernel_rfl) (by kernel_rfl) (fun _ _ _ h => h) (by rfl) ?y6 hHeld5 ?r6
  case y6 => (intro wS hSw; obtain ⟨hq1, _, _⟩ := hSw; unfold specK at hq1; obtain ⟨k0, k1, k2, k3, k4, k5, k6, k7, k8, k9, k10, _, _, _, _, _, _, _, _, _, _, _, kz⟩ := hq1; go_simp; (try with_reducible rfl))
  try simp only [Act.put, List.setIfInBounds_toArray, List.set_cons_zero, List.set_cons_succ]
  refine h4_take (i := 7) (v := ?v7) rfl (by kernel_rfl) (by kernel_rfl) (by kernel_rfl) (fun _ _ _ h => h) (by rfl) ?y7 hHeld5 ?r7
  case y7 => (intro wS hSw; obtain ⟨hq1, _, _⟩ := hSw; unfold specK at hq1; obtain ⟨k0, k1, k2, k3, k4, k5, k6, k7, k8, k9, k10, _, _, _, _, _, _, _, _, _, _, _, kz⟩ := hq1; go_simp; (try with_reducible rfl))
  try simp only [Act.put, List.setIfInBounds_toArray, List.set_cons_zero, List.set_cons_succ]
  refine wpAnyH_done (by kernel_rfl) ?_ _
  all_goals
    go_wp2_with fail
    (try simp only [Exit.inBlock, Exit.then]); refine bodyPost_ret (by simp [results, Tryd.results33, go_sem, *]; try rfl) rfl ?_
    exact ⟨.inr ⟨_, _, HB.out, by rw [← HX2.out]; rfl⟩, (‹SU at' s 111 next w.heap.size w _›).2.2⟩
set_option maxRecDepth 100000 in
set_option maxHeartbeats 3200000 in
theorem body_120 (at' next : Nat) (s : SpecF) (hv : s.verb = 120) (hp : -1000 < s.prec ∧ s.prec < 1000) (a : ArgF) (z : Int) (ia : IsD a.n a.h a.l z) (hf : (wholeZ z).2 = true) (w : World) (ht : TzOk w) :
    Calls Tryd.prog 33 #[.agg (specV at' s next), argV a] w (BodyPost s a z w) := by
  have hb := bodyF_whole s a z (by unfold WholeV; omega)
  rw [if_neg (by rw [hf]; simp), if_neg (by omega)] at hb
  have HW := Lib.hid (fun W => whole_z a.n a.h a.l z ia W)
  rw [hf] at HW
  generalize (wholeZ z).1 = k at HW hb
  have hb : bodyF s a z = .ok ([], filledF s.prec (baseF false 16 16 (u64F k))) := by rw [hb, hv]; rfl
  have HB := Lib.hid hb
  have hwr := u64F_eq k
  have hlt := u64F_lt k
  generalize u64F k = N at hwr HB hlt
  have HU := Lib.hid (fun W h => uint_16 N hlt W h)
  have HF := Lib.hid (fun W => filled_any at' next s hp (baseF false 16 16 N) (by have := baseF_len false 16 16 N; omega) W)
  simp only [specV, specC, argV] at HF ⊢
  obtain ⟨X1, hX1⟩ : ∃ x, x = strN (baseF false 16 16 N) := ⟨_, rfl⟩
  obtain ⟨X2, hX2⟩ : ∃ x, x = strN (filledF s.prec (baseF false 16 16 N)) := ⟨_, rfl⟩
  rw [← hX1] at HU
  rw [← hX1, ← hX2] at HF
  have HX2 := Lib.hid hX2
  clear hX1 hX2 hb ia hf
  rw [hv, show ((120 : Nat) : Int) = 120 from rfl] at HF ⊢
  have HK := Lib.hid (fun (x y : World) (p : SU at' s 120 next w.heap.size w x) (q : Below x.heap.size x y) => p.next q)
  have HS0 := Lib.hid (SU.start at' s 120 next (strN a.s) a.n a.h a.l a.num w 52 37 ht)
  clear ht
  go_enter Tryd.func33, Tryd.ntmps33
  go_upto_region 26 with (first
    | (go_at_call 48; (with_reducible refine (HW.out _).mono ?_); rintro e w2 ⟨rfl, b2⟩; have S2 := HK.out _ _ HS0.out b2; have HS2 := Lib.hid S2; unfold SU specK at S2; have k0 := S2.1.c0; have k9 := S2.1.c9; clear S2 b2)
    | fail)
  clear k0 k9
  refine wp_region_held_drew (S := (fun w' => SU at' s 120 next w.heap.size w w')) (by kernel_rfl) ?_ (fun hHeld => ?_)
  · (try dsimp only)
    (first | exact HS2.out.next (Below.refl _ _).drew | (refine HK.out _ _ ?_ (by with_reducible assumption); with_reducible assumption))
  refine h4_take (i := 0) (v := ?v8) rfl (by kernel_rfl) (by kernel_rfl) (by kernel_rfl) (fun _ _ _ h => h) (by rfl) ?y8 hHeld ?r8
  case y8 => (intro wS hSw; obtain ⟨hq1, _, _⟩ := hSw; unfold specK at hq1; obtain ⟨k0, k1, k2, k3, k4, k5, k6, k7, k8, k9, k10, _, _, _, _, _, _, _, _, _, _, _, kz⟩ := hq1; go_simp; (try with_reducible rfl))
  try simp only [Act.put, List.setIfInBounds_toArray, List.set_cons_zero, List.set_cons_succ]
  refine h4_take (i := 1) (v := ?v9) rfl (by kernel_rfl) (by kernel_rfl) (by kernel_rfl) (fun _ _ _ h => h) (by rfl) ?y9 hHeld ?r9
  case y9 => (intro wS hSw; obtain ⟨hq1, _, _⟩ := hSw; unfold specK at hq1; obtain ⟨k0, k1, k2, k3, k4, k5, k6, k7, k8, k9, k10, _, _, _, _, _, _, _, _, _, _, _, kz⟩ := hq1; go_simp; (try with_reducible rfl))
  try simp only [Act.put, List.setIfInBounds_toArray, List.set_cons_zero, List.set_cons_succ]
  refine h4_take (i := 2) (v := ?v10) rfl (by kernel_rfl) (by kernel_rfl) (by kernel_rfl) (fun _ _ _ h => h) (by rfl) ?y10 hHeld ?r10
  case y10 => (intro wS hSw; obtain ⟨hq1, _, _⟩ := hSw; unfold specK at hq1; obtain ⟨k0, k1, k2, k3, k4, k5, k6, k7, k8, k9, k10, _, _, _, _, _, _, _, _, _, _, _, kz⟩ := hq1; go_simp; (try with_reducible rfl))
  try simp only [Act.put, List.setIfInBounds_toArray, List.set_cons_zero, List.set_cons_succ]
  refine wpAnyH_ready (rs := [3]) (by kernel_rfl) (by simp) ?_
  refine (h4_cons rfl (fun K hK => ?_) AllReadyH.nil)
  go_simp
  ((go_at_call 54; (with_reducible refine (HU.out _ (SU.tz (by with_reducible assumption))).mono ?_); rintro e w4 ⟨rfl, b4⟩))
  (try go_wp2_with fail)
  refine hK.out _ _ ?_ (fun hHeld12 => ?_)
  · (try dsimp only)
    (first | exact HS2.out.next (Below.refl _ _).drew | (refine HK.out _ _ ?_ (by with_reducible assumption); with_reducible assumption))
  clear hK K hHeld
  try simp only [Act.put, List.setIfInBounds_toArray, List.set_cons_zero, List.set_cons_succ]
  refine wpAnyH_ready (rs := [4]) (by kernel_rfl) (by simp) ?_
  refine (h4_cons rfl (fun K hK => ?_) AllReadyH.nil)
  go_simp
  ((go_at_call 52; (with_reducible refine (HF.out _).mono ?_); rintro e w5 ⟨rfl, b5⟩))
  (try go_wp2_with fail)
  refine hK.out _ _ ?_ (fun hHeld13 => ?_)
  · (try dsimp only)
    (first | exact HS2.out.next (Below.refl _ _).drew | (refine HK.out _ _ ?_ (by with_reducible assumption); with_reducible assumption))
  clear hK K hHeld12
  try simp only [Act.put, List.setIfInBounds_toArray, List.set_cons_zero, List.set_cons_succ]
  refine h4_take (i := 5) (v := ?v13) rfl (by kernel_rfl) (by kernel_rfl) (by kernel_rfl) (fun _ _ _ h => h) (by rfl) ?y13 hHeld13 ?r13
  case y13 => (intro wS hSw; obtain ⟨hq1, _, _⟩ := hSw; unfold specK at hq1; obtain ⟨k0, k1, k2, k3, k4, k5, k6, k7, k8, k9, k10, _, _, _, _, _, _, _, _, _, _, _, kz⟩ := hq1; go_simp; (try with_reducible rfl))
  try simp only [Act.put, List.setIfInBounds_toArray, List.set_cons_zero, List.set_cons_succ]
  refine h4_take (i := 6) (v := ?v14) rfl (by kernel_rfl) (by kernel_rfl) (by kernel_rfl) (fun _ _ _ h => h) (by rfl) ?y14 hHeld13 ?r14
  case y14 => (intro wS hSw; obtain ⟨hq1, _, _⟩ := hSw; unfold specK at hq1; obtain ⟨k0, k1, k2, k3, k4, k5, k6, k7, k8, k9, k10, _, _, _, _, _, _, _, _, _, _, _, kz⟩ := hq1; go_simp; (try with_reducible rfl))
  try simp only [Act.put, List.setIfInBounds_toArray, List.set_cons_zero, List.set_cons_succ]
  refine h4_take (i := 7) (v := ?v15) rfl (by kernel_rfl) (by kernel_rfl) (by kernel_rfl) (fun _ _ _ h => h) (by rfl) ?y15 hHeld13 ?r15
  case y15 => (intro wS hSw; obtain ⟨hq1, _, _⟩ := hSw; unfold specK at hq1; obtain ⟨k0, k1, k2, k3, k4, k5, k6, k7, k8, k9, k10, _, _, _, _, _, _, _, _, _, _, _, kz⟩ := hq1; go_simp; (try with_reducible rfl))
  try simp only [Act.put, List.setIfInBounds_toArray, List.set_cons_zero, List.set_cons_succ]
  refine wpAnyH_done (by kernel_rfl) ?_ _
  all_goals
    go_wp2_with fail
    (try simp only [Exit.inBlock, Exit.then]); refine bodyPost_ret (by simp [results, Tryd.results33, go_sem, *]; try rfl) rfl ?_
    exact ⟨.inr ⟨_, _, HB.out, by rw [← HX2.out]; rfl⟩, (‹SU at' s 120 next w.heap.size w _›).2.2⟩
set_option maxRecDepth 100000 in
set_option maxHeartbeats 3200000 in
theorem body_88 (at' next : Nat) (s : SpecF) (hv : s.verb = 88) (hp : -1000 < s.prec ∧ s.prec < 1000) (a : ArgF) (z : Int) (ia : IsD a.n a.h a.l z) (hf : (wholeZ z).2 = true) (w : World) (ht : TzOk w) :
    Calls Tryd.prog 33 #[.agg (specV at' s next), argV a] w (BodyPost s a z w) := by
  have hb := bodyF_whole s a z (by unfold WholeV; omega)
  rw [if_neg (by rw [hf]; simp), if_neg (by omega)] at hb
  have HW := Lib.hid (fun W => whole_z a.n a.h a.l z ia W)
  rw [hf] at HW
  generalize (wholeZ z).1 = k at HW hb
  have hb : bodyF s a z = .ok ([], filledF s.prec (baseF true 16 16 (u64F k))) := by rw [hb, hv]; rfl
  have HB := Lib.hid hb
  have hwr := u64F_eq k
  have hlt := u64F_lt k
  generalize u64F k = N at hwr HB hlt
  have HU := Lib.hid (fun W h => uint_16 N hlt W h)
  have HUP := Lib.hid (fun W => upper_any 16 N (by decide) W)
  have HF := Lib.hid (fun W => filled_any at' next s hp (baseF true 16 16 N) (by have := baseF_len true 16 16 N; omega) W)
  simp only [specV, specC, argV] at HF ⊢
  obtain ⟨X1, hX1⟩ : ∃ x, x = strN (baseF true 16 16 N) := ⟨_, rfl⟩
  obtain ⟨X2, hX2⟩ : ∃ x, x = strN (filledF s.prec (baseF true 16 16 N)) := ⟨_, rfl⟩
  obtain ⟨X0, hX0⟩ : ∃ x, x = strN (baseF false 16 16 N) := ⟨_, rfl⟩
  rw [← hX0] at HU HUP
  rw [← hX1] at HUP
  clear hX0
  rw [← hX1, ← hX2] at HF
  have HX2 := Lib.hid hX2
  clear hX1 hX2 hb ia hf
  rw [hv, show ((88 : Nat) : Int) = 88 from rfl] at HF ⊢
  have HK := Lib.hid (fun (x y : World) (p : SU at' s 88 next w.heap.size w x) (q : Below x.heap.size x y) => p.next q)
  have HS0 := Lib.hid (SU.start at' s 88 next (strN a.s) a.n a.h a.l a.num w 52 37 ht)
  clear ht
  go_enter Tryd.func33, Tryd.ntmps33
  go_upto_region 25 with (first
    | (go_at_call 48; (with_reducible refine (HW.out _).mono ?_); rintro e w2 ⟨rfl, b2⟩; have S2 := HK.out _ _ HS0.out b2; have HS2 := Lib.hid S2; unfold SU specK at S2; have k0 := S2.1.c0; have k9 := S2.1.c9; clear S2 b2)
    | fail)
  clear k0 k9
  refine wp_region_held_drew (S := (fun w' => SU at' s 88 next w.heap.size w w')) (by kernel_rfl) ?_ (fun hHeld => ?_)
  · (try dsimp only)
    (first | exact HS2.out.next (Below.refl _ _).drew | (refine HK.out _ _ ?_ (by with_reducible assumption); with_reducible assumption))
  refine h4_take (i := 0) (v := ?v16) rfl (by kernel_rfl) (by kernel_rfl) (by kernel_rfl) (fun _ _ _ h => h) (by rfl) ?y16 hHeld ?r16
  case y16 => (intro wS hSw; obtain ⟨hq1, _, _⟩ := hSw; unfold specK at hq1; obtain ⟨k0, k1, k2, k3, k4, k5, k6, k7, k8, k9, k10, _, _, _, _, _, _, _, _, _, _, _, kz⟩ := hq1; go_simp; (try with_reducible rfl))
  try simp only [Act.put, List.setIfInBounds_toArray, List.set_cons_zero, List.set_cons_succ]
  refine h4_take (i := 1) (v := ?v17) rfl (by kernel_rfl) (by kernel_rfl) (by kernel_rfl) (fun _ _ _ h => h) (by rfl) ?y17 hHeld ?r17
  case y17 => (intro wS hSw; obtain ⟨hq1, _, _⟩ := hSw; unfold specK at hq1; obtain ⟨k0, k1, k2, k3, k4, k5, k6, k7, k8, k9, k10, _, _, _, _, _, _, _, _, _, _, _, kz⟩ := hq1; go_simp; (try with_reducible rfl))
  try simp only [Act.put, List.setIfInBounds_toArray, List.set_cons_zero, List.set_cons_succ]
  refine h4_take (i := 2) (v := ?v18) rfl (by kernel_rfl) (by kernel_rfl) (by kernel_rfl) (fun _ _ _ h => h) (by rfl) ?y18 hHeld ?r18
  case y18 => (intro wS hSw; obtain ⟨hq1, _, _⟩ := hSw; unfold specK at hq1; obtain ⟨k0, k1, k2, k3, k4, k5, k6, k7, k8, k9, k10, _, _, _, _, _, _, _, _, _, _, _, kz⟩ := hq1; go_simp; (try with_reducible rfl))
  try simp only [Act.put, List.setIfInBounds_toArray, List.set_cons_zero, List.set_cons_succ]
  refine wpAnyH_ready (rs := [3]) (by kernel_rfl) (by simp) ?_
  refine (h4_cons rfl (fun K hK => ?_) AllReadyH.nil)
  go_simp
  ((go_at_call 54; (with_reducible refine (HU.out _ (SU.tz (by with_reducible assumption))).mono ?_); rintro e w4 ⟨rfl, b4⟩))
  (try go_wp2_with fail)
  refine hK.out _ _ ?_ (fun hHeld20 => ?_)
  · (try dsimp only)
    (first | exact HS2.out.next (Below.refl _ _).drew | (refine HK.out _ _ ?_ (by with_reducible assumption); with_reducible assumption))
  clear hK K hHeld
  try simp only [Act.put, List.setIfInBounds_toArray, List.set_cons_zero, List.set_cons_succ]
  refine wpAnyH_ready (rs := [4]) (by kernel_rfl) (by simp) ?_
  refine (h4_cons rfl (fun K hK => ?_) AllReadyH.nil)
  go_simp
  ((go_at_call 55; (with_reducible refine (HUP.out _).mono ?_); rintro e w7 ⟨rfl, b7⟩))
  (try go_wp2_with fail)
  refine hK.out _ _ ?_ (fun hHeld21 => ?_)
  · (try dsimp only)
    (first | exact HS2.out.next (Below.refl _ _).drew | (refine HK.out _ _ ?_ (by with_reducible assumption); with_reducible assumption))
  clear hK K hHeld20
  try simp only [Act.put, List.setIfInBounds_toArray, List.set_cons_zero, List.set_cons_succ]
  refine wpAnyH_ready (rs := [5]) (by kernel_rfl) (by simp) ?_
  refine (h4_cons rfl (fun K hK => ?_) AllReadyH.nil)
  go_simp
  ((go_at_call 52; (with_reducible refine (HF.out _).mono ?_); rintro e w5 ⟨rfl, b5⟩))
  (try go_wp2_with fail)
  refine hK.out _ _ ?_ (fun hHeld22 => ?_)
  · (try dsimp only)
    (first | exact HS2.out.next (Below.refl _ _).drew | (refine HK.out _ _ ?_ (by with_reducible assumption); with_reducible assumption))
  clear hK K hHeld21
  try simp only [Act.put, List.setIfInBounds_toArray, List.set_cons_zero, List.set_cons_succ]
  refine h4_take (i := 6) (v := ?v22) rfl (by kernel_rfl) (by kernel_rfl) (by kernel_rfl) (fun _ _ _ h => h) (by rfl) ?y22 hHeld22 ?r22
  case y22 => (intro wS hSw; obtain ⟨hq1, _, _⟩ := hSw; unfold specK at hq1; obtain ⟨k0, k1, k2, k3, k4, k5, k6, k7, k8, k9, k10, _, _, _, _, _, _, _, _, _, _, _, kz⟩ := hq1; go_simp; (try with_reducible rfl))
  try simp only [Act.put, List.setIfInBounds_toArray, List.set_cons_zero, List.set_cons_succ]
  refine h4_take (i := 7) (v := ?v23) rfl (by kernel_rfl) (by kernel_rfl) (by kernel_rfl) (fun _ _ _ h => h) (by rfl) ?y23 hHeld22 ?r23
  case y23 => (intro wS hSw; obtain ⟨hq1, _, _⟩ := hSw; unfold specK at hq1; obtain ⟨k0, k1, k2, k3, k4, k5, k6, k7, k8, k9, k10, _, _, _, _, _, _, _, _, _, _, _, kz⟩ := hq1; go_simp; (try with_reducible rfl))
  try simp only [Act.put, List.setIfInBounds_toArray, List.set_cons_zero, List.set_cons_succ]
  refine h4_take (i := 8) (v := ?v24) rfl (by kernel_rfl) (by kernel_rfl) (by kernel_rfl) (fun _ _ _ h => h) (by rfl) ?y24 hHeld22 ?r24
  case y24 => (intro wS hSw; obtain ⟨hq1, _, _⟩ := hSw; unfold specK at hq1; obtain ⟨k0, k1, k2, k3, k4, k5, k6, k7, k8, k9, k10, _, _, _, _, _, _, _, _, _, _, _, kz⟩ := hq1; go_simp; (try with_reducible rfl))
  try simp only [Act.put, List.setIfInBounds_toArray, List.set_cons_zero, List.set_cons_succ]
  refine wpAnyH_done (by kernel_rfl) ?_ _
  all_goals
    go_wp2_with fail
    (try simp only [Exit.inBlock, Exit.then]); refine bodyPost_ret (by simp [results, Tryd.results33, go_sem, *]; try rfl) rfl ?_
    exact ⟨.inr ⟨_, _, HB.out, by rw [← HX2.out]; rfl⟩, (‹SU at' s 88 next w.heap.size w _›).2.2⟩
theorem body_any (at' next : Nat) (s : SpecF) (hv : isVerb s.verb = true) (hp : -1000 < s.prec ∧ s.prec < 1000) (a : ArgF) (ok : a.ok) (z : Int) (ia : IsD a.n a.h a.l z) (w : World) (ht : TzOk w) :
    Calls Tryd.prog 33 #[.agg (specV at' s next), argV a] w (BodyPost s a z w) := by
  have h8 : s.verb = 100 ∨ s.verb = 105 ∨ s.verb = 111 ∨ s.verb = 120 ∨ s.verb = 88 ∨ s.verb = 102 ∨ s.verb = 115 ∨ s.verb = 99 := by simpa [isVerb] using hv
  have hl := ok.len
  have over : ∀ h : WholeV s.verb a.num, (wholeZ z).2 = false → _ := fun h hf => body_over at' next s a z h ia hf w
  rcases h8 with h | h | h | h | h | h | h | h
  · exact body_d at' next s (.inl h) hp a z ia w
  · exact body_d at' next s (.inr h) hp a z ia w
  · cases hf : (wholeZ z).2
    · exact over (.inr (.inl h)) hf
    · exact body_111 at' next s h hp a z ia hf w ht
  · cases hf : (wholeZ z).2
    · exact over (.inr (.inr (.inl h))) hf
    · exact body_120 at' next s h hp a z ia hf w ht
  · cases hf : (wholeZ z).2
    · exact over (.inr (.inr (.inr h))) hf
    · exact body_88 at' next s h hp a z ia hf w ht
  · exact body_f at' next s h hp a z ia w
  · exact body_s at' next s h hp a z hl w
  · cases hn : a.num
    · exact body_c0 at' next s h a z hn hl w
    · cases hf : (wholeZ z).2
      · exact over (.inl ⟨h, hn⟩) hf
      · exact body_c1 at' next s h a z hn ia hf w
end Go.Proofs.YtpkooogfefkcdaaDoor
