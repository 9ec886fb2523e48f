/- Several texts put together: ScrH. -/
import Derived.Test.YtanbplnagcmlcaaDoorBu4
/- Layer 24: an event's line. -/
namespace Go.Proofs.YtanbplnagcmlcaaDoor
open Go.RowKit
/-- An event that may be told. -/
structure Ev where
  k : Nat
  c : Nat
  n : Nat
  bs : List Nat
structure Ev.ok (e : Ev) : Prop where
  k : e.k < 8
  c : rightB e.c (hasC e.k) = true
  n : rightB e.n (hasN e.k) = true
  b : e.bs.length ≤ 4096
  t : hasT e.k = true ∨ e.bs = []
  lt : ∀ x ∈ e.bs, x < 256
def line1 (e : Ev) : List Nat := if hasC e.k then wordL e.k ++ 32 :: decN e.c else wordL e.k
def line2 (e : Ev) : List Nat := if hasN e.k then line1 e ++ 32 :: decN e.n else line1 e
def lineL (e : Ev) : List Nat := if hasT e.k then line2 e ++ 32 :: quoteL e.bs else line2 e
theorem row_new (a b : List Nat) (hl : a.length + b.length ≤ 1000000) (W : World) :
    Calls Tryd.prog 16 #[.slice (some ⟨W.heap.size, 0, none⟩) 2 2] (W.alloc (.cells #[.string (strN a), .string (strN b)] 9)) fun e w' => e = .returned (.string (strN (a ++ 32 :: b))) ∧ Below W.heap.size W w' :=
  (row_any a b hl _ W.heap.size (by simp (maxDischargeDepth := 12) [go_sem]) (by simp (maxDischargeDepth := 12) [go_sem]) (by simp)).mono fun e w' h => ⟨h.1, ((Below.refl _ _).alloc (Nat.le_refl _) _).trans (h.2.mono (by simp))⟩
theorem word_len (k : Nat) : (wordL k).length ≤ 6 := by unfold wordL; split <;> decide
theorem quote_len (bs : List Nat) : (quoteL bs).length ≤ 4 * bs.length + 2 := by unfold quoteL; have := bodyL_len bs; simp; omega
theorem right_le {n : Nat} {b : Bool} (h : rightB n b = true) : n ≤ 1099511627776 := by
  unfold rightB at h; cases b
  · simp at h; omega
  · simp at h; omega
theorem dec13 {n : Nat} (h : n ≤ 1099511627776) : (decN n).length ≤ 13 := decN_len 13 n (by omega) (by omega)
theorem lk_shapes {k : Nat} (hk : k < 8) (W : World) : (Instr.lookup 46 (.map (some W.heap.size)) (.string (strN (wordL k))) false).run Tryd.prog (W.alloc shapesO) = .ok (shapeV k) (W.alloc shapesO) := (look_word hk (heap_alloc_new W shapesO)).1
theorem lk_shapes2 {k : Nat} (hk : k < 8) (W : World) : (Instr.lookup 46 (.map (some W.heap.size)) (.string (strN (wordL k))) true).run Tryd.prog (W.alloc shapesO) = .ok (.tuple #[shapeV k, .bool true]) (W.alloc shapesO) := (look_word hk (heap_alloc_new W shapesO)).2
set_option maxRecDepth 100000 in
set_option maxHeartbeats 3200000 in
theorem line_n {k : Nat} {L : List Nat} (hL : L.length ≤ 6) (hw : ∀ W, Calls Tryd.prog 13 #[.int .i64 (k : Int)] W fun e w' => e = .returned (.tuple #[.string (strN L), .bool true]) ∧ w' = W)
    (hlk : ∀ W : World, (Instr.lookup 46 (.map (some W.heap.size)) (.string (strN L)) false).run Tryd.prog (W.alloc shapesO) = .ok (.agg #[.int .i64 (k : Int), .bool false, .bool true, .bool false]) (W.alloc shapesO))
    (n : Nat) (hn : n ≤ 1099511627776) (A : Option Addr) (cap : Nat) (bs : List Nat) (hcap : bs.length ≤ cap) (hbl : bs.length ≤ 0) (w : World) (hT : TabOk w) :
    Calls Tryd.prog 7 #[.agg #[.int .i64 (k : Int), .int .i64 0, .int .i64 (n : Int), .slice A bs.length cap]] w fun e w' => e = .returned (.tuple #[.string (strN (L ++ 32 :: decN n)), .nilIface]) ∧ Below w.heap.size w w' := by
  have HW := Lib.hid hw
  have hrc : ∀ W, Calls Tryd.prog 15 #[.int .i64 0, .bool false] W fun e w' => e = .returned (.bool true) ∧ w' = W := fun W => right_any 0 (by omega) false W
  have hrn : ∀ W, Calls Tryd.prog 15 #[.int .i64 (n : Int), .bool true] W fun e w' => e = .returned (.bool true) ∧ w' = W := fun W => by
    have := right_any (n : Int) (by omega) true W
    rwa [show rightB (n : Int) true = true from decide_eq_true (by omega)] at this
  have h13n := dec13 hn
  have HRC := Lib.hid hrc
  have HRN := Lib.hid hrn
  have d4 : decide (4096 < (bs.length : Int)) = false := by simp; omega
  have HT := Lib.hid hT
  clear hw hrc hrn hT
  have hlk1 := hlk (w.alloc (.cells #[.int .i64 (k : Int), .int .i64 0, .int .i64 (n : Int), .slice A bs.length cap] 29))
  rw [show (w.alloc (.cells #[.int .i64 (k : Int), .int .i64 0, .int .i64 (n : Int), .slice A bs.length cap] 29)).heap.size = w.heap.size + 1 by simp] at hlk1
  clear hlk
  go_enter Tryd.func7, Tryd.ntmps7
  go_upto_region 7 with (first
    | (go_at_call 13; (with_reducible refine (HW.out _).mono ?_); rintro e w1 ⟨rfl, rfl⟩)
    | (go_at_call 14; (with_reducible refine (shapes_any _).mono ?_); rintro e w2 ⟨rfl, rfl⟩)
    | (go_at_call 15; (with_reducible refine (HRC.out _).mono ?_); rintro e w1 ⟨rfl, rfl⟩)
    | (go_at_call 15; (with_reducible refine (HRN.out _).mono ?_); rintro e w1 ⟨rfl, rfl⟩)
    | fail)
  generalize hW3 : (World.alloc _ _ : World) = w3
  have be : Box4 w3 w.heap.size (.int .i64 (k : Int)) (.int .i64 0) (.int .i64 (n : Int)) (.slice A bs.length cap) := by rw [← hW3]; exact ((Box4.make w _ _ _ _ _ rfl).alloc _).alloc _
  have bh : Box4 w3 (w.heap.size + 1 + 1) (.int .i64 (k : Int)) (.bool false) (.bool true) (.bool false) := by rw [← hW3]; exact Box4.make _ _ _ _ _ _ (by simp)
  have hb3 : Below w.heap.size w w3 := by rw [← hW3]; (repeat' (first | (with_reducible exact Below.refl _ _) | (refine Below.trans ?_ (Below.mono (by with_reducible assumption) ?_)) | (with_reducible exact Below.refl _ _) | (with_reducible refine below_drewN ?_ _) | (with_reducible refine Below.drew ?_) | (with_reducible refine Below.setCell ?_ ?_ _) | (with_reducible refine Below.alloc ?_ ?_ _) | (with_reducible assumption) | (simp; done) | (simp; omega) | omega))
  clear hW3 hlk1 HW HRC HRN d4
  have HB3 := Lib.hid hb3
  have hz3 := hb3.size
  have HT3 := Lib.hid (HT.out.below hb3)
  have b4e_3 := Lib.hid (be); have b4e_30 := b4e_3.out.c0; have b4e_31 := b4e_3.out.c1; have b4e_32 := b4e_3.out.c2; have b4e_33 := b4e_3.out.c3; have b4e_3f0 := b4e_3.out.f0; have b4e_3f1 := b4e_3.out.f1; have b4e_3f2 := b4e_3.out.f2; have b4e_3f3 := b4e_3.out.f3; have b4e_3z := b4e_3.out.z
  have b4h_3 := Lib.hid (bh); have b4h_30 := b4h_3.out.c0; have b4h_31 := b4h_3.out.c1; have b4h_32 := b4h_3.out.c2; have b4h_33 := b4h_3.out.c3; have b4h_3f0 := b4h_3.out.f0; have b4h_3f1 := b4h_3.out.f1; have b4h_3f2 := b4h_3.out.f2; have b4h_3f3 := b4h_3.out.f3; have b4h_3z := b4h_3.out.z
  clear be bh hb3
  go_wp2_with (first
    | (go_at_call 17; (with_reducible refine (itoa_any n hn _ HT3.out).mono ?_); rintro e w4 ⟨rfl, b4⟩; have p4 : Below w3.heap.size w3 w4 := Below.trans (by repeat' (first | (with_reducible assumption) | (with_reducible exact Below.refl _ _) | (with_reducible refine Below.drew ?_) | (with_reducible refine below_drewN ?_ _) | (with_reducible refine Below.alloc ?_ ?_ _) | (with_reducible exact Nat.le_refl _) | (simp; done) | (simp; omega) | omega)) (Below.mono b4 (by first | omega | (simp; done) | (simp; omega))); have b4e_4 := Lib.hid (Box4.below b4e_3.out p4); have b4e_40 := b4e_4.out.c0; have b4e_41 := b4e_4.out.c1; have b4e_42 := b4e_4.out.c2; have b4e_43 := b4e_4.out.c3; have b4e_4f0 := b4e_4.out.f0; have b4e_4f1 := b4e_4.out.f1; have b4e_4f2 := b4e_4.out.f2; have b4e_4f3 := b4e_4.out.f3; have b4e_4z := b4e_4.out.z; have b4h_4 := Lib.hid (Box4.below b4h_3.out p4); have b4h_40 := b4h_4.out.c0; have b4h_41 := b4h_4.out.c1; have b4h_42 := b4h_4.out.c2; have b4h_43 := b4h_4.out.c3; have b4h_4f0 := b4h_4.out.f0; have b4h_4f1 := b4h_4.out.f1; have b4h_4f2 := b4h_4.out.f2; have b4h_4f3 := b4h_4.out.f3; have b4h_4z := b4h_4.out.z)
    | (go_at_call 16; (with_reducible refine (row_new (L) (decN n) (by (try simp); omega) _).mono ?_); rintro e w5 ⟨rfl, b5⟩; have p5 : Below w4.heap.size w4 w5 := Below.trans (by repeat' (first | (with_reducible assumption) | (with_reducible exact Below.refl _ _) | (with_reducible refine Below.drew ?_) | (with_reducible refine below_drewN ?_ _) | (with_reducible refine Below.alloc ?_ ?_ _) | (with_reducible exact Nat.le_refl _) | (simp; done) | (simp; omega) | omega)) (Below.mono b5 (by first | omega | (simp; done) | (simp; omega))); have b4e_5 := Lib.hid (Box4.below b4e_4.out p5); have b4e_50 := b4e_5.out.c0; have b4e_51 := b4e_5.out.c1; have b4e_52 := b4e_5.out.c2; have b4e_53 := b4e_5.out.c3; have b4e_5f0 := b4e_5.out.f0; have b4e_5f1 := b4e_5.out.f1; have b4e_5f2 := b4e_5.out.f2; have b4e_5f3 := b4e_5.out.f3; have b4e_5z := b4e_5.out.z; have b4h_5 := Lib.hid (Box4.below b4h_4.out p5); have b4h_50 := b4h_5.out.c0; have b4h_51 := b4h_5.out.c1; have b4h_52 := b4h_5.out.c2; have b4h_53 := b4h_5.out.c3; have b4h_5f0 := b4h_5.out.f0; have b4h_5f1 := b4h_5.out.f1; have b4h_5f2 := b4h_5.out.f2; have b4h_5f3 := b4h_5.out.f3; have b4h_5z := b4h_5.out.z)
    | fail)
  (try simp only [Exit.inBlock, Exit.then]); refine bodyPost_ret (by simp [results, Tryd.results7, go_sem, *]; try rfl) rfl ?_
  exact ⟨by first | rfl | simp, ((below_step (below_step HB3.out p4) p5))⟩
set_option maxRecDepth 100000 in
set_option maxHeartbeats 3200000 in
theorem line_ct {k : Nat} {L : List Nat} (hL : L.length ≤ 6) (hw : ∀ W, Calls Tryd.prog 13 #[.int .i64 (k : Int)] W fun e w' => e = .returned (.tuple #[.string (strN L), .bool true]) ∧ w' = W)
    (hlk : ∀ W : World, (Instr.lookup 46 (.map (some W.heap.size)) (.string (strN L)) false).run Tryd.prog (W.alloc shapesO) = .ok (.agg #[.int .i64 (k : Int), .bool true, .bool false, .bool true]) (W.alloc shapesO))
    (c : Nat) (hc : c ≤ 1099511627776) (A : Option Addr) (cap : Nat) (bs : List Nat) (hcap : bs.length ≤ cap) (hbl : bs.length ≤ 4096) (w : World) (hT : TabOk w) {B : Nat} (hB : B ≤ w.heap.size) (hr : RB w B A bs) :
    Calls Tryd.prog 7 #[.agg #[.int .i64 (k : Int), .int .i64 (c : Int), .int .i64 0, .slice A bs.length cap]] w fun e w' => e = .returned (.tuple #[.string (strN (L ++ 32 :: decN c ++ 32 :: quoteL bs)), .nilIface]) ∧ Below w.heap.size w w' := by
  have HW := Lib.hid hw
  have hrc : ∀ W, Calls Tryd.prog 15 #[.int .i64 (c : Int), .bool true] W fun e w' => e = .returned (.bool true) ∧ w' = W := fun W => by
    have := right_any (c : Int) (by omega) true W
    rwa [show rightB (c : Int) true = true from decide_eq_true (by omega)] at this
  have h13c := dec13 hc
  have hrn : ∀ W, Calls Tryd.prog 15 #[.int .i64 0, .bool false] W fun e w' => e = .returned (.bool true) ∧ w' = W := fun W => right_any 0 (by omega) false W
  have HRC := Lib.hid hrc
  have HRN := Lib.hid hrn
  have d4 : decide (4096 < (bs.length : Int)) = false := by simp; omega
  have HR := Lib.hid hr
  have hql := quote_len bs
  clear hr
  have HT := Lib.hid hT
  clear hw hrc hrn hT
  have hlk1 := hlk (w.alloc (.cells #[.int .i64 (k : Int), .int .i64 (c : Int), .int .i64 0, .slice A bs.length cap] 29))
  rw [show (w.alloc (.cells #[.int .i64 (k : Int), .int .i64 (c : Int), .int .i64 0, .slice A bs.length cap] 29)).heap.size = w.heap.size + 1 by simp] at hlk1
  clear hlk
  go_enter Tryd.func7, Tryd.ntmps7
  go_upto_region 7 with (first
    | (go_at_call 13; (with_reducible refine (HW.out _).mono ?_); rintro e w1 ⟨rfl, rfl⟩)
    | (go_at_call 14; (with_reducible refine (shapes_any _).mono ?_); rintro e w2 ⟨rfl, rfl⟩)
    | (go_at_call 15; (with_reducible refine (HRC.out _).mono ?_); rintro e w1 ⟨rfl, rfl⟩)
    | (go_at_call 15; (with_reducible refine (HRN.out _).mono ?_); rintro e w1 ⟨rfl, rfl⟩)
    | fail)
  generalize hW3 : (World.alloc _ _ : World) = w3
  have be : Box4 w3 w.heap.size (.int .i64 (k : Int)) (.int .i64 (c : Int)) (.int .i64 0) (.slice A bs.length cap) := by rw [← hW3]; exact ((Box4.make w _ _ _ _ _ rfl).alloc _).alloc _
  have bh : Box4 w3 (w.heap.size + 1 + 1) (.int .i64 (k : Int)) (.bool true) (.bool false) (.bool true) := by rw [← hW3]; exact Box4.make _ _ _ _ _ _ (by simp)
  have hb3 : Below w.heap.size w w3 := by rw [← hW3]; (repeat' (first | (with_reducible exact Below.refl _ _) | (refine Below.trans ?_ (Below.mono (by with_reducible assumption) ?_)) | (with_reducible exact Below.refl _ _) | (with_reducible refine below_drewN ?_ _) | (with_reducible refine Below.drew ?_) | (with_reducible refine Below.setCell ?_ ?_ _) | (with_reducible refine Below.alloc ?_ ?_ _) | (with_reducible assumption) | (simp; done) | (simp; omega) | omega))
  clear hW3 hlk1 HW HRC HRN d4
  have HB3 := Lib.hid hb3
  have hz3 := hb3.size
  have HT3 := Lib.hid (HT.out.below hb3)
  have b4e_3 := Lib.hid (be); have b4e_30 := b4e_3.out.c0; have b4e_31 := b4e_3.out.c1; have b4e_32 := b4e_3.out.c2; have b4e_33 := b4e_3.out.c3; have b4e_3f0 := b4e_3.out.f0; have b4e_3f1 := b4e_3.out.f1; have b4e_3f2 := b4e_3.out.f2; have b4e_3f3 := b4e_3.out.f3; have b4e_3z := b4e_3.out.z
  have b4h_3 := Lib.hid (bh); have b4h_30 := b4h_3.out.c0; have b4h_31 := b4h_3.out.c1; have b4h_32 := b4h_3.out.c2; have b4h_33 := b4h_3.out.c3; have b4h_3f0 := b4h_3.out.f0; have b4h_3f1 := b4h_3.out.f1; have b4h_3f2 := b4h_3.out.f2; have b4h_3f3 := b4h_3.out.f3; have b4h_3z := b4h_3.out.z
  clear be bh hb3
  go_wp2_with (first
    | (go_at_call 17; (with_reducible refine (itoa_any c hc _ HT3.out).mono ?_); rintro e w4 ⟨rfl, b4⟩; have p4 : Below w3.heap.size w3 w4 := Below.trans (by repeat' (first | (with_reducible assumption) | (with_reducible exact Below.refl _ _) | (with_reducible refine Below.drew ?_) | (with_reducible refine below_drewN ?_ _) | (with_reducible refine Below.alloc ?_ ?_ _) | (with_reducible exact Nat.le_refl _) | (simp; done) | (simp; omega) | omega)) (Below.mono b4 (by first | omega | (simp; done) | (simp; omega))); have b4e_4 := Lib.hid (Box4.below b4e_3.out p4); have b4e_40 := b4e_4.out.c0; have b4e_41 := b4e_4.out.c1; have b4e_42 := b4e_4.out.c2; have b4e_43 := b4e_4.out.c3; have b4e_4f0 := b4e_4.out.f0; have b4e_4f1 := b4e_4.out.f1; have b4e_4f2 := b4e_4.out.f2; have b4e_4f3 := b4e_4.out.f3; have b4e_4z := b4e_4.out.z; have b4h_4 := Lib.hid (Box4.below b4h_3.out p4); have b4h_40 := b4h_4.out.c0; have b4h_41 := b4h_4.out.c1; have b4h_42 := b4h_4.out.c2; have b4h_43 := b4h_4.out.c3; have b4h_4f0 := b4h_4.out.f0; have b4h_4f1 := b4h_4.out.f1; have b4h_4f2 := b4h_4.out.f2; have b4h_4f3 := b4h_4.out.f3; have b4h_4z := b4h_4.out.z)
    | (go_at_call 16; (with_reducible refine (row_new (L) (decN c) (by (try simp); omega) _).mono ?_); rintro e w5 ⟨rfl, b5⟩; have p5 : Below w4.heap.size w4 w5 := Below.trans (by repeat' (first | (with_reducible assumption) | (with_reducible exact Below.refl _ _) | (with_reducible refine Below.drew ?_) | (with_reducible refine below_drewN ?_ _) | (with_reducible refine Below.alloc ?_ ?_ _) | (with_reducible exact Nat.le_refl _) | (simp; done) | (simp; omega) | omega)) (Below.mono b5 (by first | omega | (simp; done) | (simp; omega))); have b4e_5 := Lib.hid (Box4.below b4e_4.out p5); have b4e_50 := b4e_5.out.c0; have b4e_51 := b4e_5.out.c1; have b4e_52 := b4e_5.out.c2; have b4e_53 := b4e_5.out.c3; have b4e_5f0 := b4e_5.out.f0; have b4e_5f1 := b4e_5.out.f1; have b4e_5f2 := b4e_5.out.f2; have b4e_5f3 := b4e_5.out.f3; have b4e_5z := b4e_5.out.z; have b4h_5 := Lib.hid (Box4.below b4h_4.out p5); have b4h_50 := b4h_5.out.c0; have b4h_51 := b4h_5.out.c1; have b4h_52 := b4h_5.out.c2; have b4h_53 := b4h_5.out.c3; have b4h_5f0 := b4h_5.out.f0; have b4h_5f1 := b4h_5.out.f1; have b4h_5f2 := b4h_5.out.f2; have b4h_5f3 := b4h_5.out.f3; have b4h_5z := b4h_5.out.z)
    | (go_at_call 18; (with_reducible refine (quoted_any A cap bs hcap (by omega) _ B (Nat.le_trans hB (HB3.out.trans ((below_step p4 p5).mono hz3)).size) (HR.out.below ((HB3.out.trans ((below_step p4 p5).mono hz3)).mono hB))).mono ?_); rintro e w6 ⟨rfl, b6⟩; have p6 : Below w5.heap.size w5 w6 := Below.trans (by repeat' (first | (with_reducible assumption) | (with_reducible exact Below.refl _ _) | (with_reducible refine Below.drew ?_) | (with_reducible refine below_drewN ?_ _) | (with_reducible refine Below.alloc ?_ ?_ _) | (with_reducible exact Nat.le_refl _) | (simp; done) | (simp; omega) | omega)) (Below.mono b6 (by first | omega | (simp; done) | (simp; omega))); have b4e_6 := Lib.hid (Box4.below b4e_5.out p6); have b4e_60 := b4e_6.out.c0; have b4e_61 := b4e_6.out.c1; have b4e_62 := b4e_6.out.c2; have b4e_63 := b4e_6.out.c3; have b4e_6f0 := b4e_6.out.f0; have b4e_6f1 := b4e_6.out.f1; have b4e_6f2 := b4e_6.out.f2; have b4e_6f3 := b4e_6.out.f3; have b4e_6z := b4e_6.out.z; have b4h_6 := Lib.hid (Box4.below b4h_5.out p6); have b4h_60 := b4h_6.out.c0; have b4h_61 := b4h_6.out.c1; have b4h_62 := b4h_6.out.c2; have b4h_63 := b4h_6.out.c3; have b4h_6f0 := b4h_6.out.f0; have b4h_6f1 := b4h_6.out.f1; have b4h_6f2 := b4h_6.out.f2; have b4h_6f3 := b4h_6.out.f3; have b4h_6z := b4h_6.out.z)
    | (go_at_call 16; (with_reducible refine (row_new (L ++ 32 :: decN c) (quoteL bs) (by (try simp); omega) _).mono ?_); rintro e w7 ⟨rfl, b7⟩; have p7 : Below w6.heap.size w6 w7 := Below.trans (by repeat' (first | (with_reducible assumption) | (with_reducible exact Below.refl _ _) | (with_reducible refine Below.drew ?_) | (with_reducible refine below_drewN ?_ _) | (with_reducible refine Below.alloc ?_ ?_ _) | (with_reducible exact Nat.le_refl _) | (simp; done) | (simp; omega) | omega)) (Below.mono b7 (by first | omega | (simp; done) | (simp; omega))); have b4e_7 := Lib.hid (Box4.below b4e_6.out p7); have b4e_70 := b4e_7.out.c0; have b4e_71 := b4e_7.out.c1; have b4e_72 := b4e_7.out.c2; have b4e_73 := b4e_7.out.c3; have b4e_7f0 := b4e_7.out.f0; have b4e_7f1 := b4e_7.out.f1; have b4e_7f2 := b4e_7.out.f2; have b4e_7f3 := b4e_7.out.f3; have b4e_7z := b4e_7.out.z; have b4h_7 := Lib.hid (Box4.below b4h_6.out p7); have b4h_70 := b4h_7.out.c0; have b4h_71 := b4h_7.out.c1; have b4h_72 := b4h_7.out.c2; have b4h_73 := b4h_7.out.c3; have b4h_7f0 := b4h_7.out.f0; have b4h_7f1 := b4h_7.out.f1; have b4h_7f2 := b4h_7.out.f2; have b4h_7f3 := b4h_7.out.f3; have b4h_7z := b4h_7.out.z)
    | fail)
  (try simp only [Exit.inBlock, Exit.then]); refine bodyPost_ret (by simp [results, Tryd.results7, go_sem, *]; try rfl) rfl ?_
  exact ⟨by first | rfl | simp, ((below_step (below_step (below_step (below_step HB3.out p4) p5) p6) p7))⟩
set_option maxRecDepth 100000 in
set_option maxHeartbeats 3200000 in
theorem line_c {k : Nat} {L : List Nat} (hL : L.length ≤ 6) (hw : ∀ W, Calls Tryd.prog 13 #[.int .i64 (k : Int)] W fun e w' => e = .returned (.tuple #[.string (strN L), .bool true]) ∧ w' = W)
    (hlk : ∀ W : World, (Instr.lookup 46 (.map (some W.heap.size)) (.string (strN L)) false).run Tryd.prog (W.alloc shapesO) = .ok (.agg #[.int .i64 (k : Int), .bool true, .bool false, .bool false]) (W.alloc shapesO))
    (c : Nat) (hc : c ≤ 1099511627776) (A : Option Addr) (cap : Nat) (bs : List Nat) (hcap : bs.length ≤ cap) (hbl : bs.length ≤ 0) (w : World) (hT : TabOk w) :
    Calls Tryd.prog 7 #[.agg #[.int .i64 (k : Int), .int .i64 (c : Int), .int .i64 0, .slice A bs.length cap]] w fun e w' => e = .returned (.tuple #[.string (strN (L ++ 32 :: decN c)), .nilIface]) ∧ Below w.heap.size w w' := by
  have HW := Lib.hid hw
  have hrc : ∀ W, Calls Tryd.prog 15 #[.int .i64 (c : Int), .bool true] W fun e w' => e = .returned (.bool true) ∧ w' = W := fun W => by
    have := right_any (c : Int) (by omega) true W
    rwa [show rightB (c : Int) true = true from decide_eq_true (by omega)] at this
  have h13c := dec13 hc
  have hrn : ∀ W, Calls Tryd.prog 15 #[.int .i64 0, .bool false] W fun e w' => e = .returned (.bool true) ∧ w' = W := fun W => right_any 0 (by omega) false W
  have HRC := Lib.hid hrc
  have HRN := Lib.hid hrn
  have d4 : decide (4096 < (bs.length : Int)) = false := by simp; omega
  have HT := Lib.hid hT
  clear hw hrc hrn hT
  have hlk1 := hlk (w.alloc (.cells #[.int .i64 (k : Int), .int .i64 (c : Int), .int .i64 0, .slice A bs.length cap] 29))
  rw [show (w.alloc (.cells #[.int .i64 (k : Int), .int .i64 (c : Int), .int .i64 0, .slice A bs.length cap] 29)).heap.size = w.heap.size + 1 by simp] at hlk1
  clear hlk
  go_enter Tryd.func7, Tryd.ntmps7
  go_upto_region 7 with (first
    | (go_at_call 13; (with_reducible refine (HW.out _).mono ?_); rintro e w1 ⟨rfl, rfl⟩)
    | (go_at_call 14; (with_reducible refine (shapes_any _).mono ?_); rintro e w2 ⟨rfl, rfl⟩)
    | (go_at_call 15; (with_reducible refine (HRC.out _).mono ?_); rintro e w1 ⟨rfl, rfl⟩)
    | (go_at_call 15; (with_reducible refine (HRN.out _).mono ?_); rintro e w1 ⟨rfl, rfl⟩)
    | fail)
  generalize hW3 : (World.alloc _ _ : World) = w3
  have be : Box4 w3 w.heap.size (.int .i64 (k : Int)) (.int .i64 (c : Int)) (.int .i64 0) (.slice A bs.length cap) := by rw [← hW3]; exact ((Box4.make w _ _ _ _ _ rfl).alloc _).alloc _
  have bh : Box4 w3 (w.heap.size + 1 + 1) (.int .i64 (k : Int)) (.bool true) (.bool false) (.bool false) := by rw [← hW3]; exact Box4.make _ _ _ _ _ _ (by simp)
  have hb3 : Below w.heap.size w w3 := by rw [← hW3]; (repeat' (first | (with_reducible exact Below.refl _ _) | (refine Below.trans ?_ (Below.mono (by with_reducible assumption) ?_)) | (with_reducible exact Below.refl _ _) | (with_reducible refine below_drewN ?_ _) | (with_reducible refine Below.drew ?_) | (with_reducible refine Below.setCell ?_ ?_ _) | (with_reducible refine Below.alloc ?_ ?_ _) | (with_reducible assumption) | (simp; done) | (simp; omega) | omega))
  clear hW3 hlk1 HW HRC HRN d4
  have HB3 := Lib.hid hb3
  have hz3 := hb3.size
  have HT3 := Lib.hid (HT.out.below hb3)
  have b4e_3 := Lib.hid (be); have b4e_30 := b4e_3.out.c0; have b4e_31 := b4e_3.out.c1; have b4e_32 := b4e_3.out.c2; have b4e_33 := b4e_3.out.c3; have b4e_3f0 := b4e_3.out.f0; have b4e_3f1 := b4e_3.out.f1; have b4e_3f2 := b4e_3.out.f2; have b4e_3f3 := b4e_3.out.f3; have b4e_3z := b4e_3.out.z
  have b4h_3 := Lib.hid (bh); have b4h_30 := b4h_3.out.c0; have b4h_31 := b4h_3.out.c1; have b4h_32 := b4h_3.out.c2; have b4h_33 := b4h_3.out.c3; have b4h_3f0 := b4h_3.out.f0; have b4h_3f1 := b4h_3.out.f1; have b4h_3f2 := b4h_3.out.f2; have b4h_3f3 := b4h_3.out.f3; have b4h_3z := b4h_3.out.z
  clear be bh hb3
  go_wp2_with (first
    | (go_at_call 17; (with_reducible refine (itoa_any c hc _ HT3.out).mono ?_); rintro e w4 ⟨rfl, b4⟩; have p4 : Below w3.heap.size w3 w4 := Below.trans (by repeat' (first | (with_reducible assumption) | (with_reducible exact Below.refl _ _) | (with_reducible refine Below.drew ?_) | (with_reducible refine below_drewN ?_ _) | (with_reducible refine Below.alloc ?_ ?_ _) | (with_reducible exact Nat.le_refl _) | (simp; done) | (simp; omega) | omega)) (Below.mono b4 (by first | omega | (simp; done) | (simp; omega))); have b4e_4 := Lib.hid (Box4.below b4e_3.out p4); have b4e_40 := b4e_4.out.c0; have b4e_41 := b4e_4.out.c1; have b4e_42 := b4e_4.out.c2; have b4e_43 := b4e_4.out.c3; have b4e_4f0 := b4e_4.out.f0; have b4e_4f1 := b4e_4.out.f1; have b4e_4f2 := b4e_4.out.f2; have b4e_4f3 := b4e_4.out.f3; have b4e_4z := b4e_4.out.z; have b4h_4 := Lib.hid (Box4.below b4h_3.out p4); have b4h_40 := b4h_4.out.c0; have b4h_41 := b4h_4.out.c1; have b4h_42 := b4h_4.out.c2; have b4h_43 := b4h_4.out.c3; have b4h_4f0 := b4h_4.out.f0; have b4h_4f1 := b4h_4.out.f1; have b4h_4f2 := b4h_4.out.f2; have b4h_4f3 := b4h_4.out.f3; have b4h_4z := b4h_4.out.z)
    | (go_at_call 16; (with_reducible refine (row_new (L) (decN c) (by (try simp); omega) _).mono ?_); rintro e w5 ⟨rfl, b5⟩; have p5 : Below w4.heap.size w4 w5 := Below.trans (by repeat' (first | (with_reducible assumption) | (with_reducible exact Below.refl _ _) | (with_reducible refine Below.drew ?_) | (with_reducible refine below_drewN ?_ _) | (with_reducible refine Below.alloc ?_ ?_ _) | (with_reducible exact Nat.le_refl _) | (simp; done) | (simp; omega) | omega)) (Below.mono b5 (by first | omega | (simp; done) | (simp; omega))); have b4e_5 := Lib.hid (Box4.below b4e_4.out p5); have b4e_50 := b4e_5.out.c0; have b4e_51 := b4e_5.out.c1; have b4e_52 := b4e_5.out.c2; have b4e_53 := b4e_5.out.c3; have b4e_5f0 := b4e_5.out.f0; have b4e_5f1 := b4e_5.out.f1; have b4e_5f2 := b4e_5.out.f2; have b4e_5f3 := b4e_5.out.f3; have b4e_5z := b4e_5.out.z; have b4h_5 := Lib.hid (Box4.below b4h_4.out p5); have b4h_50 := b4h_5.out.c0; have b4h_51 := b4h_5.out.c1; have b4h_52 := b4h_5.out.c2; have b4h_53 := b4h_5.out.c3; have b4h_5f0 := b4h_5.out.f0; have b4h_5f1 := b4h_5.out.f1; have b4h_5f2 := b4h_5.out.f2; have b4h_5f3 := b4h_5.out.f3; have b4h_5z := b4h_5.out.z)
    | fail)
  (try simp only [Exit.inBlock, Exit.then]); refine bodyPost_ret (by simp [results, Tryd.results7, go_sem, *]; try rfl) rfl ?_
  exact ⟨by first | rfl | simp, ((below_step (below_step HB3.out p4) p5))⟩
set_option maxRecDepth 100000 in
set_option maxHeartbeats 3200000 in
theorem line_cn {k : Nat} {L : List Nat} (hL : L.length ≤ 6) (hw : ∀ W, Calls Tryd.prog 13 #[.int .i64 (k : Int)] W fun e w' => e = .returned (.tuple #[.string (strN L), .bool true]) ∧ w' = W)
    (hlk : ∀ W : World, (Instr.lookup 46 (.map (some W.heap.size)) (.string (strN L)) false).run Tryd.prog (W.alloc shapesO) = .ok (.agg #[.int .i64 (k : Int), .bool true, .bool true, .bool false]) (W.alloc shapesO))
    (c n : Nat) (hc : c ≤ 1099511627776) (hn : n ≤ 1099511627776) (A : Option Addr) (cap : Nat) (bs : List Nat) (hcap : bs.length ≤ cap) (hbl : bs.length ≤ 0) (w : World) (hT : TabOk w) :
    Calls Tryd.prog 7 #[.agg #[.int .i64 (k : Int), .int .i64 (c : Int), .int .i64 (n : Int), .slice A bs.length cap]] w fun e w' => e = .returned (.tuple #[.string (strN (L ++ 32 :: decN c ++ 32 :: decN n)), .nilIface]) ∧ Below w.heap.size w w' := by
  have HW := Lib.hid hw
  have hrc : ∀ W, Calls Tryd.prog 15 #[.int .i64 (c : Int), .bool true] W fun e w' => e = .returned (.bool true) ∧ w' = W := fun W => by
    have := right_any (c : Int) (by omega) true W
    rwa [show rightB (c : Int) true = true from decide_eq_true (by omega)] at this
  have h13c := dec13 hc
  have hrn : ∀ W, Calls Tryd.prog 15 #[.int .i64 (n : Int), .bool true] W fun e w' => e = .returned (.bool true) ∧ w' = W := fun W => by
    have := right_any (n : Int) (by omega) true W
    rwa [show rightB (n : Int) true = true from decide_eq_true (by omega)] at this
  have h13n := dec13 hn
  have HRC := Lib.hid hrc
  have HRN := Lib.hid hrn
  have d4 : decide (4096 < (bs.length : Int)) = false := by simp; omega
  have HT := Lib.hid hT
  clear hw hrc hrn hT
  have hlk1 := hlk (w.alloc (.cells #[.int .i64 (k : Int), .int .i64 (c : Int), .int .i64 (n : Int), .slice A bs.length cap] 29))
  rw [show (w.alloc (.cells #[.int .i64 (k : Int), .int .i64 (c : Int), .int .i64 (n : Int), .slice A bs.length cap] 29)).heap.size = w.heap.size + 1 by simp] at hlk1
  clear hlk
  go_enter Tryd.func7, Tryd.ntmps7
  go_upto_region 7 with (first
    | (go_at_call 13; (with_reducible refine (HW.out _).mono ?_); rintro e w1 ⟨rfl, rfl⟩)
    | (go_at_call 14; (with_reducible refine (shapes_any _).mono ?_); rintro e w2 ⟨rfl, rfl⟩)
    | (go_at_call 15; (with_reducible refine (HRC.out _).mono ?_); rintro e w1 ⟨rfl, rfl⟩)
    | (go_at_call 15; (with_reducible refine (HRN.out _).mono ?_); rintro e w1 ⟨rfl, rfl⟩)
    | fail)
  generalize hW3 : (World.alloc _ _ : World) = w3
  have be : Box4 w3 w.heap.size (.int .i64 (k : Int)) (.int .i64 (c : Int)) (.int .i64 (n : Int)) (.slice A bs.length cap) := by rw [← hW3]; exact ((Box4.make w _ _ _ _ _ rfl).alloc _).alloc _
  have bh : Box4 w3 (w.heap.size + 1 + 1) (.int .i64 (k : Int)) (.bool true) (.bool true) (.bool false) := by rw [← hW3]; exact Box4.make _ _ _ _ _ _ (by simp)
  have hb3 : Below w.heap.size w w3 := by rw [← hW3]; (repeat' (first | (with_reducible exact Below.refl _ _) | (refine Below.trans ?_ (Below.mono (by with_reducible assumption) ?_)) | (with_reducible exact Below.refl _ _) | (with_reducible refine below_drewN ?_ _) | (with_reducible refine Below.drew ?_) | (with_reducible refine Below.setCell ?_ ?_ _) | (with_reducible refine Below.alloc ?_ ?_ _) | (with_reducible assumption) | (simp; done) | (simp; omega) | omega))
  clear hW3 hlk1 HW HRC HRN d4
  have HB3 := Lib.hid hb3
  have hz3 := hb3.size
  have HT3 := Lib.hid (HT.out.below hb3)
  have b4e_3 := Lib.hid (be); have b4e_30 := b4e_3.out.c0; have b4e_31 := b4e_3.out.c1; have b4e_32 := b4e_3.out.c2; have b4e_33 := b4e_3.out.c3; have b4e_3f0 := b4e_3.out.f0; have b4e_3f1 := b4e_3.out.f1; have b4e_3f2 := b4e_3.out.f2; have b4e_3f3 := b4e_3.out.f3; have b4e_3z := b4e_3.out.z
  have b4h_3 := Lib.hid (bh); have b4h_30 := b4h_3.out.c0; have b4h_31 := b4h_3.out.c1; have b4h_32 := b4h_3.out.c2; have b4h_33 := b4h_3.out.c3; have b4h_3f0 := b4h_3.out.f0; have b4h_3f1 := b4h_3.out.f1; have b4h_3f2 := b4h_3.out.f2; have b4h_3f3 := b4h_3.out.f3; have b4h_3z := b4h_3.out.z
  clear be bh hb3
  go_wp2_with (first
    | (go_at_call 17; (with_reducible refine (itoa_any c hc _ HT3.out).mono ?_); rintro e w4 ⟨rfl, b4⟩; have p4 : Below w3.heap.size w3 w4 := Below.trans (by repeat' (first | (with_reducible assumption) | (with_reducible exact Below.refl _ _) | (with_reducible refine Below.drew ?_) | (with_reducible refine below_drewN ?_ _) | (with_reducible refine Below.alloc ?_ ?_ _) | (with_reducible exact Nat.le_refl _) | (simp; done) | (simp; omega) | omega)) (Below.mono b4 (by first | omega | (simp; done) | (simp; omega))); have b4e_4 := Lib.hid (Box4.below b4e_3.out p4); have b4e_40 := b4e_4.out.c0; have b4e_41 := b4e_4.out.c1; have b4e_42 := b4e_4.out.c2; have b4e_43 := b4e_4.out.c3; have b4e_4f0 := b4e_4.out.f0; have b4e_4f1 := b4e_4.out.f1; have b4e_4f2 := b4e_4.out.f2; have b4e_4f3 := b4e_4.out.f3; have b4e_4z := b4e_4.out.z; have b4h_4 := Lib.hid (Box4.below b4h_3.out p4); have b4h_40 := b4h_4.out.c0; have b4h_41 := b4h_4.out.c1; have b4h_42 := b4h_4.out.c2; have b4h_43 := b4h_4.out.c3; have b4h_4f0 := b4h_4.out.f0; have b4h_4f1 := b4h_4.out.f1; have b4h_4f2 := b4h_4.out.f2; have b4h_4f3 := b4h_4.out.f3; have b4h_4z := b4h_4.out.z)
    | (go_at_call 16; (with_reducible refine (row_new (L) (decN c) (by (try simp); omega) _).mono ?_); rintro e w5 ⟨rfl, b5⟩; have p5 : Below w4.heap.size w4 w5 := Below.trans (by repeat' (first | (with_reducible assumption) | (with_reducible exact Below.refl _ _) | (with_reducible refine Below.drew ?_) | (with_reducible refine below_drewN ?_ _) | (with_reducible refine Below.alloc ?_ ?_ _) | (with_reducible exact Nat.le_refl _) | (simp; done) | (simp; omega) | omega)) (Below.mono b5 (by first | omega | (simp; done) | (simp; omega))); have b4e_5 := Lib.hid (Box4.below b4e_4.out p5); have b4e_50 := b4e_5.out.c0; have b4e_51 := b4e_5.out.c1; have b4e_52 := b4e_5.out.c2; have b4e_53 := b4e_5.out.c3; have b4e_5f0 := b4e_5.out.f0; have b4e_5f1 := b4e_5.out.f1; have b4e_5f2 := b4e_5.out.f2; have b4e_5f3 := b4e_5.out.f3; have b4e_5z := b4e_5.out.z; have b4h_5 := Lib.hid (Box4.below b4h_4.out p5); have b4h_50 := b4h_5.out.c0; have b4h_51 := b4h_5.out.c1; have b4h_52 := b4h_5.out.c2; have b4h_53 := b4h_5.out.c3; have b4h_5f0 := b4h_5.out.f0; have b4h_5f1 := b4h_5.out.f1; have b4h_5f2 := b4h_5.out.f2; have b4h_5f3 := b4h_5.out.f3; have b4h_5z := b4h_5.out.z)
    | (go_at_call 17; (with_reducible refine (itoa_any n hn _ (HT3.out.below (below_step p4 p5))).mono ?_); rintro e w6 ⟨rfl, b6⟩; have p6 : Below w5.heap.size w5 w6 := Below.trans (by repeat' (first | (with_reducible assumption) | (with_reducible exact Below.refl _ _) | (with_reducible refine Below.drew ?_) | (with_reducible refine below_drewN ?_ _) | (with_reducible refine Below.alloc ?_ ?_ _) | (with_reducible exact Nat.le_refl _) | (simp; done) | (simp; omega) | omega)) (Below.mono b6 (by first | omega | (simp; done) | (simp; omega))); have b4e_6 := Lib.hid (Box4.below b4e_5.out p6); have b4e_60 := b4e_6.out.c0; have b4e_61 := b4e_6.out.c1; have b4e_62 := b4e_6.out.c2; have b4e_63 := b4e_6.out.c3; have b4e_6f0 := b4e_6.out.f0; have b4e_6f1 := b4e_6.out.f1; have b4e_6f2 := b4e_6.out.f2; have b4e_6f3 := b4e_6.out.f3; have b4e_6z := b4e_6.out.z; have b4h_6 := Lib.hid (Box4.below b4h_5.out p6); have b4h_60 := b4h_6.out.c0; have b4h_61 := b4h_6.out.c1; have b4h_62 := b4h_6.out.c2; have b4h_63 := b4h_6.out.c3; have b4h_6f0 := b4h_6.out.f0; have b4h_6f1 := b4h_6.out.f1; have b4h_6f2 := b4h_6.out.f2; have b4h_6f3 := b4h_6.out.f3; have b4h_6z := b4h_6.out.z)
    | (go_at_call 16; (with_reducible refine (row_new (L ++ 32 :: decN c) (decN n) (by (try simp); omega) _).mono ?_); rintro e w7 ⟨rfl, b7⟩; have p7 : Below w6.heap.size w6 w7 := Below.trans (by repeat' (first | (with_reducible assumption) | (with_reducible exact Below.refl _ _) | (with_reducible refine Below.drew ?_) | (with_reducible refine below_drewN ?_ _) | (with_reducible refine Below.alloc ?_ ?_ _) | (with_reducible exact Nat.le_refl _) | (simp; done) | (simp; omega) | omega)) (Below.mono b7 (by first | omega | (simp; done) | (simp; omega))); have b4e_7 := Lib.hid (Box4.below b4e_6.out p7); have b4e_70 := b4e_7.out.c0; have b4e_71 := b4e_7.out.c1; have b4e_72 := b4e_7.out.c2; have b4e_73 := b4e_7.out.c3; have b4e_7f0 := b4e_7.out.f0; have b4e_7f1 := b4e_7.out.f1; have b4e_7f2 := b4e_7.out.f2; have b4e_7f3 := b4e_7.out.f3; have b4e_7z := b4e_7.out.z; have b4h_7 := Lib.hid (Box4.below b4h_6.out p7); have b4h_70 := b4h_7.out.c0; have b4h_71 := b4h_7.out.c1; have b4h_72 := b4h_7.out.c2; have b4h_73 := b4h_7.out.c3; have b4h_7f0 := b4h_7.out.f0; have b4h_7f1 := b4h_7.out.f1; have b4h_7f2 := b4h_7.out.f2; have b4h_7f3 := b4h_7.out.f3; have b4h_7z := b4h_7.out.z)
    | fail)
  (try simp only [Exit.inBlock, Exit.then]); refine bodyPost_ret (by simp [results, Tryd.results7, go_sem, *]; try rfl) rfl ?_
  exact ⟨by first | rfl | simp, ((below_step (below_step (below_step (below_step HB3.out p4) p5) p6) p7))⟩
/-- Line of an event that may be told. -/
theorem line_ok (e : Ev) (he : e.ok) (A : Option Addr) (cap : Nat) (hcap : e.bs.length ≤ cap) (w : World) (hT : TabOk w) {B : Nat} (hB : B ≤ w.heap.size) (hr : RB w B A e.bs) :
    Calls Tryd.prog 7 #[.agg #[.int .i64 (e.k : Int), .int .i64 (e.c : Int), .int .i64 (e.n : Int), .slice A e.bs.length cap]] w fun x w' => x = .returned (.tuple #[.string (strN (lineL e)), .nilIface]) ∧ Below w.heap.size w w' := by
  obtain ⟨k, c, n, bs⟩ := e
  obtain ⟨hk, hc, hn, hb, ht, hlt⟩ := he
  dsimp only at *
  have hc' := right_le hc
  have hn' := right_le hn
  have hw := fun W => word_yes k hk W
  have hl := fun W => lk_shapes hk W
  have hL := word_len k
  have c0 : hasC k = false → c = 0 := fun h => by rw [h] at hc; simpa [rightB] using hc
  have n0 : hasN k = false → n = 0 := fun h => by rw [h] at hn; simpa [rightB] using hn
  have b0 : hasT k = false → bs = [] := fun h => by
    rcases ht with h1 | h1
    · rw [h] at h1; cases h1
    · exact h1
  rcases kinds hk with rfl | rfl | rfl | rfl | rfl | rfl | rfl | rfl
  · obtain rfl := c0 rfl
    obtain rfl := b0 rfl
    exact line_n hL hw hl n hn' A cap [] hcap (by simp) w hT
  · obtain rfl := n0 rfl
    exact line_ct hL hw hl c hc' A cap bs hcap hb w hT hB hr
  · obtain rfl := n0 rfl
    obtain rfl := b0 rfl
    exact line_c hL hw hl c hc' A cap [] hcap (by simp) w hT
  · obtain rfl := n0 rfl
    obtain rfl := b0 rfl
    exact line_c hL hw hl c hc' A cap [] hcap (by simp) w hT
  · obtain rfl := b0 rfl
    exact line_cn hL hw hl c n hc' hn' A cap [] hcap (by simp) w hT
  · obtain rfl := b0 rfl
    exact line_cn hL hw hl c n hc' hn' A cap [] hcap (by simp) w hT
  · obtain rfl := n0 rfl
    obtain rfl := b0 rfl
    exact line_c hL hw hl c hc' A cap [] hcap (by simp) w hT
  · obtain rfl := c0 rfl
    obtain rfl := b0 rfl
    exact line_n hL hw hl n hn' A cap [] hcap (by simp) w hT
end Go.Proofs.YtanbplnagcmlcaaDoor
