/- Several texts put together: ScrJ. -/
import Derived.Test.YtanbplnagcmlcaaDoorBu6
/- Layer 24: a line's event. -/
namespace Go.Proofs.YtanbplnagcmlcaaDoor
open Go.RowKit
theorem word_no32 (k : Nat) : 32 ∉ wordL k := by unfold wordL; split <;> decide
theorem dec_no32 (n : Nat) : 32 ∉ decN n := fun h => by have := decN_dig n 32 h; omega
theorem cut32 (a r : List Nat) (ha : 32 ∉ a) (hb : ∀ x ∈ a ++ 32 :: r, x < 256) (hm : (a ++ 32 :: r).length ≤ 1000000) (W : World) :
    Calls Tryd.prog 20 #[.string (strN (a ++ 32 :: r)), .string { data := #[32] }] W fun e w' => e = .returned (.tuple #[.string (strN a), .string (strN r), .bool true]) ∧ Below W.heap.size W w' := by
  have h := cut_any (a ++ 32 :: r) hb (by omega) 32 (by decide) W
  rw [cut_app 32 a r ha] at h
  exact h
theorem cut32_no (a : List Nat) (ha : 32 ∉ a) (hb : ∀ x ∈ a, x < 256) (hm : a.length ≤ 1000000) (W : World) :
    Calls Tryd.prog 20 #[.string (strN a), .string { data := #[32] }] W fun e w' => e = .returned (.tuple #[.string (strN a), .string { data := #[] }, .bool false]) ∧ Below W.heap.size W w' := by
  have h := cut_any a hb (by omega) 32 (by decide) W
  rw [cut_none 32 a ha] at h
  exact h
theorem number_dec (n : Nat) (hn : n ≤ 1099511627776) (W : World) :
    Calls Tryd.prog 21 #[.string (strN (decN n))] W fun e w' => e = .returned (.tuple #[.int .i64 (n : Int), .bool true]) ∧ Below W.heap.size W w' := by
  have h := number_any (decN n) (decN_dig n) (decN_pos n) (dec13 hn) (decN_head n) W
  rw [decN_val, decide_eq_true hn] at h
  exact h
theorem Box4.set1 {w : World} {g : Nat} {v0 v1 v2 v3 : Value} (b : Box4 w g v0 v1 v2 v3) (u : Value) : Box4 (w.setCell ⟨g, 1, none⟩ u) g v0 u v2 v3 := by
  obtain ⟨c0, c1, c2, c3, f0, f1, f2, f3, z⟩ := b
  constructor <;> (first | (simp (maxDischargeDepth := 20) [go_sem, *]; done) | (simp; omega))
theorem Box4.set2 {w : World} {g : Nat} {v0 v1 v2 v3 : Value} (b : Box4 w g v0 v1 v2 v3) (u : Value) : Box4 (w.setCell ⟨g, 2, none⟩ u) g v0 v1 u v3 := by
  obtain ⟨c0, c1, c2, c3, f0, f1, f2, f3, z⟩ := b
  constructor <;> (first | (simp (maxDischargeDepth := 20) [go_sem, *]; done) | (simp; omega))
theorem Box4.set3 {w : World} {g : Nat} {v0 v1 v2 v3 : Value} (b : Box4 w g v0 v1 v2 v3) (u : Value) : Box4 (w.setCell ⟨g, 3, none⟩ u) g v0 v1 v2 u := by
  obtain ⟨c0, c1, c2, c3, f0, f1, f2, f3, z⟩ := b
  constructor <;> (first | (simp (maxDischargeDepth := 20) [go_sem, *]; done) | (simp; omega))
set_option maxRecDepth 100000 in
set_option maxHeartbeats 3200000 in
theorem read_n {k : Nat} {L : List Nat} (hL : L.length ≤ 6) (h32 : 32 ∉ L) (hLt : ∀ x ∈ L, x < 256)
    (hlk : ∀ W : World, (Instr.lookup 46 (.map (some W.heap.size)) (.string (strN L)) true).run Tryd.prog (W.alloc shapesO) = .ok (.tuple #[.agg #[.int .i64 (k : Int), .bool false, .bool true, .bool false], .bool true]) (W.alloc shapesO))
    (n : Nat) (hn : n ≤ 1099511627776) (w : World) :
    Calls Tryd.prog 9 #[.string (strN (L ++ 32 :: (decN n)))] w fun e w' => e = .returned (.tuple #[.agg #[.int .i64 (k : Int), .int .i64 0, .int .i64 (n : Int), .slice none 0 0], .nilIface]) ∧ Below w.heap.size w w' := by
  have h13n := dec13 hn
  have hc1 := fun W => cut32 L (decN n) h32 (by intro x hx; rcases List.mem_append.1 hx with h | h; exact hLt x h; rcases List.mem_cons.1 h with rfl | h; omega; exact decN_lt n x h) (by simp; omega) W
  have HNN := Lib.hid (fun W => number_dec n hn W)
  have HC1 := Lib.hid hc1
  have HLK := Lib.hid hlk
  generalize strN (L ++ 32 :: (decN n)) = S at HC1 ⊢
  clear hc1 hlk h32 hLt
  go_enter Tryd.func9, Tryd.ntmps9
  go_upto_region 2 with (first
    | (go_at_call 20; (with_reducible refine (HC1.out _).mono ?_); rintro e w1 ⟨rfl, b1⟩)
    | fail)
  have hlk1 := HLK.out w1
  have p1 : Below w.heap.size w w1 := ((Below.refl _ _).alloc (Nat.le_refl _) (.cells #[.int .i64 0, .int .i64 0, .int .i64 0, .slice none 0 0] 29)).trans (b1.mono (by simp))
  have br := (Box4.make w (.int .i64 0) (.int .i64 0) (.int .i64 0) (.slice none 0 0) 29 rfl).below b1
  clear b1 HC1
  go_upto_region 6 with (first
    | (go_at_call 14; (with_reducible refine (shapes_any _).mono ?_); rintro e w2 ⟨rfl, rfl⟩)
    | fail)
  generalize hW : (World.alloc _ _ : World) = w2
  have p2 : Below w1.heap.size w1 w2 := by rw [← hW]; (repeat' (first | (with_reducible exact Below.refl _ _) | (refine Below.trans ?_ (Below.mono (by with_reducible assumption) ?_)) | (with_reducible exact Below.refl _ _) | (with_reducible refine below_drewN ?_ _) | (with_reducible refine Below.drew ?_) | (with_reducible refine Below.setCell ?_ ?_ _) | (with_reducible refine Below.alloc ?_ ?_ _) | (with_reducible assumption) | (simp; done) | (simp; omega) | omega))
  have bh : Box4 w2 (w1.heap.size + 1) (.int .i64 (k : Int)) (.bool false) (.bool true) (.bool false) := by rw [← hW]; exact (Box4.make _ _ _ _ _ _ (by simp)).alloc _
  have be : Box4 w2 (w1.heap.size + 1 + 1) (.int .i64 (k : Int)) (.int .i64 0) (.int .i64 0) (.slice none 0 0) := by rw [← hW]; exact Box4.make _ _ _ _ _ _ (by simp)
  clear hW hlk1
  have b4r_2 := Lib.hid (br.below p2); have b4r_20 := b4r_2.out.c0; have b4r_21 := b4r_2.out.c1; have b4r_22 := b4r_2.out.c2; have b4r_23 := b4r_2.out.c3; have b4r_2f0 := b4r_2.out.f0; have b4r_2f1 := b4r_2.out.f1; have b4r_2f2 := b4r_2.out.f2; have b4r_2f3 := b4r_2.out.f3; have b4r_2z := b4r_2.out.z
  have b4h_2 := Lib.hid (bh); have b4h_20 := b4h_2.out.c0; have b4h_21 := b4h_2.out.c1; have b4h_22 := b4h_2.out.c2; have b4h_23 := b4h_2.out.c3; have b4h_2f0 := b4h_2.out.f0; have b4h_2f1 := b4h_2.out.f1; have b4h_2f2 := b4h_2.out.f2; have b4h_2f3 := b4h_2.out.f3; have b4h_2z := b4h_2.out.z
  have b4e_2 := Lib.hid (be); have b4e_20 := b4e_2.out.c0; have b4e_21 := b4e_2.out.c1; have b4e_22 := b4e_2.out.c2; have b4e_23 := b4e_2.out.c3; have b4e_2f0 := b4e_2.out.f0; have b4e_2f1 := b4e_2.out.f1; have b4e_2f2 := b4e_2.out.f2; have b4e_2f3 := b4e_2.out.f3; have b4e_2z := b4e_2.out.z
  have HB2 := Lib.hid (below_step p1 p2)
  have hrh : w.heap.size < w1.heap.size := by have := br.z; omega
  clear br bh be p1 p2
  go_wp2_with (first
    | (go_at_call 21; (with_reducible refine (HNN.out _).mono ?_); rintro e w3 ⟨rfl, b3⟩; have p3 : Below w2.heap.size w2 w3 := Below.trans (by repeat' (first | (with_reducible assumption) | (with_reducible exact Below.refl _ _) | (with_reducible refine Below.drew ?_) | (with_reducible refine below_drewN ?_ _) | (with_reducible refine Below.alloc ?_ ?_ _) | (with_reducible exact Nat.le_refl _) | (simp; done) | (simp; omega) | omega)) (Below.mono b3 (by first | omega | (simp; done) | (simp; omega))); have b4r_3 := Lib.hid (Box4.below b4r_2.out p3); have b4r_30 := b4r_3.out.c0; have b4r_31 := b4r_3.out.c1; have b4r_32 := b4r_3.out.c2; have b4r_33 := b4r_3.out.c3; have b4r_3f0 := b4r_3.out.f0; have b4r_3f1 := b4r_3.out.f1; have b4r_3f2 := b4r_3.out.f2; have b4r_3f3 := b4r_3.out.f3; have b4r_3z := b4r_3.out.z; have b4h_3 := Lib.hid (Box4.below b4h_2.out p3); have b4h_30 := b4h_3.out.c0; have b4h_31 := b4h_3.out.c1; have b4h_32 := b4h_3.out.c2; have b4h_33 := b4h_3.out.c3; have b4h_3f0 := b4h_3.out.f0; have b4h_3f1 := b4h_3.out.f1; have b4h_3f2 := b4h_3.out.f2; have b4h_3f3 := b4h_3.out.f3; have b4h_3z := b4h_3.out.z; have b4e_3 := Lib.hid (Box4.below b4e_2.out p3); have b4e_30 := b4e_3.out.c0; have b4e_31 := b4e_3.out.c1; have b4e_32 := b4e_3.out.c2; have b4e_33 := b4e_3.out.c3; have b4e_3f0 := b4e_3.out.f0; have b4e_3f1 := b4e_3.out.f1; have b4e_3f2 := b4e_3.out.f2; have b4e_3f3 := b4e_3.out.f3; have b4e_3z := b4e_3.out.z)
    | fail)
  generalize hW9 : (World.setCell _ _ _ : World) = w9
  have hb9 : Below w.heap.size w w9 := by rw [← hW9]; exact (((((HB2.out.trans (p3.mono HB2.out.size)).setCell (by show w.heap.size ≤ w1.heap.size + 1 + 1; omega) _).setCell (Nat.le_refl _) _).setCell (Nat.le_refl _) _).setCell (Nat.le_refl _) _).setCell (Nat.le_refl _) _
  have b4z_9 := Lib.hid ((show Box4 w9 w.heap.size (.int .i64 (k : Int)) (.int .i64 0) (.int .i64 (n : Int)) (.slice none 0 0) by rw [← hW9]; exact (b4r_3.out.other (show w1.heap.size + 1 + 1 ≠ w.heap.size by omega) 2 _).set)); have b4z_90 := b4z_9.out.c0; have b4z_91 := b4z_9.out.c1; have b4z_92 := b4z_9.out.c2; have b4z_93 := b4z_9.out.c3; have b4z_9f0 := b4z_9.out.f0; have b4z_9f1 := b4z_9.out.f1; have b4z_9f2 := b4z_9.out.f2; have b4z_9f3 := b4z_9.out.f3; have b4z_9z := b4z_9.out.z
  clear hW9
  (try simp only [Exit.inBlock, Exit.then]); refine bodyPost_ret (by simp [results, Tryd.results9, go_sem, *]; try rfl) rfl ?_
  exact ⟨rfl, hb9⟩
set_option maxRecDepth 100000 in
set_option maxHeartbeats 3200000 in
theorem read_c {k : Nat} {L : List Nat} (hL : L.length ≤ 6) (h32 : 32 ∉ L) (hLt : ∀ x ∈ L, x < 256)
    (hlk : ∀ W : World, (Instr.lookup 46 (.map (some W.heap.size)) (.string (strN L)) true).run Tryd.prog (W.alloc shapesO) = .ok (.tuple #[.agg #[.int .i64 (k : Int), .bool true, .bool false, .bool false], .bool true]) (W.alloc shapesO))
    (c : Nat) (hc : c ≤ 1099511627776) (w : World) :
    Calls Tryd.prog 9 #[.string (strN (L ++ 32 :: (decN c)))] w fun e w' => e = .returned (.tuple #[.agg #[.int .i64 (k : Int), .int .i64 (c : Int), .int .i64 0, .slice none 0 0], .nilIface]) ∧ Below w.heap.size w w' := by
  have h13c := dec13 hc
  have hc1 := fun W => cut32 L (decN c) h32 (by intro x hx; rcases List.mem_append.1 hx with h | h; exact hLt x h; rcases List.mem_cons.1 h with rfl | h; omega; exact decN_lt c x h) (by simp; omega) W
  have hc2 := fun W => cut32_no (decN c) (dec_no32 c) (decN_lt c) (by omega) W
  have HC2 := Lib.hid hc2
  have HNC := Lib.hid (fun W => number_dec c hc W)
  clear hc2
  have HC1 := Lib.hid hc1
  have HLK := Lib.hid hlk
  generalize strN (L ++ 32 :: (decN c)) = S at HC1 ⊢
  clear hc1 hlk h32 hLt
  go_enter Tryd.func9, Tryd.ntmps9
  go_upto_region 2 with (first
    | (go_at_call 20; (with_reducible refine (HC1.out _).mono ?_); rintro e w1 ⟨rfl, b1⟩)
    | fail)
  have hlk1 := HLK.out w1
  have p1 : Below w.heap.size w w1 := ((Below.refl _ _).alloc (Nat.le_refl _) (.cells #[.int .i64 0, .int .i64 0, .int .i64 0, .slice none 0 0] 29)).trans (b1.mono (by simp))
  have br := (Box4.make w (.int .i64 0) (.int .i64 0) (.int .i64 0) (.slice none 0 0) 29 rfl).below b1
  clear b1 HC1
  go_upto_region 6 with (first
    | (go_at_call 14; (with_reducible refine (shapes_any _).mono ?_); rintro e w2 ⟨rfl, rfl⟩)
    | fail)
  generalize hW : (World.alloc _ _ : World) = w2
  have p2 : Below w1.heap.size w1 w2 := by rw [← hW]; (repeat' (first | (with_reducible exact Below.refl _ _) | (refine Below.trans ?_ (Below.mono (by with_reducible assumption) ?_)) | (with_reducible exact Below.refl _ _) | (with_reducible refine below_drewN ?_ _) | (with_reducible refine Below.drew ?_) | (with_reducible refine Below.setCell ?_ ?_ _) | (with_reducible refine Below.alloc ?_ ?_ _) | (with_reducible assumption) | (simp; done) | (simp; omega) | omega))
  have bh : Box4 w2 (w1.heap.size + 1) (.int .i64 (k : Int)) (.bool true) (.bool false) (.bool false) := by rw [← hW]; exact (Box4.make _ _ _ _ _ _ (by simp)).alloc _
  have be : Box4 w2 (w1.heap.size + 1 + 1) (.int .i64 (k : Int)) (.int .i64 0) (.int .i64 0) (.slice none 0 0) := by rw [← hW]; exact Box4.make _ _ _ _ _ _ (by simp)
  clear hW hlk1
  have b4r_2 := Lib.hid (br.below p2); have b4r_20 := b4r_2.out.c0; have b4r_21 := b4r_2.out.c1; have b4r_22 := b4r_2.out.c2; have b4r_23 := b4r_2.out.c3; have b4r_2f0 := b4r_2.out.f0; have b4r_2f1 := b4r_2.out.f1; have b4r_2f2 := b4r_2.out.f2; have b4r_2f3 := b4r_2.out.f3; have b4r_2z := b4r_2.out.z
  have b4h_2 := Lib.hid (bh); have b4h_20 := b4h_2.out.c0; have b4h_21 := b4h_2.out.c1; have b4h_22 := b4h_2.out.c2; have b4h_23 := b4h_2.out.c3; have b4h_2f0 := b4h_2.out.f0; have b4h_2f1 := b4h_2.out.f1; have b4h_2f2 := b4h_2.out.f2; have b4h_2f3 := b4h_2.out.f3; have b4h_2z := b4h_2.out.z
  have b4e_2 := Lib.hid (be); have b4e_20 := b4e_2.out.c0; have b4e_21 := b4e_2.out.c1; have b4e_22 := b4e_2.out.c2; have b4e_23 := b4e_2.out.c3; have b4e_2f0 := b4e_2.out.f0; have b4e_2f1 := b4e_2.out.f1; have b4e_2f2 := b4e_2.out.f2; have b4e_2f3 := b4e_2.out.f3; have b4e_2z := b4e_2.out.z
  have HB2 := Lib.hid (below_step p1 p2)
  have hrh : w.heap.size < w1.heap.size := by have := br.z; omega
  clear br bh be p1 p2
  go_upto_region 10 with (first
    | (go_at_call 20; (with_reducible refine (HC2.out _).mono ?_); rintro e w3 ⟨rfl, b3⟩; have p3 : Below w2.heap.size w2 w3 := Below.trans (by repeat' (first | (with_reducible assumption) | (with_reducible exact Below.refl _ _) | (with_reducible refine Below.drew ?_) | (with_reducible refine below_drewN ?_ _) | (with_reducible refine Below.alloc ?_ ?_ _) | (with_reducible exact Nat.le_refl _) | (simp; done) | (simp; omega) | omega)) (Below.mono b3 (by first | omega | (simp; done) | (simp; omega))); have b4r_3 := Lib.hid (Box4.below b4r_2.out p3); have b4r_30 := b4r_3.out.c0; have b4r_31 := b4r_3.out.c1; have b4r_32 := b4r_3.out.c2; have b4r_33 := b4r_3.out.c3; have b4r_3f0 := b4r_3.out.f0; have b4r_3f1 := b4r_3.out.f1; have b4r_3f2 := b4r_3.out.f2; have b4r_3f3 := b4r_3.out.f3; have b4r_3z := b4r_3.out.z; have b4h_3 := Lib.hid (Box4.below b4h_2.out p3); have b4h_30 := b4h_3.out.c0; have b4h_31 := b4h_3.out.c1; have b4h_32 := b4h_3.out.c2; have b4h_33 := b4h_3.out.c3; have b4h_3f0 := b4h_3.out.f0; have b4h_3f1 := b4h_3.out.f1; have b4h_3f2 := b4h_3.out.f2; have b4h_3f3 := b4h_3.out.f3; have b4h_3z := b4h_3.out.z; have b4e_3 := Lib.hid (Box4.below b4e_2.out p3); have b4e_30 := b4e_3.out.c0; have b4e_31 := b4e_3.out.c1; have b4e_32 := b4e_3.out.c2; have b4e_33 := b4e_3.out.c3; have b4e_3f0 := b4e_3.out.f0; have b4e_3f1 := b4e_3.out.f1; have b4e_3f2 := b4e_3.out.f2; have b4e_3f3 := b4e_3.out.f3; have b4e_3z := b4e_3.out.z)
    | (go_at_call 21; (with_reducible refine (HNC.out _).mono ?_); rintro e w4 ⟨rfl, b4⟩; have p4 : Below w3.heap.size w3 w4 := Below.trans (by repeat' (first | (with_reducible assumption) | (with_reducible exact Below.refl _ _) | (with_reducible refine Below.drew ?_) | (with_reducible refine below_drewN ?_ _) | (with_reducible refine Below.alloc ?_ ?_ _) | (with_reducible exact Nat.le_refl _) | (simp; done) | (simp; omega) | omega)) (Below.mono b4 (by first | omega | (simp; done) | (simp; omega))); have b4r_4 := Lib.hid (Box4.below b4r_3.out p4); have b4r_40 := b4r_4.out.c0; have b4r_41 := b4r_4.out.c1; have b4r_42 := b4r_4.out.c2; have b4r_43 := b4r_4.out.c3; have b4r_4f0 := b4r_4.out.f0; have b4r_4f1 := b4r_4.out.f1; have b4r_4f2 := b4r_4.out.f2; have b4r_4f3 := b4r_4.out.f3; have b4r_4z := b4r_4.out.z; have b4h_4 := Lib.hid (Box4.below b4h_3.out p4); have b4h_40 := b4h_4.out.c0; have b4h_41 := b4h_4.out.c1; have b4h_42 := b4h_4.out.c2; have b4h_43 := b4h_4.out.c3; have b4h_4f0 := b4h_4.out.f0; have b4h_4f1 := b4h_4.out.f1; have b4h_4f2 := b4h_4.out.f2; have b4h_4f3 := b4h_4.out.f3; have b4h_4z := b4h_4.out.z; have b4e_4 := Lib.hid (Box4.below b4e_3.out p4); have b4e_40 := b4e_4.out.c0; have b4e_41 := b4e_4.out.c1; have b4e_42 := b4e_4.out.c2; have b4e_43 := b4e_4.out.c3; have b4e_4f0 := b4e_4.out.f0; have b4e_4f1 := b4e_4.out.f1; have b4e_4f2 := b4e_4.out.f2; have b4e_4f3 := b4e_4.out.f3; have b4e_4z := b4e_4.out.z)
    | fail)
  generalize hW5 : (World.setCell w4 _ _ : World) = w5
  have hb5 : Below w.heap.size w w5 := by rw [← hW5]; exact ((below_step (below_step HB2.out p3) p4).setCell (by show w.heap.size ≤ w1.heap.size + 1 + 1; omega) _)
  have b4r_5 := Lib.hid ((show Box4 w5 w.heap.size (.int .i64 0) (.int .i64 0) (.int .i64 0) (.slice none 0 0) by rw [← hW5]; exact b4r_4.out.other (show w1.heap.size + 1 + 1 ≠ w.heap.size by omega) 1 _)); have b4r_50 := b4r_5.out.c0; have b4r_51 := b4r_5.out.c1; have b4r_52 := b4r_5.out.c2; have b4r_53 := b4r_5.out.c3; have b4r_5f0 := b4r_5.out.f0; have b4r_5f1 := b4r_5.out.f1; have b4r_5f2 := b4r_5.out.f2; have b4r_5f3 := b4r_5.out.f3; have b4r_5z := b4r_5.out.z
  have b4h_5 := Lib.hid ((show Box4 w5 (w1.heap.size + 1) (.int .i64 (k : Int)) (.bool true) (.bool false) (.bool false) by rw [← hW5]; exact b4h_4.out.other (show w1.heap.size + 1 + 1 ≠ w1.heap.size + 1 by omega) 1 _)); have b4h_50 := b4h_5.out.c0; have b4h_51 := b4h_5.out.c1; have b4h_52 := b4h_5.out.c2; have b4h_53 := b4h_5.out.c3; have b4h_5f0 := b4h_5.out.f0; have b4h_5f1 := b4h_5.out.f1; have b4h_5f2 := b4h_5.out.f2; have b4h_5f3 := b4h_5.out.f3; have b4h_5z := b4h_5.out.z
  have b4e_5 := Lib.hid ((show Box4 w5 (w1.heap.size + 1 + 1) (.int .i64 (k : Int)) (.int .i64 (c : Int)) (.int .i64 0) (.slice none 0 0) by rw [← hW5]; exact b4e_4.out.set1 _)); have b4e_50 := b4e_5.out.c0; have b4e_51 := b4e_5.out.c1; have b4e_52 := b4e_5.out.c2; have b4e_53 := b4e_5.out.c3; have b4e_5f0 := b4e_5.out.f0; have b4e_5f1 := b4e_5.out.f1; have b4e_5f2 := b4e_5.out.f2; have b4e_5f3 := b4e_5.out.f3; have b4e_5z := b4e_5.out.z
  have HB5 := Lib.hid hb5
  clear b4r_2 b4r_2z b4r_20 b4r_21 b4r_22 b4r_23 b4r_2f0 b4r_2f1 b4r_2f2 b4r_2f3 b4h_2 b4h_2z b4h_20 b4h_21 b4h_22 b4h_23 b4h_2f0 b4h_2f1 b4h_2f2 b4h_2f3 b4e_2 b4e_2z b4e_20 b4e_21 b4e_22 b4e_23 b4e_2f0 b4e_2f1 b4e_2f2 b4e_2f3 b4r_3 b4r_3z b4r_30 b4r_31 b4r_32 b4r_33 b4r_3f0 b4r_3f1 b4r_3f2 b4r_3f3 b4h_3 b4h_3z b4h_30 b4h_31 b4h_32 b4h_33 b4h_3f0 b4h_3f1 b4h_3f2 b4h_3f3 b4e_3 b4e_3z b4e_30 b4e_31 b4e_32 b4e_33 b4e_3f0 b4e_3f1 b4e_3f2 b4e_3f3 b4r_4 b4r_4z b4r_40 b4r_41 b4r_42 b4r_43 b4r_4f0 b4r_4f1 b4r_4f2 b4r_4f3 b4h_4 b4h_4z b4h_40 b4h_41 b4h_42 b4h_43 b4h_4f0 b4h_4f1 b4h_4f2 b4h_4f3 b4e_4 b4e_4z b4e_40 b4e_41 b4e_42 b4e_43 b4e_4f0 b4e_4f1 b4e_4f2 b4e_4f3
  clear hW5 p3 p4 b3 b4 hb5
  go_wp2_with fail
  generalize hW9 : (World.setCell _ _ _ : World) = w9
  have hb9 : Below w.heap.size w w9 := by rw [← hW9]; exact ((((HB5.out.setCell (Nat.le_refl _) _).setCell (Nat.le_refl _) _).setCell (Nat.le_refl _) _).setCell (Nat.le_refl _) _)
  have b4z_9 := Lib.hid ((show Box4 w9 w.heap.size (.int .i64 (k : Int)) (.int .i64 (c : Int)) (.int .i64 0) (.slice none 0 0) by rw [← hW9]; exact b4r_5.out.set)); have b4z_90 := b4z_9.out.c0; have b4z_91 := b4z_9.out.c1; have b4z_92 := b4z_9.out.c2; have b4z_93 := b4z_9.out.c3; have b4z_9f0 := b4z_9.out.f0; have b4z_9f1 := b4z_9.out.f1; have b4z_9f2 := b4z_9.out.f2; have b4z_9f3 := b4z_9.out.f3; have b4z_9z := b4z_9.out.z
  clear hW9
  (try simp only [Exit.inBlock, Exit.then]); refine bodyPost_ret (by simp [results, Tryd.results9, go_sem, *]; try rfl) rfl ?_
  exact ⟨rfl, hb9⟩
set_option maxRecDepth 100000 in
set_option maxHeartbeats 3200000 in
theorem read_cn {k : Nat} {L : List Nat} (hL : L.length ≤ 6) (h32 : 32 ∉ L) (hLt : ∀ x ∈ L, x < 256)
    (hlk : ∀ W : World, (Instr.lookup 46 (.map (some W.heap.size)) (.string (strN L)) true).run Tryd.prog (W.alloc shapesO) = .ok (.tuple #[.agg #[.int .i64 (k : Int), .bool true, .bool true, .bool false], .bool true]) (W.alloc shapesO))
    (c : Nat) (hc : c ≤ 1099511627776) (n : Nat) (hn : n ≤ 1099511627776) (w : World) :
    Calls Tryd.prog 9 #[.string (strN (L ++ 32 :: (decN c ++ 32 :: decN n)))] w fun e w' => e = .returned (.tuple #[.agg #[.int .i64 (k : Int), .int .i64 (c : Int), .int .i64 (n : Int), .slice none 0 0], .nilIface]) ∧ Below w.heap.size w w' := by
  have h13c := dec13 hc
  have h13n := dec13 hn
  have hR : ∀ x ∈ decN c ++ 32 :: decN n, x < 256 := by
    intro x hx; rcases List.mem_append.1 hx with h | h; exact decN_lt c x h; rcases List.mem_cons.1 h with rfl | h; omega; exact decN_lt n x h
  have hc1 := fun W => cut32 L (decN c ++ 32 :: decN n) h32 (by intro x hx; rcases List.mem_append.1 hx with h | h; exact hLt x h; rcases List.mem_cons.1 h with rfl | h; omega; exact (hR x h)) (by simp; omega) W
  have hc2 := fun W => cut32 (decN c) (decN n) (dec_no32 c) hR (by simp; omega) W
  have HC2 := Lib.hid hc2
  have HNC := Lib.hid (fun W => number_dec c hc W)
  clear hc2
  have HNN := Lib.hid (fun W => number_dec n hn W)
  have HC1 := Lib.hid hc1
  have HLK := Lib.hid hlk
  generalize strN (L ++ 32 :: (decN c ++ 32 :: decN n)) = S at HC1 ⊢
  generalize strN (decN c ++ 32 :: decN n) = R at HC1 HC2
  clear hc1 hlk h32 hLt
  go_enter Tryd.func9, Tryd.ntmps9
  go_upto_region 2 with (first
    | (go_at_call 20; (with_reducible refine (HC1.out _).mono ?_); rintro e w1 ⟨rfl, b1⟩)
    | fail)
  have hlk1 := HLK.out w1
  have p1 : Below w.heap.size w w1 := ((Below.refl _ _).alloc (Nat.le_refl _) (.cells #[.int .i64 0, .int .i64 0, .int .i64 0, .slice none 0 0] 29)).trans (b1.mono (by simp))
  have br := (Box4.make w (.int .i64 0) (.int .i64 0) (.int .i64 0) (.slice none 0 0) 29 rfl).below b1
  clear b1 HC1
  go_upto_region 6 with (first
    | (go_at_call 14; (with_reducible refine (shapes_any _).mono ?_); rintro e w2 ⟨rfl, rfl⟩)
    | fail)
  generalize hW : (World.alloc _ _ : World) = w2
  have p2 : Below w1.heap.size w1 w2 := by rw [← hW]; (repeat' (first | (with_reducible exact Below.refl _ _) | (refine Below.trans ?_ (Below.mono (by with_reducible assumption) ?_)) | (with_reducible exact Below.refl _ _) | (with_reducible refine below_drewN ?_ _) | (with_reducible refine Below.drew ?_) | (with_reducible refine Below.setCell ?_ ?_ _) | (with_reducible refine Below.alloc ?_ ?_ _) | (with_reducible assumption) | (simp; done) | (simp; omega) | omega))
  have bh : Box4 w2 (w1.heap.size + 1) (.int .i64 (k : Int)) (.bool true) (.bool true) (.bool false) := by rw [← hW]; exact (Box4.make _ _ _ _ _ _ (by simp)).alloc _
  have be : Box4 w2 (w1.heap.size + 1 + 1) (.int .i64 (k : Int)) (.int .i64 0) (.int .i64 0) (.slice none 0 0) := by rw [← hW]; exact Box4.make _ _ _ _ _ _ (by simp)
  clear hW hlk1
  have b4r_2 := Lib.hid (br.below p2); have b4r_20 := b4r_2.out.c0; have b4r_21 := b4r_2.out.c1; have b4r_22 := b4r_2.out.c2; have b4r_23 := b4r_2.out.c3; have b4r_2f0 := b4r_2.out.f0; have b4r_2f1 := b4r_2.out.f1; have b4r_2f2 := b4r_2.out.f2; have b4r_2f3 := b4r_2.out.f3; have b4r_2z := b4r_2.out.z
  have b4h_2 := Lib.hid (bh); have b4h_20 := b4h_2.out.c0; have b4h_21 := b4h_2.out.c1; have b4h_22 := b4h_2.out.c2; have b4h_23 := b4h_2.out.c3; have b4h_2f0 := b4h_2.out.f0; have b4h_2f1 := b4h_2.out.f1; have b4h_2f2 := b4h_2.out.f2; have b4h_2f3 := b4h_2.out.f3; have b4h_2z := b4h_2.out.z
  have b4e_2 := Lib.hid (be); have b4e_20 := b4e_2.out.c0; have b4e_21 := b4e_2.out.c1; have b4e_22 := b4e_2.out.c2; have b4e_23 := b4e_2.out.c3; have b4e_2f0 := b4e_2.out.f0; have b4e_2f1 := b4e_2.out.f1; have b4e_2f2 := b4e_2.out.f2; have b4e_2f3 := b4e_2.out.f3; have b4e_2z := b4e_2.out.z
  have HB2 := Lib.hid (below_step p1 p2)
  have hrh : w.heap.size < w1.heap.size := by have := br.z; omega
  clear br bh be p1 p2
  go_upto_region 10 with (first
    | (go_at_call 20; (with_reducible refine (HC2.out _).mono ?_); rintro e w3 ⟨rfl, b3⟩; have p3 : Below w2.heap.size w2 w3 := Below.trans (by repeat' (first | (with_reducible assumption) | (with_reducible exact Below.refl _ _) | (with_reducible refine Below.drew ?_) | (with_reducible refine below_drewN ?_ _) | (with_reducible refine Below.alloc ?_ ?_ _) | (with_reducible exact Nat.le_refl _) | (simp; done) | (simp; omega) | omega)) (Below.mono b3 (by first | omega | (simp; done) | (simp; omega))); have b4r_3 := Lib.hid (Box4.below b4r_2.out p3); have b4r_30 := b4r_3.out.c0; have b4r_31 := b4r_3.out.c1; have b4r_32 := b4r_3.out.c2; have b4r_33 := b4r_3.out.c3; have b4r_3f0 := b4r_3.out.f0; have b4r_3f1 := b4r_3.out.f1; have b4r_3f2 := b4r_3.out.f2; have b4r_3f3 := b4r_3.out.f3; have b4r_3z := b4r_3.out.z; have b4h_3 := Lib.hid (Box4.below b4h_2.out p3); have b4h_30 := b4h_3.out.c0; have b4h_31 := b4h_3.out.c1; have b4h_32 := b4h_3.out.c2; have b4h_33 := b4h_3.out.c3; have b4h_3f0 := b4h_3.out.f0; have b4h_3f1 := b4h_3.out.f1; have b4h_3f2 := b4h_3.out.f2; have b4h_3f3 := b4h_3.out.f3; have b4h_3z := b4h_3.out.z; have b4e_3 := Lib.hid (Box4.below b4e_2.out p3); have b4e_30 := b4e_3.out.c0; have b4e_31 := b4e_3.out.c1; have b4e_32 := b4e_3.out.c2; have b4e_33 := b4e_3.out.c3; have b4e_3f0 := b4e_3.out.f0; have b4e_3f1 := b4e_3.out.f1; have b4e_3f2 := b4e_3.out.f2; have b4e_3f3 := b4e_3.out.f3; have b4e_3z := b4e_3.out.z)
    | (go_at_call 21; (with_reducible refine (HNC.out _).mono ?_); rintro e w4 ⟨rfl, b4⟩; have p4 : Below w3.heap.size w3 w4 := Below.trans (by repeat' (first | (with_reducible assumption) | (with_reducible exact Below.refl _ _) | (with_reducible refine Below.drew ?_) | (with_reducible refine below_drewN ?_ _) | (with_reducible refine Below.alloc ?_ ?_ _) | (with_reducible exact Nat.le_refl _) | (simp; done) | (simp; omega) | omega)) (Below.mono b4 (by first | omega | (simp; done) | (simp; omega))); have b4r_4 := Lib.hid (Box4.below b4r_3.out p4); have b4r_40 := b4r_4.out.c0; have b4r_41 := b4r_4.out.c1; have b4r_42 := b4r_4.out.c2; have b4r_43 := b4r_4.out.c3; have b4r_4f0 := b4r_4.out.f0; have b4r_4f1 := b4r_4.out.f1; have b4r_4f2 := b4r_4.out.f2; have b4r_4f3 := b4r_4.out.f3; have b4r_4z := b4r_4.out.z; have b4h_4 := Lib.hid (Box4.below b4h_3.out p4); have b4h_40 := b4h_4.out.c0; have b4h_41 := b4h_4.out.c1; have b4h_42 := b4h_4.out.c2; have b4h_43 := b4h_4.out.c3; have b4h_4f0 := b4h_4.out.f0; have b4h_4f1 := b4h_4.out.f1; have b4h_4f2 := b4h_4.out.f2; have b4h_4f3 := b4h_4.out.f3; have b4h_4z := b4h_4.out.z; have b4e_4 := Lib.hid (Box4.below b4e_3.out p4); have b4e_40 := b4e_4.out.c0; have b4e_41 := b4e_4.out.c1; have b4e_42 := b4e_4.out.c2; have b4e_43 := b4e_4.out.c3; have b4e_4f0 := b4e_4.out.f0; have b4e_4f1 := b4e_4.out.f1; have b4e_4f2 := b4e_4.out.f2; have b4e_4f3 := b4e_4.out.f3; have b4e_4z := b4e_4.out.z)
    | fail)
  generalize hW5 : (World.setCell w4 _ _ : World) = w5
  have hb5 : Below w.heap.size w w5 := by rw [← hW5]; exact ((below_step (below_step HB2.out p3) p4).setCell (by show w.heap.size ≤ w1.heap.size + 1 + 1; omega) _)
  have b4r_5 := Lib.hid ((show Box4 w5 w.heap.size (.int .i64 0) (.int .i64 0) (.int .i64 0) (.slice none 0 0) by rw [← hW5]; exact b4r_4.out.other (show w1.heap.size + 1 + 1 ≠ w.heap.size by omega) 1 _)); have b4r_50 := b4r_5.out.c0; have b4r_51 := b4r_5.out.c1; have b4r_52 := b4r_5.out.c2; have b4r_53 := b4r_5.out.c3; have b4r_5f0 := b4r_5.out.f0; have b4r_5f1 := b4r_5.out.f1; have b4r_5f2 := b4r_5.out.f2; have b4r_5f3 := b4r_5.out.f3; have b4r_5z := b4r_5.out.z
  have b4h_5 := Lib.hid ((show Box4 w5 (w1.heap.size + 1) (.int .i64 (k : Int)) (.bool true) (.bool true) (.bool false) by rw [← hW5]; exact b4h_4.out.other (show w1.heap.size + 1 + 1 ≠ w1.heap.size + 1 by omega) 1 _)); have b4h_50 := b4h_5.out.c0; have b4h_51 := b4h_5.out.c1; have b4h_52 := b4h_5.out.c2; have b4h_53 := b4h_5.out.c3; have b4h_5f0 := b4h_5.out.f0; have b4h_5f1 := b4h_5.out.f1; have b4h_5f2 := b4h_5.out.f2; have b4h_5f3 := b4h_5.out.f3; have b4h_5z := b4h_5.out.z
  have b4e_5 := Lib.hid ((show Box4 w5 (w1.heap.size + 1 + 1) (.int .i64 (k : Int)) (.int .i64 (c : Int)) (.int .i64 0) (.slice none 0 0) by rw [← hW5]; exact b4e_4.out.set1 _)); have b4e_50 := b4e_5.out.c0; have b4e_51 := b4e_5.out.c1; have b4e_52 := b4e_5.out.c2; have b4e_53 := b4e_5.out.c3; have b4e_5f0 := b4e_5.out.f0; have b4e_5f1 := b4e_5.out.f1; have b4e_5f2 := b4e_5.out.f2; have b4e_5f3 := b4e_5.out.f3; have b4e_5z := b4e_5.out.z
  have HB5 := Lib.hid hb5
  clear b4r_2 b4r_2z b4r_20 b4r_21 b4r_22 b4r_23 b4r_2f0 b4r_2f1 b4r_2f2 b4r_2f3 b4h_2 b4h_2z b4h_20 b4h_21 b4h_22 b4h_23 b4h_2f0 b4h_2f1 b4h_2f2 b4h_2f3 b4e_2 b4e_2z b4e_20 b4e_21 b4e_22 b4e_23 b4e_2f0 b4e_2f1 b4e_2f2 b4e_2f3 b4r_3 b4r_3z b4r_30 b4r_31 b4r_32 b4r_33 b4r_3f0 b4r_3f1 b4r_3f2 b4r_3f3 b4h_3 b4h_3z b4h_30 b4h_31 b4h_32 b4h_33 b4h_3f0 b4h_3f1 b4h_3f2 b4h_3f3 b4e_3 b4e_3z b4e_30 b4e_31 b4e_32 b4e_33 b4e_3f0 b4e_3f1 b4e_3f2 b4e_3f3 b4r_4 b4r_4z b4r_40 b4r_41 b4r_42 b4r_43 b4r_4f0 b4r_4f1 b4r_4f2 b4r_4f3 b4h_4 b4h_4z b4h_40 b4h_41 b4h_42 b4h_43 b4h_4f0 b4h_4f1 b4h_4f2 b4h_4f3 b4e_4 b4e_4z b4e_40 b4e_41 b4e_42 b4e_43 b4e_4f0 b4e_4f1 b4e_4f2 b4e_4f3
  clear hW5 p3 p4 b3 b4 hb5
  go_wp2_with (first
    | (go_at_call 21; (with_reducible refine (HNN.out _).mono ?_); rintro e w6 ⟨rfl, b6⟩; have p6 : Below w5.heap.size w5 w6 := Below.trans (by repeat' (first | (with_reducible assumption) | (with_reducible exact Below.refl _ _) | (with_reducible refine Below.drew ?_) | (with_reducible refine below_drewN ?_ _) | (with_reducible refine Below.alloc ?_ ?_ _) | (with_reducible exact Nat.le_refl _) | (simp; done) | (simp; omega) | omega)) (Below.mono b6 (by first | omega | (simp; done) | (simp; omega))); have b4r_6 := Lib.hid (Box4.below b4r_5.out p6); have b4r_60 := b4r_6.out.c0; have b4r_61 := b4r_6.out.c1; have b4r_62 := b4r_6.out.c2; have b4r_63 := b4r_6.out.c3; have b4r_6f0 := b4r_6.out.f0; have b4r_6f1 := b4r_6.out.f1; have b4r_6f2 := b4r_6.out.f2; have b4r_6f3 := b4r_6.out.f3; have b4r_6z := b4r_6.out.z; have b4h_6 := Lib.hid (Box4.below b4h_5.out p6); have b4h_60 := b4h_6.out.c0; have b4h_61 := b4h_6.out.c1; have b4h_62 := b4h_6.out.c2; have b4h_63 := b4h_6.out.c3; have b4h_6f0 := b4h_6.out.f0; have b4h_6f1 := b4h_6.out.f1; have b4h_6f2 := b4h_6.out.f2; have b4h_6f3 := b4h_6.out.f3; have b4h_6z := b4h_6.out.z; have b4e_6 := Lib.hid (Box4.below b4e_5.out p6); have b4e_60 := b4e_6.out.c0; have b4e_61 := b4e_6.out.c1; have b4e_62 := b4e_6.out.c2; have b4e_63 := b4e_6.out.c3; have b4e_6f0 := b4e_6.out.f0; have b4e_6f1 := b4e_6.out.f1; have b4e_6f2 := b4e_6.out.f2; have b4e_6f3 := b4e_6.out.f3; have b4e_6z := b4e_6.out.z)
    | fail)
  generalize hW9 : (World.setCell _ _ _ : World) = w9
  have hb9 : Below w.heap.size w w9 := by rw [← hW9]; exact (((((below_step HB5.out p6).setCell (by show w.heap.size ≤ w1.heap.size + 1 + 1; omega) _).setCell (Nat.le_refl _) _).setCell (Nat.le_refl _) _).setCell (Nat.le_refl _) _).setCell (Nat.le_refl _) _
  have b4z_9 := Lib.hid ((show Box4 w9 w.heap.size (.int .i64 (k : Int)) (.int .i64 (c : Int)) (.int .i64 (n : Int)) (.slice none 0 0) by rw [← hW9]; exact (b4r_6.out.other (show w1.heap.size + 1 + 1 ≠ w.heap.size by omega) 2 _).set)); have b4z_90 := b4z_9.out.c0; have b4z_91 := b4z_9.out.c1; have b4z_92 := b4z_9.out.c2; have b4z_93 := b4z_9.out.c3; have b4z_9f0 := b4z_9.out.f0; have b4z_9f1 := b4z_9.out.f1; have b4z_9f2 := b4z_9.out.f2; have b4z_9f3 := b4z_9.out.f3; have b4z_9z := b4z_9.out.z
  clear hW9
  (try simp only [Exit.inBlock, Exit.then]); refine bodyPost_ret (by simp [results, Tryd.results9, go_sem, *]; try rfl) rfl ?_
  exact ⟨rfl, hb9⟩
set_option maxRecDepth 100000 in
set_option maxHeartbeats 3200000 in
theorem read_ct {k : Nat} {L : List Nat} (hL : L.length ≤ 6) (h32 : 32 ∉ L) (hLt : ∀ x ∈ L, x < 256)
    (hlk : ∀ W : World, (Instr.lookup 46 (.map (some W.heap.size)) (.string (strN L)) true).run Tryd.prog (W.alloc shapesO) = .ok (.tuple #[.agg #[.int .i64 (k : Int), .bool true, .bool false, .bool true], .bool true]) (W.alloc shapesO))
    (c : Nat) (hc : c ≤ 1099511627776) (bs : List Nat) (hbl : ∀ x ∈ bs, x < 256) (hbm : bs.length ≤ 4096) (w : World) :
    Calls Tryd.prog 9 #[.string (strN (L ++ 32 :: (decN c ++ 32 :: quoteL bs)))] w fun e w' => (∃ v, e = .returned (.tuple #[.agg #[.int .i64 (k : Int), .int .i64 (c : Int), .int .i64 0, v], .nilIface]) ∧ OB w' w.heap.size v bs) ∧ Below w.heap.size w w' := by
  have h13c := dec13 hc
  have hq := quote_len bs
  have hR : ∀ x ∈ decN c ++ 32 :: quoteL bs, x < 256 := by
    intro x hx; rcases List.mem_append.1 hx with h | h; exact decN_lt c x h; rcases List.mem_cons.1 h with rfl | h; omega; exact quoteL_lt hbl x h
  have hc1 := fun W => cut32 L (decN c ++ 32 :: quoteL bs) h32 (by intro x hx; rcases List.mem_append.1 hx with h | h; exact hLt x h; rcases List.mem_cons.1 h with rfl | h; omega; exact (hR x h)) (by simp; omega) W
  have hc2 := fun W => cut32 (decN c) (quoteL bs) (dec_no32 c) hR (by simp; omega) W
  have HC2 := Lib.hid hc2
  have HNC := Lib.hid (fun W => number_dec c hc W)
  clear hc2
  have HUQ := Lib.hid (fun W => unquoted_any bs hbl hbm W)
  have HC1 := Lib.hid hc1
  have HLK := Lib.hid hlk
  generalize strN (L ++ 32 :: (decN c ++ 32 :: quoteL bs)) = S at HC1 ⊢
  generalize strN (decN c ++ 32 :: quoteL bs) = R at HC1 HC2
  clear hc1 hlk h32 hLt
  go_enter Tryd.func9, Tryd.ntmps9
  go_upto_region 2 with (first
    | (go_at_call 20; (with_reducible refine (HC1.out _).mono ?_); rintro e w1 ⟨rfl, b1⟩)
    | fail)
  have hlk1 := HLK.out w1
  have p1 : Below w.heap.size w w1 := ((Below.refl _ _).alloc (Nat.le_refl _) (.cells #[.int .i64 0, .int .i64 0, .int .i64 0, .slice none 0 0] 29)).trans (b1.mono (by simp))
  have br := (Box4.make w (.int .i64 0) (.int .i64 0) (.int .i64 0) (.slice none 0 0) 29 rfl).below b1
  clear b1 HC1
  go_upto_region 6 with (first
    | (go_at_call 14; (with_reducible refine (shapes_any _).mono ?_); rintro e w2 ⟨rfl, rfl⟩)
    | fail)
  generalize hW : (World.alloc _ _ : World) = w2
  have p2 : Below w1.heap.size w1 w2 := by rw [← hW]; (repeat' (first | (with_reducible exact Below.refl _ _) | (refine Below.trans ?_ (Below.mono (by with_reducible assumption) ?_)) | (with_reducible exact Below.refl _ _) | (with_reducible refine below_drewN ?_ _) | (with_reducible refine Below.drew ?_) | (with_reducible refine Below.setCell ?_ ?_ _) | (with_reducible refine Below.alloc ?_ ?_ _) | (with_reducible assumption) | (simp; done) | (simp; omega) | omega))
  have bh : Box4 w2 (w1.heap.size + 1) (.int .i64 (k : Int)) (.bool true) (.bool false) (.bool true) := by rw [← hW]; exact (Box4.make _ _ _ _ _ _ (by simp)).alloc _
  have be : Box4 w2 (w1.heap.size + 1 + 1) (.int .i64 (k : Int)) (.int .i64 0) (.int .i64 0) (.slice none 0 0) := by rw [← hW]; exact Box4.make _ _ _ _ _ _ (by simp)
  clear hW hlk1
  have b4r_2 := Lib.hid (br.below p2); have b4r_20 := b4r_2.out.c0; have b4r_21 := b4r_2.out.c1; have b4r_22 := b4r_2.out.c2; have b4r_23 := b4r_2.out.c3; have b4r_2f0 := b4r_2.out.f0; have b4r_2f1 := b4r_2.out.f1; have b4r_2f2 := b4r_2.out.f2; have b4r_2f3 := b4r_2.out.f3; have b4r_2z := b4r_2.out.z
  have b4h_2 := Lib.hid (bh); have b4h_20 := b4h_2.out.c0; have b4h_21 := b4h_2.out.c1; have b4h_22 := b4h_2.out.c2; have b4h_23 := b4h_2.out.c3; have b4h_2f0 := b4h_2.out.f0; have b4h_2f1 := b4h_2.out.f1; have b4h_2f2 := b4h_2.out.f2; have b4h_2f3 := b4h_2.out.f3; have b4h_2z := b4h_2.out.z
  have b4e_2 := Lib.hid (be); have b4e_20 := b4e_2.out.c0; have b4e_21 := b4e_2.out.c1; have b4e_22 := b4e_2.out.c2; have b4e_23 := b4e_2.out.c3; have b4e_2f0 := b4e_2.out.f0; have b4e_2f1 := b4e_2.out.f1; have b4e_2f2 := b4e_2.out.f2; have b4e_2f3 := b4e_2.out.f3; have b4e_2z := b4e_2.out.z
  have HB2 := Lib.hid (below_step p1 p2)
  have hrh : w.heap.size < w1.heap.size := by have := br.z; omega
  clear br bh be p1 p2
  go_upto_region 10 with (first
    | (go_at_call 20; (with_reducible refine (HC2.out _).mono ?_); rintro e w3 ⟨rfl, b3⟩; have p3 : Below w2.heap.size w2 w3 := Below.trans (by repeat' (first | (with_reducible assumption) | (with_reducible exact Below.refl _ _) | (with_reducible refine Below.drew ?_) | (with_reducible refine below_drewN ?_ _) | (with_reducible refine Below.alloc ?_ ?_ _) | (with_reducible exact Nat.le_refl _) | (simp; done) | (simp; omega) | omega)) (Below.mono b3 (by first | omega | (simp; done) | (simp; omega))); have b4r_3 := Lib.hid (Box4.below b4r_2.out p3); have b4r_30 := b4r_3.out.c0; have b4r_31 := b4r_3.out.c1; have b4r_32 := b4r_3.out.c2; have b4r_33 := b4r_3.out.c3; have b4r_3f0 := b4r_3.out.f0; have b4r_3f1 := b4r_3.out.f1; have b4r_3f2 := b4r_3.out.f2; have b4r_3f3 := b4r_3.out.f3; have b4r_3z := b4r_3.out.z; have b4h_3 := Lib.hid (Box4.below b4h_2.out p3); have b4h_30 := b4h_3.out.c0; have b4h_31 := b4h_3.out.c1; have b4h_32 := b4h_3.out.c2; have b4h_33 := b4h_3.out.c3; have b4h_3f0 := b4h_3.out.f0; have b4h_3f1 := b4h_3.out.f1; have b4h_3f2 := b4h_3.out.f2; have b4h_3f3 := b4h_3.out.f3; have b4h_3z := b4h_3.out.z; have b4e_3 := Lib.hid (Box4.below b4e_2.out p3); have b4e_30 := b4e_3.out.c0; have b4e_31 := b4e_3.out.c1; have b4e_32 := b4e_3.out.c2; have b4e_33 := b4e_3.out.c3; have b4e_3f0 := b4e_3.out.f0; have b4e_3f1 := b4e_3.out.f1; have b4e_3f2 := b4e_3.out.f2; have b4e_3f3 := b4e_3.out.f3; have b4e_3z := b4e_3.out.z)
    | (go_at_call 21; (with_reducible refine (HNC.out _).mono ?_); rintro e w4 ⟨rfl, b4⟩; have p4 : Below w3.heap.size w3 w4 := Below.trans (by repeat' (first | (with_reducible assumption) | (with_reducible exact Below.refl _ _) | (with_reducible refine Below.drew ?_) | (with_reducible refine below_drewN ?_ _) | (with_reducible refine Below.alloc ?_ ?_ _) | (with_reducible exact Nat.le_refl _) | (simp; done) | (simp; omega) | omega)) (Below.mono b4 (by first | omega | (simp; done) | (simp; omega))); have b4r_4 := Lib.hid (Box4.below b4r_3.out p4); have b4r_40 := b4r_4.out.c0; have b4r_41 := b4r_4.out.c1; have b4r_42 := b4r_4.out.c2; have b4r_43 := b4r_4.out.c3; have b4r_4f0 := b4r_4.out.f0; have b4r_4f1 := b4r_4.out.f1; have b4r_4f2 := b4r_4.out.f2; have b4r_4f3 := b4r_4.out.f3; have b4r_4z := b4r_4.out.z; have b4h_4 := Lib.hid (Box4.below b4h_3.out p4); have b4h_40 := b4h_4.out.c0; have b4h_41 := b4h_4.out.c1; have b4h_42 := b4h_4.out.c2; have b4h_43 := b4h_4.out.c3; have b4h_4f0 := b4h_4.out.f0; have b4h_4f1 := b4h_4.out.f1; have b4h_4f2 := b4h_4.out.f2; have b4h_4f3 := b4h_4.out.f3; have b4h_4z := b4h_4.out.z; have b4e_4 := Lib.hid (Box4.below b4e_3.out p4); have b4e_40 := b4e_4.out.c0; have b4e_41 := b4e_4.out.c1; have b4e_42 := b4e_4.out.c2; have b4e_43 := b4e_4.out.c3; have b4e_4f0 := b4e_4.out.f0; have b4e_4f1 := b4e_4.out.f1; have b4e_4f2 := b4e_4.out.f2; have b4e_4f3 := b4e_4.out.f3; have b4e_4z := b4e_4.out.z)
    | fail)
  generalize hW5 : (World.setCell w4 _ _ : World) = w5
  have hb5 : Below w.heap.size w w5 := by rw [← hW5]; exact ((below_step (below_step HB2.out p3) p4).setCell (by show w.heap.size ≤ w1.heap.size + 1 + 1; omega) _)
  have b4r_5 := Lib.hid ((show Box4 w5 w.heap.size (.int .i64 0) (.int .i64 0) (.int .i64 0) (.slice none 0 0) by rw [← hW5]; exact b4r_4.out.other (show w1.heap.size + 1 + 1 ≠ w.heap.size by omega) 1 _)); have b4r_50 := b4r_5.out.c0; have b4r_51 := b4r_5.out.c1; have b4r_52 := b4r_5.out.c2; have b4r_53 := b4r_5.out.c3; have b4r_5f0 := b4r_5.out.f0; have b4r_5f1 := b4r_5.out.f1; have b4r_5f2 := b4r_5.out.f2; have b4r_5f3 := b4r_5.out.f3; have b4r_5z := b4r_5.out.z
  have b4h_5 := Lib.hid ((show Box4 w5 (w1.heap.size + 1) (.int .i64 (k : Int)) (.bool true) (.bool false) (.bool true) by rw [← hW5]; exact b4h_4.out.other (show w1.heap.size + 1 + 1 ≠ w1.heap.size + 1 by omega) 1 _)); have b4h_50 := b4h_5.out.c0; have b4h_51 := b4h_5.out.c1; have b4h_52 := b4h_5.out.c2; have b4h_53 := b4h_5.out.c3; have b4h_5f0 := b4h_5.out.f0; have b4h_5f1 := b4h_5.out.f1; have b4h_5f2 := b4h_5.out.f2; have b4h_5f3 := b4h_5.out.f3; have b4h_5z := b4h_5.out.z
  have b4e_5 := Lib.hid ((show Box4 w5 (w1.heap.size + 1 + 1) (.int .i64 (k : Int)) (.int .i64 (c : Int)) (.int .i64 0) (.slice none 0 0) by rw [← hW5]; exact b4e_4.out.set1 _)); have b4e_50 := b4e_5.out.c0; have b4e_51 := b4e_5.out.c1; have b4e_52 := b4e_5.out.c2; have b4e_53 := b4e_5.out.c3; have b4e_5f0 := b4e_5.out.f0; have b4e_5f1 := b4e_5.out.f1; have b4e_5f2 := b4e_5.out.f2; have b4e_5f3 := b4e_5.out.f3; have b4e_5z := b4e_5.out.z
  have HB5 := Lib.hid hb5
  clear b4r_2 b4r_2z b4r_20 b4r_21 b4r_22 b4r_23 b4r_2f0 b4r_2f1 b4r_2f2 b4r_2f3 b4h_2 b4h_2z b4h_20 b4h_21 b4h_22 b4h_23 b4h_2f0 b4h_2f1 b4h_2f2 b4h_2f3 b4e_2 b4e_2z b4e_20 b4e_21 b4e_22 b4e_23 b4e_2f0 b4e_2f1 b4e_2f2 b4e_2f3 b4r_3 b4r_3z b4r_30 b4r_31 b4r_32 b4r_33 b4r_3f0 b4r_3f1 b4r_3f2 b4r_3f3 b4h_3 b4h_3z b4h_30 b4h_31 b4h_32 b4h_33 b4h_3f0 b4h_3f1 b4h_3f2 b4h_3f3 b4e_3 b4e_3z b4e_30 b4e_31 b4e_32 b4e_33 b4e_3f0 b4e_3f1 b4e_3f2 b4e_3f3 b4r_4 b4r_4z b4r_40 b4r_41 b4r_42 b4r_43 b4r_4f0 b4r_4f1 b4r_4f2 b4r_4f3 b4h_4 b4h_4z b4h_40 b4h_41 b4h_42 b4h_43 b4h_4f0 b4h_4f1 b4h_4f2 b4h_4f3 b4e_4 b4e_4z b4e_40 b4e_41 b4e_42 b4e_43 b4e_4f0 b4e_4f1 b4e_4f2 b4e_4f3
  clear hW5 p3 p4 b3 b4 hb5
  go_wp2_with (first
    | (go_at_call 22; (with_reducible refine (HUQ.out _).mono ?_); rintro e w6 ⟨⟨vq, rfl, hq6⟩, b6⟩; have p6 : Below w5.heap.size w5 w6 := Below.trans (by repeat' (first | (with_reducible assumption) | (with_reducible exact Below.refl _ _) | (with_reducible refine Below.drew ?_) | (with_reducible refine below_drewN ?_ _) | (with_reducible refine Below.alloc ?_ ?_ _) | (with_reducible exact Nat.le_refl _) | (simp; done) | (simp; omega) | omega)) (Below.mono b6 (by first | omega | (simp; done) | (simp; omega))); have b4r_6 := Lib.hid (Box4.below b4r_5.out p6); have b4r_60 := b4r_6.out.c0; have b4r_61 := b4r_6.out.c1; have b4r_62 := b4r_6.out.c2; have b4r_63 := b4r_6.out.c3; have b4r_6f0 := b4r_6.out.f0; have b4r_6f1 := b4r_6.out.f1; have b4r_6f2 := b4r_6.out.f2; have b4r_6f3 := b4r_6.out.f3; have b4r_6z := b4r_6.out.z; have b4h_6 := Lib.hid (Box4.below b4h_5.out p6); have b4h_60 := b4h_6.out.c0; have b4h_61 := b4h_6.out.c1; have b4h_62 := b4h_6.out.c2; have b4h_63 := b4h_6.out.c3; have b4h_6f0 := b4h_6.out.f0; have b4h_6f1 := b4h_6.out.f1; have b4h_6f2 := b4h_6.out.f2; have b4h_6f3 := b4h_6.out.f3; have b4h_6z := b4h_6.out.z; have b4e_6 := Lib.hid (Box4.below b4e_5.out p6); have b4e_60 := b4e_6.out.c0; have b4e_61 := b4e_6.out.c1; have b4e_62 := b4e_6.out.c2; have b4e_63 := b4e_6.out.c3; have b4e_6f0 := b4e_6.out.f0; have b4e_6f1 := b4e_6.out.f1; have b4e_6f2 := b4e_6.out.f2; have b4e_6f3 := b4e_6.out.f3; have b4e_6z := b4e_6.out.z; obtain ⟨Aq, cq, rfl, hcq, _, _⟩ := hq6.slice; have HQ6 := Lib.hid hq6; clear hq6)
    | fail)
  generalize hW9 : (World.setCell _ _ _ : World) = w9
  have hb9 : Below w.heap.size w w9 := by rw [← hW9]; exact (((((below_step HB5.out p6).setCell (by show w.heap.size ≤ w1.heap.size + 1 + 1; omega) _).setCell (Nat.le_refl _) _).setCell (Nat.le_refl _) _).setCell (Nat.le_refl _) _).setCell (Nat.le_refl _) _
  have hz5 := HB5.out.size
  have HO9 : Hid (OB w9 w.heap.size (.slice Aq bs.length cq) bs) := Lib.hid (by rw [← hW9]; exact (OB.setCell (OB.setCell (OB.setCell (OB.setCell (OB.setCell HQ6.out (show w1.heap.size + 1 + 1 < w5.heap.size from b4e_5z) _) (show w.heap.size < w5.heap.size from b4r_5z) _) (show w.heap.size < w5.heap.size from b4r_5z) _) (show w.heap.size < w5.heap.size from b4r_5z) _) (show w.heap.size < w5.heap.size from b4r_5z) _).mono hz5)
  have b4z_9 := Lib.hid ((show Box4 w9 w.heap.size (.int .i64 (k : Int)) (.int .i64 (c : Int)) (.int .i64 0) (.slice Aq bs.length cq) by rw [← hW9]; exact (b4r_6.out.other (show w1.heap.size + 1 + 1 ≠ w.heap.size by omega) 3 _).set)); have b4z_90 := b4z_9.out.c0; have b4z_91 := b4z_9.out.c1; have b4z_92 := b4z_9.out.c2; have b4z_93 := b4z_9.out.c3; have b4z_9f0 := b4z_9.out.f0; have b4z_9f1 := b4z_9.out.f1; have b4z_9f2 := b4z_9.out.f2; have b4z_9f3 := b4z_9.out.f3; have b4z_9z := b4z_9.out.z
  clear hW9
  (try simp only [Exit.inBlock, Exit.then]); refine bodyPost_ret (by simp [results, Tryd.results9, go_sem, *]; try rfl) rfl ?_
  exact ⟨⟨_, rfl, HO9.out⟩, hb9⟩
end Go.Proofs.YtanbplnagcmlcaaDoor
