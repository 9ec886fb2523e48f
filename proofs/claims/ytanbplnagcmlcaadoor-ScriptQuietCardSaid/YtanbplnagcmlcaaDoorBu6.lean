/- Several texts put together: ScrI. -/
import Derived.Test.YtanbplnagcmlcaaDoorBu5
/- Layer 24: an event that may not be told. -/
namespace Go.Proofs.YtanbplnagcmlcaaDoor
open Go.RowKit
def I64s (n : Int) : Prop := -9223372036854775808 ≤ n ∧ n < 9223372036854775808
set_option maxRecDepth 100000 in
set_option maxHeartbeats 3200000 in
theorem line_kind (k conn n : Int) (hk : ¬ (0 ≤ k ∧ k < 8)) (v : Value) (A : Option Addr) (m cap : Nat) (hv : v = .slice A m cap) (w : World) :
    Calls Tryd.prog 7 #[.agg #[.int .i64 k, .int .i64 conn, .int .i64 n, v]] w fun e w' => e = .returned (.tuple #[.string { data := #[] }, .iface 43 (.int .i64 4)]) ∧ Below w.heap.size w w' := by
  subst hv
  go_enter Tryd.func7, Tryd.ntmps7
  go_wp2_with (first
    | (go_at_call 13; (with_reducible refine (word_no k hk _).mono ?_); rintro e w1 ⟨rfl, rfl⟩)
    | fail)
  (try simp only [Exit.inBlock, Exit.then]); refine bodyPost_ret (by simp [results, Tryd.results7, go_sem, *]; try rfl) rfl ?_
  exact ⟨rfl, by (repeat' (first | (with_reducible exact Below.refl _ _) | (refine Below.trans ?_ (Below.mono (by with_reducible assumption) ?_)) | (with_reducible exact Below.refl _ _) | (with_reducible refine below_drewN ?_ _) | (with_reducible refine Below.drew ?_) | (with_reducible refine Below.setCell ?_ ?_ _) | (with_reducible refine Below.alloc ?_ ?_ _) | (with_reducible assumption) | (simp; done) | (simp; omega) | omega))⟩
set_option maxRecDepth 100000 in
set_option maxHeartbeats 3200000 in
theorem line_bad_n {k : Nat} {L : List Nat} (hw : ∀ W, Calls Tryd.prog 13 #[.int .i64 (k : Int)] W fun e w' => e = .returned (.tuple #[.string (strN L), .bool true]) ∧ w' = W)
    (hlk : ∀ W : World, (Instr.lookup 46 (.map (some W.heap.size)) (.string (strN L)) false).run Tryd.prog (W.alloc shapesO) = .ok (.agg #[.int .i64 (k : Int), .bool false, .bool true, .bool false]) (W.alloc shapesO))
    (conn n : Int) (hc : I64s conn) (hn : I64s n) (A : Option Addr) (m cap : Nat) (hm : m ≤ maxLen) (hbad : ¬ (rightB conn false = true ∧ rightB n true = true ∧ m ≤ 4096 ∧ (false = true ∨ m = 0))) (w : World) :
    Calls Tryd.prog 7 #[.agg #[.int .i64 (k : Int), .int .i64 conn, .int .i64 n, .slice A m cap]] w fun e w' => e = .returned (.tuple #[.string { data := #[] }, .iface 43 (.int .i64 4)]) ∧ Below w.heap.size w w' := by
  have HW := Lib.hid hw
  have hrc := fun W => right_any conn hc false W
  have hrn := fun W => right_any n hn true W
  have hlk1 := hlk (w.alloc (.cells #[.int .i64 (k : Int), .int .i64 conn, .int .i64 n, .slice A m cap] 29))
  rw [show (w.alloc (.cells #[.int .i64 (k : Int), .int .i64 conn, .int .i64 n, .slice A m cap] 29)).heap.size = w.heap.size + 1 by simp] at hlk1
  unfold maxLen at hm
  clear hlk hw hc hn
  generalize rightB conn false = bc at hrc hbad
  generalize rightB n true = bn at hrn hbad
  have HRC := Lib.hid hrc
  have HRN := Lib.hid hrn
  have HBAD := Lib.hid hbad
  clear hrc hrn hbad
  cases bc
  · go_enter Tryd.func7, Tryd.ntmps7
    go_wp2_with (first
      | (go_at_call 13; (with_reducible refine (HW.out _).mono ?_); rintro e w1 ⟨rfl, rfl⟩)
      | (go_at_call 14; (with_reducible refine (shapes_any _).mono ?_); rintro e w2 ⟨rfl, rfl⟩)
      | (go_at_call 15; (with_reducible refine (HRC.out _).mono ?_); rintro e w1 ⟨rfl, rfl⟩)
      | (go_at_call 15; (with_reducible refine (HRN.out _).mono ?_); rintro e w1 ⟨rfl, rfl⟩)
      | fail)
    (try simp only [Exit.inBlock, Exit.then]); refine bodyPost_ret (by simp [results, Tryd.results7, go_sem, *]; try rfl) rfl ?_
    exact ⟨rfl, by (repeat' (first | (with_reducible exact Below.refl _ _) | (refine Below.trans ?_ (Below.mono (by with_reducible assumption) ?_)) | (with_reducible exact Below.refl _ _) | (with_reducible refine below_drewN ?_ _) | (with_reducible refine Below.drew ?_) | (with_reducible refine Below.setCell ?_ ?_ _) | (with_reducible refine Below.alloc ?_ ?_ _) | (with_reducible assumption) | (simp; done) | (simp; omega) | omega))⟩
  · cases bn
    · go_enter Tryd.func7, Tryd.ntmps7
      go_wp2_with (first
        | (go_at_call 13; (with_reducible refine (HW.out _).mono ?_); rintro e w1 ⟨rfl, rfl⟩)
        | (go_at_call 14; (with_reducible refine (shapes_any _).mono ?_); rintro e w2 ⟨rfl, rfl⟩)
        | (go_at_call 15; (with_reducible refine (HRC.out _).mono ?_); rintro e w1 ⟨rfl, rfl⟩)
        | (go_at_call 15; (with_reducible refine (HRN.out _).mono ?_); rintro e w1 ⟨rfl, rfl⟩)
        | fail)
      (try simp only [Exit.inBlock, Exit.then]); refine bodyPost_ret (by simp [results, Tryd.results7, go_sem, *]; try rfl) rfl ?_
      exact ⟨rfl, by (repeat' (first | (with_reducible exact Below.refl _ _) | (refine Below.trans ?_ (Below.mono (by with_reducible assumption) ?_)) | (with_reducible exact Below.refl _ _) | (with_reducible refine below_drewN ?_ _) | (with_reducible refine Below.drew ?_) | (with_reducible refine Below.setCell ?_ ?_ _) | (with_reducible refine Below.alloc ?_ ?_ _) | (with_reducible assumption) | (simp; done) | (simp; omega) | omega))⟩
    · by_cases h4 : 4096 < m
      · have d4 : decide (4096 < (m : Int)) = true := by simp; omega
        go_enter Tryd.func7, Tryd.ntmps7
        go_wp2_with (first
          | (go_at_call 13; (with_reducible refine (HW.out _).mono ?_); rintro e w1 ⟨rfl, rfl⟩)
          | (go_at_call 14; (with_reducible refine (shapes_any _).mono ?_); rintro e w2 ⟨rfl, rfl⟩)
          | (go_at_call 15; (with_reducible refine (HRC.out _).mono ?_); rintro e w1 ⟨rfl, rfl⟩)
          | (go_at_call 15; (with_reducible refine (HRN.out _).mono ?_); rintro e w1 ⟨rfl, rfl⟩)
          | fail)
        (try simp only [Exit.inBlock, Exit.then]); refine bodyPost_ret (by simp [results, Tryd.results7, go_sem, *]; try rfl) rfl ?_
        exact ⟨rfl, by (repeat' (first | (with_reducible exact Below.refl _ _) | (refine Below.trans ?_ (Below.mono (by with_reducible assumption) ?_)) | (with_reducible exact Below.refl _ _) | (with_reducible refine below_drewN ?_ _) | (with_reducible refine Below.drew ?_) | (with_reducible refine Below.setCell ?_ ?_ _) | (with_reducible refine Below.alloc ?_ ?_ _) | (with_reducible assumption) | (simp; done) | (simp; omega) | omega))⟩
      · have d4 : decide (4096 < (m : Int)) = false := by simp; omega
        have h0 : 0 < m := by
          have := HBAD.out
          simp at this; omega
        have d0 : decide (0 < m) = true := decide_eq_true h0
        go_enter Tryd.func7, Tryd.ntmps7
        go_wp2_with (first
          | (go_at_call 13; (with_reducible refine (HW.out _).mono ?_); rintro e w1 ⟨rfl, rfl⟩)
          | (go_at_call 14; (with_reducible refine (shapes_any _).mono ?_); rintro e w2 ⟨rfl, rfl⟩)
          | (go_at_call 15; (with_reducible refine (HRC.out _).mono ?_); rintro e w1 ⟨rfl, rfl⟩)
          | (go_at_call 15; (with_reducible refine (HRN.out _).mono ?_); rintro e w1 ⟨rfl, rfl⟩)
          | fail)
        (try simp only [Exit.inBlock, Exit.then]); refine bodyPost_ret (by simp [results, Tryd.results7, go_sem, *]; try rfl) rfl ?_
        exact ⟨rfl, by (repeat' (first | (with_reducible exact Below.refl _ _) | (refine Below.trans ?_ (Below.mono (by with_reducible assumption) ?_)) | (with_reducible exact Below.refl _ _) | (with_reducible refine below_drewN ?_ _) | (with_reducible refine Below.drew ?_) | (with_reducible refine Below.setCell ?_ ?_ _) | (with_reducible refine Below.alloc ?_ ?_ _) | (with_reducible assumption) | (simp; done) | (simp; omega) | omega))⟩
set_option maxRecDepth 100000 in
set_option maxHeartbeats 3200000 in
theorem line_bad_ct {k : Nat} {L : List Nat} (hw : ∀ W, Calls Tryd.prog 13 #[.int .i64 (k : Int)] W fun e w' => e = .returned (.tuple #[.string (strN L), .bool true]) ∧ w' = W)
    (hlk : ∀ W : World, (Instr.lookup 46 (.map (some W.heap.size)) (.string (strN L)) false).run Tryd.prog (W.alloc shapesO) = .ok (.agg #[.int .i64 (k : Int), .bool true, .bool false, .bool true]) (W.alloc shapesO))
    (conn n : Int) (hc : I64s conn) (hn : I64s n) (A : Option Addr) (m cap : Nat) (hm : m ≤ maxLen) (hbad : ¬ (rightB conn true = true ∧ rightB n false = true ∧ m ≤ 4096 ∧ (true = true ∨ m = 0))) (w : World) :
    Calls Tryd.prog 7 #[.agg #[.int .i64 (k : Int), .int .i64 conn, .int .i64 n, .slice A m cap]] w fun e w' => e = .returned (.tuple #[.string { data := #[] }, .iface 43 (.int .i64 4)]) ∧ Below w.heap.size w w' := by
  have HW := Lib.hid hw
  have hrc := fun W => right_any conn hc true W
  have hrn := fun W => right_any n hn false W
  have hlk1 := hlk (w.alloc (.cells #[.int .i64 (k : Int), .int .i64 conn, .int .i64 n, .slice A m cap] 29))
  rw [show (w.alloc (.cells #[.int .i64 (k : Int), .int .i64 conn, .int .i64 n, .slice A m cap] 29)).heap.size = w.heap.size + 1 by simp] at hlk1
  unfold maxLen at hm
  clear hlk hw hc hn
  generalize rightB conn true = bc at hrc hbad
  generalize rightB n false = bn at hrn hbad
  have HRC := Lib.hid hrc
  have HRN := Lib.hid hrn
  have HBAD := Lib.hid hbad
  clear hrc hrn hbad
  cases bc
  · go_enter Tryd.func7, Tryd.ntmps7
    go_wp2_with (first
      | (go_at_call 13; (with_reducible refine (HW.out _).mono ?_); rintro e w1 ⟨rfl, rfl⟩)
      | (go_at_call 14; (with_reducible refine (shapes_any _).mono ?_); rintro e w2 ⟨rfl, rfl⟩)
      | (go_at_call 15; (with_reducible refine (HRC.out _).mono ?_); rintro e w1 ⟨rfl, rfl⟩)
      | (go_at_call 15; (with_reducible refine (HRN.out _).mono ?_); rintro e w1 ⟨rfl, rfl⟩)
      | fail)
    (try simp only [Exit.inBlock, Exit.then]); refine bodyPost_ret (by simp [results, Tryd.results7, go_sem, *]; try rfl) rfl ?_
    exact ⟨rfl, by (repeat' (first | (with_reducible exact Below.refl _ _) | (refine Below.trans ?_ (Below.mono (by with_reducible assumption) ?_)) | (with_reducible exact Below.refl _ _) | (with_reducible refine below_drewN ?_ _) | (with_reducible refine Below.drew ?_) | (with_reducible refine Below.setCell ?_ ?_ _) | (with_reducible refine Below.alloc ?_ ?_ _) | (with_reducible assumption) | (simp; done) | (simp; omega) | omega))⟩
  · cases bn
    · go_enter Tryd.func7, Tryd.ntmps7
      go_wp2_with (first
        | (go_at_call 13; (with_reducible refine (HW.out _).mono ?_); rintro e w1 ⟨rfl, rfl⟩)
        | (go_at_call 14; (with_reducible refine (shapes_any _).mono ?_); rintro e w2 ⟨rfl, rfl⟩)
        | (go_at_call 15; (with_reducible refine (HRC.out _).mono ?_); rintro e w1 ⟨rfl, rfl⟩)
        | (go_at_call 15; (with_reducible refine (HRN.out _).mono ?_); rintro e w1 ⟨rfl, rfl⟩)
        | fail)
      (try simp only [Exit.inBlock, Exit.then]); refine bodyPost_ret (by simp [results, Tryd.results7, go_sem, *]; try rfl) rfl ?_
      exact ⟨rfl, by (repeat' (first | (with_reducible exact Below.refl _ _) | (refine Below.trans ?_ (Below.mono (by with_reducible assumption) ?_)) | (with_reducible exact Below.refl _ _) | (with_reducible refine below_drewN ?_ _) | (with_reducible refine Below.drew ?_) | (with_reducible refine Below.setCell ?_ ?_ _) | (with_reducible refine Below.alloc ?_ ?_ _) | (with_reducible assumption) | (simp; done) | (simp; omega) | omega))⟩
    · by_cases h4 : 4096 < m
      · have d4 : decide (4096 < (m : Int)) = true := by simp; omega
        go_enter Tryd.func7, Tryd.ntmps7
        go_wp2_with (first
          | (go_at_call 13; (with_reducible refine (HW.out _).mono ?_); rintro e w1 ⟨rfl, rfl⟩)
          | (go_at_call 14; (with_reducible refine (shapes_any _).mono ?_); rintro e w2 ⟨rfl, rfl⟩)
          | (go_at_call 15; (with_reducible refine (HRC.out _).mono ?_); rintro e w1 ⟨rfl, rfl⟩)
          | (go_at_call 15; (with_reducible refine (HRN.out _).mono ?_); rintro e w1 ⟨rfl, rfl⟩)
          | fail)
        (try simp only [Exit.inBlock, Exit.then]); refine bodyPost_ret (by simp [results, Tryd.results7, go_sem, *]; try rfl) rfl ?_
        exact ⟨rfl, by (repeat' (first | (with_reducible exact Below.refl _ _) | (refine Below.trans ?_ (Below.mono (by with_reducible assumption) ?_)) | (with_reducible exact Below.refl _ _) | (with_reducible refine below_drewN ?_ _) | (with_reducible refine Below.drew ?_) | (with_reducible refine Below.setCell ?_ ?_ _) | (with_reducible refine Below.alloc ?_ ?_ _) | (with_reducible assumption) | (simp; done) | (simp; omega) | omega))⟩
      · exact absurd ⟨rfl, rfl, by omega, .inl rfl⟩ HBAD.out
set_option maxRecDepth 100000 in
set_option maxHeartbeats 3200000 in
theorem line_bad_c {k : Nat} {L : List Nat} (hw : ∀ W, Calls Tryd.prog 13 #[.int .i64 (k : Int)] W fun e w' => e = .returned (.tuple #[.string (strN L), .bool true]) ∧ w' = W)
    (hlk : ∀ W : World, (Instr.lookup 46 (.map (some W.heap.size)) (.string (strN L)) false).run Tryd.prog (W.alloc shapesO) = .ok (.agg #[.int .i64 (k : Int), .bool true, .bool false, .bool false]) (W.alloc shapesO))
    (conn n : Int) (hc : I64s conn) (hn : I64s n) (A : Option Addr) (m cap : Nat) (hm : m ≤ maxLen) (hbad : ¬ (rightB conn true = true ∧ rightB n false = true ∧ m ≤ 4096 ∧ (false = true ∨ m = 0))) (w : World) :
    Calls Tryd.prog 7 #[.agg #[.int .i64 (k : Int), .int .i64 conn, .int .i64 n, .slice A m cap]] w fun e w' => e = .returned (.tuple #[.string { data := #[] }, .iface 43 (.int .i64 4)]) ∧ Below w.heap.size w w' := by
  have HW := Lib.hid hw
  have hrc := fun W => right_any conn hc true W
  have hrn := fun W => right_any n hn false W
  have hlk1 := hlk (w.alloc (.cells #[.int .i64 (k : Int), .int .i64 conn, .int .i64 n, .slice A m cap] 29))
  rw [show (w.alloc (.cells #[.int .i64 (k : Int), .int .i64 conn, .int .i64 n, .slice A m cap] 29)).heap.size = w.heap.size + 1 by simp] at hlk1
  unfold maxLen at hm
  clear hlk hw hc hn
  generalize rightB conn true = bc at hrc hbad
  generalize rightB n false = bn at hrn hbad
  have HRC := Lib.hid hrc
  have HRN := Lib.hid hrn
  have HBAD := Lib.hid hbad
  clear hrc hrn hbad
  cases bc
  · go_enter Tryd.func7, Tryd.ntmps7
    go_wp2_with (first
      | (go_at_call 13; (with_reducible refine (HW.out _).mono ?_); rintro e w1 ⟨rfl, rfl⟩)
      | (go_at_call 14; (with_reducible refine (shapes_any _).mono ?_); rintro e w2 ⟨rfl, rfl⟩)
      | (go_at_call 15; (with_reducible refine (HRC.out _).mono ?_); rintro e w1 ⟨rfl, rfl⟩)
      | (go_at_call 15; (with_reducible refine (HRN.out _).mono ?_); rintro e w1 ⟨rfl, rfl⟩)
      | fail)
    (try simp only [Exit.inBlock, Exit.then]); refine bodyPost_ret (by simp [results, Tryd.results7, go_sem, *]; try rfl) rfl ?_
    exact ⟨rfl, by (repeat' (first | (with_reducible exact Below.refl _ _) | (refine Below.trans ?_ (Below.mono (by with_reducible assumption) ?_)) | (with_reducible exact Below.refl _ _) | (with_reducible refine below_drewN ?_ _) | (with_reducible refine Below.drew ?_) | (with_reducible refine Below.setCell ?_ ?_ _) | (with_reducible refine Below.alloc ?_ ?_ _) | (with_reducible assumption) | (simp; done) | (simp; omega) | omega))⟩
  · cases bn
    · go_enter Tryd.func7, Tryd.ntmps7
      go_wp2_with (first
        | (go_at_call 13; (with_reducible refine (HW.out _).mono ?_); rintro e w1 ⟨rfl, rfl⟩)
        | (go_at_call 14; (with_reducible refine (shapes_any _).mono ?_); rintro e w2 ⟨rfl, rfl⟩)
        | (go_at_call 15; (with_reducible refine (HRC.out _).mono ?_); rintro e w1 ⟨rfl, rfl⟩)
        | (go_at_call 15; (with_reducible refine (HRN.out _).mono ?_); rintro e w1 ⟨rfl, rfl⟩)
        | fail)
      (try simp only [Exit.inBlock, Exit.then]); refine bodyPost_ret (by simp [results, Tryd.results7, go_sem, *]; try rfl) rfl ?_
      exact ⟨rfl, by (repeat' (first | (with_reducible exact Below.refl _ _) | (refine Below.trans ?_ (Below.mono (by with_reducible assumption) ?_)) | (with_reducible exact Below.refl _ _) | (with_reducible refine below_drewN ?_ _) | (with_reducible refine Below.drew ?_) | (with_reducible refine Below.setCell ?_ ?_ _) | (with_reducible refine Below.alloc ?_ ?_ _) | (with_reducible assumption) | (simp; done) | (simp; omega) | omega))⟩
    · by_cases h4 : 4096 < m
      · have d4 : decide (4096 < (m : Int)) = true := by simp; omega
        go_enter Tryd.func7, Tryd.ntmps7
        go_wp2_with (first
          | (go_at_call 13; (with_reducible refine (HW.out _).mono ?_); rintro e w1 ⟨rfl, rfl⟩)
          | (go_at_call 14; (with_reducible refine (shapes_any _).mono ?_); rintro e w2 ⟨rfl, rfl⟩)
          | (go_at_call 15; (with_reducible refine (HRC.out _).mono ?_); rintro e w1 ⟨rfl, rfl⟩)
          | (go_at_call 15; (with_reducible refine (HRN.out _).mono ?_); rintro e w1 ⟨rfl, rfl⟩)
          | fail)
        (try simp only [Exit.inBlock, Exit.then]); refine bodyPost_ret (by simp [results, Tryd.results7, go_sem, *]; try rfl) rfl ?_
        exact ⟨rfl, by (repeat' (first | (with_reducible exact Below.refl _ _) | (refine Below.trans ?_ (Below.mono (by with_reducible assumption) ?_)) | (with_reducible exact Below.refl _ _) | (with_reducible refine below_drewN ?_ _) | (with_reducible refine Below.drew ?_) | (with_reducible refine Below.setCell ?_ ?_ _) | (with_reducible refine Below.alloc ?_ ?_ _) | (with_reducible assumption) | (simp; done) | (simp; omega) | omega))⟩
      · have d4 : decide (4096 < (m : Int)) = false := by simp; omega
        have h0 : 0 < m := by
          have := HBAD.out
          simp at this; omega
        have d0 : decide (0 < m) = true := decide_eq_true h0
        go_enter Tryd.func7, Tryd.ntmps7
        go_wp2_with (first
          | (go_at_call 13; (with_reducible refine (HW.out _).mono ?_); rintro e w1 ⟨rfl, rfl⟩)
          | (go_at_call 14; (with_reducible refine (shapes_any _).mono ?_); rintro e w2 ⟨rfl, rfl⟩)
          | (go_at_call 15; (with_reducible refine (HRC.out _).mono ?_); rintro e w1 ⟨rfl, rfl⟩)
          | (go_at_call 15; (with_reducible refine (HRN.out _).mono ?_); rintro e w1 ⟨rfl, rfl⟩)
          | fail)
        (try simp only [Exit.inBlock, Exit.then]); refine bodyPost_ret (by simp [results, Tryd.results7, go_sem, *]; try rfl) rfl ?_
        exact ⟨rfl, by (repeat' (first | (with_reducible exact Below.refl _ _) | (refine Below.trans ?_ (Below.mono (by with_reducible assumption) ?_)) | (with_reducible exact Below.refl _ _) | (with_reducible refine below_drewN ?_ _) | (with_reducible refine Below.drew ?_) | (with_reducible refine Below.setCell ?_ ?_ _) | (with_reducible refine Below.alloc ?_ ?_ _) | (with_reducible assumption) | (simp; done) | (simp; omega) | omega))⟩
set_option maxRecDepth 100000 in
set_option maxHeartbeats 3200000 in
theorem line_bad_cn {k : Nat} {L : List Nat} (hw : ∀ W, Calls Tryd.prog 13 #[.int .i64 (k : Int)] W fun e w' => e = .returned (.tuple #[.string (strN L), .bool true]) ∧ w' = W)
    (hlk : ∀ W : World, (Instr.lookup 46 (.map (some W.heap.size)) (.string (strN L)) false).run Tryd.prog (W.alloc shapesO) = .ok (.agg #[.int .i64 (k : Int), .bool true, .bool true, .bool false]) (W.alloc shapesO))
    (conn n : Int) (hc : I64s conn) (hn : I64s n) (A : Option Addr) (m cap : Nat) (hm : m ≤ maxLen) (hbad : ¬ (rightB conn true = true ∧ rightB n true = true ∧ m ≤ 4096 ∧ (false = true ∨ m = 0))) (w : World) :
    Calls Tryd.prog 7 #[.agg #[.int .i64 (k : Int), .int .i64 conn, .int .i64 n, .slice A m cap]] w fun e w' => e = .returned (.tuple #[.string { data := #[] }, .iface 43 (.int .i64 4)]) ∧ Below w.heap.size w w' := by
  have HW := Lib.hid hw
  have hrc := fun W => right_any conn hc true W
  have hrn := fun W => right_any n hn true W
  have hlk1 := hlk (w.alloc (.cells #[.int .i64 (k : Int), .int .i64 conn, .int .i64 n, .slice A m cap] 29))
  rw [show (w.alloc (.cells #[.int .i64 (k : Int), .int .i64 conn, .int .i64 n, .slice A m cap] 29)).heap.size = w.heap.size + 1 by simp] at hlk1
  unfold maxLen at hm
  clear hlk hw hc hn
  generalize rightB conn true = bc at hrc hbad
  generalize rightB n true = bn at hrn hbad
  have HRC := Lib.hid hrc
  have HRN := Lib.hid hrn
  have HBAD := Lib.hid hbad
  clear hrc hrn hbad
  cases bc
  · go_enter Tryd.func7, Tryd.ntmps7
    go_wp2_with (first
      | (go_at_call 13; (with_reducible refine (HW.out _).mono ?_); rintro e w1 ⟨rfl, rfl⟩)
      | (go_at_call 14; (with_reducible refine (shapes_any _).mono ?_); rintro e w2 ⟨rfl, rfl⟩)
      | (go_at_call 15; (with_reducible refine (HRC.out _).mono ?_); rintro e w1 ⟨rfl, rfl⟩)
      | (go_at_call 15; (with_reducible refine (HRN.out _).mono ?_); rintro e w1 ⟨rfl, rfl⟩)
      | fail)
    (try simp only [Exit.inBlock, Exit.then]); refine bodyPost_ret (by simp [results, Tryd.results7, go_sem, *]; try rfl) rfl ?_
    exact ⟨rfl, by (repeat' (first | (with_reducible exact Below.refl _ _) | (refine Below.trans ?_ (Below.mono (by with_reducible assumption) ?_)) | (with_reducible exact Below.refl _ _) | (with_reducible refine below_drewN ?_ _) | (with_reducible refine Below.drew ?_) | (with_reducible refine Below.setCell ?_ ?_ _) | (with_reducible refine Below.alloc ?_ ?_ _) | (with_reducible assumption) | (simp; done) | (simp; omega) | omega))⟩
  · cases bn
    · go_enter Tryd.func7, Tryd.ntmps7
      go_wp2_with (first
        | (go_at_call 13; (with_reducible refine (HW.out _).mono ?_); rintro e w1 ⟨rfl, rfl⟩)
        | (go_at_call 14; (with_reducible refine (shapes_any _).mono ?_); rintro e w2 ⟨rfl, rfl⟩)
        | (go_at_call 15; (with_reducible refine (HRC.out _).mono ?_); rintro e w1 ⟨rfl, rfl⟩)
        | (go_at_call 15; (with_reducible refine (HRN.out _).mono ?_); rintro e w1 ⟨rfl, rfl⟩)
        | fail)
      (try simp only [Exit.inBlock, Exit.then]); refine bodyPost_ret (by simp [results, Tryd.results7, go_sem, *]; try rfl) rfl ?_
      exact ⟨rfl, by (repeat' (first | (with_reducible exact Below.refl _ _) | (refine Below.trans ?_ (Below.mono (by with_reducible assumption) ?_)) | (with_reducible exact Below.refl _ _) | (with_reducible refine below_drewN ?_ _) | (with_reducible refine Below.drew ?_) | (with_reducible refine Below.setCell ?_ ?_ _) | (with_reducible refine Below.alloc ?_ ?_ _) | (with_reducible assumption) | (simp; done) | (simp; omega) | omega))⟩
    · by_cases h4 : 4096 < m
      · have d4 : decide (4096 < (m : Int)) = true := by simp; omega
        go_enter Tryd.func7, Tryd.ntmps7
        go_wp2_with (first
          | (go_at_call 13; (with_reducible refine (HW.out _).mono ?_); rintro e w1 ⟨rfl, rfl⟩)
          | (go_at_call 14; (with_reducible refine (shapes_any _).mono ?_); rintro e w2 ⟨rfl, rfl⟩)
          | (go_at_call 15; (with_reducible refine (HRC.out _).mono ?_); rintro e w1 ⟨rfl, rfl⟩)
          | (go_at_call 15; (with_reducible refine (HRN.out _).mono ?_); rintro e w1 ⟨rfl, rfl⟩)
          | fail)
        (try simp only [Exit.inBlock, Exit.then]); refine bodyPost_ret (by simp [results, Tryd.results7, go_sem, *]; try rfl) rfl ?_
        exact ⟨rfl, by (repeat' (first | (with_reducible exact Below.refl _ _) | (refine Below.trans ?_ (Below.mono (by with_reducible assumption) ?_)) | (with_reducible exact Below.refl _ _) | (with_reducible refine below_drewN ?_ _) | (with_reducible refine Below.drew ?_) | (with_reducible refine Below.setCell ?_ ?_ _) | (with_reducible refine Below.alloc ?_ ?_ _) | (with_reducible assumption) | (simp; done) | (simp; omega) | omega))⟩
      · have d4 : decide (4096 < (m : Int)) = false := by simp; omega
        have h0 : 0 < m := by
          have := HBAD.out
          simp at this; omega
        have d0 : decide (0 < m) = true := decide_eq_true h0
        go_enter Tryd.func7, Tryd.ntmps7
        go_wp2_with (first
          | (go_at_call 13; (with_reducible refine (HW.out _).mono ?_); rintro e w1 ⟨rfl, rfl⟩)
          | (go_at_call 14; (with_reducible refine (shapes_any _).mono ?_); rintro e w2 ⟨rfl, rfl⟩)
          | (go_at_call 15; (with_reducible refine (HRC.out _).mono ?_); rintro e w1 ⟨rfl, rfl⟩)
          | (go_at_call 15; (with_reducible refine (HRN.out _).mono ?_); rintro e w1 ⟨rfl, rfl⟩)
          | fail)
        (try simp only [Exit.inBlock, Exit.then]); refine bodyPost_ret (by simp [results, Tryd.results7, go_sem, *]; try rfl) rfl ?_
        exact ⟨rfl, by (repeat' (first | (with_reducible exact Below.refl _ _) | (refine Below.trans ?_ (Below.mono (by with_reducible assumption) ?_)) | (with_reducible exact Below.refl _ _) | (with_reducible refine below_drewN ?_ _) | (with_reducible refine Below.drew ?_) | (with_reducible refine Below.setCell ?_ ?_ _) | (with_reducible refine Below.alloc ?_ ?_ _) | (with_reducible assumption) | (simp; done) | (simp; omega) | omega))⟩
/-- Line of an event that may not be told. -/
theorem line_no (k conn n : Int) (hk : I64s k) (hc : I64s conn) (hn : I64s n) (A : Option Addr) (m cap : Nat) (hm : m ≤ maxLen)
    (hbad : ¬ (0 ≤ k ∧ k < 8 ∧ rightB conn (hasC k.toNat) = true ∧ rightB n (hasN k.toNat) = true ∧ m ≤ 4096 ∧ (hasT k.toNat = true ∨ m = 0))) (w : World) :
    Calls Tryd.prog 7 #[.agg #[.int .i64 k, .int .i64 conn, .int .i64 n, .slice A m cap]] w fun e w' => e = .returned (.tuple #[.string { data := #[] }, .iface 43 (.int .i64 4)]) ∧ Below w.heap.size w w' := by
  by_cases h : 0 ≤ k ∧ k < 8
  · obtain ⟨j, rfl⟩ : ∃ j : Nat, k = (j : Int) := ⟨k.toNat, by omega⟩
    have hj : j < 8 := by omega
    rw [Int.toNat_natCast] at hbad
    have hw := fun W => word_yes j hj W
    have hl := fun W => lk_shapes hj W
    have hb : ¬ (rightB conn (hasC j) = true ∧ rightB n (hasN j) = true ∧ m ≤ 4096 ∧ (hasT j = true ∨ m = 0)) := fun h2 => hbad ⟨by omega, by omega, h2⟩
    rcases kinds hj with rfl | rfl | rfl | rfl | rfl | rfl | rfl | rfl
    · exact line_bad_n hw hl conn n hc hn A m cap hm hb w
    · exact line_bad_ct hw hl conn n hc hn A m cap hm hb w
    · exact line_bad_c hw hl conn n hc hn A m cap hm hb w
    · exact line_bad_c hw hl conn n hc hn A m cap hm hb w
    · exact line_bad_cn hw hl conn n hc hn A m cap hm hb w
    · exact line_bad_cn hw hl conn n hc hn A m cap hm hb w
    · exact line_bad_c hw hl conn n hc hn A m cap hm hb w
    · exact line_bad_n hw hl conn n hc hn A m cap hm hb w
  · exact line_kind k conn n h _ A m cap rfl w
end Go.Proofs.YtanbplnagcmlcaaDoor
