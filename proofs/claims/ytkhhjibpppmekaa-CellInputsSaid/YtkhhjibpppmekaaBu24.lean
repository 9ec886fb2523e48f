/- Several texts put together: LawT. -/
import Derived.Test.YtkhhjibpppmekaaBu22
import Derived.Test.YtkhhjibpppmekaaBu9
import Derived.Test.YtkhhjibpppmekaaBu23
/- fieldfarelaw09.CellInputs: the walk. -/
namespace Go.Proofs.Ytkhhjibpppmekaa
open Go.RowKit
set_option maxRecDepth 100000 in
set_option maxHeartbeats 3200000 in
theorem cinputs_x {bs : List Nat} {S : ByteArray} (hS : S.size ≤ 200) {k : Int} {an : Bool} {ah al : Int} {pn : Bool} {ph pl c : Int} {lk : Bool} {er : Value}
    (hcas : (k = 3 ∧ lk = true ∧ er = .nilIface) ∨ (k = 2 ∧ an = false ∧ ah = 0 ∧ al = 0 ∧ lk = false) ∨ (k = 2 ∧ an = false ∧ ah = 0 ∧ al = 0 ∧ lk = true ∧ er = .iface 83 (.int .i64 2)))
    (IN0 : ∀ W, Calls Try.prog 23 #[.string S] W fun e w' => e = .returned (.agg #[.int .i64 k, .string S, .bool an, .int .u64 ah, .int .u64 al]) ∧ Below W.heap.size W w')
    (N10 : ∀ W, Calls Try.prog 34 #[.agg #[.int .i64 k, .string S, .bool an, .int .u64 ah, .int .u64 al]] W fun e w' => e = .returned (.tuple #[.agg #[.bool pn, .int .u64 ph, .int .u64 pl], er]) ∧ Below W.heap.size W w')
    (N20 : ∀ W, Calls Try.prog 34 #[.agg #[.int .i64 2, .string S, .bool false, .int .u64 0, .int .u64 0]] W fun e w' => e = .returned (.tuple #[.agg #[.bool pn, .int .u64 ph, .int .u64 pl], er]) ∧ Below W.heap.size W w')
    (S10 : ∀ W, Calls Try.prog 30 #[.agg #[.int .i64 k, .string S, .bool an, .int .u64 ah, .int .u64 al]] W fun e w' => e = .returned (.string S) ∧ Below W.heap.size W w')
    (S20 : ∀ W, Calls Try.prog 30 #[.agg #[.int .i64 2, .string S, .bool false, .int .u64 0, .int .u64 0]] W fun e w' => e = .returned (.string S) ∧ Below W.heap.size W w')
    (Z10 : ∀ W, Calls Try.prog 33 #[.agg #[.int .i64 k, .string S, .bool an, .int .u64 ah, .int .u64 al]] W fun e w' => e = .returned (.int .i64 (16 + (S.size : Int))) ∧ Below W.heap.size W w')
    (Z20 : ∀ W, Calls Try.prog 33 #[.agg #[.int .i64 2, .string S, .bool false, .int .u64 0, .int .u64 0]] W fun e w' => e = .returned (.int .i64 (16 + (S.size : Int))) ∧ Below W.heap.size W w')
    (CO0 : ∀ W, Calls Try.prog 16 #[er] W fun e w' => e = .returned (.int .i64 c) ∧ Below W.heap.size W w')
    (LK0 : ∀ W A c, RB W W.heap.size A bs → bs.length ≤ c → Calls Try.prog 35 #[.slice A bs.length c] W fun e w' => e = .returned (.bool lk) ∧ Below W.heap.size W w')
    (CV0 : ∀ W, ∃ (c : Nat) (C : Array Value) (f : Nat × Nat), (convert 9 62 (.string S)).run Try.prog W = .ok (.slice (some ⟨W.heap.size, 0, none⟩) bs.length c) ((W.alloc (.cells C 5 f)).drew) ∧ SB ((W.alloc (.cells C 5 f)).drew) W.heap.size c bs) (w : World) :
    Calls Try.prog 9 #[.string S] w fun e w' => e = .returned (.bool true) ∧ Below w.heap.size w w' := by
  have IN := Lib.hid IN0; have N1 := Lib.hid N10; have N2 := Lib.hid N20; have S1 := Lib.hid S10; have S2 := Lib.hid S20; have Z1 := Lib.hid Z10; have Z2 := Lib.hid Z20; have CO := Lib.hid CO0; have LK := Lib.hid LK0; have CW := Lib.hid CV0
  have TX := Lib.hid (fun W => ctext_any S W)
  have HC := Lib.hid hcas
  clear IN0 N10 N20 S10 S20 Z10 Z20 CO0 LK0 CV0 hcas
  go_enter Try.func9, Try.ntmps9
  go_upto_region 6 with (first
      | (go_at_call 20; (with_reducible refine (awake9_any _).mono ?_); rintro e w1 ⟨rfl, b1⟩; have z1 := Below.size b1; (try simp at z1))
      | (go_at_call 23; (with_reducible refine (IN.out _).mono ?_); rintro e w2 ⟨rfl, b2⟩; have z2 := Below.size b2; (try simp at z2))
      | (go_at_call 22; (with_reducible refine (TX.out _).mono ?_); rintro e w3 ⟨rfl, b3⟩; have z3 := Below.size b3; (try simp at z3)))
  have b5a := (Box5.make w3 (.int .i64 k) (.string S) (.bool an) (.int .u64 ah) (.int .u64 al) 41 rfl).alloc (.cells #[.int .i64 2, .string S, .bool false, .int .u64 0, .int .u64 0] 41)
  have b5b := Box5.make (w3.alloc (.cells #[.int .i64 k, .string S, .bool an, .int .u64 ah, .int .u64 al] 41)) (.int .i64 2) (.string S) (.bool false) (.int .u64 0) (.int .u64 0) 41 (g := w3.heap.size + 1) (by simp)
  have HB : Below w.heap.size w ((w3.alloc (.cells #[.int .i64 k, .string S, .bool an, .int .u64 ah, .int .u64 al] 41)).alloc (.cells #[.int .i64 2, .string S, .bool false, .int .u64 0, .int .u64 0] 41)) := by (repeat' (first | (with_reducible exact Below.refl _ _) | (refine Below.trans ?_ (Below.mono (by with_reducible assumption) ?_)) | (with_reducible exact Below.refl _ _) | (with_reducible refine below_drewN ?_ _) | (with_reducible refine Below.drew ?_) | (with_reducible refine Below.setCell ?_ ?_ _) | (with_reducible refine Below.alloc ?_ ?_ _) | (with_reducible assumption) | (simp; done) | (simp; omega) | omega))
  obtain ⟨w5, hw5⟩ : ∃ x, x = (w3.alloc (.cells #[.int .i64 k, .string S, .bool an, .int .u64 ah, .int .u64 al] 41)).alloc (.cells #[.int .i64 2, .string S, .bool false, .int .u64 0, .int .u64 0] 41) := ⟨_, rfl⟩; rw [← hw5]
  rw [← hw5] at b5a b5b HB
  clear hw5
  have b5a_5 := Lib.hid (b5a); have b5a_50 := b5a_5.out.c0; have b5a_51 := b5a_5.out.c1; have b5a_52 := b5a_5.out.c2; have b5a_53 := b5a_5.out.c3; have b5a_54 := b5a_5.out.c4; have b5a_5f0 := b5a_5.out.f0; have b5a_5f1 := b5a_5.out.f1; have b5a_5f2 := b5a_5.out.f2; have b5a_5f3 := b5a_5.out.f3; have b5a_5f4 := b5a_5.out.f4; have b5a_5z := b5a_5.out.z
  have b5b_5 := Lib.hid (b5b); have b5b_50 := b5b_5.out.c0; have b5b_51 := b5b_5.out.c1; have b5b_52 := b5b_5.out.c2; have b5b_53 := b5b_5.out.c3; have b5b_54 := b5b_5.out.c4; have b5b_5f0 := b5b_5.out.f0; have b5b_5f1 := b5b_5.out.f1; have b5b_5f2 := b5b_5.out.f2; have b5b_5f3 := b5b_5.out.f3; have b5b_5f4 := b5b_5.out.f4; have b5b_5z := b5b_5.out.z
  have HB5 := Lib.hid HB
  clear b5a b5b HB b1 b2 b3 IN TX
  go_upto_region 8 with (first
      | (go_at_call 34; (with_reducible refine (N1.out _).mono ?_); rintro e w6 ⟨rfl, b6⟩; have p6 : Below w5.heap.size w5 w6 := Below.trans (by repeat' (first | (with_reducible assumption) | (with_reducible exact Below.refl _ _) | (with_reducible refine Below.drew ?_) | (with_reducible refine below_drewN ?_ _) | (with_reducible refine Below.alloc ?_ ?_ _) | (with_reducible exact Nat.le_refl _) | (simp; done) | (simp; omega) | omega)) (Below.mono b6 (by first | omega | (simp; done) | (simp; omega))); have b5a_6 := Lib.hid (Box5.below b5a_5.out p6); have b5a_60 := b5a_6.out.c0; have b5a_61 := b5a_6.out.c1; have b5a_62 := b5a_6.out.c2; have b5a_63 := b5a_6.out.c3; have b5a_64 := b5a_6.out.c4; have b5a_6f0 := b5a_6.out.f0; have b5a_6f1 := b5a_6.out.f1; have b5a_6f2 := b5a_6.out.f2; have b5a_6f3 := b5a_6.out.f3; have b5a_6f4 := b5a_6.out.f4; have b5a_6z := b5a_6.out.z; have b5b_6 := Lib.hid (Box5.below b5b_5.out p6); have b5b_60 := b5b_6.out.c0; have b5b_61 := b5b_6.out.c1; have b5b_62 := b5b_6.out.c2; have b5b_63 := b5b_6.out.c3; have b5b_64 := b5b_6.out.c4; have b5b_6f0 := b5b_6.out.f0; have b5b_6f1 := b5b_6.out.f1; have b5b_6f2 := b5b_6.out.f2; have b5b_6f3 := b5b_6.out.f3; have b5b_6f4 := b5b_6.out.f4; have b5b_6z := b5b_6.out.z)
      | (go_at_call 34; (with_reducible refine (N2.out _).mono ?_); rintro e w7 ⟨rfl, b7⟩; have p7 : Below w6.heap.size w6 w7 := Below.trans (by repeat' (first | (with_reducible assumption) | (with_reducible exact Below.refl _ _) | (with_reducible refine Below.drew ?_) | (with_reducible refine below_drewN ?_ _) | (with_reducible refine Below.alloc ?_ ?_ _) | (with_reducible exact Nat.le_refl _) | (simp; done) | (simp; omega) | omega)) (Below.mono b7 (by first | omega | (simp; done) | (simp; omega))); have b5a_7 := Lib.hid (Box5.below b5a_6.out p7); have b5a_70 := b5a_7.out.c0; have b5a_71 := b5a_7.out.c1; have b5a_72 := b5a_7.out.c2; have b5a_73 := b5a_7.out.c3; have b5a_74 := b5a_7.out.c4; have b5a_7f0 := b5a_7.out.f0; have b5a_7f1 := b5a_7.out.f1; have b5a_7f2 := b5a_7.out.f2; have b5a_7f3 := b5a_7.out.f3; have b5a_7f4 := b5a_7.out.f4; have b5a_7z := b5a_7.out.z; have b5b_7 := Lib.hid (Box5.below b5b_6.out p7); have b5b_70 := b5b_7.out.c0; have b5b_71 := b5b_7.out.c1; have b5b_72 := b5b_7.out.c2; have b5b_73 := b5b_7.out.c3; have b5b_74 := b5b_7.out.c4; have b5b_7f0 := b5b_7.out.f0; have b5b_7f1 := b5b_7.out.f1; have b5b_7f2 := b5b_7.out.f2; have b5b_7f3 := b5b_7.out.f3; have b5b_7f4 := b5b_7.out.f4; have b5b_7z := b5b_7.out.z; have b3p_7 := Lib.hid ((Box3.make w6 (.bool pn) (.int .u64 ph) (.int .u64 pl) 24 rfl).below b7); have b3p_70 := b3p_7.out.c0; have b3p_71 := b3p_7.out.c1; have b3p_72 := b3p_7.out.c2; have b3p_7f0 := b3p_7.out.f0; have b3p_7f1 := b3p_7.out.f1; have b3p_7f2 := b3p_7.out.f2; have b3p_7z := b3p_7.out.z))
  have p8 : Below w7.heap.size w7 (w7.alloc (.cells #[.bool pn, .int .u64 ph, .int .u64 pl] 24)) := (Below.refl _ _).alloc (Nat.le_refl _) _
  have bq := Box3.make w7 (.bool pn) (.int .u64 ph) (.int .u64 pl) 24 rfl
  obtain ⟨w8, hw8⟩ : ∃ x, x = w7.alloc (.cells #[.bool pn, .int .u64 ph, .int .u64 pl] 24) := ⟨_, rfl⟩; rw [← hw8]
  rw [← hw8] at p8 bq
  clear hw8
  have b5a_8 := Lib.hid (Box5.below b5a_7.out p8); have b5a_80 := b5a_8.out.c0; have b5a_81 := b5a_8.out.c1; have b5a_82 := b5a_8.out.c2; have b5a_83 := b5a_8.out.c3; have b5a_84 := b5a_8.out.c4; have b5a_8f0 := b5a_8.out.f0; have b5a_8f1 := b5a_8.out.f1; have b5a_8f2 := b5a_8.out.f2; have b5a_8f3 := b5a_8.out.f3; have b5a_8f4 := b5a_8.out.f4; have b5a_8z := b5a_8.out.z; have b5b_8 := Lib.hid (Box5.below b5b_7.out p8); have b5b_80 := b5b_8.out.c0; have b5b_81 := b5b_8.out.c1; have b5b_82 := b5b_8.out.c2; have b5b_83 := b5b_8.out.c3; have b5b_84 := b5b_8.out.c4; have b5b_8f0 := b5b_8.out.f0; have b5b_8f1 := b5b_8.out.f1; have b5b_8f2 := b5b_8.out.f2; have b5b_8f3 := b5b_8.out.f3; have b5b_8f4 := b5b_8.out.f4; have b5b_8z := b5b_8.out.z; have b3p_8 := Lib.hid (Box3.below b3p_7.out p8); have b3p_80 := b3p_8.out.c0; have b3p_81 := b3p_8.out.c1; have b3p_82 := b3p_8.out.c2; have b3p_8f0 := b3p_8.out.f0; have b3p_8f1 := b3p_8.out.f1; have b3p_8f2 := b3p_8.out.f2; have b3p_8z := b3p_8.out.z
  have b3q_8 := Lib.hid (bq); have b3q_80 := b3q_8.out.c0; have b3q_81 := b3q_8.out.c1; have b3q_82 := b3q_8.out.c2; have b3q_8f0 := b3q_8.out.f0; have b3q_8f1 := b3q_8.out.f1; have b3q_8f2 := b3q_8.out.f2; have b3q_8z := b3q_8.out.z
  have z5 := HB5.out.size
  have HB8 := Lib.hid (HB5.out.trans (Below.trans (p6.mono z5) (Below.trans (p7.mono (Nat.le_trans z5 p6.size)) (p8.mono (Nat.le_trans (Nat.le_trans z5 p6.size) p7.size)))))
  clear b5a_5 b5a_5z b5a_50 b5a_51 b5a_52 b5a_53 b5a_54 b5a_5f0 b5a_5f1 b5a_5f2 b5a_5f3 b5a_5f4 b5b_5 b5b_5z b5b_50 b5b_51 b5b_52 b5b_53 b5b_54 b5b_5f0 b5b_5f1 b5b_5f2 b5b_5f3 b5b_5f4 b5a_6 b5a_6z b5a_60 b5a_61 b5a_62 b5a_63 b5a_64 b5a_6f0 b5a_6f1 b5a_6f2 b5a_6f3 b5a_6f4 b5b_6 b5b_6z b5b_60 b5b_61 b5b_62 b5b_63 b5b_64 b5b_6f0 b5b_6f1 b5b_6f2 b5b_6f3 b5b_6f4 b5a_7 b5a_7z b5a_70 b5a_71 b5a_72 b5a_73 b5a_74 b5a_7f0 b5a_7f1 b5a_7f2 b5a_7f3 b5a_7f4 b5b_7 b5b_7z b5b_70 b5b_71 b5b_72 b5b_73 b5b_74 b5b_7f0 b5b_7f1 b5b_7f2 b5b_7f3 b5b_7f4
  clear b3p_7 b3p_7z b3p_70 b3p_71 b3p_72 b3p_7f0 b3p_7f1 b3p_7f2
  clear b6 b7 p6 p7 p8 bq HB5 z5 N1 N2
  have e1 : (c != c) = false := by simp
  have e2 : ((16 + (S.size : Int)) != 16 + (S.size : Int)) = false := by simp
  have W3 : w3.heap.size + 1 < w8.heap.size := by omega
  go_region_held3 (fun w' => w'.cell? ⟨w3.heap.size, 0, none⟩ = some (.int .i64 k) ∧ w'.cell? ⟨w3.heap.size, 1, none⟩ = some (.string S) ∧ w'.cell? ⟨w3.heap.size, 2, none⟩ = some (.bool an) ∧ w'.cell? ⟨w3.heap.size, 3, none⟩ = some (.int .u64 ah) ∧ w'.cell? ⟨w3.heap.size, 4, none⟩ = some (.int .u64 al) ∧ w'.cell? ⟨w3.heap.size + 1, 0, none⟩ = some (.int .i64 2) ∧ w'.cell? ⟨w3.heap.size + 1, 1, none⟩ = some (.string S) ∧ w'.cell? ⟨w3.heap.size + 1, 2, none⟩ = some (.bool false) ∧ w'.cell? ⟨w3.heap.size + 1, 3, none⟩ = some (.int .u64 0) ∧ w'.cell? ⟨w3.heap.size + 1, 4, none⟩ = some (.int .u64 0) ∧ w'.cell? ⟨w6.heap.size, 0, none⟩ = some (.bool pn) ∧ w'.cell? ⟨w6.heap.size, 1, none⟩ = some (.int .u64 ph) ∧ w'.cell? ⟨w6.heap.size, 2, none⟩ = some (.int .u64 pl) ∧ w'.cell? ⟨w7.heap.size, 0, none⟩ = some (.bool pn) ∧ w'.cell? ⟨w7.heap.size, 1, none⟩ = some (.int .u64 ph) ∧ w'.cell? ⟨w7.heap.size, 2, none⟩ = some (.int .u64 pl)) ((and_intros <;> (first | (with_reducible assumption) | (go_simp; done) | (simp (maxDischargeDepth := 12) [go_sem]; done) | (simp (maxDischargeDepth := 12) [go_sem, *]; done) | exact (Below.cell (by with_reducible assumption) (by first | (simp; done) | (simp; omega) | omega)).trans (by simp (maxDischargeDepth := 12) [go_sem]))))
    (first
      | (go_at_call 30; (with_reducible refine (S1.out _).mono ?_); rintro e w9 ⟨rfl, b9⟩; have p9 : Below w8.heap.size w8 w9 := Below.trans (by repeat' (first | (with_reducible assumption) | (with_reducible exact Below.refl _ _) | (with_reducible refine Below.drew ?_) | (with_reducible refine below_drewN ?_ _) | (with_reducible refine Below.alloc ?_ ?_ _) | (with_reducible exact Nat.le_refl _) | (simp; done) | (simp; omega) | omega)) (Below.mono b9 (by first | omega | (simp; done) | (simp; omega))); have b5a_9 := Lib.hid (Box5.below b5a_8.out p9); have b5a_90 := b5a_9.out.c0; have b5a_91 := b5a_9.out.c1; have b5a_92 := b5a_9.out.c2; have b5a_93 := b5a_9.out.c3; have b5a_94 := b5a_9.out.c4; have b5a_9f0 := b5a_9.out.f0; have b5a_9f1 := b5a_9.out.f1; have b5a_9f2 := b5a_9.out.f2; have b5a_9f3 := b5a_9.out.f3; have b5a_9f4 := b5a_9.out.f4; have b5a_9z := b5a_9.out.z; have b5b_9 := Lib.hid (Box5.below b5b_8.out p9); have b5b_90 := b5b_9.out.c0; have b5b_91 := b5b_9.out.c1; have b5b_92 := b5b_9.out.c2; have b5b_93 := b5b_9.out.c3; have b5b_94 := b5b_9.out.c4; have b5b_9f0 := b5b_9.out.f0; have b5b_9f1 := b5b_9.out.f1; have b5b_9f2 := b5b_9.out.f2; have b5b_9f3 := b5b_9.out.f3; have b5b_9f4 := b5b_9.out.f4; have b5b_9z := b5b_9.out.z; have b3p_9 := Lib.hid (Box3.below b3p_8.out p9); have b3p_90 := b3p_9.out.c0; have b3p_91 := b3p_9.out.c1; have b3p_92 := b3p_9.out.c2; have b3p_9f0 := b3p_9.out.f0; have b3p_9f1 := b3p_9.out.f1; have b3p_9f2 := b3p_9.out.f2; have b3p_9z := b3p_9.out.z; have b3q_9 := Lib.hid (Box3.below b3q_8.out p9); have b3q_90 := b3q_9.out.c0; have b3q_91 := b3q_9.out.c1; have b3q_92 := b3q_9.out.c2; have b3q_9f0 := b3q_9.out.f0; have b3q_9f1 := b3q_9.out.f1; have b3q_9f2 := b3q_9.out.f2; have b3q_9z := b3q_9.out.z)
      | (go_at_call 30; (with_reducible refine (S2.out _).mono ?_); rintro e w10 ⟨rfl, b10⟩; have p10 : Below w9.heap.size w9 w10 := Below.trans (by repeat' (first | (with_reducible assumption) | (with_reducible exact Below.refl _ _) | (with_reducible refine Below.drew ?_) | (with_reducible refine below_drewN ?_ _) | (with_reducible refine Below.alloc ?_ ?_ _) | (with_reducible exact Nat.le_refl _) | (simp; done) | (simp; omega) | omega)) (Below.mono b10 (by first | omega | (simp; done) | (simp; omega))); have b5a_10 := Lib.hid (Box5.below b5a_9.out p10); have b5a_100 := b5a_10.out.c0; have b5a_101 := b5a_10.out.c1; have b5a_102 := b5a_10.out.c2; have b5a_103 := b5a_10.out.c3; have b5a_104 := b5a_10.out.c4; have b5a_10f0 := b5a_10.out.f0; have b5a_10f1 := b5a_10.out.f1; have b5a_10f2 := b5a_10.out.f2; have b5a_10f3 := b5a_10.out.f3; have b5a_10f4 := b5a_10.out.f4; have b5a_10z := b5a_10.out.z; have b5b_10 := Lib.hid (Box5.below b5b_9.out p10); have b5b_100 := b5b_10.out.c0; have b5b_101 := b5b_10.out.c1; have b5b_102 := b5b_10.out.c2; have b5b_103 := b5b_10.out.c3; have b5b_104 := b5b_10.out.c4; have b5b_10f0 := b5b_10.out.f0; have b5b_10f1 := b5b_10.out.f1; have b5b_10f2 := b5b_10.out.f2; have b5b_10f3 := b5b_10.out.f3; have b5b_10f4 := b5b_10.out.f4; have b5b_10z := b5b_10.out.z; have b3p_10 := Lib.hid (Box3.below b3p_9.out p10); have b3p_100 := b3p_10.out.c0; have b3p_101 := b3p_10.out.c1; have b3p_102 := b3p_10.out.c2; have b3p_10f0 := b3p_10.out.f0; have b3p_10f1 := b3p_10.out.f1; have b3p_10f2 := b3p_10.out.f2; have b3p_10z := b3p_10.out.z; have b3q_10 := Lib.hid (Box3.below b3q_9.out p10); have b3q_100 := b3q_10.out.c0; have b3q_101 := b3q_10.out.c1; have b3q_102 := b3q_10.out.c2; have b3q_10f0 := b3q_10.out.f0; have b3q_10f1 := b3q_10.out.f1; have b3q_10f2 := b3q_10.out.f2; have b3q_10z := b3q_10.out.z)
      | (go_at_call 16; (with_reducible refine (CO.out _).mono ?_); rintro e w12 ⟨rfl, b12⟩; have p12 : Below w11.heap.size w11 w12 := Below.trans (by repeat' (first | (with_reducible assumption) | (with_reducible exact Below.refl _ _) | (with_reducible refine Below.drew ?_) | (with_reducible refine below_drewN ?_ _) | (with_reducible refine Below.alloc ?_ ?_ _) | (with_reducible exact Nat.le_refl _) | (simp; done) | (simp; omega) | omega)) (Below.mono b12 (by first | omega | (simp; done) | (simp; omega))); have b5a_12 := Lib.hid (Box5.below b5a_11.out p12); have b5a_120 := b5a_12.out.c0; have b5a_121 := b5a_12.out.c1; have b5a_122 := b5a_12.out.c2; have b5a_123 := b5a_12.out.c3; have b5a_124 := b5a_12.out.c4; have b5a_12f0 := b5a_12.out.f0; have b5a_12f1 := b5a_12.out.f1; have b5a_12f2 := b5a_12.out.f2; have b5a_12f3 := b5a_12.out.f3; have b5a_12f4 := b5a_12.out.f4; have b5a_12z := b5a_12.out.z; have b5b_12 := Lib.hid (Box5.below b5b_11.out p12); have b5b_120 := b5b_12.out.c0; have b5b_121 := b5b_12.out.c1; have b5b_122 := b5b_12.out.c2; have b5b_123 := b5b_12.out.c3; have b5b_124 := b5b_12.out.c4; have b5b_12f0 := b5b_12.out.f0; have b5b_12f1 := b5b_12.out.f1; have b5b_12f2 := b5b_12.out.f2; have b5b_12f3 := b5b_12.out.f3; have b5b_12f4 := b5b_12.out.f4; have b5b_12z := b5b_12.out.z; have b3p_12 := Lib.hid (Box3.below b3p_11.out p12); have b3p_120 := b3p_12.out.c0; have b3p_121 := b3p_12.out.c1; have b3p_122 := b3p_12.out.c2; have b3p_12f0 := b3p_12.out.f0; have b3p_12f1 := b3p_12.out.f1; have b3p_12f2 := b3p_12.out.f2; have b3p_12z := b3p_12.out.z; have b3q_12 := Lib.hid (Box3.below b3q_11.out p12); have b3q_120 := b3q_12.out.c0; have b3q_121 := b3q_12.out.c1; have b3q_122 := b3q_12.out.c2; have b3q_12f0 := b3q_12.out.f0; have b3q_12f1 := b3q_12.out.f1; have b3q_12f2 := b3q_12.out.f2; have b3q_12z := b3q_12.out.z)
      | (go_at_call 16; (with_reducible refine (CO.out _).mono ?_); rintro e w11 ⟨rfl, b11⟩; have p11 : Below w10.heap.size w10 w11 := Below.trans (by repeat' (first | (with_reducible assumption) | (with_reducible exact Below.refl _ _) | (with_reducible refine Below.drew ?_) | (with_reducible refine below_drewN ?_ _) | (with_reducible refine Below.alloc ?_ ?_ _) | (with_reducible exact Nat.le_refl _) | (simp; done) | (simp; omega) | omega)) (Below.mono b11 (by first | omega | (simp; done) | (simp; omega))); have b5a_11 := Lib.hid (Box5.below b5a_10.out p11); have b5a_110 := b5a_11.out.c0; have b5a_111 := b5a_11.out.c1; have b5a_112 := b5a_11.out.c2; have b5a_113 := b5a_11.out.c3; have b5a_114 := b5a_11.out.c4; have b5a_11f0 := b5a_11.out.f0; have b5a_11f1 := b5a_11.out.f1; have b5a_11f2 := b5a_11.out.f2; have b5a_11f3 := b5a_11.out.f3; have b5a_11f4 := b5a_11.out.f4; have b5a_11z := b5a_11.out.z; have b5b_11 := Lib.hid (Box5.below b5b_10.out p11); have b5b_110 := b5b_11.out.c0; have b5b_111 := b5b_11.out.c1; have b5b_112 := b5b_11.out.c2; have b5b_113 := b5b_11.out.c3; have b5b_114 := b5b_11.out.c4; have b5b_11f0 := b5b_11.out.f0; have b5b_11f1 := b5b_11.out.f1; have b5b_11f2 := b5b_11.out.f2; have b5b_11f3 := b5b_11.out.f3; have b5b_11f4 := b5b_11.out.f4; have b5b_11z := b5b_11.out.z; have b3p_11 := Lib.hid (Box3.below b3p_10.out p11); have b3p_110 := b3p_11.out.c0; have b3p_111 := b3p_11.out.c1; have b3p_112 := b3p_11.out.c2; have b3p_11f0 := b3p_11.out.f0; have b3p_11f1 := b3p_11.out.f1; have b3p_11f2 := b3p_11.out.f2; have b3p_11z := b3p_11.out.z; have b3q_11 := Lib.hid (Box3.below b3q_10.out p11); have b3q_110 := b3q_11.out.c0; have b3q_111 := b3q_11.out.c1; have b3q_112 := b3q_11.out.c2; have b3q_11f0 := b3q_11.out.f0; have b3q_11f1 := b3q_11.out.f1; have b3q_11f2 := b3q_11.out.f2; have b3q_11z := b3q_11.out.z)
      | (go_at_call 33; (with_reducible refine (Z2.out _).mono ?_); rintro e w14 ⟨rfl, b14⟩; have p14 : Below w13.heap.size w13 w14 := Below.trans (by repeat' (first | (with_reducible assumption) | (with_reducible exact Below.refl _ _) | (with_reducible refine Below.drew ?_) | (with_reducible refine below_drewN ?_ _) | (with_reducible refine Below.alloc ?_ ?_ _) | (with_reducible exact Nat.le_refl _) | (simp; done) | (simp; omega) | omega)) (Below.mono b14 (by first | omega | (simp; done) | (simp; omega))); have b5a_14 := Lib.hid (Box5.below b5a_13.out p14); have b5a_140 := b5a_14.out.c0; have b5a_141 := b5a_14.out.c1; have b5a_142 := b5a_14.out.c2; have b5a_143 := b5a_14.out.c3; have b5a_144 := b5a_14.out.c4; have b5a_14f0 := b5a_14.out.f0; have b5a_14f1 := b5a_14.out.f1; have b5a_14f2 := b5a_14.out.f2; have b5a_14f3 := b5a_14.out.f3; have b5a_14f4 := b5a_14.out.f4; have b5a_14z := b5a_14.out.z; have b5b_14 := Lib.hid (Box5.below b5b_13.out p14); have b5b_140 := b5b_14.out.c0; have b5b_141 := b5b_14.out.c1; have b5b_142 := b5b_14.out.c2; have b5b_143 := b5b_14.out.c3; have b5b_144 := b5b_14.out.c4; have b5b_14f0 := b5b_14.out.f0; have b5b_14f1 := b5b_14.out.f1; have b5b_14f2 := b5b_14.out.f2; have b5b_14f3 := b5b_14.out.f3; have b5b_14f4 := b5b_14.out.f4; have b5b_14z := b5b_14.out.z; have b3p_14 := Lib.hid (Box3.below b3p_13.out p14); have b3p_140 := b3p_14.out.c0; have b3p_141 := b3p_14.out.c1; have b3p_142 := b3p_14.out.c2; have b3p_14f0 := b3p_14.out.f0; have b3p_14f1 := b3p_14.out.f1; have b3p_14f2 := b3p_14.out.f2; have b3p_14z := b3p_14.out.z; have b3q_14 := Lib.hid (Box3.below b3q_13.out p14); have b3q_140 := b3q_14.out.c0; have b3q_141 := b3q_14.out.c1; have b3q_142 := b3q_14.out.c2; have b3q_14f0 := b3q_14.out.f0; have b3q_14f1 := b3q_14.out.f1; have b3q_14f2 := b3q_14.out.f2; have b3q_14z := b3q_14.out.z)
      | (go_at_call 33; (with_reducible refine (Z1.out _).mono ?_); rintro e w13 ⟨rfl, b13⟩; have p13 : Below w12.heap.size w12 w13 := Below.trans (by repeat' (first | (with_reducible assumption) | (with_reducible exact Below.refl _ _) | (with_reducible refine Below.drew ?_) | (with_reducible refine below_drewN ?_ _) | (with_reducible refine Below.alloc ?_ ?_ _) | (with_reducible exact Nat.le_refl _) | (simp; done) | (simp; omega) | omega)) (Below.mono b13 (by first | omega | (simp; done) | (simp; omega))); have b5a_13 := Lib.hid (Box5.below b5a_12.out p13); have b5a_130 := b5a_13.out.c0; have b5a_131 := b5a_13.out.c1; have b5a_132 := b5a_13.out.c2; have b5a_133 := b5a_13.out.c3; have b5a_134 := b5a_13.out.c4; have b5a_13f0 := b5a_13.out.f0; have b5a_13f1 := b5a_13.out.f1; have b5a_13f2 := b5a_13.out.f2; have b5a_13f3 := b5a_13.out.f3; have b5a_13f4 := b5a_13.out.f4; have b5a_13z := b5a_13.out.z; have b5b_13 := Lib.hid (Box5.below b5b_12.out p13); have b5b_130 := b5b_13.out.c0; have b5b_131 := b5b_13.out.c1; have b5b_132 := b5b_13.out.c2; have b5b_133 := b5b_13.out.c3; have b5b_134 := b5b_13.out.c4; have b5b_13f0 := b5b_13.out.f0; have b5b_13f1 := b5b_13.out.f1; have b5b_13f2 := b5b_13.out.f2; have b5b_13f3 := b5b_13.out.f3; have b5b_13f4 := b5b_13.out.f4; have b5b_13z := b5b_13.out.z; have b3p_13 := Lib.hid (Box3.below b3p_12.out p13); have b3p_130 := b3p_13.out.c0; have b3p_131 := b3p_13.out.c1; have b3p_132 := b3p_13.out.c2; have b3p_13f0 := b3p_13.out.f0; have b3p_13f1 := b3p_13.out.f1; have b3p_13f2 := b3p_13.out.f2; have b3p_13z := b3p_13.out.z; have b3q_13 := Lib.hid (Box3.below b3q_12.out p13); have b3q_130 := b3q_13.out.c0; have b3q_131 := b3q_13.out.c1; have b3q_132 := b3q_13.out.c2; have b3q_13f0 := b3q_13.out.f0; have b3q_13f1 := b3q_13.out.f1; have b3q_13f2 := b3q_13.out.f2; have b3q_13z := b3q_13.out.z))
  go_upto_region 10 with fail
  have HB14 := Lib.hid (below_step (below_step (below_step (below_step (below_step (below_step HB8.out p9) p10) p11) p12) p13) p14)
  clear b5a_8 b5a_8z b5a_80 b5a_81 b5a_82 b5a_83 b5a_84 b5a_8f0 b5a_8f1 b5a_8f2 b5a_8f3 b5a_8f4 b5b_8 b5b_8z b5b_80 b5b_81 b5b_82 b5b_83 b5b_84 b5b_8f0 b5b_8f1 b5b_8f2 b5b_8f3 b5b_8f4 b3p_8 b3p_8z b3p_80 b3p_81 b3p_82 b3p_8f0 b3p_8f1 b3p_8f2 b3q_8 b3q_8z b3q_80 b3q_81 b3q_82 b3q_8f0 b3q_8f1 b3q_8f2 b5a_9 b5a_9z b5a_90 b5a_91 b5a_92 b5a_93 b5a_94 b5a_9f0 b5a_9f1 b5a_9f2 b5a_9f3 b5a_9f4 b5b_9 b5b_9z b5b_90 b5b_91 b5b_92 b5b_93 b5b_94 b5b_9f0 b5b_9f1 b5b_9f2 b5b_9f3 b5b_9f4 b3p_9 b3p_9z b3p_90 b3p_91 b3p_92 b3p_9f0 b3p_9f1 b3p_9f2 b3q_9 b3q_9z b3q_90 b3q_91 b3q_92 b3q_9f0 b3q_9f1 b3q_9f2 b5a_10 b5a_10z b5a_100 b5a_101 b5a_102 b5a_103 b5a_104 b5a_10f0 b5a_10f1 b5a_10f2 b5a_10f3 b5a_10f4 b5b_10 b5b_10z b5b_100 b5b_101 b5b_102 b5b_103 b5b_104 b5b_10f0 b5b_10f1 b5b_10f2 b5b_10f3 b5b_10f4 b3p_10 b3p_10z b3p_100 b3p_101 b3p_102 b3p_10f0 b3p_10f1 b3p_10f2 b3q_10 b3q_10z b3q_100 b3q_101 b3q_102 b3q_10f0 b3q_10f1 b3q_10f2 b5a_11 b5a_11z b5a_110 b5a_111 b5a_112 b5a_113 b5a_114 b5a_11f0 b5a_11f1 b5a_11f2 b5a_11f3 b5a_11f4 b5b_11 b5b_11z b5b_110 b5b_111 b5b_112 b5b_113 b5b_114 b5b_11f0 b5b_11f1 b5b_11f2 b5b_11f3 b5b_11f4 b3p_11 b3p_11z b3p_110 b3p_111 b3p_112 b3p_11f0 b3p_11f1 b3p_11f2 b3q_11 b3q_11z b3q_110 b3q_111 b3q_112 b3q_11f0 b3q_11f1 b3q_11f2 b5a_12 b5a_12z b5a_120 b5a_121 b5a_122 b5a_123 b5a_124 b5a_12f0 b5a_12f1 b5a_12f2 b5a_12f3 b5a_12f4 b5b_12 b5b_12z b5b_120 b5b_121 b5b_122 b5b_123 b5b_124 b5b_12f0 b5b_12f1 b5b_12f2 b5b_12f3 b5b_12f4 b3p_12 b3p_12z b3p_120 b3p_121 b3p_122 b3p_12f0 b3p_12f1 b3p_12f2 b3q_12 b3q_12z b3q_120 b3q_121 b3q_122 b3q_12f0 b3q_12f1 b3q_12f2 b5a_13 b5a_13z b5a_130 b5a_131 b5a_132 b5a_133 b5a_134 b5a_13f0 b5a_13f1 b5a_13f2 b5a_13f3 b5a_13f4 b5b_13 b5b_13z b5b_130 b5b_131 b5b_132 b5b_133 b5b_134 b5b_13f0 b5b_13f1 b5b_13f2 b5b_13f3 b5b_13f4 b3p_13 b3p_13z b3p_130 b3p_131 b3p_132 b3p_13f0 b3p_13f1 b3p_13f2 b3q_13 b3q_13z b3q_130 b3q_131 b3q_132 b3q_13f0 b3q_13f1 b3q_13f2
  clear b9 b10 b11 b12 b13 b14 p9 p10 p11 p12 p13 p14 e1 e2 S1 S2 CO Z1 Z2 HB8
  obtain ⟨cc, h1⟩ := Classical.axiomOfChoice CW.out
  obtain ⟨CC, h2⟩ := Classical.axiomOfChoice h1
  obtain ⟨ff, h3⟩ := Classical.axiomOfChoice h2
  have hrun := fun W => (h3 W).1
  have hsb := fun W => (h3 W).2
  clear h1 h2 h3
  have hrb : ∀ W : World, RB ((W.alloc (.cells (CC W) 5 (ff W))).drew) ((W.alloc (.cells (CC W) 5 (ff W))).drew).heap.size (some ⟨W.heap.size, 0, none⟩) bs := fun W => by
    have := (hsb W).rb
    have e : ((W.alloc (.cells (CC W) 5 (ff W))).drew).heap.size = W.heap.size + 1 := by simp
    rw [e]; exact this
  have hr2 : ∀ (W w' : World), Below ((W.alloc (.cells (CC W) 5 (ff W))).drew).heap.size ((W.alloc (.cells (CC W) 5 (ff W))).drew) w' → RB w' w'.heap.size (some ⟨W.heap.size, 0, none⟩) bs := fun W w' q => ((hrb W).below q).more q.size
  have r0 : ∀ w' : World, Below ((w14.alloc (.cells (CC w14) 5 (ff w14))).drew).heap.size ((w14.alloc (.cells (CC w14) 5 (ff w14))).drew) w' → RB w' w'.heap.size (some ⟨w14.heap.size, 0, none⟩) bs := hr2 (w14)
  have r1 : ∀ w' : World, Below ((w14.alloc (.cells (CC w14.drew) 5 (ff w14.drew))).drew.drew).heap.size ((w14.alloc (.cells (CC w14.drew) 5 (ff w14.drew))).drew.drew) w' → RB w' w'.heap.size (some ⟨w14.heap.size, 0, none⟩) bs := hr2 (w14.drew)
  have r2 : ∀ w' : World, Below ((w14.alloc (.cells (CC w14.drew.drew) 5 (ff w14.drew.drew))).drew.drew.drew).heap.size ((w14.alloc (.cells (CC w14.drew.drew) 5 (ff w14.drew.drew))).drew.drew.drew) w' → RB w' w'.heap.size (some ⟨w14.heap.size, 0, none⟩) bs := hr2 (w14.drew.drew)
  have r3 : ∀ w' : World, Below ((w14.alloc (.cells (CC w14.drew.drew.drew) 5 (ff w14.drew.drew.drew))).drew.drew.drew.drew).heap.size ((w14.alloc (.cells (CC w14.drew.drew.drew) 5 (ff w14.drew.drew.drew))).drew.drew.drew.drew) w' → RB w' w'.heap.size (some ⟨w14.heap.size, 0, none⟩) bs := hr2 (w14.drew.drew.drew)
  have R0 := Lib.hid r0; have R1 := Lib.hid r1; have R2 := Lib.hid r2; have R3 := Lib.hid r3
  clear r0 r1 r2 r3 hr2
  have HLE := Lib.hid (fun W => (hsb W).le)
  clear hrb hsb CW
  rcases HC.out with ⟨rfl, rfl, rfl⟩ | ⟨rfl, rfl, rfl, rfl, rfl⟩ | ⟨rfl, rfl, rfl, rfl, rfl, rfl⟩
  · clear HC
    refine wp_region_held_drew (S := (fun w' => w'.cell? ⟨w3.heap.size, 0, none⟩ = some (.int .i64 3) ∧ w'.cell? ⟨w3.heap.size, 1, none⟩ = some (.string S) ∧ w'.cell? ⟨w3.heap.size, 2, none⟩ = some (.bool an) ∧ w'.cell? ⟨w3.heap.size, 3, none⟩ = some (.int .u64 ah) ∧ w'.cell? ⟨w3.heap.size, 4, none⟩ = some (.int .u64 al) ∧ w'.cell? ⟨w3.heap.size + 1, 0, none⟩ = some (.int .i64 2) ∧ w'.cell? ⟨w3.heap.size + 1, 1, none⟩ = some (.string S) ∧ w'.cell? ⟨w3.heap.size + 1, 2, none⟩ = some (.bool false) ∧ w'.cell? ⟨w3.heap.size + 1, 3, none⟩ = some (.int .u64 0) ∧ w'.cell? ⟨w3.heap.size + 1, 4, none⟩ = some (.int .u64 0))) (by kernel_rfl) ?_ (fun hHeld => ?_)
    · (try dsimp only)
      ((and_intros <;> (first | (with_reducible assumption) | (go_simp; done) | (simp (maxDischargeDepth := 12) [go_sem]; done) | (simp (maxDischargeDepth := 12) [go_sem, *]; done) | exact (Below.cell (by with_reducible assumption) (by first | (simp; done) | (simp; omega) | omega)).trans (by simp (maxDischargeDepth := 12) [go_sem]))))
    refine h4_take (i := 0) (v := ?v0) rfl (by kernel_rfl) (by kernel_rfl) (by kernel_rfl) (fun _ _ _ h => h) (by rfl) ?y0 hHeld ?r0
    case y0 => (intro wS hSw; (try dsimp only at hSw); go_simp; (try with_reducible rfl))
    try simp only [Act.put, List.setIfInBounds_toArray, List.set_cons_zero, List.set_cons_succ]
    refine h4_take (i := 1) (v := ?v1) rfl (by kernel_rfl) (by kernel_rfl) (by kernel_rfl) (fun _ _ _ h => h) (by rfl) ?y1 hHeld ?r1
    case y1 => (intro wS hSw; (try dsimp only at hSw); go_simp; (try with_reducible rfl))
    try simp only [Act.put, List.setIfInBounds_toArray, List.set_cons_zero, List.set_cons_succ]
    refine h4_take (i := 2) (v := ?v2) rfl (by kernel_rfl) (by kernel_rfl) (by kernel_rfl) (fun _ _ _ h => h) (by rfl) ?y2 hHeld ?r2
    case y2 => (intro wS hSw; (try dsimp only at hSw); go_simp; (try with_reducible rfl))
    try simp only [Act.put, List.setIfInBounds_toArray, List.set_cons_zero, List.set_cons_succ]
    refine h4_take (i := 3) (v := ?v3) rfl (by kernel_rfl) (by kernel_rfl) (by kernel_rfl) (fun _ _ _ h => h) (by rfl) ?y3 hHeld ?r3
    case y3 => (intro wS hSw; (try dsimp only at hSw); go_simp; (try with_reducible rfl))
    try simp only [Act.put, List.setIfInBounds_toArray, List.set_cons_zero, List.set_cons_succ]
    refine wpAnyH_ready (rs := [4]) (by kernel_rfl) (by simp) ?_
    refine (h4_cons rfl (fun K hK => ?_) AllReadyH.nil)
    go_simp
    refine hK.out _ _ ?_ (fun hHeld5 => ?_)
    · (try dsimp only)
      ((and_intros <;> (first | (with_reducible assumption) | (go_simp; done) | (simp (maxDischargeDepth := 12) [go_sem]; done) | (simp (maxDischargeDepth := 12) [go_sem, *]; done) | exact (Below.cell (by with_reducible assumption) (by first | (simp; done) | (simp; omega) | omega)).trans (by simp (maxDischargeDepth := 12) [go_sem]))))
    clear hK K hHeld
    try simp only [Act.put, List.setIfInBounds_toArray, List.set_cons_zero, List.set_cons_succ]
    refine wpAnyH_ready (rs := [5]) (by kernel_rfl) (by simp) ?_
    refine (h4_cons rfl (fun K hK => ?_) AllReadyH.nil)
    go_simp
    ((go_at_call 35; (with_reducible refine (LK.out _ _ _ (R1.out _ (Below.refl _ _)) (HLE.out _)).mono ?_); rintro e w15 ⟨rfl, q15⟩; have p15 : Below w14.heap.size w14 w15 := Below.trans (by repeat' (first | (with_reducible assumption) | (with_reducible exact Below.refl _ _) | (with_reducible refine Below.drew ?_) | (with_reducible refine below_drewN ?_ _) | (with_reducible refine Below.alloc ?_ ?_ _) | (with_reducible exact Nat.le_refl _) | (simp; done) | (simp; omega) | omega)) (Below.mono q15 (by first | omega | (simp; done) | (simp; omega))); have b5a_15 := Lib.hid (Box5.below b5a_14.out p15); have b5a_150 := b5a_15.out.c0; have b5a_151 := b5a_15.out.c1; have b5a_152 := b5a_15.out.c2; have b5a_153 := b5a_15.out.c3; have b5a_154 := b5a_15.out.c4; have b5a_15f0 := b5a_15.out.f0; have b5a_15f1 := b5a_15.out.f1; have b5a_15f2 := b5a_15.out.f2; have b5a_15f3 := b5a_15.out.f3; have b5a_15f4 := b5a_15.out.f4; have b5a_15z := b5a_15.out.z; have b5b_15 := Lib.hid (Box5.below b5b_14.out p15); have b5b_150 := b5b_15.out.c0; have b5b_151 := b5b_15.out.c1; have b5b_152 := b5b_15.out.c2; have b5b_153 := b5b_15.out.c3; have b5b_154 := b5b_15.out.c4; have b5b_15f0 := b5b_15.out.f0; have b5b_15f1 := b5b_15.out.f1; have b5b_15f2 := b5b_15.out.f2; have b5b_15f3 := b5b_15.out.f3; have b5b_15f4 := b5b_15.out.f4; have b5b_15z := b5b_15.out.z))
    (try go_wp2_with fail)
    refine hK.out _ _ ?_ (fun hHeld6 => ?_)
    · (try dsimp only)
      ((and_intros <;> (first | (with_reducible assumption) | (go_simp; done) | (simp (maxDischargeDepth := 12) [go_sem]; done) | (simp (maxDischargeDepth := 12) [go_sem, *]; done) | exact (Below.cell (by with_reducible assumption) (by first | (simp; done) | (simp; omega) | omega)).trans (by simp (maxDischargeDepth := 12) [go_sem]))))
    clear hK K hHeld5
    try simp only [Act.put, List.setIfInBounds_toArray, List.set_cons_zero, List.set_cons_succ]
    refine h4_take (i := 6) (v := ?v6) rfl (by kernel_rfl) (by kernel_rfl) (by kernel_rfl) (fun _ _ _ h => h) (by rfl) ?y6 hHeld6 ?r6
    case y6 => (intro wS hSw; (try dsimp only at hSw); go_simp; (try with_reducible rfl))
    try simp only [Act.put, List.setIfInBounds_toArray, List.set_cons_zero, List.set_cons_succ]
    refine h4_take (i := 7) (v := ?v7) rfl (by kernel_rfl) (by kernel_rfl) (by kernel_rfl) (fun _ _ _ h => h) (by rfl) ?y7 hHeld6 ?r7
    case y7 => (intro wS hSw; (try dsimp only at hSw); go_simp; (try with_reducible rfl))
    try simp only [Act.put, List.setIfInBounds_toArray, List.set_cons_zero, List.set_cons_succ]
    refine h4_take (i := 8) (v := ?v8) rfl (by kernel_rfl) (by kernel_rfl) (by kernel_rfl) (fun _ _ _ h => h) (by rfl) ?y8 hHeld6 ?r8
    case y8 => (intro wS hSw; (try dsimp only at hSw); go_simp; (try with_reducible rfl))
    try simp only [Act.put, List.setIfInBounds_toArray, List.set_cons_zero, List.set_cons_succ]
    refine h4_take (i := 9) (v := ?v9) rfl (by kernel_rfl) (by kernel_rfl) (by kernel_rfl) (fun _ _ _ h => h) (by rfl) ?y9 hHeld6 ?r9
    case y9 => (intro wS hSw; (try dsimp only at hSw); go_simp; (try with_reducible rfl))
    try simp only [Act.put, List.setIfInBounds_toArray, List.set_cons_zero, List.set_cons_succ]
    refine h4_take (i := 10) (v := ?v10) rfl (by kernel_rfl) (by kernel_rfl) (by kernel_rfl) (fun _ _ _ h => h) (by rfl) ?y10 hHeld6 ?r10
    case y10 => (intro wS hSw; (try dsimp only at hSw); go_simp; (try with_reducible rfl))
    try simp only [Act.put, List.setIfInBounds_toArray, List.set_cons_zero, List.set_cons_succ]
    refine h4_take (i := 11) (v := ?v11) rfl (by kernel_rfl) (by kernel_rfl) (by kernel_rfl) (fun _ _ _ h => h) (by rfl) ?y11 hHeld6 ?r11
    case y11 => (intro wS hSw; (try dsimp only at hSw); go_simp; (try with_reducible rfl))
    try simp only [Act.put, List.setIfInBounds_toArray, List.set_cons_zero, List.set_cons_succ]
    refine h4_take (i := 12) (v := ?v12) rfl (by kernel_rfl) (by kernel_rfl) (by kernel_rfl) (fun _ _ _ h => h) (by rfl) ?y12 hHeld6 ?r12
    case y12 => (intro wS hSw; (try dsimp only at hSw); go_simp; (try with_reducible rfl))
    try simp only [Act.put, List.setIfInBounds_toArray, List.set_cons_zero, List.set_cons_succ]
    refine h4_take (i := 13) (v := ?v13) rfl (by kernel_rfl) (by kernel_rfl) (by kernel_rfl) (fun _ _ _ h => h) (by rfl) ?y13 hHeld6 ?r13
    case y13 => (intro wS hSw; (try dsimp only at hSw); go_simp; (try with_reducible rfl))
    try simp only [Act.put, List.setIfInBounds_toArray, List.set_cons_zero, List.set_cons_succ]
    refine h4_take (i := 14) (v := ?v14) rfl (by kernel_rfl) (by kernel_rfl) (by kernel_rfl) (fun _ _ _ h => h) (by rfl) ?y14 hHeld6 ?r14
    case y14 => (intro wS hSw; (try dsimp only at hSw); go_simp; (try with_reducible rfl))
    try simp only [Act.put, List.setIfInBounds_toArray, List.set_cons_zero, List.set_cons_succ]
    refine h4_take (i := 15) (v := ?v15) rfl (by kernel_rfl) (by kernel_rfl) (by kernel_rfl) (fun _ _ _ h => h) (by rfl) ?y15 hHeld6 ?r15
    case y15 => (intro wS hSw; (try dsimp only at hSw); go_simp; (try with_reducible rfl))
    try simp only [Act.put, List.setIfInBounds_toArray, List.set_cons_zero, List.set_cons_succ]
    refine h4_skip (i := 16) rfl (by kernel_rfl) (by kernel_rfl) (by kernel_rfl) (fun _ _ _ h => h) (by rfl) hHeld6 ?_
    try simp only [Act.put, List.setIfInBounds_toArray, List.set_cons_zero, List.set_cons_succ]
    refine h4_skip (i := 17) rfl (by kernel_rfl) (by kernel_rfl) (by kernel_rfl) (fun _ _ _ h => h) (by rfl) hHeld6 ?_
    try simp only [Act.put, List.setIfInBounds_toArray, List.set_cons_zero, List.set_cons_succ]
    refine h4_skip (i := 18) rfl (by kernel_rfl) (by kernel_rfl) (by kernel_rfl) (fun _ _ _ h => h) (by rfl) hHeld6 ?_
    try simp only [Act.put, List.setIfInBounds_toArray, List.set_cons_zero, List.set_cons_succ]
    refine h4_take (i := 19) (v := ?v16) rfl (by kernel_rfl) (by kernel_rfl) (by kernel_rfl) (fun _ _ _ h => h) (by rfl) ?y16 hHeld6 ?r16
    case y16 => (intro wS hSw; (try dsimp only at hSw); go_simp; (try with_reducible rfl))
    try simp only [Act.put, List.setIfInBounds_toArray, List.set_cons_zero, List.set_cons_succ]
    refine h4_take (i := 20) (v := ?v17) rfl (by kernel_rfl) (by kernel_rfl) (by kernel_rfl) (fun _ _ _ h => h) (by rfl) ?y17 hHeld6 ?r17
    case y17 => (intro wS hSw; (try dsimp only at hSw); go_simp; (try with_reducible rfl))
    try simp only [Act.put, List.setIfInBounds_toArray, List.set_cons_zero, List.set_cons_succ]
    refine h4_take (i := 21) (v := ?v18) rfl (by kernel_rfl) (by kernel_rfl) (by kernel_rfl) (fun _ _ _ h => h) (by rfl) ?y18 hHeld6 ?r18
    case y18 => (intro wS hSw; (try dsimp only at hSw); go_simp; (try with_reducible rfl))
    try simp only [Act.put, List.setIfInBounds_toArray, List.set_cons_zero, List.set_cons_succ]
    refine wpAnyH_done (by kernel_rfl) ?_ _
    go_wp2_with fail
    go_ret
    exact ⟨by simp, by refine (below_step HB14.out p15).trans ?_; (repeat' (first | (with_reducible exact Below.refl _ _) | (refine Below.trans ?_ (Below.mono (by with_reducible assumption) ?_)) | (with_reducible exact Below.refl _ _) | (with_reducible refine below_drewN ?_ _) | (with_reducible refine Below.drew ?_) | (with_reducible refine Below.setCell ?_ ?_ _) | (with_reducible refine Below.alloc ?_ ?_ _) | (with_reducible assumption) | (simp; done) | (simp; omega) | omega))⟩
  · clear HC
    refine wp_region_held_drew (S := (fun w' => w'.cell? ⟨w3.heap.size, 0, none⟩ = some (.int .i64 2) ∧ w'.cell? ⟨w3.heap.size, 1, none⟩ = some (.string S) ∧ w'.cell? ⟨w3.heap.size, 2, none⟩ = some (.bool false) ∧ w'.cell? ⟨w3.heap.size, 3, none⟩ = some (.int .u64 0) ∧ w'.cell? ⟨w3.heap.size, 4, none⟩ = some (.int .u64 0) ∧ w'.cell? ⟨w3.heap.size + 1, 0, none⟩ = some (.int .i64 2) ∧ w'.cell? ⟨w3.heap.size + 1, 1, none⟩ = some (.string S) ∧ w'.cell? ⟨w3.heap.size + 1, 2, none⟩ = some (.bool false) ∧ w'.cell? ⟨w3.heap.size + 1, 3, none⟩ = some (.int .u64 0) ∧ w'.cell? ⟨w3.heap.size + 1, 4, none⟩ = some (.int .u64 0))) (by kernel_rfl) ?_ (fun hHeld => ?_)
    · (try dsimp only)
      ((and_intros <;> (first | (with_reducible assumption) | (go_simp; done) | (simp (maxDischargeDepth := 12) [go_sem]; done) | (simp (maxDischargeDepth := 12) [go_sem, *]; done) | exact (Below.cell (by with_reducible assumption) (by first | (simp; done) | (simp; omega) | omega)).trans (by simp (maxDischargeDepth := 12) [go_sem]))))
    refine h4_take (i := 0) (v := ?v19) rfl (by kernel_rfl) (by kernel_rfl) (by kernel_rfl) (fun _ _ _ h => h) (by rfl) ?y19 hHeld ?r19
    case y19 => (intro wS hSw; (try dsimp only at hSw); go_simp; (try with_reducible rfl))
    try simp only [Act.put, List.setIfInBounds_toArray, List.set_cons_zero, List.set_cons_succ]
    refine h4_take (i := 1) (v := ?v20) rfl (by kernel_rfl) (by kernel_rfl) (by kernel_rfl) (fun _ _ _ h => h) (by rfl) ?y20 hHeld ?r20
    case y20 => (intro wS hSw; (try dsimp only at hSw); go_simp; (try with_reducible rfl))
    try simp only [Act.put, List.setIfInBounds_toArray, List.set_cons_zero, List.set_cons_succ]
    refine h4_take (i := 2) (v := ?v21) rfl (by kernel_rfl) (by kernel_rfl) (by kernel_rfl) (fun _ _ _ h => h) (by rfl) ?y21 hHeld ?r21
    case y21 => (intro wS hSw; (try dsimp only at hSw); go_simp; (try with_reducible rfl))
    try simp only [Act.put, List.setIfInBounds_toArray, List.set_cons_zero, List.set_cons_succ]
    refine h4_take (i := 3) (v := ?v22) rfl (by kernel_rfl) (by kernel_rfl) (by kernel_rfl) (fun _ _ _ h => h) (by rfl) ?y22 hHeld ?r22
    case y22 => (intro wS hSw; (try dsimp only at hSw); go_simp; (try with_reducible rfl))
    try simp only [Act.put, List.setIfInBounds_toArray, List.set_cons_zero, List.set_cons_succ]
    refine wpAnyH_ready (rs := [4]) (by kernel_rfl) (by simp) ?_
    refine (h4_cons rfl (fun K hK => ?_) AllReadyH.nil)
    go_simp
    refine hK.out _ _ ?_ (fun hHeld24 => ?_)
    · (try dsimp only)
      ((and_intros <;> (first | (with_reducible assumption) | (go_simp; done) | (simp (maxDischargeDepth := 12) [go_sem]; done) | (simp (maxDischargeDepth := 12) [go_sem, *]; done) | exact (Below.cell (by with_reducible assumption) (by first | (simp; done) | (simp; omega) | omega)).trans (by simp (maxDischargeDepth := 12) [go_sem]))))
    clear hK K hHeld
    try simp only [Act.put, List.setIfInBounds_toArray, List.set_cons_zero, List.set_cons_succ]
    refine wpAnyH_ready (rs := [5]) (by kernel_rfl) (by simp) ?_
    refine (h4_cons rfl (fun K hK => ?_) AllReadyH.nil)
    go_simp
    ((go_at_call 35; (with_reducible refine (LK.out _ _ _ (R1.out _ (Below.refl _ _)) (HLE.out _)).mono ?_); rintro e w15 ⟨rfl, q15⟩; have p15 : Below w14.heap.size w14 w15 := Below.trans (by repeat' (first | (with_reducible assumption) | (with_reducible exact Below.refl _ _) | (with_reducible refine Below.drew ?_) | (with_reducible refine below_drewN ?_ _) | (with_reducible refine Below.alloc ?_ ?_ _) | (with_reducible exact Nat.le_refl _) | (simp; done) | (simp; omega) | omega)) (Below.mono q15 (by first | omega | (simp; done) | (simp; omega))); have b5a_15 := Lib.hid (Box5.below b5a_14.out p15); have b5a_150 := b5a_15.out.c0; have b5a_151 := b5a_15.out.c1; have b5a_152 := b5a_15.out.c2; have b5a_153 := b5a_15.out.c3; have b5a_154 := b5a_15.out.c4; have b5a_15f0 := b5a_15.out.f0; have b5a_15f1 := b5a_15.out.f1; have b5a_15f2 := b5a_15.out.f2; have b5a_15f3 := b5a_15.out.f3; have b5a_15f4 := b5a_15.out.f4; have b5a_15z := b5a_15.out.z; have b5b_15 := Lib.hid (Box5.below b5b_14.out p15); have b5b_150 := b5b_15.out.c0; have b5b_151 := b5b_15.out.c1; have b5b_152 := b5b_15.out.c2; have b5b_153 := b5b_15.out.c3; have b5b_154 := b5b_15.out.c4; have b5b_15f0 := b5b_15.out.f0; have b5b_15f1 := b5b_15.out.f1; have b5b_15f2 := b5b_15.out.f2; have b5b_15f3 := b5b_15.out.f3; have b5b_15f4 := b5b_15.out.f4; have b5b_15z := b5b_15.out.z))
    (try go_wp2_with fail)
    refine hK.out _ _ ?_ (fun hHeld25 => ?_)
    · (try dsimp only)
      ((and_intros <;> (first | (with_reducible assumption) | (go_simp; done) | (simp (maxDischargeDepth := 12) [go_sem]; done) | (simp (maxDischargeDepth := 12) [go_sem, *]; done) | exact (Below.cell (by with_reducible assumption) (by first | (simp; done) | (simp; omega) | omega)).trans (by simp (maxDischargeDepth := 12) [go_sem]))))
    clear hK K hHeld24
    try simp only [Act.put, List.setIfInBounds_toArray, List.set_cons_zero, List.set_cons_succ]
    refine h4_take (i := 6) (v := ?v25) rfl (by kernel_rfl) (by kernel_rfl) (by kernel_rfl) (fun _ _ _ h => h) (by rfl) ?y25 hHeld25 ?r25
    case y25 => (intro wS hSw; (try dsimp only at hSw); go_simp; (try with_reducible rfl))
    try simp only [Act.put, List.setIfInBounds_toArray, List.set_cons_zero, List.set_cons_succ]
    refine h4_skip (i := 7) rfl (by kernel_rfl) (by kernel_rfl) (by kernel_rfl) (fun _ _ _ h => h) (by rfl) hHeld25 ?_
    try simp only [Act.put, List.setIfInBounds_toArray, List.set_cons_zero, List.set_cons_succ]
    refine h4_skip (i := 8) rfl (by kernel_rfl) (by kernel_rfl) (by kernel_rfl) (fun _ _ _ h => h) (by rfl) hHeld25 ?_
    try simp only [Act.put, List.setIfInBounds_toArray, List.set_cons_zero, List.set_cons_succ]
    refine h4_take (i := 9) (v := ?v26) rfl (by kernel_rfl) (by kernel_rfl) (by kernel_rfl) (fun _ _ _ h => h) (by rfl) ?y26 hHeld25 ?r26
    case y26 => (intro wS hSw; (try dsimp only at hSw); go_simp; (try with_reducible rfl))
    try simp only [Act.put, List.setIfInBounds_toArray, List.set_cons_zero, List.set_cons_succ]
    refine h4_take (i := 10) (v := ?v27) rfl (by kernel_rfl) (by kernel_rfl) (by kernel_rfl) (fun _ _ _ h => h) (by rfl) ?y27 hHeld25 ?r27
    case y27 => (intro wS hSw; (try dsimp only at hSw); go_simp; (try with_reducible rfl))
    try simp only [Act.put, List.setIfInBounds_toArray, List.set_cons_zero, List.set_cons_succ]
    refine h4_take (i := 11) (v := ?v28) rfl (by kernel_rfl) (by kernel_rfl) (by kernel_rfl) (fun _ _ _ h => h) (by rfl) ?y28 hHeld25 ?r28
    case y28 => (intro wS hSw; (try dsimp only at hSw); go_simp; (try with_reducible rfl))
    try simp only [Act.put, List.setIfInBounds_toArray, List.set_cons_zero, List.set_cons_succ]
    refine h4_take (i := 12) (v := ?v29) rfl (by kernel_rfl) (by kernel_rfl) (by kernel_rfl) (fun _ _ _ h => h) (by rfl) ?y29 hHeld25 ?r29
    case y29 => (intro wS hSw; (try dsimp only at hSw); go_simp; (try with_reducible rfl))
    try simp only [Act.put, List.setIfInBounds_toArray, List.set_cons_zero, List.set_cons_succ]
    refine h4_take (i := 13) (v := ?v30) rfl (by kernel_rfl) (by kernel_rfl) (by kernel_rfl) (fun _ _ _ h => h) (by rfl) ?y30 hHeld25 ?r30
    case y30 => (intro wS hSw; (try dsimp only at hSw); go_simp; (try with_reducible rfl))
    try simp only [Act.put, List.setIfInBounds_toArray, List.set_cons_zero, List.set_cons_succ]
    refine h4_take (i := 14) (v := ?v31) rfl (by kernel_rfl) (by kernel_rfl) (by kernel_rfl) (fun _ _ _ h => h) (by rfl) ?y31 hHeld25 ?r31
    case y31 => (intro wS hSw; (try dsimp only at hSw); go_simp; (try with_reducible rfl))
    try simp only [Act.put, List.setIfInBounds_toArray, List.set_cons_zero, List.set_cons_succ]
    refine h4_take (i := 15) (v := ?v32) rfl (by kernel_rfl) (by kernel_rfl) (by kernel_rfl) (fun _ _ _ h => h) (by rfl) ?y32 hHeld25 ?r32
    case y32 => (intro wS hSw; (try dsimp only at hSw); go_simp; (try with_reducible rfl))
    try simp only [Act.put, List.setIfInBounds_toArray, List.set_cons_zero, List.set_cons_succ]
    refine h4_take (i := 16) (v := ?v33) rfl (by kernel_rfl) (by kernel_rfl) (by kernel_rfl) (fun _ _ _ h => h) (by rfl) ?y33 hHeld25 ?r33
    case y33 => (intro wS hSw; (try dsimp only at hSw); go_simp; (try with_reducible rfl))
    try simp only [Act.put, List.setIfInBounds_toArray, List.set_cons_zero, List.set_cons_succ]
    refine h4_take (i := 17) (v := ?v34) rfl (by kernel_rfl) (by kernel_rfl) (by kernel_rfl) (fun _ _ _ h => h) (by rfl) ?y34 hHeld25 ?r34
    case y34 => (intro wS hSw; (try dsimp only at hSw); go_simp; (try with_reducible rfl))
    try simp only [Act.put, List.setIfInBounds_toArray, List.set_cons_zero, List.set_cons_succ]
    refine h4_take (i := 18) (v := ?v35) rfl (by kernel_rfl) (by kernel_rfl) (by kernel_rfl) (fun _ _ _ h => h) (by rfl) ?y35 hHeld25 ?r35
    case y35 => (intro wS hSw; (try dsimp only at hSw); go_simp; (try with_reducible rfl))
    try simp only [Act.put, List.setIfInBounds_toArray, List.set_cons_zero, List.set_cons_succ]
    refine h4_take (i := 19) (v := ?v36) rfl (by kernel_rfl) (by kernel_rfl) (by kernel_rfl) (fun _ _ _ h => h) (by rfl) ?y36 hHeld25 ?r36
    case y36 => (intro wS hSw; (try dsimp only at hSw); go_simp; (try with_reducible rfl))
    try simp only [Act.put, List.setIfInBounds_toArray, List.set_cons_zero, List.set_cons_succ]
    refine h4_take (i := 20) (v := ?v37) rfl (by kernel_rfl) (by kernel_rfl) (by kernel_rfl) (fun _ _ _ h => h) (by rfl) ?y37 hHeld25 ?r37
    case y37 => (intro wS hSw; (try dsimp only at hSw); go_simp; (try with_reducible rfl))
    try simp only [Act.put, List.setIfInBounds_toArray, List.set_cons_zero, List.set_cons_succ]
    refine h4_take (i := 21) (v := ?v38) rfl (by kernel_rfl) (by kernel_rfl) (by kernel_rfl) (fun _ _ _ h => h) (by rfl) ?y38 hHeld25 ?r38
    case y38 => (intro wS hSw; (try dsimp only at hSw); go_simp; (try with_reducible rfl))
    try simp only [Act.put, List.setIfInBounds_toArray, List.set_cons_zero, List.set_cons_succ]
    refine wpAnyH_done (by kernel_rfl) ?_ _
    go_wp2_with fail
    go_ret
    exact ⟨by simp, by refine (below_step HB14.out p15).trans ?_; (repeat' (first | (with_reducible exact Below.refl _ _) | (refine Below.trans ?_ (Below.mono (by with_reducible assumption) ?_)) | (with_reducible exact Below.refl _ _) | (with_reducible refine below_drewN ?_ _) | (with_reducible refine Below.drew ?_) | (with_reducible refine Below.setCell ?_ ?_ _) | (with_reducible refine Below.alloc ?_ ?_ _) | (with_reducible assumption) | (simp; done) | (simp; omega) | omega))⟩
  · clear HC
    refine wp_region_held_drew (S := (fun w' => w'.cell? ⟨w3.heap.size, 0, none⟩ = some (.int .i64 2) ∧ w'.cell? ⟨w3.heap.size, 1, none⟩ = some (.string S) ∧ w'.cell? ⟨w3.heap.size, 2, none⟩ = some (.bool false) ∧ w'.cell? ⟨w3.heap.size, 3, none⟩ = some (.int .u64 0) ∧ w'.cell? ⟨w3.heap.size, 4, none⟩ = some (.int .u64 0) ∧ w'.cell? ⟨w3.heap.size + 1, 0, none⟩ = some (.int .i64 2) ∧ w'.cell? ⟨w3.heap.size + 1, 1, none⟩ = some (.string S) ∧ w'.cell? ⟨w3.heap.size + 1, 2, none⟩ = some (.bool false) ∧ w'.cell? ⟨w3.heap.size + 1, 3, none⟩ = some (.int .u64 0) ∧ w'.cell? ⟨w3.heap.size + 1, 4, none⟩ = some (.int .u64 0))) (by kernel_rfl) ?_ (fun hHeld => ?_)
    · (try dsimp only)
      ((and_intros <;> (first | (with_reducible assumption) | (go_simp; done) | (simp (maxDischargeDepth := 12) [go_sem]; done) | (simp (maxDischargeDepth := 12) [go_sem, *]; done) | exact (Below.cell (by with_reducible assumption) (by first | (simp; done) | (simp; omega) | omega)).trans (by simp (maxDischargeDepth := 12) [go_sem]))))
    refine h4_take (i := 0) (v := ?v39) rfl (by kernel_rfl) (by kernel_rfl) (by kernel_rfl) (fun _ _ _ h => h) (by rfl) ?y39 hHeld ?r39
    case y39 => (intro wS hSw; (try dsimp only at hSw); go_simp; (try with_reducible rfl))
    try simp only [Act.put, List.setIfInBounds_toArray, List.set_cons_zero, List.set_cons_succ]
    refine h4_take (i := 1) (v := ?v40) rfl (by kernel_rfl) (by kernel_rfl) (by kernel_rfl) (fun _ _ _ h => h) (by rfl) ?y40 hHeld ?r40
    case y40 => (intro wS hSw; (try dsimp only at hSw); go_simp; (try with_reducible rfl))
    try simp only [Act.put, List.setIfInBounds_toArray, List.set_cons_zero, List.set_cons_succ]
    refine h4_take (i := 2) (v := ?v41) rfl (by kernel_rfl) (by kernel_rfl) (by kernel_rfl) (fun _ _ _ h => h) (by rfl) ?y41 hHeld ?r41
    case y41 => (intro wS hSw; (try dsimp only at hSw); go_simp; (try with_reducible rfl))
    try simp only [Act.put, List.setIfInBounds_toArray, List.set_cons_zero, List.set_cons_succ]
    refine h4_take (i := 3) (v := ?v42) rfl (by kernel_rfl) (by kernel_rfl) (by kernel_rfl) (fun _ _ _ h => h) (by rfl) ?y42 hHeld ?r42
    case y42 => (intro wS hSw; (try dsimp only at hSw); go_simp; (try with_reducible rfl))
    try simp only [Act.put, List.setIfInBounds_toArray, List.set_cons_zero, List.set_cons_succ]
    refine wpAnyH_ready (rs := [4]) (by kernel_rfl) (by simp) ?_
    refine (h4_cons rfl (fun K hK => ?_) AllReadyH.nil)
    go_simp
    refine hK.out _ _ ?_ (fun hHeld44 => ?_)
    · (try dsimp only)
      ((and_intros <;> (first | (with_reducible assumption) | (go_simp; done) | (simp (maxDischargeDepth := 12) [go_sem]; done) | (simp (maxDischargeDepth := 12) [go_sem, *]; done) | exact (Below.cell (by with_reducible assumption) (by first | (simp; done) | (simp; omega) | omega)).trans (by simp (maxDischargeDepth := 12) [go_sem]))))
    clear hK K hHeld
    try simp only [Act.put, List.setIfInBounds_toArray, List.set_cons_zero, List.set_cons_succ]
    refine wpAnyH_ready (rs := [5]) (by kernel_rfl) (by simp) ?_
    refine (h4_cons rfl (fun K hK => ?_) AllReadyH.nil)
    go_simp
    ((go_at_call 35; (with_reducible refine (LK.out _ _ _ (R1.out _ (Below.refl _ _)) (HLE.out _)).mono ?_); rintro e w15 ⟨rfl, q15⟩; have p15 : Below w14.heap.size w14 w15 := Below.trans (by repeat' (first | (with_reducible assumption) | (with_reducible exact Below.refl _ _) | (with_reducible refine Below.drew ?_) | (with_reducible refine below_drewN ?_ _) | (with_reducible refine Below.alloc ?_ ?_ _) | (with_reducible exact Nat.le_refl _) | (simp; done) | (simp; omega) | omega)) (Below.mono q15 (by first | omega | (simp; done) | (simp; omega))); have b5a_15 := Lib.hid (Box5.below b5a_14.out p15); have b5a_150 := b5a_15.out.c0; have b5a_151 := b5a_15.out.c1; have b5a_152 := b5a_15.out.c2; have b5a_153 := b5a_15.out.c3; have b5a_154 := b5a_15.out.c4; have b5a_15f0 := b5a_15.out.f0; have b5a_15f1 := b5a_15.out.f1; have b5a_15f2 := b5a_15.out.f2; have b5a_15f3 := b5a_15.out.f3; have b5a_15f4 := b5a_15.out.f4; have b5a_15z := b5a_15.out.z; have b5b_15 := Lib.hid (Box5.below b5b_14.out p15); have b5b_150 := b5b_15.out.c0; have b5b_151 := b5b_15.out.c1; have b5b_152 := b5b_15.out.c2; have b5b_153 := b5b_15.out.c3; have b5b_154 := b5b_15.out.c4; have b5b_15f0 := b5b_15.out.f0; have b5b_15f1 := b5b_15.out.f1; have b5b_15f2 := b5b_15.out.f2; have b5b_15f3 := b5b_15.out.f3; have b5b_15f4 := b5b_15.out.f4; have b5b_15z := b5b_15.out.z))
    (try go_wp2_with fail)
    refine hK.out _ _ ?_ (fun hHeld45 => ?_)
    · (try dsimp only)
      ((and_intros <;> (first | (with_reducible assumption) | (go_simp; done) | (simp (maxDischargeDepth := 12) [go_sem]; done) | (simp (maxDischargeDepth := 12) [go_sem, *]; done) | exact (Below.cell (by with_reducible assumption) (by first | (simp; done) | (simp; omega) | omega)).trans (by simp (maxDischargeDepth := 12) [go_sem]))))
    clear hK K hHeld44
    try simp only [Act.put, List.setIfInBounds_toArray, List.set_cons_zero, List.set_cons_succ]
    refine h4_take (i := 6) (v := ?v45) rfl (by kernel_rfl) (by kernel_rfl) (by kernel_rfl) (fun _ _ _ h => h) (by rfl) ?y45 hHeld45 ?r45
    case y45 => (intro wS hSw; (try dsimp only at hSw); go_simp; (try with_reducible rfl))
    try simp only [Act.put, List.setIfInBounds_toArray, List.set_cons_zero, List.set_cons_succ]
    refine h4_take (i := 7) (v := ?v46) rfl (by kernel_rfl) (by kernel_rfl) (by kernel_rfl) (fun _ _ _ h => h) (by rfl) ?y46 hHeld45 ?r46
    case y46 => (intro wS hSw; (try dsimp only at hSw); go_simp; (try with_reducible rfl))
    try simp only [Act.put, List.setIfInBounds_toArray, List.set_cons_zero, List.set_cons_succ]
    refine h4_take (i := 8) (v := ?v47) rfl (by kernel_rfl) (by kernel_rfl) (by kernel_rfl) (fun _ _ _ h => h) (by rfl) ?y47 hHeld45 ?r47
    case y47 => (intro wS hSw; (try dsimp only at hSw); go_simp; (try with_reducible rfl))
    try simp only [Act.put, List.setIfInBounds_toArray, List.set_cons_zero, List.set_cons_succ]
    refine h4_take (i := 9) (v := ?v48) rfl (by kernel_rfl) (by kernel_rfl) (by kernel_rfl) (fun _ _ _ h => h) (by rfl) ?y48 hHeld45 ?r48
    case y48 => (intro wS hSw; (try dsimp only at hSw); go_simp; (try with_reducible rfl))
    try simp only [Act.put, List.setIfInBounds_toArray, List.set_cons_zero, List.set_cons_succ]
    refine h4_take (i := 10) (v := ?v49) rfl (by kernel_rfl) (by kernel_rfl) (by kernel_rfl) (fun _ _ _ h => h) (by rfl) ?y49 hHeld45 ?r49
    case y49 => (intro wS hSw; (try dsimp only at hSw); go_simp; (try with_reducible rfl))
    try simp only [Act.put, List.setIfInBounds_toArray, List.set_cons_zero, List.set_cons_succ]
    refine h4_take (i := 11) (v := ?v50) rfl (by kernel_rfl) (by kernel_rfl) (by kernel_rfl) (fun _ _ _ h => h) (by rfl) ?y50 hHeld45 ?r50
    case y50 => (intro wS hSw; (try dsimp only at hSw); go_simp; (try with_reducible rfl))
    try simp only [Act.put, List.setIfInBounds_toArray, List.set_cons_zero, List.set_cons_succ]
    refine h4_take (i := 12) (v := ?v51) rfl (by kernel_rfl) (by kernel_rfl) (by kernel_rfl) (fun _ _ _ h => h) (by rfl) ?y51 hHeld45 ?r51
    case y51 => (intro wS hSw; (try dsimp only at hSw); go_simp; (try with_reducible rfl))
    try simp only [Act.put, List.setIfInBounds_toArray, List.set_cons_zero, List.set_cons_succ]
    refine h4_take (i := 13) (v := ?v52) rfl (by kernel_rfl) (by kernel_rfl) (by kernel_rfl) (fun _ _ _ h => h) (by rfl) ?y52 hHeld45 ?r52
    case y52 => (intro wS hSw; (try dsimp only at hSw); go_simp; (try with_reducible rfl))
    try simp only [Act.put, List.setIfInBounds_toArray, List.set_cons_zero, List.set_cons_succ]
    refine h4_take (i := 14) (v := ?v53) rfl (by kernel_rfl) (by kernel_rfl) (by kernel_rfl) (fun _ _ _ h => h) (by rfl) ?y53 hHeld45 ?r53
    case y53 => (intro wS hSw; (try dsimp only at hSw); go_simp; (try with_reducible rfl))
    try simp only [Act.put, List.setIfInBounds_toArray, List.set_cons_zero, List.set_cons_succ]
    refine h4_take (i := 15) (v := ?v54) rfl (by kernel_rfl) (by kernel_rfl) (by kernel_rfl) (fun _ _ _ h => h) (by rfl) ?y54 hHeld45 ?r54
    case y54 => (intro wS hSw; (try dsimp only at hSw); go_simp; (try with_reducible rfl))
    try simp only [Act.put, List.setIfInBounds_toArray, List.set_cons_zero, List.set_cons_succ]
    refine h4_take (i := 16) (v := ?v55) rfl (by kernel_rfl) (by kernel_rfl) (by kernel_rfl) (fun _ _ _ h => h) (by rfl) ?y55 hHeld45 ?r55
    case y55 => (intro wS hSw; (try dsimp only at hSw); go_simp; (try with_reducible rfl))
    try simp only [Act.put, List.setIfInBounds_toArray, List.set_cons_zero, List.set_cons_succ]
    refine h4_take (i := 17) (v := ?v56) rfl (by kernel_rfl) (by kernel_rfl) (by kernel_rfl) (fun _ _ _ h => h) (by rfl) ?y56 hHeld45 ?r56
    case y56 => (intro wS hSw; (try dsimp only at hSw); go_simp; (try with_reducible rfl))
    try simp only [Act.put, List.setIfInBounds_toArray, List.set_cons_zero, List.set_cons_succ]
    refine h4_take (i := 18) (v := ?v57) rfl (by kernel_rfl) (by kernel_rfl) (by kernel_rfl) (fun _ _ _ h => h) (by rfl) ?y57 hHeld45 ?r57
    case y57 => (intro wS hSw; (try dsimp only at hSw); go_simp; (try with_reducible rfl))
    try simp only [Act.put, List.setIfInBounds_toArray, List.set_cons_zero, List.set_cons_succ]
    refine h4_take (i := 19) (v := ?v58) rfl (by kernel_rfl) (by kernel_rfl) (by kernel_rfl) (fun _ _ _ h => h) (by rfl) ?y58 hHeld45 ?r58
    case y58 => (intro wS hSw; (try dsimp only at hSw); go_simp; (try with_reducible rfl))
    try simp only [Act.put, List.setIfInBounds_toArray, List.set_cons_zero, List.set_cons_succ]
    refine h4_take (i := 20) (v := ?v59) rfl (by kernel_rfl) (by kernel_rfl) (by kernel_rfl) (fun _ _ _ h => h) (by rfl) ?y59 hHeld45 ?r59
    case y59 => (intro wS hSw; (try dsimp only at hSw); go_simp; (try with_reducible rfl))
    try simp only [Act.put, List.setIfInBounds_toArray, List.set_cons_zero, List.set_cons_succ]
    refine h4_take (i := 21) (v := ?v60) rfl (by kernel_rfl) (by kernel_rfl) (by kernel_rfl) (fun _ _ _ h => h) (by rfl) ?y60 hHeld45 ?r60
    case y60 => (intro wS hSw; (try dsimp only at hSw); go_simp; (try with_reducible rfl))
    try simp only [Act.put, List.setIfInBounds_toArray, List.set_cons_zero, List.set_cons_succ]
    refine wpAnyH_done (by kernel_rfl) ?_ _
    go_wp2_with fail
    go_ret
    exact ⟨by simp, by refine (below_step HB14.out p15).trans ?_; (repeat' (first | (with_reducible exact Below.refl _ _) | (refine Below.trans ?_ (Below.mono (by with_reducible assumption) ?_)) | (with_reducible exact Below.refl _ _) | (with_reducible refine below_drewN ?_ _) | (with_reducible refine Below.drew ?_) | (with_reducible refine Below.setCell ?_ ?_ _) | (with_reducible refine Below.alloc ?_ ?_ _) | (with_reducible assumption) | (simp; done) | (simp; omega) | omega))⟩
theorem errV_code (o : Bool) (W : World) : Calls Try.prog 16 #[errV o] W fun e w' => e = .returned (.int .i64 (if o then 2 else 0)) ∧ Below W.heap.size W w' :=
  (code_errV o W).mono fun e w' ⟨h1, h2⟩ => ⟨h1, by subst h2; exact Below.refl _ _⟩
theorem cinputs_law (S : ByteArray) (w : World) (_ : S.size ≤ maxLen) :
    Calls Try.prog 9 #[.string S] w fun e w' => e = .returned (.bool true) ∧ Below w.heap.size w w' := by
  by_cases hS : S.size ≤ 200
  · have hb := numsS_lt S
    have hlen := numsS_len S
    have hSS := strN_numsS S
    generalize numsS S = bs at *
    have hl : bs.length ≤ 140737488351232 := by omega
    have w0 : Wd 0 := ⟨by decide, by decide⟩
    have RT := right_self hb hl (textC_good bs)
    have LK := fun W A c (hr : RB W W.heap.size A bs) (hc : bs.length ≤ c) => looks_any A c bs W W.heap.size (Nat.le_refl _) hr hc hl
    have CV := fun W => conv_run2 W bs hb
    have N2 := fun W => cnumber_any RT hb hl W
    have S2 := fun W => cstring_any RT w0 w0 W
    have Z2 := fun W => csize_any RT hl W
    rw [hSS] at CV N2 S2 Z2
    rw [hlen] at Z2
    rw [show strC 2 bs false 0 0 = bs from rfl, hSS] at S2
    have CO := fun W => errV_code (pOver bs) W
    unfold NumV at N2
    rw [show numO 2 bs = pOver bs from rfl, show numN' 2 bs false = pP bs from rfl, show numH 2 bs 0 = mh (pM bs) from rfl, show numL 2 bs 0 = ml (pM bs) from rfl] at N2
    cases hlk : likeB bs
    · have IN := fun W => input_text hb hl hlk W
      rw [hSS] at IN
      unfold likeB at hlk
      cases hk : looksB bs
      · rw [hk] at LK
        exact cinputs_x hS (.inr (.inl ⟨rfl, rfl, rfl, rfl, rfl⟩)) IN N2 N2 S2 S2 Z2 Z2 CO LK CV w
      · rw [hk] at LK hlk
        have ho : pOver bs = true := by cases h : pOver bs; rw [h] at hlk; cases hlk; rfl
        rw [ho] at N2 CO
        exact cinputs_x hS (.inr (.inr ⟨rfl, rfl, rfl, rfl, rfl, rfl⟩)) IN N2 N2 S2 S2 Z2 Z2 CO LK CV w
    · have R3 := right_self hb hl (likeC_good hlk)
      have IN := fun W => input_like hb hl hlk W
      have hM := mh_wd (N := pM bs) (by have := pM_lt bs; unfold LIM; omega)
      have N1 := fun W => cnumber_any R3 hb hl W
      have S1 := fun W => cstring_any R3 hM.1 hM.2 W
      have Z1 := fun W => csize_any R3 hl W
      rw [hSS] at IN N1 S1 Z1
      rw [hlen] at Z1
      rw [show strC 3 bs (pP bs) (mh (pM bs)) (ml (pM bs)) = bs from rfl, hSS] at S1
      unfold NumV at N1
      rw [show numO 3 bs = false from rfl, show numN' 3 bs (pP bs) = pP bs from rfl, show numH 3 bs (mh (pM bs)) = mh (pM bs) from rfl, show numL 3 bs (ml (pM bs)) = ml (pM bs) from rfl] at N1
      unfold likeB at hlk
      rw [Bool.and_eq_true] at hlk
      have ho : pOver bs = false := by simpa using hlk.2
      rw [hlk.1] at LK
      rw [ho] at N2 CO
      exact cinputs_x hS (.inl ⟨rfl, rfl, rfl⟩) IN N1 N2 S1 S2 Z1 Z2 CO LK CV w
  · have hS' : (200 : Int) < (S.size : Int) := by omega
    clear hS
    go_enter Try.func9, Try.ntmps9
    go_wp2_with (go_at_call 20; refine (awake9_any _).mono ?_; rintro e w1 ⟨rfl, b1⟩)
    go_ret
    exact ⟨rfl, by (repeat' (first | (with_reducible exact Below.refl _ _) | (refine Below.trans ?_ (Below.mono (by with_reducible assumption) ?_)) | (with_reducible exact Below.refl _ _) | (with_reducible refine below_drewN ?_ _) | (with_reducible refine Below.drew ?_) | (with_reducible refine Below.setCell ?_ ?_ _) | (with_reducible refine Below.alloc ?_ ?_ _) | (with_reducible assumption) | (simp; done) | (simp; omega) | omega))⟩
end Go.Proofs.Ytkhhjibpppmekaa
