/- Several texts put together: RefZa. -/
import Derived.Test.YtkhhjibpppmekaaBu30
/- fieldfareref09.Compare: the walk. -/
namespace Go.Proofs.Ytkhhjibpppmekaa
open Go.RowKit
set_option maxRecDepth 100000 in
set_option maxHeartbeats 3200000 in
theorem rccmp_num {k m : Int} {S T : ByteArray} {n o : Bool} {h l i j : Int} {ga gb sa sb : Bool} {za zb : Int} {Ca Cb : Int} (w : World)
    (GA0 : ∀ W, Calls Try.prog 37 #[.agg #[.int .i64 k, .string S, .bool n, .int .u64 h, .int .u64 l]] W fun e w' => e = .returned (.bool ga) ∧ Below W.heap.size W w')
    (GB0 : ∀ W, Calls Try.prog 37 #[.agg #[.int .i64 m, .string T, .bool o, .int .u64 i, .int .u64 j]] W fun e w' => e = .returned (.bool gb) ∧ Below W.heap.size W w')
    (NA0 : ∀ W, Calls Try.prog 36 #[.agg #[.int .i64 k, .string S, .bool n, .int .u64 h, .int .u64 l]] W (RNum sa za.natAbs Ca W))
    (NB0 : ∀ W, Calls Try.prog 36 #[.agg #[.int .i64 m, .string T, .bool o, .int .u64 i, .int .u64 j]] W (RNum sb zb.natAbs Cb W))
    (hsa : sa = zn za) (hsb : sb = zn zb) (hla : (dg za.natAbs).length ≤ 36) (hlb : (dg zb.natAbs).length ≤ 36)
    (ha : ga = false ∨ (ga = true ∧ (k == 2) = false)) (hb : gb = false ∨ (gb = true ∧ (m == 2) = false)) :
    Calls Try.prog 27 #[.agg #[.int .i64 k, .string S, .bool n, .int .u64 h, .int .u64 l], .agg #[.int .i64 m, .string T, .bool o, .int .u64 i, .int .u64 j]] w fun e w' => e = .returned (.int .i64 (cmpZ za zb)) ∧ Below w.heap.size w w' := by
  have GA := Lib.hid GA0; have GB := Lib.hid GB0
  have CM0 := fun A A' c c' W1 W (hr : RI W1 W1.heap.size A (dg za.natAbs)) (hr' : RI W1 W1.heap.size A' (dg zb.natAbs)) q => rcmp_r (c := c) (c' := c') hsa hsb W1 W hr hr' hla hlb q
  obtain ⟨r, hr⟩ : ∃ r, r = cmpZ za zb := ⟨_, rfl⟩
  obtain ⟨LA, hLA⟩ : ∃ x, x = (dg za.natAbs).length := ⟨_, rfl⟩
  obtain ⟨LB, hLB⟩ : ∃ x, x = (dg zb.natAbs).length := ⟨_, rfl⟩
  obtain ⟨DA, hDA⟩ : ∃ x, x = dg za.natAbs := ⟨_, rfl⟩
  obtain ⟨DB, hDB⟩ : ∃ x, x = dg zb.natAbs := ⟨_, rfl⟩
  unfold RNum at NA0 NB0
  rw [← hr] at CM0 ⊢
  rw [← hLA] at NA0 CM0
  rw [← hLB] at NB0 CM0
  rw [← hDA] at NA0 CM0
  rw [← hDB] at NB0 CM0
  have NA := Lib.hid NA0; have NB := Lib.hid NB0; have CM := Lib.hid CM0
  have HA := Lib.hid ((Box5.make w (.int .i64 k) (.string S) (.bool n) (.int .u64 h) (.int .u64 l) 41 rfl).alloc (.cells #[.int .i64 m, .string T, .bool o, .int .u64 i, .int .u64 j] 41))
  have HB := Lib.hid (Box5.make (w.alloc (.cells #[.int .i64 k, .string S, .bool n, .int .u64 h, .int .u64 l] 41)) (.int .i64 m) (.string T) (.bool o) (.int .u64 i) (.int .u64 j) 41 (g := w.heap.size + 1) (by simp))
  have hB0 : Below w.heap.size w ((w.alloc (.cells #[.int .i64 k, .string S, .bool n, .int .u64 h, .int .u64 l] 41)).alloc (.cells #[.int .i64 m, .string T, .bool o, .int .u64 i, .int .u64 j] 41)) := by (repeat' (first | (with_reducible exact Below.refl _ _) | (refine Below.trans ?_ (Below.mono (by with_reducible assumption) ?_)) | (with_reducible exact Below.refl _ _) | (with_reducible refine below_drewN ?_ _) | (with_reducible refine Below.drew ?_) | (with_reducible refine Below.setCell ?_ ?_ _) | (with_reducible refine Below.alloc ?_ ?_ _) | (with_reducible assumption) | (simp; done) | (simp; omega) | omega))
  have HB0 := Lib.hid hB0
  clear GA0 GB0 NA0 NB0 CM0 hsa hsb hla hlb hr hLA hLB hDA hDB hB0
  rcases ha with rfl | ⟨rfl, e1⟩
  all_goals
    rcases hb with rfl | ⟨rfl, e2⟩
    all_goals
      go_enter Try.func27, Try.ntmps27
      go_wp2_with (first
        | (go_at_call 37; (with_reducible refine (GA.out _).mono ?_); rintro e w2 ⟨rfl, q2⟩; have b5a_2 := Lib.hid (HA.out.below q2); have b5a_20 := b5a_2.out.c0; have b5a_21 := b5a_2.out.c1; have b5a_22 := b5a_2.out.c2; have b5a_23 := b5a_2.out.c3; have b5a_24 := b5a_2.out.c4; have b5a_2f0 := b5a_2.out.f0; have b5a_2f1 := b5a_2.out.f1; have b5a_2f2 := b5a_2.out.f2; have b5a_2f3 := b5a_2.out.f3; have b5a_2f4 := b5a_2.out.f4; have b5a_2z := b5a_2.out.z; have b5b_2 := Lib.hid (HB.out.below q2); have b5b_20 := b5b_2.out.c0; have b5b_21 := b5b_2.out.c1; have b5b_22 := b5b_2.out.c2; have b5b_23 := b5b_2.out.c3; have b5b_24 := b5b_2.out.c4; have b5b_2f0 := b5b_2.out.f0; have b5b_2f1 := b5b_2.out.f1; have b5b_2f2 := b5b_2.out.f2; have b5b_2f3 := b5b_2.out.f3; have b5b_2f4 := b5b_2.out.f4; have b5b_2z := b5b_2.out.z; have HB2 := Lib.hid (HB0.out.trans (q2.mono HB0.out.size)))
        | (go_at_call 37; (with_reducible refine (GB.out _).mono ?_); rintro e w3 ⟨rfl, b3⟩; have p3 : Below w2.heap.size w2 w3 := Below.trans (by repeat' (first | (with_reducible assumption) | (with_reducible exact Below.refl _ _) | (with_reducible refine Below.drew ?_) | (with_reducible refine below_drewN ?_ _) | (with_reducible refine Below.alloc ?_ ?_ _) | (with_reducible exact Nat.le_refl _) | (simp; done) | (simp; omega) | omega)) (Below.mono b3 (by first | omega | (simp; done) | (simp; omega))); have b5a_3 := Lib.hid (Box5.below b5a_2.out p3); have b5a_30 := b5a_3.out.c0; have b5a_31 := b5a_3.out.c1; have b5a_32 := b5a_3.out.c2; have b5a_33 := b5a_3.out.c3; have b5a_34 := b5a_3.out.c4; have b5a_3f0 := b5a_3.out.f0; have b5a_3f1 := b5a_3.out.f1; have b5a_3f2 := b5a_3.out.f2; have b5a_3f3 := b5a_3.out.f3; have b5a_3f4 := b5a_3.out.f4; have b5a_3z := b5a_3.out.z; have b5b_3 := Lib.hid (Box5.below b5b_2.out p3); have b5b_30 := b5b_3.out.c0; have b5b_31 := b5b_3.out.c1; have b5b_32 := b5b_3.out.c2; have b5b_33 := b5b_3.out.c3; have b5b_34 := b5b_3.out.c4; have b5b_3f0 := b5b_3.out.f0; have b5b_3f1 := b5b_3.out.f1; have b5b_3f2 := b5b_3.out.f2; have b5b_3f3 := b5b_3.out.f3; have b5b_3f4 := b5b_3.out.f4; have b5b_3z := b5b_3.out.z)
        | (go_at_call 36; (with_reducible refine (NA.out _).mono ?_); rintro e w4 ⟨⟨A4, c4, rfl, hi⟩, b4⟩; have p4 : Below w3.heap.size w3 w4 := Below.trans (by repeat' (first | (with_reducible assumption) | (with_reducible exact Below.refl _ _) | (with_reducible refine Below.drew ?_) | (with_reducible refine below_drewN ?_ _) | (with_reducible refine Below.alloc ?_ ?_ _) | (with_reducible exact Nat.le_refl _) | (simp; done) | (simp; omega) | omega)) (Below.mono b4 (by first | omega | (simp; done) | (simp; omega))); have b5b_4 := Lib.hid (Box5.below b5b_3.out p4); have b5b_40 := b5b_4.out.c0; have b5b_41 := b5b_4.out.c1; have b5b_42 := b5b_4.out.c2; have b5b_43 := b5b_4.out.c3; have b5b_44 := b5b_4.out.c4; have b5b_4f0 := b5b_4.out.f0; have b5b_4f1 := b5b_4.out.f1; have b5b_4f2 := b5b_4.out.f2; have b5b_4f3 := b5b_4.out.f3; have b5b_4f4 := b5b_4.out.f4; have b5b_4z := b5b_4.out.z; have HI4 := Lib.hid hi; clear hi)
        | (go_at_call 36; (with_reducible refine (NB.out _).mono ?_); rintro e w5 ⟨⟨A5, c5, rfl, hj⟩, b5⟩; have p5 : Below w4.heap.size w4 w5 := Below.trans (by repeat' (first | (with_reducible assumption) | (with_reducible exact Below.refl _ _) | (with_reducible refine Below.drew ?_) | (with_reducible refine below_drewN ?_ _) | (with_reducible refine Below.alloc ?_ ?_ _) | (with_reducible exact Nat.le_refl _) | (simp; done) | (simp; omega) | omega)) (Below.mono b5 (by first | omega | (simp; done) | (simp; omega))); have b2x_5 := Lib.hid ((Box2.make w4 (.bool sa) (.slice A4 LA c4) 34 rfl).below b5); have b2x_50 := b2x_5.out.c0; have b2x_51 := b2x_5.out.c1; have b2x_5f0 := b2x_5.out.f0; have b2x_5f1 := b2x_5.out.f1; have b2x_5z := b2x_5.out.z; have HI5 := Lib.hid ((HI4.out.below p5).more p5.size); have HJ5 := Lib.hid hj; clear hj)
        | (go_at_call 63; (with_reducible refine (CM.out A4 A5 c4 c5 w5 _ HI5.out HJ5.out (by repeat' (first | (with_reducible exact Below.refl _ _) | (with_reducible assumption) | (with_reducible refine Below.drew ?_) | (with_reducible refine below_drewN ?_ _) | (with_reducible refine Below.alloc ?_ ?_ _) | (with_reducible exact Nat.le_refl _) | (simp; done) | (simp; omega)))).mono ?_); rintro e w6 ⟨rfl, b6⟩; have p6 : Below w5.heap.size w5 w6 := Below.trans (by repeat' (first | (with_reducible assumption) | (with_reducible exact Below.refl _ _) | (with_reducible refine Below.drew ?_) | (with_reducible refine below_drewN ?_ _) | (with_reducible refine Below.alloc ?_ ?_ _) | (with_reducible exact Nat.le_refl _) | (simp; done) | (simp; omega) | omega)) (Below.mono b6 (by first | omega | (simp; done) | (simp; omega)))))
      go_ret
      exact ⟨by simp, by refine (below_step (below_step (below_step (below_step HB2.out p3) p4) p5) p6).trans ?_; (repeat' (first | (with_reducible exact Below.refl _ _) | (refine Below.trans ?_ (Below.mono (by with_reducible assumption) ?_)) | (with_reducible exact Below.refl _ _) | (with_reducible refine below_drewN ?_ _) | (with_reducible refine Below.drew ?_) | (with_reducible refine Below.setCell ?_ ?_ _) | (with_reducible refine Below.alloc ?_ ?_ _) | (with_reducible assumption) | (simp; done) | (simp; omega) | omega))⟩
set_option maxRecDepth 100000 in
set_option maxHeartbeats 3200000 in
theorem rccmp_text {k m : Int} {S T : ByteArray} {n o : Bool} {h l i j : Int} {ga gb : Bool} {ps qs : List Nat} (w : World) (hps : ∀ x ∈ ps, x < 256) (hqs : ∀ x ∈ qs, x < 256) (hpl : ps.length ≤ 1000) (hql : qs.length ≤ 1000)
    (GA0 : ∀ W, Calls Try.prog 37 #[.agg #[.int .i64 k, .string S, .bool n, .int .u64 h, .int .u64 l]] W fun e w' => e = .returned (.bool ga) ∧ Below W.heap.size W w')
    (GB0 : ∀ W, Calls Try.prog 37 #[.agg #[.int .i64 m, .string T, .bool o, .int .u64 i, .int .u64 j]] W fun e w' => e = .returned (.bool gb) ∧ Below W.heap.size W w')
    (SA0 : ∀ W, Calls Try.prog 39 #[.agg #[.int .i64 k, .string S, .bool n, .int .u64 h, .int .u64 l]] W fun e w' => e = .returned (.string (strN ps)) ∧ Below W.heap.size W w')
    (SB0 : ∀ W, Calls Try.prog 39 #[.agg #[.int .i64 m, .string T, .bool o, .int .u64 i, .int .u64 j]] W fun e w' => e = .returned (.string (strN qs)) ∧ Below W.heap.size W w')
    (hc : (ga = true ∧ k = 2) ∨ ((ga = false ∨ (ga = true ∧ (k == 2) = false)) ∧ gb = true ∧ m = 2)) :
    Calls Try.prog 27 #[.agg #[.int .i64 k, .string S, .bool n, .int .u64 h, .int .u64 l], .agg #[.int .i64 m, .string T, .bool o, .int .u64 i, .int .u64 j]] w fun e w' => e = .returned (.int .i64 (cmpS (strN ps) (strN qs))) ∧ Below w.heap.size w w' := by
  rw [cmpS_N hps hqs]
  have HGP := Lib.hid (fun k (hk : k < ps.length) (hk' : k < (strN ps).size) => strN_get hps k hk hk')
  have HGQ := Lib.hid (fun k (hk : k < qs.length) (hk' : k < (strN qs).size) => strN_get hqs k hk hk')
  have hPs := strN_size ps; have hQs := strN_size qs
  have GA := Lib.hid GA0; have GB := Lib.hid GB0; have SA := Lib.hid SA0; have SB := Lib.hid SB0
  generalize strN ps = P at *
  generalize strN qs = Q at *
  obtain ⟨r, hr⟩ : ∃ r, r = cmpN ps qs := ⟨_, rfl⟩
  rw [← hr]
  have HR := Lib.hid hr; have HPS := Lib.hid hPs; have HQS := Lib.hid hQs
  have hp1 : P.size ≤ 1000 := by omega
  have hq1 : Q.size ≤ 1000 := by omega
  have HA := Lib.hid ((Box5.make w (.int .i64 k) (.string S) (.bool n) (.int .u64 h) (.int .u64 l) 41 rfl).alloc (.cells #[.int .i64 m, .string T, .bool o, .int .u64 i, .int .u64 j] 41))
  have HB := Lib.hid (Box5.make (w.alloc (.cells #[.int .i64 k, .string S, .bool n, .int .u64 h, .int .u64 l] 41)) (.int .i64 m) (.string T) (.bool o) (.int .u64 i) (.int .u64 j) 41 (g := w.heap.size + 1) (by simp))
  have hB0 : Below w.heap.size w ((w.alloc (.cells #[.int .i64 k, .string S, .bool n, .int .u64 h, .int .u64 l] 41)).alloc (.cells #[.int .i64 m, .string T, .bool o, .int .u64 i, .int .u64 j] 41)) := by (repeat' (first | (with_reducible exact Below.refl _ _) | (refine Below.trans ?_ (Below.mono (by with_reducible assumption) ?_)) | (with_reducible exact Below.refl _ _) | (with_reducible refine below_drewN ?_ _) | (with_reducible refine Below.drew ?_) | (with_reducible refine Below.setCell ?_ ?_ _) | (with_reducible refine Below.alloc ?_ ?_ _) | (with_reducible assumption) | (simp; done) | (simp; omega) | omega))
  have HB0 := Lib.hid hB0
  clear GA0 GB0 SA0 SB0 hr hPs hQs hB0 hps hqs hpl hql
  have hcc : (∃ b, ga = true ∧ k = 2 ∧ b = true) ∨ (ga = false ∧ gb = true ∧ m = 2) ∨ (ga = true ∧ (k == 2) = false ∧ gb = true ∧ m = 2) := by
    rcases hc with ⟨h1, h2⟩ | ⟨h1 | ⟨h1, h2⟩, h3, h4⟩
    · exact .inl ⟨true, h1, h2, rfl⟩
    · exact .inr (.inl ⟨h1, h3, h4⟩)
    · exact .inr (.inr ⟨h1, h2, h3, h4⟩)
  clear hc
  rcases hcc with ⟨b, rfl, rfl, rfl⟩ | ⟨rfl, rfl, rfl⟩ | ⟨rfl, e1, rfl, rfl⟩
  · go_enter Try.func27, Try.ntmps27
    go_upto_region 8 with (first
        | (go_at_call 37; (with_reducible refine (GA.out _).mono ?_); rintro e w2 ⟨rfl, q2⟩; have b5a_2 := Lib.hid (HA.out.below q2); have b5a_20 := b5a_2.out.c0; have b5a_21 := b5a_2.out.c1; have b5a_22 := b5a_2.out.c2; have b5a_23 := b5a_2.out.c3; have b5a_24 := b5a_2.out.c4; have b5a_2f0 := b5a_2.out.f0; have b5a_2f1 := b5a_2.out.f1; have b5a_2f2 := b5a_2.out.f2; have b5a_2f3 := b5a_2.out.f3; have b5a_2f4 := b5a_2.out.f4; have b5a_2z := b5a_2.out.z; have b5b_2 := Lib.hid (HB.out.below q2); have b5b_20 := b5b_2.out.c0; have b5b_21 := b5b_2.out.c1; have b5b_22 := b5b_2.out.c2; have b5b_23 := b5b_2.out.c3; have b5b_24 := b5b_2.out.c4; have b5b_2f0 := b5b_2.out.f0; have b5b_2f1 := b5b_2.out.f1; have b5b_2f2 := b5b_2.out.f2; have b5b_2f3 := b5b_2.out.f3; have b5b_2f4 := b5b_2.out.f4; have b5b_2z := b5b_2.out.z; have HB2 := Lib.hid (HB0.out.trans (q2.mono HB0.out.size)))
        | (go_at_call 39; (with_reducible refine (SA.out _).mono ?_); rintro e w3 ⟨rfl, b3⟩; have p3 : Below w2.heap.size w2 w3 := Below.trans (by repeat' (first | (with_reducible assumption) | (with_reducible exact Below.refl _ _) | (with_reducible refine Below.drew ?_) | (with_reducible refine below_drewN ?_ _) | (with_reducible refine Below.alloc ?_ ?_ _) | (with_reducible exact Nat.le_refl _) | (simp; done) | (simp; omega) | omega)) (Below.mono b3 (by first | omega | (simp; done) | (simp; omega))); have b5b_3 := Lib.hid (Box5.below b5b_2.out p3); have b5b_30 := b5b_3.out.c0; have b5b_31 := b5b_3.out.c1; have b5b_32 := b5b_3.out.c2; have b5b_33 := b5b_3.out.c3; have b5b_34 := b5b_3.out.c4; have b5b_3f0 := b5b_3.out.f0; have b5b_3f1 := b5b_3.out.f1; have b5b_3f2 := b5b_3.out.f2; have b5b_3f3 := b5b_3.out.f3; have b5b_3f4 := b5b_3.out.f4; have b5b_3z := b5b_3.out.z)
        | (go_at_call 39; (with_reducible refine (SB.out _).mono ?_); rintro e w4 ⟨rfl, b4⟩; have p4 : Below w3.heap.size w3 w4 := Below.trans (by repeat' (first | (with_reducible assumption) | (with_reducible exact Below.refl _ _) | (with_reducible refine Below.drew ?_) | (with_reducible refine below_drewN ?_ _) | (with_reducible refine Below.alloc ?_ ?_ _) | (with_reducible exact Nat.le_refl _) | (simp; done) | (simp; omega) | omega)) (Below.mono b4 (by first | omega | (simp; done) | (simp; omega)))))
    have HB4 := Lib.hid (below_step (below_step HB2.out p3) p4)
    clear b5b_2 b5b_2z b5b_20 b5b_21 b5b_22 b5b_23 b5b_24 b5b_2f0 b5b_2f1 b5b_2f2 b5b_2f3 b5b_2f4 b5b_3 b5b_3z b5b_30 b5b_31 b5b_32 b5b_33 b5b_34 b5b_3f0 b5b_3f1 b5b_3f2 b5b_3f3 b5b_3f4
    clear b5a_2 b5a_2z b5a_20 b5a_21 b5a_22 b5a_23 b5a_24 b5a_2f0 b5a_2f1 b5a_2f2 b5a_2f3 b5a_2f4
    clear p3 p4 b3 b4 q2 HB2 HA HB GA GB SA SB HB0
    go_wp2_with fail
    go_loopw [12] (fun v wr => ∃ q : Nat, q ≤ P.size ∧ q ≤ Q.size ∧ v = .int .i64 (q : Int) ∧ Hid (cmpN (ps.drop q) (qs.drop q) = r) ∧ Hid (Below w.heap.size w wr)) (fun v _ => P.size - (intOf v).toNat)
    case atStart => exact ⟨0, Nat.zero_le _, Nat.zero_le _, rfl, Lib.hid HR.out.symm, HB4⟩
    case round =>
      obtain ⟨q, hq1', hq2', rfl, HC, HW⟩ := hrel
      obtain ⟨w5, rfl⟩ : ∃ x, x = wr := ⟨_, rfl⟩
      by_cases h1 : q < P.size
      · by_cases h2 : q < Q.size
        · have g1 : ((q : Int)).toNat = q := by simp
          go_upto_region 11 with fail
          refine wp_region_held_drew (S := (fun _ => True)) (by kernel_rfl) ?_ (fun hHeld => ?_)
          · (try dsimp only)
            (try trivial)
          refine h4_take (i := 0) (v := ?v0) rfl (by kernel_rfl) (by kernel_rfl) (by kernel_rfl) (fun _ _ _ h => h) (by rfl) ?y0 hHeld ?r0
          case y0 => (intro wS hSw; (try dsimp only at hSw); go_simp; (try with_reducible rfl))
          try simp only [Act.put, List.setIfInBounds_toArray, List.set_cons_zero, List.set_cons_succ]
          refine h4_take (i := 1) (v := ?v1) rfl (by kernel_rfl) (by kernel_rfl) (by kernel_rfl) (fun _ _ _ h => h) (by rfl) ?y1 hHeld ?r1
          case y1 => (intro wS hSw; (try dsimp only at hSw); go_simp; (try with_reducible rfl))
          try simp only [Act.put, List.setIfInBounds_toArray, List.set_cons_zero, List.set_cons_succ]
          refine h4_take (i := 2) (v := ?v2) rfl (by kernel_rfl) (by kernel_rfl) (by kernel_rfl) (fun _ _ _ h => h) (by rfl) ?y2 hHeld ?r2
          case y2 => (intro wS hSw; (try dsimp only at hSw); go_simp; (try with_reducible rfl))
          try simp only [Act.put, List.setIfInBounds_toArray, List.set_cons_zero, List.set_cons_succ]
          refine h4_take (i := 3) (v := ?v3) rfl (by kernel_rfl) (by kernel_rfl) (by kernel_rfl) (fun _ _ _ h => h) (by rfl) ?y3 hHeld ?r3
          case y3 => (intro wS hSw; (try dsimp only at hSw); go_simp; (try with_reducible rfl))
          try simp only [Act.put, List.setIfInBounds_toArray, List.set_cons_zero, List.set_cons_succ]
          refine h4_take (i := 4) (v := ?v4) rfl (by kernel_rfl) (by kernel_rfl) (by kernel_rfl) (fun _ _ _ h => h) (by rfl) ?y4 hHeld ?r4
          case y4 => (intro wS hSw; (try dsimp only at hSw); go_simp; (try with_reducible rfl))
          try simp only [Act.put, List.setIfInBounds_toArray, List.set_cons_zero, List.set_cons_succ]
          refine h4_take (i := 5) (v := ?v5) rfl (by kernel_rfl) (by kernel_rfl) (by kernel_rfl) (fun _ _ _ h => h) (by rfl) ?y5 hHeld ?r5
          case y5 => (intro wS hSw; (try dsimp only at hSw); go_simp; (try with_reducible rfl))
          try simp only [Act.put, List.setIfInBounds_toArray, List.set_cons_zero, List.set_cons_succ]
          refine h4_take (i := 6) (v := ?v6) rfl (by kernel_rfl) (by kernel_rfl) (by kernel_rfl) (fun _ _ _ h => h) (by rfl) ?y6 hHeld ?r6
          case y6 => (intro wS hSw; (try dsimp only at hSw); go_simp; (try with_reducible rfl))
          try simp only [Act.put, List.setIfInBounds_toArray, List.set_cons_zero, List.set_cons_succ]
          refine wpAnyH_done (by kernel_rfl) ?_ _
          have HX := Lib.hid (HGP.out q (by have := HPS.out; omega) h1)
          have HY := Lib.hid (HGQ.out q (by have := HQS.out; omega) h2)
          by_cases hlt : (P[q].toNat : Int) < (Q[q].toNat : Int)
          · have hfin : r = -1 := by
              have h3 := cmpN_step (a := ps) (b := qs) (k := q) (by have := HPS.out; omega) (by have := HQS.out; omega)
              rw [HC.out, if_pos (by have := HX.out; have := HY.out; omega)] at h3
              exact h3
            have HF := Lib.hid hfin
            clear hfin HX HY
            go_wp2_with fail
            go_ret
            exact ⟨by rw [HF.out]; simp, by refine HW.out.trans ?_; (repeat' (first | (with_reducible exact Below.refl _ _) | (refine Below.trans ?_ (Below.mono (by with_reducible assumption) ?_)) | (with_reducible exact Below.refl _ _) | (with_reducible refine below_drewN ?_ _) | (with_reducible refine Below.drew ?_) | (with_reducible refine Below.setCell ?_ ?_ _) | (with_reducible refine Below.alloc ?_ ?_ _) | (with_reducible assumption) | (simp; done) | (simp; omega) | omega))⟩
          · go_upto_region 13 with fail
            refine wp_region_held_drew (S := (fun _ => True)) (by kernel_rfl) ?_ (fun hHeld => ?_)
            · (try dsimp only)
              (try trivial)
            refine h4_take (i := 0) (v := ?v7) rfl (by kernel_rfl) (by kernel_rfl) (by kernel_rfl) (fun _ _ _ h => h) (by rfl) ?y7 hHeld ?r7
            case y7 => (intro wS hSw; (try dsimp only at hSw); go_simp; (try with_reducible rfl))
            try simp only [Act.put, List.setIfInBounds_toArray, List.set_cons_zero, List.set_cons_succ]
            refine h4_take (i := 1) (v := ?v8) rfl (by kernel_rfl) (by kernel_rfl) (by kernel_rfl) (fun _ _ _ h => h) (by rfl) ?y8 hHeld ?r8
            case y8 => (intro wS hSw; (try dsimp only at hSw); go_simp; (try with_reducible rfl))
            try simp only [Act.put, List.setIfInBounds_toArray, List.set_cons_zero, List.set_cons_succ]
            refine h4_take (i := 2) (v := ?v9) rfl (by kernel_rfl) (by kernel_rfl) (by kernel_rfl) (fun _ _ _ h => h) (by rfl) ?y9 hHeld ?r9
            case y9 => (intro wS hSw; (try dsimp only at hSw); go_simp; (try with_reducible rfl))
            try simp only [Act.put, List.setIfInBounds_toArray, List.set_cons_zero, List.set_cons_succ]
            refine h4_take (i := 3) (v := ?v10) rfl (by kernel_rfl) (by kernel_rfl) (by kernel_rfl) (fun _ _ _ h => h) (by rfl) ?y10 hHeld ?r10
            case y10 => (intro wS hSw; (try dsimp only at hSw); go_simp; (try with_reducible rfl))
            try simp only [Act.put, List.setIfInBounds_toArray, List.set_cons_zero, List.set_cons_succ]
            refine h4_take (i := 4) (v := ?v11) rfl (by kernel_rfl) (by kernel_rfl) (by kernel_rfl) (fun _ _ _ h => h) (by rfl) ?y11 hHeld ?r11
            case y11 => (intro wS hSw; (try dsimp only at hSw); go_simp; (try with_reducible rfl))
            try simp only [Act.put, List.setIfInBounds_toArray, List.set_cons_zero, List.set_cons_succ]
            refine h4_take (i := 5) (v := ?v12) rfl (by kernel_rfl) (by kernel_rfl) (by kernel_rfl) (fun _ _ _ h => h) (by rfl) ?y12 hHeld ?r12
            case y12 => (intro wS hSw; (try dsimp only at hSw); go_simp; (try with_reducible rfl))
            try simp only [Act.put, List.setIfInBounds_toArray, List.set_cons_zero, List.set_cons_succ]
            refine h4_take (i := 6) (v := ?v13) rfl (by kernel_rfl) (by kernel_rfl) (by kernel_rfl) (fun _ _ _ h => h) (by rfl) ?y13 hHeld ?r13
            case y13 => (intro wS hSw; (try dsimp only at hSw); go_simp; (try with_reducible rfl))
            try simp only [Act.put, List.setIfInBounds_toArray, List.set_cons_zero, List.set_cons_succ]
            refine wpAnyH_done (by kernel_rfl) ?_ _
            by_cases hgt : (Q[q].toNat : Int) < (P[q].toNat : Int)
            · have hfin : r = 1 := by
                have h3 := cmpN_step (a := ps) (b := qs) (k := q) (by have := HPS.out; omega) (by have := HQS.out; omega)
                rw [HC.out, if_neg (by have := HX.out; have := HY.out; omega), if_pos (by have := HX.out; have := HY.out; omega)] at h3
                exact h3
              have HF := Lib.hid hfin
              clear hfin HX HY
              go_wp2_with fail
              go_ret
              exact ⟨by rw [HF.out]; simp, by refine HW.out.trans ?_; (repeat' (first | (with_reducible exact Below.refl _ _) | (refine Below.trans ?_ (Below.mono (by with_reducible assumption) ?_)) | (with_reducible exact Below.refl _ _) | (with_reducible refine below_drewN ?_ _) | (with_reducible refine Below.drew ?_) | (with_reducible refine Below.setCell ?_ ?_ _) | (with_reducible refine Below.alloc ?_ ?_ _) | (with_reducible assumption) | (simp; done) | (simp; omega) | omega))⟩
            · have hnx : cmpN (ps.drop (q + 1)) (qs.drop (q + 1)) = r := by
                have h3 := cmpN_step (a := ps) (b := qs) (k := q) (by have := HPS.out; omega) (by have := HQS.out; omega)
                rw [HC.out, if_neg (by have := HX.out; have := HY.out; omega), if_neg (by have := HX.out; have := HY.out; omega)] at h3
                exact h3.symm
              have HF := Lib.hid hnx
              clear hnx HX HY
              go_wp2_with fail
              go_roundw
              case rel => exact ⟨q + 1, by omega, by omega, by go_num, HF, Lib.hid (HW.out.trans (by (repeat' (first | (with_reducible exact Below.refl _ _) | (refine Below.trans ?_ (Below.mono (by with_reducible assumption) ?_)) | (with_reducible exact Below.refl _ _) | (with_reducible refine below_drewN ?_ _) | (with_reducible refine Below.drew ?_) | (with_reducible refine Below.setCell ?_ ?_ _) | (with_reducible refine Below.alloc ?_ ?_ _) | (with_reducible assumption) | (simp; done) | (simp; omega) | omega))))⟩
              case measure => simp [intOf]; omega
        · have hfin : r = if P.size < Q.size then -1 else if Q.size < P.size then 1 else 0 := by
            have h3 := cmpN_end (a := ps) (b := qs) (k := q) (by have := HPS.out; have := HQS.out; omega) (by have := HPS.out; omega) (by have := HQS.out; omega)
            rw [HC.out, ← HPS.out, ← HQS.out] at h3
            exact h3
          have HF := Lib.hid hfin
          clear hfin
          go_wp2_with fail
          all_goals
            go_ret
            exact ⟨by rw [HF.out]; simp_all <;> omega, by refine HW.out.trans ?_; (repeat' (first | (with_reducible exact Below.refl _ _) | (refine Below.trans ?_ (Below.mono (by with_reducible assumption) ?_)) | (with_reducible exact Below.refl _ _) | (with_reducible refine below_drewN ?_ _) | (with_reducible refine Below.drew ?_) | (with_reducible refine Below.setCell ?_ ?_ _) | (with_reducible refine Below.alloc ?_ ?_ _) | (with_reducible assumption) | (simp; done) | (simp; omega) | omega))⟩
      · have hfin : r = if P.size < Q.size then -1 else if Q.size < P.size then 1 else 0 := by
          have h3 := cmpN_end (a := ps) (b := qs) (k := q) (by have := HPS.out; have := HQS.out; omega) (by have := HPS.out; omega) (by have := HQS.out; omega)
          rw [HC.out, ← HPS.out, ← HQS.out] at h3
          exact h3
        have HF := Lib.hid hfin
        clear hfin
        go_wp2_with fail
        all_goals
          go_ret
          exact ⟨by rw [HF.out]; simp_all <;> omega, by refine HW.out.trans ?_; (repeat' (first | (with_reducible exact Below.refl _ _) | (refine Below.trans ?_ (Below.mono (by with_reducible assumption) ?_)) | (with_reducible exact Below.refl _ _) | (with_reducible refine below_drewN ?_ _) | (with_reducible refine Below.drew ?_) | (with_reducible refine Below.setCell ?_ ?_ _) | (with_reducible refine Below.alloc ?_ ?_ _) | (with_reducible assumption) | (simp; done) | (simp; omega) | omega))⟩
  · go_enter Try.func27, Try.ntmps27
    go_upto_region 8 with (first
        | (go_at_call 37; (with_reducible refine (GA.out _).mono ?_); rintro e w1 ⟨rfl, q1⟩; have b5a_1 := Lib.hid (HA.out.below q1); have b5a_10 := b5a_1.out.c0; have b5a_11 := b5a_1.out.c1; have b5a_12 := b5a_1.out.c2; have b5a_13 := b5a_1.out.c3; have b5a_14 := b5a_1.out.c4; have b5a_1f0 := b5a_1.out.f0; have b5a_1f1 := b5a_1.out.f1; have b5a_1f2 := b5a_1.out.f2; have b5a_1f3 := b5a_1.out.f3; have b5a_1f4 := b5a_1.out.f4; have b5a_1z := b5a_1.out.z; have b5b_1 := Lib.hid (HB.out.below q1); have b5b_10 := b5b_1.out.c0; have b5b_11 := b5b_1.out.c1; have b5b_12 := b5b_1.out.c2; have b5b_13 := b5b_1.out.c3; have b5b_14 := b5b_1.out.c4; have b5b_1f0 := b5b_1.out.f0; have b5b_1f1 := b5b_1.out.f1; have b5b_1f2 := b5b_1.out.f2; have b5b_1f3 := b5b_1.out.f3; have b5b_1f4 := b5b_1.out.f4; have b5b_1z := b5b_1.out.z; have HB1 := Lib.hid (HB0.out.trans (q1.mono HB0.out.size)))
        | (go_at_call 37; (with_reducible refine (GB.out _).mono ?_); rintro e w2 ⟨rfl, b2⟩; have p2 : Below w1.heap.size w1 w2 := Below.trans (by repeat' (first | (with_reducible assumption) | (with_reducible exact Below.refl _ _) | (with_reducible refine Below.drew ?_) | (with_reducible refine below_drewN ?_ _) | (with_reducible refine Below.alloc ?_ ?_ _) | (with_reducible exact Nat.le_refl _) | (simp; done) | (simp; omega) | omega)) (Below.mono b2 (by first | omega | (simp; done) | (simp; omega))); have b5a_2 := Lib.hid (Box5.below b5a_1.out p2); have b5a_20 := b5a_2.out.c0; have b5a_21 := b5a_2.out.c1; have b5a_22 := b5a_2.out.c2; have b5a_23 := b5a_2.out.c3; have b5a_24 := b5a_2.out.c4; have b5a_2f0 := b5a_2.out.f0; have b5a_2f1 := b5a_2.out.f1; have b5a_2f2 := b5a_2.out.f2; have b5a_2f3 := b5a_2.out.f3; have b5a_2f4 := b5a_2.out.f4; have b5a_2z := b5a_2.out.z; have b5b_2 := Lib.hid (Box5.below b5b_1.out p2); have b5b_20 := b5b_2.out.c0; have b5b_21 := b5b_2.out.c1; have b5b_22 := b5b_2.out.c2; have b5b_23 := b5b_2.out.c3; have b5b_24 := b5b_2.out.c4; have b5b_2f0 := b5b_2.out.f0; have b5b_2f1 := b5b_2.out.f1; have b5b_2f2 := b5b_2.out.f2; have b5b_2f3 := b5b_2.out.f3; have b5b_2f4 := b5b_2.out.f4; have b5b_2z := b5b_2.out.z)
        | (go_at_call 39; (with_reducible refine (SA.out _).mono ?_); rintro e w3 ⟨rfl, b3⟩; have p3 : Below w2.heap.size w2 w3 := Below.trans (by repeat' (first | (with_reducible assumption) | (with_reducible exact Below.refl _ _) | (with_reducible refine Below.drew ?_) | (with_reducible refine below_drewN ?_ _) | (with_reducible refine Below.alloc ?_ ?_ _) | (with_reducible exact Nat.le_refl _) | (simp; done) | (simp; omega) | omega)) (Below.mono b3 (by first | omega | (simp; done) | (simp; omega))); have b5b_3 := Lib.hid (Box5.below b5b_2.out p3); have b5b_30 := b5b_3.out.c0; have b5b_31 := b5b_3.out.c1; have b5b_32 := b5b_3.out.c2; have b5b_33 := b5b_3.out.c3; have b5b_34 := b5b_3.out.c4; have b5b_3f0 := b5b_3.out.f0; have b5b_3f1 := b5b_3.out.f1; have b5b_3f2 := b5b_3.out.f2; have b5b_3f3 := b5b_3.out.f3; have b5b_3f4 := b5b_3.out.f4; have b5b_3z := b5b_3.out.z)
        | (go_at_call 39; (with_reducible refine (SB.out _).mono ?_); rintro e w4 ⟨rfl, b4⟩; have p4 : Below w3.heap.size w3 w4 := Below.trans (by repeat' (first | (with_reducible assumption) | (with_reducible exact Below.refl _ _) | (with_reducible refine Below.drew ?_) | (with_reducible refine below_drewN ?_ _) | (with_reducible refine Below.alloc ?_ ?_ _) | (with_reducible exact Nat.le_refl _) | (simp; done) | (simp; omega) | omega)) (Below.mono b4 (by first | omega | (simp; done) | (simp; omega)))))
    have HB4 := Lib.hid (below_step (below_step (below_step HB1.out p2) p3) p4)
    clear b5b_1 b5b_1z b5b_10 b5b_11 b5b_12 b5b_13 b5b_14 b5b_1f0 b5b_1f1 b5b_1f2 b5b_1f3 b5b_1f4 b5b_2 b5b_2z b5b_20 b5b_21 b5b_22 b5b_23 b5b_24 b5b_2f0 b5b_2f1 b5b_2f2 b5b_2f3 b5b_2f4 b5b_3 b5b_3z b5b_30 b5b_31 b5b_32 b5b_33 b5b_34 b5b_3f0 b5b_3f1 b5b_3f2 b5b_3f3 b5b_3f4
    clear b5a_1 b5a_1z b5a_10 b5a_11 b5a_12 b5a_13 b5a_14 b5a_1f0 b5a_1f1 b5a_1f2 b5a_1f3 b5a_1f4 b5a_2 b5a_2z b5a_20 b5a_21 b5a_22 b5a_23 b5a_24 b5a_2f0 b5a_2f1 b5a_2f2 b5a_2f3 b5a_2f4
    clear p2 p3 p4 b2 b3 b4 q1 HB1 HA HB GA GB SA SB HB0
    go_wp2_with fail
    go_loopw [12] (fun v wr => ∃ q : Nat, q ≤ P.size ∧ q ≤ Q.size ∧ v = .int .i64 (q : Int) ∧ Hid (cmpN (ps.drop q) (qs.drop q) = r) ∧ Hid (Below w.heap.size w wr)) (fun v _ => P.size - (intOf v).toNat)
    case atStart => exact ⟨0, Nat.zero_le _, Nat.zero_le _, rfl, Lib.hid HR.out.symm, HB4⟩
    case round =>
      obtain ⟨q, hq1', hq2', rfl, HC, HW⟩ := hrel
      obtain ⟨w5, rfl⟩ : ∃ x, x = wr := ⟨_, rfl⟩
      by_cases h1 : q < P.size
      · by_cases h2 : q < Q.size
        · have g1 : ((q : Int)).toNat = q := by simp
          go_upto_region 11 with fail
          refine wp_region_held_drew (S := (fun _ => True)) (by kernel_rfl) ?_ (fun hHeld => ?_)
          · (try dsimp only)
            (try trivial)
          refine h4_take (i := 0) (v := ?v14) rfl (by kernel_rfl) (by kernel_rfl) (by kernel_rfl) (fun _ _ _ h => h) (by rfl) ?y14 hHeld ?r14
          case y14 => (intro wS hSw; (try dsimp only at hSw); go_simp; (try with_reducible rfl))
          try simp only [Act.put, List.setIfInBounds_toArray, List.set_cons_zero, List.set_cons_succ]
          refine h4_take (i := 1) (v := ?v15) rfl (by kernel_rfl) (by kernel_rfl) (by kernel_rfl) (fun _ _ _ h => h) (by rfl) ?y15 hHeld ?r15
          case y15 => (intro wS hSw; (try dsimp only at hSw); go_simp; (try with_reducible rfl))
          try simp only [Act.put, List.setIfInBounds_toArray, List.set_cons_zero, List.set_cons_succ]
          refine h4_take (i := 2) (v := ?v16) rfl (by kernel_rfl) (by kernel_rfl) (by kernel_rfl) (fun _ _ _ h => h) (by rfl) ?y16 hHeld ?r16
          case y16 => (intro wS hSw; (try dsimp only at hSw); go_simp; (try with_reducible rfl))
          try simp only [Act.put, List.setIfInBounds_toArray, List.set_cons_zero, List.set_cons_succ]
          refine h4_take (i := 3) (v := ?v17) rfl (by kernel_rfl) (by kernel_rfl) (by kernel_rfl) (fun _ _ _ h => h) (by rfl) ?y17 hHeld ?r17
          case y17 => (intro wS hSw; (try dsimp only at hSw); go_simp; (try with_reducible rfl))
          try simp only [Act.put, List.setIfInBounds_toArray, List.set_cons_zero, List.set_cons_succ]
          refine h4_take (i := 4) (v := ?v18) rfl (by kernel_rfl) (by kernel_rfl) (by kernel_rfl) (fun _ _ _ h => h) (by rfl) ?y18 hHeld ?r18
          case y18 => (intro wS hSw; (try dsimp only at hSw); go_simp; (try with_reducible rfl))
          try simp only [Act.put, List.setIfInBounds_toArray, List.set_cons_zero, List.set_cons_succ]
          refine h4_take (i := 5) (v := ?v19) rfl (by kernel_rfl) (by kernel_rfl) (by kernel_rfl) (fun _ _ _ h => h) (by rfl) ?y19 hHeld ?r19
          case y19 => (intro wS hSw; (try dsimp only at hSw); go_simp; (try with_reducible rfl))
          try simp only [Act.put, List.setIfInBounds_toArray, List.set_cons_zero, List.set_cons_succ]
          refine h4_take (i := 6) (v := ?v20) rfl (by kernel_rfl) (by kernel_rfl) (by kernel_rfl) (fun _ _ _ h => h) (by rfl) ?y20 hHeld ?r20
          case y20 => (intro wS hSw; (try dsimp only at hSw); go_simp; (try with_reducible rfl))
          try simp only [Act.put, List.setIfInBounds_toArray, List.set_cons_zero, List.set_cons_succ]
          refine wpAnyH_done (by kernel_rfl) ?_ _
          have HX := Lib.hid (HGP.out q (by have := HPS.out; omega) h1)
          have HY := Lib.hid (HGQ.out q (by have := HQS.out; omega) h2)
          by_cases hlt : (P[q].toNat : Int) < (Q[q].toNat : Int)
          · have hfin : r = -1 := by
              have h3 := cmpN_step (a := ps) (b := qs) (k := q) (by have := HPS.out; omega) (by have := HQS.out; omega)
              rw [HC.out, if_pos (by have := HX.out; have := HY.out; omega)] at h3
              exact h3
            have HF := Lib.hid hfin
            clear hfin HX HY
            go_wp2_with fail
            go_ret
            exact ⟨by rw [HF.out]; simp, by refine HW.out.trans ?_; (repeat' (first | (with_reducible exact Below.refl _ _) | (refine Below.trans ?_ (Below.mono (by with_reducible assumption) ?_)) | (with_reducible exact Below.refl _ _) | (with_reducible refine below_drewN ?_ _) | (with_reducible refine Below.drew ?_) | (with_reducible refine Below.setCell ?_ ?_ _) | (with_reducible refine Below.alloc ?_ ?_ _) | (with_reducible assumption) | (simp; done) | (simp; omega) | omega))⟩
          · go_upto_region 13 with fail
            refine wp_region_held_drew (S := (fun _ => True)) (by kernel_rfl) ?_ (fun hHeld => ?_)
            · (try dsimp only)
              (try trivial)
            refine h4_take (i := 0) (v := ?v21) rfl (by kernel_rfl) (by kernel_rfl) (by kernel_rfl) (fun _ _ _ h => h) (by rfl) ?y21 hHeld ?r21
            case y21 => (intro wS hSw; (try dsimp only at hSw); go_simp; (try with_reducible rfl))
            try simp only [Act.put, List.setIfInBounds_toArray, List.set_cons_zero, List.set_cons_succ]
            refine h4_take (i := 1) (v := ?v22) rfl (by kernel_rfl) (by kernel_rfl) (by kernel_rfl) (fun _ _ _ h => h) (by rfl) ?y22 hHeld ?r22
            case y22 => (intro wS hSw; (try dsimp only at hSw); go_simp; (try with_reducible rfl))
            try simp only [Act.put, List.setIfInBounds_toArray, List.set_cons_zero, List.set_cons_succ]
            refine h4_take (i := 2) (v := ?v23) rfl (by kernel_rfl) (by kernel_rfl) (by kernel_rfl) (fun _ _ _ h => h) (by rfl) ?y23 hHeld ?r23
            case y23 => (intro wS hSw; (try dsimp only at hSw); go_simp; (try with_reducible rfl))
            try simp only [Act.put, List.setIfInBounds_toArray, List.set_cons_zero, List.set_cons_succ]
            refine h4_take (i := 3) (v := ?v24) rfl (by kernel_rfl) (by kernel_rfl) (by kernel_rfl) (fun _ _ _ h => h) (by rfl) ?y24 hHeld ?r24
            case y24 => (intro wS hSw; (try dsimp only at hSw); go_simp; (try with_reducible rfl))
            try simp only [Act.put, List.setIfInBounds_toArray, List.set_cons_zero, List.set_cons_succ]
            refine h4_take (i := 4) (v := ?v25) rfl (by kernel_rfl) (by kernel_rfl) (by kernel_rfl) (fun _ _ _ h => h) (by rfl) ?y25 hHeld ?r25
            case y25 => (intro wS hSw; (try dsimp only at hSw); go_simp; (try with_reducible rfl))
            try simp only [Act.put, List.setIfInBounds_toArray, List.set_cons_zero, List.set_cons_succ]
            refine h4_take (i := 5) (v := ?v26) rfl (by kernel_rfl) (by kernel_rfl) (by kernel_rfl) (fun _ _ _ h => h) (by rfl) ?y26 hHeld ?r26
            case y26 => (intro wS hSw; (try dsimp only at hSw); go_simp; (try with_reducible rfl))
            try simp only [Act.put, List.setIfInBounds_toArray, List.set_cons_zero, List.set_cons_succ]
            refine h4_take (i := 6) (v := ?v27) rfl (by kernel_rfl) (by kernel_rfl) (by kernel_rfl) (fun _ _ _ h => h) (by rfl) ?y27 hHeld ?r27
            case y27 => (intro wS hSw; (try dsimp only at hSw); go_simp; (try with_reducible rfl))
            try simp only [Act.put, List.setIfInBounds_toArray, List.set_cons_zero, List.set_cons_succ]
            refine wpAnyH_done (by kernel_rfl) ?_ _
            by_cases hgt : (Q[q].toNat : Int) < (P[q].toNat : Int)
            · have hfin : r = 1 := by
                have h3 := cmpN_step (a := ps) (b := qs) (k := q) (by have := HPS.out; omega) (by have := HQS.out; omega)
                rw [HC.out, if_neg (by have := HX.out; have := HY.out; omega), if_pos (by have := HX.out; have := HY.out; omega)] at h3
                exact h3
              have HF := Lib.hid hfin
              clear hfin HX HY
              go_wp2_with fail
              go_ret
              exact ⟨by rw [HF.out]; simp, by refine HW.out.trans ?_; (repeat' (first | (with_reducible exact Below.refl _ _) | (refine Below.trans ?_ (Below.mono (by with_reducible assumption) ?_)) | (with_reducible exact Below.refl _ _) | (with_reducible refine below_drewN ?_ _) | (with_reducible refine Below.drew ?_) | (with_reducible refine Below.setCell ?_ ?_ _) | (with_reducible refine Below.alloc ?_ ?_ _) | (with_reducible assumption) | (simp; done) | (simp; omega) | omega))⟩
            · have hnx : cmpN (ps.drop (q + 1)) (qs.drop (q + 1)) = r := by
                have h3 := cmpN_step (a := ps) (b := qs) (k := q) (by have := HPS.out; omega) (by have := HQS.out; omega)
                rw [HC.out, if_neg (by have := HX.out; have := HY.out; omega), if_neg (by have := HX.out; have := HY.out; omega)] at h3
                exact h3.symm
              have HF := Lib.hid hnx
              clear hnx HX HY
              go_wp2_with fail
              go_roundw
              case rel => exact ⟨q + 1, by omega, by omega, by go_num, HF, Lib.hid (HW.out.trans (by (repeat' (first | (with_reducible exact Below.refl _ _) | (refine Below.trans ?_ (Below.mono (by with_reducible assumption) ?_)) | (with_reducible exact Below.refl _ _) | (with_reducible refine below_drewN ?_ _) | (with_reducible refine Below.drew ?_) | (with_reducible refine Below.setCell ?_ ?_ _) | (with_reducible refine Below.alloc ?_ ?_ _) | (with_reducible assumption) | (simp; done) | (simp; omega) | omega))))⟩
              case measure => simp [intOf]; omega
        · have hfin : r = if P.size < Q.size then -1 else if Q.size < P.size then 1 else 0 := by
            have h3 := cmpN_end (a := ps) (b := qs) (k := q) (by have := HPS.out; have := HQS.out; omega) (by have := HPS.out; omega) (by have := HQS.out; omega)
            rw [HC.out, ← HPS.out, ← HQS.out] at h3
            exact h3
          have HF := Lib.hid hfin
          clear hfin
          go_wp2_with fail
          all_goals
            go_ret
            exact ⟨by rw [HF.out]; simp_all <;> omega, by refine HW.out.trans ?_; (repeat' (first | (with_reducible exact Below.refl _ _) | (refine Below.trans ?_ (Below.mono (by with_reducible assumption) ?_)) | (with_reducible exact Below.refl _ _) | (with_reducible refine below_drewN ?_ _) | (with_reducible refine Below.drew ?_) | (with_reducible refine Below.setCell ?_ ?_ _) | (with_reducible refine Below.alloc ?_ ?_ _) | (with_reducible assumption) | (simp; done) | (simp; omega) | omega))⟩
      · have hfin : r = if P.size < Q.size then -1 else if Q.size < P.size then 1 else 0 := by
          have h3 := cmpN_end (a := ps) (b := qs) (k := q) (by have := HPS.out; have := HQS.out; omega) (by have := HPS.out; omega) (by have := HQS.out; omega)
          rw [HC.out, ← HPS.out, ← HQS.out] at h3
          exact h3
        have HF := Lib.hid hfin
        clear hfin
        go_wp2_with fail
        all_goals
          go_ret
          exact ⟨by rw [HF.out]; simp_all <;> omega, by refine HW.out.trans ?_; (repeat' (first | (with_reducible exact Below.refl _ _) | (refine Below.trans ?_ (Below.mono (by with_reducible assumption) ?_)) | (with_reducible exact Below.refl _ _) | (with_reducible refine below_drewN ?_ _) | (with_reducible refine Below.drew ?_) | (with_reducible refine Below.setCell ?_ ?_ _) | (with_reducible refine Below.alloc ?_ ?_ _) | (with_reducible assumption) | (simp; done) | (simp; omega) | omega))⟩
  · go_enter Try.func27, Try.ntmps27
    go_upto_region 8 with (first
        | (go_at_call 37; (with_reducible refine (GA.out _).mono ?_); rintro e w1 ⟨rfl, q1⟩; have b5a_1 := Lib.hid (HA.out.below q1); have b5a_10 := b5a_1.out.c0; have b5a_11 := b5a_1.out.c1; have b5a_12 := b5a_1.out.c2; have b5a_13 := b5a_1.out.c3; have b5a_14 := b5a_1.out.c4; have b5a_1f0 := b5a_1.out.f0; have b5a_1f1 := b5a_1.out.f1; have b5a_1f2 := b5a_1.out.f2; have b5a_1f3 := b5a_1.out.f3; have b5a_1f4 := b5a_1.out.f4; have b5a_1z := b5a_1.out.z; have b5b_1 := Lib.hid (HB.out.below q1); have b5b_10 := b5b_1.out.c0; have b5b_11 := b5b_1.out.c1; have b5b_12 := b5b_1.out.c2; have b5b_13 := b5b_1.out.c3; have b5b_14 := b5b_1.out.c4; have b5b_1f0 := b5b_1.out.f0; have b5b_1f1 := b5b_1.out.f1; have b5b_1f2 := b5b_1.out.f2; have b5b_1f3 := b5b_1.out.f3; have b5b_1f4 := b5b_1.out.f4; have b5b_1z := b5b_1.out.z; have HB1 := Lib.hid (HB0.out.trans (q1.mono HB0.out.size)))
        | (go_at_call 37; (with_reducible refine (GB.out _).mono ?_); rintro e w2 ⟨rfl, b2⟩; have p2 : Below w1.heap.size w1 w2 := Below.trans (by repeat' (first | (with_reducible assumption) | (with_reducible exact Below.refl _ _) | (with_reducible refine Below.drew ?_) | (with_reducible refine below_drewN ?_ _) | (with_reducible refine Below.alloc ?_ ?_ _) | (with_reducible exact Nat.le_refl _) | (simp; done) | (simp; omega) | omega)) (Below.mono b2 (by first | omega | (simp; done) | (simp; omega))); have b5a_2 := Lib.hid (Box5.below b5a_1.out p2); have b5a_20 := b5a_2.out.c0; have b5a_21 := b5a_2.out.c1; have b5a_22 := b5a_2.out.c2; have b5a_23 := b5a_2.out.c3; have b5a_24 := b5a_2.out.c4; have b5a_2f0 := b5a_2.out.f0; have b5a_2f1 := b5a_2.out.f1; have b5a_2f2 := b5a_2.out.f2; have b5a_2f3 := b5a_2.out.f3; have b5a_2f4 := b5a_2.out.f4; have b5a_2z := b5a_2.out.z; have b5b_2 := Lib.hid (Box5.below b5b_1.out p2); have b5b_20 := b5b_2.out.c0; have b5b_21 := b5b_2.out.c1; have b5b_22 := b5b_2.out.c2; have b5b_23 := b5b_2.out.c3; have b5b_24 := b5b_2.out.c4; have b5b_2f0 := b5b_2.out.f0; have b5b_2f1 := b5b_2.out.f1; have b5b_2f2 := b5b_2.out.f2; have b5b_2f3 := b5b_2.out.f3; have b5b_2f4 := b5b_2.out.f4; have b5b_2z := b5b_2.out.z)
        | (go_at_call 39; (with_reducible refine (SA.out _).mono ?_); rintro e w3 ⟨rfl, b3⟩; have p3 : Below w2.heap.size w2 w3 := Below.trans (by repeat' (first | (with_reducible assumption) | (with_reducible exact Below.refl _ _) | (with_reducible refine Below.drew ?_) | (with_reducible refine below_drewN ?_ _) | (with_reducible refine Below.alloc ?_ ?_ _) | (with_reducible exact Nat.le_refl _) | (simp; done) | (simp; omega) | omega)) (Below.mono b3 (by first | omega | (simp; done) | (simp; omega))); have b5b_3 := Lib.hid (Box5.below b5b_2.out p3); have b5b_30 := b5b_3.out.c0; have b5b_31 := b5b_3.out.c1; have b5b_32 := b5b_3.out.c2; have b5b_33 := b5b_3.out.c3; have b5b_34 := b5b_3.out.c4; have b5b_3f0 := b5b_3.out.f0; have b5b_3f1 := b5b_3.out.f1; have b5b_3f2 := b5b_3.out.f2; have b5b_3f3 := b5b_3.out.f3; have b5b_3f4 := b5b_3.out.f4; have b5b_3z := b5b_3.out.z)
        | (go_at_call 39; (with_reducible refine (SB.out _).mono ?_); rintro e w4 ⟨rfl, b4⟩; have p4 : Below w3.heap.size w3 w4 := Below.trans (by repeat' (first | (with_reducible assumption) | (with_reducible exact Below.refl _ _) | (with_reducible refine Below.drew ?_) | (with_reducible refine below_drewN ?_ _) | (with_reducible refine Below.alloc ?_ ?_ _) | (with_reducible exact Nat.le_refl _) | (simp; done) | (simp; omega) | omega)) (Below.mono b4 (by first | omega | (simp; done) | (simp; omega)))))
    have HB4 := Lib.hid (below_step (below_step (below_step HB1.out p2) p3) p4)
    clear b5b_1 b5b_1z b5b_10 b5b_11 b5b_12 b5b_13 b5b_14 b5b_1f0 b5b_1f1 b5b_1f2 b5b_1f3 b5b_1f4 b5b_2 b5b_2z b5b_20 b5b_21 b5b_22 b5b_23 b5b_24 b5b_2f0 b5b_2f1 b5b_2f2 b5b_2f3 b5b_2f4 b5b_3 b5b_3z b5b_30 b5b_31 b5b_32 b5b_33 b5b_34 b5b_3f0 b5b_3f1 b5b_3f2 b5b_3f3 b5b_3f4
    clear b5a_1 b5a_1z b5a_10 b5a_11 b5a_12 b5a_13 b5a_14 b5a_1f0 b5a_1f1 b5a_1f2 b5a_1f3 b5a_1f4 b5a_2 b5a_2z b5a_20 b5a_21 b5a_22 b5a_23 b5a_24 b5a_2f0 b5a_2f1 b5a_2f2 b5a_2f3 b5a_2f4
    clear p2 p3 p4 b2 b3 b4 q1 HB1 HA HB GA GB SA SB HB0
    go_wp2_with fail
    go_loopw [12] (fun v wr => ∃ q : Nat, q ≤ P.size ∧ q ≤ Q.size ∧ v = .int .i64 (q : Int) ∧ Hid (cmpN (ps.drop q) (qs.drop q) = r) ∧ Hid (Below w.heap.size w wr)) (fun v _ => P.size - (intOf v).toNat)
    case atStart => exact ⟨0, Nat.zero_le _, Nat.zero_le _, rfl, Lib.hid HR.out.symm, HB4⟩
    case round =>
      obtain ⟨q, hq1', hq2', rfl, HC, HW⟩ := hrel
      obtain ⟨w5, rfl⟩ : ∃ x, x = wr := ⟨_, rfl⟩
      by_cases h1 : q < P.size
      · by_cases h2 : q < Q.size
        · have g1 : ((q : Int)).toNat = q := by simp
          go_upto_region 11 with fail
          refine wp_region_held_drew (S := (fun _ => True)) (by kernel_rfl) ?_ (fun hHeld => ?_)
          · (try dsimp only)
            (try trivial)
          refine h4_take (i := 0) (v := ?v28) rfl (by kernel_rfl) (by kernel_rfl) (by kernel_rfl) (fun _ _ _ h => h) (by rfl) ?y28 hHeld ?r28
          case y28 => (intro wS hSw; (try dsimp only at hSw); go_simp; (try with_reducible rfl))
          try simp only [Act.put, List.setIfInBounds_toArray, List.set_cons_zero, List.set_cons_succ]
          refine h4_take (i := 1) (v := ?v29) rfl (by kernel_rfl) (by kernel_rfl) (by kernel_rfl) (fun _ _ _ h => h) (by rfl) ?y29 hHeld ?r29
          case y29 => (intro wS hSw; (try dsimp only at hSw); go_simp; (try with_reducible rfl))
          try simp only [Act.put, List.setIfInBounds_toArray, List.set_cons_zero, List.set_cons_succ]
          refine h4_take (i := 2) (v := ?v30) rfl (by kernel_rfl) (by kernel_rfl) (by kernel_rfl) (fun _ _ _ h => h) (by rfl) ?y30 hHeld ?r30
          case y30 => (intro wS hSw; (try dsimp only at hSw); go_simp; (try with_reducible rfl))
          try simp only [Act.put, List.setIfInBounds_toArray, List.set_cons_zero, List.set_cons_succ]
          refine h4_take (i := 3) (v := ?v31) rfl (by kernel_rfl) (by kernel_rfl) (by kernel_rfl) (fun _ _ _ h => h) (by rfl) ?y31 hHeld ?r31
          case y31 => (intro wS hSw; (try dsimp only at hSw); go_simp; (try with_reducible rfl))
          try simp only [Act.put, List.setIfInBounds_toArray, List.set_cons_zero, List.set_cons_succ]
          refine h4_take (i := 4) (v := ?v32) rfl (by kernel_rfl) (by kernel_rfl) (by kernel_rfl) (fun _ _ _ h => h) (by rfl) ?y32 hHeld ?r32
          case y32 => (intro wS hSw; (try dsimp only at hSw); go_simp; (try with_reducible rfl))
          try simp only [Act.put, List.setIfInBounds_toArray, List.set_cons_zero, List.set_cons_succ]
          refine h4_take (i := 5) (v := ?v33) rfl (by kernel_rfl) (by kernel_rfl) (by kernel_rfl) (fun _ _ _ h => h) (by rfl) ?y33 hHeld ?r33
          case y33 => (intro wS hSw; (try dsimp only at hSw); go_simp; (try with_reducible rfl))
          try simp only [Act.put, List.setIfInBounds_toArray, List.set_cons_zero, List.set_cons_succ]
          refine h4_take (i := 6) (v := ?v34) rfl (by kernel_rfl) (by kernel_rfl) (by kernel_rfl) (fun _ _ _ h => h) (by rfl) ?y34 hHeld ?r34
          case y34 => (intro wS hSw; (try dsimp only at hSw); go_simp; (try with_reducible rfl))
          try simp only [Act.put, List.setIfInBounds_toArray, List.set_cons_zero, List.set_cons_succ]
          refine wpAnyH_done (by kernel_rfl) ?_ _
          have HX := Lib.hid (HGP.out q (by have := HPS.out; omega) h1)
          have HY := Lib.hid (HGQ.out q (by have := HQS.out; omega) h2)
          by_cases hlt : (P[q].toNat : Int) < (Q[q].toNat : Int)
          · have hfin : r = -1 := by
              have h3 := cmpN_step (a := ps) (b := qs) (k := q) (by have := HPS.out; omega) (by have := HQS.out; omega)
              rw [HC.out, if_pos (by have := HX.out; have := HY.out; omega)] at h3
              exact h3
            have HF := Lib.hid hfin
            clear hfin HX HY
            go_wp2_with fail
            go_ret
            exact ⟨by rw [HF.out]; simp, by refine HW.out.trans ?_; (repeat' (first | (with_reducible exact Below.refl _ _) | (refine Below.trans ?_ (Below.mono (by with_reducible assumption) ?_)) | (with_reducible exact Below.refl _ _) | (with_reducible refine below_drewN ?_ _) | (with_reducible refine Below.drew ?_) | (with_reducible refine Below.setCell ?_ ?_ _) | (with_reducible refine Below.alloc ?_ ?_ _) | (with_reducible assumption) | (simp; done) | (simp; omega) | omega))⟩
          · go_upto_region 13 with fail
            refine wp_region_held_drew (S := (fun _ => True)) (by kernel_rfl) ?_ (fun hHeld => ?_)
            · (try dsimp only)
              (try trivial)
            refine h4_take (i := 0) (v := ?v35) rfl (by kernel_rfl) (by kernel_rfl) (by kernel_rfl) (fun _ _ _ h => h) (by rfl) ?y35 hHeld ?r35
            case y35 => (intro wS hSw; (try dsimp only at hSw); go_simp; (try with_reducible rfl))
            try simp only [Act.put, List.setIfInBounds_toArray, List.set_cons_zero, List.set_cons_succ]
            refine h4_take (i := 1) (v := ?v36) rfl (by kernel_rfl) (by kernel_rfl) (by kernel_rfl) (fun _ _ _ h => h) (by rfl) ?y36 hHeld ?r36
            case y36 => (intro wS hSw; (try dsimp only at hSw); go_simp; (try with_reducible rfl))
            try simp only [Act.put, List.setIfInBounds_toArray, List.set_cons_zero, List.set_cons_succ]
            refine h4_take (i := 2) (v := ?v37) rfl (by kernel_rfl) (by kernel_rfl) (by kernel_rfl) (fun _ _ _ h => h) (by rfl) ?y37 hHeld ?r37
            case y37 => (intro wS hSw; (try dsimp only at hSw); go_simp; (try with_reducible rfl))
            try simp only [Act.put, List.setIfInBounds_toArray, List.set_cons_zero, List.set_cons_succ]
            refine h4_take (i := 3) (v := ?v38) rfl (by kernel_rfl) (by kernel_rfl) (by kernel_rfl) (fun _ _ _ h => h) (by rfl) ?y38 hHeld ?r38
            case y38 => (intro wS hSw; (try dsimp only at hSw); go_simp; (try with_reducible rfl))
            try simp only [Act.put, List.setIfInBounds_toArray, List.set_cons_zero, List.set_cons_succ]
            refine h4_take (i := 4) (v := ?v39) rfl (by kernel_rfl) (by kernel_rfl) (by kernel_rfl) (fun _ _ _ h => h) (by rfl) ?y39 hHeld ?r39
            case y39 => (intro wS hSw; (try dsimp only at hSw); go_simp; (try with_reducible rfl))
            try simp only [Act.put, List.setIfInBounds_toArray, List.set_cons_zero, List.set_cons_succ]
            refine h4_take (i := 5) (v := ?v40) rfl (by kernel_rfl) (by kernel_rfl) (by kernel_rfl) (fun _ _ _ h => h) (by rfl) ?y40 hHeld ?r40
            case y40 => (intro wS hSw; (try dsimp only at hSw); go_simp; (try with_reducible rfl))
            try simp only [Act.put, List.setIfInBounds_toArray, List.set_cons_zero, List.set_cons_succ]
            refine h4_take (i := 6) (v := ?v41) rfl (by kernel_rfl) (by kernel_rfl) (by kernel_rfl) (fun _ _ _ h => h) (by rfl) ?y41 hHeld ?r41
            case y41 => (intro wS hSw; (try dsimp only at hSw); go_simp; (try with_reducible rfl))
            try simp only [Act.put, List.setIfInBounds_toArray, List.set_cons_zero, List.set_cons_succ]
            refine wpAnyH_done (by kernel_rfl) ?_ _
            by_cases hgt : (Q[q].toNat : Int) < (P[q].toNat : Int)
            · have hfin : r = 1 := by
                have h3 := cmpN_step (a := ps) (b := qs) (k := q) (by have := HPS.out; omega) (by have := HQS.out; omega)
                rw [HC.out, if_neg (by have := HX.out; have := HY.out; omega), if_pos (by have := HX.out; have := HY.out; omega)] at h3
                exact h3
              have HF := Lib.hid hfin
              clear hfin HX HY
              go_wp2_with fail
              go_ret
              exact ⟨by rw [HF.out]; simp, by refine HW.out.trans ?_; (repeat' (first | (with_reducible exact Below.refl _ _) | (refine Below.trans ?_ (Below.mono (by with_reducible assumption) ?_)) | (with_reducible exact Below.refl _ _) | (with_reducible refine below_drewN ?_ _) | (with_reducible refine Below.drew ?_) | (with_reducible refine Below.setCell ?_ ?_ _) | (with_reducible refine Below.alloc ?_ ?_ _) | (with_reducible assumption) | (simp; done) | (simp; omega) | omega))⟩
            · have hnx : cmpN (ps.drop (q + 1)) (qs.drop (q + 1)) = r := by
                have h3 := cmpN_step (a := ps) (b := qs) (k := q) (by have := HPS.out; omega) (by have := HQS.out; omega)
                rw [HC.out, if_neg (by have := HX.out; have := HY.out; omega), if_neg (by have := HX.out; have := HY.out; omega)] at h3
                exact h3.symm
              have HF := Lib.hid hnx
              clear hnx HX HY
              go_wp2_with fail
              go_roundw
              case rel => exact ⟨q + 1, by omega, by omega, by go_num, HF, Lib.hid (HW.out.trans (by (repeat' (first | (with_reducible exact Below.refl _ _) | (refine Below.trans ?_ (Below.mono (by with_reducible assumption) ?_)) | (with_reducible exact Below.refl _ _) | (with_reducible refine below_drewN ?_ _) | (with_reducible refine Below.drew ?_) | (with_reducible refine Below.setCell ?_ ?_ _) | (with_reducible refine Below.alloc ?_ ?_ _) | (with_reducible assumption) | (simp; done) | (simp; omega) | omega))))⟩
              case measure => simp [intOf]; omega
        · have hfin : r = if P.size < Q.size then -1 else if Q.size < P.size then 1 else 0 := by
            have h3 := cmpN_end (a := ps) (b := qs) (k := q) (by have := HPS.out; have := HQS.out; omega) (by have := HPS.out; omega) (by have := HQS.out; omega)
            rw [HC.out, ← HPS.out, ← HQS.out] at h3
            exact h3
          have HF := Lib.hid hfin
          clear hfin
          go_wp2_with fail
          all_goals
            go_ret
            exact ⟨by rw [HF.out]; simp_all <;> omega, by refine HW.out.trans ?_; (repeat' (first | (with_reducible exact Below.refl _ _) | (refine Below.trans ?_ (Below.mono (by with_reducible assumption) ?_)) | (with_reducible exact Below.refl _ _) | (with_reducible refine below_drewN ?_ _) | (with_reducible refine Below.drew ?_) | (with_reducible refine Below.setCell ?_ ?_ _) | (with_reducible refine Below.alloc ?_ ?_ _) | (with_reducible assumption) | (simp; done) | (simp; omega) | omega))⟩
      · have hfin : r = if P.size < Q.size then -1 else if Q.size < P.size then 1 else 0 := by
          have h3 := cmpN_end (a := ps) (b := qs) (k := q) (by have := HPS.out; have := HQS.out; omega) (by have := HPS.out; omega) (by have := HQS.out; omega)
          rw [HC.out, ← HPS.out, ← HQS.out] at h3
          exact h3
        have HF := Lib.hid hfin
        clear hfin
        go_wp2_with fail
        all_goals
          go_ret
          exact ⟨by rw [HF.out]; simp_all <;> omega, by refine HW.out.trans ?_; (repeat' (first | (with_reducible exact Below.refl _ _) | (refine Below.trans ?_ (Below.mono (by with_reducible assumption) ?_)) | (with_reducible exact Below.refl _ _) | (with_reducible refine below_drewN ?_ _) | (with_reducible refine Below.drew ?_) | (with_reducible refine Below.setCell ?_ ?_ _) | (with_reducible refine Below.alloc ?_ ?_ _) | (with_reducible assumption) | (simp; done) | (simp; omega) | omega))⟩
end Go.Proofs.Ytkhhjibpppmekaa
