/- Several texts put together: FmtN, FmtO. -/
import Derived.Test.YtpkooogfefkcdaaDoorBu10
/- Layer 8: body, of whole numbers and of fixed ones. -/
namespace Go.Proofs.YtpkooogfefkcdaaDoor
open Go.RowKit
/-- What body leaves. -/
def BodyPost (s : SpecF) (a : ArgF) (z : Int) (w : World) (e : Ending) (w' : World) : Prop :=
  ((∃ c, bodyF s a z = .error c) ∧ (∃ T u, e = .returned (.tuple #[.string { data := #[] }, .string { data := #[] }, .iface T u])) ∨
    ∃ x y, bodyF s a z = .ok (x, y) ∧ e = .returned (.tuple #[.string (strN x), .string (strN y), .nilIface])) ∧ Below w.heap.size w w'
theorem truncZ_eq (z : Int) : truncZ z = z.tdiv 1000000 * 1000000 := by
  rfl
theorem truncZ_lim {z : Int} (h : z.natAbs < LIM) : (truncZ z).natAbs < LIM := by
  have := truncZ_abs z
  omega
theorem truncZ_neg (z : Int) : decide (truncZ z < 0) = decide (z.tdiv 1000000 < 0) := by
  rw [truncZ_eq, Bool.eq_iff_iff]; simp; omega
def specK (a : Nat) (s : SpecF) (V : Int) (next : Nat) (w : World) (g : Nat) : Prop :=
  Box11 w g (.int .i64 (a : Int)) (.bool s.fl.left) (.bool s.fl.zero) (.bool s.fl.plus) (.bool s.fl.blank) (.int .i64 (s.width : Int)) (.int .i64 s.prec) (.bool s.sw) (.bool s.sp) (.int .u8 V) (.int .i64 (next : Int))
/-- The spec's box, and a number's. -/
def SP (a : Nat) (s : SpecF) (V : Int) (next g g' : Nat) (n : Bool) (h l : Int) (w w' : World) : Prop := specK a s V next w' g ∧ Box3 w' g' (.bool n) (.int .u64 h) (.int .u64 l) ∧ Below w.heap.size w w'
theorem SP.next {a : Nat} {s : SpecF} {V : Int} {nx g g' : Nat} {n : Bool} {h l : Int} {w x y : World} (p : SP a s V nx g g' n h l w x) (q : Below x.heap.size x y) : SP a s V nx g g' n h l w y :=
  ⟨Box11.below p.1 q, p.2.1.below q, below_step p.2.2 q⟩
/-- The spec's box, and the argument's. -/
def SQ (a : Nat) (s : SpecF) (V : Int) (next g g' : Nat) (S : ByteArray) (n : Bool) (h l : Int) (nm : Bool) (w w' : World) : Prop := specK a s V next w' g ∧ Box5 w' g' (.string S) (.bool n) (.int .u64 h) (.int .u64 l) (.bool nm) ∧ Below w.heap.size w w'
theorem SQ.next {a : Nat} {s : SpecF} {V : Int} {nx g g' : Nat} {S : ByteArray} {n : Bool} {h l : Int} {nm : Bool} {w x y : World} (p : SQ a s V nx g g' S n h l nm w x) (q : Below x.heap.size x y) : SQ a s V nx g g' S n h l nm w y :=
  ⟨Box11.below p.1 q, p.2.1.below q, below_step p.2.2 q⟩
set_option maxRecDepth 100000 in
set_option maxHeartbeats 3200000 in
theorem body_d (at' next : Nat) (s : SpecF) (hv : s.verb = 100 ∨ s.verb = 105) (hp : -1000 < s.prec ∧ s.prec < 1000) (a : ArgF) (z : Int) (ia : IsD a.n a.h a.l z) (w : World) :
    Calls Tryd.prog 33 #[.agg (specV at' s next), argV a] w (BodyPost s a z w) := by
  have hL := ia.2.2.2.2
  have HT := Lib.hid (fun W => trunc_ok a.n a.h a.l z ia W)
  have it := IsD.of (truncZ_lim hL)
  have HD := Lib.hid (fun W => digits_any8 _ _ _ (truncZ z) it W)
  have HS := Lib.hid (fun W => sign_any at' next s (zn (truncZ z)) (zh (truncZ z)) (zl (truncZ z)) W)
  have HF := Lib.hid (fun W => filled_any at' next s hp (digitsF (truncZ z)).1 (by have := (digitsF_len (truncZ z)).1; omega) W)
  have hb : bodyF s a z = .ok (signF s.fl (zn (truncZ z)), filledF s.prec (digitsF (truncZ z)).1) := by
    unfold bodyF
    rw [if_pos hv, truncZ_eq]
    have := truncZ_neg z
    unfold zn
    rw [← truncZ_eq, this]
  have HB := Lib.hid hb
  simp only [specV, specC, argV] at HS HF ⊢
  obtain ⟨X1, hX1⟩ : ∃ x, x = strN (signF s.fl (zn (truncZ z))) := ⟨_, rfl⟩
  obtain ⟨X2, hX2⟩ : ∃ x, x = strN (filledF s.prec (digitsF (truncZ z)).1) := ⟨_, rfl⟩
  obtain ⟨X3, hX3⟩ : ∃ x, x = strN (digitsF (truncZ z)).1 := ⟨_, rfl⟩
  obtain ⟨X4, hX4⟩ : ∃ x, x = strN (digitsF (truncZ z)).2 := ⟨_, rfl⟩
  rw [← hX1] at HS
  rw [← hX3, ← hX2] at HF
  rw [← hX3, ← hX4] at HD
  have HX1 := Lib.hid hX1
  have HX2 := Lib.hid hX2
  clear hX1 hX2 hX3 hX4 hb it ia hL
  generalize zn (truncZ z) = tn at *
  generalize zh (truncZ z) = th at *
  generalize zl (truncZ z) = tl at *
  rcases hv with hv | hv
  · rw [hv, show ((100 : Nat) : Int) = 100 from rfl] at HS HF ⊢
    have HK := Lib.hid (fun (g g' : Nat) (x y : World) (p : SP at' s 100 next g g' tn th tl w x) (q : Below x.heap.size x y) => p.next q)
    go_enter Tryd.func33, Tryd.ntmps33
    go_upto_region 6 with (first
      | (go_at_call 49; (with_reducible refine (HT.out _).mono ?_); rintro e w2 ⟨rfl, b2⟩; have p2 : Below w.heap.size w w2 := Below.trans (by repeat' (first | (with_reducible assumption) | (with_reducible exact Below.refl _ _) | (with_reducible refine Below.drew ?_) | (with_reducible refine below_drewN ?_ _) | (with_reducible refine Below.alloc ?_ ?_ _) | (with_reducible exact Nat.le_refl _) | (simp; done) | (simp; omega) | omega)) (Below.mono b2 (by first | omega | (simp; done) | (simp; omega))); have K2 : specK at' s 100 next w2 w.heap.size := Box11.below (Box11.alloc (Box11.make w _ _ _ _ _ _ _ _ _ _ _ _ rfl) _) b2; have HK2 := Lib.hid K2; clear K2)
      | (go_at_call 50; (with_reducible refine (HD.out _).mono ?_); rintro e w3 ⟨rfl, b3⟩; have S3 : SP at' s 100 next w.heap.size w2.heap.size tn th tl w w3 := ⟨Box11.below (Box11.alloc HK2.out _) b3, Box3.below (Box3.make w2 _ _ _ _ rfl) b3, below_step (p2.alloc (by have := p2.size; omega) _) b3⟩; have HS3 := Lib.hid S3; clear S3 HK2 b2 p2 b3)
      | fail)
    refine wp_region_held_drew (S := (fun w' => SP at' s 100 next w.heap.size w2.heap.size tn th tl w w')) (by kernel_rfl) ?_ (fun hHeld => ?_)
    · (try dsimp only)
      (first | exact HS3.out.next (Below.refl _ _).drew | (refine HK.out _ _ _ _ ?_ (by with_reducible assumption); with_reducible assumption))
    refine h4_take (i := 0) (v := ?v0) rfl (by kernel_rfl) (by kernel_rfl) (by kernel_rfl) (fun _ _ _ h => h) (by rfl) ?y0 hHeld ?r0
    case y0 => (intro wS hSw; obtain ⟨hq1, hq2, _⟩ := hSw; unfold specK at hq1; obtain ⟨k0, k1, k2, k3, k4, k5, k6, k7, k8, k9, k10, _, _, _, _, _, _, _, _, _, _, _, kz⟩ := hq1; obtain ⟨m0, m1, m2, _, _, _, mz⟩ := hq2; go_simp; (try with_reducible rfl))
    try simp only [Act.put, List.setIfInBounds_toArray, List.set_cons_zero, List.set_cons_succ]
    refine h4_take (i := 1) (v := ?v1) rfl (by kernel_rfl) (by kernel_rfl) (by kernel_rfl) (fun _ _ _ h => h) (by rfl) ?y1 hHeld ?r1
    case y1 => (intro wS hSw; obtain ⟨hq1, hq2, _⟩ := hSw; unfold specK at hq1; obtain ⟨k0, k1, k2, k3, k4, k5, k6, k7, k8, k9, k10, _, _, _, _, _, _, _, _, _, _, _, kz⟩ := hq1; obtain ⟨m0, m1, m2, _, _, _, mz⟩ := hq2; go_simp; (try with_reducible rfl))
    try simp only [Act.put, List.setIfInBounds_toArray, List.set_cons_zero, List.set_cons_succ]
    refine h4_take (i := 3) (v := ?v2) rfl (by kernel_rfl) (by kernel_rfl) (by kernel_rfl) (fun _ _ _ h => h) (by rfl) ?y2 hHeld ?r2
    case y2 => (intro wS hSw; obtain ⟨hq1, hq2, _⟩ := hSw; unfold specK at hq1; obtain ⟨k0, k1, k2, k3, k4, k5, k6, k7, k8, k9, k10, _, _, _, _, _, _, _, _, _, _, _, kz⟩ := hq1; obtain ⟨m0, m1, m2, _, _, _, mz⟩ := hq2; go_simp; (try with_reducible rfl))
    try simp only [Act.put, List.setIfInBounds_toArray, List.set_cons_zero, List.set_cons_succ]
    refine h4_take (i := 4) (v := ?v3) rfl (by kernel_rfl) (by kernel_rfl) (by kernel_rfl) (fun _ _ _ h => h) (by rfl) ?y3 hHeld ?r3
    case y3 => (intro wS hSw; obtain ⟨hq1, hq2, _⟩ := hSw; unfold specK at hq1; obtain ⟨k0, k1, k2, k3, k4, k5, k6, k7, k8, k9, k10, _, _, _, _, _, _, _, _, _, _, _, kz⟩ := hq1; obtain ⟨m0, m1, m2, _, _, _, mz⟩ := hq2; go_simp; (try with_reducible rfl))
    try simp only [Act.put, List.setIfInBounds_toArray, List.set_cons_zero, List.set_cons_succ]
    refine wpAnyH_ready (rs := [2]) (by kernel_rfl) (by simp) ?_
    refine (h4_cons rfl (fun K hK => ?_) AllReadyH.nil)
    go_simp
    ((first | (go_at_call 51; (with_reducible refine (HS.out _).mono ?_); rintro e w4 ⟨rfl, b4⟩) | (go_at_call 52; (with_reducible refine (HF.out _).mono ?_); rintro e w5 ⟨rfl, b5⟩)))
    (try go_wp2_with fail)
    refine hK.out _ _ ?_ (fun hHeld5 => ?_)
    · (try dsimp only)
      (first | exact HS3.out.next (Below.refl _ _).drew | (refine HK.out _ _ _ _ ?_ (by with_reducible assumption); with_reducible assumption))
    clear hK K hHeld
    try simp only [Act.put, List.setIfInBounds_toArray, List.set_cons_zero, List.set_cons_succ]
    refine wpAnyH_ready (rs := [5]) (by kernel_rfl) (by simp) ?_
    refine (h4_cons rfl (fun K hK => ?_) AllReadyH.nil)
    go_simp
    ((first | (go_at_call 51; (with_reducible refine (HS.out _).mono ?_); rintro e w4 ⟨rfl, b4⟩) | (go_at_call 52; (with_reducible refine (HF.out _).mono ?_); rintro e w5 ⟨rfl, b5⟩)))
    (try go_wp2_with fail)
    refine hK.out _ _ ?_ (fun hHeld6 => ?_)
    · (try dsimp only)
      (first | exact HS3.out.next (Below.refl _ _).drew | (refine HK.out _ _ _ _ ?_ (by with_reducible assumption); with_reducible assumption))
    clear hK K hHeld5
    try simp only [Act.put, List.setIfInBounds_toArray, List.set_cons_zero, List.set_cons_succ]
    refine h4_take (i := 6) (v := ?v6) rfl (by kernel_rfl) (by kernel_rfl) (by kernel_rfl) (fun _ _ _ h => h) (by rfl) ?y6 hHeld6 ?r6
    case y6 => (intro wS hSw; obtain ⟨hq1, hq2, _⟩ := hSw; unfold specK at hq1; obtain ⟨k0, k1, k2, k3, k4, k5, k6, k7, k8, k9, k10, _, _, _, _, _, _, _, _, _, _, _, kz⟩ := hq1; obtain ⟨m0, m1, m2, _, _, _, mz⟩ := hq2; go_simp; (try with_reducible rfl))
    try simp only [Act.put, List.setIfInBounds_toArray, List.set_cons_zero, List.set_cons_succ]
    refine h4_take (i := 7) (v := ?v7) rfl (by kernel_rfl) (by kernel_rfl) (by kernel_rfl) (fun _ _ _ h => h) (by rfl) ?y7 hHeld6 ?r7
    case y7 => (intro wS hSw; obtain ⟨hq1, hq2, _⟩ := hSw; unfold specK at hq1; obtain ⟨k0, k1, k2, k3, k4, k5, k6, k7, k8, k9, k10, _, _, _, _, _, _, _, _, _, _, _, kz⟩ := hq1; obtain ⟨m0, m1, m2, _, _, _, mz⟩ := hq2; go_simp; (try with_reducible rfl))
    try simp only [Act.put, List.setIfInBounds_toArray, List.set_cons_zero, List.set_cons_succ]
    refine h4_take (i := 8) (v := ?v8) rfl (by kernel_rfl) (by kernel_rfl) (by kernel_rfl) (fun _ _ _ h => h) (by rfl) ?y8 hHeld6 ?r8
    case y8 => (intro wS hSw; obtain ⟨hq1, hq2, _⟩ := hSw; unfold specK at hq1; obtain ⟨k0, k1, k2, k3, k4, k5, k6, k7, k8, k9, k10, _, _, _, _, _, _, _, _, _, _, _, kz⟩ := hq1; obtain ⟨m0, m1, m2, _, _, _, mz⟩ := hq2; go_simp; (try with_reducible rfl))
    try simp only [Act.put, List.setIfInBounds_toArray, List.set_cons_zero, List.set_cons_succ]
    refine wpAnyH_done (by kernel_rfl) ?_ _
    all_goals
      go_wp2_with fail
      (try simp only [Exit.inBlock, Exit.then]); refine bodyPost_ret (by simp [results, Tryd.results33, go_sem, *]; try rfl) rfl ?_
      exact ⟨.inr ⟨_, _, HB.out, by rw [← HX1.out, ← HX2.out]⟩, (‹SP at' s 100 next w.heap.size w2.heap.size tn th tl w _›).2.2⟩
  · rw [hv, show ((105 : Nat) : Int) = 105 from rfl] at HS HF ⊢
    have HK := Lib.hid (fun (g g' : Nat) (x y : World) (p : SP at' s 105 next g g' tn th tl w x) (q : Below x.heap.size x y) => p.next q)
    go_enter Tryd.func33, Tryd.ntmps33
    go_upto_region 6 with (first
      | (go_at_call 49; (with_reducible refine (HT.out _).mono ?_); rintro e w2 ⟨rfl, b2⟩; have p2 : Below w.heap.size w w2 := Below.trans (by repeat' (first | (with_reducible assumption) | (with_reducible exact Below.refl _ _) | (with_reducible refine Below.drew ?_) | (with_reducible refine below_drewN ?_ _) | (with_reducible refine Below.alloc ?_ ?_ _) | (with_reducible exact Nat.le_refl _) | (simp; done) | (simp; omega) | omega)) (Below.mono b2 (by first | omega | (simp; done) | (simp; omega))); have K2 : specK at' s 105 next w2 w.heap.size := Box11.below (Box11.alloc (Box11.make w _ _ _ _ _ _ _ _ _ _ _ _ rfl) _) b2; have HK2 := Lib.hid K2; clear K2)
      | (go_at_call 50; (with_reducible refine (HD.out _).mono ?_); rintro e w3 ⟨rfl, b3⟩; have S3 : SP at' s 105 next w.heap.size w2.heap.size tn th tl w w3 := ⟨Box11.below (Box11.alloc HK2.out _) b3, Box3.below (Box3.make w2 _ _ _ _ rfl) b3, below_step (p2.alloc (by have := p2.size; omega) _) b3⟩; have HS3 := Lib.hid S3; clear S3 HK2 b2 p2 b3)
      | fail)
    refine wp_region_held_drew (S := (fun w' => SP at' s 105 next w.heap.size w2.heap.size tn th tl w w')) (by kernel_rfl) ?_ (fun hHeld => ?_)
    · (try dsimp only)
      (first | exact HS3.out.next (Below.refl _ _).drew | (refine HK.out _ _ _ _ ?_ (by with_reducible assumption); with_reducible assumption))
    refine h4_take (i := 0) (v := ?v9) rfl (by kernel_rfl) (by kernel_rfl) (by kernel_rfl) (fun _ _ _ h => h) (by rfl) ?y9 hHeld ?r9
    case y9 => (intro wS hSw; obtain ⟨hq1, hq2, _⟩ := hSw; unfold specK at hq1; obtain ⟨k0, k1, k2, k3, k4, k5, k6, k7, k8, k9, k10, _, _, _, _, _, _, _, _, _, _, _, kz⟩ := hq1; obtain ⟨m0, m1, m2, _, _, _, mz⟩ := hq2; go_simp; (try with_reducible rfl))
    try simp only [Act.put, List.setIfInBounds_toArray, List.set_cons_zero, List.set_cons_succ]
    refine h4_take (i := 1) (v := ?v10) rfl (by kernel_rfl) (by kernel_rfl) (by kernel_rfl) (fun _ _ _ h => h) (by rfl) ?y10 hHeld ?r10
    case y10 => (intro wS hSw; obtain ⟨hq1, hq2, _⟩ := hSw; unfold specK at hq1; obtain ⟨k0, k1, k2, k3, k4, k5, k6, k7, k8, k9, k10, _, _, _, _, _, _, _, _, _, _, _, kz⟩ := hq1; obtain ⟨m0, m1, m2, _, _, _, mz⟩ := hq2; go_simp; (try with_reducible rfl))
    try simp only [Act.put, List.setIfInBounds_toArray, List.set_cons_zero, List.set_cons_succ]
    refine h4_take (i := 3) (v := ?v11) rfl (by kernel_rfl) (by kernel_rfl) (by kernel_rfl) (fun _ _ _ h => h) (by rfl) ?y11 hHeld ?r11
    case y11 => (intro wS hSw; obtain ⟨hq1, hq2, _⟩ := hSw; unfold specK at hq1; obtain ⟨k0, k1, k2, k3, k4, k5, k6, k7, k8, k9, k10, _, _, _, _, _, _, _, _, _, _, _, kz⟩ := hq1; obtain ⟨m0, m1, m2, _, _, _, mz⟩ := hq2; go_simp; (try with_reducible rfl))
    try simp only [Act.put, List.setIfInBounds_toArray, List.set_cons_zero, List.set_cons_succ]
    refine h4_take (i := 4) (v := ?v12) rfl (by kernel_rfl) (by kernel_rfl) (by kernel_rfl) (fun _ _ _ h => h) (by rfl) ?y12 hHeld ?r12
    case y12 => (intro wS hSw; obtain ⟨hq1, hq2, _⟩ := hSw; unfold specK at hq1; obtain ⟨k0, k1, k2, k3, k4, k5, k6, k7, k8, k9, k10, _, _, _, _, _, _, _, _, _, _, _, kz⟩ := hq1; obtain ⟨m0, m1, m2, _, _, _, mz⟩ := hq2; go_simp; (try with_reducible rfl))
    try simp only [Act.put, List.setIfInBounds_toArray, List.set_cons_zero, List.set_cons_succ]
    refine wpAnyH_ready (rs := [2]) (by kernel_rfl) (by simp) ?_
    refine (h4_cons rfl (fun K hK => ?_) AllReadyH.nil)
    go_simp
    ((first | (go_at_call 51; (with_reducible refine (HS.out _).mono ?_); rintro e w4 ⟨rfl, b4⟩) | (go_at_call 52; (with_reducible refine (HF.out _).mono ?_); rintro e w5 ⟨rfl, b5⟩)))
    (try go_wp2_with fail)
    refine hK.out _ _ ?_ (fun hHeld14 => ?_)
    · (try dsimp only)
      (first | exact HS3.out.next (Below.refl _ _).drew | (refine HK.out _ _ _ _ ?_ (by with_reducible assumption); with_reducible assumption))
    clear hK K hHeld
    try simp only [Act.put, List.setIfInBounds_toArray, List.set_cons_zero, List.set_cons_succ]
    refine wpAnyH_ready (rs := [5]) (by kernel_rfl) (by simp) ?_
    refine (h4_cons rfl (fun K hK => ?_) AllReadyH.nil)
    go_simp
    ((first | (go_at_call 51; (with_reducible refine (HS.out _).mono ?_); rintro e w4 ⟨rfl, b4⟩) | (go_at_call 52; (with_reducible refine (HF.out _).mono ?_); rintro e w5 ⟨rfl, b5⟩)))
    (try go_wp2_with fail)
    refine hK.out _ _ ?_ (fun hHeld15 => ?_)
    · (try dsimp only)
      (first | exact HS3.out.next (Below.refl _ _).drew | (refine HK.out _ _ _ _ ?_ (by with_reducible assumption); with_reducible assumption))
    clear hK K hHeld14
    try simp only [Act.put, List.setIfInBounds_toArray, List.set_cons_zero, List.set_cons_succ]
    refine h4_take (i := 6) (v := ?v15) rfl (by kernel_rfl) (by kernel_rfl) (by kernel_rfl) (fun _ _ _ h => h) (by rfl) ?y15 hHeld15 ?r15
    case y15 => (intro wS hSw; obtain ⟨hq1, hq2, _⟩ := hSw; unfold specK at hq1; obtain ⟨k0, k1, k2, k3, k4, k5, k6, k7, k8, k9, k10, _, _, _, _, _, _, _, _, _, _, _, kz⟩ := hq1; obtain ⟨m0, m1, m2, _, _, _, mz⟩ := hq2; go_simp; (try with_reducible rfl))
    try simp only [Act.put, List.setIfInBounds_toArray, List.set_cons_zero, List.set_cons_succ]
    refine h4_take (i := 7) (v := ?v16) rfl (by kernel_rfl) (by kernel_rfl) (by kernel_rfl) (fun _ _ _ h => h) (by rfl) ?y16 hHeld15 ?r16
    case y16 => (intro wS hSw; obtain ⟨hq1, hq2, _⟩ := hSw; unfold specK at hq1; obtain ⟨k0, k1, k2, k3, k4, k5, k6, k7, k8, k9, k10, _, _, _, _, _, _, _, _, _, _, _, kz⟩ := hq1; obtain ⟨m0, m1, m2, _, _, _, mz⟩ := hq2; go_simp; (try with_reducible rfl))
    try simp only [Act.put, List.setIfInBounds_toArray, List.set_cons_zero, List.set_cons_succ]
    refine h4_take (i := 8) (v := ?v17) rfl (by kernel_rfl) (by kernel_rfl) (by kernel_rfl) (fun _ _ _ h => h) (by rfl) ?y17 hHeld15 ?r17
    case y17 => (intro wS hSw; obtain ⟨hq1, hq2, _⟩ := hSw; unfold specK at hq1; obtain ⟨k0, k1, k2, k3, k4, k5, k6, k7, k8, k9, k10, _, _, _, _, _, _, _, _, _, _, _, kz⟩ := hq1; obtain ⟨m0, m1, m2, _, _, _, mz⟩ := hq2; go_simp; (try with_reducible rfl))
    try simp only [Act.put, List.setIfInBounds_toArray, List.set_cons_zero, List.set_cons_succ]
    refine wpAnyH_done (by kernel_rfl) ?_ _
    all_goals
      go_wp2_with fail
      (try simp only [Exit.inBlock, Exit.then]); refine bodyPost_ret (by simp [results, Tryd.results33, go_sem, *]; try rfl) rfl ?_
      exact ⟨.inr ⟨_, _, HB.out, by rw [← HX1.out, ← HX2.out]⟩, (‹SP at' s 105 next w.heap.size w2.heap.size tn th tl w _›).2.2⟩
end Go.Proofs.YtpkooogfefkcdaaDoor

/- Layer 8: body, of fixed numbers and of texts. -/
namespace Go.Proofs.YtpkooogfefkcdaaDoor
open Go.RowKit
theorem SQ.start (at' : Nat) (s : SpecF) (V : Int) (next : Nat) (S : ByteArray) (n : Bool) (h l : Int) (nm : Bool) (w : World) (T T' : TypeId) :
    SQ at' s V next w.heap.size (w.heap.size + 1) S n h l nm w ((w.alloc (.cells #[.int .i64 (at' : Int), .bool s.fl.left, .bool s.fl.zero, .bool s.fl.plus, .bool s.fl.blank, .int .i64 (s.width : Int), .int .i64 s.prec, .bool s.sw, .bool s.sp, .int .u8 V, .int .i64 (next : Int)] T)).alloc (.cells #[.string S, .bool n, .int .u64 h, .int .u64 l, .bool nm] T')) :=
  ⟨Box11.alloc (Box11.make w _ _ _ _ _ _ _ _ _ _ _ _ rfl) _, Box5.make _ _ _ _ _ _ _ (by simp), by (repeat' (first | (with_reducible exact Below.refl _ _) | (refine Below.trans ?_ (Below.mono (by with_reducible assumption) ?_)) | (with_reducible exact Below.refl _ _) | (with_reducible refine below_drewN ?_ _) | (with_reducible refine Below.drew ?_) | (with_reducible refine Below.setCell ?_ ?_ _) | (with_reducible refine Below.alloc ?_ ?_ _) | (with_reducible assumption) | (simp; done) | (simp; omega) | omega))⟩
set_option maxRecDepth 100000 in
set_option maxHeartbeats 3200000 in
theorem body_f (at' next : Nat) (s : SpecF) (hv : s.verb = 102) (hp : -1000 < s.prec ∧ s.prec < 1000) (a : ArgF) (z : Int) (ia : IsD a.n a.h a.l z) (w : World) :
    Calls Tryd.prog 33 #[.agg (specV at' s next), argV a] w (BodyPost s a z w) := by
  have HS := Lib.hid (fun W => sign_any at' next s a.n a.h a.l W)
  have HF := Lib.hid (fun W => fixed_any at' next s hp a.n a.h a.l z ia W)
  have hb : bodyF s a z = .ok (signF s.fl a.n, fixedF s.prec z) := by
    unfold bodyF
    rw [if_neg (by omega), if_pos hv, ia.2.2.2.1]
  have HB := Lib.hid hb
  simp only [specV, specC, argV] at HS HF ⊢
  obtain ⟨X1, hX1⟩ : ∃ x, x = strN (signF s.fl a.n) := ⟨_, rfl⟩
  obtain ⟨X2, hX2⟩ : ∃ x, x = strN (fixedF s.prec z) := ⟨_, rfl⟩
  rw [← hX1] at HS
  rw [← hX2] at HF
  have HX1 := Lib.hid hX1
  have HX2 := Lib.hid hX2
  clear hX1 hX2 hb ia
  rw [hv, show ((102 : Nat) : Int) = 102 from rfl] at HS HF ⊢
  have HK := Lib.hid (fun (g g' : Nat) (x y : World) (p : SQ at' s 102 next g g' (strN a.s) a.n a.h a.l a.num w x) (q : Below x.heap.size x y) => p.next q)
  have HS0 := Lib.hid (SQ.start at' s 102 next (strN a.s) a.n a.h a.l a.num w 52 37)
  go_enter Tryd.func33, Tryd.ntmps33
  go_upto_region 8 with fail
  refine wp_region_held_drew (S := (fun w' => SQ at' s 102 next w.heap.size (w.heap.size + 1) (strN a.s) a.n a.h a.l a.num w w')) (by kernel_rfl) ?_ (fun hHeld => ?_)
  · (try dsimp only)
    (first | exact HS0.out.next (Below.refl _ _).drew | (refine HK.out _ _ _ _ ?_ (by with_reducible assumption); with_reducible assumption))
  refine h4_take (i := 0) (v := ?v0) rfl (by kernel_rfl) (by kernel_rfl) (by kernel_rfl) (fun _ _ _ h => h) (by rfl) ?y0 hHeld ?r0
  case y0 => (intro wS hSw; obtain ⟨hq1, hq2, _⟩ := hSw; unfold specK at hq1; obtain ⟨k0, k1, k2, k3, k4, k5, k6, k7, k8, k9, k10, _, _, _, _, _, _, _, _, _, _, _, kz⟩ := hq1; obtain ⟨m0, m1, m2, m3, m4, _, _, _, _, _, mz⟩ := hq2; go_simp; (try with_reducible rfl))
  try simp only [Act.put, List.setIfInBounds_toArray, List.set_cons_zero, List.set_cons_succ]
  refine h4_take (i := 1) (v := ?v1) rfl (by kernel_rfl) (by kernel_rfl) (by kernel_rfl) (fun _ _ _ h => h) (by rfl) ?y1 hHeld ?r1
  case y1 => (intro wS hSw; obtain ⟨hq1, hq2, _⟩ := hSw; unfold specK at hq1; obtain ⟨k0, k1, k2, k3, k4, k5, k6, k7, k8, k9, k10, _, _, _, _, _, _, _, _, _, _, _, kz⟩ := hq1; obtain ⟨m0, m1, m2, m3, m4, _, _, _, _, _, mz⟩ := hq2; go_simp; (try with_reducible rfl))
  try simp only [Act.put, List.setIfInBounds_toArray, List.set_cons_zero, List.set_cons_succ]
  refine h4_take (i := 2) (v := ?v2) rfl (by kernel_rfl) (by kernel_rfl) (by kernel_rfl) (fun _ _ _ h => h) (by rfl) ?y2 hHeld ?r2
  case y2 => (intro wS hSw; obtain ⟨hq1, hq2, _⟩ := hSw; unfold specK at hq1; obtain ⟨k0, k1, k2, k3, k4, k5, k6, k7, k8, k9, k10, _, _, _, _, _, _, _, _, _, _, _, kz⟩ := hq1; obtain ⟨m0, m1, m2, m3, m4, _, _, _, _, _, mz⟩ := hq2; go_simp; (try with_reducible rfl))
  try simp only [Act.put, List.setIfInBounds_toArray, List.set_cons_zero, List.set_cons_succ]
  refine h4_take (i := 4) (v := ?v3) rfl (by kernel_rfl) (by kernel_rfl) (by kernel_rfl) (fun _ _ _ h => h) (by rfl) ?y3 hHeld ?r3
  case y3 => (intro wS hSw; obtain ⟨hq1, hq2, _⟩ := hSw; unfold specK at hq1; obtain ⟨k0, k1, k2, k3, k4, k5, k6, k7, k8, k9, k10, _, _, _, _, _, _, _, _, _, _, _, kz⟩ := hq1; obtain ⟨m0, m1, m2, m3, m4, _, _, _, _, _, mz⟩ := hq2; go_simp; (try with_reducible rfl))
  try simp only [Act.put, List.setIfInBounds_toArray, List.set_cons_zero, List.set_cons_succ]
  refine h4_take (i := 5) (v := ?v4) rfl (by kernel_rfl) (by kernel_rfl) (by kernel_rfl) (fun _ _ _ h => h) (by rfl) ?y4 hHeld ?r4
  case y4 => (intro wS hSw; obtain ⟨hq1, hq2, _⟩ := hSw; unfold specK at hq1; obtain ⟨k0, k1, k2, k3, k4, k5, k6, k7, k8, k9, k10, _, _, _, _, _, _, _, _, _, _, _, kz⟩ := hq1; obtain ⟨m0, m1, m2, m3, m4, _, _, _, _, _, mz⟩ := hq2; go_simp; (try with_reducible rfl))
  try simp only [Act.put, List.setIfInBounds_toArray, List.set_cons_zero, List.set_cons_succ]
  refine h4_take (i := 6) (v := ?v5) rfl (by kernel_rfl) (by kernel_rfl) (by kernel_rfl) (fun _ _ _ h => h) (by rfl) ?y5 hHeld ?r5
  case y5 => (intro wS hSw; obtain ⟨hq1, hq2, _⟩ := hSw; unfold specK at hq1; obtain ⟨k0, k1, k2, k3, k4, k5, k6, k7, k8, k9, k10, _, _, _, _, _, _, _, _, _, _, _, kz⟩ := hq1; obtain ⟨m0, m1, m2, m3, m4, _, _, _, _, _, mz⟩ := hq2; go_simp; (try with_reducible rfl))
  try simp only [Act.put, List.setIfInBounds_toArray, List.set_cons_zero, List.set_cons_succ]
  refine wpAnyH_ready (rs := [3]) (by kernel_rfl) (by simp) ?_
  refine (h4_cons rfl (fun K hK => ?_) AllReadyH.nil)
  go_simp
  ((first | (go_at_call 51; (with_reducible refine (HS.out _).mono ?_); rintro e w4 ⟨rfl, b4⟩) | (go_at_call 53; (with_reducible refine (HF.out _).mono ?_); rintro e w5 ⟨rfl, b5⟩)))
  (try go_wp2_with fail)
  refine hK.out _ _ ?_ (fun hHeld7 => ?_)
  · (try dsimp only)
    (first | exact HS0.out.next (Below.refl _ _).drew | (refine HK.out _ _ _ _ ?_ (by with_reducible assumption); with_reducible assumption))
  clear hK K hHeld
  try simp only [Act.put, List.setIfInBounds_toArray, List.set_cons_zero, List.set_cons_succ]
  refine wpAnyH_ready (rs := [7]) (by kernel_rfl) (by simp) ?_
  refine (h4_cons rfl (fun K hK => ?_) AllReadyH.nil)
  go_simp
  ((first | (go_at_call 51; (with_reducible refine (HS.out _).mono ?_); rintro e w4 ⟨rfl, b4⟩) | (go_at_call 53; (with_reducible refine (HF.out _).mono ?_); rintro e w5 ⟨rfl, b5⟩)))
  (try go_wp2_with fail)
  refine hK.out _ _ ?_ (fun hHeld8 => ?_)
  · (try dsimp only)
    (first | exact HS0.out.next (Below.refl _ _).drew | (refine HK.out _ _ _ _ ?_ (by with_reducible assumption); with_reducible assumption))
  clear hK K hHeld7
  try simp only [Act.put, List.setIfInBounds_toArray, List.set_cons_zero, List.set_cons_succ]
  refine h4_take (i := 8) (v := ?v8) rfl (by kernel_rfl) (by kernel_rfl) (by kernel_rfl) (fun _ _ _ h => h) (by rfl) ?y8 hHeld8 ?r8
  case y8 => (intro wS hSw; obtain ⟨hq1, hq2, _⟩ := hSw; unfold specK at hq1; obtain ⟨k0, k1, k2, k3, k4, k5, k6, k7, k8, k9, k10, _, _, _, _, _, _, _, _, _, _, _, kz⟩ := hq1; obtain ⟨m0, m1, m2, m3, m4, _, _, _, _, _, mz⟩ := hq2; go_simp; (try with_reducible rfl))
  try simp only [Act.put, List.setIfInBounds_toArray, List.set_cons_zero, List.set_cons_succ]
  refine h4_take (i := 9) (v := ?v9) rfl (by kernel_rfl) (by kernel_rfl) (by kernel_rfl) (fun _ _ _ h => h) (by rfl) ?y9 hHeld8 ?r9
  case y9 => (intro wS hSw; obtain ⟨hq1, hq2, _⟩ := hSw; unfold specK at hq1; obtain ⟨k0, k1, k2, k3, k4, k5, k6, k7, k8, k9, k10, _, _, _, _, _, _, _, _, _, _, _, kz⟩ := hq1; obtain ⟨m0, m1, m2, m3, m4, _, _, _, _, _, mz⟩ := hq2; go_simp; (try with_reducible rfl))
  try simp only [Act.put, List.setIfInBounds_toArray, List.set_cons_zero, List.set_cons_succ]
  refine h4_take (i := 10) (v := ?v10) rfl (by kernel_rfl) (by kernel_rfl) (by kernel_rfl) (fun _ _ _ h => h) (by rfl) ?y10 hHeld8 ?r10
  case y10 => (intro wS hSw; obtain ⟨hq1, hq2, _⟩ := hSw; unfold specK at hq1; obtain ⟨k0, k1, k2, k3, k4, k5, k6, k7, k8, k9, k10, _, _, _, _, _, _, _, _, _, _, _, kz⟩ := hq1; obtain ⟨m0, m1, m2, m3, m4, _, _, _, _, _, mz⟩ := hq2; go_simp; (try with_reducible rfl))
  try simp only [Act.put, List.setIfInBounds_toArray, List.set_cons_zero, List.set_cons_succ]
  refine wpAnyH_done (by kernel_rfl) ?_ _
  all_goals
    go_wp2_with fail
    (try simp only [Exit.inBlock, Exit.then]); refine bodyPost_ret (by simp [results, Tryd.results33, go_sem, *]; try rfl) rfl ?_
    exact ⟨.inr ⟨_, _, HB.out, by rw [← HX1.out, ← HX2.out]⟩, (‹SQ at' s 102 next w.heap.size (w.heap.size + 1) (strN a.s) a.n a.h a.l a.num w _›).2.2⟩
set_option maxRecDepth 100000 in
set_option maxHeartbeats 3200000 in
theorem body_s (at' next : Nat) (s : SpecF) (hv : s.verb = 115) (hp : -1000 < s.prec ∧ s.prec < 1000) (a : ArgF) (z : Int) (hl : a.s.length ≤ 1000000) (w : World) :
    Calls Tryd.prog 33 #[.agg (specV at' s next), argV a] w (BodyPost s a z w) := by
  have hsz := strN_size a.s
  have HS0 := Lib.hid (SQ.start at' s 115 next (strN a.s) a.n a.h a.l a.num w 52 37)
  simp only [specV, specC, argV]
  rw [hv, show ((115 : Nat) : Int) = 115 from rfl]
  by_cases hc : 0 ≤ s.prec ∧ s.prec < a.s.length
  · have hb : bodyF s a z = .ok ([], a.s.take s.prec.toNat) := by
      unfold bodyF
      rw [if_neg (by omega), if_neg (by omega), if_pos hv, if_pos hc]
    have HB := Lib.hid hb
    obtain ⟨c, hpc⟩ : ∃ c : Nat, s.prec = (c : Int) := ⟨s.prec.toNat, by omega⟩
    have hsl := fun W => sslice_h a.s c (by omega) W
    rw [hpc, Int.toNat_natCast] at HB
    rw [hpc] at hc ⊢
    have hcs : c < (strN a.s).size := by omega
    have hc1 : ((c : Int) < ((strN a.s).size : Int)) := by omega
    obtain ⟨X, hX⟩ : ∃ X, X = strN (a.s.take c) := ⟨_, rfl⟩
    rw [← hX] at hsl
    have HX := Lib.hid hX
    obtain ⟨S, hS⟩ : ∃ S, S = strN a.s := ⟨_, rfl⟩
    rw [← hS] at hsl hcs hc1 ⊢
    clear hpc hX hS hb hsz HS0 hc
    go_enter Tryd.func33, Tryd.ntmps33
    go_wp2_with fail
    go_quiet (fail)
    go_wp2_with fail
    (try simp only [Exit.inBlock, Exit.then]); refine bodyPost_ret (by simp [results, Tryd.results33, go_sem, *]; try rfl) rfl ?_
    exact ⟨.inr ⟨_, _, HB.out, by rw [← HX.out]; rfl⟩, by (repeat' (first | (with_reducible exact Below.refl _ _) | (refine Below.trans ?_ (Below.mono (by with_reducible assumption) ?_)) | (with_reducible exact Below.refl _ _) | (with_reducible refine below_drewN ?_ _) | (with_reducible refine Below.drew ?_) | (with_reducible refine Below.setCell ?_ ?_ _) | (with_reducible refine Below.alloc ?_ ?_ _) | (with_reducible assumption) | (simp; done) | (simp; omega) | omega))⟩
  · have hb : bodyF s a z = .ok ([], a.s) := by
      unfold bodyF
      rw [if_neg (by omega), if_neg (by omega), if_pos hv, if_neg hc]
    have HB := Lib.hid hb
    obtain ⟨X, hX⟩ : ∃ X, X = strN a.s := ⟨_, rfl⟩
    rw [← hX] at hsz ⊢
    have HX := Lib.hid hX
    clear hX hb HS0
    have h0 : s.prec < 0 ∨ ((0 ≤ s.prec) ∧ ¬ s.prec < (X.size : Int)) := by omega
    clear hc
    rcases h0 with h0 | ⟨h0, h1⟩
    all_goals
      go_enter Tryd.func33, Tryd.ntmps33
      go_wp2_with fail
      go_quiet (fail)
      go_wp2_with fail
      (try simp only [Exit.inBlock, Exit.then]); refine bodyPost_ret (by simp [results, Tryd.results33, go_sem, *]; try rfl) rfl ?_
      exact ⟨.inr ⟨_, _, HB.out, by rw [← HX.out]; rfl⟩, by (repeat' (first | (with_reducible exact Below.refl _ _) | (refine Below.trans ?_ (Below.mono (by with_reducible assumption) ?_)) | (with_reducible exact Below.refl _ _) | (with_reducible refine below_drewN ?_ _) | (with_reducible refine Below.drew ?_) | (with_reducible refine Below.setCell ?_ ?_ _) | (with_reducible refine Below.alloc ?_ ?_ _) | (with_reducible assumption) | (simp; done) | (simp; omega) | omega))⟩
end Go.Proofs.YtpkooogfefkcdaaDoor
