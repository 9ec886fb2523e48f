/- Several texts put together: FfxB. -/
import Derived.Test.YtpkooogfefkcdaaDoorBu19
import Derived.Test.YtpkooogfefkcdaaDoorBu14
import Derived.Test.YtpkooogfefkcdaaDoorBu20
import Derived.Test.YtpkooogfefkcdaaDoorBu1
import Derived.Test.YtpkooogfefkcdaaDoorBu7
/- fieldfarelaw08.FormatFixed: the walk. -/
namespace Go.Proofs.YtpkooogfefkcdaaDoor
open Go.RowKit
theorem reads_blk {W : World} {g : Nat} {t : TypeId} {args : List ArgF} (h : Blk W g t (args.flatMap argC).toArray) : Reads W W.heap.size 5 (some ⟨g, 0, none⟩) args.length (args.flatMap argC) := by
  refine ⟨?_, fun _ => ⟨_, rfl, h.lt, fun j u hu => ?_⟩⟩
  · clear h
    induction args with
    | nil => rfl
    | cons a r ih => rw [List.flatMap_cons, List.length_append, ih, List.length_cons]; show 5 + _ = _; omega
  · have : (⟨g, 0, none⟩ : Addr).add j = ⟨g, j, none⟩ := by unfold Addr.add; split <;> simp_all
    rw [this, h.cell]
    simpa using hu
/-- Make of arguments that lie in a known block. -/
theorem make_blk {P b : List Nat} {args : List ArgF} (hP : ∀ x ∈ P, x < 256) (hPl : P.length ≤ 1000000) (hok : ∀ a ∈ args, a.ok) (hR : makeF (P.length + 1) P args [] = .ok b) {S T : ByteArray} (hS : strN P = S) (hT : strN b = T) {cs : Array Value} (hcs : (args.flatMap argC).toArray = cs) {n : Nat} (hn : args.length = n) (g : Nat) (W : World) (hb : Blk W g 37 cs) (ht : TzOk W) :
    Calls Tryd.prog 10 #[.string S, .slice (some ⟨g, 0, none⟩) n n] W fun e w' => e = .returned (.tuple #[.string T, .nilIface]) ∧ Below W.heap.size W w' := by
  subst hS hT hcs hn
  refine (make_any P hP hPl args (some ⟨g, 0, none⟩) args.length W.heap.size hok (Nat.le_refl _) _ (reads_blk hb) (Nat.le_refl _) ht).mono fun e w' h => ?_
  obtain ⟨⟨⟨c, h⟩, _⟩ | ⟨b', h, he⟩, hb⟩ := h
  · rw [hR] at h; cases h
  · rw [hR] at h
    injection h with h; subst h
    exact ⟨he, hb⟩
/-- The number's box, the tables, and what is elder. -/
structure FX (n : Bool) (h l : Int) (w w' : World) : Prop where
  bx : Box3 w' w.heap.size (.bool n) (.int .u64 h) (.int .u64 l)
  tz : TzOk w'
  bl : Below w.heap.size w w'
theorem FX.next {n : Bool} {h l : Int} {w x y : World} (p : FX n h l w x) (q : Below x.heap.size x y) : FX n h l w y := ⟨p.bx.below q, p.tz.below q, p.bl.trans (q.mono p.bl.size)⟩
theorem FX.start (n : Bool) (h l : Int) (w : World) (T : TypeId) (ht : TzOk w) : FX n h l w (w.alloc (.cells #[.bool n, .int .u64 h, .int .u64 l] T)) :=
  ⟨Box3.make _ _ _ _ _ rfl, ht.below ((Below.refl _ _).alloc (Nat.le_refl _) _), (Below.refl _ _).alloc (Nat.le_refl _) _⟩
theorem fix_make (z : Int) (p : Nat) (hz : z.natAbs < LIM) (hp : p ≤ 99) : makeF (fixP.length + 1) fixP [numA ((p : Int) * 1000000) false, numA z true] [] = .ok (fixT z p) :=
  fix_gen z p hp _ (numA z true) rfl (star_num p (by omega) false _)
theorem small_d (v : Int) (h : v.natAbs < 1000000) : zh v = 0 ∧ zl v = (v.natAbs : Int) := by
  unfold zh zl; constructor <;> omega
theorem prefix_fix (z : Int) (p : Nat) (hz : z.natAbs < LIM) (hp : p ≤ 99) (A : Option Addr) (c B0 : Nat) (W : World) (hB : B0 ≤ W.heap.size) (hr : RB W B0 A (fixT z p)) (hc : (fixT z p).length ≤ c) :
    Calls Tryd.prog 15 #[.slice A (fixT z p).length c] W fun e w' => e = .returned (.tuple #[.agg #[.bool (zn (cutZ z p)), .int .u64 (zh (cutZ z p)), .int .u64 (zl (cutZ z p))], .int .i64 ((fixT z p).length : Int), .nilIface]) ∧ Below W.heap.size W w' := by
  have hl := fixT_len z p
  obtain ⟨h1, h2, h3, h4⟩ := fix_read z p hz
  refine (prefix_any A c (fixT z p) W B0 hB hr hc (by omega)).mono fun e w' h => ⟨?_, h.2⟩
  rcases h.1 with ⟨h5, _⟩ | ⟨_, h5, _⟩ | ⟨_, _, he⟩
  · omega
  · omega
  · rw [he, h1, h2]
theorem sub_fix (z : Int) (p : Nat) (hz : z.natAbs < LIM) (hp : p < 6) : ∃ (sn : Bool) (δ : Nat), δ < 10 ^ (6 - p) ∧
    (∀ W, Calls Tryd.prog 16 #[.agg #[.bool (zn (z)), .int .u64 (zh (z)), .int .u64 (zl (z))], .agg #[.bool (zn (cutZ z p)), .int .u64 (zh (cutZ z p)), .int .u64 (zl (cutZ z p))]] W fun e w' => e = .returned (.tuple #[.agg #[.bool sn, .int .u64 0, .int .u64 (δ : Int)], .nilIface]) ∧ Below W.heap.size W w') ∧
    (sn = true → ∀ W, Calls Tryd.prog 17 #[.agg #[.bool true, .int .u64 0, .int .u64 (δ : Int)]] W fun e w' => e = .returned (.agg #[.bool false, .int .u64 0, .int .u64 (δ : Int)]) ∧ Below W.heap.size W w') := by
  obtain ⟨δ, hd, he⟩ := cutZ_rest z p hp
  have hp10 : 10 ^ (6 - p) ≤ 1000000 := by
    have := Nat.pow_le_pow_right (n := 10) (by decide) (show 6 - p ≤ 6 by omega)
    exact Nat.le_trans this (by decide)
  have hab : (z - cutZ z p).natAbs = δ := by rw [he]; split <;> omega
  have hlim : (z - cutZ z p).natAbs < LIM := by rw [hab]; unfold LIM; omega
  obtain ⟨s1, s2⟩ := small_d (z - cutZ z p) (by omega)
  rw [hab] at s2
  refine ⟨zn (z - cutZ z p), δ, hd, fun W => ?_, fun hs W => ?_⟩
  · have := sub_ok _ _ _ _ _ _ z (cutZ z p) _ (IsD.of hz) (IsD.of (cutZ_lim p hz)) rfl hlim W
    rw [s1, s2] at this
    exact this
  · have hi := IsD.of hlim
    rw [s1, s2, hs] at hi
    have := neg_ok _ _ _ _ hi W
    obtain ⟨t1, t2⟩ := small_d (-(z - cutZ z p)) (by omega)
    rw [t1, t2, Int.natAbs_neg, hab] at this
    have hneg : zn (-(z - cutZ z p)) = false := by
      unfold zn at hs ⊢
      have := of_decide_eq_true hs
      exact decide_eq_false (by omega)
    rw [hneg] at this
    exact this
set_option maxRecDepth 100000 in
set_option maxHeartbeats 3200000 in
theorem fix_main (z : Int) (p : Nat) (hz : z.natAbs < LIM) (hp : p ≤ 99) (w : World) (ht : TzOk w) :
    Calls Tryd.prog 6 #[.agg #[.bool (zn (z)), .int .u64 (zh (z)), .int .u64 (zl (z))], .int .u8 (p : Int)] w fun e w' => e = .returned (.bool true) ∧ Below w.heap.size w w' := by
  have hwp : IntKind.i64.wrap (p : Int) = (p : Int) := by rw [IntKind.wrap_i64]; omega
  have HI := Lib.hid (fun W => int_any (p : Int) (by omega) (by omega) W)
  have HM := Lib.hid (fun (g : Nat) (W : World) (hb : Blk W g 37 #[.string { data := #[] }, .bool (zn ((p : Int) * 1000000)), .int .u64 (zh ((p : Int) * 1000000)), .int .u64 (zl ((p : Int) * 1000000)), .bool false, .string { data := #[] }, .bool (zn z), .int .u64 (zh z), .int .u64 (zl z), .bool true]) (h : TzOk W) =>
    make_blk (P := fixP) (by decide) (by decide) (args := [numA ((p : Int) * 1000000) false, numA z true]) (by
      intro a ha
      simp only [List.mem_cons, List.not_mem_nil, or_false] at ha
      rcases ha with rfl | rfl
      · exact numA_ok (by unfold LIM; omega) _
      · exact numA_ok hz _) (fix_make z p hz hp) (S := { data := #[37, 46, 42, 102] }) (by decide) rfl (by rfl) (n := 2) rfl g W hb h)
  have iz := IsD.of hz
  have HG := Lib.hid (fun W => good_b _ _ _ (good_of iz) W)
  have hfb := fixT_byte z p
  have hfl := fixT_len z p
  have hfs := strN_size (fixT z p)
  have HP6 := Lib.hid (fun (h6 : 6 ≤ p) (A : Option Addr) (c B0 : Nat) (W : World) (hB : B0 ≤ W.heap.size) (hr : RB W B0 A (fixT z p)) (hc : (fixT z p).length ≤ c) => show Calls Tryd.prog 15 #[.slice A (fixT z p).length c] W fun e w' => e = .returned (.tuple #[.agg #[.bool (zn (z)), .int .u64 (zh (z)), .int .u64 (zl (z))], .int .i64 ((fixT z p).length : Int), .nilIface]) ∧ Below W.heap.size W w' from (by
    have := prefix_fix z p hz hp A c B0 W hB hr hc
    rw [cutZ_six z p h6] at this
    exact this))
  have HP5 := Lib.hid (fun (A : Option Addr) (c B0 : Nat) (W : World) (hB : B0 ≤ W.heap.size) (hr : RB W B0 A (fixT z p)) (hc : (fixT z p).length ≤ c) => prefix_fix z p hz hp A c B0 W hB hr hc)
  have HS5 := Lib.hid (fun (h : p < 6) => sub_fix z p hz h)
  have hd : decide ((99 : Int) < (p : Int)) = false := by simp; omega
  have hd2 : ¬(99 < (p : Int)) := by omega
  have HK := Lib.hid (fun (x y : World) (p : FX (zn z) (zh z) (zl z) w x) (q : Below x.heap.size x y) => p.next q)
  have HS0 := Lib.hid (FX.start (zn z) (zh z) (zl z) w 34 ht)
  have HFB := Lib.hid hfb
  clear hfb
  generalize fixT z p = T at *
  generalize (p : Int) * 1000000 = P6 at *
  clear ht iz hz
  generalize zn (cutZ z p) = cn at *
  generalize zh (cutZ z p) = ch at *
  generalize zl (cutZ z p) = cl at *
  generalize zn z = bn at *
  generalize zh z = bh at *
  generalize zl z = bl at *
  go_enter Tryd.func6, Tryd.ntmps6
  go_upto_region 5 with (first
    | (go_at_call 7; (with_reducible refine (awake8_any _ HS0.out.tz).mono ?_); rintro e w1 ⟨rfl, b1⟩; have HS1 := Lib.hid (HS0.out.next b1); have k0 := HS1.out.bx.c0; have k1 := HS1.out.bx.c1; have k2 := HS1.out.bx.c2; clear b1)
    | (go_at_call 14; (with_reducible refine (HG.out _).mono ?_); rintro e w2 ⟨rfl, b2⟩; have HS2 := Lib.hid (HS1.out.next b2); clear k0 k1 k2 b2)
    | fail)
  refine wp_region_held_drew (S := (fun w' => FX bn bh bl w w')) (by kernel_rfl) ?_ (fun hHeld => ?_)
  · (try dsimp only)
    (first | exact HS2.out.next (Below.refl _ _).drew | (refine HK.out _ _ ?_ (by with_reducible assumption); with_reducible assumption) | (refine HK.out _ _ (by with_reducible assumption) ?_; repeat' (first | with_reducible exact Below.refl _ _ | with_reducible refine Below.drew ?_ | with_reducible refine below_drewN ?_ _ | with_reducible refine Below.alloc ?_ ?_ _ | (simp; done))))
  refine h4_take (i := 0) (v := ?v0) rfl (by kernel_rfl) (by kernel_rfl) (by kernel_rfl) (fun _ _ _ h => h) (by rfl) ?y0 hHeld ?r0
  case y0 => (intro wS hSw; obtain ⟨hq1, _, _⟩ := hSw; obtain ⟨k0, k1, k2, _, _, _, kz⟩ := hq1; go_simp; (try with_reducible rfl))
  try simp only [Act.put, List.setIfInBounds_toArray, List.set_cons_zero, List.set_cons_succ]
  refine h4_take (i := 4) (v := ?v1) rfl (by kernel_rfl) (by kernel_rfl) (by kernel_rfl) (fun _ _ _ h => h) (by rfl) ?y1 hHeld ?r1
  case y1 => (intro wS hSw; obtain ⟨hq1, _, _⟩ := hSw; obtain ⟨k0, k1, k2, _, _, _, kz⟩ := hq1; go_simp; (try with_reducible rfl))
  try simp only [Act.put, List.setIfInBounds_toArray, List.set_cons_zero, List.set_cons_succ]
  refine h4_take (i := 5) (v := ?v2) rfl (by kernel_rfl) (by kernel_rfl) (by kernel_rfl) (fun _ _ _ h => h) (by rfl) ?y2 hHeld ?r2
  case y2 => (intro wS hSw; obtain ⟨hq1, _, _⟩ := hSw; obtain ⟨k0, k1, k2, _, _, _, kz⟩ := hq1; go_simp; (try with_reducible rfl))
  try simp only [Act.put, List.setIfInBounds_toArray, List.set_cons_zero, List.set_cons_succ]
  refine wpAnyH_ready (rs := [1]) (by kernel_rfl) (by simp) ?_
  refine (h4_cons rfl (fun K hK => ?_) AllReadyH.nil)
  go_simp
  refine hK.out _ _ ?_ (fun hHeld4 => ?_)
  · (try dsimp only)
    (first | exact HS2.out.next (Below.refl _ _).drew | (refine HK.out _ _ ?_ (by with_reducible assumption); with_reducible assumption) | (refine HK.out _ _ (by with_reducible assumption) ?_; repeat' (first | with_reducible exact Below.refl _ _ | with_reducible refine Below.drew ?_ | with_reducible refine below_drewN ?_ _ | with_reducible refine Below.alloc ?_ ?_ _ | (simp; done))))
  clear hK K hHeld
  try simp only [Act.put, List.setIfInBounds_toArray, List.set_cons_zero, List.set_cons_succ]
  refine wpAnyH_ready (rs := [2]) (by kernel_rfl) (by simp) ?_
  refine (h4_cons rfl (fun K hK => ?_) AllReadyH.nil)
  go_simp
  ((go_at_call 11; (try rw [hwp]); (with_reducible refine (HI.out _).mono ?_); rintro e w3 ⟨rfl, b3⟩))
  (try go_wp2_with fail)
  refine hK.out _ _ ?_ (fun hHeld5 => ?_)
  · (try dsimp only)
    (first | exact HS2.out.next (Below.refl _ _).drew | (refine HK.out _ _ ?_ (by with_reducible assumption); with_reducible assumption) | (refine HK.out _ _ (by with_reducible assumption) ?_; repeat' (first | with_reducible exact Below.refl _ _ | with_reducible refine Below.drew ?_ | with_reducible refine below_drewN ?_ _ | with_reducible refine Below.alloc ?_ ?_ _ | (simp; done))))
  clear hK K hHeld4
  try simp only [Act.put, List.setIfInBounds_toArray, List.set_cons_zero, List.set_cons_succ]
  refine h4_take (i := 3) (v := ?v5) rfl (by kernel_rfl) (by kernel_rfl) (by kernel_rfl) (fun _ _ _ h => h) (by rfl) ?y5 hHeld5 ?r5
  case y5 => (intro wS hSw; obtain ⟨hq1, _, _⟩ := hSw; obtain ⟨k0, k1, k2, _, _, _, kz⟩ := hq1; go_simp; (try with_reducible rfl))
  try simp only [Act.put, List.setIfInBounds_toArray, List.set_cons_zero, List.set_cons_succ]
  refine wpAnyH_ready (rs := [6]) (by kernel_rfl) (by simp) ?_
  refine (h4_cons rfl (fun K hK => ?_) AllReadyH.nil)
  go_simp
  refine hK.out _ _ ?_ (fun hHeld7 => ?_)
  · (try dsimp only)
    (first | exact HS2.out.next (Below.refl _ _).drew | (refine HK.out _ _ ?_ (by with_reducible assumption); with_reducible assumption) | (refine HK.out _ _ (by with_reducible assumption) ?_; repeat' (first | with_reducible exact Below.refl _ _ | with_reducible refine Below.drew ?_ | with_reducible refine below_drewN ?_ _ | with_reducible refine Below.alloc ?_ ?_ _ | (simp; done))))
  clear hK K hHeld5
  try simp only [Act.put, List.setIfInBounds_toArray, List.set_cons_zero, List.set_cons_succ]
  refine wpAnyH_ready (rs := [7]) (by kernel_rfl) (by simp) ?_
  refine (h4_cons rfl (fun K hK => ?_) AllReadyH.nil)
  go_simp
  ((go_at_call 10; (with_reducible refine (HM.out _ _ (by first | exact Blk.new _ _ _ | exact (Blk.new _ _ _).drew | exact ((Blk.new _ _ _).drew).drew) (FX.tz (by with_reducible assumption))).mono ?_); rintro e w4 ⟨rfl, b4⟩))
  (try go_wp2_with fail)
  refine hK.out _ _ ?_ (fun hHeld8 => ?_)
  · (try dsimp only)
    (first | exact HS2.out.next (Below.refl _ _).drew | (refine HK.out _ _ ?_ (by with_reducible assumption); with_reducible assumption) | (refine HK.out _ _ (by with_reducible assumption) ?_; repeat' (first | with_reducible exact Below.refl _ _ | with_reducible refine Below.drew ?_ | with_reducible refine below_drewN ?_ _ | with_reducible refine Below.alloc ?_ ?_ _ | (simp; done))))
  clear hK K hHeld7
  try simp only [Act.put, List.setIfInBounds_toArray, List.set_cons_zero, List.set_cons_succ]
  refine h4_take (i := 8) (v := ?v8) rfl (by kernel_rfl) (by kernel_rfl) (by kernel_rfl) (fun _ _ _ h => h) (by rfl) ?y8 hHeld8 ?r8
  case y8 => (intro wS hSw; obtain ⟨hq1, _, _⟩ := hSw; obtain ⟨k0, k1, k2, _, _, _, kz⟩ := hq1; go_simp; (try with_reducible rfl))
  try simp only [Act.put, List.setIfInBounds_toArray, List.set_cons_zero, List.set_cons_succ]
  refine h4_take (i := 9) (v := ?v9) rfl (by kernel_rfl) (by kernel_rfl) (by kernel_rfl) (fun _ _ _ h => h) (by rfl) ?y9 hHeld8 ?r9
  case y9 => (intro wS hSw; obtain ⟨hq1, _, _⟩ := hSw; obtain ⟨k0, k1, k2, _, _, _, kz⟩ := hq1; go_simp; (try with_reducible rfl))
  try simp only [Act.put, List.setIfInBounds_toArray, List.set_cons_zero, List.set_cons_succ]
  refine h4_take (i := 10) (v := ?v10) rfl (by kernel_rfl) (by kernel_rfl) (by kernel_rfl) (fun _ _ _ h => h) (by rfl) ?y10 hHeld8 ?r10
  case y10 => (intro wS hSw; obtain ⟨hq1, _, _⟩ := hSw; obtain ⟨k0, k1, k2, _, _, _, kz⟩ := hq1; go_simp; (try with_reducible rfl))
  try simp only [Act.put, List.setIfInBounds_toArray, List.set_cons_zero, List.set_cons_succ]
  refine h4_take (i := 11) (v := ?v11) rfl (by kernel_rfl) (by kernel_rfl) (by kernel_rfl) (fun _ _ _ h => h) (by rfl) ?y11 hHeld8 ?r11
  case y11 => (intro wS hSw; obtain ⟨hq1, _, _⟩ := hSw; obtain ⟨k0, k1, k2, _, _, _, kz⟩ := hq1; go_simp; (try with_reducible rfl))
  try simp only [Act.put, List.setIfInBounds_toArray, List.set_cons_zero, List.set_cons_succ]
  refine h4_take (i := 12) (v := ?v12) rfl (by kernel_rfl) (by kernel_rfl) (by kernel_rfl) (fun _ _ _ h => h) (by rfl) ?y12 hHeld8 ?r12
  case y12 => (intro wS hSw; obtain ⟨hq1, _, _⟩ := hSw; obtain ⟨k0, k1, k2, _, _, _, kz⟩ := hq1; go_simp; (try with_reducible rfl))
  try simp only [Act.put, List.setIfInBounds_toArray, List.set_cons_zero, List.set_cons_succ]
  refine wpAnyH_done (by kernel_rfl) ?_ _
  all_goals
    have HX4 := Lib.hid ‹FX bn bh bl w w4›
    clear HM HI HG HS0 HS1 HS2 b4
    obtain ⟨cc, CC, ff, hcv, hcl, hrb⟩ := conv_run w4 T HFB.out
    have HRB := Lib.hid hrb
    clear hrb
    by_cases h6 : 6 ≤ p
    · have d6 : decide ((6 : Int) ≤ (p : Int)) = true := decide_eq_true (by omega)
      have d6' : (6 : Int) ≤ (p : Int) := by omega
      go_wp2_with (first
        | (go_at_call 15; (with_reducible refine (HP6.out h6 _ _ _ _ (by simp) HRB.out hcl).mono ?_); rintro e w5 ⟨rfl, b5⟩; have HX5 := Lib.hid (HK.out _ _ HX4.out (((Below.refl _ _).alloc (Nat.le_refl _) _).drew.trans (b5.mono (by simp)))); have k0 := HX5.out.bx.c0; have k1 := HX5.out.bx.c1; have k2 := HX5.out.bx.c2; have kz := HX5.out.bx.z; have hB5 := HX5.out.bl; clear b5)
        | fail)
      go_ret
      exact ⟨rfl, hB5.alloc (by have := hB5.size; omega) _⟩
    · have d6 : decide ((6 : Int) ≤ (p : Int)) = false := decide_eq_false (by omega)
      have d6' : ¬(6 : Int) ≤ (p : Int) := by omega
      obtain ⟨sn, δ, hδ, HSU, HNE⟩ := HS5.out (by omega)
      have HSU := Lib.hid HSU
      have HNE := Lib.hid HNE
      clear HS5 HP6
      cases sn
      · go_wp2_with (first
          | (go_at_call 15; (with_reducible refine (HP5.out _ _ _ _ (by simp) HRB.out hcl).mono ?_); rintro e w5 ⟨rfl, b5⟩; have HX5 := Lib.hid (HK.out _ _ HX4.out (((Below.refl _ _).alloc (Nat.le_refl _) _).drew.trans (b5.mono (by simp)))); have k0 := HX5.out.bx.c0; have k1 := HX5.out.bx.c1; have k2 := HX5.out.bx.c2; have kz := HX5.out.bx.z; have hB5 := HX5.out.bl; clear b5)
          | (go_at_call 16; (with_reducible refine (HSU.out _).mono ?_); rintro e w6 ⟨rfl, b6⟩; have hB6 : Below w.heap.size w w6 := (hB5.alloc (by have := hB5.size; omega) _).trans (b6.mono (by have := hB5.size; simp; omega)); clear b6 k0 k1 k2)
          | fail)
        go_loopw [12, 13] (fun u i wr => ∃ j : Nat, u = .int .u64 ((10 ^ (j - p) : Nat) : Int) ∧ i = .int .i64 (j : Int) ∧ p ≤ j ∧ j ≤ 6 ∧ Hid (Box3 wr w6.heap.size (.bool false) (.int .u64 0) (.int .u64 (δ : Int))) ∧ Hid (Below w.heap.size w wr)) (fun _ i _ => 6 - (intOf i).toNat)
        case atStart => exact ⟨p, by simp, by go_num, Nat.le_refl _, by omega, Lib.hid (Box3.make _ _ _ _ _ rfl), Lib.hid (hB6.alloc (by have := hB6.size; omega) _)⟩
        case round =>
          obtain ⟨j, rfl, rfl, hj1, hj2, HBX, HBL⟩ := hrel
          have hp5 : 10 ^ (j - p) ≤ 1000000 := Nat.le_trans (Nat.pow_le_pow_right (n := 10) (by decide) (show j - p ≤ 6 by omega)) (by decide)
          by_cases hlt : j < 6
          · have dj : decide ((j : Int) < 6) = true := decide_eq_true (by omega)
            have hpw : 10 ^ (j + 1 - p) = 10 ^ (j - p) * 10 := by rw [show j + 1 - p = (j - p) + 1 by omega, Nat.pow_succ]
            generalize 10 ^ (j - p) = q at *
            go_wp2_with fail
            go_roundw
            case rel => exact ⟨j + 1, by rw [hpw]; go_num, by go_num, by omega, by omega, HBX, HBL⟩
            case measure => simp [intOf]; omega
          · obtain rfl : j = 6 := by omega
            have m0 := HBX.out.c0
            have m1 := HBX.out.c1
            have m2 := HBX.out.c2
            generalize 10 ^ (6 - p) = q at *
            have dd : decide ((δ : Int) < (q : Int)) = true := decide_eq_true (by omega)
            have dd' : decide (δ < q) = true := decide_eq_true hδ
            go_wp2_with fail
            go_ret
            exact ⟨rfl, HBL.out⟩
      · go_wp2_with (first
          | (go_at_call 15; (with_reducible refine (HP5.out _ _ _ _ (by simp) HRB.out hcl).mono ?_); rintro e w5 ⟨rfl, b5⟩; have HX5 := Lib.hid (HK.out _ _ HX4.out (((Below.refl _ _).alloc (Nat.le_refl _) _).drew.trans (b5.mono (by simp)))); have k0 := HX5.out.bx.c0; have k1 := HX5.out.bx.c1; have k2 := HX5.out.bx.c2; have kz := HX5.out.bx.z; have hB5 := HX5.out.bl; clear b5)
          | (go_at_call 16; (with_reducible refine (HSU.out _).mono ?_); rintro e w6 ⟨rfl, b6⟩; have hB6 : Below w.heap.size w w6 := (hB5.alloc (by have := hB5.size; omega) _).trans (b6.mono (by have := hB5.size; simp; omega)); clear b6 k0 k1 k2)
          | (go_at_call 17; (with_reducible refine (HNE.out trivial _).mono ?_); rintro e w7 ⟨rfl, b7⟩; have bx7 := Lib.hid ((Box3.make w6 (.bool true) (.int .u64 0) (.int .u64 (δ : Int)) 34 rfl).below b7); have hB7 : Below w.heap.size w w7 := (hB6.alloc (by have := hB6.size; omega) _).trans (b7.mono (by have := hB6.size; simp; omega)); have z7 := b7.size; have y0 := bx7.out.c0; have y1 := bx7.out.c1; have y2 := bx7.out.c2; have y3 := bx7.out.f0; have y4 := bx7.out.f1; have y5 := bx7.out.f2; have y6 := bx7.out.z; clear b7)
          | fail)
        go_loopw [12, 13] (fun u i wr => ∃ j : Nat, u = .int .u64 ((10 ^ (j - p) : Nat) : Int) ∧ i = .int .i64 (j : Int) ∧ p ≤ j ∧ j ≤ 6 ∧ Hid (Box3 wr w6.heap.size (.bool false) (.int .u64 0) (.int .u64 (δ : Int))) ∧ Hid (Below w.heap.size w wr)) (fun _ i _ => 6 - (intOf i).toNat)
        case atStart => exact ⟨p, by simp, by go_num, Nat.le_refl _, by omega, Lib.hid (Box3.set bx7.out), Lib.hid (by have := hB6.size; (repeat' (first | (with_reducible exact Below.refl _ _) | (refine Below.trans ?_ (Below.mono (by with_reducible assumption) ?_)) | (with_reducible exact Below.refl _ _) | (with_reducible refine below_drewN ?_ _) | (with_reducible refine Below.drew ?_) | (with_reducible refine Below.setCell ?_ ?_ _) | (with_reducible refine Below.alloc ?_ ?_ _) | (with_reducible assumption) | (simp; done) | (simp; omega) | omega)))⟩
        case round =>
          obtain ⟨j, rfl, rfl, hj1, hj2, HBX, HBL⟩ := hrel
          have hp5 : 10 ^ (j - p) ≤ 1000000 := Nat.le_trans (Nat.pow_le_pow_right (n := 10) (by decide) (show j - p ≤ 6 by omega)) (by decide)
          by_cases hlt : j < 6
          · have dj : decide ((j : Int) < 6) = true := decide_eq_true (by omega)
            have hpw : 10 ^ (j + 1 - p) = 10 ^ (j - p) * 10 := by rw [show j + 1 - p = (j - p) + 1 by omega, Nat.pow_succ]
            generalize 10 ^ (j - p) = q at *
            go_wp2_with fail
            go_roundw
            case rel => exact ⟨j + 1, by rw [hpw]; go_num, by go_num, by omega, by omega, HBX, HBL⟩
            case measure => simp [intOf]; omega
          · obtain rfl : j = 6 := by omega
            have m0 := HBX.out.c0
            have m1 := HBX.out.c1
            have m2 := HBX.out.c2
            generalize 10 ^ (6 - p) = q at *
            have dd : decide ((δ : Int) < (q : Int)) = true := decide_eq_true (by omega)
            have dd' : decide (δ < q) = true := decide_eq_true hδ
            go_wp2_with fail
            go_ret
            exact ⟨rfl, HBL.out⟩
set_option maxRecDepth 100000 in
set_option maxHeartbeats 1600000 in
theorem fix_law (n : Bool) (h l : Int) (p0 : Int) (w : World) (wh : Wd h) (wl : Wd l) (hp0 : 0 ≤ p0 ∧ p0 < 256) (ht : TzOk w) :
    Calls Tryd.prog 6 #[.agg #[.bool n, .int .u64 h, .int .u64 l], .int .u8 p0] w fun e w' => e = .returned (.bool true) ∧ Below w.heap.size w w' := by
  have HS0 := Lib.hid (FX.start n h l w 34 ht)
  cases hg : goodB n h l with
  | false =>
    have HG := Lib.hid (fun W => good_b n h l hg W)
    clear ht wh wl
    go_enter Tryd.func6, Tryd.ntmps6
    go_wp2_with (first
      | (go_at_call 7; (with_reducible refine (awake8_any _ HS0.out.tz).mono ?_); rintro e w1 ⟨rfl, b1⟩; have HS1 := Lib.hid (HS0.out.next b1); have k0 := HS1.out.bx.c0; have k1 := HS1.out.bx.c1; have k2 := HS1.out.bx.c2; clear b1)
      | (go_at_call 14; (with_reducible refine (HG.out _).mono ?_); rintro e w2 ⟨rfl, b2⟩; have HS2 := Lib.hid (HS1.out.next b2); clear k0 k1 k2 b2)
      | fail)
    go_ret
    exact ⟨rfl, HS2.out.bl⟩
  | true =>
    by_cases hp : p0 ≤ 99
    · obtain ⟨p, rfl⟩ : ∃ p : Nat, p0 = (p : Int) := ⟨p0.toNat, by omega⟩
      obtain ⟨z, i⟩ : ∃ z, IsD n h l z := ⟨_, of_good wh wl hg⟩
      obtain ⟨e1, e2, e3⟩ := i.eq
      clear HS0 wh wl hg
      subst e1 e2 e3
      exact fix_main z p i.2.2.2.2 (by omega) w ht
    · have HG := Lib.hid (fun W => good_b n h l hg W)
      have hd : decide ((99 : Int) < p0) = true := decide_eq_true (by omega)
      clear ht wh wl
      go_enter Tryd.func6, Tryd.ntmps6
      go_wp2_with (first
        | (go_at_call 7; (with_reducible refine (awake8_any _ HS0.out.tz).mono ?_); rintro e w1 ⟨rfl, b1⟩; have HS1 := Lib.hid (HS0.out.next b1); have k0 := HS1.out.bx.c0; have k1 := HS1.out.bx.c1; have k2 := HS1.out.bx.c2; clear b1)
        | (go_at_call 14; (with_reducible refine (HG.out _).mono ?_); rintro e w2 ⟨rfl, b2⟩; have HS2 := Lib.hid (HS1.out.next b2); clear k0 k1 k2 b2)
        | fail)
      go_ret
      exact ⟨rfl, HS2.out.bl⟩
end Go.Proofs.YtpkooogfefkcdaaDoor
