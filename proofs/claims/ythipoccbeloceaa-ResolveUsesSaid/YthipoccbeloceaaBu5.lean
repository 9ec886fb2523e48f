/- Several texts put together: LexE, LexG. -/
import Derived.Test.YthipoccbeloceaaBu4
import Derived.Test.YthipoccbeloceaaShelf
import Derived.Test.YthipoccbeloceaaBu1
set_option linter.unusedSimpArgs false
set_option linter.unusedVariables false
namespace Go.Proofs.Ythipoccbeloceaa
open Go.RowKit
theorem RdrS.openz {w : World} {g : Nat} {src : List Nat} {a : Nat} {V : Value} (m : RdrS w g src a V) {i : Nat} (h : i < src.length) : ∃ ad c sb qo sp, w.cell? ⟨g, 0, none⟩ = some (.slice (some ad) src.length c) ∧ w.cell? ⟨g, 1, none⟩ = some (.int .i64 (a : Int)) ∧ w.frozen? ⟨g, 1, none⟩ = false ∧ g < w.heap.size ∧ ad.add i = (⟨sb, qo, sp⟩ : Addr) ∧ w.cell? ⟨sb, qo, sp⟩ = some (.int .u8 ((src[i] : Nat) : Int)) ∧ sb ≠ g ∧ sb < w.heap.size ∧ src.length ≤ c ∧
    ∀ i j, i ≤ j → j ≤ src.length → (∀ W, (Instr.slice 22 (.slice (some ad) src.length c) (some (.int .i64 (i : Int))) (some (.int .i64 (j : Int))) none).run Try.prog W = .ok (.slice (cutA (some ad) c i) (j - i) (c - i)) W) ∧ RB w g (cutA (some ad) c i) ((src.drop i).take (j - i)) := by
  have hl := m.len
  have hgl := m.lt
  obtain ⟨A, c, k0, k1, kz, hc, hs⟩ := m.sub
  obtain ⟨A', c', bx, r, hc'⟩ := m.box
  obtain ⟨rfl, rfl⟩ : A = A' ∧ c = c' := by have := k0.symm.trans bx.c0; simpa using this
  obtain ⟨ad, rfl, hbk, hcell⟩ := r.2 (by omega)
  have hb : (ad.add i).block < g := by rw [block_of_add]; exact hbk
  exact ⟨ad, c, (ad.add i).block, (ad.add i).off, (ad.add i).spot, bx.c0, bx.c1, bx.f1, bx.z, rfl, hcell i h, by omega, by omega, hc, hs⟩
def double8 : List (List UInt8) := [[124, 38], [124, 124], [38, 38], [33, 126], [61, 61], [33, 61], [60, 61], [62, 61], [43, 43], [45, 45], [43, 61], [45, 61], [42, 61], [47, 61], [37, 61], [94, 61]]
theorem strN_list (l : List Nat) : (strN l).toList = l.map UInt8.ofNat := by rw [ByteArray.toList_eq, strN_data]
theorem map8_inj {a b : List Nat} (ha : ∀ x ∈ a, x < 256) (hb : ∀ x ∈ b, x < 256) (h : a.map UInt8.ofNat = b.map UInt8.ofNat) : a = b := by
  refine strN_inj ha hb ?_
  have := congrArg (fun l => (⟨l.toArray⟩ : ByteArray)) h
  exact this
theorem mem8 {l : List Nat} (hl : ∀ x ∈ l, x < 256) (L : List (List Nat)) (hL : ∀ m ∈ L, ∀ x ∈ m, x < 256) : (strN l).toList ∈ L.map (fun m => m.map UInt8.ofNat) ↔ l ∈ L := by
  rw [strN_list, List.mem_map]
  constructor
  · rintro ⟨m, hm, e⟩
    rw [← map8_inj (hL m hm) hl e]; exact hm
  · intro h; exact ⟨l, h, rfl⟩
theorem idx_single : ∀ c, c < 256 → decide (0 ≤ Lib.indexByte [123, 125, 40, 41, 91, 93, 59, 44, 43, 45, 42, 47, 37, 94, 33, 62, 60, 63, 58, 126, 36, 61] (UInt8.ofNat c)) = decide (c ∈ singleL) := by decide +kernel
theorem single_any (c : Nat) (hc : c < 256) : ∃ v : Int, decide (0 ≤ v) = decide (c ∈ singleL) ∧ ∀ W, Calls Try.prog 58 #[.string { data := #[123, 125, 40, 41, 91, 93, 59, 44, 43, 45, 42, 47, 37, 94, 33, 62, 60, 63, 58, 126, 36, 61] }, .int .u8 (c : Int)] W fun e w' => e = .returned (.int .i64 v) ∧ w' = W := by
  refine ⟨_, idx_single c hc, fun W => ?_⟩
  have := Try.strings_IndexByte { data := #[123, 125, 40, 41, 91, 93, 59, 44, 43, 45, 42, 47, 37, 94, 33, 62, 60, 63, 58, 126, 36, 61] } (c : Int) W
  exact this
theorem str_of {W : World} {B : Nat} {A : Option Addr} {L : List Nat} {c : Nat} (h : RB W B A L) (hA : A = none → L = []) :
    (convert 22 9 (.slice A L.length c)).run Try.prog W = .ok (.string (strN L)) W := by
  cases A with
  | none =>
    obtain rfl := hA rfl
    exact run_convert_bytes_nil (P := Try.prog) W 22 5 Try.underlying22 Try.underlying5 0 c 9 Try.underlying9
  | some ad =>
    have := run_convert_bytes_back (P := Try.prog) W 22 9 5 ad c (L.map UInt8.ofNat) Try.underlying22 Try.underlying5 Try.underlying9 (fun j hj => by
      rw [List.length_map] at hj
      obtain ⟨ad', e, _, hc⟩ := h.2 (by omega)
      simp only [Option.some.injEq] at e
      subst e
      rw [hc j hj, List.getElem_map, UInt8.toNat_ofNat', Nat.mod_eq_of_lt (show L[j] < 2 ^ 8 from h.1 _ (List.getElem_mem hj))])
    rw [List.length_map] at this
    exact this
def SignPost (g : Nat) (src : List Nat) (a : Nat) (V : Value) (n : Nat) (w : World) (e : Ending) (w' : World) : Prop :=
  (n = 0 ∧ (∃ v, e = .returned (.tuple #[tokV ⟨0, 0, [], 0⟩, v]) ∧ FltV w' w.heap.size v a 4) ∧ Upd g none w w') ∨
  (n ≠ 0 ∧ e = .returned (.tuple #[tokV ⟨9, a, (src.drop a).take n, 0⟩, .nilIface]) ∧ RdrS w' g src (a + n) V ∧ Upd g none w w')
structure SgS (g : Nat) (src : List Nat) (a : Nat) (V : Value) (w w' : World) : Prop where
  r : RdrS w' g src a V
  u : Upd g none w w'
  x : Box6 w' w.heap.size (.int .i64 0) (.int .i64 0) (.string { data := #[] }) (.bool false) (.int .u64 0) (.int .u64 0)
theorem rb_some {w : World} {B : Nat} {A : Option Addr} {L : List Nat} (r : RB w B A L) : A = none → L = [] := fun e => by
  cases L with
  | nil => rfl
  | cons x l => obtain ⟨ad, e2, _⟩ := r.2 (by simp); rw [e] at e2; cases e2
structure NC (g : Nat) (src : List Nat) (N : Nat) (V : Value) (A : Option Addr) (c : Nat) (As : Option Addr) (T : List Nat) (w' : World) : Prop where
  c0 : w'.cell? ⟨g, 0, none⟩ = some (.slice A src.length c)
  r : RdrS w' g src N V
  rb : RB w' g As T
section
variable {g : Nat} {src : List Nat} {N : Nat} {V : Value} {A As : Option Addr} {c : Nat} {T : List Nat} {w' w2 : World}
theorem NC.next (h : NC g src N V A c As T w') (q : Below w'.heap.size w' w2) : NC g src N V A c As T w2 :=
  ⟨(q.cell h.r.lt).trans h.c0, h.r.next q, h.rb.keep fun p hp => (q.mono (Nat.le_of_lt h.r.lt)).cell hp⟩
theorem NC.far (h : NC g src N V A c As T w') {b : Nat} (hb : g < b) (j : Nat) (u : Value) : NC g src N V A c As T (w'.setCell ⟨b, j, none⟩ u) :=
  ⟨(World.cell?_setCell_other _ _ _ _ (fun e => by injection e with e _ _; omega)).trans h.c0, h.r.far hb _ _, h.rb.keep fun p hp => World.cell?_setCell_other _ _ _ _ (fun e => by subst e; exact absurd hp (by show ¬b < g; omega))⟩
theorem NC.at_ (h : NC g src N V A c As T w') : w'.cell? ⟨g, 1, none⟩ = some (.int .i64 (N : Int)) := by
  obtain ⟨_, _, b, _⟩ := h.r.box; exact b.c1
theorem NC.str (h : NC g src N V A c As T w') {k m : Nat} (hk : T.length = k) : (convert 22 9 (.slice As k m)).run Try.prog w' = .ok (.string (strN T)) w' := by
  subst hk; exact str_of h.rb (rb_some h.rb)
end
theorem tokV_0 (k a : Nat) (s : List Nat) : tokV ⟨k, a, s, 0⟩ = .agg #[.int .i64 (k : Int), .int .i64 (a : Int), .string (strN s), .bool false, .int .u64 0, .int .u64 0] := by
  have h1 : zn 0 = false := by decide
  have h2 : zh 0 = 0 := by decide
  have h3 : zl 0 = 0 := by decide
  unfold tokV
  dsimp only
  rw [h1, h2, h3]
theorem doubleL_8 : doubleL.map (fun m => m.map UInt8.ofNat) = double8 := by decide
theorem signN_two {src : List Nat} {a x y : Nat} (ha : a + 1 < src.length) (hx : src[a] = x) (hy : src[a + 1] = y) (hb : ∀ z ∈ src, z < 256) :
    signN (src.drop a) = if double8.any (fun m => (strN [x, y]).toList == m) = true then 2 else if decide (x ∈ singleL) = true then 1 else 0 := by
  have hd : src.drop a = x :: y :: src.drop (a + 2) := by
    rw [List.drop_eq_getElem_cons (Nat.lt_of_succ_lt ha), hx, List.drop_eq_getElem_cons ha, hy]
  have hm := mem8 (l := [x, y]) (by intro z hz; simp at hz; rcases hz with rfl | rfl; exact hx ▸ hb _ (List.getElem_mem _); exact hy ▸ hb _ (List.getElem_mem _)) doubleL (by decide)
  rw [doubleL_8] at hm
  have ha8 : (double8.any fun m => (strN [x, y]).toList == m) = true ↔ (strN [x, y]).toList ∈ double8 := by rw [List.any_eq_true]; simp
  simp only [decide_eq_true_eq]
  unfold signN
  rw [hd]
  have : (x :: y :: src.drop (a + 2)).length ≥ 2 := by simp
  by_cases h : [x, y] ∈ doubleL
  · rw [if_pos ⟨this, by simpa using h⟩, if_pos (ha8.2 (hm.2 h))]
  · rw [if_neg (fun e => h (by simpa using e.2)), if_neg (fun e => h (hm.1 (ha8.1 e)))]; rfl
theorem signN_one {src : List Nat} {a : Nat} (ha : a + 1 = src.length) (hb : ∀ z ∈ src, z < 256) : signN (src.drop a) = if decide (src[a]'(by omega) ∈ singleL) = true then 1 else 0 := by
  have hd : src.drop a = [src[a]'(by omega)] := by rw [List.drop_eq_getElem_cons (by omega), List.drop_eq_nil_of_le (by omega)]
  unfold signN
  rw [hd, if_neg (by simp)]
  simp
set_option maxRecDepth 100000 in
set_option maxHeartbeats 3200000 in
theorem sign_cut {g : Nat} {src : List Nat} {a : Nat} {V : Value} (w : World) (m : RdrS w g src a V) (ha : a + 1 < src.length) :
    Calls Try.prog 49 #[.pointer (some ⟨g, 0, none⟩)] w (SignPost g src a V (signN (src.drop a)) w) := by
  obtain ⟨ad, c, sb, qo, sp, k0, k1, kf, kz, hq, k2, hsg, zs, hc, hsub⟩ := m.openz (Nat.lt_of_succ_lt ha)
  have hw1 : wrap64 ((a : Int) + 1) = (a : Int) + 1 := m.w1 (Nat.le_of_lt (Nat.lt_of_succ_lt ha))
  have hw2 : wrap64 ((a : Int) + 2) = (a : Int) + 2 := by have := m.len; exact IntWalk.wrap64_in _ (by omega)
  have q1 : Below w.heap.size w (w.alloc (.cells #[.int .i64 0, .int .i64 0, .string { data := #[] }, .bool false, .int .u64 0, .int .u64 0] 89)) := (Below.refl _ _).alloc (Nat.le_refl _) _
  have hx := m.byte _ (List.getElem_mem (Nat.lt_of_succ_lt ha))
  have hd2 : decide ((a : Int) + 1 < (src.length : Int)) = true := by simp; omega
  obtain ⟨hs1, hrb⟩ := hsub a (a + 2) (by omega) (by omega)
  have hl2 : ((src.drop a).take (a + 2 - a)) = [src[a], src[a + 1]] := by
    rw [show a + 2 - a = 2 by omega, List.drop_eq_getElem_cons (Nat.lt_of_succ_lt ha), List.drop_eq_getElem_cons ha]; rfl
  rw [hl2] at hrb
  have hn := signN_two ha rfl rfl m.byte
  have hcv := str_of (W := w.alloc (.cells #[.int .i64 0, .int .i64 0, .string { data := #[] }, .bool false, .int .u64 0, .int .u64 0] 89)) (c := c - a) (hrb.keep fun p hp => (q1.mono (Nat.le_of_lt kz)).cell hp) (by intro e; unfold cutA at e; split at e <;> simp at e)
  have e2 : a + 2 - a = 2 := by omega
  have ec : ((a + 2 : Nat) : Int) = (a : Int) + 2 := by simp
  rw [ec, e2] at hs1
  have hcv : (convert 22 9 (.slice (cutA (some ad) c a) 2 (c - a))).run Try.prog (w.alloc (.cells #[.int .i64 0, .int .i64 0, .string { data := #[] }, .bool false, .int .u64 0, .int .u64 0] 89)) = .ok (.string (strN [src[a], src[a + 1]])) (w.alloc (.cells #[.int .i64 0, .int .i64 0, .string { data := #[] }, .bool false, .int .u64 0, .int .u64 0] 89)) := hcv
  obtain ⟨v, hv, hix⟩ := single_any src[a] hx
  have HIX := Lib.hid hix
  have HS0 := Lib.hid (⟨m.next q1, .of_below q1, Box6.make _ _ _ _ _ _ _ _ rfl⟩ : SgS g src a V w (w.alloc (.cells #[.int .i64 0, .int .i64 0, .string { data := #[] }, .bool false, .int .u64 0, .int .u64 0] 89)))
  have HM := Lib.hid m
  obtain ⟨S2, hS2⟩ : ∃ S, strN [src[a], src[a + 1]] = S := ⟨_, rfl⟩
  rw [hS2] at hcv hn
  obtain ⟨N, hN⟩ : ∃ N, signN (src.drop a) = N := ⟨_, rfl⟩
  rw [hN] at hn ⊢
  clear hsub hrb hl2 hS2 hN hix m
  generalize src[a] = x at k2 hn HIX hv
  have hN2 : N ≤ 2 := by rw [hn]; split <;> (try split) <;> decide
  have haN : a + N ≤ src.length := by omega
  obtain ⟨E, hE⟩ : ∃ E, a + N = E := ⟨_, rfl⟩
  have HAN := Lib.hid (show E ≤ src.length by omega)
  have HAE := Lib.hid (show a ≤ E by omega)
  have HW3 : Hid (wrap64 ((a : Int) + (N : Int)) = (E : Int)) := Lib.hid (by have := HM.out.len; rw [IntWalk.wrap64_in _ (by omega)]; omega)
  have HTL : Hid (((src.drop a).take (E - a)).length = E - a) := Lib.hid (by rw [List.length_take, List.length_drop]; omega)
  have HTE : Hid ((src.drop a).take (E - a) = (src.drop a).take N) := Lib.hid (by congr 1; omega)
  have HE := Lib.hid hE
  have hgw : g ≠ w.heap.size := Nat.ne_of_lt HM.out.lt
  have HN := Lib.hid hn
  clear hn hN2 haN hE
  have hn1 : 0 ≤ v ∨ ¬ 0 ≤ v := Decidable.em _
  obtain ⟨n0, hn0⟩ : ∃ n0 : Nat, n0 = if decide (x ∈ singleL) = true then 1 else 0 := ⟨_, rfl⟩
  have HN0 := Lib.hid hn0
  have hNN := HN.out
  rw [← hn0] at hNN
  have HN := Lib.hid hNN
  clear hn0 hNN hn1
  go_enter Try.func49, Try.ntmps49
  go_upto_if 18 with (first
    | (go_at_call 58; (with_reducible refine (HIX.out _).mono ?_); rintro e w2 ⟨rfl, rfl⟩)
    | fail)
  go_cut [5] (fun n wx => n = .int .i64 (n0 : Int) ∧ wx = w.alloc (.cells #[.int .i64 0, .int .i64 0, .string { data := #[] }, .bool false, .int .u64 0, .int .u64 0] 89))
  case first =>
    go_wp2_with fail
    all_goals
      go_meet
      refine ⟨congrArg (Value.int .i64) ?_, rfl⟩
      rw [HN0.out]
      simp [*]
  case rest =>
    obtain ⟨rfl, rfl⟩ := hcut
    clear hv
    go_upto_if 26 with fail
    go_cut [5] (fun n wx => n = .int .i64 (N : Int) ∧ Hid (SgS g src a V w wx))
    case first =>
      go_wp2_with fail
      all_goals
        go_meet
        refine ⟨congrArg (Value.int .i64) ?_, HS0⟩
        have hN := HN.out
        simp only [double8, List.any_cons, List.any_nil, Bool.or_false, Bool.false_or, Bool.true_or, Bool.or_true, if_true, if_false, Bool.false_eq_true, decide_true, decide_false, *] at hN
        first | (rw [hN]; done) | (rw [hN]; rfl) | (rename_i h1 h2; exact absurd (h1.symm.trans h2) (by decide))
    case rest =>
      obtain ⟨rfl, HSG⟩ := hcut
      clear hs1 hcv hd2 hq k2 hsg zs k0 k1 kf kz
      obtain ⟨A3, c3, bx3, _, hc3⟩ := HSG.out.r.box
      have k0 := bx3.c0
      have k1 := bx3.c1
      have kf := bx3.f1
      have kz := bx3.z
      obtain ⟨x0, x1, x2, x3, x4, x5, f0, f1, f2, f3, f4, f5, xz⟩ := HSG.out.x
      clear bx3
      by_cases hN0 : N = 0
      · subst hN0
        go_wp2_with (first
          | (go_at_call 27; (with_reducible refine (lfault_any a 4 _).mono ?_); rintro e w6 ⟨⟨v2, rfl, hv⟩, b6⟩; clear x0 x1 x2 x3 x4 x5 f0 f1 f2 f3 f4 f5; have HX6 := Lib.hid (HSG.out.x.below b6); obtain ⟨x0, x1, x2, x3, x4, x5, f0, f1, f2, f3, f4, f5, _⟩ := HX6.out; have HV := Lib.hid hv; have HU6 := Lib.hid (HSG.out.u.next b6); clear hv b6)
          | fail)
        (try simp only [Exit.inBlock, Exit.then]); refine bodyPost_ret (by simp [results, Try.results49, go_sem, *]; try rfl) rfl ?_
        exact .inl ⟨rfl, ⟨_, rfl, ((((((HV.out.far xz _ _).far xz _ _).far xz _ _).far xz _ _).far xz _ _).far xz _ _).mono (Nat.le_of_lt xz)⟩, (((((HU6.out.fresh (Nat.le_refl _) _ _).fresh (Nat.le_refl _) _ _).fresh (Nat.le_refl _) _ _).fresh (Nat.le_refl _) _ _).fresh (Nat.le_refl _) _ _).fresh (Nat.le_refl _) _ _⟩
      · have n0 : ((N : Int) == 0) = false := by rw [beq_eq_false_iff_ne]; exact fun e => hN0 (by exact_mod_cast e)
        have hw3 := HW3.out
        obtain ⟨A5, c5, hnb, hc5, hs5⟩ := NB.of (HSG.out.r.put' E (E : Int) rfl) (HSG.out.u.put 1 _) (HSG.out.x.other hgw _ _) HAE.out HAN.out
        have HNB := Lib.hid hnb
        have HX5 := Lib.hid hnb.x
        have HNC := Lib.hid (⟨hnb.c0, hnb.r, hnb.rb⟩ : NC g src E V A5 c5 (cutA A5 c5 a) ((src.drop a).take (E - a)) _)
        have hgl := HM.out.lt
        have HU5 := Lib.hid hnb.u
        clear x0 x1 x2 x3 x4 x5 f0 f1 f2 f3 f4 f5 hnb
        generalize (src.drop a).take (E - a) = T at HTL HTE HNC
        generalize cutA A5 c5 a = As at HNC hs5
        generalize E - a = M at HTL hs5
        generalize c5 - a = c6 at hs5
        go_upto_region 26 with fail
        clear k0 k1 kf hcv
        obtain ⟨x0, x1, x2, x3, x4, x5, f0, f1, f2, f3, f4, f5, _⟩ := HX5.out
        refine wp_region_held_drew (S := (fun w' => NC g src E V A5 c5 As T w')) (by kernel_rfl) ?_ (fun hHeld => ?_)
        · (try dsimp only)
          (first | (with_reducible assumption) | ((with_reducible refine NC.next ?_ (Below.drew (Below.refl _ _))); (repeat (with_reducible refine NC.far ?_ hgl _ _)); with_reducible exact HNC.out))
        refine h4_b [0, 1, 2, 3, 4, 5, 6, 7, 8, 9, 10, 11, 12] ?_
        (repeat (refine h4_p rfl (by kernel_rfl) (fun _ _ _ h => h) (by rfl) hHeld (by intro wS hSw; have k0 := hSw.c0; have k1 := hSw.at_; have kz := hSw.r.lt; have hcv := hSw.str (m := c6) HTL.out; go_simp; (try with_reducible rfl)) ?_; (try simp only [Act.put, List.setIfInBounds_toArray, List.set_cons_zero, List.set_cons_succ])))
        refine h4_e ?_
        refine wpAnyH_ready (rs := [13]) (by kernel_rfl) (by simp) ?_
        refine (h4_cons rfl (fun K hK => ?_) AllReadyH.nil)
        go_simp
        refine hK.out _ _ ?_ (fun hHeld1 => ?_)
        · (try dsimp only)
          (first | (with_reducible assumption) | ((with_reducible refine NC.next ?_ (Below.drew (Below.refl _ _))); (repeat (with_reducible refine NC.far ?_ hgl _ _)); with_reducible exact HNC.out))
        clear hK K hHeld
        try simp only [Act.put, List.setIfInBounds_toArray, List.set_cons_zero, List.set_cons_succ]
        refine h4_take (i := 14) (v := ?v1) rfl (by kernel_rfl) (by kernel_rfl) (by kernel_rfl) (fun _ _ _ h => h) (by rfl) ?y1 hHeld1 ?r1
        case y1 => (intro wS hSw; have k0 := hSw.c0; have k1 := hSw.at_; have kz := hSw.r.lt; have hcv := hSw.str (m := c6) HTL.out; go_simp; (try with_reducible rfl))
        try simp only [Act.put, List.setIfInBounds_toArray, List.set_cons_zero, List.set_cons_succ]
        refine wpAnyH_done (by kernel_rfl) ?_ _
        go_wp2_with fail
        (try simp only [Exit.inBlock, Exit.then]); refine bodyPost_ret (by simp [results, Try.results49, go_sem, *]; try rfl) rfl ?_
        have HNF := Lib.hid ‹NC g src E V A5 c5 As T _›
        refine .inr ⟨hN0, by rw [← HTE.out, tokV_0]; rfl, ?_, ((((((HU5.out.fresh (Nat.le_refl _) _ _).fresh (Nat.le_refl _) _ _).fresh (Nat.le_refl _) _ _).fresh (Nat.le_refl _) _ _).fresh (Nat.le_refl _) _ _).fresh (Nat.le_refl _) _ _).drew⟩
        rw [HE.out]
        exact HNF.out.r
set_option maxRecDepth 100000 in
set_option maxHeartbeats 3200000 in
theorem sign_last {g : Nat} {src : List Nat} {a : Nat} {V : Value} (w : World) (m : RdrS w g src a V) (ha : a + 1 = src.length) :
    Calls Try.prog 49 #[.pointer (some ⟨g, 0, none⟩)] w (SignPost g src a V (signN (src.drop a)) w) := by
  obtain ⟨ad, c, sb, qo, sp, k0, k1, kf, kz, hq, k2, hsg, zs, hc, hsub⟩ := m.openz (i := a) (by omega)
  have hw1 : wrap64 ((a : Int) + 1) = (a : Int) + 1 := m.w1 (by omega)
  have hw2 : wrap64 ((a : Int) + 2) = (a : Int) + 2 := by have := m.len; exact IntWalk.wrap64_in _ (by omega)
  have q1 : Below w.heap.size w (w.alloc (.cells #[.int .i64 0, .int .i64 0, .string { data := #[] }, .bool false, .int .u64 0, .int .u64 0] 89)) := (Below.refl _ _).alloc (Nat.le_refl _) _
  have hlt : a < src.length := by omega
  have hx := m.byte _ (List.getElem_mem hlt)
  have hd2 : decide ((a : Int) + 1 < (src.length : Int)) = false := by simp; omega
  have hn := signN_one ha m.byte
  obtain ⟨v, hv, hix⟩ := single_any src[a] hx
  have HIX := Lib.hid hix
  have HS0 := Lib.hid (⟨m.next q1, .of_below q1, Box6.make _ _ _ _ _ _ _ _ rfl⟩ : SgS g src a V w (w.alloc (.cells #[.int .i64 0, .int .i64 0, .string { data := #[] }, .bool false, .int .u64 0, .int .u64 0] 89)))
  have HM := Lib.hid m
  obtain ⟨N, hN⟩ : ∃ N, signN (src.drop a) = N := ⟨_, rfl⟩
  rw [hN] at hn ⊢
  clear hsub hN hix m
  generalize src[a] = x at k2 hn HIX hv
  have hN2 : N ≤ 1 := by rw [hn]; split <;> decide
  have haN : a + N ≤ src.length := by omega
  obtain ⟨E, hE⟩ : ∃ E, a + N = E := ⟨_, rfl⟩
  have HAN := Lib.hid (show E ≤ src.length by omega)
  have HAE := Lib.hid (show a ≤ E by omega)
  have HW3 : Hid (wrap64 ((a : Int) + (N : Int)) = (E : Int)) := Lib.hid (by have := HM.out.len; rw [IntWalk.wrap64_in _ (by omega)]; omega)
  have HTL : Hid (((src.drop a).take (E - a)).length = E - a) := Lib.hid (by rw [List.length_take, List.length_drop]; omega)
  have HTE : Hid ((src.drop a).take (E - a) = (src.drop a).take N) := Lib.hid (by congr 1; omega)
  have HE := Lib.hid hE
  have hgw : g ≠ w.heap.size := Nat.ne_of_lt HM.out.lt
  have HN := Lib.hid hn
  clear hn hN2 haN hE
  have hn1 : 0 ≤ v ∨ ¬ 0 ≤ v := Decidable.em _
  obtain ⟨n0, hn0⟩ : ∃ n0 : Nat, n0 = if decide (x ∈ singleL) = true then 1 else 0 := ⟨_, rfl⟩
  have HN0 := Lib.hid hn0
  have hNN := HN.out
  rw [← hn0] at hNN
  have HN := Lib.hid hNN
  clear hn0 hNN hn1
  go_enter Try.func49, Try.ntmps49
  go_upto_if 18 with (first
    | (go_at_call 58; (with_reducible refine (HIX.out _).mono ?_); rintro e w2 ⟨rfl, rfl⟩)
    | fail)
  go_cut [5] (fun n wx => n = .int .i64 (n0 : Int) ∧ wx = w.alloc (.cells #[.int .i64 0, .int .i64 0, .string { data := #[] }, .bool false, .int .u64 0, .int .u64 0] 89))
  case first =>
    go_wp2_with fail
    all_goals
      go_meet
      refine ⟨congrArg (Value.int .i64) ?_, rfl⟩
      rw [HN0.out]
      simp [*]
  case rest =>
    obtain ⟨rfl, rfl⟩ := hcut
    clear hv
    go_upto_if 26 with fail
    go_cut [5] (fun n wx => n = .int .i64 (N : Int) ∧ Hid (SgS g src a V w wx))
    case first =>
      go_wp2_with fail
      all_goals
        go_meet
        refine ⟨congrArg (Value.int .i64) ?_, HS0⟩
        have hN := HN.out
        first | (rw [hN]; done) | (rw [hN]; rfl) | (rename_i h1 h2; exact absurd (h1.symm.trans h2) (by decide))
    case rest =>
      obtain ⟨rfl, HSG⟩ := hcut
      clear hd2 hq k2 hsg zs k0 k1 kf kz
      obtain ⟨A3, c3, bx3, _, hc3⟩ := HSG.out.r.box
      have k0 := bx3.c0
      have k1 := bx3.c1
      have kf := bx3.f1
      have kz := bx3.z
      obtain ⟨x0, x1, x2, x3, x4, x5, f0, f1, f2, f3, f4, f5, xz⟩ := HSG.out.x
      clear bx3
      by_cases hN0 : N = 0
      · subst hN0
        go_wp2_with (first
          | (go_at_call 27; (with_reducible refine (lfault_any a 4 _).mono ?_); rintro e w6 ⟨⟨v2, rfl, hv⟩, b6⟩; clear x0 x1 x2 x3 x4 x5 f0 f1 f2 f3 f4 f5; have HX6 := Lib.hid (HSG.out.x.below b6); obtain ⟨x0, x1, x2, x3, x4, x5, f0, f1, f2, f3, f4, f5, _⟩ := HX6.out; have HV := Lib.hid hv; have HU6 := Lib.hid (HSG.out.u.next b6); clear hv b6)
          | fail)
        (try simp only [Exit.inBlock, Exit.then]); refine bodyPost_ret (by simp [results, Try.results49, go_sem, *]; try rfl) rfl ?_
        exact .inl ⟨rfl, ⟨_, rfl, ((((((HV.out.far xz _ _).far xz _ _).far xz _ _).far xz _ _).far xz _ _).far xz _ _).mono (Nat.le_of_lt xz)⟩, (((((HU6.out.fresh (Nat.le_refl _) _ _).fresh (Nat.le_refl _) _ _).fresh (Nat.le_refl _) _ _).fresh (Nat.le_refl _) _ _).fresh (Nat.le_refl _) _ _).fresh (Nat.le_refl _) _ _⟩
      · have n0 : ((N : Int) == 0) = false := by rw [beq_eq_false_iff_ne]; exact fun e => hN0 (by exact_mod_cast e)
        have hw3 := HW3.out
        obtain ⟨A5, c5, hnb, hc5, hs5⟩ := NB.of (HSG.out.r.put' E (E : Int) rfl) (HSG.out.u.put 1 _) (HSG.out.x.other hgw _ _) HAE.out HAN.out
        have HNB := Lib.hid hnb
        have HX5 := Lib.hid hnb.x
        have HNC := Lib.hid (⟨hnb.c0, hnb.r, hnb.rb⟩ : NC g src E V A5 c5 (cutA A5 c5 a) ((src.drop a).take (E - a)) _)
        have hgl := HM.out.lt
        have HU5 := Lib.hid hnb.u
        clear x0 x1 x2 x3 x4 x5 f0 f1 f2 f3 f4 f5 hnb
        generalize (src.drop a).take (E - a) = T at HTL HTE HNC
        generalize cutA A5 c5 a = As at HNC hs5
        generalize E - a = M at HTL hs5
        generalize c5 - a = c6 at hs5
        go_upto_region 26 with fail
        clear k0 k1 kf
        obtain ⟨x0, x1, x2, x3, x4, x5, f0, f1, f2, f3, f4, f5, _⟩ := HX5.out
        refine wp_region_held_drew (S := (fun w' => NC g src E V A5 c5 As T w')) (by kernel_rfl) ?_ (fun hHeld => ?_)
        · (try dsimp only)
          (first | (with_reducible assumption) | ((with_reducible refine NC.next ?_ (Below.drew (Below.refl _ _))); (repeat (with_reducible refine NC.far ?_ hgl _ _)); with_reducible exact HNC.out))
        refine h4_b [0, 1, 2, 3, 4, 5, 6, 7, 8, 9, 10, 11, 12] ?_
        (repeat (refine h4_p rfl (by kernel_rfl) (fun _ _ _ h => h) (by rfl) hHeld (by intro wS hSw; have k0 := hSw.c0; have k1 := hSw.at_; have kz := hSw.r.lt; have hcv := hSw.str (m := c6) HTL.out; go_simp; (try with_reducible rfl)) ?_; (try simp only [Act.put, List.setIfInBounds_toArray, List.set_cons_zero, List.set_cons_succ])))
        refine h4_e ?_
        refine wpAnyH_ready (rs := [13]) (by kernel_rfl) (by simp) ?_
        refine (h4_cons rfl (fun K hK => ?_) AllReadyH.nil)
        go_simp
        refine hK.out _ _ ?_ (fun hHeld3 => ?_)
        · (try dsimp only)
          (first | (with_reducible assumption) | ((with_reducible refine NC.next ?_ (Below.drew (Below.refl _ _))); (repeat (with_reducible refine NC.far ?_ hgl _ _)); with_reducible exact HNC.out))
        clear hK K hHeld
        try simp only [Act.put, List.setIfInBounds_toArray, List.set_cons_zero, List.set_cons_succ]
        refine h4_take (i := 14) (v := ?v3) rfl (by kernel_rfl) (by kernel_rfl) (by kernel_rfl) (fun _ _ _ h => h) (by rfl) ?y3 hHeld3 ?r3
        case y3 => (intro wS hSw; have k0 := hSw.c0; have k1 := hSw.at_; have kz := hSw.r.lt; have hcv := hSw.str (m := c6) HTL.out; go_simp; (try with_reducible rfl))
        try simp only [Act.put, List.setIfInBounds_toArray, List.set_cons_zero, List.set_cons_succ]
        refine wpAnyH_done (by kernel_rfl) ?_ _
        go_wp2_with fail
        (try simp only [Exit.inBlock, Exit.then]); refine bodyPost_ret (by simp [results, Try.results49, go_sem, *]; try rfl) rfl ?_
        have HNF := Lib.hid ‹NC g src E V A5 c5 As T _›
        refine .inr ⟨hN0, by rw [← HTE.out, tokV_0]; rfl, ?_, ((((((HU5.out.fresh (Nat.le_refl _) _ _).fresh (Nat.le_refl _) _ _).fresh (Nat.le_refl _) _ _).fresh (Nat.le_refl _) _ _).fresh (Nat.le_refl _) _ _).fresh (Nat.le_refl _) _ _).drew⟩
        rw [HE.out]
        exact HNF.out.r
theorem sign_r {g : Nat} {src : List Nat} {a : Nat} {V : Value} (w : World) (m : RdrS w g src a V) (ha : a < src.length) :
    Calls Try.prog 49 #[.pointer (some ⟨g, 0, none⟩)] w (SignPost g src a V (signN (src.drop a)) w) := by
  by_cases h : a + 1 < src.length
  · exact sign_cut w m h
  · exact sign_last w m (by omega)
open Go.RowKit
def escs : List Nat := [110, 116, 114, 102, 118, 97, 98]
set_option maxRecDepth 100000 in
set_option maxHeartbeats 1600000 in
theorem escape_any (c : Nat) (hc : c < 256) (w : World) : Calls Try.prog 57 #[.int .u8 (c : Int)] w fun e w' => e = .returned (.int .u8 (escB c : Int)) ∧ w' = w := by
  go_enter Try.func57, Try.ntmps57
  go_wp2_with fail
  go_loopw [4] (fun i wr => ∃ k : Nat, i = .int .i64 (k : Int) ∧ k ≤ 7 ∧ (∀ j, j < k → escs.getD j 0 ≠ c) ∧ wr = w) (fun i _ => 7 - (intOf i).toNat)
  case atStart => exact ⟨0, rfl, by omega, fun j hj => absurd hj (by omega), rfl⟩
  case round =>
    obtain ⟨k, rfl, hk, hne, rfl⟩ := hrel
    have h7 : k = 0 ∨ k = 1 ∨ k = 2 ∨ k = 3 ∨ k = 4 ∨ k = 5 ∨ k = 6 ∨ k = 7 := by omega
    rcases h7 with rfl | rfl | rfl | rfl | rfl | rfl | rfl | rfl
    all_goals go_wp2_with fail
    all_goals first
      | (rename_i h
         have hcc := Int.ofNat_inj.1 (eq_of_beq h)
         subst hcc
         go_ret
         exact ⟨rfl, rfl⟩)
      | (rename_i h
         go_roundw
         case rel =>
           refine ⟨_, rfl, by decide, fun j hj e => ?_, trivial⟩
           rcases Nat.lt_succ_iff_lt_or_eq.1 hj with h1 | h1
           · exact hne j h1 e
           · subst h1; rw [← e] at h; exact absurd h (by decide)
         case measure => decide)
      | (go_ret
         refine ⟨?_, rfl⟩
         have e0 := hne 0 (by decide); have e1 := hne 1 (by decide); have e2 := hne 2 (by decide); have e3 := hne 3 (by decide); have e4 := hne 4 (by decide); have e5 := hne 5 (by decide); have e6 := hne 6 (by decide)
         simp only [escs, List.getD_cons_zero, List.getD_cons_succ] at e0 e1 e2 e3 e4 e5 e6
         have he : escB c = c := by unfold escB; rw [if_neg (Ne.symm e5), if_neg (Ne.symm e6), if_neg (Ne.symm e3), if_neg (Ne.symm e0), if_neg (Ne.symm e2), if_neg (Ne.symm e1), if_neg (Ne.symm e4)]
         rw [he]; rfl)
end Go.Proofs.Ythipoccbeloceaa
