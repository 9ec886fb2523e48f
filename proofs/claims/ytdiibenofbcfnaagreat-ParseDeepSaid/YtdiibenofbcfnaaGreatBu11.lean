/- Several texts put together: LexD. -/
import Derived.Test.YtdiibenofbcfnaaGreatBu9
import Derived.Test.YtdiibenofbcfnaaGreatBu6
import Derived.Test.YtdiibenofbcfnaaGreatBu1
set_option linter.unusedSimpArgs false
set_option linter.unusedVariables false
namespace Go.Proofs.YtdiibenofbcfnaaGreat
open Go.RowKit
theorem tw_go {f : Nat → Bool} (hf : f 0 = false) {src : List Nat} {q : Nat} (h : f (src.getD q 0) = true) : q < src.length ∧ ((src.drop q).takeWhile f).length = ((src.drop (q + 1)).takeWhile f).length + 1 := by
  rcases Nat.lt_or_ge q src.length with hl | hl
  · rw [List.getD_eq_getElem?_getD, List.getElem?_eq_getElem hl, Option.getD_some] at h
    refine ⟨hl, ?_⟩
    rw [List.drop_eq_getElem_cons hl, List.takeWhile_cons, if_pos h, List.length_cons]
  · rw [List.getD_eq_getElem?_getD, List.getElem?_eq_none hl] at h
    rw [show (none : Option Nat).getD 0 = 0 from rfl, hf] at h; cases h
theorem tw_stop {f : Nat → Bool} {src : List Nat} {q : Nat} (h : f (src.getD q 0) = false) : ((src.drop q).takeWhile f).length = 0 := by
  rcases Nat.lt_or_ge q src.length with hl | hl
  · rw [List.getD_eq_getElem?_getD, List.getElem?_eq_getElem hl, Option.getD_some] at h
    rw [List.drop_eq_getElem_cons hl, List.takeWhile_cons, if_neg (by rw [h]; decide)]; rfl
  · rw [List.drop_eq_nil_of_le hl]; rfl
theorem getD_lt {src : List Nat} (h : ∀ x ∈ src, x < 256) (q : Nat) : src.getD q 0 < 256 := by
  rcases Nat.lt_or_ge q src.length with hl | hl
  · rw [List.getD_eq_getElem?_getD, List.getElem?_eq_getElem hl]; exact h _ (List.getElem_mem hl)
  · rw [List.getD_eq_getElem?_getD, List.getElem?_eq_none hl]; decide
theorem measR {w w' : World} {g : Nat} {src : List Nat} {q q' : Nat} {V V' : Value} (m : RdrS w g src q V) (m' : RdrS w' g src q' V') (h : q < q') (h2 : q < src.length) : src.length - (intOf ((w'.cell? ⟨g, 1, none⟩).getD undef)).toNat < src.length - (intOf ((w.cell? ⟨g, 1, none⟩).getD undef)).toNat := by
  obtain ⟨_, _, b, _⟩ := m.box
  obtain ⟨_, _, b', _⟩ := m'.box
  rw [b.c1, b'.c1]
  show src.length - (q' : Int).toNat < src.length - (q : Int).toNat
  rw [Int.toNat_natCast, Int.toNat_natCast]; omega
theorem RdrS.w1 {w : World} {g : Nat} {src : List Nat} {a : Nat} {V : Value} (m : RdrS w g src a V) (h : a ≤ src.length) : wrap64 ((a : Int) + 1) = (a : Int) + 1 := by have := m.len; exact IntWalk.wrap64_in _ (by omega)
theorem nat_step {s t u N : Nat} (h : s + t = N) (h2 : t = u + 1) : s + 1 + u = N := by omega
theorem nat_stop {s t N : Nat} (h : s + t = N) (h2 : t = 0) : s = N := by omega
def tokV (t : TokF) : Value := .agg #[.int .i64 (t.k : Int), .int .i64 (t.at' : Int), .string (strN t.s), .bool (zn t.z), .int .u64 (zh t.z), .int .u64 (zl t.z)]
theorem numL_eq (src : List Nat) (a : Nat) (d : Nat) (hd : ((src.drop a).takeWhile isDig).length = d) : numL (src.drop a) = if src.getD (a + d) 0 = 46 then d + 1 + ((src.drop (a + d + 1)).takeWhile isDig).length else d := by
  unfold numL
  rw [hd]
  dsimp only
  rw [List.drop_drop]
  rcases Nat.lt_or_ge (a + d) src.length with hl | hl
  · rw [List.getD_eq_getElem?_getD, List.getElem?_eq_getElem hl, Option.getD_some, List.drop_eq_getElem_cons hl]
    by_cases h : src[a + d] = 46
    · rw [if_pos h, h]; rfl
    · rw [if_neg h]
      split
      · rename_i e; injection e with e _; exact absurd e h
      · rfl
  · rw [List.drop_eq_nil_of_le hl, List.getD_eq_getElem?_getD, List.getElem?_eq_none hl, if_neg (by decide)]
def NumPost (g : Nat) (src : List Nat) (a : Nat) (V : Value) (T : List Nat) (w : World) (e : Ending) (w' : World) : Prop :=
  (0 < nW T + nB T ∧ 30 < (strip (wholeL T)).length ∧ (∃ v, e = .returned (.tuple #[tokV ⟨0, 0, [], 0⟩, v]) ∧ FltV w' w.heap.size v a 2) ∧ Upd g none w w') ∨
  (¬(0 < nW T + nB T ∧ 30 < (strip (wholeL T)).length) ∧ e = .returned (.tuple #[tokV ⟨2, a, [], numZ T⟩, .nilIface]) ∧ RdrS w' g src (a + T.length) V ∧ Upd g none w w')
theorem prefix_t (A : Option Addr) (c n : Nat) (T : List Nat) (w : World) (B0 : Nat) (hn : T.length = n) (hB0 : B0 ≤ w.heap.size) (hr : RB w B0 A T) (hc : n ≤ c) (hm : n ≤ 1000000) :
    Calls Tryz.prog 34 #[.slice A n c] w fun e w' => ((0 < nW T + nB T ∧ 30 < (strip (wholeL T)).length ∧ ∃ k, e = .returned (.tuple #[.agg #[.bool false, .int .u64 0, .int .u64 0], .int .i64 k, .iface 53 (.int .i64 2)])) ∨ (¬(0 < nW T + nB T ∧ 30 < (strip (wholeL T)).length) ∧ ∃ k, e = .returned (.tuple #[.agg #[.bool (zn (numZ T)), .int .u64 (zh (numZ T)), .int .u64 (zl (numZ T))], .int .i64 k, .nilIface]))) ∧ Below w.heap.size w w' := by
  subst hn
  refine (prefix_any A c T w B0 hB0 hr hc (by omega)).mono fun e w' h => ⟨?_, h.2⟩
  unfold numZ
  rcases h.1 with ⟨h1, he⟩ | ⟨h1, h2, he⟩ | ⟨h1, h2, he⟩
  · right
    rw [if_pos h1]
    exact ⟨by omega, 0, he⟩
  · exact .inl ⟨h1, h2, _, he⟩
  · right
    rw [if_neg (by omega)]
    exact ⟨by omega, _, he⟩
theorem RdrS.far {w : World} {g : Nat} {src : List Nat} {a : Nat} {V : Value} (m : RdrS w g src a V) {b : Nat} (hb : g < b) (j : Nat) (u : Value) : RdrS (w.setCell ⟨b, j, none⟩ u) g src a V := by
  obtain ⟨A, c, bx, r, hc⟩ := m.box
  exact ⟨⟨A, c, bx.other (Nat.ne_of_gt hb) _ _, r.keep fun p hp => World.cell?_setCell_other _ _ _ _ (fun e => by subst e; exact absurd hp (by show ¬b < g; omega)), hc⟩, m.len⟩
theorem FltV.far {w : World} {B g : Nat} {v : Value} {at' : Nat} {k : Int} (h : FltV w B v at' k) (hg : g < B) (j : Nat) (u : Value) : FltV (w.setCell ⟨g, j, none⟩ u) B v at' k := by
  obtain ⟨b, e, hb, hk⟩ := h
  exact ⟨b, e, hb, hk.far (show b ≠ g by omega) u⟩
theorem FltV.mono {w : World} {B B' : Nat} {v : Value} {at' : Nat} {k : Int} (h : FltV w B v at' k) (hB : B' ≤ B) : FltV w B' v at' k := by
  obtain ⟨b, e, hb, hk⟩ := h
  exact ⟨b, e, Nat.le_trans hB hb, hk⟩
structure NB (g : Nat) (src : List Nat) (N a : Nat) (V : Value) (A : Option Addr) (c : Nat) (w w' : World) : Prop where
  c0 : w'.cell? ⟨g, 0, none⟩ = some (.slice A src.length c)
  r : RdrS w' g src N V
  rb : RB w' g (cutA A c a) ((src.drop a).take (N - a))
  u : Upd g none w w'
  x : Box6 w' w.heap.size (.int .i64 0) (.int .i64 0) (.string { data := #[] }) (.bool false) (.int .u64 0) (.int .u64 0)
theorem NB.next {g : Nat} {src : List Nat} {N a : Nat} {V : Value} {A : Option Addr} {c : Nat} {w w' w2 : World} (h : NB g src N a V A c w w') (q : Below w'.heap.size w' w2) : NB g src N a V A c w w2 :=
  ⟨(q.cell h.r.lt).trans h.c0, h.r.next q, h.rb.keep fun p hp => (q.mono (Nat.le_of_lt h.r.lt)).cell hp, h.u.next q, h.x.below q⟩
theorem NB.of {g : Nat} {src : List Nat} {N a : Nat} {V : Value} {w w' : World} (r : RdrS w' g src N V) (u : Upd g none w w') (x : Box6 w' w.heap.size (.int .i64 0) (.int .i64 0) (.string { data := #[] }) (.bool false) (.int .u64 0) (.int .u64 0)) (h1 : a ≤ N) (h2 : N ≤ src.length) :
    ∃ A c, NB g src N a V A c w w' ∧ src.length ≤ c ∧ ∀ W, (Instr.slice 23 (.slice A src.length c) (some (.int .i64 (a : Int))) (some (.int .i64 (N : Int))) none).run Tryz.prog W = .ok (.slice (cutA A c a) (N - a) (c - a)) W := by
  obtain ⟨A, c, k0, _, _, hc, hs⟩ := r.sub
  exact ⟨A, c, ⟨k0, r, (hs a N h1 h2).2, u, x⟩, hc, (hs a N h1 h2).1⟩
set_option maxRecDepth 100000 in
set_option maxHeartbeats 3200000 in
theorem number_r {g : Nat} {src : List Nat} {a : Nat} {V : Value} (w : World) (m : RdrS w g src a V) (ha : a < src.length) :
    Calls Tryz.prog 21 #[.pointer (some ⟨g, 0, none⟩)] w (NumPost g src a V ((src.drop a).take (numL (src.drop a))) w) := by
  obtain ⟨d, hd⟩ : ∃ d, ((src.drop a).takeWhile isDig).length = d := ⟨_, rfl⟩
  have hnl := numL_eq src a d hd
  obtain ⟨N, hN⟩ : ∃ N, a + numL (src.drop a) = N := ⟨_, rfl⟩
  have hT : ((src.drop a).take (numL (src.drop a))) = (src.drop a).take (N - a) := by rw [← hN]; congr 1; omega
  rw [hT]
  have HB8 := Lib.hid m.byte
  have HM := Lib.hid (m.next ((Below.refl _ _).alloc (Nat.le_refl _) (.cells #[.int .i64 0, .int .i64 0, .string { data := #[] }, .bool false, .int .u64 0, .int .u64 0] 59)))
  have hgw := m.lt
  have hgw' : g ≠ w.heap.size := Nat.ne_of_lt hgw
  obtain ⟨_, _, _, k1, _⟩ := m.sub
  have HD := Lib.hid hd
  have HNL := Lib.hid hnl
  have HN := Lib.hid hN
  clear hd hnl hN hT m
  go_enter Tryz.func21, Tryz.ntmps21
  go_wp2_with fail
  go_loopw [] (fun wr => ∃ q, a ≤ q ∧ q ≤ src.length ∧ Hid (RdrS wr g src q V) ∧ Hid (q + ((src.drop q).takeWhile isDig).length = a + d) ∧ Hid (Upd g none w wr) ∧ Hid (Box6 wr w.heap.size (.int .i64 0) (.int .i64 0) (.string { data := #[] }) (.bool false) (.int .u64 0) (.int .u64 0))) (fun wr => src.length - (intOf ((wr.cell? ⟨g, 1, none⟩).getD undef)).toNat)
  case atStart => exact ⟨a, Nat.le_refl _, Nat.le_of_lt ha, HM, Lib.hid (by rw [HD.out]), Lib.hid ((Upd.refl _ _ _).alloc _), Lib.hid (Box6.make _ _ _ _ _ _ _ _ rfl)⟩
  case round =>
    obtain ⟨q, haq, hq, HQ, HP, HU, HX⟩ := hrel
    obtain ⟨A, c, bx, _, hc⟩ := HQ.out.box
    have k0 := bx.c0
    have k1 := bx.c1
    have kf1 := bx.f1
    have kz := bx.z
    have HBY := Lib.hid (fun (W : World) (m : RdrS W g src q V) => byteAt_at W m q (q : Int) rfl)
    have hy := getD_lt HB8.out q
    have hw1 : wrap64 ((q : Int) + 1) = (q : Int) + 1 := HQ.out.w1 hq
    have HK1 := Lib.hid k1
    clear bx
    cases hdg : isDig (src.getD q 0) with
    | true =>
      have HDG := Lib.hid (fun (W : World) => digit_any (src.getD q 0) hy W)
      rw [hdg] at HDG
      obtain ⟨hlt, htw⟩ := tw_go (f := isDig) (by decide) hdg
      have HP2 := Lib.hid (show q + 1 + ((src.drop (q + 1)).takeWhile isDig).length = a + d by have := HP.out; omega)
      generalize src.getD q 0 = y at HBY HDG
      clear HP hy hdg htw
      go_wp2_with (first
        | (go_at_call 19; (with_reducible refine (HBY.out _ HQ.out).mono ?_); rintro e w2 ⟨rfl, rfl⟩)
        | (go_at_call 20; (with_reducible refine (HDG.out _).mono ?_); rintro e w3 ⟨rfl, rfl⟩)
        | fail)
      go_roundw
      case rel => exact ⟨q + 1, Nat.le_succ_of_le haq, hlt, Lib.hid (HQ.out.put' _ _ (by simp)), HP2, Lib.hid (HU.out.put _ _), Lib.hid (HX.out.other hgw' _ _)⟩
      case measure => exact measR HQ.out (HQ.out.put' (q + 1) _ (by simp)) (Nat.lt_succ_self _) hlt
    | false =>
      have HDG := Lib.hid (fun (W : World) => digit_any (src.getD q 0) hy W)
      rw [hdg] at HDG
      have htw := tw_stop (f := isDig) hdg
      have hqd : q = a + d := by have := HP.out; omega
      have hnl := HNL.out
      rw [← hqd] at hnl
      clear HP hdg htw HNL
      by_cases h46 : src.getD q 0 = 46
      · have n1 : (((src.getD q 0 : Nat) : Int) == 46) = true := by rw [h46]; rfl
        rw [if_pos h46] at hnl
        have hlt : q < src.length := (getD_of (by decide) h46).1
        have HN2 := Lib.hid (show q + 1 + ((src.drop (q + 1)).takeWhile isDig).length = N by have := HN.out; omega)
        generalize src.getD q 0 = y at HBY HDG n1
        clear hy h46 hnl hqd
        go_wp2_with (first
          | (go_at_call 19; (with_reducible refine (HBY.out _ HQ.out).mono ?_); rintro e w2 ⟨rfl, rfl⟩)
          | (go_at_call 20; (with_reducible refine (HDG.out _).mono ?_); rintro e w3 ⟨rfl, rfl⟩)
          | fail)
        go_loopw [] (fun wx => ∃ s, q + 1 ≤ s ∧ s ≤ src.length ∧ Hid (RdrS wx g src s V) ∧ Hid (s + ((src.drop s).takeWhile isDig).length = N) ∧ Hid (Upd g none w wx) ∧ Hid (Box6 wx w.heap.size (.int .i64 0) (.int .i64 0) (.string { data := #[] }) (.bool false) (.int .u64 0) (.int .u64 0))) (fun wx => src.length - (intOf ((wx.cell? ⟨g, 1, none⟩).getD undef)).toNat)
        case atStart => exact ⟨q + 1, Nat.le_refl _, hlt, Lib.hid (HQ.out.put' _ _ (by simp)), HN2, Lib.hid (HU.out.put _ _), Lib.hid (HX.out.other hgw' _ _)⟩
        case round =>
          clear k0 k1 kf1 kz hw1 HBY HDG n1
          obtain ⟨s, hqs, hs, HQs, HPs, HUs, HXs⟩ := hrel
          obtain ⟨A2, c2, bx2, _, hc2⟩ := HQs.out.box
          have k0 := bx2.c0
          have k1 := bx2.c1
          have kf1 := bx2.f1
          have kz := bx2.z
          have HBY := Lib.hid (fun (W : World) (m : RdrS W g src s V) => byteAt_at W m s (s : Int) rfl)
          have hy := getD_lt HB8.out s
          have hw1 : wrap64 ((s : Int) + 1) = (s : Int) + 1 := HQs.out.w1 hs
          clear bx2
          cases hdg : isDig (src.getD s 0) with
          | true =>
            have HDG := Lib.hid (fun (W : World) => digit_any (src.getD s 0) hy W)
            rw [hdg] at HDG
            obtain ⟨hlt2, htw⟩ := tw_go (f := isDig) (by decide) hdg
            have HP2 := Lib.hid (show s + 1 + ((src.drop (s + 1)).takeWhile isDig).length = N from nat_step HPs.out htw)
            generalize src.getD s 0 = y2 at HBY HDG
            clear HPs hy hdg htw
            go_wp2_with (first
              | (go_at_call 19; (with_reducible refine (HBY.out _ HQs.out).mono ?_); rintro e w2 ⟨rfl, rfl⟩)
              | (go_at_call 20; (with_reducible refine (HDG.out _).mono ?_); rintro e w3 ⟨rfl, rfl⟩)
              | fail)
            go_roundw
            case rel => exact ⟨s + 1, Nat.le_succ_of_le hqs, hlt2, Lib.hid (HQs.out.put' _ _ (by simp)), HP2, Lib.hid (HUs.out.put _ _), Lib.hid (HXs.out.other hgw' _ _)⟩
            case measure => exact measR HQs.out (HQs.out.put' (s + 1) _ (by simp)) (Nat.lt_succ_self _) hlt2
          | false =>
            have HDG := Lib.hid (fun (W : World) => digit_any (src.getD s 0) hy W)
            rw [hdg] at HDG
            have htw := tw_stop (f := isDig) hdg
            obtain rfl : s = N := nat_stop HPs.out htw
            generalize src.getD s 0 = y2 at HBY HDG
            clear HPs hy hdg htw
            go_upto_region 8 with (first
              | (go_at_call 19; (with_reducible refine (HBY.out _ HQs.out).mono ?_); rintro e w2 ⟨rfl, rfl⟩)
              | (go_at_call 20; (with_reducible refine (HDG.out _).mono ?_); rintro e w3 ⟨rfl, rfl⟩)
              | fail)
            obtain ⟨A5, c5, hnb, hc5, hs5⟩ := NB.of HQs.out HUs.out HXs.out (Nat.le_trans haq (Nat.le_of_succ_le hqs)) hs
            have HNB := Lib.hid hnb
            have HTL : Hid (((src.drop a).take (s - a)).length = s - a) := Lib.hid (by rw [List.length_take, List.length_drop]; omega)
            clear hnb
            by_cases hov : 0 < nW ((src.drop a).take (s - a)) + nB ((src.drop a).take (s - a)) ∧ 30 < (strip (wholeL ((src.drop a).take (s - a)))).length
            · have HPF := Lib.hid (fun (W : World) (h : NB g src s a V A5 c5 w W) => (prefix_t (cutA A5 c5 a) (c5 - a) (s - a) ((src.drop a).take (s - a)) W g HTL.out (Nat.le_of_lt h.r.lt) h.rb (by omega) (by have := h.r.len; omega)).mono fun e w' p => show (∃ k, e = .returned (.tuple #[.agg #[.bool false, .int .u64 0, .int .u64 0], .int .i64 k, .iface 53 (.int .i64 2)])) ∧ Below W.heap.size W w' from ⟨by
                  rcases p.1 with ⟨h1, h2, k, he⟩ | ⟨h1, k, he⟩
                  · exact ⟨k, he⟩
                  · exact absurd hov h1, p.2⟩)
              have HOV := Lib.hid hov
              generalize (src.drop a).take (s - a) = T at *
              clear hov
              refine wp_region_held_drew (S := (fun w' => NB g src s a V A5 c5 w w')) (by kernel_rfl) ?_ (fun hHeld => ?_)
              · (try dsimp only)
                (first | exact HNB.out.next (Below.refl _ _).drew | (with_reducible assumption) | (refine NB.next (by with_reducible assumption) (by with_reducible assumption)) | (refine NB.next HNB.out ?_; (repeat' (first | with_reducible (first | exact Below.refl _ _ | refine Below.drew ?_ | refine below_drewN ?_ _ | refine Below.alloc ?_ ?_ _ | refine Below.setCell ?_ ?_ _ | exact Nat.le_refl _) | (simp; done) | (refine Nat.le_trans ?_ (Below.size (by with_reducible assumption)); simp; done))); done) | (refine NB.next (NB.next (by with_reducible assumption) (by with_reducible assumption)) ?_; (repeat' (first | with_reducible (first | exact Below.refl _ _ | refine Below.drew ?_ | refine below_drewN ?_ _ | refine Below.alloc ?_ ?_ _ | refine Below.setCell ?_ ?_ _ | exact Nat.le_refl _) | (simp; done) | (refine Nat.le_trans ?_ (Below.size (by with_reducible assumption)); simp; done))); done) | (refine NB.next (by with_reducible assumption) ?_; (repeat' (first | with_reducible (first | exact Below.refl _ _ | refine Below.drew ?_ | refine below_drewN ?_ _ | refine Below.alloc ?_ ?_ _ | refine Below.setCell ?_ ?_ _ | exact Nat.le_refl _) | (simp; done) | (refine Nat.le_trans ?_ (Below.size (by with_reducible assumption)); simp; done))); done) | (refine NB.next HNB.out ?_; (repeat' (first | with_reducible (first | exact Below.refl _ _ | refine Below.drew ?_ | refine below_drewN ?_ _ | refine Below.alloc ?_ ?_ _ | refine Below.setCell ?_ ?_ _) | (refine Below.trans ?_ (Below.mono (by with_reducible assumption) ?_)) | with_reducible exact Nat.le_refl _ | (simp; done) | (refine Nat.le_trans ?_ (Below.size (by with_reducible assumption)); simp; done))); done))
              refine h4_b [0, 1, 2, 3, 4, 5, 6, 7, 8, 9] ?_
              (repeat (refine h4_p rfl (by kernel_rfl) (fun _ _ _ h => h) (by rfl) hHeld (by intro wS hSw; obtain ⟨k0, hRd, _, _, hXd⟩ := hSw; have k1 := (RdrS.sub hRd).choose_spec.choose_spec.2.1; have kz := RdrS.lt hRd; go_simp; (try with_reducible rfl)) ?_; (try simp only [Act.put, List.setIfInBounds_toArray, List.set_cons_zero, List.set_cons_succ])))
              refine h4_e ?_
              refine wpAnyH_ready (rs := [10, 15]) (by kernel_rfl) (by simp) ?_
              refine (h4_cons rfl (fun K hK => ?_) (h4_cons rfl (fun K hK => ?_) AllReadyH.nil))
              · go_simp
                ((go_at_call 34; (with_reducible refine (HPF.out _ (by with_reducible assumption)).mono ?_); rintro e w5 ⟨⟨kk, rfl⟩, b5⟩; (try (have bz := Lib.hid (Box3.below (by first | exact Box3.make _ _ _ _ _ rfl | exact (Box3.make _ _ _ _ _ rfl).drew) b5); have y0 := bz.out.c0; have y1 := bz.out.c1; have y2 := bz.out.c2; have y3 := bz.out.f0; have y4 := bz.out.f1; have y5 := bz.out.f2; have y6 := bz.out.z))))
                (try go_wp2_with fail)
                refine hK.out _ _ ?_ (fun hHeld1 => ?_)
                · (try dsimp only)
                  (first | exact HNB.out.next (Below.refl _ _).drew | (with_reducible assumption) | (refine NB.next (by with_reducible assumption) (by with_reducible assumption)) | (refine NB.next HNB.out ?_; (repeat' (first | with_reducible (first | exact Below.refl _ _ | refine Below.drew ?_ | refine below_drewN ?_ _ | refine Below.alloc ?_ ?_ _ | refine Below.setCell ?_ ?_ _ | exact Nat.le_refl _) | (simp; done) | (refine Nat.le_trans ?_ (Below.size (by with_reducible assumption)); simp; done))); done) | (refine NB.next (NB.next (by with_reducible assumption) (by with_reducible assumption)) ?_; (repeat' (first | with_reducible (first | exact Below.refl _ _ | refine Below.drew ?_ | refine below_drewN ?_ _ | refine Below.alloc ?_ ?_ _ | refine Below.setCell ?_ ?_ _ | exact Nat.le_refl _) | (simp; done) | (refine Nat.le_trans ?_ (Below.size (by with_reducible assumption)); simp; done))); done) | (refine NB.next (by with_reducible assumption) ?_; (repeat' (first | with_reducible (first | exact Below.refl _ _ | refine Below.drew ?_ | refine below_drewN ?_ _ | refine Below.alloc ?_ ?_ _ | refine Below.setCell ?_ ?_ _ | exact Nat.le_refl _) | (simp; done) | (refine Nat.le_trans ?_ (Below.size (by with_reducible assumption)); simp; done))); done) | (refine NB.next HNB.out ?_; (repeat' (first | with_reducible (first | exact Below.refl _ _ | refine Below.drew ?_ | refine below_drewN ?_ _ | refine Below.alloc ?_ ?_ _ | refine Below.setCell ?_ ?_ _) | (refine Below.trans ?_ (Below.mono (by with_reducible assumption) ?_)) | with_reducible exact Nat.le_refl _ | (simp; done) | (refine Nat.le_trans ?_ (Below.size (by with_reducible assumption)); simp; done))); done))
                clear hK K hHeld
                try simp only [Act.put, List.setIfInBounds_toArray, List.set_cons_zero, List.set_cons_succ]
                refine h4_b [11, 12, 13, 14] ?_
                (repeat (refine h4_p rfl (by kernel_rfl) (fun _ _ _ h => h) (by rfl) hHeld1 (by intro wS hSw; obtain ⟨k0, hRd, _, _, hXd⟩ := hSw; have k1 := (RdrS.sub hRd).choose_spec.choose_spec.2.1; have kz := RdrS.lt hRd; go_simp; (try with_reducible rfl)) ?_; (try simp only [Act.put, List.setIfInBounds_toArray, List.set_cons_zero, List.set_cons_succ])))
                refine h4_e ?_
                refine wpAnyH_ready (rs := [15]) (by kernel_rfl) (by simp) ?_
                refine (h4_cons rfl (fun K hK => ?_) AllReadyH.nil)
                go_simp
                refine hK.out _ _ ?_ (fun hHeld2 => ?_)
                · (try dsimp only)
                  (first | exact HNB.out.next (Below.refl _ _).drew | (with_reducible assumption) | (refine NB.next (by with_reducible assumption) (by with_reducible assumption)) | (refine NB.next HNB.out ?_; (repeat' (first | with_reducible (first | exact Below.refl _ _ | refine Below.drew ?_ | refine below_drewN ?_ _ | refine Below.alloc ?_ ?_ _ | refine Below.setCell ?_ ?_ _ | exact Nat.le_refl _) | (simp; done) | (refine Nat.le_trans ?_ (Below.size (by with_reducible assumption)); simp; done))); done) | (refine NB.next (NB.next (by with_reducible assumption) (by with_reducible assumption)) ?_; (repeat' (first | with_reducible (first | exact Below.refl _ _ | refine Below.drew ?_ | refine below_drewN ?_ _ | refine Below.alloc ?_ ?_ _ | refine Below.setCell ?_ ?_ _ | exact Nat.le_refl _) | (simp; done) | (refine Nat.le_trans ?_ (Below.size (by with_reducible assumption)); simp; done))); done) | (refine NB.next (by with_reducible assumption) ?_; (repeat' (first | with_reducible (first | exact Below.refl _ _ | refine Below.drew ?_ | refine below_drewN ?_ _ | refine Below.alloc ?_ ?_ _ | refine Below.setCell ?_ ?_ _ | exact Nat.le_refl _) | (simp; done) | (refine Nat.le_trans ?_ (Below.size (by with_reducible assumption)); simp; done))); done) | (refine NB.next HNB.out ?_; (repeat' (first | with_reducible (first | exact Below.refl _ _ | refine Below.drew ?_ | refine below_drewN ?_ _ | refine Below.alloc ?_ ?_ _ | refine Below.setCell ?_ ?_ _) | (refine Below.trans ?_ (Below.mono (by with_reducible assumption) ?_)) | with_reducible exact Nat.le_refl _ | (simp; done) | (refine Nat.le_trans ?_ (Below.size (by with_reducible assumption)); simp; done))); done))
                clear hK K hHeld1
                try simp only [Act.put, List.setIfInBounds_toArray, List.set_cons_zero, List.set_cons_succ]
                refine wpAnyH_ready (rs := [16]) (by kernel_rfl) (by simp) ?_
                refine (h4_cons rfl (fun K hK => ?_) AllReadyH.nil)
                go_simp
                refine hK.out _ _ ?_ (fun hHeld3 => ?_)
                · (try dsimp only)
                  (first | exact HNB.out.next (Below.refl _ _).drew | (with_reducible assumption) | (refine NB.next (by with_reducible assumption) (by with_reducible assumption)) | (refine NB.next HNB.out ?_; (repeat' (first | with_reducible (first | exact Below.refl _ _ | refine Below.drew ?_ | refine below_drewN ?_ _ | refine Below.alloc ?_ ?_ _ | refine Below.setCell ?_ ?_ _ | exact Nat.le_refl _) | (simp; done) | (refine Nat.le_trans ?_ (Below.size (by with_reducible assumption)); simp; done))); done) | (refine NB.next (NB.next (by with_reducible assumption) (by with_reducible assumption)) ?_; (repeat' (first | with_reducible (first | exact Below.refl _ _ | refine Below.drew ?_ | refine below_drewN ?_ _ | refine Below.alloc ?_ ?_ _ | refine Below.setCell ?_ ?_ _ | exact Nat.le_refl _) | (simp; done) | (refine Nat.le_trans ?_ (Below.size (by with_reducible assumption)); simp; done))); done) | (refine NB.next (by with_reducible assumption) ?_; (repeat' (first | with_reducible (first | exact Below.refl _ _ | refine Below.drew ?_ | refine below_drewN ?_ _ | refine Below.alloc ?_ ?_ _ | refine Below.setCell ?_ ?_ _ | exact Nat.le_refl _) | (simp; done) | (refine Nat.le_trans ?_ (Below.size (by with_reducible assumption)); simp; done))); done) | (refine NB.next HNB.out ?_; (repeat' (first | with_reducible (first | exact Below.refl _ _ | refine Below.drew ?_ | refine below_drewN ?_ _ | refine Below.alloc ?_ ?_ _ | refine Below.setCell ?_ ?_ _) | (refine Below.trans ?_ (Below.mono (by with_reducible assumption) ?_)) | with_reducible exact Nat.le_refl _ | (simp; done) | (refine Nat.le_trans ?_ (Below.size (by with_reducible assumption)); simp; done))); done))
                clear hK K hHeld2
                try simp only [Act.put, List.setIfInBounds_toArray, List.set_cons_zero, List.set_cons_succ]
                refine h4_b [17, 18] ?_
                (repeat (refine h4_p rfl (by kernel_rfl) (fun _ _ _ h => h) (by rfl) hHeld3 (by intro wS hSw; obtain ⟨k0, hRd, _, _, hXd⟩ := hSw; have k1 := (RdrS.sub hRd).choose_spec.choose_spec.2.1; have kz := RdrS.lt hRd; go_simp; (try with_reducible rfl)) ?_; (try simp only [Act.put, List.setIfInBounds_toArray, List.set_cons_zero, List.set_cons_succ])))
                refine h4_e ?_
                refine wpAnyH_done (by kernel_rfl) ?_ _
                have HNF := Lib.hid ‹NB g src s a V A5 c5 w _›
                clear HNB HPF
                obtain ⟨x0, x1, x2, x3, x4, x5, f0, f1, f2, f3, f4, f5, xz⟩ := HNF.out.x
                go_wp2_with (first
                  | (go_at_call 11; (with_reducible refine (lfault_any a 2 _).mono ?_); rintro e w6 ⟨⟨v, rfl, hv⟩, b6⟩; clear x0 x1 x2 x3 x4 x5 f0 f1 f2 f3 f4 f5; have HX6 := Lib.hid (HNF.out.x.below b6); obtain ⟨x0, x1, x2, x3, x4, x5, f0, f1, f2, f3, f4, f5, _⟩ := HX6.out; have HV := Lib.hid hv; have HU6 := Lib.hid (HNF.out.u.next b6); clear hv b6)
                  | fail)
                (try simp only [Exit.inBlock, Exit.then]); refine bodyPost_ret (by simp [results, Tryz.results21, go_sem, *]; try rfl) rfl ?_
                exact .inl ⟨HOV.out.1, HOV.out.2, ⟨_, rfl, ((((((HV.out.far HNF.out.x.z _ _).far HNF.out.x.z _ _).far HNF.out.x.z _ _).far HNF.out.x.z _ _).far HNF.out.x.z _ _).far HNF.out.x.z _ _).mono (Nat.le_of_lt HNF.out.x.z)⟩, (((((HU6.out.fresh (Nat.le_refl _) _ _).fresh (Nat.le_refl _) _ _).fresh (Nat.le_refl _) _ _).fresh (Nat.le_refl _) _ _).fresh (Nat.le_refl _) _ _).fresh (Nat.le_refl _) _ _⟩
              · go_simp
                refine hK.out _ _ ?_ (fun hHeld4 => ?_)
                · (try dsimp only)
                  (first | exact HNB.out.next (Below.refl _ _).drew | (with_reducible assumption) | (refine NB.next (by with_reducible assumption) (by with_reducible assumption)) | (refine NB.next HNB.out ?_; (repeat' (first | with_reducible (first | exact Below.refl _ _ | refine Below.drew ?_ | refine below_drewN ?_ _ | refine Below.alloc ?_ ?_ _ | refine Below.setCell ?_ ?_ _ | exact Nat.le_refl _) | (simp; done) | (refine Nat.le_trans ?_ (Below.size (by with_reducible assumption)); simp; done))); done) | (refine NB.next (NB.next (by with_reducible assumption) (by with_reducible assumption)) ?_; (repeat' (first | with_reducible (first | exact Below.refl _ _ | refine Below.drew ?_ | refine below_drewN ?_ _ | refine Below.alloc ?_ ?_ _ | refine Below.setCell ?_ ?_ _ | exact Nat.le_refl _) | (simp; done) | (refine Nat.le_trans ?_ (Below.size (by with_reducible assumption)); simp; done))); done) | (refine NB.next (by with_reducible assumption) ?_; (repeat' (first | with_reducible (first | exact Below.refl _ _ | refine Below.drew ?_ | refine below_drewN ?_ _ | refine Below.alloc ?_ ?_ _ | refine Below.setCell ?_ ?_ _ | exact Nat.le_refl _) | (simp; done) | (refine Nat.le_trans ?_ (Below.size (by with_reducible assumption)); simp; done))); done) | (refine NB.next HNB.out ?_; (repeat' (first | with_reducible (first | exact Below.refl _ _ | refine Below.drew ?_ | refine below_drewN ?_ _ | refine Below.alloc ?_ ?_ _ | refine Below.setCell ?_ ?_ _) | (refine Below.trans ?_ (Below.mono (by with_reducible assumption) ?_)) | with_reducible exact Nat.le_refl _ | (simp; done) | (refine Nat.le_trans ?_ (Below.size (by with_reducible assumption)); simp; done))); done))
                clear hK K hHeld
                try simp only [Act.put, List.setIfInBounds_toArray, List.set_cons_zero, List.set_cons_succ]
                refine wpAnyH_ready (rs := [10]) (by kernel_rfl) (by simp) ?_
                refine (h4_cons rfl (fun K hK => ?_) AllReadyH.nil)
                go_simp
                ((go_at_call 34; (with_reducible refine (HPF.out _ (by with_reducible assumption)).mono ?_); rintro e w5 ⟨⟨kk, rfl⟩, b5⟩; (try (have bz := Lib.hid (Box3.below (by first | exact Box3.make _ _ _ _ _ rfl | exact (Box3.make _ _ _ _ _ rfl).drew) b5); have y0 := bz.out.c0; have y1 := bz.out.c1; have y2 := bz.out.c2; have y3 := bz.out.f0; have y4 := bz.out.f1; have y5 := bz.out.f2; have y6 := bz.out.z))))
                (try go_wp2_with fail)
                refine hK.out _ _ ?_ (fun hHeld5 => ?_)
                · (try dsimp only)
                  (first | exact HNB.out.next (Below.refl _ _).drew | (with_reducible assumption) | (refine NB.next (by with_reducible assumption) (by with_reducible assumption)) | (refine NB.next HNB.out ?_; (repeat' (first | with_reducible (first | exact Below.refl _ _ | refine Below.drew ?_ | refine below_drewN ?_ _ | refine Below.alloc ?_ ?_ _ | refine Below.setCell ?_ ?_ _ | exact Nat.le_refl _) | (simp; done) | (refine Nat.le_trans ?_ (Below.size (by with_reducible assumption)); simp; done))); done) | (refine NB.next (NB.next (by with_reducible assumption) (by with_reducible assumption)) ?_; (repeat' (first | with_reducible (first | exact Below.refl _ _ | refine Below.drew ?_ | refine below_drewN ?_ _ | refine Below.alloc ?_ ?_ _ | refine Below.setCell ?_ ?_ _ | exact Nat.le_refl _) | (simp; done) | (refine Nat.le_trans ?_ (Below.size (by with_reducible assumption)); simp; done))); done) | (refine NB.next (by with_reducible assumption) ?_; (repeat' (first | with_reducible (first | exact Below.refl _ _ | refine Below.drew ?_ | refine below_drewN ?_ _ | refine Below.alloc ?_ ?_ _ | refine Below.setCell ?_ ?_ _ | exact Nat.le_refl _) | (simp; done) | (refine Nat.le_trans ?_ (Below.size (by with_reducible assumption)); simp; done))); done) | (refine NB.next HNB.out ?_; (repeat' (first | with_reducible (first | exact Below.refl _ _ | refine Below.drew ?_ | refine below_drewN ?_ _ | refine Below.alloc ?_ ?_ _ | refine Below.setCell ?_ ?_ _) | (refine Below.trans ?_ (Below.mono (by with_reducible assumption) ?_)) | with_reducible exact Nat.le_refl _ | (simp; done) | (refine Nat.le_trans ?_ (Below.size (by with_reducible assumption)); simp; done))); done))
                clear hK K hHeld4
                try simp only [Act.put, List.setIfInBounds_toArray, List.set_cons_zero, List.set_cons_succ]
                refine h4_b [11, 12, 13, 14] ?_
                (repeat (refine h4_p rfl (by kernel_rfl) (fun _ _ _ h => h) (by rfl) hHeld5 (by intro wS hSw; obtain ⟨k0, hRd, _, _, hXd⟩ := hSw; have k1 := (RdrS.sub hRd).choose_spec.choose_spec.2.1; have kz := RdrS.lt hRd; go_simp; (try with_reducible rfl)) ?_; (try simp only [Act.put, List.setIfInBounds_toArray, List.set_cons_zero, List.set_cons_succ])))
                refine h4_e ?_
                refine wpAnyH_ready (rs := [16]) (by kernel_rfl) (by simp) ?_
                refine (h4_cons rfl (fun K hK => ?_) AllReadyH.nil)
                go_simp
                refine hK.out _ _ ?_ (fun hHeld6 => ?_)
                · (try dsimp only)
                  (first | exact HNB.out.next (Below.refl _ _).drew | (with_reducible assumption) | (refine NB.next (by with_reducible assumption) (by with_reducible assumption)) | (refine NB.next HNB.out ?_; (repeat' (first | with_reducible (first | exact Below.refl _ _ | refine Below.drew ?_ | refine below_drewN ?_ _ | refine Below.alloc ?_ ?_ _ | refine Below.setCell ?_ ?_ _ | exact Nat.le_refl _) | (simp; done) | (refine Nat.le_trans ?_ (Below.size (by with_reducible assumption)); simp; done))); done) | (refine NB.next (NB.next (by with_reducible assumption) (by with_reducible assumption)) ?_; (repeat' (first | with_reducible (first | exact Below.refl _ _ | refine Below.drew ?_ | refine below_drewN ?_ _ | refine Below.alloc ?_ ?_ _ | refine Below.setCell ?_ ?_ _ | exact Nat.le_refl _) | (simp; done) | (refine Nat.le_trans ?_ (Below.size (by with_reducible assumption)); simp; done))); done) | (refine NB.next (by with_reducible assumption) ?_; (repeat' (first | with_reducible (first | exact Below.refl _ _ | refine Below.drew ?_ | refine below_drewN ?_ _ | refine Below.alloc ?_ ?_ _ | refine Below.setCell ?_ ?_ _ | exact Nat.le_refl _) | (simp; done) | (refine Nat.le_trans ?_ (Below.size (by with_reducible assumption)); simp; done))); done) | (refine NB.next HNB.out ?_; (repeat' (first | with_reducible (first | exact Below.refl _ _ | refine Below.drew ?_ | refine below_drewN ?_ _ | refine Below.alloc ?_ ?_ _ | refine Below.setCell ?_ ?_ _) | (refine Below.trans ?_ (Below.mono (by with_reducible assumption) ?_)) | with_reducible exact Nat.le_refl _ | (simp; done) | (refine Nat.le_trans ?_ (Below.size (by with_reducible assumption)); simp; done))); done))
                clear hK K hHeld5
                try simp only [Act.put, List.setIfInBounds_toArray, List.set_cons_zero, List.set_cons_succ]
                refine h4_b [17, 18] ?_
                (repeat (refine h4_p rfl (by kernel_rfl) (fun _ _ _ h => h) (by rfl) hHeld6 (by intro wS hSw; obtain ⟨k0, hRd, _, _, hXd⟩ := hSw; have k1 := (RdrS.sub hRd).choose_spec.choose_spec.2.1; have kz := RdrS.lt hRd; go_simp; (try with_reducible rfl)) ?_; (try simp only [Act.put, List.setIfInBounds_toArray, List.set_cons_zero, List.set_cons_succ])))
                refine h4_e ?_
                refine wpAnyH_done (by kernel_rfl) ?_ _
                have HNF := Lib.hid ‹NB g src s a V A5 c5 w _›
                clear HNB HPF
                obtain ⟨x0, x1, x2, x3, x4, x5, f0, f1, f2, f3, f4, f5, xz⟩ := HNF.out.x
                go_wp2_with (first
                  | (go_at_call 11; (with_reducible refine (lfault_any a 2 _).mono ?_); rintro e w6 ⟨⟨v, rfl, hv⟩, b6⟩; clear x0 x1 x2 x3 x4 x5 f0 f1 f2 f3 f4 f5; have HX6 := Lib.hid (HNF.out.x.below b6); obtain ⟨x0, x1, x2, x3, x4, x5, f0, f1, f2, f3, f4, f5, _⟩ := HX6.out; have HV := Lib.hid hv; have HU6 := Lib.hid (HNF.out.u.next b6); clear hv b6)
                  | fail)
                (try simp only [Exit.inBlock, Exit.then]); refine bodyPost_ret (by simp [results, Tryz.results21, go_sem, *]; try rfl) rfl ?_
                exact .inl ⟨HOV.out.1, HOV.out.2, ⟨_, rfl, ((((((HV.out.far HNF.out.x.z _ _).far HNF.out.x.z _ _).far HNF.out.x.z _ _).far HNF.out.x.z _ _).far HNF.out.x.z _ _).far HNF.out.x.z _ _).mono (Nat.le_of_lt HNF.out.x.z)⟩, (((((HU6.out.fresh (Nat.le_refl _) _ _).fresh (Nat.le_refl _) _ _).fresh (Nat.le_refl _) _ _).fresh (Nat.le_refl _) _ _).fresh (Nat.le_refl _) _ _).fresh (Nat.le_refl _) _ _⟩
            · have HPF := Lib.hid (fun (W : World) (h : NB g src s a V A5 c5 w W) => (prefix_t (cutA A5 c5 a) (c5 - a) (s - a) ((src.drop a).take (s - a)) W g HTL.out (Nat.le_of_lt h.r.lt) h.rb (by omega) (by have := h.r.len; omega)).mono fun e w' p => show (∃ k, e = .returned (.tuple #[.agg #[.bool (zn (numZ ((src.drop a).take (s - a)))), .int .u64 (zh (numZ ((src.drop a).take (s - a)))), .int .u64 (zl (numZ ((src.drop a).take (s - a))))], .int .i64 k, .nilIface])) ∧ Below W.heap.size W w' from ⟨by
                  rcases p.1 with ⟨h1, h2, k, he⟩ | ⟨h1, k, he⟩
                  · exact absurd ⟨h1, h2⟩ hov
                  · exact ⟨k, he⟩, p.2⟩)
              have HOV := Lib.hid hov
              generalize (src.drop a).take (s - a) = T at *
              clear hov
              refine wp_region_held_drew (S := (fun w' => NB g src s a V A5 c5 w w')) (by kernel_rfl) ?_ (fun hHeld => ?_)
              · (try dsimp only)
                (first | exact HNB.out.next (Below.refl _ _).drew | (with_reducible assumption) | (refine NB.next (by with_reducible assumption) (by with_reducible assumption)) | (refine NB.next HNB.out ?_; (repeat' (first | with_reducible (first | exact Below.refl _ _ | refine Below.drew ?_ | refine below_drewN ?_ _ | refine Below.alloc ?_ ?_ _ | refine Below.setCell ?_ ?_ _ | exact Nat.le_refl _) | (simp; done) | (refine Nat.le_trans ?_ (Below.size (by with_reducible assumption)); simp; done))); done) | (refine NB.next (NB.next (by with_reducible assumption) (by with_reducible assumption)) ?_; (repeat' (first | with_reducible (first | exact Below.refl _ _ | refine Below.drew ?_ | refine below_drewN ?_ _ | refine Below.alloc ?_ ?_ _ | refine Below.setCell ?_ ?_ _ | exact Nat.le_refl _) | (simp; done) | (refine Nat.le_trans ?_ (Below.size (by with_reducible assumption)); simp; done))); done) | (refine NB.next (by with_reducible assumption) ?_; (repeat' (first | with_reducible (first | exact Below.refl _ _ | refine Below.drew ?_ | refine below_drewN ?_ _ | refine Below.alloc ?_ ?_ _ | refine Below.setCell ?_ ?_ _ | exact Nat.le_refl _) | (simp; done) | (refine Nat.le_trans ?_ (Below.size (by with_reducible assumption)); simp; done))); done) | (refine NB.next HNB.out ?_; (repeat' (first | with_reducible (first | exact Below.refl _ _ | refine Below.drew ?_ | refine below_drewN ?_ _ | refine Below.alloc ?_ ?_ _ | refine Below.setCell ?_ ?_ _) | (refine Below.trans ?_ (Below.mono (by with_reducible assumption) ?_)) | with_reducible exact Nat.le_refl _ | (simp; done) | (refine Nat.le_trans ?_ (Below.size (by with_reducible assumption)); simp; done))); done))
              refine h4_b [0, 1, 2, 3, 4, 5, 6, 7, 8, 9] ?_
              (repeat (refine h4_p rfl (by kernel_rfl) (fun _ _ _ h => h) (by rfl) hHeld (by intro wS hSw; obtain ⟨k0, hRd, _, _, hXd⟩ := hSw; have k1 := (RdrS.sub hRd).choose_spec.choose_spec.2.1; have kz := RdrS.lt hRd; go_simp; (try with_reducible rfl)) ?_; (try simp only [Act.put, List.setIfInBounds_toArray, List.set_cons_zero, List.set_cons_succ])))
              refine h4_e ?_
              refine wpAnyH_ready (rs := [10, 15]) (by kernel_rfl) (by simp) ?_
              refine (h4_cons rfl (fun K hK => ?_) (h4_cons rfl (fun K hK => ?_) AllReadyH.nil))
              · go_simp
                ((go_at_call 34; (with_reducible refine (HPF.out _ (by with_reducible assumption)).mono ?_); rintro e w5 ⟨⟨kk, rfl⟩, b5⟩; (try (have bz := Lib.hid (Box3.below (by first | exact Box3.make _ _ _ _ _ rfl | exact (Box3.make _ _ _ _ _ rfl).drew) b5); have y0 := bz.out.c0; have y1 := bz.out.c1; have y2 := bz.out.c2; have y3 := bz.out.f0; have y4 := bz.out.f1; have y5 := bz.out.f2; have y6 := bz.out.z))))
                (try go_wp2_with fail)
                refine hK.out _ _ ?_ (fun hHeld7 => ?_)
                · (try dsimp only)
                  (first | exact HNB.out.next (Below.refl _ _).drew | (with_reducible assumption) | (refine NB.next (by with_reducible assumption) (by with_reducible assumption)) | (refine NB.next HNB.out ?_; (repeat' (first | with_reducible (first | exact Below.refl _ _ | refine Below.drew ?_ | refine below_drewN ?_ _ | refine Below.alloc ?_ ?_ _ | refine Below.setCell ?_ ?_ _ | exact Nat.le_refl _) | (simp; done) | (refine Nat.le_trans ?_ (Below.size (by with_reducible assumption)); simp; done))); done) | (refine NB.next (NB.next (by with_reducible assumption) (by with_reducible assumption)) ?_; (repeat' (first | with_reducible (first | exact Below.refl _ _ | refine Below.drew ?_ | refine below_drewN ?_ _ | refine Below.alloc ?_ ?_ _ | refine Below.setCell ?_ ?_ _ | exact Nat.le_refl _) | (simp; done) | (refine Nat.le_trans ?_ (Below.size (by with_reducible assumption)); simp; done))); done) | (refine NB.next (by with_reducible assumption) ?_; (repeat' (first | with_reducible (first | exact Below.refl _ _ | refine Below.drew ?_ | refine below_drewN ?_ _ | refine Below.alloc ?_ ?_ _ | refine Below.setCell ?_ ?_ _ | exact Nat.le_refl _) | (simp; done) | (refine Nat.le_trans ?_ (Below.size (by with_reducible assumption)); simp; done))); done) | (refine NB.next HNB.out ?_; (repeat' (first | with_reducible (first | exact Below.refl _ _ | refine Below.drew ?_ | refine below_drewN ?_ _ | refine Below.alloc ?_ ?_ _ | refine Below.setCell ?_ ?_ _) | (refine Below.trans ?_ (Below.mono (by with_reducible assumption) ?_)) | with_reducible exact Nat.le_refl _ | (simp; done) | (refine Nat.le_trans ?_ (Below.size (by with_reducible assumption)); simp; done))); done))
                clear hK K hHeld
                try simp only [Act.put, List.setIfInBounds_toArray, List.set_cons_zero, List.set_cons_succ]
                refine h4_b [11, 12, 13, 14] ?_
                (repeat (refine h4_p rfl (by kernel_rfl) (fun _ _ _ h => h) (by rfl) hHeld7 (by intro wS hSw; obtain ⟨k0, hRd, _, _, hXd⟩ := hSw; have k1 := (RdrS.sub hRd).choose_spec.choose_spec.2.1; have kz := RdrS.lt hRd; go_simp; (try with_reducible rfl)) ?_; (try simp only [Act.put, List.setIfInBounds_toArray, List.set_cons_zero, List.set_cons_succ])))
                refine h4_e ?_
                refine wpAnyH_ready (rs := [15]) (by kernel_rfl) (by simp) ?_
                refine (h4_cons rfl (fun K hK => ?_) AllReadyH.nil)
                go_simp
                refine hK.out _ _ ?_ (fun hHeld8 => ?_)
                · (try dsimp only)
                  (first | exact HNB.out.next (Below.refl _ _).drew | (with_reducible assumption) | (refine NB.next (by with_reducible assumption) (by with_reducible assumption)) | (refine NB.next HNB.out ?_; (repeat' (first | with_reducible (first | exact Below.refl _ _ | refine Below.drew ?_ | refine below_drewN ?_ _ | refine Below.alloc ?_ ?_ _ | refine Below.setCell ?_ ?_ _ | exact Nat.le_refl _) | (simp; done) | (refine Nat.le_trans ?_ (Below.size (by with_reducible assumption)); simp; done))); done) | (refine NB.next (NB.next (by with_reducible assumption) (by with_reducible assumption)) ?_; (repeat' (first | with_reducible (first | exact Below.refl _ _ | refine Below.drew ?_ | refine below_drewN ?_ _ | refine Below.alloc ?_ ?_ _ | refine Below.setCell ?_ ?_ _ | exact Nat.le_refl _) | (simp; done) | (refine Nat.le_trans ?_ (Below.size (by with_reducible assumption)); simp; done))); done) | (refine NB.next (by with_reducible assumption) ?_; (repeat' (first | with_reducible (first | exact Below.refl _ _ | refine Below.drew ?_ | refine below_drewN ?_ _ | refine Below.alloc ?_ ?_ _ | refine Below.setCell ?_ ?_ _ | exact Nat.le_refl _) | (simp; done) | (refine Nat.le_trans ?_ (Below.size (by with_reducible assumption)); simp; done))); done) | (refine NB.next HNB.out ?_; (repeat' (first | with_reducible (first | exact Below.refl _ _ | refine Below.drew ?_ | refine below_drewN ?_ _ | refine Below.alloc ?_ ?_ _ | refine Below.setCell ?_ ?_ _) | (refine Below.trans ?_ (Below.mono (by with_reducible assumption) ?_)) | with_reducible exact Nat.le_refl _ | (simp; done) | (refine Nat.le_trans ?_ (Below.size (by with_reducible assumption)); simp; done))); done))
                clear hK K hHeld7
                try simp only [Act.put, List.setIfInBounds_toArray, List.set_cons_zero, List.set_cons_succ]
                refine wpAnyH_ready (rs := [16]) (by kernel_rfl) (by simp) ?_
                refine (h4_cons rfl (fun K hK => ?_) AllReadyH.nil)
                go_simp
                refine hK.out _ _ ?_ (fun hHeld9 => ?_)
                · (try dsimp only)
                  (first | exact HNB.out.next (Below.refl _ _).drew | (with_reducible assumption) | (refine NB.next (by with_reducible assumption) (by with_reducible assumption)) | (refine NB.next HNB.out ?_; (repeat' (first | with_reducible (first | exact Below.refl _ _ | refine Below.drew ?_ | refine below_drewN ?_ _ | refine Below.alloc ?_ ?_ _ | refine Below.setCell ?_ ?_ _ | exact Nat.le_refl _) | (simp; done) | (refine Nat.le_trans ?_ (Below.size (by with_reducible assumption)); simp; done))); done) | (refine NB.next (NB.next (by with_reducible assumption) (by with_reducible assumption)) ?_; (repeat' (first | with_reducible (first | exact Below.refl _ _ | refine Below.drew ?_ | refine below_drewN ?_ _ | refine Below.alloc ?_ ?_ _ | refine Below.setCell ?_ ?_ _ | exact Nat.le_refl _) | (simp; done) | (refine Nat.le_trans ?_ (Below.size (by with_reducible assumption)); simp; done))); done) | (refine NB.next (by with_reducible assumption) ?_; (repeat' (first | with_reducible (first | exact Below.refl _ _ | refine Below.drew ?_ | refine below_drewN ?_ _ | refine Below.alloc ?_ ?_ _ | refine Below.setCell ?_ ?_ _ | exact Nat.le_refl _) | (simp; done) | (refine Nat.le_trans ?_ (Below.size (by with_reducible assumption)); simp; done))); done) | (refine NB.next HNB.out ?_; (repeat' (first | with_reducible (first | exact Below.refl _ _ | refine Below.drew ?_ | refine below_drewN ?_ _ | refine Below.alloc ?_ ?_ _ | refine Below.setCell ?_ ?_ _) | (refine Below.trans ?_ (Below.mono (by with_reducible assumption) ?_)) | with_reducible exact Nat.le_refl _ | (simp; done) | (refine Nat.le_trans ?_ (Below.size (by with_reducible assumption)); simp; done))); done))
                clear hK K hHeld8
                try simp only [Act.put, List.setIfInBounds_toArray, List.set_cons_zero, List.set_cons_succ]
                refine h4_b [17, 18] ?_
                (repeat (refine h4_p rfl (by kernel_rfl) (fun _ _ _ h => h) (by rfl) hHeld9 (by intro wS hSw; obtain ⟨k0, hRd, _, _, hXd⟩ := hSw; have k1 := (RdrS.sub hRd).choose_spec.choose_spec.2.1; have kz := RdrS.lt hRd; go_simp; (try with_reducible rfl)) ?_; (try simp only [Act.put, List.setIfInBounds_toArray, List.set_cons_zero, List.set_cons_succ])))
                refine h4_e ?_
                refine wpAnyH_done (by kernel_rfl) ?_ _
                have HNF := Lib.hid ‹NB g src s a V A5 c5 w _›
                clear HNB HPF
                obtain ⟨x0, x1, x2, x3, x4, x5, f0, f1, f2, f3, f4, f5, xz⟩ := HNF.out.x
                go_wp2_with fail
                (try simp only [Exit.inBlock, Exit.then]); refine bodyPost_ret (by simp [results, Tryz.results21, go_sem, *]; try rfl) rfl ?_
                refine .inr ⟨HOV.out, rfl, ?_, (((((HNF.out.u.fresh (Nat.le_refl _) _ _).fresh (Nat.le_refl _) _ _).fresh (Nat.le_refl _) _ _).fresh (Nat.le_refl _) _ _).fresh (Nat.le_refl _) _ _).fresh (Nat.le_refl _) _ _⟩
                have hTe : a + T.length = s := by rw [HTL.out]; exact Nat.add_sub_cancel' (Nat.le_trans haq (Nat.le_of_succ_le hqs))
                rw [hTe]
                exact (((((HNF.out.r.far hgw _ _).far hgw _ _).far hgw _ _).far hgw _ _).far hgw _ _).far hgw _ _
              · go_simp
                refine hK.out _ _ ?_ (fun hHeld10 => ?_)
                · (try dsimp only)
                  (first | exact HNB.out.next (Below.refl _ _).drew | (with_reducible assumption) | (refine NB.next (by with_reducible assumption) (by with_reducible assumption)) | (refine NB.next HNB.out ?_; (repeat' (first | with_reducible (first | exact Below.refl _ _ | refine Below.drew ?_ | refine below_drewN ?_ _ | refine Below.alloc ?_ ?_ _ | refine Below.setCell ?_ ?_ _ | exact Nat.le_refl _) | (simp; done) | (refine Nat.le_trans ?_ (Below.size (by with_reducible assumption)); simp; done))); done) | (refine NB.next (NB.next (by with_reducible assumption) (by with_reducible assumption)) ?_; (repeat' (first | with_reducible (first | exact Below.refl _ _ | refine Below.drew ?_ | refine below_drewN ?_ _ | refine Below.alloc ?_ ?_ _ | refine Below.setCell ?_ ?_ _ | exact Nat.le_refl _) | (simp; done) | (refine Nat.le_trans ?_ (Below.size (by with_reducible assumption)); simp; done))); done) | (refine NB.next (by with_reducible assumption) ?_; (repeat' (first | with_reducible (first | exact Below.refl _ _ | refine Below.drew ?_ | refine below_drewN ?_ _ | refine Below.alloc ?_ ?_ _ | refine Below.setCell ?_ ?_ _ | exact Nat.le_refl _) | (simp; done) | (refine Nat.le_trans ?_ (Below.size (by with_reducible assumption)); simp; done))); done) | (refine NB.next HNB.out ?_; (repeat' (first | with_reducible (first | exact Below.refl _ _ | refine Below.drew ?_ | refine below_drewN ?_ _ | refine Below.alloc ?_ ?_ _ | refine Below.setCell ?_ ?_ _) | (refine Below.trans ?_ (Below.mono (by with_reducible assumption) ?_)) | with_reducible exact Nat.le_refl _ | (simp; done) | (refine Nat.le_trans ?_ (Below.size (by with_reducible assumption)); simp; done))); done))
                clear hK K hHeld
                try simp only [Act.put, List.setIfInBounds_toArray, List.set_cons_zero, List.set_cons_succ]
                refine wpAnyH_ready (rs := [10]) (by kernel_rfl) (by simp) ?_
                refine (h4_cons rfl (fun K hK => ?_) AllReadyH.nil)
                go_simp
                ((go_at_call 34; (with_reducible refine (HPF.out _ (by with_reducible assumption)).mono ?_); rintro e w5 ⟨⟨kk, rfl⟩, b5⟩; (try (have bz := Lib.hid (Box3.below (by first | exact Box3.make _ _ _ _ _ rfl | exact (Box3.make _ _ _ _ _ rfl).drew) b5); have y0 := bz.out.c0; have y1 := bz.out.c1; have y2 := bz.out.c2; have y3 := bz.out.f0; have y4 := bz.out.f1; have y5 := bz.out.f2; have y6 := bz.out.z))))
                (try go_wp2_with fail)
                refine hK.out _ _ ?_ (fun hHeld11 => ?_)
                · (try dsimp only)
                  (first | exact HNB.out.next (Below.refl _ _).drew | (with_reducible assumption) | (refine NB.next (by with_reducible assumption) (by with_reducible assumption)) | (refine NB.next HNB.out ?_; (repeat' (first | with_reducible (first | exact Below.refl _ _ | refine Below.drew ?_ | refine below_drewN ?_ _ | refine Below.alloc ?_ ?_ _ | refine Below.setCell ?_ ?_ _ | exact Nat.le_refl _) | (simp; done) | (refine Nat.le_trans ?_ (Below.size (by with_reducible assumption)); simp; done))); done) | (refine NB.next (NB.next (by with_reducible assumption) (by with_reducible assumption)) ?_; (repeat' (first | with_reducible (first | exact Below.refl _ _ | refine Below.drew ?_ | refine below_drewN ?_ _ | refine Below.alloc ?_ ?_ _ | refine Below.setCell ?_ ?_ _ | exact Nat.le_refl _) | (simp; done) | (refine Nat.le_trans ?_ (Below.size (by with_reducible assumption)); simp; done))); done) | (refine NB.next (by with_reducible assumption) ?_; (repeat' (first | with_reducible (first | exact Below.refl _ _ | refine Below.drew ?_ | refine below_drewN ?_ _ | refine Below.alloc ?_ ?_ _ | refine Below.setCell ?_ ?_ _ | exact Nat.le_refl _) | (simp; done) | (refine Nat.le_trans ?_ (Below.size (by with_reducible assumption)); simp; done))); done) | (refine NB.next HNB.out ?_; (repeat' (first | with_reducible (first | exact Below.refl _ _ | refine Below.drew ?_ | refine below_drewN ?_ _ | refine Below.alloc ?_ ?_ _ | refine Below.setCell ?_ ?_ _) | (refine Below.trans ?_ (Below.mono (by with_reducible assumption) ?_)) | with_reducible exact Nat.le_refl _ | (simp; done) | (refine Nat.le_trans ?_ (Below.size (by with_reducible assumption)); simp; done))); done))
                clear hK K hHeld10
                try simp only [Act.put, List.setIfInBounds_toArray, List.set_cons_zero, List.set_cons_succ]
                refine h4_b [11, 12, 13, 14] ?_
                (repeat (refine h4_p rfl (by kernel_rfl) (fun _ _ _ h => h) (by rfl) hHeld11 (by intro wS hSw; obtain ⟨k0, hRd, _, _, hXd⟩ := hSw; have k1 := (RdrS.sub hRd).choose_spec.choose_spec.2.1; have kz := RdrS.lt hRd; go_simp; (try with_reducible rfl)) ?_; (try simp only [Act.put, List.setIfInBounds_toArray, List.set_cons_zero, List.set_cons_succ])))
                refine h4_e ?_
                refine wpAnyH_ready (rs := [16]) (by kernel_rfl) (by simp) ?_
                refine (h4_cons rfl (fun K hK => ?_) AllReadyH.nil)
                go_simp
                refine hK.out _ _ ?_ (fun hHeld12 => ?_)
                · (try dsimp only)
                  (first | exact HNB.out.next (Below.refl _ _).drew | (with_reducible assumption) | (refine NB.next (by with_reducible assumption) (by with_reducible assumption)) | (refine NB.next HNB.out ?_; (repeat' (first | with_reducible (first | exact Below.refl _ _ | refine Below.drew ?_ | refine below_drewN ?_ _ | refine Below.alloc ?_ ?_ _ | refine Below.setCell ?_ ?_ _ | exact Nat.le_refl _) | (simp; done) | (refine Nat.le_trans ?_ (Below.size (by with_reducible assumption)); simp; done))); done) | (refine NB.next (NB.next (by with_reducible assumption) (by with_reducible assumption)) ?_; (repeat' (first | with_reducible (first | exact Below.refl _ _ | refine Below.drew ?_ | refine below_drewN ?_ _ | refine Below.alloc ?_ ?_ _ | refine Below.setCell ?_ ?_ _ | exact Nat.le_refl _) | (simp; done) | (refine Nat.le_trans ?_ (Below.size (by with_reducible assumption)); simp; done))); done) | (refine NB.next (by with_reducible assumption) ?_; (repeat' (first | with_reducible (first | exact Below.refl _ _ | refine Below.drew ?_ | refine below_drewN ?_ _ | refine Below.alloc ?_ ?_ _ | refine Below.setCell ?_ ?_ _ | exact Nat.le_refl _) | (simp; done) | (refine Nat.le_trans ?_ (Below.size (by with_reducible assumption)); simp; done))); done) | (refine NB.next HNB.out ?_; (repeat' (first | with_reducible (first | exact Below.refl _ _ | refine Below.drew ?_ | refine below_drewN ?_ _ | refine Below.alloc ?_ ?_ _ | refine Below.setCell ?_ ?_ _) | (refine Below.trans ?_ (Below.mono (by with_reducible assumption) ?_)) | with_reducible exact Nat.le_refl _ | (simp; done) | (refine Nat.le_trans ?_ (Below.size (by with_reducible assumption)); simp; done))); done))
                clear hK K hHeld11
                try simp only [Act.put, List.setIfInBounds_toArray, List.set_cons_zero, List.set_cons_succ]
                refine h4_b [17, 18] ?_
                (repeat (refine h4_p rfl (by kernel_rfl) (fun _ _ _ h => h) (by rfl) hHeld12 (by intro wS hSw; obtain ⟨k0, hRd, _, _, hXd⟩ := hSw; have k1 := (RdrS.sub hRd).choose_spec.choose_spec.2.1; have kz := RdrS.lt hRd; go_simp; (try with_reducible rfl)) ?_; (try simp only [Act.put, List.setIfInBounds_toArray, List.set_cons_zero, List.set_cons_succ])))
                refine h4_e ?_
                refine wpAnyH_done (by kernel_rfl) ?_ _
                have HNF := Lib.hid ‹NB g src s a V A5 c5 w _›
                clear HNB HPF
                obtain ⟨x0, x1, x2, x3, x4, x5, f0, f1, f2, f3, f4, f5, xz⟩ := HNF.out.x
                go_wp2_with fail
                (try simp only [Exit.inBlock, Exit.then]); refine bodyPost_ret (by simp [results, Tryz.results21, go_sem, *]; try rfl) rfl ?_
                refine .inr ⟨HOV.out, rfl, ?_, (((((HNF.out.u.fresh (Nat.le_refl _) _ _).fresh (Nat.le_refl _) _ _).fresh (Nat.le_refl _) _ _).fresh (Nat.le_refl _) _ _).fresh (Nat.le_refl _) _ _).fresh (Nat.le_refl _) _ _⟩
                have hTe : a + T.length = s := by rw [HTL.out]; exact Nat.add_sub_cancel' (Nat.le_trans haq (Nat.le_of_succ_le hqs))
                rw [hTe]
                exact (((((HNF.out.r.far hgw _ _).far hgw _ _).far hgw _ _).far hgw _ _).far hgw _ _).far hgw _ _
      · have n1 : (((src.getD q 0 : Nat) : Int) == 46) = false := by rw [beq_eq_false_iff_ne]; exact fun e => h46 (by exact_mod_cast e)
        rw [if_neg h46] at hnl
        obtain rfl : q = N := by have := HN.out; omega
        generalize src.getD q 0 = y at HBY HDG n1
        clear hy h46 hnl hqd
        go_upto_region 8 with (first
          | (go_at_call 19; (with_reducible refine (HBY.out _ HQ.out).mono ?_); rintro e w2 ⟨rfl, rfl⟩)
          | (go_at_call 20; (with_reducible refine (HDG.out _).mono ?_); rintro e w3 ⟨rfl, rfl⟩)
          | fail)
        obtain ⟨A5, c5, hnb, hc5, hs5⟩ := NB.of HQ.out HU.out HX.out haq hq
        have HNB := Lib.hid hnb
        have HTL : Hid (((src.drop a).take (q - a)).length = q - a) := Lib.hid (by rw [List.length_take, List.length_drop]; omega)
        clear hnb
        by_cases hov : 0 < nW ((src.drop a).take (q - a)) + nB ((src.drop a).take (q - a)) ∧ 30 < (strip (wholeL ((src.drop a).take (q - a)))).length
        · have HPF := Lib.hid (fun (W : World) (h : NB g src q a V A5 c5 w W) => (prefix_t (cutA A5 c5 a) (c5 - a) (q - a) ((src.drop a).take (q - a)) W g HTL.out (Nat.le_of_lt h.r.lt) h.rb (by omega) (by have := h.r.len; omega)).mono fun e w' p => show (∃ k, e = .returned (.tuple #[.agg #[.bool false, .int .u64 0, .int .u64 0], .int .i64 k, .iface 53 (.int .i64 2)])) ∧ Below W.heap.size W w' from ⟨by
              rcases p.1 with ⟨h1, h2, k, he⟩ | ⟨h1, k, he⟩
              · exact ⟨k, he⟩
              · exact absurd hov h1, p.2⟩)
          have HOV := Lib.hid hov
          generalize (src.drop a).take (q - a) = T at *
          clear hov
          refine wp_region_held_drew (S := (fun w' => NB g src q a V A5 c5 w w')) (by kernel_rfl) ?_ (fun hHeld => ?_)
          · (try dsimp only)
            (first | exact HNB.out.next (Below.refl _ _).drew | (with_reducible assumption) | (refine NB.next (by with_reducible assumption) (by with_reducible assumption)) | (refine NB.next HNB.out ?_; (repeat' (first | with_reducible (first | exact Below.refl _ _ | refine Below.drew ?_ | refine below_drewN ?_ _ | refine Below.alloc ?_ ?_ _ | refine Below.setCell ?_ ?_ _ | exact Nat.le_refl _) | (simp; done) | (refine Nat.le_trans ?_ (Below.size (by with_reducible assumption)); simp; done))); done) | (refine NB.next (NB.next (by with_reducible assumption) (by with_reducible assumption)) ?_; (repeat' (first | with_reducible (first | exact Below.refl _ _ | refine Below.drew ?_ | refine below_drewN ?_ _ | refine Below.alloc ?_ ?_ _ | refine Below.setCell ?_ ?_ _ | exact Nat.le_refl _) | (simp; done) | (refine Nat.le_trans ?_ (Below.size (by with_reducible assumption)); simp; done))); done) | (refine NB.next (by with_reducible assumption) ?_; (repeat' (first | with_reducible (first | exact Below.refl _ _ | refine Below.drew ?_ | refine below_drewN ?_ _ | refine Below.alloc ?_ ?_ _ | refine Below.setCell ?_ ?_ _ | exact Nat.le_refl _) | (simp; done) | (refine Nat.le_trans ?_ (Below.size (by with_reducible assumption)); simp; done))); done) | (refine NB.next HNB.out ?_; (repeat' (first | with_reducible (first | exact Below.refl _ _ | refine Below.drew ?_ | refine below_drewN ?_ _ | refine Below.alloc ?_ ?_ _ | refine Below.setCell ?_ ?_ _) | (refine Below.trans ?_ (Below.mono (by with_reducible assumption) ?_)) | with_reducible exact Nat.le_refl _ | (simp; done) | (refine Nat.le_trans ?_ (Below.size (by with_reducible assumption)); simp; done))); done))
          refine h4_b [0, 1, 2, 3, 4, 5, 6, 7, 8, 9] ?_
          (repeat (refine h4_p rfl (by kernel_rfl) (fun _ _ _ h => h) (by rfl) hHeld (by intro wS hSw; obtain ⟨k0, hRd, _, _, hXd⟩ := hSw; have k1 := (RdrS.sub hRd).choose_spec.choose_spec.2.1; have kz := RdrS.lt hRd; go_simp; (try with_reducible rfl)) ?_; (try simp only [Act.put, List.setIfInBounds_toArray, List.set_cons_zero, List.set_cons_succ])))
          refine h4_e ?_
          refine wpAnyH_ready (rs := [10, 15]) (by kernel_rfl) (by simp) ?_
          refine (h4_cons rfl (fun K hK => ?_) (h4_cons rfl (fun K hK => ?_) AllReadyH.nil))
          · go_simp
            ((go_at_call 34; (with_reducible refine (HPF.out _ (by with_reducible assumption)).mono ?_); rintro e w5 ⟨⟨kk, rfl⟩, b5⟩; (try (have bz := Lib.hid (Box3.below (by first | exact Box3.make _ _ _ _ _ rfl | exact (Box3.make _ _ _ _ _ rfl).drew) b5); have y0 := bz.out.c0; have y1 := bz.out.c1; have y2 := bz.out.c2; have y3 := bz.out.f0; have y4 := bz.out.f1; have y5 := bz.out.f2; have y6 := bz.out.z))))
            (try go_wp2_with fail)
            refine hK.out _ _ ?_ (fun hHeld13 => ?_)
            · (try dsimp only)
              (first | exact HNB.out.next (Below.refl _ _).drew | (with_reducible assumption) | (refine NB.next (by with_reducible assumption) (by with_reducible assumption)) | (refine NB.next HNB.out ?_; (repeat' (first | with_reducible (first | exact Below.refl _ _ | refine Below.drew ?_ | refine below_drewN ?_ _ | refine Below.alloc ?_ ?_ _ | refine Below.setCell ?_ ?_ _ | exact Nat.le_refl _) | (simp; done) | (refine Nat.le_trans ?_ (Below.size (by with_reducible assumption)); simp; done))); done) | (refine NB.next (NB.next (by with_reducible assumption) (by with_reducible assumption)) ?_; (repeat' (first | with_reducible (first | exact Below.refl _ _ | refine Below.drew ?_ | refine below_drewN ?_ _ | refine Below.alloc ?_ ?_ _ | refine Below.setCell ?_ ?_ _ | exact Nat.le_refl _) | (simp; done) | (refine Nat.le_trans ?_ (Below.size (by with_reducible assumption)); simp; done))); done) | (refine NB.next (by with_reducible assumption) ?_; (repeat' (first | with_reducible (first | exact Below.refl _ _ | refine Below.drew ?_ | refine below_drewN ?_ _ | refine Below.alloc ?_ ?_ _ | refine Below.setCell ?_ ?_ _ | exact Nat.le_refl _) | (simp; done) | (refine Nat.le_trans ?_ (Below.size (by with_reducible assumption)); simp; done))); done) | (refine NB.next HNB.out ?_; (repeat' (first | with_reducible (first | exact Below.refl _ _ | refine Below.drew ?_ | refine below_drewN ?_ _ | refine Below.alloc ?_ ?_ _ | refine Below.setCell ?_ ?_ _) | (refine Below.trans ?_ (Below.mono (by with_reducible assumption) ?_)) | with_reducible exact Nat.le_refl _ | (simp; done) | (refine Nat.le_trans ?_ (Below.size (by with_reducible assumption)); simp; done))); done))
            clear hK K hHeld
            try simp only [Act.put, List.setIfInBounds_toArray, List.set_cons_zero, List.set_cons_succ]
            refine h4_b [11, 12, 13, 14] ?_
            (repeat (refine h4_p rfl (by kernel_rfl) (fun _ _ _ h => h) (by rfl) hHeld13 (by intro wS hSw; obtain ⟨k0, hRd, _, _, hXd⟩ := hSw; have k1 := (RdrS.sub hRd).choose_spec.choose_spec.2.1; have kz := RdrS.lt hRd; go_simp; (try with_reducible rfl)) ?_; (try simp only [Act.put, List.setIfInBounds_toArray, List.set_cons_zero, List.set_cons_succ])))
            refine h4_e ?_
            refine wpAnyH_ready (rs := [15]) (by kernel_rfl) (by simp) ?_
            refine (h4_cons rfl (fun K hK => ?_) AllReadyH.nil)
            go_simp
            refine hK.out _ _ ?_ (fun hHeld14 => ?_)
            · (try dsimp only)
              (first | exact HNB.out.next (Below.refl _ _).drew | (with_reducible assumption) | (refine NB.next (by with_reducible assumption) (by with_reducible assumption)) | (refine NB.next HNB.out ?_; (repeat' (first | with_reducible (first | exact Below.refl _ _ | refine Below.drew ?_ | refine below_drewN ?_ _ | refine Below.alloc ?_ ?_ _ | refine Below.setCell ?_ ?_ _ | exact Nat.le_refl _) | (simp; done) | (refine Nat.le_trans ?_ (Below.size (by with_reducible assumption)); simp; done))); done) | (refine NB.next (NB.next (by with_reducible assumption) (by with_reducible assumption)) ?_; (repeat' (first | with_reducible (first | exact Below.refl _ _ | refine Below.drew ?_ | refine below_drewN ?_ _ | refine Below.alloc ?_ ?_ _ | refine Below.setCell ?_ ?_ _ | exact Nat.le_refl _) | (simp; done) | (refine Nat.le_trans ?_ (Below.size (by with_reducible assumption)); simp; done))); done) | (refine NB.next (by with_reducible assumption) ?_; (repeat' (first | with_reducible (first | exact Below.refl _ _ | refine Below.drew ?_ | refine below_drewN ?_ _ | refine Below.alloc ?_ ?_ _ | refine Below.setCell ?_ ?_ _ | exact Nat.le_refl _) | (simp; done) | (refine Nat.le_trans ?_ (Below.size (by with_reducible assumption)); simp; done))); done) | (refine NB.next HNB.out ?_; (repeat' (first | with_reducible (first | exact Below.refl _ _ | refine Below.drew ?_ | refine below_drewN ?_ _ | refine Below.alloc ?_ ?_ _ | refine Below.setCell ?_ ?_ _) | (refine Below.trans ?_ (Below.mono (by with_reducible assumption) ?_)) | with_reducible exact Nat.le_refl _ | (simp; done) | (refine Nat.le_trans ?_ (Below.size (by with_reducible assumption)); simp; done))); done))
            clear hK K hHeld13
            try simp only [Act.put, List.setIfInBounds_toArray, List.set_cons_zero, List.set_cons_succ]
            refine wpAnyH_ready (rs := [16]) (by kernel_rfl) (by simp) ?_
            refine (h4_cons rfl (fun K hK => ?_) AllReadyH.nil)
            go_simp
            refine hK.out _ _ ?_ (fun hHeld15 => ?_)
            · (try dsimp only)
              (first | exact HNB.out.next (Below.refl _ _).drew | (with_reducible assumption) | (refine NB.next (by with_reducible assumption) (by with_reducible assumption)) | (refine NB.next HNB.out ?_; (repeat' (first | with_reducible (first | exact Below.refl _ _ | refine Below.drew ?_ | refine below_drewN ?_ _ | refine Below.alloc ?_ ?_ _ | refine Below.setCell ?_ ?_ _ | exact Nat.le_refl _) | (simp; done) | (refine Nat.le_trans ?_ (Below.size (by with_reducible assumption)); simp; done))); done) | (refine NB.next (NB.next (by with_reducible assumption) (by with_reducible assumption)) ?_; (repeat' (first | with_reducible (first | exact Below.refl _ _ | refine Below.drew ?_ | refine below_drewN ?_ _ | refine Below.alloc ?_ ?_ _ | refine Below.setCell ?_ ?_ _ | exact Nat.le_refl _) | (simp; done) | (refine Nat.le_trans ?_ (Below.size (by with_reducible assumption)); simp; done))); done) | (refine NB.next (by with_reducible assumption) ?_; (repeat' (first | with_reducible (first | exact Below.refl _ _ | refine Below.drew ?_ | refine below_drewN ?_ _ | refine Below.alloc ?_ ?_ _ | refine Below.setCell ?_ ?_ _ | exact Nat.le_refl _) | (simp; done) | (refine Nat.le_trans ?_ (Below.size (by with_reducible assumption)); simp; done))); done) | (refine NB.next HNB.out ?_; (repeat' (first | with_reducible (first | exact Below.refl _ _ | refine Below.drew ?_ | refine below_drewN ?_ _ | refine Below.alloc ?_ ?_ _ | refine Below.setCell ?_ ?_ _) | (refine Below.trans ?_ (Below.mono (by with_reducible assumption) ?_)) | with_reducible exact Nat.le_refl _ | (simp; done) | (refine Nat.le_trans ?_ (Below.size (by with_reducible assumption)); simp; done))); done))
            clear hK K hHeld14
            try simp only [Act.put, List.setIfInBounds_toArray, List.set_cons_zero, List.set_cons_succ]
            refine h4_b [17, 18] ?_
            (repeat (refine h4_p rfl (by kernel_rfl) (fun _ _ _ h => h) (by rfl) hHeld15 (by intro wS hSw; obtain ⟨k0, hRd, _, _, hXd⟩ := hSw; have k1 := (RdrS.sub hRd).choose_spec.choose_spec.2.1; have kz := RdrS.lt hRd; go_simp; (try with_reducible rfl)) ?_; (try simp only [Act.put, List.setIfInBounds_toArray, List.set_cons_zero, List.set_cons_succ])))
            refine h4_e ?_
            refine wpAnyH_done (by kernel_rfl) ?_ _
            have HNF := Lib.hid ‹NB g src q a V A5 c5 w _›
            clear HNB HPF
            obtain ⟨x0, x1, x2, x3, x4, x5, f0, f1, f2, f3, f4, f5, xz⟩ := HNF.out.x
            go_wp2_with (first
              | (go_at_call 11; (with_reducible refine (lfault_any a 2 _).mono ?_); rintro e w6 ⟨⟨v, rfl, hv⟩, b6⟩; clear x0 x1 x2 x3 x4 x5 f0 f1 f2 f3 f4 f5; have HX6 := Lib.hid (HNF.out.x.below b6); obtain ⟨x0, x1, x2, x3, x4, x5, f0, f1, f2, f3, f4, f5, _⟩ := HX6.out; have HV := Lib.hid hv; have HU6 := Lib.hid (HNF.out.u.next b6); clear hv b6)
              | fail)
            (try simp only [Exit.inBlock, Exit.then]); refine bodyPost_ret (by simp [results, Tryz.results21, go_sem, *]; try rfl) rfl ?_
            exact .inl ⟨HOV.out.1, HOV.out.2, ⟨_, rfl, ((((((HV.out.far HNF.out.x.z _ _).far HNF.out.x.z _ _).far HNF.out.x.z _ _).far HNF.out.x.z _ _).far HNF.out.x.z _ _).far HNF.out.x.z _ _).mono (Nat.le_of_lt HNF.out.x.z)⟩, (((((HU6.out.fresh (Nat.le_refl _) _ _).fresh (Nat.le_refl _) _ _).fresh (Nat.le_refl _) _ _).fresh (Nat.le_refl _) _ _).fresh (Nat.le_refl _) _ _).fresh (Nat.le_refl _) _ _⟩
          · go_simp
            refine hK.out _ _ ?_ (fun hHeld16 => ?_)
            · (try dsimp only)
              (first | exact HNB.out.next (Below.refl _ _).drew | (with_reducible assumption) | (refine NB.next (by with_reducible assumption) (by with_reducible assumption)) | (refine NB.next HNB.out ?_; (repeat' (first | with_reducible (first | exact Below.refl _ _ | refine Below.drew ?_ | refine below_drewN ?_ _ | refine Below.alloc ?_ ?_ _ | refine Below.setCell ?_ ?_ _ | exact Nat.le_refl _) | (simp; done) | (refine Nat.le_trans ?_ (Below.size (by with_reducible assumption)); simp; done))); done) | (refine NB.next (NB.next (by with_reducible assumption) (by with_reducible assumption)) ?_; (repeat' (first | with_reducible (first | exact Below.refl _ _ | refine Below.drew ?_ | refine below_drewN ?_ _ | refine Below.alloc ?_ ?_ _ | refine Below.setCell ?_ ?_ _ | exact Nat.le_refl _) | (simp; done) | (refine Nat.le_trans ?_ (Below.size (by with_reducible assumption)); simp; done))); done) | (refine NB.next (by with_reducible assumption) ?_; (repeat' (first | with_reducible (first | exact Below.refl _ _ | refine Below.drew ?_ | refine below_drewN ?_ _ | refine Below.alloc ?_ ?_ _ | refine Below.setCell ?_ ?_ _ | exact Nat.le_refl _) | (simp; done) | (refine Nat.le_trans ?_ (Below.size (by with_reducible assumption)); simp; done))); done) | (refine NB.next HNB.out ?_; (repeat' (first | with_reducible (first | exact Below.refl _ _ | refine Below.drew ?_ | refine below_drewN ?_ _ | refine Below.alloc ?_ ?_ _ | refine Below.setCell ?_ ?_ _) | (refine Below.trans ?_ (Below.mono (by with_reducible assumption) ?_)) | with_reducible exact Nat.le_refl _ | (simp; done) | (refine Nat.le_trans ?_ (Below.size (by with_reducible assumption)); simp; done))); done))
            clear hK K hHeld
            try simp only [Act.put, List.setIfInBounds_toArray, List.set_cons_zero, List.set_cons_succ]
            refine wpAnyH_ready (rs := [10]) (by kernel_rfl) (by simp) ?_
            refine (h4_cons rfl (fun K hK => ?_) AllReadyH.nil)
            go_simp
            ((go_at_call 34; (with_reducible refine (HPF.out _ (by with_reducible assumption)).mono ?_); rintro e w5 ⟨⟨kk, rfl⟩, b5⟩; (try (have bz := Lib.hid (Box3.below (by first | exact Box3.make _ _ _ _ _ rfl | exact (Box3.make _ _ _ _ _ rfl).drew) b5); have y0 := bz.out.c0; have y1 := bz.out.c1; have y2 := bz.out.c2; have y3 := bz.out.f0; have y4 := bz.out.f1; have y5 := bz.out.f2; have y6 := bz.out.z))))
            (try go_wp2_with fail)
            refine hK.out _ _ ?_ (fun hHeld17 => ?_)
            · (try dsimp only)
              (first | exact HNB.out.next (Below.refl _ _).drew | (with_reducible assumption) | (refine NB.next (by with_reducible assumption) (by with_reducible assumption)) | (refine NB.next HNB.out ?_; (repeat' (first | with_reducible (first | exact Below.refl _ _ | refine Below.drew ?_ | refine below_drewN ?_ _ | refine Below.alloc ?_ ?_ _ | refine Below.setCell ?_ ?_ _ | exact Nat.le_refl _) | (simp; done) | (refine Nat.le_trans ?_ (Below.size (by with_reducible assumption)); simp; done))); done) | (refine NB.next (NB.next (by with_reducible assumption) (by with_reducible assumption)) ?_; (repeat' (first | with_reducible (first | exact Below.refl _ _ | refine Below.drew ?_ | refine below_drewN ?_ _ | refine Below.alloc ?_ ?_ _ | refine Below.setCell ?_ ?_ _ | exact Nat.le_refl _) | (simp; done) | (refine Nat.le_trans ?_ (Below.size (by with_reducible assumption)); simp; done))); done) | (refine NB.next (by with_reducible assumption) ?_; (repeat' (first | with_reducible (first | exact Below.refl _ _ | refine Below.drew ?_ | refine below_drewN ?_ _ | refine Below.alloc ?_ ?_ _ | refine Below.setCell ?_ ?_ _ | exact Nat.le_refl _) | (simp; done) | (refine Nat.le_trans ?_ (Below.size (by with_reducible assumption)); simp; done))); done) | (refine NB.next HNB.out ?_; (repeat' (first | with_reducible (first | exact Below.refl _ _ | refine Below.drew ?_ | refine below_drewN ?_ _ | refine Below.alloc ?_ ?_ _ | refine Below.setCell ?_ ?_ _) | (refine Below.trans ?_ (Below.mono (by with_reducible assumption) ?_)) | with_reducible exact Nat.le_refl _ | (simp; done) | (refine Nat.le_trans ?_ (Below.size (by with_reducible assumption)); simp; done))); done))
            clear hK K hHeld16
            try simp only [Act.put, List.setIfInBounds_toArray, List.set_cons_zero, List.set_cons_succ]
            refine h4_b [11, 12, 13, 14] ?_
            (repeat (refine h4_p rfl (by kernel_rfl) (fun _ _ _ h => h) (by rfl) hHeld17 (by intro wS hSw; obtain ⟨k0, hRd, _, _, hXd⟩ := hSw; have k1 := (RdrS.sub hRd).choose_spec.choose_spec.2.1; have kz := RdrS.lt hRd; go_simp; (try with_reducible rfl)) ?_; (try simp only [Act.put, List.setIfInBounds_toArray, List.set_cons_zero, List.set_cons_succ])))
            refine h4_e ?_
            refine wpAnyH_ready (rs := [16]) (by kernel_rfl) (by simp) ?_
            refine (h4_cons rfl (fun K hK => ?_) AllReadyH.nil)
            go_simp
            refine hK.out _ _ ?_ (fun hHeld18 => ?_)
            · (try dsimp only)
              (first | exact HNB.out.next (Below.refl _ _).drew | (with_reducible assumption) | (refine NB.next (by with_reducible assumption) (by with_reducible assumption)) | (refine NB.next HNB.out ?_; (repeat' (first | with_reducible (first | exact Below.refl _ _ | refine Below.drew ?_ | refine below_drewN ?_ _ | refine Below.alloc ?_ ?_ _ | refine Below.setCell ?_ ?_ _ | exact Nat.le_refl _) | (simp; done) | (refine Nat.le_trans ?_ (Below.size (by with_reducible assumption)); simp; done))); done) | (refine NB.next (NB.next (by with_reducible assumption) (by with_reducible assumption)) ?_; (repeat' (first | with_reducible (first | exact Below.refl _ _ | refine Below.drew ?_ | refine below_drewN ?_ _ | refine Below.alloc ?_ ?_ _ | refine Below.setCell ?_ ?_ _ | exact Nat.le_refl _) | (simp; done) | (refine Nat.le_trans ?_ (Below.size (by with_reducible assumption)); simp; done))); done) | (refine NB.next (by with_reducible assumption) ?_; (repeat' (first | with_reducible (first | exact Below.refl _ _ | refine Below.drew ?_ | refine below_drewN ?_ _ | refine Below.alloc ?_ ?_ _ | refine Below.setCell ?_ ?_ _ | exact Nat.le_refl _) | (simp; done) | (refine Nat.le_trans ?_ (Below.size (by with_reducible assumption)); simp; done))); done) | (refine NB.next HNB.out ?_; (repeat' (first | with_reducible (first | exact Below.refl _ _ | refine Below.drew ?_ | refine below_drewN ?_ _ | refine Below.alloc ?_ ?_ _ | refine Below.setCell ?_ ?_ _) | (refine Below.trans ?_ (Below.mono (by with_reducible assumption) ?_)) | with_reducible exact Nat.le_refl _ | (simp; done) | (refine Nat.le_trans ?_ (Below.size (by with_reducible assumption)); simp; done))); done))
            clear hK K hHeld17
            try simp only [Act.put, List.setIfInBounds_toArray, List.set_cons_zero, List.set_cons_succ]
            refine h4_b [17, 18] ?_
            (repeat (refine h4_p rfl (by kernel_rfl) (fun _ _ _ h => h) (by rfl) hHeld18 (by intro wS hSw; obtain ⟨k0, hRd, _, _, hXd⟩ := hSw; have k1 := (RdrS.sub hRd).choose_spec.choose_spec.2.1; have kz := RdrS.lt hRd; go_simp; (try with_reducible rfl)) ?_; (try simp only [Act.put, List.setIfInBounds_toArray, List.set_cons_zero, List.set_cons_succ])))
            refine h4_e ?_
            refine wpAnyH_done (by kernel_rfl) ?_ _
            have HNF := Lib.hid ‹NB g src q a V A5 c5 w _›
            clear HNB HPF
            obtain ⟨x0, x1, x2, x3, x4, x5, f0, f1, f2, f3, f4, f5, xz⟩ := HNF.out.x
            go_wp2_with (first
              | (go_at_call 11; (with_reducible refine (lfault_any a 2 _).mono ?_); rintro e w6 ⟨⟨v, rfl, hv⟩, b6⟩; clear x0 x1 x2 x3 x4 x5 f0 f1 f2 f3 f4 f5; have HX6 := Lib.hid (HNF.out.x.below b6); obtain ⟨x0, x1, x2, x3, x4, x5, f0, f1, f2, f3, f4, f5, _⟩ := HX6.out; have HV := Lib.hid hv; have HU6 := Lib.hid (HNF.out.u.next b6); clear hv b6)
              | fail)
            (try simp only [Exit.inBlock, Exit.then]); refine bodyPost_ret (by simp [results, Tryz.results21, go_sem, *]; try rfl) rfl ?_
            exact .inl ⟨HOV.out.1, HOV.out.2, ⟨_, rfl, ((((((HV.out.far HNF.out.x.z _ _).far HNF.out.x.z _ _).far HNF.out.x.z _ _).far HNF.out.x.z _ _).far HNF.out.x.z _ _).far HNF.out.x.z _ _).mono (Nat.le_of_lt HNF.out.x.z)⟩, (((((HU6.out.fresh (Nat.le_refl _) _ _).fresh (Nat.le_refl _) _ _).fresh (Nat.le_refl _) _ _).fresh (Nat.le_refl _) _ _).fresh (Nat.le_refl _) _ _).fresh (Nat.le_refl _) _ _⟩
        · have HPF := Lib.hid (fun (W : World) (h : NB g src q a V A5 c5 w W) => (prefix_t (cutA A5 c5 a) (c5 - a) (q - a) ((src.drop a).take (q - a)) W g HTL.out (Nat.le_of_lt h.r.lt) h.rb (by omega) (by have := h.r.len; omega)).mono fun e w' p => show (∃ k, e = .returned (.tuple #[.agg #[.bool (zn (numZ ((src.drop a).take (q - a)))), .int .u64 (zh (numZ ((src.drop a).take (q - a)))), .int .u64 (zl (numZ ((src.drop a).take (q - a))))], .int .i64 k, .nilIface])) ∧ Below W.heap.size W w' from ⟨by
              rcases p.1 with ⟨h1, h2, k, he⟩ | ⟨h1, k, he⟩
              · exact absurd ⟨h1, h2⟩ hov
              · exact ⟨k, he⟩, p.2⟩)
          have HOV := Lib.hid hov
          generalize (src.drop a).take (q - a) = T at *
          clear hov
          refine wp_region_held_drew (S := (fun w' => NB g src q a V A5 c5 w w')) (by kernel_rfl) ?_ (fun hHeld => ?_)
          · (try dsimp only)
            (first | exact HNB.out.next (Below.refl _ _).drew | (with_reducible assumption) | (refine NB.next (by with_reducible assumption) (by with_reducible assumption)) | (refine NB.next HNB.out ?_; (repeat' (first | with_reducible (first | exact Below.refl _ _ | refine Below.drew ?_ | refine below_drewN ?_ _ | refine Below.alloc ?_ ?_ _ | refine Below.setCell ?_ ?_ _ | exact Nat.le_refl _) | (simp; done) | (refine Nat.le_trans ?_ (Below.size (by with_reducible assumption)); simp; done))); done) | (refine NB.next (NB.next (by with_reducible assumption) (by with_reducible assumption)) ?_; (repeat' (first | with_reducible (first | exact Below.refl _ _ | refine Below.drew ?_ | refine below_drewN ?_ _ | refine Below.alloc ?_ ?_ _ | refine Below.setCell ?_ ?_ _ | exact Nat.le_refl _) | (simp; done) | (refine Nat.le_trans ?_ (Below.size (by with_reducible assumption)); simp; done))); done) | (refine NB.next (by with_reducible assumption) ?_; (repeat' (first | with_reducible (first | exact Below.refl _ _ | refine Below.drew ?_ | refine below_drewN ?_ _ | refine Below.alloc ?_ ?_ _ | refine Below.setCell ?_ ?_ _ | exact Nat.le_refl _) | (simp; done) | (refine Nat.le_trans ?_ (Below.size (by with_reducible assumption)); simp; done))); done) | (refine NB.next HNB.out ?_; (repeat' (first | with_reducible (first | exact Below.refl _ _ | refine Below.drew ?_ | refine below_drewN ?_ _ | refine Below.alloc ?_ ?_ _ | refine Below.setCell ?_ ?_ _) | (refine Below.trans ?_ (Below.mono (by with_reducible assumption) ?_)) | with_reducible exact Nat.le_refl _ | (simp; done) | (refine Nat.le_trans ?_ (Below.size (by with_reducible assumption)); simp; done))); done))
          refine h4_b [0, 1, 2, 3, 4, 5, 6, 7, 8, 9] ?_
          (repeat (refine h4_p rfl (by kernel_rfl) (fun _ _ _ h => h) (by rfl) hHeld (by intro wS hSw; obtain ⟨k0, hRd, _, _, hXd⟩ := hSw; have k1 := (RdrS.sub hRd).choose_spec.choose_spec.2.1; have kz := RdrS.lt hRd; go_simp; (try with_reducible rfl)) ?_; (try simp only [Act.put, List.setIfInBounds_toArray, List.set_cons_zero, List.set_cons_succ])))
          refine h4_e ?_
          refine wpAnyH_ready (rs := [10, 15]) (by kernel_rfl) (by simp) ?_
          refine (h4_cons rfl (fun K hK => ?_) (h4_cons rfl (fun K hK => ?_) AllReadyH.nil))
          · go_simp
            ((go_at_call 34; (with_reducible refine (HPF.out _ (by with_reducible assumption)).mono ?_); rintro e w5 ⟨⟨kk, rfl⟩, b5⟩; (try (have bz := Lib.hid (Box3.below (by first | exact Box3.make _ _ _ _ _ rfl | exact (Box3.make _ _ _ _ _ rfl).drew) b5); have y0 := bz.out.c0; have y1 := bz.out.c1; have y2 := bz.out.c2; have y3 := bz.out.f0; have y4 := bz.out.f1; have y5 := bz.out.f2; have y6 := bz.out.z))))
            (try go_wp2_with fail)
            refine hK.out _ _ ?_ (fun hHeld19 => ?_)
            · (try dsimp only)
              (first | exact HNB.out.next (Below.refl _ _).drew | (with_reducible assumption) | (refine NB.next (by with_reducible assumption) (by with_reducible assumption)) | (refine NB.next HNB.out ?_; (repeat' (first | with_reducible (first | exact Below.refl _ _ | refine Below.drew ?_ | refine below_drewN ?_ _ | refine Below.alloc ?_ ?_ _ | refine Below.setCell ?_ ?_ _ | exact Nat.le_refl _) | (simp; done) | (refine Nat.le_trans ?_ (Below.size (by with_reducible assumption)); simp; done))); done) | (refine NB.next (NB.next (by with_reducible assumption) (by with_reducible assumption)) ?_; (repeat' (first | with_reducible (first | exact Below.refl _ _ | refine Below.drew ?_ | refine below_drewN ?_ _ | refine Below.alloc ?_ ?_ _ | refine Below.setCell ?_ ?_ _ | exact Nat.le_refl _) | (simp; done) | (refine Nat.le_trans ?_ (Below.size (by with_reducible assumption)); simp; done))); done) | (refine NB.next (by with_reducible assumption) ?_; (repeat' (first | with_reducible (first | exact Below.refl _ _ | refine Below.drew ?_ | refine below_drewN ?_ _ | refine Below.alloc ?_ ?_ _ | refine Below.setCell ?_ ?_ _ | exact Nat.le_refl _) | (simp; done) | (refine Nat.le_trans ?_ (Below.size (by with_reducible assumption)); simp; done))); done) | (refine NB.next HNB.out ?_; (repeat' (first | with_reducible (first | exact Below.refl _ _ | refine Below.drew ?_ | refine below_drewN ?_ _ | refine Below.alloc ?_ ?_ _ | refine Below.setCell ?_ ?_ _) | (refine Below.trans ?_ (Below.mono (by with_reducible assumption) ?_)) | with_reducible exact Nat.le_refl _ | (simp; done) | (refine Nat.le_trans ?_ (Below.size (by with_reducible assumption)); simp; done))); done))
            clear hK K hHeld
            try simp only [Act.put, List.setIfInBounds_toArray, List.set_cons_zero, List.set_cons_succ]
            refine h4_b [11, 12, 13, 14] ?_
            (repeat (refine h4_p rfl (by kernel_rfl) (fun _ _ _ h => h) (by rfl) hHeld19 (by intro wS hSw; obtain ⟨k0, hRd, _, _, hXd⟩ := hSw; have k1 := (RdrS.sub hRd).choose_spec.choose_spec.2.1; have kz := RdrS.lt hRd; go_simp; (try with_reducible rfl)) ?_; (try simp only [Act.put, List.setIfInBounds_toArray, List.set_cons_zero, List.set_cons_succ])))
            refine h4_e ?_
            refine wpAnyH_ready (rs := [15]) (by kernel_rfl) (by simp) ?_
            refine (h4_cons rfl (fun K hK => ?_) AllReadyH.nil)
            go_simp
            refine hK.out _ _ ?_ (fun hHeld20 => ?_)
            · (try dsimp only)
              (first | exact HNB.out.next (Below.refl _ _).drew | (with_reducible assumption) | (refine NB.next (by with_reducible assumption) (by with_reducible assumption)) | (refine NB.next HNB.out ?_; (repeat' (first | with_reducible (first | exact Below.refl _ _ | refine Below.drew ?_ | refine below_drewN ?_ _ | refine Below.alloc ?_ ?_ _ | refine Below.setCell ?_ ?_ _ | exact Nat.le_refl _) | (simp; done) | (refine Nat.le_trans ?_ (Below.size (by with_reducible assumption)); simp; done))); done) | (refine NB.next (NB.next (by with_reducible assumption) (by with_reducible assumption)) ?_; (repeat' (first | with_reducible (first | exact Below.refl _ _ | refine Below.drew ?_ | refine below_drewN ?_ _ | refine Below.alloc ?_ ?_ _ | refine Below.setCell ?_ ?_ _ | exact Nat.le_refl _) | (simp; done) | (refine Nat.le_trans ?_ (Below.size (by with_reducible assumption)); simp; done))); done) | (refine NB.next (by with_reducible assumption) ?_; (repeat' (first | with_reducible (first | exact Below.refl _ _ | refine Below.drew ?_ | refine below_drewN ?_ _ | refine Below.alloc ?_ ?_ _ | refine Below.setCell ?_ ?_ _ | exact Nat.le_refl _) | (simp; done) | (refine Nat.le_trans ?_ (Below.size (by with_reducible assumption)); simp; done))); done) | (refine NB.next HNB.out ?_; (repeat' (first | with_reducible (first | exact Below.refl _ _ | refine Below.drew ?_ | refine below_drewN ?_ _ | refine Below.alloc ?_ ?_ _ | refine Below.setCell ?_ ?_ _) | (refine Below.trans ?_ (Below.mono (by with_reducible assumption) ?_)) | with_reducible exact Nat.le_refl _ | (simp; done) | (refine Nat.le_trans ?_ (Below.size (by with_reducible assumption)); simp; done))); done))
            clear hK K hHeld19
            try simp only [Act.put, List.setIfInBounds_toArray, List.set_cons_zero, List.set_cons_succ]
            refine wpAnyH_ready (rs := [16]) (by kernel_rfl) (by simp) ?_
            refine (h4_cons rfl (fun K hK => ?_) AllReadyH.nil)
            go_simp
            refine hK.out _ _ ?_ (fun hHeld21 => ?_)
            · (try dsimp only)
              (first | exact HNB.out.next (Below.refl _ _).drew | (with_reducible assumption) | (refine NB.next (by with_reducible assumption) (by with_reducible assumption)) | (refine NB.next HNB.out ?_; (repeat' (first | with_reducible (first | exact Below.refl _ _ | refine Below.drew ?_ | refine below_drewN ?_ _ | refine Below.alloc ?_ ?_ _ | refine Below.setCell ?_ ?_ _ | exact Nat.le_refl _) | (simp; done) | (refine Nat.le_trans ?_ (Below.size (by with_reducible assumption)); simp; done))); done) | (refine NB.next (NB.next (by with_reducible assumption) (by with_reducible assumption)) ?_; (repeat' (first | with_reducible (first | exact Below.refl _ _ | refine Below.drew ?_ | refine below_drewN ?_ _ | refine Below.alloc ?_ ?_ _ | refine Below.setCell ?_ ?_ _ | exact Nat.le_refl _) | (simp; done) | (refine Nat.le_trans ?_ (Below.size (by with_reducible assumption)); simp; done))); done) | (refine NB.next (by with_reducible assumption) ?_; (repeat' (first | with_reducible (first | exact Below.refl _ _ | refine Below.drew ?_ | refine below_drewN ?_ _ | refine Below.alloc ?_ ?_ _ | refine Below.setCell ?_ ?_ _ | exact Nat.le_refl _) | (simp; done) | (refine Nat.le_trans ?_ (Below.size (by with_reducible assumption)); simp; done))); done) | (refine NB.next HNB.out ?_; (repeat' (first | with_reducible (first | exact Below.refl _ _ | refine Below.drew ?_ | refine below_drewN ?_ _ | refine Below.alloc ?_ ?_ _ | refine Below.setCell ?_ ?_ _) | (refine Below.trans ?_ (Below.mono (by with_reducible assumption) ?_)) | with_reducible exact Nat.le_refl _ | (simp; done) | (refine Nat.le_trans ?_ (Below.size (by with_reducible assumption)); simp; done))); done))
            clear hK K hHeld20
            try simp only [Act.put, List.setIfInBounds_toArray, List.set_cons_zero, List.set_cons_succ]
            refine h4_b [17, 18] ?_
            (repeat (refine h4_p rfl (by kernel_rfl) (fun _ _ _ h => h) (by rfl) hHeld21 (by intro wS hSw; obtain ⟨k0, hRd, _, _, hXd⟩ := hSw; have k1 := (RdrS.sub hRd).choose_spec.choose_spec.2.1; have kz := RdrS.lt hRd; go_simp; (try with_reducible rfl)) ?_; (try simp only [Act.put, List.setIfInBounds_toArray, List.set_cons_zero, List.set_cons_succ])))
            refine h4_e ?_
            refine wpAnyH_done (by kernel_rfl) ?_ _
            have HNF := Lib.hid ‹NB g src q a V A5 c5 w _›
            clear HNB HPF
            obtain ⟨x0, x1, x2, x3, x4, x5, f0, f1, f2, f3, f4, f5, xz⟩ := HNF.out.x
            go_wp2_with fail
            (try simp only [Exit.inBlock, Exit.then]); refine bodyPost_ret (by simp [results, Tryz.results21, go_sem, *]; try rfl) rfl ?_
            refine .inr ⟨HOV.out, rfl, ?_, (((((HNF.out.u.fresh (Nat.le_refl _) _ _).fresh (Nat.le_refl _) _ _).fresh (Nat.le_refl _) _ _).fresh (Nat.le_refl _) _ _).fresh (Nat.le_refl _) _ _).fresh (Nat.le_refl _) _ _⟩
            have hTe : a + T.length = q := by rw [HTL.out]; exact Nat.add_sub_cancel' haq
            rw [hTe]
            exact (((((HNF.out.r.far hgw _ _).far hgw _ _).far hgw _ _).far hgw _ _).far hgw _ _).far hgw _ _
          · go_simp
            refine hK.out _ _ ?_ (fun hHeld22 => ?_)
            · (try dsimp only)
              (first | exact HNB.out.next (Below.refl _ _).drew | (with_reducible assumption) | (refine NB.next (by with_reducible assumption) (by with_reducible assumption)) | (refine NB.next HNB.out ?_; (repeat' (first | with_reducible (first | exact Below.refl _ _ | refine Below.drew ?_ | refine below_drewN ?_ _ | refine Below.alloc ?_ ?_ _ | refine Below.setCell ?_ ?_ _ | exact Nat.le_refl _) | (simp; done) | (refine Nat.le_trans ?_ (Below.size (by with_reducible assumption)); simp; done))); done) | (refine NB.next (NB.next (by with_reducible assumption) (by with_reducible assumption)) ?_; (repeat' (first | with_reducible (first | exact Below.refl _ _ | refine Below.drew ?_ | refine below_drewN ?_ _ | refine Below.alloc ?_ ?_ _ | refine Below.setCell ?_ ?_ _ | exact Nat.le_refl _) | (simp; done) | (refine Nat.le_trans ?_ (Below.size (by with_reducible assumption)); simp; done))); done) | (refine NB.next (by with_reducible assumption) ?_; (repeat' (first | with_reducible (first | exact Below.refl _ _ | refine Below.drew ?_ | refine below_drewN ?_ _ | refine Below.alloc ?_ ?_ _ | refine Below.setCell ?_ ?_ _ | exact Nat.le_refl _) | (simp; done) | (refine Nat.le_trans ?_ (Below.size (by with_reducible assumption)); simp; done))); done) | (refine NB.next HNB.out ?_; (repeat' (first | with_reducible (first | exact Below.refl _ _ | refine Below.drew ?_ | refine below_drewN ?_ _ | refine Below.alloc ?_ ?_ _ | refine Below.setCell ?_ ?_ _) | (refine Below.trans ?_ (Below.mono (by with_reducible assumption) ?_)) | with_reducible exact Nat.le_refl _ | (simp; done) | (refine Nat.le_trans ?_ (Below.size (by with_reducible assumption)); simp; done))); done))
            clear hK K hHeld
            try simp only [Act.put, List.setIfInBounds_toArray, List.set_cons_zero, List.set_cons_succ]
            refine wpAnyH_ready (rs := [10]) (by kernel_rfl) (by simp) ?_
            refine (h4_cons rfl (fun K hK => ?_) AllReadyH.nil)
            go_simp
            ((go_at_call 34; (with_reducible refine (HPF.out _ (by with_reducible assumption)).mono ?_); rintro e w5 ⟨⟨kk, rfl⟩, b5⟩; (try (have bz := Lib.hid (Box3.below (by first | exact Box3.make _ _ _ _ _ rfl | exact (Box3.make _ _ _ _ _ rfl).drew) b5); have y0 := bz.out.c0; have y1 := bz.out.c1; have y2 := bz.out.c2; have y3 := bz.out.f0; have y4 := bz.out.f1; have y5 := bz.out.f2; have y6 := bz.out.z))))
            (try go_wp2_with fail)
            refine hK.out _ _ ?_ (fun hHeld23 => ?_)
            · (try dsimp only)
              (first | exact HNB.out.next (Below.refl _ _).drew | (with_reducible assumption) | (refine NB.next (by with_reducible assumption) (by with_reducible assumption)) | (refine NB.next HNB.out ?_; (repeat' (first | with_reducible (first | exact Below.refl _ _ | refine Below.drew ?_ | refine below_drewN ?_ _ | refine Below.alloc ?_ ?_ _ | refine Below.setCell ?_ ?_ _ | exact Nat.le_refl _) | (simp; done) | (refine Nat.le_trans ?_ (Below.size (by with_reducible assumption)); simp; done))); done) | (refine NB.next (NB.next (by with_reducible assumption) (by with_reducible assumption)) ?_; (repeat' (first | with_reducible (first | exact Below.refl _ _ | refine Below.drew ?_ | refine below_drewN ?_ _ | refine Below.alloc ?_ ?_ _ | refine Below.setCell ?_ ?_ _ | exact Nat.le_refl _) | (simp; done) | (refine Nat.le_trans ?_ (Below.size (by with_reducible assumption)); simp; done))); done) | (refine NB.next (by with_reducible assumption) ?_; (repeat' (first | with_reducible (first | exact Below.refl _ _ | refine Below.drew ?_ | refine below_drewN ?_ _ | refine Below.alloc ?_ ?_ _ | refine Below.setCell ?_ ?_ _ | exact Nat.le_refl _) | (simp; done) | (refine Nat.le_trans ?_ (Below.size (by with_reducible assumption)); simp; done))); done) | (refine NB.next HNB.out ?_; (repeat' (first | with_reducible (first | exact Below.refl _ _ | refine Below.drew ?_ | refine below_drewN ?_ _ | refine Below.alloc ?_ ?_ _ | refine Below.setCell ?_ ?_ _) | (refine Below.trans ?_ (Below.mono (by with_reducible assumption) ?_)) | with_reducible exact Nat.le_refl _ | (simp; done) | (refine Nat.le_trans ?_ (Below.size (by with_reducible assumption)); simp; done))); done))
            clear hK K hHeld22
            try simp only [Act.put, List.setIfInBounds_toArray, List.set_cons_zero, List.set_cons_succ]
            refine h4_b [11, 12, 13, 14] ?_
            (repeat (refine h4_p rfl (by kernel_rfl) (fun _ _ _ h => h) (by rfl) hHeld23 (by intro wS hSw; obtain ⟨k0, hRd, _, _, hXd⟩ := hSw; have k1 := (RdrS.sub hRd).choose_spec.choose_spec.2.1; have kz := RdrS.lt hRd; go_simp; (try with_reducible rfl)) ?_; (try simp only [Act.put, List.setIfInBounds_toArray, List.set_cons_zero, List.set_cons_succ])))
            refine h4_e ?_
            refine wpAnyH_ready (rs := [16]) (by kernel_rfl) (by simp) ?_
            refine (h4_cons rfl (fun K hK => ?_) AllReadyH.nil)
            go_simp
            refine hK.out _ _ ?_ (fun hHeld24 => ?_)
            · (try dsimp only)
              (first | exact HNB.out.next (Below.refl _ _).drew | (with_reducible assumption) | (refine NB.next (by with_reducible assumption) (by with_reducible assumption)) | (refine NB.next HNB.out ?_; (repeat' (first | with_reducible (first | exact Below.refl _ _ | refine Below.drew ?_ | refine below_drewN ?_ _ | refine Below.alloc ?_ ?_ _ | refine Below.setCell ?_ ?_ _ | exact Nat.le_refl _) | (simp; done) | (refine Nat.le_trans ?_ (Below.size (by with_reducible assumption)); simp; done))); done) | (refine NB.next (NB.next (by with_reducible assumption) (by with_reducible assumption)) ?_; (repeat' (first | with_reducible (first | exact Below.refl _ _ | refine Below.drew ?_ | refine below_drewN ?_ _ | refine Below.alloc ?_ ?_ _ | refine Below.setCell ?_ ?_ _ | exact Nat.le_refl _) | (simp; done) | (refine Nat.le_trans ?_ (Below.size (by with_reducible assumption)); simp; done))); done) | (refine NB.next (by with_reducible assumption) ?_; (repeat' (first | with_reducible (first | exact Below.refl _ _ | refine Below.drew ?_ | refine below_drewN ?_ _ | refine Below.alloc ?_ ?_ _ | refine Below.setCell ?_ ?_ _ | exact Nat.le_refl _) | (simp; done) | (refine Nat.le_trans ?_ (Below.size (by with_reducible assumption)); simp; done))); done) | (refine NB.next HNB.out ?_; (repeat' (first | with_reducible (first | exact Below.refl _ _ | refine Below.drew ?_ | refine below_drewN ?_ _ | refine Below.alloc ?_ ?_ _ | refine Below.setCell ?_ ?_ _) | (refine Below.trans ?_ (Below.mono (by with_reducible assumption) ?_)) | with_reducible exact Nat.le_refl _ | (simp; done) | (refine Nat.le_trans ?_ (Below.size (by with_reducible assumption)); simp; done))); done))
            clear hK K hHeld23
            try simp only [Act.put, List.setIfInBounds_toArray, List.set_cons_zero, List.set_cons_succ]
            refine h4_b [17, 18] ?_
            (repeat (refine h4_p rfl (by kernel_rfl) (fun _ _ _ h => h) (by rfl) hHeld24 (by intro wS hSw; obtain ⟨k0, hRd, _, _, hXd⟩ := hSw; have k1 := (RdrS.sub hRd).choose_spec.choose_spec.2.1; have kz := RdrS.lt hRd; go_simp; (try with_reducible rfl)) ?_; (try simp only [Act.put, List.setIfInBounds_toArray, List.set_cons_zero, List.set_cons_succ])))
            refine h4_e ?_
            refine wpAnyH_done (by kernel_rfl) ?_ _
            have HNF := Lib.hid ‹NB g src q a V A5 c5 w _›
            clear HNB HPF
            obtain ⟨x0, x1, x2, x3, x4, x5, f0, f1, f2, f3, f4, f5, xz⟩ := HNF.out.x
            go_wp2_with fail
            (try simp only [Exit.inBlock, Exit.then]); refine bodyPost_ret (by simp [results, Tryz.results21, go_sem, *]; try rfl) rfl ?_
            refine .inr ⟨HOV.out, rfl, ?_, (((((HNF.out.u.fresh (Nat.le_refl _) _ _).fresh (Nat.le_refl _) _ _).fresh (Nat.le_refl _) _ _).fresh (Nat.le_refl _) _ _).fresh (Nat.le_refl _) _ _).fresh (Nat.le_refl _) _ _⟩
            have hTe : a + T.length = q := by rw [HTL.out]; exact Nat.add_sub_cancel' haq
            rw [hTe]
            exact (((((HNF.out.r.far hgw _ _).far hgw _ _).far hgw _ _).far hgw _ _).far hgw _ _).far hgw _ _
end Go.Proofs.YtdiibenofbcfnaaGreat
