/- Several texts put together: LexB. -/
import Derived.Test.YtdiibenofbcfnaaGreatBu7
import Derived.Test.YtdiibenofbcfnaaGreatBu1
set_option linter.unusedSimpArgs false
set_option linter.unusedVariables false
namespace Go.Proofs.YtdiibenofbcfnaaGreat
open Go.RowKit
structure RdrS (w : World) (g : Nat) (src : List Nat) (a : Nat) (V : Value) : Prop where
  box : ∃ A c, Box3 w g (.slice A src.length c) (.int .i64 (a : Int)) V ∧ RB w g A src ∧ src.length ≤ c
  len : src.length ≤ 1000000
section
variable {w w' : World} {g : Nat} {src : List Nat} {a : Nat} {V : Value}
theorem RdrS.lt (m : RdrS w g src a V) : g < w.heap.size := by obtain ⟨A, c, b, _⟩ := m.box; exact b.z
theorem RdrS.byte (m : RdrS w g src a V) : ∀ x ∈ src, x < 256 := by obtain ⟨A, c, b, r, _⟩ := m.box; exact r.1
theorem RdrS.next (m : RdrS w g src a V) (q : Below w.heap.size w w') : RdrS w' g src a V := by
  have hlt := m.lt
  obtain ⟨A, c, b, r, hc⟩ := m.box
  exact ⟨⟨A, c, b.below q, r.keep fun p hp => (q.mono (by omega : g ≤ w.heap.size)).cell hp, hc⟩, m.len⟩
theorem RdrS.put (m : RdrS w g src a V) (a' : Nat) : RdrS (w.setCell ⟨g, 1, none⟩ (.int .i64 (a' : Int))) g src a' V := by
  obtain ⟨A, c, b, r, hc⟩ := m.box
  obtain ⟨c0, c1, c2, f0, f1, f2, z⟩ := b
  refine ⟨⟨A, c, ?_, r.keep fun p hp => World.cell?_setCell_other _ _ _ _ (fun e => by subst e; simp at hp), hc⟩, m.len⟩
  constructor <;> (first | (simp (maxDischargeDepth := 12) [go_sem, *]; done) | (simp; omega))
end
theorem RdrS.put' {w : World} {g : Nat} {src : List Nat} {a : Nat} {V : Value} (m : RdrS w g src a V) (a' : Nat) (v : Int) (hv : v = (a' : Int)) : RdrS (w.setCell ⟨g, 1, none⟩ (.int .i64 v)) g src a' V := by subst hv; exact m.put a'
theorem RdrS.drewN {w : World} {g : Nat} {src : List Nat} {a : Nat} {V : Value} (m : RdrS w g src a V) (n : Nat) : RdrS (w.drewN n) g src a V := m.next (below_drewN (Below.refl _ _) n)
theorem RdrS.opens {w : World} {g : Nat} {src : List Nat} {a : Nat} {V : Value} (m : RdrS w g src a V) (h : a < src.length) : ∃ ad c sb qo sp, w.cell? ⟨g, 0, none⟩ = some (.slice (some ad) src.length c) ∧ w.cell? ⟨g, 1, none⟩ = some (.int .i64 (a : Int)) ∧ w.frozen? ⟨g, 1, none⟩ = false ∧ g < w.heap.size ∧ ad.add a = (⟨sb, qo, sp⟩ : Addr) ∧ w.cell? ⟨sb, qo, sp⟩ = some (.int .u8 ((src[a] : Nat) : Int)) ∧ sb ≠ g ∧ src.length ≤ c ∧ decide ((a : Int) < (src.length : Int)) = true ∧ wrap64 ((a : Int) + 1) = (a : Int) + 1 := by
  have hl := m.len
  obtain ⟨A, c, bx, r, hc⟩ := m.box
  obtain ⟨ad, rfl, hbk, hcell⟩ := r.2 (by omega)
  have hb : (ad.add a).block < g := by rw [block_of_add]; exact hbk
  refine ⟨ad, c, (ad.add a).block, (ad.add a).off, (ad.add a).spot, bx.c0, bx.c1, bx.f1, bx.z, rfl, hcell a h, by omega, hc, decide_eq_true (by omega), ?_⟩
  unfold wrap64; omega
theorem digit_any (c : Nat) (h : c < 256) (w : World) : Calls Tryz.prog 20 #[.int .u8 (c : Int)] w fun e w' => e = .returned (.bool (isDig c)) ∧ w' = w := by
  unfold isDig
  go_enter Tryz.func20, Tryz.ntmps20
  go_wp2
  all_goals (go_ret; refine ⟨congrArg (fun b => Ending.returned (Value.bool b)) (?_ : _ = _), rfl⟩; rw [Bool.eq_iff_iff]; simp; try omega)
theorem letter_any (c : Nat) (h : c < 256) (w : World) : Calls Tryz.prog 25 #[.int .u8 (c : Int)] w fun e w' => e = .returned (.bool (isLet c)) ∧ w' = w := by
  unfold isLet
  go_enter Tryz.func25, Tryz.ntmps25
  go_wp2
  all_goals (go_ret; refine ⟨congrArg (fun b => Ending.returned (Value.bool b)) (?_ : _ = _), rfl⟩; rw [Bool.eq_iff_iff]; simp; try omega)
theorem byteAt_any {g : Nat} {src : List Nat} {a : Nat} {V : Value} (w : World) (m : RdrS w g src a V) (i : Nat) : Calls Tryz.prog 19 #[.pointer (some ⟨g, 0, none⟩), .int .i64 (i : Int)] w fun e w' => e = .returned (.int .u8 ((src.getD i 0 : Nat) : Int)) ∧ w' = w := by
  have hb := m.byte
  obtain ⟨A, c, bx, r, hc⟩ := m.box
  have k0 := bx.c0
  by_cases h : i < src.length
  · have hd : decide ((i : Int) < (src.length : Int)) = true := decide_eq_true (by omega)
    obtain ⟨ad, rfl, hbk, hcell⟩ := r.2 (by omega)
    have k1 := hcell i h
    have hg : src.getD i 0 = src[i] := by rw [List.getD_eq_getElem?_getD, List.getElem?_eq_getElem h]; rfl
    rw [hg]
    clear hb bx r hcell m
    go_enter Tryz.func19, Tryz.ntmps19
    go_wp2
    go_ret
    exact ⟨rfl, rfl⟩
  · have hd : decide ((i : Int) < (src.length : Int)) = false := decide_eq_false (by omega)
    have hg : src.getD i 0 = 0 := by rw [List.getD_eq_getElem?_getD, List.getElem?_eq_none (by omega)]; rfl
    rw [hg]
    clear hb bx r m
    go_enter Tryz.func19, Tryz.ntmps19
    go_wp2
    go_ret
    exact ⟨rfl, rfl⟩
theorem byteAt_at {g : Nat} {src : List Nat} {a : Nat} {V : Value} (w : World) (m : RdrS w g src a V) (i : Nat) (v : Int) (hv : v = (i : Int)) : Calls Tryz.prog 19 #[.pointer (some ⟨g, 0, none⟩), .int .i64 v] w fun e w' => e = .returned (.int .u8 ((src.getD i 0 : Nat) : Int)) ∧ w' = w := by subst hv; exact byteAt_any w m i
theorem passN_nil : passN [] = 0 := rfl
theorem passN_blank {c : Nat} (h : c = 9 ∨ c = 13 ∨ c = 32) (r : List Nat) : passN (c :: r) = passN r + 1 := by unfold passN; rw [passS, if_pos h]
theorem passN_slash (r : List Nat) : passN (92 :: 10 :: r) = passN r + 2 := by unfold passN; rw [passS, if_neg (by decide), if_pos rfl, if_pos (show (10 :: r).getD 0 0 = 10 from rfl), passS]
theorem passN_slash' (r : List Nat) (h : r.getD 0 0 ≠ 10) : passN (92 :: r) = 0 := by unfold passN; rw [passS, if_neg (by decide), if_pos rfl, if_neg h]
theorem passN_note (r : List Nat) : passN (35 :: r) = 1 + (r.takeWhile (· ≠ 10)).length := by unfold passN; rw [passS, if_neg (by decide), if_neg (by decide), if_pos rfl]
theorem passN_else {c : Nat} (h : ¬(c = 9 ∨ c = 13 ∨ c = 32)) (h2 : c ≠ 92) (h3 : c ≠ 35) (r : List Nat) : passN (c :: r) = 0 := by unfold passN; rw [passS, if_neg h, if_neg h2, if_neg h3]
theorem getD_of {src : List Nat} {i c : Nat} (hc : c ≠ 0) (h : src.getD i 0 = c) : ∃ h : i < src.length, src[i] = c := by
  rcases Nat.lt_or_ge i src.length with hl | hl
  · refine ⟨hl, ?_⟩
    rw [List.getD_eq_getElem?_getD, List.getElem?_eq_getElem hl] at h
    exact h
  · rw [List.getD_eq_getElem?_getD, List.getElem?_eq_none hl] at h
    exact absurd h.symm hc
theorem pass_slash2 {src : List Nat} {q N : Nat} (h10 : src.getD (q + 1) 0 = 10) (hpa : q + passN (92 :: src.drop (q + 1)) = N) : q + 2 + passN (src.drop (q + 2)) = N := by
  obtain ⟨hl, h⟩ := getD_of (by decide) h10
  have hd2 : src.drop (q + 1) = src[q + 1] :: src.drop (q + 2) := List.drop_eq_getElem_cons hl
  rw [hd2, h, passN_slash] at hpa
  omega
theorem pass_note2 {src : List Nat} {q N : Nat} (hpa : q + passN (35 :: src.drop (q + 1)) = N) (hq : q < src.length) (h35 : src[q] = 35) : q + ((src.drop q).takeWhile (· ≠ 10)).length = N ∧ N ≤ src.length ∧ q < N ∧ passN (src.drop N) = 0 := by
  rw [passN_note] at hpa
  have hd : src.drop q = src[q] :: src.drop (q + 1) := List.drop_eq_getElem_cons hq
  have e : q + ((src.drop q).takeWhile (· ≠ 10)).length = N := by
    rw [hd, h35, List.takeWhile_cons, if_pos (by decide), List.length_cons]; omega
  have hle : ((src.drop q).takeWhile (· ≠ 10)).length ≤ (src.drop q).length := (List.takeWhile_sublist _).length_le
  rw [List.length_drop] at hle
  refine ⟨e, by omega, by omega, ?_⟩
  rw [← e, ← List.drop_drop]
  generalize src.drop q = l
  induction l with
  | nil => rfl
  | cons c l ih =>
    by_cases hc : c = 10
    · subst hc
      rw [List.takeWhile_cons, if_neg (by decide)]
      exact passN_else (by decide) (by decide) (by decide) _
    · rw [List.takeWhile_cons, if_pos (by simpa using hc), List.length_cons, List.drop_succ_cons]; exact ih
set_option maxRecDepth 100000 in
set_option maxHeartbeats 3200000 in
theorem pass_any {g : Nat} {src : List Nat} {a : Nat} {V : Value} (w : World) (m : RdrS w g src a V) (ha : a ≤ src.length) :
    Calls Tryz.prog 12 #[.pointer (some ⟨g, 0, none⟩)] w fun e w' => e = .returned (.tuple #[]) ∧ (RdrS w' g src (a + passN (src.drop a)) V ∧ Upd g none w w') := by
  obtain ⟨N, hN⟩ : ∃ N, a + passN (src.drop a) = N := ⟨_, rfl⟩
  rw [hN]
  have HN := Lib.hid hN
  have HM := Lib.hid m
  clear hN m
  go_enter Tryz.func12, Tryz.ntmps12
  go_wp2_with fail
  go_loopw [] (fun wr => ∃ q, q ≤ src.length ∧ Hid (RdrS wr g src q V) ∧ Hid (q + passN (src.drop q) = N) ∧ Hid (Upd g none w wr)) (fun wr => src.length - (intOf ((wr.cell? ⟨g, 1, none⟩).getD undef)).toNat)
  case atStart => exact ⟨a, ha, HM, HN, Lib.hid (Upd.refl _ _ _)⟩
  case round =>
    obtain ⟨q, hq, HQ, HP, HU⟩ := hrel
    have hQ := HQ.out
    obtain ⟨A, c, bx, r, hc⟩ := hQ.box
    have k0 := bx.c0
    have k1 := bx.c1
    have kf1 := bx.f1
    have kz := bx.z
    have hw1 : wrap64 ((q : Int) + 1) = (q : Int) + 1 := by have := HM.out.len; unfold wrap64; omega
    by_cases hlt : q < src.length
    · have hd : decide ((q : Int) < (src.length : Int)) = true := decide_eq_true (by omega)
      obtain ⟨ad, rfl, hbk, hcell⟩ := r.2 (by omega)
      have k2 := hcell q hlt
      have hdr : src.drop q = src[q] :: src.drop (q + 1) := List.drop_eq_getElem_cons hlt
      have hpa := HP.out
      rw [hdr] at hpa
      have hadg : (ad.add q).block < g := by rw [block_of_add]; exact hbk
      generalize hxe : src[q] = x at k2 hpa hdr
      obtain ⟨sb, qo, sp, hq'⟩ : ∃ sb qo sp, ad.add q = (⟨sb, qo, sp⟩ : Addr) := ⟨_, _, _, rfl⟩
      rw [hq'] at k2 hadg
      have hsg : sb ≠ g := by have : sb < g := hadg; omega
      clear hcell bx r hQ
      by_cases hbl : x = 9 ∨ x = 13 ∨ x = 32
      · have HP2 := Lib.hid (show q + 1 + passN (src.drop (q + 1)) = N by rw [passN_blank hbl] at hpa; omega)
        clear hpa hdr HP hxe
        rcases hbl with rfl | rfl | rfl
        all_goals
          go_wp2_with fail
          go_quiet (fail)
          go_wp2_with fail
          go_quiet (fail)
          go_wp2_with fail
          go_roundw
          case rel => exact ⟨q + 1, by omega, Lib.hid ((HQ.out.drewN _).put' _ _ (by simp)), HP2, Lib.hid ((HU.out.drewN _).put _ _)⟩
          case measure => simp (maxDischargeDepth := 12) [go_sem, intOf, *]; omega
      · have n1 : ((x : Int) == 9) = false := by simp; omega
        have n2 : ((x : Int) == 13) = false := by simp; omega
        have n3 : ((x : Int) == 32) = false := by simp; omega
        by_cases h92 : x = 92
        · subst h92
          have HBY := Lib.hid (fun (W : World) (m : RdrS W g src q V) => byteAt_at W m (q + 1) ((q : Int) + 1) (by simp))
          have hy : (src.drop (q + 1)).getD 0 0 = src.getD (q + 1) 0 := by simp [List.getD_eq_getElem?_getD]
          by_cases h10 : src.getD (q + 1) 0 = 10
          · rw [h10] at HBY
            have hw2 : wrap64 ((q : Int) + 2) = (q : Int) + 2 := by have := HM.out.len; unfold wrap64; omega
            have hlt2 : q + 1 < src.length := (getD_of (by decide) h10).1
            have HP2 := Lib.hid (pass_slash2 h10 hpa)
            clear hpa hdr HP hy h10 hxe
            go_wp2_with fail
            go_quiet (fail)
            go_wp2_with fail
            go_quiet (fail)
            go_wp2_with (first
              | (go_at_call 19; (with_reducible refine (HBY.out _ (HQ.out.drewN _)).mono ?_); rintro e w2 ⟨rfl, rfl⟩)
              | fail)
            go_roundw
            case rel => exact ⟨q + 2, by omega, Lib.hid ((HQ.out.drewN _).put' _ _ (by simp)), HP2, Lib.hid ((HU.out.drewN _).put _ _)⟩
            case measure => simp (maxDischargeDepth := 12) [go_sem, intOf, *]; omega
          · have hne : (((src.getD (q + 1) 0 : Nat) : Int) == 10) = false := by rw [beq_eq_false_iff_ne]; omega
            rw [passN_slash' _ (by rw [hy]; exact h10)] at hpa
            obtain rfl : q = N := hpa
            generalize src.getD (q + 1) 0 = y at HBY hne
            clear hdr hy h10 HP hxe
            go_wp2_with fail
            go_quiet (fail)
            go_wp2_with fail
            go_quiet (fail)
            go_wp2_with (first
              | (go_at_call 19; (with_reducible refine (HBY.out _ (HQ.out.drewN _)).mono ?_); rintro e w2 ⟨rfl, rfl⟩)
              | fail)
            first | go_end0 | refine bodyPost_ret (results_none rfl _ _ _) rfl ?_
            exact ⟨rfl, HQ.out.drewN _, HU.out.drewN _⟩
        · have n4 : ((x : Int) == 92) = false := by simp; omega
          by_cases h35 : x = 35
          · subst h35
            have HK1 := Lib.hid k1
            obtain ⟨E1, E2, E4, E3⟩ := pass_note2 hpa hlt hxe
            have HE1 := Lib.hid E1
            have HE3 := Lib.hid E3
            clear E1 E3 hpa hdr HP hxe
            go_wp2_with fail
            go_quiet (fail)
            go_wp2_with fail
            go_quiet (fail)
            go_wp2_with fail
            go_loopw [] (fun wx => ∃ s, q ≤ s ∧ s ≤ src.length ∧ Hid (RdrS wx g src s V) ∧ Hid (s + ((src.drop s).takeWhile (· ≠ 10)).length = N) ∧ Hid (Upd g none w wx)) (fun wx => src.length - (intOf ((wx.cell? ⟨g, 1, none⟩).getD undef)).toNat)
            case atStart => exact ⟨q, Nat.le_refl _, by omega, Lib.hid (HQ.out.drewN _), HE1, Lib.hid (HU.out.drewN _)⟩
            case round =>
              clear k0 k1 kf1 kz k2 hw1 hd hc hsg hadg hq' hbk
              obtain ⟨s, hqs, hs, HQs, HPs, HUs⟩ := hrel
              by_cases hls : s < src.length
              · obtain ⟨ad2, c2, sb2, qo2, sp2, k0, k1, kf1, kz, hq2, k2, hsg2, hc2, hd, hw1⟩ := HQs.out.opens hls
                have hps := HPs.out
                have hds : src.drop s = src[s] :: src.drop (s + 1) := List.drop_eq_getElem_cons hls
                rw [hds] at hps
                generalize src[s] = y at k2 hps
                clear hds
                by_cases hy : y = 10
                · subst hy
                  rw [List.takeWhile_cons, if_neg (by decide)] at hps
                  obtain rfl : s = N := hps
                  go_wp2_with fail
                  go_quiet (fail)
                  go_wp2_with fail
                  go_roundw
                  case rel => exact ⟨s, hs, Lib.hid (HQs.out.drewN _), Lib.hid (by rw [HE3.out]; rfl), Lib.hid (HUs.out.drewN _)⟩
                  case measure => (rw [HK1.out]; simp (maxDischargeDepth := 12) [go_sem, intOf, *]; omega)
                · have n6 : ((y : Int) == 10) = false := by rw [beq_eq_false_iff_ne]; exact fun e => hy (by exact_mod_cast e)
                  have HPs2 := Lib.hid (show s + 1 + ((src.drop (s + 1)).takeWhile (· ≠ 10)).length = N by
                    rw [List.takeWhile_cons, if_pos (by simpa using hy), List.length_cons] at hps; omega)
                  clear hps
                  go_wp2_with fail
                  go_quiet (fail)
                  go_wp2_with fail
                  go_roundw
                  case rel => exact ⟨s + 1, by omega, by omega, Lib.hid ((HQs.out.drewN _).put' _ _ (by simp)), HPs2, Lib.hid ((HUs.out.drewN _).put _ _)⟩
                  case measure => simp (maxDischargeDepth := 12) [go_sem, intOf, *]; omega
              · obtain rfl : s = src.length := Nat.le_antisymm hs (Nat.le_of_not_lt hls)
                obtain ⟨A2, c2, bx2, r2, hc2⟩ := HQs.out.box
                have k0 := bx2.c0
                have k1 := bx2.c1
                have kz := bx2.z
                have hps := HPs.out
                rw [List.drop_length] at hps
                obtain rfl : src.length = N := hps
                clear bx2 r2
                go_wp2_with fail
                go_quiet (fail)
                go_wp2_with fail
                go_roundw
                case rel => exact ⟨src.length, Nat.le_refl _, Lib.hid (HQs.out.drewN _), Lib.hid (by rw [HE3.out]; rfl), Lib.hid (HUs.out.drewN _)⟩
                case measure => (rw [HK1.out]; simp (maxDischargeDepth := 12) [go_sem, intOf, *]; omega)
          · have n5 : ((x : Int) == 35) = false := by simp; omega
            rw [passN_else hbl h92 h35] at hpa
            obtain rfl : q = N := hpa
            clear hdr HP hxe
            go_wp2_with fail
            go_quiet (fail)
            go_wp2_with fail
            go_quiet (fail)
            go_wp2_with fail
            first | go_end0 | refine bodyPost_ret (results_none rfl _ _ _) rfl ?_
            exact ⟨rfl, HQ.out.drewN _, HU.out.drewN _⟩
    · obtain rfl : q = src.length := by omega
      have hd : decide ((src.length : Int) < (src.length : Int)) = false := by simp
      have hpa := HP.out
      rw [List.drop_length, passN_nil, Nat.add_zero] at hpa
      obtain rfl : src.length = N := hpa
      clear bx r hQ HP
      go_wp2_with fail
      go_quiet (fail)
      go_wp2_with fail
      first | go_end0 | refine bodyPost_ret (results_none rfl _ _ _) rfl ?_
      exact ⟨rfl, HQ.out.drewN _, HU.out.drewN _⟩
end Go.Proofs.YtdiibenofbcfnaaGreat
