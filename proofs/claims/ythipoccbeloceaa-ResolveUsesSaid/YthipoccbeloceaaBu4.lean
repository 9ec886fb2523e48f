/- Several texts put together: LexB, LexC, LexD. -/
import Derived.Test.YthipoccbeloceaaBu3
import Derived.Test.YthipoccbeloceaaBu1
import Derived.Test.YthipoccbeloceaaBu2
import Derived.IntWalk
set_option linter.unusedSimpArgs false
set_option linter.unusedVariables false
namespace Go.Proofs.Ythipoccbeloceaa
open Go.RowKit
structure RdrS (w : World) (g : Nat) (src : List Nat) (a : Nat) (V : Value) : Prop where
  box : ∃ A c, Box3 w g (.slice A src.length c) (.int .i64 (a : Int)) V ∧ RB w g A src ∧ src.length ≤ c
  len : src.length ≤ 1000000
section
variable {w w' : World} {g : Nat} {src : List Nat} {a : Nat} {V : Value}
theorem RdrS.lt (m : RdrS w g src a V) : g < w.heap.size := by obtain ⟨A, c, b, _⟩ := m.box; exact b.z
theorem RdrS.byte (m : RdrS w g src a V) : ∀ x ∈ src, x < 256 := by obtain ⟨A, c, b, r, _⟩ := m.box; exact r.1
theorem RdrS.next (m : RdrS w g src a V) (q : Below w.heap.size w w') : RdrS w' g src a V := by
  have hlt := m.lt
  obtain ⟨A, c, b, r, hc⟩ := m.box
  exact ⟨⟨A, c, b.below q, r.keep fun p hp => (q.mono (by omega : g ≤ w.heap.size)).cell hp, hc⟩, m.len⟩
theorem RdrS.put (m : RdrS w g src a V) (a' : Nat) : RdrS (w.setCell ⟨g, 1, none⟩ (.int .i64 (a' : Int))) g src a' V := by
  obtain ⟨A, c, b, r, hc⟩ := m.box
  obtain ⟨c0, c1, c2, f0, f1, f2, z⟩ := b
  refine ⟨⟨A, c, ?_, r.keep fun p hp => World.cell?_setCell_other _ _ _ _ (fun e => by subst e; simp at hp), hc⟩, m.len⟩
  constructor <;> (first | (simp (maxDischargeDepth := 12) [go_sem, *]; done) | (simp; omega))
end
theorem RdrS.put' {w : World} {g : Nat} {src : List Nat} {a : Nat} {V : Value} (m : RdrS w g src a V) (a' : Nat) (v : Int) (hv : v = (a' : Int)) : RdrS (w.setCell ⟨g, 1, none⟩ (.int .i64 v)) g src a' V := by subst hv; exact m.put a'
theorem RdrS.drewN {w : World} {g : Nat} {src : List Nat} {a : Nat} {V : Value} (m : RdrS w g src a V) (n : Nat) : RdrS (w.drewN n) g src a V := m.next (below_drewN (Below.refl _ _) n)
theorem RdrS.opens {w : World} {g : Nat} {src : List Nat} {a : Nat} {V : Value} (m : RdrS w g src a V) (h : a < src.length) : ∃ ad c sb qo sp, w.cell? ⟨g, 0, none⟩ = some (.slice (some ad) src.length c) ∧ w.cell? ⟨g, 1, none⟩ = some (.int .i64 (a : Int)) ∧ w.frozen? ⟨g, 1, none⟩ = false ∧ g < w.heap.size ∧ ad.add a = (⟨sb, qo, sp⟩ : Addr) ∧ w.cell? ⟨sb, qo, sp⟩ = some (.int .u8 ((src[a] : Nat) : Int)) ∧ sb ≠ g ∧ src.length ≤ c ∧ decide ((a : Int) < (src.length : Int)) = true ∧ wrap64 ((a : Int) + 1) = (a : Int) + 1 := by
  have hl := m.len
  obtain ⟨A, c, bx, r, hc⟩ := m.box
  obtain ⟨ad, rfl, hbk, hcell⟩ := r.2 (by omega)
  have hb : (ad.add a).block < g := by rw [block_of_add]; exact hbk
  refine ⟨ad, c, (ad.add a).block, (ad.add a).off, (ad.add a).spot, bx.c0, bx.c1, bx.f1, bx.z, rfl, hcell a h, by omega, hc, decide_eq_true (by omega), ?_⟩
  unfold wrap64; omega
theorem digit_any (c : Nat) (h : c < 256) (w : World) : Calls Try.prog 42 #[.int .u8 (c : Int)] w fun e w' => e = .returned (.bool (isDig c)) ∧ w' = w := by
  unfold isDig
  go_enter Try.func42, Try.ntmps42
  go_wp2
  all_goals (go_ret; refine ⟨congrArg (fun b => Ending.returned (Value.bool b)) (?_ : _ = _), rfl⟩; rw [Bool.eq_iff_iff]; simp; try omega)
theorem letter_any (c : Nat) (h : c < 256) (w : World) : Calls Try.prog 47 #[.int .u8 (c : Int)] w fun e w' => e = .returned (.bool (isLet c)) ∧ w' = w := by
  unfold isLet
  go_enter Try.func47, Try.ntmps47
  go_wp2
  all_goals (go_ret; refine ⟨congrArg (fun b => Ending.returned (Value.bool b)) (?_ : _ = _), rfl⟩; rw [Bool.eq_iff_iff]; simp; try omega)
theorem byteAt_any {g : Nat} {src : List Nat} {a : Nat} {V : Value} (w : World) (m : RdrS w g src a V) (i : Nat) : Calls Try.prog 41 #[.pointer (some ⟨g, 0, none⟩), .int .i64 (i : Int)] w fun e w' => e = .returned (.int .u8 ((src.getD i 0 : Nat) : Int)) ∧ w' = w := by
  have hb := m.byte
  obtain ⟨A, c, bx, r, hc⟩ := m.box
  have k0 := bx.c0
  by_cases h : i < src.length
  · have hd : decide ((i : Int) < (src.length : Int)) = true := decide_eq_true (by omega)
    obtain ⟨ad, rfl, hbk, hcell⟩ := r.2 (by omega)
    have k1 := hcell i h
    have hg : src.getD i 0 = src[i] := by rw [List.getD_eq_getElem?_getD, List.getElem?_eq_getElem h]; rfl
    rw [hg]
    clear hb bx r hcell m
    go_enter Try.func41, Try.ntmps41
    go_wp2
    go_ret
    exact ⟨rfl, rfl⟩
  · have hd : decide ((i : Int) < (src.length : Int)) = false := decide_eq_false (by omega)
    have hg : src.getD i 0 = 0 := by rw [List.getD_eq_getElem?_getD, List.getElem?_eq_none (by omega)]; rfl
    rw [hg]
    clear hb bx r m
    go_enter Try.func41, Try.ntmps41
    go_wp2
    go_ret
    exact ⟨rfl, rfl⟩
theorem byteAt_at {g : Nat} {src : List Nat} {a : Nat} {V : Value} (w : World) (m : RdrS w g src a V) (i : Nat) (v : Int) (hv : v = (i : Int)) : Calls Try.prog 41 #[.pointer (some ⟨g, 0, none⟩), .int .i64 v] w fun e w' => e = .returned (.int .u8 ((src.getD i 0 : Nat) : Int)) ∧ w' = w := by subst hv; exact byteAt_any w m i
theorem passN_nil : passN [] = 0 := rfl
theorem passN_blank {c : Nat} (h : c = 9 ∨ c = 13 ∨ c = 32) (r : List Nat) : passN (c :: r) = passN r + 1 := by unfold passN; rw [passS, if_pos h]
theorem passN_slash (r : List Nat) : passN (92 :: 10 :: r) = passN r + 2 := by unfold passN; rw [passS, if_neg (by decide), if_pos rfl, if_pos (show (10 :: r).getD 0 0 = 10 from rfl), passS]
theorem passN_slash' (r : List Nat) (h : r.getD 0 0 ≠ 10) : passN (92 :: r) = 0 := by unfold passN; rw [passS, if_neg (by decide), if_pos rfl, if_neg h]
theorem passN_note (r : List Nat) : passN (35 :: r) = 1 + (r.takeWhile (· ≠ 10)).length := by unfold passN; rw [passS, if_neg (by decide), if_neg (by decide), if_pos rfl]
theorem passN_else {c : Nat} (h : ¬(c = 9 ∨ c = 13 ∨ c = 32)) (h2 : c ≠ 92) (h3 : c ≠ 35) (r : List Nat) : passN (c :: r) = 0 := by unfold passN; rw [passS, if_neg h, if_neg h2, if_neg h3]
theorem getD_of {src : List Nat} {i c : Nat} (hc : c ≠ 0) (h : src.getD i 0 = c) : ∃ h : i < src.length, src[i] = c := by
  rcases Nat.lt_or_ge i src.length with hl | hl
  · refine ⟨hl, ?_⟩
    rw [List.getD_eq_getElem?_getD, List.getElem?_eq_getElem hl] at h
    exact h
  · rw [List.getD_eq_getElem?_getD, List.getElem?_eq_none hl] at h
    exact absurd h.symm hc
theorem pass_slash2 {src : List Nat} {q N : Nat} (h10 : src.getD (q + 1) 0 = 10) (hpa : q + passN (92 :: src.drop (q + 1)) = N) : q + 2 + passN (src.drop (q + 2)) = N := by
  obtain ⟨hl, h⟩ := getD_of (by decide) h10
  have hd2 : src.drop (q + 1) = src[q + 1] :: src.drop (q + 2) := List.drop_eq_getElem_cons hl
  rw [hd2, h, passN_slash] at hpa
  omega
theorem pass_note2 {src : List Nat} {q N : Nat} (hpa : q + passN (35 :: src.drop (q + 1)) = N) (hq : q < src.length) (h35 : src[q] = 35) : q + ((src.drop q).takeWhile (· ≠ 10)).length = N ∧ N ≤ src.length ∧ q < N ∧ passN (src.drop N) = 0 := by
  rw [passN_note] at hpa
  have hd : src.drop q = src[q] :: src.drop (q + 1) := List.drop_eq_getElem_cons hq
  have e : q + ((src.drop q).takeWhile (· ≠ 10)).length = N := by
    rw [hd, h35, List.takeWhile_cons, if_pos (by decide), List.length_cons]; omega
  have hle : ((src.drop q).takeWhile (· ≠ 10)).length ≤ (src.drop q).length := (List.takeWhile_sublist _).length_le
  rw [List.length_drop] at hle
  refine ⟨e, by omega, by omega, ?_⟩
  rw [← e, ← List.drop_drop]
  generalize src.drop q = l
  induction l with
  | nil => rfl
  | cons c l ih =>
    by_cases hc : c = 10
    · subst hc
      rw [List.takeWhile_cons, if_neg (by decide)]
      exact passN_else (by decide) (by decide) (by decide) _
    · rw [List.takeWhile_cons, if_pos (by simpa using hc), List.length_cons, List.drop_succ_cons]; exact ih
set_option maxRecDepth 100000 in
set_option maxHeartbeats 3200000 in
theorem pass_any {g : Nat} {src : List Nat} {a : Nat} {V : Value} (w : World) (m : RdrS w g src a V) (ha : a ≤ src.length) :
    Calls Try.prog 28 #[.pointer (some ⟨g, 0, none⟩)] w fun e w' => e = .returned (.tuple #[]) ∧ (RdrS w' g src (a + passN (src.drop a)) V ∧ Upd g none w w') := by
  obtain ⟨N, hN⟩ : ∃ N, a + passN (src.drop a) = N := ⟨_, rfl⟩
  rw [hN]
  have HN := Lib.hid hN
  have HM := Lib.hid m
  clear hN m
  go_enter Try.func28, Try.ntmps28
  go_wp2_with fail
  go_loopw [] (fun wr => ∃ q, q ≤ src.length ∧ Hid (RdrS wr g src q V) ∧ Hid (q + passN (src.drop q) = N) ∧ Hid (Upd g none w wr)) (fun wr => src.length - (intOf ((wr.cell? ⟨g, 1, none⟩).getD undef)).toNat)
  case atStart => exact ⟨a, ha, HM, HN, Lib.hid (Upd.refl _ _ _)⟩
  case round =>
    obtain ⟨q, hq, HQ, HP, HU⟩ := hrel
    have hQ := HQ.out
    obtain ⟨A, c, bx, r, hc⟩ := hQ.box
    have k0 := bx.c0
    have k1 := bx.c1
    have kf1 := bx.f1
    have kz := bx.z
    have hw1 : wrap64 ((q : Int) + 1) = (q : Int) + 1 := by have := HM.out.len; unfold wrap64; omega
    by_cases hlt : q < src.length
    · have hd : decide ((q : Int) < (src.length : Int)) = true := decide_eq_true (by omega)
      obtain ⟨ad, rfl, hbk, hcell⟩ := r.2 (by omega)
      have k2 := hcell q hlt
      have hdr : src.drop q = src[q] :: src.drop (q + 1) := List.drop_eq_getElem_cons hlt
      have hpa := HP.out
      rw [hdr] at hpa
      have hadg : (ad.add q).block < g := by rw [block_of_add]; exact hbk
      generalize hxe : src[q] = x at k2 hpa hdr
      obtain ⟨sb, qo, sp, hq'⟩ : ∃ sb qo sp, ad.add q = (⟨sb, qo, sp⟩ : Addr) := ⟨_, _, _, rfl⟩
      rw [hq'] at k2 hadg
      have hsg : sb ≠ g := by have : sb < g := hadg; omega
      clear hcell bx r hQ
      by_cases hbl : x = 9 ∨ x = 13 ∨ x = 32
      · have HP2 := Lib.hid (show q + 1 + passN (src.drop (q + 1)) = N by rw [passN_blank hbl] at hpa; omega)
        clear hpa hdr HP hxe
        rcases hbl with rfl | rfl | rfl
        all_goals
          go_wp2_with fail
          go_quiet (fail)
          go_wp2_with fail
          go_quiet (fail)
          go_wp2_with fail
          go_roundw
          case rel => exact ⟨q + 1, by omega, Lib.hid ((HQ.out.drewN _).put' _ _ (by simp)), HP2, Lib.hid ((HU.out.drewN _).put _ _)⟩
          case measure => simp (maxDischargeDepth := 12) [go_sem, intOf, *]; omega
      · have n1 : ((x : Int) == 9) = false := by simp; omega
        have n2 : ((x : Int) == 13) = false := by simp; omega
        have n3 : ((x : Int) == 32) = false := by simp; omega
        by_cases h92 : x = 92
        · subst h92
          have HBY := Lib.hid (fun (W : World) (m : RdrS W g src q V) => byteAt_at W m (q + 1) ((q : Int) + 1) (by simp))
          have hy : (src.drop (q + 1)).getD 0 0 = src.getD (q + 1) 0 := by simp [List.getD_eq_getElem?_getD]
          by_cases h10 : src.getD (q + 1) 0 = 10
          · rw [h10] at HBY
            have hw2 : wrap64 ((q : Int) + 2) = (q : Int) + 2 := by have := HM.out.len; unfold wrap64; omega
            have hlt2 : q + 1 < src.length := (getD_of (by decide) h10).1
            have HP2 := Lib.hid (pass_slash2 h10 hpa)
            clear hpa hdr HP hy h10 hxe
            go_wp2_with fail
            go_quiet (fail)
            go_wp2_with fail
            go_quiet (fail)
            go_wp2_with (first
              | (go_at_call 41; (with_reducible refine (HBY.out _ (HQ.out.drewN _)).mono ?_); rintro e w2 ⟨rfl, rfl⟩)
              | fail)
            go_roundw
            case rel => exact ⟨q + 2, by omega, Lib.hid ((HQ.out.drewN _).put' _ _ (by simp)), HP2, Lib.hid ((HU.out.drewN _).put _ _)⟩
            case measure => simp (maxDischargeDepth := 12) [go_sem, intOf, *]; omega
          · have hne : (((src.getD (q + 1) 0 : Nat) : Int) == 10) = false := by rw [beq_eq_false_iff_ne]; omega
            rw [passN_slash' _ (by rw [hy]; exact h10)] at hpa
            obtain rfl : q = N := hpa
            generalize src.getD (q + 1) 0 = y at HBY hne
            clear hdr hy h10 HP hxe
            go_wp2_with fail
            go_quiet (fail)
            go_wp2_with fail
            go_quiet (fail)
            go_wp2_with (first
              | (go_at_call 41; (with_reducible refine (HBY.out _ (HQ.out.drewN _)).mono ?_); rintro e w2 ⟨rfl, rfl⟩)
              | fail)
            first | go_end0 | refine bodyPost_ret (results_none rfl _ _ _) rfl ?_
            exact ⟨rfl, HQ.out.drewN _, HU.out.drewN _⟩
        · have n4 : ((x : Int) == 92) = false := by simp; omega
          by_cases h35 : x = 35
          · subst h35
            have HK1 := Lib.hid k1
            obtain ⟨E1, E2, E4, E3⟩ := pass_note2 hpa hlt hxe
            have HE1 := Lib.hid E1
            have HE3 := Lib.hid E3
            clear E1 E3 hpa hdr HP hxe
            go_wp2_with fail
            go_quiet (fail)
            go_wp2_with fail
            go_quiet (fail)
            go_wp2_with fail
            go_loopw [] (fun wx => ∃ s, q ≤ s ∧ s ≤ src.length ∧ Hid (RdrS wx g src s V) ∧ Hid (s + ((src.drop s).takeWhile (· ≠ 10)).length = N) ∧ Hid (Upd g none w wx)) (fun wx => src.length - (intOf ((wx.cell? ⟨g, 1, none⟩).getD undef)).toNat)
            case atStart => exact ⟨q, Nat.le_refl _, by omega, Lib.hid (HQ.out.drewN _), HE1, Lib.hid (HU.out.drewN _)⟩
            case round =>
              clear k0 k1 kf1 kz k2 hw1 hd hc hsg hadg hq' hbk
              obtain ⟨s, hqs, hs, HQs, HPs, HUs⟩ := hrel
              by_cases hls : s < src.length
              · obtain ⟨ad2, c2, sb2, qo2, sp2, k0, k1, kf1, kz, hq2, k2, hsg2, hc2, hd, hw1⟩ := HQs.out.opens hls
                have hps := HPs.out
                have hds : src.drop s = src[s] :: src.drop (s + 1) := List.drop_eq_getElem_cons hls
                rw [hds] at hps
                generalize src[s] = y at k2 hps
                clear hds
                by_cases hy : y = 10
                · subst hy
                  rw [List.takeWhile_cons, if_neg (by decide)] at hps
                  obtain rfl : s = N := hps
                  go_wp2_with fail
                  go_quiet (fail)
                  go_wp2_with fail
                  go_roundw
                  case rel => exact ⟨s, hs, Lib.hid (HQs.out.drewN _), Lib.hid (by rw [HE3.out]; rfl), Lib.hid (HUs.out.drewN _)⟩
                  case measure => (rw [HK1.out]; simp (maxDischargeDepth := 12) [go_sem, intOf, *]; omega)
                · have n6 : ((y : Int) == 10) = false := by rw [beq_eq_false_iff_ne]; exact fun e => hy (by exact_mod_cast e)
                  have HPs2 := Lib.hid (show s + 1 + ((src.drop (s + 1)).takeWhile (· ≠ 10)).length = N by
                    rw [List.takeWhile_cons, if_pos (by simpa using hy), List.length_cons] at hps; omega)
                  clear hps
                  go_wp2_with fail
                  go_quiet (fail)
                  go_wp2_with fail
                  go_roundw
                  case rel => exact ⟨s + 1, by omega, by omega, Lib.hid ((HQs.out.drewN _).put' _ _ (by simp)), HPs2, Lib.hid ((HUs.out.drewN _).put _ _)⟩
                  case measure => simp (maxDischargeDepth := 12) [go_sem, intOf, *]; omega
              · obtain rfl : s = src.length := Nat.le_antisymm hs (Nat.le_of_not_lt hls)
                obtain ⟨A2, c2, bx2, r2, hc2⟩ := HQs.out.box
                have k0 := bx2.c0
                have k1 := bx2.c1
                have kz := bx2.z
                have hps := HPs.out
                rw [List.drop_length] at hps
                obtain rfl : src.length = N := hps
                clear bx2 r2
                go_wp2_with fail
                go_quiet (fail)
                go_wp2_with fail
                go_roundw
                case rel => exact ⟨src.length, Nat.le_refl _, Lib.hid (HQs.out.drewN _), Lib.hid (by rw [HE3.out]; rfl), Lib.hid (HUs.out.drewN _)⟩
                case measure => (rw [HK1.out]; simp (maxDischargeDepth := 12) [go_sem, intOf, *]; omega)
          · have n5 : ((x : Int) == 35) = false := by simp; omega
            rw [passN_else hbl h92 h35] at hpa
            obtain rfl : q = N := hpa
            clear hdr HP hxe
            go_wp2_with fail
            go_quiet (fail)
            go_wp2_with fail
            go_quiet (fail)
            go_wp2_with fail
            first | go_end0 | refine bodyPost_ret (results_none rfl _ _ _) rfl ?_
            exact ⟨rfl, HQ.out.drewN _, HU.out.drewN _⟩
    · obtain rfl : q = src.length := by omega
      have hd : decide ((src.length : Int) < (src.length : Int)) = false := by simp
      have hpa := HP.out
      rw [List.drop_length, passN_nil, Nat.add_zero] at hpa
      obtain rfl : src.length = N := hpa
      clear bx r hQ HP
      go_wp2_with fail
      go_quiet (fail)
      go_wp2_with fail
      first | go_end0 | refine bodyPost_ret (results_none rfl _ _ _) rfl ?_
      exact ⟨rfl, HQ.out.drewN _, HU.out.drewN _⟩
open Go.RowKit
def FltV (w : World) (B : Nat) (v : Value) (at' : Nat) (k : Int) : Prop := ∃ b, v = .iface 74 (.pointer (some ⟨b, 0, none⟩)) ∧ B ≤ b ∧ Blk w b 76 #[.int .i64 (at' : Int), .iface 71 (.int .i64 k)]
theorem FltV.next {w w' : World} {B : Nat} {v : Value} {at' : Nat} {k : Int} (h : FltV w B v at' k) (q : Below w.heap.size w w') : FltV w' B v at' k := by
  obtain ⟨b, e, hb, hk⟩ := h
  exact ⟨b, e, hb, hk.below q hk.lt⟩
theorem lfault_any (at' : Nat) (k : Int) (w : World) : Calls Try.prog 27 #[.int .i64 (at' : Int), .int .i64 k] w fun e w' => (∃ v, e = .returned v ∧ FltV w' w.heap.size v at' k) ∧ Below w.heap.size w w' := by
  go_enter Try.func27, Try.ntmps27
  go_wp2
  go_ret
  exact ⟨⟨_, rfl, _, rfl, Nat.le_refl _, Blk.new _ _ _⟩, (Below.refl _ _).alloc (Nat.le_refl _) _⟩
theorem RdrS.openi {w : World} {g : Nat} {src : List Nat} {a : Nat} {V : Value} (m : RdrS w g src a V) {i : Nat} (h : i < src.length) : ∃ ad c sb qo sp, w.cell? ⟨g, 0, none⟩ = some (.slice (some ad) src.length c) ∧ w.cell? ⟨g, 1, none⟩ = some (.int .i64 (a : Int)) ∧ w.frozen? ⟨g, 1, none⟩ = false ∧ g < w.heap.size ∧ ad.add i = (⟨sb, qo, sp⟩ : Addr) ∧ w.cell? ⟨sb, qo, sp⟩ = some (.int .u8 ((src[i] : Nat) : Int)) ∧ sb ≠ g ∧ src.length ≤ c ∧ decide ((i : Int) < (src.length : Int)) = true ∧ wrap64 ((i : Int) + 1) = (i : Int) + 1 := by
  have hl := m.len
  obtain ⟨A, c, bx, r, hc⟩ := m.box
  obtain ⟨ad, rfl, hbk, hcell⟩ := r.2 (by omega)
  have hb : (ad.add i).block < g := by rw [block_of_add]; exact hbk
  refine ⟨ad, c, (ad.add i).block, (ad.add i).off, (ad.add i).spot, bx.c0, bx.c1, bx.f1, bx.z, rfl, hcell i h, by omega, hc, decide_eq_true (by omega), ?_⟩
  unfold wrap64; omega
theorem RdrS.sub {w : World} {g : Nat} {src : List Nat} {a : Nat} {V : Value} (m : RdrS w g src a V) : ∃ A c, w.cell? ⟨g, 0, none⟩ = some (.slice A src.length c) ∧ w.cell? ⟨g, 1, none⟩ = some (.int .i64 (a : Int)) ∧ g < w.heap.size ∧ src.length ≤ c ∧
    ∀ i j, i ≤ j → j ≤ src.length → (∀ W, (Instr.slice 22 (.slice A src.length c) (some (.int .i64 (i : Int))) (some (.int .i64 (j : Int))) none).run Try.prog W = .ok (.slice (cutA A c i) (j - i) (c - i)) W) ∧ RB w g (cutA A c i) ((src.drop i).take (j - i)) := by
  obtain ⟨A, c, bx, r, hc⟩ := m.box
  refine ⟨A, c, bx.c0, bx.c1, bx.z, hc, fun i j h1 h2 => ⟨fun W => ?_, ?_⟩⟩
  · rw [run_slice_lh W 22 A src.length c (by kernel_rfl) .i64 .i64 i j (by omega) (by omega) (by omega)]
    simp [go_sem, cutA]
    try omega
  · exact (r.cutA hc).take _
theorem quotS_nil (sign : Nat) (e : Bool) : quotS sign e [] = none := by cases e <;> rfl
theorem quotS_end (sign : Nat) (r : List Nat) (e : Bool) : quotS sign e (10 :: r) = none := by rw [quotS, if_pos rfl]
theorem quotS_hit (sign : Nat) (h : sign ≠ 10) (r : List Nat) : quotS sign false (sign :: r) = some 0 := by rw [quotS, if_neg h]; simp
theorem quotS_go (sign c : Nat) (h : c ≠ 10) (h1 : c ≠ sign) (h2 : c ≠ 92) (r : List Nat) : quotS sign false (c :: r) = (quotS sign false r).map (· + 1) := by
  rw [quotS, if_neg h]; simp [h1, h2]
theorem quotS_esc (sign : Nat) (h1 : 92 ≠ sign) (r : List Nat) : quotS sign false (92 :: r) = (quotS sign true r).map (· + 1) := by
  rw [quotS, if_neg (by decide)]; simp [h1]
theorem quotS_skip (sign d : Nat) (h : d ≠ 10) (r : List Nat) : quotS sign true (d :: r) = (quotS sign false r).map (· + 1) := by
  rw [quotS, if_neg h]; simp
theorem map_shift (q : Option Nat) (a b k : Nat) (h : k = a + b) : (q.map (· + b)).map (fun n => a + n) = q.map (fun n => k + n) := by
  cases q with
  | none => rfl
  | some n => simp only [Option.map_some]; congr 1; omega
def QI (sign : Nat) (src : List Nat) (a k : Nat) (Q : Option Nat) : Prop := (quotS sign false (src.drop k)).map (fun n => (k - (a + 1)) + n) = Q
theorem QI.go {sign : Nat} {src : List Nat} {a k : Nat} {Q : Option Nat} (h : QI sign src a k Q) (hk : k < src.length) (hak : a + 1 ≤ k) (h10 : src[k] ≠ 10) (h1 : src[k] ≠ sign) (h2 : src[k] ≠ 92) : QI sign src a (k + 1) Q := by
  unfold QI at h ⊢
  rw [List.drop_eq_getElem_cons hk, quotS_go _ _ h10 h1 h2, map_shift _ _ _ (k + 1 - (a + 1)) (by omega)] at h
  exact h
theorem QI.esc {sign : Nat} {src : List Nat} {a k : Nat} {Q : Option Nat} (h : QI sign src a k Q) (hk : k < src.length) (hak : a + 1 ≤ k) (h1 : 92 ≠ sign) (h2 : src[k] = 92) (h10 : src.getD (k + 1) 0 ≠ 10) : QI sign src a (k + 2) Q := by
  unfold QI at h ⊢
  rw [List.drop_eq_getElem_cons hk, h2, quotS_esc _ h1] at h
  rcases Nat.lt_or_ge (k + 1) src.length with hl | hl
  · have e : src[k + 1] ≠ 10 := fun e => h10 (by rw [List.getD_eq_getElem?_getD, List.getElem?_eq_getElem hl]; exact e)
    rw [List.drop_eq_getElem_cons hl, quotS_skip _ _ e] at h
    rw [← h]
    show Option.map _ (quotS sign false (src.drop (k + 1 + 1))) = _
    cases quotS sign false (src.drop (k + 1 + 1)) with
    | none => rfl
    | some n => simp only [Option.map_some]; congr 1; omega
  · rw [List.drop_eq_nil_of_le hl, quotS_nil] at h
    rw [List.drop_eq_nil_of_le (by omega), quotS_nil]
    exact h
theorem QI.nl {sign : Nat} {src : List Nat} {a k : Nat} {Q : Option Nat} (h : QI sign src a k Q) (hk : k < src.length) (h1 : 92 ≠ sign) (h2 : src[k] = 92) (h10 : src.getD (k + 1) 0 = 10) : QI sign src a (k + 1) Q := by
  obtain ⟨hl, e⟩ := getD_of (by decide) h10
  unfold QI at h ⊢
  rw [List.drop_eq_getElem_cons hk, h2, quotS_esc _ h1, List.drop_eq_getElem_cons hl, e, quotS_end] at h
  rw [List.drop_eq_getElem_cons hl, e, quotS_end]
  exact h
theorem QI.none_end {sign : Nat} {src : List Nat} {a k : Nat} {Q : Option Nat} (h : QI sign src a k Q) (hk : src.length ≤ k) : Q = none := by
  unfold QI at h
  rw [List.drop_eq_nil_of_le hk, quotS_nil] at h
  exact h.symm
theorem QI.none_nl {sign : Nat} {src : List Nat} {a k : Nat} {Q : Option Nat} (h : QI sign src a k Q) (hk : k < src.length) (h10 : src[k] = 10) : Q = none := by
  unfold QI at h
  rw [List.drop_eq_getElem_cons hk, h10, quotS_end] at h
  exact h.symm
theorem QI.hit {sign : Nat} {src : List Nat} {a k : Nat} {Q : Option Nat} (h : QI sign src a k Q) (hk : k < src.length) (hs : sign ≠ 10) (e : src[k] = sign) : Q = some (k - (a + 1)) := by
  unfold QI at h
  rw [List.drop_eq_getElem_cons hk, e, quotS_hit _ hs] at h
  exact h.symm
theorem meas {L k k' : Nat} {v : Int} (hv : v = (k' : Int)) (h : k < k') (h2 : k < L) : L - (intOf (.int .i64 v)).toNat < L - (intOf (.int .i64 (k : Int))).toNat := by
  subst hv
  show L - (k' : Int).toNat < L - (k : Int).toNat
  rw [Int.toNat_natCast, Int.toNat_natCast]; omega
def QuotPost (g : Nat) (src : List Nat) (a : Nat) (V : Value) (Q : Option Nat) (w : World) (e : Ending) (w' : World) : Prop :=
  (Q = none ∧ (∃ v, e = .returned (.tuple #[.slice none 0 0, v]) ∧ FltV w' w.heap.size v a 7) ∧ Below w.heap.size w w') ∨
  ∃ n A c, Q = some n ∧ a + 1 + n < src.length ∧ e = .returned (.tuple #[.slice A n c, .nilIface]) ∧ n ≤ c ∧ RB w' g A ((src.drop (a + 1)).take n) ∧ RdrS w' g src (a + n + 2) V ∧ Upd g none w w'
set_option maxRecDepth 100000 in
set_option maxHeartbeats 3200000 in
theorem quoted_r {g : Nat} {src : List Nat} {a : Nat} {V : Value} (w : World) (m : RdrS w g src a V) (ha : a < src.length) (sign : Nat) (hs : sign = 34 ∨ sign = 47) :
    Calls Try.prog 56 #[.pointer (some ⟨g, 0, none⟩), .int .u8 (sign : Int)] w (QuotPost g src a V (quotN sign (src.drop (a + 1))) w) := by
  obtain ⟨Q, hQ⟩ : ∃ Q, quotN sign (src.drop (a + 1)) = Q := ⟨_, rfl⟩
  rw [hQ]
  have HQI : Hid (QI sign src a (a + 1) Q) := Lib.hid (by
    unfold QI
    rw [← hQ]
    unfold quotN
    cases quotS sign false (src.drop (a + 1)) <;> simp)
  obtain ⟨A, c, k0, k1, kz, hc, hsub⟩ := m.sub
  have hw0 : wrap64 ((a : Int) + 1) = (a : Int) + 1 := by have := m.len; exact IntWalk.wrap64_in _ (by omega)
  have HM := Lib.hid m
  have HSUB := Lib.hid hsub
  have HLF := Lib.hid (fun W => lfault_any a 7 W)
  clear hQ hsub m
  go_enter Try.func56, Try.ntmps56
  go_wp2_with fail
  go_loopw [7] (fun i wr => ∃ k : Nat, i = .int .i64 (k : Int) ∧ a + 1 ≤ k ∧ k ≤ src.length + 1 ∧ Hid (QI sign src a k Q) ∧ wr = w) (fun i _ => src.length + 1 - (intOf i).toNat)
  case atStart => exact ⟨a + 1, by simp; exact hw0, Nat.le_refl _, by omega, HQI, rfl⟩
  case round =>
    obtain ⟨k, rfl, hak, hk1, HQK, rfl⟩ := hrel
    have HW0 := Lib.hid hw0
    clear hw0
    by_cases hk : k < src.length
    · obtain ⟨ad, c2, sb, qo, sp, k0', _, kf, _, hq, k2, hsg, _, hd, hw1⟩ := HM.out.openi hk
      obtain ⟨rfl, rfl⟩ : A = some ad ∧ c = c2 := by rw [k0] at k0'; simpa using k0'
      clear k0'
      generalize hx : src[k] = x at k2
      by_cases h10 : x = 10
      · subst h10
        have HN := Lib.hid (HQK.out.none_nl hk hx)
        clear hx
        go_wp2_with (first
          | (go_at_call 27; (with_reducible refine (HLF.out _).mono ?_); rintro e w2 ⟨⟨v, rfl, hv⟩, b2⟩; have HV := Lib.hid hv; have HB2 := Lib.hid b2; clear hv b2)
          | fail)
        go_ret2
        exact .inl ⟨HN.out, ⟨_, rfl, HV.out⟩, HB2.out⟩
      · have n1 : ((x : Int) == 10) = false := by rw [beq_eq_false_iff_ne]; exact fun e => h10 (by exact_mod_cast e)
        by_cases hsx : x = sign
        · have n2 : ((x : Int) == (sign : Int)) = true := by rw [hsx]; simp
          have HN := Lib.hid (HQK.out.hit hk (by omega) (hx.trans hsx))
          have hs1 := fun W => (HSUB.out (a + 1) k hak (by omega)).1 W
          have HRB := Lib.hid (HSUB.out (a + 1) k hak (by omega)).2
          have ec : (((a + 1 : Nat) : Int)) = (a : Int) + 1 := by simp
          rw [ec] at hs1
          clear hx
          have hw0 := HW0.out
          go_wp2_with fail
          go_ret2
          refine .inr ⟨k - (a + 1), _, _, HN.out, by omega, rfl, by omega, ?_, HM.out.put' _ _ (by simp; omega), (Upd.refl _ _ _).put _ _⟩
          exact HRB.out.keep fun p hp => World.cell?_setCell_other _ _ _ _ (fun e => by subst e; simp at hp)
        · have n2 : ((x : Int) == (sign : Int)) = false := by rw [beq_eq_false_iff_ne]; exact fun e => hsx (by exact_mod_cast e)
          by_cases h92 : x = 92
          · subst h92
            have HBY := Lib.hid (fun (W : World) (m : RdrS W g src a V) => byteAt_at W m (k + 1) ((k : Int) + 1) (by simp))
            by_cases hn10 : src.getD (k + 1) 0 = 10
            · rw [hn10] at HBY
              have HQ2 := Lib.hid (HQK.out.nl hk (fun e => hsx e) hx hn10)
              clear hx hn10
              go_wp2_with (first
                | (go_at_call 41; (with_reducible refine (HBY.out _ HM.out).mono ?_); rintro e w2 ⟨rfl, rfl⟩)
                | fail)
              go_roundw
              case rel => exact ⟨k + 1, by simp; exact hw1, Nat.le_trans hak (Nat.le_add_right _ _), Nat.le_succ_of_le hk, HQ2, trivial⟩
              case measure => exact meas (k' := k + 1) (by simp; exact hw1) (Nat.lt_add_of_pos_right (by decide)) (Nat.lt_succ_of_lt hk)
            · have hne : (((src.getD (k + 1) 0 : Nat) : Int) == 10) = false := by rw [beq_eq_false_iff_ne]; omega
              have HQ2 := Lib.hid (HQK.out.esc hk hak (fun e => hsx e) hx hn10)
              have hw2 : wrap64 ((k : Int) + 2) = (k : Int) + 2 := by have := HM.out.len; exact IntWalk.wrap64_in _ (by omega)
              have hw3 : wrap64 ((k : Int) + 1 + 1) = (k : Int) + 2 := by rw [Int.add_assoc]; exact hw2
              generalize src.getD (k + 1) 0 = y at HBY hne
              clear hx hn10
              go_wp2_with (first
                | (go_at_call 41; (with_reducible refine (HBY.out _ HM.out).mono ?_); rintro e w2 ⟨rfl, rfl⟩)
                | fail)
              go_roundw
              case rel => exact ⟨k + 2, by simp; exact hw3, Nat.le_trans hak (Nat.le_add_right _ _), Nat.succ_le_succ hk, HQ2, trivial⟩
              case measure => exact meas (k' := k + 2) (by simp; exact hw3) (Nat.lt_add_of_pos_right (by decide)) (Nat.lt_succ_of_lt hk)
          · have n3 : ((x : Int) == 92) = false := by rw [beq_eq_false_iff_ne]; exact fun e => h92 (by exact_mod_cast e)
            have HQ2 := Lib.hid (HQK.out.go hk hak (by rw [hx]; exact h10) (by rw [hx]; exact hsx) (by rw [hx]; exact h92))
            clear hx
            go_wp2_with fail
            go_roundw
            case rel => exact ⟨k + 1, by simp; exact hw1, Nat.le_trans hak (Nat.le_add_right _ _), Nat.le_succ_of_le hk, HQ2, trivial⟩
            case measure => exact meas (k' := k + 1) (by simp; exact hw1) (Nat.lt_add_of_pos_right (by decide)) (Nat.lt_succ_of_lt hk)
    · have hd : decide ((k : Int) < (src.length : Int)) = false := decide_eq_false (fun h => hk (Int.ofNat_lt.1 h))
      have HN := Lib.hid (HQK.out.none_end (Nat.le_of_not_lt hk))
      go_wp2_with (first
        | (go_at_call 27; (with_reducible refine (HLF.out _).mono ?_); rintro e w2 ⟨⟨v, rfl, hv⟩, b2⟩; have HV := Lib.hid hv; have HB2 := Lib.hid b2; clear hv b2)
        | fail)
      go_ret2
      exact .inl ⟨HN.out, ⟨_, rfl, HV.out⟩, HB2.out⟩
open Go.RowKit
theorem tw_go {f : Nat → Bool} (hf : f 0 = false) {src : List Nat} {q : Nat} (h : f (src.getD q 0) = true) : q < src.length ∧ ((src.drop q).takeWhile f).length = ((src.drop (q + 1)).takeWhile f).length + 1 := by
  rcases Nat.lt_or_ge q src.length with hl | hl
  · rw [List.getD_eq_getElem?_getD, List.getElem?_eq_getElem hl, Option.getD_some] at h
    refine ⟨hl, ?_⟩
    rw [List.drop_eq_getElem_cons hl, List.takeWhile_cons, if_pos h, List.length_cons]
  · rw [List.getD_eq_getElem?_getD, List.getElem?_eq_none hl] at h
    rw [show (none : Option Nat).getD 0 = 0 from rfl, hf] at h; cases h
theorem tw_stop {f : Nat → Bool} {src : List Nat} {q : Nat} (h : f (src.getD q 0) = false) : ((src.drop q).takeWhile f).length = 0 := by
  rcases Nat.lt_or_ge q src.length with hl | hl
  · rw [List.getD_eq_getElem?_getD, List.getElem?_eq_getElem hl, Option.getD_some] at h
    rw [List.drop_eq_getElem_cons hl, List.takeWhile_cons, if_neg (by rw [h]; decide)]; rfl
  · rw [List.drop_eq_nil_of_le hl]; rfl
theorem getD_lt {src : List Nat} (h : ∀ x ∈ src, x < 256) (q : Nat) : src.getD q 0 < 256 := by
  rcases Nat.lt_or_ge q src.length with hl | hl
  · rw [List.getD_eq_getElem?_getD, List.getElem?_eq_getElem hl]; exact h _ (List.getElem_mem hl)
  · rw [List.getD_eq_getElem?_getD, List.getElem?_eq_none hl]; decide
theorem measR {w w' : World} {g : Nat} {src : List Nat} {q q' : Nat} {V V' : Value} (m : RdrS w g src q V) (m' : RdrS w' g src q' V') (h : q < q') (h2 : q < src.length) : src.length - (intOf ((w'.cell? ⟨g, 1, none⟩).getD undef)).toNat < src.length - (intOf ((w.cell? ⟨g, 1, none⟩).getD undef)).toNat := by
  obtain ⟨_, _, b, _⟩ := m.box
  obtain ⟨_, _, b', _⟩ := m'.box
  rw [b.c1, b'.c1]
  show src.length - (q' : Int).toNat < src.length - (q : Int).toNat
  rw [Int.toNat_natCast, Int.toNat_natCast]; omega
theorem RdrS.w1 {w : World} {g : Nat} {src : List Nat} {a : Nat} {V : Value} (m : RdrS w g src a V) (h : a ≤ src.length) : wrap64 ((a : Int) + 1) = (a : Int) + 1 := by have := m.len; exact IntWalk.wrap64_in _ (by omega)
theorem nat_step {s t u N : Nat} (h : s + t = N) (h2 : t = u + 1) : s + 1 + u = N := by omega
theorem nat_stop {s t N : Nat} (h : s + t = N) (h2 : t = 0) : s = N := by omega
def tokV (t : TokF) : Value := .agg #[.int .i64 (t.k : Int), .int .i64 (t.at' : Int), .string (strN t.s), .bool (zn t.z), .int .u64 (zh t.z), .int .u64 (zl t.z)]
theorem numL_eq (src : List Nat) (a : Nat) (d : Nat) (hd : ((src.drop a).takeWhile isDig).length = d) : numL (src.drop a) = if src.getD (a + d) 0 = 46 then d + 1 + ((src.drop (a + d + 1)).takeWhile isDig).length else d := by
  unfold numL
  rw [hd]
  dsimp only
  rw [List.drop_drop]
  rcases Nat.lt_or_ge (a + d) src.length with hl | hl
  · rw [List.getD_eq_getElem?_getD, List.getElem?_eq_getElem hl, Option.getD_some, List.drop_eq_getElem_cons hl]
    by_cases h : src[a + d] = 46
    · rw [if_pos h, h]; rfl
    · rw [if_neg h]
      split
      · rename_i e; injection e with e _; exact absurd e h
      · rfl
  · rw [List.drop_eq_nil_of_le hl, List.getD_eq_getElem?_getD, List.getElem?_eq_none hl, if_neg (by decide)]
def NumPost (g : Nat) (src : List Nat) (a : Nat) (V : Value) (T : List Nat) (w : World) (e : Ending) (w' : World) : Prop :=
  (0 < nW T + nB T ∧ 30 < (strip (wholeL T)).length ∧ (∃ v, e = .returned (.tuple #[tokV ⟨0, 0, [], 0⟩, v]) ∧ FltV w' w.heap.size v a 2) ∧ Upd g none w w') ∨
  (¬(0 < nW T + nB T ∧ 30 < (strip (wholeL T)).length) ∧ e = .returned (.tuple #[tokV ⟨2, a, [], numZ T⟩, .nilIface]) ∧ RdrS w' g src (a + T.length) V ∧ Upd g none w w')
theorem prefix_t (A : Option Addr) (c n : Nat) (T : List Nat) (w : World) (B0 : Nat) (hn : T.length = n) (hB0 : B0 ≤ w.heap.size) (hr : RB w B0 A T) (hc : n ≤ c) (hm : n ≤ 1000000) :
    Calls Try.prog 55 #[.slice A n c] w fun e w' => ((0 < nW T + nB T ∧ 30 < (strip (wholeL T)).length ∧ ∃ k, e = .returned (.tuple #[.agg #[.bool false, .int .u64 0, .int .u64 0], .int .i64 k, .iface 71 (.int .i64 2)])) ∨ (¬(0 < nW T + nB T ∧ 30 < (strip (wholeL T)).length) ∧ ∃ k, e = .returned (.tuple #[.agg #[.bool (zn (numZ T)), .int .u64 (zh (numZ T)), .int .u64 (zl (numZ T))], .int .i64 k, .nilIface]))) ∧ Below w.heap.size w w' := by
  subst hn
  refine (prefix_any A c T w B0 hB0 hr hc (by omega)).mono fun e w' h => ⟨?_, h.2⟩
  unfold numZ
  rcases h.1 with ⟨h1, he⟩ | ⟨h1, h2, he⟩ | ⟨h1, h2, he⟩
  · right
    rw [if_pos h1]
    exact ⟨by omega, 0, he⟩
  · exact .inl ⟨h1, h2, _, he⟩
  · right
    rw [if_neg (by omega)]
    exact ⟨by omega, _, he⟩
theorem RdrS.far {w : World} {g : Nat} {src : List Nat} {a : Nat} {V : Value} (m : RdrS w g src a V) {b : Nat} (hb : g < b) (j : Nat) (u : Value) : RdrS (w.setCell ⟨b, j, none⟩ u) g src a V := by
  obtain ⟨A, c, bx, r, hc⟩ := m.box
  exact ⟨⟨A, c, bx.other (Nat.ne_of_gt hb) _ _, r.keep fun p hp => World.cell?_setCell_other _ _ _ _ (fun e => by subst e; exact absurd hp (by show ¬b < g; omega)), hc⟩, m.len⟩
theorem FltV.far {w : World} {B g : Nat} {v : Value} {at' : Nat} {k : Int} (h : FltV w B v at' k) (hg : g < B) (j : Nat) (u : Value) : FltV (w.setCell ⟨g, j, none⟩ u) B v at' k := by
  obtain ⟨b, e, hb, hk⟩ := h
  exact ⟨b, e, hb, hk.far (show b ≠ g by omega) u⟩
theorem FltV.mono {w : World} {B B' : Nat} {v : Value} {at' : Nat} {k : Int} (h : FltV w B v at' k) (hB : B' ≤ B) : FltV w B' v at' k := by
  obtain ⟨b, e, hb, hk⟩ := h
  exact ⟨b, e, Nat.le_trans hB hb, hk⟩
structure NB (g : Nat) (src : List Nat) (N a : Nat) (V : Value) (A : Option Addr) (c : Nat) (w w' : World) : Prop where
  c0 : w'.cell? ⟨g, 0, none⟩ = some (.slice A src.length c)
  r : RdrS w' g src N V
  rb : RB w' g (cutA A c a) ((src.drop a).take (N - a))
  u : Upd g none w w'
  x : Box6 w' w.heap.size (.int .i64 0) (.int .i64 0) (.string { data := #[] }) (.bool false) (.int .u64 0) (.int .u64 0)
theorem NB.next {g : Nat} {src : List Nat} {N a : Nat} {V : Value} {A : Option Addr} {c : Nat} {w w' w2 : World} (h : NB g src N a V A c w w') (q : Below w'.heap.size w' w2) : NB g src N a V A c w w2 :=
  ⟨(q.cell h.r.lt).trans h.c0, h.r.next q, h.rb.keep fun p hp => (q.mono (Nat.le_of_lt h.r.lt)).cell hp, h.u.next q, h.x.below q⟩
theorem nbK {p : Prop} (h : p := by
    (first | exact HNB.out.next (Below.refl _ _).drew | (with_reducible assumption) | (refine NB.next (by with_reducible assumption) (by with_reducible assumption)) | (refine NB.next HNB.out ?_; (repeat' (first | with_reducible (first | exact Below.refl _ _ | refine Below.drew ?_ | refine below_drewN ?_ _ | refine Below.alloc ?_ ?_ _ | refine Below.setCell ?_ ?_ _ | exact Nat.le_refl _) | (simp; done) | (refine Nat.le_trans ?_ (Below.size (by with_reducible assumption)); simp; done))); done) | (refine NB.next (NB.next (by with_reducible assumption) (by with_reducible assumption)) ?_; (repeat' (first | with_reducible (first | exact Below.refl _ _ | refine Below.drew ?_ | refine below_drewN ?_ _ | refine Below.alloc ?_ ?_ _ | refine Below.setCell ?_ ?_ _ | exact Nat.le_refl _) | (simp; done) | (refine Nat.le_trans ?_ (Below.size (by with_reducible assumption)); simp; done))); done) | (refine NB.next (by with_reducible assumption) ?_; (repeat' (first | with_reducible (first | exact Below.refl _ _ | refine Below.drew ?_ | refine below_drewN ?_ _ | refine Below.alloc ?_ ?_ _ | refine Below.setCell ?_ ?_ _ | exact Nat.le_refl _) | (simp; done) | (refine Nat.le_trans ?_ (Below.size (by with_reducible assumption)); simp; done))); done) | (refine NB.next HNB.out ?_; (repeat' (first | with_reducible (first | exact Below.refl _ _ | refine Below.drew ?_ | refine below_drewN ?_ _ | refine Below.alloc ?_ ?_ _ | refine Below.setCell ?_ ?_ _) | (refine Below.trans ?_ (Below.mono (by with_reducible assumption) ?_)) | with_reducible exact Nat.le_refl _ | (simp; done) | (refine Nat.le_trans ?_ (Below.size (by with_reducible assumption)); simp; done))); done) | fail)) : p := h
theorem NB.of {g : Nat} {src : List Nat} {N a : Nat} {V : Value} {w w' : World} (r : RdrS w' g src N V) (u : Upd g none w w') (x : Box6 w' w.heap.size (.int .i64 0) (.int .i64 0) (.string { data := #[] }) (.bool false) (.int .u64 0) (.int .u64 0)) (h1 : a ≤ N) (h2 : N ≤ src.length) :
    ∃ A c, NB g src N a V A c w w' ∧ src.length ≤ c ∧ ∀ W, (Instr.slice 22 (.slice A src.length c) (some (.int .i64 (a : Int))) (some (.int .i64 (N : Int))) none).run Try.prog W = .ok (.slice (cutA A c a) (N - a) (c - a)) W := by
  obtain ⟨A, c, k0, _, _, hc, hs⟩ := r.sub
  exact ⟨A, c, ⟨k0, r, (hs a N h1 h2).2, u, x⟩, hc, (hs a N h1 h2).1⟩
set_option maxRecDepth 100000 in
set_option maxHeartbeats 3200000 in
theorem number_r {g : Nat} {src : List Nat} {a : Nat} {V : Value} (w : World) (m : RdrS w g src a V) (ha : a < src.length) :
    Calls Try.prog 43 #[.pointer (some ⟨g, 0, none⟩)] w (NumPost g src a V ((src.drop a).take (numL (src.drop a))) w) := by
  obtain ⟨d, hd⟩ : ∃ d, ((src.drop a).takeWhile isDig).length = d := ⟨_, rfl⟩
  have hnl := numL_eq src a d hd
  obtain ⟨N, hN⟩ : ∃ N, a + numL (src.drop a) = N := ⟨_, rfl⟩
  have hT : ((src.drop a).take (numL (src.drop a))) = (src.drop a).take (N - a) := by rw [← hN]; congr 1; omega
  rw [hT]
  have HB8 := Lib.hid m.byte
  have HM := Lib.hid (m.next ((Below.refl _ _).alloc (Nat.le_refl _) (.cells #[.int .i64 0, .int .i64 0, .string { data := #[] }, .bool false, .int .u64 0, .int .u64 0] 89)))
  have hgw := m.lt
  have hgw' : g ≠ w.heap.size := Nat.ne_of_lt hgw
  obtain ⟨_, _, _, k1, _⟩ := m.sub
  have HD := Lib.hid hd
  have HNL := Lib.hid hnl
  have HN := Lib.hid hN
  clear hd hnl hN hT m
  go_enter Try.func43, Try.ntmps43
  go_wp2_with fail
  go_loopw [] (fun wr => ∃ q, a ≤ q ∧ q ≤ src.length ∧ Hid (RdrS wr g src q V) ∧ Hid (q + ((src.drop q).takeWhile isDig).length = a + d) ∧ Hid (Upd g none w wr) ∧ Hid (Box6 wr w.heap.size (.int .i64 0) (.int .i64 0) (.string { data := #[] }) (.bool false) (.int .u64 0) (.int .u64 0))) (fun wr => src.length - (intOf ((wr.cell? ⟨g, 1, none⟩).getD undef)).toNat)
  case atStart => exact ⟨a, Nat.le_refl _, Nat.le_of_lt ha, HM, Lib.hid (by rw [HD.out]), Lib.hid ((Upd.refl _ _ _).alloc _), Lib.hid (Box6.make _ _ _ _ _ _ _ _ rfl)⟩
  case round =>
    obtain ⟨q, haq, hq, HQ, HP, HU, HX⟩ := hrel
    obtain ⟨A, c, bx, _, hc⟩ := HQ.out.box
    have k0 := bx.c0
    have k1 := bx.c1
    have kf1 := bx.f1
    have kz := bx.z
    have HBY := Lib.hid (fun (W : World) (m : RdrS W g src q V) => byteAt_at W m q (q : Int) rfl)
    have hy := getD_lt HB8.out q
    have hw1 : wrap64 ((q : Int) + 1) = (q : Int) + 1 := HQ.out.w1 hq
    have HK1 := Lib.hid k1
    clear bx
    cases hdg : isDig (src.getD q 0) with
    | true =>
      have HDG := Lib.hid (fun (W : World) => digit_any (src.getD q 0) hy W)
      rw [hdg] at HDG
      obtain ⟨hlt, htw⟩ := tw_go (f := isDig) (by decide) hdg
      have HP2 := Lib.hid (show q + 1 + ((src.drop (q + 1)).takeWhile isDig).length = a + d by have := HP.out; omega)
      generalize src.getD q 0 = y at HBY HDG
      clear HP hy hdg htw
      go_wp2_with (first
        | (go_at_call 41; (with_reducible refine (HBY.out _ HQ.out).mono ?_); rintro e w2 ⟨rfl, rfl⟩)
        | (go_at_call 42; (with_reducible refine (HDG.out _).mono ?_); rintro e w3 ⟨rfl, rfl⟩)
        | fail)
      go_roundw
      case rel => exact ⟨q + 1, Nat.le_succ_of_le haq, hlt, Lib.hid (HQ.out.put' _ _ (by simp)), HP2, Lib.hid (HU.out.put _ _), Lib.hid (HX.out.other hgw' _ _)⟩
      case measure => exact measR HQ.out (HQ.out.put' (q + 1) _ (by simp)) (Nat.lt_succ_self _) hlt
    | false =>
      have HDG := Lib.hid (fun (W : World) => digit_any (src.getD q 0) hy W)
      rw [hdg] at HDG
      have htw := tw_stop (f := isDig) hdg
      have hqd : q = a + d := by have := HP.out; omega
      have hnl := HNL.out
      rw [← hqd] at hnl
      clear HP hdg htw HNL
      by_cases h46 : src.getD q 0 = 46
      · have n1 : (((src.getD q 0 : Nat) : Int) == 46) = true := by rw [h46]; rfl
        rw [if_pos h46] at hnl
        have hlt : q < src.length := (getD_of (by decide) h46).1
        have HN2 := Lib.hid (show q + 1 + ((src.drop (q + 1)).takeWhile isDig).length = N by have := HN.out; omega)
        generalize src.getD q 0 = y at HBY HDG n1
        clear hy h46 hnl hqd
        go_wp2_with (first
          | (go_at_call 41; (with_reducible refine (HBY.out _ HQ.out).mono ?_); rintro e w2 ⟨rfl, rfl⟩)
          | (go_at_call 42; (with_reducible refine (HDG.out _).mono ?_); rintro e w3 ⟨rfl, rfl⟩)
          | fail)
        go_loopw [] (fun wx => ∃ s, q + 1 ≤ s ∧ s ≤ src.length ∧ Hid (RdrS wx g src s V) ∧ Hid (s + ((src.drop s).takeWhile isDig).length = N) ∧ Hid (Upd g none w wx) ∧ Hid (Box6 wx w.heap.size (.int .i64 0) (.int .i64 0) (.string { data := #[] }) (.bool false) (.int .u64 0) (.int .u64 0))) (fun wx => src.length - (intOf ((wx.cell? ⟨g, 1, none⟩).getD undef)).toNat)
        case atStart => exact ⟨q + 1, Nat.le_refl _, hlt, Lib.hid (HQ.out.put' _ _ (by simp)), HN2, Lib.hid (HU.out.put _ _), Lib.hid (HX.out.other hgw' _ _)⟩
        case round =>
          clear k0 k1 kf1 kz hw1 HBY HDG n1
          obtain ⟨s, hqs, hs, HQs, HPs, HUs, HXs⟩ := hrel
          obtain ⟨A2, c2, bx2, _, hc2⟩ := HQs.out.box
          have k0 := bx2.c0
          have k1 := bx2.c1
          have kf1 := bx2.f1
          have kz := bx2.z
          have HBY := Lib.hid (fun (W : World) (m : RdrS W g src s V) => byteAt_at W m s (s : Int) rfl)
          have hy := getD_lt HB8.out s
          have hw1 : wrap64 ((s : Int) + 1) = (s : Int) + 1 := HQs.out.w1 hs
          clear bx2
          cases hdg : isDig (src.getD s 0) with
          | true =>
            have HDG := Lib.hid (fun (W : World) => digit_any (src.getD s 0) hy W)
            rw [hdg] at HDG
            obtain ⟨hlt2, htw⟩ := tw_go (f := isDig) (by decide) hdg
            have HP2 := Lib.hid (show s + 1 + ((src.drop (s + 1)).takeWhile isDig).length = N from nat_step HPs.out htw)
            generalize src.getD s 0 = y2 at HBY HDG
            clear HPs hy hdg htw
            go_wp2_with (first
              | (go_at_call 41; (with_reducible refine (HBY.out _ HQs.out).mono ?_); rintro e w2 ⟨rfl, rfl⟩)
              | (go_at_call 42; (with_reducible refine (HDG.out _).mono ?_); rintro e w3 ⟨rfl, rfl⟩)
              | fail)
            go_roundw
            case rel => exact ⟨s + 1, Nat.le_succ_of_le hqs, hlt2, Lib.hid (HQs.out.put' _ _ (by simp)), HP2, Lib.hid (HUs.out.put _ _), Lib.hid (HXs.out.other hgw' _ _)⟩
            case measure => exact measR HQs.out (HQs.out.put' (s + 1) _ (by simp)) (Nat.lt_succ_self _) hlt2
          | false =>
            have HDG := Lib.hid (fun (W : World) => digit_any (src.getD s 0) hy W)
            rw [hdg] at HDG
            have htw := tw_stop (f := isDig) hdg
            obtain rfl : s = N := nat_stop HPs.out htw
            generalize src.getD s 0 = y2 at HBY HDG
            clear HPs hy hdg htw
            go_upto_region 8 with (first
              | (go_at_call 41; (with_reducible refine (HBY.out _ HQs.out).mono ?_); rintro e w2 ⟨rfl, rfl⟩)
              | (go_at_call 42; (with_reducible refine (HDG.out _).mono ?_); rintro e w3 ⟨rfl, rfl⟩)
              | fail)
            obtain ⟨A5, c5, hnb, hc5, hs5⟩ := NB.of HQs.out HUs.out HXs.out (Nat.le_trans haq (Nat.le_of_succ_le hqs)) hs
            have HNB := Lib.hid hnb
            have HTL : Hid (((src.drop a).take (s - a)).length = s - a) := Lib.hid (by rw [List.length_take, List.length_drop]; omega)
            clear hnb
            by_cases hov : 0 < nW ((src.drop a).take (s - a)) + nB ((src.drop a).take (s - a)) ∧ 30 < (strip (wholeL ((src.drop a).take (s - a)))).length
            · have HPF := Lib.hid (fun (W : World) (h : NB g src s a V A5 c5 w W) => (prefix_t (cutA A5 c5 a) (c5 - a) (s - a) ((src.drop a).take (s - a)) W g HTL.out (Nat.le_of_lt h.r.lt) h.rb (by omega) (by have := h.r.len; omega)).mono fun e w' p => show (∃ k, e = .returned (.tuple #[.agg #[.bool false, .int .u64 0, .int .u64 0], .int .i64 k, .iface 71 (.int .i64 2)])) ∧ Below W.heap.size W w' from ⟨by
                  rcases p.1 with ⟨h1, h2, k, he⟩ | ⟨h1, k, he⟩
                  · exact ⟨k, he⟩
                  · exact absurd hov h1, p.2⟩)
              have HOV := Lib.hid hov
              generalize (src.drop a).take (s - a) = T at *
              clear hov
              refine wp_region_held_drew (S := (fun w' => NB g src s a V A5 c5 w w')) (by kernel_rfl) ?_ (fun hHeld => ?_)
              · (try dsimp only)
                (exact nbK)
              refine h4_b [0, 1, 2, 3, 4, 5, 6, 7, 8, 9] ?_
              (repeat (refine h4_p rfl (by kernel_rfl) (fun _ _ _ h => h) (by rfl) hHeld (by intro wS hSw; obtain ⟨k0, hRd, _, _, hXd⟩ := hSw; have k1 := (RdrS.sub hRd).choose_spec.choose_spec.2.1; have kz := RdrS.lt hRd; go_simp; (try with_reducible rfl)) ?_; (try simp only [Act.put, List.setIfInBounds_toArray, List.set_cons_zero, List.set_cons_succ])))
              refine h4_e ?_
              refine wpAnyH_ready (rs := [10, 15]) (by kernel_rfl) (by simp) ?_
              refine (h4_cons rfl (fun K hK => ?_) (h4_cons rfl (fun K hK => ?_) AllReadyH.nil))
              · go_simp
                ((go_at_call 55; (with_reducible refine (HPF.out _ (by with_reducible assumption)).mono ?_); rintro e w5 ⟨⟨kk, rfl⟩, b5⟩; (try (have bz := Lib.hid (Box3.below (by first | exact Box3.make _ _ _ _ _ rfl | exact (Box3.make _ _ _ _ _ rfl).drew) b5); have y0 := bz.out.c0; have y1 := bz.out.c1; have y2 := bz.out.c2; have y3 := bz.out.f0; have y4 := bz.out.f1; have y5 := bz.out.f2; have y6 := bz.out.z))))
                (try go_wp2_with fail)
                refine hK.out _ _ ?_ (fun hHeld1 => ?_)
                · (try dsimp only)
                  (exact nbK)
                clear hK K hHeld
                try simp only [Act.put, List.setIfInBounds_toArray, List.set_cons_zero, List.set_cons_succ]
                refine h4_b [11, 12, 13, 14] ?_
                (repeat (refine h4_p rfl (by kernel_rfl) (fun _ _ _ h => h) (by rfl) hHeld1 (by intro wS hSw; obtain ⟨k0, hRd, _, _, hXd⟩ := hSw; have k1 := (RdrS.sub hRd).choose_spec.choose_spec.2.1; have kz := RdrS.lt hRd; go_simp; (try with_reducible rfl)) ?_; (try simp only [Act.put, List.setIfInBounds_toArray, List.set_cons_zero, List.set_cons_succ])))
                refine h4_e ?_
                refine wpAnyH_ready (rs := [15]) (by kernel_rfl) (by simp) ?_
                refine (h4_cons rfl (fun K hK => ?_) AllReadyH.nil)
                go_simp
                refine hK.out _ _ ?_ (fun hHeld2 => ?_)
                · (try dsimp only)
                  (exact nbK)
                clear hK K hHeld1
                try simp only [Act.put, List.setIfInBounds_toArray, List.set_cons_zero, List.set_cons_succ]
                refine wpAnyH_ready (rs := [16]) (by kernel_rfl) (by simp) ?_
                refine (h4_cons rfl (fun K hK => ?_) AllReadyH.nil)
                go_simp
                refine hK.out _ _ ?_ (fun hHeld3 => ?_)
                · (try dsimp only)
                  (exact nbK)
                clear hK K hHeld2
                try simp only [Act.put, List.setIfInBounds_toArray, List.set_cons_zero, List.set_cons_succ]
                refine h4_b [17, 18] ?_
                (repeat (refine h4_p rfl (by kernel_rfl) (fun _ _ _ h => h) (by rfl) hHeld3 (by intro wS hSw; obtain ⟨k0, hRd, _, _, hXd⟩ := hSw; have k1 := (RdrS.sub hRd).choose_spec.choose_spec.2.1; have kz := RdrS.lt hRd; go_simp; (try with_reducible rfl)) ?_; (try simp only [Act.put, List.setIfInBounds_toArray, List.set_cons_zero, List.set_cons_succ])))
                refine h4_e ?_
                refine wpAnyH_done (by kernel_rfl) ?_ _
                have HNF := Lib.hid ‹NB g src s a V A5 c5 w _›
                clear HNB HPF
                obtain ⟨x0, x1, x2, x3, x4, x5, f0, f1, f2, f3, f4, f5, xz⟩ := HNF.out.x
                go_wp2_with (first
                  | (go_at_call 27; (with_reducible refine (lfault_any a 2 _).mono ?_); rintro e w6 ⟨⟨v, rfl, hv⟩, b6⟩; clear x0 x1 x2 x3 x4 x5 f0 f1 f2 f3 f4 f5; have HX6 := Lib.hid (HNF.out.x.below b6); obtain ⟨x0, x1, x2, x3, x4, x5, f0, f1, f2, f3, f4, f5, _⟩ := HX6.out; have HV := Lib.hid hv; have HU6 := Lib.hid (HNF.out.u.next b6); clear hv b6)
                  | fail)
                (try simp only [Exit.inBlock, Exit.then]); refine bodyPost_ret (by simp [results, Try.results43, go_sem, *]; try rfl) rfl ?_
                exact .inl ⟨HOV.out.1, HOV.out.2, ⟨_, rfl, ((((((HV.out.far HNF.out.x.z _ _).far HNF.out.x.z _ _).far HNF.out.x.z _ _).far HNF.out.x.z _ _).far HNF.out.x.z _ _).far HNF.out.x.z _ _).mono (Nat.le_of_lt HNF.out.x.z)⟩, (((((HU6.out.fresh (Nat.le_refl _) _ _).fresh (Nat.le_refl _) _ _).fresh (Nat.le_refl _) _ _).fresh (Nat.le_refl _) _ _).fresh (Nat.le_refl _) _ _).fresh (Nat.le_refl _) _ _⟩
              · go_simp
                refine hK.out _ _ ?_ (fun hHeld4 => ?_)
                · (try dsimp only)
                  (exact nbK)
                clear hK K hHeld
                try simp only [Act.put, List.setIfInBounds_toArray, List.set_cons_zero, List.set_cons_succ]
                refine wpAnyH_ready (rs := [10]) (by kernel_rfl) (by simp) ?_
                refine (h4_cons rfl (fun K hK => ?_) AllReadyH.nil)
                go_simp
                ((go_at_call 55; (with_reducible refine (HPF.out _ (by with_reducible assumption)).mono ?_); rintro e w5 ⟨⟨kk, rfl⟩, b5⟩; (try (have bz := Lib.hid (Box3.below (by first | exact Box3.make _ _ _ _ _ rfl | exact (Box3.make _ _ _ _ _ rfl).drew) b5); have y0 := bz.out.c0; have y1 := bz.out.c1; have y2 := bz.out.c2; have y3 := bz.out.f0; have y4 := bz.out.f1; have y5 := bz.out.f2; have y6 := bz.out.z))))
                (try go_wp2_with fail)
                refine hK.out _ _ ?_ (fun hHeld5 => ?_)
                · (try dsimp only)
                  (exact nbK)
                clear hK K hHeld4
                try simp only [Act.put, List.setIfInBounds_toArray, List.set_cons_zero, List.set_cons_succ]
                refine h4_b [11, 12, 13, 14] ?_
                (repeat (refine h4_p rfl (by kernel_rfl) (fun _ _ _ h => h) (by rfl) hHeld5 (by intro wS hSw; obtain ⟨k0, hRd, _, _, hXd⟩ := hSw; have k1 := (RdrS.sub hRd).choose_spec.choose_spec.2.1; have kz := RdrS.lt hRd; go_simp; (try with_reducible rfl)) ?_; (try simp only [Act.put, List.setIfInBounds_toArray, List.set_cons_zero, List.set_cons_succ])))
                refine h4_e ?_
                refine wpAnyH_ready (rs := [16]) (by kernel_rfl) (by simp) ?_
                refine (h4_cons rfl (fun K hK => ?_) AllReadyH.nil)
                go_simp
                refine hK.out _ _ ?_ (fun hHeld6 => ?_)
                · (try dsimp only)
                  (exact nbK)
                clear hK K hHeld5
                try simp only [Act.put, List.setIfInBounds_toArray, List.set_cons_zero, List.set_cons_succ]
                refine h4_b [17, 18] ?_
                (repeat (refine h4_p rfl (by kernel_rfl) (fun _ _ _ h => h) (by rfl) hHeld6 (by intro wS hSw; obtain ⟨k0, hRd, _, _, hXd⟩ := hSw; have k1 := (RdrS.sub hRd).choose_spec.choose_spec.2.1; have kz := RdrS.lt hRd; go_simp; (try with_reducible rfl)) ?_; (try simp only [Act.put, List.setIfInBounds_toArray, List.set_cons_zero, List.set_cons_succ])))
                refine h4_e ?_
                refine wpAnyH_done (by kernel_rfl) ?_ _
                have HNF := Lib.hid ‹NB g src s a V A5 c5 w _›
                clear HNB HPF
                obtain ⟨x0, x1, x2, x3, x4, x5, f0, f1, f2, f3, f4, f5, xz⟩ := HNF.out.x
                go_wp2_with (first
                  | (go_at_call 27; (with_reducible refine (lfault_any a 2 _).mono ?_); rintro e w6 ⟨⟨v, rfl, hv⟩, b6⟩; clear x0 x1 x2 x3 x4 x5 f0 f1 f2 f3 f4 f5; have HX6 := Lib.hid (HNF.out.x.below b6); obtain ⟨x0, x1, x2, x3, x4, x5, f0, f1, f2, f3, f4, f5, _⟩ := HX6.out; have HV := Lib.hid hv; have HU6 := Lib.hid (HNF.out.u.next b6); clear hv b6)
                  | fail)
                (try simp only [Exit.inBlock, Exit.then]); refine bodyPost_ret (by simp [results, Try.results43, go_sem, *]; try rfl) rfl ?_
                exact .inl ⟨HOV.out.1, HOV.out.2, ⟨_, rfl, ((((((HV.out.far HNF.out.x.z _ _).far HNF.out.x.z _ _).far HNF.out.x.z _ _).far HNF.out.x.z _ _).far HNF.out.x.z _ _).far HNF.out.x.z _ _).mono (Nat.le_of_lt HNF.out.x.z)⟩, (((((HU6.out.fresh (Nat.le_refl _) _ _).fresh (Nat.le_refl _) _ _).fresh (Nat.le_refl _) _ _).fresh (Nat.le_refl _) _ _).fresh (Nat.le_refl _) _ _).fresh (Nat.le_refl _) _ _⟩
            · have HPF := Lib.hid (fun (W : World) (h : NB g src s a V A5 c5 w W) => (prefix_t (cutA A5 c5 a) (c5 - a) (s - a) ((src.drop a).take (s - a)) W g HTL.out (Nat.le_of_lt h.r.lt) h.rb (by omega) (by have := h.r.len; omega)).mono fun e w' p => show (∃ k, e = .returned (.tuple #[.agg #[.bool (zn (numZ ((src.drop a).take (s - a)))), .int .u64 (zh (numZ ((src.drop a).take (s - a)))), .int .u64 (zl (numZ ((src.drop a).take (s - a))))], .int .i64 k, .nilIface])) ∧ Below W.heap.size W w' from ⟨by
                  rcases p.1 with ⟨h1, h2, k, he⟩ | ⟨h1, k, he⟩
                  · exact absurd ⟨h1, h2⟩ hov
                  · exact ⟨k, he⟩, p.2⟩)
              have HOV := Lib.hid hov
              generalize (src.drop a).take (s - a) = T at *
              clear hov
              refine wp_region_held_drew (S := (fun w' => NB g src s a V A5 c5 w w')) (by kernel_rfl) ?_ (fun hHeld => ?_)
              · (try dsimp only)
                (exact nbK)
              refine h4_b [0, 1, 2, 3, 4, 5, 6, 7, 8, 9] ?_
              (repeat (refine h4_p rfl (by kernel_rfl) (fun _ _ _ h => h) (by rfl) hHeld (by intro wS hSw; obtain ⟨k0, hRd, _, _, hXd⟩ := hSw; have k1 := (RdrS.sub hRd).choose_spec.choose_spec.2.1; have kz := RdrS.lt hRd; go_simp; (try with_reducible rfl)) ?_; (try simp only [Act.put, List.setIfInBounds_toArray, List.set_cons_zero, List.set_cons_succ])))
              refine h4_e ?_
              refine wpAnyH_ready (rs := [10, 15]) (by kernel_rfl) (by simp) ?_
              refine (h4_cons rfl (fun K hK => ?_) (h4_cons rfl (fun K hK => ?_) AllReadyH.nil))
              · go_simp
                ((go_at_call 55; (with_reducible refine (HPF.out _ (by with_reducible assumption)).mono ?_); rintro e w5 ⟨⟨kk, rfl⟩, b5⟩; (try (have bz := Lib.hid (Box3.below (by first | exact Box3.make _ _ _ _ _ rfl | exact (Box3.make _ _ _ _ _ rfl).drew) b5); have y0 := bz.out.c0; have y1 := bz.out.c1; have y2 := bz.out.c2; have y3 := bz.out.f0; have y4 := bz.out.f1; have y5 := bz.out.f2; have y6 := bz.out.z))))
                (try go_wp2_with fail)
                refine hK.out _ _ ?_ (fun hHeld7 => ?_)
                · (try dsimp only)
                  (exact nbK)
                clear hK K hHeld
                try simp only [Act.put, List.setIfInBounds_toArray, List.set_cons_zero, List.set_cons_succ]
                refine h4_b [11, 12, 13, 14] ?_
                (repeat (refine h4_p rfl (by kernel_rfl) (fun _ _ _ h => h) (by rfl) hHeld7 (by intro wS hSw; obtain ⟨k0, hRd, _, _, hXd⟩ := hSw; have k1 := (RdrS.sub hRd).choose_spec.choose_spec.2.1; have kz := RdrS.lt hRd; go_simp; (try with_reducible rfl)) ?_; (try simp only [Act.put, List.setIfInBounds_toArray, List.set_cons_zero, List.set_cons_succ])))
                refine h4_e ?_
                refine wpAnyH_ready (rs := [15]) (by kernel_rfl) (by simp) ?_
                refine (h4_cons rfl (fun K hK => ?_) AllReadyH.nil)
                go_simp
                refine hK.out _ _ ?_ (fun hHeld8 => ?_)
                · (try dsimp only)
                  (exact nbK)
                clear hK K hHeld7
                try simp only [Act.put, List.setIfInBounds_toArray, List.set_cons_zero, List.set_cons_succ]
                refine wpAnyH_ready (rs := [16]) (by kernel_rfl) (by simp) ?_
                refine (h4_cons rfl (fun K hK => ?_) AllReadyH.nil)
                go_simp
                refine hK.out _ _ ?_ (fun hHeld9 => ?_)
                · (try dsimp only)
                  (exact nbK)
                clear hK K hHeld8
                try simp only [Act.put, List.setIfInBounds_toArray, List.set_cons_zero, List.set_cons_succ]
                refine h4_b [17, 18] ?_
                (repeat (refine h4_p rfl (by kernel_rfl) (fun _ _ _ h => h) (by rfl) hHeld9 (by intro wS hSw; obtain ⟨k0, hRd, _, _, hXd⟩ := hSw; have k1 := (RdrS.sub hRd).choose_spec.choose_spec.2.1; have kz := RdrS.lt hRd; go_simp; (try with_reducible rfl)) ?_; (try simp only [Act.put, List.setIfInBounds_toArray, List.set_cons_zero, List.set_cons_succ])))
                refine h4_e ?_
                refine wpAnyH_done (by kernel_rfl) ?_ _
                have HNF := Lib.hid ‹NB g src s a V A5 c5 w _›
                clear HNB HPF
                obtain ⟨x0, x1, x2, x3, x4, x5, f0, f1, f2, f3, f4, f5, xz⟩ := HNF.out.x
                go_wp2_with fail
                (try simp only [Exit.inBlock, Exit.then]); refine bodyPost_ret (by simp [results, Try.results43, go_sem, *]; try rfl) rfl ?_
                refine .inr ⟨HOV.out, rfl, ?_, (((((HNF.out.u.fresh (Nat.le_refl _) _ _).fresh (Nat.le_refl _) _ _).fresh (Nat.le_refl _) _ _).fresh (Nat.le_refl _) _ _).fresh (Nat.le_refl _) _ _).fresh (Nat.le_refl _) _ _⟩
                have hTe : a + T.length = s := by rw [HTL.out]; exact Nat.add_sub_cancel' (Nat.le_trans haq (Nat.le_of_succ_le hqs))
                rw [hTe]
                exact (((((HNF.out.r.far hgw _ _).far hgw _ _).far hgw _ _).far hgw _ _).far hgw _ _).far hgw _ _
              · go_simp
                refine hK.out _ _ ?_ (fun hHeld10 => ?_)
                · (try dsimp only)
                  (exact nbK)
                clear hK K hHeld
                try simp only [Act.put, List.setIfInBounds_toArray, List.set_cons_zero, List.set_cons_succ]
                refine wpAnyH_ready (rs := [10]) (by kernel_rfl) (by simp) ?_
                refine (h4_cons rfl (fun K hK => ?_) AllReadyH.nil)
                go_simp
                ((go_at_call 55; (with_reducible refine (HPF.out _ (by with_reducible assumption)).mono ?_); rintro e w5 ⟨⟨kk, rfl⟩, b5⟩; (try (have bz := Lib.hid (Box3.below (by first | exact Box3.make _ _ _ _ _ rfl | exact (Box3.make _ _ _ _ _ rfl).drew) b5); have y0 := bz.out.c0; have y1 := bz.out.c1; have y2 := bz.out.c2; have y3 := bz.out.f0; have y4 := bz.out.f1; have y5 := bz.out.f2; have y6 := bz.out.z))))
                (try go_wp2_with fail)
                refine hK.out _ _ ?_ (fun hHeld11 => ?_)
                · (try dsimp only)
                  (exact nbK)
                clear hK K hHeld10
                try simp only [Act.put, List.setIfInBounds_toArray, List.set_cons_zero, List.set_cons_succ]
                refine h4_b [11, 12, 13, 14] ?_
                (repeat (refine h4_p rfl (by kernel_rfl) (fun _ _ _ h => h) (by rfl) hHeld11 (by intro wS hSw; obtain ⟨k0, hRd, _, _, hXd⟩ := hSw; have k1 := (RdrS.sub hRd).choose_spec.choose_spec.2.1; have kz := RdrS.lt hRd; go_simp; (try with_reducible rfl)) ?_; (try simp only [Act.put, List.setIfInBounds_toArray, List.set_cons_zero, List.set_cons_succ])))
                refine h4_e ?_
                refine wpAnyH_ready (rs := [16]) (by kernel_rfl) (by simp) ?_
                refine (h4_cons rfl (fun K hK => ?_) AllReadyH.nil)
                go_simp
                refine hK.out _ _ ?_ (fun hHeld12 => ?_)
                · (try dsimp only)
                  (exact nbK)
                clear hK K hHeld11
                try simp only [Act.put, List.setIfInBounds_toArray, List.set_cons_zero, List.set_cons_succ]
                refine h4_b [17, 18] ?_
                (repeat (refine h4_p rfl (by kernel_rfl) (fun _ _ _ h => h) (by rfl) hHeld12 (by intro wS hSw; obtain ⟨k0, hRd, _, _, hXd⟩ := hSw; have k1 := (RdrS.sub hRd).choose_spec.choose_spec.2.1; have kz := RdrS.lt hRd; go_simp; (try with_reducible rfl)) ?_; (try simp only [Act.put, List.setIfInBounds_toArray, List.set_cons_zero, List.set_cons_succ])))
                refine h4_e ?_
                refine wpAnyH_done (by kernel_rfl) ?_ _
                have HNF := Lib.hid ‹NB g src s a V A5 c5 w _›
                clear HNB HPF
                obtain ⟨x0, x1, x2, x3, x4, x5, f0, f1, f2, f3, f4, f5, xz⟩ := HNF.out.x
                go_wp2_with fail
                (try simp only [Exit.inBlock, Exit.then]); refine bodyPost_ret (by simp [results, Try.results43, go_sem, *]; try rfl) rfl ?_
                refine .inr ⟨HOV.out, rfl, ?_, (((((HNF.out.u.fresh (Nat.le_refl _) _ _).fresh (Nat.le_refl _) _ _).fresh (Nat.le_refl _) _ _).fresh (Nat.le_refl _) _ _).fresh (Nat.le_refl _) _ _).fresh (Nat.le_refl _) _ _⟩
                have hTe : a + T.length = s := by rw [HTL.out]; exact Nat.add_sub_cancel' (Nat.le_trans haq (Nat.le_of_succ_le hqs))
                rw [hTe]
                exact (((((HNF.out.r.far hgw _ _).far hgw _ _).far hgw _ _).far hgw _ _).far hgw _ _).far hgw _ _
      · have n1 : (((src.getD q 0 : Nat) : Int) == 46) = false := by rw [beq_eq_false_iff_ne]; exact fun e => h46 (by exact_mod_cast e)
        rw [if_neg h46] at hnl
        obtain rfl : q = N := by have := HN.out; omega
        generalize src.getD q 0 = y at HBY HDG n1
        clear hy h46 hnl hqd
        go_upto_region 8 with (first
          | (go_at_call 41; (with_reducible refine (HBY.out _ HQ.out).mono ?_); rintro e w2 ⟨rfl, rfl⟩)
          | (go_at_call 42; (with_reducible refine (HDG.out _).mono ?_); rintro e w3 ⟨rfl, rfl⟩)
          | fail)
        obtain ⟨A5, c5, hnb, hc5, hs5⟩ := NB.of HQ.out HU.out HX.out haq hq
        have HNB := Lib.hid hnb
        have HTL : Hid (((src.drop a).take (q - a)).length = q - a) := Lib.hid (by rw [List.length_take, List.length_drop]; omega)
        clear hnb
        by_cases hov : 0 < nW ((src.drop a).take (q - a)) + nB ((src.drop a).take (q - a)) ∧ 30 < (strip (wholeL ((src.drop a).take (q - a)))).length
        · have HPF := Lib.hid (fun (W : World) (h : NB g src q a V A5 c5 w W) => (prefix_t (cutA A5 c5 a) (c5 - a) (q - a) ((src.drop a).take (q - a)) W g HTL.out (Nat.le_of_lt h.r.lt) h.rb (by omega) (by have := h.r.len; omega)).mono fun e w' p => show (∃ k, e = .returned (.tuple #[.agg #[.bool false, .int .u64 0, .int .u64 0], .int .i64 k, .iface 71 (.int .i64 2)])) ∧ Below W.heap.size W w' from ⟨by
              rcases p.1 with ⟨h1, h2, k, he⟩ | ⟨h1, k, he⟩
              · exact ⟨k, he⟩
              · exact absurd hov h1, p.2⟩)
          have HOV := Lib.hid hov
          generalize (src.drop a).take (q - a) = T at *
          clear hov
          refine wp_region_held_drew (S := (fun w' => NB g src q a V A5 c5 w w')) (by kernel_rfl) ?_ (fun hHeld => ?_)
          · (try dsimp only)
            (exact nbK)
          refine h4_b [0, 1, 2, 3, 4, 5, 6, 7, 8, 9] ?_
          (repeat (refine h4_p rfl (by kernel_rfl) (fun _ _ _ h => h) (by rfl) hHeld (by intro wS hSw; obtain ⟨k0, hRd, _, _, hXd⟩ := hSw; have k1 := (RdrS.sub hRd).choose_spec.choose_spec.2.1; have kz := RdrS.lt hRd; go_simp; (try with_reducible rfl)) ?_; (try simp only [Act.put, List.setIfInBounds_toArray, List.set_cons_zero, List.set_cons_succ])))
          refine h4_e ?_
          refine wpAnyH_ready (rs := [10, 15]) (by kernel_rfl) (by simp) ?_
          refine (h4_cons rfl (fun K hK => ?_) (h4_cons rfl (fun K hK => ?_) AllReadyH.nil))
          · go_simp
            ((go_at_call 55; (with_reducible refine (HPF.out _ (by with_reducible assumption)).mono ?_); rintro e w5 ⟨⟨kk, rfl⟩, b5⟩; (try (have bz := Lib.hid (Box3.below (by first | exact Box3.make _ _ _ _ _ rfl | exact (Box3.make _ _ _ _ _ rfl).drew) b5); have y0 := bz.out.c0; have y1 := bz.out.c1; have y2 := bz.out.c2; have y3 := bz.out.f0; have y4 := bz.out.f1; have y5 := bz.out.f2; have y6 := bz.out.z))))
            (try go_wp2_with fail)
            refine hK.out _ _ ?_ (fun hHeld13 => ?_)
            · (try dsimp only)
              (exact nbK)
            clear hK K hHeld
            try simp only [Act.put, List.setIfInBounds_toArray, List.set_cons_zero, List.set_cons_succ]
            refine h4_b [11, 12, 13, 14] ?_
            (repeat (refine h4_p rfl (by kernel_rfl) (fun _ _ _ h => h) (by rfl) hHeld13 (by intro wS hSw; obtain ⟨k0, hRd, _, _, hXd⟩ := hSw; have k1 := (RdrS.sub hRd).choose_spec.choose_spec.2.1; have kz := RdrS.lt hRd; go_simp; (try with_reducible rfl)) ?_; (try simp only [Act.put, List.setIfInBounds_toArray, List.set_cons_zero, List.set_cons_succ])))
            refine h4_e ?_
            refine wpAnyH_ready (rs := [15]) (by kernel_rfl) (by simp) ?_
            refine (h4_cons rfl (fun K hK => ?_) AllReadyH.nil)
            go_simp
            refine hK.out _ _ ?_ (fun hHeld14 => ?_)
            · (try dsimp only)
              (exact nbK)
            clear hK K hHeld13
            try simp only [Act.put, List.setIfInBounds_toArray, List.set_cons_zero, List.set_cons_succ]
            refine wpAnyH_ready (rs := [16]) (by kernel_rfl) (by simp) ?_
            refine (h4_cons rfl (fun K hK => ?_) AllReadyH.nil)
            go_simp
            refine hK.out _ _ ?_ (fun hHeld15 => ?_)
            · (try dsimp only)
              (exact nbK)
            clear hK K hHeld14
            try simp only [Act.put, List.setIfInBounds_toArray, List.set_cons_zero, List.set_cons_succ]
            refine h4_b [17, 18] ?_
            (repeat (refine h4_p rfl (by kernel_rfl) (fun _ _ _ h => h) (by rfl) hHeld15 (by intro wS hSw; obtain ⟨k0, hRd, _, _, hXd⟩ := hSw; have k1 := (RdrS.sub hRd).choose_spec.choose_spec.2.1; have kz := RdrS.lt hRd; go_simp; (try with_reducible rfl)) ?_; (try simp only [Act.put, List.setIfInBounds_toArray, List.set_cons_zero, List.set_cons_succ])))
            refine h4_e ?_
            refine wpAnyH_done (by kernel_rfl) ?_ _
            have HNF := Lib.hid ‹NB g src q a V A5 c5 w _›
            clear HNB HPF
            obtain ⟨x0, x1, x2, x3, x4, x5, f0, f1, f2, f3, f4, f5, xz⟩ := HNF.out.x
            go_wp2_with (first
              | (go_at_call 27; (with_reducible refine (lfault_any a 2 _).mono ?_); rintro e w6 ⟨⟨v, rfl, hv⟩, b6⟩; clear x0 x1 x2 x3 x4 x5 f0 f1 f2 f3 f4 f5; have HX6 := Lib.hid (HNF.out.x.below b6); obtain ⟨x0, x1, x2, x3, x4, x5, f0, f1, f2, f3, f4, f5, _⟩ := HX6.out; have HV := Lib.hid hv; have HU6 := Lib.hid (HNF.out.u.next b6); clear hv b6)
              | fail)
            (try simp only [Exit.inBlock, Exit.then]); refine bodyPost_ret (by simp [results, Try.results43, go_sem, *]; try rfl) rfl ?_
            exact .inl ⟨HOV.out.1, HOV.out.2, ⟨_, rfl, ((((((HV.out.far HNF.out.x.z _ _).far HNF.out.x.z _ _).far HNF.out.x.z _ _).far HNF.out.x.z _ _).far HNF.out.x.z _ _).far HNF.out.x.z _ _).mono (Nat.le_of_lt HNF.out.x.z)⟩, (((((HU6.out.fresh (Nat.le_refl _) _ _).fresh (Nat.le_refl _) _ _).fresh (Nat.le_refl _) _ _).fresh (Nat.le_refl _) _ _).fresh (Nat.le_refl _) _ _).fresh (Nat.le_refl _) _ _⟩
          · go_simp
            refine hK.out _ _ ?_ (fun hHeld16 => ?_)
            · (try dsimp only)
              (exact nbK)
            clear hK K hHeld
            try simp only [Act.put, List.setIfInBounds_toArray, List.set_cons_zero, List.set_cons_succ]
            refine wpAnyH_ready (rs := [10]) (by kernel_rfl) (by simp) ?_
            refine (h4_cons rfl (fun K hK => ?_) AllReadyH.nil)
            go_simp
            ((go_at_call 55; (with_reducible refine (HPF.out _ (by with_reducible assumption)).mono ?_); rintro e w5 ⟨⟨kk, rfl⟩, b5⟩; (try (have bz := Lib.hid (Box3.below (by first | exact Box3.make _ _ _ _ _ rfl | exact (Box3.make _ _ _ _ _ rfl).drew) b5); have y0 := bz.out.c0; have y1 := bz.out.c1; have y2 := bz.out.c2; have y3 := bz.out.f0; have y4 := bz.out.f1; have y5 := bz.out.f2; have y6 := bz.out.z))))
            (try go_wp2_with fail)
            refine hK.out _ _ ?_ (fun hHeld17 => ?_)
            · (try dsimp only)
              (exact nbK)
            clear hK K hHeld16
            try simp only [Act.put, List.setIfInBounds_toArray, List.set_cons_zero, List.set_cons_succ]
            refine h4_b [11, 12, 13, 14] ?_
            (repeat (refine h4_p rfl (by kernel_rfl) (fun _ _ _ h => h) (by rfl) hHeld17 (by intro wS hSw; obtain ⟨k0, hRd, _, _, hXd⟩ := hSw; have k1 := (RdrS.sub hRd).choose_spec.choose_spec.2.1; have kz := RdrS.lt hRd; go_simp; (try with_reducible rfl)) ?_; (try simp only [Act.put, List.setIfInBounds_toArray, List.set_cons_zero, List.set_cons_succ])))
            refine h4_e ?_
            refine wpAnyH_ready (rs := [16]) (by kernel_rfl) (by simp) ?_
            refine (h4_cons rfl (fun K hK => ?_) AllReadyH.nil)
            go_simp
            refine hK.out _ _ ?_ (fun hHeld18 => ?_)
            · (try dsimp only)
              (exact nbK)
            clear hK K hHeld17
            try simp only [Act.put, List.setIfInBounds_toArray, List.set_cons_zero, List.set_cons_succ]
            refine h4_b [17, 18] ?_
            (repeat (refine h4_p rfl (by kernel_rfl) (fun _ _ _ h => h) (by rfl) hHeld18 (by intro wS hSw; obtain ⟨k0, hRd, _, _, hXd⟩ := hSw; have k1 := (RdrS.sub hRd).choose_spec.choose_spec.2.1; have kz := RdrS.lt hRd; go_simp; (try with_reducible rfl)) ?_; (try simp only [Act.put, List.setIfInBounds_toArray, List.set_cons_zero, List.set_cons_succ])))
            refine h4_e ?_
            refine wpAnyH_done (by kernel_rfl) ?_ _
            have HNF := Lib.hid ‹NB g src q a V A5 c5 w _›
            clear HNB HPF
            obtain ⟨x0, x1, x2, x3, x4, x5, f0, f1, f2, f3, f4, f5, xz⟩ := HNF.out.x
            go_wp2_with (first
              | (go_at_call 27; (with_reducible refine (lfault_any a 2 _).mono ?_); rintro e w6 ⟨⟨v, rfl, hv⟩, b6⟩; clear x0 x1 x2 x3 x4 x5 f0 f1 f2 f3 f4 f5; have HX6 := Lib.hid (HNF.out.x.below b6); obtain ⟨x0, x1, x2, x3, x4, x5, f0, f1, f2, f3, f4, f5, _⟩ := HX6.out; have HV := Lib.hid hv; have HU6 := Lib.hid (HNF.out.u.next b6); clear hv b6)
              | fail)
            (try simp only [Exit.inBlock, Exit.then]); refine bodyPost_ret (by simp [results, Try.results43, go_sem, *]; try rfl) rfl ?_
            exact .inl ⟨HOV.out.1, HOV.out.2, ⟨_, rfl, ((((((HV.out.far HNF.out.x.z _ _).far HNF.out.x.z _ _).far HNF.out.x.z _ _).far HNF.out.x.z _ _).far HNF.out.x.z _ _).far HNF.out.x.z _ _).mono (Nat.le_of_lt HNF.out.x.z)⟩, (((((HU6.out.fresh (Nat.le_refl _) _ _).fresh (Nat.le_refl _) _ _).fresh (Nat.le_refl _) _ _).fresh (Nat.le_refl _) _ _).fresh (Nat.le_refl _) _ _).fresh (Nat.le_refl _) _ _⟩
        · have HPF := Lib.hid (fun (W : World) (h : NB g src q a V A5 c5 w W) => (prefix_t (cutA A5 c5 a) (c5 - a) (q - a) ((src.drop a).take (q - a)) W g HTL.out (Nat.le_of_lt h.r.lt) h.rb (by omega) (by have := h.r.len; omega)).mono fun e w' p => show (∃ k, e = .returned (.tuple #[.agg #[.bool (zn (numZ ((src.drop a).take (q - a)))), .int .u64 (zh (numZ ((src.drop a).take (q - a)))), .int .u64 (zl (numZ ((src.drop a).take (q - a))))], .int .i64 k, .nilIface])) ∧ Below W.heap.size W w' from ⟨by
              rcases p.1 with ⟨h1, h2, k, he⟩ | ⟨h1, k, he⟩
              · exact absurd ⟨h1, h2⟩ hov
              · exact ⟨k, he⟩, p.2⟩)
          have HOV := Lib.hid hov
          generalize (src.drop a).take (q - a) = T at *
          clear hov
          refine wp_region_held_drew (S := (fun w' => NB g src q a V A5 c5 w w')) (by kernel_rfl) ?_ (fun hHeld => ?_)
          · (try dsimp only)
            (exact nbK)
          refine h4_b [0, 1, 2, 3, 4, 5, 6, 7, 8, 9] ?_
          (repeat (refine h4_p rfl (by kernel_rfl) (fun _ _ _ h => h) (by rfl) hHeld (by intro wS hSw; obtain ⟨k0, hRd, _, _, hXd⟩ := hSw; have k1 := (RdrS.sub hRd).choose_spec.choose_spec.2.1; have kz := RdrS.lt hRd; go_simp; (try with_reducible rfl)) ?_; (try simp only [Act.put, List.setIfInBounds_toArray, List.set_cons_zero, List.set_cons_succ])))
          refine h4_e ?_
          refine wpAnyH_ready (rs := [10, 15]) (by kernel_rfl) (by simp) ?_
          refine (h4_cons rfl (fun K hK => ?_) (h4_cons rfl (fun K hK => ?_) AllReadyH.nil))
          · go_simp
            ((go_at_call 55; (with_reducible refine (HPF.out _ (by with_reducible assumption)).mono ?_); rintro e w5 ⟨⟨kk, rfl⟩, b5⟩; (try (have bz := Lib.hid (Box3.below (by first | exact Box3.make _ _ _ _ _ rfl | exact (Box3.make _ _ _ _ _ rfl).drew) b5); have y0 := bz.out.c0; have y1 := bz.out.c1; have y2 := bz.out.c2; have y3 := bz.out.f0; have y4 := bz.out.f1; have y5 := bz.out.f2; have y6 := bz.out.z))))
            (try go_wp2_with fail)
            refine hK.out _ _ ?_ (fun hHeld19 => ?_)
            · (try dsimp only)
              (exact nbK)
            clear hK K hHeld
            try simp only [Act.put, List.setIfInBounds_toArray, List.set_cons_zero, List.set_cons_succ]
            refine h4_b [11, 12, 13, 14] ?_
            (repeat (refine h4_p rfl (by kernel_rfl) (fun _ _ _ h => h) (by rfl) hHeld19 (by intro wS hSw; obtain ⟨k0, hRd, _, _, hXd⟩ := hSw; have k1 := (RdrS.sub hRd).choose_spec.choose_spec.2.1; have kz := RdrS.lt hRd; go_simp; (try with_reducible rfl)) ?_; (try simp only [Act.put, List.setIfInBounds_toArray, List.set_cons_zero, List.set_cons_succ])))
            refine h4_e ?_
            refine wpAnyH_ready (rs := [15]) (by kernel_rfl) (by simp) ?_
            refine (h4_cons rfl (fun K hK => ?_) AllReadyH.nil)
            go_simp
            refine hK.out _ _ ?_ (fun hHeld20 => ?_)
            · (try dsimp only)
              (exact nbK)
            clear hK K hHeld19
            try simp only [Act.put, List.setIfInBounds_toArray, List.set_cons_zero, List.set_cons_succ]
            refine wpAnyH_ready (rs := [16]) (by kernel_rfl) (by simp) ?_
            refine (h4_cons rfl (fun K hK => ?_) AllReadyH.nil)
            go_simp
            refine hK.out _ _ ?_ (fun hHeld21 => ?_)
            · (try dsimp only)
              (exact nbK)
            clear hK K hHeld20
            try simp only [Act.put, List.setIfInBounds_toArray, List.set_cons_zero, List.set_cons_succ]
            refine h4_b [17, 18] ?_
            (repeat (refine h4_p rfl (by kernel_rfl) (fun _ _ _ h => h) (by rfl) hHeld21 (by intro wS hSw; obtain ⟨k0, hRd, _, _, hXd⟩ := hSw; have k1 := (RdrS.sub hRd).choose_spec.choose_spec.2.1; have kz := RdrS.lt hRd; go_simp; (try with_reducible rfl)) ?_; (try simp only [Act.put, List.setIfInBounds_toArray, List.set_cons_zero, List.set_cons_succ])))
            refine h4_e ?_
            refine wpAnyH_done (by kernel_rfl) ?_ _
            have HNF := Lib.hid ‹NB g src q a V A5 c5 w _›
            clear HNB HPF
            obtain ⟨x0, x1, x2, x3, x4, x5, f0, f1, f2, f3, f4, f5, xz⟩ := HNF.out.x
            go_wp2_with fail
            (try simp only [Exit.inBlock, Exit.then]); refine bodyPost_ret (by simp [results, Try.results43, go_sem, *]; try rfl) rfl ?_
            refine .inr ⟨HOV.out, rfl, ?_, (((((HNF.out.u.fresh (Nat.le_refl _) _ _).fresh (Nat.le_refl _) _ _).fresh (Nat.le_refl _) _ _).fresh (Nat.le_refl _) _ _).fresh (Nat.le_refl _) _ _).fresh (Nat.le_refl _) _ _⟩
            have hTe : a + T.length = q := by rw [HTL.out]; exact Nat.add_sub_cancel' haq
            rw [hTe]
            exact (((((HNF.out.r.far hgw _ _).far hgw _ _).far hgw _ _).far hgw _ _).far hgw _ _).far hgw _ _
          · go_simp
            refine hK.out _ _ ?_ (fun hHeld22 => ?_)
            · (try dsimp only)
              (exact nbK)
            clear hK K hHeld
            try simp only [Act.put, List.setIfInBounds_toArray, List.set_cons_zero, List.set_cons_succ]
            refine wpAnyH_ready (rs := [10]) (by kernel_rfl) (by simp) ?_
            refine (h4_cons rfl (fun K hK => ?_) AllReadyH.nil)
            go_simp
            ((go_at_call 55; (with_reducible refine (HPF.out _ (by with_reducible assumption)).mono ?_); rintro e w5 ⟨⟨kk, rfl⟩, b5⟩; (try (have bz := Lib.hid (Box3.below (by first | exact Box3.make _ _ _ _ _ rfl | exact (Box3.make _ _ _ _ _ rfl).drew) b5); have y0 := bz.out.c0; have y1 := bz.out.c1; have y2 := bz.out.c2; have y3 := bz.out.f0; have y4 := bz.out.f1; have y5 := bz.out.f2; have y6 := bz.out.z))))
            (try go_wp2_with fail)
            refine hK.out _ _ ?_ (fun hHeld23 => ?_)
            · (try dsimp only)
              (exact nbK)
            clear hK K hHeld22
            try simp only [Act.put, List.setIfInBounds_toArray, List.set_cons_zero, List.set_cons_succ]
            refine h4_b [11, 12, 13, 14] ?_
            (repeat (refine h4_p rfl (by kernel_rfl) (fun _ _ _ h => h) (by rfl) hHeld23 (by intro wS hSw; obtain ⟨k0, hRd, _, _, hXd⟩ := hSw; have k1 := (RdrS.sub hRd).choose_spec.choose_spec.2.1; have kz := RdrS.lt hRd; go_simp; (try with_reducible rfl)) ?_; (try simp only [Act.put, List.setIfInBounds_toArray, List.set_cons_zero, List.set_cons_succ])))
            refine h4_e ?_
            refine wpAnyH_ready (rs := [16]) (by kernel_rfl) (by simp) ?_
            refine (h4_cons rfl (fun K hK => ?_) AllReadyH.nil)
            go_simp
            refine hK.out _ _ ?_ (fun hHeld24 => ?_)
            · (try dsimp only)
              (exact nbK)
            clear hK K hHeld23
            try simp only [Act.put, List.setIfInBounds_toArray, List.set_cons_zero, List.set_cons_succ]
            refine h4_b [17, 18] ?_
            (repeat (refine h4_p rfl (by kernel_rfl) (fun _ _ _ h => h) (by rfl) hHeld24 (by intro wS hSw; obtain ⟨k0, hRd, _, _, hXd⟩ := hSw; have k1 := (RdrS.sub hRd).choose_spec.choose_spec.2.1; have kz := RdrS.lt hRd; go_simp; (try with_reducible rfl)) ?_; (try simp only [Act.put, List.setIfInBounds_toArray, List.set_cons_zero, List.set_cons_succ])))
            refine h4_e ?_
            refine wpAnyH_done (by kernel_rfl) ?_ _
            have HNF := Lib.hid ‹NB g src q a V A5 c5 w _›
            clear HNB HPF
            obtain ⟨x0, x1, x2, x3, x4, x5, f0, f1, f2, f3, f4, f5, xz⟩ := HNF.out.x
            go_wp2_with fail
            (try simp only [Exit.inBlock, Exit.then]); refine bodyPost_ret (by simp [results, Try.results43, go_sem, *]; try rfl) rfl ?_
            refine .inr ⟨HOV.out, rfl, ?_, (((((HNF.out.u.fresh (Nat.le_refl _) _ _).fresh (Nat.le_refl _) _ _).fresh (Nat.le_refl _) _ _).fresh (Nat.le_refl _) _ _).fresh (Nat.le_refl _) _ _).fresh (Nat.le_refl _) _ _⟩
            have hTe : a + T.length = q := by rw [HTL.out]; exact Nat.add_sub_cancel' haq
            rw [hTe]
            exact (((((HNF.out.r.far hgw _ _).far hgw _ _).far hgw _ _).far hgw _ _).far hgw _ _).far hgw _ _
end Go.Proofs.Ythipoccbeloceaa
