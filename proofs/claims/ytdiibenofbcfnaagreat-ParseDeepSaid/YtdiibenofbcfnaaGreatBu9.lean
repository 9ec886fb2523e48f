/- Several texts put together: LexC. -/
import Derived.Test.YtdiibenofbcfnaaGreatBu8
import Derived.Test.YtdiibenofbcfnaaGreatBu4
import Derived.IntWalk
set_option linter.unusedSimpArgs false
set_option linter.unusedVariables false
namespace Go.Proofs.YtdiibenofbcfnaaGreat
open Go.RowKit
def FltV (w : World) (B : Nat) (v : Value) (at' : Nat) (k : Int) : Prop := ∃ b, v = .iface 45 (.pointer (some ⟨b, 0, none⟩)) ∧ B ≤ b ∧ Blk w b 70 #[.int .i64 (at' : Int), .iface 53 (.int .i64 k)]
theorem FltV.next {w w' : World} {B : Nat} {v : Value} {at' : Nat} {k : Int} (h : FltV w B v at' k) (q : Below w.heap.size w w') : FltV w' B v at' k := by
  obtain ⟨b, e, hb, hk⟩ := h
  exact ⟨b, e, hb, hk.below q hk.lt⟩
theorem lfault_any (at' : Nat) (k : Int) (w : World) : Calls Tryz.prog 11 #[.int .i64 (at' : Int), .int .i64 k] w fun e w' => (∃ v, e = .returned v ∧ FltV w' w.heap.size v at' k) ∧ Below w.heap.size w w' := by
  go_enter Tryz.func11, Tryz.ntmps11
  go_wp2
  go_ret
  exact ⟨⟨_, rfl, _, rfl, Nat.le_refl _, Blk.new _ _ _⟩, (Below.refl _ _).alloc (Nat.le_refl _) _⟩
theorem RdrS.openi {w : World} {g : Nat} {src : List Nat} {a : Nat} {V : Value} (m : RdrS w g src a V) {i : Nat} (h : i < src.length) : ∃ ad c sb qo sp, w.cell? ⟨g, 0, none⟩ = some (.slice (some ad) src.length c) ∧ w.cell? ⟨g, 1, none⟩ = some (.int .i64 (a : Int)) ∧ w.frozen? ⟨g, 1, none⟩ = false ∧ g < w.heap.size ∧ ad.add i = (⟨sb, qo, sp⟩ : Addr) ∧ w.cell? ⟨sb, qo, sp⟩ = some (.int .u8 ((src[i] : Nat) : Int)) ∧ sb ≠ g ∧ src.length ≤ c ∧ decide ((i : Int) < (src.length : Int)) = true ∧ wrap64 ((i : Int) + 1) = (i : Int) + 1 := by
  have hl := m.len
  obtain ⟨A, c, bx, r, hc⟩ := m.box
  obtain ⟨ad, rfl, hbk, hcell⟩ := r.2 (by omega)
  have hb : (ad.add i).block < g := by rw [block_of_add]; exact hbk
  refine ⟨ad, c, (ad.add i).block, (ad.add i).off, (ad.add i).spot, bx.c0, bx.c1, bx.f1, bx.z, rfl, hcell i h, by omega, hc, decide_eq_true (by omega), ?_⟩
  unfold wrap64; omega
theorem RdrS.sub {w : World} {g : Nat} {src : List Nat} {a : Nat} {V : Value} (m : RdrS w g src a V) : ∃ A c, w.cell? ⟨g, 0, none⟩ = some (.slice A src.length c) ∧ w.cell? ⟨g, 1, none⟩ = some (.int .i64 (a : Int)) ∧ g < w.heap.size ∧ src.length ≤ c ∧
    ∀ i j, i ≤ j → j ≤ src.length → (∀ W, (Instr.slice 23 (.slice A src.length c) (some (.int .i64 (i : Int))) (some (.int .i64 (j : Int))) none).run Tryz.prog W = .ok (.slice (cutA A c i) (j - i) (c - i)) W) ∧ RB w g (cutA A c i) ((src.drop i).take (j - i)) := by
  obtain ⟨A, c, bx, r, hc⟩ := m.box
  refine ⟨A, c, bx.c0, bx.c1, bx.z, hc, fun i j h1 h2 => ⟨fun W => ?_, ?_⟩⟩
  · rw [run_slice_lh W 23 A src.length c (by kernel_rfl) .i64 .i64 i j (by omega) (by omega) (by omega)]
    simp [go_sem, cutA]
    try omega
  · exact (r.cutA hc).take _
theorem quotS_nil (sign : Nat) (e : Bool) : quotS sign e [] = none := by cases e <;> rfl
theorem quotS_end (sign : Nat) (r : List Nat) (e : Bool) : quotS sign e (10 :: r) = none := by rw [quotS, if_pos rfl]
theorem quotS_hit (sign : Nat) (h : sign ≠ 10) (r : List Nat) : quotS sign false (sign :: r) = some 0 := by rw [quotS, if_neg h]; simp
theorem quotS_go (sign c : Nat) (h : c ≠ 10) (h1 : c ≠ sign) (h2 : c ≠ 92) (r : List Nat) : quotS sign false (c :: r) = (quotS sign false r).map (· + 1) := by
  rw [quotS, if_neg h]; simp [h1, h2]
theorem quotS_esc (sign : Nat) (h1 : 92 ≠ sign) (r : List Nat) : quotS sign false (92 :: r) = (quotS sign true r).map (· + 1) := by
  rw [quotS, if_neg (by decide)]; simp [h1]
theorem quotS_skip (sign d : Nat) (h : d ≠ 10) (r : List Nat) : quotS sign true (d :: r) = (quotS sign false r).map (· + 1) := by
  rw [quotS, if_neg h]; simp
theorem map_shift (q : Option Nat) (a b k : Nat) (h : k = a + b) : (q.map (· + b)).map (fun n => a + n) = q.map (fun n => k + n) := by
  cases q with
  | none => rfl
  | some n => simp only [Option.map_some]; congr 1; omega
def QI (sign : Nat) (src : List Nat) (a k : Nat) (Q : Option Nat) : Prop := (quotS sign false (src.drop k)).map (fun n => (k - (a + 1)) + n) = Q
theorem QI.go {sign : Nat} {src : List Nat} {a k : Nat} {Q : Option Nat} (h : QI sign src a k Q) (hk : k < src.length) (hak : a + 1 ≤ k) (h10 : src[k] ≠ 10) (h1 : src[k] ≠ sign) (h2 : src[k] ≠ 92) : QI sign src a (k + 1) Q := by
  unfold QI at h ⊢
  rw [List.drop_eq_getElem_cons hk, quotS_go _ _ h10 h1 h2, map_shift _ _ _ (k + 1 - (a + 1)) (by omega)] at h
  exact h
theorem QI.esc {sign : Nat} {src : List Nat} {a k : Nat} {Q : Option Nat} (h : QI sign src a k Q) (hk : k < src.length) (hak : a + 1 ≤ k) (h1 : 92 ≠ sign) (h2 : src[k] = 92) (h10 : src.getD (k + 1) 0 ≠ 10) : QI sign src a (k + 2) Q := by
  unfold QI at h ⊢
  rw [List.drop_eq_getElem_cons hk, h2, quotS_esc _ h1] at h
  rcases Nat.lt_or_ge (k + 1) src.length with hl | hl
  · have e : src[k + 1] ≠ 10 := fun e => h10 (by rw [List.getD_eq_getElem?_getD, List.getElem?_eq_getElem hl]; exact e)
    rw [List.drop_eq_getElem_cons hl, quotS_skip _ _ e] at h
    rw [← h]
    show Option.map _ (quotS sign false (src.drop (k + 1 + 1))) = _
    cases quotS sign false (src.drop (k + 1 + 1)) with
    | none => rfl
    | some n => simp only [Option.map_some]; congr 1; omega
  · rw [List.drop_eq_nil_of_le hl, quotS_nil] at h
    rw [List.drop_eq_nil_of_le (by omega), quotS_nil]
    exact h
theorem QI.nl {sign : Nat} {src : List Nat} {a k : Nat} {Q : Option Nat} (h : QI sign src a k Q) (hk : k < src.length) (h1 : 92 ≠ sign) (h2 : src[k] = 92) (h10 : src.getD (k + 1) 0 = 10) : QI sign src a (k + 1) Q := by
  obtain ⟨hl, e⟩ := getD_of (by decide) h10
  unfold QI at h ⊢
  rw [List.drop_eq_getElem_cons hk, h2, quotS_esc _ h1, List.drop_eq_getElem_cons hl, e, quotS_end] at h
  rw [List.drop_eq_getElem_cons hl, e, quotS_end]
  exact h
theorem QI.none_end {sign : Nat} {src : List Nat} {a k : Nat} {Q : Option Nat} (h : QI sign src a k Q) (hk : src.length ≤ k) : Q = none := by
  unfold QI at h
  rw [List.drop_eq_nil_of_le hk, quotS_nil] at h
  exact h.symm
theorem QI.none_nl {sign : Nat} {src : List Nat} {a k : Nat} {Q : Option Nat} (h : QI sign src a k Q) (hk : k < src.length) (h10 : src[k] = 10) : Q = none := by
  unfold QI at h
  rw [List.drop_eq_getElem_cons hk, h10, quotS_end] at h
  exact h.symm
theorem QI.hit {sign : Nat} {src : List Nat} {a k : Nat} {Q : Option Nat} (h : QI sign src a k Q) (hk : k < src.length) (hs : sign ≠ 10) (e : src[k] = sign) : Q = some (k - (a + 1)) := by
  unfold QI at h
  rw [List.drop_eq_getElem_cons hk, e, quotS_hit _ hs] at h
  exact h.symm
theorem meas {L k k' : Nat} {v : Int} (hv : v = (k' : Int)) (h : k < k') (h2 : k < L) : L - (intOf (.int .i64 v)).toNat < L - (intOf (.int .i64 (k : Int))).toNat := by
  subst hv
  show L - (k' : Int).toNat < L - (k : Int).toNat
  rw [Int.toNat_natCast, Int.toNat_natCast]; omega
def QuotPost (g : Nat) (src : List Nat) (a : Nat) (V : Value) (Q : Option Nat) (w : World) (e : Ending) (w' : World) : Prop :=
  (Q = none ∧ (∃ v, e = .returned (.tuple #[.slice none 0 0, v]) ∧ FltV w' w.heap.size v a 7) ∧ Below w.heap.size w w') ∨
  ∃ n A c, Q = some n ∧ a + 1 + n < src.length ∧ e = .returned (.tuple #[.slice A n c, .nilIface]) ∧ n ≤ c ∧ RB w' g A ((src.drop (a + 1)).take n) ∧ RdrS w' g src (a + n + 2) V ∧ Upd g none w w'
set_option maxRecDepth 100000 in
set_option maxHeartbeats 3200000 in
theorem quoted_r {g : Nat} {src : List Nat} {a : Nat} {V : Value} (w : World) (m : RdrS w g src a V) (ha : a < src.length) (sign : Nat) (hs : sign = 34 ∨ sign = 47) :
    Calls Tryz.prog 35 #[.pointer (some ⟨g, 0, none⟩), .int .u8 (sign : Int)] w (QuotPost g src a V (quotN sign (src.drop (a + 1))) w) := by
  obtain ⟨Q, hQ⟩ : ∃ Q, quotN sign (src.drop (a + 1)) = Q := ⟨_, rfl⟩
  rw [hQ]
  have HQI : Hid (QI sign src a (a + 1) Q) := Lib.hid (by
    unfold QI
    rw [← hQ]
    unfold quotN
    cases quotS sign false (src.drop (a + 1)) <;> simp)
  obtain ⟨A, c, k0, k1, kz, hc, hsub⟩ := m.sub
  have hw0 : wrap64 ((a : Int) + 1) = (a : Int) + 1 := by have := m.len; exact IntWalk.wrap64_in _ (by omega)
  have HM := Lib.hid m
  have HSUB := Lib.hid hsub
  have HLF := Lib.hid (fun W => lfault_any a 7 W)
  clear hQ hsub m
  go_enter Tryz.func35, Tryz.ntmps35
  go_wp2_with fail
  go_loopw [7] (fun i wr => ∃ k : Nat, i = .int .i64 (k : Int) ∧ a + 1 ≤ k ∧ k ≤ src.length + 1 ∧ Hid (QI sign src a k Q) ∧ wr = w) (fun i _ => src.length + 1 - (intOf i).toNat)
  case atStart => exact ⟨a + 1, by simp; exact hw0, Nat.le_refl _, by omega, HQI, rfl⟩
  case round =>
    obtain ⟨k, rfl, hak, hk1, HQK, rfl⟩ := hrel
    have HW0 := Lib.hid hw0
    clear hw0
    by_cases hk : k < src.length
    · obtain ⟨ad, c2, sb, qo, sp, k0', _, kf, _, hq, k2, hsg, _, hd, hw1⟩ := HM.out.openi hk
      obtain ⟨rfl, rfl⟩ : A = some ad ∧ c = c2 := by rw [k0] at k0'; simpa using k0'
      clear k0'
      generalize hx : src[k] = x at k2
      by_cases h10 : x = 10
      · subst h10
        have HN := Lib.hid (HQK.out.none_nl hk hx)
        clear hx
        go_wp2_with (first
          | (go_at_call 11; (with_reducible refine (HLF.out _).mono ?_); rintro e w2 ⟨⟨v, rfl, hv⟩, b2⟩; have HV := Lib.hid hv; have HB2 := Lib.hid b2; clear hv b2)
          | fail)
        go_ret2
        exact .inl ⟨HN.out, ⟨_, rfl, HV.out⟩, HB2.out⟩
      · have n1 : ((x : Int) == 10) = false := by rw [beq_eq_false_iff_ne]; exact fun e => h10 (by exact_mod_cast e)
        by_cases hsx : x = sign
        · have n2 : ((x : Int) == (sign : Int)) = true := by rw [hsx]; simp
          have HN := Lib.hid (HQK.out.hit hk (by omega) (hx.trans hsx))
          have hs1 := fun W => (HSUB.out (a + 1) k hak (by omega)).1 W
          have HRB := Lib.hid (HSUB.out (a + 1) k hak (by omega)).2
          have ec : (((a + 1 : Nat) : Int)) = (a : Int) + 1 := by simp
          rw [ec] at hs1
          clear hx
          have hw0 := HW0.out
          go_wp2_with fail
          go_ret2
          refine .inr ⟨k - (a + 1), _, _, HN.out, by omega, rfl, by omega, ?_, HM.out.put' _ _ (by simp; omega), (Upd.refl _ _ _).put _ _⟩
          exact HRB.out.keep fun p hp => World.cell?_setCell_other _ _ _ _ (fun e => by subst e; simp at hp)
        · have n2 : ((x : Int) == (sign : Int)) = false := by rw [beq_eq_false_iff_ne]; exact fun e => hsx (by exact_mod_cast e)
          by_cases h92 : x = 92
          · subst h92
            have HBY := Lib.hid (fun (W : World) (m : RdrS W g src a V) => byteAt_at W m (k + 1) ((k : Int) + 1) (by simp))
            by_cases hn10 : src.getD (k + 1) 0 = 10
            · rw [hn10] at HBY
              have HQ2 := Lib.hid (HQK.out.nl hk (fun e => hsx e) hx hn10)
              clear hx hn10
              go_wp2_with (first
                | (go_at_call 19; (with_reducible refine (HBY.out _ HM.out).mono ?_); rintro e w2 ⟨rfl, rfl⟩)
                | fail)
              go_roundw
              case rel => exact ⟨k + 1, by simp; exact hw1, Nat.le_trans hak (Nat.le_add_right _ _), Nat.le_succ_of_le hk, HQ2, trivial⟩
              case measure => exact meas (k' := k + 1) (by simp; exact hw1) (Nat.lt_add_of_pos_right (by decide)) (Nat.lt_succ_of_lt hk)
            · have hne : (((src.getD (k + 1) 0 : Nat) : Int) == 10) = false := by rw [beq_eq_false_iff_ne]; omega
              have HQ2 := Lib.hid (HQK.out.esc hk hak (fun e => hsx e) hx hn10)
              have hw2 : wrap64 ((k : Int) + 2) = (k : Int) + 2 := by have := HM.out.len; exact IntWalk.wrap64_in _ (by omega)
              have hw3 : wrap64 ((k : Int) + 1 + 1) = (k : Int) + 2 := by rw [Int.add_assoc]; exact hw2
              generalize src.getD (k + 1) 0 = y at HBY hne
              clear hx hn10
              go_wp2_with (first
                | (go_at_call 19; (with_reducible refine (HBY.out _ HM.out).mono ?_); rintro e w2 ⟨rfl, rfl⟩)
                | fail)
              go_roundw
              case rel => exact ⟨k + 2, by simp; exact hw3, Nat.le_trans hak (Nat.le_add_right _ _), Nat.succ_le_succ hk, HQ2, trivial⟩
              case measure => exact meas (k' := k + 2) (by simp; exact hw3) (Nat.lt_add_of_pos_right (by decide)) (Nat.lt_succ_of_lt hk)
          · have n3 : ((x : Int) == 92) = false := by rw [beq_eq_false_iff_ne]; exact fun e => h92 (by exact_mod_cast e)
            have HQ2 := Lib.hid (HQK.out.go hk hak (by rw [hx]; exact h10) (by rw [hx]; exact hsx) (by rw [hx]; exact h92))
            clear hx
            go_wp2_with fail
            go_roundw
            case rel => exact ⟨k + 1, by simp; exact hw1, Nat.le_trans hak (Nat.le_add_right _ _), Nat.le_succ_of_le hk, HQ2, trivial⟩
            case measure => exact meas (k' := k + 1) (by simp; exact hw1) (Nat.lt_add_of_pos_right (by decide)) (Nat.lt_succ_of_lt hk)
    · have hd : decide ((k : Int) < (src.length : Int)) = false := decide_eq_false (fun h => hk (Int.ofNat_lt.1 h))
      have HN := Lib.hid (HQK.out.none_end (Nat.le_of_not_lt hk))
      go_wp2_with (first
        | (go_at_call 11; (with_reducible refine (HLF.out _).mono ?_); rintro e w2 ⟨⟨v, rfl, hv⟩, b2⟩; have HV := Lib.hid hv; have HB2 := Lib.hid b2; clear hv b2)
        | fail)
      go_ret2
      exact .inl ⟨HN.out, ⟨_, rfl, HV.out⟩, HB2.out⟩
end Go.Proofs.YtdiibenofbcfnaaGreat
