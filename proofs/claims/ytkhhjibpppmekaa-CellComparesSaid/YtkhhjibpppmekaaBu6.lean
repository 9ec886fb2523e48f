/- Several texts put together: RefE. -/
import Derived.Test.YtkhhjibpppmekaaBu5
/- fieldfareref02: digit, Prefix, Looks. -/
namespace Go.Proofs.Ytkhhjibpppmekaa
open Go.RowKit
set_option maxRecDepth 100000 in
set_option maxHeartbeats 400000 in
theorem rdigit_any (c : Nat) (w : World) :
    Calls Try.prog 93 #[.int .u8 (c : Int)] w fun e w' => e = .returned (.bool (digB c)) ∧ w = w' := by
  by_cases h1 : 48 ≤ c
  · by_cases h2 : c ≤ 57
    · have e : digB c = true := digB_of ⟨h1, h2⟩
      rw [e]; clear e
      go_enter Try.func93, Try.ntmps93
      go_wp2
      go_ret
      exact ⟨by simp <;> omega, rfl⟩
    · have e : digB c = false := by unfold digB; simp; omega
      rw [e]; clear e
      go_enter Try.func93, Try.ntmps93
      go_wp2
      go_ret
      exact ⟨by simp <;> omega, rfl⟩
  · have e : digB c = false := by unfold digB; simp; omega
    rw [e]; clear e
    go_enter Try.func93, Try.ntmps93
    go_wp2
    go_ret
    exact ⟨by simp <;> omega, rfl⟩
theorem strN_cut {L : List Nat} (k : Nat) (hk : k < L.length) : (strN L).extract k (k + 1) = strN [L[k]] := by
  have : ((strN L).extract k (k + 1)).data = (strN [L[k]]).data := by
    rw [ByteArray.data_extract]
    simp only [strN, List.extract_toArray, List.map_cons, List.map_nil]
    congr 1
    rw [List.extract_eq_take_drop, List.drop_eq_getElem_cons (by simpa using hk)]
    simp
  cases h1 : (strN L).extract k (k + 1); cases h2 : strN [L[k]]; rw [h1, h2] at this; simpa using this
/-- What the reference's Prefix returns. -/
def RPost (bs : List Nat) (e : Ending) (w' : World) : Prop :=
  (nW bs + nB bs = 0 ∧ e = .returned (.agg #[.bool false, .slice none 0 0, .int .i64 0, .int .i64 0])) ∨
  (0 < nW bs + nB bs ∧ 30 < (strip (wholeL bs)).length ∧ e = .returned (.agg #[.bool false, .slice none 0 0, .int .i64 ((nI3 bs : Nat) : Int), .int .i64 2])) ∨
  (0 < nW bs + nB bs ∧ (strip (wholeL bs)).length ≤ 30 ∧ ∃ (A : Option Addr) (c : Nat), e = .returned (.agg #[.bool (sneg bs && decide (0 < (dg (numN bs)).length)), .slice A (dg (numN bs)).length c, .int .i64 ((nI3 bs : Nat) : Int), .int .i64 0]) ∧
    RI w' w'.heap.size A (dg (numN bs)) ∧ (dg (numN bs)).length ≤ c)
set_option maxRecDepth 100000 in
set_option maxHeartbeats 4000000 in
theorem rprefix_any (bs : List Nat) (w : World) (hb : ∀ x ∈ bs, x < 256) (hl : bs.length ≤ 100000) :
    Calls Try.prog 69 #[.string (strN bs)] w fun e w' => RPost bs e w' ∧ Below w.heap.size w w' := by
  obtain ⟨S, hS⟩ : ∃ S, S = strN bs := ⟨_, rfl⟩
  have hSl : S.size = bs.length := by rw [hS]; exact strN_size bs
  have hSg : ∀ k (hk : k < bs.length) (hk' : k < S.size), S[k].toNat = bs[k] := by
    intro k hk hk'
    subst hS
    have := strN_get hb k hk hk'
    omega
  have hSc : ∀ k (hk : k < bs.length), S.extract k (k + 1) = strN [bs[k]] := by
    intro k hk; rw [hS]; exact strN_cut k hk
  rw [← hS]
  have HSG := Lib.hid hSg; have HSC := Lib.hid hSc; have HS := Lib.hid hS
  clear hS hSg hSc hb
  go_enter Try.func69, Try.ntmps69
  go_upto_block 0 with fail
  go_cut [3] from 13 to 24 (fun i wx => i = .int .i64 ((span blankB bs : Nat) : Int) ∧ w.alloc (.cells #[.bool false, .slice none 0 0, .int .i64 0, .int .i64 0] 108) = wx)
  case first =>
    go_wp2_with fail
    go_loop [3] (fun n => ∃ k : Nat, k ≤ bs.length ∧ n = .int .i64 k ∧ Hid (∀ j (hj : j < bs.length), j < k → blankB bs[j] = true)) (fun n => bs.length - (intOf n).toNat)
    case atStart => exact ⟨0, Nat.zero_le _, rfl, Lib.hid (fun _ _ h => absurd h (by omega))⟩
    case round =>
      obtain ⟨k, hk, rfl, hall⟩ := hrel
      by_cases hlt : k < bs.length
      · have hx := HSG.out k hlt (by omega)
        cases hbx : blankB bs[k]
        · have he : span blankB bs = k := span_eq _ _ _ hk (fun j hj hjk => hall.out j hj hjk) (fun hj => hbx)
          have HE := Lib.hid he
          rw [← hx] at hbx
          clear he hx
          go_wp2_with (go_at_call 92; refine (rblank_any _ _).mono ?_; rintro e w' ⟨rfl, rfl⟩)
          go_meet
          exact ⟨by rw [HE.out], rfl⟩
        · have HBX := Lib.hid hbx
          rw [← hx] at hbx
          clear hx
          go_wp2_with (go_at_call 92; refine (rblank_any _ _).mono ?_; rintro e w' ⟨rfl, rfl⟩)
          go_round
          case rel => exact ⟨k + 1, by omega, by go_num, Lib.hid (fun j hj hjk => by
            by_cases e : j = k
            · subst e; exact HBX.out
            · exact hall.out j hj (by omega))⟩
          case measure => simp [intOf]; omega
      · have he : span blankB bs = k := span_eq _ _ _ hk (fun j hj hjk => hall.out j hj hjk) (fun hj => by omega)
        have HE := Lib.hid he; clear he
        go_wp2_with fail
        go_meet
        exact ⟨by rw [HE.out], rfl⟩
  case rest =>
    obtain ⟨rfl, rfl⟩ := hcut
    obtain ⟨i0, hi0⟩ : ∃ i0, i0 = span blankB bs := ⟨_, rfl⟩
    have hi0l : i0 ≤ bs.length := by rw [hi0]; exact span_le _ _
    rw [← hi0]
    have HI0 := Lib.hid hi0; clear hi0
    go_upto_region 5 with (fail)
    go_cut [40] from 25 to 40 (fun x wx => x = .bool (sgn bs == 1) ∧ w.alloc (.cells #[.bool false, .slice none 0 0, .int .i64 0, .int .i64 0] 108) = wx)
    case first =>
      by_cases hlt : i0 < bs.length
      · have hx := HSG.out i0 hlt (by omega)
        obtain ⟨x, hxe⟩ : ∃ x, x = bs[i0] := ⟨_, rfl⟩
        rw [← hxe] at hx
        have hsg : sgn bs = if x = 43 ∨ x = 45 then 1 else 0 := by
          unfold sgn; rw [← HI0.out, head_drop hlt, ← hxe]
        clear hxe
        by_cases h1 : x = 43
        · subst h1
          have e : (sgn bs == 1) = true := by rw [hsg]; rfl
          have HE := Lib.hid e; clear e hsg
          go_wp2_with fail
          go_meet
          exact ⟨by rw [HE.out], rfl⟩
        · by_cases h2 : x = 45
          · subst h2
            have e : (sgn bs == 1) = true := by rw [hsg]; rfl
            have HE := Lib.hid e; clear e hsg h1
            go_wp2_with fail
            go_meet
            exact ⟨by rw [HE.out], rfl⟩
          · have e : (sgn bs == 1) = false := by rw [hsg]; simp [h1, h2]
            have g1 : ((x : Int) == 43) = false := by rw [beq_eq_false_iff_ne]; omega
            have g2 : ((x : Int) == 45) = false := by rw [beq_eq_false_iff_ne]; omega
            have HE := Lib.hid e; clear e hsg h1 h2
            go_wp2_with fail
            go_meet
            exact ⟨by rw [HE.out], rfl⟩
      · have e : (sgn bs == 1) = false := by unfold sgn; rw [← HI0.out, head_none (by omega)]; rfl
        have HE := Lib.hid e; clear e
        go_wp2_with fail
        go_meet
        exact ⟨by rw [HE.out], rfl⟩
    case rest =>
    obtain ⟨rfl, rfl⟩ := hcut
    go_upto_if 40 with (fail)
    have hi1 : nI1 bs = i0 + sgn bs := by unfold nI1; rw [← HI0.out]
    have HI1 := Lib.hid hi1; clear hi1
    go_cut [3, 4] from 40 to 46 (fun x y wx => x = .int .i64 ((nI1 bs : Nat) : Int) ∧ nI1 bs ≤ bs.length ∧ y = .bool (sneg bs) ∧ w.alloc (.cells #[.bool false, .slice none 0 0, .int .i64 0, .int .i64 0] 108) = wx)
    case first =>
      cases hs : (sgn bs == 1)
      · obtain ⟨e1, e2⟩ := sgn_zero hs
        have HE1 := Lib.hid e1; have HE2 := Lib.hid e2; clear e1 e2
        go_wp2_with fail
        go_meet
        exact ⟨by rw [HI1.out, HE1.out]; rfl, by rw [HI1.out, HE1.out]; exact hi0l, by rw [HE2.out], rfl⟩
      · obtain ⟨e1, hlt, hx0, e2⟩ := sgn_one hs
        rw [← HI0.out] at hlt
        have hx := HSG.out i0 hlt (by omega)
        obtain ⟨x, hxe⟩ : ∃ x, x = bs[i0] := ⟨_, rfl⟩
        rw [← hxe] at hx
        have e2' : sneg bs = (x == 45) := by
          rw [e2, hxe]
          have : ∀ (k : Nat) (hk : k < bs.length) (hk' : i0 < bs.length), k = i0 → decide (bs[k] = 45) = (bs[i0] == 45) := by
            intro k hk hk' e; subst e; rfl
          exact this _ _ _ HI0.out.symm
        clear e2 hx0 hxe
        have HE1 := Lib.hid e1; have HE2 := Lib.hid e2'; clear e1 e2'
        by_cases h1 : x = 45
        · subst h1
          go_wp2_with fail
          go_meet
          exact ⟨by rw [HI1.out, HE1.out]; go_num, by rw [HI1.out, HE1.out]; omega, by rw [HE2.out]; rfl, rfl⟩
        · have g1 : ((x : Int) == 45) = false := by rw [beq_eq_false_iff_ne]; omega
          have g2 : (x == 45) = false := by rw [beq_eq_false_iff_ne]; exact h1
          rw [g2] at HE2
          clear h1 g2
          go_wp2_with fail
          go_meet
          exact ⟨by rw [HI1.out, HE1.out]; go_num, by rw [HI1.out, HE1.out]; omega, by rw [HE2.out], rfl⟩
    case rest =>
    obtain ⟨rfl, hi1l, rfl, rfl⟩ := hcut
    obtain ⟨i1, hi1⟩ : ∃ i1, i1 = nI1 bs := ⟨_, rfl⟩
    rw [← hi1] at hi1l
    rw [← hi1]
    have hW : nW bs = span digB (bs.drop i1) := by unfold nW; rw [← hi1]
    have hWL : wholeL bs = (bs.drop i1).take (nW bs) := by unfold wholeL; rw [← hi1]
    have HJ1 := Lib.hid hi1; have HW := Lib.hid hW; have HWL := Lib.hid hWL
    clear hi1 hW hWL HI0 HI1 hi0l
    go_upto_block 2 with fail
    go_cut [3, 5] from 47 to 65 (fun i s wx => i = .int .i64 ((i1 + nW bs : Nat) : Int) ∧ s = .string (strN (wholeL bs)) ∧ w.alloc (.cells #[.bool false, .slice none 0 0, .int .i64 0, .int .i64 0] 108) = wx)
    case first =>
      go_wp2_with fail
      go_loop [3, 5] (fun i s => ∃ k : Nat, i1 + k ≤ bs.length ∧ i = .int .i64 ((i1 + k : Nat) : Int) ∧ s = .string (strN ((bs.drop i1).take k)) ∧ Hid (∀ j (hj : j < (bs.drop i1).length), j < k → digB (bs.drop i1)[j] = true)) (fun i _ => bs.length - (intOf i).toNat)
      case atStart => exact ⟨0, by omega, rfl, rfl, Lib.hid (fun _ _ h => absurd h (by omega))⟩
      case round =>
        obtain ⟨k, hk, rfl, rfl, hall⟩ := hrel
        obtain ⟨Z, hZ⟩ : ∃ Z, Z = strN ((bs.drop i1).take k) := ⟨_, rfl⟩
        have hZs : Z.size ≤ 100000 := by rw [hZ, strN_size]; simp; omega
        rw [← hZ]
        obtain ⟨m, hm⟩ : ∃ m, m = i1 + k := ⟨_, rfl⟩
        rw [← hm]
        have HZ := Lib.hid hZ
        have hml : m ≤ bs.length := by omega
        have HM := Lib.hid hm; clear hZ hm hk
        by_cases hlt : m < bs.length
        · have hx := HSG.out m hlt (by omega)
          have hsx := HSC.out m hlt
          have hdl : k < (bs.drop i1).length := by rw [List.length_drop]; have := HM.out; omega
          have hde : (bs.drop i1)[k] = bs[m] := by rw [List.getElem_drop]; congr 1; exact HM.out.symm
          cases hbx : digB bs[m]
          · have he : nW bs = k := by
              rw [HW.out]
              exact span_eq _ _ _ (by omega) (fun j hj hjk => hall.out j hj hjk) (fun hj => by rw [hde]; exact hbx)
            have HE := Lib.hid he
            rw [← hx] at hbx
            clear he hx hsx hde hdl
            go_wp2_with (go_at_call 93; refine (rdigit_any _ _).mono ?_; rintro e w' ⟨rfl, rfl⟩)
            go_meet
            exact ⟨by rw [HE.out, ← HM.out], by rw [HWL.out, HE.out, HZ.out], rfl⟩
          · have hz1 : (strN [bs[m]]).size ≤ 1 := by rw [strN_size]; simp
            have hall2 : ∀ j (hj : j < (bs.drop i1).length), j < k + 1 → digB (bs.drop i1)[j] = true := by
              intro j hj hjk
              by_cases e : j = k
              · subst e; rw [hde]; exact hbx
              · exact hall.out j hj (by omega)
            have hts : (bs.drop i1).take (k + 1) = (bs.drop i1).take k ++ [bs[m]] := by rw [List.take_succ_eq_append_getElem hdl, hde]
            obtain ⟨Y, hY⟩ : ∃ Y, Y = strN [bs[m]] := ⟨_, rfl⟩
            have hzy : strN ((bs.drop i1).take (k + 1)) = Z ++ Y := by rw [hts, ← strN_app, HZ.out, hY]
            rw [← hY] at hsx hz1
            rw [← hx] at hbx
            have HZY := Lib.hid hzy; have HA2 := Lib.hid hall2
            clear hx hY hde hdl hts hzy hall2 hall
            go_wp2_with (go_at_call 93; refine (rdigit_any _ _).mono ?_; rintro e w' ⟨rfl, rfl⟩)
            refine ⟨⟨k + 1, by have := HM.out; omega, congrArg (Value.int .i64) (by have := HM.out; omega), by rw [HZY.out], HA2⟩, by simp [intOf]; omega⟩
        · have he : nW bs = k := by
            rw [HW.out]
            exact span_eq _ _ _ (by rw [List.length_drop]; have := HM.out; omega) (fun j hj hjk => hall.out j hj hjk) (fun hj => by rw [List.length_drop] at hj; have := HM.out; omega)
          have HE := Lib.hid he; clear he
          go_wp2_with fail
          go_meet
          exact ⟨by rw [HE.out, ← HM.out], by rw [HWL.out, HE.out, HZ.out], rfl⟩
    case rest =>
    obtain ⟨rfl, rfl, rfl⟩ := hcut
    obtain ⟨i2, hi2⟩ : ∃ i2, i2 = i1 + nW bs := ⟨_, rfl⟩
    have hi2n : i2 = nI2 bs := by rw [hi2, HJ1.out]; rfl
    have hi2l : i2 ≤ bs.length := by
      have := span_le digB (bs.drop i1); rw [← HW.out, List.length_drop] at this; omega
    rw [← hi2]
    have HI2 := Lib.hid hi2n
    obtain ⟨V, hV⟩ : ∃ V, V = strN (wholeL bs) := ⟨_, rfl⟩
    have hVs : V.size = nW bs := by rw [hV, strN_size, whole_len]
    rw [← hV]
    have HV := Lib.hid hV; have HVS := Lib.hid hVs
    have hVl : V.size ≤ 100000 := by omega
    clear hi2 hi2n hV hVs HJ1
    go_upto_region 13 with (fail)
    go_cut [75] from 66 to 75 (fun x wx => x = .bool (nDot bs) ∧ w.alloc (.cells #[.bool false, .slice none 0 0, .int .i64 0, .int .i64 0] 108) = wx)
    case first =>
      by_cases hlt : i2 < bs.length
      · have hx := HSG.out i2 hlt (by omega)
        obtain ⟨x, hxe⟩ : ∃ x, x = bs[i2] := ⟨_, rfl⟩
        rw [← hxe] at hx
        have hd : nDot bs = (x == 46) := by
          unfold nDot; rw [← HI2.out, head_drop hlt, ← hxe]; rfl
        clear hxe
        by_cases h1 : x = 46
        · subst h1
          have HE := Lib.hid hd; clear hd
          go_wp2_with fail
          go_meet
          exact ⟨by rw [HE.out]; rfl, rfl⟩
        · have e : nDot bs = false := by rw [hd]; simpa using h1
          have g1 : ((x : Int) == 46) = false := by rw [beq_eq_false_iff_ne]; omega
          have HE := Lib.hid e; clear e hd h1
          go_wp2_with fail
          go_meet
          exact ⟨by rw [HE.out], rfl⟩
      · have e : nDot bs = false := by unfold nDot; rw [← HI2.out, head_none (by omega)]; rfl
        have HE := Lib.hid e; clear e
        go_wp2_with fail
        go_meet
        exact ⟨by rw [HE.out], rfl⟩
    case rest =>
    obtain ⟨rfl, rfl⟩ := hcut
    go_upto_if 75 with (fail)
    go_cut [3, 6, 7] from 75 to 103 (fun i s _ wx => i = .int .i64 (((if 0 < nW bs + nB bs then nI3 bs else nI2 bs) : Nat) : Int) ∧ s = .string (strN (behindL bs)) ∧ w.alloc (.cells #[.bool false, .slice none 0 0, .int .i64 0, .int .i64 0] 108) = wx)
    case first =>
      cases hd : nDot bs
      · have e1 : nB bs = 0 := by unfold nB; rw [hd]; rfl
        have e2 : nI3 bs = nI2 bs := by unfold nI3; rw [hd]; rfl
        have e3 : behindL bs = [] := by unfold behindL; rw [e1]; rfl
        have HE2 := Lib.hid e2; have HE3 := Lib.hid e3; clear e1 e2 e3
        go_wp2_with fail
        go_meet
        exact ⟨by rw [HE2.out, ite_self, HI2.out], by rw [HE3.out]; rfl, rfl⟩
      · have hlt : i2 < bs.length := by
          rcases Nat.lt_or_ge i2 bs.length with h | h
          · exact h
          · unfold nDot at hd; rw [← HI2.out, head_none h] at hd; cases hd
        obtain ⟨i3, hi3⟩ : ∃ i3, i3 = i2 + 1 := ⟨_, rfl⟩
        have hi3l : i3 ≤ bs.length := by omega
        have hBN : nB bs = span digB (bs.drop i3) := by unfold nB; rw [hd, hi3, HI2.out]; rfl
        have hBL : behindL bs = (bs.drop i3).take (nB bs) := by unfold behindL; rw [hi3, HI2.out]
        have e3 : nI3 bs = i3 + nB bs := by unfold nI3; rw [hd, hi3, HI2.out]; rfl
        have hi3c : (i2 : Int) + 1 = (i3 : Int) := by omega
        have HBN := Lib.hid hBN; have HBL := Lib.hid hBL; have HE3 := Lib.hid e3
        clear hBN hBL e3 hi3 hlt
        go_upto_block 4 with fail
        go_cut [6, 7] from 78 to 96 (fun s i wx => s = .string (strN (behindL bs)) ∧ i = .int .i64 ((i3 + nB bs : Nat) : Int) ∧ w.alloc (.cells #[.bool false, .slice none 0 0, .int .i64 0, .int .i64 0] 108) = wx)
        case first =>
            go_wp2_with fail
            go_loop [6, 7] (fun s i => ∃ k : Nat, i3 + k ≤ bs.length ∧ s = .string (strN ((bs.drop i3).take k)) ∧ i = .int .i64 ((i3 + k : Nat) : Int) ∧ Hid (∀ j (hj : j < (bs.drop i3).length), j < k → digB (bs.drop i3)[j] = true)) (fun _ i => bs.length - (intOf i).toNat)
            case atStart => exact ⟨0, by omega, rfl, rfl, Lib.hid (fun _ _ h => absurd h (by omega))⟩
            case round =>
              obtain ⟨k, hk, rfl, rfl, hall⟩ := hrel
              obtain ⟨Z, hZ⟩ : ∃ Z, Z = strN ((bs.drop i3).take k) := ⟨_, rfl⟩
              have hZs : Z.size ≤ 100000 := by rw [hZ, strN_size]; simp; omega
              rw [← hZ]
              obtain ⟨m, hm⟩ : ∃ m, m = i3 + k := ⟨_, rfl⟩
              rw [← hm]
              have HZ := Lib.hid hZ
              have hml : m ≤ bs.length := by omega
              have HM := Lib.hid hm; clear hZ hm hk
              by_cases hlt : m < bs.length
              · have hx := HSG.out m hlt (by omega)
                have hsx := HSC.out m hlt
                have hdl : k < (bs.drop i3).length := by rw [List.length_drop]; have := HM.out; omega
                have hde : (bs.drop i3)[k] = bs[m] := by rw [List.getElem_drop]; congr 1; exact HM.out.symm
                cases hbx : digB bs[m]
                · have he : nB bs = k := by
                    rw [HBN.out]
                    exact span_eq _ _ _ (by omega) (fun j hj hjk => hall.out j hj hjk) (fun hj => by rw [hde]; exact hbx)
                  have HE := Lib.hid he
                  rw [← hx] at hbx
                  clear he hx hsx hde hdl
                  go_wp2_with (go_at_call 93; refine (rdigit_any _ _).mono ?_; rintro e w' ⟨rfl, rfl⟩)
                  go_meet
                  exact ⟨by rw [HBL.out, HE.out, HZ.out], by rw [HE.out, ← HM.out], rfl⟩
                · have hz1 : (strN [bs[m]]).size ≤ 1 := by rw [strN_size]; simp
                  have hall2 : ∀ j (hj : j < (bs.drop i3).length), j < k + 1 → digB (bs.drop i3)[j] = true := by
                    intro j hj hjk
                    by_cases e : j = k
                    · subst e; rw [hde]; exact hbx
                    · exact hall.out j hj (by omega)
                  have hts : (bs.drop i3).take (k + 1) = (bs.drop i3).take k ++ [bs[m]] := by rw [List.take_succ_eq_append_getElem hdl, hde]
                  obtain ⟨Y, hY⟩ : ∃ Y, Y = strN [bs[m]] := ⟨_, rfl⟩
                  have hzy : strN ((bs.drop i3).take (k + 1)) = Z ++ Y := by rw [hts, ← strN_app, HZ.out, hY]
                  rw [← hY] at hsx hz1
                  rw [← hx] at hbx
                  have HZY := Lib.hid hzy; have HA2 := Lib.hid hall2
                  clear hx hY hde hdl hts hzy hall2 hall
                  go_wp2_with (go_at_call 93; refine (rdigit_any _ _).mono ?_; rintro e w' ⟨rfl, rfl⟩)
                  refine ⟨⟨k + 1, by have := HM.out; omega, by rw [HZY.out], congrArg (Value.int .i64) (by have := HM.out; omega), HA2⟩, by simp [intOf]; omega⟩
              · have he : nB bs = k := by
                  rw [HBN.out]
                  exact span_eq _ _ _ (by rw [List.length_drop]; have := HM.out; omega) (fun j hj hjk => hall.out j hj hjk) (fun hj => by rw [List.length_drop] at hj; have := HM.out; omega)
                have HE := Lib.hid he; clear he
                go_wp2_with fail
                go_meet
                exact ⟨by rw [HBL.out, HE.out, HZ.out], by rw [HE.out, ← HM.out], rfl⟩
        case rest =>
          obtain ⟨rfl, rfl, rfl⟩ := hcut
          obtain ⟨R, hR⟩ : ∃ R, R = strN (behindL bs) := ⟨_, rfl⟩
          have hRs : R.size = nB bs := by rw [hR, strN_size, behind_len]
          rw [← hR]
          have HR := Lib.hid hR; clear hR
          have hVs := HVS.out
          have hBl : nB bs ≤ 100000 := by have := nB_le bs; omega
          have hWl : nW bs ≤ 100000 := by omega
          obtain ⟨a, ha⟩ : ∃ a, a = nW bs := ⟨_, rfl⟩
          obtain ⟨b, hb⟩ : ∃ b, b = nB bs := ⟨_, rfl⟩
          rw [← ha] at hVs hWl
          rw [← hb] at hRs hBl
          have HA := Lib.hid ha; have HB := Lib.hid hb
          clear ha hb
          by_cases hz : 0 < a + b
          · have hfin : (if 0 < nW bs + nB bs then nI3 bs else nI2 bs) = i3 + nB bs := by rw [← HA.out, ← HB.out, if_pos hz, HE3.out, HB.out]
            have HF := Lib.hid hfin; clear hfin
            go_wp2_with fail
            go_meet
            exact ⟨by rw [HF.out], by rw [HR.out], rfl⟩
          · have hfin : (if 0 < nW bs + nB bs then nI3 bs else nI2 bs) = i2 := by rw [← HA.out, ← HB.out, if_neg hz, HI2.out]
            have HF := Lib.hid hfin; clear hfin
            go_wp2_with fail
            go_meet
            exact ⟨by rw [HF.out], by rw [HR.out], rfl⟩
    case rest =>
    obtain ⟨rfl, rfl, rfl⟩ := hcut
    obtain ⟨N3, hN3⟩ : ∃ N3, N3 = (if 0 < nW bs + nB bs then nI3 bs else nI2 bs) := ⟨_, rfl⟩
    rw [← hN3]
    obtain ⟨R, hR⟩ : ∃ R, R = strN (behindL bs) := ⟨_, rfl⟩
    have hRs : R.size = nB bs := by rw [hR, strN_size, behind_len]
    rw [← hR]
    have HR := Lib.hid hR; clear hR
    have hVs := HVS.out
    have hBl : nB bs ≤ 100000 := by have := nB_le bs; omega
    have hWl : nW bs ≤ 100000 := by omega
    obtain ⟨a, ha⟩ : ∃ a, a = nW bs := ⟨_, rfl⟩
    obtain ⟨b, hb⟩ : ∃ b, b = nB bs := ⟨_, rfl⟩
    rw [← ha] at hVs hWl hN3
    rw [← hb] at hRs hBl hN3
    have HA := Lib.hid ha; have HB := Lib.hid hb; have HN3 := Lib.hid hN3
    clear ha hb hN3 HVS HSC HSG HS HI2 HW HWL hi1l hi2l hSl
    by_cases hz : a + b = 0
    · obtain rfl : a = 0 := by omega
      obtain rfl : b = 0 := by omega
      clear hz
      go_wp2
      (try simp only [Exit.inBlock, Exit.then]); refine bodyPost_ret (by simp [results, Try.results69, go_sem, *]; try rfl) rfl ?_
      exact ⟨.inl ⟨by rw [← HA.out, ← HB.out], rfl⟩, by (repeat' (first | (with_reducible exact Below.refl _ _) | (refine Below.trans ?_ (Below.mono (by with_reducible assumption) ?_)) | (with_reducible exact Below.refl _ _) | (with_reducible refine below_drewN ?_ _) | (with_reducible refine Below.drew ?_) | (with_reducible refine Below.setCell ?_ ?_ _) | (with_reducible refine Below.alloc ?_ ?_ _) | (with_reducible assumption) | (simp; done) | (simp; omega) | omega))⟩
    have hz1 : ((a : Int) + (b : Int) == 0) = false := by rw [beq_eq_false_iff_ne]; omega
    have HZ := Lib.hid hz; clear hz
    go_upto_block 6 with fail
    go_cut [8, 9, 10] from 111 to 127 (fun v _ _ wx => OI wx (w.heap.size + 1) v (fdr (behindL bs) 6) ∧ Below (w.heap.size + 1) (w.alloc (.cells #[.bool false, .slice none 0 0, .int .i64 0, .int .i64 0] 108)) wx)
    case first =>
      go_wp2_with fail
      go_loopw [8, 9] (fun v i wr => ∃ j K : Nat, j + K = 6 ∧ i = .int .i64 ((K : Int) - 1) ∧ Hid (OI wr (w.heap.size + 1) v (fdr (behindL bs) j)) ∧ Hid (Below (w.heap.size + 1) (w.alloc (.cells #[.bool false, .slice none 0 0, .int .i64 0, .int .i64 0] 108)) wr)) (fun _ i _ => (intOf i + 1).toNat)
      case atStart => exact ⟨0, 6, rfl, rfl, Lib.hid (OI.nil _ _), Lib.hid (Below.refl _ _)⟩
      case round =>
        obtain ⟨j, K, hjk, rfl, hO, hBel⟩ := hrel
        have hsz := hBel.out.size
        simp at hsz
        cases K with
        | zero =>
          obtain rfl : j = 6 := by omega
          go_wp2_with fail
          go_meet
          exact ⟨hO.out, hBel.out⟩
        | succ K =>
          have hK : 5 - j = K := by omega
          have hKb : K < 6 := by omega
          obtain ⟨d, hd⟩ : ∃ d, d = (behindL bs).getD K 48 - 48 := ⟨_, rfl⟩
          have hfd : fdr (behindL bs) (j + 1) = fdr (behindL bs) j ++ [d] := by rw [hd, ← hK]; rfl
          have hfl := fdr_len (behindL bs) j
          have hb1 : Below (w.heap.size + 1) (w.alloc (.cells #[.bool false, .slice none 0 0, .int .i64 0, .int .i64 0] 108)) (wr.alloc (.cells (inums [d]) 3)) := hBel.out.alloc (by omega) _
          have HB1 := Lib.hid hb1
          have HO1 := Lib.hid (hO.out.alloc (.cells (inums [d]) 3))
          have HFD := Lib.hid hfd; have HFL := Lib.hid hfl
          clear hfd hfl hb1
          by_cases hKR : K < b
          · have hx : R[K]'(by omega) = R[K]'(by omega) := rfl
            have hxe : (((R[K]'(by omega)).toNat : Int)) = (((behindL bs).getD K 48 : Nat) : Int) := by
              have hl : K < (behindL bs).length := by rw [behind_len, ← HB.out]; exact hKR
              rw [List.getD_eq_getElem?_getD, List.getElem?_eq_getElem hl]
              have := strN_get (dig_bytes (behind_dig bs)) K hl (by rw [strN_size]; exact hl)
              simp only [HR.out]
              exact this
            have hxd := getD_dig (behind_dig bs) K
            obtain ⟨x, hxx⟩ : ∃ x, x = (R[K]'(by omega)).toNat := ⟨_, rfl⟩
            rw [← hxx] at hxe
            have hx48 : 48 ≤ x ∧ x ≤ 57 := by omega
            obtain ⟨hx1, hx2⟩ := hx48
            have hdx : (x : Int) - 48 = (d : Int) := by omega
            have hxr : (R[K]'(by omega)).toNat = x := hxx.symm
            clear hx hxe hxd hxx hd
            go_wp2_with (at_builtin; refine wpList_appI rfl (.tmp 124) (.tmp 126) rfl (w.heap.size + 1) (by simp; omega) _ (fdr (behindL bs) j) rfl HO1.out (some ⟨wr.heap.size, 0, none⟩) 1 1 [d] _ rfl rfl (by intro e; cases e) (ri_row wr [d] _ _) (by have := HFL.out; simp; omega) ?_; intro v2 w5 ho5 hg5; have HB5 := Lib.hid (HO1.out.below hg5 HB1.out (Nat.le_refl _) (by simp; omega)); have HO5 := Lib.hid ho5; clear ho5 hg5)
            go_roundw
            case rel => exact ⟨j + 1, K, by omega, by go_num, by rw [HFD.out]; exact HO5, HB5⟩
            case measure => simp [intOf]
          · have h48 : (behindL bs).getD K 48 = 48 := by
              rw [List.getD_eq_getElem?_getD, List.getElem?_eq_none (by rw [behind_len, ← HB.out]; omega)]; rfl
            rw [h48] at hd
            obtain rfl : d = 0 := by omega
            clear hd h48
            go_wp2_with (at_builtin; refine wpList_appI rfl (.tmp 124) (.tmp 126) rfl (w.heap.size + 1) (by simp; omega) _ (fdr (behindL bs) j) rfl HO1.out (some ⟨wr.heap.size, 0, none⟩) 1 1 [0] _ rfl rfl (by intro e; cases e) (ri_row wr [0] _ _) (by have := HFL.out; simp; omega) ?_; intro v2 w5 ho5 hg5; have HB5 := Lib.hid (HO1.out.below hg5 HB1.out (Nat.le_refl _) (by simp; omega)); have HO5 := Lib.hid ho5; clear ho5 hg5)
            go_roundw
            case rel => exact ⟨j + 1, K, by omega, by go_num, by rw [HFD.out]; exact HO5, HB5⟩
            case measure => simp [intOf]
    case rest =>
    obtain ⟨hO, hBel⟩ := hcut
    have HO := Lib.hid hO; have HBel := Lib.hid hBel
    have hsz := hBel.size
    simp at hsz
    clear hO hBel
    go_upto_block 8 with fail
    go_cut [8, 11] from 131 to 142 (fun v _ wx => OI wx (w.heap.size + 1) v (allD bs) ∧ Below (w.heap.size + 1) (w.alloc (.cells #[.bool false, .slice none 0 0, .int .i64 0, .int .i64 0] 108)) wx)
    case first =>
      go_wp2_with fail
      go_loopw [8, 11] (fun v i wr => ∃ K : Nat, K ≤ a ∧ i = .int .i64 ((K : Int) - 1) ∧ Hid (OI wr (w.heap.size + 1) v (fdr (behindL bs) 6 ++ rdig ((wholeL bs).drop K))) ∧ Hid (Below (w.heap.size + 1) (w.alloc (.cells #[.bool false, .slice none 0 0, .int .i64 0, .int .i64 0] 108)) wr)) (fun _ i _ => (intOf i + 1).toNat)
      case atStart => exact ⟨a, Nat.le_refl _, rfl, Lib.hid (by rw [HA.out, ← whole_len bs, List.drop_length]; simpa [rdig] using HO.out), HBel⟩
      case round =>
        obtain ⟨K, hKa, rfl, hO, hBel⟩ := hrel
        have hsz := hBel.out.size
        simp at hsz
        cases K with
        | zero =>
          go_wp2_with fail
          go_meet
          exact ⟨by unfold allD; have := hO.out; rwa [List.drop_zero] at this, hBel.out⟩
        | succ K =>
          have hKl : K < (wholeL bs).length := by rw [whole_len, ← HA.out]; omega
          obtain ⟨x, hxx⟩ : ∃ x, x = (wholeL bs)[K] := ⟨_, rfl⟩
          obtain ⟨d, hd⟩ : ∃ d, d = x - 48 := ⟨_, rfl⟩
          have hfd : fdr (behindL bs) 6 ++ rdig ((wholeL bs).drop K) = fdr (behindL bs) 6 ++ rdig ((wholeL bs).drop (K + 1)) ++ [d] := by
            rw [List.drop_eq_getElem_cons hKl, rdig_cons, hd, hxx, List.append_assoc]
          have hfl : (fdr (behindL bs) 6 ++ rdig ((wholeL bs).drop (K + 1))).length ≤ 100006 := by
            rw [List.length_append, fdr_len, rdig_len, List.length_drop, whole_len, ← HA.out]; omega
          obtain ⟨L, hL⟩ : ∃ L, L = fdr (behindL bs) 6 ++ rdig ((wholeL bs).drop (K + 1)) := ⟨_, rfl⟩
          rw [← hL] at hfd hfl hO
          have hb1 : Below (w.heap.size + 1) (w.alloc (.cells #[.bool false, .slice none 0 0, .int .i64 0, .int .i64 0] 108)) (wr.alloc (.cells (inums [d]) 3)) := hBel.out.alloc (by omega) _
          have HB1 := Lib.hid hb1
          have HO1 := Lib.hid (hO.out.alloc (.cells (inums [d]) 3))
          have HFD := Lib.hid hfd
          have hKv : K < V.size := by omega
          have hxe : (((V[K]'hKv).toNat : Int)) = (x : Int) := by
            have := strN_get (dig_bytes (whole_dig bs)) K hKl (by rw [strN_size]; exact hKl)
            simp only [HV.out]
            rw [hxx]
            exact this
          have hx48 := whole_dig bs x (by rw [hxx]; exact List.getElem_mem hKl)
          obtain ⟨hx1, hx2⟩ := hx48
          have hdx : (x : Int) - 48 = (d : Int) := by omega
          have hxr : (V[K]'hKv).toNat = x := by omega
          clear hfd hb1 hxe hxx hd hL hKl
          go_wp2_with (at_builtin; refine wpList_appI rfl (.tmp 135) (.tmp 141) rfl (w.heap.size + 1) (by simp; omega) _ L rfl HO1.out (some ⟨wr.heap.size, 0, none⟩) 1 1 [d] _ rfl rfl (by intro e; cases e) (ri_row wr [d] _ _) (by simp; omega) ?_; intro v2 w5 ho5 hg5; have HB5 := Lib.hid (HO1.out.below hg5 HB1.out (Nat.le_refl _) (by simp; omega)); have HO5 := Lib.hid ho5; clear ho5 hg5)
          go_roundw
          case rel => exact ⟨K, by omega, by go_num, by rw [HFD.out]; exact HO5, HB5⟩
          case measure => simp [intOf]
    case rest =>
    obtain ⟨hO, hBel⟩ := hcut
    obtain ⟨A, c, rfl, hc, hri, hAn⟩ := hO.slice
    have hval := val_allD bs
    have hdig := allD_dig bs
    have hdl := allD_len bs
    rw [← HA.out] at hdl
    obtain ⟨ds, hds⟩ : ∃ ds, ds = allD bs := ⟨_, rfl⟩
    rw [← hds] at hc hri hAn hval hdig hdl hO
    rw [← hds]
    have hsz := hBel.size
    simp at hsz
    have HOO := Lib.hid hO
    have HRI := Lib.hid hri; have HVL := Lib.hid hval; have HDG := Lib.hid hdig; have HBl := Lib.hid hBel
    have hdl2 : ds.length ≤ 100006 := by omega
    have HDL := Lib.hid hdl
    clear hO hBel HO HBel hri hval hdig hds hdl
    go_upto_block 10 with fail
    go_cut [12] from 145 to 156 (fun n wx => ∃ k : Nat, n = .int .i64 (k : Int) ∧ k ≤ ds.length ∧ Hid (ds.take k = dg (numN bs)) ∧ wc = wx)
    case first =>
      have HV2 := Lib.hid (show val (ds.take ds.length) = val ds by rw [List.take_length])
      go_wp2_with fail
      go_loop [12] (fun n => ∃ k : Nat, n = .int .i64 (k : Int) ∧ k ≤ ds.length ∧ Hid (val (ds.take k) = val ds)) (fun n => (intOf n).toNat)
      case atStart => exact ⟨ds.length, rfl, Nat.le_refl _, HV2.out⟩
      case round =>
        obtain ⟨k, rfl, hk, hv⟩ := hrel
        cases k with
        | zero =>
          have hfin := cut_done HDG.out 0 (by omega) hv.out (.inl rfl)
          rw [HVL.out] at hfin
          have HF := Lib.hid hfin; clear hfin
          go_wp2_with fail
          go_meet
          exact ⟨0, rfl, by omega, HF, rfl⟩
        | succ k =>
          obtain ⟨ad, rfl, hb, hcell⟩ := HRI.out (by omega)
          have hcl := hcell k (by omega)
          have hlt : k < ds.length := by omega
          obtain ⟨x, hx⟩ : ∃ x, x = ds[k] := ⟨_, rfl⟩
          rw [← hx] at hcl
          have HX := Lib.hid hx; clear hx hcell hb
          by_cases h0 : x = 0
          · subst h0
            have hv2 := (val_take_zero hlt HX.out.symm).symm.trans hv.out
            have HV3 := Lib.hid hv2; clear hv2
            go_wp2_with fail
            go_round
            case rel => exact ⟨k, rfl, by omega, HV3.out⟩
            case measure => simp [intOf]
          · have hfin := cut_done HDG.out (k + 1) hk hv.out (.inr ⟨k, rfl, hlt, by rw [← HX.out]; exact h0⟩)
            rw [HVL.out] at hfin
            have h1 : ((x : Int) == 0) = false := by rw [beq_eq_false_iff_ne]; omega
            have HF := Lib.hid hfin; clear hfin h0
            go_wp2_with fail
            go_meet
            exact ⟨k + 1, by go_num, hk, HF, rfl⟩
    case rest =>
    obtain ⟨k, rfl, hk, hF, rfl⟩ := hcut
    have hkl : k = (dg (numN bs)).length := by
      rw [← hF.out, List.length_take]; omega
    have hN : N3 = nI3 bs := by rw [HN3.out]; have := HZ.out; rw [if_pos (by omega)]
    have hpos : 0 < nW bs + nB bs := by rw [← HA.out, ← HB.out]; have := HZ.out; omega
    have HKL := Lib.hid hkl; have HNN := Lib.hid hN; have HPOS := Lib.hid hpos
    clear hkl hN hpos
    have q := HBl.out
    have kq_wheapsize_0 : wc.cell? ⟨w.heap.size, 0, none⟩ = some (.bool false) := (Below.cell q (by first | (simp; done) | (simp; omega) | omega)).trans (by first | (simp (maxDischargeDepth := 12) [go_sem]; done) | simp (maxDischargeDepth := 12) [go_sem, *]); have gq_wheapsize_0 : wc.frozen? ⟨w.heap.size, 0, none⟩ = false := (Below.frozen q (by first | (simp; done) | (simp; omega) | omega)).trans (by first | (simp (maxDischargeDepth := 12) [go_sem]; done) | simp (maxDischargeDepth := 12) [go_sem, *]); have kq_wheapsize_1 : wc.cell? ⟨w.heap.size, 1, none⟩ = some (.slice none 0 0) := (Below.cell q (by first | (simp; done) | (simp; omega) | omega)).trans (by first | (simp (maxDischargeDepth := 12) [go_sem]; done) | simp (maxDischargeDepth := 12) [go_sem, *]); have gq_wheapsize_1 : wc.frozen? ⟨w.heap.size, 1, none⟩ = false := (Below.frozen q (by first | (simp; done) | (simp; omega) | omega)).trans (by first | (simp (maxDischargeDepth := 12) [go_sem]; done) | simp (maxDischargeDepth := 12) [go_sem, *]); have kq_wheapsize_2 : wc.cell? ⟨w.heap.size, 2, none⟩ = some (.int .i64 0) := (Below.cell q (by first | (simp; done) | (simp; omega) | omega)).trans (by first | (simp (maxDischargeDepth := 12) [go_sem]; done) | simp (maxDischargeDepth := 12) [go_sem, *]); have gq_wheapsize_2 : wc.frozen? ⟨w.heap.size, 2, none⟩ = false := (Below.frozen q (by first | (simp; done) | (simp; omega) | omega)).trans (by first | (simp (maxDischargeDepth := 12) [go_sem]; done) | simp (maxDischargeDepth := 12) [go_sem, *]); have kq_wheapsize_3 : wc.cell? ⟨w.heap.size, 3, none⟩ = some (.int .i64 0) := (Below.cell q (by first | (simp; done) | (simp; omega) | omega)).trans (by first | (simp (maxDischargeDepth := 12) [go_sem]; done) | simp (maxDischargeDepth := 12) [go_sem, *]); have gq_wheapsize_3 : wc.frozen? ⟨w.heap.size, 3, none⟩ = false := (Below.frozen q (by first | (simp; done) | (simp; omega) | omega)).trans (by first | (simp (maxDischargeDepth := 12) [go_sem]; done) | simp (maxDischargeDepth := 12) [go_sem, *]); have lq_wheapsize : w.heap.size < wc.heap.size := (by first | omega | (have := Below.size q; simp at this; omega)); have lq_wheapsize' : w.heap.size < wc.heap.size + 1 := Nat.lt_succ_of_lt lq_wheapsize; have lq_wheapsize'' : w.heap.size < wc.heap.size + 1 + 1 := Nat.lt_succ_of_lt lq_wheapsize'
    have HQ := Lib.hid q
    clear q
    by_cases h36 : 36 < k
    · have hov : 30 < (strip (wholeL bs)).length := (over_iff bs).1 (by rw [← HKL.out]; exact h36)
      have HOV := Lib.hid hov; clear hov
      go_wp2
      (try simp only [Exit.inBlock, Exit.then]); refine bodyPost_ret (by simp [results, Try.results69, go_sem, *]; try rfl) rfl ?_
      refine ⟨.inr (.inl ⟨HPOS.out, HOV.out, by rw [HNN.out]⟩), ?_⟩
      exact (((((((Below.refl w.heap.size w).alloc (Nat.le_refl _) _).trans (HQ.out.mono (Nat.le_succ _))).setCell (Nat.le_refl _) _).setCell (Nat.le_refl _) _).setCell (Nat.le_refl _) _).setCell (Nat.le_refl _) _)
    · have hov : (strip (wholeL bs)).length ≤ 30 := by
        rcases Nat.lt_or_ge 30 (strip (wholeL bs)).length with h | h
        · have := (over_iff bs).2 h; rw [← HKL.out] at this; omega
        · exact h
      have HOV := Lib.hid hov; clear hov
      have hts := fun W => itake_run A ds.length c k (by omega) W
      obtain ⟨neg, hneg⟩ : ∃ neg, neg = sneg bs := ⟨_, rfl⟩
      rw [← hneg]
      have HNEG := Lib.hid hneg; clear hneg
      cases neg
      · go_wp2
        (try simp only [Exit.inBlock, Exit.then]); refine bodyPost_ret (by simp [results, Try.results69, go_sem, *]; try rfl) rfl ?_
        have hoi := (((HOO.out.setCell (a := ⟨w.heap.size, 0, none⟩) (Nat.lt_succ_self _) (.bool false)).setCell (a := ⟨w.heap.size, 1, none⟩) (Nat.lt_succ_self _) (.slice A k c)).setCell (a := ⟨w.heap.size, 2, none⟩) (Nat.lt_succ_self _) (.int .i64 (N3 : Int))).setCell (a := ⟨w.heap.size, 3, none⟩) (Nat.lt_succ_self _) (.int .i64 0)
        obtain ⟨A', c', e, h1, h2, h3⟩ := hoi.slice
        simp only [Value.slice.injEq] at e
        obtain ⟨rfl, _, rfl⟩ := e
        have h4 := h2.take k
        rw [hF.out] at h4
        exact ⟨.inr (.inr ⟨HPOS.out, HOV.out, A, c, by rw [← HNN.out, ← HNEG.out, ← HKL.out]; rfl, h4, by rw [← HKL.out]; omega⟩), (((((((Below.refl w.heap.size w).alloc (Nat.le_refl _) _).trans (HQ.out.mono (Nat.le_succ _))).setCell (Nat.le_refl _) _).setCell (Nat.le_refl _) _).setCell (Nat.le_refl _) _).setCell (Nat.le_refl _) _)⟩
      · by_cases hk0 : k = 0
        · subst hk0
          go_wp2
          (try simp only [Exit.inBlock, Exit.then]); refine bodyPost_ret (by simp [results, Try.results69, go_sem, *]; try rfl) rfl ?_
          have hoi := (((HOO.out.setCell (a := ⟨w.heap.size, 0, none⟩) (Nat.lt_succ_self _) (.bool false)).setCell (a := ⟨w.heap.size, 1, none⟩) (Nat.lt_succ_self _) (.slice A 0 c)).setCell (a := ⟨w.heap.size, 2, none⟩) (Nat.lt_succ_self _) (.int .i64 (N3 : Int))).setCell (a := ⟨w.heap.size, 3, none⟩) (Nat.lt_succ_self _) (.int .i64 0)
          obtain ⟨A', c', e, h1, h2, h3⟩ := hoi.slice
          simp only [Value.slice.injEq] at e
          obtain ⟨rfl, _, rfl⟩ := e
          have h4 := h2.take 0
          rw [hF.out] at h4
          exact ⟨.inr (.inr ⟨HPOS.out, HOV.out, A, c, by rw [← HNN.out, ← HNEG.out, ← HKL.out]; rfl, h4, by rw [← HKL.out]; omega⟩), (((((((Below.refl w.heap.size w).alloc (Nat.le_refl _) _).trans (HQ.out.mono (Nat.le_succ _))).setCell (Nat.le_refl _) _).setCell (Nat.le_refl _) _).setCell (Nat.le_refl _) _).setCell (Nat.le_refl _) _)⟩
        · have hk1 : decide (0 < (k : Int)) = true := by rw [decide_eq_true_eq]; omega
          have hk2 : decide (0 < k) = true := by rw [decide_eq_true_eq]; omega
          go_wp2
          (try simp only [Exit.inBlock, Exit.then]); refine bodyPost_ret (by simp [results, Try.results69, go_sem, *]; try rfl) rfl ?_
          have hoi := (((HOO.out.setCell (a := ⟨w.heap.size, 0, none⟩) (Nat.lt_succ_self _) (.bool true)).setCell (a := ⟨w.heap.size, 1, none⟩) (Nat.lt_succ_self _) (.slice A k c)).setCell (a := ⟨w.heap.size, 2, none⟩) (Nat.lt_succ_self _) (.int .i64 (N3 : Int))).setCell (a := ⟨w.heap.size, 3, none⟩) (Nat.lt_succ_self _) (.int .i64 0)
          obtain ⟨A', c', e, h1, h2, h3⟩ := hoi.slice
          simp only [Value.slice.injEq] at e
          obtain ⟨rfl, _, rfl⟩ := e
          have h4 := h2.take k
          rw [hF.out] at h4
          exact ⟨.inr (.inr ⟨HPOS.out, HOV.out, A, c, by rw [← HNN.out, ← HNEG.out, ← HKL.out, hk2]; rfl, h4, by rw [← HKL.out]; omega⟩), (((((((Below.refl w.heap.size w).alloc (Nat.le_refl _) _).trans (HQ.out.mono (Nat.le_succ _))).setCell (Nat.le_refl _) _).setCell (Nat.le_refl _) _).setCell (Nat.le_refl _) _).setCell (Nat.le_refl _) _)⟩
end Go.Proofs.Ytkhhjibpppmekaa
