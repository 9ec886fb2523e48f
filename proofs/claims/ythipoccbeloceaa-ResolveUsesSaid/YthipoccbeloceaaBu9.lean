/- Several texts put together: LexJ. -/
import Derived.Test.YthipoccbeloceaaBu1
import Derived.Test.YthipoccbeloceaaBu8
import Derived.Test.YthipoccbeloceaaBu3
import Derived.Deep.CutBlock
set_option linter.unusedSimpArgs false
set_option linter.unusedVariables false
namespace Go.Proofs.Ythipoccbeloceaa
open Go.RowKit
def textL (src : List Nat) (a : Nat) : Except Int (TokF × Nat) := match quotN 34 (src.drop (a + 1)) with
  | none => .error 7
  | some n => .ok (⟨3, a, unesc (n + 1) ((src.drop (a + 1)).take n), 0⟩, n + 2)
set_option maxRecDepth 100000 in
set_option maxHeartbeats 3200000 in
theorem text_r {g : Nat} {src : List Nat} {a : Nat} {V : Value} (w : World) (m : RdrS w g src a V) (ha : a < src.length) : Calls Try.prog 44 #[.pointer (some ⟨g, 0, none⟩)] w (LexPost g src a V (textL src a) w) := by
  have HO := LS.own m
  have hg := m.lt
  have hlen := m.len
  have HB8 := Lib.hid m.byte
  obtain ⟨R, hR⟩ : ∃ R, textL src a = R := ⟨_, rfl⟩
  rw [hR]
  unfold textL at hR
  have HR := Lib.hid hR
  clear hR m
  go_enter Try.func44, Try.ntmps44
  (repeat' (first | ((with_reducible refine zG ?_); first | refine oWx ?_ | (refine oWs ?_; clear HO; intro _ HO) | (refine oWj ?_; clear HO; intro _ HO HB)) | ((with_reducible refine to_load ?_); (first | (refine lo_loadA HO rfl rfl Try.isAgg3 ?_; (try simp only [Act.put, pS]))); (try simp only [Act.put, pS])) | ((with_reducible refine to_make ?_); refine wo_make HO rfl rfl rfl (by omega) ?_; clear HO; intro _ _ _ hcap HO; (try simp only [Act.put, pS])) | ((go_big_may; first | (go_at_call 56; refine arm_quoted HO hg ha (.inl rfl) rfl rfl ?_ ?_; (clear HO; intro hQ b W HO); rotate_left; (clear HO; intro n A c W hQ hln hnc HO); rotate_left) | fail) <;> (try dsimp only)) | go_values | go_skip | go_guarded | go_step | go_upon | (go_ite <;> go_prune <;> (try go_simp))))
  · refine bp_cellT HO (t := 2) (s := 3) rfl rfl rfl mM Try.isAgg89 Try.sizeOf89 (by rfl) rfl ?_
    have hR := HR.out
    rw [hQ] at hR
    subst hR
    exact ⟨⟨_, by rw [tokV_0]; rfl, HO.out.flt List.mem_cons_self⟩, Upd.of_kept HO.out.kept⟩
  · obtain ⟨T, hT⟩ : ∃ T, (src.drop (a + 1)).take n = T := ⟨_, rfl⟩
    have hTn : T.length = n := by rw [← hT]; simp; omega
    have hw : wellS false T = true := by rw [← hT]; exact quotS_well 34 _ false n hQ
    have hT8 : ∀ x ∈ T, x < 256 := by rw [← hT]; exact fun x hx => HB8.out x (List.mem_of_mem_drop (List.mem_of_mem_take hx))
    have hR := HR.out
    rw [hQ] at hR
    simp only at hR
    rw [hT] at HO hR
    have HR := Lib.hid hR
    have HTN := Lib.hid hTn
    have HU := Lib.hid (UnsI.start hw)
    have HT8 := Lib.hid hT8
    clear hR hTn hw hT8 hT hQ
    go_loopw [7, 8] (fun ov iv W => ∃ (k : Nat) (out : List Nat) (A' : Option Addr) (c' : Nat), ov = .slice A' out.length c' ∧ iv = .int .i64 (k : Int) ∧ out.length ≤ c' ∧ k ≤ n ∧ Hid (UnsI T (uns T) k out) ∧ Hid (Own w [g] (LS g src (a + n + 2) V A T) [⟨w.heap.size, 89, [.int .i64 0, .int .i64 0, .string { data := #[] }, .bool false, .int .u64 0, .int .u64 0]⟩] [⟨5, 1, .slice A' out.length c', out.length, bvs out⟩] [] W)) (fun _ iv _ => n - (intOf iv).toNat)
    case atStart => exact ⟨0, [], _, _, rfl, rfl, hcap, Nat.zero_le _, HU, HO⟩
    case round =>
      clear HO HU hcap
      obtain ⟨k, out, A', c', rfl, rfl, hcap, hkn, HU, HO⟩ := hrel
      have hol : out.length ≤ 1000000 := by have := HU.out.2.2.2; omega
      by_cases hk : k < n
      · have hd : decide ((k : Int) < (n : Int)) = true := decide_eq_true (by omega)
        have hkT : k < T.length := by rw [HTN.out]; exact hk
        have hk6 : k ≤ 1000000 := by omega
        obtain ⟨ad, rfl, _, hcell⟩ := HO.out.st.b.2 (Nat.lt_of_le_of_lt (Nat.zero_le k) hkT)
        have k2 := hcell k hkT
        have HCELL := Lib.hid hcell
        clear hcell
        by_cases hx : T[k] = 92
        · have hjT := HU.out.next hkT hx
          obtain ⟨x, hxe⟩ : ∃ x, x = T[k] := ⟨_, rfl⟩
          rw [← hxe] at k2
          obtain rfl : x = 92 := hxe.trans hx
          obtain ⟨sb, qo, sp, hq⟩ : ∃ sb qo sp, ad.add k = (⟨sb, qo, sp⟩ : Addr) := ⟨_, _, _, rfl⟩
          rw [hq] at k2
          have HX := Lib.hid hx
          clear hxe hx
          (repeat' (go_not_at_block 2; first | ((with_reducible refine zG ?_); first | refine oWx ?_ | (refine oWs ?_; clear HO; intro _ HO) | (refine oWj ?_; clear HO; intro _ HO HB)) | go_values | go_skip | go_guarded | go_step | go_upon | (go_ite <;> go_prune <;> (try go_simp))))
          clear k2 hq
          go_cut [9, 10] from 27 to 107 (fun nv kv W => ∃ (q v : Nat), nv = .int .i64 (v : Int) ∧ kv = .int .i64 (q : Int) ∧ Hid (octD 3 (T.drop (k + 1)) 0 = (v, q)) ∧ W = wr)
          case first =>
            go_wp2_with fail
            go_loopw [9, 10] (fun nv kv W => ∃ (q v : Nat), nv = .int .i64 (v : Int) ∧ kv = .int .i64 (q : Int) ∧ Hid (OctI (T.drop (k + 1)) q v) ∧ Hid (v < 8 ^ q) ∧ W = wr) (fun _ kv _ => 3 - (intOf kv).toNat)
            case atStart => exact ⟨0, 0, rfl, rfl, Lib.hid (OctI.start _), Lib.hid (by decide), rfl⟩
            case round =>
              obtain ⟨q, v, rfl, rfl, HOC, HV, rfl⟩ := hrel
              have hq9 : q ≤ 3 := HOC.out.1
              have hv9 : v ≤ 512 := by
                have h1 := HV.out
                have h2 : 8 ^ q ≤ 8 ^ 3 := Nat.pow_le_pow_right (by decide) hq9
                omega
              by_cases hq3 : q < 3
              · have hq3d : decide ((q : Int) < 3) = true := decide_eq_true (by omega)
                by_cases hpn : k + 1 + q < n
                · have hpd : decide ((k : Int) + 1 + (q : Int) < (n : Int)) = true := decide_eq_true (by omega)
                  have hpT : k + 1 + q < T.length := by rw [HTN.out]; exact hpn
                  have k2 := HCELL.out (k + 1 + q) hpT
                  obtain ⟨sb2, qo2, sp2, hq2⟩ : ∃ sb qo sp, ad.add (k + 1 + q) = (⟨sb, qo, sp⟩ : Addr) := ⟨_, _, _, rfl⟩
                  rw [hq2] at k2
                  have hdr : ∃ hl : q < (T.drop (k + 1)).length, (T.drop (k + 1))[q] = T[k + 1 + q] := ⟨by rw [List.length_drop]; omega, by rw [List.getElem_drop]⟩
                  obtain ⟨y, hye⟩ : ∃ y, y = T[k + 1 + q] := ⟨_, rfl⟩
                  have hy8 : y < 256 := by rw [hye]; exact HT8.out _ (List.getElem_mem hpT)
                  rw [← hye] at k2 hdr
                  have HDR := Lib.hid hdr
                  clear hye hdr
                  by_cases ho : isOct y = true
                  · have h48' : 48 ≤ y := by unfold isOct at ho; exact (of_decide_eq_true ho).1
                    have h55' : y ≤ 55 := by unfold isOct at ho; exact (of_decide_eq_true ho).2
                    have h48 : decide ((48 : Int) ≤ (y : Int)) = true := decide_eq_true (Int.ofNat_le.2 h48')
                    have h55 : decide ((y : Int) ≤ 55) = true := decide_eq_true (Int.ofNat_le.2 h55')
                    (repeat' (first | ((with_reducible refine zG ?_); first | refine oWx ?_ | (refine oWs ?_; clear HO; intro _ HO) | (refine oWj ?_; clear HO; intro _ HO HB)) | go_values | go_skip | go_guarded | go_step | go_upon | (go_ite <;> go_prune <;> (try go_simp))))
                    go_roundw
                    case rel =>
                      obtain ⟨hl, he⟩ := HDR.out
                      have h1 := HOC.out.go hq3 hl (by rw [he]; exact ho)
                      rw [he] at h1
                      exact ⟨q + 1, v * 8 + (y - 48), by congr 1; omega, rfl, Lib.hid h1, Lib.hid (by have := HV.out; rw [Nat.pow_succ]; omega), (by trivial)⟩
                    case measure => exact meas2 rfl (Nat.lt_succ_self q) hq3
                  · have ho' : isOct y = false := by simpa using ho
                    have HST := Lib.hid (HOC.out.stop (.inr (.inr ⟨HDR.out.1, by obtain ⟨hl, he⟩ := HDR.out; rw [he]; exact ho'⟩)))
                    have hor : ¬(48 ≤ y ∧ y ≤ 55) := by unfold isOct at ho'; exact of_decide_eq_false ho'
                    clear ho ho'
                    by_cases h48' : 48 ≤ y
                    · have h55' : ¬ y ≤ 55 := fun h => hor ⟨h48', h⟩
                      have h48 : decide ((48 : Int) ≤ (y : Int)) = true := decide_eq_true (Int.ofNat_le.2 h48')
                      have h55 : decide ((y : Int) ≤ 55) = false := decide_eq_false (fun h => h55' (Int.ofNat_le.1 h))
                      (repeat' (first | ((with_reducible refine zG ?_); first | refine oWx ?_ | (refine oWs ?_; clear HO; intro _ HO) | (refine oWj ?_; clear HO; intro _ HO HB)) | go_values | go_skip | go_guarded | go_step | go_upon | (go_ite <;> go_prune <;> (try go_simp))))
                      go_meet
                      exact ⟨q, v, rfl, rfl, HST, rfl⟩
                    · have h48 : decide ((48 : Int) ≤ (y : Int)) = false := decide_eq_false (fun h => h48' (Int.ofNat_le.1 h))
                      (repeat' (first | ((with_reducible refine zG ?_); first | refine oWx ?_ | (refine oWs ?_; clear HO; intro _ HO) | (refine oWj ?_; clear HO; intro _ HO HB)) | go_values | go_skip | go_guarded | go_step | go_upon | (go_ite <;> go_prune <;> (try go_simp))))
                      go_meet
                      exact ⟨q, v, rfl, rfl, HST, rfl⟩
                · have hpd : decide ((k : Int) + 1 + (q : Int) < (n : Int)) = false := decide_eq_false (by omega)
                  have HST := Lib.hid (HOC.out.stop (.inr (.inl (by rw [List.length_drop, HTN.out]; omega))))
                  (repeat' (first | ((with_reducible refine zG ?_); first | refine oWx ?_ | (refine oWs ?_; clear HO; intro _ HO) | (refine oWj ?_; clear HO; intro _ HO HB)) | go_values | go_skip | go_guarded | go_step | go_upon | (go_ite <;> go_prune <;> (try go_simp))))
                  go_meet
                  exact ⟨q, v, rfl, rfl, HST, rfl⟩
              · have hq3d : decide ((q : Int) < 3) = false := decide_eq_false (by omega)
                have HST := Lib.hid (HOC.out.stop (.inl (by omega)))
                (repeat' (first | ((with_reducible refine zG ?_); first | refine oWx ?_ | (refine oWs ?_; clear HO; intro _ HO) | (refine oWj ?_; clear HO; intro _ HO HB)) | go_values | go_skip | go_guarded | go_step | go_upon | (go_ite <;> go_prune <;> (try go_simp))))
                go_meet
                exact ⟨q, v, rfl, rfl, HST, rfl⟩
          case rest =>
            obtain ⟨q, v, rfl, rfl, HOQ, rfl⟩ := hcut
            have hq9 : q ≤ 3 := by have := (octD_le 3 (T.drop (k + 1)) 0).1; rw [HOQ.out] at this; exact this
            have hv9 : v < 512 := by have := octD_lt 3 (T.drop (k + 1)) 0 1 (by decide); rw [HOQ.out] at this; simpa using this
            have hqn : k + 1 + q ≤ n := by
              have := (octD_le 3 (T.drop (k + 1)) 0).2
              rw [HOQ.out, List.length_drop, HTN.out] at this
              have := HTN.out
              simp only at *
              omega
            rcases Nat.eq_zero_or_pos q with hq0 | hq0
            · subst hq0
              have hk1n : k + 1 < n := HTN.out ▸ hjT
              have HU2 := Lib.hid (HU.out.esc hjT HX.out (by rw [HOQ.out]))
              have k2 := HCELL.out (k + 1) hjT
              obtain ⟨sb2, qo2, sp2, hq2⟩ : ∃ sb qo sp, ad.add (k + 1) = (⟨sb, qo, sp⟩ : Addr) := ⟨_, _, _, rfl⟩
              rw [hq2] at k2
              obtain ⟨y, hye⟩ : ∃ y, y = T[k + 1] := ⟨_, rfl⟩
              have hy8 : y < 256 := by rw [hye]; exact HT8.out _ (List.getElem_mem hjT)
              rw [← hye] at k2 HU2
              have hd2 : decide ((k : Int) + 1 < (n : Int)) = true := decide_eq_true (by omega)
              have HE := Lib.hid (fun W => escape_any y hy8 W)
              clear hye hd
              (repeat' (first | ((with_reducible refine zG ?_); first | refine oWx ?_ | (refine oWs ?_; clear HO; intro _ HO) | (refine oWj ?_; clear HO; intro _ HO HB)) | ((with_reducible refine to_append ?_); refine wo_appU HO rfl rfl rfl HB (escB y) (by first | rfl | (simp; done) | omega) (by omega) ?_; clear HO HB; intro _ _ _ hcap HO; (try simp only [Act.put, pS])) | ((with_reducible refine ab_junk HO 5 ?_); clear HO; intro _ HO HB) | ((go_big_may; first | (go_at_call 57; refine (HE.out _).mono ?_; rintro e W2 ⟨rfl, rfl⟩) | fail) <;> (try dsimp only)) | go_values | go_skip | go_guarded | go_step | go_upon | (go_ite <;> go_prune <;> (try go_simp))))
              go_roundw
              case rel => exact ⟨k + 2, _, _, _, rfl, by first | rfl | (congr 1; omega), hcap, hk1n, HU2, HO⟩
              case measure => exact meas2 (k' := k + 2) (by first | rfl | omega) (by omega) hk
            · have HU2 := Lib.hid (HU.out.oct hkT HX.out HOQ.out (by omega))
              have hq0d : decide ((q : Int) > 0) = true := decide_eq_true (by omega)
              have hq0e : decide (0 < (q : Int)) = true := decide_eq_true (by omega)
              clear hd
              (repeat' (first | ((with_reducible refine zG ?_); first | refine oWx ?_ | (refine oWs ?_; clear HO; intro _ HO) | (refine oWj ?_; clear HO; intro _ HO HB)) | ((with_reducible refine to_append ?_); refine wo_appU HO rfl rfl rfl HB (v % 256) (by first | rfl | (simp; done) | omega) (by omega) ?_; clear HO HB; intro _ _ _ hcap HO; (try simp only [Act.put, pS])) | ((with_reducible refine ab_junk HO 5 ?_); clear HO; intro _ HO HB) | go_values | go_skip | go_guarded | go_step | go_upon | (go_ite <;> go_prune <;> (try go_simp))))
              go_roundw
              case rel => exact ⟨k + 1 + q, _, _, _, rfl, by first | rfl | (congr 1; omega), hcap, hqn, HU2, HO⟩
              case measure => exact meas2 (k' := k + 1 + q) (by first | rfl | omega) (by omega) hk
        · have HU2 := Lib.hid (HU.out.plain hkT hx)
          obtain ⟨x, hxe⟩ : ∃ x, x = T[k] := ⟨_, rfl⟩
          rw [← hxe] at k2 hx HU2
          have n92 : ((x : Int) != 92) = true := by rw [bne_iff_ne]; exact fun e => hx (by exact_mod_cast e)
          obtain ⟨sb, qo, sp, hq⟩ : ∃ sb qo sp, ad.add k = (⟨sb, qo, sp⟩ : Addr) := ⟨_, _, _, rfl⟩
          rw [hq] at k2
          clear hxe HU hx
          (repeat' (first | ((with_reducible refine zG ?_); first | refine oWx ?_ | (refine oWs ?_; clear HO; intro _ HO) | (refine oWj ?_; clear HO; intro _ HO HB)) | ((with_reducible refine to_append ?_); refine wo_appU HO rfl rfl rfl HB x rfl (by omega) ?_; clear HO HB; intro _ _ _ hcap HO; (try simp only [Act.put, pS])) | ((with_reducible refine ab_junk HO 5 ?_); clear HO; intro _ HO HB) | go_values | go_skip | go_guarded | go_step | go_upon | (go_ite <;> go_prune <;> (try go_simp))))
          go_roundw
          case rel => exact ⟨k + 1, _, _, _, rfl, by first | rfl | (rw [w1_nat hk6]; rfl), hcap, hk, HU2, HO⟩
          case measure => exact meas2 (by first | rfl | (rw [w1_nat hk6]; rfl)) (Nat.lt_succ_self k) hk
      · have hd : decide ((k : Int) < (n : Int)) = false := decide_eq_false (by omega)
        have hout := HU.out.done (by rw [HTN.out]; omega)
        obtain ⟨A9, c9, e9, hc9, HO9⟩ := HO.out.freezeG (fun h => by rw [List.length_eq_zero_iff.1 h]; rfl)
        dsimp only at e9 hc9
        injection e9 with e91 _ e92
        subst e91 e92
        subst hout
        have hstr := str_rowAt (B := wr.heap.size) (c := c') (HO9.cold _ List.mem_cons_self) (unesc_byte _ _ HT8.out) (fun b hb => hb.2.1)
        have hfin : R = .ok (⟨3, a, uns T, 0⟩, n + 2) := by rw [← HR.out]; unfold uns; rw [HTN.out]
        generalize uns T = U at hstr hfin
        have HFIN := Lib.hid hfin
        clear HO HU hol hc9 hcap HR hfin
        have HO := Lib.hid HO9
        clear HO9
        (repeat' (first | ((with_reducible refine zG ?_); first | refine oWx ?_ | (refine oWs ?_; clear HO; intro _ HO) | (refine oWj ?_; clear HO; intro _ HO HB)) | go_values | go_skip | go_guarded | go_step | go_upon | (go_ite <;> go_prune <;> (try go_simp))))
        refine bp_cellT HO (t := 2) (s := 3) rfl rfl rfl mM Try.isAgg89 Try.sizeOf89 (by rfl) rfl ?_
        rw [HFIN.out]
        exact ⟨by rw [tokV_0]; rfl, HO.out.st.r, Upd.of_kept HO.out.kept⟩
end Go.Proofs.Ythipoccbeloceaa
