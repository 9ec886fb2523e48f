/- Several texts put together: RtP. -/
import Derived.Test.YthipoccbeloceaaBu13
set_option linter.unusedSimpArgs false
set_option linter.unusedVariables false
namespace Go.Proofs.Ythipoccbeloceaa
open Go.RowKit
attribute [local irreducible] WQ
theorem own_w {A : Bool} {s x y : List Nat} {b : Bool} (h : A = decide (s = x)) (m : s = y) (hb : decide (y = x) = b) : A = b := by rw [h, m, hb]
theorem own_c (D R M N : Bool) : D = false ∨ (D = true ∧ M = false) ∨ (D = true ∧ M = true ∧ N = false) ∨ (D = true ∧ M = true ∧ N = true ∧ R = false) ∨ (D = true ∧ M = true ∧ N = true ∧ R = true) := by cases D <;> cases R <;> cases M <;> cases N <;> simp
set_option maxRecDepth 100000 in
set_option maxHeartbeats 6400000 in
theorem own_any {g nF cF nR cR cP mf mg ma mh : Nat} {AF AR AP : Option Addr} {vL vQ : Value} {xt : List Bx} {X : List Nat} {L : List (List Nat)} {arr : List Rf} {hl : List (Value × Value)} {t : TreeT} {p : Pl} {v : Value} {q : List Rf} {hd : List (Rf × Rf)} (w : World) (hs : SX (⟨g, 68, [.slice AF nF cF, .slice AR nR cR, .map (some mf), .slice AP nF cP, .map (some mg), vL, .map (some ma), .map (some mh), vQ]⟩ :: xt) [(mg, encK strV (enumF L 0)), (ma, encK refV (arrE arr)), (mh, hl)] X w.heap.size w) (hp : PlAt w (Eld w X) p v) (hpm : PmAt w (Eld w X) AP nF t) (hfn : p.fn < (t.funcs.length : Int)) (hf1 : -1 ≤ p.fn) (hn2 : nF ≤ 1000000) (hby : byteOk p.n.s) (hLo : ∀ x ∈ enumF L 0, byteOk x.1) :
    Calls Try.prog 24 #[.pointer (some ⟨g, 0, none⟩), v] w (RdV X (SX (⟨g, 68, [.slice AF nF cF, .slice AR nR cR, .map (some mf), .slice AP nF cP, .map (some mg), vL, .map (some ma), .map (some mh), vQ]⟩ :: xt) [(mg, encK strV (enumF L 0)), (ma, encK refV (arrE arr)), (mh, hl)] X w.heap.size) (.bool (ownB t ⟨L, arr, q, hd⟩ p)) w) := by
  have HO := hs.own
  obtain ⟨b, o, A, c, u, rfl, hn1, hu⟩ := hp
  have HN := Lib.hid hn1
  have HP := Lib.hid hpm
  have HB := Lib.hid hby
  have HL := Lib.hid hLo
  have HF1 := Lib.hid hfn
  have HF2 := Lib.hid hf1
  have hwd := fun y hy => wd_eqK HB.out (y := y) hy
  have w0 : ((strN p.n.s).toList == ([78, 70] : List UInt8)) = decide (p.n.s = [78, 70]) := hwd [78, 70] (by decide)
  have w1 : ((strN p.n.s).toList == ([78, 82] : List UInt8)) = decide (p.n.s = [78, 82]) := hwd [78, 82] (by decide)
  have w2 : ((strN p.n.s).toList == ([70, 83] : List UInt8)) = decide (p.n.s = [70, 83]) := hwd [70, 83] (by decide)
  have w3 : ((strN p.n.s).toList == ([79, 70, 83] : List UInt8)) = decide (p.n.s = [79, 70, 83]) := hwd [79, 70, 83] (by decide)
  have w4 : ((strN p.n.s).toList == ([82, 83] : List UInt8)) = decide (p.n.s = [82, 83]) := hwd [82, 83] (by decide)
  have w5 : ((strN p.n.s).toList == ([79, 82, 83] : List UInt8)) = decide (p.n.s = [79, 82, 83]) := hwd [79, 82, 83] (by decide)
  have w6 : ((strN p.n.s).toList == ([82, 83, 84, 65, 82, 84] : List UInt8)) = decide (p.n.s = [82, 83, 84, 65, 82, 84]) := hwd [82, 83, 84, 65, 82, 84] (by decide)
  have w7 : ((strN p.n.s).toList == ([82, 76, 69, 78, 71, 84, 72] : List UInt8)) = decide (p.n.s = [82, 76, 69, 78, 71, 84, 72]) := hwd [82, 76, 69, 78, 71, 84, 72] (by decide)
  have w8 : ((strN p.n.s).toList == ([83, 85, 66, 83, 69, 80] : List UInt8)) = decide (p.n.s = [83, 85, 66, 83, 69, 80]) := hwd [83, 85, 66, 83, 69, 80] (by decide)
  have hpn : PlAt w (Eld w X) p (.agg #[.pointer (some ⟨b, o, none⟩), u, .int .i64 (p.i : Int), .int .i64 p.fn, .int .i64 (p.kd : Int), .bool p.lp]) := ⟨b, o, A, c, u, rfl, hn1, hu⟩
  clear hwd hs hn1 hu hpm hby hLo hfn hf1 hpn
  have e4 : ownB t ⟨L, arr, q, hd⟩ p = (namedB p.n && (decide (p.n.s ∈ ownL) && (decide ((refS t L p.fn p.n.s).fn < 0) && decide (refS t L p.fn p.n.s ∈ arr)))) := rfl
  rw [e4]
  clear e4
  obtain ⟨rf, hrf⟩ : ∃ z, refS t L p.fn p.n.s = z := ⟨_, rfl⟩
  rw [hrf]
  have HRF := Lib.hid hrf
  clear hrf
  rcases own_c (namedB p.n) (decide (rf ∈ arr)) (decide (p.n.s ∈ ownL)) (decide (rf.fn < 0)) with h4 | ⟨h4, hm⟩ | ⟨h4, hm, hn⟩ | ⟨h4, hm, hn, hr⟩ | ⟨h4, hm, hn, hr⟩
  · rw [h4]
    go_enter Try.func24, Try.ntmps24
    (repeat' (first | ((with_reducible refine zG ?_); first | refine oWx ?_ | (refine oWs ?_; clear HO; intro _ HO)) | ((with_reducible refine to_load ?_); (first | first | refine oN0 HO rfl rfl HN ?_ | refine oNj HO rfl rfl HN rfl rfl ?_ | refine oY1 HO rfl rfl ?_ | refine oY3 HO rfl rfl ?_); (try simp only [Act.put, pS])) | ((go_big_may; first | (go_at_call 35; refine (named_any _ (HN.out.st (HO.out.eld (fun _ h => by cases h)))).mono ?_; rintro e W ⟨rfl, q⟩; replace HO := Lib.hid (HO.out.next q); clear q; rw [h4])) <;> (try dsimp only)) | go_values | go_skip | go_guarded | go_step | go_upon | (go_ite <;> go_prune <;> (try go_simp))))
    refine bp_tmp (t := 4) rfl rfl rfl ?_
    exact ⟨rfl, HO.out.kept, HO.out.st⟩
  · rw [h4, hm]
    have hm2 := of_decide_eq_false hm
    simp only [ownL, List.mem_cons, List.not_mem_nil, or_false, not_or] at hm2
    obtain ⟨m0, m1, m2, m3, m4, m5, m6, m7, m8⟩ := hm2
    rw [decide_eq_false m0] at w0
    rw [decide_eq_false m1] at w1
    rw [decide_eq_false m2] at w2
    rw [decide_eq_false m3] at w3
    rw [decide_eq_false m4] at w4
    rw [decide_eq_false m5] at w5
    rw [decide_eq_false m6] at w6
    rw [decide_eq_false m7] at w7
    rw [decide_eq_false m8] at w8
    clear m0 m1 m2 m3 m4 m5 m6 m7 m8 hm
    go_enter Try.func24, Try.ntmps24
    (repeat' (first | ((with_reducible refine zG ?_); first | refine oWx ?_ | (refine oWs ?_; clear HO; intro _ HO)) | ((with_reducible refine to_load ?_); (first | first | refine oN0 HO rfl rfl HN ?_ | refine oNj HO rfl rfl HN rfl rfl ?_ | refine oY1 HO rfl rfl ?_ | refine oY3 HO rfl rfl ?_); (try simp only [Act.put, pS])) | ((go_big_may; first | (go_at_call 35; refine (named_any _ (HN.out.st (HO.out.eld (fun _ h => by cases h)))).mono ?_; rintro e W ⟨rfl, q⟩; replace HO := Lib.hid (HO.out.next q); clear q; rw [h4])) <;> (try dsimp only)) | go_values | go_skip | go_guarded | go_step | go_upon | (go_ite <;> go_prune <;> (try go_simp))))
    refine bp_tmp (t := 4) rfl rfl rfl ?_
    exact ⟨rfl, HO.out.kept, HO.out.st⟩
  all_goals
    have hm2 := of_decide_eq_true hm
    simp only [ownL, List.mem_cons, List.not_mem_nil, or_false] at hm2
    rw [h4, hm, hn]
    (try rw [hr])
    clear hm
    (try have hnp := of_decide_eq_true hn)
    (try have hnp := of_decide_eq_false hn)
    rcases hm2 with m | m | m | m | m | m | m | m | m
    all_goals
      first
      | replace w0 := own_w (b := true) w0 m rfl
      | replace w0 := own_w (b := false) w0 m rfl
      first
      | replace w1 := own_w (b := true) w1 m rfl
      | replace w1 := own_w (b := false) w1 m rfl
      first
      | replace w2 := own_w (b := true) w2 m rfl
      | replace w2 := own_w (b := false) w2 m rfl
      first
      | replace w3 := own_w (b := true) w3 m rfl
      | replace w3 := own_w (b := false) w3 m rfl
      first
      | replace w4 := own_w (b := true) w4 m rfl
      | replace w4 := own_w (b := false) w4 m rfl
      first
      | replace w5 := own_w (b := true) w5 m rfl
      | replace w5 := own_w (b := false) w5 m rfl
      first
      | replace w6 := own_w (b := true) w6 m rfl
      | replace w6 := own_w (b := false) w6 m rfl
      first
      | replace w7 := own_w (b := true) w7 m rfl
      | replace w7 := own_w (b := false) w7 m rfl
      first
      | replace w8 := own_w (b := true) w8 m rfl
      | replace w8 := own_w (b := false) w8 m rfl
      clear m
      go_enter Try.func24, Try.ntmps24
      (repeat' (first | ((with_reducible refine zG ?_); first | refine oWx ?_ | (refine oWs ?_; clear HO; intro _ HO)) | ((with_reducible refine to_load ?_); (first | first | refine oN0 HO rfl rfl HN ?_ | refine oNj HO rfl rfl HN rfl rfl ?_ | refine oY1 HO rfl rfl ?_ | refine oY3 HO rfl rfl ?_); (try simp only [Act.put, pS])) | ((go_big_may; first | (go_at_call 35; refine (named_any _ (HN.out.st (HO.out.eld (fun _ h => by cases h)))).mono ?_; rintro e W ⟨rfl, q⟩; replace HO := Lib.hid (HO.out.next q); clear q; rw [h4])) <;> (try dsimp only)) | go_values | go_skip | go_guarded | go_step | go_upon | (go_ite <;> go_prune <;> (try go_simp))))
      ((refine tBe HO [10] (.pu 0 (.pu 1 (.pu 3 (.ld 2 (.ld 4 (.pu 5 (.pu 6 (.ld 7 (.bo 8 9 (.ef 9 (.lt 10 (.nil))) (.ef 8 (.lt 10 (.nil)))))))))))) ?_); (clear HO; intro _ HO); (repeat' (first | ((with_reducible refine tGo ?_); first | ((first | refine tL1 (OwnT.of HO) rfl rfl rfl (by kernel_rfl) (fun _ _ _ h => h) (by rfl) ?_ | refine tL3 (OwnT.of HO) rfl rfl rfl (by kernel_rfl) (fun _ _ _ h => h) (by rfl) ?_ | refine tY1 (OwnT.of HO) rfl rfl rfl (by kernel_rfl) (fun _ _ _ h => h) (by rfl) ?_ | refine tN0 HN (OwnT.of HO) rfl rfl rfl (by kernel_rfl) (fun _ _ _ h => h) (by rfl) ?_ | refine tNj HN (OwnT.of HO) rfl rfl rfl rfl rfl (by kernel_rfl) (fun _ _ _ h => h) (by rfl) ?_); (try simp only [Act.put, pS])) | ((first | refine tPu (OwnT.of HO) rfl (by kernel_rfl) (fun _ _ _ h => h) (by rfl) (by intro _; go_simp; (try with_reducible rfl)) ?_); (try simp only [Act.put, pS])) | refine tEf rfl (by kernel_rfl) (by rfl) (fun K hK => ?_) | refine tLt rfl (by kernel_rfl) (by rfl) (fun K hK => ?_) | refine tDo (by kernel_rfl) ?_ | refine tBo rfl rfl (by kernel_rfl) (by rfl) (by rfl) (fun K hK => ?_) (fun K hK => ?_)) | ((with_reducible refine uGo ?_); first | ((refine uPu rfl (by kernel_rfl) (fun _ _ _ h => h) (by rfl) (by intro _; go_simp; (try with_reducible rfl)) ?_); (try simp only [Act.put, pS])) | refine uEf rfl (by kernel_rfl) (by rfl) (fun K hK => ?_) | refine uDo (by kernel_rfl) ?_) | ((with_reducible show K _ _); (first | refine hK.out _ _ (OwnT.of HO) ?_ | with_reducible refine hK.out _ _ ?_); clear hK K; (try simp only [Act.put, pS])) | ((with_reducible refine oAl HO ?_); clear HO; intro _ HO) | ((with_reducible refine to_store ?_); first | (refine oYs HO rfl rfl rfl (by rfl) ?_; clear HO; intro _ HO) | ((first | refine oT1 HO rfl rfl rfl ?_ | refine oT2 HO rfl rfl rfl (by rfl) ?_ | refine oT3 HO rfl rfl rfl rfl ?_); clear HO; intro _ HO)) | ((first | (go_at_call 38; refine arm_rdv (fun w h => ref_any p.fn HF1.out HF2.out hn2 p.n.s HB.out HL.out w (rdv_at h) (HP.out.st (h.out.eld (fun _ h => h)))) HO ?_; clear HO; intro _ HO; rw [HRF.out])) <;> (try dsimp only)) | ((with_reducible refine eOp ?_); go_simp))))
      all_goals ((repeat' (first | ((with_reducible refine zG ?_); first | refine oWx ?_ | (refine oWs ?_; clear HO; intro _ HO)) | ((with_reducible refine to_load ?_); (first | first | refine oN0 HO rfl rfl HN ?_ | refine oNj HO rfl rfl HN rfl rfl ?_ | refine oY1 HO rfl rfl ?_ | refine oY3 HO rfl rfl ?_); (try simp only [Act.put, pS])) | ((go_big_may; first | (go_at_call 40; refine arm_rdv (fun w h => isArray_any rf w (rdv_at h)) HO ?_; clear HO; intro _ HO; rw [hr])) <;> (try dsimp only)) | go_values | go_skip | go_guarded | go_step | go_upon | (go_ite <;> go_prune <;> (try go_simp)))))
      all_goals (refine bp_tmp (t := 4) rfl rfl rfl ?_; exact ⟨by simp, HO.out.kept, HO.out.st⟩)
end Go.Proofs.Ythipoccbeloceaa
