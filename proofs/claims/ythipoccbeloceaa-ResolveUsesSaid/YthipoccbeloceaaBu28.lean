/- Several texts put together: RpN. -/
import Derived.Test.YthipoccbeloceaaBu25
import Derived.Test.YthipoccbeloceaaBu19
set_option linter.unusedSimpArgs false
set_option linter.unusedVariables false
namespace Go.Proofs.Ythipoccbeloceaa
open Go.RowKit
theorem kid1 {w0 W : World} {X : List Nat} {S : World → Prop} {bs : List Bx} {rs : List Rw} {F : List Cold} {y : NodeT} {A : Option Addr} (HO : Hid (Own w0 X S bs rs F W)) (m : Cold.kids A [y] ∈ F) :
    ∃ b o A' c', A = some ⟨b, o, none⟩ ∧ y.l.length ≤ c' ∧ Hid (Own w0 X S bs rs (Cold.at b o [.int .i64 ((NodeT.k y : Nat) : Int), .int .i64 ((NodeT.at' y : Nat) : Int), .string (strN (NodeT.s y)), .bool (zn (NodeT.z y)), .int .u64 (zh (NodeT.z y)), .int .u64 (zl (NodeT.z y)), .int .i64 ((NodeT.i y : Nat) : Int), .slice A' (NodeT.l y).length c'] :: Cold.kids A' y.l :: F) W) := by
  have h := HO.out.cold _ m
  unfold Cold.kids at h
  dsimp only at h
  rw [KidsL] at h
  obtain ⟨⟨b, o, A', c', h1, h2, h3, h4, h5⟩, _⟩ := h
  exact ⟨b, o, A', c', h1, h4, Lib.hid ((HO.out.coldAll (Cold.kids A' y.l) (by unfold Cold.kids; dsimp only; rw [← KidsN_eq]; exact h5)).coldAll (Cold.at b o _) ⟨h2, h3⟩)⟩
theorem rparen_eq (ts : List TokF) (p : RPar) (k : Nat) : rparen ts p k = (rlist ts p (k + 1) [41] false).bind fun l k1 => if ((l.length : Int) == 1) = true then .ok (l.headD (.mk 0 0 [] 0 0 [])) k1 else if ris ts k1 [105, 110] then (if ((tk ts (k1 + 1)).k : Int) == 5 then .ok (.mk 11 (tk ts k).at' (tk ts (k1 + 1)).s 0 0 l) (k1 + 2) else .err (k1 + 1) 4) else .err k1 4 := by
  unfold rparen
  congr 1
  funext l k1
  rcases l with _ | ⟨x, _ | ⟨y, l⟩⟩
  · rfl
  · rfl
  · have h : ((((x :: y :: l).length : Nat) : Int) == 1) = false := by rw [beq_eq_false_iff_ne]; simp; omega
    rw [h]
    rfl
set_option maxRecDepth 100000 in
set_option maxHeartbeats 3200000 in
theorem ratom_any (p : RPar) (b c : Nat) (ts : List TokF) (d : Nat) (H_place : ∀ k, k < ts.length → RC 84 #[.agg #[.slice (some ⟨b, 0, none⟩) ts.length c], .int .i64 (k : Int), .int .i64 (d : Int)] (rplace ts p k) VG b c ts (k + 1)) (H_list : ∀ k e z, (∀ x ∈ e, x < 256) → k < ts.length → RC 80 #[.agg #[.slice (some ⟨b, 0, none⟩) ts.length c], .int .i64 (k : Int), .int .i64 (d : Int), .string (strN e), .bool z] (rlist ts p k e z) VGL b c ts (k + 1)) (k : Nat) (hk : k < ts.length) : RC 85 #[.agg #[.slice (some ⟨b, 0, none⟩) ts.length c], .int .i64 (k : Int), .int .i64 (d : Int)] (ratom ts p k) VG b c ts (k + 1) := by
  intro w h
  obtain ⟨R, hR⟩ : ∃ R, ratom ts p k = R := ⟨_, rfl⟩
  rw [hR]
  have HF := Lib.hid hR
  have HRS := Lib.hid h
  have HO := h.ownN
  have hlen := h.ok.len
  have hkI : (k : Int) < (ts.length : Int) := by omega
  clear h hR
  have C_place := Lib.hid H_place
  clear H_place
  have C_list := Lib.hid H_list
  clear H_list
  unfold ratom at HF
  have H_place := C_place
  have hby : ∀ x ∈ (tk ts k).s, x < 256 := by rw [tk_eq hk]; exact HRS.out.ok.byte _ (List.getElem_mem hk)
  have h8s : ((strN (tk ts k).s).toList == [108, 101, 110, 103, 116, 104]) = decide ((tk ts k).s = [108, 101, 110, 103, 116, 104]) := by
    have := strN_beq hby (y := [108, 101, 110, 103, 116, 104]) (by decide)
    rw [← this, strN_list [108, 101, 110, 103, 116, 104]]
    rfl
  simp only [rkd] at HF
  have hne : ∀ n m : Nat, n ≠ m → (((tk ts k).k : Int) == (n : Int)) = true → (((tk ts k).k : Int) == (m : Int)) = false := fun n m h h1 => by
    rw [beq_iff_eq] at h1
    rw [h1, beq_eq_false_iff_ne]
    exact fun e => h (by exact_mod_cast e)
  cases h2 : (((tk ts k).k : Int) == 2)
  rotate_left
  · have hlt1 := kdn_lt HRS.out.ok hk h2 (by decide)
    simp only [show ((2 : Nat) : Int) = 2 from rfl, h2, ↓reduceIte] at HF
    clear hby h8s hne
    go_enter Try.func85, Try.ntmps85
    (repeat' (first | ((with_reducible refine zG ?_); first | refine oWx ?_ | (refine oWs ?_; clear HO; intro _ HO)) | ((with_reducible refine to_load ?_); (first | first | refine oR6 HO rfl rfl rfl (by omega) ?_ | refine oR1 HO rfl rfl rfl rfl (by omega) ?_ | refine oR0 HO rfl rfl rfl (by omega) ?_); (try simp only [Act.put, pS])) | ((with_reducible refine to_store ?_); first | (refine oT4 HO rfl rfl rfl rfl ?_; clear HO; intro _ HO)) | go_values | go_skip | go_guarded | go_step | go_upon | (go_ite <;> go_prune <;> (try go_simp))))
    all_goals (refine oBc HO (t := 6) (ty := 116) rfl rfl rfl ?_; exact rFin)
  cases h3 : (((tk ts k).k : Int) == 3)
  rotate_left
  · have hlt1 := kdn_lt HRS.out.ok hk h3 (by decide)
    simp only [show ((2 : Nat) : Int) = 2 from rfl, h2, show ((3 : Nat) : Int) = 3 from rfl, h3, ↓reduceIte, Bool.false_eq_true] at HF
    clear h8s
    clear hby hne
    go_enter Try.func85, Try.ntmps85
    (repeat' (first | ((with_reducible refine zG ?_); first | refine oWx ?_ | (refine oWs ?_; clear HO; intro _ HO)) | ((with_reducible refine to_load ?_); (first | first | refine oR6 HO rfl rfl rfl (by omega) ?_ | refine oR1 HO rfl rfl rfl rfl (by omega) ?_ | refine oR0 HO rfl rfl rfl (by omega) ?_); (try simp only [Act.put, pS])) | ((with_reducible refine to_store ?_); first | (refine oT4 HO rfl rfl rfl rfl ?_; clear HO; intro _ HO)) | go_values | go_skip | go_guarded | go_step | go_upon | (go_ite <;> go_prune <;> (try go_simp))))
    all_goals (refine oBc HO (t := 6) (ty := 116) rfl rfl rfl ?_; exact rFin)
  cases h4 : (((tk ts k).k : Int) == 4)
  rotate_left
  · have hlt1 := kdn_lt HRS.out.ok hk h4 (by decide)
    simp only [show ((2 : Nat) : Int) = 2 from rfl, h2, show ((3 : Nat) : Int) = 3 from rfl, h3, show ((4 : Nat) : Int) = 4 from rfl, h4, ↓reduceIte, Bool.false_eq_true] at HF
    clear h8s
    clear hby hne
    go_enter Try.func85, Try.ntmps85
    (repeat' (first | ((with_reducible refine zG ?_); first | refine oWx ?_ | (refine oWs ?_; clear HO; intro _ HO)) | ((with_reducible refine to_load ?_); (first | first | refine oR6 HO rfl rfl rfl (by omega) ?_ | refine oR1 HO rfl rfl rfl rfl (by omega) ?_ | refine oR0 HO rfl rfl rfl (by omega) ?_); (try simp only [Act.put, pS])) | ((with_reducible refine to_store ?_); first | (refine oT4 HO rfl rfl rfl rfl ?_; clear HO; intro _ HO)) | go_values | go_skip | go_guarded | go_step | go_upon | (go_ite <;> go_prune <;> (try go_simp))))
    all_goals (refine oBc HO (t := 6) (ty := 116) rfl rfl rfl ?_; exact rFin)
  cases h5 : (((tk ts k).k : Int) == 5)
  rotate_left
  · have hlt1 := kdn_lt HRS.out.ok hk h5 (by decide)
    simp only [show ((2 : Nat) : Int) = 2 from rfl, h2, show ((3 : Nat) : Int) = 3 from rfl, h3, show ((4 : Nat) : Int) = 4 from rfl, h4, show ((5 : Nat) : Int) = 5 from rfl, h5, ↓reduceIte, Bool.false_eq_true] at HF
    clear h8s
    clear hby hne
    go_enter Try.func85, Try.ntmps85
    (repeat' (first | ((with_reducible refine zG ?_); first | refine oWx ?_ | (refine oWs ?_; clear HO; intro _ HO)) | ((with_reducible refine to_load ?_); (first | first | refine oR6 HO rfl rfl rfl (by omega) ?_ | refine oR1 HO rfl rfl rfl rfl (by omega) ?_ | refine oR0 HO rfl rfl rfl (by omega) ?_); (try simp only [Act.put, pS])) | ((with_reducible refine to_store ?_); first | (refine oT4 HO rfl rfl rfl rfl ?_; clear HO; intro _ HO)) | ((go_big_may; first | (go_at_call 84; (first | refine arm_rn rfl ?_ (C_place.out _ ?_) HO HF ?_ ?_ | refine arm_rn rfl ?_ (C_place.out _ ?_) HO (gr_eta HF) ?_ ?_); (first | with_reducible rfl | rfl | (rw [IntWalk.i64_in _ (by omega)]; rfl)); (omega); (clear HO HF; intro _ _ _ _ _ HO _ hle hlt HF); rotate_left; (clear HO HF; intro _ _ _ HO hq HE); rotate_left)) <;> (try dsimp only)) | go_values | go_skip | go_guarded | go_step | go_upon | (go_ite <;> go_prune <;> (try go_simp))))
    all_goals (refine oBc HO (t := 6) (ty := 116) rfl rfl rfl ?_; exact rFin)
  cases h6 : (((tk ts k).k : Int) == 6)
  rotate_left
  · have hlt1 := kdn_lt HRS.out.ok hk h6 (by decide)
    simp only [show ((2 : Nat) : Int) = 2 from rfl, h2, show ((3 : Nat) : Int) = 3 from rfl, h3, show ((4 : Nat) : Int) = 4 from rfl, h4, show ((5 : Nat) : Int) = 5 from rfl, h5, show ((6 : Nat) : Int) = 6 from rfl, h6, ↓reduceIte, Bool.false_eq_true] at HF
    have h8 := hne 6 8 (by decide) h6
    unfold rcall at HF
    by_cases hs : (tk ts k).s = [108, 101, 110, 103, 116, 104]
    case' pos =>
      have hS := Lib.hid (eq_true hs)
      rw [decide_eq_true hs] at h8s
    case' neg =>
      have hS := Lib.hid (eq_false hs)
      rw [decide_eq_false hs] at h8s
    all_goals simp only [hS.out, ↓reduceIte] at HF
    all_goals clear hs hS
    all_goals
      simp only [show ((8 : Nat) : Int) = 8 from rfl] at h8
      clear hby hne
      go_enter Try.func85, Try.ntmps85
      (repeat' (first | ((with_reducible refine zG ?_); first | refine oWx ?_ | (refine oWs ?_; clear HO; intro _ HO)) | ((with_reducible refine to_load ?_); (first | first | refine oR6 HO rfl rfl rfl (by omega) ?_ | refine oR1 HO rfl rfl rfl rfl (by omega) ?_ | refine oR0 HO rfl rfl rfl (by omega) ?_); (try simp only [Act.put, pS])) | ((with_reducible refine to_store ?_); first | (refine oT4 HO rfl rfl rfl rfl ?_; clear HO; intro _ HO)) | ((go_big_may; first | (go_at_call 32; refine arm_is [40] (by decide) (by omega) HO rfl rfl ?_; clear HO; intro _ z hz hlt HO; cases z <;> (try simp only [hz, ↓reduceIte, bZ] at HF) <;> (first | (replace hlt := hlt rfl) | clear hlt)) | (go_at_call 80; refine arm_rl rfl ?_ (C_list.out _ _ _ ?_ ?_) HO HF ?_ ?_; (first | with_reducible rfl | rfl); (decide); (omega); (clear HO HF; intro lL AL cL aL _ HO hcL hle hlt HF); rotate_left; (clear HO HF; intro _ _ _ HO hq HE); rotate_left) | (go_at_call 63; refine arm_bad HO rfl rfl ?_; clear HO; intro _ HO)) <;> (try dsimp only)) | go_values | go_skip | go_guarded | go_step | go_upon | (go_ite <;> go_prune <;> (try go_simp))))
      all_goals (refine oBc HO (t := 6) (ty := 116) rfl rfl rfl ?_; exact rFin)
  cases h8 : (((tk ts k).k : Int) == 8)
  rotate_left
  · have hlt1 := kdn_lt HRS.out.ok hk h8 (by decide)
    simp only [show ((2 : Nat) : Int) = 2 from rfl, h2, show ((3 : Nat) : Int) = 3 from rfl, h3, show ((4 : Nat) : Int) = 4 from rfl, h4, show ((5 : Nat) : Int) = 5 from rfl, h5, show ((6 : Nat) : Int) = 6 from rfl, h6, show ((8 : Nat) : Int) = 8 from rfl, h8, ↓reduceIte, Bool.false_eq_true] at HF
    unfold rcall at HF
    by_cases hs : (tk ts k).s = [108, 101, 110, 103, 116, 104]
    case' pos =>
      have hS := Lib.hid (eq_true hs)
      rw [decide_eq_true hs] at h8s
    case' neg =>
      have hS := Lib.hid (eq_false hs)
      rw [decide_eq_false hs] at h8s
    all_goals simp only [hS.out, ↓reduceIte] at HF
    all_goals clear hs hS
    all_goals
      clear hby hne
      go_enter Try.func85, Try.ntmps85
      (repeat' (first | ((with_reducible refine zG ?_); first | refine oWx ?_ | (refine oWs ?_; clear HO; intro _ HO)) | ((with_reducible refine to_load ?_); (first | first | refine oR6 HO rfl rfl rfl (by omega) ?_ | refine oR1 HO rfl rfl rfl rfl (by omega) ?_ | refine oR0 HO rfl rfl rfl (by omega) ?_); (try simp only [Act.put, pS])) | ((with_reducible refine to_store ?_); first | (refine oT4 HO rfl rfl rfl rfl ?_; clear HO; intro _ HO)) | ((go_big_may; first | (go_at_call 32; refine arm_is [40] (by decide) (by omega) HO rfl rfl ?_; clear HO; intro _ z hz hlt HO; cases z <;> (try simp only [hz, ↓reduceIte, bZ] at HF) <;> (first | (replace hlt := hlt rfl) | clear hlt)) | (go_at_call 80; refine arm_rl rfl ?_ (C_list.out _ _ _ ?_ ?_) HO HF ?_ ?_; (first | with_reducible rfl | rfl); (decide); (omega); (clear HO HF; intro lL AL cL aL _ HO hcL hle hlt HF); rotate_left; (clear HO HF; intro _ _ _ HO hq HE); rotate_left) | (go_at_call 63; refine arm_bad HO rfl rfl ?_; clear HO; intro _ HO)) <;> (try dsimp only)) | go_values | go_skip | go_guarded | go_step | go_upon | (go_ite <;> go_prune <;> (try go_simp))))
      all_goals (refine oBc HO (t := 6) (ty := 116) rfl rfl rfl ?_; exact rFin)
  simp only [show ((2 : Nat) : Int) = 2 from rfl, h2, show ((3 : Nat) : Int) = 3 from rfl, h3, show ((4 : Nat) : Int) = 4 from rfl, h4, show ((5 : Nat) : Int) = 5 from rfl, h5, show ((6 : Nat) : Int) = 6 from rfl, h6, show ((8 : Nat) : Int) = 8 from rfl, h8, ↓reduceIte, Bool.false_eq_true, rparen_eq] at HF
  clear hby h8s hne
  go_enter Try.func85, Try.ntmps85
  (repeat' (go_not_at_region 39; first | ((with_reducible refine zG ?_); first | refine oWx ?_ | (refine oWs ?_; clear HO; intro _ HO)) | ((with_reducible refine to_load ?_); (first | first | refine oR6 HO rfl rfl rfl (by omega) ?_ | refine oR1 HO rfl rfl rfl rfl (by omega) ?_ | refine oR0 HO rfl rfl rfl (by omega) ?_); (try simp only [Act.put, pS])) | ((with_reducible refine to_store ?_); first | (refine oT4 HO rfl rfl rfl rfl ?_; clear HO; intro _ HO)) | ((go_big_may; first | (go_at_call 32; refine arm_is [36] (by decide) (by omega) HO rfl rfl ?_; clear HO; intro _ z hz hlt HO; cases z <;> (try simp only [hz, ↓reduceIte, bZ] at HF) <;> (first | (replace hlt := hlt rfl) | clear hlt)) | (go_at_call 84; (first | refine arm_rn rfl ?_ (C_place.out _ ?_) HO HF ?_ ?_ | refine arm_rn rfl ?_ (C_place.out _ ?_) HO (gr_eta HF) ?_ ?_); (first | with_reducible rfl | rfl | (rw [IntWalk.i64_in _ (by omega)]; rfl)); (omega); (clear HO HF; intro _ _ _ _ _ HO _ hle hlt HF); rotate_left; (clear HO HF; intro _ _ _ HO hq HE); rotate_left) | (go_at_call 32; refine arm_is [103, 101, 116, 108, 105, 110, 101] (by decide) (by omega) HO rfl rfl ?_; clear HO; intro _ z hz hlt HO; cases z <;> (try simp only [hz, ↓reduceIte, bZ] at HF) <;> (first | (replace hlt := hlt rfl) | clear hlt)) | (go_at_call 82; (first | refine arm_intoZ C_place HO HF rfl rfl ?_ ?_ ?_ ?_ ?_ ?_ ?_ | refine arm_intoZ C_place HO (gr_eta HF) rfl rfl ?_ ?_ ?_ ?_ ?_ ?_ ?_); (omega); (repeat (first | exact mH | apply mT)); (first | exact Nat.le_refl _ | decide); (first | decide | simp); (first | decide | simp); (clear HO HF; intro _ _ _ _ _ HO _ hle hlt HF); rotate_left; (clear HO HF; intro _ _ _ HO hq HE); rotate_left) | (go_at_call 32; refine arm_is [40] (by decide) (by omega) HO rfl rfl ?_; clear HO; intro _ z hz hlt HO; cases z <;> (try simp only [hz, ↓reduceIte, bZ] at HF) <;> (first | (replace hlt := hlt rfl) | clear hlt)) | (go_at_call 80; refine arm_rl rfl ?_ (C_list.out _ _ _ ?_ ?_) HO HF ?_ ?_; (first | with_reducible rfl | rfl); (decide); (omega); (clear HO HF; intro lL AL cL aL _ HO hcL hle hlt HF); rotate_left; (clear HO HF; intro _ _ _ HO hq HE); rotate_left) | (go_at_call 63; refine arm_bad HO rfl rfl ?_; clear HO; intro _ HO)) <;> (try dsimp only)) | go_values | go_skip | go_guarded | go_step | go_upon | (go_ite <;> go_prune <;> (try go_simp))))
  all_goals (first | (refine oBc HO (t := 6) (ty := 116) rfl rfl rfl ?_; exact rFin) | skip)
  cases hL1 : ((lL.length : Int) == 1)
  · cases h5' : (((tk ts (aL + 1)).k : Int) == 5)
    case' false => have h5b : (((tk ts (aL + 1)).k : Int) != 5) = true := by rw [bne, h5']; rfl
    case' true => have h5b : (((tk ts (aL + 1)).k : Int) != 5) = false := by rw [bne, h5']; rfl
    all_goals
      simp only [hL1, h5', Bool.false_eq_true, ↓reduceIte] at HF
      (repeat' (first | ((with_reducible refine zG ?_); first | refine oWx ?_ | (refine oWs ?_; clear HO; intro _ HO)) | ((with_reducible refine to_load ?_); (first | first | refine oR6 HO rfl rfl rfl (by omega) ?_ | refine oR1 HO rfl rfl rfl rfl (by omega) ?_ | refine oR0 HO rfl rfl rfl (by omega) ?_); (try simp only [Act.put, pS])) | ((go_big_may; first | (go_at_call 32; refine arm_is [105, 110] (by decide) (by omega) HO rfl rfl ?_; clear HO; intro _ z hz hlt HO; cases z <;> (try simp only [hz, ↓reduceIte, bZ] at HF) <;> (first | (replace hlt := hlt rfl) | clear hlt)) | (go_at_call 63; refine arm_bad HO rfl rfl ?_; clear HO; intro _ HO)) <;> (try dsimp only)) | go_values | go_skip | go_guarded | go_step | go_upon | (go_ite <;> go_prune <;> (try go_simp))))
      all_goals (first | (refine oBc HO (t := 6) (ty := 116) rfl rfl rfl ?_; exact rFin) | skip)
    have hlt2 := kdn_lt HRS.out.ok hlt h5' (by decide)
    have hwi := IntWalk.i64_in ((aL : Int) + 1) (by omega)
    have hb1 : (0 : Int) ≤ (aL : Int) + 1 := by omega
    have hb2 : (aL : Int) + 1 < (ts.length : Int) := by omega
    refine eBe HO [18] [0, 2, 4, 10, 11, 14, 1, 3, 5, 6, 7, 8, 9, 12, 13, 15, 16, 17] [18] ?_
    clear HO
    intro _ HO
    (repeat' (first | ((with_reducible refine zG ?_); first | (refine oWf ?_; intro K hK) | refine oWe ?_ | refine oWr ?_ | refine oWp ?_) | ((with_reducible refine zG ?_); first | (refine oWg ?_; intro K hK) | (refine oWk ?_; clear hK K) | (refine oWs ?_; clear HO; intro _ HO)) | ((with_reducible refine eOp ?_); go_simp)))
    all_goals
      (repeat' (first | ((with_reducible refine zG ?_); first | refine oWx ?_ | (refine oWs ?_; clear HO; intro _ HO)) | go_values | go_skip | go_guarded | go_step | go_upon | (go_ite <;> go_prune <;> (try go_simp))))
      (try (rw [IntWalk.i64_in] at HO; rotate_left; omega))
      all_goals (refine oBc HO (t := 6) (ty := 116) rfl rfl rfl ?_; exact rFin)
  · obtain ⟨y, rfl⟩ : ∃ y, lL = [y] := by
      rcases lL with _ | ⟨y, _ | ⟨z, l⟩⟩
      · simp at hL1
      · exact ⟨y, rfl⟩
      · rw [beq_iff_eq] at hL1; simp at hL1; omega
    simp only [hL1, ↓reduceIte, List.headD_cons] at HF
    obtain ⟨b9, o9, A9, c9, rfl, hc9, HO9⟩ := kid1 HO mM
    clear HO
    have HO := HO9
    clear HO9
    (repeat' (first | ((with_reducible refine zG ?_); first | refine oWx ?_ | (refine oWs ?_; clear HO; intro _ HO)) | go_values | go_skip | go_guarded | go_step | go_upon | (go_ite <;> go_prune <;> (try go_simp))))
    refine eBe HO [8] [0, 1, 5, 2, 3, 6, 4, 7] [8] ?_
    clear HO
    intro _ HO
    (repeat' (first | ((with_reducible refine zG ?_); first | (refine oWf ?_; intro K hK) | refine oWe ?_ | refine oWr ?_ | refine oWp ?_) | ((with_reducible refine zG ?_); first | (refine oWg ?_; intro K hK) | (refine oWk ?_; clear hK K) | (refine oWs ?_; clear HO; intro _ HO)) | ((first | ((with_reducible refine to_load ?_); refine oC2 HO rfl rfl ?_; (try simp only [Act.put, pS]))) <;> (try dsimp only)) | ((with_reducible refine eOp ?_); go_simp)))
    all_goals
      (repeat' (first | ((with_reducible refine zG ?_); first | refine oWx ?_ | (refine oWs ?_; clear HO; intro _ HO)) | go_values | go_skip | go_guarded | go_step | go_upon | (go_ite <;> go_prune <;> (try go_simp))))
      all_goals (refine oBc HO (t := 6) (ty := 116) rfl rfl rfl ?_; exact rFin)
end Go.Proofs.Ythipoccbeloceaa
