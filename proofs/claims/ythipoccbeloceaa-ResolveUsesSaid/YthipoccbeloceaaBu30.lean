/- Several texts put together: RpR. -/
import Derived.Test.YthipoccbeloceaaBu25
set_option linter.unusedSimpArgs false
set_option linter.unusedVariables false
namespace Go.Proofs.Ythipoccbeloceaa
open Go.RowKit
theorem LoopV.mk0 {w0 w W : World} {b c : Nat} {ts : List TokF} {gb : Nat} {t2 : TypeId} {bs bs1 : List Bx} {rs : List Rw} {cs : List Value} {F F1 : List Cold} (HO : Hid (Own w0 [] (RS b c ts w0.heap.size) (⟨gb, t2, cs⟩ :: bs) rs F w)) {k q gk kd at' i e : Nat} {s : List Nat} {l : List NodeT} {A : Option Addr} {lp : Nat → NodeT → Nat → GR NodeT} {R : GR NodeT} (h1 : q < ts.length) (h2 : k ≤ q) (h3 : ts.length ≤ gk + q) (h4 : l.length ≤ e) (HF : Hid (lp gk (.mk kd at' s 0 i l) q = R))
    (HO1 : Hid (Own w0 [] (RS b c ts w0.heap.size) bs1 rs F1 W)) (hb : List.Sublist (⟨gb, t2, [.int .i64 (kd : Int), .int .i64 (at' : Int), .string (strN s), .bool false, .int .u64 0, .int .u64 0, .int .i64 (i : Int), .slice A l.length e, .int .i64 (q : Int), .int .i64 0]⟩ :: bs) bs1) (hk : Cold.kids A l ∈ F1) (hn : Cold.kids none [] ∈ F1) : LoopV HO k lp R gk W := by
  refine ⟨.mk kd at' s 0 i l, A, e, q, h1, h2, h3, h4, HF, Lib.hid ?_⟩
  have hz : zn (NodeT.z (NodeT.mk kd at' s 0 i l)) = false := by show zn 0 = false; decide
  have hh : zh (NodeT.z (NodeT.mk kd at' s 0 i l)) = 0 := by show zh 0 = 0; decide
  have hl : zl (NodeT.z (NodeT.mk kd at' s 0 i l)) = 0 := by show zl 0 = 0; decide
  rw [hz, hh, hl]
  exact HO1.out.sub hb (List.Sublist.refl _) (fun c hc => mem2 hc hk hn)
theorem gr_errb {α β : Type} (k : Nat) (e : Int) (f : α → Nat → GR β) : (GR.err k e : GR α).bind f = .err k e := rfl
set_option maxRecDepth 100000 in
set_option maxHeartbeats 3200000 in
theorem rlev2_any (p : RPar) (b c : Nat) (ts : List TokF) (d : Nat) (H_level : ∀ k, k < ts.length → RC 68 #[.agg #[.slice (some ⟨b, 0, none⟩) ts.length c], .int .i64 (k : Int), .int .i64 (d : Int), .int .i64 3] (rlev3 ts p k) VG b c ts (k + 1)) (k : Nat) (hk : k < ts.length) : RC 68 #[.agg #[.slice (some ⟨b, 0, none⟩) ts.length c], .int .i64 (k : Int), .int .i64 (d : Int), .int .i64 2] (rlev2 ts p k) VG b c ts (k + 1) := by
  intro w h
  obtain ⟨R, hR⟩ : ∃ R, rlev2 ts p k = R := ⟨_, rfl⟩
  rw [hR]
  unfold rlev2 at hR
  have HF := Lib.hid hR
  have HRS := Lib.hid h
  have HO := h.ownN
  have hlen := h.ok.len
  have C_level := Lib.hid H_level
  clear h hR H_level
  go_enter Try.func68, Try.ntmps68
  (repeat' (first | ((with_reducible refine zG ?_); first | refine oWx ?_ | (refine oWs ?_; clear HO; intro _ HO) | (refine oWj ?_; clear HO; intro _ HO HB)) | ((go_big_may; first | (go_at_call 68; (first | refine arm_rn rfl ?_ (C_level.out _ ?_) HO HF ?_ ?_ | refine arm_rn rfl ?_ (C_level.out _ ?_) HO (gr_eta HF) ?_ ?_); (first | with_reducible rfl | rfl | (rw [IntWalk.i64_in _ (by omega)]; rfl)); (omega); (clear HO HF; intro _ _ _ _ _ HO _ hle hlt HF); rotate_left; (clear HO HF; intro _ _ _ HO hq HE); rotate_left)) <;> (try dsimp only)) | go_values | go_skip | go_guarded | go_step | go_upon | (go_ite <;> go_prune <;> (try go_simp))))
  all_goals have HO0 := HO
  all_goals first
    | (have HE' := HE
       go_loopg [10] 0 (fun gk ov W => gk = 0 ∧ SameO HO0 W)
       case atStart => exact ⟨rfl, HO⟩
       case round =>
         clear HO
         obtain ⟨rfl, HO⟩ := hrel
         replace HO := Lib.hid HO.out
         (repeat' (first | ((with_reducible refine zG ?_); first | refine oWx ?_ | (refine oWs ?_; clear HO; intro _ HO) | (refine oWj ?_; clear HO; intro _ HO HB)) | go_values | go_skip | go_guarded | go_step | go_upon | (go_ite <;> go_prune <;> (try go_simp))))
         refine oBc HO (t := 8) (ty := 116) rfl rfl rfl ?_
         exact rp_err HO (by assumption) HE)
    | skip
  go_loopg [10] ts.length (fun gk ov W => LoopV HO0 (k + 1) (loopG (fun _ k => ris ts k [105, 110]) (rinS ts)) R gk W)
  case atStart => exact ⟨_, _, _, _, hlt, hle, by omega, by assumption, HF, HO⟩
  case round =>
    clear HO HF
    obtain ⟨y, A1, e1, q, hq, hkq, hf, he1, HF, HO⟩ := hrel
    have hqI : (q : Int) < (ts.length : Int) := by omega
    obtain ⟨f, rfl⟩ : ∃ f', gk = f' + 1 := ⟨gk - 1, by omega⟩
    rw [loopG] at HF
    simp only [rinS] at HF
    have hkd : rkd ts (q+1) 5 = (((tk ts (q+1)).k : Int) == 5) := rfl
    rw [hkd] at HF
    cases h5 : (((tk ts (q+1)).k : Int) == 5)
    case' false => have h5b : (((tk ts (q+1)).k : Int) != 5) = true := by rw [bne, h5]; rfl
    case' true => have h5b : (((tk ts (q+1)).k : Int) != 5) = false := by rw [bne, h5]; rfl
    all_goals simp only [h5, ↓reduceIte, Bool.false_eq_true, Bool.false_or, Bool.true_or, Bool.false_and, Bool.true_and] at HF
    all_goals clear hkd
    all_goals
      simp only [gr_okb, gr_errb] at HF
      (repeat' (first | ((with_reducible refine zG ?_); first | refine oWx ?_ | (refine oWs ?_; clear HO; intro _ HO) | (refine oWj ?_; clear HO; intro _ HO HB)) | ((with_reducible refine to_load ?_); (first | first | refine oR6 HO rfl rfl rfl (by omega) ?_ | refine oR1 HO rfl rfl rfl rfl (by omega) ?_ | refine oR0 HO rfl rfl rfl (by omega) ?_); (try simp only [Act.put, pS])) | ((go_big_may; first | (go_at_call 32; refine arm_is [105, 110] (by decide) (by omega) HO rfl rfl ?_; clear HO; intro _ z hz hlt HO; cases z <;> (try simp only [hz, ↓reduceIte, bZ] at HF) <;> (first | (replace hlt := hlt rfl) | clear hlt)) | (go_at_call 63; refine arm_bad HO rfl rfl ?_; clear HO; intro _ HO)) <;> (try dsimp only)) | go_values | go_skip | go_guarded | go_step | go_upon | (go_ite <;> go_prune <;> (try go_simp))))
      all_goals (first | (refine oBc HO (t := 8) (ty := 116) rfl rfl rfl ?_; exact rFin) | skip)
    have hlt2 := kdn_lt HRS.out.ok hlt h5 (by decide)
    have hwi := IntWalk.i64_in ((q : Int) + 1) (by omega)
    have hb1 : (0 : Int) ≤ (q : Int) + 1 := by omega
    have hb2 : (q : Int) + 1 < (ts.length : Int) := by omega
    refine eBe HO [19] [0, 1, 3, 5, 11, 15, 2, 4, 6, 7, 8, 9, 10, 12, 16, 17, 13, 14, 18] [19] ?_
    clear HO
    intro _ HO
    (repeat' (first | ((with_reducible refine zG ?_); first | (refine oWf ?_; intro K hK) | refine oWe ?_ | refine oWr ?_ | refine oWp ?_) | ((with_reducible refine zG ?_); first | (refine oWg ?_; intro K hK) | (refine oWk ?_; clear hK K) | (refine oWs ?_; clear HO; intro _ HO)) | ((with_reducible refine zG ?_); refine oWn ?_; clear HO; intro _ HO) | ((with_reducible refine zG ?_); refine oWj ?_; clear HO; intro _ HO HB) | ((with_reducible refine eOp ?_); go_simp)))
    all_goals
      (repeat' (first | ((with_reducible refine zG ?_); first | refine oWx ?_ | (refine oWs ?_; clear HO; intro _ HO) | (refine oWj ?_; clear HO; intro _ HO HB)) | go_values | go_skip | go_guarded | go_step | go_upon | (go_ite <;> go_prune <;> (try go_simp))))
      (try (rw [IntWalk.i64_in] at HO; rotate_left; omega))
      go_roundg f
      case rel => exact LoopV.mk0 HO0 hlt2 (by omega) (by omega) (Nat.le_refl _) HF HO (by repeat (first | exact List.Sublist.refl _ | apply List.Sublist.cons)) mM mM
      case measure => omega
end Go.Proofs.Ythipoccbeloceaa
