/- Several texts put together: RpV. -/
import Derived.Test.YthipoccbeloceaaBu32
set_option linter.unusedSimpArgs false
set_option linter.unusedVariables false
namespace Go.Proofs.Ythipoccbeloceaa
open Go.RowKit
def LoopX {w0 w : World} {b c : Nat} {ts : List TokF} {gb : Nat} {t2 : TypeId} {bs : List Bx} {rs : List Rw} {cs : List Value} {F : List Cold} (_ : Hid (Own w0 [] (RS b c ts w0.heap.size) (⟨gb, t2, cs⟩ :: bs) rs F w)) (k : Nat) (lp : Nat → NodeT → Nat → GR NodeT) (R : GR NodeT) (gk : Nat) (ov : Value) (W : World) : Prop :=
  ∃ (x : NodeT) (A : Option Addr) (e q : Nat), ov = .bool (gk == 1) ∧ gk ≤ 1 ∧ q < ts.length ∧ k ≤ q ∧ x.l.length ≤ e ∧ Hid (lp gk x q = R) ∧ Hid (Own w0 [] (RS b c ts w0.heap.size) (⟨gb, t2, [.int .i64 ((NodeT.k x : Nat) : Int), .int .i64 ((NodeT.at' x : Nat) : Int), .string (strN (NodeT.s x)), .bool (zn (NodeT.z x)), .int .u64 (zh (NodeT.z x)), .int .u64 (zl (NodeT.z x)), .int .i64 ((NodeT.i x : Nat) : Int), .slice A (NodeT.l x).length e, .int .i64 ((q : Nat) : Int), .int .i64 0]⟩ :: bs) rs [Cold.kids A x.l, Cold.kids none []] W)
set_option maxRecDepth 100000 in
set_option maxHeartbeats 3200000 in
theorem rlev4_any (p : RPar) (b c : Nat) (ts : List TokF) (d : Nat) (H_level : ∀ k, k < ts.length → RC 68 #[.agg #[.slice (some ⟨b, 0, none⟩) ts.length c], .int .i64 (k : Int), .int .i64 (d : Int), .int .i64 5] (rlev5 ts p k) VG b c ts (k + 1)) (k : Nat) (hk : k < ts.length) : RC 68 #[.agg #[.slice (some ⟨b, 0, none⟩) ts.length c], .int .i64 (k : Int), .int .i64 (d : Int), .int .i64 4] (rlev4 ts p k) VG b c ts (k + 1) := by
  all_goals
    intro w h
    obtain ⟨R, hR⟩ : ∃ R, rlev4 ts p k = R := ⟨_, rfl⟩
    rw [hR]
    unfold rlev4 at hR
    have HF := Lib.hid hR
    have HRS := Lib.hid h
    have HO := h.ownN
    have hlen := h.ok.len
    have C_level := Lib.hid H_level
    clear h hR H_level
    go_enter Try.func68, Try.ntmps68
    (repeat' (first | ((with_reducible refine zG ?_); first | refine oWx ?_ | (refine oWs ?_; clear HO; intro _ HO) | (refine oWj ?_; clear HO; intro _ HO HB)) | ((go_big_may; first | (go_at_call 68; (first | refine arm_rn rfl ?_ (C_level.out _ ?_) HO HF ?_ ?_ | refine arm_rn rfl ?_ (C_level.out _ ?_) HO (gr_eta HF) ?_ ?_); (first | with_reducible rfl | rfl | (rw [IntWalk.i64_in _ (by omega)]; rfl)); (omega); (clear HO HF; intro _ _ _ _ _ HO _ hle hlt HF); rotate_left; (clear HO HF; intro _ _ _ HO hq HE); rotate_left)) <;> (try dsimp only)) | go_values | go_skip | go_guarded | go_step | go_upon | (go_ite <;> go_prune <;> (try go_simp))))
    all_goals have HO0 := HO
    all_goals first
      | (have HE' := HE
         go_loopg [10] 0 (fun gk ov W => gk = 0 ∧ SameO HO0 W)
         case atStart => exact ⟨rfl, HO⟩
         case round =>
           clear HO
           obtain ⟨rfl, HO⟩ := hrel
           replace HO := Lib.hid HO.out
           (repeat' (first | ((with_reducible refine zG ?_); first | refine oWx ?_ | (refine oWs ?_; clear HO; intro _ HO) | (refine oWj ?_; clear HO; intro _ HO HB)) | go_values | go_skip | go_guarded | go_step | go_upon | (go_ite <;> go_prune <;> (try go_simp))))
           refine oBc HO (t := 8) (ty := 116) rfl rfl rfl ?_
           exact rp_err HO (by assumption) HE)
      | skip
    all_goals
      go_loopg [10] 1 (fun gk ov W => LoopX HO0 (k + 1) (loopG (fun _ k => ramong ts k _) (signsS ts (rlev5 ts p) _)) R gk ov W)
      case atStart => exact ⟨_, _, _, _, rfl, Nat.le_refl _, hlt, hle, by assumption, HF, HO⟩
      case round =>
        clear HO HF
        obtain ⟨y, A1, e1, q, rfl, hgk, hq, hkq, he1, HF, HO⟩ := hrel
        have hqI : (q : Int) < (ts.length : Int) := by omega
        obtain rfl | rfl : gk = 0 ∨ gk = 1 := by omega
        all_goals
          rw [loopG] at HF
          (try simp only [signsS, gr_assoc, gr_okb] at HF)
          (repeat' (go_not_at_region 11; first | ((with_reducible refine zG ?_); first | refine oWx ?_ | (refine oWs ?_; clear HO; intro _ HO) | (refine oWj ?_; clear HO; intro _ HO HB)) | ((with_reducible refine to_load ?_); (first | first | refine oR6 HO rfl rfl rfl (by omega) ?_ | refine oR1 HO rfl rfl rfl rfl (by omega) ?_ | refine oR0 HO rfl rfl rfl (by omega) ?_); (try simp only [Act.put, pS])) | go_values | go_skip | go_guarded | go_step | go_upon | (go_ite <;> go_prune <;> (try go_simp))))
          refine eBe HO [] [1, 3, 4, 0, 2, 5, 6, 7, 8, 9, 10, 11, 12, 13, 14, 15] [] ?_
          clear HO
          intro _ HO
          (repeat' (first | ((with_reducible refine zG ?_); first | (refine oWf ?_; intro K hK) | refine oWe ?_ | refine oWr ?_ | refine oWp ?_) | ((with_reducible refine eGo ?_); refine eSk HO rfl (by kernel_rfl) (by rfl) ?_; (try simp only [Act.put, pS])) | ((with_reducible refine zG ?_); first | (refine oWg ?_; intro K hK) | (refine oWk ?_; clear hK K)) | ((first | (go_at_call 61; refine arm_among [32, 60, 32, 60, 61, 32, 61, 61, 32, 33, 61, 32, 62, 32, 62, 61, 32] (by decide) (by decide) (by omega) HO rfl rfl ?_; clear HO; intro _ z hz hlt HO; cases z <;> (try simp only [hz, ↓reduceIte, bZ] at HF) <;> (first | (replace hlt := hlt rfl) | clear hlt))) <;> (try dsimp only)) | ((with_reducible refine eOp ?_); go_simp)))
          all_goals
            (repeat' (go_not_at_region 16; first | ((with_reducible refine zG ?_); first | refine oWx ?_ | (refine oWs ?_; clear HO; intro _ HO) | (refine oWj ?_; clear HO; intro _ HO HB)) | ((go_big_may; first | (go_at_call 68; (first | refine arm_rn rfl ?_ (C_level.out _ ?_) HO HF ?_ ?_ | refine arm_rn rfl ?_ (C_level.out _ ?_) HO (gr_eta HF) ?_ ?_); (first | with_reducible rfl | rfl | (rw [IntWalk.i64_in _ (by omega)]; rfl)); (omega); (clear HO HF; intro _ _ _ _ _ HO _ hle hlt HF); rotate_left; (clear HO HF; intro _ _ _ HO hq HE); rotate_left)) <;> (try dsimp only)) | go_values | go_skip | go_guarded | go_step | go_upon | (go_ite <;> go_prune <;> (try go_simp))))
            all_goals (first | (refine oBc HO (t := 8) (ty := 116) rfl rfl rfl ?_; exact rFin) | skip)
        refine eBe HO [9] [0, 1, 3, 5, 2, 4, 6, 7, 8] [9] ?_
        clear HO
        intro _ HO
        (repeat' (first | ((with_reducible refine zG ?_); first | (refine oWf ?_; intro K hK) | refine oWe ?_ | refine oWr ?_ | refine oWp ?_) | ((with_reducible refine zG ?_); first | (refine oWg ?_; intro K hK) | (refine oWk ?_; clear hK K) | (refine oWs ?_; clear HO; intro _ HO)) | ((first | (go_at_call 62; refine arm_left (kind := 13) HO rfl rfl rfl rfl mM mM (by assumption) (by assumption) ?_; clear HO; intro _ _ HO)) <;> (try dsimp only)) | ((with_reducible refine eOp ?_); go_simp)))
        all_goals
          (repeat' (first | ((with_reducible refine zG ?_); first | refine oWx ?_ | (refine oWs ?_; clear HO; intro _ HO) | (refine oWj ?_; clear HO; intro _ HO HB)) | go_values | go_skip | go_guarded | go_step | go_upon | (go_ite <;> go_prune <;> (try go_simp))))
          go_roundg 0
          case rel => exact ⟨_, _, _, _, rfl, by omega, hlt, by omega, Nat.le_refl _, HF, Lib.hid (HO.out.sub (by repeat (first | exact List.Sublist.refl _ | apply List.Sublist.cons)) (List.Sublist.refl _) (fun c hc => mem2 hc mH mM))⟩
          case measure => omega
end Go.Proofs.Ythipoccbeloceaa
