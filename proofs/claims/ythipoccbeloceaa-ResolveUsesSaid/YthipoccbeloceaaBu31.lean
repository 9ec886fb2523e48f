/- Several texts put together: RpS. -/
import Derived.Test.YthipoccbeloceaaBu25
set_option linter.unusedSimpArgs false
set_option linter.unusedVariables false
namespace Go.Proofs.Ythipoccbeloceaa
open Go.RowKit
theorem arm_reads {p : RPar} {b c d : Nat} {ts : List TokF} (H_place : ∀ k, k < ts.length → RC 84 #[.agg #[.slice (some ⟨b, 0, none⟩) ts.length c], .int .i64 (k : Int), .int .i64 (d : Int)] (rplace ts p k) VG b c ts (k + 1)) {w0 w : World} {bs : List Bx} {rs : List Rw} {F : List Cold} {β : Type} {kk : NodeT → Nat → GR β} {R : GR β} {k : Nat} {n : NodeT} {A : Option Addr} {c' : Nat} {K : FuncId} {args : Array Value} {T : Ending → World → Prop} (HO : Hid (Own w0 [] (RS b c ts w0.heap.size) bs rs F w)) (HF : Hid ((rreads ts p n k).bind kk = R)) (hK : K = 79) (hargs : args = #[.agg #[.slice (some ⟨b, 0, none⟩) ts.length c], .agg #[.int .i64 ((NodeT.k n : Nat) : Int), .int .i64 ((NodeT.at' n : Nat) : Int), .string (strN (NodeT.s n)), .bool (zn (NodeT.z n)), .int .u64 (zh (NodeT.z n)), .int .u64 (zl (NodeT.z n)), .int .i64 ((NodeT.i n : Nat) : Int), .slice A (NodeT.l n).length c', .int .i64 (k : Int), .int .i64 0], .int .i64 (d : Int)]) (hk : k < ts.length) (hm : Cold.kids A n.l ∈ F) (hc : n.l.length ≤ c')
    (hok : ∀ x A e a W, Hid (Own w0 [] (RS b c ts w0.heap.size) bs rs (Cold.kids A x.l :: F) W) → x.l.length ≤ e → k ≤ a → a < ts.length → Hid (kk x a = R) → T (.returned (.agg #[.int .i64 ((NodeT.k x : Nat) : Int), .int .i64 ((NodeT.at' x : Nat) : Int), .string (strN (NodeT.s x)), .bool (zn (NodeT.z x)), .int .u64 (zh (NodeT.z x)), .int .u64 (zl (NodeT.z x)), .int .i64 ((NodeT.i x : Nat) : Int), .slice A (NodeT.l x).length e, .int .i64 (a : Int), .int .i64 0])) W)
    (herr : ∀ a q W, Hid (Own w0 [] (RS b c ts w0.heap.size) bs rs F W) → (q != 0) = true → Hid (R = .err a q) → T (.returned (.agg #[.int .i64 0, .int .i64 0, .string { data := #[] }, .bool false, .int .u64 0, .int .u64 0, .int .i64 0, .slice none 0 0, .int .i64 (a : Int), .int .i64 q])) W) : Calls Try.prog K args w T := by
  subst hK hargs
  refine (rreads_any p b c ts d H_place w0 w bs rs F HO n A c' k hm hc hk).mono fun e W hp => ?_
  unfold RKeep at hp
  cases hr : rreads ts p n k with
  | ok x a =>
    rw [hr] at hp
    obtain ⟨h1, h2, A2, e2, rfl, h3, h4⟩ := hp
    exact hok x A2 e2 a W (Lib.hid h4) h3 h1 h2 (Lib.hid (gr_ok hr HF.out))
  | err a e =>
    rw [hr] at hp
    obtain ⟨h1, rfl, h4⟩ := hp
    exact herr a e W (Lib.hid h4) h1 (Lib.hid (gr_err hr HF.out))
set_option maxRecDepth 100000 in
set_option maxHeartbeats 3200000 in
theorem rlev5_any (p : RPar) (b c : Nat) (ts : List TokF) (d : Nat) (H_place : ∀ k, k < ts.length → RC 84 #[.agg #[.slice (some ⟨b, 0, none⟩) ts.length c], .int .i64 (k : Int), .int .i64 (d : Int)] (rplace ts p k) VG b c ts (k + 1)) (H_level : ∀ k, k < ts.length → RC 68 #[.agg #[.slice (some ⟨b, 0, none⟩) ts.length c], .int .i64 (k : Int), .int .i64 (d : Int), .int .i64 6] (rlev6 ts p k) VG b c ts (k + 1)) (k : Nat) (hk : k < ts.length) : RC 68 #[.agg #[.slice (some ⟨b, 0, none⟩) ts.length c], .int .i64 (k : Int), .int .i64 (d : Int), .int .i64 5] (rlev5 ts p k) VG b c ts (k + 1) := by
  intro w h
  obtain ⟨R, hR⟩ : ∃ R, rlev5 ts p k = R := ⟨_, rfl⟩
  rw [hR]
  unfold rlev5 at hR
  have HF := Lib.hid hR
  have HRS := Lib.hid h
  have HO := h.ownN
  have hlen := h.ok.len
  have C_level := Lib.hid H_level
  have C_place := Lib.hid H_place
  clear h hR H_level H_place
  go_enter Try.func68, Try.ntmps68
  (repeat' (first | ((with_reducible refine zG ?_); first | refine oWx ?_ | (refine oWs ?_; clear HO; intro _ HO) | (refine oWj ?_; clear HO; intro _ HO HB)) | ((go_big_may; first | (go_at_call 68; (first | refine arm_rn rfl ?_ (C_level.out _ ?_) HO HF ?_ ?_ | refine arm_rn rfl ?_ (C_level.out _ ?_) HO (gr_eta HF) ?_ ?_); (first | with_reducible rfl | rfl | (rw [IntWalk.i64_in _ (by omega)]; rfl)); (omega); (clear HO HF; intro _ _ _ _ _ HO _ hle hlt HF); rotate_left; (clear HO HF; intro _ _ _ HO hq HE); rotate_left)) <;> (try dsimp only)) | go_values | go_skip | go_guarded | go_step | go_upon | (go_ite <;> go_prune <;> (try go_simp))))
  all_goals have HO0 := HO
  all_goals first
    | (have HE' := HE
       go_loopg [10] 0 (fun gk ov W => gk = 0 ∧ SameO HO0 W)
       case atStart => exact ⟨rfl, HO⟩
       case round =>
         clear HO
         obtain ⟨rfl, HO⟩ := hrel
         replace HO := Lib.hid HO.out
         (repeat' (first | ((with_reducible refine zG ?_); first | refine oWx ?_ | (refine oWs ?_; clear HO; intro _ HO) | (refine oWj ?_; clear HO; intro _ HO HB)) | go_values | go_skip | go_guarded | go_step | go_upon | (go_ite <;> go_prune <;> (try go_simp))))
         refine oBc HO (t := 8) (ty := 116) rfl rfl rfl ?_
         exact rp_err HO (by assumption) HE)
    | skip
  go_loopg [10] ts.length (fun gk ov W => LoopV HO0 (k + 1) (fun f x k => (loopG (fun _ k => rcatT ts k) (rcatS ts p) f x k).bind (rreads ts p)) R gk W)
  case atStart => exact ⟨_, _, _, _, hlt, hle, by omega, by assumption, HF, HO⟩
  case round =>
    clear HO HF
    obtain ⟨y, A1, e1, q, hq, hkq, hf, he1, HF, HO⟩ := hrel
    have hqI : (q : Int) < (ts.length : Int) := by omega
    obtain ⟨f, rfl⟩ : ∃ f', gk = f' + 1 := ⟨gk - 1, by omega⟩
    dsimp only at HF
    rw [loopG] at HF
    (repeat' (go_not_at_region 36; first | ((with_reducible refine zG ?_); first | refine oWx ?_ | (refine oWs ?_; clear HO; intro _ HO) | (refine oWj ?_; clear HO; intro _ HO HB)) | ((with_reducible refine to_load ?_); (first | first | refine oR6 HO rfl rfl rfl (by omega) ?_ | refine oR1 HO rfl rfl rfl rfl (by omega) ?_ | refine oR0 HO rfl rfl rfl (by omega) ?_); (try simp only [Act.put, pS])) | go_values | go_skip | go_guarded | go_step | go_upon | (go_ite <;> go_prune <;> (try go_simp))))
    have HO1 := HO
    go_cut [15] from 155 to 173 (fun v W => v = .bool (rcatT ts q) ∧ SameO HO1 W)
    case first =>
      have hRC : ∀ z, ramong ts q [32, 36, 32, 33, 32, 40, 32, 43, 43, 32, 45, 45, 32] = z → rcatT ts q = ((decide ((2 : Int) ≤ ((tk ts q).k : Int)) && decide (((tk ts q).k : Int) ≤ 6)) || ((((tk ts q).k : Int) == 8) || z)) := fun z hz => by rw [← hz]; rfl
      have HRC := Lib.hid hRC
      clear hRC
      cases h2 : decide ((2 : Int) ≤ ((tk ts q).k : Int)) <;> cases h6 : decide (((tk ts q).k : Int) ≤ 6) <;> cases h8 : (((tk ts q).k : Int) == 8)
      all_goals
        (repeat' (first | ((with_reducible refine zG ?_); first | refine oWx ?_ | (refine oWs ?_; clear HO; intro _ HO) | (refine oWj ?_; clear HO; intro _ HO HB)) | ((go_big_may; first | (go_at_call 61; refine arm_among [32, 36, 32, 33, 32, 40, 32, 43, 43, 32, 45, 45, 32] (by decide) (by decide) (by omega) HO rfl rfl ?_; clear HO; intro _ z hz hlt HO; cases z <;> (try simp only [hz, ↓reduceIte, bZ] at HF) <;> (first | (replace hlt := hlt rfl) | clear hlt))) <;> (try dsimp only)) | go_values | go_skip | go_guarded | go_step | go_upon | (go_ite <;> go_prune <;> (try go_simp))))
        all_goals
          go_wp2_with fail
          go_meet
          first
          | exact ⟨congrArg Value.bool (by rw [HRC.out _ hz, h2, h6, h8]; rfl), HO⟩
          | exact ⟨congrArg Value.bool (by rw [HRC.out _ rfl, h2, h6, h8]; simp), HO⟩
    case' rest =>
      obtain ⟨rfl, HO⟩ := hcut
      replace HO := Lib.hid HO.out
      clear HO1
    cases hz : rcatT ts q
    all_goals
      simp only [hz, Bool.false_eq_true, ↓reduceIte, gr_okb, rcatS, gr_assoc] at HF
      (repeat' (first | ((with_reducible refine zG ?_); first | refine oWx ?_ | (refine oWs ?_; clear HO; intro _ HO) | (refine oWj ?_; clear HO; intro _ HO HB)) | ((go_big_may; first | (go_at_call 79; refine arm_reads C_place.out HO (gr_eta HF) rfl rfl ?_ ?_ ?_ ?_ ?_; (omega); (repeat (first | exact mH | apply mT)); (first | assumption | exact Nat.le_refl _); (clear HO HF; intro _ _ _ _ _ HO _ hle hlt HF); rotate_left; (clear HO HF; intro _ _ _ HO hq HE); rotate_left) | (go_at_call 68; (first | refine arm_rn rfl ?_ (C_level.out _ ?_) HO HF ?_ ?_ | refine arm_rn rfl ?_ (C_level.out _ ?_) HO (gr_eta HF) ?_ ?_); (first | with_reducible rfl | rfl | (rw [IntWalk.i64_in _ (by omega)]; rfl)); (omega); (clear HO HF; intro _ _ _ _ _ HO _ hle hlt HF); rotate_left; (clear HO HF; intro _ _ _ HO hq HE); rotate_left) | (go_at_call 62; refine arm_left (kind := 14) (s := []) HO rfl rfl rfl rfl mM mM (by assumption) (by assumption) ?_; clear HO; intro _ _ HO)) <;> (try dsimp only)) | go_values | go_skip | go_guarded | go_step | go_upon | (go_ite <;> go_prune <;> (try go_simp))))
      all_goals (first | (refine oBc HO (t := 8) (ty := 116) rfl rfl rfl ?_; exact rFin) | skip)
    go_roundg f
    case rel => exact ⟨_, _, _, _, hlt, by omega, by omega, Nat.le_refl _, HF, Lib.hid (HO.out.sub (by repeat (first | exact List.Sublist.refl _ | apply List.Sublist.cons)) (List.Sublist.refl _) (fun c hc => mem2 hc mH mM))⟩
    case measure => omega
end Go.Proofs.Ythipoccbeloceaa
