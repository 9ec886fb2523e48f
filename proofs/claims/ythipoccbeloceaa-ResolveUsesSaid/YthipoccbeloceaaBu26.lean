/- Several texts put together: RpO. -/
import Derived.Test.YthipoccbeloceaaBu22
import Derived.Test.YthipoccbeloceaaBu20
set_option linter.unusedSimpArgs false
set_option linter.unusedVariables false
namespace Go.Proofs.Ythipoccbeloceaa
open Go.RowKit
theorem step_str {ts : List TokF} {k : Nat} (hz : ramong ts k [32, 43, 43, 32, 45, 45, 32] = true) : (1 : Int) ≤ ((strN (tk ts k).s).size : Int) ∧ 1 ≤ (strN (tk ts k).s).size ∧ ((strN (tk ts k).s).extract 0 1).size ≤ 1 ∧ (strN (tk ts k).s).extract 0 1 ++ { data := #[120] } = strN ((tk ts k).s.take 1 ++ [120]) ∧ ({ data := #[120] } : ByteArray) ++ (strN (tk ts k).s).extract 0 1 = strN ([120] ++ (tk ts k).s.take 1) := by
  have hne : 1 ≤ (tk ts k).s.length := by
    rcases Nat.eq_zero_or_pos (tk ts k).s.length with h | h
    · rw [List.length_eq_zero_iff] at h
      unfold ramong at hz
      rw [h] at hz
      exact absurd (Bool.and_eq_true_iff.1 hz).2 (by decide)
    · exact h
  have hx : ({ data := #[120] } : ByteArray) = strN [120] := rfl
  have he : (strN (tk ts k).s).extract 0 1 = strN ((tk ts k).s.take 1) := by rw [strN_cut, List.drop_zero]
  refine ⟨by rw [strN_size]; omega, by rw [strN_size]; exact hne, by rw [he, strN_size]; simp; omega, by rw [he, hx, strN_app], by rw [he, hx, strN_app]⟩
set_option maxRecDepth 100000 in
set_option maxHeartbeats 3200000 in
theorem rstep_any (p : RPar) (b c : Nat) (ts : List TokF) (d : Nat) (H_place : ∀ k, k < ts.length → RC 84 #[.agg #[.slice (some ⟨b, 0, none⟩) ts.length c], .int .i64 (k : Int), .int .i64 (d : Int)] (rplace ts p k) VG b c ts (k + 1)) (H_atom : ∀ k, k < ts.length → RC 85 #[.agg #[.slice (some ⟨b, 0, none⟩) ts.length c], .int .i64 (k : Int), .int .i64 (d : Int)] (ratom ts p k) VG b c ts (k + 1)) (k : Nat) (hk : k < ts.length) : RC 83 #[.agg #[.slice (some ⟨b, 0, none⟩) ts.length c], .int .i64 (k : Int), .int .i64 (d : Int)] (rstep ts p k) VG b c ts (k + 1) := by
  intro w h
  obtain ⟨R, hR⟩ : ∃ R, rstep ts p k = R := ⟨_, rfl⟩
  rw [hR]
  have HF := Lib.hid hR
  have HRS := Lib.hid h
  have HO := h.ownN
  have hlen := h.ok.len
  have hkI : (k : Int) < (ts.length : Int) := by omega
  clear h hR
  have C_place := Lib.hid H_place
  clear H_place
  have C_atom := Lib.hid H_atom
  clear H_atom
  unfold rstep at HF
  go_enter Try.func83, Try.ntmps83
  (repeat' (first | ((with_reducible refine zG ?_); first | refine oWx ?_ | (refine oWs ?_; clear HO; intro _ HO) | (refine oWj ?_; clear HO; intro _ HO HB)) | ((go_big_may; first | (go_at_call 61; refine arm_among [32, 43, 43, 32, 45, 45, 32] (by decide) (by decide) (by omega) HO rfl rfl ?_; clear HO; intro _ z hz hlt HO; cases z <;> (try simp only [hz, ↓reduceIte, bZ] at HF) <;> (first | (replace hlt := hlt rfl) | clear hlt)) | (go_at_call 84; (first | refine arm_rn rfl ?_ (C_place.out _ ?_) HO HF ?_ ?_ | refine arm_rn rfl ?_ (C_place.out _ ?_) HO (gr_eta HF) ?_ ?_); (first | with_reducible rfl | rfl | (rw [IntWalk.i64_in _ (by omega)]; rfl)); (omega); (clear HO HF; intro _ _ _ _ _ HO _ hle hlt HF); rotate_left; (clear HO HF; intro _ _ _ HO hq HE); rotate_left) | (go_at_call 85; (first | refine arm_rn rfl ?_ (C_atom.out _ ?_) HO HF ?_ ?_ | refine arm_rn rfl ?_ (C_atom.out _ ?_) HO (gr_eta HF) ?_ ?_); (first | with_reducible rfl | rfl | (rw [IntWalk.i64_in _ (by omega)]; rfl)); (omega); (clear HO HF; intro _ _ _ _ _ HO _ hle hlt HF); rotate_left; (clear HO HF; intro _ _ _ HO hq HE); rotate_left) | (go_at_call 60; refine arm_rlval HO rfl rfl ?_; clear HO; intro _ z hz HO; cases z <;> (try simp only [hz, ↓reduceIte, bZ] at HF))) <;> (try dsimp only)) | go_values | go_skip | go_guarded | go_step | go_upon | (go_ite <;> go_prune <;> (try go_simp))))
  all_goals (first | (refine oBc HO (t := 6) (ty := 116) rfl rfl rfl ?_; exact rFin) | skip)
  all_goals
    obtain ⟨hs1, hs2, hs3, hs4, hs5⟩ := step_str hz
  focus
    refine eBe HO [20] [0, 1, 3, 5, 12, 16, 2, 4, 6, 7, 8, 9, 10, 11, 13, 17, 18, 14, 15, 19] [20] ?_
    clear HO
    intro _ HO
    (repeat' (first | ((with_reducible refine zG ?_); first | (refine oWf ?_; intro K hK) | refine oWe ?_ | refine oWr ?_ | refine oWp ?_) | ((with_reducible refine zG ?_); first | (refine oWg ?_; intro K hK) | (refine oWk ?_; clear hK K) | (refine oWs ?_; clear HO; intro _ HO)) | ((with_reducible refine zG ?_); refine oWn ?_; clear HO; intro _ HO) | ((with_reducible refine zG ?_); refine oWj ?_; clear HO; intro _ HO HB) | ((with_reducible refine eOp ?_); go_simp)))
    (repeat' (first | ((with_reducible refine zG ?_); first | refine oWx ?_ | (refine oWs ?_; clear HO; intro _ HO) | (refine oWj ?_; clear HO; intro _ HO HB)) | go_values | go_skip | go_guarded | go_step | go_upon | (go_ite <;> go_prune <;> (try go_simp))))
    (try (rw [IntWalk.i64_in] at HO; rotate_left; omega))
    all_goals (refine oBc HO (t := 6) (ty := 116) rfl rfl rfl ?_; exact rFin)
  focus
    refine eBe HO [21] [0, 2, 6, 8, 14, 18, 1, 3, 4, 5, 7, 9, 10, 11, 12, 13, 15, 19, 16, 17, 20] [21] ?_
    clear HO
    intro _ HO
    (repeat' (first | ((with_reducible refine zG ?_); first | (refine oWf ?_; intro K hK) | refine oWe ?_ | refine oWr ?_ | refine oWp ?_) | ((with_reducible refine zG ?_); first | (refine oWg ?_; intro K hK) | (refine oWk ?_; clear hK K) | (refine oWs ?_; clear HO; intro _ HO)) | ((with_reducible refine zG ?_); refine oWn ?_; clear HO; intro _ HO) | ((with_reducible refine zG ?_); refine oWj ?_; clear HO; intro _ HO HB) | ((with_reducible refine eOp ?_); go_simp)))
    (repeat' (first | ((with_reducible refine zG ?_); first | refine oWx ?_ | (refine oWs ?_; clear HO; intro _ HO) | (refine oWj ?_; clear HO; intro _ HO HB)) | go_values | go_skip | go_guarded | go_step | go_upon | (go_ite <;> go_prune <;> (try go_simp))))
    (try (rw [IntWalk.i64_in] at HO; rotate_left; omega))
    all_goals (refine oBc HO (t := 6) (ty := 116) rfl rfl rfl ?_; exact rFin)
end Go.Proofs.Ythipoccbeloceaa
