/- Several texts put together: RqF. -/
import Derived.Test.YthipoccbeloceaaBu25
set_option linter.unusedSimpArgs false
set_option linter.unusedVariables false
namespace Go.Proofs.Ythipoccbeloceaa
open Go.RowKit
section
variable (ts : List TokF) (p : RPar) (k : Nat)
def rG (e : List Nat) (l : List NodeT) (f : List NodeT → Nat → GR NodeT) (x : NodeT) (k1 : Nat) : GR NodeT := if ris ts k1 e = true then f (l ++ [x]) (rlines ts (k1 + 1)) else .err k1 4
theorem rpart_b0 (e : List Nat) (l : List NodeT) (q : Nat) (f : List NodeT → Nat → GR NodeT) : (rpart ts p 0 e l q).bind f = if (!ris ts q e && (!ris ts q [59] && !ris ts q [41])) = true then (rsimple ts p q).bind (rG ts e l f) else rG ts e l f (.mk 40 0 [] 0 0 []) q := by
  unfold rpart
  simp only [gr_assoc, gr_ite, gr_okb]
  rfl
theorem rpart_b1 (e : List Nat) (l : List NodeT) (q : Nat) (f : List NodeT → Nat → GR NodeT) : (rpart ts p 1 e l q).bind f = if (!ris ts q e) = true then (rexpr ts p q).bind (rG ts e l f) else rG ts e l f (.mk 40 0 [] 0 0 []) q := by
  unfold rpart
  simp only [gr_assoc, gr_ite, gr_okb]
  simp
  rfl
theorem rpart_b2 (e : List Nat) (l : List NodeT) (q : Nat) (f : List NodeT → Nat → GR NodeT) : (rpart ts p 2 e l q).bind f = if (!ris ts q e && (!ris ts q [59] && !ris ts q [41])) = true then (rsimple ts p q).bind (rG ts e l f) else rG ts e l f (.mk 40 0 [] 0 0 []) q := by
  unfold rpart
  simp only [gr_assoc, gr_ite, gr_okb]
  rfl
def rfor3 (l : List NodeT) (q : Nat) : GR NodeT := (rstmt ts p q).bind fun b k6 => .ok (.mk 45 (tk ts k).at' [] 0 0 (l ++ [b])) k6
def rfor2 (l : List NodeT) (q : Nat) : GR NodeT := (rpart ts p 2 [41] l q).bind (rfor3 ts p k)
def rfor1 (l : List NodeT) (q : Nat) : GR NodeT := (rpart ts p 1 [59] l q).bind (rfor2 ts p k)
def rfor0 (l : List NodeT) (q : Nat) : GR NodeT := (rpart ts p 0 [59] l q).bind (rfor1 ts p k)
def rforI : Nat → List NodeT → Nat → GR NodeT
  | 0 => rfor0 ts p k
  | 1 => rfor1 ts p k
  | 2 => rfor2 ts p k
  | _ => rfor3 ts p k
end
section
variable {b c n m : Nat} {ts : List TokF} {w0 w W : World} {bs : List Bx} {rs : List Rw} {F : List Cold} {X : List Nat} {S : World → Prop}
theorem arm_isK {T : Ending → World → Prop} {K : FuncId} {args : Array Value} {a : Nat} (s : List Nat) (hs : ∀ x ∈ s, x < 256) (ha : a < ts.length) (HO : Hid (Own w0 [] (RS b c ts w0.heap.size) bs rs F w)) {v : Int} [C : Cn v a] (hK : K = 32) (hargs : args = #[.agg #[.slice (some ⟨b, 0, none⟩) ts.length c], .int .i64 v, .string (strN s)]) {z : Bool} (hz : ris ts a s = z)
    (h : ∀ W, ris ts a s = z → Hid (Own w0 [] (RS b c ts w0.heap.size) bs rs F W) → T (.returned (.bool z)) W) : Calls Try.prog K args w T :=
  arm_is s hs ha HO hK hargs (fun W u hu _ h' => by rw [← hu, hz]; exact h W hz h')
def CutZ (_ : Hid (Own w0 X S bs rs F w)) (t : Bool) (q : Prop) (v : Value) (W : World) : Prop := ∃ z, v = .bool z ∧ t = z ∧ (z = true → q) ∧ Hid (Own w0 X S bs rs F W)
theorem nc40 (k : Nat) : ([.int .i64 40, .int .i64 0, .string { data := #[] }, .bool false, .int .u64 0, .int .u64 0, .int .i64 0, .slice none 0 0, .int .i64 (k : Int), .int .i64 0] : List Value) = [.int .i64 ((NodeT.k (NodeT.mk 40 0 [] 0 0 []) : Nat) : Int), .int .i64 ((NodeT.at' (NodeT.mk 40 0 [] 0 0 []) : Nat) : Int), .string (strN (NodeT.s (NodeT.mk 40 0 [] 0 0 []))), .bool (zn (NodeT.z (NodeT.mk 40 0 [] 0 0 []))), .int .u64 (zh (NodeT.z (NodeT.mk 40 0 [] 0 0 []))), .int .u64 (zl (NodeT.z (NodeT.mk 40 0 [] 0 0 []))), .int .i64 ((NodeT.i (NodeT.mk 40 0 [] 0 0 []) : Nat) : Int), .slice none (NodeT.l (NodeT.mk 40 0 [] 0 0 [])).length 0, .int .i64 (k : Int), .int .i64 0] := by
  have h1 : zn (NodeT.z (NodeT.mk 40 0 [] 0 0 [])) = false := by show zn 0 = false; decide
  have h2 : zh (NodeT.z (NodeT.mk 40 0 [] 0 0 [])) = 0 := by show zh 0 = 0; decide
  have h3 : zl (NodeT.z (NodeT.mk 40 0 [] 0 0 [])) = 0 := by show zl 0 = 0; decide
  rw [h1, h2, h3]
  rfl
theorem nc4 (a : Nat) (s : List Nat) : ([.int .i64 4, .int .i64 (a : Int), .string (strN s), .bool false, .int .u64 0, .int .u64 0, .int .i64 0, .slice none 0 0] : List Value) = [.int .i64 ((NodeT.k (NodeT.mk 4 a s 0 0 []) : Nat) : Int), .int .i64 ((NodeT.at' (NodeT.mk 4 a s 0 0 []) : Nat) : Int), .string (strN (NodeT.s (NodeT.mk 4 a s 0 0 []))), .bool (zn (NodeT.z (NodeT.mk 4 a s 0 0 []))), .int .u64 (zh (NodeT.z (NodeT.mk 4 a s 0 0 []))), .int .u64 (zl (NodeT.z (NodeT.mk 4 a s 0 0 []))), .int .i64 ((NodeT.i (NodeT.mk 4 a s 0 0 []) : Nat) : Int), .slice none (NodeT.l (NodeT.mk 4 a s 0 0 [])).length 0] := by
  have h1 : zn (NodeT.z (NodeT.mk 4 a s 0 0 [])) = false := by show zn 0 = false; decide
  have h2 : zh (NodeT.z (NodeT.mk 4 a s 0 0 [])) = 0 := by show zh 0 = 0; decide
  have h3 : zl (NodeT.z (NodeT.mk 4 a s 0 0 [])) = 0 := by show zl 0 = 0; decide
  rw [h1, h2, h3]
  rfl
theorem ownK {x : NodeT} (HO : Hid (Own w0 X S bs rs F w)) (hx : x.l = []) (h : Cold.kids none [] ∈ F) : Hid (Own w0 X S bs rs (Cold.kids none x.l :: F) w) := Lib.hid (HO.out.sub (List.Sublist.refl _) (List.Sublist.refl _) (fun c hc => by
  rcases List.mem_cons.1 hc with rfl | hc
  · rw [hx]; exact h
  · exact hc))
def LoopF {v0 v1 v2 v3 v4 v5 v6 : Value} (_ : Hid (Own w0 X S (⟨n, 45, [v0, v1, v2, v3, v4, v5, v6, .slice none 0 0]⟩ :: bs) rs F w)) (g : Nat → List NodeT → Nat → Prop) (v vi : Value) (W : World) : Prop :=
  ∃ (els : List El) (A : Option Addr) (e i q : Nat), v = .int .i64 (q : Int) ∧ vi = .int .i64 (i : Int) ∧ q < m ∧ c ≤ q ∧ els.length = i ∧ i ≤ 3 ∧ els.length ≤ e ∧ Hid (g i (els.map (·.1)) q) ∧ Hid (Own w0 X S (⟨n, 45, [v0, v1, v2, v3, v4, v5, v6, .slice A els.length e]⟩ :: bs) [⟨45, 8, .slice A els.length e, els.length, flatE els⟩] [Cold.els els, Cold.kids none []] W)
end
set_option maxRecDepth 100000 in
set_option maxHeartbeats 3200000 in
theorem rloop_any (p : RPar) (b c : Nat) (ts : List TokF) (d : Nat) (H_stmt : ∀ k, k < ts.length → RC 64 #[.agg #[.slice (some ⟨b, 0, none⟩) ts.length c], .int .i64 (k : Int), .int .i64 (d : Int)] (rstmt ts p k) VG b c ts (k + 1)) (H_expr : ∀ k, k < ts.length → RC 51 #[.agg #[.slice (some ⟨b, 0, none⟩) ts.length c], .int .i64 (k : Int), .int .i64 (d : Int)] (rexpr ts p k) VG b c ts (k + 1)) (H_simple : ∀ k, k < ts.length → RC 72 #[.agg #[.slice (some ⟨b, 0, none⟩) ts.length c], .int .i64 (k : Int), .int .i64 (d : Int)] (rsimple ts p k) VG b c ts (k + 1)) (k : Nat) (hk2 : k + 1 < ts.length) (hk : k < ts.length) : RC 71 #[.agg #[.slice (some ⟨b, 0, none⟩) ts.length c], .int .i64 (k : Int), .int .i64 (d : Int)] (rloop ts p k) VG b c ts (k + 1) := by
  intro w h
  obtain ⟨R, hR⟩ : ∃ R, rloop ts p k = R := ⟨_, rfl⟩
  rw [hR]
  have HF := Lib.hid hR
  have HRS := Lib.hid h
  have HO := h.ownN
  have hlen := h.ok.len
  have hkI : (k : Int) < (ts.length : Int) := by omega
  clear h hR
  have C_stmt := Lib.hid H_stmt
  clear H_stmt
  have C_expr := Lib.hid H_expr
  clear H_expr
  have C_simple := Lib.hid H_simple
  clear H_simple
  unfold rloop at HF
  have hk1 := hk2
  go_enter Try.func71, Try.ntmps71
  (repeat' (go_not_at_region 6; first | ((with_reducible refine zG ?_); first | refine oWx ?_ | (refine oWs ?_; clear HO; intro _ HO) | (refine oWj ?_; clear HO; intro _ HO HB)) | ((with_reducible refine to_load ?_); (first | first | refine oR6 HO rfl rfl rfl (by omega) ?_ | refine oR1 HO rfl rfl rfl rfl (by omega) ?_ | refine oR0 HO rfl rfl rfl (by omega) ?_); (try simp only [Act.put, pS])) | ((go_big_may; first | (go_at_call 32; refine arm_is [40] (by decide) (by omega) HO rfl rfl ?_; clear HO; intro _ z hz hlt HO; cases z <;> (try simp only [hz, ↓reduceIte, bZ] at HF) <;> (first | (replace hlt := hlt rfl) | clear hlt)) | (go_at_call 63; refine arm_bad HO rfl rfl ?_; clear HO; intro _ HO) | fail) <;> (try dsimp only)) | go_values | go_skip | go_guarded | go_step | go_upon | (go_ite <;> go_prune <;> (try go_simp))))
  all_goals (first | (refine oBc HO (t := 6) (ty := 116) rfl rfl rfl ?_; exact rFin) | skip)
  have HO0 := HO
  go_cut [59] from 31 to 59 (fun v W => CutZ HO0 (reach ts (k + 2)) (k + 6 < ts.length) v W)
  case first =>
    cases h5 : (((tk ts (k + 1 + 1)).k : Int) == 5)
    case' true => have hl5 := kdn_lt HRS.out.ok hlt h5 (by decide)
    all_goals cases h6 : (((tk ts (k + 1 + 1 + 2)).k : Int) == 5)
    case' true.true => have hl6 := fun h => kdn_lt HRS.out.ok (k := k + 1 + 1 + 2) h h6 (by decide)
    all_goals
      (repeat' (first | ((with_reducible refine zG ?_); first | refine oWx ?_ | (refine oWs ?_; clear HO; intro _ HO) | (refine oWj ?_; clear HO; intro _ HO HB)) | ((with_reducible refine to_load ?_); (first | first | refine oR6 HO rfl rfl rfl (by omega) ?_ | refine oR1 HO rfl rfl rfl rfl (by omega) ?_ | refine oR0 HO rfl rfl rfl (by omega) ?_); (try simp only [Act.put, pS])) | ((go_big_may; first | (go_at_call 32; refine arm_is [105, 110] (by decide) (by omega) HO rfl rfl ?_; clear HO; intro _ z hz hlt HO; cases z <;> (try simp only [hz, ↓reduceIte, bZ] at HF) <;> (first | (replace hlt := hlt rfl) | clear hlt)) | (go_at_call 32; refine arm_is [41] (by decide) (by omega) HO rfl rfl ?_; clear HO; intro _ z hz hlt HO; cases z <;> (try simp only [hz, ↓reduceIte, bZ] at HF) <;> (first | (replace hlt := hlt rfl) | clear hlt))) <;> (try dsimp only)) | go_values | go_skip | go_guarded | go_step | go_upon | (go_ite <;> go_prune <;> (try go_simp))))
    all_goals
      go_meet
      refine ⟨_, rfl, ?_, ?_, HO⟩
      · show ((((tk ts (k + 1 + 1)).k : Int) == 5) && (ris ts (k + 1 + 1 + 1) [105, 110] && ((((tk ts (k + 1 + 1 + 2)).k : Int) == 5) && ris ts (k + 1 + 1 + 3) [41]))) = _
        simp [*]
      · first
        | (intro h; cases h; done)
        | (intro _; omega)
  case' rest =>
    clear HO
    obtain ⟨z, rfl, hr, hlt6, HO⟩ := hcut
    clear HO0
    cases z
    rotate_left
  ·
    replace hlt6 := hlt6 rfl
    simp only [hr, ↓reduceIte] at HF
    (repeat' (first | ((with_reducible refine zG ?_); first | refine oWx ?_ | (refine oWs ?_; clear HO; intro _ HO) | (refine oWj ?_; clear HO; intro _ HO HB)) | ((with_reducible refine to_load ?_); (first | first | refine oR6 HO rfl rfl rfl (by omega) ?_ | refine oR1 HO rfl rfl rfl rfl (by omega) ?_ | refine oR0 HO rfl rfl rfl (by omega) ?_); (try simp only [Act.put, pS])) | go_values | go_skip | go_guarded | go_step | go_upon | (go_ite <;> go_prune <;> (try go_simp))))
    have hwi := IntWalk.i64_in ((k : Int) + 1 + 1) (by omega)
    have hb1 : 0 ≤ (k : Int) + 1 + 1 := by omega
    have hb2 : (k : Int) + 1 + 1 < (ts.length : Int) := by omega
    refine eBe HO [14] [0, 2, 6, 8, 1, 3, 4, 5, 7, 9, 10, 11, 12, 13] [14] ?_
    clear HO
    intro _ HO
    (repeat' (first | ((with_reducible refine eGo ?_); first | (refine eFl HO rfl rfl rfl (by kernel_rfl) (by rfl) (by rfl) ?_ (fun K hK => ?_); (clear HO; intro _ HO); (try simp only [Act.put, pS]); rotate_left) | (refine eFm HO rfl rfl (by kernel_rfl) (by rfl) ?_; clear HO; intro _ HO; (try simp only [Act.put, pS]))) | ((with_reducible refine zG ?_); first | (refine oWf ?_; intro K hK) | refine oWe ?_ | refine oWr ?_ | refine oWp ?_) | ((with_reducible refine zG ?_); first | (refine oWg ?_; intro K hK) | (refine oWk ?_; clear hK K) | (refine oWs ?_; clear HO; intro _ HO)) | ((with_reducible refine eOp ?_); go_simp)))
    (repeat' (go_not_at_region 10; first | ((with_reducible refine zG ?_); first | refine oWx ?_ | (refine oWs ?_; clear HO; intro _ HO) | (refine oWj ?_; clear HO; intro _ HO HB)) | go_values | go_skip | go_guarded | go_step | go_upon | (go_ite <;> go_prune <;> (try go_simp))))
    simp only [show ((k : Int) + 1 + 1).toNat = k + 1 + 1 from by omega] at HO
    rw [nc4] at HO
    replace HO := ownK (x := NodeT.mk 4 (tk ts (k + 1 + 1)).at' (tk ts (k + 1 + 1)).s 0 0 []) HO rfl mM
    have h4 : (NodeT.mk 4 (tk ts (k + 1 + 1)).at' (tk ts (k + 1 + 1)).s 0 0 []).l.length ≤ 0 := Nat.le_refl 0
    generalize hv4 : NodeT.mk 4 (tk ts (k + 1 + 1)).at' (tk ts (k + 1 + 1)).s 0 0 [] = x4 at HO h4
    rw [show NodeT.mk 4 (tk ts (k + 2)).at' (tk ts (k + 2)).s 0 0 [] = x4 from hv4] at HF
    clear hv4
    have HO0 := HO
    have HF0 := HF
    go_cut [9] from 82 to 88 (fun v wx => CutG HO0 HF0 (k + 2) v wx)
    case first =>
      refine eBe HO [8] [2, 3, 5, 0, 1, 7, 4, 6] [8] ?_
      clear HO
      intro _ HO
      (repeat' (first | ((with_reducible refine eGo ?_); first | (refine eFl HO rfl rfl rfl (by kernel_rfl) (by rfl) (by rfl) ?_ (fun K hK => ?_); (clear HO; intro _ HO); (try simp only [Act.put, pS]); rotate_left) | (refine eFm HO rfl rfl (by kernel_rfl) (by rfl) ?_; clear HO; intro _ HO; (try simp only [Act.put, pS]))) | ((with_reducible refine zG ?_); first | (refine oWf ?_; intro K hK) | refine oWe ?_ | refine oWr ?_ | refine oWp ?_) | ((with_reducible refine zG ?_); first | (refine oWg ?_; intro K hK) | (refine oWk ?_; clear hK K) | (refine oWs ?_; clear HO; intro _ HO)) | ((first | (go_at_call 52; refine arm_lines (by omega) HO rfl rfl ?_; clear HO; intro _ q hq hle hlt HO; (try simp only [hq] at HF)) | (go_at_call 64; (first | refine arm_rn rfl ?_ (C_stmt.out _ ?_) HO HF ?_ ?_ | refine arm_rn rfl ?_ (C_stmt.out _ ?_) HO (gr_eta HF) ?_ ?_); (first | with_reducible rfl | rfl | (rw [IntWalk.i64_in _ (by omega)]; rfl)); (omega); (clear HO HF; intro _ _ _ _ _ HO _ hle hlt HF); rotate_left; (clear HO HF; intro _ _ _ HO hq HE); rotate_left)) <;> (try dsimp only)) | ((with_reducible refine eOp ?_); go_simp)))
      all_goals (go_wp2_with fail; go_meet; first | exact .inl ⟨_, _, _, _, _, rfl, HO, by assumption, by omega, by omega, HF⟩ | exact .inr ⟨_, _, _, rfl, HO, by assumption, HE⟩)
    case' rest =>
      clear HO HF
      rcases hcut with ⟨B9, x9, A9, c9, k9, rfl, HO, hl9, hle9, hlt9, HF⟩ | ⟨B9, k9, q9, rfl, HO, hq9, HE⟩
    all_goals clear HO0 HF0
    all_goals
      (repeat' (first | ((with_reducible refine zG ?_); first | refine oWx ?_ | (refine oWs ?_; clear HO; intro _ HO) | (refine oWj ?_; clear HO; intro _ HO HB)) | ((with_reducible refine zG ?_); refine oWn ?_; clear HO; intro _ HO) | go_values | go_skip | go_guarded | go_step | go_upon | (go_ite <;> go_prune <;> (try go_simp))))
      all_goals (refine oBc HO (t := 6) (ty := 116) rfl rfl rfl ?_; exact rFin)
  ·
    simp only [hr, ↓reduceIte, Bool.false_eq_true] at HF
    clear hlt6
    have HF1 : Hid (rforI ts p k 0 [] (k + 2) = R) := HF
    clear HF
    (repeat' (first | ((with_reducible refine zG ?_); first | refine oWx ?_ | (refine oWs ?_; clear HO; intro _ HO) | (refine oWj ?_; clear HO; intro _ HO HB)) | go_values | go_skip | go_guarded | go_step | go_upon | (go_ite <;> go_prune <;> (try go_simp))))
    have HO0 := HO
    go_loopw [1, 10] (fun v vi W => LoopF (m := ts.length) (c := k) HO0 (fun i l q => rforI ts p k i l q = R) v vi W) (fun _ vi _ => 3 - (intOf vi).toNat)
    case atStart => exact ⟨[], none, 0, 0, k + 1 + 1, rfl, rfl, hlt, by omega, rfl, by omega, Nat.le_refl _, HF1, Lib.hid ((HO.out.nilRow _ _).elsNil)⟩
    case round =>
      clear HO HF1
      obtain ⟨els, A, ce, i, q, rfl, rfl, hq0, hkq, hli, hi3, hle0, HF, HO⟩ := hrel
      have hqI : (q : Int) < (ts.length : Int) := by omega
      dsimp only at HF
      have hlE : els.length ≤ 3 := by omega
      replace hli := Lib.hid hli
      rcases (by omega : i = 0 ∨ i = 1 ∨ i = 2 ∨ i = 3) with rfl | rfl | rfl | rfl
      rotate_left 3
      ·
        change Hid ((rstmt ts p q).bind (fun b k6 => GR.ok (NodeT.mk 45 (tk ts k).at' [] 0 0 (els.map (·.1) ++ [b])) k6) = R) at HF
        have hli1 := hli.out
        clear hli
        (repeat' (first | ((with_reducible refine zG ?_); first | refine oWx ?_ | (refine oWs ?_; clear HO; intro _ HO) | (refine oWj ?_; clear HO; intro _ HO HB)) | ((with_reducible refine zG ?_); refine oWn ?_; clear HO; intro _ HO) | ((with_reducible refine to_append ?_); refine wo_appN HO mM rfl rfl rfl mM (by first | omega | simp) ?_; clear HO; intro eN _ _ _ hmap hlen hcap HO; replace hlen := Lib.hid hlen; (try simp only [Act.put, pS])) | ((go_big_may; first | (go_at_call 64; (first | refine arm_rn rfl ?_ (C_stmt.out _ ?_) HO HF ?_ ?_ | refine arm_rn rfl ?_ (C_stmt.out _ ?_) HO (gr_eta HF) ?_ ?_); (first | with_reducible rfl | rfl | (rw [IntWalk.i64_in _ (by omega)]; rfl)); (omega); (clear HO HF; intro _ _ _ _ _ HO _ hle hlt HF); rotate_left; (clear HO HF; intro _ _ _ HO hq HE); rotate_left) | fail) <;> (try dsimp only)) | go_values | go_skip | go_guarded | go_step | go_upon | (go_ite <;> go_prune <;> (try go_simp))))
        all_goals
          refine oBc HO (t := 6) (ty := 116) rfl rfl rfl ?_
          first
          | exact rp_err HO (by assumption) HE
          | (refine rp_nodeE HO (by rw [hmap]; exact HF) mH ?_ ?_ ?_; (show (_ : Nat) ≤ _; omega); (show (_ : Nat) < _; omega); (first | assumption | exact Nat.le_refl _))
      ·
        change Hid ((rpart ts p 0 [59] (els.map (·.1)) q).bind (rfor1 ts p k) = R) at HF
        rw [rpart_b0] at HF
        (repeat' (go_not_at_region 28; first | ((with_reducible refine zG ?_); first | refine oWx ?_ | (refine oWs ?_; clear HO; intro _ HO) | (refine oWj ?_; clear HO; intro _ HO HB)) | ((go_big_may; first | (go_at_call 32; first | (refine arm_isK [59] (by decide) (by omega) HO rfl rfl (z := true) ?_ ?_; (assumption); (clear HO; intro _ hz HO; (try simp only [hz, ↓reduceIte, bZ] at HF))) | (refine arm_isK [59] (by decide) (by omega) HO rfl rfl (z := false) ?_ ?_; (assumption); (clear HO; intro _ hz HO; (try simp only [hz, ↓reduceIte, bZ] at HF))) | (refine arm_is [59] (by decide) (by omega) HO rfl rfl ?_; clear HO; intro _ z hz hlt HO; cases z <;> (try simp only [hz, ↓reduceIte, bZ] at HF) <;> (first | (replace hlt := hlt rfl) | clear hlt))) | (go_at_call 32; first | (refine arm_isK [41] (by decide) (by omega) HO rfl rfl (z := true) ?_ ?_; (assumption); (clear HO; intro _ hz HO; (try simp only [hz, ↓reduceIte, bZ] at HF))) | (refine arm_isK [41] (by decide) (by omega) HO rfl rfl (z := false) ?_ ?_; (assumption); (clear HO; intro _ hz HO; (try simp only [hz, ↓reduceIte, bZ] at HF))) | (refine arm_is [41] (by decide) (by omega) HO rfl rfl ?_; clear HO; intro _ z hz hlt HO; cases z <;> (try simp only [hz, ↓reduceIte, bZ] at HF) <;> (first | (replace hlt := hlt rfl) | clear hlt))) | (go_at_call 51; (first | refine arm_rn rfl ?_ (C_expr.out _ ?_) HO HF ?_ ?_ | refine arm_rn rfl ?_ (C_expr.out _ ?_) HO (gr_eta HF) ?_ ?_); (first | with_reducible rfl | rfl | (rw [IntWalk.i64_in _ (by omega)]; rfl)); (omega); (clear HO HF; intro _ _ _ _ _ HO _ hle hlt HF); rotate_left; (clear HO HF; intro _ _ _ HO hq HE); rotate_left) | (go_at_call 72; (first | refine arm_rn rfl ?_ (C_simple.out _ ?_) HO HF ?_ ?_ | refine arm_rn rfl ?_ (C_simple.out _ ?_) HO (gr_eta HF) ?_ ?_); (first | with_reducible rfl | rfl | (rw [IntWalk.i64_in _ (by omega)]; rfl)); (omega); (clear HO HF; intro _ _ _ _ _ HO _ hle hlt HF); rotate_left; (clear HO HF; intro _ _ _ HO hq HE); rotate_left) | fail) <;> (try dsimp only)) | go_values | go_skip | go_guarded | go_step | go_upon | (go_ite <;> go_prune <;> (try go_simp))))
        all_goals first
          | (refine oBc HO (t := 6) (ty := 116) rfl rfl rfl ?_; exact rp_err HO (by assumption) HE)
          | skip
        all_goals (try (rw [nc40] at HO; replace HO := ownK (x := NodeT.mk 40 0 [] 0 0 []) HO rfl mM; have h40 : (NodeT.mk 40 0 [] 0 0 []).l.length ≤ 0 := Nat.le_refl 0; generalize NodeT.mk 40 0 [] 0 0 [] = x40 at HO HF h40))
        all_goals unfold rG at HF
        all_goals
          (repeat' (first | ((with_reducible refine zG ?_); first | refine oWx ?_ | (refine oWs ?_; clear HO; intro _ HO) | (refine oWj ?_; clear HO; intro _ HO HB)) | ((with_reducible refine zG ?_); refine oWn ?_; clear HO; intro _ HO) | ((with_reducible refine to_append ?_); refine wo_appN HO mM rfl rfl rfl mM (by first | omega | simp) ?_; clear HO; intro eN _ _ _ hmap hlen hcap HO; replace hlen := Lib.hid hlen; (try simp only [Act.put, pS])) | ((go_big_may; first | (go_at_call 32; first | (refine arm_isK [59] (by decide) (by omega) HO rfl rfl (z := true) ?_ ?_; (assumption); (clear HO; intro _ hz HO; (try simp only [hz, ↓reduceIte, bZ] at HF))) | (refine arm_isK [59] (by decide) (by omega) HO rfl rfl (z := false) ?_ ?_; (assumption); (clear HO; intro _ hz HO; (try simp only [hz, ↓reduceIte, bZ] at HF))) | (refine arm_is [59] (by decide) (by omega) HO rfl rfl ?_; clear HO; intro _ z hz hlt HO; cases z <;> (try simp only [hz, ↓reduceIte, bZ] at HF) <;> (first | (replace hlt := hlt rfl) | clear hlt))) | (go_at_call 32; first | (refine arm_isK [41] (by decide) (by omega) HO rfl rfl (z := true) ?_ ?_; (assumption); (clear HO; intro _ hz HO; (try simp only [hz, ↓reduceIte, bZ] at HF))) | (refine arm_isK [41] (by decide) (by omega) HO rfl rfl (z := false) ?_ ?_; (assumption); (clear HO; intro _ hz HO; (try simp only [hz, ↓reduceIte, bZ] at HF))) | (refine arm_is [41] (by decide) (by omega) HO rfl rfl ?_; clear HO; intro _ z hz hlt HO; cases z <;> (try simp only [hz, ↓reduceIte, bZ] at HF) <;> (first | (replace hlt := hlt rfl) | clear hlt))) | (go_at_call 63; refine arm_bad HO rfl rfl ?_; clear HO; intro _ HO) | (go_at_call 52; refine arm_lines (by omega) HO rfl rfl ?_; clear HO; intro _ q hq hle hlt HO; (try simp only [hq] at HF)) | fail) <;> (try dsimp only)) | go_values | go_skip | go_guarded | go_step | go_upon | (go_ite <;> go_prune <;> (try go_simp))))
        all_goals first
          | (refine oBc HO (t := 6) (ty := 116) rfl rfl rfl ?_
             first
             | exact rp_err HO (by assumption) HE
             | exact rp_err HO rfl (Lib.hid HF.out.symm))
          | skip
        all_goals
          have hl1 := hlen.out
          have hl2 := hli.out
          refine ⟨⟨_, _, _, 1, _, rfl, rfl, by assumption, by omega, by omega, by decide, hcap, by rw [hmap]; exact HF, Lib.hid (HO.out.sub (List.sublist_cons_self _ _) (List.Sublist.refl _) (fun c hc => mem2 hc mM mM))⟩, by decide⟩
      ·
        change Hid ((rpart ts p 1 [59] (els.map (·.1)) q).bind (rfor2 ts p k) = R) at HF
        rw [rpart_b1] at HF
        (repeat' (go_not_at_region 28; first | ((with_reducible refine zG ?_); first | refine oWx ?_ | (refine oWs ?_; clear HO; intro _ HO) | (refine oWj ?_; clear HO; intro _ HO HB)) | ((go_big_may; first | (go_at_call 32; first | (refine arm_isK [59] (by decide) (by omega) HO rfl rfl (z := true) ?_ ?_; (assumption); (clear HO; intro _ hz HO; (try simp only [hz, ↓reduceIte, bZ] at HF))) | (refine arm_isK [59] (by decide) (by omega) HO rfl rfl (z := false) ?_ ?_; (assumption); (clear HO; intro _ hz HO; (try simp only [hz, ↓reduceIte, bZ] at HF))) | (refine arm_is [59] (by decide) (by omega) HO rfl rfl ?_; clear HO; intro _ z hz hlt HO; cases z <;> (try simp only [hz, ↓reduceIte, bZ] at HF) <;> (first | (replace hlt := hlt rfl) | clear hlt))) | (go_at_call 32; first | (refine arm_isK [41] (by decide) (by omega) HO rfl rfl (z := true) ?_ ?_; (assumption); (clear HO; intro _ hz HO; (try simp only [hz, ↓reduceIte, bZ] at HF))) | (refine arm_isK [41] (by decide) (by omega) HO rfl rfl (z := false) ?_ ?_; (assumption); (clear HO; intro _ hz HO; (try simp only [hz, ↓reduceIte, bZ] at HF))) | (refine arm_is [41] (by decide) (by omega) HO rfl rfl ?_; clear HO; intro _ z hz hlt HO; cases z <;> (try simp only [hz, ↓reduceIte, bZ] at HF) <;> (first | (replace hlt := hlt rfl) | clear hlt))) | (go_at_call 51; (first | refine arm_rn rfl ?_ (C_expr.out _ ?_) HO HF ?_ ?_ | refine arm_rn rfl ?_ (C_expr.out _ ?_) HO (gr_eta HF) ?_ ?_); (first | with_reducible rfl | rfl | (rw [IntWalk.i64_in _ (by omega)]; rfl)); (omega); (clear HO HF; intro _ _ _ _ _ HO _ hle hlt HF); rotate_left; (clear HO HF; intro _ _ _ HO hq HE); rotate_left) | (go_at_call 72; (first | refine arm_rn rfl ?_ (C_simple.out _ ?_) HO HF ?_ ?_ | refine arm_rn rfl ?_ (C_simple.out _ ?_) HO (gr_eta HF) ?_ ?_); (first | with_reducible rfl | rfl | (rw [IntWalk.i64_in _ (by omega)]; rfl)); (omega); (clear HO HF; intro _ _ _ _ _ HO _ hle hlt HF); rotate_left; (clear HO HF; intro _ _ _ HO hq HE); rotate_left) | fail) <;> (try dsimp only)) | go_values | go_skip | go_guarded | go_step | go_upon | (go_ite <;> go_prune <;> (try go_simp))))
        all_goals first
          | (refine oBc HO (t := 6) (ty := 116) rfl rfl rfl ?_; exact rp_err HO (by assumption) HE)
          | skip
        all_goals (try (rw [nc40] at HO; replace HO := ownK (x := NodeT.mk 40 0 [] 0 0 []) HO rfl mM; have h40 : (NodeT.mk 40 0 [] 0 0 []).l.length ≤ 0 := Nat.le_refl 0; generalize NodeT.mk 40 0 [] 0 0 [] = x40 at HO HF h40))
        all_goals unfold rG at HF
        all_goals
          (repeat' (first | ((with_reducible refine zG ?_); first | refine oWx ?_ | (refine oWs ?_; clear HO; intro _ HO) | (refine oWj ?_; clear HO; intro _ HO HB)) | ((with_reducible refine zG ?_); refine oWn ?_; clear HO; intro _ HO) | ((with_reducible refine to_append ?_); refine wo_appN HO mM rfl rfl rfl mM (by first | omega | simp) ?_; clear HO; intro eN _ _ _ hmap hlen hcap HO; replace hlen := Lib.hid hlen; (try simp only [Act.put, pS])) | ((go_big_may; first | (go_at_call 32; first | (refine arm_isK [59] (by decide) (by omega) HO rfl rfl (z := true) ?_ ?_; (assumption); (clear HO; intro _ hz HO; (try simp only [hz, ↓reduceIte, bZ] at HF))) | (refine arm_isK [59] (by decide) (by omega) HO rfl rfl (z := false) ?_ ?_; (assumption); (clear HO; intro _ hz HO; (try simp only [hz, ↓reduceIte, bZ] at HF))) | (refine arm_is [59] (by decide) (by omega) HO rfl rfl ?_; clear HO; intro _ z hz hlt HO; cases z <;> (try simp only [hz, ↓reduceIte, bZ] at HF) <;> (first | (replace hlt := hlt rfl) | clear hlt))) | (go_at_call 32; first | (refine arm_isK [41] (by decide) (by omega) HO rfl rfl (z := true) ?_ ?_; (assumption); (clear HO; intro _ hz HO; (try simp only [hz, ↓reduceIte, bZ] at HF))) | (refine arm_isK [41] (by decide) (by omega) HO rfl rfl (z := false) ?_ ?_; (assumption); (clear HO; intro _ hz HO; (try simp only [hz, ↓reduceIte, bZ] at HF))) | (refine arm_is [41] (by decide) (by omega) HO rfl rfl ?_; clear HO; intro _ z hz hlt HO; cases z <;> (try simp only [hz, ↓reduceIte, bZ] at HF) <;> (first | (replace hlt := hlt rfl) | clear hlt))) | (go_at_call 63; refine arm_bad HO rfl rfl ?_; clear HO; intro _ HO) | (go_at_call 52; refine arm_lines (by omega) HO rfl rfl ?_; clear HO; intro _ q hq hle hlt HO; (try simp only [hq] at HF)) | fail) <;> (try dsimp only)) | go_values | go_skip | go_guarded | go_step | go_upon | (go_ite <;> go_prune <;> (try go_simp))))
        all_goals first
          | (refine oBc HO (t := 6) (ty := 116) rfl rfl rfl ?_
             first
             | exact rp_err HO (by assumption) HE
             | exact rp_err HO rfl (Lib.hid HF.out.symm))
          | skip
        all_goals
          have hl1 := hlen.out
          have hl2 := hli.out
          refine ⟨⟨_, _, _, 2, _, rfl, rfl, by assumption, by omega, by omega, by decide, hcap, by rw [hmap]; exact HF, Lib.hid (HO.out.sub (List.sublist_cons_self _ _) (List.Sublist.refl _) (fun c hc => mem2 hc mM mM))⟩, by decide⟩
      ·
        change Hid ((rpart ts p 2 [41] (els.map (·.1)) q).bind (rfor3 ts p k) = R) at HF
        rw [rpart_b2] at HF
        (repeat' (go_not_at_region 28; first | ((with_reducible refine zG ?_); first | refine oWx ?_ | (refine oWs ?_; clear HO; intro _ HO) | (refine oWj ?_; clear HO; intro _ HO HB)) | ((go_big_may; first | (go_at_call 32; first | (refine arm_isK [59] (by decide) (by omega) HO rfl rfl (z := true) ?_ ?_; (assumption); (clear HO; intro _ hz HO; (try simp only [hz, ↓reduceIte, bZ] at HF))) | (refine arm_isK [59] (by decide) (by omega) HO rfl rfl (z := false) ?_ ?_; (assumption); (clear HO; intro _ hz HO; (try simp only [hz, ↓reduceIte, bZ] at HF))) | (refine arm_is [59] (by decide) (by omega) HO rfl rfl ?_; clear HO; intro _ z hz hlt HO; cases z <;> (try simp only [hz, ↓reduceIte, bZ] at HF) <;> (first | (replace hlt := hlt rfl) | clear hlt))) | (go_at_call 32; first | (refine arm_isK [41] (by decide) (by omega) HO rfl rfl (z := true) ?_ ?_; (assumption); (clear HO; intro _ hz HO; (try simp only [hz, ↓reduceIte, bZ] at HF))) | (refine arm_isK [41] (by decide) (by omega) HO rfl rfl (z := false) ?_ ?_; (assumption); (clear HO; intro _ hz HO; (try simp only [hz, ↓reduceIte, bZ] at HF))) | (refine arm_is [41] (by decide) (by omega) HO rfl rfl ?_; clear HO; intro _ z hz hlt HO; cases z <;> (try simp only [hz, ↓reduceIte, bZ] at HF) <;> (first | (replace hlt := hlt rfl) | clear hlt))) | (go_at_call 51; (first | refine arm_rn rfl ?_ (C_expr.out _ ?_) HO HF ?_ ?_ | refine arm_rn rfl ?_ (C_expr.out _ ?_) HO (gr_eta HF) ?_ ?_); (first | with_reducible rfl | rfl | (rw [IntWalk.i64_in _ (by omega)]; rfl)); (omega); (clear HO HF; intro _ _ _ _ _ HO _ hle hlt HF); rotate_left; (clear HO HF; intro _ _ _ HO hq HE); rotate_left) | (go_at_call 72; (first | refine arm_rn rfl ?_ (C_simple.out _ ?_) HO HF ?_ ?_ | refine arm_rn rfl ?_ (C_simple.out _ ?_) HO (gr_eta HF) ?_ ?_); (first | with_reducible rfl | rfl | (rw [IntWalk.i64_in _ (by omega)]; rfl)); (omega); (clear HO HF; intro _ _ _ _ _ HO _ hle hlt HF); rotate_left; (clear HO HF; intro _ _ _ HO hq HE); rotate_left) | fail) <;> (try dsimp only)) | go_values | go_skip | go_guarded | go_step | go_upon | (go_ite <;> go_prune <;> (try go_simp))))
        all_goals first
          | (refine oBc HO (t := 6) (ty := 116) rfl rfl rfl ?_; exact rp_err HO (by assumption) HE)
          | skip
        all_goals (try (rw [nc40] at HO; replace HO := ownK (x := NodeT.mk 40 0 [] 0 0 []) HO rfl mM; have h40 : (NodeT.mk 40 0 [] 0 0 []).l.length ≤ 0 := Nat.le_refl 0; generalize NodeT.mk 40 0 [] 0 0 [] = x40 at HO HF h40))
        all_goals unfold rG at HF
        all_goals
          (repeat' (first | ((with_reducible refine zG ?_); first | refine oWx ?_ | (refine oWs ?_; clear HO; intro _ HO) | (refine oWj ?_; clear HO; intro _ HO HB)) | ((with_reducible refine zG ?_); refine oWn ?_; clear HO; intro _ HO) | ((with_reducible refine to_append ?_); refine wo_appN HO mM rfl rfl rfl mM (by first | omega | simp) ?_; clear HO; intro eN _ _ _ hmap hlen hcap HO; replace hlen := Lib.hid hlen; (try simp only [Act.put, pS])) | ((go_big_may; first | (go_at_call 32; first | (refine arm_isK [59] (by decide) (by omega) HO rfl rfl (z := true) ?_ ?_; (assumption); (clear HO; intro _ hz HO; (try simp only [hz, ↓reduceIte, bZ] at HF))) | (refine arm_isK [59] (by decide) (by omega) HO rfl rfl (z := false) ?_ ?_; (assumption); (clear HO; intro _ hz HO; (try simp only [hz, ↓reduceIte, bZ] at HF))) | (refine arm_is [59] (by decide) (by omega) HO rfl rfl ?_; clear HO; intro _ z hz hlt HO; cases z <;> (try simp only [hz, ↓reduceIte, bZ] at HF) <;> (first | (replace hlt := hlt rfl) | clear hlt))) | (go_at_call 32; first | (refine arm_isK [41] (by decide) (by omega) HO rfl rfl (z := true) ?_ ?_; (assumption); (clear HO; intro _ hz HO; (try simp only [hz, ↓reduceIte, bZ] at HF))) | (refine arm_isK [41] (by decide) (by omega) HO rfl rfl (z := false) ?_ ?_; (assumption); (clear HO; intro _ hz HO; (try simp only [hz, ↓reduceIte, bZ] at HF))) | (refine arm_is [41] (by decide) (by omega) HO rfl rfl ?_; clear HO; intro _ z hz hlt HO; cases z <;> (try simp only [hz, ↓reduceIte, bZ] at HF) <;> (first | (replace hlt := hlt rfl) | clear hlt))) | (go_at_call 63; refine arm_bad HO rfl rfl ?_; clear HO; intro _ HO) | (go_at_call 52; refine arm_lines (by omega) HO rfl rfl ?_; clear HO; intro _ q hq hle hlt HO; (try simp only [hq] at HF)) | fail) <;> (try dsimp only)) | go_values | go_skip | go_guarded | go_step | go_upon | (go_ite <;> go_prune <;> (try go_simp))))
        all_goals first
          | (refine oBc HO (t := 6) (ty := 116) rfl rfl rfl ?_
             first
             | exact rp_err HO (by assumption) HE
             | exact rp_err HO rfl (Lib.hid HF.out.symm))
          | skip
        all_goals
          have hl1 := hlen.out
          have hl2 := hli.out
          refine ⟨⟨_, _, _, 3, _, rfl, rfl, by assumption, by omega, by omega, by decide, hcap, by rw [hmap]; exact HF, Lib.hid (HO.out.sub (List.sublist_cons_self _ _) (List.Sublist.refl _) (fun c hc => mem2 hc mM mM))⟩, by decide⟩
end Go.Proofs.Ythipoccbeloceaa
