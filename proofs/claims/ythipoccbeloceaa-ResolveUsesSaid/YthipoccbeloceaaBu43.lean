/- Several texts put together: RqI. -/
import Derived.Test.YthipoccbeloceaaBu41
set_option linter.unusedSimpArgs false
set_option linter.unusedVariables false
namespace Go.Proofs.Ythipoccbeloceaa
open Go.RowKit
section
variable {b c m a : Nat} {ts : List TokF} {w W : World} {bs : List Bx} {rs : List Rw} {F : List Cold} {S : World → Prop} {Fp : Nat → Prop} {f : GR TreeT}
theorem rt_rule {fe : List ElF} {re : List ElR} {A0 B0 : Option Addr} {c1 : Nat} {A' : Option Addr} {e' : Nat} {g : RuleT} {A B : Option Addr} {c e : Nat} (HO : Hid (Own w [] S bs (⟨83, 12, .slice A' (re.length + 1) e', re.length + 1, flatR re ++ ruleC g A c B e⟩ :: rs) F W)) (HF : Hid (.ok ⟨fe.map (·.1), re.map (·.1) ++ [g]⟩ a = f)) (hm : m ≤ a) (ha : a < ts.length) (hF : Hid (∀ b, Fp b → b < w.heap.size)) (HX : Hid (TreeAt w Fp A0 B0 fe re)) (h1 : Cold.kids A g.l ∈ F) (h2 : Cold.kids B g.body.l ∈ F) (hc : g.l.length ≤ c) (he : g.body.l.length ≤ e) (hce : re.length + 1 ≤ e') (hfe : fe.length ≤ c1) :
    RTree ts m w Fp f (.returned (.agg #[.slice A0 fe.length c1, .slice A' (re.length + 1) e', .int .i64 ((a : Nat) : Int), .int .i64 0])) W := by
  rw [← HF.out]
  have hold : ∀ b, Fp b → (Fp b ∨ (w.heap.size ≤ b ∧ b < W.heap.size)) ∧ W.heap[b]? = w.heap[b]? := fun b hb => ⟨.inl hb, HO.out.kept.block b (hF.out b hb) List.not_mem_nil⟩
  have hnew : ∀ b, (w.heap.size ≤ b ∧ b < W.heap.size ∧ b ∉ hot bs (⟨83, 12, .slice A' (re.length + 1) e', re.length + 1, flatR re ++ ruleC g A c B e⟩ :: rs)) → (Fp b ∨ (w.heap.size ≤ b ∧ b < W.heap.size)) ∧ W.heap[b]? = W.heap[b]? := fun b hb => ⟨.inr ⟨hb.1, hb.2.1⟩, rfl⟩
  have hx := HX.out.st hold
  have hlen : (re ++ [((g, A, c, B, e) : ElR)]).length = re.length + 1 := by simp
  refine ⟨HO.out.kept.below, hm, ha, fe, re ++ [(g, A, c, B, e)], A0, c1, A', e', by simp, by rw [hlen], hfe, by rw [hlen]; exact hce, hx.rf, ?_, hx.ef, fun x hx2 => ?_⟩
  · have := row_of_own HO (Nat.succ_pos _)
    rw [show flatR (re ++ [((g, A, c, B, e) : ElR)]) = flatR re ++ ruleC g A c B e by simp [flatR]]
    exact this.st (fun b hb => ⟨.inr hb, rfl⟩)
  · rcases List.mem_append.1 hx2 with hx2 | hx2
    · exact hx.er x hx2
    · obtain rfl := List.mem_singleton.1 hx2
      exact ⟨hc, he, KidsL.st hnew _ _ _ (HO.out.cold _ h1), KidsL.st hnew _ _ _ (HO.out.cold _ h2)⟩
end
def Cold.eqs (W9 : World) (G : Nat → Prop) : Cold := ⟨fun w F => ∀ b, G b → F b ∧ w.heap[b]? = W9.heap[b]?, fun _ _ _ _ hF h b hb => ⟨(hF b (h b hb).1).1, (hF b (h b hb).1).2.trans (h b hb).2⟩⟩
section
variable {b c m a : Nat} {ts : List TokF} {w W9 W : World} {bs : List Bx} {rs : List Rw} {F : List Cold} {S : World → Prop} {Fp G : Nat → Prop}
theorem own_eqs {n : Nat} (HO : Hid (Own w [] S bs rs F W)) (hn : W.heap.size ≤ n) (q : Below W.heap.size W W9) : Hid (Own w [] S bs rs (Cold.eqs W9 (fun b => W.heap.size ≤ b ∧ b < W9.heap.size) :: F) W9) :=
  Lib.hid ((HO.out.next q).coldAll (Cold.eqs W9 _) (fun b hb => ⟨⟨Nat.le_trans HO.out.kept.size hb.1, hb.2, fun hm => by have := (HO.out.hot_lt b hm).2; omega⟩, rfl⟩))
theorem rt_pass {t : TreeT} {f : GR TreeT} {fe : List ElF} {re : List ElR} {A B : Option Addr} {c1 c2 : Nat} (HO : Hid (Own w [] S bs rs F W)) (hE : Cold.eqs W9 G ∈ F) (HK : Hid (Kept [] w W9)) (hT : Hid (TreeAt W9 (fun b => Fp b ∨ G b) A B fe re)) (hF : Hid (∀ b, Fp b → b < w.heap.size)) (HF : Hid (.ok t a = f)) (ht : t = ⟨fe.map (·.1), re.map (·.1)⟩) (hm : m ≤ a) (ha : a < ts.length) (h1 : fe.length ≤ c1) (h2 : re.length ≤ c2) :
    RTree ts m w Fp f (.returned (.agg #[.slice A fe.length c1, .slice B re.length c2, .int .i64 ((a : Nat) : Int), .int .i64 0])) W := by
  rw [← HF.out]
  refine ⟨HO.out.kept.below, hm, ha, fe, re, A, c1, B, c2, ht, rfl, h1, h2, hT.out.st (fun b hb => ?_)⟩
  rcases hb with hb | hb
  · exact ⟨.inl hb, (HO.out.kept.block b (hF.out b hb) List.not_mem_nil).trans (HK.out.block b (hF.out b hb) List.not_mem_nil).symm⟩
  · have := HO.out.cold _ hE b hb
    exact ⟨.inr ⟨this.1.1, this.1.2.1⟩, this.2⟩
end
instance iTNAr4string : TN 114 4 := ⟨Try.isAgg114, Try.sizeOf114⟩
instance iTZAr4string : TZ 114 [.string { data := #[] }, .string { data := #[] }, .string { data := #[] }, .string { data := #[] }] := ⟨Try.zeroValue114⟩
def kI (ts : List TokF) (k : Nat) : Nat → Nat
  | 0 => 5
  | 1 => if ris ts k [66, 69, 71, 73, 78] then 1 else 5
  | 2 => if ris ts k [69, 78, 68] then 2 else if ris ts k [66, 69, 71, 73, 78] then 1 else 5
  | 3 => if ris ts k [79, 80, 69, 78] then 3 else if ris ts k [69, 78, 68] then 2 else if ris ts k [66, 69, 71, 73, 78] then 1 else 5
  | _ => rkind ts k
theorem kI_step (ts : List TokF) (k : Nat) : (kI ts k 1 = if ris ts k [66, 69, 71, 73, 78] then 1 else kI ts k 0) ∧ (kI ts k 2 = if ris ts k [69, 78, 68] then 2 else kI ts k 1) ∧ (kI ts k 3 = if ris ts k [79, 80, 69, 78] then 3 else kI ts k 2) ∧ (kI ts k 4 = if ris ts k [67, 76, 79, 83, 69] then 4 else kI ts k 3) := ⟨rfl, rfl, rfl, rfl⟩
theorem rkind_lt {ts : List TokF} {k : Nat} (ok : TsOk ts) (hk : k < ts.length) (h : (!(rkind ts k == 5)) = true) : k + 1 < ts.length := by
  unfold rkind at h
  split at h
  · rename_i h1; exact ris_lt ok hk h1
  · split at h
    · rename_i h1; exact ris_lt ok hk h1
    · split at h
      · rename_i h1; exact ris_lt ok hk h1
      · split at h
        · rename_i h1; exact ris_lt ok hk h1
        · cases h
theorem xc40 (v0 v1 v2 v11 : Value) : ([v0, v1, v2, .int .i64 40, .int .i64 0, .string { data := #[] }, .bool false, .int .u64 0, .int .u64 0, .int .i64 0, .slice none 0 0, v11] : List Value) = [v0, v1, v2, .int .i64 ((NodeT.k (NodeT.mk 40 0 [] 0 0 []) : Nat) : Int), .int .i64 ((NodeT.at' (NodeT.mk 40 0 [] 0 0 []) : Nat) : Int), .string (strN (NodeT.s (NodeT.mk 40 0 [] 0 0 []))), .bool (zn (NodeT.z (NodeT.mk 40 0 [] 0 0 []))), .int .u64 (zh (NodeT.z (NodeT.mk 40 0 [] 0 0 []))), .int .u64 (zl (NodeT.z (NodeT.mk 40 0 [] 0 0 []))), .int .i64 ((NodeT.i (NodeT.mk 40 0 [] 0 0 []) : Nat) : Int), .slice none (NodeT.l (NodeT.mk 40 0 [] 0 0 [])).length 0, v11] := by
  have h1 : zn (NodeT.z (NodeT.mk 40 0 [] 0 0 [])) = false := by show zn 0 = false; decide
  have h2 : zh (NodeT.z (NodeT.mk 40 0 [] 0 0 [])) = 0 := by show zh 0 = 0; decide
  have h3 : zl (NodeT.z (NodeT.mk 40 0 [] 0 0 [])) = 0 := by show zl 0 = 0; decide
  rw [h1, h2, h3]
  rfl
section
variable {m n : Nat} {w0 w W : World} {X : List Nat} {S : World → Prop} {bs : List Bx} {rs : List Rw} {F : List Cold}
def LoopW {v0 v1 v2 v3 v4 v5 v6 v7 v8 v9 v10 v11 : Value} {B : Bx} (_ : Hid (Own w0 X S (B :: ⟨n, 83, [v0, v1, v2, v3, v4, v5, v6, v7, v8, v9, v10, v11]⟩ :: bs) rs F w)) (g : Nat → Nat) (vs vi : Value) (W : World) : Prop :=
  ∃ (i : Nat), vi = .int .i64 (i : Int) ∧ vs = .bool (!((g i : Nat) == 5)) ∧ i ≤ 4 ∧ Hid (Own w0 X S (B :: ⟨n, 83, [.int .i64 ((g i : Nat) : Int), v1, v2, v3, v4, v5, v6, v7, v8, v9, v10, v11]⟩ :: bs) rs F W)
def CutR {v0 v1 v3 v4 v5 v6 v7 v8 v9 v10 v11 : Value} {B : Bx} (_ : Hid (Own w0 X S (B :: ⟨n, 83, [v0, v1, .slice none 0 0, v3, v4, v5, v6, v7, v8, v9, v10, v11]⟩ :: bs) rs F w)) (g : Nat → List NodeT → Nat → Prop) (m p : Nat) (v : Value) (W : World) : Prop :=
  ∃ (kd : Nat) (els : List El) (A : Option Addr) (c q : Nat), v = .int .i64 (q : Int) ∧ m ≤ q ∧ q < p ∧ els.length ≤ 2 ∧ els.length ≤ c ∧ Hid (g kd (els.map (·.1)) q) ∧ Hid (Own w0 X S (B :: ⟨n, 83, [.int .i64 (kd : Int), v1, .slice A els.length c, v3, v4, v5, v6, v7, v8, v9, v10, v11]⟩ :: bs) [⟨45, 8, .slice A els.length c, els.length, flatE els⟩] (Cold.els els :: F) W)
end
set_option maxRecDepth 100000 in
set_option maxHeartbeats 3200000 in
theorem ritem_any (p : RPar) (b c : Nat) (ts : List TokF) (H_block : ∀ k, k < ts.length → RC 53 #[.agg #[.slice (some ⟨b, 0, none⟩) ts.length c], .int .i64 (k : Int), .int .i64 0] (p.block k) VG b c ts (k + 1)) (H_expr : ∀ k, k < ts.length → RC 51 #[.agg #[.slice (some ⟨b, 0, none⟩) ts.length c], .int .i64 (k : Int), .int .i64 0] (p.expr k) VG b c ts (k + 1)) (k : Nat) (hk : k < ts.length) (fe : List ElF) (re : List ElR) (A0 B0 : Option Addr) (c1 c2 : Nat) (hc1 : fe.length ≤ c1) (hc2 : re.length ≤ c2) (hl1 : fe.length ≤ 100000) (hl2 : re.length ≤ 100000) (Fp : Nat → Prop) (w : World) (h : RS b c ts w.heap.size w) (hF : ∀ b, Fp b → b < w.heap.size) (hT : TreeAt w Fp A0 B0 fe re) :
    Calls Try.prog 31 #[.agg #[.slice (some ⟨b, 0, none⟩) ts.length c], .agg #[.slice A0 fe.length c1, .slice B0 re.length c2], .int .i64 (k : Int)] w (RTree ts k w Fp (ritem ts p ⟨fe.map (·.1), re.map (·.1)⟩ k)) := by
  obtain ⟨R, hR⟩ : ∃ R, ritem ts p ⟨fe.map (·.1), re.map (·.1)⟩ k = R := ⟨_, rfl⟩
  rw [hR]
  have HF := Lib.hid hR
  have HRS := Lib.hid h
  have HO := h.ownN
  have hlen := h.ok.len
  have hkI : (k : Int) < (ts.length : Int) := by omega
  have C_block := Lib.hid H_block
  have C_expr := Lib.hid H_expr
  have HX := Lib.hid hT
  have HFp := Lib.hid hF
  have HRD := Lib.hid (reads_row hT.rr (len_flatR re) hF (by decide))
  clear h hR H_block H_expr hT hF
  unfold ritem at HF
  cases hfn : ris ts k [102, 117, 110, 99, 116, 105, 111, 110]
  rotate_left
  · --{
    have hk2 := ris_lt HRS.out.ok hk hfn
    simp only [hfn, ↓reduceIte] at HF
    go_enter Try.func31, Try.ntmps31
    (repeat' (first | ((with_reducible refine zG ?_); first | refine oWx ?_ | (refine oWs ?_; clear HO; intro _ HO) | (refine oWj ?_; clear HO; intro _ HO HB)) | ((go_big_may; first | (go_at_call 32; first | (refine arm_isK [102, 117, 110, 99, 116, 105, 111, 110] (by decide) (by omega) HO rfl rfl (z := true) ?_ ?_; (assumption); (clear HO; intro _ hz HO; (try simp only [hz, ↓reduceIte, bZ] at HF))) | (refine arm_isK [102, 117, 110, 99, 116, 105, 111, 110] (by decide) (by omega) HO rfl rfl (z := false) ?_ ?_; (assumption); (clear HO; intro _ hz HO; (try simp only [hz, ↓reduceIte, bZ] at HF))) | (refine arm_is [102, 117, 110, 99, 116, 105, 111, 110] (by decide) (by omega) HO rfl rfl ?_; clear HO; intro _ z hz hlt HO; cases z <;> (try simp only [hz, ↓reduceIte, bZ] at HF) <;> (first | (replace hlt := hlt rfl) | clear hlt))) | (go_at_call 50; refine (rfunction_any p b c ts C_block.out k hk2 fe re A0 B0 c1 c2 hc1 hc2 hl1 Fp _ HO.out.st.more (fun b hb => Nat.lt_of_lt_of_le (HFp.out b hb) HO.out.kept.size) (HX.out.st (fun b hb => ⟨hb, HO.out.kept.block b (HFp.out b hb) List.not_mem_nil⟩))).mono ?_; rintro e W9 ⟨q9, hp9⟩; replace HO := own_eqs HO (Nat.le_refl _) q9; have HK9 := Lib.hid HO.out.kept; rw [HF.out] at hp9; cases R; (obtain ⟨h1, h2, fe9, re9, A9, c9, B9, e9, ht9, rfl, h3, h4, hT9⟩ := hp9; replace hT9 := Lib.hid hT9; have HE := Lib.hid (rfl : True = True)); rotate_left; (obtain ⟨h1, rfl⟩ := hp9); rotate_left)) <;> (try dsimp only)) | go_values | go_skip | go_guarded | go_step | go_upon | (go_ite <;> go_prune <;> (try go_simp))))
    · refine oBc HO (t := 6) (ty := 59) rfl rfl rfl ?_
      exact rt_pass HO mM HK9 hT9 HFp (Lib.hid rfl) ht9 (by omega) h2 h3 h4
    · refine oBc HO (t := 6) (ty := 59) rfl rfl rfl ?_
      exact rt_err HO h1 (Lib.hid rfl)
  simp only [hfn, Bool.false_eq_true, ↓reduceIte] at HF
  go_enter Try.func31, Try.ntmps31
  (repeat' (first | ((with_reducible refine zG ?_); first | refine oWx ?_ | (refine oWs ?_; clear HO; intro _ HO) | (refine oWj ?_; clear HO; intro _ HO HB)) | ((with_reducible refine to_load ?_); (first | first | refine oR6 HO rfl rfl rfl (by omega) ?_ | refine oR1 HO rfl rfl rfl rfl (by omega) ?_ | refine oR0 HO rfl rfl rfl (by omega) ?_); (try simp only [Act.put, pS])) | ((go_big_may; first | (go_at_call 32; first | (refine arm_isK [102, 117, 110, 99, 116, 105, 111, 110] (by decide) (by omega) HO rfl rfl (z := true) ?_ ?_; (assumption); (clear HO; intro _ hz HO; (try simp only [hz, ↓reduceIte, bZ] at HF))) | (refine arm_isK [102, 117, 110, 99, 116, 105, 111, 110] (by decide) (by omega) HO rfl rfl (z := false) ?_ ?_; (assumption); (clear HO; intro _ hz HO; (try simp only [hz, ↓reduceIte, bZ] at HF))) | (refine arm_is [102, 117, 110, 99, 116, 105, 111, 110] (by decide) (by omega) HO rfl rfl ?_; clear HO; intro _ z hz hlt HO; cases z <;> (try simp only [hz, ↓reduceIte, bZ] at HF) <;> (first | (replace hlt := hlt rfl) | clear hlt))) | fail) <;> (try dsimp only)) | go_values | go_skip | go_guarded | go_step | go_upon | (go_ite <;> go_prune <;> (try go_simp))))
  rw [xc40] at HO
  replace HO := ownK (x := NodeT.mk 40 0 [] 0 0 []) HO rfl mM
  have h40 : (NodeT.mk 40 0 [] 0 0 []).l.length ≤ 0 := Nat.le_refl 0
  generalize h40e : NodeT.mk 40 0 [] 0 0 [] = x40 at HO h40
  replace h40e := Lib.hid h40e
  have HO0 := HO
  go_loopw [9, 10] (fun vs vi W => LoopW HO0 (kI ts k) vs vi W) (fun _ vi _ => 4 - (intOf vi).toNat)
  case atStart => exact ⟨0, rfl, rfl, by omega, HO⟩
  case round =>
    clear HO
    obtain ⟨i, rfl, rfl, hi, HO⟩ := hrel
    have hst := kI_step ts k
    rcases (by omega : i = 0 ∨ i = 1 ∨ i = 2 ∨ i = 3 ∨ i = 4) with rfl | rfl | rfl | rfl | rfl
    · --{
      have e := hst.1
      clear hst
      generalize kI ts k 0 = g0 at e HO ⊢
      (repeat' (first | ((with_reducible refine zG ?_); first | refine oWx ?_ | (refine oWs ?_; clear HO; intro _ HO) | (refine oWj ?_; clear HO; intro _ HO HB)) | go_values | go_skip | go_guarded | go_step | go_upon | (go_ite <;> go_prune <;> (try go_simp))))
      refine eBe HO [] [1, 2, 3, 0, 4, 5] [] ?_
      clear HO
      intro _ HO
      (repeat' (first | ((with_reducible refine zG ?_); first | (refine oWf ?_; intro K hK) | refine oWe ?_ | refine oWr ?_ | refine oWp ?_) | ((with_reducible refine zG ?_); first | (refine oWg ?_; intro K hK) | (refine oWk ?_; clear hK K)) | ((first | (go_at_call 32; refine arm_is [66, 69, 71, 73, 78] (by decide) (by omega) HO rfl rfl ?_; clear HO; intro _ z hz hlt HO; cases z <;> (try simp only [hz, ↓reduceIte, bZ] at HF) <;> (first | (replace hlt := hlt rfl) | clear hlt)) | (go_at_call 32; refine arm_is [69, 78, 68] (by decide) (by omega) HO rfl rfl ?_; clear HO; intro _ z hz hlt HO; cases z <;> (try simp only [hz, ↓reduceIte, bZ] at HF) <;> (first | (replace hlt := hlt rfl) | clear hlt)) | (go_at_call 32; refine arm_is [79, 80, 69, 78] (by decide) (by omega) HO rfl rfl ?_; clear HO; intro _ z hz hlt HO; cases z <;> (try simp only [hz, ↓reduceIte, bZ] at HF) <;> (first | (replace hlt := hlt rfl) | clear hlt)) | (go_at_call 32; refine arm_is [67, 76, 79, 83, 69] (by decide) (by omega) HO rfl rfl ?_; clear HO; intro _ z hz hlt HO; cases z <;> (try simp only [hz, ↓reduceIte, bZ] at HF) <;> (first | (replace hlt := hlt rfl) | clear hlt))) <;> (try dsimp only)) | ((with_reducible refine eOp ?_); go_simp)))
      all_goals
        (repeat' (first | ((with_reducible refine zG ?_); first | refine oWx ?_ | (refine oWs ?_; clear HO; intro _ HO) | (refine oWj ?_; clear HO; intro _ HO HB)) | go_values | go_skip | go_guarded | go_step | go_upon | (go_ite <;> go_prune <;> (try go_simp))))
        rw [hz] at e
        simp only [↓reduceIte, Bool.false_eq_true] at e
        refine ⟨⟨1, rfl, by first | (rw [e]; rfl) | rw [e], by omega, by rw [e]; exact HO⟩, by decide⟩
    · --{
      have e := hst.2.1
      clear hst
      generalize kI ts k 1 = g0 at e HO ⊢
      (repeat' (first | ((with_reducible refine zG ?_); first | refine oWx ?_ | (refine oWs ?_; clear HO; intro _ HO) | (refine oWj ?_; clear HO; intro _ HO HB)) | go_values | go_skip | go_guarded | go_step | go_upon | (go_ite <;> go_prune <;> (try go_simp))))
      refine eBe HO [] [1, 2, 3, 0, 4, 5] [] ?_
      clear HO
      intro _ HO
      (repeat' (first | ((with_reducible refine zG ?_); first | (refine oWf ?_; intro K hK) | refine oWe ?_ | refine oWr ?_ | refine oWp ?_) | ((with_reducible refine zG ?_); first | (refine oWg ?_; intro K hK) | (refine oWk ?_; clear hK K)) | ((first | (go_at_call 32; refine arm_is [66, 69, 71, 73, 78] (by decide) (by omega) HO rfl rfl ?_; clear HO; intro _ z hz hlt HO; cases z <;> (try simp only [hz, ↓reduceIte, bZ] at HF) <;> (first | (replace hlt := hlt rfl) | clear hlt)) | (go_at_call 32; refine arm_is [69, 78, 68] (by decide) (by omega) HO rfl rfl ?_; clear HO; intro _ z hz hlt HO; cases z <;> (try simp only [hz, ↓reduceIte, bZ] at HF) <;> (first | (replace hlt := hlt rfl) | clear hlt)) | (go_at_call 32; refine arm_is [79, 80, 69, 78] (by decide) (by omega) HO rfl rfl ?_; clear HO; intro _ z hz hlt HO; cases z <;> (try simp only [hz, ↓reduceIte, bZ] at HF) <;> (first | (replace hlt := hlt rfl) | clear hlt)) | (go_at_call 32; refine arm_is [67, 76, 79, 83, 69] (by decide) (by omega) HO rfl rfl ?_; clear HO; intro _ z hz hlt HO; cases z <;> (try simp only [hz, ↓reduceIte, bZ] at HF) <;> (first | (replace hlt := hlt rfl) | clear hlt))) <;> (try dsimp only)) | ((with_reducible refine eOp ?_); go_simp)))
      all_goals
        (repeat' (first | ((with_reducible refine zG ?_); first | refine oWx ?_ | (refine oWs ?_; clear HO; intro _ HO) | (refine oWj ?_; clear HO; intro _ HO HB)) | go_values | go_skip | go_guarded | go_step | go_upon | (go_ite <;> go_prune <;> (try go_simp))))
        rw [hz] at e
        simp only [↓reduceIte, Bool.false_eq_true] at e
        refine ⟨⟨2, rfl, by first | (rw [e]; rfl) | rw [e], by omega, by rw [e]; exact HO⟩, by decide⟩
    · --{
      have e := hst.2.2.1
      clear hst
      generalize kI ts k 2 = g0 at e HO ⊢
      (repeat' (first | ((with_reducible refine zG ?_); first | refine oWx ?_ | (refine oWs ?_; clear HO; intro _ HO) | (refine oWj ?_; clear HO; intro _ HO HB)) | go_values | go_skip | go_guarded | go_step | go_upon | (go_ite <;> go_prune <;> (try go_simp))))
      refine eBe HO [] [1, 2, 3, 0, 4, 5] [] ?_
      clear HO
      intro _ HO
      (repeat' (first | ((with_reducible refine zG ?_); first | (refine oWf ?_; intro K hK) | refine oWe ?_ | refine oWr ?_ | refine oWp ?_) | ((with_reducible refine zG ?_); first | (refine oWg ?_; intro K hK) | (refine oWk ?_; clear hK K)) | ((first | (go_at_call 32; refine arm_is [66, 69, 71, 73, 78] (by decide) (by omega) HO rfl rfl ?_; clear HO; intro _ z hz hlt HO; cases z <;> (try simp only [hz, ↓reduceIte, bZ] at HF) <;> (first | (replace hlt := hlt rfl) | clear hlt)) | (go_at_call 32; refine arm_is [69, 78, 68] (by decide) (by omega) HO rfl rfl ?_; clear HO; intro _ z hz hlt HO; cases z <;> (try simp only [hz, ↓reduceIte, bZ] at HF) <;> (first | (replace hlt := hlt rfl) | clear hlt)) | (go_at_call 32; refine arm_is [79, 80, 69, 78] (by decide) (by omega) HO rfl rfl ?_; clear HO; intro _ z hz hlt HO; cases z <;> (try simp only [hz, ↓reduceIte, bZ] at HF) <;> (first | (replace hlt := hlt rfl) | clear hlt)) | (go_at_call 32; refine arm_is [67, 76, 79, 83, 69] (by decide) (by omega) HO rfl rfl ?_; clear HO; intro _ z hz hlt HO; cases z <;> (try simp only [hz, ↓reduceIte, bZ] at HF) <;> (first | (replace hlt := hlt rfl) | clear hlt))) <;> (try dsimp only)) | ((with_reducible refine eOp ?_); go_simp)))
      all_goals
        (repeat' (first | ((with_reducible refine zG ?_); first | refine oWx ?_ | (refine oWs ?_; clear HO; intro _ HO) | (refine oWj ?_; clear HO; intro _ HO HB)) | go_values | go_skip | go_guarded | go_step | go_upon | (go_ite <;> go_prune <;> (try go_simp))))
        rw [hz] at e
        simp only [↓reduceIte, Bool.false_eq_true] at e
        refine ⟨⟨3, rfl, by first | (rw [e]; rfl) | rw [e], by omega, by rw [e]; exact HO⟩, by decide⟩
    · --{
      have e := hst.2.2.2
      clear hst
      generalize kI ts k 3 = g0 at e HO ⊢
      (repeat' (first | ((with_reducible refine zG ?_); first | refine oWx ?_ | (refine oWs ?_; clear HO; intro _ HO) | (refine oWj ?_; clear HO; intro _ HO HB)) | go_values | go_skip | go_guarded | go_step | go_upon | (go_ite <;> go_prune <;> (try go_simp))))
      refine eBe HO [] [1, 2, 3, 0, 4, 5] [] ?_
      clear HO
      intro _ HO
      (repeat' (first | ((with_reducible refine zG ?_); first | (refine oWf ?_; intro K hK) | refine oWe ?_ | refine oWr ?_ | refine oWp ?_) | ((with_reducible refine zG ?_); first | (refine oWg ?_; intro K hK) | (refine oWk ?_; clear hK K)) | ((first | (go_at_call 32; refine arm_is [66, 69, 71, 73, 78] (by decide) (by omega) HO rfl rfl ?_; clear HO; intro _ z hz hlt HO; cases z <;> (try simp only [hz, ↓reduceIte, bZ] at HF) <;> (first | (replace hlt := hlt rfl) | clear hlt)) | (go_at_call 32; refine arm_is [69, 78, 68] (by decide) (by omega) HO rfl rfl ?_; clear HO; intro _ z hz hlt HO; cases z <;> (try simp only [hz, ↓reduceIte, bZ] at HF) <;> (first | (replace hlt := hlt rfl) | clear hlt)) | (go_at_call 32; refine arm_is [79, 80, 69, 78] (by decide) (by omega) HO rfl rfl ?_; clear HO; intro _ z hz hlt HO; cases z <;> (try simp only [hz, ↓reduceIte, bZ] at HF) <;> (first | (replace hlt := hlt rfl) | clear hlt)) | (go_at_call 32; refine arm_is [67, 76, 79, 83, 69] (by decide) (by omega) HO rfl rfl ?_; clear HO; intro _ z hz hlt HO; cases z <;> (try simp only [hz, ↓reduceIte, bZ] at HF) <;> (first | (replace hlt := hlt rfl) | clear hlt))) <;> (try dsimp only)) | ((with_reducible refine eOp ?_); go_simp)))
      all_goals
        (repeat' (first | ((with_reducible refine zG ?_); first | refine oWx ?_ | (refine oWs ?_; clear HO; intro _ HO) | (refine oWj ?_; clear HO; intro _ HO HB)) | go_values | go_skip | go_guarded | go_step | go_upon | (go_ite <;> go_prune <;> (try go_simp))))
        rw [hz] at e
        simp only [↓reduceIte, Bool.false_eq_true] at e
        refine ⟨⟨4, rfl, by first | (rw [e]; rfl) | rw [e], by omega, by rw [e]; exact HO⟩, by decide⟩
    clear hst
    have hk4 : kI ts k 4 = rkind ts k := rfl
    rw [hk4] at HO ⊢
    have hlt5 := rkind_lt HRS.out.ok hk
    obtain ⟨kd0, hkd0⟩ : ∃ kd, rkind ts k = kd := ⟨_, rfl⟩
    rw [hkd0] at HF HO hlt5 ⊢
    obtain ⟨s, hs⟩ : ∃ s, (!(kd0 == 5)) = s := ⟨_, rfl⟩
    rw [hs] at HF hlt5 ⊢
    clear hk4 hkd0
    replace HO := Lib.hid ((HO.out.nilRow 45 8).elsNil)
    (repeat' (go_not_at_if 42; first | ((with_reducible refine zG ?_); first | refine oWx ?_ | (refine oWs ?_; clear HO; intro _ HO) | (refine oWj ?_; clear HO; intro _ HO HB)) | go_values | go_skip | go_guarded | go_step | go_upon | (go_ite <;> go_prune <;> (try go_simp))))
    have HO1 := HO
    go_cut [2, 11] from 43 to 96 (fun v2 _ W => CutR HO1 (fun kd l q => (if s = true then rbody ts p k kd l ⟨fe.map (·.1), re.map (·.1)⟩ q else rrule ts p k kd l ⟨fe.map (·.1), re.map (·.1)⟩ q) = R) k ts.length v2 W)
    case first =>
      cases s
      rotate_left
      · have hlt := hlt5 rfl
        (repeat' (first | ((with_reducible refine zG ?_); first | refine oWx ?_ | (refine oWs ?_; clear HO; intro _ HO) | (refine oWj ?_; clear HO; intro _ HO HB)) | go_values | go_skip | go_guarded | go_step | go_upon | (go_ite <;> go_prune <;> (try go_simp))))
        go_meet
        have HG : Hid ((if true = true then rbody ts p k kd0 (([] : List El).map (·.1)) ⟨fe.map (·.1), re.map (·.1)⟩ (k + 1) else rrule ts p k kd0 (([] : List El).map (·.1)) ⟨fe.map (·.1), re.map (·.1)⟩ (k + 1)) = R) := Lib.hid (by rw [if_pos rfl]; exact HF.out)
        exact ⟨_, _, _, _, _, rfl, by omega, by omega, by first | omega | (simp; done) | (simp at *; omega), by first | exact Nat.le_refl _ | assumption, HG, Lib.hid (HO.out.sub (by first | exact List.Sublist.refl _ | exact List.sublist_cons_self _ _) (List.Sublist.refl _) (fun c hc => by simp only [List.mem_cons, List.not_mem_nil, or_false] at hc; rcases hc with rfl | rfl | rfl | rfl <;> (repeat (first | exact mH | apply mT))))⟩
      · have hk5 : kd0 = 5 := by simpa using hs
        subst hk5
        clear hs hlt5
        simp only [Bool.false_eq_true, ↓reduceIte] at HF
        (repeat' (go_not_at_region 23; first | ((with_reducible refine zG ?_); first | refine oWx ?_ | (refine oWs ?_; clear HO; intro _ HO) | (refine oWj ?_; clear HO; intro _ HO HB)) | ((with_reducible refine zG ?_); refine oWn ?_; clear HO; intro _ HO) | ((with_reducible refine to_append ?_); refine wo_appN (els := []) HO mM rfl rfl rfl mM (by first | omega | simp) ?_; clear HO; intro eN _ _ _ hmap hlen hcap HO; replace hlen := Lib.hid hlen; (try simp only [Act.put, pS])) | ((with_reducible refine to_append ?_); refine wo_appN HO mM rfl rfl rfl mM (by first | omega | simp) ?_; clear HO; intro eN _ _ _ hmap hlen hcap HO; replace hlen := Lib.hid hlen; (try simp only [Act.put, pS])) | ((go_big_may; first | (go_at_call 32; refine arm_is [123] (by decide) (by omega) HO rfl rfl ?_; clear HO; intro _ z hz hlt HO; cases z <;> (try simp only [hz, ↓reduceIte, bZ] at HF) <;> (first | (replace hlt := hlt rfl) | clear hlt)) | (go_at_call 51; (first | refine arm_rn rfl ?_ (C_expr.out _ ?_) HO HF ?_ ?_ | refine arm_rn rfl ?_ (C_expr.out _ ?_) HO (gr_eta HF) ?_ ?_); (first | with_reducible rfl | rfl | (rw [IntWalk.i64_in _ (by omega)]; rfl)); (omega); (clear HO HF; intro _ _ _ _ _ HO _ hle hlt HF); rotate_left; (clear HO HF; intro _ _ _ HO hq HE); rotate_left) | (go_at_call 32; refine arm_is [44] (by decide) (by omega) HO rfl rfl ?_; clear HO; intro _ z hz hlt HO; cases z <;> (try simp only [hz, ↓reduceIte, bZ] at HF) <;> (first | (replace hlt := hlt rfl) | clear hlt))) <;> (try dsimp only)) | go_values | go_skip | go_guarded | go_step | go_upon | (go_ite <;> go_prune <;> (try go_simp))))
        all_goals first
          | (refine oBc HO (t := 6) (ty := 59) rfl rfl rfl ?_; exact rt_err HO (by assumption) HE)
          | skip
        · go_meet
          have hl1 := hlen.out
          simp only [List.length_nil] at hl1
          refine ⟨_, _, _, _, _, rfl, ?_, ?_, ?_, ?_, ?_, Lib.hid (HO.out.sub (by first | exact List.Sublist.refl _ | exact List.sublist_cons_self _ _) (List.Sublist.refl _) (fun c hc => by simp only [List.mem_cons, List.not_mem_nil, or_false] at hc; rcases hc with rfl | rfl | rfl | rfl <;> (repeat (first | exact mH | apply mT))))⟩
          · omega
          · omega
          · omega
          · assumption
          · exact Lib.hid (by dsimp only; rw [if_neg (by decide), hmap]; exact HF.out)
        · have hm1 := hmap
          have hl1 := hlen
          clear hmap hlen
          have hle1 : eN.length ≤ 1 := by have := hl1.out; simp only [List.length_nil] at this; omega
          refine eBe HO [6] [2, 3, 0, 1, 4, 5] [6] ?_
          clear HO
          intro _ HO
          (repeat' (first | ((with_reducible refine zG ?_); first | (refine oWf ?_; intro K hK) | refine oWe ?_ | refine oWr ?_ | refine oWp ?_) | ((with_reducible refine zG ?_); first | (refine oWg ?_; intro K hK) | (refine oWk ?_; clear hK K) | (refine oWs ?_; clear HO; intro _ HO)) | ((first | (go_at_call 52; refine arm_lines (by omega) HO rfl rfl ?_; clear HO; intro _ q hq hle hlt HO; (try simp only [hq] at HF)) | (go_at_call 51; (first | refine arm_rn rfl ?_ (C_expr.out _ ?_) HO HF ?_ ?_ | refine arm_rn rfl ?_ (C_expr.out _ ?_) HO (gr_eta HF) ?_ ?_); (first | with_reducible rfl | rfl | (rw [IntWalk.i64_in _ (by omega)]; rfl)); (omega); (clear HO HF; intro _ _ _ _ _ HO _ hle hlt HF); rotate_left; (clear HO HF; intro _ _ _ HO hq HE); rotate_left)) <;> (try dsimp only)) | ((with_reducible refine eOp ?_); go_simp)))
          all_goals
            (repeat' (first | ((with_reducible refine zG ?_); first | refine oWx ?_ | (refine oWs ?_; clear HO; intro _ HO) | (refine oWj ?_; clear HO; intro _ HO HB)) | ((with_reducible refine zG ?_); refine oWn ?_; clear HO; intro _ HO) | ((with_reducible refine to_append ?_); refine wo_appN HO mM rfl rfl rfl mM (by first | omega | simp) ?_; clear HO; intro eN _ _ _ hmap hlen hcap HO; replace hlen := Lib.hid hlen; (try simp only [Act.put, pS])) | go_values | go_skip | go_guarded | go_step | go_upon | (go_ite <;> go_prune <;> (try go_simp))))
          all_goals first
            | (refine oBc HO (t := 6) (ty := 59) rfl rfl rfl ?_; exact rt_err HO (by assumption) HE)
            | skip
          go_meet
          have hl2 := hlen.out
          refine ⟨_, _, _, _, _, rfl, ?_, ?_, ?_, ?_, ?_, Lib.hid (HO.out.sub (by first | exact List.Sublist.refl _ | exact List.sublist_cons_self _ _) (List.Sublist.refl _) (fun c hc => by simp only [List.mem_cons, List.not_mem_nil, or_false] at hc; rcases hc with rfl | rfl | rfl | rfl <;> (repeat (first | exact mH | apply mT))))⟩
          · omega
          · omega
          · omega
          · assumption
          · exact Lib.hid (by dsimp only; rw [if_neg (by decide), hmap, hm1]; exact HF.out)
        · go_meet
          have HG : Hid ((if false = true then rbody ts p k 5 (([] : List El).map (·.1)) ⟨fe.map (·.1), re.map (·.1)⟩ k else rrule ts p k 5 (([] : List El).map (·.1)) ⟨fe.map (·.1), re.map (·.1)⟩ k) = R) := Lib.hid (by rw [if_neg (by decide)]; unfold rrule; rw [if_pos (by assumption)]; exact HF.out)
          exact ⟨_, _, _, _, _, rfl, by omega, by omega, by first | omega | (simp; done) | (simp at *; omega), by first | exact Nat.le_refl _ | assumption, HG, Lib.hid (HO.out.sub (by first | exact List.Sublist.refl _ | exact List.sublist_cons_self _ _) (List.Sublist.refl _) (fun c hc => by simp only [List.mem_cons, List.not_mem_nil, or_false] at hc; rcases hc with rfl | rfl | rfl | rfl <;> (repeat (first | exact mH | apply mT))))⟩
    case rest =>
      clear HO HF
      obtain ⟨kd, els, A9, c9, q, rfl, hq1, hq2, hl9, hc9, HF, HO⟩ := hcut
      clear HO1
      have hqI : (q : Int) < (ts.length : Int) := by omega
      dsimp only at HF
      obtain ⟨A8, c8, e8, hc8, HO8⟩ := HO.out.freeze mH
      injection e8 with e81 e8n e82
      clear e8n
      subst e81 e82
      clear HO
      have HO := Lib.hid HO8
      clear HO8
      have hlm : els.length = (els.map (·.1)).length := (List.length_map _).symm
      rw [hlm] at HO hc9
      generalize els.map (·.1) = l9 at HO HF hc9
      clear hlm hc8 hl9
      cases s
      · simp only [Bool.false_eq_true, ↓reduceIte] at HF
        unfold rrule at HF
        cases hb : ris ts q [123]
        · --{
          simp only [hb, Bool.false_eq_true, ↓reduceIte] at HF
          rw [h40e.out] at HF
          (repeat' (go_not_at_region 35; first | ((with_reducible refine zG ?_); first | refine oWx ?_ | (refine oWs ?_; clear HO; intro _ HO) | (refine oWj ?_; clear HO; intro _ HO HB)) | ((go_big_may; first | (go_at_call 32; first | (refine arm_isK [123] (by decide) (by omega) HO rfl rfl (z := true) ?_ ?_; (assumption); (clear HO; intro _ hz HO; (try simp only [hz, ↓reduceIte, bZ] at HF))) | (refine arm_isK [123] (by decide) (by omega) HO rfl rfl (z := false) ?_ ?_; (assumption); (clear HO; intro _ hz HO; (try simp only [hz, ↓reduceIte, bZ] at HF))) | (refine arm_is [123] (by decide) (by omega) HO rfl rfl ?_; clear HO; intro _ z hz hlt HO; cases z <;> (try simp only [hz, ↓reduceIte, bZ] at HF) <;> (first | (replace hlt := hlt rfl) | clear hlt))) | fail) <;> (try dsimp only)) | go_values | go_skip | go_guarded | go_step | go_upon | (go_ite <;> go_prune <;> (try go_simp))))
          refine eBe HO [8] [1, 2, 4, 9001, 5, 0, 4, 0, 3, 6, 7, 9001, 5, 3, 3, 3, 6, 7, 5, 6, 7] [8] ?_
          clear HO
          intro _ HO
          (repeat' (first | ((with_reducible refine eGo ?_); refine eFx rfl rfl (by kernel_rfl) (by rfl) (by rfl) (fun K hK => ?_) (fun K hK => ?_)) | ((with_reducible refine zG ?_); first | (refine oWf ?_; intro K hK) | refine oWe ?_ | refine oWr ?_ | refine oWp ?_) | ((with_reducible refine zG ?_); first | (refine oWg ?_; intro K hK) | (refine oWk ?_; clear hK K) | (refine oWs ?_; clear HO; intro _ HO)) | ((with_reducible refine to_append ?_); first | (refine wo_appK HO rfl rfl rfl (rd_kept HO HRD) Try.underlying25 info_rule rfl (by decide) (one_flatR re) (by omega) (by decide) ?_; clear HO; intro _ _ _ hcap HO; (try simp only [Nat.zero_add, List.nil_append] at HO hcap ⊢); (try simp only [Act.put, pS])) | (refine wo_appC HO rfl rfl rfl mM rfl Try.underlying25 info_rule rfl (by decide) (by simp [Value.oneCell']) (by omega) (by decide) ?_; clear HO; intro _ _ _ hcap HO; (try simp only [Act.put, pS]))) | ((with_reducible refine ab_row HO 83 12 0 ?_ ?_ ?_); (exact rfl); (decide); clear HO; intro _ HO) | ((with_reducible refine ab_cold HO 83 ?_); clear HO; intro _ HO)| ((with_reducible refine zG ?_); refine oWj ?_; clear HO; intro _ HO HB) | ((with_reducible refine eOp ?_); go_simp)))
          all_goals
            (repeat' (first | ((with_reducible refine zG ?_); first | refine oWx ?_ | (refine oWs ?_; clear HO; intro _ HO) | (refine oWj ?_; clear HO; intro _ HO HB)) | go_values | go_skip | go_guarded | go_step | go_upon | (go_ite <;> go_prune <;> (try go_simp))))
            refine oBc HO (t := 6) (ty := 59) rfl rfl rfl ?_
            exact rt_rule (g := ⟨kd, (tk ts k).at', l9, x40, true⟩) HO HF (by omega) (by omega) HFp HX mM mM hc9 h40 (by omega) hc1
        · --{
          simp only [hb, ↓reduceIte] at HF
          unfold rbody at HF
          (repeat' (go_not_at_region 35; first | ((with_reducible refine zG ?_); first | refine oWx ?_ | (refine oWs ?_; clear HO; intro _ HO) | (refine oWj ?_; clear HO; intro _ HO HB)) | ((with_reducible refine to_store ?_); first | (refine oT4 HO rfl rfl rfl rfl ?_; clear HO; intro _ HO)) | ((go_big_may; first | (go_at_call 32; first | (refine arm_isK [123] (by decide) (by omega) HO rfl rfl (z := true) ?_ ?_; (assumption); (clear HO; intro _ hz HO; (try simp only [hz, ↓reduceIte, bZ] at HF))) | (refine arm_isK [123] (by decide) (by omega) HO rfl rfl (z := false) ?_ ?_; (assumption); (clear HO; intro _ hz HO; (try simp only [hz, ↓reduceIte, bZ] at HF))) | (refine arm_is [123] (by decide) (by omega) HO rfl rfl ?_; clear HO; intro _ z hz hlt HO; cases z <;> (try simp only [hz, ↓reduceIte, bZ] at HF) <;> (first | (replace hlt := hlt rfl) | clear hlt))) | (go_at_call 53; (first | refine arm_rn rfl ?_ (C_block.out _ ?_) HO HF ?_ ?_ | refine arm_rn rfl ?_ (C_block.out _ ?_) HO (gr_eta HF) ?_ ?_); (first | with_reducible rfl | rfl | (rw [IntWalk.i64_in _ (by omega)]; rfl)); (omega); (clear HO HF; intro _ _ _ _ _ HO _ hle hlt HF); rotate_left; (clear HO HF; intro _ _ _ HO hq HE); rotate_left) | fail) <;> (try dsimp only)) | go_values | go_skip | go_guarded | go_step | go_upon | (go_ite <;> go_prune <;> (try go_simp))))
          rotate_left
          · (refine oBc HO (t := 6) (ty := 59) rfl rfl rfl ?_; exact rt_err HO (by assumption) HE)
          refine eBe HO [8] [1, 2, 4, 9001, 5, 0, 4, 0, 3, 6, 7, 9001, 5, 3, 3, 3, 6, 7, 5, 6, 7] [8] ?_
          clear HO
          intro _ HO
          (repeat' (first | ((with_reducible refine eGo ?_); refine eFx rfl rfl (by kernel_rfl) (by rfl) (by rfl) (fun K hK => ?_) (fun K hK => ?_)) | ((with_reducible refine zG ?_); first | (refine oWf ?_; intro K hK) | refine oWe ?_ | refine oWr ?_ | refine oWp ?_) | ((with_reducible refine zG ?_); first | (refine oWg ?_; intro K hK) | (refine oWk ?_; clear hK K) | (refine oWs ?_; clear HO; intro _ HO)) | ((with_reducible refine to_append ?_); first | (refine wo_appK HO rfl rfl rfl (rd_kept HO HRD) Try.underlying25 info_rule rfl (by decide) (one_flatR re) (by omega) (by decide) ?_; clear HO; intro _ _ _ hcap HO; (try simp only [Nat.zero_add, List.nil_append] at HO hcap ⊢); (try simp only [Act.put, pS])) | (refine wo_appC HO rfl rfl rfl mM rfl Try.underlying25 info_rule rfl (by decide) (by simp [Value.oneCell']) (by omega) (by decide) ?_; clear HO; intro _ _ _ hcap HO; (try simp only [Act.put, pS]))) | ((with_reducible refine ab_row HO 83 12 0 ?_ ?_ ?_); (exact rfl); (decide); clear HO; intro _ HO) | ((with_reducible refine ab_cold HO 83 ?_); clear HO; intro _ HO)| ((with_reducible refine zG ?_); refine oWj ?_; clear HO; intro _ HO HB) | ((with_reducible refine eOp ?_); go_simp)))
          all_goals
            (repeat' (first | ((with_reducible refine zG ?_); first | refine oWx ?_ | (refine oWs ?_; clear HO; intro _ HO) | (refine oWj ?_; clear HO; intro _ HO HB)) | go_values | go_skip | go_guarded | go_step | go_upon | (go_ite <;> go_prune <;> (try go_simp))))
            refine oBc HO (t := 6) (ty := 59) rfl rfl rfl ?_
            exact rt_rule (g := ⟨kd, (tk ts k).at', l9, _, false⟩) HO HF (by omega) (by omega) HFp HX mM mM hc9 (by assumption) (by omega) hc1
      · --{
        simp only [↓reduceIte] at HF
        unfold rbody at HF
        (repeat' (go_not_at_region 35; first | ((with_reducible refine zG ?_); first | refine oWx ?_ | (refine oWs ?_; clear HO; intro _ HO) | (refine oWj ?_; clear HO; intro _ HO HB)) | ((with_reducible refine to_store ?_); first | (refine oT4 HO rfl rfl rfl rfl ?_; clear HO; intro _ HO)) | ((go_big_may; first | (go_at_call 53; (first | refine arm_rn rfl ?_ (C_block.out _ ?_) HO HF ?_ ?_ | refine arm_rn rfl ?_ (C_block.out _ ?_) HO (gr_eta HF) ?_ ?_); (first | with_reducible rfl | rfl | (rw [IntWalk.i64_in _ (by omega)]; rfl)); (omega); (clear HO HF; intro _ _ _ _ _ HO _ hle hlt HF); rotate_left; (clear HO HF; intro _ _ _ HO hq HE); rotate_left) | fail) <;> (try dsimp only)) | go_values | go_skip | go_guarded | go_step | go_upon | (go_ite <;> go_prune <;> (try go_simp))))
        rotate_left
        · (refine oBc HO (t := 6) (ty := 59) rfl rfl rfl ?_; exact rt_err HO (by assumption) HE)
        refine eBe HO [8] [1, 2, 4, 9001, 5, 0, 4, 0, 3, 6, 7, 9001, 5, 3, 3, 3, 6, 7, 5, 6, 7] [8] ?_
        clear HO
        intro _ HO
        (repeat' (first | ((with_reducible refine eGo ?_); refine eFx rfl rfl (by kernel_rfl) (by rfl) (by rfl) (fun K hK => ?_) (fun K hK => ?_)) | ((with_reducible refine zG ?_); first | (refine oWf ?_; intro K hK) | refine oWe ?_ | refine oWr ?_ | refine oWp ?_) | ((with_reducible refine zG ?_); first | (refine oWg ?_; intro K hK) | (refine oWk ?_; clear hK K) | (refine oWs ?_; clear HO; intro _ HO)) | ((with_reducible refine to_append ?_); first | (refine wo_appK HO rfl rfl rfl (rd_kept HO HRD) Try.underlying25 info_rule rfl (by decide) (one_flatR re) (by omega) (by decide) ?_; clear HO; intro _ _ _ hcap HO; (try simp only [Nat.zero_add, List.nil_append] at HO hcap ⊢); (try simp only [Act.put, pS])) | (refine wo_appC HO rfl rfl rfl mM rfl Try.underlying25 info_rule rfl (by decide) (by simp [Value.oneCell']) (by omega) (by decide) ?_; clear HO; intro _ _ _ hcap HO; (try simp only [Act.put, pS]))) | ((with_reducible refine ab_row HO 83 12 0 ?_ ?_ ?_); (exact rfl); (decide); clear HO; intro _ HO) | ((with_reducible refine ab_cold HO 83 ?_); clear HO; intro _ HO)| ((with_reducible refine zG ?_); refine oWj ?_; clear HO; intro _ HO HB) | ((with_reducible refine eOp ?_); go_simp)))
        all_goals
          (repeat' (first | ((with_reducible refine zG ?_); first | refine oWx ?_ | (refine oWs ?_; clear HO; intro _ HO) | (refine oWj ?_; clear HO; intro _ HO HB)) | go_values | go_skip | go_guarded | go_step | go_upon | (go_ite <;> go_prune <;> (try go_simp))))
          refine oBc HO (t := 6) (ty := 59) rfl rfl rfl ?_
          exact rt_rule (g := ⟨kd, (tk ts k).at', l9, _, false⟩) HO HF (by omega) (by omega) HFp HX mM mM hc9 (by assumption) (by omega) hc1
end Go.Proofs.Ythipoccbeloceaa
