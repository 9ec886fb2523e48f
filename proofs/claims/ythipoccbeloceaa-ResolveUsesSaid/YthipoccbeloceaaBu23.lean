/- Several texts put together: RpJ. -/
import Derived.Test.YthipoccbeloceaaBu20
import Derived.Test.YthipoccbeloceaaBu19
set_option linter.unusedSimpArgs false
set_option linter.unusedVariables false
namespace Go.Proofs.Ythipoccbeloceaa
open Go.RowKit
theorem kids_els {w : World} {Fp : Nat → Prop} {n : Nat} (hF : ∀ b, Fp b → b < n) : ∀ (l : List NodeT) (b o j : Nat), KidsL w Fp l (some ⟨b, o, none⟩) j → ∃ els : List El, els.map (·.1) = l ∧ (∀ e ∈ els, e.1.l.length ≤ e.2.2 ∧ KidsL w Fp e.1.l e.2.1 0) ∧ ∀ i v, (flatE els)[i]? = some v → w.cell? ⟨b, o + (8 * j + i), none⟩ = some v
  | [], b, o, j, _ => ⟨[], rfl, by simp, by simp [flatE]⟩
  | n :: l, b, o, j, h => by
    rw [KidsL] at h
    obtain ⟨⟨b', o', A', c', e, hb, hr, hc, hk⟩, h2⟩ := h
    injection e with e
    injection e with e1 e2 _
    subst e1 e2
    obtain ⟨els, h3, h4, h5⟩ := kids_els hF l b o (j + 1) h2
    refine ⟨(n, A', c') :: els, by rw [List.map_cons, h3], fun x hx => ?_, fun i v hv => ?_⟩
    · rcases List.mem_cons.1 hx with rfl | hx
      · exact ⟨hc, by rw [← KidsN_eq]; exact hk⟩
      · exact h4 x hx
    · unfold flatE at hv
      rw [List.flatMap_cons] at hv
      rcases Nat.lt_or_ge i 8 with hi | hi
      · rw [List.getElem?_append_left (by simpa [nodeC] using hi)] at hv
        have := hr i v hv
        rw [show o + (8 * j + i) = o + 8 * j + i by omega]
        exact this
      · rw [List.getElem?_append_right (by simpa [nodeC] using hi)] at hv
        have := h5 (i - 8) v (by simpa [nodeC, flatE] using hv)
        rw [show o + (8 * j + i) = o + (8 * (j + 1) + (i - 8)) by omega]
        exact this
theorem kids_reads {w : World} {Fp : Nat → Prop} {n : Nat} (hF : ∀ b, Fp b → b < n) (l : List NodeT) (A : Option Addr) (h : KidsL w Fp l A 0) : ∃ els : List El, els.map (·.1) = l ∧ (∀ e ∈ els, e.1.l.length ≤ e.2.2 ∧ KidsL w Fp e.1.l e.2.1 0) ∧ Reads w n 8 A l.length (flatE els) := by
  cases l with
  | nil => exact ⟨[], rfl, by simp, by simp [flatE], fun h => absurd h (by simp)⟩
  | cons x l =>
    have h0 := h
    rw [KidsL] at h
    obtain ⟨⟨b, o, A', c', rfl, hb, hr, hc, hk⟩, h2⟩ := h
    obtain ⟨els, h3, h4, h5⟩ := kids_els hF (x :: l) b o 0 h0
    refine ⟨els, h3, h4, by rw [flatE_length, ← List.length_map (f := (·.1)), h3], fun _ => ⟨_, rfl, hF b hb, fun j v hv => ?_⟩⟩
    have := h5 j v hv
    rw [Addr.add_mid]
    rw [show o + (8 * 0 + j) = o + j by omega] at this
    exact this
section
variable {w0 w W : World} {X : List Nat} {S : World → Prop} {bs : List Bx} {rs : List Rw} {F : List Cold} {KK : Act → World → Prop} {Q : Exit → Act → World → Prop} {act : Act} {o : Oper}
theorem one_flatE (els : List El) : ∀ u ∈ flatE els, u.oneCell' = true := by
  intro u hu
  obtain ⟨e, _, hu⟩ := List.mem_flatMap.1 hu
  simp only [nodeC, List.mem_cons, List.not_mem_nil, or_false] at hu
  rcases hu with rfl | rfl | rfl | rfl | rfl | rfl | rfl | rfl <;> rfl
theorem wo_appY {v : Value} {n' : Nat} {xs : List Value} (HO : Hid (Own w0 X S bs (⟨45, 8, v, n', xs⟩ :: rs) F w)) {s x : Operand}
    (ho : o.op = .call { callee := .builtin .append, args := #[s, x], argTypes := #[43, 43] }) (hs : act.eval s = v) {A : Option Addr} {m c : Nat} {l : List NodeT} (hx : act.eval x = .slice A m c) (hk : Cold.kids A l ∈ F) (hml : m = l.length) (hm : n' + l.length ≤ 1000000)
    (h : ∀ (els : List El) A' c' W, els.map (·.1) = l → n' + l.length ≤ c' → Hid (Own w0 X S bs (⟨45, 8, .slice A' (n' + l.length) c', n' + l.length, xs ++ flatE els⟩ :: rs) (Cold.els els :: F) W) → KK (act.put o.dst (.slice A' (n' + l.length) c')) W) : WOp Try.prog o act w KK Q := by
  subst hml
  obtain ⟨els, h1, h2, h3⟩ := kids_reads (n := w.heap.size) (fun b hb => hb.2.1) l A (HO.out.cold _ hk)
  refine wo_appK (Lib.hid (HO.out.coldAll (Cold.els els) h2)) ho hs hx h3 Try.underlying43 info_node rfl (by decide) (one_flatE els) hm (by decide) fun A' c' W h4 h5 => h els A' c' W h1 h4 h5
theorem rd_kept {A : Option Addr} {m : Nat} {xs : List Value} {sz : Nat} (HO : Hid (Own w0 [] S bs rs F w)) (h : Hid (Reads w0 w0.heap.size sz A m xs)) : Reads w w.heap.size sz A m xs :=
  (h.out.keep fun p hp => World.cell?_of_block (HO.out.kept.block p.block hp List.not_mem_nil)).more HO.out.kept.size
theorem fin_into {Fp : Nat → Prop} {A : Option Addr} {m c : Nat} {els0 els1 : List El} (HO : Hid (Own w [] S bs (⟨45, 8, .slice A m c, m, flatE els0 ++ flatE els1⟩ :: rs) F W)) (hF : ∀ b, Fp b → b < w.heap.size) (h0 : ∀ e ∈ els0, e.1.l.length ≤ e.2.2 ∧ KidsL w Fp e.1.l e.2.1 0) (h1 : Cold.els els1 ∈ F) (hm : 0 < m) : KidsL W (fun b => Fp b ∨ (w.heap.size ≤ b ∧ b < W.heap.size)) ((els0 ++ els1).map (·.1)) A 0 := by
  have hr : W.ownsRow w.heap.size 45 8 (.slice A m c) m (flatE els0 ++ flatE els1) := HO.out.row _ List.mem_cons_self
  have hr0 := hr
  rcases hr0.2 with ⟨h, h2⟩ | ⟨g, cap, cur, e, hg, hh, hn, _⟩
  · exact absurd h2 (by omega)
  · injection e with e1 _ _
    subst e1
    refine kids_of_cells (F := fun b => Fp b ∨ (w.heap.size ≤ b ∧ b < W.heap.size)) (b := g) (.inr ⟨hg, (hr.lt g rfl).2⟩) (els0 ++ els1) [] (fun e he => ?_) (fun j u hj => ?_)
    · rcases List.mem_append.1 he with he | he
      · exact ⟨(h0 e he).1, KidsL.st (fun b hb => ⟨.inl hb, HO.out.kept.block b (hF b hb) List.not_mem_nil⟩) _ _ _ (h0 e he).2⟩
      · exact ⟨(HO.out.cold _ h1 e he).1, KidsL.st (fun b hb => ⟨.inr ⟨hb.1, hb.2.1⟩, rfl⟩) _ _ _ (HO.out.cold _ h1 e he).2⟩
    · rw [List.nil_append, flatE_app] at hj
      have := hr.cells (g := g) rfl j u hj
      rw [Addr.add_mid, Nat.zero_add] at this
      exact this
end
def RInto (ts : List TokF) (m : Nat) (w : World) (Fp : Nat → Prop) (r : GR NodeT) (e : Ending) (w' : World) : Prop :=
  Below w.heap.size w w' ∧ match r with
  | .ok x a => m ≤ a ∧ a < ts.length ∧ ∃ A e', e = .returned (.agg #[.int .i64 ((NodeT.k x : Nat) : Int), .int .i64 ((NodeT.at' x : Nat) : Int), .string (strN (NodeT.s x)), .bool (zn (NodeT.z x)), .int .u64 (zh (NodeT.z x)), .int .u64 (zl (NodeT.z x)), .int .i64 ((NodeT.i x : Nat) : Int), .slice A (NodeT.l x).length e', .int .i64 (a : Int), .int .i64 0]) ∧ x.l.length ≤ e' ∧ KidsL w' (fun b => Fp b ∨ (w.heap.size ≤ b ∧ b < w'.heap.size)) x.l A 0
  | .err a q => (q != 0) = true ∧ e = .returned (.agg #[.int .i64 0, .int .i64 0, .string { data := #[] }, .bool false, .int .u64 0, .int .u64 0, .int .i64 0, .slice none 0 0, .int .i64 (a : Int), .int .i64 q])
section
variable {b c m a : Nat} {ts : List TokF} {w W : World} {bs : List Bx} {rs : List Rw} {F : List Cold} {S : World → Prop} {Fp : Nat → Prop} {f : GR NodeT} {n x : NodeT} {A : Option Addr}
theorem ri_err {q : Int} (HO : Hid (Own w [] S bs rs F W)) (hq : (q != 0) = true) (HE : Hid (f = .err a q)) : RInto ts m w Fp f (.returned (.agg #[.int .i64 0, .int .i64 0, .string { data := #[] }, .bool false, .int .u64 0, .int .u64 0, .int .i64 0, .slice none 0 0, .int .i64 (a : Int), .int .i64 q])) W := by
  rw [HE.out]
  exact ⟨HO.out.kept.below, hq, rfl⟩
theorem ri_same {e : Nat} (HO : Hid (Own w [] S bs rs F W)) (HF : Hid (.ok n a = f)) (hm : m ≤ a) (ha : a < ts.length) (hF : Hid (∀ b, Fp b → b < w.heap.size)) (hn : Hid (KidsL w Fp n.l A 0)) (hc : n.l.length ≤ e) : RInto ts m w Fp f (.returned (.agg #[.int .i64 ((NodeT.k n : Nat) : Int), .int .i64 ((NodeT.at' n : Nat) : Int), .string (strN (NodeT.s n)), .bool (zn (NodeT.z n)), .int .u64 (zh (NodeT.z n)), .int .u64 (zl (NodeT.z n)), .int .i64 ((NodeT.i n : Nat) : Int), .slice A (NodeT.l n).length e, .int .i64 (a : Int), .int .i64 0])) W := by
  rw [← HF.out]
  exact ⟨HO.out.kept.below, hm, ha, A, e, rfl, hc, KidsL.st (fun b hb => ⟨.inl hb, HO.out.kept.block b (hF.out b hb) List.not_mem_nil⟩) _ _ _ hn.out⟩
theorem ri_app {e : Nat} {els0 els1 : List El} (HO : Hid (Own w [] S bs (⟨45, 8, .slice A (n.l.length + 1) e, n.l.length + 1, flatE els0 ++ flatE els1⟩ :: rs) F W)) (HF : Hid (.ok (.mk n.k n.at' n.s n.z (n.i + 1) (n.l ++ [x])) a = f)) (hm : m ≤ a) (ha : a < ts.length) (hF : Hid (∀ b, Fp b → b < w.heap.size)) (h0 : Hid (∀ e ∈ els0, e.1.l.length ≤ e.2.2 ∧ KidsL w Fp e.1.l e.2.1 0)) (hE : Hid (els0.map (·.1) = n.l)) (h1 : Cold.els els1 ∈ F) (hx : els1.map (·.1) = [x]) (hc : n.l.length + 1 ≤ e) :
    RInto ts m w Fp f (.returned (.agg #[.int .i64 (n.k : Int), .int .i64 (n.at' : Int), .string (strN n.s), .bool (zn n.z), .int .u64 (zh n.z), .int .u64 (zl n.z), .int .i64 ((n.i : Int) + 1), .slice A (n.l.length + 1) e, .int .i64 (a : Int), .int .i64 0])) W := by
  rw [← HF.out]
  have hk := fin_into HO hF.out h0.out h1 (Nat.succ_pos _)
  rw [List.map_append, hE.out, hx] at hk
  have hlen : (n.l ++ [x]).length = n.l.length + 1 := by simp
  refine ⟨HO.out.kept.below, hm, ha, A, e, ?_, ?_, hk⟩
  · show Ending.returned (.agg #[.int .i64 (n.k : Int), .int .i64 (n.at' : Int), .string (strN n.s), .bool (zn n.z), .int .u64 (zh n.z), .int .u64 (zl n.z), .int .i64 ((n.i : Int) + 1), .slice A (n.l.length + 1) e, .int .i64 (a : Int), .int .i64 0]) = Ending.returned (.agg #[.int .i64 (n.k : Int), .int .i64 (n.at' : Int), .string (strN n.s), .bool (zn n.z), .int .u64 (zh n.z), .int .u64 (zl n.z), .int .i64 ((n.i + 1 : Nat) : Int), .slice A (n.l ++ [x]).length e, .int .i64 (a : Int), .int .i64 0])
    rw [hlen]
    rfl
  · show (n.l ++ [x]).length ≤ e
    rw [hlen]
    exact hc
end
set_option maxRecDepth 100000 in
set_option maxHeartbeats 3200000 in
theorem rinto_any (p : RPar) (b c : Nat) (ts : List TokF) (d : Nat) (H_place : ∀ k, k < ts.length → RC 84 #[.agg #[.slice (some ⟨b, 0, none⟩) ts.length c], .int .i64 (k : Int), .int .i64 (d : Int)] (rplace ts p k) VG b c ts (k + 1)) (k : Nat) (hk : k < ts.length) (n : NodeT) (A : Option Addr) (c' : Nat) (Fp : Nat → Prop) (hc : n.l.length ≤ c') (hl : n.l.length ≤ 1000) (hi : n.i ≤ 1000) (w : World) (h : RS b c ts w.heap.size w) (hF : ∀ b, Fp b → b < w.heap.size) (hn : KidsL w Fp n.l A 0) :
    Calls Try.prog 82 #[.agg #[.slice (some ⟨b, 0, none⟩) ts.length c], .agg #[.int .i64 ((NodeT.k n : Nat) : Int), .int .i64 ((NodeT.at' n : Nat) : Int), .string (strN (NodeT.s n)), .bool (zn (NodeT.z n)), .int .u64 (zh (NodeT.z n)), .int .u64 (zl (NodeT.z n)), .int .i64 ((NodeT.i n : Nat) : Int), .slice A (NodeT.l n).length c'], .int .i64 (k : Int), .int .i64 (d : Int)] w (RInto ts k w Fp (rinto ts p n k)) := by
  obtain ⟨R, hR⟩ : ∃ R, rinto ts p n k = R := ⟨_, rfl⟩
  rw [hR]
  have HF := Lib.hid hR
  have HRS := Lib.hid h
  have HO := h.ownN
  have hlen := h.ok.len
  have hkI : (k : Int) < (ts.length : Int) := by omega
  have C_place := Lib.hid H_place
  obtain ⟨els0, he0, he1, he2⟩ := kids_reads hF n.l A hn
  have HE0 := Lib.hid he1
  have HRD := Lib.hid he2
  have HE := Lib.hid he0
  have HN := Lib.hid hn
  have HFp := Lib.hid hF
  clear h hR H_place he0 he1 he2 hn hF
  unfold rinto at HF
  have hkd : rkd ts k 5 = (((tk ts k).k : Int) == 5) := rfl
  rw [hkd] at HF
  cases h5 : (((tk ts k).k : Int) == 5)
  case' false => have h5b : (((tk ts k).k : Int) != 5) = true := by rw [bne, h5]; rfl
  case' true => have h5b : (((tk ts k).k : Int) != 5) = false := by rw [bne, h5]; rfl
  case' true => have h5lt : k + 1 < ts.length := kdn_lt HRS.out.ok (by omega) h5 (by decide)
  all_goals simp only [h5, ↓reduceIte, Bool.false_eq_true, Bool.false_or, Bool.true_or, Bool.false_and, Bool.true_and] at HF
  all_goals clear hkd
  all_goals
    go_enter Try.func82, Try.ntmps82
    (repeat' (first | ((with_reducible refine zG ?_); first | refine oWx ?_ | (refine oWs ?_; clear HO; intro _ HO) | (refine oWj ?_; clear HO; intro _ HO HB)) | ((with_reducible refine to_load ?_); (first | first | refine oR6 HO rfl rfl rfl (by omega) ?_ | refine oR1 HO rfl rfl rfl rfl (by omega) ?_ | refine oR0 HO rfl rfl rfl (by omega) ?_); (try simp only [Act.put, pS])) | ((go_big_may; first | (go_at_call 32; refine arm_is [36] (by decide) (by omega) HO rfl rfl ?_; clear HO; intro _ z hz hlt HO; cases z <;> (try simp only [hz, ↓reduceIte, bZ] at HF) <;> (first | (replace hlt := hlt rfl) | clear hlt)) | (go_at_call 84; (first | refine arm_rn rfl ?_ (C_place.out _ ?_) HO HF ?_ ?_ | refine arm_rn rfl ?_ (C_place.out _ ?_) HO (gr_eta HF) ?_ ?_); (first | with_reducible rfl | rfl | (rw [IntWalk.i64_in _ (by omega)]; rfl)); (omega); (clear HO HF; intro _ _ _ _ _ HO _ hle hlt HF); rotate_left; (clear HO HF; intro _ _ _ HO hq HE); rotate_left)) <;> (try dsimp only)) | go_values | go_skip | go_guarded | go_step | go_upon | (go_ite <;> go_prune <;> (try go_simp))))
    all_goals first
      | (refine oBc HO (t := 8) (ty := 116) rfl rfl rfl ?_
         first
         | exact ri_err HO (by assumption) HE
         | exact ri_same HO HF (Nat.le_refl _) hk HFp HN hc)
      | skip
    all_goals
      refine eBe HO [9] [1, 4, 2, 5, 9001, 6, 0, 4, 0, 3, 7, 8, 9001, 6, 3, 3, 3, 7, 8, 6, 7, 8] [9] ?_
      clear HO
      intro _ HO
      (repeat' (first | ((with_reducible refine eGo ?_); refine eFx rfl rfl (by kernel_rfl) (by rfl) (by rfl) (fun K hK => ?_) (fun K hK => ?_)) | ((with_reducible refine zG ?_); first | (refine oWf ?_; intro K hK) | refine oWe ?_ | refine oWr ?_ | refine oWp ?_) | ((with_reducible refine zG ?_); first | (refine oWg ?_; intro K hK) | (refine oWk ?_; clear hK K) | (refine oWs ?_; clear HO; intro _ HO)) | ((with_reducible refine to_append ?_); first | (refine wo_appK HO rfl rfl rfl (rd_kept HO HRD) Try.underlying43 info_node rfl (by decide) (one_flatE els0) (by omega) (by decide) ?_; clear HO; intro _ _ _ hcap HO; (try simp only [Nat.zero_add, List.nil_append] at HO hcap ⊢); (try simp only [Act.put, pS])) | (refine wo_appY HO rfl rfl rfl mM rfl (by simp; omega) ?_; clear HO; intro eY _ _ _ hmY hcap HO; (try simp only [Act.put, pS]))) | ((with_reducible refine ab_row HO 45 8 0 ?_ ?_ ?_); (exact rfl); (decide); clear HO; intro _ HO) | ((with_reducible refine zG ?_); refine oWn ?_; clear HO; intro _ HO)| ((with_reducible refine zG ?_); refine oWj ?_; clear HO; intro _ HO HB) | ((with_reducible refine eOp ?_); go_simp)))
    all_goals
      (repeat' (first | ((with_reducible refine zG ?_); first | refine oWx ?_ | (refine oWs ?_; clear HO; intro _ HO) | (refine oWj ?_; clear HO; intro _ HO HB)) | go_values | go_skip | go_guarded | go_step | go_upon | (go_ite <;> go_prune <;> (try go_simp))))
      refine oBc HO (t := 8) (ty := 116) rfl rfl rfl ?_
      exact ri_app HO HF (by omega) (by omega) HFp HE0 HE mH hmY hcap
theorem arm_into {p : RPar} {b c d : Nat} {ts : List TokF} (C_place : Hid (∀ k, k < ts.length → RC 84 #[.agg #[.slice (some ⟨b, 0, none⟩) ts.length c], .int .i64 (k : Int), .int .i64 (d : Int)] (rplace ts p k) VG b c ts (k + 1))) {w0 w : World} {bs : List Bx} {rs : List Rw} {F : List Cold} {β : Type} {kk : NodeT → Nat → GR β} {R : GR β} {k : Nat} {n : NodeT} {A : Option Addr} {c' : Nat} {K : FuncId} {args : Array Value} {T : Ending → World → Prop} (HO : Hid (Own w0 [] (RS b c ts w0.heap.size) bs rs F w)) (HF : Hid ((rinto ts p n k).bind kk = R)) (hK : K = 82) (hargs : args = #[.agg #[.slice (some ⟨b, 0, none⟩) ts.length c], .agg #[.int .i64 ((NodeT.k n : Nat) : Int), .int .i64 ((NodeT.at' n : Nat) : Int), .string (strN (NodeT.s n)), .bool (zn (NodeT.z n)), .int .u64 (zh (NodeT.z n)), .int .u64 (zl (NodeT.z n)), .int .i64 ((NodeT.i n : Nat) : Int), .slice A (NodeT.l n).length c'], .int .i64 (k : Int), .int .i64 (d : Int)]) (hk : k < ts.length) (hm : Cold.kids A n.l ∈ F) (hc : n.l.length ≤ c') (hl : n.l.length ≤ 1000) (hi : n.i ≤ 1000)
    (hok : ∀ x A e a W, Hid (Own w0 [] (RS b c ts w0.heap.size) bs rs (Cold.kids A x.l :: F) W) → x.l.length ≤ e → k ≤ a → a < ts.length → Hid (kk x a = R) → T (.returned (.agg #[.int .i64 ((NodeT.k x : Nat) : Int), .int .i64 ((NodeT.at' x : Nat) : Int), .string (strN (NodeT.s x)), .bool (zn (NodeT.z x)), .int .u64 (zh (NodeT.z x)), .int .u64 (zl (NodeT.z x)), .int .i64 ((NodeT.i x : Nat) : Int), .slice A (NodeT.l x).length e, .int .i64 (a : Int), .int .i64 0])) W)
    (herr : ∀ a q W, Hid (Own w0 [] (RS b c ts w0.heap.size) bs rs F W) → (q != 0) = true → Hid (R = .err a q) → T (.returned (.agg #[.int .i64 0, .int .i64 0, .string { data := #[] }, .bool false, .int .u64 0, .int .u64 0, .int .i64 0, .slice none 0 0, .int .i64 (a : Int), .int .i64 q])) W) : Calls Try.prog K args w T := by
  subst hK hargs
  refine (rinto_any p b c ts d C_place.out k hk n A c' (fun b => w0.heap.size ≤ b ∧ b < w.heap.size ∧ b ∉ hot bs rs) hc hl hi w HO.out.st.more (fun b hb => hb.2.1) (HO.out.cold _ hm)).mono fun e W hp => ?_
  obtain ⟨q, hp⟩ := hp
  cases hr : rinto ts p n k with
  | ok x a =>
    rw [hr] at hp
    obtain ⟨h1, h2, A2, e2, rfl, h3, h4⟩ := hp
    refine hok x A2 e2 a W (Lib.hid ((HO.out.next q).coldAll (Cold.kids A2 x.l) (KidsL.st (fun b hb => ⟨?_, rfl⟩) _ _ _ h4))) h3 h1 h2 (Lib.hid (gr_ok hr HF.out))
    rcases hb with hb | hb
    · exact ⟨hb.1, Nat.lt_of_lt_of_le hb.2.1 q.size, hb.2.2⟩
    · exact ⟨Nat.le_trans HO.out.kept.size hb.1, hb.2, fun hm => by have := (HO.out.hot_lt b hm).2; omega⟩
  | err a e =>
    rw [hr] at hp
    obtain ⟨h1, rfl⟩ := hp
    exact herr a e W (Lib.hid (HO.out.next q)) h1 (Lib.hid (gr_err hr HF.out))
end Go.Proofs.Ythipoccbeloceaa
