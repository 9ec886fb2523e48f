/- Several texts put together: RqH. -/
import Derived.Test.YthipoccbeloceaaBu23
import Derived.Test.YthipoccbeloceaaBu30
import Derived.Test.YthipoccbeloceaaBu37
import Derived.Test.YthipoccbeloceaaBu6
set_option linter.unusedSimpArgs false
set_option linter.unusedVariables false
namespace Go.Proofs.Ythipoccbeloceaa
open Go.RowKit
instance iTNfieldfareref13Got : TN 59 4 := ⟨Try.isAgg59, Try.sizeOf59⟩
instance iTZfieldfareref13Got : TZ 59 [.slice none 0 0, .slice none 0 0, .int .i64 0, .int .i64 0] := ⟨Try.zeroValue59⟩
instance iTFfieldfareref13Got : TF 59 (fsOf Try.underlying59) := ⟨Try.underlying59⟩
def RTree (ts : List TokF) (m : Nat) (w : World) (Fp : Nat → Prop) (r : GR TreeT) (e : Ending) (w' : World) : Prop :=
  Below w.heap.size w w' ∧ match r with
  | .ok t a => m ≤ a ∧ a < ts.length ∧ ∃ (fe : List ElF) (re : List ElR) (A : Option Addr) (c : Nat) (B : Option Addr) (e' : Nat), t = ⟨fe.map (·.1), re.map (·.1)⟩ ∧ e = .returned (.agg #[.slice A fe.length c, .slice B re.length e', .int .i64 ((a : Nat) : Int), .int .i64 0]) ∧ fe.length ≤ c ∧ re.length ≤ e' ∧ TreeAt w' (fun b => Fp b ∨ (w.heap.size ≤ b ∧ b < w'.heap.size)) A B fe re
  | .err a q => (q != 0) = true ∧ e = .returned (.agg #[.slice none 0 0, .slice none 0 0, .int .i64 ((a : Nat) : Int), .int .i64 q])
section
variable {b c m a : Nat} {ts : List TokF} {w W : World} {bs : List Bx} {rs : List Rw} {F : List Cold} {S : World → Prop} {Fp : Nat → Prop} {f : GR TreeT}
theorem rt_err {q : Int} (HO : Hid (Own w [] S bs rs F W)) (hq : (q != 0) = true) (HE : Hid (f = .err a q)) : RTree ts m w Fp f (.returned (.agg #[.slice none 0 0, .slice none 0 0, .int .i64 ((a : Nat) : Int), .int .i64 q])) W := by
  rw [HE.out]
  exact ⟨HO.out.kept.below, hq, rfl⟩
theorem row_of_own {e : TypeId} {sz n k : Nat} {A : Option Addr} {xs : List Value} (HO : Hid (Own w [] S bs (⟨e, sz, .slice A n k, n, xs⟩ :: rs) F W)) (hn : 0 < n) : RowAt W (fun b => w.heap.size ≤ b ∧ b < W.heap.size) A xs := fun _ => by
  have hr : W.ownsRow w.heap.size e sz (.slice A n k) n xs := HO.out.row _ List.mem_cons_self
  have hr0 := hr
  rcases hr0.2 with ⟨h, h2⟩ | ⟨g, cap, cur, e', hg, hh, _, _⟩
  · exact absurd h2 (by omega)
  · injection e' with e1 _ _
    subst e1
    refine ⟨g, rfl, ⟨hg, (hr.lt g rfl).2⟩, fun j u hj => ?_⟩
    have := hr.cells (g := g) rfl j u hj
    rw [Addr.add_mid, Nat.zero_add] at this
    exact this
theorem rt_func {fe : List ElF} {re : List ElR} {A0 B0 : Option Addr} {c2 : Nat} {A' : Option Addr} {e' : Nat} {g : FuncT} {A B : Option Addr} {c e : Nat} (HO : Hid (Own w [] S bs (⟨81, 11, .slice A' (fe.length + 1) e', fe.length + 1, flatF fe ++ funcC g A c B e⟩ :: rs) F W)) (HF : Hid (.ok ⟨fe.map (·.1) ++ [g], re.map (·.1)⟩ a = f)) (hm : m ≤ a) (ha : a < ts.length) (hF : Hid (∀ b, Fp b → b < w.heap.size)) (HX : Hid (TreeAt w Fp A0 B0 fe re)) (h1 : Cold.row A (strVs g.params) ∈ F) (h2 : Cold.kids B g.body.l ∈ F) (hc : g.params.length ≤ c) (he : g.body.l.length ≤ e) (hce : fe.length + 1 ≤ e') (hre : re.length ≤ c2) :
    RTree ts m w Fp f (.returned (.agg #[.slice A' (fe.length + 1) e', .slice B0 re.length c2, .int .i64 ((a : Nat) : Int), .int .i64 0])) W := by
  rw [← HF.out]
  have hold : ∀ b, Fp b → (Fp b ∨ (w.heap.size ≤ b ∧ b < W.heap.size)) ∧ W.heap[b]? = w.heap[b]? := fun b hb => ⟨.inl hb, HO.out.kept.block b (hF.out b hb) List.not_mem_nil⟩
  have hnew : ∀ b, (w.heap.size ≤ b ∧ b < W.heap.size ∧ b ∉ hot bs (⟨81, 11, .slice A' (fe.length + 1) e', fe.length + 1, flatF fe ++ funcC g A c B e⟩ :: rs)) → (Fp b ∨ (w.heap.size ≤ b ∧ b < W.heap.size)) ∧ W.heap[b]? = W.heap[b]? := fun b hb => ⟨.inr ⟨hb.1, hb.2.1⟩, rfl⟩
  have hx := HX.out.st hold
  have hlen : (fe ++ [((g, A, c, B, e) : ElF)]).length = fe.length + 1 := by simp
  refine ⟨HO.out.kept.below, hm, ha, fe ++ [(g, A, c, B, e)], re, A', e', B0, c2, by simp, by rw [hlen], by rw [hlen]; exact hce, hre, ?_, hx.rr, fun x hx2 => ?_, hx.er⟩
  · have := row_of_own HO (Nat.succ_pos _)
    rw [show flatF (fe ++ [((g, A, c, B, e) : ElF)]) = flatF fe ++ funcC g A c B e by simp [flatF]]
    exact this.st (fun b hb => ⟨.inr hb, rfl⟩)
  · rcases List.mem_append.1 hx2 with hx2 | hx2
    · exact hx.ef x hx2
    · obtain rfl := List.mem_singleton.1 hx2
      exact ⟨hc, he, RowAt.st hnew (HO.out.cold _ h1), KidsL.st hnew _ _ _ (HO.out.cold _ h2)⟩
end
section
variable {c n m : Nat} {w0 w W : World} {bs : List Bx} {rs : List Rw} {F : List Cold} {X : List Nat} {S : World → Prop}
theorem ab_cold {K : Act → World → Prop} {act : Act} (HO : Hid (Own w0 X S bs rs F w)) (e : TypeId) {cs : List Value} (h : ∀ W, Hid (Own w0 X S bs rs (Cold.row (some ⟨w.heap.size, 0, none⟩) cs :: F) W) → K act W) : K act (w.alloc (.cells cs.toArray e)) := by
  have hB : Blk (w.alloc (.cells cs.toArray e)) w.heap.size e cs.toArray := Blk.new _ _ _
  refine h _ (Lib.hid ((HO.out.junk _).coldAll (Cold.row _ cs) (fun _ => ⟨w.heap.size, rfl, ⟨HO.out.kept.size, hB.lt, fun hm => by have := (HO.out.hot_lt _ hm).2; omega⟩, fun j u hu => ?_⟩)))
  rw [hB.cell]
  simpa using hu
theorem wo_appC {KK : Act → World → Prop} {Q : Exit → Act → World → Prop} {act : Act} {o : Oper} {v : Value} {e : TypeId} {sz n' : Nat} {xs ys : List Value} (HO : Hid (Own w0 X S bs (⟨e, sz, v, n', xs⟩ :: rs) F w)) {s x : Operand} {T' : TypeId}
    (ho : o.op = .call { callee := .builtin .append, args := #[s, x], argTypes := #[T', T'] }) (hs : act.eval s = v) {A : Option Addr} {c : Nat} (hx : act.eval x = .slice A 1 c) (hC : Cold.row A ys ∈ F) (hl : ys.length = sz)
    (ht : Try.prog.underlying T' = some (.slice e)) {z : Value} {bytes : Nat} (hinfo : (Try.prog.info? e).map (fun i => (i.zero, i.size, i.bytes)) = some (some z, sz, bytes)) (hzs : z.cells.size = sz) (hsz : 0 < sz) (h1 : ∀ u ∈ ys, u.oneCell' = true) (hm : n' + 1 ≤ 1000000) (hby : bytes ≤ 1000)
    (h : ∀ A' c' W, n' + 1 ≤ c' → Hid (Own w0 X S bs (⟨e, sz, .slice A' (n' + 1) c', n' + 1, xs ++ ys⟩ :: rs) F W) → KK (act.put o.dst (.slice A' (n' + 1) c')) W) : WOp Try.prog o act w KK Q :=
  wo_appK HO ho hs hx (reads_row (HO.out.cold _ hC) (by omega) (fun b hb => hb.2.1) hsz) ht hinfo hzs hsz h1 hm hby h
def CutY (_ : Hid (Own w0 X S bs rs F w)) (t : Bool) (v : Value) (W : World) : Prop := ∃ z, v = .bool z ∧ t = z ∧ Hid (Own w0 X S bs rs F W)
def LoopS {v0 v2 v3 v4 v5 v6 v7 v8 v9 v10 : Value} (_ : Hid (Own w0 X S (⟨n, 81, [v0, .slice none 0 0, v2, v3, v4, v5, v6, v7, v8, v9, v10]⟩ :: bs) rs F w)) (g : Nat → List (List Nat) → Nat → Prop) (v : Value) (W : World) : Prop :=
  ∃ (l : List (List Nat)) (A : Option Addr) (e f q : Nat), v = .int .i64 (q : Int) ∧ q < m ∧ c ≤ q ∧ m ≤ f + q ∧ l.length ≤ q ∧ l.length ≤ e ∧ Hid (g f l q) ∧ Hid (Own w0 X S (⟨n, 81, [v0, .slice A l.length e, v2, v3, v4, v5, v6, v7, v8, v9, v10]⟩ :: bs) [⟨9, 1, .slice A l.length e, l.length, strVs l⟩] [Cold.kids none []] W)
end
set_option maxRecDepth 100000 in
set_option maxHeartbeats 3200000 in
theorem rfunction_any (p : RPar) (b c : Nat) (ts : List TokF) (H_block : ∀ k, k < ts.length → RC 53 #[.agg #[.slice (some ⟨b, 0, none⟩) ts.length c], .int .i64 (k : Int), .int .i64 0] (p.block k) VG b c ts (k + 1)) (k : Nat) (hk2 : k + 1 < ts.length) (fe : List ElF) (re : List ElR) (A0 B0 : Option Addr) (c1 c2 : Nat) (hc1 : fe.length ≤ c1) (hc2 : re.length ≤ c2) (hl1 : fe.length ≤ 100000) (Fp : Nat → Prop) (w : World) (h : RS b c ts w.heap.size w) (hF : ∀ b, Fp b → b < w.heap.size) (hT : TreeAt w Fp A0 B0 fe re) :
    Calls Try.prog 50 #[.agg #[.slice (some ⟨b, 0, none⟩) ts.length c], .agg #[.slice A0 fe.length c1, .slice B0 re.length c2], .int .i64 (k : Int)] w (RTree ts (k + 1) w Fp (rfunction ts p ⟨fe.map (·.1), re.map (·.1)⟩ k)) := by
  obtain ⟨R, hR⟩ : ∃ R, rfunction ts p ⟨fe.map (·.1), re.map (·.1)⟩ k = R := ⟨_, rfl⟩
  rw [hR]
  have HF := Lib.hid hR
  have HRS := Lib.hid h
  have HO := h.ownN
  have hlen := h.ok.len
  have hkI : (k : Int) < (ts.length : Int) := by omega
  have C_block := Lib.hid H_block
  have HX := Lib.hid hT
  have HFp := Lib.hid hF
  have HRD := Lib.hid (reads_row hT.rf (len_flatF fe) hF (by decide))
  clear h hR H_block hT hF
  unfold rfunction at HF
  go_enter Try.func50, Try.ntmps50
  (repeat' (go_not_at_region 3; first | ((with_reducible refine zG ?_); first | refine oWx ?_ | (refine oWs ?_; clear HO; intro _ HO) | (refine oWj ?_; clear HO; intro _ HO HB)) | ((with_reducible refine to_load ?_); (first | first | refine oR6 HO rfl rfl rfl (by omega) ?_ | refine oR1 HO rfl rfl rfl rfl (by omega) ?_ | refine oR0 HO rfl rfl rfl (by omega) ?_); (try simp only [Act.put, pS])) | go_values | go_skip | go_guarded | go_step | go_upon | (go_ite <;> go_prune <;> (try go_simp))))
  have HO0 := HO
  go_cut [33] from 18 to 33 (fun v W => CutY HO0 (!(rkd ts (k + 1) 5 || rkd ts (k + 1) 6)) v W)
  case first =>
    cases h5 : (((tk ts (k + 1)).k : Int) == 5)
    case' false => have h5b : (((tk ts (k + 1)).k : Int) != 5) = true := by rw [bne, h5]; rfl
    case' true => have h5b : (((tk ts (k + 1)).k : Int) != 5) = false := by rw [bne, h5]; rfl
    all_goals cases h6 : (((tk ts (k + 1)).k : Int) == 6)
    case' false.false => have h6b : (((tk ts (k + 1)).k : Int) != 6) = true := by rw [bne, h6]; rfl
    case' true.false => have h6b : (((tk ts (k + 1)).k : Int) != 6) = true := by rw [bne, h6]; rfl
    case' false.true => have h6b : (((tk ts (k + 1)).k : Int) != 6) = false := by rw [bne, h6]; rfl
    case' true.true => have h6b : (((tk ts (k + 1)).k : Int) != 6) = false := by rw [bne, h6]; rfl
    all_goals
      (repeat' (first | ((with_reducible refine zG ?_); first | refine oWx ?_ | (refine oWs ?_; clear HO; intro _ HO) | (refine oWj ?_; clear HO; intro _ HO HB)) | ((with_reducible refine to_load ?_); (first | first | refine oR6 HO rfl rfl rfl (by omega) ?_ | refine oR1 HO rfl rfl rfl rfl (by omega) ?_ | refine oR0 HO rfl rfl rfl (by omega) ?_); (try simp only [Act.put, pS])) | go_values | go_skip | go_guarded | go_step | go_upon | (go_ite <;> go_prune <;> (try go_simp))))
      go_meet
      refine ⟨_, rfl, ?_, HO⟩
      show (!((((tk ts (k + 1)).k : Int) == 5) || (((tk ts (k + 1)).k : Int) == 6))) = _
      simp [h5, h6]
  case' rest =>
    clear HO
    obtain ⟨z, rfl, hr, HO⟩ := hcut
    clear HO0
    cases z
    rotate_left
  · rw [Bool.not_eq_true'] at hr
    simp only [hr, Bool.false_eq_true, ↓reduceIte] at HF
    (repeat' (first | ((with_reducible refine zG ?_); first | refine oWx ?_ | (refine oWs ?_; clear HO; intro _ HO) | (refine oWj ?_; clear HO; intro _ HO HB)) | ((with_reducible refine to_load ?_); (first | first | refine oR6 HO rfl rfl rfl (by omega) ?_ | refine oR1 HO rfl rfl rfl rfl (by omega) ?_ | refine oR0 HO rfl rfl rfl (by omega) ?_); (try simp only [Act.put, pS])) | go_values | go_skip | go_guarded | go_step | go_upon | (go_ite <;> go_prune <;> (try go_simp))))
    refine oBc HO (t := 6) (ty := 59) rfl rfl rfl ?_
    exact rt_err HO rfl (Lib.hid HF.out.symm)
  rw [Bool.not_eq_false'] at hr
  simp only [hr, ↓reduceIte] at HF
  have hk3 : k + 1 + 1 < ts.length := by
    rcases Bool.or_eq_true_iff.1 hr with h | h
    · exact kdn_lt HRS.out.ok hk2 h (by decide)
    · exact kdn_lt HRS.out.ok hk2 h (by decide)
  clear hr
  (repeat' (first | ((with_reducible refine zG ?_); first | refine oWx ?_ | (refine oWs ?_; clear HO; intro _ HO) | (refine oWj ?_; clear HO; intro _ HO HB)) | ((with_reducible refine to_load ?_); (first | first | refine oR6 HO rfl rfl rfl (by omega) ?_ | refine oR1 HO rfl rfl rfl rfl (by omega) ?_ | refine oR0 HO rfl rfl rfl (by omega) ?_); (try simp only [Act.put, pS])) | ((go_big_may; first | (go_at_call 32; refine arm_is [40] (by decide) (by omega) HO rfl rfl ?_; clear HO; intro _ z hz hlt HO; cases z <;> (try simp only [hz, ↓reduceIte, bZ] at HF) <;> (first | (replace hlt := hlt rfl) | clear hlt))) <;> (try dsimp only)) | go_values | go_skip | go_guarded | go_step | go_upon | (go_ite <;> go_prune <;> (try go_simp))))
  · refine oBc HO (t := 6) (ty := 59) rfl rfl rfl ?_
    exact rt_err HO rfl (Lib.hid HF.out.symm)
  have HO0 := HO
  go_loopw [2] (fun v W => LoopS (m := ts.length) (c := k + 1) HO0 (fun f l q => (rparamF ts f l q).bind (fun l k1 => (p.block (rlines ts (k1 + 1))).bind fun b k2 => GR.ok (⟨List.map (·.1) fe ++ [⟨(tk ts (k + 1)).s, l, b, (tk ts k).at'⟩], List.map (·.1) re⟩ : TreeT) k2) = R) v W) (fun kv _ => ts.length - (intOf kv).toNat)
  case atStart => exact ⟨[], none, 0, ts.length, k + 1 + 1 + 1, rfl, hlt, by omega, by omega, by simp, Nat.le_refl _, HF, Lib.hid (HO.out.nilRow 9 1)⟩
  case round =>
    clear HO HF hlt
    obtain ⟨l, A, ce, f, q, rfl, hq0, hkq, hf, hlq, hle0, HF, HO⟩ := hrel
    obtain ⟨f, rfl⟩ : ∃ f', f = f' + 1 := ⟨f - 1, by omega⟩
    have hqI : (q : Int) < (ts.length : Int) := by omega
    dsimp only at HF
    rw [rparamF] at HF
    simp only [gr_ite, gr_okb, gr_errb] at HF
    cases hp : ris ts q [41]
    rotate_left
    · simp only [hp, ↓reduceIte] at HF
      have hlp := ris_lt HRS.out.ok hq0 hp
      obtain ⟨A9, c9, e9, hc9, HO9⟩ := HO.out.freezeG (fun h => by rw [List.length_eq_zero_iff.1 h]; rfl)
      injection e9 with e91 e9n e92
      clear e9n
      subst e91 e92
      clear HO
      have HO := Lib.hid HO9
      clear HO9
      dsimp only at hc9
      (repeat' (go_not_at_region 19; first | ((with_reducible refine zG ?_); first | refine oWx ?_ | (refine oWs ?_; clear HO; intro _ HO) | (refine oWj ?_; clear HO; intro _ HO HB)) | ((go_big_may; first | (go_at_call 32; first | (refine arm_isK [41] (by decide) (by omega) HO rfl rfl (z := true) ?_ ?_; (assumption); (clear HO; intro _ hz HO; (try simp only [hz, ↓reduceIte, bZ] at HF))) | (refine arm_isK [41] (by decide) (by omega) HO rfl rfl (z := false) ?_ ?_; (assumption); (clear HO; intro _ hz HO; (try simp only [hz, ↓reduceIte, bZ] at HF))) | (refine arm_is [41] (by decide) (by omega) HO rfl rfl ?_; clear HO; intro _ z hz hlt HO; cases z <;> (try simp only [hz, ↓reduceIte, bZ] at HF) <;> (first | (replace hlt := hlt rfl) | clear hlt))) | fail) <;> (try dsimp only)) | go_values | go_skip | go_guarded | go_step | go_upon | (go_ite <;> go_prune <;> (try go_simp))))
      have HO0 := HO
      have HF0 := HF
      go_cut [8] from 93 to 98 (fun v wx => CutG HO0 HF0 (k + 1) v wx)
      case first =>
        refine eBe HO [7] [2, 3, 0, 1, 6, 4, 5] [7] ?_
        clear HO
        intro _ HO
        (repeat' (first | ((with_reducible refine eGo ?_); first | (refine eFl HO rfl rfl rfl (by kernel_rfl) (by rfl) (by rfl) ?_ (fun K hK => ?_); (clear HO; intro _ HO); (try simp only [Act.put, pS]); rotate_left) | (refine eFm HO rfl rfl (by kernel_rfl) (by rfl) ?_; clear HO; intro _ HO; (try simp only [Act.put, pS]))) | ((with_reducible refine zG ?_); first | (refine oWf ?_; intro K hK) | refine oWe ?_ | refine oWr ?_ | refine oWp ?_) | ((with_reducible refine zG ?_); first | (refine oWg ?_; intro K hK) | (refine oWk ?_; clear hK K) | (refine oWs ?_; clear HO; intro _ HO)) | ((first | (go_at_call 52; refine arm_lines (by omega) HO rfl rfl ?_; clear HO; intro _ q hq hle hlt HO; (try simp only [hq] at HF)) | (go_at_call 53; (first | refine arm_rn rfl ?_ (C_block.out _ ?_) HO HF ?_ ?_ | refine arm_rn rfl ?_ (C_block.out _ ?_) HO (gr_eta HF) ?_ ?_); (first | with_reducible rfl | rfl | (rw [IntWalk.i64_in _ (by omega)]; rfl)); (omega); (clear HO HF; intro _ _ _ _ _ HO _ hle hlt HF); rotate_left; (clear HO HF; intro _ _ _ HO hq HE); rotate_left)) <;> (try dsimp only)) | ((with_reducible refine eOp ?_); go_simp)))
        all_goals (go_wp2_with fail; go_meet; first | exact .inl ⟨_, _, _, _, _, rfl, HO, by assumption, by omega, by omega, HF⟩ | exact .inr ⟨_, _, _, rfl, HO, by assumption, HE⟩)
      case' rest =>
        clear HO HF
        rcases hcut with ⟨B9, x9, A9, c9, k9, rfl, HO, hl9, hle9, hlt9, HF⟩ | ⟨B9, k9, q9, rfl, HO, hq9, HE⟩
      all_goals clear HO0 HF0
      rotate_left
      · (repeat' (first | ((with_reducible refine zG ?_); first | refine oWx ?_ | (refine oWs ?_; clear HO; intro _ HO) | (refine oWj ?_; clear HO; intro _ HO HB)) | go_values | go_skip | go_guarded | go_step | go_upon | (go_ite <;> go_prune <;> (try go_simp))))
        refine oBc HO (t := 6) (ty := 59) rfl rfl rfl ?_
        exact rt_err HO (by assumption) HE
      · (repeat' (first | ((with_reducible refine zG ?_); first | refine oWx ?_ | (refine oWs ?_; clear HO; intro _ HO) | (refine oWj ?_; clear HO; intro _ HO HB)) | ((with_reducible refine to_store ?_); first | (refine oT4 HO rfl rfl rfl rfl ?_; clear HO; intro _ HO)) | go_values | go_skip | go_guarded | go_step | go_upon | (go_ite <;> go_prune <;> (try go_simp))))
        refine eBe HO [8] [1, 2, 4, 9001, 5, 0, 4, 0, 3, 6, 7, 9001, 5, 3, 3, 3, 6, 7, 5, 6, 7] [8] ?_
        clear HO
        intro _ HO
        (repeat' (first | ((with_reducible refine eGo ?_); refine eFx rfl rfl (by kernel_rfl) (by rfl) (by rfl) (fun K hK => ?_) (fun K hK => ?_)) | ((with_reducible refine zG ?_); first | (refine oWf ?_; intro K hK) | refine oWe ?_ | refine oWr ?_ | refine oWp ?_) | ((with_reducible refine zG ?_); first | (refine oWg ?_; intro K hK) | (refine oWk ?_; clear hK K) | (refine oWs ?_; clear HO; intro _ HO)) | ((with_reducible refine to_append ?_); first | (refine wo_appK HO rfl rfl rfl (rd_kept HO HRD) Try.underlying24 info_func rfl (by decide) (one_flatF fe) (by omega) (by decide) ?_; clear HO; intro _ _ _ hcap HO; (try simp only [Nat.zero_add, List.nil_append] at HO hcap ⊢); (try simp only [Act.put, pS])) | (refine wo_appC HO rfl rfl rfl mM rfl Try.underlying24 info_func rfl (by decide) (by simp [Value.oneCell']) (by omega) (by decide) ?_; clear HO; intro _ _ _ hcap HO; (try simp only [Act.put, pS]))) | ((with_reducible refine ab_row HO 81 11 0 ?_ ?_ ?_); (exact rfl); (decide); clear HO; intro _ HO) | ((with_reducible refine ab_cold HO 81 ?_); clear HO; intro _ HO)| ((with_reducible refine zG ?_); refine oWj ?_; clear HO; intro _ HO HB) | ((with_reducible refine eOp ?_); go_simp)))
        all_goals
          (repeat' (first | ((with_reducible refine zG ?_); first | refine oWx ?_ | (refine oWs ?_; clear HO; intro _ HO) | (refine oWj ?_; clear HO; intro _ HO HB)) | go_values | go_skip | go_guarded | go_step | go_upon | (go_ite <;> go_prune <;> (try go_simp))))
          refine oBc HO (t := 6) (ty := 59) rfl rfl rfl ?_
          exact rt_func (g := ⟨(tk ts (k + 1)).s, l, x9, (tk ts k).at'⟩) HO HF (by omega) (by omega) HFp HX mM mM hc9 hl9 (by omega) hc2
    simp only [hp, ↓reduceIte, Bool.false_eq_true] at HF
    rcases Nat.eq_zero_or_pos l.length with hl0 | hl0
    · simp only [show decide (0 < l.length) = false from decide_eq_false (by omega), ↓reduceIte, Bool.false_eq_true] at HF
      have hd0 : decide ((0 : Int) < (l.length : Int)) = false := decide_eq_false (by omega)
      obtain rfl := List.length_eq_zero_iff.1 hl0
      clear hl0 hd0
      have hkd : rkd ts q 5 = (((tk ts q).k : Int) == 5) := rfl
      rw [hkd] at HF
      cases h5 : (((tk ts q).k : Int) == 5)
      case' false => have h5b : (((tk ts q).k : Int) != 5) = true := by rw [bne, h5]; rfl
      case' true => have h5b : (((tk ts q).k : Int) != 5) = false := by rw [bne, h5]; rfl
      case' true => have h5lt : q + 1 < ts.length := kdn_lt HRS.out.ok (by omega) h5 (by decide)
      all_goals simp only [h5, ↓reduceIte, Bool.false_eq_true, Bool.false_or, Bool.true_or, Bool.false_and, Bool.true_and] at HF
      all_goals clear hkd
      · --{
        (repeat' (first | ((with_reducible refine zG ?_); first | refine oWx ?_ | (refine oWs ?_; clear HO; intro _ HO) | (refine oWj ?_; clear HO; intro _ HO HB)) | ((with_reducible refine to_load ?_); (first | first | refine oR6 HO rfl rfl rfl (by omega) ?_ | refine oR1 HO rfl rfl rfl rfl (by omega) ?_ | refine oR0 HO rfl rfl rfl (by omega) ?_); (try simp only [Act.put, pS])) | ((go_big_may; first | (go_at_call 32; first | (refine arm_isK [41] (by decide) (by omega) HO rfl rfl (z := true) ?_ ?_; (assumption); (clear HO; intro _ hz HO; (try simp only [hz, ↓reduceIte, bZ] at HF))) | (refine arm_isK [41] (by decide) (by omega) HO rfl rfl (z := false) ?_ ?_; (assumption); (clear HO; intro _ hz HO; (try simp only [hz, ↓reduceIte, bZ] at HF))) | (refine arm_is [41] (by decide) (by omega) HO rfl rfl ?_; clear HO; intro _ z hz hlt HO; cases z <;> (try simp only [hz, ↓reduceIte, bZ] at HF) <;> (first | (replace hlt := hlt rfl) | clear hlt))) | fail) <;> (try dsimp only)) | go_values | go_skip | go_guarded | go_step | go_upon | (go_ite <;> go_prune <;> (try go_simp))))
        refine eBe HO [11] [0, 2, 4, 1, 3, 5, 6, 7, 8, 9, 10] [11] ?_
        clear HO
        intro _ HO
        (repeat' (first | ((with_reducible refine zG ?_); first | (refine oWf ?_; intro K hK) | refine oWe ?_ | refine oWr ?_ | refine oWp ?_) | ((with_reducible refine zG ?_); first | (refine oWg ?_; intro K hK) | (refine oWk ?_; clear hK K) | (refine oWs ?_; clear HO; intro _ HO)) | ((with_reducible refine to_append ?_); refine wo_appS HO rfl rfl rfl HB (by first | omega | simp) ?_; clear HO HB; intro _ _ _ hcap HO; (try simp only [Act.put, pS])) | ((with_reducible refine zG ?_); refine oWn ?_; clear HO; intro _ HO) | ((with_reducible refine zG ?_); refine oWj ?_; clear HO; intro _ HO HB) | ((with_reducible refine eOp ?_); go_simp)))
        (repeat' (first | ((with_reducible refine zG ?_); first | refine oWx ?_ | (refine oWs ?_; clear HO; intro _ HO) | (refine oWj ?_; clear HO; intro _ HO HB)) | go_values | go_skip | go_guarded | go_step | go_upon | (go_ite <;> go_prune <;> (try go_simp))))
        have hl1 : (([] : List (List Nat)) ++ [(tk ts q).s]).length = 1 := by simp
        refine ⟨⟨_, _, _, f, q + 1, rfl, h5lt, by omega, by omega, by omega, hcap, HF, HO⟩, ?_⟩
        exact meas2 rfl (Nat.lt_succ_self q) hq0
      · --{
        (repeat' (first | ((with_reducible refine zG ?_); first | refine oWx ?_ | (refine oWs ?_; clear HO; intro _ HO) | (refine oWj ?_; clear HO; intro _ HO HB)) | ((with_reducible refine to_load ?_); (first | first | refine oR6 HO rfl rfl rfl (by omega) ?_ | refine oR1 HO rfl rfl rfl rfl (by omega) ?_ | refine oR0 HO rfl rfl rfl (by omega) ?_); (try simp only [Act.put, pS])) | ((go_big_may; first | (go_at_call 32; first | (refine arm_isK [41] (by decide) (by omega) HO rfl rfl (z := true) ?_ ?_; (assumption); (clear HO; intro _ hz HO; (try simp only [hz, ↓reduceIte, bZ] at HF))) | (refine arm_isK [41] (by decide) (by omega) HO rfl rfl (z := false) ?_ ?_; (assumption); (clear HO; intro _ hz HO; (try simp only [hz, ↓reduceIte, bZ] at HF))) | (refine arm_is [41] (by decide) (by omega) HO rfl rfl ?_; clear HO; intro _ z hz hlt HO; cases z <;> (try simp only [hz, ↓reduceIte, bZ] at HF) <;> (first | (replace hlt := hlt rfl) | clear hlt))) | fail) <;> (try dsimp only)) | go_values | go_skip | go_guarded | go_step | go_upon | (go_ite <;> go_prune <;> (try go_simp))))
        refine oBc HO (t := 6) (ty := 59) rfl rfl rfl ?_
        exact rt_err HO rfl (Lib.hid HF.out.symm)
    · simp only [show decide (0 < l.length) = true from decide_eq_true hl0, ↓reduceIte] at HF
      have hd0 : decide ((0 : Int) < (l.length : Int)) = true := decide_eq_true (by omega)
      replace hl0 := Lib.hid hl0
      (repeat' (go_not_at_region 15; first | ((with_reducible refine zG ?_); first | refine oWx ?_ | (refine oWs ?_; clear HO; intro _ HO) | (refine oWj ?_; clear HO; intro _ HO HB)) | ((go_big_may; first | (go_at_call 32; first | (refine arm_isK [41] (by decide) (by omega) HO rfl rfl (z := true) ?_ ?_; (assumption); (clear HO; intro _ hz HO; (try simp only [hz, ↓reduceIte, bZ] at HF))) | (refine arm_isK [41] (by decide) (by omega) HO rfl rfl (z := false) ?_ ?_; (assumption); (clear HO; intro _ hz HO; (try simp only [hz, ↓reduceIte, bZ] at HF))) | (refine arm_is [41] (by decide) (by omega) HO rfl rfl ?_; clear HO; intro _ z hz hlt HO; cases z <;> (try simp only [hz, ↓reduceIte, bZ] at HF) <;> (first | (replace hlt := hlt rfl) | clear hlt))) | (go_at_call 32; refine arm_is [44] (by decide) (by omega) HO rfl rfl ?_; clear HO; intro _ z hz hlt HO; cases z <;> (try simp only [hz, ↓reduceIte, bZ] at HF) <;> (first | (replace hlt := hlt rfl) | clear hlt)) | (go_at_call 52; refine arm_lines (by omega) HO rfl rfl ?_; clear HO; intro _ q hq hle hlt HO; (try simp only [hq] at HF)) | fail) <;> (try dsimp only)) | go_values | go_skip | go_guarded | go_step | go_upon | (go_ite <;> go_prune <;> (try go_simp))))
      · refine oBc HO (t := 6) (ty := 59) rfl rfl rfl ?_
        exact rt_err HO rfl (Lib.hid HF.out.symm)
      have hqI : (q : Int) < (ts.length : Int) := by omega
      have hkd : rkd ts q 5 = (((tk ts q).k : Int) == 5) := rfl
      rw [hkd] at HF
      cases h5 : (((tk ts q).k : Int) == 5)
      case' false => have h5b : (((tk ts q).k : Int) != 5) = true := by rw [bne, h5]; rfl
      case' true => have h5b : (((tk ts q).k : Int) != 5) = false := by rw [bne, h5]; rfl
      case' true => have h5lt : q + 1 < ts.length := kdn_lt HRS.out.ok (by omega) h5 (by decide)
      all_goals simp only [h5, ↓reduceIte, Bool.false_eq_true, Bool.false_or, Bool.true_or, Bool.false_and, Bool.true_and] at HF
      all_goals clear hkd
      · --{
        (repeat' (first | ((with_reducible refine zG ?_); first | refine oWx ?_ | (refine oWs ?_; clear HO; intro _ HO) | (refine oWj ?_; clear HO; intro _ HO HB)) | ((with_reducible refine to_load ?_); (first | first | refine oR6 HO rfl rfl rfl (by omega) ?_ | refine oR1 HO rfl rfl rfl rfl (by omega) ?_ | refine oR0 HO rfl rfl rfl (by omega) ?_); (try simp only [Act.put, pS])) | go_values | go_skip | go_guarded | go_step | go_upon | (go_ite <;> go_prune <;> (try go_simp))))
        refine eBe HO [11] [0, 2, 4, 1, 3, 5, 6, 7, 8, 9, 10] [11] ?_
        clear HO
        intro _ HO
        (repeat' (first | ((with_reducible refine zG ?_); first | (refine oWf ?_; intro K hK) | refine oWe ?_ | refine oWr ?_ | refine oWp ?_) | ((with_reducible refine zG ?_); first | (refine oWg ?_; intro K hK) | (refine oWk ?_; clear hK K) | (refine oWs ?_; clear HO; intro _ HO)) | ((with_reducible refine to_append ?_); refine wo_appS HO rfl rfl rfl HB (by first | omega | simp) ?_; clear HO HB; intro _ _ _ hcap HO; (try simp only [Act.put, pS])) | ((with_reducible refine zG ?_); refine oWn ?_; clear HO; intro _ HO) | ((with_reducible refine zG ?_); refine oWj ?_; clear HO; intro _ HO HB) | ((with_reducible refine eOp ?_); go_simp)))
        (repeat' (first | ((with_reducible refine zG ?_); first | refine oWx ?_ | (refine oWs ?_; clear HO; intro _ HO) | (refine oWj ?_; clear HO; intro _ HO HB)) | go_values | go_skip | go_guarded | go_step | go_upon | (go_ite <;> go_prune <;> (try go_simp))))
        have hl1 : (l ++ [(tk ts q).s]).length = l.length + 1 := by simp
        refine ⟨⟨_, _, _, f, _, rfl, h5lt, by omega, by omega, by omega, hcap, HF, HO⟩, ?_⟩
        exact meas2 rfl (by omega) hq0
      · --{
        (repeat' (first | ((with_reducible refine zG ?_); first | refine oWx ?_ | (refine oWs ?_; clear HO; intro _ HO) | (refine oWj ?_; clear HO; intro _ HO HB)) | ((with_reducible refine to_load ?_); (first | first | refine oR6 HO rfl rfl rfl (by omega) ?_ | refine oR1 HO rfl rfl rfl rfl (by omega) ?_ | refine oR0 HO rfl rfl rfl (by omega) ?_); (try simp only [Act.put, pS])) | go_values | go_skip | go_guarded | go_step | go_upon | (go_ite <;> go_prune <;> (try go_simp))))
        refine oBc HO (t := 6) (ty := 59) rfl rfl rfl ?_
        exact rt_err HO rfl (Lib.hid HF.out.symm)
end Go.Proofs.Ythipoccbeloceaa
