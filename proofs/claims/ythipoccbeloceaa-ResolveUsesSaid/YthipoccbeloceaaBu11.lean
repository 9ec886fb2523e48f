/- Several texts put together: RpF. -/
import Derived.Test.YthipoccbeloceaaBu7
set_option linter.unusedSimpArgs false
set_option linter.unusedVariables false
namespace Go.Proofs.Ythipoccbeloceaa
open Go.RowKit
def VGL : World → World → List NodeT → Nat → Value → Prop := fun w w' l k v => ∃ A c, v = .agg #[.int .i64 0, .int .i64 0, .string { data := #[] }, .bool false, .int .u64 0, .int .u64 0, .int .i64 0, .slice A l.length c, .int .i64 (k : Int), .int .i64 0] ∧ l.length ≤ c ∧ KidsL w' (fun b => w.heap.size ≤ b ∧ b < w'.heap.size) l A 0
section
variable {b c n m : Nat} {ts : List TokF} {w0 w W : World} {X : List Nat} {S : World → Prop} {bs : List Bx} {rs : List Rw} {F : List Cold} {T : Ending → World → Prop} {K : FuncId} {args : Array Value} {β : Type} {R : GR β} {ops : Array Oper} {late plan pl2 : List Nat} {Q : Exit → Act → World → Prop} {i f : Nat} {oi : Oper} {listed : Array Bool} {a : Act}
theorem arm_rl {f : GR (List NodeT)} {k : List NodeT → Nat → GR β} {K' : FuncId} {args' : Array Value} (hK : K = K') (hargs : args = args') (HC : RC K' args' f VGL b c ts m) (HO : Hid (Own w0 [] (RS b c ts w0.heap.size) bs rs F w)) (HF : Hid (f.bind k = R))
    (hok : ∀ l A c' a W, Hid (Own w0 [] (RS b c ts w0.heap.size) bs rs (Cold.kids A l :: F) W) → l.length ≤ c' → m ≤ a → a < ts.length → Hid (k l a = R) → T (.returned (.agg #[.int .i64 0, .int .i64 0, .string { data := #[] }, .bool false, .int .u64 0, .int .u64 0, .int .i64 0, .slice A l.length c', .int .i64 (a : Int), .int .i64 0])) W)
    (herr : ∀ a q W, Hid (Own w0 [] (RS b c ts w0.heap.size) bs rs F W) → (q != 0) = true → Hid (R = .err a q) → T (.returned (.agg #[.int .i64 0, .int .i64 0, .string { data := #[] }, .bool false, .int .u64 0, .int .u64 0, .int .i64 0, .slice none 0 0, .int .i64 (a : Int), .int .i64 q])) W) : Calls Try.prog K args w T := by
  subst hK hargs
  refine arm_rc HC HO HF (fun v x a W hv HO' h1 h2 HF' => ?_) herr
  obtain ⟨A, c', rfl, hc, hk⟩ := hv
  exact hok x A c' a W (Lib.hid (HO'.out.addCold (Cold.kids A x) w.heap.size HO.out.kept.size (fun b hb => (HO.out.hot_lt b hb).2) hk)) hc h1 h2 HF'
theorem rp_list {l : List NodeT} {f : GR (List NodeT)} {A : Option Addr} {a e : Nat} (HO : Hid (Own w [] (RS b c ts w.heap.size) bs rs F W)) (HF : Hid (.ok l a = f)) (hm : m ≤ a) (ha : a < ts.length) (hk : Cold.kids A l ∈ F) (he : l.length ≤ e) : RPost ts m w f VGL (.returned (.agg #[.int .i64 0, .int .i64 0, .string { data := #[] }, .bool false, .int .u64 0, .int .u64 0, .int .i64 0, .slice A l.length e, .int .i64 (a : Int), .int .i64 0])) W := by
  rw [← HF.out]
  exact ⟨HO.out.kept.below, hm, ha, _, rfl, A, e, rfl, he, KidsL.st (fun b hb => ⟨⟨hb.1, hb.2.1⟩, rfl⟩) _ A 0 (HO.out.cold _ hk)⟩
theorem kdn_lt {k : Nat} {v : Int} (ok : TsOk ts) (hk : k < ts.length) (h : (((tk ts k).k : Int) == v) = true) (hv : v ≠ 0) : k + 1 < ts.length := ok.ends k hk fun e => by
  rw [e] at h
  exact hv (beq_iff_eq.1 h).symm
theorem eL3 (HO : Hid (Own w0 X S bs rs F w)) (hi : (ops.toList.drop i).head? = some oi) {ty : TypeId} {x : Operand} (ho : oi.op = .load ty x) {b k : Nat} (hx : a.eval x = .pointer (some ⟨b, k, none⟩)) {t : TypeId} {cs : List Value} {n : Nat} [T : TN ty n] [m : Bi bs b t cs] {sub : List Value} [l : Sb cs k n sub] (hk : ckL ops late listed i = true) (hQ : ∀ c a w, Q (.panic c) (a.put oi.dst (.agg sub.toArray)) w → Q (.panic c) a w) (hwa : Region.wanted oi (yielded ops a.tmps) = true)
    (h : wpE w0 X bs late plan pl2 ops Q f (listed.setIfInBounds i true) (a.put oi.dst (.agg sub.toArray)) w) : wpE w0 X bs late (i :: plan) pl2 ops Q (f + 1) listed a w := by
  have hk2 := Bool.and_eq_true_iff.1 hk
  refine ⟨?_⟩
  refine e_take hi (ckP.all hk2.1).1 (ckP.all hk2.1).2.1 (ckP.all hk2.1).2.2.1 (ckP.all hk2.1).2.2.2 hk2.2 hQ hwa (OwnB.of HO) (fun w' hS => ?_) h.h
  obtain ⟨St', rs', F', h'⟩ := hS
  have hl : (loadCells ⟨b, k, none⟩ n).run Try.prog w' = .ok sub.toArray w' := by
    rw [← l.n]
    refine run_loadCells_list (P := Try.prog) w' ⟨b, k, none⟩ sub (fun j v hv => ?_)
    rw [Addr.add_mid]
    refine h'.cells m.m k j v ?_
    rw [← l.t, List.getElem?_take] at hv
    split at hv
    · exact hv
    · cases hv
  have hd := T.a
  have hz := T.s
  unfold execOp
  simp only [ho, hx, Instr.loadAt, Instr.sureAddr, Sem.run_bind, Sem.run_pure, Result.andThen_ok, loadVar, hd w', if_true, hz w', hl]
def ckX (ops : Array Oper) (late : List Nat) (listed : Array Bool) (c l : Nat) : Bool := (Region.ready .any ops listed == [c, l] || Region.ready .any ops listed == [l, c]) && (!late.contains c && !late.contains l)
theorem eFx {l c n1 : Nat} {rest : List Nat} {ol oc : Oper} (hl : (ops.toList.drop l).head? = some ol) (hc : (ops.toList.drop c).head? = some oc) (hk : ckX ops late listed c l = true) (hwa : Region.wanted ol (yielded ops a.tmps) = true) (hwb : Region.wanted oc (yielded ops a.tmps) = true)
    (h1 : ∀ K : Act → World → Prop, Hid (∀ a' w', OwnB w0 X bs w' → wpE w0 X bs late (rest.take n1) pl2 ops Q f (listed.setIfInBounds l true) a' w' → K a' w') → Oper.wp Try.prog ol a w K Q)
    (h2 : ∀ K : Act → World → Prop, Hid (∀ a' w', OwnB w0 X bs w' → wpE w0 X bs late (rest.drop n1) pl2 ops Q f (listed.setIfInBounds c true) a' w' → K a' w') → Oper.wp Try.prog oc a w K Q) : wpE w0 X bs late (9001 :: l :: c :: n1 :: rest) pl2 ops Q (f + 1) listed a w := by
  have hk2 := Bool.and_eq_true_iff.1 hk
  have hk3 := Bool.and_eq_true_iff.1 hk2.2
  rcases Bool.or_eq_true_iff.1 hk2.1 with hr | hr
  · exact ⟨e_both (beq_iff_eq.1 hr) hc hl (by simpa using hk3.1) (by simpa using hk3.2) hwb hwa (fun K hK => h2 K (Lib.hid fun a' w' s k => hK.out a' w' s k.h)) (fun K hK => h1 K (Lib.hid fun a' w' s k => hK.out a' w' s k.h))⟩
  · exact ⟨e_both (beq_iff_eq.1 hr) hl hc (by simpa using hk3.2) (by simpa using hk3.1) hwa hwb (fun K hK => h1 K (Lib.hid fun a' w' s k => hK.out a' w' s k.h)) (fun K hK => h2 K (Lib.hid fun a' w' s k => hK.out a' w' s k.h))⟩
theorem eR1 (HO : Hid (Own w0 [] S bs rs F w)) (HR : Hid (RS b c ts w0.heap.size w0)) (hi : (ops.toList.drop i).head? = some oi) {ty : TypeId} {x : Operand} (ho : oi.op = .load ty x) {q k j : Nat} (hx : a.eval x = .pointer (some ⟨b, q, none⟩)) {v : Value} [T : T1 ty] (hq : q = k * 6 + j) (hv : (tokC (tk ts k))[j]? = some v) (hkl : k < ts.length) (hk : ckL ops late listed i = true) (hQ : ∀ c a w, Q (.panic c) (a.put oi.dst v) w → Q (.panic c) a w) (hwa : Region.wanted oi (yielded ops a.tmps) = true)
    (h : wpE w0 [] bs late plan pl2 ops Q f (listed.setIfInBounds i true) (a.put oi.dst v) w) : wpE w0 [] bs late (i :: plan) pl2 ops Q (f + 1) listed a w := by
  subst hq
  have hk2 := Bool.and_eq_true_iff.1 hk
  refine ⟨?_⟩
  refine e_take hi (ckP.all hk2.1).1 (ckP.all hk2.1).2.1 (ckP.all hk2.1).2.2.1 (ckP.all hk2.1).2.2.2 hk2.2 hQ hwa (OwnB.of HO) (fun w' hS => ?_) h.h
  obtain ⟨St', rs', F', h'⟩ := hS
  have hl : w'.cell? ⟨b, k * 6 + j, none⟩ = some v := (World.cell?_of_block (h'.kept.block b HR.out.hb List.not_mem_nil)).trans (HR.out.row k hkl j v hv)
  have hd := T.a
  unfold execOp
  simp only [ho, hx, Instr.loadAt, Instr.sureAddr, Sem.run_bind, Sem.run_pure, Result.andThen_ok, loadVar, hd w', Bool.false_eq_true, if_false, run_load, hl]
theorem eR0 (HO : Hid (Own w0 [] S bs rs F w)) (HR : Hid (RS b c ts w0.heap.size w0)) (hi : (ops.toList.drop i).head? = some oi) {ty : TypeId} {x : Operand} (ho : oi.op = .load ty x) {q k : Nat} (hx : a.eval x = .pointer (some ⟨b, q, none⟩)) [T : T1 ty] (hq : q = k * 6) (hkl : k < ts.length) (hk : ckL ops late listed i = true) (hQ : ∀ c a w, Q (.panic c) (a.put oi.dst (.int .i64 ((tk ts k).k : Int))) w → Q (.panic c) a w) (hwa : Region.wanted oi (yielded ops a.tmps) = true)
    (h : wpE w0 [] bs late plan pl2 ops Q f (listed.setIfInBounds i true) (a.put oi.dst (.int .i64 ((tk ts k).k : Int))) w) : wpE w0 [] bs late (i :: plan) pl2 ops Q (f + 1) listed a w := eR1 (j := 0) HO HR hi ho hx hq rfl hkl hk hQ hwa h
end
theorem oWr {G G' : Prop} (h' : G') (h : Hid G' → G := by
    intro h
    (with_reducible refine eGo ?_)
    first
      | refine eL3 HO rfl rfl rfl (by kernel_rfl) (fun _ _ _ h => h) (by rfl) ?_
      | refine eR1 HO HRS rfl rfl rfl rfl rfl (by omega) (by kernel_rfl) (fun _ _ _ h => h) (by rfl) ?_
      | refine eR0 HO HRS rfl rfl rfl rfl (by omega) (by kernel_rfl) (fun _ _ _ h => h) (by rfl) ?_
      | fail
    (try simp only [Act.put, pS])
    with_reducible exact h.out) : Unit → G := fun _ => h (Lib.hid h')
set_option maxRecDepth 100000 in
set_option maxHeartbeats 3200000 in
theorem rexpr_any (p : RPar) (b c : Nat) (ts : List TokF) (d : Nat) (hd : d ≤ 64) (hz : p.z = decide (d = 64)) (HP : d < 64 → ROK p b c ts (d + 1)) (k : Nat) (hk : k < ts.length) : RC 51 #[.agg #[.slice (some ⟨b, 0, none⟩) ts.length c], .int .i64 (k : Int), .int .i64 (d : Int)] (rexpr ts p k) VG b c ts (k + 1) := by
  intro w h
  obtain ⟨R, hR⟩ : ∃ R, rexpr ts p k = R := ⟨_, rfl⟩
  rw [hR]
  have HF := Lib.hid hR
  have HRS := Lib.hid h
  have HO := h.ownN
  have hlen := h.ok.len
  have hkI : (k : Int) < (ts.length : Int) := by omega
  clear h hR
  unfold rexpr at HF
  rcases Nat.lt_or_ge d 64 with hlt | hge
  · have d0 : ((d : Int) == 64) = false := by rw [beq_eq_false_iff_ne]; omega
    have hw1 : wrap64 ((d : Int) + 1) = (d : Int) + 1 := IntWalk.wrap64_in _ (by omega)
    have C_cond := Lib.hid (HP hlt).cond
    have C_expr := Lib.hid (HP hlt).expr
    have hzz : p.z = false := by rw [hz]; exact decide_eq_false (by omega)
    simp only [hzz, Bool.false_eq_true, ↓reduceIte] at HF
    clear hz HP hzz hlt hd
    go_enter Try.func51, Try.ntmps51
    (repeat' (first | ((with_reducible refine zG ?_); first | refine oWx ?_ | (refine oWs ?_; clear HO; intro _ HO)) | ((with_reducible refine to_load ?_); (first | first | refine oR6 HO rfl rfl rfl (by omega) ?_ | refine oR1 HO rfl rfl rfl rfl (by omega) ?_ | refine oR0 HO rfl rfl rfl (by omega) ?_); (try simp only [Act.put, pS])) | ((go_big_may; first | (go_at_call 59; (first | refine arm_rn rfl ?_ (C_cond.out _ ?_) HO HF ?_ ?_ | refine arm_rn rfl ?_ (C_cond.out _ ?_) HO (gr_eta HF) ?_ ?_); (first | with_reducible rfl | rfl | (rw [IntWalk.i64_in _ (by omega)]; rfl)); (omega); (clear HO HF; intro _ _ _ _ _ HO _ hle hlt HF); rotate_left; (clear HO HF; intro _ _ _ HO hq HE); rotate_left) | (go_at_call 60; refine arm_rlval HO rfl rfl ?_; clear HO; intro _ z hz HO; cases z <;> (try simp only [hz, ↓reduceIte, bZ] at HF)) | (go_at_call 61; refine arm_among [32, 61, 32, 43, 61, 32, 45, 61, 32, 42, 61, 32, 47, 61, 32, 37, 61, 32, 94, 61, 32] (by decide) (by decide) (by omega) HO rfl rfl ?_; clear HO; intro _ z hz hlt HO; cases z <;> (try simp only [hz, ↓reduceIte, bZ] at HF) <;> (first | (replace hlt := hlt rfl) | clear hlt))) <;> (try dsimp only)) | go_values | go_skip | go_guarded | go_step | go_upon | (go_ite <;> go_prune <;> (try go_simp))))
    all_goals (first | (refine oBc HO (t := 6) (ty := 116) rfl rfl rfl ?_; exact rFin) | skip)
    simp only [hw1]
    have HO0 := HO
    have HF0 := HF
    go_cut [9] from 44 to 51 (fun v wx => CutG HO0 HF0 (k + 2) v wx)
    case first =>
      refine eBe HO [9] [2, 6, 0, 1, 3, 4, 8, 5, 7] [9] ?_
      clear HO
      intro _ HO
      (repeat' (first | ((with_reducible refine eGo ?_); first | (refine eFl HO rfl rfl rfl (by kernel_rfl) (by rfl) (by rfl) ?_ (fun K hK => ?_); (clear HO; intro _ HO); (try simp only [Act.put, pS]); rotate_left) | (refine eFm HO rfl rfl (by kernel_rfl) (by rfl) ?_; clear HO; intro _ HO; (try simp only [Act.put, pS]))) | ((with_reducible refine zG ?_); first | (refine oWf ?_; intro K hK) | refine oWe ?_ | refine oWr ?_ | refine oWp ?_) | ((with_reducible refine zG ?_); first | (refine oWg ?_; intro K hK) | (refine oWk ?_; clear hK K) | (refine oWs ?_; clear HO; intro _ HO)) | ((first | (go_at_call 52; refine arm_lines (by omega) HO rfl rfl ?_; clear HO; intro _ q hq hle hlt HO; (try simp only [hq] at HF)) | (go_at_call 51; (first | refine arm_rn rfl ?_ (C_expr.out _ ?_) HO HF ?_ ?_ | refine arm_rn rfl ?_ (C_expr.out _ ?_) HO (gr_eta HF) ?_ ?_); (first | with_reducible rfl | rfl | (rw [IntWalk.i64_in _ (by omega)]; rfl)); (omega); (clear HO HF; intro _ _ _ _ _ HO _ hle hlt HF); rotate_left; (clear HO HF; intro _ _ _ HO hq HE); rotate_left)) <;> (try dsimp only)) | ((with_reducible refine eOp ?_); go_simp)))
      all_goals (go_wp2_with fail; go_meet; first | exact .inl ⟨_, _, _, _, _, rfl, HO, by assumption, by omega, by omega, HF⟩ | exact .inr ⟨_, _, _, rfl, HO, by assumption, HE⟩)
    case' rest =>
      clear HO HF
      rcases hcut with ⟨B9, x9, A9, c9, k9, rfl, HO, hl9, hle9, hlt9, HF⟩ | ⟨B9, k9, q9, rfl, HO, hq9, HE⟩
    all_goals clear HO0 HF0
    all_goals
      (repeat' (first | ((with_reducible refine zG ?_); first | refine oWx ?_ | (refine oWs ?_; clear HO; intro _ HO)) | ((go_big_may; first | (go_at_call 62; refine arm_left (kind := 7) HO rfl rfl rfl rfl mM mM (by assumption) (by assumption) ?_; clear HO; intro _ _ HO)) <;> (try dsimp only)) | go_values | go_skip | go_guarded | go_step | go_upon | (go_ite <;> go_prune <;> (try go_simp))))
      all_goals (refine oBc HO (t := 6) (ty := 116) rfl rfl rfl ?_; exact rFin)
  · obtain rfl : d = 64 := by omega
    have hzz : p.z = true := by rw [hz]; rfl
    simp only [hzz, ↓reduceIte] at HF
    clear hz HP hzz
    go_enter Try.func51, Try.ntmps51
    (repeat' (first | ((with_reducible refine zG ?_); first | refine oWx ?_ | (refine oWs ?_; clear HO; intro _ HO)) | go_values | go_skip | go_guarded | go_step | go_upon | (go_ite <;> go_prune <;> (try go_simp))))
    all_goals (refine oBc HO (t := 6) (ty := 116) rfl rfl rfl ?_; exact rFin)
end Go.Proofs.Ythipoccbeloceaa
