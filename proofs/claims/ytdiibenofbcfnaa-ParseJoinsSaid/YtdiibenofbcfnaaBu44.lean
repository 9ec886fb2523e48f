/- Several texts put together: JoiD. -/
import Derived.Test.YtdiibenofbcfnaaBu42
import Derived.Test.YtdiibenofbcfnaaBu41
import Derived.Test.YtdiibenofbcfnaaBu43
set_option linter.unusedSimpArgs false
set_option linter.unusedVariables false
namespace Go.Proofs.Ytdiibenofbcfnaa
open Go.RowKit
section
variable {w0 w W : World} {X : List Nat} {S : World → Prop} {bs : List Bx} {rs : List Rw} {F : List Cold} {T : Ending → World → Prop}
theorem arm_awake {KF : FuncId} {args : Array Value} (HO : Hid (Own w0 X S bs rs F w)) (hK : KF = 5) (hargs : args = #[]) (h : ∀ W, Hid (Own w0 X S bs rs F W) → T (.returned (.bool true)) W) : Calls Try.prog KF args w T := by
  subst hK hargs
  refine (awake13_any w).mono fun e W hp => ?_
  obtain ⟨rfl, q⟩ := hp
  exact h W (Lib.hid (HO.out.next q))
theorem rb_kept {A : Option Addr} {l : List Nat} (HO : Hid (Own w0 [] S bs rs F w)) (h : Hid (RB w0 w0.heap.size A l)) : Hid (RB w w.heap.size A l) :=
  Lib.hid ((h.out.keep fun p hp => World.cell?_of_block (HO.out.kept.block p.block hp List.not_mem_nil)).more HO.out.kept.size)
theorem rb_cold {A : Option Addr} {l : List Nat} (HO : Hid (Own w0 X S bs rs (Cold.row A (bvs l) :: F) w)) (hb : ∀ x ∈ l, x < 256) : Hid (RB w w.heap.size A l) :=
  Lib.hid (rb_rowAt (HO.out.cold _ List.mem_cons_self) hb fun b hb => hb.2.1)
theorem one_bytes {v : Value} {l : List Nat} {n : Nat} (HO : Hid (Own w0 X S bs (⟨5, 1, v, n, bvs l⟩ :: rs) F w)) (hn : n = l.length) : ∃ A c, v = .slice A l.length c ∧ l.length ≤ c ∧ Hid (Own w0 X S bs rs (Cold.row A (bvs l) :: F) w) := by
  subst hn
  obtain ⟨A, c, e, hc, h⟩ := HO.out.freezeG (fun h => by have h' : l.length = 0 := h; show bvs l = []; rw [List.length_eq_zero_iff.1 h']; rfl)
  exact ⟨A, c, e, hc, Lib.hid h⟩
theorem own_tree {A B : Option Addr} {fe : List ElF} {re : List ElR} (HO : Hid (Own w0 X S bs rs F w)) (m : Cold.tree A B fe re ∈ F) : TreeAt w (fun b => b < w.heap.size) A B fe re := (HO.out.cold _ m).st fun b hb => ⟨hb.2.1, rfl⟩
theorem arm_same {KF : FuncId} {args : Array Value} {A3 B3 A7 A8 : Option Addr} {fe3 fe : List ElF} {re3 re : List ElR} {c3 e3 c e : Nat} (HO : Hid (Own w0 X S bs rs F w)) (m3 : Cold.tree A3 B3 fe3 re3 ∈ F) (hT : TreeAt w (fun b => b < w.heap.size) A7 A8 fe re) (hf : fe3.map (fun x => erF x.1) = fe.map (fun x => erF x.1)) (hr : re3.map (fun x => erR x.1) = re.map (fun x => erR x.1))
    (hFW : Hid (FewT 20000 20000 ⟨fe3.map (·.1), re3.map (·.1)⟩)) (hc3 : Hid (fe3.length ≤ c3 ∧ re3.length ≤ e3)) (hc : fe.length ≤ c) (he : re.length ≤ e) (hK : KF = 7) (hargs : args = #[.agg #[.slice A3 fe3.length c3, .slice B3 re3.length e3], .agg #[.slice A7 fe.length c, .slice A8 re.length e], .bool false])
    (h : ∀ W, Hid (Own w0 X S bs rs F W) → T (.returned (.bool true)) W) : Calls Try.prog KF args w T := by
  subst hK hargs
  have l1 : fe.length = fe3.length := by have := congrArg List.length hf; simpa using this.symm
  have l2 : re.length = re3.length := by have := congrArg List.length hr; simpa using this.symm
  have k1 : fe3.length ≤ 20000 := by simpa using hFW.out.1
  have k2 : re3.length ≤ 20000 := by simpa using hFW.out.2
  rw [l1] at hc
  rw [l2] at he
  rw [l1, l2]
  refine (same_any (N := 20000) (by decide) fe3.length re3.length fe3 fe re3 re A3 B3 A7 A8 c3 e3 c e w rfl l1 rfl l2 k1 k2 hc3.out.1 hc3.out.2 hc he (own_tree HO m3) hT hf hr (fun x hx => hFW.out.3 x.1 (List.mem_map_of_mem hx)) (fun x hx => hFW.out.4 x.1 (List.mem_map_of_mem hx))).mono fun e W hp => ?_
  obtain ⟨rfl, q⟩ := hp
  exact h W (Lib.hid (HO.out.next q))
theorem oP1 {o : Oper} {a : Act} {K : Act → World → Prop} {Q : Exit → Act → World → Prop} (HO : Hid (Own w0 [] S bs rs F w)) {ty : TypeId} {x : Operand} (ho : o.op = .load ty x) {p : Addr} (hx : a.eval x = .pointer (some p)) {v : Value} [T : T1 ty] (hb : p.block < w0.heap.size) (hm : w0.cell? p = some v) (h : K (a.put o.dst v) w) : WOp Try.prog o a w K Q := by
  have hl : w.cell? p = some v := (World.cell?_of_block (HO.out.kept.block p.block hb List.not_mem_nil)).trans hm
  have hd := T.a
  unfold WOp Oper.wp execOp
  simp only [ho, hx, Instr.loadAt, Instr.sureAddr, Sem.run_bind, Sem.run_pure, Result.andThen_ok, loadVar, hd w, Bool.false_eq_true, if_false, run_load, hl]
  exact h
end
set_option maxRecDepth 100000 in
set_option maxHeartbeats 3200000 in
theorem pjoins_law {A B : Option Addr} {ca cb : Nat} {l m : List Nat} (w : World) (hA : RB w w.heap.size A l) (hB : RB w w.heap.size B m) (hca : l.length ≤ ca) (hcb : m.length ≤ cb) :
    Calls Try.prog 3 #[.slice A l.length ca, .slice B m.length cb] w fun e w' => e = .returned (.bool true) ∧ Below w.heap.size w w' := by
  have HO : Hid (Own w [] (fun _ => True) [] [] [] w) := Lib.hid (Own.init trivial (fun _ _ _ _ _ => trivial))
  have HA := Lib.hid hA
  have HB := Lib.hid hB
  clear hA hB
  go_enter Try.func3, Try.ntmps3
  by_cases h1 : 400 < l.length
  · have d1 : decide ((400 : Int) < (l.length : Int)) = true := decide_eq_true (by exact_mod_cast h1)
    (repeat' (first | (with_reducible first | refine oXt ?_ | refine oXb ?_) | ((with_reducible refine ib_miss ?_ ?_); exact rfl) | ((first | ((with_reducible refine to_load ?_); first | refine oL1 HO rfl rfl ?_ | refine oL2 HO rfl rfl ?_ | refine oL3 HO rfl rfl ?_) | ((first | with_reducible refine oAl HO ?_); clear HO; intro _ HO)); (try simp only [Act.put, pS0, pS1, pS2])) | ((first | ((with_reducible refine to_store ?_); first | refine oT1 HO rfl rfl rfl ?_ | refine oT2 HO rfl rfl rfl (by rfl) ?_ | refine oT3 HO rfl rfl rfl rfl ?_) | with_reducible refine ab_drew HO ?_); clear HO; intro _ HO) | ((with_reducible refine ab_junk HO 9 ?_); clear HO; intro _ HO HB) | ((go_big_may; first | (go_at_call 5; refine arm_awake HO rfl rfl ?_; clear HO; intro _ HO)) <;> (try dsimp only)) | go_values | go_skip | go_guarded | go_step | go_upon | (go_ite <;> go_prune <;> (try go_simp))))
    refine bp_tmp (t := 4) rfl rfl rfl ?_
    exact ⟨rfl, HO.out.kept.below⟩
  have d1 : decide ((400 : Int) < (l.length : Int)) = false := decide_eq_false (fun h => h1 (by exact_mod_cast h))
  by_cases h2 : 400 < m.length
  · have d2 : decide ((400 : Int) < (m.length : Int)) = true := decide_eq_true (by exact_mod_cast h2)
    (repeat' (first | (with_reducible first | refine oXt ?_ | refine oXb ?_) | ((with_reducible refine ib_miss ?_ ?_); exact rfl) | ((first | ((with_reducible refine to_load ?_); first | refine oL1 HO rfl rfl ?_ | refine oL2 HO rfl rfl ?_ | refine oL3 HO rfl rfl ?_) | ((first | with_reducible refine oAl HO ?_); clear HO; intro _ HO)); (try simp only [Act.put, pS0, pS1, pS2])) | ((first | ((with_reducible refine to_store ?_); first | refine oT1 HO rfl rfl rfl ?_ | refine oT2 HO rfl rfl rfl (by rfl) ?_ | refine oT3 HO rfl rfl rfl rfl ?_) | with_reducible refine ab_drew HO ?_); clear HO; intro _ HO) | ((with_reducible refine ab_junk HO 9 ?_); clear HO; intro _ HO HB) | ((go_big_may; first | (go_at_call 5; refine arm_awake HO rfl rfl ?_; clear HO; intro _ HO)) <;> (try dsimp only)) | go_values | go_skip | go_guarded | go_step | go_upon | (go_ite <;> go_prune <;> (try go_simp))))
    refine bp_tmp (t := 4) rfl rfl rfl ?_
    exact ⟨rfl, HO.out.kept.below⟩
  have d2 : decide ((400 : Int) < (m.length : Int)) = false := decide_eq_false (fun h => h2 (by exact_mod_cast h))
  have hlast : Hid (l.length = 0 ∨ ∃ y ad, A = some ad ∧ 0 < l.length ∧ l.getLast? = some y ∧ (ad.add (l.length - 1)).block < w.heap.size ∧ w.cell? (ad.add (l.length - 1)) = some (.int .u8 (y : Int))) := Lib.hid (by
    rcases Nat.eq_zero_or_pos l.length with h0 | h0
    · exact .inl h0
    · right
      obtain ⟨ad, e, hb, hc⟩ := HA.out.2 h0
      exact ⟨l[l.length - 1], ad, e, h0, by rw [List.getLast?_eq_getElem?, List.getElem?_eq_getElem], by rw [block_of_add]; exact hb, hc _ (by omega)⟩)
  rcases hlast.out with h0 | ⟨y, ad, rfl, hz, hy, hsb, hcell⟩
  case' inl =>
    have d3 : decide ((0 : Int) < (l.length : Int)) = false := decide_eq_false (by omega)
    have hgl : Hid (l.getLast? ≠ some 92) := Lib.hid (by rw [List.length_eq_zero_iff.1 h0]; simp)
    have hz : ¬ 0 < l.length := by omega
    clear h0
  case' inr =>
    have d3 : decide ((0 : Int) < (l.length : Int)) = true := decide_eq_true (by omega)
    by_cases h92 : y = 92
    · have hyb : ((y : Int) == 92) = true := by rw [h92]; rfl
      have h1' : l.length ≤ 400 := by omega
      clear hlast h1 h2 hy h92
      (repeat' (first | (with_reducible first | refine oXt ?_ | refine oXb ?_) | ((with_reducible refine ib_miss ?_ ?_); exact rfl) | ((first | ((with_reducible refine to_load ?_); first | refine oL1 HO rfl rfl ?_ | refine oL2 HO rfl rfl ?_ | refine oL3 HO rfl rfl ?_ | refine oP1 HO rfl rfl hsb hcell ?_) | ((first | with_reducible refine oAl HO ?_); clear HO; intro _ HO)); (try simp only [Act.put, pS0, pS1, pS2])) | ((first | ((with_reducible refine to_store ?_); first | refine oT1 HO rfl rfl rfl ?_ | refine oT2 HO rfl rfl rfl (by rfl) ?_ | refine oT3 HO rfl rfl rfl rfl ?_) | with_reducible refine ab_drew HO ?_); clear HO; intro _ HO) | ((with_reducible refine ab_junk HO 9 ?_); clear HO; intro _ HO HB) | ((go_big_may; first | (go_at_call 5; refine arm_awake HO rfl rfl ?_; clear HO; intro _ HO)) <;> (try dsimp only)) | go_values | go_skip | go_guarded | go_step | go_upon | (go_ite <;> go_prune <;> (try go_simp))))
      refine bp_tmp (t := 4) rfl rfl rfl ?_
      exact ⟨rfl, HO.out.kept.below⟩
    have hyb : ((y : Int) == 92) = false := by rw [beq_eq_false_iff_ne]; exact fun h => h92 (by exact_mod_cast h)
    have hgl : Hid (l.getLast? ≠ some 92) := Lib.hid (by rw [hy]; simpa using h92)
    clear hy h92
  all_goals
    clear hlast
    have h1' : l.length ≤ 400 := by omega
    have h2' : m.length ≤ 400 := by omega
    clear h1 h2
    (repeat' (go_not_at_region 9; first | (with_reducible first | refine oXt ?_ | refine oXb ?_) | ((with_reducible refine ib_miss ?_ ?_); exact rfl) | ((first | ((with_reducible refine to_load ?_); first | refine oL1 HO rfl rfl ?_ | refine oL2 HO rfl rfl ?_ | refine oL3 HO rfl rfl ?_ | refine oP1 HO rfl rfl hsb hcell ?_) | ((first | with_reducible refine oAl HO ?_); clear HO; intro _ HO)); (try simp only [Act.put, pS0, pS1, pS2])) | ((first | ((with_reducible refine to_store ?_); first | refine oT1 HO rfl rfl rfl ?_ | refine oT2 HO rfl rfl rfl (by rfl) ?_ | refine oT3 HO rfl rfl rfl rfl ?_) | with_reducible refine ab_drew HO ?_); clear HO; intro _ HO) | ((with_reducible refine ab_junk HO 9 ?_); clear HO; intro _ HO HB) | ((go_big_may; first | (go_at_call 5; refine arm_awake HO rfl rfl ?_; clear HO; intro _ HO) | (go_at_call 6; first | (refine arm_parse (src := l) HO (rb_kept HO HA) hca (by omega) rfl rfl ?_ ?_; (clear HO; intro p1 k1 g1 W HE1 HO); rotate_left; (clear HO; intro fe1 re1 A1 c1 B1 e1 W HE1 HC1 HO); rotate_left) | (refine arm_parse (src := m) HO (rb_kept HO HB) hcb (by omega) rfl rfl ?_ ?_; (clear HO; intro p2 k2 g2 W HE2 HO); rotate_left; (clear HO; intro fe2 re2 A2 c2 B2 e2 W HE2 HC2 HO); rotate_left))) <;> (try dsimp only)) | go_values | go_skip | go_guarded | go_step | go_upon | (go_ite <;> go_prune <;> (try go_simp))))
    all_goals (try (refine bp_tmp (t := 4) rfl rfl rfl ?_; exact ⟨rfl, HO.out.kept.below⟩))
    (repeat' (first | (with_reducible first | refine oXt ?_ | refine oXb ?_) | ((with_reducible refine ib_miss ?_ ?_); exact rfl) | ((first | ((with_reducible refine to_load ?_); first | refine oL1 HO rfl rfl ?_ | refine oL2 HO rfl rfl ?_ | refine oL3 HO rfl rfl ?_) | ((first | with_reducible refine oAl HO ?_); clear HO; intro _ HO)); (try simp only [Act.put, pS0, pS1, pS2])) | ((first | ((with_reducible refine to_store ?_); first | refine oT1 HO rfl rfl rfl ?_ | refine oT2 HO rfl rfl rfl (by rfl) ?_ | refine oT3 HO rfl rfl rfl rfl ?_) | with_reducible refine ab_drew HO ?_); clear HO; intro _ HO) | ((with_reducible refine ab_junk HO 9 ?_); clear HO; intro _ HO HB) | ((with_reducible refine ab_row HO 5 1 0 ?_ ?_ ?_); (exact rfl); (decide); clear HO; intro _ HO; replace HO : Hid (Own w [] (fun _ => True) _ [⟨5, 1, _, ([] : List Nat).length, bvs []⟩] _ _) := HO) | ((with_reducible refine ab_junk HO 5 ?_); clear HO; intro _ HO HQ) | ((with_reducible refine to_append ?_); first | (refine wo_appB (ys := l) HO rfl rfl rfl (rb_kept HO HA) (by simp; omega) ?_; clear HO; intro _ _ _ hcap HO; (try simp only [Act.put, pS0, pS1, pS2])) | (refine wo_appU HO rfl rfl rfl HQ 10 rfl (by simp; omega) ?_; clear HO HQ; intro _ _ _ hcap HO; (try simp only [Act.put, pS0, pS1, pS2])) | (refine wo_appB (ys := m) HO rfl rfl rfl (rb_kept HO HB) (by simp; omega) ?_; clear HO; intro _ _ _ hcap HO; (try simp only [Act.put, pS0, pS1, pS2]))) | go_values | go_skip | go_guarded | go_step | go_upon | (go_ite <;> go_prune <;> (try go_simp))))
    rw [show ([] ++ l ++ [10] ++ m : List Nat) = l ++ 10 :: m by simp] at HO
    have hlen : (l ++ 10 :: m).length = l.length + (m.length + 1) := by simp
    rw [← hlen]
    have hbm : ∀ x ∈ l ++ 10 :: m, x < 256 := fun x hx => by
      rcases List.mem_append.1 hx with hx | hx
      · exact HA.out.1 x hx
      · rcases List.mem_cons.1 hx with rfl | hx
        · decide
        · exact HB.out.1 x hx
    obtain ⟨A9, c9, e9, hc9, HO9⟩ := one_bytes HO rfl
    injection e9 with q1 _ q2
    subst q1 q2
    clear HO hcap
    obtain ⟨U, hU, hTR⟩ := joinsS HA.out.1 HB.out.1 hgl.out (by rw [hlen]; omega) HE1.out HE2.out
    have HL := Lib.hid hlen
    clear hlen
    refine arm_parse (src := l ++ 10 :: m) HO9 (rb_cold HO9 hbm) hc9 (by rw [HL.out]; omega) rfl rfl ?_ ?_
    · intro p k b W HE _
      have h := HE.out
      rw [hU] at h
      cases h
    intro fe3 re3 A3 c3 B3 e3 W HE3 HC3 HO
    have hU3 : (⟨fe3.map (·.1), re3.map (·.1)⟩ : TreeT) = U := by
      have h := HE3.out
      rw [hU] at h
      injection h with h
      exact h.symm
    subst hU3
    have HTR := Lib.hid hTR
    have HFW := Lib.hid (few_tree hbm hU)
    have HBM := Lib.hid hbm
    have hb1 := few_tree (HA.out.1) HE1.out
    have hb2 := few_tree (HB.out.1) HE2.out
    have hn1 : fe1.length ≤ 20000 := by simpa using hb1.1
    have hn2 : fe2.length ≤ 20000 := by simpa using hb2.1
    have hn3 : re1.length ≤ 20000 := by simpa using hb1.2
    have hn4 : re2.length ≤ 20000 := by simpa using hb2.2
    clear hU hTR HO9 hbm hb1 hb2
    dsimp only
    (repeat' (go_not_at_region 10; first | (with_reducible first | refine oXt ?_ | refine oXb ?_) | ((with_reducible refine ib_miss ?_ ?_); exact rfl) | ((first | ((with_reducible refine to_load ?_); first | refine oL1 HO rfl rfl ?_ | refine oL2 HO rfl rfl ?_ | refine oL3 HO rfl rfl ?_) | ((first | with_reducible refine oAl HO ?_); clear HO; intro _ HO)); (try simp only [Act.put, pS0, pS1, pS2])) | ((first | ((with_reducible refine to_store ?_); first | refine oT1 HO rfl rfl rfl ?_ | refine oT2 HO rfl rfl rfl (by rfl) ?_ | refine oT3 HO rfl rfl rfl rfl ?_) | with_reducible refine ab_drew HO ?_); clear HO; intro _ HO) | ((with_reducible refine ab_junk HO 9 ?_); clear HO; intro _ HO HB) | go_values | go_skip | go_guarded | go_step | go_upon | (go_ite <;> go_prune <;> (try go_simp))))
    refine eBe HO [8] [1, 4, 2, 5, 0, 3, 6, 7] [8] ?_
    clear HO
    intro _ HO
    (repeat' (first | ((with_reducible refine eGo ?_); first | refine eCa rfl rfl (by kernel_rfl) (by rfl) (fun K hK => ?_) | refine eSl rfl rfl (by kernel_rfl) (by rfl) (fun K hK => ?_) | ((first | refine eL1 HO rfl rfl rfl (by kernel_rfl) (fun _ _ _ h => h) (by rfl) ?_ | refine eL2 HO rfl rfl rfl (by kernel_rfl) (fun _ _ _ h => h) (by rfl) ?_ | refine ePu HO rfl (by kernel_rfl) (fun _ _ _ h => h) (by rfl) (eFi rfl rfl ⟨_, _, _, _, _, _, _, rfl, rfl, inferInstance⟩) ?_ | refine ePu HO rfl (by kernel_rfl) (fun _ _ _ h => h) (by rfl) (by intro _; go_simp; (try with_reducible rfl)) ?_); (try simp only [Act.put, pS0, pS1, pS2])) | refine eA1 rfl (by kernel_rfl) (by rfl) (fun K hK => ?_) | refine eA2 rfl (by kernel_rfl) (by rfl) (fun K hK => ?_) | refine eEe (by kernel_rfl) ?_) | ((with_reducible refine eHo ?_); first | (refine eA4 rfl (by kernel_rfl) (fun _ _ _ h => h) (by rfl) (by intro _; go_simp; (try with_reducible rfl)) ?_; (try simp only [Act.put, pS0, pS1, pS2])) | refine eA3 rfl (by kernel_rfl) (by rfl) (fun K hK => ?_) | refine eDo (by kernel_rfl) ?_) | ((with_reducible show K _ _); (first | with_reducible refine hK.out _ _ (OwnB.of HO) ?_ | with_reducible refine hK.out _ _ ?_); clear hK K; (try simp only [Act.put, pS0, pS1, pS2])) | ((with_reducible refine to_store ?_); (first | refine oT1 HO rfl rfl rfl ?_ | refine oT2 HO rfl rfl rfl (by rfl) ?_ | refine oT3 HO rfl rfl rfl rfl ?_); clear HO; intro _ HO) | ((with_reducible refine to_append ?_); first | (refine wo_appFs (els := []) HO rfl rfl rfl (by repeat (first | exact mH | apply mT)) (by simp; omega) ?_; clear HO; intro _ _ _ hcap HO; (try simp only [Act.put, pS0, pS1, pS2])) | (refine wo_appFs HO rfl rfl rfl (by repeat (first | exact mH | apply mT)) (by simp; omega) ?_; clear HO; intro _ _ _ hcap HO; (try simp only [Act.put, pS0, pS1, pS2]))) | ((with_reducible refine ab_row HO 55 11 0 ?_ ?_ ?_); (exact rfl); (decide); clear HO; intro _ HO)| ((with_reducible refine ab_junk HO 9 ?_); clear HO; intro _ HO HB) | ((with_reducible refine eOp ?_); go_simp)))
    (repeat' (go_not_at_region 11; first | (with_reducible first | refine oXt ?_ | refine oXb ?_) | ((with_reducible refine ib_miss ?_ ?_); exact rfl) | ((first | ((with_reducible refine to_load ?_); first | refine oL1 HO rfl rfl ?_ | refine oL2 HO rfl rfl ?_ | refine oL3 HO rfl rfl ?_) | ((first | with_reducible refine oAl HO ?_); clear HO; intro _ HO)); (try simp only [Act.put, pS0, pS1, pS2])) | ((first | ((with_reducible refine to_store ?_); first | refine oT1 HO rfl rfl rfl ?_ | refine oT2 HO rfl rfl rfl (by rfl) ?_ | refine oT3 HO rfl rfl rfl rfl ?_) | with_reducible refine ab_drew HO ?_); clear HO; intro _ HO) | ((with_reducible refine ab_junk HO 9 ?_); clear HO; intro _ HO HB) | go_values | go_skip | go_guarded | go_step | go_upon | (go_ite <;> go_prune <;> (try go_simp))))
    refine eBe HO [8] [1, 4, 2, 5, 0, 3, 6, 7] [8] ?_
    clear HO
    intro _ HO
    (repeat' (first | ((with_reducible refine eGo ?_); first | refine eCa rfl rfl (by kernel_rfl) (by rfl) (fun K hK => ?_) | refine eSl rfl rfl (by kernel_rfl) (by rfl) (fun K hK => ?_) | ((first | refine eL1 HO rfl rfl rfl (by kernel_rfl) (fun _ _ _ h => h) (by rfl) ?_ | refine eL2 HO rfl rfl rfl (by kernel_rfl) (fun _ _ _ h => h) (by rfl) ?_ | refine ePu HO rfl (by kernel_rfl) (fun _ _ _ h => h) (by rfl) (eFi rfl rfl ⟨_, _, _, _, _, _, _, rfl, rfl, inferInstance⟩) ?_ | refine ePu HO rfl (by kernel_rfl) (fun _ _ _ h => h) (by rfl) (by intro _; go_simp; (try with_reducible rfl)) ?_); (try simp only [Act.put, pS0, pS1, pS2])) | refine eA1 rfl (by kernel_rfl) (by rfl) (fun K hK => ?_) | refine eA2 rfl (by kernel_rfl) (by rfl) (fun K hK => ?_) | refine eEe (by kernel_rfl) ?_) | ((with_reducible refine eHo ?_); first | (refine eA4 rfl (by kernel_rfl) (fun _ _ _ h => h) (by rfl) (by intro _; go_simp; (try with_reducible rfl)) ?_; (try simp only [Act.put, pS0, pS1, pS2])) | refine eA3 rfl (by kernel_rfl) (by rfl) (fun K hK => ?_) | refine eDo (by kernel_rfl) ?_) | ((with_reducible show K _ _); (first | with_reducible refine hK.out _ _ (OwnB.of HO) ?_ | with_reducible refine hK.out _ _ ?_); clear hK K; (try simp only [Act.put, pS0, pS1, pS2])) | ((with_reducible refine to_store ?_); (first | refine oT1 HO rfl rfl rfl ?_ | refine oT2 HO rfl rfl rfl (by rfl) ?_ | refine oT3 HO rfl rfl rfl rfl ?_); clear HO; intro _ HO) | ((with_reducible refine to_append ?_); first | (refine wo_appRs (els := []) HO rfl rfl rfl (by repeat (first | exact mH | apply mT)) (by simp; omega) ?_; clear HO; intro _ _ _ hcap2 HO; (try simp only [Act.put, pS0, pS1, pS2])) | (refine wo_appRs HO rfl rfl rfl (by repeat (first | exact mH | apply mT)) (by simp; omega) ?_; clear HO; intro _ _ _ hcap2 HO; (try simp only [Act.put, pS0, pS1, pS2]))) | ((with_reducible refine ab_row HO 42 12 0 ?_ ?_ ?_); (exact rfl); (decide); clear HO; intro _ HO)| ((with_reducible refine ab_junk HO 9 ?_); clear HO; intro _ HO HB) | ((with_reducible refine eOp ?_); go_simp)))
    obtain ⟨A8, c8, e8, hc8, HO8⟩ := HO.out.freezeG (fun h => by rw [List.length_eq_zero_iff.1 h]; rfl)
    injection e8 with q1 _ q2
    subst q1 q2
    obtain ⟨A7, c7, e7, hc7, HO7⟩ := HO8.freezeG (fun h => by rw [List.length_eq_zero_iff.1 h]; rfl)
    injection e7 with q1 _ q2
    subst q1 q2
    clear HO HO8
    have HO := Lib.hid HO7
    clear HO7
    (repeat' (first | (with_reducible first | refine oXt ?_ | refine oXb ?_) | ((with_reducible refine ib_miss ?_ ?_); exact rfl) | ((first | ((with_reducible refine to_load ?_); first | refine oL1 HO rfl rfl ?_ | refine oL2 HO rfl rfl ?_ | refine oL3 HO rfl rfl ?_) | ((first | with_reducible refine oAl HO ?_); clear HO; intro _ HO)); (try simp only [Act.put, pS0, pS1, pS2])) | ((first | ((with_reducible refine to_store ?_); first | refine oT1 HO rfl rfl rfl ?_ | refine oT2 HO rfl rfl rfl (by rfl) ?_ | refine oT3 HO rfl rfl rfl rfl ?_) | with_reducible refine ab_drew HO ?_); clear HO; intro _ HO) | ((with_reducible refine ab_junk HO 9 ?_); clear HO; intro _ HO HB) | go_values | go_skip | go_guarded | go_step | go_upon | (go_ite <;> go_prune <;> (try go_simp))))
    have t1 := own_tree (A := A1) (B := B1) (fe := fe1) (re := re1) HO (by repeat (first | exact mH | apply mT))
    have t2 := own_tree (A := A2) (B := B2) (fe := fe2) (re := re2) HO (by repeat (first | exact mH | apply mT))
    have g1 := HTR.out.f
    have g2 := HTR.out.r
    simp only [List.map_map, ← List.map_append] at g1 g2
    refine arm_same (fe := fe1 ++ fe2) (re := re1 ++ re2) HO (A3 := A3) (B3 := B3) (fe3 := fe3) (re3 := re3) (by repeat (first | exact mH | apply mT)) ⟨RowAt.st (fun b hb => ⟨hb.2.1, rfl⟩) (HO.out.cold _ (mH)), RowAt.st (fun b hb => ⟨hb.2.1, rfl⟩) (HO.out.cold _ (mT mH)), fun x hx => (List.mem_append.1 hx).elim (t1.ef x) (t2.ef x), fun x hx => (List.mem_append.1 hx).elim (t1.er x) (t2.er x)⟩ g1 g2 HFW HC3 hc7 hc8 rfl (by simp) ?_
    clear t1 t2 g1 g2 HO
    intro _ HO
    dsimp only
    (repeat' (first | (with_reducible first | refine oXt ?_ | refine oXb ?_) | ((with_reducible refine ib_miss ?_ ?_); exact rfl) | ((first | ((with_reducible refine to_load ?_); first | refine oL1 HO rfl rfl ?_ | refine oL2 HO rfl rfl ?_ | refine oL3 HO rfl rfl ?_) | ((first | with_reducible refine oAl HO ?_); clear HO; intro _ HO)); (try simp only [Act.put, pS0, pS1, pS2])) | ((first | ((with_reducible refine to_store ?_); first | refine oT1 HO rfl rfl rfl ?_ | refine oT2 HO rfl rfl rfl (by rfl) ?_ | refine oT3 HO rfl rfl rfl rfl ?_) | with_reducible refine ab_drew HO ?_); clear HO; intro _ HO) | ((with_reducible refine ab_junk HO 9 ?_); clear HO; intro _ HO HB) | go_values | go_skip | go_guarded | go_step | go_upon | (go_ite <;> go_prune <;> (try go_simp))))
    refine bp_tmp (t := 4) rfl rfl rfl ?_
    exact ⟨rfl, HO.out.kept.below⟩
theorem pjoins_w (A : Option Addr) (ca : Nat) (l : List Nat) (B : Option Addr) (cb : Nat) (m : List Nat) (w : World) (hA : RB w w.heap.size A l) (hca : l.length ≤ ca) (_ : A = none → l = [] ∧ ca = 0) (hB : RB w w.heap.size B m) (hcb : m.length ≤ cb) (_ : B = none → m = [] ∧ cb = 0) :
    Calls Try.prog 3 #[.slice A l.length ca, .slice B m.length cb] w fun e w' => e = .returned (.bool true) ∧ Below w.heap.size w w' := pjoins_law w hA hB hca hcb
end Go.Proofs.Ytdiibenofbcfnaa
