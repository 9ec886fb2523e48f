/- Several texts put together: JoiE. -/
import Derived.Test.YtdiibenofbcfnaaBu44
import Derived.Test.YtdiibenofbcfnaaBu42
set_option linter.unusedSimpArgs false
set_option linter.unusedVariables false
namespace Go.Proofs.Ytdiibenofbcfnaa
open Go.RowKit
def lit1 : List Nat := [35, 32, 97, 32, 99, 111, 109, 109, 101, 110, 116, 10, 32, 9, 10]
def lit2 : List Nat := [32, 35, 32, 125, 10, 10]
theorem blankL_eq (l : List Nat) : (lit1 ++ l) ++ lit2 = blankL l := by
  show _ = [35, 32, 97, 32, 99, 111, 109, 109, 101, 110, 116] ++ 10 :: ([32, 9] ++ 10 :: ((l ++ [32, 35, 32, 125]) ++ 10 :: ([] ++ 10 :: [])))
  simp [lit1, lit2]
section
variable {o : Oper} {act : Act} {w0 w : World} {X : List Nat} {S : World → Prop} {bs : List Bx} {rs : List Rw} {F : List Cold} {KK : Act → World → Prop} {Q : Exit → Act → World → Prop} {T : Ending → World → Prop}
theorem ab_markC (HO : Hid (Own w0 X S bs rs F w)) {cs : List Value} {t : TypeId} {n : Nat} (h : ∀ W, Hid (Own w0 X S bs rs (Cold.row (some ⟨w.heap.size, 0, none⟩) cs :: F) W) → KK act W) : KK act (w.alloc (.cells cs.toArray t (n, n + 1))) := by
  refine h _ (Lib.hid ((HO.out.junk _).coldAll _ fun _ => ⟨w.heap.size, rfl, ⟨HO.out.kept.size, by simp, fun hm => Nat.lt_irrefl _ (HO.out.hot_lt _ hm).2⟩, fun j u hu => ?_⟩))
  have key : ∀ W : World, W.heap[w.heap.size]? = some (.cells cs.toArray t (n, n + 1)) → W.cell? ⟨w.heap.size, j, none⟩ = some u := fun W h => by
    unfold World.cell?
    simp [h, hu]
  exact key _ (by show (w.heap.push _)[w.heap.size]? = _; simp)
theorem rb_coldm {A : Option Addr} {l : List Nat} (HO : Hid (Own w0 X S bs rs F w)) (hb : ∀ x ∈ l, x < 256) (m : Cold.row A (bvs l) ∈ F) : Hid (RB w w.heap.size A l) :=
  Lib.hid (rb_rowAt (HO.out.cold _ m) hb fun b hb => hb.2.1)
theorem wo_app0 {b n : Nat} {s x : Operand} (ho : o.op = .call { callee := .builtin .append, args := #[s, x], argTypes := #[22, 22] }) (hs : act.eval s = .slice (some ⟨b, 0, none⟩) n n) {A : Option Addr} {m c : Nat} (hm : m = 0) (hx : act.eval x = .slice A m c) (h : KK (act.put o.dst (.slice (some ⟨b, 0, none⟩) n n)) w) : WOp Try.prog o act w KK Q := by
  subst hm
  obtain ⟨i0, hi, hz0, hz1, hz2⟩ := info_parts info_u8
  have hrun : (Builtin.append_ #[22, 22] o.type #[.slice (some ⟨b, 0, none⟩) n n, .slice A 0 c]).run Try.prog w = .ok (.slice (some ⟨b, 0, none⟩) n n) w := by
    cases A <;> simp [Builtin.append_, run_underlying Try.underlying22, sizeOf, typeInfo, hi, Builtin.lenOf, Builtin.firstCells, loadCells, loadCellsFrom, storeCells]
  unfold WOp Oper.wp execOp
  simp only [ho, resolve, invoke, builtin, Sem.run_bind, Sem.run_pure, Result.andThen_ok, List.map_toArray, List.map_cons, List.map_nil, hs, hx, hrun]
  exact h
theorem arm_parse_err {KF : FuncId} {args : Array Value} {src : List Nat} {A : Option Addr} {c : Nat} {pk : Nat × Int} (HO : Hid (Own w0 [] S bs rs F w)) (hr : Hid (RB w w.heap.size A src)) (ht : treeS src = .error pk) (hc : src.length ≤ c) (hlen : src.length ≤ 1000000) (hK : KF = 6) (hargs : args = #[.slice A src.length c])
    (h : ∀ b W, Hid (Own w0 [] S bs rs F W) → T (.returned (.tuple #[.agg #[.slice none 0 0, .slice none 0 0], .iface 46 (.pointer (some ⟨b, 0, none⟩))])) W) : Calls Try.prog KF args w T := by
  refine arm_parse HO hr hc hlen hK hargs (fun p k b W _ HO => h b W (Lib.hid (HO.out.sub (List.Sublist.refl _) (List.Sublist.refl _) fun _ hc => .tail _ hc))) (fun fe re A' c1 B' c2 W HE _ _ => ?_)
  have h := HE.out; rw [ht] at h; cases h
theorem arm_parse_ok {KF : FuncId} {args : Array Value} {src : List Nat} {A : Option Addr} {c : Nat} {t : TreeT} (HO : Hid (Own w0 [] S bs rs F w)) (hr : Hid (RB w w.heap.size A src)) (ht : treeS src = .ok t) (hc : src.length ≤ c) (hlen : src.length ≤ 1000000) (hK : KF = 6) (hargs : args = #[.slice A src.length c])
    (h : ∀ fe re A' c1 B' c2 W, Hid (t = ⟨fe.map (·.1), re.map (·.1)⟩) → Hid (fe.length ≤ c1 ∧ re.length ≤ c2) → Hid (Own w0 [] S bs rs (Cold.tree A' B' fe re :: F) W) → T (.returned (.tuple #[.agg #[.slice A' fe.length c1, .slice B' re.length c2], .nilIface])) W) : Calls Try.prog KF args w T := by
  refine arm_parse HO hr hc hlen hK hargs (fun p k b W HE _ => ?_) (fun fe re A' c1 B' c2 W HE HC HO => h fe re A' c1 B' c2 W (Lib.hid (by have h := HE.out; rw [ht] at h; injection h)) HC HO)
  have h := HE.out; rw [ht] at h; cases h
end
set_option maxRecDepth 100000 in
set_option maxHeartbeats 3200000 in
theorem pblanks_law {A : Option Addr} {ca : Nat} {l : List Nat} (w : World) (hA : RB w w.heap.size A l) (hca : l.length ≤ ca) :
    Calls Try.prog 4 #[.slice A l.length ca] w fun e w' => e = .returned (.bool true) ∧ Below w.heap.size w w' := by
  have HO : Hid (Own w [] (fun _ => True) [] [] [] w) := Lib.hid (Own.init trivial (fun _ _ _ _ _ => trivial))
  have HA := Lib.hid hA
  clear hA
  have hcv := fun (w : World) (C : Array Value) (n c : Nat) => Lib.run_convert_bytes_const (P := Try.prog) w 22 5 C n c Try.underlying22 Try.underlying5
  go_enter Try.func4, Try.ntmps4
  by_cases h1 : 400 < l.length
  · have d1 : decide ((400 : Int) < (l.length : Int)) = true := decide_eq_true (by exact_mod_cast h1)
    (repeat' (first | (with_reducible first | refine oXt ?_ | refine oXb ?_) | ((with_reducible refine ib_miss ?_ ?_); exact rfl) | ((first | ((with_reducible refine to_load ?_); first | refine oL1 HO rfl rfl ?_ | refine oL2 HO rfl rfl ?_ | refine oL3 HO rfl rfl ?_) | ((first | with_reducible refine oAl HO ?_); clear HO; intro _ HO)); (try simp only [Act.put, pS0, pS1, pS2])) | ((first | ((with_reducible refine to_store ?_); first | refine oT1 HO rfl rfl rfl ?_ | refine oT2 HO rfl rfl rfl (by rfl) ?_ | refine oT3 HO rfl rfl rfl rfl ?_) | with_reducible refine ab_drew HO ?_); clear HO; intro _ HO) | ((with_reducible refine ab_junk HO 9 ?_); clear HO; intro _ HO HB) | ((go_big_may; first | (go_at_call 5; refine arm_awake HO rfl rfl ?_; clear HO; intro _ HO)) <;> (try dsimp only)) | go_values | go_skip | go_guarded | go_step | go_upon | (go_ite <;> go_prune <;> (try go_simp))))
    refine bp_tmp (t := 2) rfl rfl rfl ?_
    exact ⟨rfl, HO.out.kept.below⟩
  have d1 : decide ((400 : Int) < (l.length : Int)) = false := decide_eq_false (fun h => h1 (by exact_mod_cast h))
  have h1' : l.length ≤ 400 := by omega
  clear h1
  have hlast : Hid (l.length = 0 ∨ ∃ y ad, A = some ad ∧ 0 < l.length ∧ (ad.add (l.length - 1)).block < w.heap.size ∧ w.cell? (ad.add (l.length - 1)) = some (.int .u8 (y : Int))) := Lib.hid (by
    rcases Nat.eq_zero_or_pos l.length with h0 | h0
    · exact .inl h0
    · right
      obtain ⟨ad, e, hb, hc⟩ := HA.out.2 h0
      exact ⟨((l[l.length - 1] : Nat) : Int), ad, e, h0, by rw [block_of_add]; exact hb, hc _ (by omega)⟩)
  have hbl : ∀ x ∈ lit1 ++ l ++ lit2, x < 256 := fun x hx => by
    rcases List.mem_append.1 hx with hx | hx
    · rcases List.mem_append.1 hx with hx | hx
      · exact (by decide : ∀ x ∈ lit1, x < 256) x hx
      · exact HA.out.1 x hx
    · exact (by decide : ∀ x ∈ lit2, x < 256) x hx
  have HBL := Lib.hid hbl
  clear hbl
  rcases hlast.out with h0 | ⟨y, ad, rfl, hpos, hsb, hcell⟩
  case' inl =>
    have d3 : decide ((0 : Int) < (l.length : Int)) = false := decide_eq_false (by omega)
    have hz : ¬ 0 < l.length := by omega
    have hnil' := Lib.hid h0
    clear h0
  case' inr =>
    have d3 : decide ((0 : Int) < (l.length : Int)) = true := decide_eq_true (by omega)
    by_cases h92 : y = 92
    · have hyb : (y == 92) = true := by rw [h92]; rfl
      clear hlast h92
      (repeat' (first | (with_reducible first | refine oXt ?_ | refine oXb ?_) | ((with_reducible refine ib_miss ?_ ?_); exact rfl) | ((first | ((with_reducible refine to_load ?_); first | refine oL1 HO rfl rfl ?_ | refine oL2 HO rfl rfl ?_ | refine oL3 HO rfl rfl ?_ | refine oP1 HO rfl rfl hsb hcell ?_) | ((first | with_reducible refine oAl HO ?_); clear HO; intro _ HO)); (try simp only [Act.put, pS0, pS1, pS2])) | ((first | ((with_reducible refine to_store ?_); first | refine oT1 HO rfl rfl rfl ?_ | refine oT2 HO rfl rfl rfl (by rfl) ?_ | refine oT3 HO rfl rfl rfl rfl ?_) | with_reducible refine ab_drew HO ?_); clear HO; intro _ HO) | ((with_reducible refine ab_junk HO 9 ?_); clear HO; intro _ HO HB) | ((go_big_may; first | (go_at_call 5; refine arm_awake HO rfl rfl ?_; clear HO; intro _ HO)) <;> (try dsimp only)) | go_values | go_skip | go_guarded | go_step | go_upon | (go_ite <;> go_prune <;> (try go_simp))))
      refine bp_tmp (t := 2) rfl rfl rfl ?_
      exact ⟨rfl, HO.out.kept.below⟩
    have hyb : (y == 92) = false := by rw [beq_eq_false_iff_ne]; exact h92
    clear h92
  all_goals
    clear hlast
    cases ht : treeS l with
    | error pk =>
      have HT := Lib.hid ht
      clear ht
      (repeat' (first | (with_reducible first | refine oXt ?_ | refine oXb ?_) | ((with_reducible refine ib_miss ?_ ?_); exact rfl) | ((first | ((with_reducible refine to_load ?_); first | refine oL1 HO rfl rfl ?_ | refine oL2 HO rfl rfl ?_ | refine oL3 HO rfl rfl ?_ | refine oP1 HO rfl rfl hsb hcell ?_) | ((first | with_reducible refine oAl HO ?_); clear HO; intro _ HO)); (try simp only [Act.put, pS0, pS1, pS2])) | ((first | ((with_reducible refine to_store ?_); first | refine oT1 HO rfl rfl rfl ?_ | refine oT2 HO rfl rfl rfl (by rfl) ?_ | refine oT3 HO rfl rfl rfl rfl ?_) | with_reducible refine ab_drew HO ?_); clear HO; intro _ HO) | ((with_reducible refine ab_junk HO 9 ?_); clear HO; intro _ HO HB) | ((with_reducible refine ab_markC HO ?_); clear HO; intro _ HO) | ((with_reducible refine to_append ?_); first | (refine wo_app0 rfl rfl hnil'.out rfl ?_; (try simp only [Act.put, pS0, pS1, pS2])) | (refine wo_appM (l := lit1) (ys := l) HO rfl rfl (rb_coldm HO (by decide) (by repeat (first | exact mH | apply mT))) rfl (rb_kept HO HA) hpos (by rw [show lit1.length = 15 from rfl]; omega) ?_; clear HO; intro _ _ _ hcap HO; (try simp only [Act.put, pS0, pS1, pS2])) | (refine wo_appM (l := lit1) (ys := lit2) HO rfl rfl (rb_coldm HO (by decide) (by repeat (first | exact mH | apply mT))) rfl (rb_coldm HO (by decide) (by repeat (first | exact mH | apply mT))) (by decide) (by decide) ?_; clear HO; intro _ _ _ hcap HO; (try simp only [Act.put, pS0, pS1, pS2])) | (refine wo_appB (ys := lit2) HO rfl rfl rfl (rb_coldm HO (by decide) (by repeat (first | exact mH | apply mT))) (by simp [lit1, lit2]; omega) ?_; clear HO; intro _ _ _ hcap HO; (try simp only [Act.put, pS0, pS1, pS2]))) | ((go_big_may; first | (go_at_call 5; refine arm_awake HO rfl rfl ?_; clear HO; intro _ HO) | (go_at_call 6; refine arm_parse_err (src := l) HO (rb_kept HO HA) HT.out hca (by omega) rfl rfl ?_; clear HO; intro g1 W HO) | fail) <;> (try dsimp only)) | go_values | go_skip | go_guarded | go_step | go_upon | (go_ite <;> go_prune <;> (try go_simp))))
      (try rw [show (lit1 ++ lit2 : List Nat) = lit1 ++ l ++ lit2 by rw [List.length_eq_zero_iff.1 hnil'.out]; simp] at HO)
      obtain ⟨A9, c9, e9, hc9, HO9⟩ := one_bytes HO rfl
      injection e9 with q1 _ q2
      subst q1 q2
      clear HO hcap
      cases hbig : treeS (lit1 ++ l ++ lit2) with
      | ok U =>
        rw [blankL_eq] at hbig
        obtain ⟨T, hT⟩ := blank_bad HA.out.1 h1' hbig
        have h := HT.out
        rw [hT] at h
        cases h
      | error pk2 =>
        refine arm_parse_err (src := lit1 ++ l ++ lit2) HO9 (rb_cold HO9 HBL.out) hbig hc9 (by simp [lit1, lit2]; omega) rfl (by first | (simp [Nat.add_assoc]; done) | (simp [hnil'.out]; done) | (simp; omega)) ?_
        clear HO9 hbig
        intro g2 W2 HO
        dsimp only
        (repeat' (first | (with_reducible first | refine oXt ?_ | refine oXb ?_) | ((with_reducible refine ib_miss ?_ ?_); exact rfl) | ((first | ((with_reducible refine to_load ?_); first | refine oL1 HO rfl rfl ?_ | refine oL2 HO rfl rfl ?_ | refine oL3 HO rfl rfl ?_) | ((first | with_reducible refine oAl HO ?_); clear HO; intro _ HO)); (try simp only [Act.put, pS0, pS1, pS2])) | ((first | ((with_reducible refine to_store ?_); first | refine oT1 HO rfl rfl rfl ?_ | refine oT2 HO rfl rfl rfl (by rfl) ?_ | refine oT3 HO rfl rfl rfl rfl ?_) | with_reducible refine ab_drew HO ?_); clear HO; intro _ HO) | ((with_reducible refine ab_junk HO 9 ?_); clear HO; intro _ HO HB) | go_values | go_skip | go_guarded | go_step | go_upon | (go_ite <;> go_prune <;> (try go_simp))))
        refine bp_tmp (t := 2) rfl rfl rfl ?_
        exact ⟨rfl, HO.out.kept.below⟩
    | ok t =>
      have HT := Lib.hid ht
      clear ht
      (repeat' (first | (with_reducible first | refine oXt ?_ | refine oXb ?_) | ((with_reducible refine ib_miss ?_ ?_); exact rfl) | ((first | ((with_reducible refine to_load ?_); first | refine oL1 HO rfl rfl ?_ | refine oL2 HO rfl rfl ?_ | refine oL3 HO rfl rfl ?_ | refine oP1 HO rfl rfl hsb hcell ?_) | ((first | with_reducible refine oAl HO ?_); clear HO; intro _ HO)); (try simp only [Act.put, pS0, pS1, pS2])) | ((first | ((with_reducible refine to_store ?_); first | refine oT1 HO rfl rfl rfl ?_ | refine oT2 HO rfl rfl rfl (by rfl) ?_ | refine oT3 HO rfl rfl rfl rfl ?_) | with_reducible refine ab_drew HO ?_); clear HO; intro _ HO) | ((with_reducible refine ab_junk HO 9 ?_); clear HO; intro _ HO HB) | ((with_reducible refine ab_markC HO ?_); clear HO; intro _ HO) | ((with_reducible refine to_append ?_); first | (refine wo_app0 rfl rfl hnil'.out rfl ?_; (try simp only [Act.put, pS0, pS1, pS2])) | (refine wo_appM (l := lit1) (ys := l) HO rfl rfl (rb_coldm HO (by decide) (by repeat (first | exact mH | apply mT))) rfl (rb_kept HO HA) hpos (by rw [show lit1.length = 15 from rfl]; omega) ?_; clear HO; intro _ _ _ hcap HO; (try simp only [Act.put, pS0, pS1, pS2])) | (refine wo_appM (l := lit1) (ys := lit2) HO rfl rfl (rb_coldm HO (by decide) (by repeat (first | exact mH | apply mT))) rfl (rb_coldm HO (by decide) (by repeat (first | exact mH | apply mT))) (by decide) (by decide) ?_; clear HO; intro _ _ _ hcap HO; (try simp only [Act.put, pS0, pS1, pS2])) | (refine wo_appB (ys := lit2) HO rfl rfl rfl (rb_coldm HO (by decide) (by repeat (first | exact mH | apply mT))) (by simp [lit1, lit2]; omega) ?_; clear HO; intro _ _ _ hcap HO; (try simp only [Act.put, pS0, pS1, pS2]))) | ((go_big_may; first | (go_at_call 5; refine arm_awake HO rfl rfl ?_; clear HO; intro _ HO) | (go_at_call 6; refine arm_parse_ok (src := l) HO (rb_kept HO HA) HT.out hca (by omega) rfl rfl ?_; clear HO; intro fe1 re1 A1 c1 B1 e1 W HE1 HC1 HO) | fail) <;> (try dsimp only)) | go_values | go_skip | go_guarded | go_step | go_upon | (go_ite <;> go_prune <;> (try go_simp))))
      (try rw [show (lit1 ++ lit2 : List Nat) = lit1 ++ l ++ lit2 by rw [List.length_eq_zero_iff.1 hnil'.out]; simp] at HO)
      obtain ⟨A9, c9, e9, hc9, HO9⟩ := one_bytes HO rfl
      injection e9 with q1 _ q2
      subst q1 q2
      clear HO hcap
      obtain ⟨U, hU, hU1, hU2⟩ := blank_ok HA.out.1 h1' HT.out
      rw [← blankL_eq] at hU
      refine arm_parse_ok (src := lit1 ++ l ++ lit2) HO9 (rb_cold HO9 HBL.out) hU hc9 (by simp [lit1, lit2]; omega) rfl (by first | (simp [Nat.add_assoc]; done) | (simp [hnil'.out]; done) | (simp; omega)) ?_
      clear HO9
      intro fe2 re2 A2 c2 B2 e2 W2 HE2 HC2 HO
      have hfw := few_tree HA.out.1 HT.out
      have g1 := hU1
      have g2 := hU2
      rw [HE1.out] at hfw g1 g2
      rw [HE2.out] at g1 g2
      have HFW := Lib.hid hfw
      have HG1 : Hid (fe1.map (fun x => erF x.1) = fe2.map (fun x => erF x.1)) := Lib.hid (by simp only [List.map_map] at g1; exact g1.symm)
      have HG2 : Hid (re1.map (fun x => erR x.1) = re2.map (fun x => erR x.1)) := Lib.hid (by simp only [List.map_map] at g2; exact g2.symm)
      clear hU hU1 hU2 hfw g1 g2
      dsimp only
      (repeat' (first | (with_reducible first | refine oXt ?_ | refine oXb ?_) | ((with_reducible refine ib_miss ?_ ?_); exact rfl) | ((first | ((with_reducible refine to_load ?_); first | refine oL1 HO rfl rfl ?_ | refine oL2 HO rfl rfl ?_ | refine oL3 HO rfl rfl ?_) | ((first | with_reducible refine oAl HO ?_); clear HO; intro _ HO)); (try simp only [Act.put, pS0, pS1, pS2])) | ((first | ((with_reducible refine to_store ?_); first | refine oT1 HO rfl rfl rfl ?_ | refine oT2 HO rfl rfl rfl (by rfl) ?_ | refine oT3 HO rfl rfl rfl rfl ?_) | with_reducible refine ab_drew HO ?_); clear HO; intro _ HO) | ((with_reducible refine ab_junk HO 9 ?_); clear HO; intro _ HO HB) | go_values | go_skip | go_guarded | go_step | go_upon | (go_ite <;> go_prune <;> (try go_simp))))
      refine arm_same (fe := fe2) (re := re2) HO (A3 := A1) (B3 := B1) (fe3 := fe1) (re3 := re1) (by repeat (first | exact mH | apply mT)) (own_tree HO (by repeat (first | exact mH | apply mT))) HG1.out HG2.out HFW HC1 HC2.out.1 HC2.out.2 rfl rfl ?_
      clear HO
      intro _ HO
      dsimp only
      (repeat' (first | (with_reducible first | refine oXt ?_ | refine oXb ?_) | ((with_reducible refine ib_miss ?_ ?_); exact rfl) | ((first | ((with_reducible refine to_load ?_); first | refine oL1 HO rfl rfl ?_ | refine oL2 HO rfl rfl ?_ | refine oL3 HO rfl rfl ?_) | ((first | with_reducible refine oAl HO ?_); clear HO; intro _ HO)); (try simp only [Act.put, pS0, pS1, pS2])) | ((first | ((with_reducible refine to_store ?_); first | refine oT1 HO rfl rfl rfl ?_ | refine oT2 HO rfl rfl rfl (by rfl) ?_ | refine oT3 HO rfl rfl rfl rfl ?_) | with_reducible refine ab_drew HO ?_); clear HO; intro _ HO) | ((with_reducible refine ab_junk HO 9 ?_); clear HO; intro _ HO HB) | go_values | go_skip | go_guarded | go_step | go_upon | (go_ite <;> go_prune <;> (try go_simp))))
      refine bp_tmp (t := 2) rfl rfl rfl ?_
      exact ⟨rfl, HO.out.kept.below⟩
theorem pblanks_w (A : Option Addr) (ca : Nat) (l : List Nat) (w : World) (hA : RB w w.heap.size A l) (hca : l.length ≤ ca) (_ : A = none → l = [] ∧ ca = 0) :
    Calls Try.prog 4 #[.slice A l.length ca] w fun e w' => e = .returned (.bool true) ∧ Below w.heap.size w w' := pblanks_law w hA hca
end Go.Proofs.Ytdiibenofbcfnaa
