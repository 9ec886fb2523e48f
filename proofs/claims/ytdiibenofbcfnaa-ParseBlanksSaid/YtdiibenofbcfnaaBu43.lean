/- Several texts put together: SamA. -/
import Derived.Test.YtdiibenofbcfnaaBu3
import Derived.Test.YtdiibenofbcfnaaBu22
import Derived.Test.YtdiibenofbcfnaaBu37
import Derived.Test.YtdiibenofbcfnaaBu7
import Derived.Test.YtdiibenofbcfnaaBu18
set_option linter.unusedSimpArgs false
set_option linter.unusedVariables false
namespace Go.Proofs.Ytdiibenofbcfnaa
open Go.RowKit
theorem flat_get {α : Type} (g : α → List Value) (k : Nat) (hg : ∀ x, (g x).length = k) : ∀ (l : List α) (j : Nat) (h : j < l.length) (i : Nat) (v : Value), (g l[j])[i]? = some v → (l.flatMap g)[k * j + i]? = some v
  | [], j, h, _, _, _ => absurd h (by simp)
  | x :: l, 0, h, i, v, hv => by
    have hv : (g x)[i]? = some v := hv
    rw [List.flatMap_cons, Nat.mul_zero, Nat.zero_add, List.getElem?_append_left (by
      rcases Nat.lt_or_ge i (g x).length with h | h
      · exact h
      · rw [List.getElem?_eq_none h] at hv; cases hv)]
    exact hv
  | x :: l, j + 1, h, i, v, hv => by
    rw [List.flatMap_cons, List.getElem?_append_right (by rw [hg, Nat.mul_succ]; omega), hg, show k * (j + 1) + i - k = k * j + i by rw [Nat.mul_succ]; omega]
    exact flat_get g k hg l j (by simpa using h) i v hv
theorem row_get {w : World} {F : Nat → Prop} {A : Option Addr} {α : Type} {g : α → List Value} {k : Nat} (hg : ∀ x, (g x).length = k) (hk : 0 < k) {l : List α} (h : RowAt w F A (l.flatMap g)) {j : Nat} (hj : j < l.length) : ∃ b, A = some ⟨b, 0, none⟩ ∧ F b ∧ w.rangeAt b (k * j) (g l[j]) := by
  have hne : l.flatMap g ≠ [] := by
    intro e
    have h0 : 0 < (g l[j]).length := by rw [hg]; exact hk
    have := flat_get g k hg l j hj 0 _ (List.getElem?_eq_getElem h0)
    rw [e] at this; simp at this
  obtain ⟨b, rfl, hb, hc⟩ := h hne
  exact ⟨b, rfl, hb, fun i v hv => hc _ _ (flat_get g k hg l j hj i v hv)⟩
theorem rowF_get {w : World} {F : Nat → Prop} {A : Option Addr} {fe : List ElF} (h : RowAt w F A (flatF fe)) {j : Nat} (hj : j < fe.length) : ∃ b, A = some ⟨b, 0, none⟩ ∧ F b ∧ w.rangeAt b (11 * j) (funcC fe[j].1 fe[j].2.1 fe[j].2.2.1 fe[j].2.2.2.1 fe[j].2.2.2.2) := row_get (g := fun x : ElF => funcC x.1 x.2.1 x.2.2.1 x.2.2.2.1 x.2.2.2.2) (fun _ => rfl) (by decide) h hj
theorem rowR_get {w : World} {F : Nat → Prop} {A : Option Addr} {re : List ElR} (h : RowAt w F A (flatR re)) {j : Nat} (hj : j < re.length) : ∃ b, A = some ⟨b, 0, none⟩ ∧ F b ∧ w.rangeAt b (12 * j) (ruleC re[j].1 re[j].2.1 re[j].2.2.1 re[j].2.2.2.1 re[j].2.2.2.2) := row_get (g := fun x : ElR => ruleC x.1 x.2.1 x.2.2.1 x.2.2.2.1 x.2.2.2.2) (fun _ => rfl) (by decide) h hj
section
variable {w0 w w1 W : World} {X : List Nat} {S : World → Prop} {bs : List Bx} {rs : List Rw} {F : List Cold} {K : Act → World → Prop} {act : Act} {P : Program} {o : Oper} {Q : Exit → Act → World → Prop} {T : Ending → World → Prop}
theorem wo_loadX (HO : Hid (Own w0 X S bs rs F w)) {ty : TypeId} {x : Operand} (ho : o.op = .load ty x) {b k : Nat} (hx : act.eval x = .pointer (some ⟨b, k, none⟩)) {cs : List Value} (hb : b < w0.heap.size) (hX : b ∉ X) (hm : w0.rangeAt b k cs)
    (hd : ∀ w, (isAgg ty).run P w = .ok true w) {n : Nat} (hs : ∀ w, (sizeOf ty).run P w = .ok n w) (hn : cs.length = n) (h : K (act.put o.dst (.agg cs.toArray)) w) : WOp P o act w K Q := by
  subst hn
  have hl : (loadCells ⟨b, k, none⟩ cs.length).run P w = .ok cs.toArray w :=
    run_loadCells_list (P := P) w ⟨b, k, none⟩ cs (fun j v hv => by rw [Addr.add_mid]; exact (World.cell?_of_block (HO.out.kept.block b hb hX)).trans (hm j v hv))
  unfold WOp Oper.wp execOp
  simp only [ho, hx, Instr.loadAt, Instr.sureAddr, Sem.run_bind, Sem.run_pure, Result.andThen_ok, loadVar, hd w, if_true, hs w, hl]
  exact h
theorem eL5 {ops : Array Oper} {late plan pl2 : List Nat} {i : Nat} {oi : Oper} {f : Nat} {listed : Array Bool} {a : Act} (HO : Hid (Own w0 X S bs rs F w)) (hi : (ops.toList.drop i).head? = some oi) {ty : TypeId} {x : Operand} (ho : oi.op = .load ty x) {b k : Nat} (hx : a.eval x = .pointer (some ⟨b, k, none⟩)) {v : Value} [T : T1 ty] (hb : b < w0.heap.size) (hX : b ∉ X) (hm : w0.cell? ⟨b, k, none⟩ = some v) (hk : ckL ops late listed i = true) (hQ : ∀ c a w, Q (.panic c) (a.put oi.dst v) w → Q (.panic c) a w) (hwa : Region.wanted oi (yielded ops a.tmps) = true)
    (h : wpE w0 X bs late plan pl2 ops Q f (listed.setIfInBounds i true) (a.put oi.dst v) w) : wpE w0 X bs late (i :: plan) pl2 ops Q (f + 1) listed a w := by
  have hk2 := Bool.and_eq_true_iff.1 hk
  refine ⟨e_take hi (ckP.all hk2.1).1 (ckP.all hk2.1).2.1 (ckP.all hk2.1).2.2.1 (ckP.all hk2.1).2.2.2 hk2.2 hQ hwa (OwnB.of HO) (fun w' hS => ?_) h.h⟩
  obtain ⟨St', rs', F', h'⟩ := hS
  have hl : w'.cell? ⟨b, k, none⟩ = some v := (World.cell?_of_block (h'.kept.block b hb hX)).trans hm
  have hd := T.a
  unfold execOp
  simp only [ho, hx, Instr.loadAt, Instr.sureAddr, Sem.run_bind, Sem.run_pure, Result.andThen_ok, loadVar, hd w', Bool.false_eq_true, if_false, run_load, hl]
set_option maxRecDepth 100000 in
set_option maxHeartbeats 3200000 in
theorem same_any {N : Nat} (hN : N ≤ 1000000) (n m : Nat) (fe fe' : List ElF) (re re' : List ElR) (A B A' B' : Option Addr) (c d c' d' : Nat) (w : World) (h1 : fe.length = n) (h1' : fe'.length = n) (h2 : re.length = m) (h2' : re'.length = m) (hnN : n ≤ N) (hmN : m ≤ N) (hc : n ≤ c) (hd : m ≤ d) (hc' : n ≤ c') (hd' : m ≤ d')
    (hT : TreeAt w (fun b => b < w.heap.size) A B fe re) (hT' : TreeAt w (fun b => b < w.heap.size) A' B' fe' re') (hf : fe.map (fun x => erF x.1) = fe'.map (fun x => erF x.1)) (hr : re.map (fun x => erR x.1) = re'.map (fun x => erR x.1)) (hFf : ∀ x ∈ fe, FewF N x.1) (hFr : ∀ x ∈ re, FewR N x.1) :
    Calls Try.prog 7 #[.agg #[.slice A n c, .slice B m d], .agg #[.slice A' n c', .slice B' m d'], .bool false] w fun r w' => r = .returned (.bool true) ∧ Below w.heap.size w w' := by
  have HO := own0 w
  have HT := Lib.hid hT
  have HT' := Lib.hid hT'
  have HF := Lib.hid hf
  have HR := Lib.hid hr
  have HFF := Lib.hid hFf
  have HFR := Lib.hid hFr
  clear hT hT' hf hr hFf hFr
  go_enter Try.func7, Try.ntmps7
  (repeat' (first | (with_reducible first | refine oXt ?_ | refine oXb ?_) | ((with_reducible refine ib_miss ?_ ?_); exact rfl) | ((first | ((with_reducible refine to_load ?_); first | refine oL1 HO rfl rfl ?_ | refine oL2 HO rfl rfl ?_ | refine oL3 HO rfl rfl ?_) | ((first | with_reducible refine oAl HO ?_ | ((with_reducible refine to_box ?_); refine wo_box HO rfl rfl ?_)); clear HO; intro _ HO)); (try simp only [Act.put, pS0, pS1, pS2])) | ((first | ((with_reducible refine to_store ?_); first | refine oT1 HO rfl rfl rfl ?_ | refine oT2 HO rfl rfl rfl (by rfl) ?_ | refine oT3 HO rfl rfl rfl rfl ?_) | with_reducible refine ab_drew HO ?_); clear HO; intro _ HO) | (first | ((with_reducible refine ab_row HO 40 8 1 ?_ ?_ ?_); (rfl); (decide); clear HO; intro _ HO) | ((with_reducible refine ab_row HO 40 8 2 ?_ ?_ ?_); (rfl); (decide); clear HO; intro _ HO) | ((with_reducible refine ab_row HO 40 8 3 ?_ ?_ ?_); (rfl); (decide); clear HO; intro _ HO) | ((with_reducible refine ab_row HO 40 8 4 ?_ ?_ ?_); (rfl); (decide); clear HO; intro _ HO)) | go_values | go_skip | go_guarded | go_step | go_upon | (go_ite <;> go_prune <;> (try go_simp))))
  rename_i Kf hKf
  rename_i W1 W2
  (try dsimp only [List.drop, List.take])
  go_loopw [7] (fun iv wr => ∃ j : Nat, iv = .int .i64 (j : Int) ∧ j ≤ n ∧ Hid (Own w [] (fun _ => True) [⟨W1.heap.size, 27, [.slice A' n c', .slice B' m d']⟩, ⟨w.heap.size, 27, [.slice A n c, .slice B m d]⟩] [] [] wr)) (fun iv _ => n - (intOf iv).toNat)
  case atStart => exact ⟨0, rfl, Nat.zero_le _, HO⟩
  case round =>
    clear HO
    obtain ⟨j, rfl, hj, HO⟩ := hrel
    by_cases hjn : j < n
    · have hd3 : decide ((j : Int) < (n : Int)) = true := decide_eq_true (by omega)
      have hjI : (j : Int) < (n : Int) := by omega
      have hj0 : (0 : Int) ≤ (j : Int) := by omega
      obtain ⟨bA, rfl, hbA, hrA⟩ := rowF_get HT.out.rf (j := j) (by omega)
      obtain ⟨bB, rfl, hbB, hrB⟩ := rowF_get HT'.out.rf (j := j) (by omega)
      rw [Nat.mul_comm] at hrA hrB
      have hfg : erF fe[j].1 = erF fe'[j].1 := by
        have h0 := congrArg (fun l => l[j]?) HF.out
        simp only [List.getElem?_map, List.getElem?_eq_getElem (show j < fe.length by omega), List.getElem?_eq_getElem (show j < fe'.length by omega), Option.map_some, Option.some.injEq] at h0
        exact h0
      have hok := HT.out.ef fe[j] (List.getElem_mem _)
      have hok' := HT'.out.ef fe'[j] (List.getElem_mem _)
      have hfew := HFF.out fe[j] (List.getElem_mem _)
      generalize fe[j] = x at hrA hfg hok hfew
      generalize fe'[j] = y at hrB hfg hok'
      obtain ⟨⟨nm, ps, bd, at0⟩, Af, cf, Bf, ef⟩ := x
      obtain ⟨⟨nm', ps', bd', at1⟩, Ag, cg, Bg, eg⟩ := y
      unfold erF at hfg
      injection hfg with e1 e2
      injection e2 with e2 e3
      dsimp only at e1 e2 e3
      subst e1 e2
      unfold funcC at hrA hrB
      dsimp only at hrA hrB
      (repeat' (first | (with_reducible first | refine oXt ?_ | refine oXb ?_) | ((with_reducible refine ib_miss ?_ ?_); exact rfl) | ((first | ((with_reducible refine to_load ?_); first | refine oL1 HO rfl rfl ?_ | refine oL2 HO rfl rfl ?_ | refine oL3 HO rfl rfl ?_ | (refine wo_loadX HO rfl rfl hbA List.not_mem_nil hrA Try.isAgg55 Try.sizeOf55 (by rfl) ?_; (try simp only [Act.put, pS0, pS1, pS2])) | (refine wo_loadX HO rfl rfl hbB List.not_mem_nil hrB Try.isAgg55 Try.sizeOf55 (by rfl) ?_; (try simp only [Act.put, pS0, pS1, pS2]))) | ((first | with_reducible refine oAl HO ?_ | ((with_reducible refine to_box ?_); refine wo_box HO rfl rfl ?_)); clear HO; intro _ HO)); (try simp only [Act.put, pS0, pS1, pS2])) | ((first | ((with_reducible refine to_store ?_); first | refine oT1 HO rfl rfl rfl ?_ | refine oT2 HO rfl rfl rfl (by rfl) ?_ | refine oT3 HO rfl rfl rfl rfl ?_) | with_reducible refine ab_drew HO ?_); clear HO; intro _ HO) | go_values | go_skip | go_guarded | go_step | go_upon | (go_ite <;> go_prune <;> (try go_simp))))
      have hFk : ∀ b, b < w.heap.size → b < (_ : World).heap.size ∧ (_ : World).heap[b]? = w.heap[b]? := fun b hb => ⟨Nat.lt_of_lt_of_le hb HO.out.kept.size, HO.out.kept.block b hb List.not_mem_nil⟩
      refine (one_any hN bd bd' hfew.2 e3 Bf Bg ef eg _ ((KidsN_eq _ _ _ _).mpr (KidsL.st hFk _ _ _ hok.2.2.2)) ((KidsN_eq _ _ _ _).mpr (KidsL.st hFk _ _ _ hok'.2.2.2)) hok.2.1 hok'.2.1).mono ?_
      rintro _ W5 ⟨rfl, q5⟩
      replace HO := Lib.hid (HO.out.next q5)
      clear q5 hFk
      dsimp only
      (repeat' (first | (with_reducible first | refine oXt ?_ | refine oXb ?_) | ((with_reducible refine ib_miss ?_ ?_); exact rfl) | ((first | ((with_reducible refine to_load ?_); first | refine oL1 HO rfl rfl ?_ | refine oL2 HO rfl rfl ?_ | refine oL3 HO rfl rfl ?_) | ((first | with_reducible refine oAl HO ?_ | ((with_reducible refine to_box ?_); refine wo_box HO rfl rfl ?_)); clear HO; intro _ HO)); (try simp only [Act.put, pS0, pS1, pS2])) | ((first | ((with_reducible refine to_store ?_); first | refine oT1 HO rfl rfl rfl ?_ | refine oT2 HO rfl rfl rfl (by rfl) ?_ | refine oT3 HO rfl rfl rfl rfl ?_) | with_reducible refine ab_drew HO ?_); clear HO; intro _ HO) | go_values | go_skip | go_guarded | go_step | go_upon | (go_ite <;> go_prune <;> (try go_simp))))
      rename_i Kg hKg V3 V2 V1 V0
      (try dsimp only [List.drop, List.take])
      go_loopw [10] (fun iv wq => ∃ i : Nat, iv = .int .i64 (i : Int) ∧ i ≤ ps.length ∧ Hid (Own w [] (fun _ => True) [⟨V2.heap.size, 55, [.string (strN nm), .slice Ag ps.length cg, .int .i64 (bd'.k : Int), .int .i64 (bd'.at' : Int), .string (strN bd'.s), .bool (zn bd'.z), .int .u64 (zh bd'.z), .int .u64 (zl bd'.z), .int .i64 (bd'.i : Int), .slice Bg bd'.l.length eg, .int .i64 (at1 : Int)]⟩, ⟨wr.heap.size, 55, [.string (strN nm), .slice Af ps.length cf, .int .i64 (bd.k : Int), .int .i64 (bd.at' : Int), .string (strN bd.s), .bool (zn bd.z), .int .u64 (zh bd.z), .int .u64 (zl bd.z), .int .i64 (bd.i : Int), .slice Bf bd.l.length ef, .int .i64 (at0 : Int)]⟩, ⟨W1.heap.size, 27, [.slice (some ⟨bB, 0, none⟩) n c', .slice B' m d']⟩, ⟨w.heap.size, 27, [.slice (some ⟨bA, 0, none⟩) n c, .slice B m d]⟩] [] [] wq)) (fun iv _ => ps.length - (intOf iv).toNat)
      case atStart => exact ⟨0, rfl, Nat.zero_le _, HO⟩
      case round =>
        clear HO
        obtain ⟨i, rfl, hi, HO⟩ := hrel
        by_cases hin : i < ps.length
        · have hd4 : decide ((i : Int) < (ps.length : Int)) = true := decide_eq_true (by omega)
          have hiI : (i : Int) < (ps.length : Int) := by omega
          have hi0 : (0 : Int) ≤ (i : Int) := by omega
          have hpl : ps.length ≤ N := hfew.1
          have hwi : wrap64 ((i : Int) + 1) = (i : Int) + 1 := IntWalk.wrap64_in _ (by omega)
          have hsv : (strVs ps)[i]? = some (.string (strN ps[i])) := by unfold strVs; rw [List.getElem?_map, List.getElem?_eq_getElem hin]; rfl
          have hne : strVs ps ≠ [] := fun e => by rw [e] at hsv; simp at hsv
          obtain ⟨bF, eF, hbF, hcF⟩ := hok.2.2.1 hne
          obtain ⟨bG, eG, hbG, hcG⟩ := hok'.2.2.1 hne
          replace hcF := hcF i _ hsv
          replace hcG := hcG i _ hsv
          dsimp only at eF eG
          subst eF eG
          (repeat' (go_not_at_region 13; first | (with_reducible first | refine oXt ?_ | refine oXb ?_) | ((with_reducible refine ib_miss ?_ ?_); exact rfl) | ((first | ((with_reducible refine to_load ?_); first | refine oL1 HO rfl rfl ?_ | refine oL2 HO rfl rfl ?_ | refine oL3 HO rfl rfl ?_) | ((first | with_reducible refine oAl HO ?_ | ((with_reducible refine to_box ?_); refine wo_box HO rfl rfl ?_)); clear HO; intro _ HO)); (try simp only [Act.put, pS0, pS1, pS2])) | ((first | ((with_reducible refine to_store ?_); first | refine oT1 HO rfl rfl rfl ?_ | refine oT2 HO rfl rfl rfl (by rfl) ?_ | refine oT3 HO rfl rfl rfl rfl ?_) | with_reducible refine ab_drew HO ?_); clear HO; intro _ HO) | go_values | go_skip | go_guarded | go_step | go_upon | (go_ite <;> go_prune <;> (try go_simp))))
          refine eBe HO [] [0, 2, 5, 7, 1, 3, 4, 6, 8, 9, 10] [] ?_
          clear HO
          intro _ HO
          (repeat' (first | ((with_reducible refine eGo ?_); first | refine eCa rfl rfl (by kernel_rfl) (by rfl) (fun K hK => ?_) | refine eSl rfl rfl (by kernel_rfl) (by rfl) (fun K hK => ?_) | ((first | refine eL1 HO rfl rfl rfl (by kernel_rfl) (fun _ _ _ h => h) (by rfl) ?_ | refine eL2 HO rfl rfl rfl (by kernel_rfl) (fun _ _ _ h => h) (by rfl) ?_ | refine eL5 HO rfl rfl rfl hbF List.not_mem_nil hcF (by kernel_rfl) (fun _ _ _ h => h) (by rfl) ?_ | refine eL5 HO rfl rfl rfl hbG List.not_mem_nil hcG (by kernel_rfl) (fun _ _ _ h => h) (by rfl) ?_ | refine ePu HO rfl (by kernel_rfl) (fun _ _ _ h => h) (by rfl) (eFi rfl rfl ⟨_, _, _, _, _, _, _, rfl, rfl, inferInstance⟩) ?_ | refine ePu HO rfl (by kernel_rfl) (fun _ _ _ h => h) (by rfl) (by intro _; go_simp; (try with_reducible rfl)) ?_); (try simp only [Act.put, pS0, pS1, pS2])) | refine eA1 rfl (by kernel_rfl) (by rfl) (fun K hK => ?_) | refine eA2 rfl (by kernel_rfl) (by rfl) (fun K hK => ?_) | refine eEe (by kernel_rfl) ?_) | ((with_reducible refine eHo ?_); first | (refine eA4 rfl (by kernel_rfl) (fun _ _ _ h => h) (by rfl) (by intro _; go_simp; (try with_reducible rfl)) ?_; (try simp only [Act.put, pS0, pS1, pS2])) | refine eA3 rfl (by kernel_rfl) (by rfl) (fun K hK => ?_) | refine eDo (by kernel_rfl) ?_) | ((with_reducible show K _ _); (first | with_reducible refine hK.out _ _ (OwnB.of HO) ?_ | with_reducible refine hK.out _ _ ?_); clear hK K; (try simp only [Act.put, pS0, pS1, pS2])) | ((with_reducible refine eOp ?_); go_simp)))
          (repeat' (first | (with_reducible first | refine oXt ?_ | refine oXb ?_) | ((with_reducible refine ib_miss ?_ ?_); exact rfl) | ((first | ((with_reducible refine to_load ?_); first | refine oL1 HO rfl rfl ?_ | refine oL2 HO rfl rfl ?_ | refine oL3 HO rfl rfl ?_) | ((first | with_reducible refine oAl HO ?_ | ((with_reducible refine to_box ?_); refine wo_box HO rfl rfl ?_)); clear HO; intro _ HO)); (try simp only [Act.put, pS0, pS1, pS2])) | ((first | ((with_reducible refine to_store ?_); first | refine oT1 HO rfl rfl rfl ?_ | refine oT2 HO rfl rfl rfl (by rfl) ?_ | refine oT3 HO rfl rfl rfl rfl ?_) | with_reducible refine ab_drew HO ?_); clear HO; intro _ HO) | go_values | go_skip | go_guarded | go_step | go_upon | (go_ite <;> go_prune <;> (try go_simp))))
          (try simp only [hwi])
          go_roundw
          case rel => exact ⟨i + 1, by go_num, Nat.succ_le_of_lt hin, HO⟩
          case measure => exact meas2 (by go_num) (Nat.lt_succ_self i) hin
        · have hd4 : decide ((i : Int) < (ps.length : Int)) = false := decide_eq_false (by omega)
          have hw0 : wrap64 ((j : Int) + 1) = (j : Int) + 1 := IntWalk.wrap64_in _ (by omega)
          (repeat' (first | (with_reducible first | refine oXt ?_ | refine oXb ?_) | ((with_reducible refine ib_miss ?_ ?_); exact rfl) | ((first | ((with_reducible refine to_load ?_); first | refine oL1 HO rfl rfl ?_ | refine oL2 HO rfl rfl ?_ | refine oL3 HO rfl rfl ?_) | ((first | with_reducible refine oAl HO ?_ | ((with_reducible refine to_box ?_); refine wo_box HO rfl rfl ?_)); clear HO; intro _ HO)); (try simp only [Act.put, pS0, pS1, pS2])) | ((first | ((with_reducible refine to_store ?_); first | refine oT1 HO rfl rfl rfl ?_ | refine oT2 HO rfl rfl rfl (by rfl) ?_ | refine oT3 HO rfl rfl rfl rfl ?_) | with_reducible refine ab_drew HO ?_); clear HO; intro _ HO) | go_values | go_skip | go_guarded | go_step | go_upon | (go_ite <;> go_prune <;> (try go_simp))))
          (try simp only [hw0])
          go_roundw
          case rel => exact ⟨j + 1, by go_num, Nat.succ_le_of_lt hjn, Lib.hid (HO.out.sub ((List.sublist_cons_self _ _).trans (List.sublist_cons_self _ _)) (List.Sublist.refl _) (fun c hc => hc))⟩
          case measure => exact meas2 (by go_num) (Nat.lt_succ_self j) hjn
    · have hd3 : decide ((j : Int) < (n : Int)) = false := decide_eq_false (fun h => hjn (by exact_mod_cast h))
      (repeat' (first | (with_reducible first | refine oXt ?_ | refine oXb ?_) | ((with_reducible refine ib_miss ?_ ?_); exact rfl) | ((first | ((with_reducible refine to_load ?_); first | refine oL1 HO rfl rfl ?_ | refine oL2 HO rfl rfl ?_ | refine oL3 HO rfl rfl ?_) | ((first | with_reducible refine oAl HO ?_ | ((with_reducible refine to_box ?_); refine wo_box HO rfl rfl ?_)); clear HO; intro _ HO)); (try simp only [Act.put, pS0, pS1, pS2])) | ((first | ((with_reducible refine to_store ?_); first | refine oT1 HO rfl rfl rfl ?_ | refine oT2 HO rfl rfl rfl (by rfl) ?_ | refine oT3 HO rfl rfl rfl rfl ?_) | with_reducible refine ab_drew HO ?_); clear HO; intro _ HO) | go_values | go_skip | go_guarded | go_step | go_upon | (go_ite <;> go_prune <;> (try go_simp))))
      (try dsimp only [List.drop, List.take])
      go_loopw [11] (fun iv wr => ∃ j : Nat, iv = .int .i64 (j : Int) ∧ j ≤ m ∧ Hid (Own w [] (fun _ => True) [⟨W1.heap.size, 27, [.slice A' n c', .slice B' m d']⟩, ⟨w.heap.size, 27, [.slice A n c, .slice B m d]⟩] [] [] wr)) (fun iv _ => m - (intOf iv).toNat)
      case atStart => exact ⟨0, rfl, Nat.zero_le _, HO⟩
      case round =>
        clear HO
        obtain ⟨j, rfl, hj, HO⟩ := hrel
        by_cases hjm : j < m
        · have hd4 : decide ((j : Int) < (m : Int)) = true := decide_eq_true (by exact_mod_cast hjm)
          have hjI : (j : Int) < (m : Int) := by exact_mod_cast hjm
          have hj0 : (0 : Int) ≤ (j : Int) := Int.natCast_nonneg j
          obtain ⟨bA, rfl, hbA, hrA⟩ := rowR_get HT.out.rr (j := j) (h2.symm ▸ hjm)
          obtain ⟨bB, rfl, hbB, hrB⟩ := rowR_get HT'.out.rr (j := j) (h2'.symm ▸ hjm)
          rw [Nat.mul_comm] at hrA hrB
          have hfg : erR re[j].1 = erR re'[j].1 := by
            have h0 := congrArg (fun l => l[j]?) HR.out
            simp only [List.getElem?_map, List.getElem?_eq_getElem (show j < re.length by omega), List.getElem?_eq_getElem (show j < re'.length by omega), Option.map_some, Option.some.injEq] at h0
            exact h0
          have hok := HT.out.er re[j] (List.getElem_mem _)
          have hok' := HT'.out.er re'[j] (List.getElem_mem _)
          have hfew := HFR.out re[j] (List.getElem_mem _)
          generalize re[j] = x at hrA hfg hok hfew
          generalize re'[j] = y at hrB hfg hok'
          obtain ⟨⟨kk, at0, ls, bd, br⟩, Af, cf, Bf, ef⟩ := x
          obtain ⟨⟨kk', at1, ls', bd', br'⟩, Ag, cg, Bg, eg⟩ := y
          unfold erR at hfg
          injection hfg with g1 g2
          injection g2 with g2 g3
          injection g3 with g3 g4
          dsimp only at g1 g2 g3 g4
          subst g1 g4
          unfold ruleC at hrA hrB
          dsimp only at hrA hrB
          have hLR : LR ls ls' := g2
          have HLL := Lib.hid hLR.length
          rw [← HLL.out] at hrB
          clear g2
          (repeat' (first | (with_reducible first | refine oXt ?_ | refine oXb ?_) | ((with_reducible refine ib_miss ?_ ?_); exact rfl) | ((first | ((with_reducible refine to_load ?_); first | refine oL1 HO rfl rfl ?_ | refine oL2 HO rfl rfl ?_ | refine oL3 HO rfl rfl ?_ | (refine wo_loadX HO rfl rfl hbA List.not_mem_nil hrA Try.isAgg42 Try.sizeOf42 (by rfl) ?_; (try simp only [Act.put, pS0, pS1, pS2])) | (refine wo_loadX HO rfl rfl hbB List.not_mem_nil hrB Try.isAgg42 Try.sizeOf42 (by rfl) ?_; (try simp only [Act.put, pS0, pS1, pS2]))) | ((first | with_reducible refine oAl HO ?_ | ((with_reducible refine to_box ?_); refine wo_box HO rfl rfl ?_)); clear HO; intro _ HO)); (try simp only [Act.put, pS0, pS1, pS2])) | ((first | ((with_reducible refine to_store ?_); first | refine oT1 HO rfl rfl rfl ?_ | refine oT2 HO rfl rfl rfl (by rfl) ?_ | refine oT3 HO rfl rfl rfl rfl ?_) | with_reducible refine ab_drew HO ?_); clear HO; intro _ HO) | go_values | go_skip | go_guarded | go_step | go_upon | (go_ite <;> go_prune <;> (try go_simp))))
          have hFk : ∀ b, b < w.heap.size → b < (_ : World).heap.size ∧ (_ : World).heap[b]? = w.heap[b]? := fun b hb => ⟨Nat.lt_of_lt_of_le hb HO.out.kept.size, HO.out.kept.block b hb List.not_mem_nil⟩
          refine (one_any hN bd bd' hfew.2 g3 Bf Bg ef eg _ ((KidsN_eq _ _ _ _).mpr (KidsL.st hFk _ _ _ hok.2.2.2)) ((KidsN_eq _ _ _ _).mpr (KidsL.st hFk _ _ _ hok'.2.2.2)) hok.2.1 hok'.2.1).mono ?_
          rintro _ W5 ⟨rfl, q5⟩
          replace HO := Lib.hid (HO.out.next q5)
          clear q5 hFk
          dsimp only
          (repeat' (first | (with_reducible first | refine oXt ?_ | refine oXb ?_) | ((with_reducible refine ib_miss ?_ ?_); exact rfl) | ((first | ((with_reducible refine to_load ?_); first | refine oL1 HO rfl rfl ?_ | refine oL2 HO rfl rfl ?_ | refine oL3 HO rfl rfl ?_) | ((first | with_reducible refine oAl HO ?_ | ((with_reducible refine to_box ?_); refine wo_box HO rfl rfl ?_)); clear HO; intro _ HO)); (try simp only [Act.put, pS0, pS1, pS2])) | ((first | ((with_reducible refine to_store ?_); first | refine oT1 HO rfl rfl rfl ?_ | refine oT2 HO rfl rfl rfl (by rfl) ?_ | refine oT3 HO rfl rfl rfl rfl ?_) | with_reducible refine ab_drew HO ?_); clear HO; intro _ HO) | go_values | go_skip | go_guarded | go_step | go_upon | (go_ite <;> go_prune <;> (try go_simp))))
          rename_i V3 V2 V1 V0
          (try dsimp only [List.drop, List.take])
          go_loopw [14] (fun iv wq => ∃ i : Nat, iv = .int .i64 (i : Int) ∧ i ≤ ls.length ∧ Hid (Own w [] (fun _ => True) [⟨V2.heap.size, 42, [.int .i64 (kk : Int), .int .i64 (at1 : Int), .slice Ag ls.length cg, .int .i64 (bd'.k : Int), .int .i64 (bd'.at' : Int), .string (strN bd'.s), .bool (zn bd'.z), .int .u64 (zh bd'.z), .int .u64 (zl bd'.z), .int .i64 (bd'.i : Int), .slice Bg bd'.l.length eg, .bool br]⟩, ⟨wr.heap.size, 42, [.int .i64 (kk : Int), .int .i64 (at0 : Int), .slice Af ls.length cf, .int .i64 (bd.k : Int), .int .i64 (bd.at' : Int), .string (strN bd.s), .bool (zn bd.z), .int .u64 (zh bd.z), .int .u64 (zl bd.z), .int .i64 (bd.i : Int), .slice Bf bd.l.length ef, .bool br]⟩, ⟨W1.heap.size, 27, [.slice A' n c', .slice (some ⟨bB, 0, none⟩) m d']⟩, ⟨w.heap.size, 27, [.slice A n c, .slice (some ⟨bA, 0, none⟩) m d]⟩] [] [] wq)) (fun iv _ => ls.length - (intOf iv).toNat)
          case atStart => exact ⟨0, rfl, Nat.zero_le _, HO⟩
          case round =>
            clear HO
            obtain ⟨i, rfl, hi, HO⟩ := hrel
            by_cases hin : i < ls.length
            · have hd5 : decide ((i : Int) < (ls.length : Int)) = true := decide_eq_true (by exact_mod_cast hin)
              have hiI : (i : Int) < (ls.length : Int) := by exact_mod_cast hin
              have hi0 : (0 : Int) ≤ (i : Int) := Int.natCast_nonneg i
              have hpl : ls.length ≤ N := hfew.1.1
              have hwi : wrap64 ((i : Int) + 1) = (i : Int) + 1 := IntWalk.wrap64_in _ (by omega)
              have HX := Lib.hid hok.2.2.1
              have HY := Lib.hid hok'.2.2.1
              obtain ⟨bF, oF, A1, c1, rfl, hbF, hrF, hcF, hkF⟩ := kidsL_get ls 0 i hin HX.out
              obtain ⟨bG, oG, A2, c2, rfl, hbG, hrG, hcG, hkG⟩ := kidsL_get ls' 0 i (HLL.out ▸ hin) HY.out
              rw [Nat.zero_add, Nat.mul_comm] at hrF hrG
              have hon := lr_get hLR i hin (HLL.out ▸ hin)
              have hfw := hfew.1.2 ls[i] (List.getElem_mem _)
              (repeat' (go_not_at_region 25; first | (with_reducible first | refine oXt ?_ | refine oXb ?_) | ((with_reducible refine ib_miss ?_ ?_); exact rfl) | ((first | ((with_reducible refine to_load ?_); first | refine oL1 HO rfl rfl ?_ | refine oL2 HO rfl rfl ?_ | refine oL3 HO rfl rfl ?_) | ((first | with_reducible refine oAl HO ?_ | ((with_reducible refine to_box ?_); refine wo_box HO rfl rfl ?_)); clear HO; intro _ HO)); (try simp only [Act.put, pS0, pS1, pS2])) | ((first | ((with_reducible refine to_store ?_); first | refine oT1 HO rfl rfl rfl ?_ | refine oT2 HO rfl rfl rfl (by rfl) ?_ | refine oT3 HO rfl rfl rfl rfl ?_) | with_reducible refine ab_drew HO ?_); clear HO; intro _ HO) | go_values | go_skip | go_guarded | go_step | go_upon | (go_ite <;> go_prune <;> (try go_simp))))
              have HFk := Lib.hid (fun (W6 : World) (h : Kept [] w W6) b (hb : b < w.heap.size) => (⟨Nat.lt_of_lt_of_le hb h.size, h.block b hb List.not_mem_nil⟩ : b < W6.heap.size ∧ W6.heap[b]? = w.heap[b]?))
              refine eBe HO [] [0, 2, 5, 7, 10, 1, 3, 4, 6, 8, 9, 11, 12] [] ?_
              clear HO
              intro _ HO
              (repeat' (first | ((with_reducible refine eGo ?_); first | refine eCa rfl rfl (by kernel_rfl) (by rfl) (fun K hK => ?_) | refine eSl rfl rfl (by kernel_rfl) (by rfl) (fun K hK => ?_) | ((first | refine eL1 HO rfl rfl rfl (by kernel_rfl) (fun _ _ _ h => h) (by rfl) ?_ | refine eL2 HO rfl rfl rfl (by kernel_rfl) (fun _ _ _ h => h) (by rfl) ?_ | refine eL4 HO rfl rfl rfl hbF List.not_mem_nil hrF (by rfl) (by kernel_rfl) (fun _ _ _ h => h) (by rfl) ?_ | refine eL4 HO rfl rfl rfl hbG List.not_mem_nil hrG (by rfl) (by kernel_rfl) (fun _ _ _ h => h) (by rfl) ?_ | refine ePu HO rfl (by kernel_rfl) (fun _ _ _ h => h) (by rfl) (eFi rfl rfl ⟨_, _, _, _, _, _, _, rfl, rfl, inferInstance⟩) ?_ | refine ePu HO rfl (by kernel_rfl) (fun _ _ _ h => h) (by rfl) (by intro _; go_simp; (try with_reducible rfl)) ?_); (try simp only [Act.put, pS0, pS1, pS2])) | refine eA1 rfl (by kernel_rfl) (by rfl) (fun K hK => ?_) | refine eA2 rfl (by kernel_rfl) (by rfl) (fun K hK => ?_) | refine eEe (by kernel_rfl) ?_) | ((with_reducible refine eHo ?_); first | (refine eA4 rfl (by kernel_rfl) (fun _ _ _ h => h) (by rfl) (by intro _; go_simp; (try with_reducible rfl)) ?_; (try simp only [Act.put, pS0, pS1, pS2])) | refine eA3 rfl (by kernel_rfl) (by rfl) (fun K hK => ?_) | refine eDo (by kernel_rfl) ?_) | ((with_reducible show K _ _); (first | with_reducible refine hK.out _ _ (OwnB.of HO) ?_ | with_reducible refine hK.out _ _ ?_); clear hK K; (try simp only [Act.put, pS0, pS1, pS2])) | ((first | (go_at_call 11; refine (one_any hN ls[i] (ls'[i]'(HLL.out ▸ hin)) hfw hon A1 A2 c1 c2 _ (KidsN.st (HFk.out _ HO.out.kept) _ _ hkF) (KidsN.st (HFk.out _ HO.out.kept) _ _ hkG) hcF hcG).mono ?_; rintro _ W5 ⟨rfl, q5⟩; replace HO := Lib.hid (HO.out.next q5); clear q5)) <;> (try dsimp only)) | ((with_reducible refine eOp ?_); go_simp)))
              (repeat' (first | (with_reducible first | refine oXt ?_ | refine oXb ?_) | ((with_reducible refine ib_miss ?_ ?_); exact rfl) | ((first | ((with_reducible refine to_load ?_); first | refine oL1 HO rfl rfl ?_ | refine oL2 HO rfl rfl ?_ | refine oL3 HO rfl rfl ?_) | ((first | with_reducible refine oAl HO ?_ | ((with_reducible refine to_box ?_); refine wo_box HO rfl rfl ?_)); clear HO; intro _ HO)); (try simp only [Act.put, pS0, pS1, pS2])) | ((first | ((with_reducible refine to_store ?_); first | refine oT1 HO rfl rfl rfl ?_ | refine oT2 HO rfl rfl rfl (by rfl) ?_ | refine oT3 HO rfl rfl rfl rfl ?_) | with_reducible refine ab_drew HO ?_); clear HO; intro _ HO) | go_values | go_skip | go_guarded | go_step | go_upon | (go_ite <;> go_prune <;> (try go_simp))))
              (try simp only [hwi])
              go_roundw
              case rel => exact ⟨i + 1, by go_num, Nat.succ_le_of_lt hin, HO⟩
              case measure => exact meas2 (by go_num) (Nat.lt_succ_self i) hin
            · have hd5 : decide ((i : Int) < (ls.length : Int)) = false := decide_eq_false (fun h => hin (by exact_mod_cast h))
              have hw0 : wrap64 ((j : Int) + 1) = (j : Int) + 1 := IntWalk.wrap64_in _ (by omega)
              (repeat' (first | (with_reducible first | refine oXt ?_ | refine oXb ?_) | ((with_reducible refine ib_miss ?_ ?_); exact rfl) | ((first | ((with_reducible refine to_load ?_); first | refine oL1 HO rfl rfl ?_ | refine oL2 HO rfl rfl ?_ | refine oL3 HO rfl rfl ?_) | ((first | with_reducible refine oAl HO ?_ | ((with_reducible refine to_box ?_); refine wo_box HO rfl rfl ?_)); clear HO; intro _ HO)); (try simp only [Act.put, pS0, pS1, pS2])) | ((first | ((with_reducible refine to_store ?_); first | refine oT1 HO rfl rfl rfl ?_ | refine oT2 HO rfl rfl rfl (by rfl) ?_ | refine oT3 HO rfl rfl rfl rfl ?_) | with_reducible refine ab_drew HO ?_); clear HO; intro _ HO) | go_values | go_skip | go_guarded | go_step | go_upon | (go_ite <;> go_prune <;> (try go_simp))))
              (try simp only [hw0])
              go_roundw
              case rel => exact ⟨j + 1, by go_num, Nat.succ_le_of_lt hjm, Lib.hid (HO.out.sub ((List.sublist_cons_self _ _).trans (List.sublist_cons_self _ _)) (List.Sublist.refl _) (fun c hc => hc))⟩
              case measure => exact meas2 (by go_num) (Nat.lt_succ_self j) hjm
        · have hd4 : decide ((j : Int) < (m : Int)) = false := decide_eq_false (fun h => hjm (by exact_mod_cast h))
          (repeat' (first | (with_reducible first | refine oXt ?_ | refine oXb ?_) | ((with_reducible refine ib_miss ?_ ?_); exact rfl) | ((first | ((with_reducible refine to_load ?_); first | refine oL1 HO rfl rfl ?_ | refine oL2 HO rfl rfl ?_ | refine oL3 HO rfl rfl ?_) | ((first | with_reducible refine oAl HO ?_ | ((with_reducible refine to_box ?_); refine wo_box HO rfl rfl ?_)); clear HO; intro _ HO)); (try simp only [Act.put, pS0, pS1, pS2])) | ((first | ((with_reducible refine to_store ?_); first | refine oT1 HO rfl rfl rfl ?_ | refine oT2 HO rfl rfl rfl (by rfl) ?_ | refine oT3 HO rfl rfl rfl rfl ?_) | with_reducible refine ab_drew HO ?_); clear HO; intro _ HO) | go_values | go_skip | go_guarded | go_step | go_upon | (go_ite <;> go_prune <;> (try go_simp))))
          refine bp_tmp (t := 6) rfl rfl rfl ?_
          exact ⟨rfl, HO.out.kept.below⟩
end
end Go.Proofs.Ytdiibenofbcfnaa
