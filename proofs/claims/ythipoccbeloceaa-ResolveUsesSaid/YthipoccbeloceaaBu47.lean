/- Several texts put together: RwB, RwC, RwD, RwE, RwF. -/
import Derived.Test.YthipoccbeloceaaBu46
import Derived.Test.YthipoccbeloceaaBu27
set_option linter.unusedSimpArgs false
set_option linter.unusedVariables false
namespace Go.Proofs.Ythipoccbeloceaa
open Go.RowKit
theorem TrAt.ruleAll {w : World} {P : Nat → Prop} {AF AR : Option Addr} {nF nR : Nat} {t : TreeT} (h : TrAt w P AF AR nF nR t) {i : Nat} {r : RuleT} (hf : t.rules[i]? = some r) : ∃ b A c B e, AR = some ⟨b, 0, none⟩ ∧ P b ∧ w.rangeAt b (i * 12) (ruleC r A c B e) ∧ r.l.length ≤ c ∧ r.body.l.length ≤ e ∧ KidsL w P r.l A 0 ∧ KidsL w P r.body.l B 0 := by
  obtain ⟨fe, re, rfl, _, hn, hT⟩ := h
  have hx : (re.map (·.1))[i]? = some r := hf
  rw [List.getElem?_map] at hx
  obtain ⟨⟨r', A, c, B, e⟩, hy, rfl⟩ := Option.map_eq_some_iff.1 hx
  have hne : flatR re ≠ [] := by
    intro h0
    have := flatR_get re i 0 _ hy (by decide)
    rw [h0] at this
    simp [ruleC] at this
  obtain ⟨b, hA, hb, hc⟩ := hT.rr hne
  have hok := hT.er _ (List.mem_of_getElem? hy)
  refine ⟨b, A, c, B, e, hA, hb, fun j u hu => ?_, hok.1, hok.2.1, hok.2.2.1, hok.2.2.2⟩
  have hj : j < 12 := by
    rcases Nat.lt_or_ge j 12 with h | h
    · exact h
    · rw [List.getElem?_eq_none (by simpa [ruleC] using h)] at hu; cases hu
  exact hc _ u (by rw [flatR_get re i j _ hy hj]; exact hu)
def AllJ {w1 w : World} {X : List Nat} {S : World → Prop} {bs : List Bx} {r0 : Rw} {rs : List Rw} {F : List Cold} (_ : Hid (Own w1 X S bs (r0 :: rs) F w)) (Z : Nat → List Spt) (N : Nat) (R : List Spt) (sv iv : Value) (W : World) : Prop :=
  ∃ (i : Nat) (A : Option Addr) (c : Nat) (els : List ElS), iv = .int .i64 (i : Int) ∧ sv = .slice A els.length c ∧ i ≤ N ∧ Hid (els.length ≤ c) ∧ Hid (els.map (·.1) ++ Z i = R) ∧ Hid (∀ e ∈ els, SpOK w1 (Eld w1 X) e) ∧ Hid (Own w1 X S bs (⟨47, 15, .slice A els.length c, els.length, els.flatMap elS⟩ :: rs) F W)
theorem spF_step {l : List FuncT} {i : Nat} {f : FuncT} (h : l[i]? = some f) : spFuncs i (l.drop i) = spN (i : Int) 0 0 [] 0 false false f.body ++ spFuncs (i + 1) (l.drop (i + 1)) := by
  obtain ⟨hi, e⟩ := List.getElem?_eq_some_iff.1 h
  rw [List.drop_eq_getElem_cons hi, e, spFuncs]
theorem fm_step {α : Type} {f : α → List Spt} {l : List α} {i : Nat} {x : α} (h : l[i]? = some x) : (l.drop i).flatMap f = f x ++ (l.drop (i + 1)).flatMap f := by
  obtain ⟨hi, e⟩ := List.getElem?_eq_some_iff.1 h
  rw [List.drop_eq_getElem_cons hi, e, List.flatMap_cons]
theorem all_len {els : List ElS} {l m R : List Spt} {fn : Int} {kd deep : Nat} {call : List Nat} {arg : Nat} {split called : Bool} {n : NodeT} (hr : els.map (·.1) ++ (spN fn kd deep call arg split called n ++ m) = R) (h : R.length ≤ 1000000) : els.length + nsz n ≤ 1000000 := by
  have := congrArg List.length hr
  rw [List.length_append, List.length_append, List.length_map, spN_len] at this
  omega
theorem all_by {els : List ElS} {l m R : List Spt} (hr : els.map (·.1) ++ (l ++ m) = R) (h : ∀ x ∈ R, byteOk x.n.s) : ∀ x ∈ l, byteOk x.n.s := fun x hx => h x (by rw [← hr]; exact List.mem_append_right _ (List.mem_append_left _ hx))
theorem all_next {w1 w w' : World} {X : List Nat} {S : World → Prop} {bs : List Bx} {r0 : Rw} {rs : List Rw} {F : List Cold} {cd : Cold} {Z : Nat → List Spt} {R l : List Spt} {N i c : Nat} {A : Option Addr} {els els2 : List ElS} (HO0 : Hid (Own w1 X S bs (r0 :: rs) F w)) (hlt : i < N) (hc : Hid ((els ++ els2).length ≤ c)) (hm : Hid (els2.map (·.1) = l)) (hr : Hid (els.map (·.1) ++ (l ++ Z (i + 1)) = R)) (h1 : Hid (∀ e ∈ els, SpOK w1 (Eld w1 X) e)) (h2 : Hid (∀ e ∈ els2, SpOK w1 (Eld w1 X) e)) (HO : Hid (Own w1 X S bs (⟨47, 15, .slice A (els ++ els2).length c, (els ++ els2).length, (els ++ els2).flatMap elS⟩ :: rs) (cd :: F) w')) : AllJ HO0 Z N R (.slice A (els ++ els2).length c) (.int .i64 ((i : Int) + 1)) w' :=
  ⟨i + 1, A, c, els ++ els2, rfl, rfl, hlt, hc, Lib.hid (by rw [List.map_append, hm.out, List.append_assoc, hr.out]), Lib.hid (fun e he => (List.mem_append.1 he).elim (h1.out e) (h2.out e)), Lib.hid (HO.out.sub (List.Sublist.refl _) (List.Sublist.refl _) (fun _ h => List.mem_cons_of_mem _ h))⟩
def AllSp (t : TreeT) (w : World) (e : Ending) (w' : World) : Prop := Below w.heap.size w w' ∧ ∃ (A : Option Addr) (c : Nat) (els : List ElS), e = .returned (.slice A els.length c) ∧ els.length ≤ c ∧ els.map (·.1) = spots t ∧ (∀ e ∈ els, SpOK w (Eld w []) e) ∧ RowAt w' (fun b => w.heap.size ≤ b ∧ b < w'.heap.size) A (els.flatMap elS)
set_option maxRecDepth 100000 in
set_option maxHeartbeats 6400000 in
theorem all_any {t : TreeT} {AF AR : Option Addr} {nF cF nR cR : Nat} (w : World) (hnF : nF = t.funcs.length) (hnR : nR = t.rules.length) (hn1 : nF ≤ 1000000) (hn2 : nR ≤ 1000000) (hrl : ∀ r ∈ t.rules, r.l.length ≤ 1000000) (hR : (spots t).length ≤ 1000000) (hby : ∀ x ∈ spots t, byteOk x.n.s) (hT : TrAt w (Eld w []) AF AR nF nR t) :
    Calls Try.prog 7 #[.agg #[.slice AF nF cF, .slice AR nR cR]] w (AllSp t w) := by
  obtain ⟨R, hRR⟩ : ∃ R, spots t = R := ⟨_, rfl⟩
  unfold AllSp
  rw [hRR] at hR hby ⊢
  unfold spots at hRR
  have HRR := Lib.hid hRR
  have HBY := Lib.hid hby
  have HT := Lib.hid hT
  have HNF := Lib.hid hnF
  have HNR := Lib.hid hnR
  have HRL := Lib.hid hrl
  clear hRR hby hT hnF hnR hrl
  have HO := own_0 w
  go_enter Try.func7, Try.ntmps7
  (repeat' (first | ((with_reducible refine zG ?_); first | refine oWx ?_ | (refine oWs ?_; clear HO; intro _ HO)) | go_values | go_skip | go_guarded | go_step | go_upon | (go_ite <;> go_prune <;> (try go_simp))))
  replace HO := Lib.hid (HO.out.nilRow 47 15)
  have HO0 := HO
  go_loopw [3, 4] (fun sv iv W => AllJ HO0 (fun i => spFuncs i (t.funcs.drop i) ++ t.rules.flatMap spRule) nF R sv iv W) (fun _ iv _ => nF - (intOf iv).toNat)
  case atStart => exact ⟨0, none, 0, [], rfl, rfl, Nat.zero_le _, Lib.hid (Nat.zero_le _), HRR, Lib.hid (fun _ h => (by cases h)), HO⟩
  case round =>
    clear HRR
    obtain ⟨i, A2, c2, els, rfl, rfl, hi, HCP, HR, HOK, HO1⟩ := hrel
    clear HO
    have HO := HO1
    clear HO1
    rcases Nat.lt_or_ge i nF with hlt | hge
    · obtain ⟨f, hf⟩ : ∃ f, t.funcs[i]? = some f := ⟨_, List.getElem?_eq_getElem (Nat.lt_of_lt_of_eq hlt HNF.out)⟩
      obtain ⟨-, b2, B2, e2, eA, hnd⟩ := HT.out.body hf
      subst eA
      have hiI : (i : Int) < (nF : Int) := by omega
      have hr2 := HR.out
      dsimp only at hr2
      rw [spF_step hf, List.append_assoc] at hr2
      have HLE := Lib.hid (all_len (l := R) hr2 hR)
      have HB2 := Lib.hid (all_by hr2 HBY.out)
      have hcc := hnd.cells
      unfold nodeC at hcc
      have HCC := Lib.hid hcc
      have HND := Lib.hid hnd
      replace HR := Lib.hid hr2
      clear hr2 hcc hnd hf
      (repeat' (first | ((with_reducible refine zG ?_); first | refine oWx ?_ | (refine oWs ?_; clear HO; intro _ HO)) | ((with_reducible refine to_load ?_); (first | first | refine oE3 HO rfl rfl HND.out.hb HCC.out ?_); (try simp only [Act.put, pS])) | ((with_reducible refine to_append ?_); refine wo_appSp HO rfl rfl rfl (bel_len HLE.out HMP.out) ?_; clear HO HCP; intro _ _ _ HCP HO; (try simp only [Act.put, pS])) | ((go_big_may; first | (refine (below_any 1000000 f.body (i : Int) 0 0 [] 0 false false B2 e2 _ _ _ _ (by have := HLE.out; omega) (by have := HLE.out; omega) HND.out.hc HND.out.kids HB2.out HO.out).mono ?_; rintro e W9 ⟨AR9, cR9, els2, rfl, hcR, hmap, hok, hO⟩; clear HO; have HO := Lib.hid hO; clear hO; have HMP := Lib.hid hmap; replace hok := Lib.hid hok; clear hmap)) <;> (try dsimp only)) | go_values | go_skip | go_guarded | go_step | go_upon | (go_ite <;> go_prune <;> (try go_simp))))
      refine ⟨all_next HO0 hlt HCP HMP HR HOK hok HO, ?_⟩
      exact meas2 rfl (Nat.le_refl _) hlt
    · obtain rfl : i = nF := by omega
      have hngi : ¬ (i : Int) < (i : Int) := by omega
      have hr2 := HR.out
      dsimp only at hr2
      rw [List.drop_of_length_le (Nat.le_of_eq HNF.out.symm), spFuncs, List.nil_append] at hr2
      replace HR := Lib.hid hr2
      clear hr2
      (repeat' (first | ((with_reducible refine zG ?_); first | refine oWx ?_ | (refine oWs ?_; clear HO; intro _ HO)) | go_values | go_skip | go_guarded | go_step | go_upon | (go_ite <;> go_prune <;> (try go_simp))))
      have HO2 := HO
      go_loopw [3, 5] (fun sv iv W => AllJ HO2 (fun i => (t.rules.drop i).flatMap spRule) nR R sv iv W) (fun _ iv _ => nR - (intOf iv).toNat)
      case atStart => exact ⟨0, _, _, els, rfl, rfl, Nat.zero_le _, HCP, HR, HOK, HO⟩
      case round =>
        clear HR HCP HOK hngi
        obtain ⟨j, A5, c5, els5, rfl, rfl, hj, HCP, HR, HOK, HO1⟩ := hrel
        clear HO
        have HO := HO1
        clear HO1
        rcases Nat.lt_or_ge j nR with hlj | hgj
        · obtain ⟨r, hrj⟩ : ∃ r, t.rules[j]? = some r := ⟨_, List.getElem?_eq_getElem (Nat.lt_of_lt_of_eq hlj HNR.out)⟩
          obtain ⟨b2, A4, c4, B4, e4, eA, hb2, hcl, hlc, hle, hk1, hk2⟩ := HT.out.ruleAll hrj
          subst eA
          have hjI : (j : Int) < (nR : Int) := by omega
          have hr2 := HR.out
          dsimp only at hr2
          rw [fm_step hrj, spRule, List.append_assoc] at hr2
          have hrl2 := HRL.out r (List.mem_of_getElem? hrj)
          unfold ruleC at hcl
          have HCL := Lib.hid hcl
          have HB2 := Lib.hid hb2
          have HK1 := Lib.hid hk1
          have HK2 := Lib.hid hk2
          have HLC := Lib.hid hlc
          have HLE4 := Lib.hid hle
          obtain ⟨M, hM⟩ : ∃ M, (t.rules.drop (j + 1)).flatMap spRule = M := ⟨_, rfl⟩
          rw [hM] at hr2
          have HM := Lib.hid hM
          replace HR := Lib.hid hr2
          clear hr2 hrj hcl hb2 hk1 hk2 hlc hle hM
          (repeat' (first | ((with_reducible refine zG ?_); first | refine oWx ?_ | (refine oWs ?_; clear HO; intro _ HO)) | ((with_reducible refine to_load ?_); (first | first | refine oE3 HO rfl rfl HB2.out HCL.out ?_); (try simp only [Act.put, pS])) | go_values | go_skip | go_guarded | go_step | go_upon | (go_ite <;> go_prune <;> (try go_simp))))
          have HO3 := HO
          go_loopw [3, 7] (fun sv iv W => AllJ HO3 (fun k => (r.l.drop k).flatMap (fun n => spN (-1) r.k 0 [] 0 false false n) ++ (spN (-1) r.k 0 [] 0 false false r.body ++ M)) r.l.length R sv iv W) (fun _ iv _ => r.l.length - (intOf iv).toNat)
          case atStart => exact ⟨0, _, _, els5, rfl, rfl, Nat.zero_le _, HCP, HR, HOK, HO⟩
          case round =>
            clear HR HCP HOK
            obtain ⟨k, A6, c6, els6, rfl, rfl, hk, HCP, HR, HOK, HO1⟩ := hrel
            clear HO
            have HO := HO1
            clear HO1
            rcases Nat.lt_or_ge k r.l.length with hlk | hgk
            · obtain ⟨b7, o7, A7, c7, eA, hF7, hc7, hl7, hk7⟩ := kidsL_get r.l 0 k hlk HK1.out
              obtain ⟨x, hx⟩ : ∃ x, r.l[k]? = some x := ⟨_, List.getElem?_eq_getElem hlk⟩
              have ex : r.l[k] = x := (List.getElem?_eq_some_iff.1 hx).2
              rw [ex] at hc7 hl7 hk7
              rw [KidsN_eq] at hk7
              rw [Nat.zero_add, Nat.mul_comm] at hc7
              subst eA
              have hkI : (k : Int) < (r.l.length : Int) := by omega
              have hr2 := HR.out
              dsimp only at hr2
              rw [fm_step hx, List.append_assoc] at hr2
              have HLE := Lib.hid (all_len (l := R) hr2 hR)
              have HB9 := Lib.hid (all_by hr2 HBY.out)
              unfold nodeC at hc7
              have HC7 := Lib.hid hc7
              have HF7 := Lib.hid hF7
              have HL7 := Lib.hid hl7
              have HK7 := Lib.hid hk7
              replace HR := Lib.hid hr2
              clear hr2 hx ex hc7 hF7 hl7 hk7
              (repeat' (first | ((with_reducible refine zG ?_); first | refine oWx ?_ | (refine oWs ?_; clear HO; intro _ HO)) | go_values | go_skip | go_guarded | go_step | go_upon | (go_ite <;> go_prune <;> (try go_simp))))
              ((refine tBg HO [] (.pu 0 (.pu 1 (.pu 3 (.pu 6 (.ld 2 (.pu 4 (.ld 5 (.ld 7 (.pu 8 (.ef 9 (.ef 10 (.pu 11 (.nil))))))))))))) ?_); (clear HO; intro _ HO); (repeat' (first | ((with_reducible refine tGo ?_); first | ((first | refine tL1 (OwnT.of HO) rfl rfl rfl (by kernel_rfl) (fun _ _ _ h => h) (by rfl) ?_ | refine tL3 (OwnT.of HO) rfl rfl rfl (by kernel_rfl) (fun _ _ _ h => h) (by rfl) ?_ | refine tY1 (OwnT.of HO) rfl rfl rfl (by kernel_rfl) (fun _ _ _ h => h) (by rfl) ?_ | refine tRd (OwnT.of HO) rfl (by kernel_rfl) (fun _ _ _ h => h) (by rfl) (rdE3 rfl rfl HF7.out rfl HC7.out) ?_); (try simp only [Act.put, pS])) | ((first | refine tPu (OwnT.of HO) rfl (by kernel_rfl) (fun _ _ _ h => h) (by rfl) (by intro _; go_simp; (try with_reducible rfl)) ?_); (try simp only [Act.put, pS])) | refine tEf rfl (by kernel_rfl) (by rfl) (fun K hK => ?_) | refine tLt rfl (by kernel_rfl) (by rfl) (fun K hK => ?_) | refine tDo (by kernel_rfl) ?_) | ((with_reducible refine uGo ?_); first | ((refine uPu rfl (by kernel_rfl) (fun _ _ _ h => h) (by rfl) (by intro _; go_simp; (try with_reducible rfl)) ?_); (try simp only [Act.put, pS])) | refine uEf rfl (by kernel_rfl) (by rfl) (fun K hK => ?_) | refine uDo (by kernel_rfl) ?_) | ((with_reducible show K _ _); (first | refine hK.out _ _ (OwnT.of HO) ?_ | with_reducible refine hK.out _ _ ?_); clear hK K; (try simp only [Act.put, pS])) | ((first | (go_at_call 26; refine (below_any 1000000 x (-1) r.k 0 [] 0 false false A7 c7 _ _ _ _ (by have := HLE.out; omega) (by have := HLE.out; omega) HL7.out HK7.out HB9.out HO.out).mono ?_; rintro e W9 ⟨AR9, cR9, els2, rfl, hcR, hmap, hok, hO⟩; clear HO; have HO := Lib.hid hO; clear hO; have HMP := Lib.hid hmap; replace hok := Lib.hid hok; clear hmap) | ((with_reducible refine to_append ?_); refine wo_appSp HO rfl rfl rfl (bel_len HLE.out HMP.out) ?_; clear HO HCP; intro _ _ _ HCP HO; (try simp only [Act.put, pS]))) <;> (try dsimp only)) | ((with_reducible refine eOp ?_); go_simp))))
              (repeat' (first | ((with_reducible refine zG ?_); first | refine oWx ?_ | (refine oWs ?_; clear HO; intro _ HO)) | go_values | go_skip | go_guarded | go_step | go_upon | (go_ite <;> go_prune <;> (try go_simp))))
              rw [← List.length_append]
              refine ⟨all_next HO3 hlk HCP HMP HR HOK hok HO, ?_⟩
              exact meas2 rfl (Nat.le_refl _) hlk
            · obtain rfl : k = r.l.length := by omega
              have hngk : ¬ (r.l.length : Int) < (r.l.length : Int) := by omega
              have hr2 := HR.out
              dsimp only at hr2
              rw [List.drop_length, List.flatMap_nil, List.nil_append] at hr2
              have HLE := Lib.hid (all_len (l := R) hr2 hR)
              have HB9 := Lib.hid (all_by hr2 HBY.out)
              rw [← HM.out] at hr2
              replace HR := Lib.hid hr2
              clear hr2
              (repeat' (first | ((with_reducible refine zG ?_); first | refine oWx ?_ | (refine oWs ?_; clear HO; intro _ HO)) | ((with_reducible refine to_append ?_); refine wo_appSp HO rfl rfl rfl (bel_len HLE.out HMP.out) ?_; clear HO HCP; intro _ _ _ HCP HO; (try simp only [Act.put, pS])) | ((go_big_may; first | (refine (below_any 1000000 r.body (-1) r.k 0 [] 0 false false B4 e4 _ _ _ _ (by have := HLE.out; omega) (by have := HLE.out; omega) HLE4.out HK2.out HB9.out HO.out).mono ?_; rintro e W9 ⟨AR9, cR9, els2, rfl, hcR, hmap, hok, hO⟩; clear HO; have HO := Lib.hid hO; clear hO; have HMP := Lib.hid hmap; replace hok := Lib.hid hok; clear hmap)) <;> (try dsimp only)) | go_values | go_skip | go_guarded | go_step | go_upon | (go_ite <;> go_prune <;> (try go_simp))))
              refine ⟨?_, ?_⟩
              · exact all_next (Z := fun i => (t.rules.drop i).flatMap spRule) HO2 hlj HCP HMP HR HOK hok (Lib.hid (HO.out.sub (List.sublist_cons_self _ _) (List.Sublist.refl _) (fun _ h => h)))
              · exact meas2 rfl (Nat.le_refl _) hlj
        · obtain rfl : j = nR := by omega
          have hngj : ¬ (j : Int) < (j : Int) := by omega
          have hr2 := HR.out
          dsimp only at hr2
          rw [List.drop_of_length_le (Nat.le_of_eq HNR.out.symm), List.flatMap_nil, List.append_nil] at hr2
          replace HR := Lib.hid hr2
          clear hr2
          (repeat' (first | ((with_reducible refine zG ?_); first | refine oWx ?_ | (refine oWs ?_; clear HO; intro _ HO)) | go_values | go_skip | go_guarded | go_step | go_upon | (go_ite <;> go_prune <;> (try go_simp))))
          refine bp_tmp (t := 2) rfl rfl rfl ?_
          obtain ⟨AR, cR, els', he, hc9, hm9, hk9, hO⟩ := bel_end HR HCP HOK HO.out
          exact ⟨hO.kept.below, AR, cR, els', he, hc9, hm9, hk9, RowAt.st (fun b hb => ⟨⟨hb.1, hb.2.1⟩, rfl⟩) (hO.cold _ List.mem_cons_self)⟩
open Go.RowKit
set_option maxRecDepth 100000 in
set_option maxHeartbeats 3200000 in
theorem named14_any {n : NodeT} {A : Option Addr} {c : Nat} (w : World) : Calls Try.prog 8 #[.agg #[.int .i64 ((NodeT.k n : Nat) : Int), .int .i64 ((NodeT.at' n : Nat) : Int), .string (strN (NodeT.s n)), .bool (zn (NodeT.z n)), .int .u64 (zh (NodeT.z n)), .int .u64 (zl (NodeT.z n)), .int .i64 ((NodeT.i n : Nat) : Int), .slice A (NodeT.l n).length c]] w fun e w' => e = .returned (.bool (namedB n)) ∧ Below w.heap.size w w' := by
  have HO := own_0 w
  go_enter Try.func8, Try.ntmps8
  cases h1 : ((n.k : Int) == 4) <;> cases h2 : ((n.k : Int) == 5) <;> cases h3 : ((n.k : Int) == 11) <;> cases h4 : ((n.k : Int) == 46) <;> cases h5 : ((n.k : Int) == 52)
  all_goals
    (repeat' (first | ((with_reducible refine zG ?_); first | refine oWx ?_ | (refine oWs ?_; clear HO; intro _ HO)) | go_values | go_skip | go_guarded | go_step | go_upon | (go_ite <;> go_prune <;> (try go_simp))))
    refine bp_tmp (t := 2) rfl rfl rfl ?_
    exact ⟨by unfold namedB; rw [h1, h2, h3, h4, h5]; rfl, HO.out.kept.below⟩
set_option maxRecDepth 100000 in
set_option maxHeartbeats 3200000 in
theorem local14_any {t : TreeT} {AF AR : Option Addr} {nF cF nR cR : Nat} (fn : Int) (s : List Nat) (w : World) (h0 : fn < (t.funcs.length : Int)) (hn1 : nF ≤ 1000000) (hpl : ∀ f ∈ t.funcs, f.params.length ≤ 1000000) (hb : ∀ f ∈ t.funcs, ∀ x ∈ f.params, byteOk x) (hs : byteOk s) (hT : TrAt w (Eld w []) AF AR nF nR t) :
    Calls Try.prog 9 #[.agg #[.slice AF nF cF, .slice AR nR cR], .int .i64 fn, .string (strN s)] w fun e w' => e = .returned (.bool (localB t fn s)) ∧ Below w.heap.size w w' := by
  have HO := own_0 w
  go_enter Try.func9, Try.ntmps9
  rcases (by omega : fn < 0 ∨ 0 ≤ fn) with hlt | hge
  · have hd : localB t fn s = false := by unfold localB; rw [decide_eq_false (by omega)]; rfl
    rw [hd]
    clear hd
    (repeat' (first | ((with_reducible refine zG ?_); first | refine oWx ?_ | (refine oWs ?_; clear HO; intro _ HO)) | go_values | go_skip | go_guarded | go_step | go_upon | (go_ite <;> go_prune <;> (try go_simp))))
    refine bp_tmp (t := 6) rfl rfl rfl ?_
    exact ⟨rfl, HO.out.kept.below⟩
  · obtain ⟨fi, rfl⟩ := Int.eq_ofNat_of_zero_le hge
    have hfi : fi < t.funcs.length := by omega
    obtain ⟨f, hf⟩ : ∃ f, t.funcs[fi]? = some f := ⟨_, List.getElem?_eq_getElem hfi⟩
    have hmf := List.mem_of_getElem? hf
    obtain ⟨hnF, b, A, c, B, e, eA, hbE, hcl, hok⟩ := hT.func hf
    have hc1 := hcl 1 _ rfl
    have hpr : RowAt w (Eld w []) A (strVs f.params) := hok.2.2.1
    have hfI : (fi : Int) < (nF : Int) := by omega
    have hng : ¬ (fi : Int) < 0 := by omega
    have hpn := hpl f hmf
    have hd : localB t (fi : Int) s = (posF s f.params 0).isSome := by
      unfold localB parsOf
      rw [decide_eq_true (by omega), Int.toNat_natCast, hf]
      rfl
    rw [hd]
    obtain ⟨R, hR⟩ : ∃ R, (posF s f.params 0).isSome = R := ⟨_, rfl⟩
    rw [hR]
    have HR := Lib.hid hR
    have HBP := Lib.hid (hb f hmf)
    have HS := Lib.hid hs
    have HBE := Lib.hid hbE
    have HC1 := Lib.hid hc1
    have HPR := Lib.hid hpr
    subst eA
    clear hcl hok hc1 hpr hd hR hb hs hbE hpl hT hf hmf hfi hnF
    (repeat' (first | ((with_reducible refine zG ?_); first | refine oWx ?_ | (refine oWs ?_; clear HO; intro _ HO)) | go_values | go_skip | go_guarded | go_step | go_upon | (go_ite <;> go_prune <;> (try go_simp))))
    have HO0 := HO
    go_loopw [7] (fun iv W => ∃ i : Nat, iv = .int .i64 (i : Int) ∧ i ≤ f.params.length ∧ Hid ((posF s (f.params.drop i) i).isSome = R) ∧ Hid (Own w [] (fun _ => True) [⟨w.heap.size, 27, [.slice (some ⟨b, 0, none⟩) nF cF, .slice AR nR cR]⟩] [] [] W)) (fun iv _ => f.params.length - (intOf iv).toNat)
    case atStart => exact ⟨0, rfl, Nat.zero_le _, HR, HO⟩
    case round =>
      clear HO HO0 HR
      obtain ⟨i, rfl, hi, HR, HO⟩ := hrel
      rcases Nat.lt_or_ge i f.params.length with hlt | hge
      · obtain ⟨x, hx⟩ : ∃ x, f.params[i]? = some x := ⟨_, List.getElem?_eq_getElem hlt⟩
        have hsv : (strVs f.params)[i]? = some (.string (strN x)) := by unfold strVs; rw [List.getElem?_map, hx]; rfl
        obtain ⟨b4, rfl, hb4, hc4⟩ := HPR.out (by intro h0; rw [h0] at hsv; simp at hsv)
        have hcell := hc4 i _ hsv
        have hiI : (i : Int) < (f.params.length : Int) := by omega
        have hq : ((strN x).toList == (strN s).toList) = decide (x = s) := strN_beq (HBP.out x (List.mem_of_getElem? hx)) HS.out
        have hst := posF_step (s := s) hx
        have hr2 := HR.out
        rw [hst] at hr2
        have HB4 := Lib.hid hb4
        clear hsv hb4 hc4 hx hst HR
        by_cases hxs : x = s
        · rw [decide_eq_true hxs] at hq
          rw [if_pos hxs] at hr2
          subst hr2
          replace hxs := Lib.hid hxs
          (repeat' (first | ((with_reducible refine zG ?_); first | refine oWx ?_ | (refine oWs ?_; clear HO; intro _ HO)) | ((with_reducible refine to_load ?_); (first | first | refine wo_run HO (re1 rfl rfl HBE.out HC1.out) ?_ | refine wo_run HO (re1 rfl rfl HB4.out hcell) ?_); (try simp only [Act.put, pS])) | go_values | go_skip | go_guarded | go_step | go_upon | (go_ite <;> go_prune <;> (try go_simp))))
          refine bp_tmp (t := 6) rfl rfl rfl ?_
          exact ⟨rfl, HO.out.kept.below⟩
        · rw [decide_eq_false hxs] at hq
          rw [if_neg hxs] at hr2
          replace hxs := Lib.hid hxs
          replace hr2 := Lib.hid hr2
          (repeat' (first | ((with_reducible refine zG ?_); first | refine oWx ?_ | (refine oWs ?_; clear HO; intro _ HO)) | ((with_reducible refine to_load ?_); (first | first | refine wo_run HO (re1 rfl rfl HBE.out HC1.out) ?_ | refine wo_run HO (re1 rfl rfl HB4.out hcell) ?_); (try simp only [Act.put, pS])) | go_values | go_skip | go_guarded | go_step | go_upon | (go_ite <;> go_prune <;> (try go_simp))))
          refine ⟨⟨i + 1, rfl, hlt, hr2, HO⟩, ?_⟩
          exact meas2 rfl (Nat.le_refl _) hlt
      · obtain rfl : i = f.params.length := by omega
        have hngi : ¬ (f.params.length : Int) < (f.params.length : Int) := by omega
        have hr2 := HR.out
        rw [List.drop_length, posF] at hr2
        subst hr2
        (repeat' (first | ((with_reducible refine zG ?_); first | refine oWx ?_ | (refine oWs ?_; clear HO; intro _ HO)) | ((with_reducible refine to_load ?_); (first | first | refine wo_run HO (re1 rfl rfl HBE.out HC1.out) ?_); (try simp only [Act.put, pS])) | go_values | go_skip | go_guarded | go_step | go_upon | (go_ite <;> go_prune <;> (try go_simp))))
        refine bp_tmp (t := 6) rfl rfl rfl ?_
        exact ⟨rfl, HO.out.kept.below⟩
open Go.RowKit
def nmS (s : List Nat) : List Nat := s.map (· % 256)
mutual
def nmN : NodeT → NodeT
  | .mk k a s z v l => .mk k a (nmS s) z v (nmL l)
def nmL : List NodeT → List NodeT
  | [] => []
  | n :: l => nmN n :: nmL l
end
def nmF (f : FuncT) : FuncT := ⟨nmS f.name, f.params.map nmS, nmN f.body, f.at'⟩
def nmR (r : RuleT) : RuleT := { r with l := nmL r.l, body := nmN r.body }
def nmT (t : TreeT) : TreeT := ⟨t.funcs.map nmF, t.rules.map nmR⟩
theorem byte_nm (s : List Nat) : byteOk (nmS s) := fun x hx => by
  obtain ⟨y, _, rfl⟩ := List.mem_map.1 hx
  exact Nat.mod_lt _ (by decide)
theorem strN_nm (s : List Nat) : strN (nmS s) = strN s := by
  unfold strN nmS
  rw [List.map_map]
  congr 2
  refine List.map_congr_left fun x _ => ?_
  show UInt8.ofNat (x % 256) = UInt8.ofNat x
  refine UInt8.toNat_inj.1 ?_
  rw [UInt8.toNat_ofNat', UInt8.toNat_ofNat', Nat.mod_mod]
theorem nmL_map : ∀ l : List NodeT, nmL l = l.map nmN
  | [] => by rw [nmL]; rfl
  | n :: l => by rw [nmL, nmL_map l]; rfl
theorem nmL_len (l : List NodeT) : (nmL l).length = l.length := by rw [nmL_map, List.length_map]
theorem nmN_l (n : NodeT) : (nmN n).l = nmL n.l := by cases n; rw [nmN]; rfl
theorem nodeC_nm (n : NodeT) (A : Option Addr) (c : Nat) : nodeC (nmN n) A c = nodeC n A c := by
  cases n with
  | mk k a s z v l =>
    rw [nmN]
    unfold nodeC NodeT.k NodeT.at' NodeT.s NodeT.z NodeT.i NodeT.l
    dsimp only
    rw [strN_nm, nmL_len]
mutual
theorem kidsN_nm {w : World} {F : Nat → Prop} : ∀ (n : NodeT) (A : Option Addr), KidsN w F n A → KidsN w F (nmN n) A
  | .mk _ _ _ _ _ l, A, h => by
    rw [KidsN] at h
    rw [nmN, KidsN]
    exact kidsL_nm l A 0 h
theorem kidsL_nm {w : World} {F : Nat → Prop} : ∀ (l : List NodeT) (A : Option Addr) (j : Nat), KidsL w F l A j → KidsL w F (nmL l) A j
  | [], _, _, _ => by rw [nmL, KidsL]; trivial
  | n :: l, A, j, h => by
    rw [KidsL] at h
    rw [nmL, KidsL]
    obtain ⟨⟨b, o, A', c', e, hb, hr, hc, hk⟩, h2⟩ := h
    exact ⟨⟨b, o, A', c', e, hb, by rw [nodeC_nm]; exact hr, by rw [nmN_l, nmL_len]; exact hc, kidsN_nm n A' hk⟩, kidsL_nm l A (j + 1) h2⟩
end
theorem funcC_nm (f : FuncT) (A : Option Addr) (c : Nat) (B : Option Addr) (e : Nat) : funcC (nmF f) A c B e = funcC f A c B e := by
  obtain ⟨nm, ps, ⟨k, a, s, z, v, l⟩, q⟩ := f
  unfold nmF funcC
  dsimp only
  rw [nmN]
  unfold NodeT.k NodeT.at' NodeT.s NodeT.z NodeT.i NodeT.l
  dsimp only
  rw [strN_nm, strN_nm, nmL_len, List.length_map]
theorem ruleC_nm (r : RuleT) (A : Option Addr) (c : Nat) (B : Option Addr) (e : Nat) : ruleC (nmR r) A c B e = ruleC r A c B e := by
  obtain ⟨k, q, l0, ⟨k1, a, s, z, v, l⟩, br⟩ := r
  unfold nmR ruleC
  dsimp only
  rw [nmN]
  unfold NodeT.k NodeT.at' NodeT.s NodeT.z NodeT.i NodeT.l
  dsimp only
  rw [strN_nm, nmL_len, nmL_len]
theorem strVs_nm (l : List (List Nat)) : strVs (l.map nmS) = strVs l := by
  unfold strVs
  rw [List.map_map]
  refine List.map_congr_left fun x _ => ?_
  show Value.string (strN (nmS x)) = _
  rw [strN_nm]
theorem TrAt.nm {w : World} {P : Nat → Prop} {AF AR : Option Addr} {nF nR : Nat} {t : TreeT} (h : TrAt w P AF AR nF nR t) : TrAt w P AF AR nF nR (nmT t) := by
  obtain ⟨fe, re, rfl, h1, h2, hT⟩ := h
  refine ⟨fe.map fun x => (nmF x.1, x.2), re.map fun x => (nmR x.1, x.2), ?_, by rw [List.length_map]; exact h1, by rw [List.length_map]; exact h2, ⟨?_, ?_, ?_, ?_⟩⟩
  · unfold nmT
    simp only [List.map_map]
    rfl
  · have e : flatF (fe.map fun x => (nmF x.1, x.2)) = flatF fe := by
      unfold flatF
      rw [List.flatMap_map]
      refine congrArg (List.flatMap · fe) (funext fun x => ?_)
      exact funcC_nm _ _ _ _ _
    rw [e]
    exact hT.rf
  · have e : flatR (re.map fun x => (nmR x.1, x.2)) = flatR re := by
      unfold flatR
      rw [List.flatMap_map]
      refine congrArg (List.flatMap · re) (funext fun x => ?_)
      exact ruleC_nm _ _ _ _ _
    rw [e]
    exact hT.rr
  · intro x hx
    obtain ⟨y, hy, rfl⟩ := List.mem_map.1 hx
    obtain ⟨g1, g2, g3, g4⟩ := hT.ef y hy
    refine ⟨?_, ?_, ?_, ?_⟩
    · show (y.1.params.map nmS).length ≤ _
      rw [List.length_map]; exact g1
    · show (nmN y.1.body).l.length ≤ _
      rw [nmN_l, nmL_len]; exact g2
    · show RowAt w P _ (strVs (y.1.params.map nmS))
      rw [strVs_nm]; exact g3
    · show KidsL w P (nmN y.1.body).l _ 0
      rw [nmN_l]; exact kidsL_nm _ _ _ g4
  · intro x hx
    obtain ⟨y, hy, rfl⟩ := List.mem_map.1 hx
    obtain ⟨g1, g2, g3, g4⟩ := hT.er y hy
    refine ⟨?_, ?_, ?_, ?_⟩
    · show (nmL y.1.l).length ≤ _
      rw [nmL_len]; exact g1
    · show (nmN y.1.body).l.length ≤ _
      rw [nmN_l, nmL_len]; exact g2
    · exact kidsL_nm _ _ _ g3
    · show KidsL w P (nmN y.1.body).l _ 0
      rw [nmN_l]; exact kidsL_nm _ _ _ g4
open Go.RowKit
mutual
theorem nsz_nm : ∀ n : NodeT, nsz (nmN n) = nsz n
  | .mk k a s z v l => by rw [nmN, nsz_mk, nsz_mk, nszL_nm l]
theorem nszL_nm : ∀ l : List NodeT, nszL (nmL l) = nszL l
  | [] => by rw [nmL]
  | n :: l => by rw [nmL, nszL_cons, nszL_cons, nsz_nm n, nszL_nm l]
end
theorem tsz_nm (t : TreeT) : tsz (nmT t) = tsz t := by
  unfold tsz nmT
  dsimp only
  rw [List.map_map, List.map_map]
  have h1 : ((fun f : FuncT => nsz f.body) ∘ nmF) = fun f => nsz f.body := funext fun f => nsz_nm f.body
  have h2 : ((fun r : RuleT => nszL r.l + nsz r.body) ∘ nmR) = fun r => nszL r.l + nsz r.body := funext fun r => by show nszL (nmL r.l) + nsz (nmN r.body) = _; rw [nsz_nm, nszL_nm]
  rw [h1, h2]
theorem spFuncs_len : ∀ (l : List FuncT) (i : Nat), (spFuncs i l).length = (l.map fun f => nsz f.body).sum
  | [], _ => by rw [spFuncs]; rfl
  | f :: l, i => by rw [spFuncs, List.length_append, spN_len, spFuncs_len l (i + 1), List.map_cons, List.sum_cons]
theorem spRow_len (k : Nat) : ∀ l : List NodeT, (l.flatMap (fun n => spN (-1) k 0 [] 0 false false n)).length = nszL l
  | [] => by rw [nszL_nil]; rfl
  | n :: l => by rw [List.flatMap_cons, List.length_append, spN_len, spRow_len k l, nszL_cons]
theorem spRules_len : ∀ l : List RuleT, (l.flatMap spRule).length = (l.map fun r => nszL r.l + nsz r.body).sum
  | [] => rfl
  | r :: l => by rw [List.flatMap_cons, List.length_append, spRules_len l, List.map_cons, List.sum_cons, spRule, List.length_append, spN_len, spRow_len]
theorem spots_len (t : TreeT) : (spots t).length = tsz t := by
  unfold spots tsz
  rw [List.length_append, spFuncs_len, spRules_len]
theorem places_len (t : TreeT) : (places t).length = tsz t := by
  rw [← spots_len, ← List.length_map (f := tellP), ← tell_all, List.length_map]
theorem sum_mem {α : Type} (f : α → Nat) : ∀ (l : List α) (x : α), x ∈ l → f x ≤ (l.map f).sum
  | [], x, h => by cases h
  | y :: l, x, h => by
    rw [List.map_cons, List.sum_cons]
    rcases List.mem_cons.1 h with rfl | h
    · omega
    · have := sum_mem f l x h; omega
theorem sum_len {α : Type} (f : α → Nat) (h : ∀ x, 1 ≤ f x) : ∀ l : List α, l.length ≤ (l.map f).sum
  | [] => Nat.zero_le _
  | y :: l => by have h1 := sum_len f h l; have h2 := h y; rw [List.map_cons, List.sum_cons, List.length_cons]; omega
theorem tsz_funcs (t : TreeT) : t.funcs.length ≤ tsz t := by
  have := sum_len (fun f : FuncT => nsz f.body) (fun f => nsz_pos _) t.funcs
  unfold tsz
  omega
theorem tsz_rules (t : TreeT) : t.rules.length ≤ tsz t := by
  have := sum_len (fun r : RuleT => nszL r.l + nsz r.body) (fun r => by have := nsz_pos r.body; omega) t.rules
  unfold tsz
  omega
theorem tsz_rule (t : TreeT) (r : RuleT) (h : r ∈ t.rules) : r.l.length ≤ tsz t := by
  have h1 := sum_mem (fun r : RuleT => nszL r.l + nsz r.body) t.rules r h
  have h2 := nszL_len r.l
  unfold tsz
  omega
mutual
theorem by_spN (fn : Int) (kd deep : Nat) (call : List Nat) (arg : Nat) (split called : Bool) : ∀ n : NodeT, ∀ x ∈ spN fn kd deep call arg split called (nmN n), byteOk x.n.s
  | .mk k a s z v l => fun x hx => by
    rw [nmN, spN] at hx
    rcases List.mem_cons.1 hx with rfl | hx
    · exact byte_nm s
    · exact by_spL _ _ _ _ _ l x hx
theorem by_spL (up : NodeT) (fn : Int) (kd deep i : Nat) : ∀ l : List NodeT, ∀ x ∈ spL up fn kd deep i (nmL l), byteOk x.n.s
  | [] => fun x hx => by rw [nmL, spL] at hx; cases hx
  | n :: l => fun x hx => by
    rw [nmL, spL] at hx
    rcases List.mem_append.1 hx with hx | hx
    · exact by_spN _ _ _ _ _ _ _ n x hx
    · exact by_spL _ _ _ _ _ l x hx
end
theorem by_spF : ∀ (l : List FuncT) (i : Nat), ∀ x ∈ spFuncs i (l.map nmF), byteOk x.n.s
  | [], _ => fun x hx => by rw [List.map_nil, spFuncs] at hx; cases hx
  | f :: l, i => fun x hx => by
    rw [List.map_cons, spFuncs] at hx
    rcases List.mem_append.1 hx with hx | hx
    · exact by_spN _ _ _ _ _ _ _ f.body x hx
    · exact by_spF l (i + 1) x hx
theorem by_spots (t : TreeT) : ∀ x ∈ spots (nmT t), byteOk x.n.s := fun x hx => by
  unfold spots nmT at hx
  rcases List.mem_append.1 hx with hx | hx
  · exact by_spF _ _ x hx
  · obtain ⟨r', hr, hx⟩ := List.mem_flatMap.1 hx
    obtain ⟨r, _, rfl⟩ := List.mem_map.1 hr
    unfold spRule at hx
    rcases List.mem_append.1 hx with hx | hx
    · obtain ⟨n', hn, hx⟩ := List.mem_flatMap.1 hx
      have hn2 : n' ∈ nmL r.l := hn
      rw [nmL_map] at hn2
      obtain ⟨n, _, rfl⟩ := List.mem_map.1 hn2
      exact by_spN _ _ _ _ _ _ _ n x hx
    · exact by_spN _ _ _ _ _ _ _ r.body x hx
structure PlK (fn : Int) (N : Nat) (p : Pl) : Prop where
  by_ : byteOk p.n.s
  up : ∀ u, p.up = some u → byteOk u.s
  fn : p.fn = fn
  len : p.n.l.length ≤ N
theorem PlK.mono {fn : Int} {N M : Nat} {p : Pl} (h : PlK fn N p) (hn : N ≤ M) : PlK fn M p := ⟨h.by_, h.up, h.fn, Nat.le_trans h.len hn⟩
mutual
theorem plk_N (fn : Int) (kd : Nat) (lp : Bool) : ∀ (n : NodeT) (up : Option NodeT) (i : Nat), (∀ u, up = some u → byteOk u.s) → ∀ p ∈ preN up i fn kd lp (nmN n), PlK fn (nsz n) p
  | .mk k a s z v l, up, i, hu => fun p hp => by
    rw [nmN, preN] at hp
    rw [nsz_mk]
    rcases List.mem_cons.1 hp with rfl | hp
    · exact ⟨byte_nm s, hu, rfl, by show (nmL l).length ≤ _; rw [nmL_len]; have := nszL_len l; omega⟩
    · exact (plk_L fn kd _ l (.mk k a (nmS s) z v (nmL l)) 0 (byte_nm s) p hp).mono (Nat.le_succ _)
theorem plk_L (fn : Int) (kd : Nat) (lp : Bool) : ∀ (l : List NodeT) (up : NodeT) (i : Nat), byteOk up.s → ∀ p ∈ preL up i fn kd lp (nmL l), PlK fn (nszL l) p
  | [], up, i, hu => fun p hp => by rw [nmL, preL] at hp; cases hp
  | n :: l, up, i, hu => fun p hp => by
    rw [nmL, preL] at hp
    rw [nszL_cons]
    rcases List.mem_append.1 hp with hp | hp
    · exact (plk_N fn kd lp n (some up) i (fun u e => by cases e; exact hu) p hp).mono (by omega)
    · exact (plk_L fn kd lp l up (i + 1) hu p hp).mono (by omega)
end
theorem plk_F : ∀ (l : List FuncT) (i : Nat), ∀ p ∈ plFuncs i (l.map nmF), ∃ j : Nat, j < l.length ∧ PlK ((i + j : Nat) : Int) ((l.map fun f => nsz f.body).sum) p
  | [], _ => fun p hp => by rw [List.map_nil, plFuncs] at hp; cases hp
  | f :: l, i => fun p hp => by
    rw [List.map_cons, plFuncs] at hp
    rcases List.mem_append.1 hp with hp | hp
    · exact ⟨0, by simp, (plk_N _ _ _ f.body none 0 (fun u e => by cases e) p hp).mono (by rw [List.map_cons, List.sum_cons]; omega)⟩
    · obtain ⟨j, hj, h⟩ := plk_F l (i + 1) p hp
      refine ⟨j + 1, by simpa using hj, ?_⟩
      rw [show i + (j + 1) = i + 1 + j by omega]
      exact h.mono (by rw [List.map_cons, List.sum_cons]; omega)
theorem plg_all (t : TreeT) (h : tsz t ≤ 1000000) : ∀ p ∈ places (nmT t), PlG (nmT t) p := fun p hp => by
  unfold places nmT at hp
  have hl : (nmT t).funcs.length = t.funcs.length := by unfold nmT; rw [List.length_map]
  unfold tsz at h
  rcases List.mem_append.1 hp with hp | hp
  · obtain ⟨j, hj, hk⟩ := plk_F _ _ p hp
    exact ⟨hk.by_, hk.up, by rw [hk.fn, hl]; omega, by rw [hk.fn]; omega, Nat.le_trans hk.len (by omega)⟩
  · obtain ⟨r', hr, hp⟩ := List.mem_flatMap.1 hp
    obtain ⟨r, hr2, rfl⟩ := List.mem_map.1 hr
    have hs := sum_mem (fun r : RuleT => nszL r.l + nsz r.body) t.rules r hr2
    have key : ∃ n : NodeT, nsz n ≤ nszL r.l + nsz r.body ∧ PlK (-1) (nsz n) p := by
      unfold plRule at hp
      rcases List.mem_append.1 hp with hp | hp
      · obtain ⟨n', hn, hp⟩ := List.mem_flatMap.1 hp
        have hn2 : n' ∈ nmL r.l := hn
        rw [nmL_map] at hn2
        obtain ⟨n, hn3, rfl⟩ := List.mem_map.1 hn2
        obtain ⟨i, hi, e⟩ := List.getElem_of_mem hn3
        have := nszL_get r.l i n (by rw [List.getElem?_eq_getElem hi, e])
        exact ⟨n, by omega, plk_N _ _ _ n none 0 (fun u e => by cases e) p hp⟩
      · exact ⟨r.body, by omega, plk_N _ _ _ r.body none 0 (fun u e => by cases e) p hp⟩
    obtain ⟨n, hn, hk⟩ := key
    exact ⟨hk.by_, hk.up, by rw [hk.fn, hl]; omega, by rw [hk.fn]; omega, Nat.le_trans hk.len (by omega)⟩
theorem by_funcs (t : TreeT) : ∀ f ∈ (nmT t).funcs, byteOk f.name ∧ ∀ s ∈ f.params, byteOk s := fun f hf => by
  obtain ⟨g, _, rfl⟩ := List.mem_map.1 hf
  exact ⟨byte_nm _, fun s hs => by obtain ⟨q, _, rfl⟩ := List.mem_map.1 hs; exact byte_nm _⟩
section
variable {ts : List TokF} {p : RPar}
def PaK (k : Nat) (t : TreeT) : Prop := ∀ f ∈ t.funcs, f.params.length ≤ k
theorem PaK.mono {k m : Nat} {t : TreeT} (h : PaK k t) (hk : k ≤ m) : PaK m t := fun f hf => Nat.le_trans (h f hf) hk
theorem pa_rbody (H : PSz p) (k kd : Nat) (l : List NodeT) (t : TreeT) (k1 : Nat) (u : TreeT) (k' : Nat) (h : rbody ts p k kd l t k1 = .ok u k') (ht : PaK k1 t) : PaK k' u := by
  have hs := sz_rbody H _ _ _ _ _ _ _ h
  unfold rbody at h
  obtain ⟨b, k2, h1, h2⟩ := gr_inv h
  cases h2
  exact fun f hf => Nat.le_trans (ht f hf) hs.1
theorem pa_rrule (H : PSz p) (k kd : Nat) (l : List NodeT) (t : TreeT) (k1 : Nat) (u : TreeT) (k' : Nat) (h : rrule ts p k kd l t k1 = .ok u k') (ht : PaK k1 t) : PaK k' u := by
  unfold rrule at h
  split at h
  · exact pa_rbody H _ _ _ _ _ _ _ h ht
  · cases h
    exact fun f hf => ht f hf
theorem pa_item (H : PSz p) (t : TreeT) (k : Nat) (u : TreeT) (k' : Nat) (h : ritem ts p t k = .ok u k') (ht : PaK k t) : PaK k' u := by
  have hs := sz_item H _ _ _ _ h
  unfold ritem at h
  split at h
  · unfold rfunction at h
    split at h
    · split at h
      · obtain ⟨l, k1, h1, h2⟩ := gr_inv h
        obtain ⟨b, k2, h3, h4⟩ := gr_inv h2
        have h5 := sz_param _ _ _ _ _ h1
        have h6 := H.block _ _ _ h3
        have h7 := rl_le (ts := ts) (k1 + 1)
        cases h4
        intro f hf
        rcases List.mem_append.1 hf with hf | hf
        · exact Nat.le_trans (ht f hf) hs.1
        · rw [List.mem_singleton.1 hf]
          simp only [List.length_nil] at h5
          show l.length ≤ _
          omega
      · cases h
    · cases h
  · split at h
    · exact pa_rbody H _ _ _ _ _ _ _ h (ht.mono (by omega))
    · split at h
      · exact pa_rbody H _ _ _ _ _ _ _ h (ht.mono (by omega))
      · obtain ⟨x, k1, h1, h2⟩ := gr_inv h
        have h5 := H.expr _ _ _ h1
        split at h2
        · obtain ⟨y, k2, h3, h4⟩ := gr_inv h2
          have h6 := H.expr _ _ _ h3
          have h7 := rl_le (ts := ts) (k1 + 1)
          exact pa_rrule H _ _ _ _ _ _ _ h4 (ht.mono (by omega))
        · exact pa_rrule H _ _ _ _ _ _ _ h2 (ht.mono (by omega))
theorem pa_prog (H : PSz p) : ∀ (f : Nat) (t : TreeT) (k : Nat) (u : TreeT) (k' : Nat), rprogF ts p f t k = .ok u k' → PaK k t → PaK k' u
  | 0, t, k, u, k', h, ht => by cases h; exact ht
  | f + 1, t, k, u, k', h, ht => by
    rw [rprogF] at h
    split at h
    · cases h; exact ht
    · obtain ⟨v, k1, h1, h2⟩ := gr_inv h
      have h5 := pa_item H _ _ _ _ h1 ht
      split at h2
      · cases h2
      · exact pa_prog H f _ _ _ _ h2 (h5.mono (re_le (ts := ts) k1))
theorem pa_parse {t : TreeT} {k : Nat} (h : rparse ts = .ok t k) : PaK k t := pa_prog (psz ts 65) _ _ _ _ _ h (fun f hf => by cases hf)
end
end Go.Proofs.Ythipoccbeloceaa
