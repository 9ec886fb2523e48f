/- Several texts put together: RtZ. -/
import Derived.Test.YthipoccbeloceaaBu27
set_option linter.unusedSimpArgs false
set_option linter.unusedVariables false
namespace Go.Proofs.Ythipoccbeloceaa
open Go.RowKit
theorem info_map : (Try.prog.info? 62).map (fun i => (i.zero, i.size, i.bytes)) = some (some (.map none), 1, 8) := by kernel_rfl
def fnmL (t : TreeT) (i : Nat) : List (List Nat) := (t.funcs.take i).map (·.name)
def fpsL (t : TreeT) (i : Nat) : List (List (List Nat)) := (t.funcs.take i).map (·.params)
def mapVs (l : List Nat) : List Value := l.map fun m => .map (some m)
theorem pm_app {wA w : World} {X : List Nat} {S : World → Prop} {bs : List Bx} {rs : List Rw} {F : List Cold} {m : Nat} {ps : List (List Nat)} {mps : List Nat} {pss : List (List (List Nat))} (hl : mps.length = pss.length) (h : Own wA X S bs rs (Cold.pm [m] [ps] :: Cold.pm mps pss :: F) w) : Own wA X S bs rs (Cold.pm (mps ++ [m]) (pss ++ [ps]) :: F) w := by
  have h1 := h.cold _ List.mem_cons_self
  have h2 := h.cold _ (List.mem_cons_of_mem _ List.mem_cons_self)
  refine (h.coldAll (Cold.pm (mps ++ [m]) (pss ++ [ps])) (fun j m' ps' e1 e2 => ?_)).sub (List.Sublist.refl _) (List.Sublist.refl _) (fun c hc => by
    rcases List.mem_cons.1 hc with rfl | hc
    · exact List.mem_cons_self
    · exact List.mem_cons_of_mem _ (List.mem_cons_of_mem _ (List.mem_cons_of_mem _ hc)))
  rcases Nat.lt_or_ge j mps.length with hj | hj
  · rw [List.getElem?_append_left hj] at e1
    rw [List.getElem?_append_left (hl ▸ hj)] at e2
    exact h2 j m' ps' e1 e2
  · rw [List.getElem?_append_right hj] at e1
    rw [List.getElem?_append_right (hl ▸ hj), ← hl] at e2
    exact h1 _ m' ps' e1 e2
theorem pm_one {wA w0 w W1 : World} {X : List Nat} {S : World → Prop} {bs : List Bx} {rs : List Rw} {F F' : List Cold} {m : Nat} {ps : List (List Nat)} (HOw : Hid (Own wA X S bs rs F' w0)) (HMK : Hid (MkM w0 m W1)) (hm : m < w.heap.size) (hp : w.heap[m]? = some (mapO (encK strV (enumF ps 0)))) (h : Own wA X S bs rs F w) : Own wA X S bs rs (Cold.pm [m] [ps] :: F) w :=
  h.coldAll (Cold.pm [m] [ps]) (fun j m' ps' e1 e2 => by
    have hj : j = 0 := by
      have := (List.getElem?_eq_some_iff.1 e1).1
      simpa using this
    subst hj
    injection e1 with e1
    injection e2 with e2
    subst e1 e2
    exact ⟨⟨by rw [HMK.out.e]; exact HOw.out.kept.size, hm, fun hh => by have := (HOw.out.hot_lt m hh).2; rw [HMK.out.e] at this; omega⟩, hp⟩)
def SameJ {w0 w : World} {X : List Nat} {S : World → Prop} {bs : List Bx} {rs : List Rw} {F : List Cold} (_ : Hid (Own w0 X S bs rs F w)) (P : Nat → Prop) (n : Nat) (v : Value) (W : World) : Prop := ∃ k : Nat, v = .int .i64 (k : Int) ∧ k ≤ n ∧ Hid (P k) ∧ Hid (Own w0 X S bs rs F W)
theorem fn_inner {wA w W1 : World} {X : List Nat} {S : World → Prop} {b4 m0 : Nat} {T : TypeId} {v : Value} {cs : List Value} {bs : List Bx} {rs : List Rw} {F : List Cold} (HOw : Hid (Own wA X S (⟨b4, T, v :: cs⟩ :: bs) rs F w)) (HMK : Hid (MkM w m0 W1)) :
    W1.cell? ⟨b4, 0, none⟩ = some v ∧ Eld W1 [m0] b4 ∧ (∀ b, Eld wA X b → Eld W1 [m0] b ∧ W1.heap[b]? = wA.heap[b]?) ∧ Hid (Own W1 [m0] (SX [] [(m0, encK strV [])] [m0] W1.heap.size) [] [] [] W1) := by
  have e := HMK.out.e
  have hs := HMK.out.size
  have hb := (HOw.out.next HMK.out.below).cells List.mem_cons_self 0 0 v rfl
  have hl := (HOw.out.hot_lt b4 (List.mem_append_left _ (List.mem_map_of_mem (f := Bx.b) List.mem_cons_self))).2
  have hk := HOw.out.kept
  refine ⟨hb, ⟨by omega, fun h => by rw [List.mem_singleton.1 h] at hl; omega⟩, fun b hB => ⟨⟨by have := hB.1; have := hk.size; omega, fun h => by have h1 := hB.1; have h2 := hk.size; rw [List.mem_singleton.1 h] at h1; omega⟩, (HMK.out.below.block b (by have := hB.1; have := hk.size; omega)).trans (hk.block b hB.1 hB.2)⟩, Lib.hid (Own.init ⟨fun x hx => (by cases hx), fun m hm => ?_, by simp, fun b hb => ?_, fun y hy => ?_⟩ SX.loc)⟩
  · rw [List.mem_singleton.1 hm]
    exact HMK.out.self
  · have hb2 : b = m0 := by simpa using hb
    rw [hb2]
    exact ⟨by omega, List.mem_singleton.2 rfl⟩
  · rw [List.mem_singleton.1 hy]
    omega
attribute [local irreducible] WQ
set_option maxRecDepth 100000 in
set_option maxHeartbeats 6400000 in
theorem functions_any {wA : World} {X : List Nat} {F : List Cold} {g nF cF nR cR mf mg ma mh : Nat} {AF AR : Option Addr} {vL vQ : Value} {mt : List (Nat × List (Value × Value))} {t : TreeT} {bs : List Bx} {rs : List Rw} {w : World} (HT : Hid (TrAt wA (Eld wA X) AF AR nF nR t)) (hnF : Hid (nF = t.funcs.length)) (hn1 : nF ≤ 1000000) (hbF : Hid (∀ f ∈ t.funcs, byteOk f.name ∧ (∀ s ∈ f.params, byteOk s) ∧ f.params.length ≤ 1000000)) (HO : Hid (Own wA X (SX [⟨g, 68, [.slice AF nF cF, .slice AR nR cR, .map (some mf), .slice none 0 0, .map (some mg), vL, .map (some ma), .map (some mh), vQ]⟩] ((mf, encK strV []) :: mt) X wA.heap.size) bs rs F w)) :
    Calls Try.prog 14 #[.pointer (some ⟨g, 0, none⟩)] w fun e w' => match headsS [] t.funcs with
      | some a => ∃ v, e = .returned v ∧ FltV w' wA.heap.size v a 15 ∧ Kept X wA w'
      | none => match longS t with
        | some a => ∃ v, e = .returned v ∧ FltV w' wA.heap.size v a 9 ∧ Kept X wA w'
        | none => e = .returned .nilIface ∧ ∃ (AP : Option Addr) (cP : Nat) (mps : List Nat), mps.length = nF ∧ Own wA X (SX [⟨g, 68, [.slice AF nF cF, .slice AR nR cR, .map (some mf), .slice AP nF cP, .map (some mg), vL, .map (some ma), .map (some mh), vQ]⟩] ((mf, encK strV (enumF (fnmL t nF) 0)) :: mt) X wA.heap.size) bs (⟨62, 1, .slice AP nF cP, nF, mapVs mps⟩ :: rs) (Cold.pm mps (fpsL t nF) :: F) w' := by
  obtain ⟨R, hR⟩ : ∃ R, headsS [] t.funcs = R := ⟨_, rfl⟩
  obtain ⟨R9, hR9⟩ : ∃ z, longS t = z := ⟨_, rfl⟩
  rw [hR, hR9]
  have HR9 : Hid (((t.funcs.drop 0).find? fun f => decide ((16 : Int) < (f.params.length : Int))).map (·.at') = R9) := Lib.hid hR9
  clear hR9
  have HR : Hid (headsS (fnmL t 0).reverse (t.funcs.drop 0) = R) := Lib.hid hR
  clear hR
  go_enter Try.func14, Try.ntmps14
  (repeat' (first | ((with_reducible refine zG ?_); first | refine oWx ?_ | (refine oWs ?_; clear HO; intro _ HO) | (refine oWj ?_; clear HO; intro _ HO HB)) | ((with_reducible refine to_load ?_); (first | first | refine oY1 HO rfl rfl ?_); (try simp only [Act.put, pS])) | go_values | go_skip | go_guarded | go_step | go_upon | (go_ite <;> go_prune <;> (try go_simp))))
  go_loopw [20] (fun iv W => ∃ (i : Nat) (AP : Option Addr) (cP : Nat) (mps : List Nat), iv = .int .i64 (i : Int) ∧ i ≤ nF ∧ Hid (headsS (fnmL t i).reverse (t.funcs.drop i) = R) ∧ Hid (mps.length = i) ∧ Hid (Own wA X (SX [⟨g, 68, [.slice AF nF cF, .slice AR nR cR, .map (some mf), .slice AP i cP, .map (some mg), vL, .map (some ma), .map (some mh), vQ]⟩] ((mf, encK strV (enumF (fnmL t i) 0)) :: mt) X wA.heap.size) bs (⟨62, 1, .slice AP i cP, i, mapVs mps⟩ :: rs) (Cold.pm mps (fpsL t i) :: F) W)) (fun iv _ => nF - (intOf iv).toNat)
  case atStart => exact ⟨0, none, 0, [], rfl, Nat.zero_le _, HR, Lib.hid rfl, Lib.hid (pm_nil (HO.out.nilRow _ _))⟩
  case round =>
    clear HO HR
    obtain ⟨i, AP, cP, mps, rfl, hi, HR, HMP, HO⟩ := hrel
    rcases Nat.lt_or_ge i nF with hlt | hge
    · obtain ⟨f, hf⟩ : ∃ f, t.funcs[i]? = some f := ⟨_, List.getElem?_eq_getElem (Nat.lt_of_lt_of_eq hlt hnF.out)⟩
      obtain ⟨-, b2, A2, c2, B2, e2, rfl, hb2, hcl, hok⟩ := HT.out.func hf
      have hc11 : wA.rangeAt b2 (i * 11) (funcC f A2 c2 B2 e2) := hcl
      unfold funcC at hc11
      have hiI : (i : Int) < (nF : Int) := by omega
      have HB2 := Lib.hid hb2
      have HC11 := Lib.hid hc11
      have HPR := Lib.hid hok.2.2.1
      have HFB := Lib.hid (hbF.out f (List.mem_of_getElem? hf))
      have hpf := HFB.out.2.2
      have hr := HR.out
      rw [heads_step _ hf] at hr
      have hfn : fnmL t (i + 1) = fnmL t i ++ [f.name] := by unfold fnmL; rw [List.take_add_one, hf, List.map_append]; rfl
      have hfp : fpsL t (i + 1) = fpsL t i ++ [f.params] := by unfold fpsL; rw [List.take_add_one, hf, List.map_append]; rfl
      have HRR := Lib.hid hr
      have HFN := Lib.hid hfn
      have HFP := Lib.hid hfp
      have hnl : (fnmL t i).length = i := by unfold fnmL; rw [List.length_map, List.length_take]; have := (List.getElem?_eq_some_iff.1 hf).1; omega
      have hnb : ∀ x ∈ enumF (fnmL t i) 0, byteOk x.1 := enum_ok _ 0 (fun s hs => by
        unfold fnmL at hs
        obtain ⟨f', hf', rfl⟩ := List.mem_map.1 hs
        exact (hbF.out f' (List.mem_of_mem_take hf')).1)
      have hfl : (fpsL t i).length = i := by unfold fpsL; rw [List.length_map, List.length_take]; have := (List.getElem?_eq_some_iff.1 hf).1; omega
      have HFL := Lib.hid hfl
      have HNL := Lib.hid hnl
      have HNB := Lib.hid hnb
      obtain ⟨th0, hth0⟩ : ∃ z, decide (f.name ∈ fnmL t i) = z := ⟨_, rfl⟩
      have hlk := look_enum f.name (fnmL t i) 0
      have hpm := posF_mem f.name (fnmL t i) 0
      rw [hth0] at hpm
      have HTH := Lib.hid hth0
      clear hb2 hcl hok hc11 hf hr hfn hfp hnl hfl hnb HR hth0
      obtain ⟨R2, hR2⟩ : ∃ z, (th0 || dupP f.name [] f.params) = z := ⟨_, rfl⟩
      have HR2 := Lib.hid hR2
      have hrv := HRR.out
      simp only [List.mem_reverse] at hrv
      rw [HTH.out, hR2] at hrv
      have HRV := Lib.hid hrv
      have HR0 := HR2
      clear hR2 hrv HRR
      cases hps : posF f.name (fnmL t i) 0
      case' none => rw [hps] at hpm hlk; obtain rfl : th0 = false := hpm.symm; replace hlk : lookK f.name (enumF (fnmL t i) 0) = none := hlk
      case' some => rw [hps] at hpm hlk; obtain rfl : th0 = true := hpm.symm; replace hlk : lookK f.name (enumF (fnmL t i) 0) = some _ := hlk
      all_goals
        (repeat' (first | ((with_reducible refine zG ?_); first | refine oWx ?_ | (refine oWs ?_; clear HO; intro _ HO) | (refine oWj ?_; clear HO; intro _ HO HB)) | ((with_reducible refine to_load ?_); (first | first | refine oE3 HO rfl rfl HB2.out HC11.out ?_ | refine oY1 HO rfl rfl ?_); (try simp only [Act.put, pS])) | go_values | go_skip | go_guarded | go_step | go_upon | (go_ite <;> go_prune <;> (try go_simp))))
        (refine qBe HO (by kernel_rfl) ?_); (repeat' (first | ((with_reducible refine qNi ?_); (clear HO; intro _ HO)) | ((with_reducible refine qSt ?_); first | ((first | ((with_reducible refine qLd ?_); first | ((with_reducible refine qGd ?_); (with_reducible refine qSk ?_ ?_); focus rfl) | refine qL1 (by rfl) rfl rfl ?_ | refine qL3 (by rfl) rfl rfl ?_ | refine qY1 (by rfl) rfl rfl ?_) | ((with_reducible refine qLk ?_); first | ((with_reducible refine qGd ?_); (with_reducible refine qSk ?_ ?_); focus rfl) | refine qVa (by rfl) (rkx1 (k := f.name) keyStr Try.underlying62 zInt rfl rfl rfl HNB.out HFB.out.1 hlk) ?_ | refine qVa (by rfl) (rkx2 (k := f.name) keyStr Try.underlying62 zInt rfl rfl rfl HNB.out HFB.out.1 hlk) ?_) | ((with_reducible refine qFd ?_); first | ((with_reducible refine qGd ?_); (with_reducible refine qSk ?_ ?_); focus rfl) | refine qVa (by rfl) (rFi rfl rfl ⟨_, _, _, _, _, _, _, rfl, rfl, inferInstance⟩) ?_) | ((with_reducible refine qCl ?_); first | ((with_reducible refine qGd ?_); (with_reducible refine qSk ?_ ?_); focus rfl)) | ((fail_if_success (with_reducible refine qLd ?_)); (fail_if_success (with_reducible refine qLk ?_)); (fail_if_success (with_reducible refine qCl ?_)); first | ((with_reducible refine qGd ?_); (with_reducible refine qSk ?_ ?_); focus rfl) | refine qVa (by rfl) (by intro _ _; go_simp; (try with_reducible rfl)) ?_)); (try simp only [Act.put, pS])))))
        (repeat' (first | ((with_reducible refine zG ?_); first | refine oWx ?_ | (refine oWs ?_; clear HO; intro _ HO) | (refine oWj ?_; clear HO; intro _ HO HB)) | ((with_reducible refine to_load ?_); (first | first | refine oY1 HO rfl rfl ?_); (try simp only [Act.put, pS])) | ((with_reducible refine to_makeMap ?_); refine wo_mkM rfl Try.underlying62 ?_; intro m0 W1 HMK; have HOw := HO; replace HO := Lib.hid (HO.out.next HMK.out.below)) | go_values | go_skip | go_guarded | go_step | go_upon | (go_ite <;> go_prune <;> (try go_simp))))
        obtain ⟨hnm, hne, heq, HI⟩ := fn_inner HOw HMK
        have HPR1 := Lib.hid (HPR.out.st heq)
        have HNE := Lib.hid hne
        clear hne heq HO
        go_loopw [6, 39] (fun tv jv W => ∃ (j : Nat) (th : Bool) (l : List (List Nat × Value)), tv = .bool th ∧ jv = .int .i64 (j : Int) ∧ j ≤ f.params.length ∧ Hid (OwnMp f.params j th l) ∧ Hid ((th || dupP f.name (f.params.take j).reverse (f.params.drop j)) = R2) ∧ Hid (Own W1 [m0] (SX [] [(m0, encK strV l)] [m0] W1.heap.size) [] [] [] W)) (fun _ jv _ => f.params.length - (intOf jv).toNat)
        case atStart => exact ⟨0, _, [], rfl, rfl, Nat.zero_le _, Lib.hid (OwnMp.nil _ _), HR2, HI⟩
        case round =>
          clear HI HR2
          obtain ⟨j, th, l, rfl, rfl, hj, HM, HR2, HO⟩ := hrel
          rcases Nat.lt_or_ge j f.params.length with hlj | hgj
          · obtain ⟨s, hs⟩ : ∃ s, f.params[j]? = some s := ⟨_, List.getElem?_eq_getElem hlj⟩
            have hsv : (strVs f.params)[j]? = some (.string (strN s)) := by unfold strVs; rw [List.getElem?_map, hs]; rfl
            obtain ⟨b4, rfl, hb4, hc4⟩ := HPR1.out (by intro h0; rw [h0] at hsv; simp at hsv)
            have hcell := hc4 j _ hsv
            have hjI : (j : Int) < (f.params.length : Int) := by omega
            have hsb : byteOk s := HFB.out.2.1 s (List.mem_of_getElem? hs)
            have hq : ((strN s).toList == (strN f.name).toList) = decide (s = f.name) := strN_beq hsb HFB.out.1
            have hr2 := HR2.out
            rw [dupP_step _ _ hs] at hr2
            have hst := HM.out.step (nm := f.name) hs hsb
            have htk : (f.params.take (j + 1)).reverse = s :: (f.params.take j).reverse := by rw [List.take_add_one, hs, List.reverse_append]; rfl
            rw [← htk] at hr2
            simp only [List.mem_reverse] at hr2
            have HB4 := Lib.hid hb4
            have HSB := Lib.hid hsb
            have HST := Lib.hid hst
            have HRJ := Lib.hid hr2
            have hlo := HM.out.look s
            clear hb4 hc4 hs hsv hsb hst hr2 htk HR2
            obtain ⟨d1, hd1⟩ : ∃ z, decide (s ∈ f.params.take j) = z := ⟨_, rfl⟩
            obtain ⟨d2, hd2⟩ : ∃ z, decide (s = f.name) = z := ⟨_, rfl⟩
            rw [hd1] at hlo
            rw [hd2] at hq
            have HD1 := Lib.hid hd1
            have HD2 := Lib.hid hd2
            clear hd1 hd2
            have hlc : (d1 = true ∧ ∃ u, lookK s l = some u) ∨ (d1 = false ∧ d2 = true ∧ lookK s l = none) ∨ (d1 = false ∧ d2 = false ∧ lookK s l = none) := by
              cases hl : lookK s l with
              | none => rw [hl] at hlo; cases d2 <;> simp_all
              | some u => rw [hl] at hlo; exact .inl ⟨hlo.symm, u, rfl⟩
            rcases hlc with ⟨rfl, u, hlk9⟩ | ⟨rfl, rfl, hlk9⟩ | ⟨rfl, rfl, hlk9⟩
            all_goals
              (repeat' (first | ((with_reducible refine zG ?_); first | refine oWx ?_ | (refine oWs ?_; clear HO; intro _ HO) | (refine oWj ?_; clear HO; intro _ HO HB)) | ((with_reducible refine to_load ?_); (first | first | refine wo_run HO (re1 rfl rfl HB4.out hcell) ?_ | refine wo_run HO (re1 rfl rfl HNE.out hnm) ?_); (try simp only [Act.put, pS])) | ((with_reducible refine to_lookup ?_); (first | refine wo_run HO (rkx1 (k := s) keyStr Try.underlying62 zInt rfl rfl rfl HM.out.ok HSB.out hlk9) ?_ | refine wo_run HO (rkx2 (k := s) keyStr Try.underlying62 zInt rfl rfl rfl HM.out.ok HSB.out hlk9) ?_); (try simp only [Act.put, pS])) | ((with_reducible refine to_mapUpdate ?_); refine wo_updW (k := s) (v := .int .i64 (j : Int)) keyStr Try.underlying62 HO rfl rfl rfl rfl rfl HM.out.ok HSB.out ?_; clear HO; intro _ HO) | go_values | go_skip | go_guarded | go_step | go_upon | (go_ite <;> go_prune <;> (try go_simp))))
            all_goals
              refine ⟨⟨j + 1, _, _, rfl, rfl, hlj, Lib.hid ?_, Lib.hid ?_, HO⟩, ?_⟩
            all_goals first
              | (have h := HST.out; rw [HD1.out, HD2.out] at h; simpa using h)
              | (have h := HRJ.out; rw [HD1.out, HD2.out] at h; simpa using h)
              | exact meas2 rfl (Nat.le_refl _) hlj
          · obtain rfl : j = f.params.length := by omega
            have hR2 := HR2.out
            rw [List.drop_length, dupP, Bool.or_false] at hR2
            have hmk := HM.out.enum
            rw [List.take_length] at hmk
            have hnj : ¬ (f.params.length : Int) < (f.params.length : Int) := by omega
            have hbw : Below _ _ _ := ⟨HO.out.kept.os.trans HMK.out.below.os, HO.out.kept.tape.trans HMK.out.below.tape, HO.out.kept.output.trans HMK.out.below.output, Nat.le_trans HMK.out.below.size HO.out.kept.size, fun k hk => (HO.out.kept.block k (by have := HMK.out.below.size; omega) (by rw [HMK.out.e]; simp; omega)).trans (HMK.out.below.block k hk)⟩
            have hmap := HO.out.st.map _ List.mem_cons_self
            have hmlt : m0 < _ := Nat.lt_of_lt_of_le (show m0 < W1.heap.size by have := HMK.out.size; omega) HO.out.kept.size
            have HO8 := Lib.hid (HOw.out.next hbw)
            have HMAP := Lib.hid hmap
            have HMLT := Lib.hid hmlt
            clear HO hbw hmap hmlt
            have HO := HO8
            clear HO8
            subst hR2
            cases th
            · have hmk2 := hmk rfl
              subst hmk2
              have hrv := HRV.out
              rw [if_neg (by decide), ← List.reverse_concat, ← HFN.out] at hrv
              have HRW := Lib.hid hrv
              clear hrv HRV hmk
              first
              | (exfalso; have h0 := HR0.out; rw [Bool.true_or] at h0; cases h0; done)
              | (clear HR2
                 replace HO := Lib.hid (pm_one HOw HMK HMLT.out HMAP.out HO.out)
                 have hnn : posF f.name (fnmL t i) 0 = none := by first | exact hps | simp_all
                 have hue := upd_enum hnn
                 rw [HNL.out, ← HFN.out] at hue
                 have HUE := Lib.hid hue
                 clear hue hnn
                 (repeat' (first | ((with_reducible refine zG ?_); first | refine oWx ?_ | (refine oWs ?_; clear HO; intro _ HO) | (refine oWj ?_; clear HO; intro _ HO HB)) | ((with_reducible refine to_load ?_); (first | (refine oY1 HO rfl rfl ?_)); (try simp only [Act.put, pS])) | go_values | go_skip | go_guarded | go_step | go_upon | (go_ite <;> go_prune <;> (try go_simp))))
                 ((refine tBe HO [] (.pu 0 (.pu 1 (.pu 2 (.pu 4 (.pu 6 (.ld 3 (.ld 5 (.ef 7 (.nil))))))))) ?_); (clear HO; intro _ HO); (repeat' (first | ((with_reducible refine tGo ?_); first | ((first | refine tL1 (OwnT.of HO) rfl rfl rfl (by kernel_rfl) (fun _ _ _ h => h) (by rfl) ?_ | refine tL3 (OwnT.of HO) rfl rfl rfl (by kernel_rfl) (fun _ _ _ h => h) (by rfl) ?_ | refine tY1 (OwnT.of HO) rfl rfl rfl (by kernel_rfl) (fun _ _ _ h => h) (by rfl) ?_); (try simp only [Act.put, pS])) | ((first | refine tPu (OwnT.of HO) rfl (by kernel_rfl) (fun _ _ _ h => h) (by rfl) (by intro _; go_simp; (try with_reducible rfl)) ?_); (try simp only [Act.put, pS])) | refine tEf rfl (by kernel_rfl) (by rfl) (fun K hK => ?_) | refine tLt rfl (by kernel_rfl) (by rfl) (fun K hK => ?_) | refine tDo (by kernel_rfl) ?_) | ((with_reducible refine uGo ?_); first | ((refine uPu rfl (by kernel_rfl) (fun _ _ _ h => h) (by rfl) (by intro _; go_simp; (try with_reducible rfl)) ?_); (try simp only [Act.put, pS])) | refine uEf rfl (by kernel_rfl) (by rfl) (fun K hK => ?_) | refine uDo (by kernel_rfl) ?_) | ((with_reducible show K _ _); (first | refine hK.out _ _ (OwnT.of HO) ?_ | with_reducible refine hK.out _ _ ?_); clear hK K; (try simp only [Act.put, pS])) | ((first | ((with_reducible refine to_mapUpdate ?_); refine wo_updW (k := f.name) (v := .int .i64 (i : Int)) keyStr Try.underlying62 HO rfl rfl rfl rfl rfl HNB.out HFB.out.1 ?_; clear HO; intro _ HO; rw [HUE.out] at HO)) <;> (try dsimp only)))))
                 (repeat' (first | ((with_reducible refine zG ?_); first | refine oWx ?_ | (refine oWs ?_; clear HO; intro _ HO) | (refine oWj ?_; clear HO; intro _ HO HB)) | ((with_reducible refine to_load ?_); (first | (refine oY1 HO rfl rfl ?_)); (try simp only [Act.put, pS])) | ((with_reducible refine to_store ?_); first | (refine oYs HO rfl rfl rfl (by rfl) ?_; clear HO; intro _ HO)) | ((with_reducible refine ab_junk HO 62 ?_); clear HO; intro _ HO HB) | ((with_reducible refine to_append ?_); refine wo_appG HO rfl rfl rfl HB Try.underlying65 info_map rfl (by decide) rfl (by simp [Value.oneCell']) (by omega) (by decide) ?_; clear HO HB; intro _ _ _ hcap HO; (try simp only [Act.put, pS])) | go_values | go_skip | go_guarded | go_step | go_upon | (go_ite <;> go_prune <;> (try go_simp))))
                 have e2 : mapVs mps ++ [.map (some m0)] = mapVs (mps ++ [m0]) := by unfold mapVs; rw [List.map_append]; rfl
                 rw [e2] at HO
                 have hlq : mps.length = (fpsL t i).length := HMP.out.trans HFL.out.symm
                 have hO9 := pm_app hlq (HO.out.sub (List.sublist_cons_self _ _) (List.Sublist.refl _) (fun _ h => h))
                 rw [← HFP.out] at hO9
                 refine ⟨⟨i + 1, _, _, mps ++ [m0], rfl, hlt, HRW, Lib.hid (by rw [List.length_append, HMP.out]; rfl), Lib.hid hO9⟩, ?_⟩
                 exact meas2 rfl (Nat.le_refl _) hlt)
            · have hrv := HRV.out
              rw [if_pos rfl] at hrv
              subst hrv
              clear hmk
              (repeat' (first | ((with_reducible refine zG ?_); first | refine oWx ?_ | (refine oWs ?_; clear HO; intro _ HO) | (refine oWj ?_; clear HO; intro _ HO HB)) | ((with_reducible refine to_load ?_); (first | (refine oY1 HO rfl rfl ?_)); (try simp only [Act.put, pS])) | go_values | go_skip | go_guarded | go_step | go_upon | (go_ite <;> go_prune <;> (try go_simp))))
              refine bp_tmp (t := 2) rfl rfl rfl ?_
              exact ⟨_, rfl, ⟨_, rfl, HO.out.base _ List.mem_cons_self, HO.out.box _ List.mem_cons_self⟩, HO.out.kept⟩
    · obtain rfl : i = nF := by omega
      have hr := HR.out
      rw [List.drop_of_length_le (Nat.le_of_eq hnF.out.symm), headsS] at hr
      subst hr
      have hng : ¬ (i : Int) < (i : Int) := by omega
      (repeat' (first | ((with_reducible refine zG ?_); first | refine oWx ?_ | (refine oWs ?_; clear HO; intro _ HO) | (refine oWj ?_; clear HO; intro _ HO HB)) | ((with_reducible refine to_load ?_); (first | first | refine oY1 HO rfl rfl ?_); (try simp only [Act.put, pS])) | go_values | go_skip | go_guarded | go_step | go_upon | (go_ite <;> go_prune <;> (try go_simp))))
      clear hng hge hi
      have HO1 := HO
      go_loopw [92] (fun kv W => SameJ HO1 (fun k => ((t.funcs.drop k).find? fun f => decide ((16 : Int) < (f.params.length : Int))).map (·.at') = R9) i kv W) (fun kv _ => i - (intOf kv).toNat)
      case atStart => exact ⟨0, rfl, Nat.zero_le _, HR9, HO⟩
      case round =>
        clear HO HR9
        obtain ⟨k, rfl, hk, HR9, HO⟩ := hrel
        rcases Nat.lt_or_ge k i with hlk | hgk
        · obtain ⟨f, hf⟩ : ∃ f, t.funcs[k]? = some f := ⟨_, List.getElem?_eq_getElem (Nat.lt_of_lt_of_eq hlk hnF.out)⟩
          obtain ⟨-, b2, A2, c2, B2, e2, rfl, hb2, hcl, hok⟩ := HT.out.func hf
          have hc11 : wA.rangeAt b2 (k * 11) (funcC f A2 c2 B2 e2) := hcl
          unfold funcC at hc11
          have hkI : (k : Int) < (i : Int) := by omega
          have HB2 := Lib.hid hb2
          have HC11 := Lib.hid hc11
          have hpf := (hbF.out f (List.mem_of_getElem? hf)).2.2
          have hr := HR9.out
          dsimp only at hr
          obtain ⟨hkl, hke⟩ := List.getElem?_eq_some_iff.1 hf
          rw [List.drop_eq_getElem_cons hkl, hke, List.find?_cons] at hr
          have HRK := Lib.hid hr
          clear hb2 hcl hok hc11 hf hr HR9 hkl hke
          cases h16 : decide ((16 : Int) < (f.params.length : Int))
          · have h16n := of_decide_eq_false h16
            have hr := HRK.out
            rw [h16] at hr
            have HRN := Lib.hid hr
            clear hr HRK h16
            (repeat' (first | ((with_reducible refine zG ?_); first | refine oWx ?_ | (refine oWs ?_; clear HO; intro _ HO) | (refine oWj ?_; clear HO; intro _ HO HB)) | ((with_reducible refine to_load ?_); (first | first | refine oE3 HO rfl rfl HB2.out HC11.out ?_ | refine oY1 HO rfl rfl ?_); (try simp only [Act.put, pS])) | go_values | go_skip | go_guarded | go_step | go_upon | (go_ite <;> go_prune <;> (try go_simp))))
            refine ⟨⟨k + 1, rfl, hlk, HRN, Lib.hid (HO.out.sub (List.sublist_cons_self _ _) (List.Sublist.refl _) (fun _ h => h))⟩, ?_⟩
            exact meas2 rfl (Nat.le_refl _) hlk
          · have h16p := of_decide_eq_true h16
            have hr := HRK.out
            rw [h16] at hr
            subst hr
            clear HRK h16
            (repeat' (first | ((with_reducible refine zG ?_); first | refine oWx ?_ | (refine oWs ?_; clear HO; intro _ HO) | (refine oWj ?_; clear HO; intro _ HO HB)) | ((with_reducible refine to_load ?_); (first | first | refine oE3 HO rfl rfl HB2.out HC11.out ?_ | refine oY1 HO rfl rfl ?_); (try simp only [Act.put, pS])) | go_values | go_skip | go_guarded | go_step | go_upon | (go_ite <;> go_prune <;> (try go_simp))))
            refine bp_tmp (t := 2) rfl rfl rfl ?_
            exact ⟨_, rfl, ⟨_, rfl, HO.out.base _ List.mem_cons_self, HO.out.box _ List.mem_cons_self⟩, HO.out.kept⟩
        · obtain rfl : k = i := by omega
          have hr := HR9.out
          dsimp only at hr
          rw [List.drop_of_length_le (Nat.le_of_eq hnF.out.symm)] at hr
          subst hr
          have hnk : ¬ (k : Int) < (k : Int) := by omega
          (repeat' (first | ((with_reducible refine zG ?_); first | refine oWx ?_ | (refine oWs ?_; clear HO; intro _ HO) | (refine oWj ?_; clear HO; intro _ HO HB)) | go_values | go_skip | go_guarded | go_step | go_upon | (go_ite <;> go_prune <;> (try go_simp))))
          refine bp_tmp (t := 2) rfl rfl rfl ?_
          exact ⟨rfl, AP, cP, mps, HMP.out, HO.out⟩
end Go.Proofs.Ythipoccbeloceaa
