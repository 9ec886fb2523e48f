/- Several texts put together: RuA, RuB, RuC, RuD. -/
import Derived.Test.YthipoccbeloceaaBu38
import Derived.Test.YthipoccbeloceaaBu17
import Derived.Test.YthipoccbeloceaaBu12
import Derived.Test.YthipoccbeloceaaBu18
import Derived.Test.YthipoccbeloceaaBu8
set_option linter.unusedSimpArgs false
set_option linter.unusedVariables false
namespace Go.Proofs.Ythipoccbeloceaa
open Go.RowKit
theorem Own.aside {w0 w w' : World} {X Y : List Nat} {S : World → Prop} {bs : List Bx} {rs : List Rw} (h : Own w0 X S bs rs [] w) (q : Kept Y w w') (hY : ∀ y ∈ Y, w0.heap.size ≤ y ∧ y ∉ hot bs rs) : Own w0 X S bs rs [] w' := by
  refine ⟨h.kept.trans q (fun y hy => .inr (hY y hy).1), h.loc, h.loc w w' (fun b hb => q.block b (Nat.lt_of_lt_of_le hb h.kept.size) (fun hy => by have := (hY b hy).1; omega)) q.size h.st, fun x hx => ?_, h.base, fun r hr => ?_, h.nodup, fun c hc => by cases hc⟩
  · exact (q.block x.b (h.box x hx).lt (fun hy => (hY _ hy).2 (List.mem_append_left _ (List.mem_map_of_mem (f := Bx.b) hx)))).trans (h.box x hx)
  · have hr1 := h.row r hr
    rcases hr1.2 with h2 | ⟨g, cap, cur, e, hg, hh, h3⟩
    · exact ⟨hr1.1, .inl h2⟩
    · have hlt : g < w.heap.size := by
        rcases Nat.lt_or_ge g w.heap.size with h | h
        · exact h
        · rw [Array.getElem?_eq_none h] at hh; cases hh
      refine ⟨hr1.1, .inr ⟨g, cap, cur, e, hg, (q.block g hlt (fun hy => (hY _ hy).2 (List.mem_append_right _ (List.mem_filterMap.2 ⟨r, hr, by rw [e]; rfl⟩)))).trans hh, h3⟩⟩
theorem trat_st {w w' : World} {P P' : Nat → Prop} {AF AR : Option Addr} {nF nR : Nat} {t : TreeT} (hF : ∀ b, P b → P' b ∧ w'.heap[b]? = w.heap[b]?) (h : TrAt w P AF AR nF nR t) : TrAt w' P' AF AR nF nR t := by
  obtain ⟨fe, re, e, h1, h2, hT⟩ := h
  exact ⟨fe, re, e, h1, h2, hT.st hF⟩
theorem WrgOK.of {w1 : World} {X : List Nat} {F : List Cold} {xs : List Bx} {ms : List (Nat × List (Value × Value))} {K : FuncId} {g : Nat} {G : Pl → Prop} {wrong : Pl → Bool} (hr : ∀ args w, (callFunc K args).run Try.prog w = .ok (.enter K args) w)
    (hc : ∀ p v bs rs w, G p → PlAt w1 (Eld w1 X) p v → Hid (Own w1 X (SX xs ms X w1.heap.size) bs rs F w) → Calls Try.prog K #[.pointer (some ⟨g, 0, none⟩), v] w (RdV X (SX xs ms X w.heap.size) (.bool (wrong p)) w)) : WrgOK w1 X F (SX xs ms X w1.heap.size) K #[.pointer (some ⟨g, 0, none⟩)] G wrong where
  run := hr
  call := fun p v bs rs w hg hp hO => arm_rdv (fun w h => hc p v bs rs w hg hp h) (Lib.hid hO) (fun W h => ⟨rfl, h.out⟩)
section
variable {w1 : World} {X : List Nat} {F : List Cold} {g nF cF nR cR cP mf mg ma mh : Nat} {AF AR AP : Option Addr} {vL vQ : Value} {t : TreeT}
theorem wrg_unknown {ms : List (Nat × List (Value × Value))} (HM : Hid (FmAt w1 (Eld w1 X) mf t)) : WrgOK w1 X F (SX (⟨g, 68, [.slice AF nF cF, .slice AR nR cR, .map (some mf), .slice AP nF cP, .map (some mg), vL, .map (some ma), .map (some mh), vQ]⟩ :: []) ms X w1.heap.size) 16 #[.pointer (some ⟨g, 0, none⟩)] (PlG t) (unknownB t) :=
  WrgOK.of (fun args w => by kernel_rfl) (fun p v bs rs w hg hp h => unknown_any w (rdv_at h) (hp.st (h.out.eld (fun _ h => h))) (HM.out.st (h.out.eld (fun _ h => h))) hg.by_)
theorem wrg_counts {ms : List (Nat × List (Value × Value))} (HM : Hid (FmAt w1 (Eld w1 X) mf t)) (HT : Hid (TrAt w1 (Eld w1 X) AF AR nF nR t)) (hn : nF ≤ 1000000) : WrgOK w1 X F (SX (⟨g, 68, [.slice AF nF cF, .slice AR nR cR, .map (some mf), .slice AP nF cP, .map (some mg), vL, .map (some ma), .map (some mh), vQ]⟩ :: []) ms X w1.heap.size) 17 #[.pointer (some ⟨g, 0, none⟩)] (fun p => PlG t p ∧ unknownB t p = false) (countsB t) :=
  WrgOK.of (fun args w => by kernel_rfl) (fun p v bs rs w hg hp h => counts_any w (rdv_at h) (hp.st (h.out.eld (fun _ h => h))) (HM.out.st (h.out.eld (fun _ h => h))) (trat_st (h.out.eld (fun _ h => h)) HT.out) hg.1.by_ hg.1.len hn hg.2)
theorem wrg_function {ms : List (Nat × List (Value × Value))} (HM : Hid (FmAt w1 (Eld w1 X) mf t)) : WrgOK w1 X F (SX (⟨g, 68, [.slice AF nF cF, .slice AR nR cR, .map (some mf), .slice AP nF cP, .map (some mg), vL, .map (some ma), .map (some mh), vQ]⟩ :: []) ms X w1.heap.size) 18 #[.pointer (some ⟨g, 0, none⟩)] (PlG t) (functionB t) :=
  WrgOK.of (fun args w => by kernel_rfl) (fun p v bs rs w hg hp h => functionR_any w (rdv_at h) (hp.st (h.out.eld (fun _ h => h))) (HM.out.st (h.out.eld (fun _ h => h))) hg.by_)
theorem wrg_form {ms : List (Nat × List (Value × Value))} : WrgOK w1 X F (SX (⟨g, 68, [.slice AF nF cF, .slice AR nR cR, .map (some mf), .slice AP nF cP, .map (some mg), vL, .map (some ma), .map (some mh), vQ]⟩ :: []) ms X w1.heap.size) 19 #[.pointer (some ⟨g, 0, none⟩)] (PlG t) formB :=
  WrgOK.of (fun args w => by kernel_rfl) (fun p v bs rs w hg hp h => form_any w (rdv_at h) (hp.st (h.out.eld (fun _ h => h))) hg.by_ hg.len)
theorem wrg_misused {L : List (List Nat)} {arr q : List Rf} {hd : List (Rf × Rf)} {hl : List (Value × Value)} (HM : Hid (FmAt w1 (Eld w1 X) mf t)) (HP : Hid (PmAt w1 (Eld w1 X) AP nF t)) (hn : nF ≤ 1000000) (hL : ∀ s ∈ L, byteOk s) : WrgOK w1 X F (SX (⟨g, 68, [.slice AF nF cF, .slice AR nR cR, .map (some mf), .slice AP nF cP, .map (some mg), vL, .map (some ma), .map (some mh), vQ]⟩ :: []) [(mg, encK strV (enumF L 0)), (ma, encK refV (arrE arr)), (mh, hl)] X w1.heap.size) 23 #[.pointer (some ⟨g, 0, none⟩)] (PlG t) (misusedB t ⟨L, arr, q, hd⟩) :=
  WrgOK.of (fun args w => by kernel_rfl) (fun p v bs rs w hg hp h => misused_any w (rdv_at h) (hp.st (h.out.eld (fun _ h => h))) (HM.out.st (h.out.eld (fun _ h => h))) (HP.out.st (h.out.eld (fun _ h => h))) hg.fn1 hg.fn2 hn hg.by_ hg.up (enum_ok L 0 hL))
theorem wrg_own {L : List (List Nat)} {arr q : List Rf} {hd : List (Rf × Rf)} {hl : List (Value × Value)} (HP : Hid (PmAt w1 (Eld w1 X) AP nF t)) (hn : nF ≤ 1000000) (hL : ∀ s ∈ L, byteOk s) : WrgOK w1 X F (SX (⟨g, 68, [.slice AF nF cF, .slice AR nR cR, .map (some mf), .slice AP nF cP, .map (some mg), vL, .map (some ma), .map (some mh), vQ]⟩ :: []) [(mg, encK strV (enumF L 0)), (ma, encK refV (arrE arr)), (mh, hl)] X w1.heap.size) 24 #[.pointer (some ⟨g, 0, none⟩)] (PlG t) (ownB t ⟨L, arr, q, hd⟩) :=
  WrgOK.of (fun args w => by kernel_rfl) (fun p v bs rs w hg hp h => own_any w (rdv_at h) (hp.st (h.out.eld (fun _ h => h))) (HP.out.st (h.out.eld (fun _ h => h))) hg.fn1 hg.fn2 hn hg.by_ (enum_ok L 0 hL))
end
open Go.RowKit
def Cold.maps (l : List Nat) : Cold := ⟨fun w F => ∀ m ∈ l, F m ∧ w.heap[m]? = some (mapO []), fun _ _ _ _ hF h m hm => ⟨(hF m (h m hm).1).1, (hF m (h m hm).1).2.trans (h m hm).2⟩⟩
section
variable {o : Oper} {a : Act} {w0 w : World} {X : List Nat} {S : World → Prop} {bs : List Bx} {rs : List Rw} {F : List Cold} {K : Act → World → Prop} {Q : Exit → Act → World → Prop}
theorem wo_mkO {l : List Nat} (HO : Hid (Own w0 X S bs rs [Cold.maps l] w)) (hn : l.Nodup) {ty kt et : TypeId} (ho : o.op = .makeMap ty none) (hm : Try.prog.underlying ty = some (.map kt et)) (h : ∀ m W, (m :: l).Nodup → Hid (Own w0 X S bs rs [Cold.maps (m :: l)] W) → K (a.put o.dst (.map (some m))) W) : WOp Try.prog o a w K Q := by
  refine wo_mkM ho hm (fun m W HM => ?_)
  have hc := HO.out.cold _ List.mem_cons_self
  have hml : m ∉ l := fun hl => by have h1 := (hc m hl).1.2.1; rw [HM.out.e] at h1; exact Nat.lt_irrefl _ h1
  refine h m W (List.nodup_cons.2 ⟨hml, hn⟩) (Lib.hid (((HO.out.next HM.out.below).coldAll (Cold.maps (m :: l)) (fun y hy => ?_)).sub (List.Sublist.refl _) (List.Sublist.refl _) (fun c hc => by rw [List.mem_singleton.1 hc]; exact List.mem_cons_self)))
  rcases List.mem_cons.1 hy with rfl | hy
  · refine ⟨⟨by rw [HM.out.e]; exact HO.out.kept.size, by rw [HM.out.size]; omega, fun hh => ?_⟩, HM.out.self⟩
    have h1 := (HO.out.hot_lt y hh).2
    rw [HM.out.e] at h1
    exact Nat.lt_irrefl _ h1
  · have h1 := hc y hy
    exact ⟨⟨h1.1.1, Nat.lt_of_lt_of_le h1.1.2.1 HM.out.below.size, h1.1.2.2⟩, (HM.out.below.block y h1.1.2.1).trans h1.2⟩
theorem frameA {g b2 b1 mf mg ma mh : Nat} {T T2 T1 : TypeId} {cs c2 c1 : List Value} (HO : Hid (Own w0 [] (fun _ => True) [⟨g, T, cs⟩, ⟨b2, T2, c2⟩, ⟨b1, T1, c1⟩] [] [Cold.maps [mh, ma, mg, mf]] w)) (hn : [mh, ma, mg, mf].Nodup) :
    Hid (Own w [g, mf, mg, ma, mh] (SX [⟨g, T, cs⟩] [(mf, []), (mg, []), (ma, []), (mh, [])] [g, mf, mg, ma, mh] w.heap.size) [] [] [] w) ∧ Hid (Own w0 [] (fun _ => True) [⟨b2, T2, c2⟩, ⟨b1, T1, c1⟩] [] [] w) ∧ Hid (∀ y ∈ [g, mf, mg, ma, mh], w0.heap.size ≤ y ∧ y ∉ hot [⟨b2, T2, c2⟩, ⟨b1, T1, c1⟩] []) := by
  have hc := HO.out.cold _ List.mem_cons_self
  have hb := HO.out.box _ List.mem_cons_self
  have hnd := HO.out.nodup
  have hgh : g ∈ hot [⟨g, T, cs⟩, ⟨b2, T2, c2⟩, ⟨b1, T1, c1⟩] [] := by simp [hot]
  have c1' := hc mf (by simp)
  have c2' := hc mg (by simp)
  have c3' := hc ma (by simp)
  have c4' := hc mh (by simp)
  have n1 : mf ≠ g := fun e => c1'.1.2.2 (e ▸ hgh)
  have n2 : mg ≠ g := fun e => c2'.1.2.2 (e ▸ hgh)
  have n3 : ma ≠ g := fun e => c3'.1.2.2 (e ▸ hgh)
  have n4 : mh ≠ g := fun e => c4'.1.2.2 (e ▸ hgh)
  have hlt := (HO.out.hot_lt g hgh)
  refine ⟨Lib.hid (Own.init ⟨fun x hx => ?_, fun m hm => ?_, ?_, fun b hb2 => ?_, fun y hy => ?_⟩ SX.loc), Lib.hid (HO.out.sub (List.sublist_cons_self _ _) (List.Sublist.refl _) (fun c hc => by cases hc)), Lib.hid fun y hy => ?_⟩
  · rw [List.mem_singleton.1 hx]; exact hb
  · simp only [List.mem_cons, List.not_mem_nil, or_false] at hm
    rcases hm with rfl | rfl | rfl | rfl
    · exact c1'.2
    · exact c2'.2
    · exact c3'.2
    · exact c4'.2
  · simp only [List.nodup_cons, List.mem_cons, List.not_mem_nil, or_false, not_or, not_false_eq_true, List.nodup_nil, and_true] at hn
    simp only [List.map_cons, List.map_nil, List.cons_append, List.nil_append, List.nodup_cons, List.mem_cons, List.not_mem_nil, or_false, not_or, not_false_eq_true, List.nodup_nil, and_true]
    obtain ⟨⟨a1, a2, a3⟩, ⟨a4, a5⟩, a6⟩ := hn
    exact ⟨⟨n1.symm, n2.symm, n3.symm, n4.symm⟩, ⟨Ne.symm a6, Ne.symm a5, Ne.symm a3⟩, ⟨Ne.symm a4, Ne.symm a2⟩, Ne.symm a1⟩
  · have : b ∈ [g, mf, mg, ma, mh] := hb2
    refine ⟨?_, this⟩
    simp only [List.mem_cons, List.not_mem_nil, or_false] at this
    rcases this with rfl | rfl | rfl | rfl | rfl
    · exact hlt.2
    · exact c1'.1.2.1
    · exact c2'.1.2.1
    · exact c3'.1.2.1
    · exact c4'.1.2.1
  · simp only [List.mem_cons, List.not_mem_nil, or_false] at hy
    rcases hy with rfl | rfl | rfl | rfl | rfl
    · exact hlt.2
    · exact c1'.1.2.1
    · exact c2'.1.2.1
    · exact c3'.1.2.1
    · exact c4'.1.2.1
  · have hs : ∀ m, m ∉ hot [⟨g, T, cs⟩, ⟨b2, T2, c2⟩, ⟨b1, T1, c1⟩] [] → m ∉ hot [⟨b2, T2, c2⟩, ⟨b1, T1, c1⟩] [] := fun m h h2 => h (by rw [hot_box]; exact List.mem_cons_of_mem _ h2)
    simp only [List.mem_cons, List.not_mem_nil, or_false] at hy
    rcases hy with rfl | rfl | rfl | rfl | rfl
    · exact ⟨hlt.1, by rw [hot_box] at hnd; exact (List.nodup_cons.1 hnd).1⟩
    · exact ⟨c1'.1.1, hs _ c1'.1.2.2⟩
    · exact ⟨c2'.1.1, hs _ c2'.1.2.2⟩
    · exact ⟨c3'.1.1, hs _ c3'.1.2.2⟩
    · exact ⟨c4'.1.1, hs _ c4'.1.2.2⟩
theorem bp_ct {fn : Func} {R : Ending → World → Prop} (HO : Hid (Own w0 X S bs rs F w)) {t u : Tmp} {ty : TypeId} (hf : fn.results = #[.cell t ty, .tmp u]) {b : Nat} (hx : a.tmps.getD t undef = .pointer (some ⟨b, 0, none⟩)) {T : TypeId} {cs : List Value} {n : Nat} [Z : TN ty n] [m : Bi bs b T cs] [l : Ln cs n] {v : Value} (hv : a.tmps.getD u undef = v) (hdef : a.defers = []) (h : R (.returned (.tuple #[.agg cs.toArray, v])) w) : bodyPost Try.prog fn R .ret a w := by
  have hl : (loadCells ⟨b, 0, none⟩ n).run Try.prog w = .ok cs.toArray w := by
    rw [← l.n]
    exact run_loadCells_list (P := Try.prog) w ⟨b, 0, none⟩ cs (fun j v hv => by rw [Addr.add_mid]; exact HO.out.cells m.m 0 j v (by simpa using hv))
  refine ⟨hdef, _, ?_, h⟩
  have hx2 : a.tmps[t]?.getD undef = .pointer (some ⟨b, 0, none⟩) := by rw [← hx]; simp
  have hv2 : a.tmps[u]?.getD undef = v := by rw [← hv]; simp
  simp [results, hf, hx2, hv2, asAddr, loadVar, Sem.run_bind, Z.a w, Z.s w, hl]
end
open Go.RowKit
def ResPost (t : TreeT) (w : World) (e : Ending) (w' : World) : Prop := Below w.heap.size w w' ∧ match resolveS t with
  | .error x => ∃ v, e = .returned (.tuple #[.agg #[.slice none 0 0, .slice none 0 0], v]) ∧ FltV w' w.heap.size v x.1 x.2
  | .ok nm => ∃ (AG : Option Addr) (cG : Nat) (AH : Option Addr) (cH : Nat) (els : List ElN), e = .returned (.tuple #[.agg #[.slice AG nm.globals.length cG, .slice AH nm.locals.length cH], .nilIface]) ∧ els.map (·.1) = nm.locals ∧ nm.globals.length ≤ cG ∧ nm.locals.length ≤ cH ∧ RowAt w' (fun b => w.heap.size ≤ b ∧ b < w'.heap.size) AH (els.map slN) ∧ (∀ e ∈ els, e.1.length ≤ e.2.2 ∧ RowAt w' (fun b => w.heap.size ≤ b ∧ b < w'.heap.size) e.2.1 (e.1.flatMap varB)) ∧ RowAt w' (fun b => w.heap.size ≤ b ∧ b < w'.heap.size) AG (nm.globals.flatMap varB)
section
variable {wA w : World} {g nF cF nR cR cP mf mg ma mh : Nat} {AF AR AP : Option Addr} {vL vQ : Value} {t : TreeT} {mps : List Nat}
theorem frameB (HO : Hid (Own wA [g, mf, mg, ma, mh] (SX [⟨g, 68, [.slice AF nF cF, .slice AR nR cR, .map (some mf), .slice AP nF cP, .map (some mg), vL, .map (some ma), .map (some mh), vQ]⟩] [(mf, encK strV (enumF (fnmL t nF) 0)), (mg, []), (ma, []), (mh, [])] [g, mf, mg, ma, mh] wA.heap.size) [] [⟨62, 1, .slice AP nF cP, nF, mapVs mps⟩] [Cold.pm mps (fpsL t nF)] w)) (hmp : mps.length = nF) (hnF : nF = t.funcs.length) (hbF : ∀ f ∈ t.funcs, byteOk f.name ∧ (∀ s ∈ f.params, byteOk s)) :
    Hid (FmAt w (Eld w [g, mg, ma, mh]) mf t) ∧ Hid (PmAt w (Eld w [g, mg, ma, mh]) AP nF t) ∧ Hid (Own w [g, mg, ma, mh] (SX [⟨g, 68, [.slice AF nF cF, .slice AR nR cR, .map (some mf), .slice AP nF cP, .map (some mg), vL, .map (some ma), .map (some mh), vQ]⟩] [(mg, []), (ma, []), (mh, [])] [g, mg, ma, mh] w.heap.size) [] [⟨52, 2, .slice none 0 0, 0, []⟩, ⟨107, 2, .slice none 0 0, 0, []⟩] [] w) := by
  have hst := HO.out.st
  have hnd : [g, mf, mg, ma, mh].Nodup := hst.nd
  have hlt : ∀ b ∈ [g, mf, mg, ma, mh], b < wA.heap.size := fun b hb => (hst.lt b hb).1
  have hsz := HO.out.kept.size
  have hsub : ∀ y ∈ [g, mg, ma, mh], y ∈ [g, mf, mg, ma, mh] := by
    intro y hy
    simp only [List.mem_cons, List.not_mem_nil, or_false] at hy ⊢
    rcases hy with h | h | h | h
    · exact .inl h
    · exact .inr (.inr (.inl h))
    · exact .inr (.inr (.inr (.inl h)))
    · exact .inr (.inr (.inr (.inr h)))
  have hnew : ∀ b, wA.heap.size ≤ b → b < w.heap.size → Eld w [g, mg, ma, mh] b := fun b h1 h2 => ⟨h2, fun h => by have := hlt b (hsub b h); omega⟩
  have hfn : fnmL t nF = t.funcs.map (·.name) := by unfold fnmL; rw [List.take_of_length_le (Nat.le_of_eq hnF.symm)]
  have hfp : fpsL t nF = t.funcs.map (·.params) := by unfold fpsL; rw [List.take_of_length_le (Nat.le_of_eq hnF.symm)]
  have hmf : mf ∉ [g, mg, ma, mh] := by
    simp only [List.nodup_cons, List.mem_cons, List.not_mem_nil, or_false, not_or] at hnd ⊢
    exact ⟨fun e => hnd.1.1 e.symm, hnd.2.1.1, hnd.2.1.2.1, hnd.2.1.2.2⟩
  refine ⟨Lib.hid ⟨⟨⟨Nat.lt_of_lt_of_le (hlt mf (by simp)) hsz, hmf⟩, ?_⟩, ?_⟩, Lib.hid ⟨hnF, fun i f hf => ?_⟩, Lib.hid ?_⟩
  · rw [← hfn]
    exact hst.map _ List.mem_cons_self
  · exact enum_ok _ 0 (fun s hs => by obtain ⟨f, hf, rfl⟩ := List.mem_map.1 hs; exact (hbF f hf).1)
  · have hi : i < mps.length := by rw [hmp, hnF]; exact (List.getElem?_eq_some_iff.1 hf).1
    have hrow := HO.out.row _ List.mem_cons_self
    obtain ⟨b, rfl, _, hc⟩ := row_ptr hrow (by omega)
    have hb := hrow.lt b rfl
    have hpm := HO.out.cold _ List.mem_cons_self
    have hmi := List.getElem?_eq_getElem hi
    have h1 := hpm i mps[i] f.params hmi (by rw [hfp, List.getElem?_map, hf]; rfl)
    exact ⟨b, mps[i], rfl, hnew b hb.1 hb.2, hc i _ (by unfold mapVs; rw [List.getElem?_map, hmi]; rfl), ⟨hnew _ h1.1.1 h1.1.2.1, h1.2⟩, enum_ok _ 0 (hbF f (List.mem_of_getElem? hf)).2⟩
  · refine (Own.nilRow (Own.nilRow (Own.init ⟨fun x hx => hst.box x hx, fun m hm => hst.map m (List.mem_cons_of_mem _ hm), ?_, fun b hb => ?_, fun y hy => ?_⟩ SX.loc) _ _) _ _)
    · show [g, mg, ma, mh].Nodup
      simp only [List.nodup_cons, List.mem_cons, List.not_mem_nil, or_false, not_or, not_false_eq_true, List.nodup_nil, and_true] at hnd ⊢
      exact ⟨⟨hnd.1.2.1, hnd.1.2.2.1, hnd.1.2.2.2⟩, hnd.2.2⟩
    · have hb2 : b ∈ [g, mg, ma, mh] := hb
      exact ⟨Nat.lt_of_lt_of_le (hlt b (hsub b hb2)) hsz, hb2⟩
    · exact Nat.lt_of_lt_of_le (hlt y (hsub y hy)) hsz
end
theorem tree_cells {w1 w : World} {X : List Nat} {bs : List Bx} {rs : List Rw} {F : List Cold} {g : Nat} {T : TypeId} {x y : Value} {cs : List Value} {ms : List (Nat × List (Value × Value))} (h : Own w1 X (SX [⟨g, T, x :: y :: cs⟩] ms X w1.heap.size) bs rs F w) : w.cell? ⟨g, 0, none⟩ = some x ∧ w.cell? ⟨g, 1, none⟩ = some y := by
  have hb : Blk w g T (x :: y :: cs).toArray := h.st.box _ List.mem_cons_self
  exact ⟨by rw [hb.cell]; rfl, by rw [hb.cell]; rfl⟩
section
open Go.RowKit
theorem RowAt.nil {w : World} {P : Nat → Prop} {A : Option Addr} : RowAt w P A [] := fun h => absurd rfl h
theorem check_all {wrong : Pl → Bool} : ∀ {l : List Pl}, checkS wrong l = none → ∀ p ∈ l, wrong p = false
  | [], _, p, hp => by cases hp
  | q :: l, h, p, hp => by
    rw [checkS] at h
    split at h
    · cases h
    · rename_i hq
      rcases List.mem_cons.1 hp with rfl | hp
      · simpa using hq
      · exact check_all h p hp
theorem trat_frame {w W : World} {Y : List Nat} {S : World → Prop} {bs : List Bx} {F : List Cold} {AF AR : Option Addr} {nF nR : Nat} {t : TreeT} (HB : Hid (Own w [] S bs [] F W)) (HY : Hid (∀ y ∈ Y, w.heap.size ≤ y ∧ y ∉ hot bs [])) (HT : Hid (TrAt w (Eld w []) AF AR nF nR t)) : Hid (TrAt W (Eld W Y) AF AR nF nR t) :=
  Lib.hid (trat_st (fun b hb => ⟨⟨Nat.lt_of_lt_of_le hb.1 HB.out.kept.size, fun hm => by have h1 := (HY.out b hm).1; have h2 := hb.1; omega⟩, HB.out.kept.block b hb.1 (by simp)⟩) HT.out)
theorem y_sub {w : World} {g mf mg ma mh : Nat} {l : List Nat} (h : ∀ y ∈ [g, mf, mg, ma, mh], w.heap.size ≤ y ∧ y ∉ l) : ∀ y ∈ [g, mg, ma, mh], w.heap.size ≤ y ∧ y ∉ l := fun y hy => h y (by
  simp only [List.mem_cons, List.not_mem_nil, or_false] at hy ⊢
  rcases hy with h | h | h | h
  · exact .inl h
  · exact .inr (.inr (.inl h))
  · exact .inr (.inr (.inr (.inl h)))
  · exact .inr (.inr (.inr (.inr h))))
theorem note_cells {w1 w : World} {X : List Nat} {F : List Cold} {bs : List Bx} {rs : List Rw} {g nF cF nR cR cP mf mg ma mh : Nat} {AF AR AP : Option Addr} {x : NSt × Nat} {V : Vst} (h : NoteI w1 X g nF cF nR cR cP mf mg ma mh AF AR AP x V) (hO : Own w1 X V.S bs rs F w) : w.cell? ⟨g, 0, none⟩ = some (.slice AF nF cF) ∧ w.cell? ⟨g, 1, none⟩ = some (.slice AR nR cR) := by
  obtain ⟨AL, cL, AQ, cQ, hs, rfl, _⟩ := h
  exact tree_cells hO
theorem note_start {w1 w : World} {X : List Nat} {F : List Cold} {g nF cF nR cR cP mf mg ma mh : Nat} {AF AR AP : Option Addr} {t : TreeT} (HO : Hid (Own w1 X (SX (⟨g, 68, [.slice AF nF cF, .slice AR nR cR, .map (some mf), .slice AP nF cP, .map (some mg), .slice none 0 0, .map (some ma), .map (some mh), .slice none 0 0]⟩ :: []) [(mg, []), (ma, []), (mh, [])] X w1.heap.size) [] [⟨52, 2, .slice none 0 0, 0, []⟩, ⟨107, 2, .slice none 0 0, 0, []⟩] F w)) (hpl : (places t).length ≤ 1000000) (hG : ∀ p ∈ places t, PlG t p) :
    WlkJ w1 X F (NoteI w1 X g nF cF nR cR cP mf mg ma mh AF AR AP) (PlG t) (fun _ _ => true) (fun x p => (noteS t p x.1, x.2 + 1)) (·.2) 1000000 ((notedS t, 0 + (places t).length), true) [] [] (places t) w :=
  ⟨(⟨[], [], [], []⟩, 0), ⟨_, [], _⟩, hpl, by simpa using hpl, ⟨none, 0, none, 0, [], rfl, fun v => rfl, fun s hs => (by cases hs), Nat.le_refl _, Nat.le_refl _, Nat.le_refl _⟩, hG, run_note t (places t) (⟨[], [], [], []⟩, 0), HO.out⟩
theorem spread_start {w1 w : World} {X : List Nat} {F : List Cold} {g nF cF nR cR cP mf mg ma mh : Nat} {AF AR AP AL AQ : Option Addr} {cL cQ : Nat} {t : TreeT} {hs : List HEnt} (hpl : (places t).length ≤ 1000000) (hO : Own w1 X (SX (⟨g, 68, [.slice AF nF cF, .slice AR nR cR, .map (some mf), .slice AP nF cP, .map (some mg), .slice AL (notedS t).L.length cL, .map (some ma), .map (some mh), .slice AQ (notedS t).q.length cQ]⟩ :: []) [(mg, encK strV (enumF (notedS t).L 0)), (ma, encK refV (arrE (notedS t).arr)), (mh, encK refV (hs.map handV))] X w1.heap.size) ([] ++ []) ([] ++ (⟨52, 2, .slice AL (notedS t).L.length cL, (notedS t).L.length, (notedS t).L.flatMap varC⟩ :: ⟨107, 2, .slice AQ (notedS t).q.length cQ, (notedS t).q.length, (notedS t).q.flatMap refC⟩ :: hs.map rowH)) F w) :
    Hid (∀ x ∈ (notedS t).hd, x.2 ∈ (notedS t).arr ++ (notedS t).hd.map (·.2)) ∧ (notedS t).hd.length ≤ 1000000 ∧ Hid (SprJ w1 X F g nF cF nR cR cP mf mg ma mh AF AR AP (.slice AL (notedS t).L.length cL) ((notedS t).arr ++ (notedS t).hd.map (·.2)) (notedS t).L (notedS t).hd hs [] [⟨52, 2, .slice AL (notedS t).L.length cL, (notedS t).L.length, (notedS t).L.flatMap varC⟩] (spreadS t) (measS ((notedS t).arr ++ (notedS t).hd.map (·.2)) (notedS t)) w) := by
  obtain ⟨h1, h2, h3⟩ := notes_inv t (places t) ⟨[], [], [], []⟩ ⟨List.nodup_nil, rfl⟩
  have e : (places t).foldl (fun st p => noteS t p st) ⟨[], [], [], []⟩ = notedS t := rfl
  rw [e] at h1 h2 h3
  simp only [List.length_nil, Nat.zero_add] at h3
  have hm : measS ((notedS t).arr ++ (notedS t).hd.map (·.2)) (notedS t) = (notedS t).arr.length + (notedS t).hd.length := by
    unfold measS
    rw [List.length_append, List.length_map, h2]
    omega
  refine ⟨Lib.hid fun x hx => List.mem_append_right _ (List.mem_map_of_mem (f := fun y : Rf × Rf => y.2) hx), by omega, Lib.hid ⟨notedS t, fuelS t, AQ, cQ, ⟨h1, fun v hv => List.mem_append_left _ hv, rfl, rfl⟩, rfl, by rw [hm]; unfold fuelS; omega, by rw [hm]; omega, rfl, ?_⟩⟩
  refine hO.perm (List.Perm.refl _) ?_
  exact (List.Perm.swap _ _ _).trans (List.Perm.cons _ (List.perm_append_comm (l₁ := [_])))
theorem names_aside {w0 wA w : World} {X Y : List Nat} {S S' : World → Prop} {bs bs' : List Bx} {rs' : List Rw} {AH AG : Option Addr} {x y : List Value} {els : List ElN} (HB : Hid (Own w0 X S bs [] [] wA)) (HY : Hid (∀ y ∈ Y, w0.heap.size ≤ y ∧ y ∉ hot bs [])) (hO : Own wA Y S' bs' rs' [Cold.row AH x, Cold.lc els, Cold.row AG y] w) : Hid (Own w0 X S bs [] [Cold.row AH x, Cold.lc els, Cold.row AG y] w) := by
  have h0 := HB.out.aside hO.kept HY.out
  have hF : ∀ b, (wA.heap.size ≤ b ∧ b < w.heap.size ∧ b ∉ hot bs' rs') → (w0.heap.size ≤ b ∧ b < w.heap.size ∧ b ∉ hot bs []) ∧ w.heap[b]? = w.heap[b]? := fun b hb => ⟨⟨Nat.le_trans HB.out.kept.size hb.1, hb.2.1, fun hh => by have := (HB.out.hot_lt b hh).2; omega⟩, rfl⟩
  have c1 := hO.cold _ List.mem_cons_self
  have c2 := hO.cold _ (List.mem_cons_of_mem _ List.mem_cons_self)
  have c3 := hO.cold _ (List.mem_cons_of_mem _ (List.mem_cons_of_mem _ List.mem_cons_self))
  exact Lib.hid (((h0.coldAll (Cold.row AG y) ((Cold.row AG y).st w w _ _ hF c3)).coldAll (Cold.lc els) ((Cold.lc els).st w w _ _ hF c2)).coldAll (Cold.row AH x) ((Cold.row AH x).st w w _ _ hF c1))
theorem err_aside {w0 wA w : World} {X Y : List Nat} {S : World → Prop} {bs : List Bx} {v : Value} {a : Nat} {k : Int} (HB : Hid (Own w0 X S bs [] [] wA)) (hk : Kept Y wA w) (HY : Hid (∀ y ∈ Y, w0.heap.size ≤ y ∧ y ∉ hot bs [])) (hv : FltV w wA.heap.size v a k) : Hid (Own w0 X S bs [] [Cold.flt v a k] w) := by
  obtain ⟨b, e, hb, hB⟩ := hv
  exact Lib.hid ((HB.out.aside hk HY.out).coldAll (Cold.flt v a k) ⟨b, e, ⟨Nat.le_trans HB.out.kept.size hb, hB.lt, fun hh => by have := (HB.out.hot_lt b hh).2; omega⟩, hB⟩)
theorem res_err {w W : World} {bs : List Bx} {v : Value} {a : Nat} {k : Int} (HO : Hid (Own w [] (fun _ => True) bs [] [Cold.flt v a k] W)) : Below w.heap.size w W ∧ ∃ v', Ending.returned (.tuple #[.agg #[.slice none 0 0, .slice none 0 0], v]) = .returned (.tuple #[.agg #[.slice none 0 0, .slice none 0 0], v']) ∧ FltV W w.heap.size v' a k := by
  obtain ⟨b, e, hb, hB⟩ := HO.out.cold _ List.mem_cons_self
  exact ⟨HO.out.kept.below, v, rfl, b, e, hb.1, hB⟩
theorem names_end {w w' : World} {S : World → Prop} {bs : List Bx} {AG AH : Option Addr} {cG cH nL nF : Nat} {els : List ElN} {lc : List (List (List Nat × Bool))} {gl : List (List Nat × Bool)} (HO : Hid (Own w [] S bs [] [Cold.row AH (els.map slN), Cold.lc els, Cold.row AG (gl.flatMap varB)] w')) (hels : els.map (·.1) = lc) (hcG : nL ≤ cG) (hcH : nF ≤ cH) :
    Below w.heap.size w w' ∧ ∃ (AG' : Option Addr) (cG' : Nat) (AH' : Option Addr) (cH' : Nat) (els' : List ElN), Ending.returned (.tuple #[.agg #[.slice AG nL cG, .slice AH nF cH], .nilIface]) = .returned (.tuple #[.agg #[.slice AG' nL cG', .slice AH' nF cH'], .nilIface]) ∧ els'.map (·.1) = lc ∧ nL ≤ cG' ∧ nF ≤ cH' ∧ RowAt w' (fun b => w.heap.size ≤ b ∧ b < w'.heap.size) AH' (els'.map slN) ∧ (∀ e ∈ els', e.1.length ≤ e.2.2 ∧ RowAt w' (fun b => w.heap.size ≤ b ∧ b < w'.heap.size) e.2.1 (e.1.flatMap varB)) ∧ RowAt w' (fun b => w.heap.size ≤ b ∧ b < w'.heap.size) AG' (gl.flatMap varB) := by
  have c1 := HO.out.cold _ List.mem_cons_self
  have c2 := HO.out.cold _ (List.mem_cons_of_mem _ List.mem_cons_self)
  have c3 := HO.out.cold _ (List.mem_cons_of_mem _ (List.mem_cons_of_mem _ List.mem_cons_self))
  have hF : ∀ b, (w.heap.size ≤ b ∧ b < w'.heap.size ∧ b ∉ hot bs []) → (w.heap.size ≤ b ∧ b < w'.heap.size) ∧ w'.heap[b]? = w'.heap[b]? := fun b hb => ⟨⟨hb.1, hb.2.1⟩, rfl⟩
  exact ⟨HO.out.kept.below, AG, cG, AH, cH, els, rfl, hels, hcG, hcH, RowAt.st hF c1, fun e he => ⟨(c2 e he).1, RowAt.st hF (c2 e he).2⟩, RowAt.st hF c3⟩
attribute [local irreducible] WQ
set_option maxRecDepth 100000 in
set_option maxHeartbeats 12800000 in
theorem resolve_any {t : TreeT} {nF cF nR cR : Nat} {AF AR : Option Addr} (hnF : Hid (nF = t.funcs.length)) (hnR : Hid (nR = t.rules.length)) (hn1 : nF ≤ 1000000) (hn2 : nR ≤ 1000000) (hrl : ∀ r ∈ t.rules, r.l.length ≤ 1000000) (hpl : (places t).length ≤ 1000000) (hbF : Hid (∀ f ∈ t.funcs, byteOk f.name ∧ (∀ s ∈ f.params, byteOk s) ∧ f.params.length ≤ 1000000)) (hG : ∀ p ∈ places t, PlG t p) (w : World) (hT : TrAt w (Eld w []) AF AR nF nR t) :
    Calls Try.prog 6 #[.agg #[.slice AF nF cF, .slice AR nR cR]] w (ResPost t w) := by
  have HO : Hid (Own w [] (fun _ => True) [] [] [Cold.maps []] w) := Lib.hid ((own_0 w).out.coldAll (Cold.maps []) (fun m hm => by cases hm))
  have hnd : ([] : List Nat).Nodup := List.nodup_nil
  obtain ⟨R, hR⟩ : ∃ R, resolveS t = R := ⟨_, rfl⟩
  unfold ResPost
  rw [hR]
  unfold resolveS at hR
  have HR := Lib.hid hR
  have HG := Lib.hid hG
  have HT := Lib.hid hT
  clear hR hG hT
  go_enter Try.func6, Try.ntmps6
  (repeat' (first | ((with_reducible refine zG ?_); first | refine oWx ?_ | (refine oWs ?_; clear HO; intro _ HO)) | ((with_reducible refine to_makeMap ?_); (first | refine wo_mkO HO hnd rfl Try.underlying62 ?_ | refine wo_mkO HO hnd rfl Try.underlying63 ?_ | refine wo_mkO HO hnd rfl Try.underlying64 ?_); clear HO hnd; intro _ _ hnd HO) | go_values | go_skip | go_guarded | go_step | go_upon | (go_ite <;> go_prune <;> (try go_simp))))
  obtain ⟨HA, HB, HY⟩ := frameA HO hnd
  clear HO hnd
  have HTA := trat_frame HB HY HT
  refine (functions_any HTA hnF hn1 hbF HA).mono ?_
  intro e WA hp
  have HO := HB
  cases hh : headsS [] t.funcs with
  | some a =>
    rw [hh] at hp
    obtain ⟨v, rfl, hv, hk⟩ := hp
    have hr := HR.out
    rw [hh] at hr
    obtain ⟨bf, rfl, _⟩ := id hv
    replace HO := err_aside HB (hk) HY hv
    clear hv
    have hr2 := hr
    subst hr2
    (try dsimp only)
    (repeat' (first | ((with_reducible refine zG ?_); first | refine oWx ?_ | (refine oWs ?_; clear HO; intro _ HO)) | go_values | go_skip | go_guarded | go_step | go_upon | (go_ite <;> go_prune <;> (try go_simp))))
    all_goals (refine bp_ct HO (t := 2) (u := 3) (ty := 33) rfl rfl rfl rfl ?_; exact res_err HO)
  | none =>
    rw [hh] at hp
    dsimp only at hp
    cases hl : longS t with
    | some a =>
      rw [hl] at hp
      obtain ⟨v, rfl, hv, hk⟩ := hp
      have hr := HR.out
      rw [hh, hl] at hr
      obtain ⟨bf, rfl, _⟩ := id hv
      replace HO := err_aside HB (hk) HY hv
      clear hv
      have hr2 := hr
      subst hr2
      (try dsimp only)
      (repeat' (first | ((with_reducible refine zG ?_); first | refine oWx ?_ | (refine oWs ?_; clear HO; intro _ HO)) | go_values | go_skip | go_guarded | go_step | go_upon | (go_ite <;> go_prune <;> (try go_simp))))
      all_goals (refine bp_ct HO (t := 2) (u := 3) (ty := 33) rfl rfl rfl rfl ?_; exact res_err HO)
    | none =>
      rw [hl] at hp
      obtain ⟨rfl, AP, cP, mps, hmp, hO⟩ := hp
      have hkA := hO.kept
      obtain ⟨HM, HP, HO2⟩ := frameB (Lib.hid hO) hmp hnF.out (fun f hf => ⟨(hbF.out f hf).1, (hbF.out f hf).2.1⟩)
      have HB2 := Lib.hid (HB.out.aside hkA HY.out)
      have HYB : Hid (∀ y ∈ [_, _, _, _], w.heap.size ≤ y ∧ y ∉ hot _ []) := Lib.hid (y_sub HY.out)
      have HTB := trat_frame HB2 HYB HT
      have hr := HR.out
      rw [hh, hl] at hr
      dsimp only at hr
      replace HR := Lib.hid hr
      clear hr hO hkA HA HB HO HTA hmp
      have HO := HB2
      (try dsimp only)
      (repeat' (first | ((with_reducible refine zG ?_); first | refine oWx ?_ | (refine oWs ?_; clear HO; intro _ HO)) | ((go_big_may; first | (go_at_call 15; refine (check_any (Lib.hid (wrg_unknown HM)) HTB (Lib.hid (fun _ _ _ h => tree_cells h)) hnF hnR hn1 hn2 hrl hpl (HG.out) 8 HO2).mono ?_; rintro e W9 ⟨hO9, hp9⟩)) <;> (try dsimp only)) | go_values | go_skip | go_guarded | go_step | go_upon | (go_ite <;> go_prune <;> (try go_simp))))
      cases hc : checkS (unknownB t) (places t) with
      | some a =>
        rw [hc] at hp9
        obtain ⟨v, rfl, hv⟩ := hp9
        have hr := HR.out
        rw [hc] at hr
        obtain ⟨bf, rfl, _⟩ := id hv
        replace HO := err_aside HB2 (hO9.kept) HYB hv
        clear hv
        have hr2 := hr
        subst hr2
        (try dsimp only)
        (repeat' (first | ((with_reducible refine zG ?_); first | refine oWx ?_ | (refine oWs ?_; clear HO; intro _ HO)) | go_values | go_skip | go_guarded | go_step | go_upon | (go_ite <;> go_prune <;> (try go_simp))))
        all_goals (refine bp_ct HO (t := 2) (u := 3) (ty := 33) rfl rfl rfl rfl ?_; exact res_err HO)
      | none =>
        rw [hc] at hp9
        dsimp only at hp9
        subst hp9
        have hr := HR.out
        rw [hc] at hr
        dsimp only at hr
        replace HR := Lib.hid hr
        clear hr HO2
        have HO2 := Lib.hid hO9
        clear hO9
        have hun := check_all hc
        (try dsimp only)
        (repeat' (first | ((with_reducible refine zG ?_); first | refine oWx ?_ | (refine oWs ?_; clear HO; intro _ HO)) | ((go_big_may; first | (go_at_call 15; refine (check_any (Lib.hid (wrg_counts HM HTB hn1)) HTB (Lib.hid (fun _ _ _ h => tree_cells h)) hnF hnR hn1 hn2 hrl hpl (fun p hp => ⟨HG.out p hp, hun p hp⟩) 9 HO2).mono ?_; rintro e W9 ⟨hO9, hp9⟩)) <;> (try dsimp only)) | go_values | go_skip | go_guarded | go_step | go_upon | (go_ite <;> go_prune <;> (try go_simp))))
        cases hc : checkS (countsB t) (places t) with
        | some a =>
          rw [hc] at hp9
          obtain ⟨v, rfl, hv⟩ := hp9
          have hr := HR.out
          rw [hc] at hr
          obtain ⟨bf, rfl, _⟩ := id hv
          replace HO := err_aside HB2 (hO9.kept) HYB hv
          clear hv
          have hr2 := hr
          subst hr2
          (try dsimp only)
          (repeat' (first | ((with_reducible refine zG ?_); first | refine oWx ?_ | (refine oWs ?_; clear HO; intro _ HO)) | go_values | go_skip | go_guarded | go_step | go_upon | (go_ite <;> go_prune <;> (try go_simp))))
          all_goals (refine bp_ct HO (t := 2) (u := 3) (ty := 33) rfl rfl rfl rfl ?_; exact res_err HO)
        | none =>
          rw [hc] at hp9
          dsimp only at hp9
          subst hp9
          have hr := HR.out
          rw [hc] at hr
          dsimp only at hr
          replace HR := Lib.hid hr
          clear hr HO2
          have HO2 := Lib.hid hO9
          clear hO9
          (try dsimp only)
          (repeat' (first | ((with_reducible refine zG ?_); first | refine oWx ?_ | (refine oWs ?_; clear HO; intro _ HO)) | ((go_big_may; first | (go_at_call 15; refine (check_any (Lib.hid (wrg_function HM)) HTB (Lib.hid (fun _ _ _ h => tree_cells h)) hnF hnR hn1 hn2 hrl hpl (HG.out) 10 HO2).mono ?_; rintro e W9 ⟨hO9, hp9⟩)) <;> (try dsimp only)) | go_values | go_skip | go_guarded | go_step | go_upon | (go_ite <;> go_prune <;> (try go_simp))))
          cases hc : checkS (functionB t) (places t) with
          | some a =>
            rw [hc] at hp9
            obtain ⟨v, rfl, hv⟩ := hp9
            have hr := HR.out
            rw [hc] at hr
            obtain ⟨bf, rfl, _⟩ := id hv
            replace HO := err_aside HB2 (hO9.kept) HYB hv
            clear hv
            have hr2 := hr
            subst hr2
            (try dsimp only)
            (repeat' (first | ((with_reducible refine zG ?_); first | refine oWx ?_ | (refine oWs ?_; clear HO; intro _ HO)) | go_values | go_skip | go_guarded | go_step | go_upon | (go_ite <;> go_prune <;> (try go_simp))))
            all_goals (refine bp_ct HO (t := 2) (u := 3) (ty := 33) rfl rfl rfl rfl ?_; exact res_err HO)
          | none =>
            rw [hc] at hp9
            dsimp only at hp9
            subst hp9
            have hr := HR.out
            rw [hc] at hr
            dsimp only at hr
            replace HR := Lib.hid hr
            clear hr HO2
            have HO2 := Lib.hid hO9
            clear hO9
            (try dsimp only)
            (repeat' (first | ((with_reducible refine zG ?_); first | refine oWx ?_ | (refine oWs ?_; clear HO; intro _ HO)) | ((go_big_may; first | (go_at_call 15; refine (check_any (Lib.hid (wrg_form)) HTB (Lib.hid (fun _ _ _ h => tree_cells h)) hnF hnR hn1 hn2 hrl hpl (HG.out) 4 HO2).mono ?_; rintro e W9 ⟨hO9, hp9⟩)) <;> (try dsimp only)) | go_values | go_skip | go_guarded | go_step | go_upon | (go_ite <;> go_prune <;> (try go_simp))))
            cases hc : checkS (formB) (places t) with
            | some a =>
              rw [hc] at hp9
              obtain ⟨v, rfl, hv⟩ := hp9
              have hr := HR.out
              rw [hc] at hr
              obtain ⟨bf, rfl, _⟩ := id hv
              replace HO := err_aside HB2 (hO9.kept) HYB hv
              clear hv
              have hr2 := hr
              subst hr2
              (try dsimp only)
              (repeat' (first | ((with_reducible refine zG ?_); first | refine oWx ?_ | (refine oWs ?_; clear HO; intro _ HO)) | go_values | go_skip | go_guarded | go_step | go_upon | (go_ite <;> go_prune <;> (try go_simp))))
              all_goals (refine bp_ct HO (t := 2) (u := 3) (ty := 33) rfl rfl rfl rfl ?_; exact res_err HO)
            | none =>
              rw [hc] at hp9
              dsimp only at hp9
              subst hp9
              have hr := HR.out
              rw [hc] at hr
              dsimp only at hr
              replace HR := Lib.hid hr
              clear hr HO2
              have HO2 := Lib.hid hO9
              clear hO9
              (try dsimp only)
              obtain ⟨N0, hN0⟩ : ∃ z, notedS t = z := ⟨_, rfl⟩
              obtain ⟨R5, hR5⟩ : ∃ z, spreadS t = z := ⟨_, rfl⟩
              obtain ⟨L5, arr5, q5, hd5⟩ := R5
              have hr := HR.out
              rw [hR5] at hr
              replace HR := Lib.hid hr
              clear hr hun
              (repeat' (first | ((with_reducible refine zG ?_); first | refine oWx ?_ | (refine oWs ?_; clear HO; intro _ HO)) | ((go_big_may; first | (go_at_call 20; refine (walk_any (Lib.hid (note_ok HM HP hn1)) HTB (Lib.hid (fun x V bs rs w h1 h2 => note_cells h1 h2)) hnF hnR hn1 hn2 hrl (Lib.hid (note_start HO2 hpl HG.out))).mono ?_; rintro e W9 ⟨rfl, V9, hI9, hO9⟩; obtain ⟨AL, cL, AQ, cQ, hs, rfl, hHd, hLb, hL1, hq1, hd1⟩ := hI9; dsimp only at hO9 hHd hLb hL1 hq1 hd1)) <;> (try dsimp only)) | go_values | go_skip | go_guarded | go_step | go_upon | (go_ite <;> go_prune <;> (try go_simp))))
              obtain ⟨hU, hdl, HSJ⟩ := spread_start hpl hO9
              (repeat' (first | ((with_reducible refine zG ?_); first | refine oWx ?_ | (refine oWs ?_; clear HO; intro _ HO)) | ((go_big_may; first | (go_at_call 22; refine (spread_any (Lib.hid hHd) hU hdl HSJ).mono ?_; rintro e W9 ⟨rfl, hRq, AQ9, cQ9, hIR, hO8⟩)) <;> (try dsimp only)) | go_values | go_skip | go_guarded | go_step | go_upon | (go_ite <;> go_prune <;> (try go_simp))))
              rw [hR5] at hIR hO8 hRq
              have hLL : L5 = (notedS t).L := hIR.L
              dsimp only at hO8 hRq
              rw [← hLL] at hO8 hLb hL1
              clear hO9 HSJ hU hHd hIR hRq hq1 hd1 HO2 hLL hN0
              have HO2 := Lib.hid hO8
              clear hO8
              (try dsimp only)
              (repeat' (first | ((with_reducible refine zG ?_); first | refine oWx ?_ | (refine oWs ?_; clear HO; intro _ HO)) | ((go_big_may; first | (go_at_call 15; refine (check_any (Lib.hid (wrg_misused (q := q5) (hd := hd5) HM HP hn1 hLb)) HTB (Lib.hid (fun _ _ _ h => tree_cells h)) hnF hnR hn1 hn2 hrl hpl (HG.out) 10 HO2).mono ?_; rintro e W9 ⟨hO9, hp9⟩)) <;> (try dsimp only)) | go_values | go_skip | go_guarded | go_step | go_upon | (go_ite <;> go_prune <;> (try go_simp))))
              cases hc : checkS (misusedB t ⟨L5, arr5, q5, hd5⟩) (places t) with
              | some a =>
                rw [hc] at hp9
                obtain ⟨v, rfl, hv⟩ := hp9
                have hr := HR.out
                rw [hc] at hr
                obtain ⟨bf, rfl, _⟩ := id hv
                replace HO := err_aside HB2 (hO9.kept) HYB hv
                clear hv
                have hr2 := hr
                subst hr2
                (try dsimp only)
                (repeat' (first | ((with_reducible refine zG ?_); first | refine oWx ?_ | (refine oWs ?_; clear HO; intro _ HO)) | go_values | go_skip | go_guarded | go_step | go_upon | (go_ite <;> go_prune <;> (try go_simp))))
                all_goals (refine bp_ct HO (t := 2) (u := 3) (ty := 33) rfl rfl rfl rfl ?_; exact res_err HO)
              | none =>
                rw [hc] at hp9
                dsimp only at hp9
                subst hp9
                have hr := HR.out
                rw [hc] at hr
                dsimp only at hr
                replace HR := Lib.hid hr
                clear hr HO2
                have HO2 := Lib.hid hO9
                clear hO9
                (try dsimp only)
                (repeat' (first | ((with_reducible refine zG ?_); first | refine oWx ?_ | (refine oWs ?_; clear HO; intro _ HO)) | ((go_big_may; first | (go_at_call 15; refine (check_any (Lib.hid (wrg_own (q := q5) (hd := hd5) HP hn1 hLb)) HTB (Lib.hid (fun _ _ _ h => tree_cells h)) hnF hnR hn1 hn2 hrl hpl (HG.out) 10 HO2).mono ?_; rintro e W9 ⟨hO9, hp9⟩)) <;> (try dsimp only)) | go_values | go_skip | go_guarded | go_step | go_upon | (go_ite <;> go_prune <;> (try go_simp))))
                cases hc : checkS (ownB t ⟨L5, arr5, q5, hd5⟩) (places t) with
                | some a =>
                  rw [hc] at hp9
                  obtain ⟨v, rfl, hv⟩ := hp9
                  have hr := HR.out
                  rw [hc] at hr
                  obtain ⟨bf, rfl, _⟩ := id hv
                  replace HO := err_aside HB2 (hO9.kept) HYB hv
                  clear hv
                  have hr2 := hr
                  subst hr2
                  (try dsimp only)
                  (repeat' (first | ((with_reducible refine zG ?_); first | refine oWx ?_ | (refine oWs ?_; clear HO; intro _ HO)) | go_values | go_skip | go_guarded | go_step | go_upon | (go_ite <;> go_prune <;> (try go_simp))))
                  all_goals (refine bp_ct HO (t := 2) (u := 3) (ty := 33) rfl rfl rfl rfl ?_; exact res_err HO)
                | none =>
                  rw [hc] at hp9
                  dsimp only at hp9
                  subst hp9
                  have hr := HR.out
                  rw [hc] at hr
                  dsimp only at hr
                  replace HR := Lib.hid hr
                  clear hr HO2
                  have HO2 := Lib.hid hO9
                  clear hO9
                  have hL5 : L5.length ≤ 1000000 := by omega
                  cases h256 : decide ((256 : Int) < (L5.length : Int))
                  · have h256n := of_decide_eq_false h256
                    have hr := HR.out
                    rw [h256, if_neg (by decide)] at hr
                    subst hr
                    clear HR h256 HO
                    have HO := HO2
                    (try dsimp only)
                    (repeat' (first | ((with_reducible refine zG ?_); first | refine oWx ?_ | (refine oWs ?_; clear HO; intro _ HO)) | ((with_reducible refine to_load ?_); (first | (refine oY1 HO rfl rfl ?_)); (try simp only [Act.put, pS])) | ((go_big_may; first | (go_at_call 25; refine (names_any (xt := []) (vL := .nilIface) HTB hnF hn1 (fun f hf => (hbF.out f hf).2.2) hL5 (Lib.hid (List.mem_cons_of_mem _ (List.mem_append_right _ List.mem_cons_self))) HO).mono ?_; rintro e W9 ⟨AG, cG, AH, cH, els, rfl, hels, hcG, hcH, hO9⟩; replace HO := names_aside HB2 HYB hO9; clear hO9)) <;> (try dsimp only)) | go_values | go_skip | go_guarded | go_step | go_upon | (go_ite <;> go_prune <;> (try go_simp))))
                    refine bp_ct HO (t := 2) (u := 3) (ty := 33) rfl rfl rfl rfl ?_
                    have e1 : (namesS t ⟨L5, arr5, q5, hd5⟩).globals.length = L5.length := flag_len _ _ _
                    have e2 : (namesS t ⟨L5, arr5, q5, hd5⟩).locals.length = nF := by rw [hnF.out]; exact locals_len _ _ _
                    dsimp only
                    rw [e1, e2]
                    exact names_end HO hels hcG hcH
                  · have h256p := of_decide_eq_true h256
                    have hr := HR.out
                    rw [h256, if_pos rfl] at hr
                    subst hr
                    clear HR h256 HO
                    have HO := HO2
                    (try dsimp only)
                    (repeat' (go_not_at_region 26; first | ((with_reducible refine zG ?_); first | refine oWx ?_ | (refine oWs ?_; clear HO; intro _ HO)) | ((with_reducible refine to_load ?_); (first | (refine oY1 HO rfl rfl ?_)); (try simp only [Act.put, pS])) | go_values | go_skip | go_guarded | go_step | go_upon | (go_ite <;> go_prune <;> (try go_simp))))
                    replace HO := Lib.hid (HB2.out.aside HO2.out.kept HYB.out)
                    (repeat' (first | ((with_reducible refine zG ?_); first | refine oWx ?_ | (refine oWs ?_; clear HO; intro _ HO)) | go_values | go_skip | go_guarded | go_step | go_upon | (go_ite <;> go_prune <;> (try go_simp))))
                    refine bp_ct HO (t := 2) (u := 3) (ty := 33) rfl rfl rfl rfl ?_
                    exact ⟨HO.out.kept.below, _, rfl, _, rfl, HO.out.base _ List.mem_cons_self, HO.out.box _ List.mem_cons_self⟩
end
end Go.Proofs.Ythipoccbeloceaa
