/- Several texts put together: PasB, PasJ, PasK, JoiA, JoiC, JoiB. -/
import Derived.Test.YtdiibenofbcfnaaGreatBu25
import Derived.Test.YtdiibenofbcfnaaGreatBu27
import Derived.Test.YtdiibenofbcfnaaGreatBu28
import Derived.Test.YtdiibenofbcfnaaGreatBu36
import Derived.Test.YtdiibenofbcfnaaGreatBu37
import Derived.Test.YtdiibenofbcfnaaGreatBu38
import Derived.Test.YtdiibenofbcfnaaGreatBu3
import Derived.Test.YtdiibenofbcfnaaGreatBu35
import Derived.Test.YtdiibenofbcfnaaGreatBu34
import Derived.Deep.Cut
import Derived.Lib.SlBytesConst
set_option linter.unusedSimpArgs false
set_option linter.unusedVariables false
namespace Go.Proofs.YtdiibenofbcfnaaGreat
open Go.RowKit
structure ParK (p : Par) (g : Nat) (ts : List TokF) (n : Nat) : Prop where
  ok : ParOK p g ts n
  stepped : FCS p.stepped g ts n
theorem fc_zero {K : FuncId} {args : Array Value} {α : Type} {f : PP α} {V : World → World → α → Value → Prop} {g : Nat} {ts : List TokF} : FC K args f V g ts 0 := by
  intro w a d m hn
  exact absurd m.hd (by omega)
theorem par_ok (g : Nat) (ts : List TokF) : ∀ n, ParK (par ts n) g ts n
  | 0 => ⟨⟨fc_zero, fc_zero, fc_zero, fc_zero, fc_zero⟩, fun a _ w d m hn => absurd m.hd (by omega)⟩
  | n + 1 => by
    have IH := par_ok g ts n
    have HA := padv_par ts n
    have deeper := pdeeper_any _ g ts n IH.ok
    have expr := pexpr_any _ g ts n IH.ok
    have list := plist_any _ g ts _ expr
    have subs := psubs_any _ g ts _ list
    have args := pargs_any _ g ts _ list
    have place := pplace_any _ g ts n subs IH.ok.atom IH.stepped
    have stepped := pstepped_any _ g ts _ place
    have other := pother_any _ g ts _ place list
    have atom := patom_any _ g ts _ args other
    have step := pstep_any _ g ts _ stepped atom
    have signed := psigned_any _ g ts _ deeper step
    have product := pproduct_any _ g ts _ signed
    have sum := psum_any _ g ts _ product
    have cat := pcat_any _ HA g ts _ sum place
    have comp := pcomp_any _ g ts _ cat
    have match' := pmatch_any _ g ts _ comp
    have isin := pisin_any _ g ts _ match'
    have and := pand_any _ g ts _ isin
    have or := por_any _ g ts _ and
    have cond := pcond_any _ g ts n IH.ok.cond or expr
    have print := pprint_any _ HA g ts _ list sum
    have simple := psimple_any _ g ts _ expr subs print
    have stmt := pstmt_any _ g ts n IH.ok.statement
    have asked := pasked_any _ g ts _ expr
    have below := pbelow_any _ g ts _ stmt
    have perhaps := pperhaps_any _ g ts _ simple
    have block := pblock_any _ HA g ts _ stmt
    have loop := ploop_any _ g ts _ expr below perhaps
    have statement := pstatement_any _ g ts _ block asked below loop simple
    exact ⟨⟨cond, expr, signed, atom, statement⟩, stepped⟩
theorem pexpr_top (g : Nat) (ts : List TokF) : FC 51 #[.pointer (some ⟨g, 0, none⟩)] (exprF ts (par ts 65)) VN g ts 65 := fun w a d m _ => pexpr_any _ g ts 65 (par_ok g ts 65).ok w a d m (by omega)
theorem pblock_top (g : Nat) (ts : List TokF) : FC 43 #[.pointer (some ⟨g, 0, none⟩)] (blockF ts (par ts 65)) VN g ts 65 := fun w a d m _ => pblock_any _ (padv_par ts 65) g ts 66 (pstmt_any _ g ts 65 (par_ok g ts 65).ok.statement) w a d m (by omega)
open Go.RowKit
def treeS (src : List Nat) : Except (Nat × Int) TreeT := match lexS src with
  | .error e => .error e
  | .ok ts => match parseT ts with
    | .ok t _ _ => .ok t
    | .err p k => .error (p, k)
def ParsePost (src : List Nat) (w : World) (e : Ending) (w' : World) : Prop :=
  Below w.heap.size w w' ∧ match treeS src with
    | .error (p, k) => ∃ v, e = .returned (.tuple #[.agg #[.slice none 0 0, .slice none 0 0], v]) ∧ FltV w' w.heap.size v p k
    | .ok t => ∃ (fe : List ElF) (re : List ElR) (A : Option Addr) (c : Nat) (B : Option Addr) (c' : Nat), t = ⟨fe.map (·.1), re.map (·.1)⟩ ∧ e = .returned (.tuple #[.agg #[.slice A fe.length c, .slice B re.length c'], .nilIface]) ∧ fe.length ≤ c ∧ re.length ≤ c' ∧ TreeAt w' (fun b => w.heap.size ≤ b ∧ b < w'.heap.size) A B fe re
section
variable {w0 w w1 W : World} {X : List Nat} {S : World → Prop} {bs : List Bx} {rs : List Rw} {F : List Cold} {K : Act → World → Prop} {act : Act} {P : Program} {o : Oper} {Q : Exit → Act → World → Prop} {T : Ending → World → Prop}
theorem wo_alloc1 (HO : Hid (Own w0 X S bs rs F w)) {t : TypeId} (ho : o.op = .alloc t) (hz : ∀ w, (zeroValue t).run P w = .ok .nilIface w) (h : ∀ W, Hid (Own w0 X S (⟨w.heap.size, t, [.nilIface]⟩ :: bs) rs F W) → K (act.put o.dst (.pointer (some ⟨w.heap.size, 0, none⟩))) W) : WOp P o act w K Q := by
  have := h _ (Lib.hid (HO.out.alloc t [.nilIface]))
  unfold WOp Oper.wp execOp
  simp only [ho, Instr.alloc, Sem.run_bind, hz w, Result.andThen_ok]
  simpa [go_sem, Oper.upon, newVar] using this
def Cold.tree (A B : Option Addr) (fe : List ElF) (re : List ElR) : Cold := ⟨fun w F => TreeAt w F A B fe re, fun _ _ _ _ hF h => h.st hF⟩
theorem Own.after {g : Nat} {t : TypeId} {cs : List Value} (h : Own w0 X S (⟨g, t, cs⟩ :: bs) rs F w1) (q : Kept [g] w1 W) : Own w0 X S bs rs F W := by
  have hg : w0.heap.size ≤ g := h.base _ List.mem_cons_self
  have hnd := h.nodup
  rw [hot_box, List.nodup_cons] at hnd
  refine ⟨h.kept.trans q (fun y hy => .inr (by rw [List.mem_singleton.1 hy]; exact hg)), h.loc, h.loc w1 W (fun b hb => q.block b (Nat.lt_of_lt_of_le hb h.kept.size) (by simp; omega)) q.size h.st, fun x hx => ?_, fun x hx => h.base x (List.mem_cons_of_mem _ hx), fun r hr => ?_, hnd.2, fun c hc => ?_⟩
  · have hb := h.box x (List.mem_cons_of_mem _ hx)
    refine (q.block x.b hb.lt (fun e => hnd.1 ?_)).trans hb
    rw [← List.mem_singleton.1 e]
    exact List.mem_append_left _ (List.mem_map_of_mem (f := (·.b)) hx)
  · have hr1 := h.row r hr
    rcases hr1.2 with h2 | ⟨k, cap, cur, e, hk, hh, h3⟩
    · exact ⟨hr1.1, .inl h2⟩
    · have hlt : k < w1.heap.size := by
        rcases Nat.lt_or_ge k w1.heap.size with h | h
        · exact h
        · rw [Array.getElem?_eq_none h] at hh; cases hh
      refine ⟨hr1.1, .inr ⟨k, cap, cur, e, hk, (q.block k hlt (fun e2 => hnd.1 ?_)).trans hh, h3⟩⟩
      rw [← List.mem_singleton.1 e2]
      exact List.mem_append_right _ (List.mem_filterMap.2 ⟨r, hr, by rw [e]; rfl⟩)
  · exact c.st w1 W _ _ (fun b hb => ⟨⟨hb.1, Nat.lt_of_lt_of_le hb.2.1 q.size, fun hm => hb.2.2 (by rw [hot_box]; exact List.mem_cons_of_mem _ hm)⟩, q.block b hb.2.1 (fun e => hb.2.2 (by rw [hot_box, List.mem_singleton.1 e]; exact List.mem_cons_self))⟩) (h.cold c hc)
theorem arm_all {KF : FuncId} {args : Array Value} {src : List Nat} {A : Option Addr} {c B : Nat} (HO : Hid (Own w0 X S bs rs F w)) (hB : B ≤ w0.heap.size) (hr : Hid (RB w0 B A src)) (hX : X = []) (hc : src.length ≤ c) (hlen : src.length ≤ 1000000) (hK : KF = 7) (hargs : args = #[.slice A src.length c])
    (hok : ∀ ts A' c' W, Hid (lexS src = .ok ts) → ts.length ≤ c' → Hid (Own w0 X S bs (⟨59, 6, .slice A' ts.length c', ts.length, ts.flatMap tokC⟩ :: rs) F W) → T (.returned (.tuple #[.slice A' ts.length c', .nilIface])) W)
    (herr : ∀ p k b W, Hid (lexS src = .error (p, k)) → Hid (Own w0 X S bs rs (Cold.flt (.iface 45 (.pointer (some ⟨b, 0, none⟩))) p k :: F) W) → T (.returned (.tuple #[.slice none 0 0, .iface 45 (.pointer (some ⟨b, 0, none⟩))])) W) : Calls Tryz.prog KF args w T := by
  subst hK hargs hX
  have hr2 : RB w B A src := hr.out.keep fun p hp => World.cell?_of_block (HO.out.kept.block p.block (by omega) (by simp))
  refine (all_r A c w B (Nat.le_trans hB HO.out.kept.size) hr2 hc hlen).mono fun e W hp => ?_
  obtain ⟨q, hp⟩ := hp
  cases hl : lexS src with
  | error pk =>
    obtain ⟨p, k⟩ := pk
    rw [hl] at hp
    obtain ⟨v, rfl, b, rfl, hb, hk⟩ := hp
    exact herr p k b W (Lib.hid hl) (Lib.hid ((HO.out.next q).addCold (Cold.flt (.iface 45 (.pointer (some ⟨b, 0, none⟩))) p k) w.heap.size HO.out.kept.size (fun b hb => (HO.out.hot_lt b hb).2) ⟨b, rfl, ⟨hb, hk.lt⟩, hk⟩))
  | ok ts =>
    rw [hl] at hp
    obtain ⟨A', c', rfl, hc', ho⟩ := hp
    refine hok ts A' c' W (Lib.hid hl) hc' (Lib.hid ((HO.out.next q).addRow ⟨59, 6, .slice A' ts.length c', ts.length, ts.flatMap tokC⟩ w.heap.size HO.out.kept.size ho (fun b hb hm => by have := (HO.out.hot_lt b hm).2; omega) (fun d hd => d.st w W _ _ (fun b hb => ⟨⟨⟨hb.1, Nat.lt_of_lt_of_le hb.2.1 q.size, hb.2.2⟩, hb.2.1⟩, q.block b hb.2.1⟩) (HO.out.cold d hd))))
theorem PS.new {g : Nat} {ts : List TokF} {A : Option Addr} {c : Nat} (HO : Hid (Own w0 X S (⟨g, 50, [.slice A ts.length c, .int .i64 0, .int .i64 0]⟩ :: bs) (⟨59, 6, .slice A ts.length c, ts.length, ts.flatMap tokC⟩ :: rs) F w)) (hrd : Hid (Reads w g 6 A ts.length (ts.flatMap tokC))) (hc : ts.length ≤ c) (h0 : 0 < ts.length) (hok : TsOk ts) : PS g ts 0 0 w :=
  ⟨⟨A, c, HO.out.box _ List.mem_cons_self, hrd.out, hc⟩, h0, by omega, hok⟩
theorem program_top (g : Nat) (ts : List TokF) : FC 9 #[.pointer (some ⟨g, 0, none⟩)] (programF ts (par ts 65)) VTree g ts 65 :=
  pprogram_any _ (padv_par ts 65) g ts 65 (pfunction_any _ g ts 65 (pblock_top g ts)) (prule_any _ g ts 65 (pblock_top g ts) (fun at' => ppattern_any _ g ts 65 at' (pexpr_top g ts) (pblock_top g ts)))
end
theorem e_beginH {P : Program} {ops : Array Oper} {Q : Exit → Act → World → Prop} {id : Nat} {a : Act} {w0 w : World} {X : List Nat} {St : World → Prop} {x : Bx} {bs : List Bx} {rs : List Rw} {F : List Cold} (HO : Hid (Own w0 X St (x :: bs) rs F w)) (hm : P.follows .mixedOrders = true)
    (h : ∀ W, Hid (Own w0 X St (x :: bs) rs F W) → wpAnyE P .any ops Q (OwnM w0 X x) [] ops.size (Array.replicate ops.size false) a W) : (Code.region id ops true).wp P Q a w := e_beginM x HO hm h
theorem leaves_tmps {P : Program} {fn : Func} {t t' : Array Value} {R : Ending → World → Prop} (h : results fn t = results fn t') : ∀ (ds : List Deferred) (u : FrameMode) (w : World), Leaves P fn t R ds u w → Leaves P fn t' R ds u w
  | [], .returning, w, hl => by unfold Leaves at hl ⊢; rw [← h]; exact hl
  | [], .panicking c, w, hl => hl
  | [], .run, _, hl => hl
  | d :: ds, u, w, ⟨h1, fv, cap, f, args, h2, h3, hc⟩ => ⟨h1, fv, cap, f, args, h2, h3, hc.mono (fun e u' w' hx => by
      cases e with
      | returned v => exact leaves_tmps h ds _ _ hx
      | panicked chain => exact leaves_tmps h ds _ _ hx
      | outgrown => exact hx)⟩
theorem res_put (t : Array Value) (d : Nat) (v : Value) (h2 : d ≠ 2) (h3 : d ≠ 3) : results Tryz.f5 (t.setIfInBounds d v) = results Tryz.f5 t := by
  unfold results
  rw [Tryz.results5]
  simp [Array.getElem?_setIfInBounds, h2, h3]
theorem res_run {w0 w : World} {X : List Nat} {St : World → Prop} {bs : List Bx} {rs : List Rw} {F : List Cold} (HO : Hid (Own w0 X St bs rs F w)) {t : Array Value} {b2 b3 : Nat} {u1 u2 v : Value} (h2 : t[2]?.getD undef = .pointer (some ⟨b2, 0, none⟩)) (h3 : t[3]?.getD undef = .pointer (some ⟨b3, 0, none⟩)) (m2 : (⟨b2, 27, [u1, u2]⟩ : Bx) ∈ bs) (m3 : (⟨b3, 29, [v]⟩ : Bx) ∈ bs) : (results Tryz.f5 t).run Tryz.prog w = .ok (.tuple #[.agg #[u1, u2], v]) w := by
  have hl : (loadCells ⟨b2, 0, none⟩ 2).run Tryz.prog w = .ok #[u1, u2] w :=
    run_loadCells_list (P := Tryz.prog) w ⟨b2, 0, none⟩ [u1, u2] (fun j v hv => by rw [Addr.add_mid]; exact HO.out.cells m2 0 j v (by simpa using hv))
  have hc : w.cell? ⟨b3, 0, none⟩ = some v := HO.out.cells m3 0 0 v rfl
  have hc0 : w.cell? ⟨b2, 0, none⟩ = some u1 := HO.out.cells m2 0 0 u1 rfl
  have hc1 : w.cell? ⟨b2, 1, none⟩ = some u2 := HO.out.cells m2 0 1 u2 rfl
  have hd := Tryz.isAgg27
  have hs := Tryz.sizeOf27
  have hd3 := Tryz.isAgg29
  simp [results, Tryz.results5, h2, h3, asAddr, loadVar, Sem.run_bind, hd, hs, hd3, hc, hc0, hc1, go_sem]
theorem reads_own {w : World} {B g : Nat} {e : TypeId} {sz n c : Nat} {A : Option Addr} {xs : List Value} (h : w.ownsRow B e sz (.slice A n c) n xs) (hlt : ∀ k, (Value.slice A n c).ownBlock = some k → k < g) : Reads w g sz A n xs := by
  obtain ⟨h1, h2⟩ := Reads.of_own h
  refine ⟨h1, fun hn => ?_⟩
  obtain ⟨ad, e, hb, hc⟩ := h2 hn
  subst e
  exact ⟨ad, rfl, hlt _ rfl, hc⟩
set_option maxRecDepth 100000 in
set_option maxHeartbeats 3200000 in
theorem parse_r {src : List Nat} (A : Option Addr) (c : Nat) (w : World) (B : Nat) (hB : B ≤ w.heap.size) (hr : RB w B A src) (hc : src.length ≤ c) (hlen : src.length ≤ 1000000) (hb : ∀ x ∈ src, x < 256) :
    Calls Tryz.prog 5 #[.slice A src.length c] w (ParsePost src w) := by
  obtain ⟨R, hR⟩ : ∃ R, treeS src = R := ⟨_, rfl⟩
  unfold ParsePost
  rw [hR]
  have HR := Lib.hid hR
  have HRB := Lib.hid hr
  have HB := Lib.hid hb
  have HO : Hid (Own w [] (fun _ => True) [] [] [] w) := Lib.hid (Own.init trivial (fun _ _ _ _ _ => trivial))
  have hmf : ∀ (fn : Fn) (first cap : Array Value) (w : World), (Instr.makeFunc fn first cap).run Tryz.prog w = .ok (.func fn first cap) w := fun _ _ _ _ => rfl
  clear hR hr hb
  go_enter_defers Tryz.func5, Tryz.ntmps5
  (repeat' (go_not_at_region 5; first | (with_reducible first | refine oXt ?_ | refine oXb ?_) | ((with_reducible refine ib_miss ?_ ?_); exact rfl) | ((first | ((with_reducible refine to_load ?_); first | refine oL1 HO rfl rfl ?_ | refine oL2 HO rfl rfl ?_ | refine oL3 HO rfl rfl ?_) | ((first | with_reducible refine oAl HO ?_ | ((with_reducible refine to_box ?_); refine wo_box HO rfl rfl ?_)); clear HO; intro _ HO)); (try simp only [Act.put, pS0, pS1, pS2])) | ((first | ((with_reducible refine to_store ?_); first | refine oT1 HO rfl rfl rfl ?_ | refine oT2 HO rfl rfl rfl (by rfl) ?_ | refine oT3 HO rfl rfl rfl rfl ?_) | with_reducible refine ab_drew HO ?_); clear HO; intro _ HO) | ((with_reducible refine to_store ?_); first | (refine wo_storeR HO rfl rfl rfl rfl (by repeat (first | exact mH | apply mT)) (by repeat (first | exact cH | apply cT)) Tryz.sizeOf39 (by simp [Value.oneCell']) ?_; clear HO; intro _ HO) | (refine wo_storeF HO rfl rfl rfl rfl (by repeat (first | exact mH | apply mT)) (by repeat (first | exact cH | apply cT)) Tryz.sizeOf39 (by simp [Value.oneCell']) ?_; clear HO; intro _ HO)) | ((with_reducible refine to_alloc ?_); (refine wo_alloc1 HO rfl Tryz.zeroValue29 ?_; clear HO; intro _ HO; (try simp only [Act.put, pS0, pS1, pS2]))) | ((go_big_may; first | (go_at_call 7; refine arm_all HO hB HRB rfl hc hlen rfl rfl ?_ ?_; (clear HO; intro ts A' c' W HE hc' HO); rotate_left; (clear HO; intro p k b W HE HO); rotate_left) | fail) <;> (try dsimp only)) | go_values | go_skip | go_guarded | go_step | go_upon | (go_ite <;> go_prune <;> (try go_simp))))
  · have hlt := (HO.out.row _ List.mem_cons_self).lt
    obtain ⟨vs, e0, hts, he0, he1, he2, hvl, hvs⟩ := lexS_ok HB.out HE.out
    have hok : TsOk ts := by rw [hts]; exact TsOk.of he0 he1 hvl hvs
    have h0 : 0 < ts.length := by rw [hts]; simp
    have HLT := Lib.hid hlt
    have HOK := Lib.hid hok
    clear hlt hok hts he0 he1 he2 hvl hvs
    (repeat' (first | (with_reducible first | refine oXt ?_ | refine oXb ?_) | ((with_reducible refine ib_miss ?_ ?_); exact rfl) | ((first | ((with_reducible refine to_load ?_); first | refine oL1 HO rfl rfl ?_ | refine oL2 HO rfl rfl ?_ | refine oL3 HO rfl rfl ?_) | ((first | with_reducible refine oAl HO ?_ | ((with_reducible refine to_box ?_); refine wo_box HO rfl rfl ?_)); clear HO; intro _ HO)); (try simp only [Act.put, pS0, pS1, pS2])) | ((first | ((with_reducible refine to_store ?_); first | refine oT1 HO rfl rfl rfl ?_ | refine oT2 HO rfl rfl rfl (by rfl) ?_ | refine oT3 HO rfl rfl rfl rfl ?_) | with_reducible refine ab_drew HO ?_); clear HO; intro _ HO) | ((with_reducible refine to_store ?_); first | (refine wo_storeR HO rfl rfl rfl rfl (by repeat (first | exact mH | apply mT)) (by repeat (first | exact cH | apply cT)) Tryz.sizeOf39 (by simp [Value.oneCell']) ?_; clear HO; intro _ HO) | (refine wo_storeF HO rfl rfl rfl rfl (by repeat (first | exact mH | apply mT)) (by repeat (first | exact cH | apply cT)) Tryz.sizeOf39 (by simp [Value.oneCell']) ?_; clear HO; intro _ HO)) | go_values | go_skip | go_guarded | go_step | go_upon | (go_ite <;> go_prune <;> (try go_simp))))
    have hps := PS.new HO (Lib.hid (reads_own (HO.out.row _ List.mem_cons_self) (fun k hk => (HLT.out k hk).2))) hc' h0 HOK.out
    refine ((program_top _ ts) _ 0 0 hps (by decide)).mono ?_
    intro e W2 hp
    unfold PPost at hp
    have hR := HR.out
    unfold treeS at hR
    rw [HE.out] at hR
    dsimp only at hR
    unfold parseT at hR
    cases hpr : programF ts (par ts 65) 0 0 with
    | ok t a1 d1 =>
      rw [hpr] at hp hR
      dsimp only at hp hR
      obtain ⟨v, rfl, ⟨fe, re, A1, c1, B1, c2, rfl, rfl, hc1, hc2, htr⟩, _, hk, _, _⟩ := hp
      replace HO := Lib.hid ((HO.out.after hk).addCold (Cold.tree A1 B1 fe re) _ HO.out.kept.size (fun b hb => (HO.out.hot_lt b (by rw [hot_box]; exact List.mem_cons_of_mem _ hb)).2) htr)
      have HR2 := Lib.hid hR
      clear hR hk hps htr hpr HR
      dsimp only
      (repeat' (first | (with_reducible first | refine oXt ?_ | refine oXb ?_) | ((with_reducible refine ib_miss ?_ ?_); exact rfl) | ((first | ((with_reducible refine to_load ?_); first | refine oL1 HO rfl rfl ?_ | refine oL2 HO rfl rfl ?_ | refine oL3 HO rfl rfl ?_) | ((first | with_reducible refine oAl HO ?_ | ((with_reducible refine to_box ?_); refine wo_box HO rfl rfl ?_)); clear HO; intro _ HO)); (try simp only [Act.put, pS0, pS1, pS2])) | ((first | ((with_reducible refine to_store ?_); first | refine oT1 HO rfl rfl rfl ?_ | refine oT2 HO rfl rfl rfl (by rfl) ?_ | refine oT3 HO rfl rfl rfl rfl ?_) | with_reducible refine ab_drew HO ?_); clear HO; intro _ HO) | ((with_reducible refine to_store ?_); first | (refine wo_storeR HO rfl rfl rfl rfl (by repeat (first | exact mH | apply mT)) (by repeat (first | exact cH | apply cT)) Tryz.sizeOf39 (by simp [Value.oneCell']) ?_; clear HO; intro _ HO) | (refine wo_storeF HO rfl rfl rfl rfl (by repeat (first | exact mH | apply mT)) (by repeat (first | exact cH | apply cT)) Tryz.sizeOf39 (by simp [Value.oneCell']) ?_; clear HO; intro _ HO)) | go_values | go_skip | go_guarded | go_step | go_upon | (go_ite <;> go_prune <;> (try go_simp))))
      refine leaves_cons (f := 8) (by simp) rfl ?_
      refine (catch_i _ _ _).mono ?_
      rintro e u' w'' ⟨rfl, rfl, rfl⟩
      refine ⟨_, res_run HO rfl rfl (by repeat (first | exact mH | apply mT)) (by repeat (first | exact mH | apply mT)), ?_⟩
      rw [← HR2.out]
      exact ⟨HO.out.kept.below, fe, re, A1, c1, B1, c2, rfl, rfl, hc1, hc2, TreeAt.st (fun b hb => ⟨⟨hb.1, hb.2.1⟩, rfl⟩) (HO.out.cold (Cold.tree A1 B1 fe re) (by repeat (first | exact mH | apply mT)))⟩
    | err pl k =>
      rw [hpr] at hp hR
      dsimp only at hp hR
      obtain ⟨v, rfl, ⟨b, rfl, hbb, hblk⟩, hk⟩ := hp
      replace HO := Lib.hid ((HO.out.after hk).addCold (Cold.flt (.iface 45 (.pointer (some ⟨b, 0, none⟩))) pl k) _ HO.out.kept.size (fun b hb => (HO.out.hot_lt b (by rw [hot_box]; exact List.mem_cons_of_mem _ hb)).2) ⟨b, rfl, ⟨hbb, hblk.lt⟩, hblk⟩)
      have HR2 := Lib.hid hR
      clear hR hk hps hpr HR hbb hblk
      dsimp only
      (repeat' (first | (with_reducible first | refine oXt ?_ | refine oXb ?_) | ((with_reducible refine ib_miss ?_ ?_); exact rfl) | ((first | ((with_reducible refine to_load ?_); first | refine oL1 HO rfl rfl ?_ | refine oL2 HO rfl rfl ?_ | refine oL3 HO rfl rfl ?_) | ((first | with_reducible refine oAl HO ?_ | ((with_reducible refine to_box ?_); refine wo_box HO rfl rfl ?_)); clear HO; intro _ HO)); (try simp only [Act.put, pS0, pS1, pS2])) | ((first | ((with_reducible refine to_store ?_); first | refine oT1 HO rfl rfl rfl ?_ | refine oT2 HO rfl rfl rfl (by rfl) ?_ | refine oT3 HO rfl rfl rfl rfl ?_) | with_reducible refine ab_drew HO ?_); clear HO; intro _ HO) | ((with_reducible refine to_store ?_); first | (refine wo_storeR HO rfl rfl rfl rfl (by repeat (first | exact mH | apply mT)) (by repeat (first | exact cH | apply cT)) Tryz.sizeOf39 (by simp [Value.oneCell']) ?_; clear HO; intro _ HO) | (refine wo_storeF HO rfl rfl rfl rfl (by repeat (first | exact mH | apply mT)) (by repeat (first | exact cH | apply cT)) Tryz.sizeOf39 (by simp [Value.oneCell']) ?_; clear HO; intro _ HO)) | go_values | go_skip | go_guarded | go_step | go_upon | (go_ite <;> go_prune <;> (try go_simp))))
      replace HO := Lib.hid (HO.out.sub (List.Sublist.refl _) (List.nil_sublist _) (fun c hc => hc))
      refine leaves_cons (f := 8) (by simp) rfl ?_
      refine (catch_p HO).mono ?_
      rintro e u' w'' ⟨rfl, rfl, hO⟩
      refine ⟨_, res_run (Lib.hid hO) rfl rfl (by repeat (first | exact mH | apply mT)) (by repeat (first | exact mH | apply mT)), ?_⟩
      rw [← HR2.out]
      exact ⟨hO.kept.below, _, rfl, hO.flt (by repeat (first | exact mH | apply mT))⟩
  · refine e_beginH HO (by kernel_rfl) ?_
    clear HO
    intro _ HO
    refine e_pure (i := 0) (v := ?v0) rfl (by kernel_rfl) (by kernel_rfl) (by kernel_rfl) (by kernel_rfl) (fun _ a _ h => leaves_tmps (res_put a.tmps 13 _ (by decide) (by decide)) _ _ _ h) (by rfl) (OwnM.of HO (by repeat (first | exact mH | apply mT))) ?y0 ?r0
    case y0 => (intro wS; go_simp; (try with_reducible rfl))
    (try simp only [Act.put, pS0, pS1, pS2])
    refine e_loadM (i := 1) HO (by repeat (first | exact mH | apply mT)) rfl (by kernel_rfl) (by kernel_rfl) (by kernel_rfl) (by kernel_rfl) (by kernel_rfl) rfl rfl Tryz.isAgg29 (by rfl) (fun _ a _ h => leaves_tmps (res_put a.tmps 14 _ (by decide) (by decide)) _ _ _ h) (by rfl) ?_
    (try simp only [Act.put, pS0, pS1, pS2])
    refine e_one (i := 2) (by kernel_rfl) rfl (by kernel_rfl) (by rfl) (fun K hK => ?_)
    (with_reducible refine to_store ?_)
    (refine wo_store HO rfl rfl rfl rfl (by repeat (first | exact cH | apply cT)) Tryz.sizeOf27 (by rfl) (by rfl) (by simp [Value.oneCell']) ?_; clear HO; intro _ HO)
    refine hK.out _ _ (OwnM.of HO (by repeat (first | exact mH | apply mT))) ?_
    clear hK K
    (try simp only [Act.put, pS0, pS1, pS2])
    refine e_one (i := 3) (by kernel_rfl) rfl (by kernel_rfl) (by rfl) (fun K hK => ?_)
    (with_reducible refine to_store ?_)
    (refine wo_store1u HO rfl rfl rfl (by rfl) (by repeat (first | exact mH | apply mT)) (by (try simp only [List.set_cons_zero, List.set_cons_succ]); rfl) (by repeat (first | exact cH | apply cT)) Tryz.sizeOf29 (by simp) (by rfl) ?_; clear HO; intro _ HO)
    refine hK.out _ _ (OwnM.of HO (by repeat (first | exact mH | apply mT))) ?_
    clear hK K
    (try simp only [Act.put, pS0, pS1, pS2])
    refine ⟨(by kernel_rfl), ?_⟩
    (repeat' (first | (with_reducible first | refine oXt ?_ | refine oXb ?_) | ((with_reducible refine ib_miss ?_ ?_); exact rfl) | ((first | ((with_reducible refine to_load ?_); first | refine oL1 HO rfl rfl ?_ | refine oL2 HO rfl rfl ?_ | refine oL3 HO rfl rfl ?_) | ((first | with_reducible refine oAl HO ?_ | ((with_reducible refine to_box ?_); refine wo_box HO rfl rfl ?_)); clear HO; intro _ HO)); (try simp only [Act.put, pS0, pS1, pS2])) | ((first | ((with_reducible refine to_store ?_); first | refine oT1 HO rfl rfl rfl ?_ | refine oT2 HO rfl rfl rfl (by rfl) ?_ | refine oT3 HO rfl rfl rfl rfl ?_) | with_reducible refine ab_drew HO ?_); clear HO; intro _ HO) | ((with_reducible refine to_store ?_); first | (refine wo_storeR HO rfl rfl rfl rfl (by repeat (first | exact mH | apply mT)) (by repeat (first | exact cH | apply cT)) Tryz.sizeOf39 (by simp [Value.oneCell']) ?_; clear HO; intro _ HO) | (refine wo_storeF HO rfl rfl rfl rfl (by repeat (first | exact mH | apply mT)) (by repeat (first | exact cH | apply cT)) Tryz.sizeOf39 (by simp [Value.oneCell']) ?_; clear HO; intro _ HO)) | go_values | go_skip | go_guarded | go_step | go_upon | (go_ite <;> go_prune <;> (try go_simp))))
    have hR := HR.out
    unfold treeS at hR
    rw [HE.out] at hR
    dsimp only at hR
    subst hR
    refine ⟨_, res_run HO rfl rfl (by repeat (first | exact mH | apply mT)) (by repeat (first | exact mH | apply mT)), ?_⟩
    exact ⟨HO.out.kept.below, _, rfl, HO.out.flt (by repeat (first | exact mH | apply mT))⟩
open Go.RowKit
def src1 : List Nat := [36, 49, 32, 62, 32, 50, 32, 123, 32, 112, 114, 105, 110, 116, 32, 36, 50, 32, 125]
def src2 : List Nat := [123, 32, 97, 32, 61, 32, 98, 32, 99, 32, 43, 32, 49, 32, 125]
def rule1 : RuleT := ⟨6, 0, [.mk 13 0 [62] 0 0 [.mk 6 0 [] 0 0 [.mk 1 1 [] 1000000 0 []], .mk 1 5 [] 2000000 0 []]], .mk 41 7 [] 0 0 [.mk 53 9 [112, 114, 105, 110, 116] 0 0 [.mk 6 15 [] 0 0 [.mk 1 16 [] 2000000 0 []]]], false⟩
def asg2 : NodeT := .mk 7 2 [61] 0 0 [.mk 4 2 [97] 0 0 [], .mk 14 6 [] 0 0 [.mk 4 6 [98] 0 0 [], .mk 15 8 [43] 0 0 [.mk 4 8 [99] 0 0 [], .mk 1 12 [] 1000000 0 []]]]
def rule2 : RuleT := ⟨5, 0, [], .mk 41 0 [] 0 0 [.mk 54 2 [] 0 0 [asg2]], false⟩
theorem tree1 : treeS src1 = .ok ⟨[], [rule1]⟩ := by kernel_rfl
theorem tree2 : treeS src2 = .ok ⟨[], [rule2]⟩ := by kernel_rfl
def deepL (k : Nat) (sign : Bool) : List Nat := [123, 32, 120, 32, 61, 32] ++ List.replicate k (if sign then 33 else 40) ++ [49] ++ (if sign then [] else List.replicate k 41) ++ [32, 125]
def deepOK (k : Nat) (sign : Bool) : Bool := match treeS (deepL k sign) with
  | .ok t => decide (k ≤ 61) && t.rules.length == 1
  | .error (_, e) => decide (61 < k) && e == 6
theorem deep_0 : ((List.range' 0 4).all fun k => deepOK k true && deepOK k false) = true := by kernel_rfl
theorem deep_1 : ((List.range' 4 4).all fun k => deepOK k true && deepOK k false) = true := by kernel_rfl
theorem deep_2 : ((List.range' 8 4).all fun k => deepOK k true && deepOK k false) = true := by kernel_rfl
theorem deep_3 : ((List.range' 12 4).all fun k => deepOK k true && deepOK k false) = true := by kernel_rfl
theorem deep_4 : ((List.range' 16 4).all fun k => deepOK k true && deepOK k false) = true := by kernel_rfl
theorem deep_5 : ((List.range' 20 4).all fun k => deepOK k true && deepOK k false) = true := by kernel_rfl
theorem deep_6 : ((List.range' 24 4).all fun k => deepOK k true && deepOK k false) = true := by kernel_rfl
theorem deep_7 : ((List.range' 28 4).all fun k => deepOK k true && deepOK k false) = true := by kernel_rfl
theorem deep_8 : ((List.range' 32 4).all fun k => deepOK k true && deepOK k false) = true := by kernel_rfl
theorem deep_9 : ((List.range' 36 4).all fun k => deepOK k true && deepOK k false) = true := by kernel_rfl
theorem deep_10 : ((List.range' 40 4).all fun k => deepOK k true && deepOK k false) = true := by kernel_rfl
theorem deep_11 : ((List.range' 44 4).all fun k => deepOK k true && deepOK k false) = true := by kernel_rfl
theorem deep_12 : ((List.range' 48 4).all fun k => deepOK k true && deepOK k false) = true := by kernel_rfl
theorem deep_13 : ((List.range' 52 4).all fun k => deepOK k true && deepOK k false) = true := by kernel_rfl
theorem deep_14 : ((List.range' 56 4).all fun k => deepOK k true && deepOK k false) = true := by kernel_rfl
theorem deep_15 : ((List.range' 60 4).all fun k => deepOK k true && deepOK k false) = true := by kernel_rfl
theorem deep_16 : ((List.range' 64 4).all fun k => deepOK k true && deepOK k false) = true := by kernel_rfl
theorem deep_17 : ((List.range' 68 4).all fun k => deepOK k true && deepOK k false) = true := by kernel_rfl
theorem deep_18 : ((List.range' 72 4).all fun k => deepOK k true && deepOK k false) = true := by kernel_rfl
theorem deep_19 : ((List.range' 76 4).all fun k => deepOK k true && deepOK k false) = true := by kernel_rfl
theorem deep_all : ∀ k, k < 80 → ∀ sign, deepOK k sign = true := by
  intro k hk sign
  have h : ∀ a, ((List.range' a 4).all fun k => deepOK k true && deepOK k false) = true → a ≤ k → k < a + 4 → deepOK k sign = true := fun a ha h1 h2 => by
    have := List.all_eq_true.1 ha k (List.mem_range'_1.2 ⟨h1, h2⟩)
    rw [Bool.and_eq_true] at this
    cases sign
    · exact this.2
    · exact this.1
  rcases Nat.lt_or_ge k 4 with h0 | h0
  · exact h _ deep_0 (by omega) (by omega)
  rcases Nat.lt_or_ge k 8 with h1 | h1
  · exact h _ deep_1 (by omega) (by omega)
  rcases Nat.lt_or_ge k 12 with h2 | h2
  · exact h _ deep_2 (by omega) (by omega)
  rcases Nat.lt_or_ge k 16 with h3 | h3
  · exact h _ deep_3 (by omega) (by omega)
  rcases Nat.lt_or_ge k 20 with h4 | h4
  · exact h _ deep_4 (by omega) (by omega)
  rcases Nat.lt_or_ge k 24 with h5 | h5
  · exact h _ deep_5 (by omega) (by omega)
  rcases Nat.lt_or_ge k 28 with h6 | h6
  · exact h _ deep_6 (by omega) (by omega)
  rcases Nat.lt_or_ge k 32 with h7 | h7
  · exact h _ deep_7 (by omega) (by omega)
  rcases Nat.lt_or_ge k 36 with h8 | h8
  · exact h _ deep_8 (by omega) (by omega)
  rcases Nat.lt_or_ge k 40 with h9 | h9
  · exact h _ deep_9 (by omega) (by omega)
  rcases Nat.lt_or_ge k 44 with h10 | h10
  · exact h _ deep_10 (by omega) (by omega)
  rcases Nat.lt_or_ge k 48 with h11 | h11
  · exact h _ deep_11 (by omega) (by omega)
  rcases Nat.lt_or_ge k 52 with h12 | h12
  · exact h _ deep_12 (by omega) (by omega)
  rcases Nat.lt_or_ge k 56 with h13 | h13
  · exact h _ deep_13 (by omega) (by omega)
  rcases Nat.lt_or_ge k 60 with h14 | h14
  · exact h _ deep_14 (by omega) (by omega)
  rcases Nat.lt_or_ge k 64 with h15 | h15
  · exact h _ deep_15 (by omega) (by omega)
  rcases Nat.lt_or_ge k 68 with h16 | h16
  · exact h _ deep_16 (by omega) (by omega)
  rcases Nat.lt_or_ge k 72 with h17 | h17
  · exact h _ deep_17 (by omega) (by omega)
  rcases Nat.lt_or_ge k 76 with h18 | h18
  · exact h _ deep_18 (by omega) (by omega)
  rcases Nat.lt_or_ge k 80 with h19 | h19
  · exact h _ deep_19 (by omega) (by omega)
  omega
open Go.RowKit
def Cold.at (b o : Nat) (cs : List Value) : Cold := ⟨fun w F => F b ∧ w.rangeAt b o cs, fun w w' F F' hF h => ⟨(hF b h.1).1, fun i v hv => (World.cell?_of_block (hF b h.1).2).trans (h.2 i v hv)⟩⟩
class Ca (F : List Cold) (b k : Nat) (v : outParam Value) : Prop where
  m : ∃ o i cs, Cold.at b o cs ∈ F ∧ k = o + i ∧ cs[i]? = some v
class Cb (F : List Cold) (b k n : Nat) (s : outParam (List Value)) : Prop where
  m : ∃ o i cs, Cold.at b o cs ∈ F ∧ k = o + i ∧ (cs.drop i).take n = s ∧ s.length = n
section
variable {F : List Cold} {c : Cold} {b o i k n : Nat} {v : Value} {cs s : List Value}
instance (priority := low) [h : Ca F b k v] : Ca (c :: F) b k v := ⟨(by obtain ⟨o, i, cs, m, e⟩ := h.m; exact ⟨o, i, cs, .tail _ m, e⟩)⟩
instance [g : Gt cs i v] : Ca (Cold.at b o cs :: F) b (o + i) v := ⟨⟨o, i, cs, .head _, rfl, g.g⟩⟩
instance : Ca (Cold.at b o (v :: cs) :: F) b o v := ⟨⟨o, 0, v :: cs, .head _, rfl, rfl⟩⟩
instance [g : Gt cs k v] : Ca (Cold.at b 0 cs :: F) b k v := ⟨⟨0, k, cs, .head _, (by omega), g.g⟩⟩
instance (priority := low) [h : Cb F b k n s] : Cb (c :: F) b k n s := ⟨(by obtain ⟨o, i, cs, m, e⟩ := h.m; exact ⟨o, i, cs, .tail _ m, e⟩)⟩
instance [g : Sb cs i n s] : Cb (Cold.at b o cs :: F) b (o + i) n s := ⟨⟨o, i, cs, .head _, rfl, g.t, g.n⟩⟩
instance [g : Tk cs n s] : Cb (Cold.at b o cs :: F) b o n s := ⟨⟨o, 0, cs, .head _, rfl, g.t, g.n⟩⟩
instance [g : Sb cs k n s] : Cb (Cold.at b 0 cs :: F) b k n s := ⟨⟨0, k, cs, .head _, (by omega), g.t, g.n⟩⟩
end
section
variable {o : Oper} {a : Act} {w0 w : World} {X : List Nat} {S : World → Prop} {bs : List Bx} {rs : List Rw} {F : List Cold} {K : Act → World → Prop} {Q : Exit → Act → World → Prop} {T : Ending → World → Prop}
theorem oC1 (HO : Hid (Own w0 X S bs rs F w)) {ty : TypeId} {x : Operand} (ho : o.op = .load ty x) {b k : Nat} (hx : a.eval x = .pointer (some ⟨b, k, none⟩)) {v : Value} [T : T1 ty] [m : Ca F b k v] (h : K (a.put o.dst v) w) : WOp Tryz.prog o a w K Q := by
  obtain ⟨o', i, cs, hm, rfl, hv⟩ := m.m
  have hl : w.cell? ⟨b, o' + i, none⟩ = some v := (HO.out.cold _ hm).2 i v hv
  have hd := T.a
  unfold WOp Oper.wp execOp
  simp only [ho, hx, Instr.loadAt, Instr.sureAddr, Sem.run_bind, Sem.run_pure, Result.andThen_ok, loadVar, hd w, Bool.false_eq_true, if_false, run_load, hl]
  exact h
theorem oC2 (HO : Hid (Own w0 X S bs rs F w)) {ty : TypeId} {x : Operand} (ho : o.op = .load ty x) {b k : Nat} (hx : a.eval x = .pointer (some ⟨b, k, none⟩)) {n : Nat} {s : List Value} [T : TN ty n] [m : Cb F b k n s] (h : K (a.put o.dst (.agg s.toArray)) w) : WOp Tryz.prog o a w K Q := by
  obtain ⟨o', i, cs, hm, rfl, hv, hn⟩ := m.m
  have hl : (loadCells ⟨b, o' + i, none⟩ n).run Tryz.prog w = .ok s.toArray w := by
    rw [← hn]
    refine run_loadCells_list (P := Tryz.prog) w ⟨b, o' + i, none⟩ s (fun j v hs => ?_)
    rw [Addr.add_mid, Nat.add_assoc]
    refine (HO.out.cold _ hm).2 (i + j) v ?_
    rw [← hv, List.getElem?_take] at hs
    split at hs
    · rw [List.getElem?_drop] at hs; exact hs
    · cases hs
  have hd := T.a
  have hz := T.s
  unfold WOp Oper.wp execOp
  simp only [ho, hx, Instr.loadAt, Instr.sureAddr, Sem.run_bind, Sem.run_pure, Result.andThen_ok, loadVar, hd w, if_true, hz w, hl]
  exact h
theorem arm_parse {KF : FuncId} {args : Array Value} {src : List Nat} {A : Option Addr} {c : Nat} (HO : Hid (Own w0 [] S bs rs F w)) (hr : Hid (RB w w.heap.size A src)) (hc : src.length ≤ c) (hlen : src.length ≤ 1000000) (hK : KF = 5) (hargs : args = #[.slice A src.length c])
    (herr : ∀ p k b W, Hid (treeS src = .error (p, k)) → Hid (Own w0 [] S bs rs (Cold.flt (.iface 45 (.pointer (some ⟨b, 0, none⟩))) p k :: F) W) → T (.returned (.tuple #[.agg #[.slice none 0 0, .slice none 0 0], .iface 45 (.pointer (some ⟨b, 0, none⟩))])) W)
    (hok : ∀ fe re A' c1 B' c2 W, Hid (treeS src = .ok ⟨fe.map (·.1), re.map (·.1)⟩) → Hid (fe.length ≤ c1 ∧ re.length ≤ c2) → Hid (Own w0 [] S bs rs (Cold.tree A' B' fe re :: F) W) → T (.returned (.tuple #[.agg #[.slice A' fe.length c1, .slice B' re.length c2], .nilIface])) W) : Calls Tryz.prog KF args w T := by
  subst hK hargs
  refine (parse_r A c w w.heap.size (Nat.le_refl _) hr.out hc hlen hr.out.1).mono fun e W hp => ?_
  obtain ⟨q, hp⟩ := hp
  cases hl : treeS src with
  | error pk =>
    obtain ⟨p, k⟩ := pk
    rw [hl] at hp
    obtain ⟨v, rfl, b, rfl, hb, hk⟩ := hp
    exact herr p k b W (Lib.hid hl) (Lib.hid ((HO.out.next q).addCold (Cold.flt (.iface 45 (.pointer (some ⟨b, 0, none⟩))) p k) w.heap.size HO.out.kept.size (fun b hb => (HO.out.hot_lt b hb).2) ⟨b, rfl, ⟨hb, hk.lt⟩, hk⟩))
  | ok t =>
    rw [hl] at hp
    obtain ⟨fe, re, A', c1, B', c2, rfl, rfl, h1, h2, ht⟩ := hp
    exact hok fe re A' c1 B' c2 W (Lib.hid hl) (Lib.hid ⟨h1, h2⟩) (Lib.hid ((HO.out.next q).addCold (Cold.tree A' B' fe re) w.heap.size HO.out.kept.size (fun b hb => (HO.out.hot_lt b hb).2) ht))
end
open Go.RowKit
section
variable {o : Oper} {act : Act} {w0 w : World} {X : List Nat} {S : World → Prop} {bs : List Bx} {rs : List Rw} {F : List Cold} {KK : Act → World → Prop} {Q : Exit → Act → World → Prop}
theorem wo_appK {v : Value} {e : TypeId} {sz n' m : Nat} {xs ys : List Value} (HO : Hid (Own w0 X S bs (⟨e, sz, v, n', xs⟩ :: rs) F w)) {s x : Operand} {T' : TypeId}
    (ho : o.op = .call { callee := .builtin .append, args := #[s, x], argTypes := #[T', T'] }) (hs : act.eval s = v) {A : Option Addr} {c : Nat} (hx : act.eval x = .slice A m c) (hrd : Reads w w.heap.size sz A m ys)
    (ht : Tryz.prog.underlying T' = some (.slice e)) {z : Value} {bytes : Nat} (hinfo : (Tryz.prog.info? e).map (fun i => (i.zero, i.size, i.bytes)) = some (some z, sz, bytes)) (hzs : z.cells.size = sz) (hsz : 0 < sz) (h1 : ∀ u ∈ ys, u.oneCell' = true) (hm : n' + m ≤ 1000000) (hby : bytes ≤ 1000)
    (h : ∀ A' c' W, n' + m ≤ c' → Hid (Own w0 X S bs (⟨e, sz, .slice A' (n' + m) c', n' + m, xs ++ ys⟩ :: rs) F W) → KK (act.put o.dst (.slice A' (n' + m) c')) W) : WOp Tryz.prog o act w KK Q := by
  obtain ⟨i0, hi, hz0, hz1, hz2⟩ := info_parts hinfo
  have hrow := HO.out.row _ List.mem_cons_self
  have hb2 : (n' + m) * bytes ≤ 140737488355328 := by
    have : (n' + m) * bytes ≤ 1000000 * 1000 := Nat.mul_le_mul hm hby
    omega
  unfold WOp
  refine wp_append_any w s x T' ho w0.heap.size e i0 z sz bytes ht hi hz0 hz1 hz2 hzs hsz v n' xs hs hrow w.heap.size A m c ys hx hrd h1 (by unfold maxLen; omega) hb2 HO.out.kept.size (fun v' w' g1 g2 g3 => ?_)
  have hO2 := HO.out.grow ⟨e, sz, v', n' + m, xs ++ ys⟩ g1 g2 (by
    rcases g3 with g3 | g3
    · exact .inl g3
    · exact .inr fun k hk => by
        have hk' : v'.ownBlock = some k := hk
        rw [g3] at hk'; injection hk' with hk'; omega)
  have g4 := g1.2
  rcases g4 with ⟨rfl, h0⟩ | ⟨gg, cap, cur, rfl, _, _, hn2, _⟩
  · have h0' : n' + m = 0 := h0
    have hO3 := Lib.hid hO2
    rw [h0'] at hO3
    have := h none 0 w' (by omega)
    rw [h0'] at this
    exact this hO3
  · exact h _ _ w' hn2 (Lib.hid hO2)
theorem one_bvs (l : List Nat) : ∀ u ∈ bvs l, u.oneCell' = true := fun u hu => by
  obtain ⟨x, _, rfl⟩ := List.mem_map.1 hu
  rfl
theorem reads_bytes {B : Nat} {A : Option Addr} {l : List Nat} (h : RB w B A l) : Reads w B 1 A l.length (bvs l) := by
  refine ⟨by simp [bvs], fun hn => ?_⟩
  obtain ⟨ad, e, hb, hc⟩ := h.2 hn
  refine ⟨ad, e, hb, fun j u hu => ?_⟩
  have hj : j < l.length := by
    rcases Nat.lt_or_ge j l.length with hj | hj
    · exact hj
    · rw [List.getElem?_eq_none (by simpa [bvs] using hj)] at hu; cases hu
  unfold bvs at hu
  rw [List.getElem?_map, List.getElem?_eq_getElem hj] at hu
  injection hu with hu
  rw [← hu]
  exact hc j hj
theorem wo_appB {v : Value} {l ys : List Nat} (HO : Hid (Own w0 X S bs (⟨5, 1, v, l.length, bvs l⟩ :: rs) F w)) {s x : Operand}
    (ho : o.op = .call { callee := .builtin .append, args := #[s, x], argTypes := #[23, 23] }) (hs : act.eval s = v) {A : Option Addr} {c : Nat} (hx : act.eval x = .slice A ys.length c) (hr : Hid (RB w w.heap.size A ys)) (hm : l.length + ys.length ≤ 1000000)
    (h : ∀ A' c' W, (l ++ ys).length ≤ c' → Hid (Own w0 X S bs (⟨5, 1, .slice A' (l ++ ys).length c', (l ++ ys).length, bvs (l ++ ys)⟩ :: rs) F W) → KK (act.put o.dst (.slice A' (l ++ ys).length c')) W) : WOp Tryz.prog o act w KK Q := by
  refine wo_appK HO ho hs hx (reads_bytes hr.out) Tryz.underlying23 info_u8 rfl (by decide) (one_bvs ys) hm (by decide) (fun A' c' W h1 h2 => ?_)
  have e1 : l.length + ys.length = (l ++ ys).length := by simp
  have e2 : bvs l ++ bvs ys = bvs (l ++ ys) := by simp [bvs]
  rw [e2, e1] at h2
  rw [e1] at h1 ⊢
  exact h A' c' W h1 h2
theorem wo_appM {b : Nat} {l ys : List Nat} (HO : Hid (Own w0 X S bs rs F w)) {s x : Operand}
    (ho : o.op = .call { callee := .builtin .append, args := #[s, x], argTypes := #[23, 23] }) (hs : act.eval s = .slice (some ⟨b, 0, none⟩) l.length l.length) (hb : Hid (RB w w.heap.size (some ⟨b, 0, none⟩) l)) {A : Option Addr} {c : Nat} (hx : act.eval x = .slice A ys.length c) (hr : Hid (RB w w.heap.size A ys)) (hpos : 0 < ys.length) (hm : l.length + ys.length ≤ 1000000)
    (h : ∀ A' c' W, (l ++ ys).length ≤ c' → Hid (Own w0 X S bs (⟨5, 1, .slice A' (l ++ ys).length c', (l ++ ys).length, bvs (l ++ ys)⟩ :: rs) F W) → KK (act.put o.dst (.slice A' (l ++ ys).length c')) W) : WOp Tryz.prog o act w KK Q := by
  obtain ⟨i0, hi, hz0, hz1, hz2⟩ := info_parts info_u8
  obtain ⟨ad, rfl, _, _⟩ := hr.out.2 hpos
  obtain ⟨hl1, hl2⟩ := reads_bytes hb.out
  obtain ⟨hy1, hy2⟩ := reads_bytes hr.out
  have holds : ∀ j v, (bvs l)[j]? = some v → w.cell? ((⟨b, 0, none⟩ : Addr).add j) = some v := fun j v hv => by
    have hj : 0 < l.length := by
      rcases Nat.eq_zero_or_pos l.length with h0 | h0
      · rw [List.length_eq_zero_iff.1 h0] at hv; cases hv
      · exact h0
    obtain ⟨ad', e, _, hc⟩ := hl2 hj
    cases e
    exact hc j v hv
  have hnews : ∀ j v, (bvs ys)[j]? = some v → w.cell? (ad.add j) = some v := fun j v hv => by
    obtain ⟨ad', e, _, hc⟩ := hy2 hpos
    cases e
    exact hc j v hv
  have hN : l.length + ys.length ≤ maxLen := by unfold maxLen; omega
  have hfit : Builtin.nextslicecap (l.length + ys.length) l.length * i0.bytes ≤ 281474976710656 := growslice_fits (by omega) (by rw [hz2]; omega)
  have hrun := run_append_grow (P := Tryz.prog) w 23 o.type 5 i0 (.int .u8 0) Tryz.underlying23 hi hz0 ⟨b, 0, none⟩ l.length l.length (bvs l) (by rw [hz1]; exact hl1) holds ad ys.length c (bvs ys) (by rw [hz1]; exact hy1) hnews (by omega) (by omega) hfit
  have hge := grownCap_ge w (l.length + ys.length) l.length 5
  have hcm : grownCap w (l.length + ys.length) l.length 5 ≤ maxLen := grownCap_le_maxLen w _ _ _ hN
  have hO := HO.out.drew.junk (.cells ((bvs l).toArray ++ (bvs ys).toArray ++ Builtin.zeroCells (Value.int .u8 0).cells (grownCap w (l.length + ys.length) l.length 5 - (l.length + ys.length))) 5)
  have e1 : (l ++ ys).length = l.length + ys.length := by simp
  have e2 : bvs l ++ bvs ys = bvs (l ++ ys) := by simp [bvs]
  have hrow : (w.drew.alloc (.cells ((bvs l).toArray ++ (bvs ys).toArray ++ Builtin.zeroCells (Value.int .u8 0).cells (grownCap w (l.length + ys.length) l.length 5 - (l.length + ys.length))) 5)).ownsRow w.heap.size 5 1 (.slice (some ⟨w.heap.size, 0, none⟩) (l ++ ys).length (grownCap w (l.length + ys.length) l.length 5)) (l ++ ys).length (bvs (l ++ ys)) := by
    refine ⟨by simp [bvs], .inr ⟨w.heap.size, _, _, rfl, Nat.le_refl _, heap_alloc_new w.drew _, by rw [e1]; exact hge, hcm, ?_, ?_⟩⟩
    · simp only [Array.size_append, List.size_toArray, size_zeroCells, hl1, hy1, Value.cells]
      simp only [List.size_toArray, List.length_cons, List.length_nil]
      omega
    · simp only [Array.toList_append, List.append_assoc]
      rw [← List.append_assoc, e2, Nat.mul_one]
      exact (congrArg (fun n => List.take n _) (by simp [bvs] : (l ++ ys).length = (bvs (l ++ ys)).length)).trans List.take_left
  have hO2 := hO.addRow ⟨5, 1, .slice (some ⟨w.heap.size, 0, none⟩) (l ++ ys).length (grownCap w (l.length + ys.length) l.length 5), (l ++ ys).length, bvs (l ++ ys)⟩ w.heap.size HO.out.kept.size hrow (fun b hb hm => by have := (HO.out.hot_lt b hm).2; omega) (fun d hd => d.st w _ _ _ (fun b hb => ⟨⟨⟨hb.1, Nat.lt_of_lt_of_le hb.2.1 (by simp), hb.2.2⟩, hb.2.1⟩, Below.heap_alloc w.drew _ b hb.2.1⟩) (HO.out.cold d hd))
  have := h _ _ _ (by rw [e1]; exact hge) (Lib.hid hO2)
  unfold WOp Oper.wp execOp
  simp only [ho, resolve, invoke, builtin, Sem.run_bind, Sem.run_pure, Result.andThen_ok, List.map_toArray, List.map_cons, List.map_nil, hs, hx, hrun]
  rw [e1] at this
  exact this
end
open Go.RowKit
section
variable {act : Act} {w0 w : World} {X : List Nat} {S : World → Prop} {bs : List Bx} {rs : List Rw} {F : List Cold} {K : Act → World → Prop}
theorem ab_mark (HO : Hid (Own w0 X S bs rs F w)) {cs : List Value} {t : TypeId} {n : Nat} (h : ∀ W, Hid (Own w0 X S bs rs F W) → Hid (∃ f, W.heap[w.heap.size]? = some (.cells cs.toArray t f)) → K act W) : K act (w.alloc (.cells cs.toArray t (n, n + 1))) :=
  h _ (Lib.hid (HO.out.junk _)) (Lib.hid ⟨(n, n + 1), by show (w.heap.push _)[w.heap.size]? = _; simp⟩)
theorem rb_mark {W : World} {b : Nat} {t : TypeId} {l : List Nat} (hb : ∀ x ∈ l, x < 256) (h : ∃ f, W.heap[b]? = some (.cells (bvs l).toArray t f)) : RB W W.heap.size (some ⟨b, 0, none⟩) l := by
  obtain ⟨f, h⟩ := h
  have hlt : b < W.heap.size := by
    rcases Nat.lt_or_ge b W.heap.size with h' | h'
    · exact h'
    · rw [Array.getElem?_eq_none h'] at h; cases h
  refine rb_of hb hlt (fun j hj => ?_)
  unfold World.cell?
  simp [h, bvs, bv, hj]
end
theorem kid_at {w0 W : World} {X : List Nat} {S : World → Prop} {bs : List Bx} {rs : List Rw} {F : List Cold} {l : List NodeT} {A : Option Addr} (HO : Hid (Own w0 X S bs rs F W)) (m : Cold.kids A l ∈ F) (j : Nat) (hj : j < l.length) :
    ∃ b o A' c', A = some ⟨b, o, none⟩ ∧ Hid (Own w0 X S bs rs (Cold.at b (o + 8 * j) (nodeC l[j] A' c') :: Cold.kids A' l[j].l :: F) W) := by
  have h := HO.out.cold _ m
  have key : ∀ (l : List NodeT) (i j : Nat) (h : j < l.length) (P : Nat → Prop), KidsL W P l A i → ∃ b o A' c', A = some ⟨b, o, none⟩ ∧ P b ∧ W.rangeAt b (o + 8 * (i + j)) (nodeC l[j] A' c') ∧ KidsL W P l[j].l A' 0 := by
    intro l
    induction l with
    | nil => intro i j h; exact absurd h (by simp)
    | cons n l ih =>
      intro i j h P hk
      rw [KidsL] at hk
      cases j with
      | zero =>
        obtain ⟨⟨b, o, A', c', h1, h2, h3, _, h5⟩, _⟩ := hk
        exact ⟨b, o, A', c', h1, h2, h3, by rw [← KidsN_eq]; exact h5⟩
      | succ j =>
        have := ih (i + 1) j (by simpa using h) P hk.2
        rw [show i + 1 + j = i + (j + 1) by omega] at this
        exact this
  obtain ⟨b, o, A', c', h1, h2, h3, h4⟩ := key l 0 j hj _ h
  rw [Nat.zero_add] at h3
  exact ⟨b, o, A', c', h1, Lib.hid ((HO.out.coldAll (Cold.kids A' l[j].l) h4).coldAll (Cold.at b (o + 8 * j) (nodeC l[j] A' c')) ⟨h2, h3⟩)⟩
theorem rule_at {w0 W : World} {X : List Nat} {S : World → Prop} {bs : List Bx} {rs : List Rw} {F : List Cold} {r : RuleT} {A B : Option Addr} {x : ElR} (HO : Hid (Own w0 X S bs rs F W)) (m : Cold.tree A B [] [x] ∈ F) :
    ∃ b, B = some ⟨b, 0, none⟩ ∧ Hid (Own w0 X S bs rs (Cold.at b 0 (ruleC x.1 x.2.1 x.2.2.1 x.2.2.2.1 x.2.2.2.2) :: Cold.kids x.2.1 x.1.l :: Cold.kids x.2.2.2.1 x.1.body.l :: F) W) := by
  have h := HO.out.cold _ m
  obtain ⟨b, e, hb, hc⟩ := h.rr (by simp [flatR, ruleC])
  have he := h.er x List.mem_cons_self
  refine ⟨b, e, Lib.hid (((HO.out.coldAll (Cold.kids x.2.2.2.1 x.1.body.l) he.2.2.2).coldAll (Cold.kids x.2.1 x.1.l) he.2.2.1).coldAll (Cold.at b 0 (ruleC x.1 x.2.1 x.2.2.1 x.2.2.2.1 x.2.2.2.2)) ⟨hb, fun i v hv => ?_⟩)⟩
  rw [Nat.zero_add]
  exact hc i v (by simpa [flatR] using hv)
theorem arm_parse1 {w0 w : World} {S : World → Prop} {bs : List Bx} {rs : List Rw} {F : List Cold} {T : Ending → World → Prop} {KF : FuncId} {args : Array Value} {src : List Nat} {A : Option Addr} {c : Nat} {r : RuleT} (HO : Hid (Own w0 [] S bs rs F w)) (hr : Hid (RB w w.heap.size A src)) (ht : treeS src = .ok ⟨[], [r]⟩) (hc : src.length ≤ c) (hlen : src.length ≤ 1000000) (hK : KF = 5) (hargs : args = #[.slice A src.length c])
    (hok : ∀ A' c1 B' c2 (x : ElR) W, x.1 = r → Hid (Own w0 [] S bs rs (Cold.tree A' B' [] [x] :: F) W) → T (.returned (.tuple #[.agg #[.slice A' 0 c1, .slice B' 1 c2], .nilIface])) W) : Calls Tryz.prog KF args w T := by
  refine arm_parse HO hr hc hlen hK hargs (fun p k b W HE _ => ?_) (fun fe re A' c1 B' c2 W HE _ HO => ?_)
  · have h := HE.out; rw [ht] at h; cases h
  · have h := HE.out
    rw [ht] at h
    injection h with h
    injection h with hf hr
    obtain rfl : fe = [] := List.map_eq_nil_iff.1 hf.symm
    obtain ⟨x, rfl⟩ : ∃ x, re = [x] := by
      match re, hr with
      | [x], _ => exact ⟨x, rfl⟩
    exact hok A' c1 B' c2 x W (by simpa using hr.symm) HO
set_option maxRecDepth 100000 in
set_option maxHeartbeats 3200000 in
theorem awake13_any (w : World) : Calls Tryz.prog 4 #[] w fun e w' => e = .returned (.bool true) ∧ Below w.heap.size w w' := by
  have HO : Hid (Own w [] (fun _ => True) [] [] [] w) := Lib.hid (Own.init trivial (fun _ _ _ _ _ => trivial))
  have hcv := fun (w : World) (C : Array Value) (n c : Nat) => Lib.run_convert_bytes_const (P := Tryz.prog) w 23 5 C n c Tryz.underlying23 Tryz.underlying5
  go_enter Tryz.func4, Tryz.ntmps4
  (repeat' (go_not_at_region 3; first | (with_reducible first | refine oXt ?_ | refine oXb ?_) | ((with_reducible refine ib_miss ?_ ?_); exact rfl) | ((first | ((with_reducible refine to_load ?_); first | refine oL1 HO rfl rfl ?_ | refine oL2 HO rfl rfl ?_ | refine oL3 HO rfl rfl ?_) | ((first | with_reducible refine oAl HO ?_); clear HO; intro _ HO)); (try simp only [Act.put, pS0, pS1, pS2])) | ((first | ((with_reducible refine to_store ?_); first | refine oT1 HO rfl rfl rfl ?_ | refine oT2 HO rfl rfl rfl (by rfl) ?_ | refine oT3 HO rfl rfl rfl rfl ?_) | with_reducible refine ab_drew HO ?_); clear HO; intro _ HO) | ((with_reducible refine ab_junk HO 9 ?_); clear HO; intro _ HO HB) | ((with_reducible refine ab_mark HO ?_); clear HO; intro _ HO HB) | ((go_big_may; first | (go_at_call 5; first | (refine arm_parse1 (src := src1) HO (Lib.hid (rb_mark (l := src1) (by decide) HB.out)) tree1 (by decide) (by decide) rfl rfl ?_; clear HO HB; intro At1 ct1 Bt1 dt1 xt _ hxt HO) | (refine arm_parse1 (src := src2) HO (Lib.hid (rb_mark (l := src2) (by decide) HB.out)) tree2 (by decide) (by decide) rfl rfl ?_; clear HO HB; intro Au1 cu1 Bu1 du1 xu _ hxu HO))) <;> (try dsimp only)) | go_values | go_skip | go_guarded | go_step | go_upon | (go_ite <;> go_prune <;> (try go_simp))))
  obtain ⟨r1, At, ct, Bt, dt⟩ := xt
  obtain ⟨r2, Au, cu, Bu, du⟩ := xu
  dsimp only at hxt hxu
  subst hxt hxu
  obtain ⟨b1, rfl, HO1⟩ := rule_at (r := rule1) (x := (rule1, At, ct, Bt, dt)) HO (by repeat (first | exact mH | apply mT))
  obtain ⟨b2, rfl, HO2⟩ := rule_at (r := rule2) (x := (rule2, Au, cu, Bu, du)) HO1 (by repeat (first | exact mH | apply mT))
  obtain ⟨b3, o3, A3, c3, e3, HO3⟩ := kid_at HO2 (A := Bu) (l := [.mk 54 2 [] 0 0 [asg2]]) (by repeat (first | exact mH | apply mT)) 0 (by decide)
  obtain ⟨b4, o4, A4, c4, e4, HO4⟩ := kid_at HO3 (A := A3) (l := [asg2]) (by repeat (first | exact mH | apply mT)) 0 (by decide)
  obtain ⟨b5, o5, A5, c5, e5, HO5⟩ := kid_at HO4 (A := A4) (l := [.mk 4 2 [97] 0 0 [], .mk 14 6 [] 0 0 [.mk 4 6 [98] 0 0 [], .mk 15 8 [43] 0 0 [.mk 4 8 [99] 0 0 [], .mk 1 12 [] 1000000 0 []]]]) (by repeat (first | exact mH | apply mT)) 1 (by decide)
  obtain ⟨b6, o6, A6, c6, e6, HO⟩ := kid_at HO5 (A := At) (l := [.mk 13 0 [62] 0 0 [.mk 6 0 [] 0 0 [.mk 1 1 [] 1000000 0 []], .mk 1 5 [] 2000000 0 []]]) (by repeat (first | exact mH | apply mT)) 0 (by decide)
  clear HO1 HO2 HO3 HO4 HO5
  subst e3 e4 e5 e6
  simp only [ruleC, nodeC, rule1, rule2, asg2, NodeT.k, NodeT.at', NodeT.s, NodeT.z, NodeT.i, NodeT.l, List.length_cons, List.length_nil, List.getElem_cons_zero, List.getElem_cons_succ, Nat.mul_zero, Nat.add_zero, Nat.mul_one] at HO
  (repeat' (first | (with_reducible first | refine oXt ?_ | refine oXb ?_) | ((with_reducible refine ib_miss ?_ ?_); exact rfl) | ((first | ((with_reducible refine to_load ?_); first | refine oL1 HO rfl rfl ?_ | refine oL2 HO rfl rfl ?_ | refine oL3 HO rfl rfl ?_ | refine oC1 HO rfl rfl ?_ | refine oC2 HO rfl rfl ?_) | ((first | with_reducible refine oAl HO ?_); clear HO; intro _ HO)); (try simp only [Act.put, pS0, pS1, pS2])) | ((first | ((with_reducible refine to_store ?_); first | refine oT1 HO rfl rfl rfl ?_ | refine oT2 HO rfl rfl rfl (by rfl) ?_ | refine oT3 HO rfl rfl rfl rfl ?_) | with_reducible refine ab_drew HO ?_); clear HO; intro _ HO) | ((with_reducible refine ab_junk HO 9 ?_); clear HO; intro _ HO HB) | go_values | go_skip | go_guarded | go_step | go_upon | (go_ite <;> go_prune <;> (try go_simp))))
  refine bp_tmp (t := 0) rfl rfl rfl ?_
  exact ⟨rfl, HO.out.kept.below⟩
end Go.Proofs.YtdiibenofbcfnaaGreat
