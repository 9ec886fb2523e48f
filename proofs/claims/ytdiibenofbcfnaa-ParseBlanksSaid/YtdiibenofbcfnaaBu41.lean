/- Several texts put together: PasB, PasJ, SimI, SimN, SimJ, PasK, JoiA. -/
import Derived.Test.YtdiibenofbcfnaaBu27
import Derived.Test.YtdiibenofbcfnaaBu29
import Derived.Test.YtdiibenofbcfnaaBu30
import Derived.Test.YtdiibenofbcfnaaBu38
import Derived.Test.YtdiibenofbcfnaaBu39
import Derived.Test.YtdiibenofbcfnaaBu40
import Derived.Test.YtdiibenofbcfnaaBu3
import Derived.Test.YtdiibenofbcfnaaBu37
import Derived.Test.YtdiibenofbcfnaaBu36
import Derived.Deep.Cut
import Derived.Test.YtdiibenofbcfnaaBu22
import Derived.Test.YtdiibenofbcfnaaBu13
set_option linter.unusedSimpArgs false
set_option linter.unusedVariables false
namespace Go.Proofs.Ytdiibenofbcfnaa
open Go.RowKit
structure ParK (p : Par) (g : Nat) (ts : List TokF) (n : Nat) : Prop where
  ok : ParOK p g ts n
  stepped : FCS p.stepped g ts n
theorem fc_zero {K : FuncId} {args : Array Value} {α : Type} {f : PP α} {V : World → World → α → Value → Prop} {g : Nat} {ts : List TokF} : FC K args f V g ts 0 := by
  intro w a d m hn
  exact absurd m.hd (by omega)
theorem par_ok (g : Nat) (ts : List TokF) : ∀ n, ParK (par ts n) g ts n
  | 0 => ⟨⟨fc_zero, fc_zero, fc_zero, fc_zero, fc_zero⟩, fun a _ w d m hn => absurd m.hd (by omega)⟩
  | n + 1 => by
    have IH := par_ok g ts n
    have HA := padv_par ts n
    have deeper := pdeeper_any _ g ts n IH.ok
    have expr := pexpr_any _ g ts n IH.ok
    have list := plist_any _ g ts _ expr
    have subs := psubs_any _ g ts _ list
    have args := pargs_any _ g ts _ list
    have place := pplace_any _ g ts n subs IH.ok.atom IH.stepped
    have stepped := pstepped_any _ g ts _ place
    have other := pother_any _ g ts _ place list
    have atom := patom_any _ g ts _ args other
    have step := pstep_any _ g ts _ stepped atom
    have signed := psigned_any _ g ts _ deeper step
    have product := pproduct_any _ g ts _ signed
    have sum := psum_any _ g ts _ product
    have cat := pcat_any _ HA g ts _ sum place
    have comp := pcomp_any _ g ts _ cat
    have match' := pmatch_any _ g ts _ comp
    have isin := pisin_any _ g ts _ match'
    have and := pand_any _ g ts _ isin
    have or := por_any _ g ts _ and
    have cond := pcond_any _ g ts n IH.ok.cond or expr
    have print := pprint_any _ HA g ts _ list sum
    have simple := psimple_any _ g ts _ expr subs print
    have stmt := pstmt_any _ g ts n IH.ok.statement
    have asked := pasked_any _ g ts _ expr
    have below := pbelow_any _ g ts _ stmt
    have perhaps := pperhaps_any _ g ts _ simple
    have block := pblock_any _ HA g ts _ stmt
    have loop := ploop_any _ g ts _ expr below perhaps
    have statement := pstatement_any _ g ts _ block asked below loop simple
    exact ⟨⟨cond, expr, signed, atom, statement⟩, stepped⟩
theorem pexpr_top (g : Nat) (ts : List TokF) : FC 50 #[.pointer (some ⟨g, 0, none⟩)] (exprF ts (par ts 65)) VN g ts 65 := fun w a d m _ => pexpr_any _ g ts 65 (par_ok g ts 65).ok w a d m (by omega)
theorem pblock_top (g : Nat) (ts : List TokF) : FC 42 #[.pointer (some ⟨g, 0, none⟩)] (blockF ts (par ts 65)) VN g ts 65 := fun w a d m _ => pblock_any _ (padv_par ts 65) g ts 66 (pstmt_any _ g ts 65 (par_ok g ts 65).ok.statement) w a d m (by omega)
open Go.RowKit
def treeS (src : List Nat) : Except (Nat × Int) TreeT := match lexS src with
  | .error e => .error e
  | .ok ts => match parseT ts with
    | .ok t _ _ => .ok t
    | .err p k => .error (p, k)
def ParsePost (src : List Nat) (w : World) (e : Ending) (w' : World) : Prop :=
  Below w.heap.size w w' ∧ match treeS src with
    | .error (p, k) => ∃ v, e = .returned (.tuple #[.agg #[.slice none 0 0, .slice none 0 0], v]) ∧ FltV w' w.heap.size v p k
    | .ok t => ∃ (fe : List ElF) (re : List ElR) (A : Option Addr) (c : Nat) (B : Option Addr) (c' : Nat), t = ⟨fe.map (·.1), re.map (·.1)⟩ ∧ e = .returned (.tuple #[.agg #[.slice A fe.length c, .slice B re.length c'], .nilIface]) ∧ fe.length ≤ c ∧ re.length ≤ c' ∧ TreeAt w' (fun b => w.heap.size ≤ b ∧ b < w'.heap.size) A B fe re
section
variable {w0 w w1 W : World} {X : List Nat} {S : World → Prop} {bs : List Bx} {rs : List Rw} {F : List Cold} {K : Act → World → Prop} {act : Act} {P : Program} {o : Oper} {Q : Exit → Act → World → Prop} {T : Ending → World → Prop}
theorem wo_alloc1 (HO : Hid (Own w0 X S bs rs F w)) {t : TypeId} (ho : o.op = .alloc t) (hz : ∀ w, (zeroValue t).run P w = .ok .nilIface w) (h : ∀ W, Hid (Own w0 X S (⟨w.heap.size, t, [.nilIface]⟩ :: bs) rs F W) → K (act.put o.dst (.pointer (some ⟨w.heap.size, 0, none⟩))) W) : WOp P o act w K Q := by
  have := h _ (Lib.hid (HO.out.alloc t [.nilIface]))
  unfold WOp Oper.wp execOp
  simp only [ho, Instr.alloc, Sem.run_bind, hz w, Result.andThen_ok]
  simpa [go_sem, Oper.upon, newVar] using this
def Cold.tree (A B : Option Addr) (fe : List ElF) (re : List ElR) : Cold := ⟨fun w F => TreeAt w F A B fe re, fun _ _ _ _ hF h => h.st hF⟩
theorem Own.after {g : Nat} {t : TypeId} {cs : List Value} (h : Own w0 X S (⟨g, t, cs⟩ :: bs) rs F w1) (q : Kept [g] w1 W) : Own w0 X S bs rs F W := by
  have hg : w0.heap.size ≤ g := h.base _ List.mem_cons_self
  have hnd := h.nodup
  rw [hot_box, List.nodup_cons] at hnd
  refine ⟨h.kept.trans q (fun y hy => .inr (by rw [List.mem_singleton.1 hy]; exact hg)), h.loc, h.loc w1 W (fun b hb => q.block b (Nat.lt_of_lt_of_le hb h.kept.size) (by simp; omega)) q.size h.st, fun x hx => ?_, fun x hx => h.base x (List.mem_cons_of_mem _ hx), fun r hr => ?_, hnd.2, fun c hc => ?_⟩
  · have hb := h.box x (List.mem_cons_of_mem _ hx)
    refine (q.block x.b hb.lt (fun e => hnd.1 ?_)).trans hb
    rw [← List.mem_singleton.1 e]
    exact List.mem_append_left _ (List.mem_map_of_mem (f := (·.b)) hx)
  · have hr1 := h.row r hr
    rcases hr1.2 with h2 | ⟨k, cap, cur, e, hk, hh, h3⟩
    · exact ⟨hr1.1, .inl h2⟩
    · have hlt : k < w1.heap.size := by
        rcases Nat.lt_or_ge k w1.heap.size with h | h
        · exact h
        · rw [Array.getElem?_eq_none h] at hh; cases hh
      refine ⟨hr1.1, .inr ⟨k, cap, cur, e, hk, (q.block k hlt (fun e2 => hnd.1 ?_)).trans hh, h3⟩⟩
      rw [← List.mem_singleton.1 e2]
      exact List.mem_append_right _ (List.mem_filterMap.2 ⟨r, hr, by rw [e]; rfl⟩)
  · exact c.st w1 W _ _ (fun b hb => ⟨⟨hb.1, Nat.lt_of_lt_of_le hb.2.1 q.size, fun hm => hb.2.2 (by rw [hot_box]; exact List.mem_cons_of_mem _ hm)⟩, q.block b hb.2.1 (fun e => hb.2.2 (by rw [hot_box, List.mem_singleton.1 e]; exact List.mem_cons_self))⟩) (h.cold c hc)
theorem arm_all {KF : FuncId} {args : Array Value} {src : List Nat} {A : Option Addr} {c B : Nat} (HO : Hid (Own w0 X S bs rs F w)) (hB : B ≤ w0.heap.size) (hr : Hid (RB w0 B A src)) (hX : X = []) (hc : src.length ≤ c) (hlen : src.length ≤ 1000000) (hK : KF = 8) (hargs : args = #[.slice A src.length c])
    (hok : ∀ ts A' c' W, Hid (lexS src = .ok ts) → ts.length ≤ c' → Hid (Own w0 X S bs (⟨63, 6, .slice A' ts.length c', ts.length, ts.flatMap tokC⟩ :: rs) F W) → T (.returned (.tuple #[.slice A' ts.length c', .nilIface])) W)
    (herr : ∀ p k b W, Hid (lexS src = .error (p, k)) → Hid (Own w0 X S bs rs (Cold.flt (.iface 46 (.pointer (some ⟨b, 0, none⟩))) p k :: F) W) → T (.returned (.tuple #[.slice none 0 0, .iface 46 (.pointer (some ⟨b, 0, none⟩))])) W) : Calls Try.prog KF args w T := by
  subst hK hargs hX
  have hr2 : RB w B A src := hr.out.keep fun p hp => World.cell?_of_block (HO.out.kept.block p.block (by omega) (by simp))
  refine (all_r A c w B (Nat.le_trans hB HO.out.kept.size) hr2 hc hlen).mono fun e W hp => ?_
  obtain ⟨q, hp⟩ := hp
  cases hl : lexS src with
  | error pk =>
    obtain ⟨p, k⟩ := pk
    rw [hl] at hp
    obtain ⟨v, rfl, b, rfl, hb, hk⟩ := hp
    exact herr p k b W (Lib.hid hl) (Lib.hid ((HO.out.next q).addCold (Cold.flt (.iface 46 (.pointer (some ⟨b, 0, none⟩))) p k) w.heap.size HO.out.kept.size (fun b hb => (HO.out.hot_lt b hb).2) ⟨b, rfl, ⟨hb, hk.lt⟩, hk⟩))
  | ok ts =>
    rw [hl] at hp
    obtain ⟨A', c', rfl, hc', ho⟩ := hp
    refine hok ts A' c' W (Lib.hid hl) hc' (Lib.hid ((HO.out.next q).addRow ⟨63, 6, .slice A' ts.length c', ts.length, ts.flatMap tokC⟩ w.heap.size HO.out.kept.size ho (fun b hb hm => by have := (HO.out.hot_lt b hm).2; omega) (fun d hd => d.st w W _ _ (fun b hb => ⟨⟨⟨hb.1, Nat.lt_of_lt_of_le hb.2.1 q.size, hb.2.2⟩, hb.2.1⟩, q.block b hb.2.1⟩) (HO.out.cold d hd))))
theorem PS.new {g : Nat} {ts : List TokF} {A : Option Addr} {c : Nat} (HO : Hid (Own w0 X S (⟨g, 51, [.slice A ts.length c, .int .i64 0, .int .i64 0]⟩ :: bs) (⟨63, 6, .slice A ts.length c, ts.length, ts.flatMap tokC⟩ :: rs) F w)) (hrd : Hid (Reads w g 6 A ts.length (ts.flatMap tokC))) (hc : ts.length ≤ c) (h0 : 0 < ts.length) (hok : TsOk ts) : PS g ts 0 0 w :=
  ⟨⟨A, c, HO.out.box _ List.mem_cons_self, hrd.out, hc⟩, h0, by omega, hok⟩
theorem program_top (g : Nat) (ts : List TokF) : FC 10 #[.pointer (some ⟨g, 0, none⟩)] (programF ts (par ts 65)) VTree g ts 65 :=
  pprogram_any _ (padv_par ts 65) g ts 65 (pfunction_any _ g ts 65 (pblock_top g ts)) (prule_any _ g ts 65 (pblock_top g ts) (fun at' => ppattern_any _ g ts 65 at' (pexpr_top g ts) (pblock_top g ts)))
end
theorem e_beginH {P : Program} {ops : Array Oper} {Q : Exit → Act → World → Prop} {id : Nat} {a : Act} {w0 w : World} {X : List Nat} {St : World → Prop} {x : Bx} {bs : List Bx} {rs : List Rw} {F : List Cold} (HO : Hid (Own w0 X St (x :: bs) rs F w)) (hm : P.follows .mixedOrders = true)
    (h : ∀ W, Hid (Own w0 X St (x :: bs) rs F W) → wpAnyE P .any ops Q (OwnM w0 X x) [] ops.size (Array.replicate ops.size false) a W) : (Code.region id ops true).wp P Q a w := e_beginM x HO hm h
theorem leaves_tmps {P : Program} {fn : Func} {t t' : Array Value} {R : Ending → World → Prop} (h : results fn t = results fn t') : ∀ (ds : List Deferred) (u : FrameMode) (w : World), Leaves P fn t R ds u w → Leaves P fn t' R ds u w
  | [], .returning, w, hl => by unfold Leaves at hl ⊢; rw [← h]; exact hl
  | [], .panicking c, w, hl => hl
  | [], .run, _, hl => hl
  | d :: ds, u, w, ⟨h1, fv, cap, f, args, h2, h3, hc⟩ => ⟨h1, fv, cap, f, args, h2, h3, hc.mono (fun e u' w' hx => by
      cases e with
      | returned v => exact leaves_tmps h ds _ _ hx
      | panicked chain => exact leaves_tmps h ds _ _ hx
      | outgrown => exact hx)⟩
theorem res_put (t : Array Value) (d : Nat) (v : Value) (h2 : d ≠ 2) (h3 : d ≠ 3) : results Try.f6 (t.setIfInBounds d v) = results Try.f6 t := by
  unfold results
  rw [Try.results6]
  simp [Array.getElem?_setIfInBounds, h2, h3]
theorem res_run {w0 w : World} {X : List Nat} {St : World → Prop} {bs : List Bx} {rs : List Rw} {F : List Cold} (HO : Hid (Own w0 X St bs rs F w)) {t : Array Value} {b2 b3 : Nat} {u1 u2 v : Value} (h2 : t[2]?.getD undef = .pointer (some ⟨b2, 0, none⟩)) (h3 : t[3]?.getD undef = .pointer (some ⟨b3, 0, none⟩)) (m2 : (⟨b2, 27, [u1, u2]⟩ : Bx) ∈ bs) (m3 : (⟨b3, 29, [v]⟩ : Bx) ∈ bs) : (results Try.f6 t).run Try.prog w = .ok (.tuple #[.agg #[u1, u2], v]) w := by
  have hl : (loadCells ⟨b2, 0, none⟩ 2).run Try.prog w = .ok #[u1, u2] w :=
    run_loadCells_list (P := Try.prog) w ⟨b2, 0, none⟩ [u1, u2] (fun j v hv => by rw [Addr.add_mid]; exact HO.out.cells m2 0 j v (by simpa using hv))
  have hc : w.cell? ⟨b3, 0, none⟩ = some v := HO.out.cells m3 0 0 v rfl
  have hc0 : w.cell? ⟨b2, 0, none⟩ = some u1 := HO.out.cells m2 0 0 u1 rfl
  have hc1 : w.cell? ⟨b2, 1, none⟩ = some u2 := HO.out.cells m2 0 1 u2 rfl
  have hd := Try.isAgg27
  have hs := Try.sizeOf27
  have hd3 := Try.isAgg29
  simp [results, Try.results6, h2, h3, asAddr, loadVar, Sem.run_bind, hd, hs, hd3, hc, hc0, hc1, go_sem]
theorem reads_own {w : World} {B g : Nat} {e : TypeId} {sz n c : Nat} {A : Option Addr} {xs : List Value} (h : w.ownsRow B e sz (.slice A n c) n xs) (hlt : ∀ k, (Value.slice A n c).ownBlock = some k → k < g) : Reads w g sz A n xs := by
  obtain ⟨h1, h2⟩ := Reads.of_own h
  refine ⟨h1, fun hn => ?_⟩
  obtain ⟨ad, e, hb, hc⟩ := h2 hn
  subst e
  exact ⟨ad, rfl, hlt _ rfl, hc⟩
set_option maxRecDepth 100000 in
set_option maxHeartbeats 3200000 in
theorem parse_r {src : List Nat} (A : Option Addr) (c : Nat) (w : World) (B : Nat) (hB : B ≤ w.heap.size) (hr : RB w B A src) (hc : src.length ≤ c) (hlen : src.length ≤ 1000000) (hb : ∀ x ∈ src, x < 256) :
    Calls Try.prog 6 #[.slice A src.length c] w (ParsePost src w) := by
  obtain ⟨R, hR⟩ : ∃ R, treeS src = R := ⟨_, rfl⟩
  unfold ParsePost
  rw [hR]
  have HR := Lib.hid hR
  have HRB := Lib.hid hr
  have HB := Lib.hid hb
  have HO : Hid (Own w [] (fun _ => True) [] [] [] w) := Lib.hid (Own.init trivial (fun _ _ _ _ _ => trivial))
  have hmf : ∀ (fn : Fn) (first cap : Array Value) (w : World), (Instr.makeFunc fn first cap).run Try.prog w = .ok (.func fn first cap) w := fun _ _ _ _ => rfl
  clear hR hr hb
  go_enter_defers Try.func6, Try.ntmps6
  (repeat' (go_not_at_region 5; first | (with_reducible first | refine oXt ?_ | refine oXb ?_) | ((with_reducible refine ib_miss ?_ ?_); exact rfl) | ((first | ((with_reducible refine to_load ?_); first | refine oL1 HO rfl rfl ?_ | refine oL2 HO rfl rfl ?_ | refine oL3 HO rfl rfl ?_) | ((first | with_reducible refine oAl HO ?_ | ((with_reducible refine to_box ?_); refine wo_box HO rfl rfl ?_)); clear HO; intro _ HO)); (try simp only [Act.put, pS0, pS1, pS2])) | ((first | ((with_reducible refine to_store ?_); first | refine oT1 HO rfl rfl rfl ?_ | refine oT2 HO rfl rfl rfl (by rfl) ?_ | refine oT3 HO rfl rfl rfl rfl ?_) | with_reducible refine ab_drew HO ?_); clear HO; intro _ HO) | ((with_reducible refine to_store ?_); first | (refine wo_storeR HO rfl rfl rfl rfl (by repeat (first | exact mH | apply mT)) (by repeat (first | exact cH | apply cT)) Try.sizeOf40 (by simp [Value.oneCell']) ?_; clear HO; intro _ HO) | (refine wo_storeF HO rfl rfl rfl rfl (by repeat (first | exact mH | apply mT)) (by repeat (first | exact cH | apply cT)) Try.sizeOf40 (by simp [Value.oneCell']) ?_; clear HO; intro _ HO)) | ((with_reducible refine to_alloc ?_); (refine wo_alloc1 HO rfl Try.zeroValue29 ?_; clear HO; intro _ HO; (try simp only [Act.put, pS0, pS1, pS2]))) | ((go_big_may; first | (go_at_call 8; refine arm_all HO hB HRB rfl hc hlen rfl rfl ?_ ?_; (clear HO; intro ts A' c' W HE hc' HO); rotate_left; (clear HO; intro p k b W HE HO); rotate_left) | fail) <;> (try dsimp only)) | go_values | go_skip | go_guarded | go_step | go_upon | (go_ite <;> go_prune <;> (try go_simp))))
  · have hlt := (HO.out.row _ List.mem_cons_self).lt
    obtain ⟨vs, e0, hts, he0, he1, he2, hvl, hvs⟩ := lexS_ok HB.out HE.out
    have hok : TsOk ts := by rw [hts]; exact TsOk.of he0 he1 hvl hvs
    have h0 : 0 < ts.length := by rw [hts]; simp
    have HLT := Lib.hid hlt
    have HOK := Lib.hid hok
    clear hlt hok hts he0 he1 he2 hvl hvs
    (repeat' (first | (with_reducible first | refine oXt ?_ | refine oXb ?_) | ((with_reducible refine ib_miss ?_ ?_); exact rfl) | ((first | ((with_reducible refine to_load ?_); first | refine oL1 HO rfl rfl ?_ | refine oL2 HO rfl rfl ?_ | refine oL3 HO rfl rfl ?_) | ((first | with_reducible refine oAl HO ?_ | ((with_reducible refine to_box ?_); refine wo_box HO rfl rfl ?_)); clear HO; intro _ HO)); (try simp only [Act.put, pS0, pS1, pS2])) | ((first | ((with_reducible refine to_store ?_); first | refine oT1 HO rfl rfl rfl ?_ | refine oT2 HO rfl rfl rfl (by rfl) ?_ | refine oT3 HO rfl rfl rfl rfl ?_) | with_reducible refine ab_drew HO ?_); clear HO; intro _ HO) | ((with_reducible refine to_store ?_); first | (refine wo_storeR HO rfl rfl rfl rfl (by repeat (first | exact mH | apply mT)) (by repeat (first | exact cH | apply cT)) Try.sizeOf40 (by simp [Value.oneCell']) ?_; clear HO; intro _ HO) | (refine wo_storeF HO rfl rfl rfl rfl (by repeat (first | exact mH | apply mT)) (by repeat (first | exact cH | apply cT)) Try.sizeOf40 (by simp [Value.oneCell']) ?_; clear HO; intro _ HO)) | go_values | go_skip | go_guarded | go_step | go_upon | (go_ite <;> go_prune <;> (try go_simp))))
    have hps := PS.new HO (Lib.hid (reads_own (HO.out.row _ List.mem_cons_self) (fun k hk => (HLT.out k hk).2))) hc' h0 HOK.out
    refine ((program_top _ ts) _ 0 0 hps (by decide)).mono ?_
    intro e W2 hp
    unfold PPost at hp
    have hR := HR.out
    unfold treeS at hR
    rw [HE.out] at hR
    dsimp only at hR
    unfold parseT at hR
    cases hpr : programF ts (par ts 65) 0 0 with
    | ok t a1 d1 =>
      rw [hpr] at hp hR
      dsimp only at hp hR
      obtain ⟨v, rfl, ⟨fe, re, A1, c1, B1, c2, rfl, rfl, hc1, hc2, htr⟩, _, hk, _, _⟩ := hp
      replace HO := Lib.hid ((HO.out.after hk).addCold (Cold.tree A1 B1 fe re) _ HO.out.kept.size (fun b hb => (HO.out.hot_lt b (by rw [hot_box]; exact List.mem_cons_of_mem _ hb)).2) htr)
      have HR2 := Lib.hid hR
      clear hR hk hps htr hpr HR
      dsimp only
      (repeat' (first | (with_reducible first | refine oXt ?_ | refine oXb ?_) | ((with_reducible refine ib_miss ?_ ?_); exact rfl) | ((first | ((with_reducible refine to_load ?_); first | refine oL1 HO rfl rfl ?_ | refine oL2 HO rfl rfl ?_ | refine oL3 HO rfl rfl ?_) | ((first | with_reducible refine oAl HO ?_ | ((with_reducible refine to_box ?_); refine wo_box HO rfl rfl ?_)); clear HO; intro _ HO)); (try simp only [Act.put, pS0, pS1, pS2])) | ((first | ((with_reducible refine to_store ?_); first | refine oT1 HO rfl rfl rfl ?_ | refine oT2 HO rfl rfl rfl (by rfl) ?_ | refine oT3 HO rfl rfl rfl rfl ?_) | with_reducible refine ab_drew HO ?_); clear HO; intro _ HO) | ((with_reducible refine to_store ?_); first | (refine wo_storeR HO rfl rfl rfl rfl (by repeat (first | exact mH | apply mT)) (by repeat (first | exact cH | apply cT)) Try.sizeOf40 (by simp [Value.oneCell']) ?_; clear HO; intro _ HO) | (refine wo_storeF HO rfl rfl rfl rfl (by repeat (first | exact mH | apply mT)) (by repeat (first | exact cH | apply cT)) Try.sizeOf40 (by simp [Value.oneCell']) ?_; clear HO; intro _ HO)) | go_values | go_skip | go_guarded | go_step | go_upon | (go_ite <;> go_prune <;> (try go_simp))))
      refine leaves_cons (f := 9) (by simp) rfl ?_
      refine (catch_i _ _ _).mono ?_
      rintro e u' w'' ⟨rfl, rfl, rfl⟩
      refine ⟨_, res_run HO rfl rfl (by repeat (first | exact mH | apply mT)) (by repeat (first | exact mH | apply mT)), ?_⟩
      rw [← HR2.out]
      exact ⟨HO.out.kept.below, fe, re, A1, c1, B1, c2, rfl, rfl, hc1, hc2, TreeAt.st (fun b hb => ⟨⟨hb.1, hb.2.1⟩, rfl⟩) (HO.out.cold (Cold.tree A1 B1 fe re) (by repeat (first | exact mH | apply mT)))⟩
    | err pl k =>
      rw [hpr] at hp hR
      dsimp only at hp hR
      obtain ⟨v, rfl, ⟨b, rfl, hbb, hblk⟩, hk⟩ := hp
      replace HO := Lib.hid ((HO.out.after hk).addCold (Cold.flt (.iface 46 (.pointer (some ⟨b, 0, none⟩))) pl k) _ HO.out.kept.size (fun b hb => (HO.out.hot_lt b (by rw [hot_box]; exact List.mem_cons_of_mem _ hb)).2) ⟨b, rfl, ⟨hbb, hblk.lt⟩, hblk⟩)
      have HR2 := Lib.hid hR
      clear hR hk hps hpr HR hbb hblk
      dsimp only
      (repeat' (first | (with_reducible first | refine oXt ?_ | refine oXb ?_) | ((with_reducible refine ib_miss ?_ ?_); exact rfl) | ((first | ((with_reducible refine to_load ?_); first | refine oL1 HO rfl rfl ?_ | refine oL2 HO rfl rfl ?_ | refine oL3 HO rfl rfl ?_) | ((first | with_reducible refine oAl HO ?_ | ((with_reducible refine to_box ?_); refine wo_box HO rfl rfl ?_)); clear HO; intro _ HO)); (try simp only [Act.put, pS0, pS1, pS2])) | ((first | ((with_reducible refine to_store ?_); first | refine oT1 HO rfl rfl rfl ?_ | refine oT2 HO rfl rfl rfl (by rfl) ?_ | refine oT3 HO rfl rfl rfl rfl ?_) | with_reducible refine ab_drew HO ?_); clear HO; intro _ HO) | ((with_reducible refine to_store ?_); first | (refine wo_storeR HO rfl rfl rfl rfl (by repeat (first | exact mH | apply mT)) (by repeat (first | exact cH | apply cT)) Try.sizeOf40 (by simp [Value.oneCell']) ?_; clear HO; intro _ HO) | (refine wo_storeF HO rfl rfl rfl rfl (by repeat (first | exact mH | apply mT)) (by repeat (first | exact cH | apply cT)) Try.sizeOf40 (by simp [Value.oneCell']) ?_; clear HO; intro _ HO)) | go_values | go_skip | go_guarded | go_step | go_upon | (go_ite <;> go_prune <;> (try go_simp))))
      replace HO := Lib.hid (HO.out.sub (List.Sublist.refl _) (List.nil_sublist _) (fun c hc => hc))
      refine leaves_cons (f := 9) (by simp) rfl ?_
      refine (catch_p HO).mono ?_
      rintro e u' w'' ⟨rfl, rfl, hO⟩
      refine ⟨_, res_run (Lib.hid hO) rfl rfl (by repeat (first | exact mH | apply mT)) (by repeat (first | exact mH | apply mT)), ?_⟩
      rw [← HR2.out]
      exact ⟨hO.kept.below, _, rfl, hO.flt (by repeat (first | exact mH | apply mT))⟩
  · refine e_beginH HO (by kernel_rfl) ?_
    clear HO
    intro _ HO
    refine e_pure (i := 0) (v := ?v0) rfl (by kernel_rfl) (by kernel_rfl) (by kernel_rfl) (by kernel_rfl) (fun _ a _ h => leaves_tmps (res_put a.tmps 13 _ (by decide) (by decide)) _ _ _ h) (by rfl) (OwnM.of HO (by repeat (first | exact mH | apply mT))) ?y0 ?r0
    case y0 => (intro wS; go_simp; (try with_reducible rfl))
    (try simp only [Act.put, pS0, pS1, pS2])
    refine e_loadM (i := 1) HO (by repeat (first | exact mH | apply mT)) rfl (by kernel_rfl) (by kernel_rfl) (by kernel_rfl) (by kernel_rfl) (by kernel_rfl) rfl rfl Try.isAgg29 (by rfl) (fun _ a _ h => leaves_tmps (res_put a.tmps 14 _ (by decide) (by decide)) _ _ _ h) (by rfl) ?_
    (try simp only [Act.put, pS0, pS1, pS2])
    refine e_one (i := 2) (by kernel_rfl) rfl (by kernel_rfl) (by rfl) (fun K hK => ?_)
    (with_reducible refine to_store ?_)
    (refine wo_store HO rfl rfl rfl rfl (by repeat (first | exact cH | apply cT)) Try.sizeOf27 (by rfl) (by rfl) (by simp [Value.oneCell']) ?_; clear HO; intro _ HO)
    refine hK.out _ _ (OwnM.of HO (by repeat (first | exact mH | apply mT))) ?_
    clear hK K
    (try simp only [Act.put, pS0, pS1, pS2])
    refine e_one (i := 3) (by kernel_rfl) rfl (by kernel_rfl) (by rfl) (fun K hK => ?_)
    (with_reducible refine to_store ?_)
    (refine wo_store1u HO rfl rfl rfl (by rfl) (by repeat (first | exact mH | apply mT)) (by (try simp only [List.set_cons_zero, List.set_cons_succ]); rfl) (by repeat (first | exact cH | apply cT)) Try.sizeOf29 (by simp) (by rfl) ?_; clear HO; intro _ HO)
    refine hK.out _ _ (OwnM.of HO (by repeat (first | exact mH | apply mT))) ?_
    clear hK K
    (try simp only [Act.put, pS0, pS1, pS2])
    refine ⟨(by kernel_rfl), ?_⟩
    (repeat' (first | (with_reducible first | refine oXt ?_ | refine oXb ?_) | ((with_reducible refine ib_miss ?_ ?_); exact rfl) | ((first | ((with_reducible refine to_load ?_); first | refine oL1 HO rfl rfl ?_ | refine oL2 HO rfl rfl ?_ | refine oL3 HO rfl rfl ?_) | ((first | with_reducible refine oAl HO ?_ | ((with_reducible refine to_box ?_); refine wo_box HO rfl rfl ?_)); clear HO; intro _ HO)); (try simp only [Act.put, pS0, pS1, pS2])) | ((first | ((with_reducible refine to_store ?_); first | refine oT1 HO rfl rfl rfl ?_ | refine oT2 HO rfl rfl rfl (by rfl) ?_ | refine oT3 HO rfl rfl rfl rfl ?_) | with_reducible refine ab_drew HO ?_); clear HO; intro _ HO) | ((with_reducible refine to_store ?_); first | (refine wo_storeR HO rfl rfl rfl rfl (by repeat (first | exact mH | apply mT)) (by repeat (first | exact cH | apply cT)) Try.sizeOf40 (by simp [Value.oneCell']) ?_; clear HO; intro _ HO) | (refine wo_storeF HO rfl rfl rfl rfl (by repeat (first | exact mH | apply mT)) (by repeat (first | exact cH | apply cT)) Try.sizeOf40 (by simp [Value.oneCell']) ?_; clear HO; intro _ HO)) | go_values | go_skip | go_guarded | go_step | go_upon | (go_ite <;> go_prune <;> (try go_simp))))
    have hR := HR.out
    unfold treeS at hR
    rw [HE.out] at hR
    dsimp only at hR
    subst hR
    refine ⟨_, res_run HO rfl rfl (by repeat (first | exact mH | apply mT)) (by repeat (first | exact mH | apply mT)), ?_⟩
    exact ⟨HO.out.kept.below, _, rfl, HO.out.flt (by repeat (first | exact mH | apply mT))⟩
open Go.RowKit
theorem nextL_shift {last last' : Option TokF} {a a' : Nat} {l : List Nat} {t : TokF} {n : Nat} (ho : operandL last = operandL last') (h : nextL last a l = .ok (t, n)) : ∃ t', nextL last' a' l = .ok (t', n) ∧ Alk t t' := by
  cases l with
  | nil => unfold nextL at h; cases h
  | cons c r =>
    unfold nextL at h ⊢
    dsimp only at h ⊢
    rw [← ho]
    by_cases h10 : c = 10
    · rw [if_pos h10] at h ⊢
      injection h with h; injection h with h1 h2; subst h1 h2
      exact ⟨_, rfl, rfl, rfl, rfl⟩
    · rw [if_neg h10] at h ⊢
      by_cases hd : isDig c = true ∨ (c = 46 ∧ isDig (r.getD 0 0) = true)
      · rw [if_pos hd] at h ⊢
        split at h
        · cases h
        · rename_i hx
          rw [if_neg hx]
          injection h with h; injection h with h1 h2; subst h1 h2
          exact ⟨_, rfl, rfl, rfl, rfl⟩
      · rw [if_neg hd] at h ⊢
        by_cases h34 : c = 34
        · rw [if_pos h34] at h ⊢
          cases hq : quotN 34 r with
          | none => rw [hq] at h; cases h
          | some m =>
            rw [hq] at h
            injection h with h; injection h with h1 h2; subst h1 h2
            exact ⟨_, rfl, rfl, rfl, rfl⟩
        · rw [if_neg h34] at h ⊢
          by_cases h47 : c = 47 ∧ operandL last = true
          · rw [if_pos h47] at h ⊢
            cases hq : quotN 47 r with
            | none => rw [hq] at h; cases h
            | some m =>
              rw [hq] at h
              injection h with h; injection h with h1 h2; subst h1 h2
              exact ⟨_, rfl, rfl, rfl, rfl⟩
          · rw [if_neg h47] at h ⊢
            by_cases hl : isLet c = true
            · rw [if_pos hl] at h ⊢
              injection h with h; injection h with h1 h2; subst h1 h2
              exact ⟨_, rfl, rfl, rfl, rfl⟩
            · rw [if_neg hl] at h ⊢
              split at h
              · cases h
              · rename_i hx
                rw [if_neg hx]
                injection h with h; injection h with h1 h2; subst h1 h2
                exact ⟨_, rfl, rfl, rfl, rfl⟩
theorem operandL_alk {t u : TokF} (h : Alk t u) : operandL (some t) = operandL (some u) := by unfold operandL; dsimp only; rw [h.1, h.2.1]
inductive AlkL : List TokF → List TokF → Prop
  | nil : AlkL [] []
  | cons {t u : TokF} {Y Y' : List TokF} : Alk t u → AlkL Y Y' → AlkL (t :: Y) (u :: Y')
theorem allF_shift : ∀ (f p : Nat) (l : List Nat) (ts0 us : List TokF) (f' p' : Nat) (us0 : List TokF), operandL ts0.getLast? = operandL us0.getLast? → l.length ≤ f → l.length ≤ f' → (∀ x ∈ l, x < 256) → allF f p l ts0 = .ok us → ∃ Y Y' : List TokF, us = ts0 ++ Y ∧ allF f' p' l us0 = .ok (us0 ++ Y') ∧ AlkL Y Y' := by
  intro f
  induction f with
  | zero =>
    intro p l ts0 us f' p' us0 ho hf hf' hb h
    obtain rfl : l = [] := List.length_eq_zero_iff.1 (by omega)
    rw [allF] at h
    injection h with h
    refine ⟨[⟨0, p, [], 0⟩], [⟨0, p', [], 0⟩], h.symm, ?_, .cons ⟨rfl, rfl, rfl⟩ .nil⟩
    cases f' with
    | zero => rw [allF]
    | succ g => rw [allF]; rfl
  | succ f ih =>
    intro p l ts0 us f' p' us0 ho hf hf' hb h
    rw [allF] at h
    have hle := passN_leQ l
    have hlen : (l.drop (passN l)).length = l.length - passN l := List.length_drop
    cases hd : l.drop (passN l) with
    | nil =>
      rw [hd] at h
      injection h with h
      refine ⟨[⟨0, p + l.length, [], 0⟩], [⟨0, p' + l.length, [], 0⟩], h.symm, ?_, .cons ⟨rfl, rfl, rfl⟩ .nil⟩
      cases f' with
      | zero =>
        obtain rfl : l = [] := List.length_eq_zero_iff.1 (by omega)
        rw [allF]; rfl
      | succ g => rw [allF, hd]
    | cons c r =>
      rw [hd] at h hlen
      dsimp only at h
      obtain ⟨g, rfl⟩ : ∃ g, f' = g + 1 := ⟨f' - 1, by simp at hlen; omega⟩
      cases hn : nextL ts0.getLast? (p + passN l) (c :: r) with
      | error e => rw [hn] at h; cases h
      | ok tn =>
        obtain ⟨t, n⟩ := tn
        rw [hn] at h
        dsimp only at h
        have hk := nextL_ok (fun x hx => hb x (by rw [← hd] at hx; exact List.mem_of_mem_drop hx)) hn
        obtain ⟨t', hn', hal⟩ := nextL_shift (a' := p' + passN l) ho hn
        have hlen2 : ((c :: r).drop n).length = l.length - passN l - n := by rw [List.length_drop, hlen]
        have hpos := hk.pos
        obtain ⟨Y, Y', h1, h2, h3⟩ := ih (p + passN l + n) ((c :: r).drop n) (ts0 ++ [t]) us g (p' + passN l + n) (us0 ++ [t']) (by simp [operandL_alk hal]) (by omega) (by omega) (fun x hx => hb x (by
          have := List.mem_of_mem_drop hx
          rw [← hd] at this
          exact List.mem_of_mem_drop this)) h
        refine ⟨t :: Y, t' :: Y', by rw [h1]; simp, ?_, .cons hal h3⟩
        rw [allF, hd]
        dsimp only
        rw [hn']
        dsimp only
        rw [h2]
        simp
theorem forall₂_get {Y Y' : List TokF} (h : AlkL Y Y') : ∀ i, Alk (tk Y i) (tk Y' i) := by
  induction h with
  | nil => intro i; exact ⟨rfl, rfl, rfl⟩
  | cons h1 _ ih =>
    intro i
    cases i with
    | zero => exact h1
    | succ i => exact ih i
theorem forall₂_len {Y Y' : List TokF} (h : AlkL Y Y') : Y.length = Y'.length := by
  induction h with
  | nil => rfl
  | cons _ _ ih => simp [ih]
theorem tk_left {A B : List TokF} {i : Nat} (h : i < A.length) : tk (A ++ B) i = tk A i := by unfold tk; rw [List.getD_eq_getElem?_getD, List.getD_eq_getElem?_getD, List.getElem?_append_left h]
theorem tk_right {A B : List TokF} (i : Nat) : tk (A ++ B) (A.length + i) = tk B i := by unfold tk; rw [List.getD_eq_getElem?_getD, List.getD_eq_getElem?_getD, List.getElem?_append_right (by omega), show A.length + i - A.length = i by omega]
theorem tk_mem {A : List TokF} {i : Nat} (h : i < A.length) : tk A i ∈ A := by rw [tk_eq h]; exact List.getElem_mem h
theorem TsE.of {A : List TokF} {e : TokF} (he : e.k = 0 ∧ e.s = [] ∧ e.z = 0) (hA : ∀ t ∈ A, t.k ≠ 0) : TsE (A ++ [e]) A.length := by
  refine ⟨by simp, ?_, fun i hi => ?_⟩
  · have : tk (A ++ [e]) A.length = e := by have := tk_right (A := A) (B := [e]) 0; rw [Nat.add_zero] at this; rw [this]; rfl
    rw [this]; exact he
  · rw [tk_left hi]; exact hA _ (tk_mem hi)
theorem joinsS {a b : List Nat} (ha : ∀ x ∈ a, x < 256) (hb : ∀ x ∈ b, x < 256) (hl : a.getLast? ≠ some 92) (hlen : (a ++ 10 :: b).length ≤ 16384) {T1 T2 : TreeT} (h1 : treeS a = .ok T1) (h2 : treeS b = .ok T2) : ∃ U, treeS (a ++ 10 :: b) = .ok U ∧ TR T1 T2 U := by
  unfold treeS at h1 h2
  cases l1 : lexS a with
  | error e => rw [l1] at h1; cases h1
  | ok ts =>
  cases l2 : lexS b with
  | error e => rw [l2] at h2; cases h2
  | ok ts2 =>
    rw [l1] at h1
    rw [l2] at h2
    dsimp only at h1 h2
    have hlen' : a.length + (b.length + 1) ≤ 16384 := by simpa using hlen
    obtain ⟨vs, e, rfl, he0, he1, he2, _, hvs⟩ := lexS_ok ha l1
    obtain ⟨vs2, e2, rfl, hf0, hf1, hf2, _, hvs2⟩ := lexS_ok hb l2
    have q1 : allF a.length 0 a [] = .ok (vs ++ [e]) := by unfold lexS at l1; rwa [if_neg (by omega)] at l1
    have q2 : allF b.length 0 b [] = .ok (vs2 ++ [e2]) := by unfold lexS at l2; rwa [if_neg (by omega)] at l2
    obtain ⟨A, g, hA, hg, hext⟩ := allF_ext b a.length 0 a [] _ (a ++ 10 :: b).length ha hl (Nat.le_refl _) (Nat.le_refl _) q1
    have hA' : vs = A ∧ e = ⟨0, 0 + a.length, [], 0⟩ := by
      have := List.append_inj' hA (by simp)
      exact ⟨by simpa using this.1, by simpa using this.2⟩
    obtain ⟨rfl, rfl⟩ := hA'
    obtain ⟨Y, Y', hY, hsh, hal⟩ := allF_shift b.length 0 b [] _ g (0 + a.length + 1) ([] ++ vs ++ [⟨1, 0 + a.length, [], 0⟩]) (by simp [operandL]) (Nat.le_refl _) hg hb q2
    obtain rfl : vs2 ++ [e2] = Y := by simpa using hY
    have l3 : lexS (a ++ 10 :: b) = .ok (vs ++ [⟨1, 0 + a.length, [], 0⟩] ++ Y') := by
      unfold lexS
      rw [if_neg (by omega), hext, hsh]
      simp
    have hYl := forall₂_len hal
    have hget := forall₂_get hal
    have hlast : Y'.length = vs2.length + 1 := by rw [← hYl]; simp
    have hU : TsE (vs ++ [⟨1, 0 + a.length, [], 0⟩] ++ Y') (vs.length + 1 + vs2.length) := by
      refine ⟨by simp; omega, ?_, fun i hi => ?_⟩
      · have h0 := hget vs2.length
        have h3 : tk (vs2 ++ [e2]) vs2.length = e2 := by have := tk_right (A := vs2) (B := [e2]) 0; rw [Nat.add_zero] at this; rw [this]; rfl
        rw [h3] at h0
        have h4 := tk_right (A := vs ++ [⟨1, 0 + a.length, [], 0⟩]) (B := Y') vs2.length
        rw [List.length_append, List.length_singleton] at h4
        rw [h4, ← h0.1, ← h0.2.1, ← h0.2.2]
        exact ⟨hf0, hf1, hf2⟩
      · rcases Nat.lt_or_ge i (vs.length + 1) with h5 | h5
        · rw [tk_left (by simp; omega)]
          rcases Nat.lt_or_ge i vs.length with h6 | h6
          · rw [tk_left h6]; exact (hvs _ (tk_mem h6)).k0
          · obtain rfl : i = vs.length := by omega
            have := tk_right (A := vs) (B := [(⟨1, 0 + a.length, [], 0⟩ : TokF)]) 0
            rw [Nat.add_zero] at this
            rw [this]
            show (1 : Nat) ≠ 0
            decide
        · have h4 := tk_right (A := vs ++ [⟨1, 0 + a.length, [], 0⟩]) (B := Y') (i - (vs.length + 1))
          rw [List.length_append, List.length_singleton, show vs.length + 1 + (i - (vs.length + 1)) = i by omega] at h4
          have h6 : i - (vs.length + 1) < vs2.length := by omega
          rw [h4, ← (hget _).1, tk_left h6]
          exact (hvs2 _ (tk_mem h6)).k0
    have hF : Fst (vs ++ [⟨0, 0 + a.length, [], 0⟩]) (vs ++ [⟨1, 0 + a.length, [], 0⟩] ++ Y') vs.length (vs.length + 1 + vs2.length) := by
      refine ⟨TsE.of ⟨rfl, rfl, rfl⟩ (fun t ht => (hvs t ht).k0), hU, by omega, fun i hi => ?_, ?_⟩
      · rw [List.append_assoc, tk_left hi, tk_left hi]
      · have := tk_right (A := vs) (B := [(⟨1, 0 + a.length, [], 0⟩ : TokF)] ++ Y') 0
        rw [Nat.add_zero] at this
        rw [List.append_assoc, this]
        exact ⟨rfl, rfl, rfl⟩
    have hM : Mvd (vs2 ++ [e2]) (vs ++ [⟨1, 0 + a.length, [], 0⟩] ++ Y') vs2.length (vs.length + 1 + vs2.length) (vs.length + 1) := by
      refine ⟨TsE.of ⟨hf0, hf1, hf2⟩ (fun t ht => (hvs2 t ht).k0), hU, rfl, fun i _ => ?_⟩
      have h4 := tk_right (A := vs ++ [⟨1, 0 + a.length, [], 0⟩]) (B := Y') i
      rw [List.length_append, List.length_singleton] at h4
      rw [h4]
      exact hget i
    cases p1 : parseT (vs ++ [⟨0, 0 + a.length, [], 0⟩]) with
    | err p k => rw [p1] at h1; cases h1
    | ok t1 b1 d1 =>
      cases p2 : parseT (vs2 ++ [e2]) with
      | err p k => rw [p2] at h2; cases h2
      | ok t2 b2 d2 =>
        rw [p1] at h1
        rw [p2] at h2
        injection h1 with h1
        injection h2 with h2
        subst h1 h2
        obtain ⟨U, bb, dd, hp, htr⟩ := join_parse hF hM p1 p2
        refine ⟨U, ?_, htr⟩
        unfold treeS
        rw [l3]
        dsimp only
        rw [hp]
open Go.RowKit
structure FewT (N M : Nat) (t : TreeT) : Prop where
  fn : t.funcs.length ≤ M
  rn : t.rules.length ≤ M
  f : ∀ x ∈ t.funcs, FewF N x
  r : ∀ x ∈ t.rules, FewR N x
section
variable {ts : List TokF} {p : Par} {N : Nat}
theorem few_head (hN : ts.length + 8 ≤ N) (h : PFew N p) (k a : Nat) : Res (FewR N) (headF ts p k a) := by
  unfold headF
  exact Res.any (fun _ => Res.bind (few_blockH hN h) (fun b hb => Res.pure ⟨FwL.nil, hb⟩))
theorem few_pattern (hN : ts.length + 8 ≤ N) (h : PFew N p) (a : Nat) : Res (FewR N) (patternF ts p a) := by
  unfold patternF
  refine Res.bind (few_exprH hN h) (fun x hx => ?_)
  refine Res.bind (P := fun q : Nat × List NodeT => FwL N 2 q.2) (Res.any (fun _ => Res.ite (Res.any (fun _ => Res.any (fun _ => Res.bind (few_exprH hN h) (fun y hy => Res.pure (FwL.cons hx (FwL.cons hy FwL.nil)))))) (Res.pure ((FwL.cons (M := 0) hx FwL.nil).mono (by omega))))) (fun q hq => Res.any (fun c => ?_))
  refine Res.ite ?_ ?_
  · exact Res.bind (few_blockH hN h) (fun b hb => Res.pure ⟨hq.mono (by omega), hb⟩)
  · exact Res.pure ⟨hq.mono (by omega), FwL.few (M := 0) FwL.nil (by omega)⟩
theorem few_rule (hN : ts.length + 8 ≤ N) (h : PFew N p) : Res (FewR N) (ruleF ts p) := by
  unfold ruleF
  repeat' (first | exact few_head hN h _ _ | exact few_pattern hN h _ | exact Res.bind (few_blockH hN h) (fun b hb => Res.pure ⟨FwL.nil, hb⟩) | with_reducible refine Res.ite ?_ ?_ | refine Res.any (fun _ => ?_))
theorem few_params (hN : ts.length + 8 ≤ N) : Res (fun l : List (List Nat) => l.length ≤ N) (paramsF ts) := by
  have hg : ∀ (f M : Nat) (l : List (List Nat)), l.length ≤ M → Res (fun l : List (List Nat) => l.length ≤ M + f) (iter (fun a => isS ts a [[44]]) (paramsS ts) f l) := by
    intro f
    induction f with
    | zero => intro M l hl; exact Res.pure hl
    | succ f ih =>
      intro M l hl a d y a' d' e
      rw [iter_step] at e
      split at e
      · have h1 : Res (fun l : List (List Nat) => l.length ≤ M + 1) (paramsS ts l) := by
          unfold paramsS
          exact Res.any (fun _ => Res.any (fun _ => Res.any (fun _ => Res.pure (by simp; omega))))
        have := (h1.bind fun z hz => ih (M + 1) z hz) a d y a' d' e
        dsimp only at this ⊢
        omega
      · have := Res.pure (P := fun l : List (List Nat) => l.length ≤ M) hl a d y a' d' e
        dsimp only at this ⊢
        omega
  unfold paramsF
  refine Res.any (fun _ => Res.ite (Res.any (fun _ => Res.pure (Nat.zero_le _))) (Res.any (fun x => Res.bind (hg ts.length 1 [x.s] (Nat.le_refl _)) (fun l hl => Res.any (fun _ => Res.pure (by omega))))))
theorem few_function (hN : ts.length + 8 ≤ N) (h : PFew N p) : Res (FewF N) (functionF ts p) := by
  unfold functionF
  exact Res.any (fun _ => Res.any (fun _ => Res.ite (Res.any (fun _ => Res.any (fun _ => Res.bind (few_params hN) (fun l hl => Res.any (fun _ => Res.bind (few_blockH hN h) (fun b hb => Res.pure ⟨hl, hb⟩)))))) (Res.fail _)))
theorem few_item (hN : ts.length + 8 ≤ N) (h : PFew N p) {M : Nat} {t : TreeT} (ht : FewT N M t) : Res (FewT N (M + 1)) (itemF ts p t) := by
  intro a d t1 a1 d1 e
  obtain ⟨a2, _, hi⟩ := item_inv e
  rcases hi with ⟨_, f, h1, rfl⟩ | ⟨_, r, h1, _, rfl⟩
  · have hf := few_function hN h _ _ _ _ _ h1
    exact ⟨by simp; exact ht.fn, Nat.le_succ_of_le ht.rn, fun x hx => (List.mem_append.1 hx).elim (ht.f x) (fun e => List.mem_singleton.1 e ▸ hf), ht.r⟩
  · have hr := few_rule hN h _ _ _ _ _ h1
    exact ⟨Nat.le_succ_of_le ht.fn, by simp; exact ht.rn, ht.f, fun x hx => (List.mem_append.1 hx).elim (ht.r x) (fun e => List.mem_singleton.1 e ▸ hr)⟩
theorem few_iter (hN : ts.length + 8 ≤ N) (h : PFew N p) : ∀ (f M : Nat) (t : TreeT), FewT N M t → Res (FewT N (M + f)) (iter (goP ts) (itemF ts p) f t)
  | 0, M, t, ht => Res.pure ht
  | f + 1, M, t, ht => by
    intro a d y a' d' e
    rw [iter_step] at e
    split at e
    · have := ((few_item hN h ht).bind fun z hz => few_iter hN h f (M + 1) z hz) a d y a' d' e
      exact ⟨by have := this.fn; omega, by have := this.rn; omega, this.f, this.r⟩
    · have := Res.pure (P := FewT N M) ht a d y a' d' e
      exact ⟨by have := this.fn; omega, by have := this.rn; omega, this.f, this.r⟩
theorem few_parse {T : TreeT} {b d : Nat} (hN : ts.length + 8 ≤ N) (hp : parseT ts = .ok T b d) : FewT N N T := by
  rw [parseT_eq] at hp
  have := few_iter hN (pfew_par hN 65) ts.length 0 nilT ⟨Nat.le_refl _, Nat.le_refl _, fun x hx => absurd hx List.not_mem_nil, fun x hx => absurd hx List.not_mem_nil⟩ _ _ _ _ _ hp
  exact ⟨by have := this.fn; omega, by have := this.rn; omega, this.f, this.r⟩
theorem few_tree {src : List Nat} {T : TreeT} (hb : ∀ x ∈ src, x < 256) (h : treeS src = .ok T) : FewT 20000 20000 T := by
  unfold treeS at h
  cases l1 : lexS src with
  | error e => rw [l1] at h; cases h
  | ok ts =>
    rw [l1] at h
    dsimp only at h
    obtain ⟨vs, e, rfl, _, _, _, hl, _⟩ := lexS_ok hb l1
    cases p1 : parseT (vs ++ [e]) with
    | err p k => rw [p1] at h; cases h
    | ok t b d =>
      rw [p1] at h
      injection h with h
      subst h
      exact few_parse (by simp; omega) p1
end
open Go.RowKit
theorem passS_more (W : List Nat) (hW : W.getD 0 0 ≠ 10) : ∀ (l : List Nat) (b : Bool), passS b l < l.length → passS b (l ++ W) = passS b l
  | [], b, h => absurd h (by simp)
  | c :: r, true, h => by
    rw [passS] at h
    rw [List.cons_append, passS, passS, passS_more W hW r false (by simpa using h)]
  | c :: r, false, h => by
    rw [passS] at h
    rw [List.cons_append, passS, passS]
    by_cases h1 : c = 9 ∨ c = 13 ∨ c = 32
    · rw [if_pos h1] at h ⊢
      rw [if_pos h1, passS_more W hW r false (by simpa using h)]
    · rw [if_neg h1] at h ⊢
      rw [if_neg h1]
      by_cases h2 : c = 92
      · rw [if_pos h2] at h ⊢
        rw [if_pos h2]
        by_cases h3 : r.getD 0 0 = 10
        · rw [if_pos h3] at h ⊢
          cases r with
          | nil => simp at h3
          | cons d r =>
            have e : ((d :: r) ++ W).getD 0 0 = (d :: r).getD 0 0 := rfl
            rw [e, if_pos h3, passS_more W hW (d :: r) true (by simpa using h)]
        · rw [if_neg h3]
          cases r with
          | nil => rw [List.nil_append, if_neg hW]
          | cons d r =>
            have e : ((d :: r) ++ W).getD 0 0 = (d :: r).getD 0 0 := rfl
            rw [e, if_neg h3]
      · rw [if_neg h2] at h ⊢
        rw [if_neg h2]
        by_cases h3 : c = 35
        · rw [if_pos h3] at h ⊢
          rw [if_pos h3, List.takeWhile_append, if_neg (by simp only [List.length_cons] at h; omega)]
        · rw [if_neg h3, if_neg h3]
def tailW : List Nat := [32, 35, 32, 125]
theorem passS_full : ∀ (l : List Nat) (b : Bool), passS b l = l.length → passS b (l ++ tailW) = l.length + 4
  | [], b, h => by cases b <;> rfl
  | c :: r, true, h => by
    rw [passS] at h
    rw [List.cons_append, passS, passS_full r false (by simpa using h)]
    simp <;> omega
  | c :: r, false, h => by
    rw [passS] at h
    rw [List.cons_append, passS]
    by_cases h1 : c = 9 ∨ c = 13 ∨ c = 32
    · rw [if_pos h1] at h ⊢
      rw [passS_full r false (by simpa using h)]
      simp <;> omega
    · rw [if_neg h1] at h ⊢
      by_cases h2 : c = 92
      · rw [if_pos h2] at h ⊢
        by_cases h3 : r.getD 0 0 = 10
        · rw [if_pos h3] at h
          cases r with
          | nil => simp at h3
          | cons d r =>
            have e : ((d :: r) ++ tailW).getD 0 0 = (d :: r).getD 0 0 := rfl
            rw [e, if_pos h3, passS_full (d :: r) true (by simpa using h)]
            simp <;> omega
        · rw [if_neg h3] at h
          simp at h
      · rw [if_neg h2] at h ⊢
        by_cases h3 : c = 35
        · rw [if_pos h3] at h ⊢
          rw [List.takeWhile_append, if_pos (by simp only [List.length_cons] at h; omega)]
          have : tailW.takeWhile (· ≠ 10) = tailW := by decide
          rw [this]
          simp [tailW]; omega
        · rw [if_neg h3] at h
          simp at h
structure Tl (W : List Nat) : Prop where
  hd : ∃ V, W = 32 :: V
  q34 : ∀ e, quotS 34 e W = none
  q47 : ∀ e, quotS 47 e W = none
theorem tl_tail : Tl tailW := ⟨⟨_, rfl⟩, by decide, by decide⟩
theorem tl_line (es : List Nat) : Tl (tailW ++ 10 :: es) := ⟨⟨_, rfl⟩, fun e => by cases e <;> simp [tailW, quotS], fun e => by cases e <;> simp [tailW, quotS]⟩
theorem quotS_tail {sign : Nat} {W : List Nat} (hW : ∀ e, quotS sign e W = none) : ∀ (r : List Nat) (e : Bool), quotS sign e (r ++ W) = quotS sign e r
  | [], e => by rw [List.nil_append, hW]; cases e <;> rfl
  | c :: r, e => by
    rw [List.cons_append, quotS, quotS, quotS_tail hW r, quotS_tail hW r]
theorem numL_tl {W : List Nat} (hW : Tl W) (l : List Nat) : numL (l ++ W) = numL l := by
  obtain ⟨V, rfl⟩ := hW.hd
  have h1 : ((l ++ 32 :: V).takeWhile isDig) = l.takeWhile isDig := tw_ext (by rfl) V l
  have h2 : (l.takeWhile isDig).length ≤ l.length := (List.takeWhile_prefix _).length_le
  unfold numL
  dsimp only
  rw [h1, List.drop_append_of_le_length h2]
  cases hd : l.drop (l.takeWhile isDig).length with
  | nil => rfl
  | cons x r =>
    rw [List.cons_append]
    have h3 : ((r ++ 32 :: V).takeWhile isDig) = r.takeWhile isDig := tw_ext (by rfl) V r
    split
    · rename_i r' e
      injection e with e1 e2
      subst e1 e2
      rw [h3]
      rfl
    · rename_i hne
      split
      · rename_i r' e
        injection e with e1 e2
        exact absurd (by rw [e1]) (hne _)
      · rfl
theorem nameN_tl {W : List Nat} (hW : Tl W) (l : List Nat) : nameN (l ++ W) = nameN l := by
  obtain ⟨V, rfl⟩ := hW.hd
  unfold nameN
  rw [tw_ext (p := fun c => isLet c || isDig c) (by rfl) V l]
theorem nameK_tl {W : List Nat} (hW : Tl W) (l : List Nat) : nameK (l ++ W) = nameK l := by
  unfold nameK
  rw [nameN_tl hW, List.take_append_of_le_length (nameN_le l), List.drop_append_of_le_length (nameN_le l)]
  obtain ⟨V, rfl⟩ := hW.hd
  cases l.drop (nameN l) with
  | nil => simp
  | cons x r => rfl
theorem dbl_sp (c : Nat) : [c, 32] ∉ doubleL := by
  intro h
  simp [doubleL] at h
theorem signN_tl {W : List Nat} (hW : Tl W) (c : Nat) (r : List Nat) : signN (c :: r ++ W) = signN (c :: r) := by
  obtain ⟨V, rfl⟩ := hW.hd
  unfold signN
  cases r with
  | nil => simp [dbl_sp]
  | cons d r => simp
theorem nextL_tl {W : List Nat} (hW : Tl W) (last : Option TokF) (a c : Nat) (r : List Nat) : nextL last a (c :: r ++ W) = nextL last a (c :: r) := by
  have hn := numL_tl hW (c :: r)
  have hk := nameK_tl hW (c :: r)
  have hm := nameN_tl hW (c :: r)
  have hs := signN_tl hW c r
  have t1 : (c :: r ++ W).take (numL (c :: r)) = (c :: r).take (numL (c :: r)) := List.take_append_of_le_length (numL_le' _)
  have t2 : (c :: r ++ W).take (nameN (c :: r)) = (c :: r).take (nameN (c :: r)) := List.take_append_of_le_length (nameN_le _)
  have t3 : (c :: r ++ W).take (signN (c :: r)) = (c :: r).take (signN (c :: r)) := List.take_append_of_le_length (signN_le _ _)
  have hg : isDig ((r ++ W).getD 0 0) = isDig (r.getD 0 0) := by
    obtain ⟨V, rfl⟩ := hW.hd
    cases r <;> rfl
  have hq1 : quotN 34 (r ++ W) = quotN 34 r := quotS_tail hW.q34 r false
  have hq2 : quotN 47 (r ++ W) = quotN 47 r := quotS_tail hW.q47 r false
  rw [List.cons_append] at hn hk hm hs t1 t2 t3 ⊢
  unfold nextL
  dsimp only
  rw [hn, hk, hm, hs, t1, t2, t3, hg, hq1, hq2]
  have a1 : ∀ k, quotN 34 r = some k → (r ++ W).take k = r.take k := fun k hq => by
    have hlt := quotS_lt 34 r false k hq
    rw [List.take_append_of_le_length (by omega)]
  have a2 : ∀ k, quotN 47 r = some k → (r ++ W).take k = r.take k := fun k hq => by
    have hlt := quotS_lt 47 r false k hq
    rw [List.take_append_of_le_length (by omega)]
  cases h34 : quotN 34 r with
  | none =>
    cases h47 : quotN 47 r with
    | none => rfl
    | some k => dsimp only; rw [a2 k h47]
  | some k =>
    cases h47 : quotN 47 r with
    | none => dsimp only; rw [a1 k h34]
    | some k2 => dsimp only; rw [a1 k h34, a2 k2 h47]
theorem allF_bad {W : List Nat} (hW : Tl W) : ∀ (f p : Nat) (l : List Nat) (ts0 : List TokF) (x : Nat × Int) (f' : Nat), (∀ x ∈ l, x < 256) → l.length ≤ f → l.length ≤ f' → allF f p l ts0 = .error x → allF f' p (l ++ W) ts0 = .error x := by
  intro f
  induction f with
  | zero => intro p l ts0 x f' _ _ _ h; rw [allF] at h; cases h
  | succ f ih =>
    intro p l ts0 x f' hb hf hf' h
    have hle := passN_leQ l
    rw [allF] at h
    have hlen : (l.drop (passN l)).length = l.length - passN l := List.length_drop
    cases hd : l.drop (passN l) with
    | nil => rw [hd] at h; cases h
    | cons c r =>
      rw [hd] at h hlen
      have hlt : passN l < l.length := by simp at hlen; omega
      obtain ⟨g, rfl⟩ : ∃ g, f' = g + 1 := ⟨f' - 1, by omega⟩
      have hp : passN (l ++ W) = passN l := passS_more W (by obtain ⟨V, rfl⟩ := hW.hd; show (32 : Nat) ≠ 10; decide) l false hlt
      rw [allF, hp, List.drop_append_of_le_length hle, hd]
      have hn2 := nextL_tl hW ts0.getLast? (p + passN l) c r
      rw [List.cons_append] at hn2 ⊢
      dsimp only at h ⊢
      rw [hn2]
      cases hn : nextL ts0.getLast? (p + passN l) (c :: r) with
      | error e => rw [hn] at h; exact h
      | ok tn =>
        obtain ⟨t, n⟩ := tn
        rw [hn] at h
        dsimp only at h ⊢
        have hsub : (c :: r).drop n = l.drop (passN l + n) := by rw [← hd, List.drop_drop]
        have hk := nextL_ok (fun x hx => hb x (by rw [← hd] at hx; exact List.mem_of_mem_drop hx)) hn
        have hlen2 : ((c :: r).drop n).length = l.length - passN l - n := by rw [List.length_drop, hlen]
        have hpos := hk.pos
        rw [← List.cons_append, List.drop_append_of_le_length hk.le]
        exact ih _ _ _ _ g (fun x hx => hb x (by rw [hsub] at hx; exact List.mem_of_mem_drop hx)) (by omega) (by omega) h
theorem allF_tail : ∀ (f p : Nat) (l : List Nat) (ts0 us : List TokF) (f' : Nat), (∀ x ∈ l, x < 256) → l.length ≤ f → l.length + 4 ≤ f' → allF f p l ts0 = .ok us → ∃ A, us = ts0 ++ A ++ [⟨0, p + l.length, [], 0⟩] ∧ allF f' p (l ++ tailW) ts0 = .ok (ts0 ++ A ++ [⟨0, p + l.length + 4, [], 0⟩]) := by
  intro f
  induction f with
  | zero =>
    intro p l ts0 us f' hb hf hf' h
    obtain rfl : l = [] := List.length_eq_zero_iff.1 (by omega)
    rw [allF] at h
    injection h with h
    obtain ⟨g, rfl⟩ : ∃ g, f' = g + 1 := ⟨f' - 1, by omega⟩
    refine ⟨[], by rw [← h]; simp, ?_⟩
    rw [List.nil_append, allF, show passN tailW = 4 from rfl]
    simp [tailW]
  | succ f ih =>
    intro p l ts0 us f' hb hf hf' h
    have hle := passN_leQ l
    obtain ⟨g, rfl⟩ : ∃ g, f' = g + 1 := ⟨f' - 1, by omega⟩
    rw [allF] at h
    have hlen : (l.drop (passN l)).length = l.length - passN l := List.length_drop
    cases hd : l.drop (passN l) with
    | nil =>
      rw [hd] at h hlen
      injection h with h
      have hpl : passN l = l.length := by simp at hlen; omega
      refine ⟨[], by rw [← h]; simp, ?_⟩
      have hp : passN (l ++ tailW) = l.length + 4 := passS_full l false hpl
      rw [allF, hp, List.drop_eq_nil_of_le (by simp [tailW])]
      simp [tailW]; omega
    | cons c r =>
      rw [hd] at h hlen
      have hlt : passN l < l.length := by simp at hlen; omega
      have hp : passN (l ++ tailW) = passN l := passS_more tailW (by decide) l false hlt
      rw [allF, hp, List.drop_append_of_le_length hle, hd]
      have hn2 := nextL_tl tl_tail ts0.getLast? (p + passN l) c r
      rw [List.cons_append] at hn2 ⊢
      dsimp only at h ⊢
      rw [hn2]
      cases hn : nextL ts0.getLast? (p + passN l) (c :: r) with
      | error e => rw [hn] at h; cases h
      | ok tn =>
        obtain ⟨t, n⟩ := tn
        rw [hn] at h
        dsimp only at h ⊢
        have hsub : (c :: r).drop n = l.drop (passN l + n) := by rw [← hd, List.drop_drop]
        have hk := nextL_ok (fun x hx => hb x (by rw [← hd] at hx; exact List.mem_of_mem_drop hx)) hn
        have hlen2 : ((c :: r).drop n).length = l.length - passN l - n := by rw [List.length_drop, hlen]
        have hpos := hk.pos
        have hkle := hk.le
        rw [← List.cons_append, List.drop_append_of_le_length hk.le]
        obtain ⟨A, h1, h2⟩ := ih (p + passN l + n) ((c :: r).drop n) (ts0 ++ [t]) us g (fun x hx => hb x (by rw [hsub] at hx; exact List.mem_of_mem_drop hx)) (by omega) (by omega) h
        have e : p + passN l + n + ((c :: r).drop n).length = p + l.length := by rw [hlen2]; rw [hlen] at hkle; omega
        rw [e] at h1 h2
        exact ⟨t :: A, by rw [h1]; simp, by rw [h2]; simp⟩
open Go.RowKit
def src1 : List Nat := [36, 49, 32, 62, 32, 50, 32, 123, 32, 112, 114, 105, 110, 116, 32, 36, 50, 32, 125]
def src2 : List Nat := [123, 32, 97, 32, 61, 32, 98, 32, 99, 32, 43, 32, 49, 32, 125]
def rule1 : RuleT := ⟨6, 0, [.mk 13 0 [62] 0 0 [.mk 6 0 [] 0 0 [.mk 1 1 [] 1000000 0 []], .mk 1 5 [] 2000000 0 []]], .mk 41 7 [] 0 0 [.mk 53 9 [112, 114, 105, 110, 116] 0 0 [.mk 6 15 [] 0 0 [.mk 1 16 [] 2000000 0 []]]], false⟩
def asg2 : NodeT := .mk 7 2 [61] 0 0 [.mk 4 2 [97] 0 0 [], .mk 14 6 [] 0 0 [.mk 4 6 [98] 0 0 [], .mk 15 8 [43] 0 0 [.mk 4 8 [99] 0 0 [], .mk 1 12 [] 1000000 0 []]]]
def rule2 : RuleT := ⟨5, 0, [], .mk 41 0 [] 0 0 [.mk 54 2 [] 0 0 [asg2]], false⟩
theorem tree1 : treeS src1 = .ok ⟨[], [rule1]⟩ := by kernel_rfl
theorem tree2 : treeS src2 = .ok ⟨[], [rule2]⟩ := by kernel_rfl
open Go.RowKit
def Cold.at (b o : Nat) (cs : List Value) : Cold := ⟨fun w F => F b ∧ w.rangeAt b o cs, fun w w' F F' hF h => ⟨(hF b h.1).1, fun i v hv => (World.cell?_of_block (hF b h.1).2).trans (h.2 i v hv)⟩⟩
class Ca (F : List Cold) (b k : Nat) (v : outParam Value) : Prop where
  m : ∃ o i cs, Cold.at b o cs ∈ F ∧ k = o + i ∧ cs[i]? = some v
class Cb (F : List Cold) (b k n : Nat) (s : outParam (List Value)) : Prop where
  m : ∃ o i cs, Cold.at b o cs ∈ F ∧ k = o + i ∧ (cs.drop i).take n = s ∧ s.length = n
section
variable {F : List Cold} {c : Cold} {b o i k n : Nat} {v : Value} {cs s : List Value}
instance (priority := low) [h : Ca F b k v] : Ca (c :: F) b k v := ⟨(by obtain ⟨o, i, cs, m, e⟩ := h.m; exact ⟨o, i, cs, .tail _ m, e⟩)⟩
instance [g : Gt cs i v] : Ca (Cold.at b o cs :: F) b (o + i) v := ⟨⟨o, i, cs, .head _, rfl, g.g⟩⟩
instance : Ca (Cold.at b o (v :: cs) :: F) b o v := ⟨⟨o, 0, v :: cs, .head _, rfl, rfl⟩⟩
instance [g : Gt cs k v] : Ca (Cold.at b 0 cs :: F) b k v := ⟨⟨0, k, cs, .head _, (by omega), g.g⟩⟩
instance (priority := low) [h : Cb F b k n s] : Cb (c :: F) b k n s := ⟨(by obtain ⟨o, i, cs, m, e⟩ := h.m; exact ⟨o, i, cs, .tail _ m, e⟩)⟩
instance [g : Sb cs i n s] : Cb (Cold.at b o cs :: F) b (o + i) n s := ⟨⟨o, i, cs, .head _, rfl, g.t, g.n⟩⟩
instance [g : Tk cs n s] : Cb (Cold.at b o cs :: F) b o n s := ⟨⟨o, 0, cs, .head _, rfl, g.t, g.n⟩⟩
instance [g : Sb cs k n s] : Cb (Cold.at b 0 cs :: F) b k n s := ⟨⟨0, k, cs, .head _, (by omega), g.t, g.n⟩⟩
end
section
variable {o : Oper} {a : Act} {w0 w : World} {X : List Nat} {S : World → Prop} {bs : List Bx} {rs : List Rw} {F : List Cold} {K : Act → World → Prop} {Q : Exit → Act → World → Prop} {T : Ending → World → Prop}
theorem oC1 (HO : Hid (Own w0 X S bs rs F w)) {ty : TypeId} {x : Operand} (ho : o.op = .load ty x) {b k : Nat} (hx : a.eval x = .pointer (some ⟨b, k, none⟩)) {v : Value} [T : T1 ty] [m : Ca F b k v] (h : K (a.put o.dst v) w) : WOp Try.prog o a w K Q := by
  obtain ⟨o', i, cs, hm, rfl, hv⟩ := m.m
  have hl : w.cell? ⟨b, o' + i, none⟩ = some v := (HO.out.cold _ hm).2 i v hv
  have hd := T.a
  unfold WOp Oper.wp execOp
  simp only [ho, hx, Instr.loadAt, Instr.sureAddr, Sem.run_bind, Sem.run_pure, Result.andThen_ok, loadVar, hd w, Bool.false_eq_true, if_false, run_load, hl]
  exact h
theorem oC2 (HO : Hid (Own w0 X S bs rs F w)) {ty : TypeId} {x : Operand} (ho : o.op = .load ty x) {b k : Nat} (hx : a.eval x = .pointer (some ⟨b, k, none⟩)) {n : Nat} {s : List Value} [T : TN ty n] [m : Cb F b k n s] (h : K (a.put o.dst (.agg s.toArray)) w) : WOp Try.prog o a w K Q := by
  obtain ⟨o', i, cs, hm, rfl, hv, hn⟩ := m.m
  have hl : (loadCells ⟨b, o' + i, none⟩ n).run Try.prog w = .ok s.toArray w := by
    rw [← hn]
    refine run_loadCells_list (P := Try.prog) w ⟨b, o' + i, none⟩ s (fun j v hs => ?_)
    rw [Addr.add_mid, Nat.add_assoc]
    refine (HO.out.cold _ hm).2 (i + j) v ?_
    rw [← hv, List.getElem?_take] at hs
    split at hs
    · rw [List.getElem?_drop] at hs; exact hs
    · cases hs
  have hd := T.a
  have hz := T.s
  unfold WOp Oper.wp execOp
  simp only [ho, hx, Instr.loadAt, Instr.sureAddr, Sem.run_bind, Sem.run_pure, Result.andThen_ok, loadVar, hd w, if_true, hz w, hl]
  exact h
theorem arm_parse {KF : FuncId} {args : Array Value} {src : List Nat} {A : Option Addr} {c : Nat} (HO : Hid (Own w0 [] S bs rs F w)) (hr : Hid (RB w w.heap.size A src)) (hc : src.length ≤ c) (hlen : src.length ≤ 1000000) (hK : KF = 6) (hargs : args = #[.slice A src.length c])
    (herr : ∀ p k b W, Hid (treeS src = .error (p, k)) → Hid (Own w0 [] S bs rs (Cold.flt (.iface 46 (.pointer (some ⟨b, 0, none⟩))) p k :: F) W) → T (.returned (.tuple #[.agg #[.slice none 0 0, .slice none 0 0], .iface 46 (.pointer (some ⟨b, 0, none⟩))])) W)
    (hok : ∀ fe re A' c1 B' c2 W, Hid (treeS src = .ok ⟨fe.map (·.1), re.map (·.1)⟩) → Hid (fe.length ≤ c1 ∧ re.length ≤ c2) → Hid (Own w0 [] S bs rs (Cold.tree A' B' fe re :: F) W) → T (.returned (.tuple #[.agg #[.slice A' fe.length c1, .slice B' re.length c2], .nilIface])) W) : Calls Try.prog KF args w T := by
  subst hK hargs
  refine (parse_r A c w w.heap.size (Nat.le_refl _) hr.out hc hlen hr.out.1).mono fun e W hp => ?_
  obtain ⟨q, hp⟩ := hp
  cases hl : treeS src with
  | error pk =>
    obtain ⟨p, k⟩ := pk
    rw [hl] at hp
    obtain ⟨v, rfl, b, rfl, hb, hk⟩ := hp
    exact herr p k b W (Lib.hid hl) (Lib.hid ((HO.out.next q).addCold (Cold.flt (.iface 46 (.pointer (some ⟨b, 0, none⟩))) p k) w.heap.size HO.out.kept.size (fun b hb => (HO.out.hot_lt b hb).2) ⟨b, rfl, ⟨hb, hk.lt⟩, hk⟩))
  | ok t =>
    rw [hl] at hp
    obtain ⟨fe, re, A', c1, B', c2, rfl, rfl, h1, h2, ht⟩ := hp
    exact hok fe re A' c1 B' c2 W (Lib.hid hl) (Lib.hid ⟨h1, h2⟩) (Lib.hid ((HO.out.next q).addCold (Cold.tree A' B' fe re) w.heap.size HO.out.kept.size (fun b hb => (HO.out.hot_lt b hb).2) ht))
end
end Go.Proofs.Ytdiibenofbcfnaa
