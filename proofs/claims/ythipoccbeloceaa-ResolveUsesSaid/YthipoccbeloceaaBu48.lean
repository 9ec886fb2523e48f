/- Several texts put together: RwG, RwH, RwI, RwJ, RwK. -/
import Derived.Test.YthipoccbeloceaaBu47
import Derived.Test.YthipoccbeloceaaBu45
import Derived.Test.YthipoccbeloceaaBu42
import Derived.Test.YthipoccbeloceaaBu19
set_option linter.unusedSimpArgs false
set_option linter.unusedVariables false
namespace Go.Proofs.Ythipoccbeloceaa
open Go.RowKit
def readS (src : List Nat) : Option TreeT :=
  if 600 < src.length then none else match lexS src with
  | .error _ => none
  | .ok ts => match rparse ts with
    | .ok t _ => some t
    | .err _ _ => none
def ReadPost (src : List Nat) (w : World) (e : Ending) (w' : World) : Prop :=
  Below w.heap.size w w' ∧ match readS src with
  | none => e = .returned (.tuple #[.agg #[.slice none 0 0, .slice none 0 0], .bool false])
  | some t => ∃ AF nF cF AR nR cR, e = .returned (.tuple #[.agg #[.slice AF nF cF, .slice AR nR cR], .bool true]) ∧ TrAt w' (fun b => w.heap.size ≤ b ∧ b < w'.heap.size) AF AR nF nR t ∧ tsz t ≤ 200000 ∧ PaK 100000 t
theorem lexS_ts {src : List Nat} {ts : List TokF} (hb : ∀ x ∈ src, x < 256) (h : lexS src = .ok ts) : TsOk ts ∧ 0 < ts.length := by
  obtain ⟨vs, e, hts, he0, he1, _, hvl, hvs⟩ := lexS_ok hb h
  refine ⟨by rw [hts]; exact TsOk.of he0 he1 hvl hvs, by rw [hts]; simp⟩
theorem rs_of {w : World} {ts : List TokF} {A : Option Addr} {c : Nat} (h : RowAt w (fun b => b < w.heap.size) A (ts.flatMap tokC)) (hc : ts.length ≤ c) (h0 : 0 < ts.length) (ok : TsOk ts) : ∃ b, A = some ⟨b, 0, none⟩ ∧ RS b c ts w.heap.size w := by
  have hne : ts.flatMap tokC ≠ [] := fun e => by
    have := flat_len tokC 6 ts (fun _ _ => rfl)
    rw [e] at this
    simp only [List.length_nil] at this
    omega
  obtain ⟨b, e, hb, hcl⟩ := h hne
  refine ⟨b, e, hb, Nat.le_refl _, fun k hk j u hu => ?_, hc, h0, ok⟩
  have e1 : tk ts k = ts[k] := by unfold tk; rw [List.getD_eq_getElem?_getD, List.getElem?_eq_getElem hk]; rfl
  refine hcl _ u (flat_get tokC 6 ts k j (tk ts k) u (fun _ _ => rfl) (by rw [e1]; exact List.getElem?_eq_getElem hk) hu)
theorem rs_now {w0 w : World} {X : List Nat} {S : World → Prop} {bs : List Bx} {rs : List Rw} {F : List Cold} {ts : List TokF} {b c : Nat} (HO : Hid (Own w0 X S bs rs (Cold.row (some ⟨b, 0, none⟩) (ts.flatMap tokC) :: F) w)) (hc : ts.length ≤ c) (h0 : 0 < ts.length) (ok : TsOk ts) : RS b c ts w.heap.size w := by
  obtain ⟨b', e, h⟩ := rs_of (RowAt.st (fun b hb => ⟨hb.2.1, rfl⟩) (HO.out.cold _ List.mem_cons_self)) hc h0 ok
  cases e
  exact h
instance iHsC {α : Type} {l m : List α} {y : α} [h : Hs l m] : Hs (y :: l) (y :: m) := ⟨fun x hx => by
  rcases List.mem_cons.1 hx with rfl | hx
  · exact List.mem_cons_self
  · exact List.mem_cons_of_mem _ (h.h x hx)⟩
theorem tBf {id : Nat} {ops : Array Oper} {Q : Exit → Act → World → Prop} {a : Act} {w0 w : World} {X : List Nat} {S : World → Prop} {x : Bx} {bs : List Bx} {rs : List Rw} {F : List Cold} (HO : Hid (Own w0 X S (x :: bs) rs F w)) (late : List Nat) (plan : PlanT) (h : ∀ W, Hid (Own w0 X S (x :: bs) rs F W) → wpT w0 X SPa [x] [] late plan ops Q ops.size (Array.replicate ops.size false) a W) : (Code.region id ops true).wp Try.prog Q a w := e_start _ late mixed (h _ (Lib.hid HO.out.drew)).h
theorem tree_cold {w0 w W : World} {X : List Nat} {S : World → Prop} {bs : List Bx} {rs : List Rw} {F : List Cold} {A B : Option Addr} {fe : List ElF} {re : List ElR} (HO : Hid (Own w0 X S bs rs F w)) (q : Below w.heap.size w W) (hT : TreeAt W (fun b => False ∨ (w.heap.size ≤ b ∧ b < W.heap.size)) A B fe re) : Own w0 X S bs rs (Cold.tree A B fe re :: F) W :=
  (HO.out.next q).addCold (Cold.tree A B fe re) w.heap.size HO.out.kept.size (fun b hb => (HO.out.hot_lt b hb).2) (TreeAt.st (fun b hb => ⟨hb.elim False.elim id, rfl⟩) hT)
set_option maxRecDepth 100000 in
set_option maxHeartbeats 3200000 in
theorem read_law {src : List Nat} {A : Option Addr} {c : Nat} (w : World) (hr : RB w w.heap.size A src) (hc : src.length ≤ c) : Calls Try.prog 5 #[.slice A src.length c] w (ReadPost src w) := by
  obtain ⟨R, hR⟩ : ∃ R, readS src = R := ⟨_, rfl⟩
  unfold ReadPost
  rw [hR]
  unfold readS at hR
  have HR := Lib.hid hR
  have HRB := Lib.hid hr
  have HO := own_0 w
  clear hR hr
  go_enter Try.func5, Try.ntmps5
  by_cases hbig : 600 < src.length
  · have hd : decide ((src.length : Int) > 600) = true := decide_eq_true (by omega)
    have hr2 := HR.out
    rw [if_pos hbig] at hr2
    subst hr2
    clear HR
    (repeat' (first | ((with_reducible refine zG ?_); first | refine oWx ?_ | (refine oWs ?_; clear HO; intro _ HO)) | go_values | go_skip | go_guarded | go_step | go_upon | (go_ite <;> go_prune <;> (try go_simp))))
    refine bp_ct HO (t := 2) (u := 3) (ty := 27) rfl rfl rfl rfl ?_
    exact ⟨HO.out.kept.below, rfl⟩
  · have hd : decide ((src.length : Int) > 600) = false := decide_eq_false (by omega)
    have hlen : src.length ≤ 1000000 := by omega
    have hr2 := HR.out
    rw [if_neg hbig] at hr2
    replace HR := Lib.hid hr2
    clear hr2
    (repeat' (first | ((with_reducible refine zG ?_); first | refine oWx ?_ | (refine oWs ?_; clear HO; intro _ HO)) | ((go_big_may; first | (refine arm_all HO (Nat.le_refl _) HRB rfl hc hlen rfl rfl ?_ ?_ <;> clear HO)) <;> (try dsimp only)) | go_values | go_skip | go_guarded | go_step | go_upon | (go_ite <;> go_prune <;> (try go_simp))))
    case refine_2 =>
      intro p k b W hl HO
      have hr2 := HR.out
      rw [hl.out] at hr2
      dsimp only at hr2
      subst hr2
      clear HR
      (try dsimp only)
      (repeat' (first | ((with_reducible refine zG ?_); first | refine oWx ?_ | (refine oWs ?_; clear HO; intro _ HO)) | go_values | go_skip | go_guarded | go_step | go_upon | (go_ite <;> go_prune <;> (try go_simp))))
      refine bp_ct HO (t := 2) (u := 3) (ty := 27) rfl rfl rfl rfl ?_
      exact ⟨HO.out.kept.below, rfl⟩
    case refine_1 =>
      intro ts A' c' W hl hc' HO
      obtain ⟨hok, h0⟩ := lexS_ts HRB.out.1 hl.out
      obtain ⟨A7, c7, e7, hc7, hO⟩ := HO.out.freezeG (by intro h; dsimp only at h ⊢; rw [List.length_eq_zero_iff] at h; rw [h]; rfl)
      injection e7 with x1 x2 x3
      subst x1 x3
      obtain ⟨b, e, _⟩ := rs_of (RowAt.st (fun b hb => ⟨hb.2.1, rfl⟩) (hO.cold _ List.mem_cons_self)) hc' h0 hok
      (try dsimp only at e)
      subst e
      clear HO x2
      have HO := Lib.hid hO
      clear hO
      dsimp only at HO
      have hr2 := HR.out
      rw [hl.out] at hr2
      dsimp only at hr2
      have hz : ((ts.length : Int) == 0) = false := by rw [beq_eq_false_iff_ne]; omega
      cases hg : rparse ts with
      | err a q =>
        rw [hg] at hr2
        dsimp only at hr2
        subst hr2
        replace hg := Lib.hid hg
        clear HR
        (try dsimp only)
        (repeat' (first | ((with_reducible refine zG ?_); first | refine oWx ?_ | (refine oWs ?_; clear HO; intro _ HO)) | ((go_big_may; first | (refine (rparse_any b c' ts _ (rs_now HO hc' h0 hok)).mono ?_; intro e W9 hp; unfold RTree at hp; rw [hg.out] at hp; obtain ⟨hq, hq0, rfl⟩ := hp; replace HO := Lib.hid (HO.out.next hq); clear hq)) <;> (try dsimp only)) | go_values | go_skip | go_guarded | go_step | go_upon | (go_ite <;> go_prune <;> (try go_simp))))
        have hq1 : (q == 0) = false := by rw [bne, Bool.not_eq_true'] at hq0; exact hq0
        ((refine tBf HO [] (.pu 0 (.pu 2 (.ld 1 (.ld 3 (.pu 4 (.ef 5 (.pu 6 (.nil)))))))) ?_); (clear HO; intro _ HO); (repeat' (first | ((with_reducible refine tGo ?_); first | ((first | refine tL1 (OwnT.of HO) rfl rfl rfl (by kernel_rfl) (fun _ _ _ h => h) (by rfl) ?_ | refine tL3 (OwnT.of HO) rfl rfl rfl (by kernel_rfl) (fun _ _ _ h => h) (by rfl) ?_ | refine tY1 (OwnT.of HO) rfl rfl rfl (by kernel_rfl) (fun _ _ _ h => h) (by rfl) ?_); (try simp only [Act.put, pS])) | ((first | refine tPu (OwnT.of HO) rfl (by kernel_rfl) (fun _ _ _ h => h) (by rfl) (by intro _; go_simp; (try with_reducible rfl)) ?_); (try simp only [Act.put, pS])) | refine tEf rfl (by kernel_rfl) (by rfl) (fun K hK => ?_) | refine tLt rfl (by kernel_rfl) (by rfl) (fun K hK => ?_) | refine tDo (by kernel_rfl) ?_) | ((with_reducible refine uGo ?_); first | ((refine uPu rfl (by kernel_rfl) (fun _ _ _ h => h) (by rfl) (by intro _; go_simp; (try with_reducible rfl)) ?_); (try simp only [Act.put, pS])) | refine uEf rfl (by kernel_rfl) (by rfl) (fun K hK => ?_) | refine uDo (by kernel_rfl) ?_) | ((with_reducible show K _ _); (first | refine hK.out _ _ (OwnT.of HO) ?_ | with_reducible refine hK.out _ _ ?_); clear hK K; (try simp only [Act.put, pS])) | ((with_reducible refine to_store ?_); first | (refine oYs HO rfl rfl rfl (by rfl) ?_; clear HO; intro _ HO) | ((first | refine oT1 HO rfl rfl rfl ?_ | refine oT2 HO rfl rfl rfl (by rfl) ?_ | refine oT3 HO rfl rfl rfl rfl ?_); clear HO; intro _ HO)))))
        (repeat' (first | ((with_reducible refine zG ?_); first | refine oWx ?_ | (refine oWs ?_; clear HO; intro _ HO)) | go_values | go_skip | go_guarded | go_step | go_upon | (go_ite <;> go_prune <;> (try go_simp))))
        refine bp_ct HO (t := 2) (u := 3) (ty := 27) rfl rfl rfl rfl ?_
        exact ⟨HO.out.kept.below, rfl⟩
      | ok t a =>
        rw [hg] at hr2
        dsimp only at hr2
        subst hr2
        have htz := sz_parse hg
        have hpk := pa_parse hg
        replace hg := Lib.hid hg
        clear HR
        (try dsimp only)
        (repeat' (first | ((with_reducible refine zG ?_); first | refine oWx ?_ | (refine oWs ?_; clear HO; intro _ HO)) | ((go_big_may; first | (refine (rparse_any b c' ts _ (rs_now HO hc' h0 hok)).mono ?_; intro e W9 hp; unfold RTree at hp; rw [hg.out] at hp; obtain ⟨hq, -, hlt, fe, re, A1, c1, B1, e1, ht, rfl, hc1, he1, hT⟩ := hp; replace HO := Lib.hid (tree_cold HO hq hT); clear hq hT)) <;> (try dsimp only)) | go_values | go_skip | go_guarded | go_step | go_upon | (go_ite <;> go_prune <;> (try go_simp))))
        ((refine tBf HO [] (.pu 0 (.pu 2 (.ld 1 (.ld 3 (.pu 4 (.ef 5 (.pu 6 (.nil)))))))) ?_); (clear HO; intro _ HO); (repeat' (first | ((with_reducible refine tGo ?_); first | ((first | refine tL1 (OwnT.of HO) rfl rfl rfl (by kernel_rfl) (fun _ _ _ h => h) (by rfl) ?_ | refine tL3 (OwnT.of HO) rfl rfl rfl (by kernel_rfl) (fun _ _ _ h => h) (by rfl) ?_ | refine tY1 (OwnT.of HO) rfl rfl rfl (by kernel_rfl) (fun _ _ _ h => h) (by rfl) ?_); (try simp only [Act.put, pS])) | ((first | refine tPu (OwnT.of HO) rfl (by kernel_rfl) (fun _ _ _ h => h) (by rfl) (by intro _; go_simp; (try with_reducible rfl)) ?_); (try simp only [Act.put, pS])) | refine tEf rfl (by kernel_rfl) (by rfl) (fun K hK => ?_) | refine tLt rfl (by kernel_rfl) (by rfl) (fun K hK => ?_) | refine tDo (by kernel_rfl) ?_) | ((with_reducible refine uGo ?_); first | ((refine uPu rfl (by kernel_rfl) (fun _ _ _ h => h) (by rfl) (by intro _; go_simp; (try with_reducible rfl)) ?_); (try simp only [Act.put, pS])) | refine uEf rfl (by kernel_rfl) (by rfl) (fun K hK => ?_) | refine uDo (by kernel_rfl) ?_) | ((with_reducible show K _ _); (first | refine hK.out _ _ (OwnT.of HO) ?_ | with_reducible refine hK.out _ _ ?_); clear hK K; (try simp only [Act.put, pS])) | ((with_reducible refine to_store ?_); first | (refine oYs HO rfl rfl rfl (by rfl) ?_; clear HO; intro _ HO) | ((first | refine oT1 HO rfl rfl rfl ?_ | refine oT2 HO rfl rfl rfl (by rfl) ?_ | refine oT3 HO rfl rfl rfl rfl ?_); clear HO; intro _ HO)))))
        (repeat' (first | ((with_reducible refine zG ?_); first | refine oWx ?_ | (refine oWs ?_; clear HO; intro _ HO)) | go_values | go_skip | go_guarded | go_step | go_upon | (go_ite <;> go_prune <;> (try go_simp))))
        refine bp_ct HO (t := 2) (u := 3) (ty := 27) rfl rfl rfl rfl ?_
        have hT := HO.out.cold _ List.mem_cons_self
        exact ⟨HO.out.kept.below, A1, fe.length, c1, B1, re.length, e1, rfl, ⟨fe, re, ht, rfl, rfl, TreeAt.st (fun b hb => ⟨⟨hb.1, hb.2.1⟩, rfl⟩) hT⟩, by have := hok.len; omega, hpk.mono (by have := hok.len; omega)⟩
open Go.RowKit
def Cold.tr (A B : Option Addr) (nF nR : Nat) (t : TreeT) : Cold := ⟨fun w F => TrAt w F A B nF nR t, fun _ _ _ _ hF h => trat_st hF h⟩
def SmT (t : TreeT) : Prop := tsz t ≤ 200000 ∧ PaK 100000 t
def VarsOk (l : List (List Nat × Bool)) : Prop := l.length ≤ 1000000 ∧ ∀ x ∈ l, byteOk x.1
theorem flag_mem {arr : List Rf} {fn : Int} : ∀ {l : List (List Nat)} {i : Nat} {x : List Nat × Bool}, x ∈ flagL arr fn l i → x.1 ∈ l
  | [], _, _, h => by cases h
  | s :: l, i, x, h => by
    rw [flagL] at h
    rcases List.mem_cons.1 h with rfl | h
    · exact List.mem_cons_self
    · exact List.mem_cons_of_mem _ (flag_mem h)
theorem hand_L : ∀ (l : List Rf) (st : NSt), (l.foldl (fun st x => arrayS x st) st).L = st.L
  | [], _ => rfl
  | v :: l, st => (hand_L l (arrayS v st)).trans (array_L v st)
theorem spread_L : ∀ (f : Nat) (st : NSt), (spreadF f st).L = st.L
  | 0, _ => rfl
  | f + 1, st => by
    rw [spreadF]
    split
    · rfl
    · rw [spread_L f, hand_L]
theorem known_L {t : TreeT} {p : Pl} {st : NSt} {P : List Nat → Prop} (h : ∀ s ∈ st.L, P s) (hp : P p.n.s) : ∀ s ∈ (knownS t p st).L, P s := by
  unfold knownS
  split
  · intro s hs
    rcases List.mem_append.1 hs with hs | hs
    · exact h s hs
    · rw [List.mem_singleton.1 hs]; exact hp
  · exact h
theorem known_len (t : TreeT) (p : Pl) (st : NSt) : (knownS t p st).L.length ≤ st.L.length + 1 := by
  unfold knownS
  split
  · rw [List.length_append]; exact Nat.le_refl _
  · exact Nat.le_succ _
theorem note_L (t : TreeT) (p : Pl) (st : NSt) : (noteS t p st).L = st.L ∨ (noteS t p st).L = (knownS t p st).L := by
  unfold noteS
  split
  · refine .inr ?_
    dsimp only
    split
    · exact array_L _ _
    · split
      · exact array_L _ _
      · split <;> rfl
  · exact .inl rfl
theorem notes_L {t : TreeT} {P : List Nat → Prop} : ∀ (l : List Pl) (st : NSt), (∀ s ∈ st.L, P s) → (∀ p ∈ l, P p.n.s) → (∀ s ∈ (l.foldl (fun st p => noteS t p st) st).L, P s) ∧ (l.foldl (fun st p => noteS t p st) st).L.length ≤ st.L.length + l.length
  | [], st, h, _ => ⟨h, Nat.le_refl _⟩
  | p :: l, st, h, hp => by
    have h1 : ∀ s ∈ (noteS t p st).L, P s := by
      rcases note_L t p st with e | e <;> rw [e]
      · exact h
      · exact known_L h (hp p List.mem_cons_self)
    have h2 : (noteS t p st).L.length ≤ st.L.length + 1 := by
      rcases note_L t p st with e | e <;> rw [e]
      · exact Nat.le_succ _
      · exact known_len t p st
    have h3 := notes_L (t := t) l (noteS t p st) h1 (fun q hq => hp q (List.mem_cons_of_mem _ hq))
    refine ⟨h3.1, ?_⟩
    have := h3.2
    rw [List.length_cons]
    show (List.foldl _ (noteS t p st) l).L.length ≤ _
    omega
theorem locals_mem {arr : List Rf} : ∀ {l : List FuncT} {i : Nat} {r : List (List Nat × Bool)}, r ∈ localsL arr l i → ∃ (f : FuncT) (j : Int), f ∈ l ∧ r = flagL arr j f.params 0
  | [], _, _, h => by cases h
  | f :: l, i, r, h => by
    rw [localsL] at h
    rcases List.mem_cons.1 h with rfl | h
    · exact ⟨f, _, List.mem_cons_self, rfl⟩
    · obtain ⟨g, j, hg, e⟩ := locals_mem h
      exact ⟨g, j, List.mem_cons_of_mem _ hg, e⟩
theorem names_by {t : TreeT} {nm : NamesT} (hs : SmT t) (h : resolveS (nmT t) = .ok nm) : VarsOk nm.globals ∧ ∀ r ∈ nm.locals, VarsOk r := by
  obtain ⟨rfl, -⟩ := resolve_ok h
  have hs1 := hs.1
  have hg := notes_L (t := nmT t) (P := byteOk) (places (nmT t)) ⟨[], [], [], []⟩ (fun s h => by cases h) (fun p hp => (plg_all t (by omega) p hp).by_)
  have hpl := places_len (nmT t)
  rw [tsz_nm] at hpl
  refine ⟨⟨?_, fun x hx => ?_⟩, fun r hr => ?_⟩
  · show (flagL _ _ (spreadS (nmT t)).L 0).length ≤ _
    rw [flag_len]
    unfold spreadS
    rw [spread_L]
    refine Nat.le_trans hg.2 ?_
    rw [List.length_nil]
    omega
  · have hx' := flag_mem hx
    unfold spreadS at hx'
    rw [spread_L] at hx'
    exact hg.1 _ hx'
  · obtain ⟨f, j, hf, rfl⟩ := locals_mem hr
    obtain ⟨g, hg, rfl⟩ := List.mem_map.1 hf
    have hp := hs.2 g hg
    refine ⟨?_, fun x hx => (by_funcs t _ hf).2 _ (flag_mem hx)⟩
    rw [flag_len]
    show (g.params.map nmS).length ≤ _
    rw [List.length_map]
    omega
section
variable {w0 w : World} {S : World → Prop} {bs : List Bx} {rs : List Rw} {F : List Cold} {T : Ending → World → Prop} {KF : FuncId} {args : Array Value}
theorem arm_read {src : List Nat} {A : Option Addr} {c : Nat} (HO : Hid (Own w0 [] S bs rs F w)) (hr : Hid (RB w w.heap.size A src)) (hc : src.length ≤ c) (hK : KF = 5) (hargs : args = #[.slice A src.length c])
    (hno : ∀ W, Hid (readS src = none) → Hid (Own w0 [] S bs rs F W) → T (.returned (.tuple #[.agg #[.slice none 0 0, .slice none 0 0], .bool false])) W)
    (hok : ∀ t AF nF cF AR nR cR W, Hid (readS src = some t) → Hid (SmT t) → Hid (Own w0 [] S bs rs (Cold.tr AF AR nF nR t :: F) W) → T (.returned (.tuple #[.agg #[.slice AF nF cF, .slice AR nR cR], .bool true])) W) : Calls Try.prog KF args w T := by
  subst hK hargs
  refine (read_law w hr.out hc).mono ?_
  intro e W hp
  obtain ⟨q, hp⟩ := hp
  cases hs : readS src with
  | none =>
    rw [hs] at hp
    subst hp
    exact hno W (Lib.hid hs) (Lib.hid (HO.out.next q))
  | some t =>
    rw [hs] at hp
    obtain ⟨AF, nF, cF, AR, nR, cR, rfl, hT, h1, h2⟩ := hp
    refine hok t AF nF cF AR nR cR W (Lib.hid hs) (Lib.hid ⟨h1, h2⟩) (Lib.hid ((HO.out.next q).addCold (Cold.tr AF AR nF nR t) w.heap.size HO.out.kept.size (fun b hb => (HO.out.hot_lt b hb).2) hT))
theorem tr_eld {A B : Option Addr} {nF nR : Nat} {t : TreeT} (HO : Hid (Own w0 [] S bs rs F w)) (m : Cold.tr A B nF nR t ∈ F) : TrAt w (Eld w []) A B nF nR t := trat_st (fun _ hb => ⟨⟨hb.2.1, List.not_mem_nil⟩, rfl⟩) (HO.out.cold _ m)
theorem row_eld {A : Option Addr} {xs : List Value} (HO : Hid (Own w0 [] S bs rs F w)) (m : Cold.row A xs ∈ F) : RowAt w (Eld w []) A xs := RowAt.st (fun _ hb => ⟨⟨hb.2.1, List.not_mem_nil⟩, rfl⟩) (HO.out.cold _ m)
theorem TrAt.lens {P : Nat → Prop} {AF AR : Option Addr} {nF nR : Nat} {t : TreeT} (h : TrAt w P AF AR nF nR t) : nF = t.funcs.length ∧ nR = t.rules.length := by
  obtain ⟨fe, re, rfl, h1, h2, _⟩ := h
  exact ⟨by rw [h1, List.length_map], by rw [h2, List.length_map]⟩
theorem arm_resolve {t : TreeT} {AF AR : Option Addr} {nF cF nR cR : Nat} (HO : Hid (Own w0 [] S bs rs F w)) (m : Cold.tr AF AR nF nR t ∈ F) (hs : Hid (SmT t)) (hK : KF = 6) (hargs : args = #[.agg #[.slice AF nF cF, .slice AR nR cR]])
    (hno : ∀ x b W, Hid (resolveS (nmT t) = .error x) → Hid (Own w0 [] S bs rs F W) → T (.returned (.tuple #[.agg #[.slice none 0 0, .slice none 0 0], .iface 74 (.pointer (some ⟨b, 0, none⟩))])) W)
    (hok : ∀ (nm : NamesT) AG cG AH cH (els : List ElN) W, Hid (resolveS (nmT t) = .ok nm) → Hid (els.map (·.1) = nm.locals) → Hid (Own w0 [] S bs rs (Cold.row AG (nm.globals.flatMap varB) :: Cold.row AH (els.map slN) :: Cold.lc els :: F) W) → T (.returned (.tuple #[.agg #[.slice AG nm.globals.length cG, .slice AH nm.locals.length cH], .nilIface])) W) : Calls Try.prog KF args w T := by
  subst hK hargs
  have hT := (tr_eld HO m).nm
  obtain ⟨e1, e2⟩ := hT.lens
  have hz := hs.out.1
  have hz2 := tsz_nm t
  have h1 := tsz_funcs (nmT t)
  have h2 := tsz_rules (nmT t)
  have h3 := places_len (nmT t)
  refine (resolve_any (Lib.hid e1) (Lib.hid e2) (by omega) (by omega) (fun r hr => by have := tsz_rule (nmT t) r hr; omega) (by omega) (Lib.hid (fun f hf => ⟨(by_funcs t f hf).1, (by_funcs t f hf).2, ?_⟩)) (plg_all t (by omega)) w hT).mono ?_
  · obtain ⟨g, hg, rfl⟩ := List.mem_map.1 hf
    have := hs.out.2 g hg
    show (g.params.map nmS).length ≤ _
    rw [List.length_map]
    omega
  · intro e W hp
    obtain ⟨q, hp⟩ := hp
    cases hr : resolveS (nmT t) with
    | error x =>
      rw [hr] at hp
      obtain ⟨v, rfl, b, rfl, _⟩ := hp
      exact hno x b W (Lib.hid hr) (Lib.hid (HO.out.next q))
    | ok nm =>
      rw [hr] at hp
      obtain ⟨AG, cG, AH, cH, els, rfl, hm, _, _, hH, hL, hG⟩ := hp
      have ho := HO.out.next q
      have hlt : ∀ b ∈ hot bs rs, b < w.heap.size := fun b hb => (HO.out.hot_lt b hb).2
      exact hok nm AG cG AH cH els W (Lib.hid hr) (Lib.hid hm) (Lib.hid (((ho.addCold (Cold.lc els) w.heap.size HO.out.kept.size hlt hL).addCold (Cold.row AH (els.map slN)) w.heap.size HO.out.kept.size hlt hH).addCold (Cold.row AG (nm.globals.flatMap varB)) w.heap.size HO.out.kept.size hlt hG))
theorem arm_find {row : List (List Nat × Bool)} {s : List Nat} {A : Option Addr} {n c k : Nat} (HO : Hid (Own w0 [] S bs rs F w)) (m : Cold.row A (row.flatMap varB) ∈ F) (hn : Hid (n = row.length)) (hv : Hid (VarsOk row)) (hs : Hid (byteOk s)) (hp : Hid (posF s (row.map (·.1)) 0 = some k)) (hK : KF = 10) (hargs : args = #[.slice A n c, .string (strN s)])
    (h : ∀ W, Hid (Own w0 [] S bs rs F W) → T (.returned (.int .i64 (k : Int))) W) : Calls Try.prog KF args w T := by
  subst hK hargs
  have e := hn.out
  subst e
  refine (find_any hv.out.1 hv.out.2 hs.out w (row_eld HO m)).mono ?_
  rintro e W ⟨rfl, q⟩
  rw [hp.out]
  exact h W (Lib.hid (HO.out.next q))
theorem arm_rfunc {t : TreeT} {s : List Nat} {AF AR : Option Addr} {nF cF nR cR : Nat} (HO : Hid (Own w0 [] S bs rs F w)) (m : Cold.tr AF AR nF nR t ∈ F) (ht : Hid (SmT t)) (hs : Hid (byteOk s)) (hK : KF = 11) (hargs : args = #[.agg #[.slice AF nF cF, .slice AR nR cR], .string (strN s)])
    (h : ∀ W, Hid (Own w0 [] S bs rs F W) → T (.returned (.int .i64 (posV (fnOf (nmT t) s)))) W) : Calls Try.prog KF args w T := by
  subst hK hargs
  have hT := (tr_eld HO m).nm
  obtain ⟨e1, e2⟩ := hT.lens
  have hz := ht.out.1
  have hz2 := tsz_nm t
  have h1 := tsz_funcs (nmT t)
  refine (func_any (by omega) (fun f hf => (by_funcs t f hf).1) hs.out w hT (Lib.hid e1)).mono ?_
  rintro e W ⟨rfl, q⟩
  exact h W (Lib.hid (HO.out.next q))
end
open Go.RowKit
def src14 : List Nat := [102, 117, 110, 99, 116, 105, 111, 110, 32, 102, 40, 97, 41, 32, 123, 32, 97, 91, 49, 93, 32, 61, 32, 50, 32, 125, 32, 123, 32, 102, 40, 120, 41, 59, 32, 121, 32, 61, 32, 49, 32, 125]
def t14 : TreeT := (readS src14).getD ⟨[], []⟩
theorem read14 : readS src14 = some t14 := by kernel_rfl
theorem res14 : resolveS (nmT t14) = .ok ⟨[([120], true), ([121], false)], [[([97], true)]]⟩ := by kernel_rfl
theorem fn14 : fnOf (nmT t14) [102] = some 0 := by kernel_rfl
theorem row_ptr14 {w0 w : World} {X : List Nat} {S : World → Prop} {bs : List Bx} {rs : List Rw} {F : List Cold} {A : Option Addr} {xs : List Value} (HO : Hid (Own w0 X S bs rs F w)) (m : Cold.row A xs ∈ F) (hne : xs ≠ []) : ∃ b, A = some ⟨b, 0, none⟩ ∧ Hid (Own w0 X S bs rs (Cold.at b 0 xs :: F) w) := by
  obtain ⟨b, e, hb, hc⟩ := HO.out.cold _ m hne
  exact ⟨b, e, Lib.hid (HO.out.coldAll (Cold.at b 0 xs) ⟨hb, fun j v hv => by rw [Nat.zero_add]; exact hc j v hv⟩)⟩
theorem lc_ptr14 {w0 w : World} {X : List Nat} {S : World → Prop} {bs : List Bx} {rs : List Rw} {F : List Cold} {A : Option Addr} {c : Nat} {l : List (List Nat × Bool)} {xs : List Value} (HO : Hid (Own w0 X S bs rs F w)) (m : Cold.lc [(l, A, c)] ∈ F) (hx : l.flatMap varB = xs) (hne : xs ≠ []) : ∃ b, A = some ⟨b, 0, none⟩ ∧ Hid (Own w0 X S bs rs (Cold.at b 0 xs :: F) w) := by
  subst hx
  obtain ⟨b, e, hb, hc⟩ := (HO.out.cold _ m (l, A, c) List.mem_cons_self).2 hne
  exact ⟨b, e, Lib.hid (HO.out.coldAll (Cold.at b 0 (l.flatMap varB)) ⟨hb, fun j v hv => by rw [Nat.zero_add]; exact hc j v hv⟩)⟩
set_option maxRecDepth 100000 in
set_option maxHeartbeats 3200000 in
theorem awake14_any (w : World) : Calls Try.prog 4 #[] w fun e w' => e = .returned (.bool true) ∧ Below w.heap.size w w' := by
  have HO := own_0 w
  have hcv := fun (w : World) (C : Array Value) (n c : Nat) => Lib.run_convert_bytes_const (P := Try.prog) w 22 5 C n c Try.underlying22 Try.underlying5
  go_enter Try.func4, Try.ntmps4
  (repeat' (go_not_at_region 5; first | ((with_reducible refine zG ?_); first | refine oWx ?_ | (refine oWs ?_; clear HO; intro _ HO) | (refine oWj ?_; clear HO; intro _ HO HB)) | ((with_reducible refine ab_mark HO ?_); clear HO; intro _ HO HB) | ((go_big_may; first | (go_at_call 5; refine arm_read (src := src14) HO (Lib.hid (rb_mark (l := src14) (by decide) HB.out)) (by decide) rfl rfl (fun W h _ => by have h1 := h.out; rw [read14] at h1; cases h1) ?_; clear HO HB; intro t AF nF cF AR nR cR W ht hs HO; have h1 := ht.out; rw [read14] at h1; injection h1 with h1; subst h1; clear ht) | (go_at_call 6; refine arm_resolve HO mM hs rfl rfl (fun x b W h _ => by have h1 := h.out; rw [res14] at h1; cases h1) ?_; clear HO; intro nm AG cG AH cH els W h he HO; have h1 := h.out; rw [res14] at h1; injection h1 with h1; subst h1; clear h)) <;> (try dsimp only)) | go_values | go_skip | go_guarded | go_step | go_upon | (go_ite <;> go_prune <;> (try go_simp))))
  have he1 := he.out
  obtain ⟨⟨l1, A1, c1⟩, rfl⟩ : ∃ x, els = [x] := by
    cases els with
    | nil => simp at he1
    | cons x l => cases l with
      | nil => exact ⟨x, rfl⟩
      | cons y l => simp at he1
  have hl1 : l1 = [([97], true)] := by simpa using he1
  subst hl1
  clear he he1
  obtain ⟨b1, rfl, HO1⟩ := row_ptr14 HO (xs := [.string { data := #[120] }, .bool true, .string { data := #[121] }, .bool false]) mM (by simp)
  obtain ⟨b2, rfl, HO2⟩ := row_ptr14 HO1 (xs := [.slice A1 1 c1]) mM (by simp)
  obtain ⟨b3, rfl, HO3⟩ := lc_ptr14 HO2 (xs := [.string { data := #[97] }, .bool true]) mM rfl (by simp)
  clear HO HO1 HO2
  have HO := HO3
  clear HO3
  have h102 : Hid (byteOk [102]) := Lib.hid (fun x hx => by rw [List.mem_singleton.1 hx]; decide)
  (repeat' (first | ((with_reducible refine zG ?_); first | refine oWx ?_ | (refine oWs ?_; clear HO; intro _ HO) | (refine oWj ?_; clear HO; intro _ HO HB)) | ((with_reducible refine to_load ?_); (first | first | refine oC1 HO rfl rfl ?_ | refine oC2 HO rfl rfl ?_); (try simp only [Act.put, pS])) | ((go_big_may; first | (go_at_call 11; refine arm_rfunc (s := [102]) HO mM hs h102 rfl rfl ?_; rw [fn14, show posV (some 0) = 0 from rfl]; clear HO; intro _ HO)) <;> (try dsimp only)) | go_values | go_skip | go_guarded | go_step | go_upon | (go_ite <;> go_prune <;> (try go_simp))))
  refine bp_tmp (t := 0) rfl rfl rfl ?_
  exact ⟨rfl, HO.out.kept.below⟩
open Go.RowKit
section
variable {w0 w : World} {S : World → Prop} {bs : List Bx} {rs : List Rw} {F : List Cold} {T : Ending → World → Prop} {KF : FuncId} {args : Array Value}
theorem arm_awake14 (HO : Hid (Own w0 [] S bs rs F w)) (hK : KF = 4) (hargs : args = #[]) (h : ∀ W, Hid (Own w0 [] S bs rs F W) → T (.returned (.bool true)) W) : Calls Try.prog KF args w T := by
  subst hK hargs
  refine (awake14_any w).mono ?_
  rintro e W ⟨rfl, q⟩
  exact h W (Lib.hid (HO.out.next q))
theorem rb_own {A : Option Addr} {l : List Nat} (HO : Hid (Own w0 [] S bs rs F w)) (h : Hid (RB w0 w0.heap.size A l)) : Hid (RB w w.heap.size A l) :=
  Lib.hid ((h.out.keep fun p hp => World.cell?_of_block (HO.out.kept.block p.block hp List.not_mem_nil)).more HO.out.kept.size)
theorem arm_all14 {t : TreeT} {AF AR : Option Addr} {nF cF nR cR : Nat} (HO : Hid (Own w0 [] S bs rs F w)) (m : Cold.tr AF AR nF nR t ∈ F) (hs : Hid (SmT t)) (hK : KF = 7) (hargs : args = #[.agg #[.slice AF nF cF, .slice AR nR cR]])
    (h : ∀ A c (els : List ElS) W, Hid (els.map (·.1) = spots (nmT t)) → Hid (els.length ≤ 200000) → Hid (Own w0 [] S bs rs (Cold.row A (els.flatMap elS) :: F) W) → T (.returned (.slice A els.length c)) W) : Calls Try.prog KF args w T := by
  subst hK hargs
  have hT := (tr_eld HO m).nm
  obtain ⟨e1, e2⟩ := hT.lens
  have hz := hs.out.1
  have hz2 := tsz_nm t
  have h1 := tsz_funcs (nmT t)
  have h2 := tsz_rules (nmT t)
  have h3 := spots_len (nmT t)
  refine (all_any w e1 e2 (by omega) (by omega) (fun r hr => by have := tsz_rule (nmT t) r hr; omega) (by omega) (by_spots t) hT).mono ?_
  rintro e W ⟨q, A, c, els, rfl, _, hm, _, hr⟩
  have hl := congrArg List.length hm
  rw [List.length_map] at hl
  exact h A c els W (Lib.hid hm) (Lib.hid (by omega)) (Lib.hid ((HO.out.next q).addCold (Cold.row A (els.flatMap elS)) w.heap.size HO.out.kept.size (fun b hb => (HO.out.hot_lt b hb).2) hr))
theorem arm_named14 {n : NodeT} {A : Option Addr} {c : Nat} (HO : Hid (Own w0 [] S bs rs F w)) (hK : KF = 8) (hargs : args = #[.agg #[.int .i64 ((NodeT.k n : Nat) : Int), .int .i64 ((NodeT.at' n : Nat) : Int), .string (strN (NodeT.s n)), .bool (zn (NodeT.z n)), .int .u64 (zh (NodeT.z n)), .int .u64 (zl (NodeT.z n)), .int .i64 ((NodeT.i n : Nat) : Int), .slice A (NodeT.l n).length c]]) {z : Bool} (hz : namedB n = z)
    (h : ∀ W, Hid (Own w0 [] S bs rs F W) → T (.returned (.bool z)) W) : Calls Try.prog KF args w T := by
  subst hK hargs hz
  refine (named14_any w).mono ?_
  rintro e W ⟨rfl, q⟩
  exact h W (Lib.hid (HO.out.next q))
theorem arm_local14 {t : TreeT} {fn : Int} {s : List Nat} {AF AR : Option Addr} {nF cF nR cR : Nat} (HO : Hid (Own w0 [] S bs rs F w)) (m : Cold.tr AF AR nF nR t ∈ F) (ht : Hid (SmT t)) (hfn : Hid (fn < ((nmT t).funcs.length : Int))) (hs : Hid (byteOk s)) (hK : KF = 9) (hargs : args = #[.agg #[.slice AF nF cF, .slice AR nR cR], .int .i64 fn, .string (strN s)]) {z : Bool} (hz : localB (nmT t) fn s = z)
    (h : ∀ W, Hid (Own w0 [] S bs rs F W) → T (.returned (.bool z)) W) : Calls Try.prog KF args w T := by
  subst hK hargs hz
  have hT := (tr_eld HO m).nm
  obtain ⟨e1, e2⟩ := hT.lens
  have hz := ht.out.1
  have hz2 := tsz_nm t
  have h1 := tsz_funcs (nmT t)
  refine (local14_any fn s w hfn.out (by omega) (fun f hf => ?_) (fun f hf => (by_funcs t f hf).2) hs.out hT).mono ?_
  · obtain ⟨g, hg, rfl⟩ := List.mem_map.1 hf
    have := ht.out.2 g hg
    show (g.params.map nmS).length ≤ _
    rw [List.length_map]
    omega
  · rintro e W ⟨rfl, q⟩
    exact h W (Lib.hid (HO.out.next q))
theorem flat_at {α : Type} (f : α → List Value) (k : Nat) (hf : ∀ x, (f x).length = k) {l : List α} {i : Nat} {x : α} {X : List Nat} {A : Option Addr} {xs : List Value} (HO : Hid (Own w0 X S bs rs F w)) (m : Cold.row A (l.flatMap f) ∈ F) (hx : l[i]? = some x) (hxs : f x = xs) (hk : 0 < k) : ∃ b, A = some ⟨b, 0, none⟩ ∧ Hid (Own w0 X S bs rs (Cold.at b (i * k) xs :: F) w) := by
  subst hxs
  have hel : ∀ j u, (f x)[j]? = some u → (l.flatMap f)[i * k + j]? = some u := fun j u hv => flat_get f k l i j x u (fun y _ => hf y) hx hv
  obtain ⟨b, e, hb, hc⟩ := HO.out.cold _ m (by
    intro h0
    have h1 := hel 0 _ (List.getElem?_eq_getElem (by rw [hf x]; exact hk))
    rw [h0] at h1
    simp at h1)
  exact ⟨b, e, Lib.hid (HO.out.coldAll (Cold.at b (i * k) (f x)) ⟨hb, fun j v hv => hc _ v (hel j v hv)⟩)⟩
theorem spot_ok {t : TreeT} {nm : NamesT} {els : List ElS} {e : ElS} {i : Nat} (hs : Hid (SmT t)) (hR : Hid (resolveS (nmT t) = .ok nm)) (hsp : Hid (els.map (·.1) = spots (nmT t))) (h : els[i]? = some e) :
    useB (nmT t) nm e.1.n e.1.fn e.1.split e.1.called = true ∧ Hid (e.1.fn < ((nmT t).funcs.length : Int)) ∧ Hid (byteOk e.1.n.s) := by
  have hm : e.1 ∈ spots (nmT t) := by rw [← hsp.out]; exact List.mem_map_of_mem (List.mem_of_getElem? h)
  have h1 : tellS e.1 ∈ (places (nmT t)).map tellP := by rw [← tell_all]; exact List.mem_map_of_mem hm
  obtain ⟨p, hp, he⟩ := List.mem_map.1 h1
  have e1 : p.n = e.1.n := congrArg (·.1) he
  have e2 : p.fn = e.1.fn := congrArg (·.2.1) he
  have hG := plg_all t (by have := hs.out.1; omega) p hp
  exact ⟨(uses_ok hR.out).2 _ hm, Lib.hid (by rw [← e2]; exact hG.fn1), Lib.hid (by rw [← e1]; exact hG.by_)⟩
theorem cell_at {X : List Nat} {A : Option Addr} {xs : List Value} {i : Nat} {v : Value} (HO : Hid (Own w0 X S bs rs F w)) (m : Cold.row A xs ∈ F) (h : xs[i]? = some v) : ∃ b, A = some ⟨b, 0, none⟩ ∧ Hid (Own w0 X S bs rs (Cold.at b i [v] :: F) w) := by
  obtain ⟨b, e, hb, hc⟩ := HO.out.cold _ m (by intro h0; rw [h0] at h; simp at h)
  refine ⟨b, e, Lib.hid (HO.out.coldAll (Cold.at b i [v]) ⟨hb, fun j u hu => ?_⟩)⟩
  cases j with
  | zero => cases hu; exact hc i v h
  | succ j => simp at hu
theorem row_pick {t : TreeT} {nm : NamesT} {fn : Int} {s : List Nat} {AG AH : Option Addr} {cG : Nat} {els : List ElN} (HO : Hid (Own w0 [] S bs rs F w)) (hs : Hid (SmT t)) (hR : Hid (resolveS (nmT t) = .ok nm)) (he : Hid (els.map (·.1) = nm.locals)) (mG : Cold.row AG (nm.globals.flatMap varB) ∈ F) (mL : Cold.lc els ∈ F) (hfn : Hid (fn < ((nmT t).funcs.length : Int))) {z : Bool} (hz : localB (nmT t) fn s = z) :
    ∃ (rl : List (List Nat × Bool)) (Ar : Option Addr) (n cr : Nat), rowOf (nmT t) nm fn s = rl ∧ Hid (n = rl.length) ∧ Hid (VarsOk rl) ∧ Hid (Own w0 [] S bs rs (Cold.row Ar (rl.flatMap varB) :: F) w) ∧ Hid (z = false → AG = Ar ∧ nm.globals.length = n ∧ cG = cr) ∧ Hid (z = true → ∃ fi : Nat, fn = (fi : Int) ∧ fi < nm.locals.length ∧ (els.map slN)[fi]? = some (.slice Ar n cr)) := by
  have hv := names_by hs.out hR.out
  cases z with
  | false => exact ⟨nm.globals, AG, nm.globals.length, cG, by unfold rowOf; rw [hz]; rfl, Lib.hid rfl, Lib.hid hv.1, Lib.hid (HO.out.coldAll _ (HO.out.cold _ mG)), Lib.hid (fun _ => ⟨rfl, rfl, rfl⟩), Lib.hid (fun h => by cases h)⟩
  | true =>
    have hl : 0 ≤ fn := by
      unfold localB at hz
      rw [Bool.and_eq_true] at hz
      exact of_decide_eq_true hz.1
    obtain ⟨fi, rfl⟩ := Int.eq_ofNat_of_zero_le hl
    have hlen := (uses_ok hR.out).1
    have hfi : fi < nm.locals.length := by have := hfn.out; omega
    have hel : els.length = nm.locals.length := by rw [← he.out, List.length_map]
    obtain ⟨⟨l, A, c⟩, hx⟩ : ∃ x, els[fi]? = some x := ⟨_, List.getElem?_eq_getElem (by omega)⟩
    have hl1 : nm.locals[fi]? = some l := by rw [← he.out, List.getElem?_map, hx]; rfl
    have hm := HO.out.cold _ mL (l, A, c) (List.mem_of_getElem? hx)
    refine ⟨l, A, l.length, c, ?_, Lib.hid rfl, Lib.hid (hv.2 l (List.mem_of_getElem? hl1)), Lib.hid (HO.out.coldAll (Cold.row A (l.flatMap varB)) hm.2), Lib.hid (fun h => by cases h), Lib.hid (fun _ => ⟨fi, rfl, hfi, by rw [List.getElem?_map, hx]; rfl⟩)⟩
    unfold rowOf
    rw [hz, if_pos rfl, Int.toNat_natCast, hl1]
    rfl
theorem use_get {t : TreeT} {nm : NamesT} {n : NodeT} {fn : Int} {split called : Bool} {rl : List (List Nat × Bool)} (h : useB t nm n fn split called = true) (hn : namedB n = true) (hr : rowOf t nm fn n.s = rl) : ∃ (k : Nat) (x : List Nat) (z : Bool), posF n.s (rl.map (·.1)) 0 = some k ∧ k < rl.length ∧ rl[k]? = some (x, z) ∧ (((n.k : Int) == 4) = false → z = true) ∧ (((n.k : Int) == 4) = true → split = false → called = false → z = false) := by
  unfold useB at h
  rw [if_pos hn, hr] at h
  cases hp : posF n.s (rl.map (·.1)) 0 with
  | none => rw [hp] at h; cases h
  | some k =>
    have hk := (posF_lt _ _ _ _ hp).2.1
    rw [List.length_map, Nat.zero_add] at hk
    rw [hp] at h
    dsimp only at h
    obtain ⟨⟨x, z⟩, hx⟩ : ∃ y, rl[k]? = some y := ⟨_, List.getElem?_eq_getElem hk⟩
    rw [hx] at h
    refine ⟨k, x, z, rfl, hk, hx, fun h4 => ?_, fun h4 hs hc => ?_⟩
    · cases z
      · simp [h4] at h
      · rfl
    · cases z
      · rfl
      · simp [h4, hs, hc] at h
def UsJ {X : List Nat} {w1 w : World} (_ : Hid (Own w1 X S bs rs F w)) (N : Nat) (iv : Value) (W : World) : Prop := ∃ i : Nat, iv = .int .i64 (i : Int) ∧ i ≤ N ∧ Hid (Own w1 X S bs rs F W)
end
open Go.RowKit
set_option maxRecDepth 100000 in
set_option maxHeartbeats 6400000 in
theorem ruses_law {src : List Nat} {A : Option Addr} {c : Nat} (w : World) (hr : RB w w.heap.size A src) (hc : src.length ≤ c) : Calls Try.prog 3 #[.slice A src.length c] w fun e w' => e = .returned (.bool true) ∧ Below w.heap.size w w' := by
  have HA := Lib.hid hr
  have HO := own_0 w
  clear hr
  go_enter Try.func3, Try.ntmps3
  (repeat' (first | ((with_reducible refine zG ?_); first | refine oWx ?_ | (refine oWs ?_; clear HO; intro _ HO)) | ((go_big_may; first | (go_at_call 4; refine arm_awake14 HO rfl rfl ?_; clear HO; intro _ HO) | (go_at_call 5; refine arm_read (src := src) HO (rb_own HO HA) hc rfl rfl ?_ ?_ <;> clear HO)) <;> (try dsimp only)) | go_values | go_skip | go_guarded | go_step | go_upon | (go_ite <;> go_prune <;> (try go_simp))))
  case refine_1 =>
    intro W _ HO
    (try dsimp only)
    (repeat' (first | ((with_reducible refine zG ?_); first | refine oWx ?_ | (refine oWs ?_; clear HO; intro _ HO)) | go_values | go_skip | go_guarded | go_step | go_upon | (go_ite <;> go_prune <;> (try go_simp))))
    refine bp_tmp (t := 2) rfl rfl rfl ?_
    exact ⟨rfl, HO.out.kept.below⟩
  case refine_2 =>
    intro t AF nF cF AR nR cR W ht HS HO
    clear ht HA
    (try dsimp only)
    (repeat' (first | ((with_reducible refine zG ?_); first | refine oWx ?_ | (refine oWs ?_; clear HO; intro _ HO)) | ((go_big_may; first | (go_at_call 6; refine arm_resolve HO mM HS rfl rfl ?_ ?_ <;> clear HO)) <;> (try dsimp only)) | go_values | go_skip | go_guarded | go_step | go_upon | (go_ite <;> go_prune <;> (try go_simp))))
    case refine_1 =>
      intro x b W hx HO
      clear hx
      (try dsimp only)
      (repeat' (first | ((with_reducible refine zG ?_); first | refine oWx ?_ | (refine oWs ?_; clear HO; intro _ HO)) | go_values | go_skip | go_guarded | go_step | go_upon | (go_ite <;> go_prune <;> (try go_simp))))
      refine bp_tmp (t := 2) rfl rfl rfl ?_
      exact ⟨rfl, HO.out.kept.below⟩
    case refine_2 =>
      intro nm AG cG AH cH els W HR HE HO
      have hnF : nF = nm.locals.length := by
        have h1 := (uses_ok HR.out).1
        have h2 := ((tr_eld HO (A := AF) (t := t) mM).nm).lens
        omega
      subst hnF
      (try dsimp only)
      (repeat' (first | ((with_reducible refine zG ?_); first | refine oWx ?_ | (refine oWs ?_; clear HO; intro _ HO)) | ((go_big_may; first | (go_at_call 7; refine arm_all14 HO mM HS rfl rfl ?_; clear HO; intro Al cl spl W HSP HSL HO)) <;> (try dsimp only)) | go_values | go_skip | go_guarded | go_step | go_upon | (go_ite <;> go_prune <;> (try go_simp))))
      have HO0 := HO
      go_loopw [8] (fun iv W => UsJ HO0 spl.length iv W) (fun iv _ => spl.length - (intOf iv).toNat)
      case atStart => exact ⟨0, rfl, Nat.zero_le _, HO⟩
      case round =>
        obtain ⟨i, rfl, hi, HO1⟩ := hrel
        clear HO
        have HO := HO1
        clear HO1
        have hsl := HSL.out
        rcases Nat.lt_or_ge i spl.length with hlt | hge
        · obtain ⟨⟨⟨n, fn, kd, deep, call, arg, split, called⟩, A7, c7⟩, hx⟩ : ∃ x, spl[i]? = some x := ⟨_, List.getElem?_eq_getElem hlt⟩
          obtain ⟨b7, rfl, HO1⟩ := flat_at elS 15 (fun _ => rfl) HO (l := spl) (xs := [.int .i64 ((NodeT.k n : Nat) : Int), .int .i64 ((NodeT.at' n : Nat) : Int), .string (strN (NodeT.s n)), .bool (zn (NodeT.z n)), .int .u64 (zh (NodeT.z n)), .int .u64 (zl (NodeT.z n)), .int .i64 ((NodeT.i n : Nat) : Int), .slice A7 (NodeT.l n).length c7, .int .i64 fn, .int .i64 (kd : Int), .int .i64 (deep : Int), .string (strN call), .int .i64 (arg : Int), .bool split, .bool called]) mM hx rfl (by decide)
          obtain ⟨hU, HFN, HBY⟩ := spot_ok HS HR HSP hx
          dsimp only at hU HFN HBY
          have HU := Lib.hid hU
          have HO := HO1
          have hiI : (i : Int) < (spl.length : Int) := by omega
          clear HO1 hU hx
          cases hN : namedB n
          · (repeat' (first | ((with_reducible refine zG ?_); first | refine oWx ?_ | (refine oWs ?_; clear HO; intro _ HO)) | ((with_reducible refine to_load ?_); (first | first | refine oC1 HO rfl rfl ?_ | refine oC2 HO rfl rfl ?_); (try simp only [Act.put, pS])) | ((go_big_may; first | (go_at_call 8; refine arm_named14 HO rfl rfl hN ?_; clear HO; intro _ HO)) <;> (try dsimp only)) | go_values | go_skip | go_guarded | go_step | go_upon | (go_ite <;> go_prune <;> (try go_simp))))
            refine ⟨⟨i + 1, rfl, hlt, Lib.hid (HO.out.sub (List.sublist_cons_self _ _) (List.Sublist.refl _) (by intro _ h; repeat (first | exact h | apply List.mem_cons_of_mem)))⟩, ?_⟩
            exact meas2 rfl (Nat.le_refl _) hlt
          · cases hL : localB (nmT t) fn n.s
            case' false =>
              obtain ⟨rl, Ar, nr, cr, hrow, HN, HV, HO1, HZ, -⟩ := row_pick (AG := AG) (cG := cG) (AH := AH) HO HS HR HE mM mM HFN hL
              obtain ⟨k, x, z, hpos, hk, hkz, hz1, hz2⟩ := use_get HU.out hN hrow
              obtain ⟨rfl, hG, rfl⟩ := HZ.out rfl
              obtain ⟨br, rfl, HO2⟩ := flat_at varB 2 (fun _ => rfl) HO1 (l := rl) (xs := [.string (strN x), .bool z]) mH hkz rfl (by decide)
              have hkn : (k : Int) < (nm.globals.length : Int) := by have := HN.out; omega
              have hkg : ¬ (nm.globals.length : Int) ≤ (k : Int) := by omega
              subst hG
            case' true =>
              obtain ⟨rl, Ar, nr, cr, hrow, HN, HV, HO1, -, HZ⟩ := row_pick (AG := AG) (cG := cG) (AH := AH) HO HS HR HE mM mM HFN hL
              obtain ⟨k, x, z, hpos, hk, hkz, hz1, hz2⟩ := use_get HU.out hN hrow
              obtain ⟨fi, rfl, hfi, hce⟩ := HZ.out rfl
              obtain ⟨br, rfl, HO3⟩ := flat_at varB 2 (fun _ => rfl) HO1 (l := rl) (xs := [.string (strN x), .bool z]) mH hkz rfl (by decide)
              obtain ⟨bH, rfl, HO2⟩ := cell_at HO3 (A := AH) (xs := els.map slN) mM hce
              have hkn : (k : Int) < (nr : Int) := by have := HN.out; omega
              have hkg : ¬ (nr : Int) ≤ (k : Int) := by omega
              have hfI : (fi : Int) < (nm.locals.length : Int) := by omega
              have hf0 : ¬ (fi : Int) < 0 := by omega
              clear HO3 hfi hce
            all_goals
              clear HO
              have HO := HO2
              have HP := Lib.hid hpos
              have hk0 : ¬ (k : Int) < 0 := by omega
              clear HO1 HO2 HZ hpos hkz hrow hk
              cases h4 : ((n.k : Int) == 4)
              case' false =>
                obtain rfl := hz1 h4
                have h4b : ((n.k : Int) != 4) = true := by rw [bne, h4]; rfl
                clear hz1 hz2
              case' true =>
                have h4b : ((n.k : Int) != 4) = false := by rw [bne, h4]; rfl
                cases split <;> cases called
                case' false.false => obtain rfl := hz2 h4 rfl rfl
                all_goals clear hz1 hz2
            all_goals
              (repeat' (first | ((with_reducible refine zG ?_); first | refine oWx ?_ | (refine oWs ?_; clear HO; intro _ HO)) | ((with_reducible refine to_load ?_); (first | first | refine oC1 HO rfl rfl ?_ | refine oC2 HO rfl rfl ?_); (try simp only [Act.put, pS])) | ((go_big_may; first | (go_at_call 8; refine arm_named14 HO rfl rfl hN ?_; clear HO; intro _ HO) | (go_at_call 9; refine arm_local14 HO (t := t) mM HS HFN HBY rfl rfl hL ?_; clear HO; intro _ HO) | (go_at_call 10; refine arm_find (row := rl) HO mM HN HV HBY HP rfl rfl ?_; clear HO; intro _ HO)) <;> (try dsimp only)) | go_values | go_skip | go_guarded | go_step | go_upon | (go_ite <;> go_prune <;> (try go_simp))))
              refine ⟨⟨i + 1, rfl, hlt, Lib.hid (HO.out.sub (List.sublist_cons_self _ _) (List.Sublist.refl _) (by intro _ h; repeat (first | exact h | apply List.mem_cons_of_mem)))⟩, ?_⟩
              exact meas2 rfl (Nat.le_refl _) hlt
        · obtain rfl : i = spl.length := by omega
          have hng : ¬ (spl.length : Int) < (spl.length : Int) := by omega
          (repeat' (first | ((with_reducible refine zG ?_); first | refine oWx ?_ | (refine oWs ?_; clear HO; intro _ HO)) | go_values | go_skip | go_guarded | go_step | go_upon | (go_ite <;> go_prune <;> (try go_simp))))
          refine bp_tmp (t := 2) rfl rfl rfl ?_
          exact ⟨rfl, HO.out.kept.below⟩
theorem ruses_w (A : Option Addr) (ca : Nat) (l : List Nat) (w : World) (hA : RB w w.heap.size A l) (hca : l.length ≤ ca) (_ : A = none → l = [] ∧ ca = 0) :
    Calls Try.prog 3 #[.slice A l.length ca] w fun e w' => e = .returned (.bool true) ∧ Below w.heap.size w w' := ruses_law w hA hca
end Go.Proofs.Ythipoccbeloceaa
