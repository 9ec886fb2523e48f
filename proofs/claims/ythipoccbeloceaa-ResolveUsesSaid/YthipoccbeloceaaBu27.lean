/- Several texts put together: RtU, RtV, RtW, RtX, RtY. -/
import Derived.Test.YthipoccbeloceaaBu24
set_option linter.unusedSimpArgs false
set_option linter.unusedVariables false
namespace Go.Proofs.Ythipoccbeloceaa
open Go.RowKit
theorem nodup_len {α : Type} [DecidableEq α] : ∀ (l U : List α), l.Nodup → (∀ v ∈ l, v ∈ U) → l.length ≤ U.length
  | [], _, _, _ => Nat.zero_le _
  | x :: l, U, hn, hs => by
    rw [List.nodup_cons] at hn
    have hx := hs x List.mem_cons_self
    have ih := nodup_len l (U.erase x) hn.2 (fun v hv => (List.mem_erase_of_ne (fun e : v = x => hn.1 (by rw [← e]; exact hv))).2 (hs v (List.mem_cons_of_mem _ hv)))
    rw [List.length_erase_of_mem hx] at ih
    have := List.length_pos_of_mem hx
    rw [List.length_cons]
    omega
structure SprI (U : List Rf) (L : List (List Nat)) (hd : List (Rf × Rf)) (st : NSt) : Prop where
  nodup : st.arr.Nodup
  sub : ∀ v ∈ st.arr, v ∈ U
  hd : st.hd = hd
  L : st.L = L
theorem SprI.le {U : List Rf} {L : List (List Nat)} {hd : List (Rf × Rf)} {st : NSt} (h : SprI U L hd st) : st.arr.length ≤ U.length := nodup_len _ _ h.nodup h.sub
def measS (U : List Rf) (st : NSt) : Nat := U.length + st.q.length - st.arr.length
theorem SprI.array {U : List Rf} {L : List (List Nat)} {hd : List (Rf × Rf)} {st : NSt} (h : SprI U L hd st) {v : Rf} (hv : v ∈ U) : SprI U L hd (arrayS v st) ∧ measS U (arrayS v st) = measS U st := by
  unfold arrayS
  split
  · exact ⟨h, rfl⟩
  · rename_i hm
    refine ⟨⟨?_, fun u hu => ?_, h.hd, h.L⟩, ?_⟩
    · show (st.arr ++ [v]).Nodup
      rw [List.nodup_append]
      exact ⟨h.nodup, by simp, fun a ha b hb e => by rw [List.mem_singleton.1 hb] at e; exact hm (e ▸ ha)⟩
    · rcases List.mem_append.1 hu with hu | hu
      · exact h.sub u hu
      · rw [List.mem_singleton.1 hu]; exact hv
    · unfold measS
      simp only [List.length_append, List.length_cons, List.length_nil]
      omega
theorem spread_nil {f : Nat} {st : NSt} (h : st.q = []) : spreadF f st = st := by
  cases f with
  | zero => rfl
  | succ f => rw [spreadF, h]; rfl
theorem spread_step {f : Nat} {st : NSt} {q : List Rf} {v : Rf} (h : st.q = q ++ [v]) : spreadF (f + 1) st = spreadF f ((handS v st.hd).foldl (fun st x => arrayS x st) ⟨st.L, st.arr, q, st.hd⟩) := by
  rw [spreadF, h]
  simp
theorem note_inv (t : TreeT) (p : Pl) (st : NSt) (h : st.arr.Nodup ∧ st.q.length = st.arr.length) : (noteS t p st).arr.Nodup ∧ (noteS t p st).q.length = (noteS t p st).arr.length ∧ (noteS t p st).arr.length + (noteS t p st).hd.length ≤ st.arr.length + st.hd.length + 1 := by
  have harr : ∀ v : Rf, (arrayS v st).arr.Nodup ∧ (arrayS v st).q.length = (arrayS v st).arr.length ∧ (arrayS v st).arr.length + (arrayS v st).hd.length ≤ st.arr.length + st.hd.length + 1 := fun v => by
    unfold arrayS
    split
    · exact ⟨h.1, h.2, by omega⟩
    · rename_i hm
      refine ⟨?_, by simp [h.2], by simp; omega⟩
      show (st.arr ++ [v]).Nodup
      rw [List.nodup_append]
      exact ⟨h.1, by simp, fun a ha b hb e => by rw [List.mem_singleton.1 hb] at e; exact hm (e ▸ ha)⟩
  obtain ⟨L, arr, q, hd⟩ := st
  unfold noteS
  rw [known_eq]
  dsimp only
  have ha : ∀ (v : Rf) (L' : List (List Nat)), (arrayS v ⟨L', arr, q, hd⟩).arr = (arrayS v ⟨L, arr, q, hd⟩).arr ∧ (arrayS v ⟨L', arr, q, hd⟩).q = (arrayS v ⟨L, arr, q, hd⟩).q ∧ (arrayS v ⟨L', arr, q, hd⟩).hd = (arrayS v ⟨L, arr, q, hd⟩).hd := fun v L' => by
    unfold arrayS
    dsimp only
    split <;> exact ⟨rfl, rfl, rfl⟩
  split
  · split
    · obtain ⟨e1, e2, e3⟩ := ha (refS t (knownS t p ⟨L, arr, q, hd⟩).L p.fn p.n.s) (knownS t p ⟨L, arr, q, hd⟩).L
      rw [e1, e2, e3]
      exact harr _
    · split
      · obtain ⟨e1, e2, e3⟩ := ha (refS t (knownS t p ⟨L, arr, q, hd⟩).L p.fn p.n.s) (knownS t p ⟨L, arr, q, hd⟩).L
        rw [e1, e2, e3]
        exact harr _
      · split
        · exact ⟨h.1, h.2, by simp; omega⟩
        · exact ⟨h.1, h.2, by simp⟩
  · exact ⟨h.1, h.2, by simp⟩
theorem notes_inv (t : TreeT) : ∀ (l : List Pl) (st : NSt), st.arr.Nodup ∧ st.q.length = st.arr.length → (l.foldl (fun st p => noteS t p st) st).arr.Nodup ∧ (l.foldl (fun st p => noteS t p st) st).q.length = (l.foldl (fun st p => noteS t p st) st).arr.length ∧ (l.foldl (fun st p => noteS t p st) st).arr.length + (l.foldl (fun st p => noteS t p st) st).hd.length ≤ st.arr.length + st.hd.length + l.length
  | [], st, h => ⟨h.1, h.2, by simp⟩
  | p :: l, st, h => by
    obtain ⟨h1, h2, h3⟩ := note_inv t p st h
    obtain ⟨k1, k2, k3⟩ := notes_inv t l (noteS t p st) ⟨h1, h2⟩
    exact ⟨k1, k2, by rw [List.length_cons, List.foldl_cons]; omega⟩
theorem note_ok {w1 : World} {X : List Nat} {F : List Cold} {g nF cF nR cR cP mf mg ma mh : Nat} {AF AR AP : Option Addr} {t : TreeT} (HM : Hid (FmAt w1 (Eld w1 X) mf t)) (HP : Hid (PmAt w1 (Eld w1 X) AP nF t)) (hn2 : nF ≤ 1000000) : VisOK w1 X F 21 #[.pointer (some ⟨g, 0, none⟩)] #[] (NoteI w1 X g nF cF nR cR cP mf mg ma mh AF AR AP) (PlG t) (fun _ _ => true) (fun x p => (noteS t p x.1, x.2 + 1)) (·.2) 1000000 where
  up := fun _ _ => Nat.le_refl _
  run := fun args w => by kernel_rfl
  call := fun x V p v bs rs w hI hn hg hp hO => by
    obtain ⟨st, n⟩ := x
    exact note_call HM HP hn2 hI hn (Lib.hid hg) hp hO
theorem run_note (t : TreeT) : ∀ (l : List Pl) (x : NSt × Nat), runV (fun _ _ => true) (fun (x : NSt × Nat) p => (noteS t p x.1, x.2 + 1)) x l = ((l.foldl (fun st p => noteS t p st) x.1, x.2 + l.length), true)
  | [], x => rfl
  | p :: l, x => by
    rw [runV, if_pos rfl, run_note t l, List.foldl_cons, List.length_cons]
    congr 2
    show x.2 + 1 + l.length = _
    omega
section
open Go.RowKit
theorem rdR {w0 : World} {X : List Nat} {xs : (World → Prop) → Prop} {bs : List Bx} {rs : List Rw} {a : Act} {oi : Oper} {ty : TypeId} {x : Operand} (ho : oi.op = .load ty x) {b q : Nat} (hx : a.eval x = .pointer (some ⟨b, q, none⟩)) {e : TypeId} {sz n c m : Nat} {ys : List Value} (hm : (⟨e, sz, .slice (some ⟨b, 0, none⟩) n c, m, ys⟩ : Rw) ∈ rs) {sub : List Value} {N : Nat} [T : TN ty N] [L : Ln sub N] (hs : ∀ j v, sub[j]? = some v → ys[q + j]? = some v) : RdT w0 X xs bs rs a oi (.agg sub.toArray) := fun w _ _ _ _ _ HO _ h2 => by
  refine run_cells ho hx L.n (fun j v hv => ?_)
  have := (HO.out.row _ (h2 _ hm)).cells (g := b) rfl (q + j) v (hs j v hv)
  rw [Addr.add_mid, Nat.zero_add] at this
  exact this
theorem hand_mem {hs : List HEnt} {hd : List (Rf × Rf)} (hH : HdOk hs hd) (v : Rf) : ∃ (l : List Rf) (A3 : Option Addr) (c3 : Nat), l = handS v hd ∧ (lookK v (hs.map handV)).getD (.slice none 0 0) = .slice A3 l.length c3 ∧ (l = [] ∨ (⟨107, 2, .slice A3 l.length c3, l.length, l.flatMap refC⟩ : Rw) ∈ hs.map rowH) := by
  have hl := hH v
  unfold lookHs at hl
  rw [getH_look]
  cases hg : getH v hs with
  | none =>
    rw [hg] at hl
    exact ⟨[], none, 0, hl, rfl, .inl rfl⟩
  | some e =>
    rw [hg] at hl
    exact ⟨e.l, e.A, e.c, hl, rfl, .inr ((getH_rows hg).mem_iff.2 List.mem_cons_self)⟩
def SprJ (w1 : World) (X : List Nat) (F : List Cold) (g nF cF nR cR cP mf mg ma mh : Nat) (AF AR AP : Option Addr) (vL : Value) (U : List Rf) (L : List (List Nat)) (hd : List (Rf × Rf)) (hs : List HEnt) (bs : List Bx) (rs : List Rw) (R : NSt) (n : Nat) (W : World) : Prop :=
  ∃ (st : NSt) (f : Nat) (AQ : Option Addr) (cQ : Nat), SprI U L hd st ∧ n = measS U st ∧ n ≤ f ∧ n ≤ 1000000 ∧ spreadF f st = R ∧ Own w1 X (SX (⟨g, 68, [.slice AF nF cF, .slice AR nR cR, .map (some mf), .slice AP nF cP, .map (some mg), vL, .map (some ma), .map (some mh), .slice AQ st.q.length cQ]⟩ :: []) [(mg, encK strV (enumF L 0)), (ma, encK refV (arrE st.arr)), (mh, encK refV (hs.map handV))] X w1.heap.size) bs (⟨107, 2, .slice AQ st.q.length cQ, st.q.length, st.q.flatMap refC⟩ :: (hs.map rowH ++ rs)) F W
attribute [local irreducible] WQ
set_option maxRecDepth 100000 in
set_option maxHeartbeats 6400000 in
theorem spread_any {w1 : World} {X : List Nat} {F : List Cold} {g nF cF nR cR cP mf mg ma mh : Nat} {AF AR AP : Option Addr} {vL : Value} {U : List Rf} {L : List (List Nat)} {hd : List (Rf × Rf)} {hs : List HEnt} {bs : List Bx} {rs : List Rw} {R : NSt} {n : Nat} {w : World} (HH : Hid (HdOk hs hd)) (HHU : Hid (∀ x ∈ hd, x.2 ∈ U)) (hdl : hd.length ≤ 1000000) (HJ : Hid (SprJ w1 X F g nF cF nR cR cP mf mg ma mh AF AR AP vL U L hd hs bs rs R n w)) :
    Calls Try.prog 22 #[.pointer (some ⟨g, 0, none⟩)] w fun e w' => e = .returned (.tuple #[]) ∧ R.q = [] ∧ ∃ (AQ : Option Addr) (cQ : Nat), SprI U L hd R ∧ Own w1 X (SX (⟨g, 68, [.slice AF nF cF, .slice AR nR cR, .map (some mf), .slice AP nF cP, .map (some mg), vL, .map (some ma), .map (some mh), .slice AQ R.q.length cQ]⟩ :: []) [(mg, encK strV (enumF L 0)), (ma, encK refV (arrE R.arr)), (mh, encK refV (hs.map handV))] X w1.heap.size) bs (⟨107, 2, .slice AQ R.q.length cQ, R.q.length, R.q.flatMap refC⟩ :: (hs.map rowH ++ rs)) F w' := by
  obtain ⟨μ, hμ⟩ := least_fn (fun n W => SprJ w1 X F g nF cF nR cR cP mf mg ma mh AF AR AP vL U L hd hs bs rs R n W)
  have Hμ := Lib.hid hμ
  clear hμ
  obtain ⟨st0, f0, AQ0, cQ0, hI0, hn0, hf0, hN0, hR0, hO0⟩ := HJ.out
  have HO := Lib.hid hO0
  clear hI0 hn0 hf0 hN0 hR0 hO0
  go_enter Try.func22, Try.ntmps22
  (repeat' (first | ((with_reducible refine zG ?_); first | refine oWx ?_ | (refine oWs ?_; clear HO; intro _ HO)) | go_values | go_skip | go_guarded | go_step | go_upon | (go_ite <;> go_prune <;> (try go_simp))))
  clear HO
  go_loopw [] (fun W => ∃ n, SprJ w1 X F g nF cF nR cR cP mf mg ma mh AF AR AP vL U L hd hs bs rs R n W) (fun W => μ W)
  case atStart => exact ⟨_, HJ.out⟩
  case round =>
    clear HJ
    obtain ⟨hj, hmin⟩ := Hμ.out _ hrel
    clear hrel hmin
    generalize hN : μ _ = N at hj
    have HN9 := Lib.hid hN
    clear hN
    obtain ⟨⟨L0, arr, q, hd0⟩, f, AQ, cQ, hI, hn, hf, hN6, hR, hO⟩ := hj
    have HO := Lib.hid hO
    have HI := Lib.hid hI
    have HM := Lib.hid hn
    have HR := Lib.hid hR
    clear hO hI hn hR
    dsimp only at HO
    rcases List.eq_nil_or_concat q with rfl | ⟨q', v, hyy⟩
    · have hr := HR.out
      rw [spread_nil rfl] at hr
      subst hr
      (repeat' (first | ((with_reducible refine zG ?_); first | refine oWx ?_ | (refine oWs ?_; clear HO; intro _ HO)) | ((with_reducible refine to_load ?_); (first | first | refine oN0 HO rfl rfl HN ?_ | refine oNj HO rfl rfl HN rfl rfl ?_ | refine oY1 HO rfl rfl ?_ | refine oY3 HO rfl rfl ?_); (try simp only [Act.put, pS])) | go_values | go_skip | go_guarded | go_step | go_upon | (go_ite <;> go_prune <;> (try go_simp))))
      refine bp_noneN rfl rfl ?_
      exact ⟨rfl, rfl, AQ, cQ, HI.out, HO.out⟩
    · rw [List.concat_eq_append] at hyy
      subst hyy
      have hle := HI.out.le
      have hm := HM.out
      unfold measS at hm
      dsimp only at hm hle
      obtain ⟨k, hk⟩ : ∃ k, q'.length = k := ⟨_, rfl⟩
      have hqk : (q' ++ [v]).length = k + 1 := by rw [List.length_append, hk]; rfl
      rw [hqk] at HO hm
      have hkb : k + 1 ≤ 1000000 := by omega
      obtain ⟨f, rfl⟩ : ∃ f', f = f' + 1 := ⟨f - 1, by omega⟩
      have hr := HR.out
      rw [spread_step rfl] at hr
      dsimp only at hr
      have HR2 := Lib.hid hr
      have hel : ∀ j u, [Value.int .i64 v.fn, .int .i64 (v.i : Int)][j]? = some u → ((q' ++ [v]).flatMap refC)[k * 2 + j]? = some u := fun j u hv => flat_get refC 2 _ k j v u (fun _ _ => rfl) (by rw [← hk, List.getElem?_append_right (Nat.le_refl _), Nat.sub_self]; rfl) hv
      have htk : ((q' ++ [v]).flatMap refC).take (k * 2) = q'.flatMap refC := by
        have hl := flat_len refC 2 q' (fun _ _ => rfl)
        rw [List.flatMap_append, List.take_append_of_le_length (Nat.le_of_eq (by rw [hl, hk])), List.take_of_length_le (Nat.le_of_eq (by rw [hl, hk]))]
      obtain ⟨b, rfl, hc2, _⟩ := row_ptr (HO.out.row _ List.mem_cons_self) (Nat.succ_pos k)
      have hkc : (k : Int) ≤ (cQ : Int) := by omega
      have hhd := HI.out.hd
      have hLL := HI.out.L
      dsimp only at hhd hLL
      obtain ⟨l, A3, c3, hl, hlook, hmem⟩ := hand_mem HH.out v
      have hI1 : SprI U L hd ⟨L0, arr, q', hd0⟩ := ⟨HI.out.nodup, HI.out.sub, hhd, hLL⟩
      have hm1 : measS U ⟨L0, arr, q', hd0⟩ + 1 = N := by unfold measS; dsimp only; omega
      have HEL := Lib.hid hel
      have HTK := Lib.hid htk
      have hll : l.length ≤ 1000000 := by rw [hl]; exact Nat.le_trans (handS_len v hd) hdl
      have HHL := Lib.hid hl
      have HME := Lib.hid hmem
      have HI1 := Lib.hid hI1
      have HM1 := Lib.hid hm1
      have HHD := Lib.hid hhd
      have HK := Lib.hid hk
      clear hel htk hl hmem hI1 hm1 hhd hLL hk hm hqk hr HM HR
      (repeat' (first | ((with_reducible refine zG ?_); first | refine oWx ?_ | (refine oWs ?_; clear HO; intro _ HO)) | ((with_reducible refine to_load ?_); (first | first | refine oN0 HO rfl rfl HN ?_ | refine oNj HO rfl rfl HN rfl rfl ?_ | refine oY1 HO rfl rfl ?_ | refine oY3 HO rfl rfl ?_); (try simp only [Act.put, pS])) | go_values | go_skip | go_guarded | go_step | go_upon | (go_ite <;> go_prune <;> (try go_simp))))
      have hw : IntKind.i64.wrap (k : Int) = (k : Int) := IntWalk.i64_in _ (by omega)
      have hkk : (k : Int) < (k : Int) + 1 := by omega
      ((refine tBr HO [13] (.pu 0 (.pu 1 (.pu 2 (.pu 4 (.pu 5 (.pu 6 (.ld 3 (.ld 7 (.pu 8 (.pu 9 (.pu 10 (.ld 11 (.ef 12 (.lt 13 (.nil))))))))))))))) ?_); (clear HO; intro _ HO); (repeat' (first | ((with_reducible refine tGo ?_); first | ((first | refine tL1 (OwnT.of HO) rfl rfl rfl (by kernel_rfl) (fun _ _ _ h => h) (by rfl) ?_ | refine tL3 (OwnT.of HO) rfl rfl rfl (by kernel_rfl) (fun _ _ _ h => h) (by rfl) ?_ | refine tY1 (OwnT.of HO) rfl rfl rfl (by kernel_rfl) (fun _ _ _ h => h) (by rfl) ?_ | refine tRd (OwnT.of HO) rfl (by kernel_rfl) (fun _ _ _ h => h) (by rfl) (rdR rfl rfl List.mem_cons_self HEL.out) ?_); (try simp only [Act.put, pS])) | ((first | refine tPu (OwnT.of HO) rfl (by kernel_rfl) (fun _ _ _ h => h) (by rfl) (by intro _; go_simp; (try with_reducible rfl)) ?_); (try simp only [Act.put, pS])) | refine tEf rfl (by kernel_rfl) (by rfl) (fun K hK => ?_) | refine tLt rfl (by kernel_rfl) (by rfl) (fun K hK => ?_) | refine tDo (by kernel_rfl) ?_) | ((with_reducible refine uGo ?_); first | ((refine uPu rfl (by kernel_rfl) (fun _ _ _ h => h) (by rfl) (by intro _; go_simp; (try with_reducible rfl)) ?_); (try simp only [Act.put, pS])) | refine uEf rfl (by kernel_rfl) (by rfl) (fun K hK => ?_) | refine uDo (by kernel_rfl) ?_) | ((with_reducible show K _ _); (first | refine hK.out _ _ (OwnT.of HO) ?_ | with_reducible refine hK.out _ _ ?_); clear hK K; (try simp only [Act.put, pS])) | ((with_reducible refine oAl HO ?_); clear HO; intro _ HO) | ((with_reducible refine to_store ?_); first | (refine oYs HO rfl rfl rfl (by rfl) ?_; clear HO; intro _ HO) | ((first | refine oT1 HO rfl rfl rfl ?_ | refine oT2 HO rfl rfl rfl (by rfl) ?_ | refine oT3 HO rfl rfl rfl rfl ?_); clear HO; intro _ HO)))))
      (repeat' (first | ((with_reducible refine zG ?_); first | refine oWx ?_ | (refine oWs ?_; clear HO; intro _ HO)) | ((with_reducible refine to_load ?_); (first | first | refine oN0 HO rfl rfl HN ?_ | refine oNj HO rfl rfl HN rfl rfl ?_ | refine oY1 HO rfl rfl ?_ | refine oY3 HO rfl rfl ?_); (try simp only [Act.put, pS])) | go_values | go_skip | go_guarded | go_step | go_upon | (go_ite <;> go_prune <;> (try go_simp))))
      ((refine tBe HO [14] (.pu 0 (.pu 1 (.pu 2 (.pu 3 (.pu 5 (.pu 6 (.pu 7 (.ld 4 (.ld 8 (.pu 9 (.pu 10 (.pu 11 (.pu 12 (.pu 13 (.lt 14 (.nil)))))))))))))))) ?_); (clear HO; intro _ HO); (repeat' (first | ((with_reducible refine tGo ?_); first | ((first | refine tL1 (OwnT.of HO) rfl rfl rfl (by kernel_rfl) (fun _ _ _ h => h) (by rfl) ?_ | refine tL3 (OwnT.of HO) rfl rfl rfl (by kernel_rfl) (fun _ _ _ h => h) (by rfl) ?_ | refine tY1 (OwnT.of HO) rfl rfl rfl (by kernel_rfl) (fun _ _ _ h => h) (by rfl) ?_); (try simp only [Act.put, pS])) | ((first | refine tPu (OwnT.of HO) rfl (by kernel_rfl) (fun _ _ _ h => h) (by rfl) (by intro _; go_simp; (try with_reducible rfl)) ?_); (try simp only [Act.put, pS])) | refine tEf rfl (by kernel_rfl) (by rfl) (fun K hK => ?_) | refine tLt rfl (by kernel_rfl) (by rfl) (fun K hK => ?_) | refine tDo (by kernel_rfl) ?_) | ((with_reducible refine uGo ?_); first | ((refine uPu rfl (by kernel_rfl) (fun _ _ _ h => h) (by rfl) (by intro _; go_simp; (try with_reducible rfl)) ?_); (try simp only [Act.put, pS])) | refine uEf rfl (by kernel_rfl) (by rfl) (fun K hK => ?_) | refine uDo (by kernel_rfl) ?_) | ((with_reducible show K _ _); (first | refine hK.out _ _ (OwnT.of HO) ?_ | with_reducible refine hK.out _ _ ?_); clear hK K; (try simp only [Act.put, pS])) | ((with_reducible refine to_store ?_); first | (refine oYs HO rfl rfl rfl (by rfl) ?_; clear HO; intro _ HO) | ((first | refine oT1 HO rfl rfl rfl ?_ | refine oT2 HO rfl rfl rfl (by rfl) ?_ | refine oT3 HO rfl rfl rfl rfl ?_); clear HO; intro _ HO)))))
      clear hw hkk
      (repeat' (first | ((with_reducible refine zG ?_); first | refine oWx ?_ | (refine oWs ?_; clear HO; intro _ HO)) | ((with_reducible refine to_load ?_); (first | first | refine oN0 HO rfl rfl HN ?_ | refine oNj HO rfl rfl HN rfl rfl ?_ | refine oY1 HO rfl rfl ?_ | refine oY3 HO rfl rfl ?_); (try simp only [Act.put, pS])) | go_values | go_skip | go_guarded | go_step | go_upon | (go_ite <;> go_prune <;> (try go_simp))))
      (refine qBe HO (by kernel_rfl) ?_); (repeat' (first | ((with_reducible refine qNi ?_); (clear HO; intro _ HO)) | ((with_reducible refine qSt ?_); first | ((first | ((with_reducible refine qLd ?_); first | ((with_reducible refine qGd ?_); (with_reducible refine qSk ?_ ?_); focus rfl) | refine qL1 (by rfl) rfl rfl ?_ | refine qL3 (by rfl) rfl rfl ?_ | refine qY1 (by rfl) rfl rfl ?_) | ((with_reducible refine qLk ?_); first | ((with_reducible refine qGd ?_); (with_reducible refine qSk ?_ ?_); focus rfl) | refine qVa (by rfl) (rkx3 (k := v) keyRef Try.underlying64 zSl rfl rfl rfl (fun _ _ => trivial) trivial hlook) ?_) | ((with_reducible refine qFd ?_); first | ((with_reducible refine qGd ?_); (with_reducible refine qSk ?_ ?_); focus rfl) | refine qVa (by rfl) (rFi rfl rfl ⟨_, _, _, _, _, _, _, rfl, rfl, inferInstance⟩) ?_) | ((with_reducible refine qCl ?_); first | ((with_reducible refine qGd ?_); (with_reducible refine qSk ?_ ?_); focus rfl)) | ((fail_if_success (with_reducible refine qLd ?_)); (fail_if_success (with_reducible refine qLk ?_)); (fail_if_success (with_reducible refine qCl ?_)); first | ((with_reducible refine qGd ?_); (with_reducible refine qSk ?_ ?_); focus rfl) | refine qVa (by rfl) (by intro _ _; go_simp; (try with_reducible rfl)) ?_)); (try simp only [Act.put, pS])))))
      (repeat' (first | ((with_reducible refine zG ?_); first | refine oWx ?_ | (refine oWs ?_; clear HO; intro _ HO)) | ((with_reducible refine to_load ?_); (first | first | refine oN0 HO rfl rfl HN ?_ | refine oNj HO rfl rfl HN rfl rfl ?_ | refine oY1 HO rfl rfl ?_ | refine oY3 HO rfl rfl ?_); (try simp only [Act.put, pS])) | go_values | go_skip | go_guarded | go_step | go_upon | (go_ite <;> go_prune <;> (try go_simp))))
      have hk := HK.out
      subst hk
      have hO2 := (HO.out.cutRow (k := q'.length) (Nat.le_succ _)).sub (List.sublist_cons_self _ _) (List.Sublist.refl _) (fun _ h => h)
      rw [HTK.out] at hO2
      have HO2 := Lib.hid hO2
      clear HO hO2 HK
      go_loopw [44] (fun iv W => ∃ (i : Nat) (st' : NSt) (AQ' : Option Addr) (cQ' : Nat), iv = .int .i64 (i : Int) ∧ i ≤ l.length ∧ Hid (st' = (l.take i).foldl (fun st x => arrayS x st) ⟨L0, arr, q', hd0⟩) ∧ Hid (SprI U L hd st' ∧ measS U st' + 1 = N) ∧ Hid (Own w1 X (SX (⟨g, 68, [.slice AF nF cF, .slice AR nR cR, .map (some mf), .slice AP nF cP, .map (some mg), vL, .map (some ma), .map (some mh), .slice AQ' st'.q.length cQ']⟩ :: []) [(mg, encK strV (enumF L 0)), (ma, encK refV (arrE st'.arr)), (mh, encK refV (hs.map handV))] X w1.heap.size) bs (⟨107, 2, .slice AQ' st'.q.length cQ', st'.q.length, st'.q.flatMap refC⟩ :: (hs.map rowH ++ rs)) F W)) (fun iv _ => l.length - (intOf iv).toNat)
      case atStart => exact ⟨0, ⟨L0, arr, q', hd0⟩, _, _, rfl, Nat.zero_le _, Lib.hid rfl, Lib.hid ⟨HI1.out, HM1.out⟩, HO2⟩
      case round =>
        clear HO2
        obtain ⟨i, ⟨L5, arr5, q5, hd5⟩, AQ5, cQ5, rfl, hi, HS, HI5, HO⟩ := hrel
        dsimp only at HO
        rcases Nat.lt_or_ge i l.length with hlt | hge
        · have hme := HME.out.resolve_left (by intro e; rw [e] at hlt; simp at hlt)
          obtain ⟨b3, rfl, hc3, _⟩ := row_ptr (HO.out.row _ (List.mem_cons_of_mem _ (List.mem_append_left _ hme))) (by omega)
          obtain ⟨x, hx⟩ : ∃ x, l[i]? = some x := ⟨_, List.getElem?_eq_getElem hlt⟩
          have hel5 : ∀ j u, [Value.int .i64 x.fn, .int .i64 (x.i : Int)][j]? = some u → (l.flatMap refC)[i * 2 + j]? = some u := fun j u hv => flat_get refC 2 _ i j x u (fun _ _ => rfl) hx hv
          have hiI : (i : Int) < (l.length : Int) := by omega
          have hxU : x ∈ U := by
            have h1 : x ∈ handS v hd := HHL.out ▸ List.mem_of_getElem? hx
            unfold handS at h1
            obtain ⟨y, hy, rfl⟩ := List.mem_map.1 h1
            exact HHU.out y (List.mem_filter.1 hy).1
          have hq5 : q5.length ≤ 1000000 := by
            have h1 := HI5.out.2
            have h2 := HI5.out.1.le
            unfold measS at h1
            dsimp only at h1 h2
            omega
          have htk5 : l.take (i + 1) = l.take i ++ [x] := by
            rw [List.take_add_one, hx]
            rfl
          have HEL5 := Lib.hid hel5
          have HTK5 := Lib.hid htk5
          have HMM := Lib.hid hme
          clear hel5 htk5 hx hme
          (repeat' (first | ((with_reducible refine zG ?_); first | refine oWx ?_ | (refine oWs ?_; clear HO; intro _ HO)) | ((with_reducible refine to_load ?_); (first | first | refine oRw HO rfl rfl (List.mem_cons_of_mem _ (List.mem_append_left _ HMM.out)) HEL5.out ?_ | refine oY1 HO rfl rfl ?_ | refine oY3 HO rfl rfl ?_); (try simp only [Act.put, pS])) | ((go_big_may; first | (go_at_call 39; refine (array_any (xt := []) (vQ := .nilIface) x hq5 HO).mono ?_; rintro e W ⟨rfl, AQ9, cQ9, hO9⟩; clear HO; have HO := Lib.hid hO9; clear hO9)) <;> (try dsimp only)) | go_values | go_skip | go_guarded | go_step | go_upon | (go_ite <;> go_prune <;> (try go_simp))))
          refine ⟨⟨i + 1, ⟨L5, (arrN x arr5 q5).1, (arrN x arr5 q5).2, hd5⟩, AQ9, cQ9, rfl, hlt, Lib.hid ?_, Lib.hid ?_, Lib.hid (HO.out.sub (List.sublist_cons_self _ _) (List.Sublist.refl _) (fun _ h => h))⟩, ?_⟩
          · rw [HTK5.out, List.foldl_append, ← HS.out, ← array_eq]
            rfl
          · rw [← array_eq]
            have h1 := HI5.out.1.array hxU
            exact ⟨h1.1, by rw [h1.2]; exact HI5.out.2⟩
          · exact meas2 rfl (Nat.le_refl _) hlt
        · obtain rfl : i = l.length := by omega
          (repeat' (first | ((with_reducible refine zG ?_); first | refine oWx ?_ | (refine oWs ?_; clear HO; intro _ HO)) | ((with_reducible refine to_load ?_); (first | first | refine oN0 HO rfl rfl HN ?_ | refine oNj HO rfl rfl HN rfl rfl ?_ | refine oY1 HO rfl rfl ?_ | refine oY3 HO rfl rfl ?_); (try simp only [Act.put, pS])) | go_values | go_skip | go_guarded | go_step | go_upon | (go_ite <;> go_prune <;> (try go_simp))))
          have hs5 := HS.out
          rw [List.take_length, HHL.out, ← HHD.out] at hs5
          have hm5 := HI5.out.2
          have hJ : SprJ w1 X F g nF cF nR cR cP mf mg ma mh AF AR AP vL U L hd hs bs rs R (measS U ⟨L5, arr5, q5, hd5⟩) _ := ⟨⟨L5, arr5, q5, hd5⟩, f, AQ5, cQ5, HI5.out.1, rfl, by omega, by omega, by rw [hs5]; exact HR2.out, HO.out⟩
          exact ⟨⟨_, hJ⟩, Nat.lt_of_le_of_lt ((Hμ.out _ ⟨_, hJ⟩).2 _ hJ) (by first | (rw [HN9.out]; omega) | omega)⟩
end
section
open Go.RowKit
def varB (x : List Nat × Bool) : List Value := [.string (strN x.1), .bool x.2]
abbrev ElN : Type := List (List Nat × Bool) × Option Addr × Nat
def slN (e : ElN) : Value := .slice e.2.1 e.1.length e.2.2
def Cold.lc (els : List ElN) : Cold := ⟨fun w F => ∀ e ∈ els, e.1.length ≤ e.2.2 ∧ RowAt w F e.2.1 (e.1.flatMap varB), fun _ _ _ _ hF h e he => ⟨(h e he).1, (h e he).2.st hF⟩⟩
theorem flag_at (arr : List Rf) (fn : Int) (l : List (List Nat)) (j : Nat) (s : List Nat) (h : l[j]? = some s) : (flagL arr fn l 0)[j]? = some (s, decide ((⟨fn, j⟩ : Rf) ∈ arr)) := by
  have hj := (List.getElem?_eq_some_iff.1 h).1
  have h1 := flag_get arr fn l 0 j hj
  have h2 : ((flagL arr fn l 0).map (·.1))[j]? = some s := by rw [flag_fst]; exact h
  rw [List.getElem?_map] at h2
  cases hx : (flagL arr fn l 0)[j]? with
  | none => rw [hx] at h2; cases h2
  | some x =>
    rw [hx] at h1 h2
    obtain ⟨x1, x2⟩ := x
    simp only [Option.map_some, Option.some.injEq, Nat.zero_add] at h1 h2
    rw [h1, h2]
theorem flag_len (arr : List Rf) (fn : Int) (l : List (List Nat)) : (flagL arr fn l 0).length = l.length := by
  have := congrArg List.length (flag_fst arr fn l 0)
  rw [List.length_map] at this
  exact this
section
variable {o : Oper} {a : Act} {w0 w : World} {X : List Nat} {S : World → Prop} {bs : List Bx} {rs : List Rw} {F : List Cold} {K : Act → World → Prop} {Q : Exit → Act → World → Prop}
theorem oE3 (HO : Hid (Own w0 X S bs rs F w)) {ty : TypeId} {x : Operand} (ho : o.op = .load ty x) {b q : Nat} (hx : a.eval x = .pointer (some ⟨b, q, none⟩)) {sub : List Value} {N : Nat} [T : TN ty N] [L : Ln sub N] (hb : Eld w0 X b) (hc : w0.rangeAt b q sub) (h : K (a.put o.dst (.agg sub.toArray)) w) : WOp Try.prog o a w K Q :=
  wo_run HO (fun w h => run_cells ho hx L.n (fun j v hv => h.out.elder hb.1 hb.2 (hc j v hv))) h
def NmJ {T : TypeId} {x y x2 y2 : Value} {b3 b2 : Nat} (_ : Hid (Own w0 X S (⟨b3, T, [x, y]⟩ :: ⟨b2, T, [x2, y2]⟩ :: bs) rs F w)) (G : List (List Nat × Bool)) (v : Value) (W : World) : Prop :=
  ∃ (i : Nat) (A : Option Addr) (c : Nat), v = .int .i64 (i : Int) ∧ i ≤ G.length ∧ Hid (Own w0 X S (⟨b3, T, [.slice A i c, .slice none 0 0]⟩ :: ⟨b2, T, [x2, y2]⟩ :: bs) (⟨52, 2, .slice A i c, i, (G.take i).flatMap varB⟩ :: rs) F W)
end
theorem info_slv : (Try.prog.info? 30).map (fun i => (i.zero, i.size, i.bytes)) = some (some (.slice none 0 0), 1, 24) := by kernel_rfl
section
variable {w0 w : World} {X : List Nat} {S : World → Prop} {bs : List Bx} {rs : List Rw} {F : List Cold}
def NmK {T : TypeId} {x y x2 y2 : Value} {b3 b2 : Nat} (_ : Hid (Own w0 X S (⟨b3, T, [x, y]⟩ :: ⟨b2, T, [x2, y2]⟩ :: bs) rs F w)) (Ls : List (List (List Nat × Bool))) (v : Value) (W : World) : Prop :=
  ∃ (i : Nat) (A : Option Addr) (c : Nat) (els : List ElN), v = .int .i64 (i : Int) ∧ i ≤ Ls.length ∧ Hid (els.map (·.1) = Ls.take i) ∧ Hid (Own w0 X S (⟨b3, T, [x, .slice A i c]⟩ :: ⟨b2, T, [x2, y2]⟩ :: bs) (⟨30, 1, .slice A i c, i, els.map slN⟩ :: rs) (Cold.lc els :: F) W)
def NmL (_ : Hid (Own w0 X S bs rs F w)) (Gf : List (List Nat × Bool)) (lv jv : Value) (W : World) : Prop :=
  ∃ (j : Nat) (A : Option Addr) (c : Nat), lv = .slice A j c ∧ jv = .int .i64 (j : Int) ∧ j ≤ Gf.length ∧ Hid (Own w0 X S bs (⟨52, 2, .slice A j c, j, (Gf.take j).flatMap varB⟩ :: rs) F W)
theorem lc_nil (h : Own w0 X S bs rs F w) : Own w0 X S bs rs (Cold.lc [] :: F) w := h.coldAll (Cold.lc []) (fun e he => by cases he)
end
attribute [local irreducible] WQ
set_option maxRecDepth 100000 in
set_option maxHeartbeats 6400000 in
theorem names_any {w1 : World} {F : List Cold} {g nF cF nR cR cP mf mg ma mh : Nat} {AF AR AP : Option Addr} {vL vQ : Value} {xt : List Bx} {X : List Nat} {L : List (List Nat)} {arr : List Rf} {hl : List (Value × Value)} {AL : Option Addr} {cL : Nat} {t : TreeT} {bs : List Bx} {rs : List Rw} {w : World} (HT : Hid (TrAt w1 (Eld w1 X) AF AR nF nR t)) (hnF : Hid (nF = t.funcs.length)) (hn1 : nF ≤ 1000000) (hpl : ∀ f ∈ t.funcs, f.params.length ≤ 1000000) (hLl : L.length ≤ 1000000) (HML : Hid ((⟨52, 2, .slice AL L.length cL, L.length, L.flatMap varC⟩ : Rw) ∈ rs)) (HO : Hid (Own w1 X (SX (⟨g, 68, [.slice AF nF cF, .slice AR nR cR, .map (some mf), .slice AP nF cP, .map (some mg), .slice AL L.length cL, .map (some ma), .map (some mh), vQ]⟩ :: []) [(mg, encK strV (enumF L 0)), (ma, encK refV (arrE arr)), (mh, hl)] X w1.heap.size) bs rs F w)) :
    Calls Try.prog 25 #[.pointer (some ⟨g, 0, none⟩)] w fun e w' => ∃ (AG : Option Addr) (cG : Nat) (AH : Option Addr) (cH : Nat) (els : List ElN), e = .returned (.agg #[.slice AG L.length cG, .slice AH nF cH]) ∧ els.map (·.1) = localsL arr t.funcs 0 ∧ L.length ≤ cG ∧ nF ≤ cH ∧ Own w1 X (SX (⟨g, 68, [.slice AF nF cF, .slice AR nR cR, .map (some mf), .slice AP nF cP, .map (some mg), .slice AL L.length cL, .map (some ma), .map (some mh), vQ]⟩ :: []) [(mg, encK strV (enumF L 0)), (ma, encK refV (arrE arr)), (mh, hl)] X w1.heap.size) bs rs (Cold.row AH (els.map slN) :: Cold.lc els :: Cold.row AG ((flagL arr (-1) L 0).flatMap varB) :: F) w' := by
  obtain ⟨G, hG⟩ : ∃ G, flagL arr (-1) L 0 = G := ⟨_, rfl⟩
  have hGl : G.length = L.length := by rw [← hG, flag_len]
  rw [hG]
  have HG := Lib.hid hG
  have HGL := Lib.hid hGl
  clear hG hGl
  obtain ⟨Ls, hLs⟩ : ∃ z, localsL arr t.funcs 0 = z := ⟨_, rfl⟩
  have hll : Ls.length = nF := by rw [← hLs, locals_len, hnF.out]
  have HLs := Lib.hid hLs
  have HLL := Lib.hid hll
  rw [hLs]
  clear hLs hll
  go_enter Try.func25, Try.ntmps25
  (repeat' (first | ((with_reducible refine zG ?_); first | refine oWx ?_ | (refine oWs ?_; clear HO; intro _ HO) | (refine oWj ?_; clear HO; intro _ HO HB)) | ((with_reducible refine to_load ?_); (first | first | refine oY1 HO rfl rfl ?_); (try simp only [Act.put, pS])) | go_values | go_skip | go_guarded | go_step | go_upon | (go_ite <;> go_prune <;> (try go_simp))))
  have HO0 := HO
  go_loopw [16] (fun iv W => NmJ HO0 G iv W) (fun iv _ => G.length - (intOf iv).toNat)
  case atStart => exact ⟨0, none, 0, rfl, Nat.zero_le _, Lib.hid (HO.out.nilRow _ _)⟩
  case round =>
    clear HO
    obtain ⟨i, A, c, rfl, hi, HO⟩ := hrel
    rcases Nat.lt_or_ge i G.length with hlt | hge
    · have hltL : i < L.length := by have := HGL.out; omega
      obtain ⟨s, hs⟩ : ∃ s, L[i]? = some s := ⟨_, List.getElem?_eq_getElem hltL⟩
      obtain ⟨b1, rfl, hc3, _⟩ := row_ptr (HO.out.row _ (List.mem_cons_of_mem _ HML.out)) (by omega)
      have hel : ∀ j u, [Value.string (strN s), .bool false][j]? = some u → (L.flatMap varC)[i * 2 + j]? = some u := fun j u hv => flat_get varC 2 _ i j s u (fun _ _ => rfl) hs hv
      have hiI : (i : Int) < (L.length : Int) := by omega
      have hgi : G[i]? = some (s, decide ((⟨-1, i⟩ : Rf) ∈ arr)) := by rw [← HG.out]; exact flag_at _ _ _ _ _ hs
      have htk : (G.take (i + 1)).flatMap varB = (G.take i).flatMap varB ++ [.string (strN s), .bool (decide ((⟨-1, i⟩ : Rf) ∈ arr))] := by
        rw [List.take_add_one, hgi, List.flatMap_append]
        rfl
      have HEL := Lib.hid hel
      have HTK := Lib.hid htk
      clear hel htk hgi hs
      (repeat' (first | ((with_reducible refine zG ?_); first | refine oWx ?_ | (refine oWs ?_; clear HO; intro _ HO) | (refine oWj ?_; clear HO; intro _ HO HB)) | ((with_reducible refine to_load ?_); (first | first | refine oRw HO rfl rfl (List.mem_cons_of_mem _ HML.out) HEL.out ?_ | refine oY1 HO rfl rfl ?_); (try simp only [Act.put, pS])) | ((with_reducible refine ab_junk HO 52 ?_); clear HO; intro _ HO HB) | ((with_reducible refine to_append ?_); refine wo_appG HO rfl rfl rfl HB Try.underlying30 info_var rfl (by decide) rfl (by simp [Value.oneCell']) (by omega) (by decide) ?_; clear HO HB; intro _ _ _ hcap HO; (try simp only [Act.put, pS])) | ((go_big_may; first | (go_at_call 40; refine arm_rdv (fun w h => isArray_any ⟨-1, i⟩ w (rdv_at h)) HO ?_; clear HO; intro _ HO)) <;> (try dsimp only)) | go_values | go_skip | go_guarded | go_step | go_upon | (go_ite <;> go_prune <;> (try go_simp))))
      rw [← HTK.out] at HO
      refine ⟨⟨i + 1, _, _, rfl, hlt, Lib.hid (HO.out.sub (List.sublist_cons_self _ _) (List.Sublist.refl _) (fun _ h => h))⟩, ?_⟩
      exact meas2 rfl (Nat.le_refl _) hlt
    · obtain rfl : i = G.length := by omega
      rw [List.take_length] at HO
      have hgl := HGL.out
      have hng : ¬ (G.length : Int) < (L.length : Int) := by omega
      rw [hgl] at HO
      clear hgl
      obtain ⟨AG, cG, eG, hcG, hO⟩ := HO.out.freezeG (by intro h; dsimp only at h ⊢; rw [List.length_eq_zero_iff] at h; have := HG.out; rw [h] at this; rw [← this]; rfl)
      injection eG with e1 e2 e3
      subst e1 e3
      clear HO e2
      have HO := Lib.hid hO
      clear hO
      dsimp only at hcG HO
      (repeat' (first | ((with_reducible refine zG ?_); first | refine oWx ?_ | (refine oWs ?_; clear HO; intro _ HO) | (refine oWj ?_; clear HO; intro _ HO HB)) | ((with_reducible refine to_load ?_); (first | first | refine oY1 HO rfl rfl ?_); (try simp only [Act.put, pS])) | go_values | go_skip | go_guarded | go_step | go_upon | (go_ite <;> go_prune <;> (try go_simp))))
      clear hng hge hi
      have HO1 := HO
      go_loopw [39] (fun iv W => NmK HO1 Ls iv W) (fun iv _ => Ls.length - (intOf iv).toNat)
      case atStart => exact ⟨0, none, 0, [], rfl, Nat.zero_le _, Lib.hid rfl, Lib.hid (lc_nil (HO.out.nilRow _ _))⟩
      case round =>
        clear HO
        obtain ⟨i, A5, c5, els, rfl, hi, HE, HO⟩ := hrel
        rcases Nat.lt_or_ge i Ls.length with hlt | hge
        · have hif : i < t.funcs.length := by have h1 := HLL.out; have h2 := hnF.out; omega
          obtain ⟨f, hf⟩ : ∃ f, t.funcs[i]? = some f := ⟨_, List.getElem?_eq_getElem hif⟩
          obtain ⟨-, b2, A2, c2, B2, e2, rfl, hb2, hcl, hok⟩ := HT.out.func hf
          have hc11 : w1.rangeAt b2 (i * 11) (funcC f A2 c2 B2 e2) := hcl
          unfold funcC at hc11
          have hiI : (i : Int) < (nF : Int) := by have h1 := HLL.out; omega
          have HB2 := Lib.hid hb2
          have HC11 := Lib.hid hc11
          have HPR := Lib.hid hok.2.2.1
          have hpf := hpl f (List.mem_of_getElem? hf)
          obtain ⟨Gf, hGf⟩ : ∃ z, flagL arr (i : Int) f.params 0 = z := ⟨_, rfl⟩
          have hgfl : Gf.length = f.params.length := by rw [← hGf, flag_len]
          have hlsi : Ls[i]? = some Gf := by rw [← HLs.out, locals_get, hf, Nat.zero_add, ← hGf]; rfl
          have HGF := Lib.hid hGf
          have HGFL := Lib.hid hgfl
          have HLSI := Lib.hid hlsi
          clear hb2 hcl hok hc11 hf hGf hgfl hlsi
          (repeat' (first | ((with_reducible refine zG ?_); first | refine oWx ?_ | (refine oWs ?_; clear HO; intro _ HO) | (refine oWj ?_; clear HO; intro _ HO HB)) | ((with_reducible refine to_load ?_); (first | first | refine oE3 HO rfl rfl HB2.out HC11.out ?_ | refine oY1 HO rfl rfl ?_); (try simp only [Act.put, pS])) | go_values | go_skip | go_guarded | go_step | go_upon | (go_ite <;> go_prune <;> (try go_simp))))
          have HO2 := HO
          go_loopw [8, 47] (fun lv jv W => NmL HO2 Gf lv jv W) (fun _ jv _ => Gf.length - (intOf jv).toNat)
          case atStart => exact ⟨0, none, 0, rfl, rfl, Nat.zero_le _, Lib.hid (HO.out.nilRow _ _)⟩
          case round =>
            clear HO
            obtain ⟨j, A6, c6, rfl, rfl, hj, HO⟩ := hrel
            rcases Nat.lt_or_ge j Gf.length with hlj | hgj
            · have hjp : j < f.params.length := by have h1 := HGFL.out; omega
              obtain ⟨s, hs⟩ : ∃ s, f.params[j]? = some s := ⟨_, List.getElem?_eq_getElem hjp⟩
              have hsv : (strVs f.params)[j]? = some (.string (strN s)) := by unfold strVs; rw [List.getElem?_map, hs]; rfl
              obtain ⟨b4, rfl, hb4, hc4⟩ := HPR.out (by intro h0; rw [h0] at hsv; simp at hsv)
              have hcell := hc4 j _ hsv
              have hjI : (j : Int) < (f.params.length : Int) := by omega
              have hgj : Gf[j]? = some (s, decide ((⟨(i : Int), j⟩ : Rf) ∈ arr)) := by rw [← HGF.out]; exact flag_at _ _ _ _ _ hs
              have htk : (Gf.take (j + 1)).flatMap varB = (Gf.take j).flatMap varB ++ [.string (strN s), .bool (decide ((⟨(i : Int), j⟩ : Rf) ∈ arr))] := by
                rw [List.take_add_one, hgj, List.flatMap_append]
                rfl
              have HTK := Lib.hid htk
              have HB4 := Lib.hid hb4
              clear htk hgj hs hsv hb4 hc4
              (repeat' (first | ((with_reducible refine zG ?_); first | refine oWx ?_ | (refine oWs ?_; clear HO; intro _ HO) | (refine oWj ?_; clear HO; intro _ HO HB)) | ((with_reducible refine to_load ?_); (first | first | refine wo_run HO (re1 rfl rfl HB4.out hcell) ?_ | refine oY1 HO rfl rfl ?_); (try simp only [Act.put, pS])) | ((with_reducible refine ab_junk HO 52 ?_); clear HO; intro _ HO HB) | ((with_reducible refine to_append ?_); refine wo_appG HO rfl rfl rfl HB Try.underlying30 info_var rfl (by decide) rfl (by simp [Value.oneCell']) (by omega) (by decide) ?_; clear HO HB; intro _ _ _ hcap HO; (try simp only [Act.put, pS])) | ((go_big_may; first | (go_at_call 40; refine arm_rdv (fun w h => isArray_any ⟨(i : Int), j⟩ w (rdv_at h)) HO ?_; clear HO; intro _ HO)) <;> (try dsimp only)) | go_values | go_skip | go_guarded | go_step | go_upon | (go_ite <;> go_prune <;> (try go_simp))))
              rw [← HTK.out] at HO
              refine ⟨⟨j + 1, _, _, rfl, rfl, hlj, HO⟩, ?_⟩
              exact meas2 rfl (Nat.le_refl _) hlj
            · obtain rfl : j = Gf.length := by omega
              have hngj : ¬ (Gf.length : Int) < (f.params.length : Int) := by have h1 := HGFL.out; omega
              rw [List.take_length] at HO
              (repeat' (go_not_at_region 17; first | ((with_reducible refine zG ?_); first | refine oWx ?_ | (refine oWs ?_; clear HO; intro _ HO) | (refine oWj ?_; clear HO; intro _ HO HB)) | go_values | go_skip | go_guarded | go_step | go_upon | (go_ite <;> go_prune <;> (try go_simp))))
              obtain ⟨A7, c7, e7, hc7, hO⟩ := HO.out.freezeG (by intro h; dsimp only at h ⊢; rw [List.length_eq_zero_iff] at h; rw [h]; rfl)
              injection e7 with x1 x2 x3
              subst x1 x3
              clear HO x2
              have HO := Lib.hid hO
              clear hO hngj
              dsimp only at hc7 HO
              have hi6 : i ≤ 1000000 := by have h1 := HLL.out; omega
              (repeat' (first | ((with_reducible refine zG ?_); first | refine oWx ?_ | (refine oWs ?_; clear HO; intro _ HO) | (refine oWj ?_; clear HO; intro _ HO HB)) | ((with_reducible refine ab_junk HO 30 ?_); clear HO; intro _ HO HB) | ((with_reducible refine to_append ?_); refine wo_appG HO rfl rfl rfl HB Try.underlying31 info_slv rfl (by decide) rfl (by simp [Value.oneCell']) hi6 (by decide) ?_; clear HO HB; intro _ _ _ hcap HO; (try simp only [Act.put, pS])) | go_values | go_skip | go_guarded | go_step | go_upon | (go_ite <;> go_prune <;> (try go_simp))))
              have e2 : els.map slN ++ [.slice A6 Gf.length c6] = (els ++ [(Gf, A6, c6)]).map slN := by simp [slN]
              rw [e2] at HO
              have hO3 := HO.out.coldAll (Cold.lc (els ++ [(Gf, A6, c6)])) (fun e he => by
                rcases List.mem_append.1 he with he | he
                · exact (HO.out.cold _ (List.mem_cons_of_mem _ List.mem_cons_self)) e he
                · rw [List.mem_singleton.1 he]
                  exact ⟨hc7, HO.out.cold _ List.mem_cons_self⟩)
              refine ⟨⟨i + 1, _, _, els ++ [(Gf, A6, c6)], rfl, hlt, Lib.hid ?_, Lib.hid (hO3.sub (List.sublist_cons_self _ _) (List.Sublist.refl _) (fun c hc => by
                rcases List.mem_cons.1 hc with rfl | hc
                · exact List.mem_cons_self
                · exact List.mem_cons_of_mem _ (List.mem_cons_of_mem _ (List.mem_cons_of_mem _ hc))))⟩, ?_⟩
              · rw [List.map_append, HE.out, List.take_add_one, HLSI.out]
                rfl
              · exact meas2 rfl (Nat.le_refl _) hlt
        · obtain rfl : i = Ls.length := by omega
          have hni : ¬ (Ls.length : Int) < (nF : Int) := by have h1 := HLL.out; omega
          obtain ⟨A7, c7, e7, hc7, hO⟩ := HO.out.freezeG (by intro h; dsimp only at h ⊢; have h1 := congrArg List.length HE.out; rw [List.length_map, List.take_length, h] at h1; rw [List.length_eq_zero_iff] at h1; rw [h1]; rfl)
          injection e7 with x1 x2 x3
          subst x1 x3
          clear HO x2
          have HO := Lib.hid hO
          clear hO
          dsimp only at hc7 HO
          (repeat' (first | ((with_reducible refine zG ?_); first | refine oWx ?_ | (refine oWs ?_; clear HO; intro _ HO) | (refine oWj ?_; clear HO; intro _ HO HB)) | go_values | go_skip | go_guarded | go_step | go_upon | (go_ite <;> go_prune <;> (try go_simp))))
          refine oBc HO (t := 2) (ty := 33) rfl rfl rfl ?_
          have h8 := HE.out
          rw [List.take_length] at h8
          rw [HLL.out] at HO hc7 ⊢
          exact ⟨_, _, _, _, els, rfl, h8, hcG, hc7, HO.out.sub ((List.sublist_cons_self _ _).trans (List.sublist_cons_self _ _)) (List.Sublist.refl _) (fun _ h => h)⟩
end
open Go.RowKit
def posV (r : Option Nat) : Int := match r with
  | some k => (k : Int)
  | none => -1
theorem posF_step {s : List Nat} {l : List (List Nat)} {i : Nat} {x : List Nat} (h : l[i]? = some x) : posF s (l.drop i) i = if x = s then some i else posF s (l.drop (i + 1)) (i + 1) := by
  obtain ⟨hi, e⟩ := List.getElem?_eq_some_iff.1 h
  rw [List.drop_eq_getElem_cons hi, e, posF]
theorem own_0 (w : World) : Hid (Own w [] (fun _ => True) [] [] [] w) := Lib.hid (Own.init trivial (fun _ _ _ _ _ => trivial))
set_option maxRecDepth 100000 in
set_option maxHeartbeats 3200000 in
theorem find_any {row : List (List Nat × Bool)} {s : List Nat} {A : Option Addr} {c : Nat} (hn : row.length ≤ 1000000) (hb : ∀ x ∈ row, byteOk x.1) (hs : byteOk s) (w : World) (hr : RowAt w (Eld w []) A (row.flatMap varB)) :
    Calls Try.prog 10 #[.slice A row.length c, .string (strN s)] w fun e w' => e = .returned (.int .i64 (posV (posF s (row.map (·.1)) 0))) ∧ Below w.heap.size w w' := by
  obtain ⟨R, hR⟩ : ∃ R, posF s (row.map (·.1)) 0 = R := ⟨_, rfl⟩
  rw [hR]
  have HR := Lib.hid hR
  have HRW := Lib.hid hr
  have HB := Lib.hid hb
  have HS := Lib.hid hs
  have HO := own_0 w
  clear hR hr hb hs
  go_enter Try.func10, Try.ntmps10
  (repeat' (first | ((with_reducible refine zG ?_); first | refine oWx ?_ | (refine oWs ?_; clear HO; intro _ HO)) | go_values | go_skip | go_guarded | go_step | go_upon | (go_ite <;> go_prune <;> (try go_simp))))
  go_loopw [9] (fun iv W => ∃ i : Nat, iv = .int .i64 (i : Int) ∧ i ≤ row.length ∧ Hid (posF s ((row.map (·.1)).drop i) i = R) ∧ Hid (Own w [] (fun _ => True) [] [] [] W)) (fun iv _ => row.length - (intOf iv).toNat)
  case atStart => exact ⟨0, rfl, Nat.zero_le _, HR, HO⟩
  case round =>
    clear HO HR
    obtain ⟨i, rfl, hi, HR, HO⟩ := hrel
    rcases Nat.lt_or_ge i row.length with hlt | hge
    · obtain ⟨⟨x, z⟩, hx⟩ : ∃ x, row[i]? = some x := ⟨_, List.getElem?_eq_getElem hlt⟩
      have hel : ∀ j u, [Value.string (strN x), .bool z][j]? = some u → (row.flatMap varB)[i * 2 + j]? = some u := fun j u hv => flat_get varB 2 _ i j (x, z) u (fun _ _ => rfl) hx hv
      obtain ⟨b, rfl, hbE, hc⟩ := HRW.out (by intro h0; have h1 := hel 0 _ rfl; rw [h0] at h1; simp at h1)
      have hrg : w.rangeAt b (i * 2) [Value.string (strN x), .bool z] := fun j u hv => hc _ u (hel j u hv)
      have hiI : (i : Int) < (row.length : Int) := by omega
      have hq : ((strN x).toList == (strN s).toList) = decide (x = s) := strN_beq (HB.out (x, z) (List.mem_of_getElem? hx)) HS.out
      have hst := posF_step (s := s) (l := row.map (·.1)) (i := i) (x := x) (by rw [List.getElem?_map, hx]; rfl)
      have hr2 := HR.out
      rw [hst] at hr2
      have HRG := Lib.hid hrg
      have HBE := Lib.hid hbE
      clear hel hrg hbE hc hx hst HR
      by_cases hxs : x = s
      · rw [decide_eq_true hxs] at hq
        rw [if_pos hxs] at hr2
        subst hr2
        replace hxs := Lib.hid hxs
        (repeat' (first | ((with_reducible refine zG ?_); first | refine oWx ?_ | (refine oWs ?_; clear HO; intro _ HO)) | ((with_reducible refine to_load ?_); (first | (refine oE3 HO rfl rfl HBE.out HRG.out ?_)); (try simp only [Act.put, pS])) | go_values | go_skip | go_guarded | go_step | go_upon | (go_ite <;> go_prune <;> (try go_simp))))
        refine bp_tmp (t := 4) rfl rfl rfl ?_
        exact ⟨rfl, HO.out.kept.below⟩
      · rw [decide_eq_false hxs] at hq
        rw [if_neg hxs] at hr2
        replace hxs := Lib.hid hxs
        replace hr2 := Lib.hid hr2
        (repeat' (first | ((with_reducible refine zG ?_); first | refine oWx ?_ | (refine oWs ?_; clear HO; intro _ HO)) | ((with_reducible refine to_load ?_); (first | (refine oE3 HO rfl rfl HBE.out HRG.out ?_)); (try simp only [Act.put, pS])) | go_values | go_skip | go_guarded | go_step | go_upon | (go_ite <;> go_prune <;> (try go_simp))))
        refine ⟨⟨i + 1, rfl, hlt, hr2, Lib.hid (HO.out.sub (List.sublist_cons_self _ _) (List.Sublist.refl _) (fun _ h => h))⟩, ?_⟩
        exact meas2 rfl (Nat.le_refl _) hlt
    · obtain rfl : i = row.length := by omega
      have hr2 := HR.out
      rw [List.drop_of_length_le (by simp), posF] at hr2
      subst hr2
      (repeat' (first | ((with_reducible refine zG ?_); first | refine oWx ?_ | (refine oWs ?_; clear HO; intro _ HO)) | go_values | go_skip | go_guarded | go_step | go_upon | (go_ite <;> go_prune <;> (try go_simp))))
      refine bp_tmp (t := 4) rfl rfl rfl ?_
      exact ⟨rfl, HO.out.kept.below⟩
set_option maxRecDepth 100000 in
set_option maxHeartbeats 3200000 in
theorem func_any {t : TreeT} {s : List Nat} {AF AR : Option Addr} {nF cF nR cR : Nat} (hn : nF ≤ 1000000) (hb : ∀ f ∈ t.funcs, byteOk f.name) (hs : byteOk s) (w : World) (hT : TrAt w (Eld w []) AF AR nF nR t) (hnF : Hid (nF = t.funcs.length)) :
    Calls Try.prog 11 #[.agg #[.slice AF nF cF, .slice AR nR cR], .string (strN s)] w fun e w' => e = .returned (.int .i64 (posV (fnOf t s))) ∧ Below w.heap.size w w' := by
  obtain ⟨R, hR⟩ : ∃ R, fnOf t s = R := ⟨_, rfl⟩
  rw [hR]
  unfold fnOf at hR
  have HR := Lib.hid hR
  have HT := Lib.hid hT
  have HB := Lib.hid hb
  have HS := Lib.hid hs
  have HO := own_0 w
  clear hR hT hb hs
  go_enter Try.func11, Try.ntmps11
  (repeat' (first | ((with_reducible refine zG ?_); first | refine oWx ?_ | (refine oWs ?_; clear HO; intro _ HO)) | go_values | go_skip | go_guarded | go_step | go_upon | (go_ite <;> go_prune <;> (try go_simp))))
  have HO0 := HO
  go_loopw [9] (fun iv W => ∃ i : Nat, iv = .int .i64 (i : Int) ∧ i ≤ nF ∧ Hid (posF s ((t.funcs.map (·.name)).drop i) i = R) ∧ Hid (Own w [] (fun _ => True) [⟨w.heap.size, 27, [.slice AF nF cF, .slice AR nR cR]⟩] [] [] W)) (fun iv _ => nF - (intOf iv).toNat)
  case atStart => exact ⟨0, rfl, Nat.zero_le _, HR, HO⟩
  case round =>
    clear HO HO0 HR
    obtain ⟨i, rfl, hi, HR, HO⟩ := hrel
    rcases Nat.lt_or_ge i nF with hlt | hge
    · obtain ⟨f, hf⟩ : ∃ f, t.funcs[i]? = some f := ⟨_, List.getElem?_eq_getElem (Nat.lt_of_lt_of_eq hlt hnF.out)⟩
      obtain ⟨-, b2, A2, c2, B2, e2, rfl, hb2, hcl, -⟩ := HT.out.func hf
      have hcell := hcl 0 _ rfl
      rw [Nat.add_zero] at hcell
      have hiI : (i : Int) < (nF : Int) := by omega
      have hq : ((strN f.name).toList == (strN s).toList) = decide (f.name = s) := strN_beq (HB.out f (List.mem_of_getElem? hf)) HS.out
      have hst := posF_step (s := s) (l := t.funcs.map (·.name)) (i := i) (x := f.name) (by rw [List.getElem?_map, hf]; rfl)
      have hr2 := HR.out
      rw [hst] at hr2
      have HBE := Lib.hid hb2
      clear hcl hb2 hf hst HR
      by_cases hxs : f.name = s
      · rw [decide_eq_true hxs] at hq
        rw [if_pos hxs] at hr2
        subst hr2
        replace hxs := Lib.hid hxs
        (repeat' (first | ((with_reducible refine zG ?_); first | refine oWx ?_ | (refine oWs ?_; clear HO; intro _ HO)) | ((with_reducible refine to_load ?_); (first | (refine wo_run HO (re1 rfl rfl HBE.out hcell) ?_)); (try simp only [Act.put, pS])) | go_values | go_skip | go_guarded | go_step | go_upon | (go_ite <;> go_prune <;> (try go_simp))))
        refine bp_tmp (t := 4) rfl rfl rfl ?_
        exact ⟨rfl, HO.out.kept.below⟩
      · rw [decide_eq_false hxs] at hq
        rw [if_neg hxs] at hr2
        replace hxs := Lib.hid hxs
        replace hr2 := Lib.hid hr2
        (repeat' (first | ((with_reducible refine zG ?_); first | refine oWx ?_ | (refine oWs ?_; clear HO; intro _ HO)) | ((with_reducible refine to_load ?_); (first | (refine wo_run HO (re1 rfl rfl HBE.out hcell) ?_)); (try simp only [Act.put, pS])) | go_values | go_skip | go_guarded | go_step | go_upon | (go_ite <;> go_prune <;> (try go_simp))))
        refine ⟨⟨i + 1, rfl, hlt, hr2, HO⟩, ?_⟩
        exact meas2 rfl (Nat.le_refl _) hlt
    · obtain rfl : i = nF := by omega
      have hr2 := HR.out
      rw [List.drop_of_length_le (by rw [List.length_map, ← hnF.out]; exact Nat.le_refl _), posF] at hr2
      subst hr2
      (repeat' (first | ((with_reducible refine zG ?_); first | refine oWx ?_ | (refine oWs ?_; clear HO; intro _ HO)) | go_values | go_skip | go_guarded | go_step | go_upon | (go_ite <;> go_prune <;> (try go_simp))))
      refine bp_tmp (t := 4) rfl rfl rfl ?_
      exact ⟨rfl, HO.out.kept.below⟩
open Go.RowKit
structure MkM (w : World) (m : Nat) (W : World) : Prop where
  e : m = w.heap.size
  below : Below w.heap.size w W
  self : W.heap[m]? = some (mapO [])
  size : W.heap.size = m + 1
section
variable {o : Oper} {a : Act} {w0 w : World} {X : List Nat} {S : World → Prop} {bs : List Bx} {rs : List Rw} {F : List Cold} {K : Act → World → Prop} {Q : Exit → Act → World → Prop}
theorem to_makeMap {P : Program} {d : Option Tmp} {ty T : TypeId} {r : Option Operand} {ps : String} {af : Array Edge} {gd : Option (Nat × Bool)} (h : WOp P ⟨d, .makeMap ty r, T, ps, af, gd⟩ a w K Q) : Oper.wp P ⟨d, .makeMap ty r, T, ps, af, gd⟩ a w K Q := h
theorem wo_mkM {ty kt et : TypeId} (ho : o.op = .makeMap ty none) (hm : Try.prog.underlying ty = some (.map kt et)) (h : ∀ m W, Hid (MkM w m W) → K (a.put o.dst (.map (some m))) W) : WOp Try.prog o a w K Q := by
  have := h w.heap.size (w.alloc (.map #[] 0)) (Lib.hid ⟨rfl, (Below.refl _ _).alloc (Nat.le_refl _) _, (by show (w.heap.push _)[w.heap.size]? = some _; simp [mapO, entsF]), (by show (w.heap.push _).size = _; simp)⟩)
  unfold WOp Oper.wp execOp
  simp only [ho, Instr.makeMap, Sem.run_bind, run_underlying hm w, Result.andThen_ok]
  simpa [go_sem, Oper.upon] using this
end
theorem dupP_step (nm : List Nat) (seen : List (List Nat)) {l : List (List Nat)} {j : Nat} {s : List Nat} (h : l[j]? = some s) : dupP nm seen (l.drop j) = ((decide (s ∈ seen) || decide (s = nm)) || dupP nm (s :: seen) (l.drop (j + 1))) := by
  obtain ⟨hj, e⟩ := List.getElem?_eq_some_iff.1 h
  rw [List.drop_eq_getElem_cons hj, e, dupP]
theorem heads_step (seen : List (List Nat)) {l : List FuncT} {i : Nat} {f : FuncT} (h : l[i]? = some f) : headsS seen (l.drop i) = if decide (f.name ∈ seen) || dupP f.name [] f.params then some f.at' else headsS (f.name :: seen) (l.drop (i + 1)) := by
  obtain ⟨hi, e⟩ := List.getElem?_eq_some_iff.1 h
  rw [List.drop_eq_getElem_cons hi, e, headsS]
theorem posF_mem (s : List Nat) : ∀ (l : List (List Nat)) (i : Nat), (posF s l i).isSome = decide (s ∈ l)
  | [], i => rfl
  | x :: l, i => by
    rw [posF]
    by_cases h : x = s
    · rw [if_pos h]; simp [h]
    · rw [if_neg h, posF_mem s l (i + 1)]
      have : ¬ s = x := fun e => h e.symm
      simp [this]
def Cold.pm (mps : List Nat) (pss : List (List (List Nat))) : Cold := ⟨fun w F => ∀ (j m : Nat) (ps : List (List Nat)), mps[j]? = some m → pss[j]? = some ps → F m ∧ w.heap[m]? = some (mapO (encK strV (enumF ps 0))), fun _ _ _ _ hF h j m ps h1 h2 => ⟨(hF m (h j m ps h1 h2).1).1, (hF m (h j m ps h1 h2).1).2.trans (h j m ps h1 h2).2⟩⟩
theorem pm_nil {w0 w : World} {X : List Nat} {S : World → Prop} {bs : List Bx} {rs : List Rw} {F : List Cold} (h : Own w0 X S bs rs F w) : Own w0 X S bs rs (Cold.pm [] [] :: F) w := h.coldAll (Cold.pm [] []) (fun j m ps h1 _ => by simp at h1)
structure OwnMp (ps : List (List Nat)) (j : Nat) (th : Bool) (l : List (List Nat × Value)) : Prop where
  ok : ∀ x ∈ l, byteOk x.1
  look : ∀ s, (lookK s l).isSome = decide (s ∈ ps.take j)
  enum : th = false → l = enumF (ps.take j) 0
theorem lookK_upd {κ : Type} [DecidableEq κ] (s k : κ) (v : Value) : ∀ l : List (κ × Value), (lookK s (updK k v l)).isSome = (decide (s = k) || (lookK s l).isSome) := by
  have : ∀ (l : List (κ × Value)) (i : Nat), (posK s (updK k v l) i).isSome = (decide (s = k) || (posK s l i).isSome) := by
    intro l
    induction l with
    | nil =>
      intro i
      rw [updK, show posK s [(k, v)] i = if k = s then some (i, v) else posK s [] (i + 1) from rfl]
      by_cases h : k = s
      · rw [if_pos h]; simp [h]
      · rw [if_neg h]
        have h' : ¬ s = k := fun e => h e.symm
        simp [posK, h']
    | cons x r ih =>
      intro i
      rw [updK]
      by_cases h : x.1 = k
      · rw [if_pos h, posK, posK]
        by_cases h2 : k = s
        · rw [if_pos h2]; simp [h2]
        · have h' : ¬ s = k := fun e => h2 e.symm
          rw [if_neg h2, if_neg (fun e => h2 (h.symm.trans e))]
          simp [h']
      · rw [if_neg h, posK, posK]
        by_cases h2 : x.1 = s
        · rw [if_pos h2, if_pos h2]; simp
        · rw [if_neg h2, if_neg h2]; exact ih (i + 1)
  intro l
  unfold lookK
  rw [Option.isSome_map, Option.isSome_map]
  exact this l 0
theorem upd_ok {κ : Type} [DecidableEq κ] {ok : κ → Prop} {k : κ} {v : Value} (hk : ok k) : ∀ {l : List (κ × Value)}, (∀ x ∈ l, ok x.1) → ∀ x ∈ updK k v l, ok x.1
  | [], _, x, hx => by rw [updK] at hx; rw [List.mem_singleton.1 hx]; exact hk
  | y :: l, h, x, hx => by
    rw [updK] at hx
    split at hx
    · rcases List.mem_cons.1 hx with rfl | hx
      · exact hk
      · exact h x (List.mem_cons_of_mem _ hx)
    · rcases List.mem_cons.1 hx with rfl | hx
      · exact h x List.mem_cons_self
      · exact upd_ok hk (fun z hz => h z (List.mem_cons_of_mem _ hz)) x hx
theorem OwnMp.nil (ps : List (List Nat)) (th : Bool) : OwnMp ps 0 th [] := ⟨fun x hx => (by cases hx), fun s => (by simp [lookK, posK]), fun _ => rfl⟩
theorem OwnMp.step {ps : List (List Nat)} {j : Nat} {th : Bool} {l : List (List Nat × Value)} {s nm : List Nat} (h : OwnMp ps j th l) (hs : ps[j]? = some s) (hb : byteOk s) : OwnMp ps (j + 1) (th || (decide (s ∈ ps.take j) || decide (s = nm))) (updK s (.int .i64 (j : Int)) l) := by
  have htk : ps.take (j + 1) = ps.take j ++ [s] := by rw [List.take_add_one, hs]; rfl
  refine ⟨upd_ok hb h.ok, fun u => ?_, fun hf => ?_⟩
  · rw [lookK_upd, h.look, htk]
    simp only [List.mem_append, List.mem_singleton, Bool.decide_or]
    rw [Bool.or_comm]
  · rw [Bool.or_eq_false_iff, Bool.or_eq_false_iff] at hf
    have he := h.enum hf.1
    have hn : posF s (ps.take j) 0 = none := by
      have := posF_mem s (ps.take j) 0
      rw [hf.2.1] at this
      cases hp : posF s (ps.take j) 0 with
      | none => rfl
      | some x => rw [hp] at this; cases this
    have hlen : (ps.take j).length = j := by
      rw [List.length_take]
      have := (List.getElem?_eq_some_iff.1 hs).1
      omega
    have := upd_enum hn
    rw [hlen] at this
    rw [he, this, htk]
end Go.Proofs.Ythipoccbeloceaa
