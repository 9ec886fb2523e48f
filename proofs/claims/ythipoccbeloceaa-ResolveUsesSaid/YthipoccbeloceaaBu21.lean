/- Several texts put together: RtQ, RtR, RtS. -/
import Derived.Test.YthipoccbeloceaaBu16
set_option linter.unusedSimpArgs false
set_option linter.unusedVariables false
namespace Go.Proofs.Ythipoccbeloceaa
open Go.RowKit
theorem Own.perm {w0 w : World} {X : List Nat} {S : World → Prop} {bs bs' : List Bx} {rs rs' : List Rw} {F : List Cold} (h : Own w0 X S bs rs F w) (hb : bs.Perm bs') (hr : rs.Perm rs') : Own w0 X S bs' rs' F w := by
  have hp : (hot bs rs).Perm (hot bs' rs') := (hb.map _).append (hr.filterMap _)
  exact ⟨h.kept, h.loc, h.st, fun x hx => h.box x (hb.mem_iff.2 hx), fun x hx => h.base x (hb.mem_iff.2 hx), fun r h1 => h.row r (hr.mem_iff.2 h1), (hp.nodup_iff).1 h.nodup, fun c hc => c.st w w _ _ (fun b hb2 => ⟨⟨hb2.1, hb2.2.1, fun hm => hb2.2.2 (hp.mem_iff.2 hm)⟩, rfl⟩) (h.cold c hc)⟩
structure WrgOK (w1 : World) (X : List Nat) (F : List Cold) (S : World → Prop) (K : FuncId) (first : Array Value) (G : Pl → Prop) (wrong : Pl → Bool) : Prop where
  run : ∀ args w, (callFunc K args).run Try.prog w = .ok (.enter K args) w
  call : ∀ p v bs rs w, G p → PlAt w1 (Eld w1 X) p v → Own w1 X S bs rs F w → Calls Try.prog K (first ++ #[v] ++ #[]) w fun e w' => e = .returned (.bool (wrong p)) ∧ Own w1 X S bs rs F w'
def FndV (w1 : World) (X : List Nat) (x : Option Pl) (q : Option Addr) : Prop := match x with
  | none => q = none
  | some p => ∃ b o A c, q = some ⟨b, o, none⟩ ∧ NdAt w1 (Eld w1 X) b o p.n A c
def ChkI (w1 : World) (X : List Nat) (S : World → Prop) (K : FuncId) (first : Array Value) (b5 b7 : Nat) (x : Option Pl) (V : Vst) : Prop :=
  V.S = S ∧ V.rw = [] ∧ ∃ q, V.bx = [⟨b7, 99, [.pointer q]⟩, ⟨b5, 72, [.func (.func K) first #[]]⟩] ∧ FndV w1 X x q
def chkC (wrong : Pl → Bool) (x : Option Pl) (p : Pl) : Bool := !wrong p && x.isNone
def chkS (wrong : Pl → Bool) (x : Option Pl) (p : Pl) : Option Pl := if wrong p then some p else x
theorem run_chk (wrong : Pl → Bool) : ∀ l : List Pl, (runV (chkC wrong) (chkS wrong) none l).1.map (fun p => p.n.at') = checkS wrong l
  | [] => rfl
  | p :: l => by
    rw [runV, checkS]
    cases h : wrong p
    · rw [if_pos (by unfold chkC; rw [h]; rfl), if_neg (by decide)]
      have : chkS wrong none p = none := by unfold chkS; rw [h]; rfl
      rw [this]
      exact run_chk wrong l
    · rw [if_neg (by unfold chkC; rw [h]; decide), if_pos rfl]
      show (chkS wrong none p).map _ = _
      unfold chkS
      rw [h]
      rfl
section
variable {o : Oper} {a : Act} {w0 w : World} {X : List Nat} {S : World → Prop} {bs : List Bx} {rs : List Rw} {F : List Cold} {K : Act → World → Prop} {Q : Exit → Act → World → Prop}
theorem wo_box1 (HO : Hid (Own w0 X S bs rs F w)) {t : TypeId} {x : Operand} (ho : o.op = .box t x) {v : Value} (hx : a.eval x = v) [O : Oc v] (h : ∀ W, Hid (Own w0 X S (⟨w.heap.size, t, [v]⟩ :: bs) rs F W) → K (a.put o.dst (.pointer (some ⟨w.heap.size, 0, none⟩))) W) : WOp Try.prog o a w K Q := by
  have := h _ (Lib.hid (HO.out.alloc t [v]))
  have hc := one_cells O.o
  rw [← hc] at this
  unfold WOp Oper.wp execOp
  simp only [ho, hx, Instr.box, Sem.run_bind]
  simpa [go_sem, Oper.upon, newVar] using this
theorem wo_allocQ (HO : Hid (Own w0 X S bs rs F w)) {t : TypeId} (ho : o.op = .alloc t) {v : Value} (hz : ∀ w, (zeroValue t).run Try.prog w = .ok v w) [O : Oc v] (h : ∀ W, Hid (Own w0 X S (⟨w.heap.size, t, [v]⟩ :: bs) rs F W) → K (a.put o.dst (.pointer (some ⟨w.heap.size, 0, none⟩))) W) : WOp Try.prog o a w K Q := by
  have := h _ (Lib.hid (HO.out.alloc t [v]))
  have hc := one_cells O.o
  rw [← hc] at this
  unfold WOp Oper.wp execOp
  simp only [ho, Instr.alloc, Sem.run_bind, hz w, Result.andThen_ok]
  simpa [go_sem, Oper.upon, newVar] using this
end
instance iOcFunc {f : Fn} {a b : Array Value} : Oc (.func f a b) := ⟨rfl⟩
section
variable {w1 : World} {X : List Nat} {F : List Cold} {S : World → Prop} {K : FuncId} {first : Array Value} {G : Pl → Prop} {wrong : Pl → Bool}
set_option maxRecDepth 100000 in
set_option maxHeartbeats 6400000 in
theorem check1_ok (HW : Hid (WrgOK w1 X F S K first G wrong)) (b5 b7 : Nat) : VisOK w1 X F 34 #[] #[.pointer (some ⟨b5, 0, none⟩), .pointer (some ⟨b7, 0, none⟩)] (ChkI w1 X S K first b5 b7) G (chkC wrong) (chkS wrong) (fun _ => 0) 1000000 where
  up := fun _ _ => Nat.zero_le _
  run := fun args w => by kernel_rfl
  call := fun x V p v bs rs w hI _ hg hp hO => by
    obtain ⟨S', bx', rw'⟩ := V
    obtain ⟨e1, e2, q, e3, hf⟩ := hI
    dsimp only at e1 e2 e3 hO
    subst e1 e2 e3
    have HO : Hid (Own w1 X S' (⟨b7, 99, [.pointer q]⟩ :: ⟨b5, 72, [.func (.func K) first #[]]⟩ :: bs) rs F w) := Lib.hid (hO.perm List.perm_append_comm (by rw [List.append_nil]))
    clear hO
    obtain ⟨b, o, A, c, u, rfl, hn, hu⟩ := id hp
    have HP := Lib.hid hp
    have HN := Lib.hid hn
    have HF := Lib.hid hf
    have HG := Lib.hid hg
    clear hp hn hu hf hg
    have hP : ((⟨b7, 99, [.pointer q]⟩ : Bx) :: ⟨b5, 72, [.func (.func K) first #[]]⟩ :: bs).Perm (bs ++ [⟨b7, 99, [.pointer q]⟩, ⟨b5, 72, [.func (.func K) first #[]]⟩]) := List.perm_append_comm (l₁ := [_, _])
    have hP2 : ((⟨b7, 99, [.pointer (some ⟨b, o, none⟩)]⟩ : Bx) :: ⟨b5, 72, [.func (.func K) first #[]]⟩ :: bs).Perm (bs ++ [⟨b7, 99, [.pointer (some ⟨b, o, none⟩)]⟩, ⟨b5, 72, [.func (.func K) first #[]]⟩]) := List.perm_append_comm (l₁ := [_, _])
    have HP1 := Lib.hid hP
    have HP2 := Lib.hid hP2
    clear hP hP2
    cases hw : wrong p
    case' false => cases x
    case' false.none => obtain rfl : q = none := HF.out
    case' false.some => obtain ⟨b9, o9, A9, c9, rfl, hn9⟩ := HF.out
    case' false.some => clear hn9
    all_goals
      show Calls Try.prog _ #[_, _, _] w _
      go_enter Try.func34, Try.ntmps34
      (repeat' (first | ((with_reducible refine zG ?_); first | refine oWx ?_ | (refine oWs ?_; clear HO; intro _ HO)) | ((with_reducible refine to_load ?_); (first | first | refine oN0 HO rfl rfl HN ?_ | refine oNj HO rfl rfl HN rfl rfl ?_ | refine oY1 HO rfl rfl ?_ | refine oY3 HO rfl rfl ?_); (try simp only [Act.put, pS])) | ((with_reducible refine to_call ?_); refine wo_vis rfl rfl rfl HW.out.run ?_; refine (HW.out.call p _ _ _ _ HG.out HP.out HO.out).mono ?_; rintro e W ⟨rfl, hO9⟩; refine ⟨_, rfl, ?_⟩; rw [hw]; clear HO; have HO := Lib.hid hO9; clear hO9) | go_values | go_skip | go_guarded | go_step | go_upon | (go_ite <;> go_prune <;> (try go_simp))))
      refine bp_tmp (t := 4) rfl rfl rfl ?_
    · exact ⟨by unfold chkC; rw [hw]; rfl, ⟨S', _, []⟩, ⟨rfl, rfl, _, rfl, by unfold chkS; rw [hw]; exact HF.out⟩, (HO.out.sub (List.sublist_cons_self _ _) (List.Sublist.refl _) (fun _ h => h)).perm HP1.out (by rw [List.append_nil])⟩
    · exact ⟨by unfold chkC; rw [hw]; rfl, ⟨S', _, []⟩, ⟨rfl, rfl, _, rfl, by unfold chkS; rw [hw]; exact HF.out⟩, (HO.out.sub (List.sublist_cons_self _ _) (List.Sublist.refl _) (fun _ h => h)).perm HP1.out (by rw [List.append_nil])⟩
    · exact ⟨by unfold chkC; rw [hw]; rfl, ⟨S', _, []⟩, ⟨rfl, rfl, _, rfl, by unfold chkS; rw [hw]; exact ⟨b, o, A, c, rfl, HN.out⟩⟩, (HO.out.sub (List.sublist_cons_self _ _) (List.Sublist.refl _) (fun _ h => h)).perm HP2.out (by rw [List.append_nil])⟩
set_option maxRecDepth 100000 in
set_option maxHeartbeats 6400000 in
theorem check_any (HW : Hid (WrgOK w1 X F S K first G wrong)) {t : TreeT} {g nF cF nR cR : Nat} {AF AR : Option Addr} (HT : Hid (TrAt w1 (Eld w1 X) AF AR nF nR t)) (HC : Hid (∀ bs rs w, Own w1 X S bs rs F w → w.cell? ⟨g, 0, none⟩ = some (.slice AF nF cF) ∧ w.cell? ⟨g, 1, none⟩ = some (.slice AR nR cR))) (hnF : Hid (nF = t.funcs.length)) (hnR : Hid (nR = t.rules.length)) (hn1 : nF ≤ 1000000) (hn2 : nR ≤ 1000000) (hrl : ∀ r ∈ t.rules, r.l.length ≤ 1000000) (hpl : (places t).length ≤ 1000000) (hG : ∀ p ∈ places t, G p) (ee : Int) {bs : List Bx} {rs : List Rw} {w : World} (HO : Hid (Own w1 X S bs rs F w)) :
    Calls Try.prog 15 #[.pointer (some ⟨g, 0, none⟩), .int .i64 ee, .func (.func K) first #[]] w fun e w' => Own w1 X S bs rs F w' ∧ match checkS wrong (places t) with
      | none => e = .returned .nilIface
      | some a => ∃ v, e = .returned v ∧ FltV w' w1.heap.size v a ee := by
  have HG := Lib.hid hG
  have hrc := run_chk wrong (places t)
  obtain ⟨R, hR⟩ : ∃ R, runV (chkC wrong) (chkS wrong) none (places t) = R := ⟨_, rfl⟩
  rw [hR] at hrc
  rw [← hrc]
  have HR := Lib.hid hR
  clear hG hrc hR
  obtain ⟨x, z⟩ := R
  cases x
  all_goals
   go_enter Try.func15, Try.ntmps15
   (repeat' (first | ((with_reducible refine zG ?_); first | refine oWx ?_ | (refine oWs ?_; clear HO; intro _ HO)) | ((with_reducible refine to_load ?_); (first | first | refine oN0 HO rfl rfl HN ?_ | refine oNj HO rfl rfl HN rfl rfl ?_ | refine oY1 HO rfl rfl ?_ | refine oY3 HO rfl rfl ?_); (try simp only [Act.put, pS])) | ((with_reducible refine to_box ?_); refine wo_box1 HO rfl (v := .func (.func K) first #[]) rfl ?_; clear HO; intro _ HO) | ((with_reducible refine to_alloc ?_); refine wo_allocQ HO rfl Try.zeroValue99 ?_; clear HO; intro _ HO) | ((go_big_may; first | (go_at_call 20; refine (walk_any (Lib.hid (check1_ok HW _ _)) HT (Lib.hid (fun x V bs rs w h1 h2 => HC.out bs rs w (h1.1 ▸ h2))) hnF hnR hn1 hn2 hrl (R := (_, z)) (bs := bs) (rs := rs) (Lib.hid ⟨none, ⟨S, [_, _], []⟩, hpl, by rw [Nat.zero_add]; exact hpl, ⟨rfl, rfl, _, rfl, rfl⟩, HG.out, HR.out, HO.out.perm (List.perm_append_comm (l₁ := [_, _])) (by rw [List.append_nil])⟩)).mono ?_; rintro e W ⟨rfl, V3, hI3, hO3⟩; obtain ⟨S3, bx3, rw3⟩ := V3; obtain ⟨e1, e2, q, e3, hf⟩ := hI3; dsimp only at e1 e2 e3 hO3 hf; subst e1 e2 e3; (first | (obtain rfl : q = none := hf) | (obtain ⟨b, o, A, c, rfl, hn⟩ := hf; have HN := Lib.hid hn; clear hn)); clear HO; have HO : Hid (Own w1 X _ (⟨_, 99, [.pointer _]⟩ :: ⟨_, 72, [.func (.func K) first #[]]⟩ :: bs) rs F W) := Lib.hid (hO3.perm List.perm_append_comm (by rw [List.append_nil])); clear hO3)) <;> (try dsimp only)) | go_values | go_skip | go_guarded | go_step | go_upon | (go_ite <;> go_prune <;> (try go_simp))))
   refine bp_tmp (t := 6) rfl rfl rfl ?_
  · exact ⟨HO.out.sub ((List.sublist_cons_self _ _).trans (List.sublist_cons_self _ _)) (List.Sublist.refl _) (fun _ h => h), rfl⟩
  · exact ⟨HO.out.sub ((List.sublist_cons_self _ _).trans ((List.sublist_cons_self _ _).trans (List.sublist_cons_self _ _))) (List.Sublist.refl _) (fun _ h => h), _, rfl, _, rfl, HO.out.base _ List.mem_cons_self, HO.out.box _ List.mem_cons_self⟩
end
section
open Go.RowKit
def refC (r : Rf) : List Value := [.int .i64 r.fn, .int .i64 (r.i : Int)]
def varC (s : List Nat) : List Value := [.string (strN s), .bool false]
theorem info_ref : (Try.prog.info? 107).map (fun i => (i.zero, i.size, i.bytes)) = some (some (.agg #[.int .i64 0, .int .i64 0]), 2, 16) := by kernel_rfl
theorem info_var : (Try.prog.info? 52).map (fun i => (i.zero, i.size, i.bytes)) = some (some (.agg #[.string { data := #[] }, .bool false]), 2, 24) := by kernel_rfl
theorem lookK_none {κ : Type} [DecidableEq κ] {k : κ} {l : List (κ × Value)} (h : lookK k l = none) : posK k l 0 = none := by
  unfold lookK at h
  cases hp : posK k l 0 with
  | none => rfl
  | some x => rw [hp] at h; cases h
theorem upd_arr {v : Rf} {l : List Rf} (h : v ∉ l) : updK v (.int .i64 1) (arrE l) = arrE (l ++ [v]) := by
  rw [posK_none (arrE l) 0 (lookK_none (by rw [look_arr, if_neg h]))]
  unfold arrE
  rw [List.map_append]
  rfl
theorem enumF_app : ∀ (l m : List (List Nat)) (i : Nat), enumF (l ++ m) i = enumF l i ++ enumF m (i + l.length)
  | [], m, i => rfl
  | s :: l, m, i => by
    rw [List.cons_append, enumF, enumF, enumF_app l m (i + 1), List.cons_append, List.length_cons]
    congr 3
    omega
theorem upd_enum {s : List Nat} {l : List (List Nat)} (h : posF s l 0 = none) : updK s (.int .i64 (l.length : Int)) (enumF l 0) = enumF (l ++ [s]) 0 := by
  rw [posK_none (enumF l 0) 0 (lookK_none (by rw [look_enum, h]; rfl)), enumF_app, Nat.zero_add]
  rfl
section
variable {o : Oper} {a : Act} {w0 w : World} {X : List Nat} {S : World → Prop} {xs : List Bx} {ms : List (Nat × List (Value × Value))} {bs : List Bx} {rs : List Rw} {F : List Cold} {K : Act → World → Prop} {Q : Exit → Act → World → Prop}
theorem oYs (HO : Hid (Own w0 X (SX xs ms X w0.heap.size) bs rs F w)) {ty : TypeId} {x : Operand} {i : Tmp} {v : Value} (ho : o.op = .store ty x (.tmp i)) (hdst : o.dst = none) {b k : Nat} (hx : a.eval x = .pointer (some ⟨b, k, none⟩)) (hy : a.tmps.toList[i]? = some v) {t : TypeId} {cs cs' : List Value} {f : List Value → List Bx} [T : T1 ty] [m : Bu xs b t cs f] [p : Pt cs k v cs'] [O : Oc v] (h : ∀ W, Hid (Own w0 X (SX (f cs') ms X w0.heap.size) bs rs F W) → K a W) : WOp Try.prog o a w K Q :=
  oYt HO ho hdst hx (show a.tmps.getD i undef = v by rw [Array.getD_eq_getD_getElem?, ← Array.getElem?_toList, hy]; rfl) h
end
def arrN (v : Rf) (arr q : List Rf) : List Rf × List Rf := if v ∈ arr then (arr, q) else (arr ++ [v], q ++ [v])
attribute [local irreducible] WQ
set_option maxRecDepth 100000 in
set_option maxHeartbeats 6400000 in
theorem array_any {w1 : World} {F : List Cold} {g nF cF nR cR cP mf mg ma mh : Nat} {AF AR AP : Option Addr} {vL vQ : Value} {xt : List Bx} {X : List Nat} {L : List (List Nat)} {arr : List Rf} {hl : List (Value × Value)} {AQ : Option Addr} {cQ : Nat} {q : List Rf} (v : Rf) {bs : List Bx} {rs : List Rw} {w : World} (hq : q.length ≤ 1000000) (HO : Hid (Own w1 X (SX (⟨g, 68, [.slice AF nF cF, .slice AR nR cR, .map (some mf), .slice AP nF cP, .map (some mg), vL, .map (some ma), .map (some mh), .slice AQ q.length cQ]⟩ :: []) [(mg, encK strV (enumF L 0)), (ma, encK refV (arrE arr)), (mh, hl)] X w1.heap.size) bs (⟨107, 2, .slice AQ q.length cQ, q.length, q.flatMap refC⟩ :: rs) F w)) :
    Calls Try.prog 39 #[.pointer (some ⟨g, 0, none⟩), .agg #[.int .i64 v.fn, .int .i64 (v.i : Int)]] w fun e w' => e = .returned (.tuple #[]) ∧ ∃ AQ' cQ', Own w1 X (SX (⟨g, 68, [.slice AF nF cF, .slice AR nR cR, .map (some mf), .slice AP nF cP, .map (some mg), vL, .map (some ma), .map (some mh), .slice AQ' (arrN v arr q).2.length cQ']⟩ :: []) [(mg, encK strV (enumF L 0)), (ma, encK refV (arrE (arrN v arr q).1)), (mh, hl)] X w1.heap.size) bs (⟨107, 2, .slice AQ' (arrN v arr q).2.length cQ', (arrN v arr q).2.length, (arrN v arr q).2.flatMap refC⟩ :: rs) F w' := by
  have hlk := look_arr v arr
  unfold arrN
  by_cases hm : v ∈ arr
  · rw [if_pos hm] at hlk ⊢
    go_enter Try.func39, Try.ntmps39
    (repeat' (first | ((with_reducible refine zG ?_); first | refine oWx ?_ | (refine oWs ?_; clear HO; intro _ HO) | (refine oWj ?_; clear HO; intro _ HO HB)) | go_values | go_skip | go_guarded | go_step | go_upon | (go_ite <;> go_prune <;> (try go_simp))))
    (refine qBe HO (by kernel_rfl) ?_); (repeat' (first | ((with_reducible refine qNi ?_); (clear HO; intro _ HO)) | ((with_reducible refine qSt ?_); first | ((first | ((with_reducible refine qLd ?_); first | ((with_reducible refine qGd ?_); (with_reducible refine qSk ?_ ?_); focus rfl) | refine qL1 (by rfl) rfl rfl ?_ | refine qL3 (by rfl) rfl rfl ?_ | refine qY1 (by rfl) rfl rfl ?_) | ((with_reducible refine qLk ?_); first | ((with_reducible refine qGd ?_); (with_reducible refine qSk ?_ ?_); focus rfl) | refine qVa (by rfl) (rkx1 (k := v) keyRef Try.underlying63 zInt rfl rfl rfl arr_ok trivial hlk) ?_) | ((with_reducible refine qFd ?_); first | ((with_reducible refine qGd ?_); (with_reducible refine qSk ?_ ?_); focus rfl) | refine qVa (by rfl) (rFi rfl rfl ⟨_, _, _, _, _, _, _, rfl, rfl, inferInstance⟩) ?_) | ((with_reducible refine qCl ?_); first | ((with_reducible refine qGd ?_); (with_reducible refine qSk ?_ ?_); focus rfl)) | ((fail_if_success (with_reducible refine qLd ?_)); (fail_if_success (with_reducible refine qLk ?_)); (fail_if_success (with_reducible refine qCl ?_)); first | ((with_reducible refine qGd ?_); (with_reducible refine qSk ?_ ?_); focus rfl) | refine qVa (by rfl) (by intro _ _; go_simp; (try with_reducible rfl)) ?_)); (try simp only [Act.put, pS])))))
    (repeat' (first | ((with_reducible refine zG ?_); first | refine oWx ?_ | (refine oWs ?_; clear HO; intro _ HO) | (refine oWj ?_; clear HO; intro _ HO HB)) | go_values | go_skip | go_guarded | go_step | go_upon | (go_ite <;> go_prune <;> (try go_simp))))
    first
    | refine bp_noneN rfl rfl ?_
    | refine bp_none rfl rfl ?_
    exact ⟨rfl, AQ, cQ, HO.out.sub (List.sublist_cons_self _ _) (List.Sublist.refl _) (fun _ h => h)⟩
  · rw [if_neg hm] at hlk ⊢
    have hu := upd_arr hm
    go_enter Try.func39, Try.ntmps39
    (repeat' (first | ((with_reducible refine zG ?_); first | refine oWx ?_ | (refine oWs ?_; clear HO; intro _ HO) | (refine oWj ?_; clear HO; intro _ HO HB)) | go_values | go_skip | go_guarded | go_step | go_upon | (go_ite <;> go_prune <;> (try go_simp))))
    (refine qBe HO (by kernel_rfl) ?_); (repeat' (first | ((with_reducible refine qNi ?_); (clear HO; intro _ HO)) | ((with_reducible refine qSt ?_); first | ((first | ((with_reducible refine qLd ?_); first | ((with_reducible refine qGd ?_); (with_reducible refine qSk ?_ ?_); focus rfl) | refine qL1 (by rfl) rfl rfl ?_ | refine qL3 (by rfl) rfl rfl ?_ | refine qY1 (by rfl) rfl rfl ?_) | ((with_reducible refine qLk ?_); first | ((with_reducible refine qGd ?_); (with_reducible refine qSk ?_ ?_); focus rfl) | refine qVa (by rfl) (rkx2 (k := v) keyRef Try.underlying63 zInt rfl rfl rfl arr_ok trivial hlk) ?_) | ((with_reducible refine qFd ?_); first | ((with_reducible refine qGd ?_); (with_reducible refine qSk ?_ ?_); focus rfl) | refine qVa (by rfl) (rFi rfl rfl ⟨_, _, _, _, _, _, _, rfl, rfl, inferInstance⟩) ?_) | ((with_reducible refine qCl ?_); first | ((with_reducible refine qGd ?_); (with_reducible refine qSk ?_ ?_); focus rfl)) | ((fail_if_success (with_reducible refine qLd ?_)); (fail_if_success (with_reducible refine qLk ?_)); (fail_if_success (with_reducible refine qCl ?_)); first | ((with_reducible refine qGd ?_); (with_reducible refine qSk ?_ ?_); focus rfl) | refine qVa (by rfl) (by intro _ _; go_simp; (try with_reducible rfl)) ?_)); (try simp only [Act.put, pS])))))
    (repeat' (first | ((with_reducible refine zG ?_); first | refine oWx ?_ | (refine oWs ?_; clear HO; intro _ HO) | (refine oWj ?_; clear HO; intro _ HO HB)) | go_values | go_skip | go_guarded | go_step | go_upon | (go_ite <;> go_prune <;> (try go_simp))))
    ((refine tBe HO [] (.pu 0 (.pu 1 (.pu 2 (.ld 3 (.ld 4 (.ef 5 (.nil))))))) ?_); (clear HO; intro _ HO); (repeat' (first | ((with_reducible refine tGo ?_); first | ((first | refine tL1 (OwnT.of HO) rfl rfl rfl (by kernel_rfl) (fun _ _ _ h => h) (by rfl) ?_ | refine tL3 (OwnT.of HO) rfl rfl rfl (by kernel_rfl) (fun _ _ _ h => h) (by rfl) ?_ | refine tY1 (OwnT.of HO) rfl rfl rfl (by kernel_rfl) (fun _ _ _ h => h) (by rfl) ?_); (try simp only [Act.put, pS])) | ((first | refine tPu (OwnT.of HO) rfl (by kernel_rfl) (fun _ _ _ h => h) (by rfl) (by intro _; go_simp; (try with_reducible rfl)) ?_); (try simp only [Act.put, pS])) | refine tEf rfl (by kernel_rfl) (by rfl) (fun K hK => ?_) | refine tLt rfl (by kernel_rfl) (by rfl) (fun K hK => ?_) | refine tDo (by kernel_rfl) ?_) | ((with_reducible refine uGo ?_); first | ((refine uPu rfl (by kernel_rfl) (fun _ _ _ h => h) (by rfl) (by intro _; go_simp; (try with_reducible rfl)) ?_); (try simp only [Act.put, pS])) | refine uEf rfl (by kernel_rfl) (by rfl) (fun K hK => ?_) | refine uDo (by kernel_rfl) ?_) | ((with_reducible show K _ _); (first | refine hK.out _ _ (OwnT.of HO) ?_ | with_reducible refine hK.out _ _ ?_); clear hK K; (try simp only [Act.put, pS])) | ((first | ((with_reducible refine to_mapUpdate ?_); refine wo_updW (k := v) (v := .int .i64 1) keyRef Try.underlying63 HO rfl rfl rfl rfl rfl arr_ok trivial ?_; clear HO; intro _ HO; rw [hu] at HO)) <;> (try dsimp only)))))
    (repeat' (first | ((with_reducible refine zG ?_); first | refine oWx ?_ | (refine oWs ?_; clear HO; intro _ HO) | (refine oWj ?_; clear HO; intro _ HO HB)) | go_values | go_skip | go_guarded | go_step | go_upon | (go_ite <;> go_prune <;> (try go_simp))))
    ((refine tBe HO [10] (.pu 0 (.pu 1 (.pu 2 (.pu 3 (.ld 4 (.ld 5 (.ef 6 (.ef 7 (.pu 8 (.pu 9 (.lt 10 (.nil)))))))))))) ?_); (clear HO; intro _ HO); (repeat' (first | ((with_reducible refine tGo ?_); first | ((first | refine tL1 (OwnT.of HO) rfl rfl rfl (by kernel_rfl) (fun _ _ _ h => h) (by rfl) ?_ | refine tL3 (OwnT.of HO) rfl rfl rfl (by kernel_rfl) (fun _ _ _ h => h) (by rfl) ?_ | refine tY1 (OwnT.of HO) rfl rfl rfl (by kernel_rfl) (fun _ _ _ h => h) (by rfl) ?_); (try simp only [Act.put, pS])) | ((first | refine tPu (OwnT.of HO) rfl (by kernel_rfl) (fun _ _ _ h => h) (by rfl) (by intro _; go_simp; (try with_reducible rfl)) ?_); (try simp only [Act.put, pS])) | refine tEf rfl (by kernel_rfl) (by rfl) (fun K hK => ?_) | refine tLt rfl (by kernel_rfl) (by rfl) (fun K hK => ?_) | refine tDo (by kernel_rfl) ?_) | ((with_reducible refine uGo ?_); first | ((refine uPu rfl (by kernel_rfl) (fun _ _ _ h => h) (by rfl) (by intro _; go_simp; (try with_reducible rfl)) ?_); (try simp only [Act.put, pS])) | refine uEf rfl (by kernel_rfl) (by rfl) (fun K hK => ?_) | refine uDo (by kernel_rfl) ?_) | ((with_reducible show K _ _); (first | refine hK.out _ _ (OwnT.of HO) ?_ | with_reducible refine hK.out _ _ ?_); clear hK K; (try simp only [Act.put, pS])) | ((with_reducible refine to_store ?_); first | (refine oYs HO rfl rfl rfl (by rfl) ?_; clear HO; intro _ HO) | ((first | refine oT1 HO rfl rfl rfl ?_ | refine oT2 HO rfl rfl rfl (by rfl) ?_ | refine oT3 HO rfl rfl rfl rfl ?_); clear HO; intro _ HO)) | ((first | ((with_reducible refine to_append ?_); refine wo_appG HO rfl rfl rfl HB Try.underlying66 info_ref rfl (by decide) rfl (by simp [Value.oneCell']) hq (by decide) ?_; clear HO HB; intro _ _ _ hcap HO; (try simp only [Act.put, pS]))) <;> (try dsimp only)) | ((with_reducible refine ab_junk HO _ ?_); clear HO; intro _ HO HB) | ((with_reducible refine eOp ?_); go_simp))))
    (repeat' (first | ((with_reducible refine zG ?_); first | refine oWx ?_ | (refine oWs ?_; clear HO; intro _ HO) | (refine oWj ?_; clear HO; intro _ HO HB)) | go_values | go_skip | go_guarded | go_step | go_upon | (go_ite <;> go_prune <;> (try go_simp))))
    first
    | refine bp_noneN rfl rfl ?_
    | refine bp_none rfl rfl ?_
    have e1 : q.length + 1 = (q ++ [v]).length := by simp
    have e2 : q.flatMap refC ++ [.int .i64 v.fn, .int .i64 (v.i : Int)] = (q ++ [v]).flatMap refC := by simp [refC]
    rw [e2, e1] at HO
    exact ⟨rfl, _, _, HO.out.sub (List.sublist_cons_self _ _) (List.Sublist.refl _) (fun _ h => h)⟩
end
open Go.RowKit
structure HEnt where
  k : Rf
  l : List Rf
  A : Option Addr
  c : Nat
def handV (h : HEnt) : Rf × Value := (h.k, .slice h.A h.l.length h.c)
def rowH (h : HEnt) : Rw := ⟨107, 2, .slice h.A h.l.length h.c, h.l.length, h.l.flatMap refC⟩
def getH (v : Rf) : List HEnt → Option HEnt
  | [] => none
  | h :: r => if h.k = v then some h else getH v r
def restH (v : Rf) : List HEnt → List HEnt
  | [] => []
  | h :: r => if h.k = v then r else h :: restH v r
def putH (v : Rf) (l : List Rf) (A : Option Addr) (c : Nat) : List HEnt → List HEnt
  | [] => [⟨v, l, A, c⟩]
  | h :: r => if h.k = v then ⟨v, l, A, c⟩ :: r else h :: putH v l A c r
def lookHs (v : Rf) (hs : List HEnt) : List Rf := match getH v hs with
  | some e => e.l
  | none => []
def HdOk (hs : List HEnt) (hd : List (Rf × Rf)) : Prop := ∀ v, lookHs v hs = handS v hd
theorem getH_look (v : Rf) : ∀ (hs : List HEnt), lookK v (hs.map handV) = (getH v hs).map fun e => Value.slice e.A e.l.length e.c := by
  intro hs
  unfold lookK
  have : ∀ (hs : List HEnt) (i : Nat), (posK v (hs.map handV) i).map (·.2) = (getH v hs).map fun e => Value.slice e.A e.l.length e.c := by
    intro hs
    induction hs with
    | nil => intro i; rfl
    | cons x r ih =>
      intro i
      rw [List.map_cons, posK, getH]
      by_cases h : x.k = v
      · rw [if_pos (show (handV x).1 = v from h), if_pos h]; rfl
      · rw [if_neg (show ¬ (handV x).1 = v from h), if_neg h]; exact ih (i + 1)
  exact this hs 0
theorem putH_map (v : Rf) (l : List Rf) (A : Option Addr) (c : Nat) : ∀ hs : List HEnt, (putH v l A c hs).map handV = updK v (.slice A l.length c) (hs.map handV)
  | [] => rfl
  | x :: r => by
    rw [putH, List.map_cons, updK]
    by_cases h : x.k = v
    · rw [if_pos h, if_pos (show (handV x).1 = v from h)]; rfl
    · rw [if_neg h, if_neg (show ¬ (handV x).1 = v from h), List.map_cons, putH_map v l A c r]
theorem putH_rows (v : Rf) (l : List Rf) (A : Option Addr) (c : Nat) : ∀ hs : List HEnt, (rowH ⟨v, l, A, c⟩ :: (restH v hs).map rowH).Perm ((putH v l A c hs).map rowH)
  | [] => List.Perm.refl _
  | x :: r => by
    rw [putH, restH]
    by_cases h : x.k = v
    · rw [if_pos h, if_pos h]; exact List.Perm.refl _
    · rw [if_neg h, if_neg h, List.map_cons, List.map_cons]
      exact List.Perm.trans (List.Perm.swap _ _ _) (List.Perm.cons _ (putH_rows v l A c r))
theorem getH_rows {v : Rf} {e : HEnt} : ∀ {hs : List HEnt}, getH v hs = some e → (hs.map rowH).Perm (rowH e :: (restH v hs).map rowH)
  | [], h => by cases h
  | x :: r, h => by
    rw [getH] at h
    rw [restH]
    split at h
    · rename_i hk
      injection h with h
      subst h
      rw [if_pos hk]
      exact List.Perm.refl _
    · rename_i hk
      rw [if_neg hk, List.map_cons, List.map_cons]
      exact List.Perm.trans (List.Perm.cons _ (getH_rows h)) (List.Perm.swap _ _ _)
theorem getH_none {v : Rf} : ∀ {hs : List HEnt}, getH v hs = none → restH v hs = hs
  | [], _ => rfl
  | x :: r, h => by
    rw [getH] at h
    rw [restH]
    split at h
    · cases h
    · rename_i hk
      rw [if_neg hk, getH_none h]
theorem getH_put (v u : Rf) (l : List Rf) (A : Option Addr) (c : Nat) : ∀ hs : List HEnt, lookHs u (putH v l A c hs) = if u = v then l else lookHs u hs
  | [] => by
    unfold lookHs
    rw [putH, getH, getH]
    by_cases h : v = u
    · rw [if_pos h, if_pos h.symm]
    · rw [if_neg h, if_neg (fun e => h e.symm)]
      rfl
  | x :: r => by
    have ih := getH_put v u l A c r
    unfold lookHs at ih ⊢
    rw [putH]
    by_cases h : x.k = v
    · rw [if_pos h, getH, getH]
      by_cases h2 : v = u
      · rw [if_pos h2, if_pos h2.symm]
      · rw [if_neg h2, if_neg (fun e => h2 e.symm), if_neg (fun e => h2 (h.symm.trans e))]
    · rw [if_neg h, getH, getH]
      by_cases h2 : x.k = u
      · rw [if_pos h2, if_pos h2, if_neg (fun e => h (h2.trans e))]
      · rw [if_neg h2, if_neg h2]
        exact ih
theorem handS_app (u v x : Rf) (hd : List (Rf × Rf)) : handS u (hd ++ [(v, x)]) = if u = v then handS u hd ++ [x] else handS u hd := by
  unfold handS
  rw [List.filter_append, List.map_append]
  by_cases h : u = v
  · rw [if_pos h]
    simp [h]
  · rw [if_neg h]
    have h' : ¬ v = u := fun e => h e.symm
    simp [h']
theorem HdOk.put {hs : List HEnt} {hd : List (Rf × Rf)} (h : HdOk hs hd) (v x : Rf) (A : Option Addr) (c : Nat) : HdOk (putH v (handS v hd ++ [x]) A c hs) (hd ++ [(v, x)]) := fun u => by
  rw [getH_put, handS_app, h u]
  by_cases e : u = v
  · rw [if_pos e, if_pos e, e]
  · rw [if_neg e, if_neg e]
theorem handS_len (v : Rf) (hd : List (Rf × Rf)) : (handS v hd).length ≤ hd.length := by
  unfold handS
  rw [List.length_map]
  exact List.length_filter_le _ _
structure PlG (t : TreeT) (p : Pl) : Prop where
  by_ : byteOk p.n.s
  up : ∀ u, p.up = some u → byteOk u.s
  fn1 : p.fn < (t.funcs.length : Int)
  fn2 : -1 ≤ p.fn
  len : p.n.l.length ≤ 1000000
def NoteI (w1 : World) (X : List Nat) (g nF cF nR cR cP mf mg ma mh : Nat) (AF AR AP : Option Addr) (x : NSt × Nat) (V : Vst) : Prop :=
  ∃ AL cL AQ cQ hs, V = ⟨SX (⟨g, 68, [.slice AF nF cF, .slice AR nR cR, .map (some mf), .slice AP nF cP, .map (some mg), .slice AL x.1.L.length cL, .map (some ma), .map (some mh), .slice AQ x.1.q.length cQ]⟩ :: []) [(mg, encK strV (enumF x.1.L 0)), (ma, encK refV (arrE x.1.arr)), (mh, encK refV (hs.map handV))] X w1.heap.size, [], ⟨52, 2, .slice AL x.1.L.length cL, x.1.L.length, x.1.L.flatMap varC⟩ :: ⟨107, 2, .slice AQ x.1.q.length cQ, x.1.q.length, x.1.q.flatMap refC⟩ :: hs.map rowH⟩ ∧ HdOk hs x.1.hd ∧ (∀ s ∈ x.1.L, byteOk s) ∧ x.1.L.length ≤ x.2 ∧ x.1.q.length ≤ x.2 ∧ x.1.hd.length ≤ x.2
section
variable {o : Oper} {a : Act} {w0 w : World} {X : List Nat} {S : World → Prop} {xs : List Bx} {ms : List (Nat × List (Value × Value))} {bs : List Bx} {rs : List Rw} {F : List Cold} {K : Act → World → Prop} {Q : Exit → Act → World → Prop}
theorem to_mapEntry {P : Program} {d : Option Tmp} {ty T : TypeId} {x y : Operand} {ps : String} {af : Array Edge} {gd : Option (Nat × Bool)} (h : WOp P ⟨d, .mapEntry ty x y, T, ps, af, gd⟩ a w K Q) : Oper.wp P ⟨d, .mapEntry ty x y, T, ps, af, gd⟩ a w K Q := h
theorem to_entryStore {P : Program} {d : Option Tmp} {ty T : TypeId} {x y z : Operand} {ps : String} {af : Array Edge} {gd : Option (Nat × Bool)} (h : WOp P ⟨d, .entryStore ty x y z, T, ps, af, gd⟩ a w K Q) : Oper.wp P ⟨d, .entryStore ty x y z, T, ps, af, gd⟩ a w K Q := h
theorem wo_entW {κ : Type} [DecidableEq κ] {kt et ty : TypeId} {enc : κ → Value} {ok : κ → Prop} (M : KeyOk kt enc ok) (hm : Try.prog.underlying ty = some (.map kt et)) {z : Value} (hz : ∀ w, (zeroValue et).run Try.prog w = .ok z w) (HO : Hid (Own w0 X (SX xs ms X w0.heap.size) bs rs F w)) {x y : Operand} (ho : o.op = .mapEntry ty x y) {m : Nat} (hx : a.eval x = .map (some m)) {k : κ} (hy : a.eval y = enc k) {l : List (κ × Value)} {f : List (Value × Value) → List (Nat × List (Value × Value))} [U : Mu ms m (encK enc l) f] (hl : ∀ x ∈ l, ok x.1) (hk : ok k)
    (h : ∀ (j : Nat) W, Hid ((entK k z l)[j]? = some (k, (lookK k l).getD z)) → Hid (∀ v, updK k v l = (entK k z l).set j (k, v)) → Hid (Own w0 X (SX xs (f (encK enc (entK k z l))) X w0.heap.size) bs rs F W) → Hid (∀ b t cs, w0.heap.size ≤ b → Blk w b t cs → Blk W b t cs) → K (a.put o.dst (.tuple #[(lookK k l).getD z, goInt j])) W) : WOp Try.prog o a w K Q := by
  have hb := HO.out.st.map _ U.m
  obtain ⟨j, hr, h1, h2⟩ := run_entM M hm hz hb hl hk
  unfold WOp Oper.wp execOp
  simp only [ho, hx, hy, Sem.run_bind, hr, Result.andThen_ok, Sem.run_pure]
  exact h j _ (Lib.hid h1) (Lib.hid h2) (Lib.hid (HO.out.setXM (U.c _))) (Lib.hid fun b t cs hb hB => (putM_other (fun e => by have := (HO.out.st.lt m (List.mem_append_right _ (List.mem_map_of_mem (f := (·.1)) U.m))).1; omega)).trans hB)
theorem wo_enS {κ : Type} [DecidableEq κ] {ty : TypeId} {enc : κ → Value} (HO : Hid (Own w0 X (SX xs ms X w0.heap.size) bs rs F w)) {x y zz : Operand} (ho : o.op = .entryStore ty x y zz) (hdst : o.dst = none) {m j : Nat} (hx : a.eval x = .map (some m)) (hy : a.eval y = goInt j) {v : Value} (hz : a.eval zz = v) {k : κ} {u : Value} {l : List (κ × Value)} {f : List (Value × Value) → List (Nat × List (Value × Value))} [U : Mu ms m (encK enc l) f] (hj : l[j]? = some (k, u))
    (h : ∀ W, Hid (Own w0 X (SX xs (f (encK enc (l.set j (k, v)))) X w0.heap.size) bs rs F W) → K a W) : WOp Try.prog o a w K Q := by
  have hb := HO.out.st.map _ U.m
  have hr := run_entS (mt := ty) (v := v) hb hj
  unfold WOp Oper.wp execOp
  simp only [ho, hx, hy, hz, Sem.run_bind, hr, Result.andThen_ok, Sem.run_pure]
  have := h _ (Lib.hid (HO.out.setXM (U.c _)))
  simpa [Oper.upon, hdst, Act.put] using this
end
end Go.Proofs.Ythipoccbeloceaa
