/- Several texts put together: RpB, RtK, RpC, RpD, RvA, RpE, PasI, ParS, ParW, ParX, ParY, ParZ, PasA, PasB, LexQ, RtM. -/
import Derived.Test.YthipoccbeloceaaBu3
import Derived.Test.YthipoccbeloceaaBu1
import Derived.Test.YthipoccbeloceaaBu6
import Derived.Defers
import Derived.Recover
set_option linter.unusedSimpArgs false
set_option linter.unusedVariables false
namespace Go.Proofs.Ythipoccbeloceaa
open Go.RowKit
instance : TN 93 1 := ⟨Try.isAgg93, Try.sizeOf93⟩
instance : TF 93 (fsOf Try.underlying93) := ⟨Try.underlying93⟩
instance : TN 116 10 := ⟨Try.isAgg116, Try.sizeOf116⟩
instance : TZ 116 [.int .i64 0, .int .i64 0, .string { data := #[] }, .bool false, .int .u64 0, .int .u64 0, .int .i64 0, .slice none 0 0, .int .i64 0, .int .i64 0] := ⟨Try.zeroValue116⟩
instance : TF 116 (fsOf Try.underlying116) := ⟨Try.underlying116⟩
structure RS (b c : Nat) (ts : List TokF) (n : Nat) (w : World) : Prop where
  hb : b < n
  z : n ≤ w.heap.size
  row : ∀ k, k < ts.length → w.rangeAt b (k * 6) (tokC (tk ts k))
  hc : ts.length ≤ c
  pos : 0 < ts.length
  ok : TsOk ts
section
variable {b c : Nat} {ts : List TokF} {w w' w0 W : World} {X : List Nat} {bs : List Bx} {rs : List Rw} {F : List Cold} {K : Act → World → Prop} {a : Act} {o : Oper} {Q : Exit → Act → World → Prop} {T : Ending → World → Prop} {n : Nat}
theorem RS.loc : Loc (RS b c ts n) n := fun w w' hb hs h =>
  ⟨h.hb, Nat.le_trans h.z hs, fun k hk i v hv => (World.cell?_of_block (hb b h.hb)).trans (h.row k hk i v hv), h.hc, h.pos, h.ok⟩
theorem RS.more (h : RS b c ts n w) : RS b c ts w.heap.size w := ⟨Nat.lt_of_lt_of_le h.hb h.z, Nat.le_refl _, h.row, h.hc, h.pos, h.ok⟩
theorem RS.own (h : RS b c ts w.heap.size w) : Hid (Own w [] (RS b c ts w.heap.size) [] [] [] w) := Lib.hid (Own.init h RS.loc)
theorem RS.next (h : RS b c ts n w) (q : Below w.heap.size w w') : RS b c ts n w' := RS.loc w w' (fun b hb => q.block b (Nat.lt_of_lt_of_le hb h.z)) q.size h
theorem oR1 (HO : Hid (Own w0 X (RS b c ts n) bs rs F w)) {ty : TypeId} {x : Operand} (ho : o.op = .load ty x) {q k j : Nat} (hx : a.eval x = .pointer (some ⟨b, q, none⟩)) {v : Value} [T : T1 ty] (hq : q = k * 6 + j) (hv : (tokC (tk ts k))[j]? = some v) (hk : k < ts.length) (h : K (a.put o.dst v) w) : WOp Try.prog o a w K Q := by
  subst hq
  have hl : w.cell? ⟨b, k * 6 + j, none⟩ = some v := HO.out.st.row k hk j v hv
  have hd := T.a
  unfold WOp Oper.wp execOp
  simp only [ho, hx, Instr.loadAt, Instr.sureAddr, Sem.run_bind, Sem.run_pure, Result.andThen_ok, loadVar, hd w, Bool.false_eq_true, if_false, run_load, hl]
  exact h
theorem oR0 (HO : Hid (Own w0 X (RS b c ts n) bs rs F w)) {ty : TypeId} {x : Operand} (ho : o.op = .load ty x) {q k : Nat} (hx : a.eval x = .pointer (some ⟨b, q, none⟩)) [T : T1 ty] (hq : q = k * 6) (hk : k < ts.length) (h : K (a.put o.dst (.int .i64 ((tk ts k).k : Int))) w) : WOp Try.prog o a w K Q := oR1 (j := 0) HO ho hx hq rfl hk h
theorem oR6 (HO : Hid (Own w0 X (RS b c ts n) bs rs F w)) {ty : TypeId} {x : Operand} (ho : o.op = .load ty x) {q k : Nat} (hx : a.eval x = .pointer (some ⟨b, q, none⟩)) [T : TN ty 6] (hq : q = k * 6) (hk : k < ts.length) (h : K (a.put o.dst (.agg #[.int .i64 ((TokF.k (tk ts k) : Nat) : Int), .int .i64 ((TokF.at' (tk ts k) : Nat) : Int), .string (strN (TokF.s (tk ts k))), .bool (zn (TokF.z (tk ts k))), .int .u64 (zh (TokF.z (tk ts k))), .int .u64 (zl (TokF.z (tk ts k)))])) w) : WOp Try.prog o a w K Q := by
  subst hq
  have hl : (loadCells ⟨b, k * 6, none⟩ 6).run Try.prog w = .ok (tokC (tk ts k)).toArray w :=
    run_loadCells_list (P := Try.prog) w ⟨b, k * 6, none⟩ (tokC (tk ts k)) (fun j v hs => by rw [Addr.add_mid]; exact HO.out.st.row k hk j v hs)
  have hd := T.a
  have hz := T.s
  unfold WOp Oper.wp execOp
  simp only [ho, hx, Instr.loadAt, Instr.sureAddr, Sem.run_bind, Sem.run_pure, Result.andThen_ok, loadVar, hd w, if_true, hz w, hl]
  exact h
theorem ris_lt {s : List Nat} {k : Nat} (ok : TsOk ts) (hk : k < ts.length) (h : ris ts k s = true) : k + 1 < ts.length := ok.ends k hk fun e => by
  unfold ris at h
  rw [e] at h
  simp at h
theorem ramong_lt {s : List Nat} {k : Nat} (ok : TsOk ts) (hk : k < ts.length) (h : ramong ts k s = true) : k + 1 < ts.length := ok.ends k hk fun e => by
  unfold ramong at h
  rw [e] at h
  simp at h
theorem strN_beq {x y : List Nat} (hx : ∀ a ∈ x, a < 256) (hy : ∀ a ∈ y, a < 256) : ((strN x).toList == (strN y).toList) = decide (x = y) := by
  rw [Bool.eq_iff_iff, beq_iff_eq, decide_eq_true_eq, strN_list y]
  exact list8 hx y hy
end
set_option maxRecDepth 100000 in
set_option maxHeartbeats 3200000 in
theorem is_any {b c : Nat} {ts : List TokF} {k : Nat} {s : List Nat} (hk : k < ts.length) (hs : ∀ x ∈ s, x < 256) (w : World) (h : RS b c ts w.heap.size w) :
    Calls Try.prog 32 #[.agg #[.slice (some ⟨b, 0, none⟩) ts.length c], .int .i64 (k : Int), .string (strN s)] w fun e w' => e = .returned (.bool (ris ts k s)) ∧ Below w.heap.size w w' := by
  have HO := h.own
  have hlen := h.ok.len
  have hkn : (k : Int) < (ts.length : Int) := by omega
  have hby : ∀ x ∈ (tk ts k).s, x < 256 := by rw [tk_eq hk]; exact h.ok.byte _ (List.getElem_mem hk)
  have hst := strN_beq hby hs
  unfold ris
  generalize decide ((tk ts k).s = s) = z at hst ⊢
  clear hby hs h
  cases h9 : (((tk ts k).k : Int) == 9)
  · cases h7 : (((tk ts k).k : Int) == 7)
    all_goals
      go_enter Try.func32, Try.ntmps32
      (repeat' (first | ((with_reducible refine zG ?_); first | refine oWx ?_ | (refine oWs ?_; clear HO; intro _ HO)) | ((with_reducible refine to_load ?_); (first | first | refine oR6 HO rfl rfl rfl (by omega) ?_ | refine oR1 HO rfl rfl rfl rfl (by omega) ?_ | refine oR0 HO rfl rfl rfl (by omega) ?_); (try simp only [Act.put, pS])) | go_values | go_skip | go_guarded | go_step | go_upon | (go_ite <;> go_prune <;> (try go_simp))))
      refine bp_tmp (t := 6) rfl rfl rfl ?_
      exact ⟨by simp [hst], HO.out.kept.below⟩
  · go_enter Try.func32, Try.ntmps32
    (repeat' (first | ((with_reducible refine zG ?_); first | refine oWx ?_ | (refine oWs ?_; clear HO; intro _ HO)) | ((with_reducible refine to_load ?_); (first | first | refine oR6 HO rfl rfl rfl (by omega) ?_ | refine oR1 HO rfl rfl rfl rfl (by omega) ?_ | refine oR0 HO rfl rfl rfl (by omega) ?_); (try simp only [Act.put, pS])) | go_values | go_skip | go_guarded | go_step | go_upon | (go_ite <;> go_prune <;> (try go_simp))))
    refine bp_tmp (t := 6) rfl rfl rfl ?_
    exact ⟨by simp [hst], HO.out.kept.below⟩
theorem strN_cut (L : List Nat) (i j : Nat) : (strN L).extract i j = strN ((L.take j).drop i) := by
  have : ((strN L).extract i j).data = (strN ((L.take j).drop i)).data := by
    rw [ByteArray.data_extract]
    simp only [strN, List.extract_toArray, List.extract_eq_take_drop, List.map_drop, List.map_take]
    congr 1
    rw [List.drop_take]
  cases h1 : (strN L).extract i j; cases h2 : strN ((L.take j).drop i); rw [h1, h2] at this; simpa using this
theorem strN_run (L : List Nat) (i j : Nat) (hi : i ≤ j) (hj : j ≤ L.length) (W : World) : (Instr.slice 9 (.string (strN L)) (some (.int .i64 (i : Int))) (some (.int .i64 (j : Int))) none).run Try.prog W = .ok (.string (strN ((L.take j).drop i))) W := by
  rw [run_slice_string_if W 9 (strN L) .i64 .i64 i j Try.underlying9, if_pos (by rw [strN_size]; omega), if_pos (by omega), Int.toNat_natCast, Int.toNat_natCast, strN_cut]
theorem infix_short (w : List Nat) (hw : 0 < w.length) : ∀ l : List Nat, l.length < w.length → infixB w l = false
  | [], _ => by
    unfold infixB
    rw [decide_eq_false_iff_not]
    intro e
    rw [← e] at hw
    cases hw
  | x :: l, h => by
    unfold infixB
    rw [infix_short w hw l (by simp at h; omega), Bool.or_false, decide_eq_false_iff_not]
    intro e
    have := congrArg List.length e
    simp at this h
    omega
theorem infix_step (w : List Nat) (hw : 0 < w.length) (l : List Nat) (i : Nat) (hi : i + w.length ≤ l.length) : infixB w (l.drop i) = (decide ((l.take (i + w.length)).drop i = w) || infixB w (l.drop (i + 1))) := by
  have hi' : i < l.length := by omega
  rw [List.drop_eq_getElem_cons hi']
  show (decide ((l[i] :: l.drop (i + 1)).take w.length = w) || _) = _
  rw [← List.drop_eq_getElem_cons hi', List.drop_take, Nat.add_sub_cancel_left]
set_option maxRecDepth 100000 in
set_option maxHeartbeats 3200000 in
theorem among_any {b c : Nat} {ts : List TokF} {k : Nat} {all : List Nat} (hk : k < ts.length) (ha : ∀ x ∈ all, x < 256) (hal : all.length ≤ 100) (w : World) (h : RS b c ts w.heap.size w) :
    Calls Try.prog 61 #[.agg #[.slice (some ⟨b, 0, none⟩) ts.length c], .int .i64 (k : Int), .string (strN all)] w fun e w' => e = .returned (.bool (ramong ts k all)) ∧ Below w.heap.size w w' := by
  have HO := h.own
  have hlen := h.ok.len
  have hkn : (k : Int) < (ts.length : Int) := by omega
  have hby : ∀ x ∈ (tk ts k).s, x < 256 := by rw [tk_eq hk]; exact h.ok.byte _ (List.getElem_mem hk)
  obtain ⟨R, hR⟩ : ∃ R, ramong ts k all = R := ⟨_, rfl⟩
  rw [hR]
  unfold ramong at hR
  have hsz : (tk ts k).s.length ≤ 100000 := by rw [tk_eq hk]; exact h.ok.size _ (List.getElem_mem hk)
  cases h9 : (((tk ts k).k : Int) == 9)
  · have h9' : (((tk ts k).k : Int) != 9) = true := by rw [bne, h9]; rfl
    go_enter Try.func61, Try.ntmps61
    (repeat' (first | ((with_reducible refine zG ?_); first | refine oWx ?_ | (refine oWs ?_; clear HO; intro _ HO)) | ((with_reducible refine to_load ?_); (first | first | refine oR6 HO rfl rfl rfl (by omega) ?_ | refine oR1 HO rfl rfl rfl rfl (by omega) ?_ | refine oR0 HO rfl rfl rfl (by omega) ?_); (try simp only [Act.put, pS])) | go_values | go_skip | go_guarded | go_step | go_upon | (go_ite <;> go_prune <;> (try go_simp))))
    refine bp_tmp (t := 6) rfl rfl rfl ?_
    exact ⟨by rw [← hR, h9]; rfl, HO.out.kept.below⟩
  · have h9' : (((tk ts k).k : Int) != 9) = false := by rw [bne, h9]; rfl
    have hz0 : (strN (tk ts k).s).size ≤ 100000 := by rw [strN_size]; exact hsz
    have hz1 : (({ data := #[32] } : ByteArray) ++ strN (tk ts k).s).size ≤ 100001 := by
      rw [show ({ data := #[32] } : ByteArray) = strN [32] from rfl, strN_app, strN_size]
      simp
      exact hsz
    go_enter Try.func61, Try.ntmps61
    (repeat' (first | ((with_reducible refine zG ?_); first | refine oWx ?_ | (refine oWs ?_; clear HO; intro _ HO)) | ((with_reducible refine to_load ?_); (first | first | refine oR6 HO rfl rfl rfl (by omega) ?_ | refine oR1 HO rfl rfl rfl rfl (by omega) ?_ | refine oR0 HO rfl rfl rfl (by omega) ?_); (try simp only [Act.put, pS])) | go_values | go_skip | go_guarded | go_step | go_upon | (go_ite <;> go_prune <;> (try go_simp))))
    have hsp : (strN [32]) = { data := #[32] } := rfl
    have hw1 : ((({ data := #[32] } : ByteArray) ++ strN (tk ts k).s) ++ { data := #[32] }) = strN ([32] ++ (tk ts k).s ++ [32]) := by
      rw [← hsp, ← strN_app, ← strN_app]
    rw [h9, Bool.true_and] at hR
    generalize hwd : [32] ++ (tk ts k).s ++ [32] = wd at hw1 hR
    simp only [hw1]
    have hwb : ∀ x ∈ wd, x < 256 := fun x hx => by
      rw [← hwd] at hx
      simp only [List.mem_append, List.mem_singleton] at hx
      rcases hx with (rfl | hx) | rfl
      · decide
      · exact hby x hx
      · decide
    have hwl : 2 ≤ wd.length ∧ wd.length ≤ 100002 := by rw [← hwd]; simp; omega
    have hw2 : (strN wd).size = wd.length := strN_size _
    have ha2 : (strN all).size = all.length := strN_size _
    clear hwd hby hsz h9 h9' hz0 hz1 hsp h
    go_loopw [8] (fun iv W => ∃ i : Nat, iv = .int .i64 (i : Int) ∧ i ≤ all.length ∧ infixB wd (all.drop i) = infixB wd all ∧ Hid (Own w [] (RS b c ts w.heap.size) [⟨w.heap.size, 93, [.slice (some ⟨b, 0, none⟩) ts.length c]⟩] [] [] W)) (fun iv _ => all.length - (intOf iv).toNat)
    case atStart => exact ⟨0, rfl, Nat.zero_le _, rfl, HO⟩
    case round =>
      clear HO
      obtain ⟨i, rfl, hi, hinf, HO⟩ := hrel
      by_cases hj : i + wd.length ≤ all.length
      · have d1 : decide ((i : Int) + (wd.length : Int) ≤ (all.length : Int)) = true := decide_eq_true (by omega)
        have hss := strN_run all i (i + wd.length) (by omega) hj
        rw [Int.natCast_add] at hss
        have hst := strN_beq (x := (all.take (i + wd.length)).drop i) (y := wd) (fun x hx => ha x (List.mem_of_mem_take (List.mem_of_mem_drop hx))) hwb
        rw [infix_step wd (by omega) all i hj] at hinf
        generalize decide ((all.take (i + wd.length)).drop i = wd) = z at hst hinf
        generalize strN ((all.take (i + wd.length)).drop i) = sl at hst hss
        have hs0 : 0 ≤ (i : Int) := by omega
        cases z
        · (repeat' (first | ((with_reducible refine zG ?_); first | refine oWx ?_ | (refine oWs ?_; clear HO; intro _ HO)) | go_values | go_skip | go_guarded | go_step | go_upon | (go_ite <;> go_prune <;> (try go_simp))))
          go_roundw
          case rel => exact ⟨i + 1, by go_num, by omega, by simpa using hinf, HO⟩
          case measure => exact meas2 (by go_num) (Nat.lt_succ_self i) (by omega)
        · (repeat' (first | ((with_reducible refine zG ?_); first | refine oWx ?_ | (refine oWs ?_; clear HO; intro _ HO)) | go_values | go_skip | go_guarded | go_step | go_upon | (go_ite <;> go_prune <;> (try go_simp))))
          refine bp_tmp (t := 6) rfl rfl rfl ?_
          exact ⟨by rw [← hR, ← hinf]; rfl, HO.out.kept.below⟩
      · have d1 : decide ((i : Int) + (wd.length : Int) ≤ (all.length : Int)) = false := decide_eq_false (by omega)
        rw [infix_short wd (by omega) _ (by rw [List.length_drop]; omega)] at hinf
        have HI := Lib.hid hinf
        clear hinf
        (repeat' (first | ((with_reducible refine zG ?_); first | refine oWx ?_ | (refine oWs ?_; clear HO; intro _ HO)) | go_values | go_skip | go_guarded | go_step | go_upon | (go_ite <;> go_prune <;> (try go_simp))))
        refine bp_tmp (t := 6) rfl rfl rfl ?_
        exact ⟨by rw [← hR, ← HI.out]; rfl, HO.out.kept.below⟩
theorem rlinesF_le (ts : List TokF) : ∀ f k, k ≤ rlinesF ts f k
  | 0, k => Nat.le_refl _
  | f + 1, k => by
    unfold rlinesF
    split
    · exact Nat.le_trans (Nat.le_succ k) (rlinesF_le ts f (k + 1))
    · exact Nat.le_refl _
theorem kd1_lt {ts : List TokF} {k : Nat} (ok : TsOk ts) (hk : k < ts.length) (h : (((tk ts k).k : Int) == 1) = true) : k + 1 < ts.length := ok.ends k hk fun e => by
  rw [e] at h
  simp at h
theorem rlinesF_lt {ts : List TokF} (ok : TsOk ts) : ∀ f k, k < ts.length → rlinesF ts f k < ts.length
  | 0, k, h => h
  | f + 1, k, h => by
    unfold rlinesF
    split
    · rename_i h1
      exact rlinesF_lt ok f (k + 1) (kd1_lt ok h h1)
    · exact h
set_option maxRecDepth 100000 in
set_option maxHeartbeats 3200000 in
theorem lines_any {b c : Nat} {ts : List TokF} {k : Nat} (hk : k < ts.length) (w : World) (h : RS b c ts w.heap.size w) :
    Calls Try.prog 52 #[.agg #[.slice (some ⟨b, 0, none⟩) ts.length c], .int .i64 (k : Int)] w fun e w' => e = .returned (.int .i64 ((rlines ts k : Nat) : Int)) ∧ Below w.heap.size w w' := by
  have HO := h.own
  have hlen := h.ok.len
  have ok := Lib.hid h.ok
  obtain ⟨R, hR⟩ : ∃ R, rlines ts k = R := ⟨_, rfl⟩
  rw [hR]
  unfold rlines at hR
  clear h
  go_enter Try.func52, Try.ntmps52
  (repeat' (first | ((with_reducible refine zG ?_); first | refine oWx ?_ | (refine oWs ?_; clear HO; intro _ HO)) | go_values | go_skip | go_guarded | go_step | go_upon | (go_ite <;> go_prune <;> (try go_simp))))
  go_loopw [1] (fun iv W => ∃ q f : Nat, iv = .int .i64 (q : Int) ∧ q < ts.length ∧ ts.length ≤ f + q ∧ rlinesF ts f q = R ∧ Hid (Own w [] (RS b c ts w.heap.size) [⟨w.heap.size, 93, [.slice (some ⟨b, 0, none⟩) ts.length c]⟩] [] [] W)) (fun iv _ => ts.length - (intOf iv).toNat)
  case atStart => exact ⟨k, ts.length, rfl, hk, by omega, hR, HO⟩
  case round =>
    clear HO hR
    obtain ⟨q, f, rfl, hq, hf, hR, HO⟩ := hrel
    have hqn : (q : Int) < (ts.length : Int) := by omega
    obtain ⟨f, rfl⟩ : ∃ f', f = f' + 1 := ⟨f - 1, by omega⟩
    have HR := Lib.hid hR
    clear hR
    cases h1 : (((tk ts q).k : Int) == 1)
    · (repeat' (first | ((with_reducible refine zG ?_); first | refine oWx ?_ | (refine oWs ?_; clear HO; intro _ HO)) | ((with_reducible refine to_load ?_); (first | first | refine oR6 HO rfl rfl rfl (by omega) ?_ | refine oR1 HO rfl rfl rfl rfl (by omega) ?_ | refine oR0 HO rfl rfl rfl (by omega) ?_); (try simp only [Act.put, pS])) | go_values | go_skip | go_guarded | go_step | go_upon | (go_ite <;> go_prune <;> (try go_simp))))
      refine bp_tmp (t := 4) rfl rfl rfl ?_
      exact ⟨by rw [← HR.out]; unfold rlinesF; rw [h1]; rfl, HO.out.kept.below⟩
    · have hlt := kd1_lt ok.out hq h1
      (repeat' (first | ((with_reducible refine zG ?_); first | refine oWx ?_ | (refine oWs ?_; clear HO; intro _ HO)) | ((with_reducible refine to_load ?_); (first | first | refine oR6 HO rfl rfl rfl (by omega) ?_ | refine oR1 HO rfl rfl rfl rfl (by omega) ?_ | refine oR0 HO rfl rfl rfl (by omega) ?_); (try simp only [Act.put, pS])) | go_values | go_skip | go_guarded | go_step | go_upon | (go_ite <;> go_prune <;> (try go_simp))))
      go_roundw
      case rel => exact ⟨q + 1, f, by go_num, hlt, by omega, by rw [← HR.out, rlinesF, if_pos h1], HO⟩
      case measure => exact meas2 (by go_num) (Nat.lt_succ_self q) hq
open Go.RowKit
theorem wd_eqK {x y : List Nat} (hx : ∀ a ∈ x, a < 256) (hy : ∀ a ∈ y, a < 256) : ((strN x).toList == y.map UInt8.ofNat) = decide (x = y) := by
  rw [← strN_list y]
  exact strN_beq hx hy
inductive PlanT where
  | nil
  | pu (i : Nat) (r : PlanT)
  | ld (i : Nat) (r : PlanT)
  | lk (i : Nat) (r : PlanT)
  | ef (i : Nat) (r : PlanT)
  | lt (i : Nat) (r : PlanT)
  | bo (i j : Nat) (r1 r2 : PlanT)
def OwnT (w0 : World) (X : List Nat) (xs : (World → Prop) → Prop) (bs : List Bx) (rs : List Rw) (w : World) : Prop := ∃ S bs' rs' F, xs S ∧ Own w0 X S bs' rs' F w ∧ (∀ x ∈ bs, x ∈ bs') ∧ ∀ r ∈ rs, r ∈ rs'
def SPx (w0 : World) (X : List Nat) (xs : List Bx) (S : World → Prop) : Prop := ∃ ms, S = SX xs ms X w0.heap.size
def SPa (_ : World → Prop) : Prop := True
class Sp (SP : (World → Prop) → Prop) (S : World → Prop) : Prop where
  h : SP S
instance iSpx {w0 : World} {X : List Nat} {xs : List Bx} {ms : List (Nat × List (Value × Value))} : Sp (SPx w0 X xs) (SX xs ms X w0.heap.size) := ⟨⟨ms, rfl⟩⟩
instance iSpa {S : World → Prop} : Sp SPa S := ⟨trivial⟩
structure wpT (w0 : World) (X : List Nat) (xs : (World → Prop) → Prop) (bs : List Bx) (rs : List Rw) (late : List Nat) (_plan : PlanT) (ops : Array Oper) (Q : Exit → Act → World → Prop) (f : Nat) (listed : Array Bool) (a : Act) (w : World) : Prop where
  h : wpAnyE Try.prog .any ops Q (OwnT w0 X xs bs rs) late f listed a w
structure wpU (_plan : PlanT) (ops : Array Oper) (Q : Exit → Act → World → Prop) (f : Nat) (listed : Array Bool) (a : Act) (w : World) : Prop where
  h : wpAnyH Try.prog .any ops Q Anyw f listed a w
class Hs {α : Type} (l m : List α) : Prop where
  h : ∀ x ∈ l, x ∈ m
instance iHs0 {α : Type} {l : List α} : Hs l l := ⟨fun _ h => h⟩
instance (priority := low) iHsN {α : Type} {m : List α} : Hs [] m := ⟨fun _ h => (by cases h)⟩
instance (priority := low) iHs1 {α : Type} {l m : List α} {y : α} [h : Hs l m] : Hs l (y :: m) := ⟨fun x hx => List.mem_cons_of_mem _ (h.h x hx)⟩
section
variable {w0 w : World} {X : List Nat} {xs : (World → Prop) → Prop} {S : World → Prop} {zs bs bs' : List Bx} {ms : List (Nat × List (Value × Value))} {rs rs' : List Rw} {F : List Cold} {late : List Nat} {plan pl2 : PlanT} {ops : Array Oper} {Q : Exit → Act → World → Prop} {f : Nat} {listed : Array Bool} {a : Act} {i j : Nat} {oi oj : Oper}
theorem OwnT.of (HO : Hid (Own w0 X S bs' rs' F w)) [h0 : Sp xs S] [h1 : Hs bs bs'] [h2 : Hs rs rs'] : OwnT w0 X xs bs rs w := ⟨S, bs', rs', F, h0.h, HO.out, h1.h, h2.h⟩
theorem tGo (h : wpT w0 X xs bs rs late plan ops Q f listed a w) : wpT w0 X xs bs rs late plan ops Q f listed a w := h
theorem uGo (h : wpU plan ops Q f listed a w) : wpU plan ops Q f listed a w := h
theorem tBe {id : Nat} (HO : Hid (Own w0 X (SX zs ms X w0.heap.size) bs rs F w)) (late : List Nat) (plan : PlanT) (h : ∀ W, Hid (Own w0 X (SX zs ms X w0.heap.size) bs rs F W) → wpT w0 X (SPx w0 X zs) bs [] late plan ops Q ops.size (Array.replicate ops.size false) a W) : (Code.region id ops true).wp Try.prog Q a w := e_start _ late mixed (h _ (Lib.hid HO.out.drew)).h
theorem tBr {id : Nat} (HO : Hid (Own w0 X (SX zs ms X w0.heap.size) bs rs F w)) (late : List Nat) (plan : PlanT) (h : ∀ W, Hid (Own w0 X (SX zs ms X w0.heap.size) bs rs F W) → wpT w0 X (SPx w0 X zs) bs rs late plan ops Q ops.size (Array.replicate ops.size false) a W) : (Code.region id ops true).wp Try.prog Q a w := e_start _ late mixed (h _ (Lib.hid HO.out.drew)).h
theorem tBg {id : Nat} (HO : Hid (Own w0 X S bs rs F w)) (late : List Nat) (plan : PlanT) (h : ∀ W, Hid (Own w0 X S bs rs F W) → wpT w0 X SPa bs [] late plan ops Q ops.size (Array.replicate ops.size false) a W) : (Code.region id ops true).wp Try.prog Q a w := e_start _ late mixed (h _ (Lib.hid HO.out.drew)).h
theorem tB0 {id : Nat} (HO : Hid (Own w0 X S bs rs F w)) (late : List Nat) (plan : PlanT) (h : ∀ W, Hid (Own w0 X S bs rs F W) → wpT w0 X SPa [] [] late plan ops Q ops.size (Array.replicate ops.size false) a W) : (Code.region id ops true).wp Try.prog Q a w := e_start _ late mixed (h _ (Lib.hid HO.out.drew)).h
theorem tPu (hT : OwnT w0 X xs bs rs w) (hi : (ops.toList.drop i).head? = some oi) {v : Value} (hk : ckP ops late listed i = true) (hQ : ∀ c a w, Q (.panic c) (a.put oi.dst v) w → Q (.panic c) a w) (hwa : Region.wanted oi (yielded ops a.tmps) = true) (hy : ∀ w, (execOp a.eval oi).run Try.prog w = .ok (.value v) w)
    (h : wpT w0 X xs bs rs late plan ops Q f (listed.setIfInBounds i true) (a.put oi.dst v) w) : wpT w0 X xs bs rs late (.pu i plan) ops Q (f + 1) listed a w :=
  ⟨e_pure hi (ckP.all hk).1 (ckP.all hk).2.1 (ckP.all hk).2.2.1 (ckP.all hk).2.2.2 hQ hwa hT hy h.h⟩
def RdT (w0 : World) (X : List Nat) (xs : (World → Prop) → Prop) (bs : List Bx) (rs : List Rw) (a : Act) (o : Oper) (v : Value) : Prop := ∀ w S bs' rs' F', xs S → Hid (Own w0 X S bs' rs' F' w) → (∀ x ∈ bs, x ∈ bs') → (∀ r ∈ rs, r ∈ rs') → (execOp a.eval o).run Try.prog w = .ok (.value v) w
theorem tRd0 (hT : OwnT w0 X xs bs rs w) (hi : (ops.toList.drop i).head? = some oi) {v : Value} (hk : ckL ops late listed i = true) (hQ : ∀ c a w, Q (.panic c) (a.put oi.dst v) w → Q (.panic c) a w) (hwa : Region.wanted oi (yielded ops a.tmps) = true) (hr : RdT w0 X xs bs rs a oi v)
    (h : wpAnyE Try.prog .any ops Q (OwnT w0 X xs bs rs) late f (listed.setIfInBounds i true) (a.put oi.dst v) w) : wpAnyE Try.prog .any ops Q (OwnT w0 X xs bs rs) late (f + 1) listed a w := by
  have hk2 := Bool.and_eq_true_iff.1 hk
  exact e_take hi (ckP.all hk2.1).1 (ckP.all hk2.1).2.1 (ckP.all hk2.1).2.2.1 (ckP.all hk2.1).2.2.2 hk2.2 hQ hwa hT (fun w' ⟨S, bs', rs', F', h0, h1, h2, h3⟩ => hr w' S bs' rs' F' h0 (Lib.hid h1) h2 h3) h
theorem tRd (hT : OwnT w0 X xs bs rs w) (hi : (ops.toList.drop i).head? = some oi) {v : Value} (hk : ckL ops late listed i = true) (hQ : ∀ c a w, Q (.panic c) (a.put oi.dst v) w → Q (.panic c) a w) (hwa : Region.wanted oi (yielded ops a.tmps) = true) (hr : RdT w0 X xs bs rs a oi v)
    (h : wpT w0 X xs bs rs late plan ops Q f (listed.setIfInBounds i true) (a.put oi.dst v) w) : wpT w0 X xs bs rs late (.ld i plan) ops Q (f + 1) listed a w := ⟨tRd0 hT hi hk hQ hwa hr h.h⟩
theorem tRk (hT : OwnT w0 X xs bs rs w) (hi : (ops.toList.drop i).head? = some oi) {v : Value} (hk : ckL ops late listed i = true) (hQ : ∀ c a w, Q (.panic c) (a.put oi.dst v) w → Q (.panic c) a w) (hwa : Region.wanted oi (yielded ops a.tmps) = true) (hr : ∀ S bs' rs' F' w, Hid (Own w0 X S bs' rs' F' w) → (execOp a.eval oi).run Try.prog w = .ok (.value v) w)
    (h : wpT w0 X xs bs rs late plan ops Q f (listed.setIfInBounds i true) (a.put oi.dst v) w) : wpT w0 X xs bs rs late (.lk i plan) ops Q (f + 1) listed a w := ⟨tRd0 hT hi hk hQ hwa (fun w _ _ _ _ _ h _ _ => hr _ _ _ _ w h) h.h⟩
theorem rdL1 {ty : TypeId} {x : Operand} (ho : oi.op = .load ty x) {b k : Nat} (hx : a.eval x = .pointer (some ⟨b, k, none⟩)) {t : TypeId} {cs : List Value} {v : Value} [T : T1 ty] [m : Bi bs b t cs] [g : Gt cs k v] : RdT w0 X xs bs rs a oi v := fun _ _ _ _ _ _ HO h1 _ =>
  run_cell ho hx (HO.out.cells (h1 _ m.m) k 0 v (by rw [List.getElem?_drop]; exact g.g))
theorem rdL3 {ty : TypeId} {x : Operand} (ho : oi.op = .load ty x) {b k : Nat} (hx : a.eval x = .pointer (some ⟨b, k, none⟩)) {t : TypeId} {cs : List Value} {n : Nat} [T : TN ty n] [m : Bi bs b t cs] {sub : List Value} [l : Sb cs k n sub] : RdT w0 X xs bs rs a oi (.agg sub.toArray) := fun _ _ _ _ _ _ HO h1 _ =>
  run_cells ho hx l.n (sub_cells (HO.out.cells (h1 _ m.m) k) (l := l))
theorem rdY1 {ty : TypeId} {x : Operand} (ho : oi.op = .load ty x) {b k : Nat} (hx : a.eval x = .pointer (some ⟨b, k, none⟩)) {t : TypeId} {cs : List Value} {v : Value} [T : T1 ty] [m : Bi zs b t cs] [g : Gt cs k v] : RdT w0 X (SPx w0 X zs) bs rs a oi v := fun _ _ _ _ _ h0 HO _ _ => by
  obtain ⟨ms, rfl⟩ := h0
  exact run_cell ho hx (HO.out.xcells m.m k 0 v (by rw [List.getElem?_drop]; exact g.g))
theorem rdNj {ty : TypeId} {x : Operand} {b q oo : Nat} {n : NodeT} {A : Option Addr} {c : Nat} (HN : Hid (NdAt w0 (Eld w0 X) b oo n A c)) {j : Nat} (ho : oi.op = .load ty x) (hx : a.eval x = .pointer (some ⟨b, q, none⟩)) [T : T1 ty] (hq : q = oo + j) {v : Value} (hv : (nodeC n A c)[j]? = some v) : RdT w0 X xs bs rs a oi v := fun w _ _ _ _ _ HO _ _ => rnj ho hx HN hq hv w HO
theorem tL1 (hT : OwnT w0 X xs bs rs w) (hi : (ops.toList.drop i).head? = some oi) {ty : TypeId} {x : Operand} (ho : oi.op = .load ty x) {b k : Nat} (hx : a.eval x = .pointer (some ⟨b, k, none⟩)) {t : TypeId} {cs : List Value} {v : Value} [T : T1 ty] [m : Bi bs b t cs] [g : Gt cs k v] (hk : ckL ops late listed i = true) (hQ : ∀ c a w, Q (.panic c) (a.put oi.dst v) w → Q (.panic c) a w) (hwa : Region.wanted oi (yielded ops a.tmps) = true)
    (h : wpT w0 X xs bs rs late plan ops Q f (listed.setIfInBounds i true) (a.put oi.dst v) w) : wpT w0 X xs bs rs late (.ld i plan) ops Q (f + 1) listed a w := tRd hT hi hk hQ hwa (rdL1 (m := m) (g := g) ho hx) h
theorem tL3 (hT : OwnT w0 X xs bs rs w) (hi : (ops.toList.drop i).head? = some oi) {ty : TypeId} {x : Operand} (ho : oi.op = .load ty x) {b k : Nat} (hx : a.eval x = .pointer (some ⟨b, k, none⟩)) {t : TypeId} {cs : List Value} {n : Nat} [T : TN ty n] [m : Bi bs b t cs] {sub : List Value} [l : Sb cs k n sub] (hk : ckL ops late listed i = true) (hQ : ∀ c a w, Q (.panic c) (a.put oi.dst (.agg sub.toArray)) w → Q (.panic c) a w) (hwa : Region.wanted oi (yielded ops a.tmps) = true)
    (h : wpT w0 X xs bs rs late plan ops Q f (listed.setIfInBounds i true) (a.put oi.dst (.agg sub.toArray)) w) : wpT w0 X xs bs rs late (.ld i plan) ops Q (f + 1) listed a w := tRd hT hi hk hQ hwa (rdL3 (m := m) (l := l) ho hx) h
theorem tY1 (hT : OwnT w0 X (SPx w0 X zs) bs rs w) (hi : (ops.toList.drop i).head? = some oi) {ty : TypeId} {x : Operand} (ho : oi.op = .load ty x) {b k : Nat} (hx : a.eval x = .pointer (some ⟨b, k, none⟩)) {t : TypeId} {cs : List Value} {v : Value} [T : T1 ty] [m : Bi zs b t cs] [g : Gt cs k v] (hk : ckL ops late listed i = true) (hQ : ∀ c a w, Q (.panic c) (a.put oi.dst v) w → Q (.panic c) a w) (hwa : Region.wanted oi (yielded ops a.tmps) = true)
    (h : wpT w0 X (SPx w0 X zs) bs rs late plan ops Q f (listed.setIfInBounds i true) (a.put oi.dst v) w) : wpT w0 X (SPx w0 X zs) bs rs late (.ld i plan) ops Q (f + 1) listed a w := tRd hT hi hk hQ hwa (rdY1 (m := m) (g := g) ho hx) h
theorem tNj {b oo : Nat} {n : NodeT} {A : Option Addr} {c : Nat} (HN : Hid (NdAt w0 (Eld w0 X) b oo n A c)) (hT : OwnT w0 X xs bs rs w) (hi : (ops.toList.drop i).head? = some oi) {ty : TypeId} {x : Operand} {q k : Nat} (ho : oi.op = .load ty x) (hx : a.eval x = .pointer (some ⟨b, q, none⟩)) [T : T1 ty] (hq : q = oo + k) {v : Value} (hv : (nodeC n A c)[k]? = some v) (hk : ckL ops late listed i = true) (hQ : ∀ c a w, Q (.panic c) (a.put oi.dst v) w → Q (.panic c) a w) (hwa : Region.wanted oi (yielded ops a.tmps) = true)
    (h : wpT w0 X xs bs rs late plan ops Q f (listed.setIfInBounds i true) (a.put oi.dst v) w) : wpT w0 X xs bs rs late (.ld i plan) ops Q (f + 1) listed a w := tRd hT hi hk hQ hwa (rdNj HN ho hx hq hv) h
theorem tN0 {b oo : Nat} {n : NodeT} {A : Option Addr} {c : Nat} (HN : Hid (NdAt w0 (Eld w0 X) b oo n A c)) (hT : OwnT w0 X xs bs rs w) (hi : (ops.toList.drop i).head? = some oi) {ty : TypeId} {x : Operand} (ho : oi.op = .load ty x) (hx : a.eval x = .pointer (some ⟨b, oo, none⟩)) [T : T1 ty] (hk : ckL ops late listed i = true) (hQ : ∀ c a w, Q (.panic c) (a.put oi.dst (.int .i64 (n.k : Int))) w → Q (.panic c) a w) (hwa : Region.wanted oi (yielded ops a.tmps) = true)
    (h : wpT w0 X xs bs rs late plan ops Q f (listed.setIfInBounds i true) (a.put oi.dst (.int .i64 (n.k : Int))) w) : wpT w0 X xs bs rs late (.ld i plan) ops Q (f + 1) listed a w := tNj (k := 0) HN hT hi ho hx rfl rfl hk hQ hwa h
theorem tE1 {b k : Nat} {v : Value} (hb : Eld w0 X b) (hc : w0.cell? ⟨b, k, none⟩ = some v) (hT : OwnT w0 X xs bs rs w) (hi : (ops.toList.drop i).head? = some oi) {ty : TypeId} {x : Operand} (ho : oi.op = .load ty x) (hx : a.eval x = .pointer (some ⟨b, k, none⟩)) [T : T1 ty] (hk : ckL ops late listed i = true) (hQ : ∀ c a w, Q (.panic c) (a.put oi.dst v) w → Q (.panic c) a w) (hwa : Region.wanted oi (yielded ops a.tmps) = true)
    (h : wpT w0 X xs bs rs late plan ops Q f (listed.setIfInBounds i true) (a.put oi.dst v) w) : wpT w0 X xs bs rs late (.ld i plan) ops Q (f + 1) listed a w := tRd hT hi hk hQ hwa (fun w _ _ _ _ _ HO _ _ => re1 ho hx hb hc w HO) h
theorem tEf (hi : (ops.toList.drop i).head? = some oi) (hk : ckO ops late listed i = true) (hwa : Region.wanted oi (yielded ops a.tmps) = true)
    (h : ∀ K : Act → World → Prop, Hid (∀ a' w', OwnT w0 X xs bs rs w' → wpT w0 X xs bs rs late plan ops Q f (listed.setIfInBounds i true) a' w' → K a' w') → Oper.wp Try.prog oi a w K Q) : wpT w0 X xs bs rs late (.ef i plan) ops Q (f + 1) listed a w := by
  have hk2 := Bool.and_eq_true_iff.1 hk
  exact ⟨e_one (beq_iff_eq.1 hk2.1) hi (by simpa using hk2.2) hwa fun K hK => h K (Lib.hid fun a' w' s k => hK.out a' w' s k.h)⟩
def ckBT (ops : Array Oper) (late : List Nat) (listed : Array Bool) (i j : Nat) : Bool := Region.ready .any ops listed == [i, j] && (!late.contains i && !late.contains j)
theorem tBo (hi : (ops.toList.drop i).head? = some oi) (hj : (ops.toList.drop j).head? = some oj) (hk : ckBT ops late listed i j = true) (hwa : Region.wanted oi (yielded ops a.tmps) = true) (hwb : Region.wanted oj (yielded ops a.tmps) = true)
    (h1 : ∀ K : Act → World → Prop, Hid (∀ a' w', OwnT w0 X xs bs rs w' → wpT w0 X xs bs rs late plan ops Q f (listed.setIfInBounds i true) a' w' → K a' w') → Oper.wp Try.prog oi a w K Q)
    (h2 : ∀ K : Act → World → Prop, Hid (∀ a' w', OwnT w0 X xs bs rs w' → wpT w0 X xs bs rs late pl2 ops Q f (listed.setIfInBounds j true) a' w' → K a' w') → Oper.wp Try.prog oj a w K Q) : wpT w0 X xs bs rs late (.bo i j plan pl2) ops Q (f + 1) listed a w := by
  have hk2 := Bool.and_eq_true_iff.1 hk
  have hk3 := Bool.and_eq_true_iff.1 hk2.2
  exact ⟨e_both (beq_iff_eq.1 hk2.1) hi hj (by simpa using hk3.1) (by simpa using hk3.2) hwa hwb (fun K hK => h1 K (Lib.hid fun a' w' s k => hK.out a' w' s k.h)) (fun K hK => h2 K (Lib.hid fun a' w' s k => hK.out a' w' s k.h))⟩
theorem tLt (hi : (ops.toList.drop i).head? = some oi) (hk : ckT ops late listed i = true) (hwa : Region.wanted oi (yielded ops a.tmps) = true)
    (h : ∀ K : Act → World → Prop, Hid (∀ a' w', wpU plan ops Q f (listed.setIfInBounds i true) a' w' → K a' w') → Oper.wp Try.prog oi a w K Q) : wpT w0 X xs bs rs late (.lt i plan) ops Q (f + 1) listed a w := by
  have hk2 := Bool.and_eq_true_iff.1 hk
  exact ⟨e_late (beq_iff_eq.1 hk2.1) hi hk2.2 hwa fun K hK => h K (Lib.hid fun a' w' k => hK.out a' w' k.h)⟩
theorem uEf (hi : (ops.toList.drop i).head? = some oi) (hk : ckM ops listed i = true) (hwa : Region.wanted oi (yielded ops a.tmps) = true)
    (h : ∀ K : Act → World → Prop, Hid (∀ a' w', wpU plan ops Q f (listed.setIfInBounds i true) a' w' → K a' w') → Oper.wp Try.prog oi a w K Q) : wpU (.ef i plan) ops Q (f + 1) listed a w := ⟨e_more (beq_iff_eq.1 hk) hi hwa fun K hK => h K (Lib.hid fun a' w' k => hK.out a' w' k.h)⟩
theorem uPu (hi : (ops.toList.drop i).head? = some oi) {v : Value} (hk : ckH ops listed i = true) (hQ : ∀ c a w, Q (.panic c) (a.put oi.dst v) w → Q (.panic c) a w) (hwa : Region.wanted oi (yielded ops a.tmps) = true) (hy : ∀ w, (execOp a.eval oi).run Try.prog w = .ok (.value v) w)
    (h : wpU plan ops Q f (listed.setIfInBounds i true) (a.put oi.dst v) w) : wpU (.pu i plan) ops Q (f + 1) listed a w := by
  unfold ckH at hk
  simp only [Bool.and_eq_true] at hk
  exact ⟨e_pureH hi hk.1.1 hk.1.2 hk.2 hQ hwa hy h.h⟩
theorem uDo (hk : ckD ops listed = true) (h : Q .normal a w) : wpU .nil ops Q f listed a w := ⟨e_done (beq_iff_eq.1 hk) h⟩
theorem tDo (hk : ckD ops listed = true) (h : Q .normal a w) : wpT w0 X xs bs rs late .nil ops Q f listed a w := by
  have hr : Region.ready .any ops listed = [] := beq_iff_eq.1 hk
  refine ⟨?_⟩
  cases f with
  | zero => exact ⟨hr, h⟩
  | succ f => exact ⟨fun _ => h, fun i hi => by rw [hr] at hi; cases hi⟩
end
open Go.RowKit
class Cn (v : Int) (a : outParam Nat) : Prop where
  e : a ≤ 1000000 → v = (a : Int)
instance {a : Nat} : Cn (a : Int) a := ⟨fun _ => rfl⟩
instance {v : Int} {a : Nat} [h : Cn v a] : Cn (v + 1) (a + 1) := ⟨fun q => (by rw [h.e (by omega)]; rfl)⟩
instance {v : Int} {a : Nat} [h : Cn v a] : Cn (v + 2) (a + 2) := ⟨fun q => (by rw [h.e (by omega)]; rfl)⟩
instance {v : Int} {a : Nat} [h : Cn v a] : Cn (v + 3) (a + 3) := ⟨fun q => (by rw [h.e (by omega)]; rfl)⟩
instance {v : Int} {a : Nat} [h : Cn v a] : Cn (v + 4) (a + 4) := ⟨fun q => (by rw [h.e (by omega)]; rfl)⟩
instance {v : Int} {a : Nat} [h : Cn v a] : Cn (IntKind.i64.wrap v) a := ⟨fun q => (by rw [h.e q]; exact IntWalk.i64_in (a : Int) (by omega))⟩
theorem RS.ownN {b c : Nat} {ts : List TokF} {w : World} (h : RS b c ts w.heap.size w) : Hid (Own w [] (RS b c ts w.heap.size) [] [] [Cold.kids none []] w) := Lib.hid (h.own.out.coldAll (Cold.kids none []) (by unfold Cold.kids; dsimp only; exact kidsL_nil w _ none 0))
def VG : World → World → NodeT → Nat → Value → Prop := fun w w' x k v => ∃ A c, v = .agg #[.int .i64 ((NodeT.k x : Nat) : Int), .int .i64 ((NodeT.at' x : Nat) : Int), .string (strN (NodeT.s x)), .bool (zn (NodeT.z x)), .int .u64 (zh (NodeT.z x)), .int .u64 (zl (NodeT.z x)), .int .i64 ((NodeT.i x : Nat) : Int), .slice A (NodeT.l x).length c, .int .i64 (k : Int), .int .i64 0] ∧ x.l.length ≤ c ∧ KidsL w' (fun b => w.heap.size ≤ b ∧ b < w'.heap.size) x.l A 0
def RPost {α : Type} (ts : List TokF) (m : Nat) (w : World) (r : GR α) (V : World → World → α → Nat → Value → Prop) (e : Ending) (w' : World) : Prop :=
  Below w.heap.size w w' ∧ match r with
  | .ok x k => m ≤ k ∧ k < ts.length ∧ ∃ v, e = .returned v ∧ V w w' x k v
  | .err k q => (q != 0) = true ∧ e = .returned (.agg #[.int .i64 0, .int .i64 0, .string { data := #[] }, .bool false, .int .u64 0, .int .u64 0, .int .i64 0, .slice none 0 0, .int .i64 (k : Int), .int .i64 q])
def RC {α : Type} (K : FuncId) (args : Array Value) (r : GR α) (V : World → World → α → Nat → Value → Prop) (b c : Nat) (ts : List TokF) (m : Nat) : Prop := ∀ w, RS b c ts w.heap.size w → Calls Try.prog K args w (RPost ts m w r V)
section
variable {α β : Type} {K : FuncId} {args : Array Value} {f : GR α} {V : World → World → α → Nat → Value → Prop} {V2 : World → World → β → Nat → Value → Prop} {b c n m d : Nat} {ts : List TokF} {k : α → Nat → GR β} {R : GR β} {w0 w W : World} {bs : List Bx} {rs : List Rw} {F : List Cold} {T : Ending → World → Prop}
theorem gr_ok {x : α} {a : Nat} (h : f = .ok x a) (HF : f.bind k = R) : k x a = R := by rw [h] at HF; exact HF
theorem gr_err {a : Nat} {q : Int} (h : f = .err a q) (HF : f.bind k = R) : R = .err a q := by rw [h] at HF; exact HF.symm
theorem gr_eta {f R : GR α} (HF : Hid (f = R)) : Hid (f.bind GR.ok = R) := Lib.hid (by rw [← HF.out]; cases f <;> rfl)
theorem arm_rc (HC : RC K args f V b c ts m) (HO : Hid (Own w0 [] (RS b c ts w0.heap.size) bs rs F w)) (HF : Hid (f.bind k = R))
    (hok : ∀ v x a W, V w W x a v → Hid (Own w0 [] (RS b c ts w0.heap.size) bs rs F W) → m ≤ a → a < ts.length → Hid (k x a = R) → T (.returned v) W)
    (herr : ∀ a q W, Hid (Own w0 [] (RS b c ts w0.heap.size) bs rs F W) → (q != 0) = true → Hid (R = .err a q) → T (.returned (.agg #[.int .i64 0, .int .i64 0, .string { data := #[] }, .bool false, .int .u64 0, .int .u64 0, .int .i64 0, .slice none 0 0, .int .i64 (a : Int), .int .i64 q])) W) : Calls Try.prog K args w T := by
  refine (HC w HO.out.st.more).mono fun e W hp => ?_
  obtain ⟨q, hp⟩ := hp
  cases hr : f with
  | ok x a =>
    rw [hr] at hp
    obtain ⟨h1, h2, v, rfl, hv⟩ := hp
    exact hok v x a W hv (Lib.hid (HO.out.next q)) h1 h2 (Lib.hid (gr_ok hr HF.out))
  | err a e =>
    rw [hr] at hp
    obtain ⟨h1, rfl⟩ := hp
    exact herr a e W (Lib.hid (HO.out.next q)) h1 (Lib.hid (gr_err hr HF.out))
theorem arm_rn {f : GR NodeT} {k : NodeT → Nat → GR β} {K' : FuncId} {args' : Array Value} (hK : K = K') (hargs : args = args') (HC : RC K' args' f VG b c ts m) (HO : Hid (Own w0 [] (RS b c ts w0.heap.size) bs rs F w)) (HF : Hid (f.bind k = R))
    (hok : ∀ x A c' a W, Hid (Own w0 [] (RS b c ts w0.heap.size) bs rs (Cold.kids A x.l :: F) W) → x.l.length ≤ c' → m ≤ a → a < ts.length → Hid (k x a = R) → T (.returned (.agg #[.int .i64 ((NodeT.k x : Nat) : Int), .int .i64 ((NodeT.at' x : Nat) : Int), .string (strN (NodeT.s x)), .bool (zn (NodeT.z x)), .int .u64 (zh (NodeT.z x)), .int .u64 (zl (NodeT.z x)), .int .i64 ((NodeT.i x : Nat) : Int), .slice A (NodeT.l x).length c', .int .i64 (a : Int), .int .i64 0])) W)
    (herr : ∀ a q W, Hid (Own w0 [] (RS b c ts w0.heap.size) bs rs F W) → (q != 0) = true → Hid (R = .err a q) → T (.returned (.agg #[.int .i64 0, .int .i64 0, .string { data := #[] }, .bool false, .int .u64 0, .int .u64 0, .int .i64 0, .slice none 0 0, .int .i64 (a : Int), .int .i64 q])) W) : Calls Try.prog K args w T := by
  subst hK hargs
  refine arm_rc HC HO HF (fun v x a W hv HO' h1 h2 HF' => ?_) herr
  obtain ⟨A, c', rfl, hc, hk⟩ := hv
  exact hok x A c' a W (Lib.hid (HO'.out.addCold (Cold.kids A x.l) w.heap.size HO.out.kept.size (fun b hb => (HO.out.hot_lt b hb).2) hk)) hc h1 h2 HF'
theorem arm_rq {r : Value} (HC : ∀ w, RS b c ts w.heap.size w → Calls Try.prog K args w fun e w' => e = .returned r ∧ Below w.heap.size w w') (HO : Hid (Own w0 [] (RS b c ts w0.heap.size) bs rs F w))
    (h : ∀ W, Hid (Own w0 [] (RS b c ts w0.heap.size) bs rs F W) → T (.returned r) W) : Calls Try.prog K args w T := by
  refine (HC w HO.out.st.more).mono fun e W hp => ?_
  obtain ⟨rfl, q⟩ := hp
  exact h W (Lib.hid (HO.out.next q))
theorem arm_is {a : Nat} (s : List Nat) (hs : ∀ x ∈ s, x < 256) (ha : a < ts.length) (HO : Hid (Own w0 [] (RS b c ts w0.heap.size) bs rs F w)) {v : Int} [C : Cn v a] (hK : K = 32) (hargs : args = #[.agg #[.slice (some ⟨b, 0, none⟩) ts.length c], .int .i64 v, .string (strN s)])
    (h : ∀ W z, ris ts a s = z → (z = true → a + 1 < ts.length) → Hid (Own w0 [] (RS b c ts w0.heap.size) bs rs F W) → T (.returned (.bool z)) W) : Calls Try.prog K args w T := by
  subst hK hargs
  rw [C.e (by have := HO.out.st.ok.len; omega)]
  exact arm_rq (fun w hw => is_any ha hs w hw) HO (fun W HO' => h W _ rfl (ris_lt HO.out.st.ok ha) HO')
theorem arm_among {a : Nat} (s : List Nat) (hs : ∀ x ∈ s, x < 256) (hl : s.length ≤ 100) (ha : a < ts.length) (HO : Hid (Own w0 [] (RS b c ts w0.heap.size) bs rs F w)) {v : Int} [C : Cn v a] (hK : K = 61) (hargs : args = #[.agg #[.slice (some ⟨b, 0, none⟩) ts.length c], .int .i64 v, .string (strN s)])
    (h : ∀ W z, ramong ts a s = z → (z = true → a + 1 < ts.length) → Hid (Own w0 [] (RS b c ts w0.heap.size) bs rs F W) → T (.returned (.bool z)) W) : Calls Try.prog K args w T := by
  subst hK hargs
  rw [C.e (by have := HO.out.st.ok.len; omega)]
  exact arm_rq (fun w hw => among_any ha hs hl w hw) HO (fun W HO' => h W _ rfl (ramong_lt HO.out.st.ok ha) HO')
theorem nv0g (k a : Nat) (s : List Nat) (i : Nat) (l : List NodeT) (A : Option Addr) (c q : Nat) : (.agg #[.int .i64 ((NodeT.k (NodeT.mk k a s 0 i l) : Nat) : Int), .int .i64 ((NodeT.at' (NodeT.mk k a s 0 i l) : Nat) : Int), .string (strN (NodeT.s (NodeT.mk k a s 0 i l))), .bool (zn (NodeT.z (NodeT.mk k a s 0 i l))), .int .u64 (zh (NodeT.z (NodeT.mk k a s 0 i l))), .int .u64 (zl (NodeT.z (NodeT.mk k a s 0 i l))), .int .i64 ((NodeT.i (NodeT.mk k a s 0 i l) : Nat) : Int), .slice A (NodeT.l (NodeT.mk k a s 0 i l)).length c, .int .i64 (q : Int), .int .i64 0] : Value) = .agg #[.int .i64 (k : Int), .int .i64 (a : Int), .string (strN s), .bool false, .int .u64 0, .int .u64 0, .int .i64 (i : Int), .slice A l.length c, .int .i64 (q : Int), .int .i64 0] := by
  have h1 : zn (NodeT.z (NodeT.mk k a s 0 i l)) = false := by show zn 0 = false; decide
  have h2 : zh (NodeT.z (NodeT.mk k a s 0 i l)) = 0 := by show zh 0 = 0; decide
  have h3 : zl (NodeT.z (NodeT.mk k a s 0 i l)) = 0 := by show zl 0 = 0; decide
  rw [h1, h2, h3]
  rfl
theorem rp_err {a : Nat} {q : Int} (HO : Hid (Own w [] (RS b c ts w.heap.size) bs rs F W)) (hq : (q != 0) = true) (HE : Hid (f = .err a q)) : RPost ts m w f V (.returned (.agg #[.int .i64 0, .int .i64 0, .string { data := #[] }, .bool false, .int .u64 0, .int .u64 0, .int .i64 0, .slice none 0 0, .int .i64 (a : Int), .int .i64 q])) W := by
  rw [HE.out]
  exact ⟨HO.out.kept.below, hq, rfl⟩
theorem rp_ok {x : NodeT} {f : GR NodeT} {A : Option Addr} {a e : Nat} (HO : Hid (Own w [] (RS b c ts w.heap.size) bs rs F W)) (HF : Hid (.ok x a = f)) (hm : m ≤ a) (ha : a < ts.length) {v : Value} (hv : v = .agg #[.int .i64 ((NodeT.k x : Nat) : Int), .int .i64 ((NodeT.at' x : Nat) : Int), .string (strN (NodeT.s x)), .bool (zn (NodeT.z x)), .int .u64 (zh (NodeT.z x)), .int .u64 (zl (NodeT.z x)), .int .i64 ((NodeT.i x : Nat) : Int), .slice A (NodeT.l x).length e, .int .i64 (a : Int), .int .i64 0]) (hk : Cold.kids A x.l ∈ F) (he : x.l.length ≤ e) : RPost ts m w f VG (.returned v) W := by
  rw [← HF.out]
  exact ⟨HO.out.kept.below, hm, ha, v, rfl, A, e, hv, he, KidsL.st (fun b hb => ⟨⟨hb.1, hb.2.1⟩, rfl⟩) _ A 0 (HO.out.cold _ hk)⟩
end
theorem rFin {p : Prop} (h : p := by
    first
      | exact rp_err HO (by assumption) HE
      | exact rp_err HO rfl (Lib.hid HF.out.symm)
      | exact rp_ok HO HF (by omega) (by omega) (by first | rfl | (rw [nv0g]; first | done | rfl) | exact (nv0g _ _ _ _ _ _ _ _).symm) mM (by first | assumption | exact Nat.le_refl _ | decide)
      | fail) : p := h
open Go.RowKit
theorem rendsF_le (ts : List TokF) : ∀ f k, k ≤ rendsF ts f k
  | 0, k => Nat.le_refl _
  | f + 1, k => by
    unfold rendsF
    split
    · exact Nat.le_trans (Nat.le_succ k) (rendsF_le ts f (k + 1))
    · exact Nat.le_refl _
theorem ends_lt {ts : List TokF} {k : Nat} (ok : TsOk ts) (hk : k < ts.length) (h : ((((tk ts k).k : Int) == 1) || ris ts k [59]) = true) : k + 1 < ts.length := by
  rcases Bool.or_eq_true_iff.1 h with h | h
  · exact kd1_lt ok hk h
  · exact ris_lt ok hk h
theorem rendsF_lt {ts : List TokF} (ok : TsOk ts) : ∀ f k, k < ts.length → rendsF ts f k < ts.length
  | 0, k, h => h
  | f + 1, k, h => by
    unfold rendsF
    split
    · rename_i h1
      exact rendsF_lt ok f (k + 1) (ends_lt ok h h1)
    · exact h
set_option maxRecDepth 100000 in
set_option maxHeartbeats 3200000 in
theorem ends_any {b c : Nat} {ts : List TokF} {k : Nat} (hk : k < ts.length) (w : World) (h : RS b c ts w.heap.size w) :
    Calls Try.prog 30 #[.agg #[.slice (some ⟨b, 0, none⟩) ts.length c], .int .i64 (k : Int)] w fun e w' => e = .returned (.int .i64 ((rends ts k : Nat) : Int)) ∧ Below w.heap.size w w' := by
  have HO := h.own
  have hlen := h.ok.len
  have ok := Lib.hid h.ok
  obtain ⟨R, hR⟩ : ∃ R, rends ts k = R := ⟨_, rfl⟩
  rw [hR]
  unfold rends at hR
  clear h
  go_enter Try.func30, Try.ntmps30
  (repeat' (first | ((with_reducible refine zG ?_); first | refine oWx ?_ | (refine oWs ?_; clear HO; intro _ HO)) | go_values | go_skip | go_guarded | go_step | go_upon | (go_ite <;> go_prune <;> (try go_simp))))
  go_loopw [1] (fun iv W => ∃ q f : Nat, iv = .int .i64 (q : Int) ∧ q < ts.length ∧ ts.length ≤ f + q ∧ rendsF ts f q = R ∧ Hid (Own w [] (RS b c ts w.heap.size) [⟨w.heap.size, 93, [.slice (some ⟨b, 0, none⟩) ts.length c]⟩] [] [] W)) (fun iv _ => ts.length - (intOf iv).toNat)
  case atStart => exact ⟨k, ts.length, rfl, hk, by omega, hR, HO⟩
  case round =>
    clear HO hR
    obtain ⟨q, f, rfl, hq, hf, hR, HO⟩ := hrel
    have hqn : (q : Int) < (ts.length : Int) := by omega
    obtain ⟨f, rfl⟩ : ∃ f', f = f' + 1 := ⟨f - 1, by omega⟩
    have HF := Lib.hid hR
    rw [rendsF] at HF
    clear hR
    cases h1 : (((tk ts q).k : Int) == 1)
    · rw [h1, Bool.false_or] at HF
      (repeat' (first | ((with_reducible refine zG ?_); first | refine oWx ?_ | (refine oWs ?_; clear HO; intro _ HO)) | ((with_reducible refine to_load ?_); (first | first | refine oR6 HO rfl rfl rfl (by omega) ?_ | refine oR1 HO rfl rfl rfl rfl (by omega) ?_ | refine oR0 HO rfl rfl rfl (by omega) ?_); (try simp only [Act.put, pS])) | ((go_big_may; first | (go_at_call 32; refine arm_is [59] (by decide) (by omega) HO rfl rfl ?_; clear HO; intro _ z hz hlt HO; cases z <;> (try simp only [hz, ↓reduceIte, bZ] at HF) <;> (first | (replace hlt := hlt rfl) | clear hlt))) <;> (try dsimp only)) | go_values | go_skip | go_guarded | go_step | go_upon | (go_ite <;> go_prune <;> (try go_simp))))
      · refine bp_tmp (t := 4) rfl rfl rfl ?_
        exact ⟨by rw [← HF.out]; rfl, HO.out.kept.below⟩
      · go_roundw
        case rel => exact ⟨q + 1, f, by go_num, hlt, by omega, HF.out, HO⟩
        case measure => exact meas2 (by go_num) (Nat.lt_succ_self q) hq
    · have hlt := kd1_lt ok.out hq h1
      rw [h1, Bool.true_or, if_pos rfl] at HF
      (repeat' (first | ((with_reducible refine zG ?_); first | refine oWx ?_ | (refine oWs ?_; clear HO; intro _ HO)) | ((with_reducible refine to_load ?_); (first | first | refine oR6 HO rfl rfl rfl (by omega) ?_ | refine oR1 HO rfl rfl rfl rfl (by omega) ?_ | refine oR0 HO rfl rfl rfl (by omega) ?_); (try simp only [Act.put, pS])) | go_values | go_skip | go_guarded | go_step | go_upon | (go_ite <;> go_prune <;> (try go_simp))))
      go_roundw
      case rel => exact ⟨q + 1, f, by go_num, hlt, by omega, HF.out, HO⟩
      case measure => exact meas2 (by go_num) (Nat.lt_succ_self q) hq
set_option maxRecDepth 100000 in
set_option maxHeartbeats 3200000 in
theorem stops_any {b c : Nat} {ts : List TokF} {k : Nat} (hk : k < ts.length) (w : World) (h : RS b c ts w.heap.size w) :
    Calls Try.prog 33 #[.agg #[.slice (some ⟨b, 0, none⟩) ts.length c], .int .i64 (k : Int)] w fun e w' => e = .returned (.bool (rstops ts k)) ∧ Below w.heap.size w w' := by
  have HO := h.own
  have hlen := h.ok.len
  have hkn : (k : Int) < (ts.length : Int) := by omega
  obtain ⟨R, hR⟩ : ∃ R, rstops ts k = R := ⟨_, rfl⟩
  rw [hR]
  have HF := Lib.hid hR
  unfold rstops at HF
  clear h hR
  cases h1 : (((tk ts k).k : Int) == 1)
  · cases h0 : (((tk ts k).k : Int) == 0)
    all_goals
      simp only [h1, h0, Bool.false_or, Bool.true_or] at HF
      go_enter Try.func33, Try.ntmps33
      (repeat' (first | ((with_reducible refine zG ?_); first | refine oWx ?_ | (refine oWs ?_; clear HO; intro _ HO)) | ((with_reducible refine to_load ?_); (first | first | refine oR6 HO rfl rfl rfl (by omega) ?_ | refine oR1 HO rfl rfl rfl rfl (by omega) ?_ | refine oR0 HO rfl rfl rfl (by omega) ?_); (try simp only [Act.put, pS])) | ((go_big_may; first | (go_at_call 32; refine arm_is [59] (by decide) (by omega) HO rfl rfl ?_; clear HO; intro _ z hz hlt HO; cases z <;> (try simp only [hz, ↓reduceIte, bZ] at HF) <;> (first | (replace hlt := hlt rfl) | clear hlt)) | (go_at_call 32; refine arm_is [125] (by decide) (by omega) HO rfl rfl ?_; clear HO; intro _ z hz hlt HO; cases z <;> (try simp only [hz, ↓reduceIte, bZ] at HF) <;> (first | (replace hlt := hlt rfl) | clear hlt))) <;> (try dsimp only)) | go_values | go_skip | go_guarded | go_step | go_upon | (go_ite <;> go_prune <;> (try go_simp))))
      all_goals
        refine bp_tmp (t := 4) rfl rfl rfl ?_
        exact ⟨by rw [← HF.out]; rfl, HO.out.kept.below⟩
  · simp only [h1, Bool.true_or] at HF
    go_enter Try.func33, Try.ntmps33
    (repeat' (first | ((with_reducible refine zG ?_); first | refine oWx ?_ | (refine oWs ?_; clear HO; intro _ HO)) | ((with_reducible refine to_load ?_); (first | first | refine oR6 HO rfl rfl rfl (by omega) ?_ | refine oR1 HO rfl rfl rfl rfl (by omega) ?_ | refine oR0 HO rfl rfl rfl (by omega) ?_); (try simp only [Act.put, pS])) | go_values | go_skip | go_guarded | go_step | go_upon | (go_ite <;> go_prune <;> (try go_simp))))
    refine bp_tmp (t := 4) rfl rfl rfl ?_
    exact ⟨by rw [← HF.out]; rfl, HO.out.kept.below⟩
set_option maxRecDepth 100000 in
set_option maxHeartbeats 3200000 in
theorem bad_any (k : Int) (w : World) : Calls Try.prog 63 #[.int .i64 k] w fun e w' => e = .returned (.agg #[.int .i64 0, .int .i64 0, .string { data := #[] }, .bool false, .int .u64 0, .int .u64 0, .int .i64 0, .slice none 0 0, .int .i64 k, .int .i64 4]) ∧ Below w.heap.size w w' := by
  have HO := own0 w
  go_enter Try.func63, Try.ntmps63
  (repeat' (first | ((with_reducible refine zG ?_); first | refine oWx ?_ | (refine oWs ?_; clear HO; intro _ HO)) | go_values | go_skip | go_guarded | go_step | go_upon | (go_ite <;> go_prune <;> (try go_simp))))
  refine oBc HO (t := 2) (ty := 116) rfl rfl rfl ?_
  exact ⟨rfl, HO.out.kept.below⟩
set_option maxRecDepth 100000 in
set_option maxHeartbeats 3200000 in
theorem rlvalue_any (x : NodeT) (A : Option Addr) (c : Nat) (w : World) : Calls Try.prog 60 #[.agg #[.int .i64 ((NodeT.k x : Nat) : Int), .int .i64 ((NodeT.at' x : Nat) : Int), .string (strN (NodeT.s x)), .bool (zn (NodeT.z x)), .int .u64 (zh (NodeT.z x)), .int .u64 (zl (NodeT.z x)), .int .i64 ((NodeT.i x : Nat) : Int), .slice A (NodeT.l x).length c]] w fun e w' => e = .returned (.bool (lval x)) ∧ Below w.heap.size w w' := by
  have HO := own0 w
  obtain ⟨R, hR⟩ : ∃ R, lval x = R := ⟨_, rfl⟩
  rw [hR]
  have HF := Lib.hid hR
  unfold lval at HF
  clear hR
  cases h4 : ((x.k : Int) == 4)
  · cases h5 : ((x.k : Int) == 5)
    all_goals
      simp only [h4, h5, Bool.false_or, Bool.true_or] at HF
      go_enter Try.func60, Try.ntmps60
      (repeat' (first | ((with_reducible refine zG ?_); first | refine oWx ?_ | (refine oWs ?_; clear HO; intro _ HO)) | go_values | go_skip | go_guarded | go_step | go_upon | (go_ite <;> go_prune <;> (try go_simp))))
      refine bp_tmp (t := 2) rfl rfl rfl ?_
      exact ⟨by rw [← HF.out]; rfl, HO.out.kept.below⟩
  · simp only [h4, Bool.true_or] at HF
    go_enter Try.func60, Try.ntmps60
    (repeat' (first | ((with_reducible refine zG ?_); first | refine oWx ?_ | (refine oWs ?_; clear HO; intro _ HO)) | go_values | go_skip | go_guarded | go_step | go_upon | (go_ite <;> go_prune <;> (try go_simp))))
    refine bp_tmp (t := 2) rfl rfl rfl ?_
    exact ⟨by rw [← HF.out]; rfl, HO.out.kept.below⟩
mutual
def nsz : NodeT → Nat
  | .mk _ _ _ _ _ l => nszL l + 1
def nszL : List NodeT → Nat
  | [] => 0
  | n :: l => nsz n + nszL l
end
theorem nsz_mk (k a : Nat) (s : List Nat) (z : Int) (i : Nat) (l : List NodeT) : nsz (.mk k a s z i l) = nszL l + 1 := by rw [nsz]
theorem nsz_eq (n : NodeT) : nsz n = nszL n.l + 1 := by cases n; rw [nsz]; rfl
theorem nszL_nil : nszL [] = 0 := by rw [nszL]
theorem nszL_cons (n : NodeT) (l : List NodeT) : nszL (n :: l) = nsz n + nszL l := by rw [nszL]
theorem nszL_app : ∀ l m : List NodeT, nszL (l ++ m) = nszL l + nszL m
  | [], m => by rw [List.nil_append, nszL_nil, Nat.zero_add]
  | n :: l, m => by rw [List.cons_append, nszL_cons, nszL_cons, nszL_app l m, Nat.add_assoc]
theorem nsz_two (kd : Nat) (s : List Nat) (x y : NodeT) : nsz (twoT kd s x y) = nsz x + nsz y + 1 := by unfold twoT; rw [nsz_mk, nszL_cons, nszL_cons, nszL_nil]; omega
theorem nsz_pos (n : NodeT) : 0 < nsz n := by rw [nsz_eq]; omega
theorem nszL_len : ∀ l : List NodeT, l.length ≤ nszL l
  | [] => Nat.zero_le _
  | n :: l => by rw [List.length_cons, nszL_cons]; have := nsz_pos n; have := nszL_len l; omega
theorem gr_inv {α β : Type} {m : GR α} {f : α → Nat → GR β} {y : β} {k' : Nat} (h : m.bind f = .ok y k') : ∃ x k, m = .ok x k ∧ f x k = .ok y k' := by
  cases m with
  | ok x k => exact ⟨x, k, rfl, h⟩
  | err k e => cases h
def SzE (m : GR NodeT) (k : Nat) : Prop := ∀ x k', m = .ok x k' → nsz x + 1 + 2 * k ≤ 2 * k'
def SzS (m : GR NodeT) (k : Nat) : Prop := ∀ x k', m = .ok x k' → nsz x + 2 * k ≤ 2 * k'
def SzL (m : GR (List NodeT)) (k : Nat) : Prop := ∀ l k', m = .ok l k' → nszL l + l.length + 2 * k ≤ 2 * k'
theorem SzE.s {m : GR NodeT} {k : Nat} (h : SzE m k) : SzS m k := fun x k' e => by have := h x k' e; omega
theorem sz_loop {α : Type} {test : α → Nat → Bool} {step : α → Nat → GR α} (μ : α → Nat) (hs : ∀ x k y k', step x k = .ok y k' → μ y + 2 * k ≤ 2 * k' + μ x) : ∀ f x k y k', loopG test step f x k = .ok y k' → μ y + 2 * k ≤ 2 * k' + μ x
  | 0, x, k, y, k', h => by cases h; omega
  | f + 1, x, k, y, k', h => by
    rw [loopG] at h
    split at h
    · obtain ⟨z, k1, h1, h2⟩ := gr_inv h
      have := hs _ _ _ _ h1
      have := sz_loop μ hs f z k1 y k' h2
      omega
    · cases h; omega
structure PSz (p : RPar) : Prop where
  expr : ∀ k, SzE (p.expr k) k
  cond : ∀ k, SzE (p.cond k) k
  signed : ∀ k, SzE (p.signed k) k
  step : ∀ k, SzE (p.step k) k
  atom : ∀ k, SzE (p.atom k) k
  stmt : ∀ k, SzS (p.stmt k) k
  block : ∀ k, SzS (p.block k) k
  clause : ∀ k, SzE (p.clause k) k
  loop : ∀ k, SzS (p.loop k) k
  simple : ∀ k, SzS (p.simple k) k
section
variable {ts : List TokF} {p : RPar}
theorem rl_le (k : Nat) : k ≤ rlines ts k := rlinesF_le ts _ k
theorem re_le (k : Nat) : k ≤ rends ts k := rendsF_le ts _ k
theorem sz_expr (H : PSz p) (k : Nat) : SzE (rexpr ts p k) k := by
  intro x k' h
  unfold rexpr at h
  split at h
  · cases h
  · obtain ⟨n, k1, h1, h2⟩ := gr_inv h
    have a1 := H.cond _ _ _ h1
    split at h2
    · obtain ⟨y, k2, h3, h4⟩ := gr_inv h2
      have a2 := H.expr _ _ _ h3
      have a3 := rl_le (ts := ts) (k1 + 1)
      cases h4
      rw [nsz_two]
      omega
    · cases h2
      exact a1
theorem sz_listF (H : PSz p) (e : List Nat) : ∀ f l k l' k', rlistF ts p e f l k = .ok l' k' → nszL l' + l'.length + 2 * k ≤ 2 * k' + (nszL l + l.length)
  | 0, l, k, l', k', h => by cases h; omega
  | f + 1, l, k, l', k', h => by
    rw [rlistF] at h
    obtain ⟨n, k1, h1, h2⟩ := gr_inv h
    have a1 := sz_expr H _ _ _ h1
    have a2 : nszL (l ++ [n]) + (l ++ [n]).length = nszL l + l.length + nsz n + 1 := by rw [nszL_app, nszL_cons, nszL_nil, List.length_append]; simp only [List.length_cons, List.length_nil]; omega
    have a3 := rl_le (ts := ts) (k1 + 1)
    split at h2
    · have := sz_listF H e f _ _ _ _ h2
      omega
    · split at h2
      · cases h2; omega
      · split at h2
        · cases h2; omega
        · cases h2
theorem sz_list (H : PSz p) (k : Nat) (e : List Nat) (z : Bool) : SzL (rlist ts p k e z) k := by
  intro l k' h
  unfold rlist at h
  split at h
  · cases h; rw [nszL_nil]; simp; omega
  · have := sz_listF H e _ _ _ _ _ h
    rw [nszL_nil] at this
    simpa using this
theorem sz_place (H : PSz p) (k : Nat) : SzE (rplace ts p k) k := by
  intro x k' h
  unfold rplace at h
  split at h
  · split at h
    · cases h
    · obtain ⟨n, k1, h1, h2⟩ := gr_inv h
      cases h2
      rw [nsz_mk, nszL_cons, nszL_nil]
      split at h1
      · have := H.step _ _ _ h1; omega
      · have := H.atom _ _ _ h1; omega
  · split at h
    · split at h
      · obtain ⟨n, k1, h1, h2⟩ := gr_inv h
        have := sz_list H _ _ _ _ _ h1
        cases h2
        rw [nsz_mk]
        omega
      · cases h
        rw [nsz_mk, nszL_nil]
        omega
    · cases h
theorem sz_into (H : PSz p) (n : NodeT) (k : Nat) (x : NodeT) (k' : Nat) (h : rinto ts p n k = .ok x k') : nsz x + 2 * k ≤ 2 * k' + nsz n := by
  unfold rinto at h
  split at h
  · obtain ⟨m, k1, h1, h2⟩ := gr_inv h
    have := sz_place H _ _ _ h1
    cases h2
    rw [nsz_mk, nszL_app, nszL_cons, nszL_nil]
    have := nsz_eq n
    omega
  · cases h; omega
theorem sz_call (H : PSz p) (kd k : Nat) : SzE (rcall ts p kd k) k := by
  intro x k' h
  unfold rcall at h
  split at h
  · obtain ⟨l, k1, h1, h2⟩ := gr_inv h
    have := sz_list H _ _ _ _ _ h1
    cases h2
    rw [nsz_mk]
    omega
  · split at h
    · cases h
      rw [nsz_mk, nszL_nil]
      omega
    · cases h
theorem sz_paren (H : PSz p) (k : Nat) : SzE (rparen ts p k) k := by
  intro x k' h
  unfold rparen at h
  obtain ⟨l, k1, h1, h2⟩ := gr_inv h
  have a1 := sz_list H _ _ _ _ _ h1
  split at h2
  · rename_i y
    cases h2
    rw [nszL_cons, nszL_nil] at a1
    simp only [List.length_cons, List.length_nil] at a1
    omega
  · split at h2
    · split at h2
      · cases h2
        rw [nsz_mk]
        omega
      · cases h2
    · cases h2
theorem sz_atom (H : PSz p) (k : Nat) : SzE (ratom ts p k) k := by
  intro x k' h
  unfold ratom at h
  repeat' split at h
  · cases h; rw [nsz_mk, nszL_nil]; omega
  · cases h; rw [nsz_mk, nszL_nil]; omega
  · cases h; rw [nsz_mk, nszL_nil]; omega
  · exact sz_place H _ _ _ h
  · exact sz_call H _ _ _ _ h
  · exact sz_call H _ _ _ _ h
  · exact sz_place H _ _ _ h
  · have := sz_into H _ _ _ _ h
    rw [nsz_mk, nszL_nil] at this
    omega
  · exact sz_paren H _ _ _ h
  · cases h
theorem sz_step (H : PSz p) (k : Nat) : SzE (rstep ts p k) k := by
  intro x k' h
  unfold rstep at h
  split at h
  · obtain ⟨n, k1, h1, h2⟩ := gr_inv h
    have := sz_place H _ _ _ h1
    cases h2
    rw [nsz_mk, nszL_cons, nszL_nil]
    omega
  · obtain ⟨n, k1, h1, h2⟩ := gr_inv h
    have := sz_atom H _ _ _ h1
    split at h2
    · cases h2
      rw [nsz_mk, nszL_cons, nszL_nil]
      omega
    · cases h2; exact this
theorem sz_power (H : PSz p) (k : Nat) : SzE (rpower ts p k) k := by
  intro x k' h
  unfold rpower at h
  obtain ⟨n, k1, h1, h2⟩ := gr_inv h
  have := sz_step H _ _ _ h1
  split at h2
  · split at h2
    · cases h2
    · obtain ⟨m, k2, h3, h4⟩ := gr_inv h2
      have := H.signed _ _ _ h3
      cases h4
      rw [nsz_two]
      omega
  · cases h2; exact this
theorem sz_signed (H : PSz p) (k : Nat) : SzE (rsigned ts p k) k := by
  intro x k' h
  unfold rsigned at h
  split at h
  · split at h
    · cases h
    · obtain ⟨n, k1, h1, h2⟩ := gr_inv h
      have := H.signed _ _ _ h1
      cases h2
      rw [nsz_mk, nszL_cons, nszL_nil]
      omega
  · exact sz_power H _ _ _ h
theorem sz_level {m : GR NodeT} {k : Nat} {test : NodeT → Nat → Bool} {step : NodeT → Nat → GR NodeT} {f : Nat} (h1 : SzE m k) (hs : ∀ x k y k', step x k = .ok y k' → nsz y + 2 * k ≤ 2 * k' + nsz x) : SzE (m.bind (loopG test step f)) k := by
  intro x k' h
  obtain ⟨n, k1, h2, h3⟩ := gr_inv h
  have := h1 _ _ h2
  have := sz_loop nsz hs _ _ _ _ _ h3
  omega
theorem sz_signs {next : Nat → GR NodeT} {kd : Nat} (hn : ∀ k, SzE (next k) k) (x : NodeT) (k : Nat) (y : NodeT) (k' : Nat) (h : signsS ts next kd x k = .ok y k') : nsz y + 2 * k ≤ 2 * k' + nsz x := by
  unfold signsS at h
  obtain ⟨n, k1, h1, h2⟩ := gr_inv h
  have := hn _ _ _ h1
  cases h2
  rw [nsz_two]
  omega
theorem sz_words {next : Nat → GR NodeT} {kd : Nat} (hn : ∀ k, SzE (next k) k) (x : NodeT) (k : Nat) (y : NodeT) (k' : Nat) (h : wordS ts next kd x k = .ok y k') : nsz y + 2 * k ≤ 2 * k' + nsz x := by
  unfold wordS at h
  obtain ⟨n, k1, h1, h2⟩ := gr_inv h
  have := hn _ _ _ h1
  have := rl_le (ts := ts) (k + 1)
  cases h2
  rw [nsz_two]
  omega
theorem sz_7 (H : PSz p) (k : Nat) : SzE (rlev7 ts p k) k := sz_level (sz_signed H k) (sz_signs (sz_signed H))
theorem sz_6 (H : PSz p) (k : Nat) : SzE (rlev6 ts p k) k := sz_level (sz_7 H k) (sz_signs (sz_7 H))
theorem sz_5 (H : PSz p) (k : Nat) : SzE (rlev5 ts p k) k := by
  intro x k' h
  unfold rlev5 at h
  obtain ⟨n, k1, h1, h2⟩ := gr_inv h
  have a1 := sz_6 H _ _ _ h1
  obtain ⟨m, k2, h3, h4⟩ := gr_inv h2
  have a2 := sz_loop nsz (fun x k y k' h => by
    unfold rcatS at h
    obtain ⟨n, k1, h1, h2⟩ := gr_inv h
    have := sz_6 H _ _ _ h1
    cases h2
    rw [nsz_two]
    omega) _ _ _ _ _ h3
  unfold rreads at h4
  have a3 := sz_loop nsz (fun x k y k' h => by
    have := sz_into H _ _ _ _ h
    rw [nsz_mk, nszL_cons, nszL_nil] at this
    omega) _ _ _ _ _ h4
  omega
theorem sz_4 (H : PSz p) (k : Nat) : SzE (rlev4 ts p k) k := sz_level (sz_5 H k) (sz_signs (sz_5 H))
theorem sz_3 (H : PSz p) (k : Nat) : SzE (rlev3 ts p k) k := sz_level (sz_4 H k) (sz_signs (sz_4 H))
theorem sz_2 (H : PSz p) (k : Nat) : SzE (rlev2 ts p k) k := sz_level (sz_3 H k) (fun x k y k' h => by
  unfold rinS at h
  split at h
  · cases h
    rw [nsz_mk, nszL_cons, nszL_nil]
    omega
  · cases h)
theorem sz_1 (H : PSz p) (k : Nat) : SzE (rlev1 ts p k) k := sz_level (sz_2 H k) (sz_words (sz_2 H))
theorem sz_0 (H : PSz p) (k : Nat) : SzE (rlev0 ts p k) k := sz_level (sz_1 H k) (sz_words (sz_1 H))
theorem sz_cond (H : PSz p) (k : Nat) : SzE (rcond ts p k) k := by
  intro x k' h
  unfold rcond at h
  obtain ⟨n, k1, h1, h2⟩ := gr_inv h
  have a1 := sz_0 H _ _ _ h1
  split at h2
  · obtain ⟨m, k2, h3, h4⟩ := gr_inv h2
    have a2 := sz_expr H _ _ _ h3
    have := rl_le (ts := ts) (k1 + 1)
    have := rl_le (ts := ts) (k2 + 1)
    split at h4
    · split at h4
      · cases h4
      · obtain ⟨q, k3, h5, h6⟩ := gr_inv h4
        have := H.cond _ _ _ h5
        cases h6
        rw [nsz_mk, nszL_cons, nszL_cons, nszL_cons, nszL_nil]
        omega
    · cases h4
  · cases h2; exact a1
theorem sz_shut {n x : NodeT} {k k' : Nat} (h : rshut ts n k = .ok x k') : x = n ∧ k ≤ k' := by
  unfold rshut at h
  split at h
  · cases h; exact ⟨rfl, re_le _⟩
  · cases h
theorem sz_clause (H : PSz p) (k : Nat) : SzE (rclause ts p k) k := by
  intro x k' h
  unfold rclause at h
  split at h
  · obtain ⟨n, k1, h1, h2⟩ := gr_inv h
    have := sz_expr H _ _ _ h1
    split at h2
    · cases h2; omega
    · cases h2
  · cases h
theorem sz_stmt (H : PSz p) (k : Nat) : SzS (rstmt ts p k) k := by
  intro x k' h
  unfold rstmt at h
  split at h
  · cases h
  split at h
  · obtain ⟨n, k1, h1, h2⟩ := gr_inv h
    have := H.block _ _ _ h1
    have := re_le (ts := ts) k1
    cases h2
    omega
  split at h
  · have := re_le (ts := ts) (k + 1)
    cases h
    rw [nsz_mk, nszL_nil]
    omega
  split at h
  · obtain ⟨c, k1, h1, h2⟩ := gr_inv h
    obtain ⟨a, k2, h3, h4⟩ := gr_inv h2
    have := H.clause _ _ _ h1
    have := H.stmt _ _ _ h3
    have := rl_le (ts := ts) k1
    split at h4
    · cases h4
      rw [nsz_mk, nszL_cons, nszL_cons, nszL_nil]
      omega
    · split at h4
      · obtain ⟨b, k3, h5, h6⟩ := gr_inv h4
        have := H.stmt _ _ _ h5
        have := rl_le (ts := ts) (k2 + 1)
        cases h6
        rw [nsz_mk, nszL_cons, nszL_cons, nszL_cons, nszL_nil]
        omega
      · cases h4
        rw [nsz_mk, nszL_cons, nszL_cons, nszL_nil]
        omega
  split at h
  · obtain ⟨a, k1, h1, h2⟩ := gr_inv h
    have := H.stmt _ _ _ h1
    have := rl_le (ts := ts) (k + 1)
    split at h2
    · obtain ⟨c, k2, h3, h4⟩ := gr_inv h2
      have := H.clause _ _ _ h3
      obtain ⟨rfl, _⟩ := sz_shut h4
      rw [nsz_mk, nszL_cons, nszL_cons, nszL_nil]
      omega
    · cases h2
  split at h
  · exact H.loop _ _ _ h
  · obtain ⟨a, k1, h1, h2⟩ := gr_inv h
    have := H.simple _ _ _ h1
    obtain ⟨rfl, _⟩ := sz_shut h2
    omega
theorem sz_block (H : PSz p) (k : Nat) : SzS (rblock ts p k) k := by
  intro x k' h
  unfold rblock at h
  split at h
  · obtain ⟨l, k1, h1, h2⟩ := gr_inv h
    have := re_le (ts := ts) (k + 1)
    have := sz_loop nszL (fun x k y k' h => by
      unfold rblockS at h
      obtain ⟨n, k1, h1, h2⟩ := gr_inv h
      have := sz_stmt H _ _ _ h1
      cases h2
      rw [nszL_app, nszL_cons, nszL_nil]
      omega) _ _ _ _ _ h1
    rw [nszL_nil] at this
    cases h2
    rw [nsz_mk]
    omega
  · cases h
theorem sz_jump (H : PSz p) (kd k : Nat) : SzS (rjump ts p kd k) k := by
  intro x k' h
  unfold rjump at h
  split at h
  · cases h
    rw [nsz_mk, nszL_nil]
    omega
  · obtain ⟨n, k1, h1, h2⟩ := gr_inv h
    have := sz_expr H _ _ _ h1
    cases h2
    rw [nsz_mk, nszL_cons, nszL_nil]
    omega
theorem sz_delete (H : PSz p) (k : Nat) : SzS (rdelete ts p k) k := by
  intro x k' h
  unfold rdelete at h
  split at h
  · split at h
    · obtain ⟨l, k1, h1, h2⟩ := gr_inv h
      have := sz_list H _ _ _ _ _ h1
      cases h2
      rw [nsz_mk]
      omega
    · cases h
      rw [nsz_mk, nszL_nil]
      omega
  · cases h
theorem sz_printE (H : PSz p) (k : Nat) (l : List NodeT) (k1 : Nat) (x : NodeT) (k' : Nat) (h : rprintE ts p k l k1 = .ok x k') : nsz x + 2 * k1 ≤ 2 * k' + nszL l + 1 := by
  unfold rprintE at h
  split at h
  · obtain ⟨n, k2, h1, h2⟩ := gr_inv h
    have := sz_6 H _ _ _ h1
    cases h2
    rw [nsz_mk, nszL_app, nszL_cons, nszL_nil]
    omega
  · cases h
    rw [nsz_mk]
    omega
theorem sz_print (H : PSz p) (k : Nat) : SzS (rprint ts p k) k := by
  intro x k' h
  unfold rprint at h
  split at h
  · obtain ⟨l, k1, h1, h2⟩ := gr_inv h
    have := sz_list H _ _ _ _ _ h1
    have := sz_printE H _ _ _ _ _ h2
    omega
  · have := sz_printE H _ _ _ _ _ h
    rw [nszL_nil] at this
    omega
theorem sz_simple (H : PSz p) (k : Nat) : SzS (rsimple ts p k) k := by
  intro x k' h
  unfold rsimple at h
  repeat' split at h
  · cases h; rw [nsz_mk, nszL_nil]; omega
  · cases h; rw [nsz_mk, nszL_nil]; omega
  · cases h; rw [nsz_mk, nszL_nil]; omega
  · exact sz_jump H _ _ _ _ h
  · exact sz_jump H _ _ _ _ h
  · exact sz_delete H _ _ _ h
  · exact sz_print H _ _ _ h
  · obtain ⟨n, k1, h1, h2⟩ := gr_inv h
    have := sz_expr H _ _ _ h1
    cases h2
    rw [nsz_mk, nszL_cons, nszL_nil]
    omega
theorem sz_part (H : PSz p) (i : Nat) (e : List Nat) (l : List NodeT) (k : Nat) (l' : List NodeT) (k' : Nat) (h : rpart ts p i e l k = .ok l' k') : nszL l' + 2 * k + 1 ≤ 2 * k' + nszL l := by
  unfold rpart at h
  obtain ⟨n, k1, h1, h2⟩ := gr_inv h
  have := rl_le (ts := ts) (k1 + 1)
  have a1 : nsz n + 2 * k ≤ 2 * k1 + 1 := by
    split at h1
    · split at h1
      · have := sz_expr H _ _ _ h1; omega
      · have := sz_simple H _ _ _ h1; omega
    · cases h1
      rw [nsz_mk, nszL_nil]
      omega
  split at h2
  · cases h2
    rw [nszL_app, nszL_cons, nszL_nil]
    omega
  · cases h2
theorem sz_for (H : PSz p) (k : Nat) : SzS (rloop ts p k) k := by
  intro x k' h
  unfold rloop at h
  split at h
  · split at h
    · obtain ⟨n, k1, h1, h2⟩ := gr_inv h
      have := sz_stmt H _ _ _ h1
      have := rl_le (ts := ts) (k + 6)
      cases h2
      rw [nsz_mk, nszL_cons, nszL_cons, nszL_nil, nsz_mk, nszL_nil]
      omega
    · obtain ⟨l1, k1, h1, h2⟩ := gr_inv h
      obtain ⟨l2, k2, h3, h4⟩ := gr_inv h2
      obtain ⟨l3, k3, h5, h6⟩ := gr_inv h4
      obtain ⟨n, k4, h7, h8⟩ := gr_inv h6
      have := sz_part H _ _ _ _ _ _ h1
      have := sz_part H _ _ _ _ _ _ h3
      have := sz_part H _ _ _ _ _ _ h5
      have := sz_stmt H _ _ _ h7
      rw [nszL_nil] at *
      cases h8
      rw [nsz_mk, nszL_app, nszL_cons, nszL_nil]
      omega
  · cases h
end
theorem psz (ts : List TokF) : ∀ n, PSz (rp ts n)
  | 0 => by constructor <;> (intro k x k' h; rw [rp] at h; cases h)
  | n + 1 => ⟨sz_expr (psz ts n), sz_cond (psz ts n), sz_signed (psz ts n), sz_step (psz ts n), sz_atom (psz ts n), sz_stmt (psz ts n), sz_block (psz ts n), sz_clause (psz ts n), sz_for (psz ts n), sz_simple (psz ts n)⟩
def tsz (t : TreeT) : Nat := (t.funcs.map fun f => nsz f.body).sum + (t.rules.map fun r => nszL r.l + nsz r.body).sum
section
variable {ts : List TokF} {p : RPar}
theorem sz_param (f : Nat) : ∀ (l : List (List Nat)) (k : Nat) (l' : List (List Nat)) (k' : Nat), rparamF ts f l k = .ok l' k' → k ≤ k' ∧ l'.length + k ≤ k' + l.length := by
  induction f with
  | zero => intro l k l' k' h; cases h; omega
  | succ f ih =>
    intro l k l' k' h
    have := rl_le (ts := ts) (k + 1)
    rw [rparamF] at h
    repeat' split at h
    · cases h; omega
    · have := ih _ _ _ _ h; simp only [List.length_append, List.length_cons, List.length_nil] at this; omega
    · cases h
    · cases h
    · have := ih _ _ _ _ h; simp only [List.length_append, List.length_cons, List.length_nil] at this; omega
    · cases h
theorem sz_rbody (H : PSz p) (k kd : Nat) (l : List NodeT) (t : TreeT) (k1 : Nat) (u : TreeT) (k' : Nat) (h : rbody ts p k kd l t k1 = .ok u k') : k1 ≤ k' ∧ tsz u + 2 * k1 ≤ 2 * k' + tsz t + nszL l := by
  unfold rbody at h
  obtain ⟨b, k2, h1, h2⟩ := gr_inv h
  have := H.block _ _ _ h1
  cases h2
  have e : tsz ⟨t.funcs, t.rules ++ [⟨kd, (tk ts k).at', l, b, false⟩]⟩ = tsz t + nszL l + nsz b := by unfold tsz; simp; omega
  rw [e]
  omega
theorem sz_rrule (H : PSz p) (k kd : Nat) (l : List NodeT) (t : TreeT) (k1 : Nat) (u : TreeT) (k' : Nat) (h : rrule ts p k kd l t k1 = .ok u k') : k1 ≤ k' ∧ tsz u + 2 * k1 ≤ 2 * k' + tsz t + nszL l + 1 := by
  unfold rrule at h
  split at h
  · have := sz_rbody H _ _ _ _ _ _ _ h
    omega
  · cases h
    have e : tsz ⟨t.funcs, t.rules ++ [⟨kd, (tk ts k).at', l, .mk 40 0 [] 0 0 [], true⟩]⟩ = tsz t + nszL l + 1 := by unfold tsz; simp [nsz_mk, nszL_nil]; omega
    rw [e]
    omega
theorem sz_item (H : PSz p) (t : TreeT) (k : Nat) (u : TreeT) (k' : Nat) (h : ritem ts p t k = .ok u k') : k ≤ k' ∧ tsz u + 2 * k ≤ 2 * k' + tsz t := by
  unfold ritem at h
  split at h
  · unfold rfunction at h
    split at h
    · split at h
      · obtain ⟨l, k1, h1, h2⟩ := gr_inv h
        obtain ⟨b, k2, h3, h4⟩ := gr_inv h2
        have := sz_param _ _ _ _ _ h1
        have := H.block _ _ _ h3
        have := rl_le (ts := ts) (k1 + 1)
        cases h4
        have e : tsz ⟨t.funcs ++ [⟨(tk ts (k + 1)).s, l, b, (tk ts k).at'⟩], t.rules⟩ = tsz t + nsz b := by unfold tsz; simp; omega
        rw [e]
        omega
      · cases h
    · cases h
  · split at h
    · have := sz_rbody H _ _ _ _ _ _ _ h
      rw [nszL_nil] at this
      omega
    · split at h
      · have := sz_rbody H _ _ _ _ _ _ _ h
        rw [nszL_nil] at this
        omega
      · obtain ⟨x, k1, h1, h2⟩ := gr_inv h
        have := H.expr _ _ _ h1
        split at h2
        · obtain ⟨y, k2, h3, h4⟩ := gr_inv h2
          have := H.expr _ _ _ h3
          have := rl_le (ts := ts) (k1 + 1)
          have := sz_rrule H _ _ _ _ _ _ _ h4
          rw [nszL_cons, nszL_cons, nszL_nil] at this
          omega
        · have := sz_rrule H _ _ _ _ _ _ _ h2
          rw [nszL_cons, nszL_nil] at this
          omega
theorem sz_prog (H : PSz p) : ∀ (f : Nat) (t : TreeT) (k : Nat) (u : TreeT) (k' : Nat), rprogF ts p f t k = .ok u k' → tsz u + 2 * k ≤ 2 * k' + tsz t
  | 0, t, k, u, k', h => by cases h; omega
  | f + 1, t, k, u, k', h => by
    rw [rprogF] at h
    split at h
    · cases h; omega
    · obtain ⟨v, k1, h1, h2⟩ := gr_inv h
      have := sz_item H _ _ _ _ h1
      split at h2
      · cases h2
      · have := sz_prog H f _ _ _ _ h2
        have := re_le (ts := ts) k1
        omega
theorem sz_parse {t : TreeT} {k : Nat} (h : rparse ts = .ok t k) : tsz t ≤ 2 * k := by
  have := sz_prog (psz ts 65) _ _ _ _ _ h
  have e : tsz ⟨[], []⟩ = 0 := rfl
  omega
end
open Go.RowKit
section
variable {w0 w W : World} {X : List Nat} {S : World → Prop} {bs : List Bx} {rs : List Rw} {F : List Cold} {ops : Array Oper} {late plan pl pl2 : List Nat} {Q : Exit → Act → World → Prop} {f : Nat} {listed : Array Bool} {a : Act}
theorem wpAnyE_up {P : Program} {md : Region.Mode} {S S' : World → Prop} (hS : ∀ w, S w → S' w) : ∀ (f : Nat) (listed : Array Bool) (a : Act) (w : World), wpAnyE P md ops Q S late f listed a w → wpAnyE P md ops Q S' late f listed a w
  | 0, _, _, _, h => h
  | f + 1, _, _, _, h => ⟨h.1, fun i hi => ⟨fun hl => wpOp_mono (fun a' w' h' => ⟨hS w' h'.1, wpAnyE_up hS f _ a' w' h'.2⟩) ((h.2 i hi).1 hl), (h.2 i hi).2⟩⟩
theorem OwnB.cons {x : Bx} (h : OwnB w0 X (x :: bs) w) : OwnB w0 X bs w := by
  obtain ⟨St, rs, F, h⟩ := h
  exact ⟨St, rs, F, h.sub (List.sublist_cons_self x bs) (List.Sublist.refl _) (fun _ h => h)⟩
def ckB (ops : Array Oper) (late : List Nat) (listed : Array Bool) (c l : Nat) : Bool := Region.ready .any ops listed == [c, l] && (!late.contains c && !late.contains l)
theorem eFl {l c : Nat} {ol oc : Oper} {t : TypeId} {cs : List Value} (HO : Hid (Own w0 X S bs rs F w)) (hl : (ops.toList.drop l).head? = some ol) (ho : ol.op = .alloc t) [Z : TZ t cs] (hc : (ops.toList.drop c).head? = some oc) (hk : ckB ops late listed c l = true) (hwa : Region.wanted oc (yielded ops a.tmps) = true) (hwb : Region.wanted ol (yielded ops a.tmps) = true)
    (h1 : ∀ W, Hid (Own w0 X S (⟨w.heap.size, t, cs⟩ :: bs) rs F W) → wpE w0 X (⟨w.heap.size, t, cs⟩ :: bs) late (c :: pl) pl2 ops Q f (listed.setIfInBounds l true) (a.put ol.dst (.pointer (some ⟨w.heap.size, 0, none⟩))) W)
    (h2 : ∀ K : Act → World → Prop, Hid (∀ a' w', OwnB w0 X bs w' → wpE w0 X bs late (l :: pl) pl2 ops Q f (listed.setIfInBounds c true) a' w' → K a' w') → Oper.wp Try.prog oc a w K Q) : wpE w0 X bs late (l :: c :: pl) pl2 ops Q (f + 1) listed a w := by
  have hk2 := Bool.and_eq_true_iff.1 hk
  have hk3 := Bool.and_eq_true_iff.1 hk2.2
  refine ⟨e_both (beq_iff_eq.1 hk2.1) hc hl (by simpa using hk3.1) (by simpa using hk3.2) hwa hwb (fun K hK => h2 K (Lib.hid fun a' w' s k => hK.out a' w' s k.h)) (fun K hK => ?_)⟩
  exact wo_alloc HO ho Z.z fun W hW => hK.out _ W (OwnB.cons (OwnB.of hW)) (wpAnyE_up (fun _ => OwnB.cons) _ _ _ _ (h1 W hW).h)
theorem eFm {l : Nat} {ol : Oper} {t : TypeId} {cs : List Value} (HO : Hid (Own w0 X S bs rs F w)) (hl : (ops.toList.drop l).head? = some ol) (ho : ol.op = .alloc t) [Z : TZ t cs] (hk : ckO ops late listed l = true) (hwb : Region.wanted ol (yielded ops a.tmps) = true)
    (h1 : ∀ W, Hid (Own w0 X S (⟨w.heap.size, t, cs⟩ :: bs) rs F W) → wpE w0 X (⟨w.heap.size, t, cs⟩ :: bs) late [] pl2 ops Q f (listed.setIfInBounds l true) (a.put ol.dst (.pointer (some ⟨w.heap.size, 0, none⟩))) W) : wpE w0 X bs late [l] pl2 ops Q (f + 1) listed a w := by
  have hk2 := Bool.and_eq_true_iff.1 hk
  refine ⟨e_one (beq_iff_eq.1 hk2.1) hl (by simpa using hk2.2) hwb fun K hK => ?_⟩
  exact wo_alloc HO ho Z.z fun W hW => hK.out _ W (OwnB.cons (OwnB.of hW)) (wpAnyE_up (fun _ => OwnB.cons) _ _ _ _ (h1 W hW).h)
end
section
variable {b c n m : Nat} {ts : List TokF} {w0 w W : World} {X : List Nat} {bs : List Bx} {rs : List Rw} {F : List Cold} {α : Type} {R : GR α} {f : GR NodeT} {k : NodeT → Nat → GR α} {T : Ending → World → Prop} {K : FuncId} {args : Array Value}
def CutG (_ : Hid (Own w0 X (RS b c ts n) bs rs F w)) (_ : Hid (f.bind k = R)) (m : Nat) (v : Value) (W : World) : Prop :=
  (∃ B x A e a, v = .pointer (some ⟨B, 0, none⟩) ∧ Hid (Own w0 X (RS b c ts n) (⟨B, 116, [.int .i64 ((NodeT.k x : Nat) : Int), .int .i64 ((NodeT.at' x : Nat) : Int), .string (strN (NodeT.s x)), .bool (zn (NodeT.z x)), .int .u64 (zh (NodeT.z x)), .int .u64 (zl (NodeT.z x)), .int .i64 ((NodeT.i x : Nat) : Int), .slice A (NodeT.l x).length e, .int .i64 ((a : Nat) : Int), .int .i64 0]⟩ :: bs) rs (Cold.kids A x.l :: F) W) ∧ x.l.length ≤ e ∧ m ≤ a ∧ a < ts.length ∧ Hid (k x a = R)) ∨
  (∃ B a q, v = .pointer (some ⟨B, 0, none⟩) ∧ Hid (Own w0 X (RS b c ts n) (⟨B, 116, [.int .i64 0, .int .i64 0, .string { data := #[] }, .bool false, .int .u64 0, .int .u64 0, .int .i64 0, .slice none 0 0, .int .i64 ((a : Nat) : Int), .int .i64 q]⟩ :: bs) rs F W) ∧ (q != 0) = true ∧ Hid (R = .err a q))
end
set_option maxRecDepth 100000 in
set_option maxHeartbeats 3200000 in
theorem left_any (kind : Nat) (s : List Nat) (x y : NodeT) (A B : Option Addr) (c e k : Nat) (w : World) (Fp : Nat → Prop) (hF : ∀ b, Fp b → b < w.heap.size) (hx : KidsL w Fp x.l A 0) (hy : KidsL w Fp y.l B 0) (hc : x.l.length ≤ c) (he : y.l.length ≤ e) :
    Calls Try.prog 62 #[.int .i64 (kind : Int), .string (strN s), .agg #[.int .i64 ((NodeT.k x : Nat) : Int), .int .i64 ((NodeT.at' x : Nat) : Int), .string (strN (NodeT.s x)), .bool (zn (NodeT.z x)), .int .u64 (zh (NodeT.z x)), .int .u64 (zl (NodeT.z x)), .int .i64 ((NodeT.i x : Nat) : Int), .slice A (NodeT.l x).length c], .agg #[.int .i64 ((NodeT.k y : Nat) : Int), .int .i64 ((NodeT.at' y : Nat) : Int), .string (strN (NodeT.s y)), .bool (zn (NodeT.z y)), .int .u64 (zh (NodeT.z y)), .int .u64 (zl (NodeT.z y)), .int .i64 ((NodeT.i y : Nat) : Int), .slice B (NodeT.l y).length e, .int .i64 (k : Int), .int .i64 0]] w fun e w' => ∃ r, e = .returned (.agg #[.int .i64 ((NodeT.k (twoT kind s x y) : Nat) : Int), .int .i64 ((NodeT.at' (twoT kind s x y) : Nat) : Int), .string (strN (NodeT.s (twoT kind s x y))), .bool (zn (NodeT.z (twoT kind s x y))), .int .u64 (zh (NodeT.z (twoT kind s x y))), .int .u64 (zl (NodeT.z (twoT kind s x y))), .int .i64 ((NodeT.i (twoT kind s x y) : Nat) : Int), .slice (some ⟨r,0,none⟩) (NodeT.l (twoT kind s x y)).length 2, .int .i64 (k : Int), .int .i64 0]) ∧ w.heap.size ≤ r ∧ r < w'.heap.size ∧ Below w.heap.size w w' ∧ KidsL w' (fun b => Fp b ∨ b = r) (twoT kind s x y).l (some ⟨r, 0, none⟩) 0 := by
  have HO := own0 w
  have HX := Lib.hid hx
  have HY := Lib.hid hy
  clear hx hy
  go_enter Try.func62, Try.ntmps62
  (repeat' (first | ((with_reducible refine zG ?_); first | refine oWx ?_ | (refine oWs ?_; clear HO; intro _ HO) | (refine oWj ?_; clear HO; intro _ HO HB)) | (first | ((with_reducible refine ab_row HO 45 8 1 ?_ ?_ ?_); (rfl); (decide); clear HO; intro _ HO) | ((with_reducible refine ab_row HO 45 8 2 ?_ ?_ ?_); (rfl); (decide); clear HO; intro _ HO) | ((with_reducible refine ab_row HO 45 8 3 ?_ ?_ ?_); (rfl); (decide); clear HO; intro _ HO) | ((with_reducible refine ab_row HO 45 8 4 ?_ ?_ ?_); (rfl); (decide); clear HO; intro _ HO)) | go_values | go_skip | go_guarded | go_step | go_upon | (go_ite <;> go_prune <;> (try go_simp))))
  refine oBc HO (t := 8) (ty := 116) rfl rfl rfl ?_
  have hrow := HO.out.row _ List.mem_cons_self
  have hlt := hrow.lt _ rfl
  have hbel := HO.out.kept.below
  refine ⟨_, congrArg Ending.returned (nv0g kind x.at' s 0 [x, y] _ 2 k).symm, hlt.1, hlt.2, hbel, ?_⟩
  rename_i W4 W3 W2 W1 W
  have hx := KidsL.st (F' := fun b => Fp b ∨ b = W2.heap.size) (fun b hb => ⟨.inl hb, hbel.block b (hF b hb)⟩) _ _ _ HX.out
  have hy := KidsL.st (F' := fun b => Fp b ∨ b = W2.heap.size) (fun b hb => ⟨.inl hb, hbel.block b (hF b hb)⟩) _ _ _ HY.out
  refine row_kids (els := [(x, A, c), (y, B, e)]) (r := W2.heap.size) hrow rfl (.inr rfl) (fun el hel => ?_)
  rcases List.mem_cons.1 hel with rfl | hel
  · exact ⟨hc, hx⟩
  · obtain rfl := List.mem_singleton.1 hel
    exact ⟨he, hy⟩
section
variable {b c n m : Nat} {ts : List TokF} {w0 w W : World} {X : List Nat} {S : World → Prop} {bs : List Bx} {rs : List Rw} {F : List Cold} {T : Ending → World → Prop} {K : FuncId} {args : Array Value}
theorem arm_left {kind : Nat} {kd : Int} {s : List Nat} {sv : ByteArray} {x y : NodeT} {A B : Option Addr} {c e k : Nat} (HO : Hid (Own w0 X S bs rs F w)) (hK : K = 62) (ha : args = #[.int .i64 kd, .string sv, .agg #[.int .i64 ((NodeT.k x : Nat) : Int), .int .i64 ((NodeT.at' x : Nat) : Int), .string (strN (NodeT.s x)), .bool (zn (NodeT.z x)), .int .u64 (zh (NodeT.z x)), .int .u64 (zl (NodeT.z x)), .int .i64 ((NodeT.i x : Nat) : Int), .slice A (NodeT.l x).length c], .agg #[.int .i64 ((NodeT.k y : Nat) : Int), .int .i64 ((NodeT.at' y : Nat) : Int), .string (strN (NodeT.s y)), .bool (zn (NodeT.z y)), .int .u64 (zh (NodeT.z y)), .int .u64 (zl (NodeT.z y)), .int .i64 ((NodeT.i y : Nat) : Int), .slice B (NodeT.l y).length e, .int .i64 (k : Int), .int .i64 0]]) (hkd : kd = (kind : Int)) (hsv : sv = strN s) (hx : Cold.kids A x.l ∈ F) (hy : Cold.kids B y.l ∈ F) (hc : x.l.length ≤ c) (he : y.l.length ≤ e)
    (h : ∀ r W, Hid (Own w0 X S bs rs (Cold.kids (some ⟨r, 0, none⟩) (twoT kind s x y).l :: F) W) → T (.returned (.agg #[.int .i64 ((NodeT.k (twoT kind s x y) : Nat) : Int), .int .i64 ((NodeT.at' (twoT kind s x y) : Nat) : Int), .string (strN (NodeT.s (twoT kind s x y))), .bool (zn (NodeT.z (twoT kind s x y))), .int .u64 (zh (NodeT.z (twoT kind s x y))), .int .u64 (zl (NodeT.z (twoT kind s x y))), .int .i64 ((NodeT.i (twoT kind s x y) : Nat) : Int), .slice (some ⟨r,0,none⟩) (NodeT.l (twoT kind s x y)).length 2, .int .i64 (k : Int), .int .i64 0])) W) : Calls Try.prog K args w T := by
  subst hK ha hkd hsv
  refine (left_any kind s x y A B c e k w (fun b => w0.heap.size ≤ b ∧ b < w.heap.size ∧ b ∉ hot bs rs) (fun b hb => hb.2.1) (HO.out.cold _ hx) (HO.out.cold _ hy) hc he).mono fun e W hp => ?_
  obtain ⟨r, rfl, h1, h2, q, hk⟩ := hp
  refine h r W (Lib.hid ((HO.out.next q).coldAll _ (KidsL.st (fun b hb => ⟨?_, rfl⟩) _ _ _ hk)))
  rcases hb with hb | rfl
  · exact ⟨hb.1, Nat.lt_of_lt_of_le hb.2.1 q.size, hb.2.2⟩
  · exact ⟨Nat.le_trans HO.out.kept.size h1, h2, fun hm => by have := (HO.out.hot_lt b hm).2; omega⟩
theorem arm_bad {k : Int} (HO : Hid (Own w0 X S bs rs F w)) (hK : K = 63) (ha : args = #[.int .i64 k]) (h : ∀ W, Hid (Own w0 X S bs rs F W) → T (.returned (.agg #[.int .i64 0, .int .i64 0, .string { data := #[] }, .bool false, .int .u64 0, .int .u64 0, .int .i64 0, .slice none 0 0, .int .i64 k, .int .i64 4])) W) : Calls Try.prog K args w T := by
  subst hK ha
  refine (bad_any k w).mono fun e W hp => ?_
  obtain ⟨rfl, q⟩ := hp
  exact h W (Lib.hid (HO.out.next q))
theorem arm_rlval {x : NodeT} {A : Option Addr} {c : Nat} (HO : Hid (Own w0 X S bs rs F w)) (hK : K = 60) (ha : args = #[.agg #[.int .i64 ((NodeT.k x : Nat) : Int), .int .i64 ((NodeT.at' x : Nat) : Int), .string (strN (NodeT.s x)), .bool (zn (NodeT.z x)), .int .u64 (zh (NodeT.z x)), .int .u64 (zl (NodeT.z x)), .int .i64 ((NodeT.i x : Nat) : Int), .slice A (NodeT.l x).length c]]) (h : ∀ W z, lval x = z → Hid (Own w0 X S bs rs F W) → T (.returned (.bool z)) W) : Calls Try.prog K args w T := by
  subst hK ha
  refine (rlvalue_any x A c w).mono fun e W hp => ?_
  obtain ⟨rfl, q⟩ := hp
  exact h W _ rfl (Lib.hid (HO.out.next q))
variable {a : Nat}
theorem arm_lines (ha : a < ts.length) (HO : Hid (Own w0 [] (RS b c ts w0.heap.size) bs rs F w)) {v : Int} [C : Cn v a] (hK : K = 52) (hargs : args = #[.agg #[.slice (some ⟨b, 0, none⟩) ts.length c], .int .i64 v])
    (h : ∀ W q, rlines ts a = q → a ≤ q → q < ts.length → Hid (Own w0 [] (RS b c ts w0.heap.size) bs rs F W) → T (.returned (.int .i64 (q : Int))) W) : Calls Try.prog K args w T := by
  subst hK hargs
  rw [C.e (by have := HO.out.st.ok.len; omega)]
  exact arm_rq (fun w hw => lines_any ha w hw) HO (fun W HO' => h W _ rfl (rlinesF_le ts _ a) (rlinesF_lt HO.out.st.ok _ a ha) HO')
theorem arm_ends (ha : a < ts.length) (HO : Hid (Own w0 [] (RS b c ts w0.heap.size) bs rs F w)) {v : Int} [C : Cn v a] (hK : K = 30) (hargs : args = #[.agg #[.slice (some ⟨b, 0, none⟩) ts.length c], .int .i64 v])
    (h : ∀ W q, rends ts a = q → a ≤ q → q < ts.length → Hid (Own w0 [] (RS b c ts w0.heap.size) bs rs F W) → T (.returned (.int .i64 (q : Int))) W) : Calls Try.prog K args w T := by
  subst hK hargs
  rw [C.e (by have := HO.out.st.ok.len; omega)]
  exact arm_rq (fun w hw => ends_any ha w hw) HO (fun W HO' => h W _ rfl (rendsF_le ts _ a) (rendsF_lt HO.out.st.ok _ a ha) HO')
theorem arm_stops (ha : a < ts.length) (HO : Hid (Own w0 [] (RS b c ts w0.heap.size) bs rs F w)) {v : Int} [C : Cn v a] (hK : K = 33) (hargs : args = #[.agg #[.slice (some ⟨b, 0, none⟩) ts.length c], .int .i64 v])
    (h : ∀ W z, rstops ts a = z → (z = true → a < ts.length) → Hid (Own w0 [] (RS b c ts w0.heap.size) bs rs F W) → T (.returned (.bool z)) W) : Calls Try.prog K args w T := by
  subst hK hargs
  rw [C.e (by have := HO.out.st.ok.len; omega)]
  exact arm_rq (fun w hw => stops_any ha w hw) HO (fun W HO' => h W _ rfl (fun _ => ha) HO')
end
structure ROK (p : RPar) (b c : Nat) (ts : List TokF) (d : Nat) : Prop where
  expr : ∀ k, k < ts.length → RC 51 #[.agg #[.slice (some ⟨b, 0, none⟩) ts.length c], .int .i64 (k : Int), .int .i64 (d : Int)] (p.expr k) VG b c ts (k + 1)
  cond : ∀ k, k < ts.length → RC 59 #[.agg #[.slice (some ⟨b, 0, none⟩) ts.length c], .int .i64 (k : Int), .int .i64 (d : Int)] (p.cond k) VG b c ts (k + 1)
  signed : ∀ k, k < ts.length → RC 78 #[.agg #[.slice (some ⟨b, 0, none⟩) ts.length c], .int .i64 (k : Int), .int .i64 (d : Int)] (p.signed k) VG b c ts (k + 1)
  step : ∀ k, k < ts.length → RC 83 #[.agg #[.slice (some ⟨b, 0, none⟩) ts.length c], .int .i64 (k : Int), .int .i64 (d : Int)] (p.step k) VG b c ts (k + 1)
  atom : ∀ k, k < ts.length → RC 85 #[.agg #[.slice (some ⟨b, 0, none⟩) ts.length c], .int .i64 (k : Int), .int .i64 (d : Int)] (p.atom k) VG b c ts (k + 1)
  stmt : ∀ k, k < ts.length → RC 64 #[.agg #[.slice (some ⟨b, 0, none⟩) ts.length c], .int .i64 (k : Int), .int .i64 (d : Int)] (p.stmt k) VG b c ts (k + 1)
  block : ∀ k, k < ts.length → RC 53 #[.agg #[.slice (some ⟨b, 0, none⟩) ts.length c], .int .i64 (k : Int), .int .i64 (d : Int)] (p.block k) VG b c ts (k + 1)
  clause : ∀ k, k < ts.length → RC 69 #[.agg #[.slice (some ⟨b, 0, none⟩) ts.length c], .int .i64 (k : Int), .int .i64 (d : Int)] (p.clause k) VG b c ts (k + 1)
  loop : ∀ k, k + 1 < ts.length → RC 71 #[.agg #[.slice (some ⟨b, 0, none⟩) ts.length c], .int .i64 (k : Int), .int .i64 (d : Int)] (p.loop k) VG b c ts (k + 1)
  simple : ∀ k, k < ts.length → RC 72 #[.agg #[.slice (some ⟨b, 0, none⟩) ts.length c], .int .i64 (k : Int), .int .i64 (d : Int)] (p.simple k) VG b c ts (k + 1)
open Go.RowKit
section
variable {P : Program} {md : Region.Mode} {ops : Array Oper} {Q : Exit → Act → World → Prop} {late : List Nat}
end
section
variable {w0 w : World} {X : List Nat} {S : World → Prop} {F : List Cold} {b2 b3 b : Nat} {x3 x y : Value}
end
open Go.RowKit
section
variable {α β : Type} {K : FuncId} {args : Array Value} {g : Nat} {ts : List TokF} {n a d : Nat} {R : PR β} {w0 w W : World} {bs : List Bx} {rs : List Rw} {F : List Cold} {T : Ending → World → Prop}
end
open Go.RowKit
section
variable {w0 w : World} {X : List Nat} {S : World → Prop} {bs : List Bx} {rs : List Rw} {F : List Cold} {KK : Act → World → Prop} {act : Act} {o : Oper} {Q : Exit → Act → World → Prop}
end
open Go.RowKit
section
variable {w0 w : World} {X : List Nat} {S : World → Prop} {bs : List Bx} {rs : List Rw} {F : List Cold} {K : Act → World → Prop} {act : Act}
variable {β : Type} {g a d : Nat} {ts : List TokF} {R : PR β}
end
open Go.RowKit
theorem quotS_lt (sign : Nat) : ∀ (l : List Nat) (e : Bool) (n : Nat), quotS sign e l = some n → n < l.length
  | [], e, n, h => by cases e <;> simp [quotS] at h
  | c :: r, e, n, h => by
    rw [quotS] at h
    split at h
    · cases h
    · cases e with
      | true =>
        simp only [if_true] at h
        cases hq : quotS sign false r with
        | none => rw [hq] at h; cases h
        | some m =>
          rw [hq] at h
          obtain rfl : m + 1 = n := Option.some.inj h
          have := quotS_lt sign r false m hq
          simp; omega
      | false =>
        simp only [Bool.false_eq_true, if_false] at h
        split at h
        · obtain rfl : 0 = n := Option.some.inj h
          simp
        · cases hq : quotS sign (decide (c = 92)) r with
          | none => rw [hq] at h; cases h
          | some m =>
            rw [hq] at h
            obtain rfl : m + 1 = n := Option.some.inj h
            have := quotS_lt sign r _ m hq
            simp; omega
theorem numL_le' (l : List Nat) : numL l ≤ l.length := by
  unfold numL
  have h1 : (l.takeWhile isDig).length ≤ l.length := (List.takeWhile_prefix _).length_le
  dsimp only
  split
  · rename_i r e
    have h2 : (r.takeWhile isDig).length ≤ r.length := (List.takeWhile_prefix _).length_le
    have h3 := congrArg List.length e
    rw [List.length_drop, List.length_cons] at h3
    omega
  · exact h1
theorem numL_pos {c : Nat} {r : List Nat} (h : isDig c = true ∨ (c = 46 ∧ isDig (r.getD 0 0) = true)) : 0 < numL (c :: r) := by
  unfold numL
  dsimp only
  rcases h with h | ⟨rfl, h⟩
  · rw [List.takeWhile_cons, if_pos h, List.length_cons]
    split <;> omega
  · have : isDig 46 = false := rfl
    rw [List.takeWhile_cons, this]
    simp
    omega
structure TkOk (t : TokF) (n m : Nat) : Prop where
  k0 : t.k ≠ 0
  byte : ∀ x ∈ t.s, x < 256
  size : t.s.length ≤ m
  pos : 0 < n
  le : n ≤ m
  k1 : t.k = 1 → t.s = [] ∧ t.z = 0
theorem unesc_len : ∀ (f : Nat) (l : List Nat), (unesc f l).length ≤ l.length
  | 0, l => by rw [unesc]; simp
  | f + 1, [] => by rw [unesc]; simp
  | f + 1, c :: r => by
    rw [unesc_step]
    split
    · split
      · cases r with
        | nil => simp
        | cons d r' => have := unesc_len f r'; simp; omega
      · have := unesc_len f (r.drop (octD 3 r 0).2)
        rw [List.length_drop] at this
        simp; omega
    · have := unesc_len f r; simp; omega
theorem unreg_len : ∀ (n : Nat) (l : List Nat), l.length ≤ n → (unreg l).length ≤ l.length
  | _, [], _ => by rw [unreg]; simp
  | _, [c], _ => by rw [unreg]; simp
  | 0, c :: d :: r, hn => by simp at hn
  | n + 1, c :: d :: r, hn => by
    simp only [List.length_cons] at hn
    rw [unreg]
    split
    · split
      · have := unreg_len n r (by omega); simp; omega
      · have := unreg_len n r (by omega); simp; omega
    · have := unreg_len n (d :: r) (by simp; omega); simp at this ⊢; omega
theorem nextL_ok {last : Option TokF} {a : Nat} {l : List Nat} {t : TokF} {n : Nat} (hb : ∀ x ∈ l, x < 256) (h : nextL last a l = .ok (t, n)) : TkOk t n l.length := by
  cases l with
  | nil => unfold nextL at h; cases h
  | cons c r =>
    unfold nextL at h
    dsimp only at h
    have hbr : ∀ x ∈ r, x < 256 := fun x hx => hb x (List.mem_cons_of_mem _ hx)
    by_cases h10 : c = 10
    · rw [if_pos h10] at h
      injection h with h; injection h with h1 h2; subst h1 h2
      exact ⟨by simp, by simp, by simp, by decide, by simp, fun _ => ⟨rfl, rfl⟩⟩
    · rw [if_neg h10] at h
      by_cases hd : isDig c = true ∨ (c = 46 ∧ isDig (r.getD 0 0) = true)
      · rw [if_pos hd] at h
        split at h
        · cases h
        · injection h with h; injection h with h1 h2; subst h1 h2
          exact ⟨by simp, by simp, by simp, numL_pos hd, numL_le' _, fun h => by cases h⟩
      · rw [if_neg hd] at h
        by_cases h34 : c = 34
        · rw [if_pos h34] at h
          cases hq : quotN 34 r with
          | none => rw [hq] at h; cases h
          | some m =>
            rw [hq] at h
            injection h with h; injection h with h1 h2; subst h1 h2
            have hm := quotS_lt 34 r false m hq
            have hl := unesc_len (m + 1) (r.take m)
            rw [List.length_take, Nat.min_eq_left (by omega)] at hl
            exact ⟨by simp, unesc_byte _ _ (fun x hx => hbr x (List.mem_of_mem_take hx)), by simp; omega, by omega, by simp; omega, fun h => by cases h⟩
        · rw [if_neg h34] at h
          by_cases h47 : c = 47 ∧ operandL last = true
          · rw [if_pos h47] at h
            cases hq : quotN 47 r with
            | none => rw [hq] at h; cases h
            | some m =>
              rw [hq] at h
              injection h with h; injection h with h1 h2; subst h1 h2
              have hm := quotS_lt 47 r false m hq
              have hl := unreg_len _ (r.take m) (Nat.le_refl _)
              rw [List.length_take, Nat.min_eq_left (by omega)] at hl
              exact ⟨by simp, fun x hx => hbr x (List.mem_of_mem_take (unreg_sub _ _ (Nat.le_refl _) x hx)), by simp; omega, by omega, by simp; omega, fun h => by cases h⟩
          · rw [if_neg h47] at h
            by_cases hl : isLet c = true
            · rw [if_pos hl] at h
              injection h with h; injection h with h1 h2; subst h1 h2
              have hk : nameK (c :: r) ≠ 0 ∧ nameK (c :: r) ≠ 1 := by unfold nameK; repeat (first | (split) | exact ⟨by decide, by decide⟩)
              have hn : nameN (c :: r) ≤ (c :: r).length := (List.takeWhile_prefix _).length_le
              have hp : 0 < nameN (c :: r) := by unfold nameN; rw [List.takeWhile_cons, if_pos (by rw [hl]; rfl)]; simp
              exact ⟨hk.1, fun x hx => hb x (List.mem_of_mem_take hx), by simp only [List.length_take]; omega, hp, hn, fun h => absurd h hk.2⟩
            · rw [if_neg hl] at h
              split at h
              · cases h
              · rename_i hs
                injection h with h; injection h with h1 h2; subst h1 h2
                have hn : signN (c :: r) ≤ (c :: r).length := by
                  unfold signN
                  split
                  · rename_i h2; exact h2.1
                  · split <;> simp
                exact ⟨by simp, fun x hx => hb x (List.mem_of_mem_take hx), by simp only [List.length_take]; omega, by omega, hn, fun h => by cases h⟩
theorem allF_ok : ∀ (f a : Nat) (l : List Nat) (ts us : List TokF) (N : Nat), (∀ x ∈ l, x < 256) → l.length ≤ N → (∀ t ∈ ts, TkOk t 1 N) → allF f a l ts = .ok us → ∃ vs e, us = ts ++ vs ++ [e] ∧ e.k = 0 ∧ e.s = [] ∧ e.z = 0 ∧ vs.length ≤ f ∧ vs.length ≤ l.length ∧ ∀ t ∈ vs, TkOk t 1 N
  | 0, a, l, ts, us, N, hb, hN, ht, h => by
    rw [allF] at h
    injection h with h
    exact ⟨[], ⟨0, a, [], 0⟩, by rw [← h]; simp, rfl, rfl, rfl, Nat.zero_le _, Nat.zero_le _, by simp⟩
  | f + 1, a, l, ts, us, N, hb, hN, ht, h => by
    rw [allF] at h
    cases hd : l.drop (passN l) with
    | nil =>
      rw [hd] at h
      injection h with h
      exact ⟨[], ⟨0, a + l.length, [], 0⟩, by rw [← h]; simp, rfl, rfl, rfl, Nat.zero_le _, Nat.zero_le _, by simp⟩
    | cons c r =>
      rw [hd] at h
      dsimp only at h
      have hb2 : ∀ x ∈ (c :: r), x < 256 := fun x hx => hb x (by rw [← hd] at hx; exact List.mem_of_mem_drop hx)
      have hl2 : (c :: r).length ≤ l.length := by rw [← hd, List.length_drop]; omega
      cases hn : nextL ts.getLast? (a + passN l) (c :: r) with
      | error e => rw [hn] at h; cases h
      | ok tn =>
        obtain ⟨t, n⟩ := tn
        rw [hn] at h
        dsimp only at h
        have hk := nextL_ok hb2 hn
        have hk1 : TkOk t 1 N := ⟨hk.k0, hk.byte, by have := hk.size; omega, by decide, by have := hk.le; have := hk.pos; omega, hk.k1⟩
        obtain ⟨vs, e, hu, e0, e1, e2, h3, h4, h5⟩ := allF_ok f _ ((c :: r).drop n) (ts ++ [t]) us N (fun x hx => hb2 x (List.mem_of_mem_drop hx)) (by rw [List.length_drop]; omega) (fun x hx => by
          rcases List.mem_append.1 hx with hx | hx
          · exact ht x hx
          · obtain rfl := List.mem_singleton.1 hx; exact hk1) h
        refine ⟨t :: vs, e, by rw [hu]; simp, e0, e1, e2, by simp; omega, by rw [List.length_drop] at h4; have := hk.pos; simp only [List.length_cons] at *; omega, fun x hx => ?_⟩
        rcases List.mem_cons.1 hx with rfl | hx
        · exact hk1
        · exact h5 x hx
def lexS (src : List Nat) : Except (Nat × Int) (List TokF) := if 16384 < src.length then .error (0, 5) else allF src.length 0 src []
theorem lexS_ok {src : List Nat} {ts : List TokF} (hb : ∀ x ∈ src, x < 256) (h : lexS src = .ok ts) : ∃ vs e, ts = vs ++ [e] ∧ e.k = 0 ∧ e.s = [] ∧ e.z = 0 ∧ vs.length ≤ 16384 ∧ ∀ t ∈ vs, TkOk t 1 16384 := by
  unfold lexS at h
  split at h
  · cases h
  · obtain ⟨vs, e, hu, e0, e1, e2, h3, h4, h5⟩ := allF_ok src.length 0 src [] ts 16384 hb (by omega) (by simp) h
    exact ⟨vs, e, by simpa using hu, e0, e1, e2, by omega, h5⟩
theorem TsOk.of {vs : List TokF} {e : TokF} (e0 : e.k = 0) (e1 : e.s = []) (hl : vs.length ≤ 16384) (h : ∀ t ∈ vs, TkOk t 1 16384) : TsOk (vs ++ [e]) := by
  refine ⟨by simp; omega, fun i hi hk => ?_, fun t ht x hx => ?_, fun t ht => ?_⟩
  · rw [List.length_append, List.length_singleton] at hi ⊢
    rcases Nat.lt_or_ge i vs.length with h1 | h1
    · omega
    · exfalso
      obtain rfl : i = vs.length := by omega
      apply hk
      rw [tk_eq (by simp)]
      simp [e0]
  · rcases List.mem_append.1 ht with ht | ht
    · exact (h t ht).byte x hx
    · obtain rfl := List.mem_singleton.1 ht
      rw [e1] at hx; cases hx
  · rcases List.mem_append.1 ht with ht | ht
    · have := (h t ht).size; omega
    · obtain rfl := List.mem_singleton.1 ht
      rw [e1]; simp
open Go.RowKit
def kidsFrom (p : Pl) : Nat → List NodeT → List Pl
  | _, [] => []
  | i, n :: l => ⟨n, some p.n, i, p.fn, p.kd, p.lp || isLoop p.n⟩ :: kidsFrom p (i + 1) l
def prePl (p : Pl) : List Pl := preN p.up p.i p.fn p.kd p.lp p.n
theorem preL_eq (p : Pl) : ∀ (i : Nat) (l : List NodeT), preL p.n i p.fn p.kd (p.lp || isLoop p.n) l = (kidsFrom p i l).flatMap prePl
  | _, [] => by rw [preL]; rfl
  | i, n :: l => by rw [preL, kidsFrom, List.flatMap_cons, preL_eq p (i + 1) l]; rfl
theorem prePl_eq (p : Pl) : prePl p = p :: (kidsFrom p 0 p.n.l).flatMap prePl := by
  obtain ⟨⟨k, a, s, z, v, l⟩, u, i, fn, kd, lp⟩ := p
  unfold prePl
  dsimp only
  rw [preN]
  congr 1
  exact preL_eq ⟨.mk k a s z v l, u, i, fn, kd, lp⟩ 0 l
theorem kidsFrom_len (p : Pl) : ∀ (i : Nat) (l : List NodeT), (kidsFrom p i l).length = l.length
  | _, [] => rfl
  | i, n :: l => by rw [kidsFrom, List.length_cons, List.length_cons, kidsFrom_len p (i + 1) l]
theorem kidsFrom_get (p : Pl) : ∀ (i : Nat) (l : List NodeT) (k : Nat) (n : NodeT), l[k]? = some n → (kidsFrom p i l)[k]? = some ⟨n, some p.n, i + k, p.fn, p.kd, p.lp || isLoop p.n⟩
  | _, [], k, n, h => by simp at h
  | i, x :: l, 0, n, h => by
    simp at h
    subst h
    rfl
  | i, x :: l, k + 1, n, h => by
    rw [kidsFrom, List.getElem?_cons_succ, kidsFrom_get p (i + 1) l k n (by simpa using h)]
    congr 2
    omega
structure Vst where
  S : World → Prop
  bx : List Bx
  rw : List Rw
def runV {α : Type} (cont : α → Pl → Bool) (step : α → Pl → α) : α → List Pl → α × Bool
  | x, [] => (x, true)
  | x, p :: l => if cont x p then runV cont step (step x p) l else (step x p, false)
theorem runV_app {α : Type} (cont : α → Pl → Bool) (step : α → Pl → α) : ∀ (x : α) (l m : List Pl), runV cont step x (l ++ m) = if (runV cont step x l).2 then runV cont step (runV cont step x l).1 m else runV cont step x l
  | x, [], m => by rw [List.nil_append, runV]; rfl
  | x, p :: l, m => by
    rw [List.cons_append, runV, runV]
    split
    · exact runV_app cont step (step x p) l m
    · rfl
structure VisOK {α : Type} (w1 : World) (X : List Nat) (F : List Cold) (K : FuncId) (first cap : Array Value) (I : α → Vst → Prop) (G : Pl → Prop) (cont : α → Pl → Bool) (step : α → Pl → α) (sz : α → Nat) (B : Nat) : Prop where
  up : ∀ x p, sz (step x p) ≤ sz x + 1
  run : ∀ args w, (callFunc K args).run Try.prog w = .ok (.enter K args) w
  call : ∀ x V p v bs rs w, I x V → sz x < B → G p → PlAt w1 (Eld w1 X) p v → Own w1 X V.S (bs ++ V.bx) (rs ++ V.rw) F w → Calls Try.prog K (first ++ #[v] ++ cap) w fun e w' => e = .returned (.bool (cont x p)) ∧ ∃ V', I (step x p) V' ∧ Own w1 X V'.S (bs ++ V'.bx) (rs ++ V'.rw) F w'
theorem runV_sz {α : Type} {cont : α → Pl → Bool} {step : α → Pl → α} {sz : α → Nat} (hu : ∀ x p, sz (step x p) ≤ sz x + 1) : ∀ (l : List Pl) (x : α), sz (runV cont step x l).1 ≤ sz x + l.length
  | [], x => Nat.le_refl _
  | p :: l, x => by
    have h1 := hu x p
    rw [runV]
    split
    · have h2 := runV_sz (cont := cont) hu l (step x p)
      rw [List.length_cons]
      omega
    · show sz (step x p) ≤ _
      rw [List.length_cons]
      omega
theorem ex_least {p : Nat → Prop} (h : ∃ n, p n) : ∃ n, p n ∧ ∀ m, p m → n ≤ m := by
  obtain ⟨n, hn⟩ := h
  induction n using Nat.strongRecOn with
  | _ n ih =>
    by_cases hx : ∃ m, m < n ∧ p m
    · obtain ⟨m, hm, hp⟩ := hx
      exact ih m hm hp
    · exact ⟨n, hn, fun m hm => Nat.le_of_not_lt fun hl => hx ⟨m, hl, hm⟩⟩
theorem least_fn {α : Type} (J : Nat → α → Prop) : ∃ μ : α → Nat, ∀ a, (∃ n, J n a) → J (μ a) a ∧ ∀ m, J m a → μ a ≤ m := by
  have h : ∀ a, ∃ k, (∃ n, J n a) → J k a ∧ ∀ m, J m a → k ≤ m := fun a => by
    by_cases hx : ∃ n, J n a
    · obtain ⟨n, h1, h2⟩ := ex_least hx
      exact ⟨n, fun _ => ⟨h1, h2⟩⟩
    · exact ⟨0, fun h => absurd h hx⟩
  exact ⟨fun a => Classical.choose (h a), fun a => Classical.choose_spec (h a)⟩
section
variable {o : Oper} {a : Act} {w0 w : World} {X : List Nat} {S : World → Prop} {bs : List Bx} {rs : List Rw} {F : List Cold} {K : Act → World → Prop} {Q : Exit → Act → World → Prop}
theorem Own.cutRow {e : TypeId} {sz n c : Nat} {A : Option Addr} {xs : List Value} (h : Own w0 X S bs (⟨e, sz, .slice A n c, n, xs⟩ :: rs) F w) {k : Nat} (hk : k ≤ n) : Own w0 X S bs (⟨e, sz, .slice A k c, k, xs.take (k * sz)⟩ :: rs) F w := by
  have hot_eq : hot bs (⟨e, sz, .slice A k c, k, xs.take (k * sz)⟩ :: rs) = hot bs (⟨e, sz, .slice A n c, n, xs⟩ :: rs) := by
    unfold hot
    rw [List.filterMap_cons, List.filterMap_cons]
    cases A <;> rfl
  refine ⟨h.kept, h.loc, h.st, h.box, h.base, fun r hr => ?_, by rw [hot_eq]; exact h.nodup, by rw [hot_eq]; exact h.cold⟩
  rcases List.mem_cons.1 hr with rfl | hr
  · obtain ⟨h1, h2⟩ := h.row _ List.mem_cons_self
    have hks : k * sz ≤ n * sz := Nat.mul_le_mul_right _ hk
    dsimp only at h1 h2 ⊢
    refine ⟨by rw [List.length_take]; omega, ?_⟩
    rcases h2 with ⟨h2, h3⟩ | ⟨g, cap, cur, e1, hg, hh, hn, hc, hs, ht⟩
    · injection h2 with a1 a2 a3
      obtain rfl : k = 0 := by omega
      left
      rw [a1, a3]
      exact ⟨rfl, rfl⟩
    · injection e1 with a1 a2 a3
      right
      refine ⟨g, cap, cur, by rw [a1, a3], hg, hh, Nat.le_trans hk hn, hc, hs, ?_⟩
      rw [← ht, List.take_take, Nat.min_eq_left hks]
  · exact h.row r (List.mem_cons_of_mem _ hr)
theorem row_ptr {e : TypeId} {sz n c : Nat} {A : Option Addr} {xs : List Value} (h : w.ownsRow w0.heap.size e sz (.slice A n c) n xs) (hn : 0 < n) : ∃ b, A = some ⟨b, 0, none⟩ ∧ n ≤ c ∧ ∀ j u, xs[j]? = some u → w.cell? ⟨b, j, none⟩ = some u := by
  rcases h.2 with ⟨_, h0⟩ | ⟨g, cap, cur, e1, _, _, hn2, _⟩
  · omega
  · injection e1 with a1 a2 a3
    subst a1 a3
    refine ⟨g, rfl, hn2, fun j u hu => ?_⟩
    have := h.cells (g := g) rfl j u hu
    rw [Addr.add_mid, Nat.zero_add] at this
    exact this
theorem oRw (HO : Hid (Own w0 X S bs rs F w)) {ty : TypeId} {x : Operand} (ho : o.op = .load ty x) {b q : Nat} (hx : a.eval x = .pointer (some ⟨b, q, none⟩)) {e : TypeId} {sz n c m : Nat} {xs : List Value} (hm : (⟨e, sz, .slice (some ⟨b, 0, none⟩) n c, m, xs⟩ : Rw) ∈ rs) {sub : List Value} {N : Nat} [T : TN ty N] [L : Ln sub N] (hs : ∀ j v, sub[j]? = some v → xs[q + j]? = some v) (h : K (a.put o.dst (.agg sub.toArray)) w) : WOp Try.prog o a w K Q := by
  refine wo_run HO (v := .agg sub.toArray) (fun w HO => ?_) h
  refine run_cells ho hx L.n (fun j v hv => ?_)
  have := (HO.out.row _ hm).cells (g := b) rfl (q + j) v (hs j v hv)
  rw [Addr.add_mid, Nat.zero_add] at this
  exact this
theorem flat_get {β : Type} (f : β → List Value) (m : Nat) : ∀ (l : List β) (i j : Nat) (x : β) (v : Value), (∀ y ∈ l, (f y).length = m) → l[i]? = some x → (f x)[j]? = some v → (l.flatMap f)[i * m + j]? = some v
  | [], i, j, x, v, _, h, _ => by simp at h
  | y :: l, 0, j, x, v, hm, h, hv => by
    simp at h
    subst h
    rw [List.flatMap_cons, Nat.zero_mul, Nat.zero_add, List.getElem?_append_left]
    · exact hv
    · exact (List.getElem?_eq_some_iff.1 hv).1
  | y :: l, i + 1, j, x, v, hm, h, hv => by
    have ih := flat_get f m l i j x v (fun z hz => hm z (List.mem_cons_of_mem _ hz)) (by simpa using h) hv
    have hy := hm y List.mem_cons_self
    rw [List.flatMap_cons, List.getElem?_append_right (by rw [hy, Nat.add_mul]; omega), ← ih]
    congr 1
    rw [hy, Nat.add_mul]
    omega
theorem flat_len {β : Type} (f : β → List Value) (m : Nat) : ∀ (l : List β), (∀ y ∈ l, (f y).length = m) → (l.flatMap f).length = l.length * m
  | [], _ => by simp
  | y :: l, hm => by
    rw [List.flatMap_cons, List.length_append, hm y List.mem_cons_self, flat_len f m l (fun z hz => hm z (List.mem_cons_of_mem _ hz)), List.length_cons, Nat.add_mul]
    omega
theorem to_call {P : Program} {d : Option Tmp} {c : Call} {T : TypeId} {ps : String} {af : Array Edge} {gd : Option (Nat × Bool)} (h : WOp P ⟨d, .call c, T, ps, af, gd⟩ a w K Q) : Oper.wp P ⟨d, .call c, T, ps, af, gd⟩ a w K Q := h
theorem wo_vis {f x : Operand} {tt : Array TypeId} {KF : FuncId} {first cap : Array Value} {v : Value} (ho : o.op = .call { callee := .value f, args := #[x], argTypes := tt }) (hf : a.eval f = .func (.func KF) first cap) (hx : a.eval x = v) (hrun : ∀ args w, (callFunc KF args).run Try.prog w = .ok (.enter KF args) w)
    (HC : Calls Try.prog KF (first ++ #[v] ++ cap) w fun e w' => ∃ u, e = .returned u ∧ K (a.put o.dst u) w') : WOp Try.prog o a w K Q := by
  unfold WOp Oper.wp execOp
  simp only [ho, resolve, hf, hx, Deferred.ofValue, Sem.run_bind, Sem.run_pure, Result.andThen_ok, invoke, List.map_toArray, List.map_cons, List.map_nil, hrun]
  rw [Oper.upon_enter]
  refine HC.mono fun e w' h => ?_
  obtain ⟨u, rfl, h⟩ := h
  exact h
end
end Go.Proofs.Ythipoccbeloceaa
