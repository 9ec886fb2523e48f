/- Several texts put together: LexM. -/
import Derived.Test.YthipoccbeloceaaBu1
import Derived.Test.YthipoccbeloceaaBu9
import Derived.Test.YthipoccbeloceaaBu8
import Derived.Test.YthipoccbeloceaaBu10
import Derived.Test.YthipoccbeloceaaBu6
import Derived.BigQuiet
set_option linter.unusedSimpArgs false
set_option linter.unusedVariables false
namespace Go.Proofs.Ythipoccbeloceaa
open Go.RowKit
structure NS (g : Nat) (src : List Nat) (a : Nat) (V : Value) (B : Nat) (A : Option Addr) (n : Nat) (xs : List Value) (W : World) : Prop where
  r : RdrS W g src a V
  t : Reads W B 6 A n xs
theorem numL_le (l : List Nat) : numL l ≤ l.length := by
  unfold numL
  have h1 : (l.takeWhile isDig).length ≤ l.length := (List.takeWhile_prefix _).length_le
  dsimp only
  split
  · rename_i r e
    have h2 : (r.takeWhile isDig).length ≤ r.length := (List.takeWhile_prefix _).length_le
    have h3 := congrArg List.length e
    rw [List.length_drop, List.length_cons] at h3
    omega
  · exact h1
def numRes (a : Nat) (l : List Nat) : Except Int (TokF × Nat) := if 0 < nW (l.take (numL l)) + nB (l.take (numL l)) ∧ 30 < (strip (wholeL (l.take (numL l)))).length then .error 2 else .ok (⟨2, a, [], numZ (l.take (numL l))⟩, numL l)
def signRes (a : Nat) (l : List Nat) : Except Int (TokF × Nat) := if signN l = 0 then .error 4 else .ok (⟨9, a, l.take (signN l), 0⟩, signN l)
section
variable {g : Nat} {src : List Nat} {a : Nat} {V : Value} {A : Option Addr} {T : List Nat} {w w' w0 W : World} {bs : List Bx} {rs : List Rw} {F : List Cold} {TT : Ending → World → Prop}
theorem number_l (w : World) (m : RdrS w g src a V) (ha : a < src.length) : Calls Try.prog 43 #[.pointer (some ⟨g, 0, none⟩)] w (LexPost g src a V (numRes a (src.drop a)) w) := by
  refine (number_r w m ha).mono fun e w' hp => ?_
  unfold numRes
  rcases hp with ⟨h1, h2, h3, h4⟩ | ⟨h1, h2, h3, h4⟩
  · rw [if_pos ⟨h1, h2⟩]
    exact ⟨h3, h4⟩
  · rw [if_neg h1]
    rw [List.length_take, Nat.min_eq_left (numL_le _)] at h3
    exact ⟨h2, h3, h4⟩
theorem sign_l (w : World) (m : RdrS w g src a V) (ha : a < src.length) : Calls Try.prog 49 #[.pointer (some ⟨g, 0, none⟩)] w (LexPost g src a V (signRes a (src.drop a)) w) := by
  refine (sign_r w m ha).mono fun e w' hp => ?_
  unfold signRes
  rcases hp with ⟨h1, h3, h4⟩ | ⟨h1, h2, h3, h4⟩
  · rw [if_pos h1]
    exact ⟨h3, h4⟩
  · rw [if_neg h1]
    exact ⟨h2, h3, h4⟩
theorem NS.loc {B n m : Nat} {xs : List Value} (hn : g < m) (hB : B ≤ m) : Loc (NS g src a V B A n xs) m := by
  intro w w' hb hs h
  exact ⟨h.r.same (fun b hb2 => hb b (by omega)) hs, h.t.keep fun p hp => World.cell?_of_block (hb p.block (by omega))⟩
theorem arm_lex {KF : FuncId} {args : Array Value} {r : Except Int (TokF × Nat)} {S : World → Prop} (HC : Hid (∀ W, RdrS W g src a V → Calls Try.prog KF args W (LexPost g src a V r W))) (HO : Hid (Own w0 [g] S bs rs F w)) (hS : ∀ W, S W → RdrS W g src a V) (hg : g < w0.heap.size)
    (hok : ∀ t n W, Hid (r = .ok (t, n)) → Hid (Own w0 [g] (LS g src (a + n) V none []) bs rs F W) → TT (.returned (.tuple #[.agg #[.int .i64 ((TokF.k t : Nat) : Int), .int .i64 ((TokF.at' t : Nat) : Int), .string (strN (TokF.s t)), .bool (zn (TokF.z t)), .int .u64 (zh (TokF.z t)), .int .u64 (zl (TokF.z t))], .nilIface])) W)
    (herr : ∀ k b W, Hid (r = .error k) → Hid (Own w0 [g] (fun _ => True) bs rs (Cold.flt (.iface 74 (.pointer (some ⟨b, 0, none⟩))) a k :: F) W) → TT (.returned (.tuple #[.agg #[.int .i64 0, .int .i64 0, .string { data := #[] }, .bool false, .int .u64 0, .int .u64 0], .iface 74 (.pointer (some ⟨b, 0, none⟩))])) W) : Calls Try.prog KF args w TT := by
  refine (HC.out w (hS w HO.out.st)).mono fun e W hp => ?_
  have hY : ∀ y ∈ [g], y ∈ [g] ∧ y < w0.heap.size := fun y hy => ⟨hy, by rw [List.mem_singleton.1 hy]; exact hg⟩
  cases r with
  | error k =>
    obtain ⟨⟨v, rfl, b, rfl, hb, hk⟩, hu⟩ := hp
    rw [tokV_0]
    have h1 := HO.out.call (Y := [g]) (S' := fun _ => True) hY (Kept.of_upd hu) trivial (fun _ _ _ _ _ => trivial)
    exact herr k b W (Lib.hid rfl) (Lib.hid (h1.addCold (Cold.flt (.iface 74 (.pointer (some ⟨b, 0, none⟩))) a k) w.heap.size HO.out.kept.size (fun b hb => (HO.out.hot_lt b hb).2) ⟨b, rfl, ⟨hb, hk.lt⟩, hk⟩))
  | ok tn =>
    obtain ⟨t, n⟩ := tn
    obtain ⟨rfl, h2, hu⟩ := hp
    exact hok t n W (Lib.hid rfl) (Lib.hid (HO.out.call (Y := [g]) (S' := LS g src (a + n) V none []) hY (Kept.of_upd hu) ⟨h2, ⟨by simp, fun h => absurd h (by simp)⟩⟩ (LS.loc hg)))
end
theorem nextL_eq {last : Option TokF} {src : List Nat} {a : Nat} (ha : a < src.length) : nextL last a (src.drop a) = if src[a] = 10 then .ok (⟨1, a, [], 0⟩, 1) else if isDig src[a] = true ∨ (src[a] = 46 ∧ isDig (src.getD (a + 1) 0) = true) then numRes a (src.drop a) else if src[a] = 34 then textL src a else if src[a] = 47 ∧ operandL last = true then regL src a else if isLet src[a] = true then .ok (⟨nameK (src.drop a), a, (src.drop a).take (nameN (src.drop a)), 0⟩, nameN (src.drop a)) else signRes a (src.drop a) := by
  have hyd : (src.drop (a + 1)).getD 0 0 = src.getD (a + 1) 0 := by rw [List.getD_eq_getElem?_getD, List.getElem?_drop, List.getD_eq_getElem?_getD]
  unfold numRes textL regL signRes
  rw [List.drop_eq_getElem_cons ha]
  unfold nextL
  dsimp only
  rw [hyd]
  cases quotN 34 (src.drop (a + 1)) <;> cases quotN 47 (src.drop (a + 1)) <;> dsimp only
section
variable {g : Nat} {src : List Nat} {a : Nat} {V : Value} {A : Option Addr} {B n : Nat} {xs : List Value} {w w' w0 W : World} {bs : List Bx} {rs : List Rw} {F : List Cold} {K : Act → World → Prop} {act : Act} {P : Program} {o : Oper} {Q : Exit → Act → World → Prop}
theorem own_st' {X : List Nat} {S S' : World → Prop} (h : Own w0 X S bs rs F w) (hl : Loc S' w0.heap.size) (hs : S' w) : Own w0 X S' bs rs F w := ⟨h.kept, hl, hs, h.box, h.base, h.row, h.nodup, h.cold⟩
theorem Own.ofNS (h : Own w0 [g] (NS g src a V B A n xs) bs rs F w) (hg : g < w0.heap.size) : Own w0 [g] (LS g src a V none []) bs rs F w := own_st' h (LS.loc hg) ⟨h.st.r, ⟨by simp, fun h => absurd h (by simp)⟩⟩
theorem lo_loadNS (HO : Hid (Own w0 [g] (NS g src a V B A n xs) bs rs F w)) {ty : TypeId} {x : Operand} (ho : o.op = .load ty x) (hx : act.eval x = .pointer (some ⟨g, 1, none⟩)) (hd : ∀ w, (isAgg ty).run P w = .ok false w) (h : K (act.put o.dst (.int .i64 (a : Int))) w) : WOp P o act w K Q := by
  obtain ⟨A, c, b, _⟩ := HO.out.st.r.box
  have k1 := b.c1
  unfold WOp Oper.wp execOp
  simp only [ho, hx, Instr.loadAt, Instr.sureAddr, Sem.run_bind, Sem.run_pure, Result.andThen_ok, loadVar, hd w, Bool.false_eq_true, if_false, run_load, k1]
  exact h
theorem lo_storeNS (HO : Hid (Own w0 [g] (NS g src a V B A n xs) bs rs F w)) (hg : g < w0.heap.size) {ty : TypeId} {x y : Operand} (ho : o.op = .store ty x y) (hdst : o.dst = none) (hx : act.eval x = .pointer (some ⟨g, 1, none⟩)) {v : Int} (hy : act.eval y = .int .i64 v) (hs : ∀ w, (sizeOf ty).run P w = .ok 1 w) (a' : Nat) (hv : v = (a' : Int))
    (h : ∀ W, Hid (Own w0 [g] (LS g src a' V none []) bs rs F W) → K act W) : WOp P o act w K Q := lo_storeA (Lib.hid (HO.out.ofNS hg)) hg ho hdst hx hy hs a' hv h
end
set_option maxRecDepth 100000 in
set_option maxHeartbeats 3200000 in
theorem next_r {g : Nat} {src : List Nat} {a : Nat} {A : Option Addr} {c : Nat} {ts : List TokF} (w : World) (m : RdrS w g src a (.slice A ts.length c)) (ha : a < src.length) (hr : Reads w w.heap.size 6 A ts.length (ts.flatMap tokC)) (hc : ts.length ≤ c) (hm : ts.length ≤ 1000000) (hts : ∀ t ∈ ts, ∀ x ∈ t.s, x < 256) :
    Calls Try.prog 29 #[.pointer (some ⟨g, 0, none⟩)] w (LexPost g src a (.slice A ts.length c) (nextL ts.getLast? a (src.drop a)) w) := by
  obtain ⟨R, hR⟩ : ∃ R, nextL ts.getLast? a (src.drop a) = R := ⟨_, rfl⟩
  rw [hR]
  have hg := m.lt
  have hlen := m.len
  have HB8 := Lib.hid m.byte
  have HO : Hid (Own w [g] (NS g src a (.slice A ts.length c) w.heap.size A ts.length (ts.flatMap tokC)) [] [] [] w) := Lib.hid (Own.init ⟨m, hr⟩ (NS.loc hg (Nat.le_refl _)))
  rw [nextL_eq ha] at hR
  clear m hr
  obtain ⟨y, hy⟩ : ∃ y, y = src.getD (a + 1) 0 := ⟨_, rfl⟩
  have hy8 : y < 256 := by rw [hy]; exact getD_lt HB8.out _
  obtain ⟨rT, hT⟩ : ∃ r, r = textL src a := ⟨_, rfl⟩
  obtain ⟨rX, hX⟩ : ∃ r, r = regL src a := ⟨_, rfl⟩
  obtain ⟨rN, hN⟩ : ∃ r, r = numRes a (src.drop a) := ⟨_, rfl⟩
  obtain ⟨rS, hS⟩ : ∃ r, r = signRes a (src.drop a) := ⟨_, rfl⟩
  obtain ⟨tn, htn⟩ : ∃ t, t = (⟨nameK (src.drop a), a, (src.drop a).take (nameN (src.drop a)), 0⟩ : TokF) := ⟨_, rfl⟩
  obtain ⟨nn, hnn⟩ : ∃ n, n = nameN (src.drop a) := ⟨_, rfl⟩
  obtain ⟨op, hop⟩ : ∃ b, b = operandL ts.getLast? := ⟨_, rfl⟩
  have HBY : Hid (∀ W (v : Int), v = (a : Int) + 1 → RdrS W g src a (.slice A ts.length c) → Calls Try.prog 41 #[.pointer (some ⟨g, 0, none⟩), .int .i64 v] W fun e w' => e = .returned (.int .u8 (y : Int)) ∧ w' = W) := Lib.hid (fun W v hv m => by rw [hy]; exact byteAt_at W m (a + 1) v hv)
  have HW1 : Hid (IntKind.i64.wrap ((a : Int) + 1) = (a : Int) + 1) := Lib.hid (IntWalk.i64_in _ (by omega))
  have HTX : Hid (∀ W, RdrS W g src a (.slice A ts.length c) → Calls Try.prog 44 #[.pointer (some ⟨g, 0, none⟩)] W (LexPost g src a (.slice A ts.length c) rT W)) := Lib.hid (fun W m => by rw [hT]; exact text_r W m ha)
  have HRX : Hid (∀ W, RdrS W g src a (.slice A ts.length c) → Calls Try.prog 46 #[.pointer (some ⟨g, 0, none⟩)] W (LexPost g src a (.slice A ts.length c) rX W)) := Lib.hid (fun W m => by rw [hX]; exact regex_r W m ha)
  have HNU : Hid (∀ W, RdrS W g src a (.slice A ts.length c) → Calls Try.prog 43 #[.pointer (some ⟨g, 0, none⟩)] W (LexPost g src a (.slice A ts.length c) rN W)) := Lib.hid (fun W m => by rw [hN]; exact number_l W m ha)
  have HSI : Hid (∀ W, RdrS W g src a (.slice A ts.length c) → Calls Try.prog 49 #[.pointer (some ⟨g, 0, none⟩)] W (LexPost g src a (.slice A ts.length c) rS W)) := Lib.hid (fun W m => by rw [hS]; exact sign_l W m ha)
  have HNA : Hid (∀ W, RdrS W g src a (.slice A ts.length c) → Calls Try.prog 48 #[.pointer (some ⟨g, 0, none⟩)] W fun e w' => e = .returned (tokV tn) ∧ RdrS w' g src (a + nn) (.slice A ts.length c) ∧ Upd g none W w') := Lib.hid (fun W m => by rw [htn, hnn]; exact name_r W m (Nat.le_of_lt ha))
  have HOP : Hid (∀ W, NS g src a (.slice A ts.length c) w.heap.size A ts.length (ts.flatMap tokC) W → w.heap.size ≤ W.heap.size → Calls Try.prog 45 #[.pointer (some ⟨g, 0, none⟩)] W fun e w' => e = .returned (.bool op) ∧ Below W.heap.size W w') := Lib.hid (fun W h hB => by rw [hop]; obtain ⟨A1, c1, bx, _⟩ := h.r.box; exact operand_r W bx.c2 bx.z h.t hB hc hm hts)
  rw [← hy, ← hT, ← hX, ← hN, ← hS, ← hnn, ← hop] at hR
  rw [← hnn] at htn
  rw [← htn] at hR
  clear hy hT hX hN hS htn hnn hop hts hm
  obtain ⟨x, hx⟩ : ∃ x, x = src[a] := ⟨_, rfl⟩
  rw [← hx] at hR
  have hx8 : x < 256 := by rw [hx]; exact HB8.out _ (List.getElem_mem ha)
  have HX := Lib.hid hx
  have HL := Lib.hid (fun W => letter_any x hx8 W)
  have HD := Lib.hid (fun W => digit_any x hx8 W)
  have HDY := Lib.hid (fun W => digit_any y hy8 W)
  clear hx
  go_enter Try.func29, Try.ntmps29
  (repeat' (go_not_at_region 1; first | ((with_reducible refine zG ?_); first | refine oWx ?_ | (refine oWs ?_; clear HO; intro _ HO)) | go_values | go_skip | go_guarded | go_step | go_upon | (go_ite <;> go_prune <;> (try go_simp))))
  obtain ⟨ad, c2, sb, qo, sp, k0, k1, kf, kz, hq, k2, hsg, hsc, hd, hw1⟩ := HO.out.st.r.openi ha
  rw [← HX.out] at k2
  clear hw1 kf
  have HR := Lib.hid hR
  clear hR
  have HK2 := Lib.hid k2
  have HK0 := Lib.hid k0
  have HK1 := Lib.hid k1
  clear k0 k1 k2
  rename_i W0 K0 hK0
  refine wp_region_held_drew (S := (fun w' => w'.cell? ⟨g, 0, none⟩ = some (.slice (some ad) src.length c2) ∧ w'.cell? ⟨g, 1, none⟩ = some (.int .i64 (a : Int)) ∧ w'.cell? ⟨sb, qo, sp⟩ = some (.int .u8 (x : Int)))) (by kernel_rfl) ?_ (fun hHeld => ?_)
  · (try dsimp only)
    (first | (with_reducible assumption) | exact ⟨HK0.out, HK1.out, HK2.out⟩)
  refine h4_b [0, 1, 2, 3, 4, 5, 6, 7, 8, 9, 10, 11, 12, 13, 14, 15] ?_
  (repeat (refine h4_p rfl (by kernel_rfl) (fun _ _ _ h => h) (by rfl) hHeld (by intro wS hSw; obtain ⟨k0, k1, k2⟩ := hSw; go_simp; (try with_reducible rfl)) ?_; (try simp only [Act.put, List.setIfInBounds_toArray, List.set_cons_zero, List.set_cons_succ])))
  refine h4_e ?_
  refine wpAnyH_ready (rs := [16]) (by kernel_rfl) (by simp) ?_
  refine (h4_cons rfl (fun K hK => ?_) AllReadyH.nil)
  go_simp
  ((go_at_call 41; with_reducible refine (HBY.out _ _ (by first | (with_reducible rfl) | exact HW1.out) HO.out.drew.st.r).mono ?_; rintro e W2 ⟨rfl, rfl⟩))
  (try go_wp2_with fail)
  refine hK.out _ _ ?_ (fun hHeld1 => ?_)
  · (try dsimp only)
    (first | (with_reducible assumption) | exact ⟨HK0.out, HK1.out, HK2.out⟩)
  clear hK K hHeld
  try simp only [Act.put, List.setIfInBounds_toArray, List.set_cons_zero, List.set_cons_succ]
  refine h4_b [17, 18] ?_
  (repeat (refine h4_p rfl (by kernel_rfl) (fun _ _ _ h => h) (by rfl) hHeld1 (by intro wS hSw; obtain ⟨k0, k1, k2⟩ := hSw; go_simp; (try with_reducible rfl)) ?_; (try simp only [Act.put, List.setIfInBounds_toArray, List.set_cons_zero, List.set_cons_succ])))
  refine h4_e ?_
  refine wpAnyH_done (by kernel_rfl) ?_ _
  replace HO := Lib.hid HO.out.drew
  clear HK0 HK1 HK2 hHeld1
  generalize W0.drew = W1 at HO ⊢
  by_cases h10 : x = 10
  · have n10 : ((x : Int) == 10) = true := by rw [h10]; rfl
    have HR2 : Hid (R = .ok (⟨1, a, [], 0⟩, 1)) := Lib.hid (by have := HR.out; rw [if_pos h10] at this; exact this.symm)
    clear HR h10
    (repeat' (first | ((with_reducible refine zG ?_); first | refine oWx ?_ | (refine oWs ?_; clear HO; intro _ HO)) | ((with_reducible refine to_load ?_); (first | (refine lo_loadNS HO rfl rfl Try.isAgg3 ?_; (try simp only [Act.put, pS])) | (refine lo_loadA HO rfl rfl Try.isAgg3 ?_; (try simp only [Act.put, pS]))); (try simp only [Act.put, pS])) | ((with_reducible refine to_store ?_); first | (refine lo_storeNS HO hg rfl rfl rfl rfl Try.sizeOf3 (a + 1) (by first | rfl | exact HW1.out) ?_; clear HO; intro _ HO)) | go_values | go_skip | go_guarded | go_step | go_upon | (go_ite <;> go_prune <;> (try go_simp))))
    refine bp_cellT HO (t := 2) (s := 3) rfl rfl rfl mM Try.isAgg89 Try.sizeOf89 (by rfl) rfl ?_
    rw [HR2.out]
    exact ⟨by rw [tokV_0]; rfl, HO.out.st.r, Upd.of_kept HO.out.kept⟩
  · have n10 : ((x : Int) == 10) = false := by rw [beq_eq_false_iff_ne]; exact fun e => h10 (by exact_mod_cast e)
    replace HR := Lib.hid (by have := HR.out; rw [if_neg h10] at this; exact this)
    clear h10
    by_cases h46 : x = 46
    · subst h46
      have e46 : isDig 46 = false := rfl
      have l46 : isLet 46 = false := rfl
      rw [e46] at HD
      rw [l46] at HL
      cases hyd : isDig y
      · rw [hyd] at HDY HR
        replace HR : Hid (rS = R) := Lib.hid (by have := HR.out; simpa [e46, l46] using this)
        clear hyd e46 l46
        (repeat' (first | ((with_reducible refine zG ?_); first | refine oWx ?_ | (refine oWs ?_; clear HO; intro _ HO)) | ((go_big_may; first | (go_at_call 49; refine arm_lex HSI HO (fun _ h => h.r) hg ?_ ?_; (clear HO; intro t n W HE HO); rotate_left; (clear HO; intro k b W HE HO); rotate_left) | (go_at_call 45; refine (HOP.out _ HO.out.st HO.out.kept.size).mono ?_; rintro e W2 ⟨rfl, q2⟩; replace HO := Lib.hid (HO.out.next q2); clear q2) | (go_at_call 42; first | (refine (HD.out _).mono ?_; rintro e W2 ⟨rfl, rfl⟩) | (refine (HDY.out _).mono ?_; rintro e W2 ⟨rfl, rfl⟩)) | (go_at_call 47; refine (HL.out _).mono ?_; rintro e W2 ⟨rfl, rfl⟩) | fail) <;> (try dsimp only)) | go_values | go_skip | go_guarded | go_step | go_upon | (go_ite <;> go_prune <;> (try go_simp))))
        · refine bp_cellT HO (t := 2) (s := 3) rfl rfl rfl mM Try.isAgg89 Try.sizeOf89 (by rfl) rfl ?_
          rw [← HR.out, HE.out]
          exact ⟨rfl, HO.out.st.r, Upd.of_kept HO.out.kept⟩
        · refine bp_cellT HO (t := 2) (s := 3) rfl rfl rfl mM Try.isAgg89 Try.sizeOf89 (by rfl) rfl ?_
          rw [← HR.out, HE.out]
          exact ⟨⟨_, by rw [tokV_0]; rfl, HO.out.flt mM⟩, Upd.of_kept HO.out.kept⟩
      · rw [hyd] at HDY HR
        replace HR : Hid (rN = R) := Lib.hid (by have := HR.out; simpa using this)
        clear hyd e46 l46
        (repeat' (first | ((with_reducible refine zG ?_); first | refine oWx ?_ | (refine oWs ?_; clear HO; intro _ HO)) | ((go_big_may; first | (go_at_call 43; refine arm_lex HNU HO (fun _ h => h.r) hg ?_ ?_; (clear HO; intro t n W HE HO); rotate_left; (clear HO; intro k b W HE HO); rotate_left) | (go_at_call 45; refine (HOP.out _ HO.out.st HO.out.kept.size).mono ?_; rintro e W2 ⟨rfl, q2⟩; replace HO := Lib.hid (HO.out.next q2); clear q2) | (go_at_call 42; first | (refine (HD.out _).mono ?_; rintro e W2 ⟨rfl, rfl⟩) | (refine (HDY.out _).mono ?_; rintro e W2 ⟨rfl, rfl⟩)) | (go_at_call 47; refine (HL.out _).mono ?_; rintro e W2 ⟨rfl, rfl⟩) | fail) <;> (try dsimp only)) | go_values | go_skip | go_guarded | go_step | go_upon | (go_ite <;> go_prune <;> (try go_simp))))
        · refine bp_cellT HO (t := 2) (s := 3) rfl rfl rfl mM Try.isAgg89 Try.sizeOf89 (by rfl) rfl ?_
          rw [← HR.out, HE.out]
          exact ⟨rfl, HO.out.st.r, Upd.of_kept HO.out.kept⟩
        · refine bp_cellT HO (t := 2) (s := 3) rfl rfl rfl mM Try.isAgg89 Try.sizeOf89 (by rfl) rfl ?_
          rw [← HR.out, HE.out]
          exact ⟨⟨_, by rw [tokV_0]; rfl, HO.out.flt mM⟩, Upd.of_kept HO.out.kept⟩
    · have n46 : ((x : Int) == 46) = false := by rw [beq_eq_false_iff_ne]; exact fun e => h46 (by exact_mod_cast e)
      cases hxd : isDig x
      · rw [hxd] at HD HR
        replace HR := Lib.hid (by have := HR.out; rw [if_neg (fun h => h.elim (fun h => by cases h) (fun h => h46 h.1))] at this; exact this)
        by_cases h34 : x = 34
        · have n34 : ((x : Int) == 34) = true := by rw [h34]; rfl
          replace HR : Hid (rT = R) := Lib.hid (by have := HR.out; rw [if_pos h34] at this; exact this)
          clear hxd h34 h46
          (repeat' (first | ((with_reducible refine zG ?_); first | refine oWx ?_ | (refine oWs ?_; clear HO; intro _ HO)) | ((go_big_may; first | (go_at_call 44; refine arm_lex HTX HO (fun _ h => h.r) hg ?_ ?_; (clear HO; intro t n W HE HO); rotate_left; (clear HO; intro k b W HE HO); rotate_left) | (go_at_call 45; refine (HOP.out _ HO.out.st HO.out.kept.size).mono ?_; rintro e W2 ⟨rfl, q2⟩; replace HO := Lib.hid (HO.out.next q2); clear q2) | (go_at_call 42; first | (refine (HD.out _).mono ?_; rintro e W2 ⟨rfl, rfl⟩) | (refine (HDY.out _).mono ?_; rintro e W2 ⟨rfl, rfl⟩)) | (go_at_call 47; refine (HL.out _).mono ?_; rintro e W2 ⟨rfl, rfl⟩) | fail) <;> (try dsimp only)) | go_values | go_skip | go_guarded | go_step | go_upon | (go_ite <;> go_prune <;> (try go_simp))))
          · refine bp_cellT HO (t := 2) (s := 3) rfl rfl rfl mM Try.isAgg89 Try.sizeOf89 (by rfl) rfl ?_
            rw [← HR.out, HE.out]
            exact ⟨rfl, HO.out.st.r, Upd.of_kept HO.out.kept⟩
          · refine bp_cellT HO (t := 2) (s := 3) rfl rfl rfl mM Try.isAgg89 Try.sizeOf89 (by rfl) rfl ?_
            rw [← HR.out, HE.out]
            exact ⟨⟨_, by rw [tokV_0]; rfl, HO.out.flt mM⟩, Upd.of_kept HO.out.kept⟩
        · have n34 : ((x : Int) == 34) = false := by rw [beq_eq_false_iff_ne]; exact fun e => h34 (by exact_mod_cast e)
          replace HR := Lib.hid (by have := HR.out; rw [if_neg h34] at this; exact this)
          by_cases h47 : x = 47
          · have n47 : ((x : Int) == 47) = true := by rw [h47]; rfl
            cases hop : op
            · rw [hop] at HOP
              replace HR : Hid (rS = R) := Lib.hid (by have := HR.out; rw [hop, if_neg (fun h => by cases h.2), h47, if_neg (by decide)] at this; exact this)
              have l47 : isLet x = false := by rw [h47]; rfl
              rw [l47] at HL
              clear l47 hxd h34 h46 h47 hop
              (repeat' (first | ((with_reducible refine zG ?_); first | refine oWx ?_ | (refine oWs ?_; clear HO; intro _ HO)) | ((go_big_may; first | (go_at_call 49; refine arm_lex HSI HO (fun _ h => h.r) hg ?_ ?_; (clear HO; intro t n W HE HO); rotate_left; (clear HO; intro k b W HE HO); rotate_left) | (go_at_call 45; refine (HOP.out _ HO.out.st HO.out.kept.size).mono ?_; rintro e W2 ⟨rfl, q2⟩; replace HO := Lib.hid (HO.out.next q2); clear q2) | (go_at_call 42; first | (refine (HD.out _).mono ?_; rintro e W2 ⟨rfl, rfl⟩) | (refine (HDY.out _).mono ?_; rintro e W2 ⟨rfl, rfl⟩)) | (go_at_call 47; refine (HL.out _).mono ?_; rintro e W2 ⟨rfl, rfl⟩) | fail) <;> (try dsimp only)) | go_values | go_skip | go_guarded | go_step | go_upon | (go_ite <;> go_prune <;> (try go_simp))))
              · refine bp_cellT HO (t := 2) (s := 3) rfl rfl rfl mM Try.isAgg89 Try.sizeOf89 (by rfl) rfl ?_
                rw [← HR.out, HE.out]
                exact ⟨rfl, HO.out.st.r, Upd.of_kept HO.out.kept⟩
              · refine bp_cellT HO (t := 2) (s := 3) rfl rfl rfl mM Try.isAgg89 Try.sizeOf89 (by rfl) rfl ?_
                rw [← HR.out, HE.out]
                exact ⟨⟨_, by rw [tokV_0]; rfl, HO.out.flt mM⟩, Upd.of_kept HO.out.kept⟩
            · rw [hop] at HOP
              replace HR : Hid (rX = R) := Lib.hid (by have := HR.out; rw [hop, if_pos ⟨h47, rfl⟩] at this; exact this)
              clear hxd h34 h46 h47 hop
              (repeat' (first | ((with_reducible refine zG ?_); first | refine oWx ?_ | (refine oWs ?_; clear HO; intro _ HO)) | ((go_big_may; first | (go_at_call 46; refine arm_lex HRX HO (fun _ h => h.r) hg ?_ ?_; (clear HO; intro t n W HE HO); rotate_left; (clear HO; intro k b W HE HO); rotate_left) | (go_at_call 45; refine (HOP.out _ HO.out.st HO.out.kept.size).mono ?_; rintro e W2 ⟨rfl, q2⟩; replace HO := Lib.hid (HO.out.next q2); clear q2) | (go_at_call 42; first | (refine (HD.out _).mono ?_; rintro e W2 ⟨rfl, rfl⟩) | (refine (HDY.out _).mono ?_; rintro e W2 ⟨rfl, rfl⟩)) | (go_at_call 47; refine (HL.out _).mono ?_; rintro e W2 ⟨rfl, rfl⟩) | fail) <;> (try dsimp only)) | go_values | go_skip | go_guarded | go_step | go_upon | (go_ite <;> go_prune <;> (try go_simp))))
              · refine bp_cellT HO (t := 2) (s := 3) rfl rfl rfl mM Try.isAgg89 Try.sizeOf89 (by rfl) rfl ?_
                rw [← HR.out, HE.out]
                exact ⟨rfl, HO.out.st.r, Upd.of_kept HO.out.kept⟩
              · refine bp_cellT HO (t := 2) (s := 3) rfl rfl rfl mM Try.isAgg89 Try.sizeOf89 (by rfl) rfl ?_
                rw [← HR.out, HE.out]
                exact ⟨⟨_, by rw [tokV_0]; rfl, HO.out.flt mM⟩, Upd.of_kept HO.out.kept⟩
          · have n47 : ((x : Int) == 47) = false := by rw [beq_eq_false_iff_ne]; exact fun e => h47 (by exact_mod_cast e)
            replace HR := Lib.hid (by have := HR.out; rw [if_neg (fun h => h47 h.1)] at this; exact this)
            cases hlt : isLet x
            · rw [hlt] at HL HR
              replace HR : Hid (rS = R) := Lib.hid (by have := HR.out; rw [if_neg (by decide)] at this; exact this)
              clear hlt hxd h34 h46 h47
              (repeat' (first | ((with_reducible refine zG ?_); first | refine oWx ?_ | (refine oWs ?_; clear HO; intro _ HO)) | ((go_big_may; first | (go_at_call 49; refine arm_lex HSI HO (fun _ h => h.r) hg ?_ ?_; (clear HO; intro t n W HE HO); rotate_left; (clear HO; intro k b W HE HO); rotate_left) | (go_at_call 45; refine (HOP.out _ HO.out.st HO.out.kept.size).mono ?_; rintro e W2 ⟨rfl, q2⟩; replace HO := Lib.hid (HO.out.next q2); clear q2) | (go_at_call 42; first | (refine (HD.out _).mono ?_; rintro e W2 ⟨rfl, rfl⟩) | (refine (HDY.out _).mono ?_; rintro e W2 ⟨rfl, rfl⟩)) | (go_at_call 47; refine (HL.out _).mono ?_; rintro e W2 ⟨rfl, rfl⟩) | fail) <;> (try dsimp only)) | go_values | go_skip | go_guarded | go_step | go_upon | (go_ite <;> go_prune <;> (try go_simp))))
              · refine bp_cellT HO (t := 2) (s := 3) rfl rfl rfl mM Try.isAgg89 Try.sizeOf89 (by rfl) rfl ?_
                rw [← HR.out, HE.out]
                exact ⟨rfl, HO.out.st.r, Upd.of_kept HO.out.kept⟩
              · refine bp_cellT HO (t := 2) (s := 3) rfl rfl rfl mM Try.isAgg89 Try.sizeOf89 (by rfl) rfl ?_
                rw [← HR.out, HE.out]
                exact ⟨⟨_, by rw [tokV_0]; rfl, HO.out.flt mM⟩, Upd.of_kept HO.out.kept⟩
            · rw [hlt] at HL HR
              replace HR : Hid (.ok (tn, nn) = R) := Lib.hid (by have := HR.out; rw [if_pos rfl] at this; exact this)
              clear hlt hxd h34 h46 h47
              (repeat' (first | ((with_reducible refine zG ?_); first | refine oWx ?_ | (refine oWs ?_; clear HO; intro _ HO)) | ((go_big_may; first | (go_at_call 48; refine (HNA.out _ HO.out.st.r).mono ?_; rintro e W2 ⟨rfl, hnr, hnu⟩; replace HO := Lib.hid (HO.out.call (Y := [g]) (S' := LS g src (a + nn) (.slice A ts.length c) none []) (fun y hy => ⟨hy, by rw [List.mem_singleton.1 hy]; exact hg⟩) (Kept.of_upd hnu) ⟨hnr, ⟨by simp, fun h => absurd h (by simp)⟩⟩ (LS.loc hg)); clear hnr hnu; (try simp only [tokV])) | (go_at_call 45; refine (HOP.out _ HO.out.st HO.out.kept.size).mono ?_; rintro e W2 ⟨rfl, q2⟩; replace HO := Lib.hid (HO.out.next q2); clear q2) | (go_at_call 42; first | (refine (HD.out _).mono ?_; rintro e W2 ⟨rfl, rfl⟩) | (refine (HDY.out _).mono ?_; rintro e W2 ⟨rfl, rfl⟩)) | (go_at_call 47; refine (HL.out _).mono ?_; rintro e W2 ⟨rfl, rfl⟩) | fail) <;> (try dsimp only)) | go_values | go_skip | go_guarded | go_step | go_upon | (go_ite <;> go_prune <;> (try go_simp))))
              refine bp_cellT HO (t := 2) (s := 3) rfl rfl rfl mM Try.isAgg89 Try.sizeOf89 (by rfl) rfl ?_
              rw [← HR.out]
              exact ⟨rfl, HO.out.st.r, Upd.of_kept HO.out.kept⟩
      · rw [hxd] at HD HR
        replace HR : Hid (rN = R) := Lib.hid (by have := HR.out; rw [if_pos (.inl rfl)] at this; exact this)
        clear hxd h46
        (repeat' (first | ((with_reducible refine zG ?_); first | refine oWx ?_ | (refine oWs ?_; clear HO; intro _ HO)) | ((go_big_may; first | (go_at_call 43; refine arm_lex HNU HO (fun _ h => h.r) hg ?_ ?_; (clear HO; intro t n W HE HO); rotate_left; (clear HO; intro k b W HE HO); rotate_left) | (go_at_call 45; refine (HOP.out _ HO.out.st HO.out.kept.size).mono ?_; rintro e W2 ⟨rfl, q2⟩; replace HO := Lib.hid (HO.out.next q2); clear q2) | (go_at_call 42; first | (refine (HD.out _).mono ?_; rintro e W2 ⟨rfl, rfl⟩) | (refine (HDY.out _).mono ?_; rintro e W2 ⟨rfl, rfl⟩)) | (go_at_call 47; refine (HL.out _).mono ?_; rintro e W2 ⟨rfl, rfl⟩) | fail) <;> (try dsimp only)) | go_values | go_skip | go_guarded | go_step | go_upon | (go_ite <;> go_prune <;> (try go_simp))))
        · refine bp_cellT HO (t := 2) (s := 3) rfl rfl rfl mM Try.isAgg89 Try.sizeOf89 (by rfl) rfl ?_
          rw [← HR.out, HE.out]
          exact ⟨rfl, HO.out.st.r, Upd.of_kept HO.out.kept⟩
        · refine bp_cellT HO (t := 2) (s := 3) rfl rfl rfl mM Try.isAgg89 Try.sizeOf89 (by rfl) rfl ?_
          rw [← HR.out, HE.out]
          exact ⟨⟨_, by rw [tokV_0]; rfl, HO.out.flt mM⟩, Upd.of_kept HO.out.kept⟩
end Go.Proofs.Ythipoccbeloceaa
