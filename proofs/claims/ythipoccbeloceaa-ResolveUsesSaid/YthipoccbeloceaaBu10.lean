/- Several texts put together: LexL. -/
import Derived.Test.YthipoccbeloceaaBu1
import Derived.Test.YthipoccbeloceaaBu8
import Derived.Test.YthipoccbeloceaaBu3
import Derived.Deep.CutBlock
set_option linter.unusedSimpArgs false
set_option linter.unusedVariables false
namespace Go.Proofs.Ythipoccbeloceaa
open Go.RowKit
section
variable {g : Nat} {src : List Nat} {a : Nat} {V : Value} {A : Option Addr} {T : List Nat} {w w' w0 W : World} {bs : List Bx} {rs : List Rw} {F : List Cold}
theorem Own.put {X : List Nat} {S : World → Prop} {b : Nat} {t : TypeId} {cs : List Value} (h : Own w0 X S (⟨b, t, cs⟩ :: bs) rs F w) (j : Nat) (v : Value) : Own w0 X S (⟨b, t, cs.set j v⟩ :: bs) rs F (w.setCell ⟨b, j, none⟩ v) := by
  refine h.set (Chg.head bs ⟨b, t, cs⟩ ⟨b, t, cs.set j v⟩) ?_ (by simp) ⟨rfl, rfl, rfl⟩ (fun k hk => Below.heap_setCell w _ v k hk)
  have := (h.box _ List.mem_cons_self).set_ j v
  simpa using this
end
def nK (T : List Nat) (c : Nat) : Nat := if T ∈ wordsL then 7 else if T ∈ builtL then 8 else if c = 40 then 6 else 5
def words8 : List (List UInt8) := [[66, 69, 71, 73, 78], [69, 78, 68], [79, 80, 69, 78], [67, 76, 79, 83, 69], [102, 117, 110, 99, 116, 105, 111, 110], [105, 102], [101, 108, 115, 101], [119, 104, 105, 108, 101], [102, 111, 114], [100, 111], [98, 114, 101, 97, 107], [99, 111, 110, 116, 105, 110, 117, 101], [110, 101, 120, 116], [101, 120, 105, 116], [114, 101, 116, 117, 114, 110], [100, 101, 108, 101, 116, 101], [105, 110], [103, 101, 116, 108, 105, 110, 101], [112, 114, 105, 110, 116], [112, 114, 105, 110, 116, 102]]
def built8 : List (List UInt8) := [[108, 101, 110, 103, 116, 104], [115, 117, 98, 115, 116, 114], [105, 110, 100, 101, 120], [115, 112, 108, 105, 116], [115, 117, 98], [103, 115, 117, 98], [109, 97, 116, 99, 104], [115, 112, 114, 105, 110, 116, 102], [105, 110, 116], [116, 111, 108, 111, 119, 101, 114], [116, 111, 117, 112, 112, 101, 114], [99, 108, 111, 115, 101]]
theorem words8_eq : (wordsL.map fun m => m.map UInt8.ofNat) = words8 := by decide
theorem built8_eq : (builtL.map fun m => m.map UInt8.ofNat) = built8 := by decide
theorem word_pos {T : List Nat} (hb : ∀ x ∈ T, x < 256) {L : List UInt8} (h : ((strN T).toList == L) = true) : T = L.map UInt8.toNat := by
  have h2 := eq_of_beq h
  rw [strN_list] at h2
  rw [← h2, List.map_map]
  refine (List.map_id' T).symm.trans (List.map_congr_left fun x hx => ?_)
  have := hb x hx
  simp only [Function.comp, UInt8.toNat_ofNat']
  exact (Nat.mod_eq_of_lt this).symm
theorem word_neg {T : List Nat} (hb : ∀ x ∈ T, x < 256) {L : List (List Nat)} (hL : ∀ m ∈ L, ∀ x ∈ m, x < 256) (h : ((L.map fun m => m.map UInt8.ofNat).any fun m => (strN T).toList == m) = false) : T ∉ L := by
  intro hm
  have h2 := (mem8 hb L hL).2 hm
  have : ((L.map fun m => m.map UInt8.ofNat).any fun m => (strN T).toList == m) = true := List.any_eq_true.2 ⟨_, h2, by simp⟩
  rw [h] at this
  cases this
theorem leafW {T : List Nat} {c k : Nat} (hb : ∀ x ∈ T, x < 256) {L : List UInt8} (h : ((strN T).toList == L) = true) (hk : nK (L.map UInt8.toNat) c = k) : nK T c = k := by rw [word_pos hb h]; exact hk
theorem leafN {T : List Nat} {c : Nat} (hb : ∀ x ∈ T, x < 256) (h1 : (words8.any fun m => (strN T).toList == m) = false) (h2 : (built8.any fun m => (strN T).toList == m) = false) : nK T c = if c = 40 then 6 else 5 := by
  unfold nK
  rw [if_neg (word_neg hb (by decide) (by rw [words8_eq]; exact h1)), if_neg (word_neg hb (by decide) (by rw [built8_eq]; exact h2))]
theorem own_eq {w0 w : World} {X : List Nat} {S : World → Prop} {bs : List Bx} {rs : List Rw} {F : List Cold} {b : Nat} {t : TypeId} {u v : Value} {cs : List Value} (h : Hid (Own w0 X S (⟨b, t, u :: cs⟩ :: bs) rs F w)) (e : u = v) : Hid (Own w0 X S (⟨b, t, v :: cs⟩ :: bs) rs F w) := e ▸ h
theorem nameK_eq (src : List Nat) (a : Nat) : nameK (src.drop a) = nK ((src.drop a).take (nameN (src.drop a))) (src.getD (a + nameN (src.drop a)) 0) := by
  unfold nameK nK
  have e : ((src.drop a).drop (nameN (src.drop a))).head? = some 40 ↔ src.getD (a + nameN (src.drop a)) 0 = 40 := by
    rw [List.drop_drop, List.head?_drop, List.getD_eq_getElem?_getD]
    cases h : src[a + nameN (src.drop a)]? with
    | none => simp
    | some x => simp
  simp only [e]
set_option maxRecDepth 100000 in
set_option maxHeartbeats 3200000 in
theorem name_r {g : Nat} {src : List Nat} {a : Nat} {V : Value} (w : World) (m : RdrS w g src a V) (ha : a ≤ src.length) : Calls Try.prog 48 #[.pointer (some ⟨g, 0, none⟩)] w fun e w' => e = .returned (tokV ⟨nameK (src.drop a), a, (src.drop a).take (nameN (src.drop a)), 0⟩) ∧ RdrS w' g src (a + nameN (src.drop a)) V ∧ Upd g none w w' := by
  have HO := LS.own m
  have hg := m.lt
  have hlen := m.len
  have HB8 := Lib.hid m.byte
  rw [nameK_eq]
  obtain ⟨N, hN⟩ : ∃ N, a + nameN (src.drop a) = N := ⟨_, rfl⟩
  have hT : (src.drop a).take (nameN (src.drop a)) = (src.drop a).take (N - a) := by rw [← hN]; congr 1; omega
  rw [hN, hT]
  have HN := Lib.hid hN
  clear hN m hT
  go_enter Try.func48, Try.ntmps48
  (repeat' (first | ((with_reducible refine zG ?_); first | refine oWx ?_ | (refine oWs ?_; clear HO; intro _ HO)) | ((with_reducible refine to_load ?_); (first | (refine lo_loadA HO rfl rfl Try.isAgg3 ?_; (try simp only [Act.put, pS]))); (try simp only [Act.put, pS])) | go_values | go_skip | go_guarded | go_step | go_upon | (go_ite <;> go_prune <;> (try go_simp))))
  go_loopw [] (fun W => ∃ q, a ≤ q ∧ q ≤ src.length ∧ Hid (q + nameN (src.drop q) = N) ∧ Hid (Own w [g] (LS g src q V none []) [⟨w.heap.size, 89, [.int .i64 0, .int .i64 0, .string { data := #[] }, .bool false, .int .u64 0, .int .u64 0]⟩] [] [] W)) (fun W => src.length - (intOf ((W.cell? ⟨g, 1, none⟩).getD undef)).toNat)
  case atStart => exact ⟨a, Nat.le_refl _, ha, HN, HO⟩
  case round =>
    clear HO
    obtain ⟨q, haq, hql, HQ, HO⟩ := hrel
    have HS := Lib.hid HO.out.st.r
    obtain ⟨c, hc⟩ : ∃ c, c = src.getD q 0 := ⟨_, rfl⟩
    have hc8 : c < 256 := by rw [hc]; exact getD_lt HB8.out q
    have HBY : Hid (∀ W, RdrS W g src q V → Calls Try.prog 41 #[.pointer (some ⟨g, 0, none⟩), .int .i64 (q : Int)] W fun e w' => e = .returned (.int .u8 (c : Int)) ∧ w' = W) := Lib.hid (fun W m => by rw [hc]; exact byteAt_any W m q)
    have HL := Lib.hid (fun W => letter_any c hc8 W)
    have HD := Lib.hid (fun W => digit_any c hc8 W)
    by_cases hlet : (isLet c || isDig c) = true
    · have hgo := tw_go (f := fun c => isLet c || isDig c) rfl (src := src) (q := q) (by rw [← hc]; exact hlet)
      have HQ2 : Hid (q + 1 + nameN (src.drop (q + 1)) = N) := Lib.hid (by have := HQ.out; unfold nameN at this ⊢; rw [hgo.2] at this; omega)
      have hq1 : q + 1 ≤ src.length := hgo.1
      clear hgo hc
      cases h1 : isLet c
      · rw [h1, Bool.false_or] at hlet
        rw [h1] at HL
        rw [hlet] at HD
        clear h1 hlet
        (repeat' (first | ((with_reducible refine zG ?_); first | refine oWx ?_ | (refine oWs ?_; clear HO; intro _ HO)) | ((with_reducible refine to_load ?_); (first | (refine lo_loadA HO rfl rfl Try.isAgg3 ?_; (try simp only [Act.put, pS]))); (try simp only [Act.put, pS])) | ((with_reducible refine to_store ?_); first | (refine lo_storeA HO hg rfl rfl rfl rfl Try.sizeOf3 (q + 1) (by first | rfl | (simp; done) | exact w1_nat (by omega)) ?_; clear HO; intro _ HO)) | ((go_big_may; first | (go_at_call 41; refine (HBY.out _ HO.out.st.r).mono ?_; rintro e W2 ⟨rfl, rfl⟩) | (go_at_call 47; refine (HL.out _).mono ?_; rintro e W2 ⟨rfl, rfl⟩) | (go_at_call 42; refine (HD.out _).mono ?_; rintro e W2 ⟨rfl, rfl⟩) | fail) <;> (try dsimp only)) | go_values | go_skip | go_guarded | go_step | go_upon | (go_ite <;> go_prune <;> (try go_simp))))
        go_roundw
        case rel => exact ⟨q + 1, by omega, hq1, HQ2, HO⟩
        case measure => exact measR HS.out HO.out.st.r (Nat.lt_succ_self q) hq1
      · rw [h1] at HL
        clear h1 hlet
        (repeat' (first | ((with_reducible refine zG ?_); first | refine oWx ?_ | (refine oWs ?_; clear HO; intro _ HO)) | ((with_reducible refine to_load ?_); (first | (refine lo_loadA HO rfl rfl Try.isAgg3 ?_; (try simp only [Act.put, pS]))); (try simp only [Act.put, pS])) | ((with_reducible refine to_store ?_); first | (refine lo_storeA HO hg rfl rfl rfl rfl Try.sizeOf3 (q + 1) (by first | rfl | (simp; done) | exact w1_nat (by omega)) ?_; clear HO; intro _ HO)) | ((go_big_may; first | (go_at_call 41; refine (HBY.out _ HO.out.st.r).mono ?_; rintro e W2 ⟨rfl, rfl⟩) | (go_at_call 47; refine (HL.out _).mono ?_; rintro e W2 ⟨rfl, rfl⟩) | (go_at_call 42; refine (HD.out _).mono ?_; rintro e W2 ⟨rfl, rfl⟩) | fail) <;> (try dsimp only)) | go_values | go_skip | go_guarded | go_step | go_upon | (go_ite <;> go_prune <;> (try go_simp))))
        go_roundw
        case rel => exact ⟨q + 1, by omega, hq1, HQ2, HO⟩
        case measure => exact measR HS.out HO.out.st.r (Nat.lt_succ_self q) hq1
    · have hlet' : (isLet c || isDig c) = false := by simpa using hlet
      have hst := tw_stop (f := fun c => isLet c || isDig c) (src := src) (q := q) (by rw [← hc]; exact hlet')
      have hqN : q = N := by have := HQ.out; unfold nameN at this; rw [hst] at this; exact this
      subst hqN
      obtain ⟨h1, h2⟩ := Bool.or_eq_false_iff.1 hlet'
      rw [h1] at HL
      rw [h2] at HD
      clear hlet hlet' hst h1 h2
      have HC := Lib.hid hc
      clear hc
      obtain ⟨T, hT⟩ : ∃ T, (src.drop a).take (q - a) = T := ⟨_, rfl⟩
      have hTl : T.length = q - a := by rw [← hT]; simp; omega
      have HT8 : Hid (∀ x ∈ T, x < 256) := Lib.hid (by rw [← hT]; exact fun x hx => HB8.out x (List.mem_of_mem_drop (List.mem_of_mem_take hx)))
      obtain ⟨A5, c5, k0, k1, kz, hc5, hsub⟩ := HO.out.st.r.sub
      obtain ⟨hs5, hrb⟩ := hsub a q haq hql
      rw [hT] at hrb
      have HT := Lib.hid hT
      have HNC := Lib.hid (⟨k0, HO.out.st.r, hrb⟩ : NC g src q V A5 c5 (cutA A5 c5 a) T wr)
      have HTL := Lib.hid hTl
      clear hT hTl hsub hrb k0 k1
      generalize cutA A5 c5 a = As at HNC hs5
      generalize q - a = M at HTL hs5
      generalize c5 - a = c6 at hs5
      have hgl : g < wr.heap.size := kz
      (repeat' (go_not_at_region 4; first | ((with_reducible refine zG ?_); first | refine oWx ?_ | (refine oWs ?_; clear HO; intro _ HO)) | ((with_reducible refine to_load ?_); (first | (refine lo_loadA HO rfl rfl Try.isAgg3 ?_; (try simp only [Act.put, pS]))); (try simp only [Act.put, pS])) | ((go_big_may; first | (go_at_call 41; refine (HBY.out _ HO.out.st.r).mono ?_; rintro e W2 ⟨rfl, rfl⟩) | (go_at_call 47; refine (HL.out _).mono ?_; rintro e W2 ⟨rfl, rfl⟩) | (go_at_call 42; refine (HD.out _).mono ?_; rintro e W2 ⟨rfl, rfl⟩) | fail) <;> (try dsimp only)) | go_values | go_skip | go_guarded | go_step | go_upon | (go_ite <;> go_prune <;> (try go_simp))))
      refine wp_region_held_drew (S := (fun w' => NC g src q V A5 c5 As T w')) (by kernel_rfl) ?_ (fun hHeld => ?_)
      · (try dsimp only)
        (first | (with_reducible assumption) | ((repeat' (with_reducible refine NC.far ?_ hgl _ _)); (with_reducible refine NC.next HNC.out ?_); (repeat' (first | with_reducible exact Below.refl _ _ | with_reducible refine Below.drew ?_ | with_reducible refine Below.alloc ?_ ?_ _ | with_reducible exact Nat.le_refl _ | (simp; done))); done))
      refine h4_b [0, 1, 2, 3, 4, 5, 6, 7, 8, 9, 10, 11, 12] ?_
      (repeat (refine h4_p rfl (by kernel_rfl) (fun _ _ _ h => h) (by rfl) hHeld (by intro wS hSw; have k0 := hSw.c0; have k1 := hSw.at_; have kz := hSw.r.lt; have hcv := hSw.str (m := c6) HTL.out; go_simp; (try with_reducible rfl)) ?_; (try simp only [Act.put, List.setIfInBounds_toArray, List.set_cons_zero, List.set_cons_succ])))
      refine h4_e ?_
      refine wpAnyH_ready (rs := [13]) (by kernel_rfl) (by simp) ?_
      refine (h4_cons rfl (fun K hK => ?_) AllReadyH.nil)
      go_simp
      refine hK.out _ _ ?_ (fun hHeld1 => ?_)
      · (try dsimp only)
        (first | (with_reducible assumption) | ((repeat' (with_reducible refine NC.far ?_ hgl _ _)); (with_reducible refine NC.next HNC.out ?_); (repeat' (first | with_reducible exact Below.refl _ _ | with_reducible refine Below.drew ?_ | with_reducible refine Below.alloc ?_ ?_ _ | with_reducible exact Nat.le_refl _ | (simp; done))); done))
      clear hK K hHeld
      try simp only [Act.put, List.setIfInBounds_toArray, List.set_cons_zero, List.set_cons_succ]
      refine wpAnyH_ready (rs := [14]) (by kernel_rfl) (by simp) ?_
      refine (h4_cons rfl (fun K hK => ?_) AllReadyH.nil)
      go_simp
      refine hK.out _ _ ?_ (fun hHeld2 => ?_)
      · (try dsimp only)
        (first | (with_reducible assumption) | ((repeat' (with_reducible refine NC.far ?_ hgl _ _)); (with_reducible refine NC.next HNC.out ?_); (repeat' (first | with_reducible exact Below.refl _ _ | with_reducible refine Below.drew ?_ | with_reducible refine Below.alloc ?_ ?_ _ | with_reducible exact Nat.le_refl _ | (simp; done))); done))
      clear hK K hHeld1
      try simp only [Act.put, List.setIfInBounds_toArray, List.set_cons_zero, List.set_cons_succ]
      refine wpAnyH_done (by kernel_rfl) ?_ _
      replace HO := Lib.hid ((HO.out.alloc 89 [.int .i64 5, .int .i64 (a : Int), .string (strN T), .bool false, .int .u64 0, .int .u64 0]).drew)
      generalize (W2.alloc (.cells [Value.int .i64 5, .int .i64 (a : Int), .string (strN T), .bool false, .int .u64 0, .int .u64 0].toArray 89)).drew = W3 at HO
      obtain ⟨b3, hb3⟩ : ∃ b, b = W2.heap.size := ⟨_, rfl⟩
      rw [← hb3] at HO ⊢
      clear hb3 HNC hs5
      clear HTL HB8 HS HD HL hgl
      (repeat' (go_not_at_block 2; first | ((with_reducible refine zG ?_); first | refine oWx ?_ | (refine oWs ?_; clear HO; intro _ HO)) | go_values | go_skip | go_guarded | go_step | go_upon | (go_ite <;> go_prune <;> (try go_simp))))
      go_cut [] from 46 (fun W => Hid (Own w [g] (LS g src q V none []) [⟨b3, 89, [.int .i64 ((nK T c : Nat) : Int), .int .i64 (a : Int), .string (strN T), .bool false, .int .u64 0, .int .u64 0]⟩, ⟨w.heap.size, 89, [.int .i64 0, .int .i64 0, .string { data := #[] }, .bool false, .int .u64 0, .int .u64 0]⟩] [] [] W))
      case first =>
        clear HC HT HN hql haq
        (repeat' (go_not_at_region 8; first | with_reducible refine oXt ?_ | with_reducible refine oXb ?_ | ((with_reducible refine ib_miss ?_ ?_); exact rfl) | ((with_reducible refine to_store ?_); refine oT1 HO rfl rfl rfl ?_; clear HO; intro _ HO) | go_values | go_skip | go_guarded | go_step | go_upon | (go_ite <;> go_prune <;> (try go_simp))))
        cases h0 : ((strN T).toList == [66, 69, 71, 73, 78])
        case true =>
          (repeat' (first | with_reducible refine oXt ?_ | with_reducible refine oXb ?_ | ((with_reducible refine ib_miss ?_ ?_); exact rfl) | ((with_reducible refine to_store ?_); refine oT1 HO rfl rfl rfl ?_; clear HO; intro _ HO) | go_values | go_skip | go_guarded | go_step | go_upon | (go_ite <;> go_prune <;> (try go_simp))))
          go_meet
          exact own_eq HO (congrArg (fun k : Nat => Value.int .i64 (k : Int)) (leafW HT8.out h0 (by unfold nK; rw [if_pos (by decide)])).symm)
        (repeat' (go_not_at_region 9; first | with_reducible refine oXt ?_ | with_reducible refine oXb ?_ | ((with_reducible refine ib_miss ?_ ?_); exact rfl) | ((with_reducible refine to_store ?_); refine oT1 HO rfl rfl rfl ?_; clear HO; intro _ HO) | go_values | go_skip | go_guarded | go_step | go_upon | (go_ite <;> go_prune <;> (try go_simp))))
        cases h1 : ((strN T).toList == [69, 78, 68])
        case true =>
          (repeat' (first | with_reducible refine oXt ?_ | with_reducible refine oXb ?_ | ((with_reducible refine ib_miss ?_ ?_); exact rfl) | ((with_reducible refine to_store ?_); refine oT1 HO rfl rfl rfl ?_; clear HO; intro _ HO) | go_values | go_skip | go_guarded | go_step | go_upon | (go_ite <;> go_prune <;> (try go_simp))))
          go_meet
          exact own_eq HO (congrArg (fun k : Nat => Value.int .i64 (k : Int)) (leafW HT8.out h1 (by unfold nK; rw [if_pos (by decide)])).symm)
        (repeat' (go_not_at_region 10; first | with_reducible refine oXt ?_ | with_reducible refine oXb ?_ | ((with_reducible refine ib_miss ?_ ?_); exact rfl) | ((with_reducible refine to_store ?_); refine oT1 HO rfl rfl rfl ?_; clear HO; intro _ HO) | go_values | go_skip | go_guarded | go_step | go_upon | (go_ite <;> go_prune <;> (try go_simp))))
        cases h2 : ((strN T).toList == [79, 80, 69, 78])
        case true =>
          (repeat' (first | with_reducible refine oXt ?_ | with_reducible refine oXb ?_ | ((with_reducible refine ib_miss ?_ ?_); exact rfl) | ((with_reducible refine to_store ?_); refine oT1 HO rfl rfl rfl ?_; clear HO; intro _ HO) | go_values | go_skip | go_guarded | go_step | go_upon | (go_ite <;> go_prune <;> (try go_simp))))
          go_meet
          exact own_eq HO (congrArg (fun k : Nat => Value.int .i64 (k : Int)) (leafW HT8.out h2 (by unfold nK; rw [if_pos (by decide)])).symm)
        (repeat' (go_not_at_region 11; first | with_reducible refine oXt ?_ | with_reducible refine oXb ?_ | ((with_reducible refine ib_miss ?_ ?_); exact rfl) | ((with_reducible refine to_store ?_); refine oT1 HO rfl rfl rfl ?_; clear HO; intro _ HO) | go_values | go_skip | go_guarded | go_step | go_upon | (go_ite <;> go_prune <;> (try go_simp))))
        cases h3 : ((strN T).toList == [67, 76, 79, 83, 69])
        case true =>
          (repeat' (first | with_reducible refine oXt ?_ | with_reducible refine oXb ?_ | ((with_reducible refine ib_miss ?_ ?_); exact rfl) | ((with_reducible refine to_store ?_); refine oT1 HO rfl rfl rfl ?_; clear HO; intro _ HO) | go_values | go_skip | go_guarded | go_step | go_upon | (go_ite <;> go_prune <;> (try go_simp))))
          go_meet
          exact own_eq HO (congrArg (fun k : Nat => Value.int .i64 (k : Int)) (leafW HT8.out h3 (by unfold nK; rw [if_pos (by decide)])).symm)
        (repeat' (go_not_at_region 12; first | with_reducible refine oXt ?_ | with_reducible refine oXb ?_ | ((with_reducible refine ib_miss ?_ ?_); exact rfl) | ((with_reducible refine to_store ?_); refine oT1 HO rfl rfl rfl ?_; clear HO; intro _ HO) | go_values | go_skip | go_guarded | go_step | go_upon | (go_ite <;> go_prune <;> (try go_simp))))
        cases h4 : ((strN T).toList == [102, 117, 110, 99, 116, 105, 111, 110])
        case true =>
          (repeat' (first | with_reducible refine oXt ?_ | with_reducible refine oXb ?_ | ((with_reducible refine ib_miss ?_ ?_); exact rfl) | ((with_reducible refine to_store ?_); refine oT1 HO rfl rfl rfl ?_; clear HO; intro _ HO) | go_values | go_skip | go_guarded | go_step | go_upon | (go_ite <;> go_prune <;> (try go_simp))))
          go_meet
          exact own_eq HO (congrArg (fun k : Nat => Value.int .i64 (k : Int)) (leafW HT8.out h4 (by unfold nK; rw [if_pos (by decide)])).symm)
        (repeat' (go_not_at_region 13; first | with_reducible refine oXt ?_ | with_reducible refine oXb ?_ | ((with_reducible refine ib_miss ?_ ?_); exact rfl) | ((with_reducible refine to_store ?_); refine oT1 HO rfl rfl rfl ?_; clear HO; intro _ HO) | go_values | go_skip | go_guarded | go_step | go_upon | (go_ite <;> go_prune <;> (try go_simp))))
        cases h5 : ((strN T).toList == [105, 102])
        case true =>
          (repeat' (first | with_reducible refine oXt ?_ | with_reducible refine oXb ?_ | ((with_reducible refine ib_miss ?_ ?_); exact rfl) | ((with_reducible refine to_store ?_); refine oT1 HO rfl rfl rfl ?_; clear HO; intro _ HO) | go_values | go_skip | go_guarded | go_step | go_upon | (go_ite <;> go_prune <;> (try go_simp))))
          go_meet
          exact own_eq HO (congrArg (fun k : Nat => Value.int .i64 (k : Int)) (leafW HT8.out h5 (by unfold nK; rw [if_pos (by decide)])).symm)
        (repeat' (go_not_at_region 14; first | with_reducible refine oXt ?_ | with_reducible refine oXb ?_ | ((with_reducible refine ib_miss ?_ ?_); exact rfl) | ((with_reducible refine to_store ?_); refine oT1 HO rfl rfl rfl ?_; clear HO; intro _ HO) | go_values | go_skip | go_guarded | go_step | go_upon | (go_ite <;> go_prune <;> (try go_simp))))
        cases h6 : ((strN T).toList == [101, 108, 115, 101])
        case true =>
          (repeat' (first | with_reducible refine oXt ?_ | with_reducible refine oXb ?_ | ((with_reducible refine ib_miss ?_ ?_); exact rfl) | ((with_reducible refine to_store ?_); refine oT1 HO rfl rfl rfl ?_; clear HO; intro _ HO) | go_values | go_skip | go_guarded | go_step | go_upon | (go_ite <;> go_prune <;> (try go_simp))))
          go_meet
          exact own_eq HO (congrArg (fun k : Nat => Value.int .i64 (k : Int)) (leafW HT8.out h6 (by unfold nK; rw [if_pos (by decide)])).symm)
        (repeat' (go_not_at_region 15; first | with_reducible refine oXt ?_ | with_reducible refine oXb ?_ | ((with_reducible refine ib_miss ?_ ?_); exact rfl) | ((with_reducible refine to_store ?_); refine oT1 HO rfl rfl rfl ?_; clear HO; intro _ HO) | go_values | go_skip | go_guarded | go_step | go_upon | (go_ite <;> go_prune <;> (try go_simp))))
        cases h7 : ((strN T).toList == [119, 104, 105, 108, 101])
        case true =>
          (repeat' (first | with_reducible refine oXt ?_ | with_reducible refine oXb ?_ | ((with_reducible refine ib_miss ?_ ?_); exact rfl) | ((with_reducible refine to_store ?_); refine oT1 HO rfl rfl rfl ?_; clear HO; intro _ HO) | go_values | go_skip | go_guarded | go_step | go_upon | (go_ite <;> go_prune <;> (try go_simp))))
          go_meet
          exact own_eq HO (congrArg (fun k : Nat => Value.int .i64 (k : Int)) (leafW HT8.out h7 (by unfold nK; rw [if_pos (by decide)])).symm)
        (repeat' (go_not_at_region 16; first | with_reducible refine oXt ?_ | with_reducible refine oXb ?_ | ((with_reducible refine ib_miss ?_ ?_); exact rfl) | ((with_reducible refine to_store ?_); refine oT1 HO rfl rfl rfl ?_; clear HO; intro _ HO) | go_values | go_skip | go_guarded | go_step | go_upon | (go_ite <;> go_prune <;> (try go_simp))))
        cases h8 : ((strN T).toList == [102, 111, 114])
        case true =>
          (repeat' (first | with_reducible refine oXt ?_ | with_reducible refine oXb ?_ | ((with_reducible refine ib_miss ?_ ?_); exact rfl) | ((with_reducible refine to_store ?_); refine oT1 HO rfl rfl rfl ?_; clear HO; intro _ HO) | go_values | go_skip | go_guarded | go_step | go_upon | (go_ite <;> go_prune <;> (try go_simp))))
          go_meet
          exact own_eq HO (congrArg (fun k : Nat => Value.int .i64 (k : Int)) (leafW HT8.out h8 (by unfold nK; rw [if_pos (by decide)])).symm)
        (repeat' (go_not_at_region 17; first | with_reducible refine oXt ?_ | with_reducible refine oXb ?_ | ((with_reducible refine ib_miss ?_ ?_); exact rfl) | ((with_reducible refine to_store ?_); refine oT1 HO rfl rfl rfl ?_; clear HO; intro _ HO) | go_values | go_skip | go_guarded | go_step | go_upon | (go_ite <;> go_prune <;> (try go_simp))))
        cases h9 : ((strN T).toList == [100, 111])
        case true =>
          (repeat' (first | with_reducible refine oXt ?_ | with_reducible refine oXb ?_ | ((with_reducible refine ib_miss ?_ ?_); exact rfl) | ((with_reducible refine to_store ?_); refine oT1 HO rfl rfl rfl ?_; clear HO; intro _ HO) | go_values | go_skip | go_guarded | go_step | go_upon | (go_ite <;> go_prune <;> (try go_simp))))
          go_meet
          exact own_eq HO (congrArg (fun k : Nat => Value.int .i64 (k : Int)) (leafW HT8.out h9 (by unfold nK; rw [if_pos (by decide)])).symm)
        (repeat' (go_not_at_region 18; first | with_reducible refine oXt ?_ | with_reducible refine oXb ?_ | ((with_reducible refine ib_miss ?_ ?_); exact rfl) | ((with_reducible refine to_store ?_); refine oT1 HO rfl rfl rfl ?_; clear HO; intro _ HO) | go_values | go_skip | go_guarded | go_step | go_upon | (go_ite <;> go_prune <;> (try go_simp))))
        cases h10 : ((strN T).toList == [98, 114, 101, 97, 107])
        case true =>
          (repeat' (first | with_reducible refine oXt ?_ | with_reducible refine oXb ?_ | ((with_reducible refine ib_miss ?_ ?_); exact rfl) | ((with_reducible refine to_store ?_); refine oT1 HO rfl rfl rfl ?_; clear HO; intro _ HO) | go_values | go_skip | go_guarded | go_step | go_upon | (go_ite <;> go_prune <;> (try go_simp))))
          go_meet
          exact own_eq HO (congrArg (fun k : Nat => Value.int .i64 (k : Int)) (leafW HT8.out h10 (by unfold nK; rw [if_pos (by decide)])).symm)
        (repeat' (go_not_at_region 19; first | with_reducible refine oXt ?_ | with_reducible refine oXb ?_ | ((with_reducible refine ib_miss ?_ ?_); exact rfl) | ((with_reducible refine to_store ?_); refine oT1 HO rfl rfl rfl ?_; clear HO; intro _ HO) | go_values | go_skip | go_guarded | go_step | go_upon | (go_ite <;> go_prune <;> (try go_simp))))
        cases h11 : ((strN T).toList == [99, 111, 110, 116, 105, 110, 117, 101])
        case true =>
          (repeat' (first | with_reducible refine oXt ?_ | with_reducible refine oXb ?_ | ((with_reducible refine ib_miss ?_ ?_); exact rfl) | ((with_reducible refine to_store ?_); refine oT1 HO rfl rfl rfl ?_; clear HO; intro _ HO) | go_values | go_skip | go_guarded | go_step | go_upon | (go_ite <;> go_prune <;> (try go_simp))))
          go_meet
          exact own_eq HO (congrArg (fun k : Nat => Value.int .i64 (k : Int)) (leafW HT8.out h11 (by unfold nK; rw [if_pos (by decide)])).symm)
        (repeat' (go_not_at_region 20; first | with_reducible refine oXt ?_ | with_reducible refine oXb ?_ | ((with_reducible refine ib_miss ?_ ?_); exact rfl) | ((with_reducible refine to_store ?_); refine oT1 HO rfl rfl rfl ?_; clear HO; intro _ HO) | go_values | go_skip | go_guarded | go_step | go_upon | (go_ite <;> go_prune <;> (try go_simp))))
        cases h12 : ((strN T).toList == [110, 101, 120, 116])
        case true =>
          (repeat' (first | with_reducible refine oXt ?_ | with_reducible refine oXb ?_ | ((with_reducible refine ib_miss ?_ ?_); exact rfl) | ((with_reducible refine to_store ?_); refine oT1 HO rfl rfl rfl ?_; clear HO; intro _ HO) | go_values | go_skip | go_guarded | go_step | go_upon | (go_ite <;> go_prune <;> (try go_simp))))
          go_meet
          exact own_eq HO (congrArg (fun k : Nat => Value.int .i64 (k : Int)) (leafW HT8.out h12 (by unfold nK; rw [if_pos (by decide)])).symm)
        (repeat' (go_not_at_region 21; first | with_reducible refine oXt ?_ | with_reducible refine oXb ?_ | ((with_reducible refine ib_miss ?_ ?_); exact rfl) | ((with_reducible refine to_store ?_); refine oT1 HO rfl rfl rfl ?_; clear HO; intro _ HO) | go_values | go_skip | go_guarded | go_step | go_upon | (go_ite <;> go_prune <;> (try go_simp))))
        cases h13 : ((strN T).toList == [101, 120, 105, 116])
        case true =>
          (repeat' (first | with_reducible refine oXt ?_ | with_reducible refine oXb ?_ | ((with_reducible refine ib_miss ?_ ?_); exact rfl) | ((with_reducible refine to_store ?_); refine oT1 HO rfl rfl rfl ?_; clear HO; intro _ HO) | go_values | go_skip | go_guarded | go_step | go_upon | (go_ite <;> go_prune <;> (try go_simp))))
          go_meet
          exact own_eq HO (congrArg (fun k : Nat => Value.int .i64 (k : Int)) (leafW HT8.out h13 (by unfold nK; rw [if_pos (by decide)])).symm)
        (repeat' (go_not_at_region 22; first | with_reducible refine oXt ?_ | with_reducible refine oXb ?_ | ((with_reducible refine ib_miss ?_ ?_); exact rfl) | ((with_reducible refine to_store ?_); refine oT1 HO rfl rfl rfl ?_; clear HO; intro _ HO) | go_values | go_skip | go_guarded | go_step | go_upon | (go_ite <;> go_prune <;> (try go_simp))))
        cases h14 : ((strN T).toList == [114, 101, 116, 117, 114, 110])
        case true =>
          (repeat' (first | with_reducible refine oXt ?_ | with_reducible refine oXb ?_ | ((with_reducible refine ib_miss ?_ ?_); exact rfl) | ((with_reducible refine to_store ?_); refine oT1 HO rfl rfl rfl ?_; clear HO; intro _ HO) | go_values | go_skip | go_guarded | go_step | go_upon | (go_ite <;> go_prune <;> (try go_simp))))
          go_meet
          exact own_eq HO (congrArg (fun k : Nat => Value.int .i64 (k : Int)) (leafW HT8.out h14 (by unfold nK; rw [if_pos (by decide)])).symm)
        (repeat' (go_not_at_region 23; first | with_reducible refine oXt ?_ | with_reducible refine oXb ?_ | ((with_reducible refine ib_miss ?_ ?_); exact rfl) | ((with_reducible refine to_store ?_); refine oT1 HO rfl rfl rfl ?_; clear HO; intro _ HO) | go_values | go_skip | go_guarded | go_step | go_upon | (go_ite <;> go_prune <;> (try go_simp))))
        cases h15 : ((strN T).toList == [100, 101, 108, 101, 116, 101])
        case true =>
          (repeat' (first | with_reducible refine oXt ?_ | with_reducible refine oXb ?_ | ((with_reducible refine ib_miss ?_ ?_); exact rfl) | ((with_reducible refine to_store ?_); refine oT1 HO rfl rfl rfl ?_; clear HO; intro _ HO) | go_values | go_skip | go_guarded | go_step | go_upon | (go_ite <;> go_prune <;> (try go_simp))))
          go_meet
          exact own_eq HO (congrArg (fun k : Nat => Value.int .i64 (k : Int)) (leafW HT8.out h15 (by unfold nK; rw [if_pos (by decide)])).symm)
        (repeat' (go_not_at_region 24; first | with_reducible refine oXt ?_ | with_reducible refine oXb ?_ | ((with_reducible refine ib_miss ?_ ?_); exact rfl) | ((with_reducible refine to_store ?_); refine oT1 HO rfl rfl rfl ?_; clear HO; intro _ HO) | go_values | go_skip | go_guarded | go_step | go_upon | (go_ite <;> go_prune <;> (try go_simp))))
        cases h16 : ((strN T).toList == [105, 110])
        case true =>
          (repeat' (first | with_reducible refine oXt ?_ | with_reducible refine oXb ?_ | ((with_reducible refine ib_miss ?_ ?_); exact rfl) | ((with_reducible refine to_store ?_); refine oT1 HO rfl rfl rfl ?_; clear HO; intro _ HO) | go_values | go_skip | go_guarded | go_step | go_upon | (go_ite <;> go_prune <;> (try go_simp))))
          go_meet
          exact own_eq HO (congrArg (fun k : Nat => Value.int .i64 (k : Int)) (leafW HT8.out h16 (by unfold nK; rw [if_pos (by decide)])).symm)
        (repeat' (go_not_at_region 25; first | with_reducible refine oXt ?_ | with_reducible refine oXb ?_ | ((with_reducible refine ib_miss ?_ ?_); exact rfl) | ((with_reducible refine to_store ?_); refine oT1 HO rfl rfl rfl ?_; clear HO; intro _ HO) | go_values | go_skip | go_guarded | go_step | go_upon | (go_ite <;> go_prune <;> (try go_simp))))
        cases h17 : ((strN T).toList == [103, 101, 116, 108, 105, 110, 101])
        case true =>
          (repeat' (first | with_reducible refine oXt ?_ | with_reducible refine oXb ?_ | ((with_reducible refine ib_miss ?_ ?_); exact rfl) | ((with_reducible refine to_store ?_); refine oT1 HO rfl rfl rfl ?_; clear HO; intro _ HO) | go_values | go_skip | go_guarded | go_step | go_upon | (go_ite <;> go_prune <;> (try go_simp))))
          go_meet
          exact own_eq HO (congrArg (fun k : Nat => Value.int .i64 (k : Int)) (leafW HT8.out h17 (by unfold nK; rw [if_pos (by decide)])).symm)
        (repeat' (go_not_at_region 26; first | with_reducible refine oXt ?_ | with_reducible refine oXb ?_ | ((with_reducible refine ib_miss ?_ ?_); exact rfl) | ((with_reducible refine to_store ?_); refine oT1 HO rfl rfl rfl ?_; clear HO; intro _ HO) | go_values | go_skip | go_guarded | go_step | go_upon | (go_ite <;> go_prune <;> (try go_simp))))
        cases h18 : ((strN T).toList == [112, 114, 105, 110, 116])
        case true =>
          (repeat' (first | with_reducible refine oXt ?_ | with_reducible refine oXb ?_ | ((with_reducible refine ib_miss ?_ ?_); exact rfl) | ((with_reducible refine to_store ?_); refine oT1 HO rfl rfl rfl ?_; clear HO; intro _ HO) | go_values | go_skip | go_guarded | go_step | go_upon | (go_ite <;> go_prune <;> (try go_simp))))
          go_meet
          exact own_eq HO (congrArg (fun k : Nat => Value.int .i64 (k : Int)) (leafW HT8.out h18 (by unfold nK; rw [if_pos (by decide)])).symm)
        (repeat' (go_not_at_region 27; first | with_reducible refine oXt ?_ | with_reducible refine oXb ?_ | ((with_reducible refine ib_miss ?_ ?_); exact rfl) | ((with_reducible refine to_store ?_); refine oT1 HO rfl rfl rfl ?_; clear HO; intro _ HO) | go_values | go_skip | go_guarded | go_step | go_upon | (go_ite <;> go_prune <;> (try go_simp))))
        cases h19 : ((strN T).toList == [112, 114, 105, 110, 116, 102])
        case true =>
          (repeat' (first | with_reducible refine oXt ?_ | with_reducible refine oXb ?_ | ((with_reducible refine ib_miss ?_ ?_); exact rfl) | ((with_reducible refine to_store ?_); refine oT1 HO rfl rfl rfl ?_; clear HO; intro _ HO) | go_values | go_skip | go_guarded | go_step | go_upon | (go_ite <;> go_prune <;> (try go_simp))))
          go_meet
          exact own_eq HO (congrArg (fun k : Nat => Value.int .i64 (k : Int)) (leafW HT8.out h19 (by unfold nK; rw [if_pos (by decide)])).symm)
        (repeat' (go_not_at_region 29; first | with_reducible refine oXt ?_ | with_reducible refine oXb ?_ | ((with_reducible refine ib_miss ?_ ?_); exact rfl) | ((with_reducible refine to_store ?_); refine oT1 HO rfl rfl rfl ?_; clear HO; intro _ HO) | go_values | go_skip | go_guarded | go_step | go_upon | (go_ite <;> go_prune <;> (try go_simp))))
        cases h20 : ((strN T).toList == [108, 101, 110, 103, 116, 104])
        case true =>
          (repeat' (first | with_reducible refine oXt ?_ | with_reducible refine oXb ?_ | ((with_reducible refine ib_miss ?_ ?_); exact rfl) | ((with_reducible refine to_store ?_); refine oT1 HO rfl rfl rfl ?_; clear HO; intro _ HO) | go_values | go_skip | go_guarded | go_step | go_upon | (go_ite <;> go_prune <;> (try go_simp))))
          go_meet
          exact own_eq HO (congrArg (fun k : Nat => Value.int .i64 (k : Int)) (leafW HT8.out h20 (by unfold nK; rw [if_neg (by decide), if_pos (by decide)])).symm)
        (repeat' (go_not_at_region 30; first | with_reducible refine oXt ?_ | with_reducible refine oXb ?_ | ((with_reducible refine ib_miss ?_ ?_); exact rfl) | ((with_reducible refine to_store ?_); refine oT1 HO rfl rfl rfl ?_; clear HO; intro _ HO) | go_values | go_skip | go_guarded | go_step | go_upon | (go_ite <;> go_prune <;> (try go_simp))))
        cases h21 : ((strN T).toList == [115, 117, 98, 115, 116, 114])
        case true =>
          (repeat' (first | with_reducible refine oXt ?_ | with_reducible refine oXb ?_ | ((with_reducible refine ib_miss ?_ ?_); exact rfl) | ((with_reducible refine to_store ?_); refine oT1 HO rfl rfl rfl ?_; clear HO; intro _ HO) | go_values | go_skip | go_guarded | go_step | go_upon | (go_ite <;> go_prune <;> (try go_simp))))
          go_meet
          exact own_eq HO (congrArg (fun k : Nat => Value.int .i64 (k : Int)) (leafW HT8.out h21 (by unfold nK; rw [if_neg (by decide), if_pos (by decide)])).symm)
        (repeat' (go_not_at_region 31; first | with_reducible refine oXt ?_ | with_reducible refine oXb ?_ | ((with_reducible refine ib_miss ?_ ?_); exact rfl) | ((with_reducible refine to_store ?_); refine oT1 HO rfl rfl rfl ?_; clear HO; intro _ HO) | go_values | go_skip | go_guarded | go_step | go_upon | (go_ite <;> go_prune <;> (try go_simp))))
        cases h22 : ((strN T).toList == [105, 110, 100, 101, 120])
        case true =>
          (repeat' (first | with_reducible refine oXt ?_ | with_reducible refine oXb ?_ | ((with_reducible refine ib_miss ?_ ?_); exact rfl) | ((with_reducible refine to_store ?_); refine oT1 HO rfl rfl rfl ?_; clear HO; intro _ HO) | go_values | go_skip | go_guarded | go_step | go_upon | (go_ite <;> go_prune <;> (try go_simp))))
          go_meet
          exact own_eq HO (congrArg (fun k : Nat => Value.int .i64 (k : Int)) (leafW HT8.out h22 (by unfold nK; rw [if_neg (by decide), if_pos (by decide)])).symm)
        (repeat' (go_not_at_region 32; first | with_reducible refine oXt ?_ | with_reducible refine oXb ?_ | ((with_reducible refine ib_miss ?_ ?_); exact rfl) | ((with_reducible refine to_store ?_); refine oT1 HO rfl rfl rfl ?_; clear HO; intro _ HO) | go_values | go_skip | go_guarded | go_step | go_upon | (go_ite <;> go_prune <;> (try go_simp))))
        cases h23 : ((strN T).toList == [115, 112, 108, 105, 116])
        case true =>
          (repeat' (first | with_reducible refine oXt ?_ | with_reducible refine oXb ?_ | ((with_reducible refine ib_miss ?_ ?_); exact rfl) | ((with_reducible refine to_store ?_); refine oT1 HO rfl rfl rfl ?_; clear HO; intro _ HO) | go_values | go_skip | go_guarded | go_step | go_upon | (go_ite <;> go_prune <;> (try go_simp))))
          go_meet
          exact own_eq HO (congrArg (fun k : Nat => Value.int .i64 (k : Int)) (leafW HT8.out h23 (by unfold nK; rw [if_neg (by decide), if_pos (by decide)])).symm)
        (repeat' (go_not_at_region 33; first | with_reducible refine oXt ?_ | with_reducible refine oXb ?_ | ((with_reducible refine ib_miss ?_ ?_); exact rfl) | ((with_reducible refine to_store ?_); refine oT1 HO rfl rfl rfl ?_; clear HO; intro _ HO) | go_values | go_skip | go_guarded | go_step | go_upon | (go_ite <;> go_prune <;> (try go_simp))))
        cases h24 : ((strN T).toList == [115, 117, 98])
        case true =>
          (repeat' (first | with_reducible refine oXt ?_ | with_reducible refine oXb ?_ | ((with_reducible refine ib_miss ?_ ?_); exact rfl) | ((with_reducible refine to_store ?_); refine oT1 HO rfl rfl rfl ?_; clear HO; intro _ HO) | go_values | go_skip | go_guarded | go_step | go_upon | (go_ite <;> go_prune <;> (try go_simp))))
          go_meet
          exact own_eq HO (congrArg (fun k : Nat => Value.int .i64 (k : Int)) (leafW HT8.out h24 (by unfold nK; rw [if_neg (by decide), if_pos (by decide)])).symm)
        (repeat' (go_not_at_region 34; first | with_reducible refine oXt ?_ | with_reducible refine oXb ?_ | ((with_reducible refine ib_miss ?_ ?_); exact rfl) | ((with_reducible refine to_store ?_); refine oT1 HO rfl rfl rfl ?_; clear HO; intro _ HO) | go_values | go_skip | go_guarded | go_step | go_upon | (go_ite <;> go_prune <;> (try go_simp))))
        cases h25 : ((strN T).toList == [103, 115, 117, 98])
        case true =>
          (repeat' (first | with_reducible refine oXt ?_ | with_reducible refine oXb ?_ | ((with_reducible refine ib_miss ?_ ?_); exact rfl) | ((with_reducible refine to_store ?_); refine oT1 HO rfl rfl rfl ?_; clear HO; intro _ HO) | go_values | go_skip | go_guarded | go_step | go_upon | (go_ite <;> go_prune <;> (try go_simp))))
          go_meet
          exact own_eq HO (congrArg (fun k : Nat => Value.int .i64 (k : Int)) (leafW HT8.out h25 (by unfold nK; rw [if_neg (by decide), if_pos (by decide)])).symm)
        (repeat' (go_not_at_region 35; first | with_reducible refine oXt ?_ | with_reducible refine oXb ?_ | ((with_reducible refine ib_miss ?_ ?_); exact rfl) | ((with_reducible refine to_store ?_); refine oT1 HO rfl rfl rfl ?_; clear HO; intro _ HO) | go_values | go_skip | go_guarded | go_step | go_upon | (go_ite <;> go_prune <;> (try go_simp))))
        cases h26 : ((strN T).toList == [109, 97, 116, 99, 104])
        case true =>
          (repeat' (first | with_reducible refine oXt ?_ | with_reducible refine oXb ?_ | ((with_reducible refine ib_miss ?_ ?_); exact rfl) | ((with_reducible refine to_store ?_); refine oT1 HO rfl rfl rfl ?_; clear HO; intro _ HO) | go_values | go_skip | go_guarded | go_step | go_upon | (go_ite <;> go_prune <;> (try go_simp))))
          go_meet
          exact own_eq HO (congrArg (fun k : Nat => Value.int .i64 (k : Int)) (leafW HT8.out h26 (by unfold nK; rw [if_neg (by decide), if_pos (by decide)])).symm)
        (repeat' (go_not_at_region 36; first | with_reducible refine oXt ?_ | with_reducible refine oXb ?_ | ((with_reducible refine ib_miss ?_ ?_); exact rfl) | ((with_reducible refine to_store ?_); refine oT1 HO rfl rfl rfl ?_; clear HO; intro _ HO) | go_values | go_skip | go_guarded | go_step | go_upon | (go_ite <;> go_prune <;> (try go_simp))))
        cases h27 : ((strN T).toList == [115, 112, 114, 105, 110, 116, 102])
        case true =>
          (repeat' (first | with_reducible refine oXt ?_ | with_reducible refine oXb ?_ | ((with_reducible refine ib_miss ?_ ?_); exact rfl) | ((with_reducible refine to_store ?_); refine oT1 HO rfl rfl rfl ?_; clear HO; intro _ HO) | go_values | go_skip | go_guarded | go_step | go_upon | (go_ite <;> go_prune <;> (try go_simp))))
          go_meet
          exact own_eq HO (congrArg (fun k : Nat => Value.int .i64 (k : Int)) (leafW HT8.out h27 (by unfold nK; rw [if_neg (by decide), if_pos (by decide)])).symm)
        (repeat' (go_not_at_region 37; first | with_reducible refine oXt ?_ | with_reducible refine oXb ?_ | ((with_reducible refine ib_miss ?_ ?_); exact rfl) | ((with_reducible refine to_store ?_); refine oT1 HO rfl rfl rfl ?_; clear HO; intro _ HO) | go_values | go_skip | go_guarded | go_step | go_upon | (go_ite <;> go_prune <;> (try go_simp))))
        cases h28 : ((strN T).toList == [105, 110, 116])
        case true =>
          (repeat' (first | with_reducible refine oXt ?_ | with_reducible refine oXb ?_ | ((with_reducible refine ib_miss ?_ ?_); exact rfl) | ((with_reducible refine to_store ?_); refine oT1 HO rfl rfl rfl ?_; clear HO; intro _ HO) | go_values | go_skip | go_guarded | go_step | go_upon | (go_ite <;> go_prune <;> (try go_simp))))
          go_meet
          exact own_eq HO (congrArg (fun k : Nat => Value.int .i64 (k : Int)) (leafW HT8.out h28 (by unfold nK; rw [if_neg (by decide), if_pos (by decide)])).symm)
        (repeat' (go_not_at_region 38; first | with_reducible refine oXt ?_ | with_reducible refine oXb ?_ | ((with_reducible refine ib_miss ?_ ?_); exact rfl) | ((with_reducible refine to_store ?_); refine oT1 HO rfl rfl rfl ?_; clear HO; intro _ HO) | go_values | go_skip | go_guarded | go_step | go_upon | (go_ite <;> go_prune <;> (try go_simp))))
        cases h29 : ((strN T).toList == [116, 111, 108, 111, 119, 101, 114])
        case true =>
          (repeat' (first | with_reducible refine oXt ?_ | with_reducible refine oXb ?_ | ((with_reducible refine ib_miss ?_ ?_); exact rfl) | ((with_reducible refine to_store ?_); refine oT1 HO rfl rfl rfl ?_; clear HO; intro _ HO) | go_values | go_skip | go_guarded | go_step | go_upon | (go_ite <;> go_prune <;> (try go_simp))))
          go_meet
          exact own_eq HO (congrArg (fun k : Nat => Value.int .i64 (k : Int)) (leafW HT8.out h29 (by unfold nK; rw [if_neg (by decide), if_pos (by decide)])).symm)
        (repeat' (go_not_at_region 39; first | with_reducible refine oXt ?_ | with_reducible refine oXb ?_ | ((with_reducible refine ib_miss ?_ ?_); exact rfl) | ((with_reducible refine to_store ?_); refine oT1 HO rfl rfl rfl ?_; clear HO; intro _ HO) | go_values | go_skip | go_guarded | go_step | go_upon | (go_ite <;> go_prune <;> (try go_simp))))
        cases h30 : ((strN T).toList == [116, 111, 117, 112, 112, 101, 114])
        case true =>
          (repeat' (first | with_reducible refine oXt ?_ | with_reducible refine oXb ?_ | ((with_reducible refine ib_miss ?_ ?_); exact rfl) | ((with_reducible refine to_store ?_); refine oT1 HO rfl rfl rfl ?_; clear HO; intro _ HO) | go_values | go_skip | go_guarded | go_step | go_upon | (go_ite <;> go_prune <;> (try go_simp))))
          go_meet
          exact own_eq HO (congrArg (fun k : Nat => Value.int .i64 (k : Int)) (leafW HT8.out h30 (by unfold nK; rw [if_neg (by decide), if_pos (by decide)])).symm)
        (repeat' (go_not_at_region 40; first | with_reducible refine oXt ?_ | with_reducible refine oXb ?_ | ((with_reducible refine ib_miss ?_ ?_); exact rfl) | ((with_reducible refine to_store ?_); refine oT1 HO rfl rfl rfl ?_; clear HO; intro _ HO) | go_values | go_skip | go_guarded | go_step | go_upon | (go_ite <;> go_prune <;> (try go_simp))))
        cases h31 : ((strN T).toList == [99, 108, 111, 115, 101])
        case true =>
          (repeat' (first | with_reducible refine oXt ?_ | with_reducible refine oXb ?_ | ((with_reducible refine ib_miss ?_ ?_); exact rfl) | ((with_reducible refine to_store ?_); refine oT1 HO rfl rfl rfl ?_; clear HO; intro _ HO) | go_values | go_skip | go_guarded | go_step | go_upon | (go_ite <;> go_prune <;> (try go_simp))))
          go_meet
          exact own_eq HO (congrArg (fun k : Nat => Value.int .i64 (k : Int)) (leafW HT8.out h31 (by unfold nK; rw [if_neg (by decide), if_pos (by decide)])).symm)
        (repeat' (go_not_at_region 6; first | with_reducible refine oXt ?_ | with_reducible refine oXb ?_ | ((with_reducible refine ib_miss ?_ ?_); exact rfl) | ((with_reducible refine to_store ?_); refine oT1 HO rfl rfl rfl ?_; clear HO; intro _ HO) | go_values | go_skip | go_guarded | go_step | go_upon | (go_ite <;> go_prune <;> (try go_simp))))
        have hn := leafN (c := c) HT8.out (by simp only [words8, List.any_cons, List.any_nil, Bool.or_false, h0, h1, h2, h3, h4, h5, h6, h7, h8, h9, h10, h11, h12, h13, h14, h15, h16, h17, h18, h19]) (by simp only [built8, List.any_cons, List.any_nil, Bool.or_false, h20, h21, h22, h23, h24, h25, h26, h27, h28, h29, h30, h31])
        clear h0 h1 h2 h3 h4 h5 h6 h7 h8 h9 h10 h11 h12 h13 h14 h15 h16 h17 h18 h19 h20 h21 h22 h23 h24 h25 h26 h27 h28 h29 h30 h31
        by_cases h40 : c = 40
        · have hc40 : ((c : Int) == 40) = true := by rw [h40]; rfl
          rw [if_pos h40] at hn
          (repeat' (first | ((with_reducible refine zG ?_); first | refine oWx ?_ | (refine oWs ?_; clear HO; intro _ HO)) | ((with_reducible refine to_load ?_); (first | (refine lo_loadA HO rfl rfl Try.isAgg3 ?_; (try simp only [Act.put, pS]))); (try simp only [Act.put, pS])) | ((go_big_may; first | (go_at_call 41; refine (HBY.out _ HO.out.st.r).mono ?_; rintro e W2 ⟨rfl, rfl⟩) | fail) <;> (try dsimp only)) | go_values | go_skip | go_guarded | go_step | go_upon | (go_ite <;> go_prune <;> (try go_simp))))
          go_meet
          exact own_eq HO (congrArg (fun k : Nat => Value.int .i64 (k : Int)) hn.symm)
        · have hc40 : ((c : Int) == 40) = false := by rw [beq_eq_false_iff_ne]; exact fun e => h40 (by exact_mod_cast e)
          rw [if_neg h40] at hn
          (repeat' (first | ((with_reducible refine zG ?_); first | refine oWx ?_ | (refine oWs ?_; clear HO; intro _ HO)) | ((with_reducible refine to_load ?_); (first | (refine lo_loadA HO rfl rfl Try.isAgg3 ?_; (try simp only [Act.put, pS]))); (try simp only [Act.put, pS])) | ((go_big_may; first | (go_at_call 41; refine (HBY.out _ HO.out.st.r).mono ?_; rintro e W2 ⟨rfl, rfl⟩) | fail) <;> (try dsimp only)) | go_values | go_skip | go_guarded | go_step | go_upon | (go_ite <;> go_prune <;> (try go_simp))))
          go_meet
          exact own_eq HO (congrArg (fun k : Nat => Value.int .i64 (k : Int)) hn.symm)
      case rest =>
        clear HO
        have HO := hcut
        clear hcut
        (repeat' (first | ((with_reducible refine zG ?_); first | refine oWx ?_ | (refine oWs ?_; clear HO; intro _ HO)) | go_values | go_skip | go_guarded | go_step | go_upon | (go_ite <;> go_prune <;> (try go_simp))))
        refine bp_cell HO (t := 2) (ty := 89) rfl rfl mM Try.isAgg89 Try.sizeOf89 (by rfl) rfl ?_
        rw [HT.out, ← HC.out]
        exact ⟨by rw [tokV_0], HO.out.st.r, Upd.of_kept HO.out.kept⟩
end Go.Proofs.Ythipoccbeloceaa
