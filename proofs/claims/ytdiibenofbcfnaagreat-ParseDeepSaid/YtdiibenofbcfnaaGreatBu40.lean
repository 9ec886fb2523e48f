/- Several texts put together: DeeA. -/
import Derived.Test.YtdiibenofbcfnaaGreatBu39
import Derived.Test.YtdiibenofbcfnaaGreatBu10
set_option linter.unusedSimpArgs false
set_option linter.unusedVariables false
namespace Go.Proofs.YtdiibenofbcfnaaGreat
open Go.RowKit
def litD : List Nat := [123, 32, 120, 32, 61, 32]
section
variable {o : Oper} {act : Act} {w0 w : World} {X : List Nat} {S : World → Prop} {bs : List Bx} {rs : List Rw} {F : List Cold} {KK : Act → World → Prop} {Q : Exit → Act → World → Prop} {T : Ending → World → Prop}
theorem arm_awakeD {KF : FuncId} {args : Array Value} (HO : Hid (Own w0 X S bs rs F w)) (hK : KF = 4) (hargs : args = #[]) (h : ∀ W, Hid (Own w0 X S bs rs F W) → T (.returned (.bool true)) W) : Calls Tryz.prog KF args w T := by
  subst hK hargs
  refine (awake13_any w).mono fun e W hp => ?_
  obtain ⟨rfl, q⟩ := hp
  exact h W (Lib.hid (HO.out.next q))
theorem ab_markD (HO : Hid (Own w0 X S bs rs F w)) {cs : List Value} {t : TypeId} {n : Nat} (h : ∀ W, Hid (Own w0 X S bs rs (Cold.row (some ⟨w.heap.size, 0, none⟩) cs :: F) W) → KK act W) : KK act (w.alloc (.cells cs.toArray t (n, n + 1))) := by
  refine h _ (Lib.hid ((HO.out.junk _).coldAll _ fun _ => ⟨w.heap.size, rfl, ⟨HO.out.kept.size, by simp, fun hm => Nat.lt_irrefl _ (HO.out.hot_lt _ hm).2⟩, fun j u hu => ?_⟩))
  have key : ∀ W : World, W.heap[w.heap.size]? = some (.cells cs.toArray t (n, n + 1)) → W.cell? ⟨w.heap.size, j, none⟩ = some u := fun W h => by
    unfold World.cell?
    simp [h, hu]
  exact key _ (by show (w.heap.push _)[w.heap.size]? = _; simp)
theorem rb_coldD {A : Option Addr} {l : List Nat} (HO : Hid (Own w0 X S bs rs F w)) (hb : ∀ x ∈ l, x < 256) (m : Cold.row A (bvs l) ∈ F) : Hid (RB w w.heap.size A l) :=
  Lib.hid (rb_rowAt (HO.out.cold _ m) hb fun b hb => hb.2.1)
theorem rb_junkD {r : Nat} {l : List Nat} (hb : ∀ x ∈ l, x < 256) (h : Hid (Blk w r 5 (bvs l).toArray)) : Hid (RB w w.heap.size (some ⟨r, 0, none⟩) l) :=
  Lib.hid (rb_of hb h.out.lt fun j hj => by rw [h.out.cell]; simp [bvs, bv, hj])
theorem one_bytesD {v : Value} {l : List Nat} {n : Nat} (HO : Hid (Own w0 X S bs (⟨5, 1, v, n, bvs l⟩ :: rs) F w)) (hn : n = l.length) : ∃ A c, v = .slice A l.length c ∧ l.length ≤ c ∧ Hid (Own w0 X S bs rs (Cold.row A (bvs l) :: F) w) := by
  subst hn
  obtain ⟨A, c, e, hc, h⟩ := HO.out.freezeG (fun h => by have h' : l.length = 0 := h; show bvs l = []; rw [List.length_eq_zero_iff.1 h']; rfl)
  exact ⟨A, c, e, hc, Lib.hid h⟩
theorem arm_code {KF : FuncId} {args : Array Value} {b p : Nat} {k : Int} (HO : Hid (Own w0 X S bs rs F w)) (m : Cold.flt (.iface 45 (.pointer (some ⟨b, 0, none⟩))) p k ∈ F) (h1 : 1 ≤ k) (h2 : k ≤ 25) (hK : KF = 6) (hargs : args = #[.iface 45 (.pointer (some ⟨b, 0, none⟩))]) (h : T (.returned (.int .i64 k)) w) : Calls Tryz.prog KF args w T := by
  subst hK hargs
  obtain ⟨b', e, _, hk⟩ := HO.out.cold _ m
  injection e with _ e
  injection e with e
  injection e with e
  injection e with e
  subst e
  refine (code_fault b p k h1 h2 w hk).mono fun e W hp => ?_
  obtain ⟨rfl, rfl⟩ := hp
  exact h
end
theorem deep_err {k p : Nat} {e : Int} {sign : Bool} (h : treeS (deepL k sign) = .error (p, e)) (hd : deepOK k sign = true) : 61 < k ∧ e = 6 := by
  unfold deepOK at hd
  rw [h] at hd
  simpa using hd
theorem deep_tree {k : Nat} {fe : List ElF} {re : List ElR} {sign : Bool} (h : treeS (deepL k sign) = .ok ⟨fe.map (·.1), re.map (·.1)⟩) (hd : deepOK k sign = true) : ¬ 61 < k ∧ re.length = 1 := by
  unfold deepOK at hd
  rw [h] at hd
  simpa using hd
theorem deep_lt {k : Nat} {sign : Bool} : ∀ x ∈ deepL k sign, x < 256 := by
  intro x hx
  unfold deepL at hx
  cases sign <;> simp at hx <;> omega
theorem deep_len (k : Nat) (hk : k < 80) (sign : Bool) : (deepL k sign).length ≤ 1000000 := by
  unfold deepL
  cases sign <;> simp <;> omega
def DRow (w : World) (L : List Nat) (v : Value) (W : World) : Prop :=
  (L = litD ∧ ∃ g, v = .slice (some ⟨g, 0, none⟩) litD.length litD.length ∧ Hid (Own w [] (fun _ => True) [] [] [Cold.row (some ⟨g, 0, none⟩) (bvs litD)] W)) ∨
  (∃ A c F, litD.length < L.length ∧ v = .slice A L.length c ∧ L.length ≤ c ∧ Hid (Own w [] (fun _ => True) [] [⟨5, 1, .slice A L.length c, L.length, bvs L⟩] F W))
set_option maxRecDepth 100000 in
set_option maxHeartbeats 3200000 in
theorem pdeep_f (n : Nat) (hn : n < 256) (w : World) :
    Calls Tryz.prog 3 #[.int .u8 (n : Int), .bool false] w fun e w' => e = .returned (.bool true) ∧ Below w.heap.size w w' := by
  have HO : Hid (Own w [] (fun _ => True) [] [] [] w) := Lib.hid (Own.init trivial (fun _ _ _ _ _ => trivial))
  have hcv := fun (w : World) (C : Array Value) (n c : Nat) => Lib.run_convert_bytes_const (P := Tryz.prog) w 23 5 C n c Tryz.underlying23 Tryz.underlying5
  obtain ⟨k, hk⟩ : ∃ k, n % 80 = k := ⟨_, rfl⟩
  have hk80 : k < 80 := by omega
  have hrem : Int.tmod (n : Int) 80 = (k : Int) := by rw [← hk]; exact (Int.ofNat_tmod n 80).symm
  have HD := Lib.hid (deep_all k hk80 false)
  clear hk
  go_enter Tryz.func3, Tryz.ntmps3
  (repeat' (first | (with_reducible first | refine oXt ?_ | refine oXb ?_) | ((with_reducible refine ib_miss ?_ ?_); exact rfl) | ((first | ((with_reducible refine to_load ?_); first | refine oL1 HO rfl rfl ?_ | refine oL2 HO rfl rfl ?_ | refine oL3 HO rfl rfl ?_) | ((with_reducible refine to_field ?_); refine oF1 rfl ?_; refine ⟨_, _, _, _, _, _, _, _, rfl, rfl, inferInstance, ?_⟩) | ((first | with_reducible refine oAl HO ?_ | ((with_reducible refine to_box ?_); refine wo_box HO rfl rfl ?_)); clear HO; intro _ HO)); (try simp only [Act.put, pS0, pS1, pS2])) | ((first | ((with_reducible refine to_store ?_); first | refine oT1 HO rfl rfl rfl ?_ | refine oT2 HO rfl rfl rfl (by rfl) ?_ | refine oT3 HO rfl rfl rfl rfl ?_) | with_reducible refine ab_drew HO ?_); clear HO; intro _ HO) | ((with_reducible refine ab_junk HO 9 ?_); clear HO; intro _ HO HB) | ((with_reducible refine ab_markD HO ?_); clear HO; intro _ HO) | ((go_big_may; first | (go_at_call 4; refine arm_awakeD HO rfl rfl ?_; clear HO; intro _ HO)) <;> (try dsimp only)) | go_values | go_skip | go_guarded | go_step | go_upon | (go_ite <;> go_prune <;> (try go_simp))))
  go_loopw [6, 7] (fun bv iv W => ∃ (j : Nat) (L : List Nat), iv = .int .i64 (j : Int) ∧ j ≤ k ∧ L = litD ++ List.replicate j 40 ∧ DRow w L bv W) (fun _ iv _ => k - (intOf iv).toNat)
  case atStart => exact ⟨0, litD, rfl, Nat.zero_le _, by simp, .inl ⟨rfl, _, rfl, HO⟩⟩
  case round =>
    clear HO
    obtain ⟨j, L, rfl, hj, hL, hD⟩ := hrel
    have hLn : L.length ≤ 1000 := by rw [hL]; simp [litD]; omega
    have HLL := Lib.hid hLn
    have HL := Lib.hid hL
    clear hL hLn
    by_cases hjk : j < k
    · have d1 : decide ((j : Int) < (k : Int)) = true := decide_eq_true (by exact_mod_cast hjk)
      rcases hD with ⟨hl, g, rfl, HO⟩ | ⟨A, c, F, hlt, rfl, hc, HO⟩
      · subst hl
        (repeat' (first | (with_reducible first | refine oXt ?_ | refine oXb ?_) | ((with_reducible refine ib_miss ?_ ?_); exact rfl) | ((first | ((with_reducible refine to_load ?_); first | refine oL1 HO rfl rfl ?_ | refine oL2 HO rfl rfl ?_ | refine oL3 HO rfl rfl ?_) | ((with_reducible refine to_field ?_); refine oF1 rfl ?_; refine ⟨_, _, _, _, _, _, _, _, rfl, rfl, inferInstance, ?_⟩) | ((first | with_reducible refine oAl HO ?_ | ((with_reducible refine to_box ?_); refine wo_box HO rfl rfl ?_)); clear HO; intro _ HO)); (try simp only [Act.put, pS0, pS1, pS2])) | ((first | ((with_reducible refine to_store ?_); first | refine oT1 HO rfl rfl rfl ?_ | refine oT2 HO rfl rfl rfl (by rfl) ?_ | refine oT3 HO rfl rfl rfl rfl ?_) | with_reducible refine ab_drew HO ?_); clear HO; intro _ HO) | ((with_reducible refine ab_junk HO 9 ?_); clear HO; intro _ HO HB) | ((with_reducible refine ab_junk HO 5 ?_); clear HO; intro _ HO HQ) | ((with_reducible refine to_append ?_); refine wo_appM (l := litD) (ys := [40]) HO rfl rfl (rb_coldD HO (by decide) (by repeat (first | exact mH | apply mT))) rfl (rb_junkD (l := [40]) (by decide) HQ) (by decide) (by decide) ?_; clear HO HQ; intro _ _ _ hcap HO; (try simp only [Act.put, pS0, pS1, pS2])) | go_values | go_skip | go_guarded | go_step | go_upon | (go_ite <;> go_prune <;> (try go_simp))))
        go_roundw
        case rel => exact ⟨j + 1, _, by go_num, hjk, by rw [List.replicate_succ', ← List.append_assoc, ← HL.out], .inr ⟨_, _, _, by first | (simp; done) | (simp; omega), rfl, hcap, HO⟩⟩
        case measure => exact meas2 (by go_num) (Nat.lt_succ_self j) hjk
      · (repeat' (first | (with_reducible first | refine oXt ?_ | refine oXb ?_) | ((with_reducible refine ib_miss ?_ ?_); exact rfl) | ((first | ((with_reducible refine to_load ?_); first | refine oL1 HO rfl rfl ?_ | refine oL2 HO rfl rfl ?_ | refine oL3 HO rfl rfl ?_) | ((with_reducible refine to_field ?_); refine oF1 rfl ?_; refine ⟨_, _, _, _, _, _, _, _, rfl, rfl, inferInstance, ?_⟩) | ((first | with_reducible refine oAl HO ?_ | ((with_reducible refine to_box ?_); refine wo_box HO rfl rfl ?_)); clear HO; intro _ HO)); (try simp only [Act.put, pS0, pS1, pS2])) | ((first | ((with_reducible refine to_store ?_); first | refine oT1 HO rfl rfl rfl ?_ | refine oT2 HO rfl rfl rfl (by rfl) ?_ | refine oT3 HO rfl rfl rfl rfl ?_) | with_reducible refine ab_drew HO ?_); clear HO; intro _ HO) | ((with_reducible refine ab_junk HO 9 ?_); clear HO; intro _ HO HB) | ((with_reducible refine ab_junk HO 5 ?_); clear HO; intro _ HO HQ) | ((with_reducible refine to_append ?_); refine wo_appU HO rfl rfl rfl HQ 40 rfl (by have h := HLL.out; omega) ?_; clear HO HQ; intro _ _ _ hcap HO; (try simp only [Act.put, pS0, pS1, pS2])) | go_values | go_skip | go_guarded | go_step | go_upon | (go_ite <;> go_prune <;> (try go_simp))))
        go_roundw
        case rel => exact ⟨j + 1, _, by go_num, hjk, by rw [List.replicate_succ', ← List.append_assoc, ← HL.out], .inr ⟨_, _, _, by first | (simp; done) | (simp; omega), rfl, hcap, HO⟩⟩
        case measure => exact meas2 (by go_num) (Nat.lt_succ_self j) hjk
    · have d1 : decide ((j : Int) < (k : Int)) = false := decide_eq_false (fun h => hjk (by exact_mod_cast h))
      obtain rfl : k = j := by omega
      rcases hD with ⟨hl, g, rfl, HO⟩ | ⟨A, c, F, hlt, rfl, hc, HO⟩
      case' inl => subst hl
      case' inl => have dz : decide ((0 : Int) < (k : Int)) = false := decide_eq_false (by have h := congrArg List.length HL.out; simp at h; omega)
      case' inr => have dz : decide ((0 : Int) < (k : Int)) = true := decide_eq_true (by have h := congrArg List.length HL.out; simp at h; omega)
      case' inl => (repeat' (first | (with_reducible first | refine oXt ?_ | refine oXb ?_) | ((with_reducible refine ib_miss ?_ ?_); exact rfl) | ((first | ((with_reducible refine to_load ?_); first | refine oL1 HO rfl rfl ?_ | refine oL2 HO rfl rfl ?_ | refine oL3 HO rfl rfl ?_) | ((with_reducible refine to_field ?_); refine oF1 rfl ?_; refine ⟨_, _, _, _, _, _, _, _, rfl, rfl, inferInstance, ?_⟩) | ((first | with_reducible refine oAl HO ?_ | ((with_reducible refine to_box ?_); refine wo_box HO rfl rfl ?_)); clear HO; intro _ HO)); (try simp only [Act.put, pS0, pS1, pS2])) | ((first | ((with_reducible refine to_store ?_); first | refine oT1 HO rfl rfl rfl ?_ | refine oT2 HO rfl rfl rfl (by rfl) ?_ | refine oT3 HO rfl rfl rfl rfl ?_) | with_reducible refine ab_drew HO ?_); clear HO; intro _ HO) | ((with_reducible refine ab_junk HO 9 ?_); clear HO; intro _ HO HB) | ((with_reducible refine ab_junk HO 5 ?_); clear HO; intro _ HO HQ) | ((with_reducible refine to_append ?_); refine wo_appM (l := litD) (ys := [49]) HO rfl rfl (rb_coldD HO (by decide) (by repeat (first | exact mH | apply mT))) rfl (rb_junkD (l := [49]) (by decide) HQ) (by decide) (by decide) ?_; clear HO HQ; intro _ _ _ hcap HO; (try simp only [Act.put, pS0, pS1, pS2])) | go_values | go_skip | go_guarded | go_step | go_upon | (go_ite <;> go_prune <;> (try go_simp))))
      case' inr => (repeat' (first | (with_reducible first | refine oXt ?_ | refine oXb ?_) | ((with_reducible refine ib_miss ?_ ?_); exact rfl) | ((first | ((with_reducible refine to_load ?_); first | refine oL1 HO rfl rfl ?_ | refine oL2 HO rfl rfl ?_ | refine oL3 HO rfl rfl ?_) | ((with_reducible refine to_field ?_); refine oF1 rfl ?_; refine ⟨_, _, _, _, _, _, _, _, rfl, rfl, inferInstance, ?_⟩) | ((first | with_reducible refine oAl HO ?_ | ((with_reducible refine to_box ?_); refine wo_box HO rfl rfl ?_)); clear HO; intro _ HO)); (try simp only [Act.put, pS0, pS1, pS2])) | ((first | ((with_reducible refine to_store ?_); first | refine oT1 HO rfl rfl rfl ?_ | refine oT2 HO rfl rfl rfl (by rfl) ?_ | refine oT3 HO rfl rfl rfl rfl ?_) | with_reducible refine ab_drew HO ?_); clear HO; intro _ HO) | ((with_reducible refine ab_junk HO 9 ?_); clear HO; intro _ HO HB) | ((with_reducible refine ab_junk HO 5 ?_); clear HO; intro _ HO HQ) | ((with_reducible refine to_append ?_); refine wo_appU HO rfl rfl rfl HQ 49 rfl (by have h := HLL.out; omega) ?_; clear HO HQ; intro _ _ _ hcap HO; (try simp only [Act.put, pS0, pS1, pS2])) | go_values | go_skip | go_guarded | go_step | go_upon | (go_ite <;> go_prune <;> (try go_simp))))
      all_goals
        go_loopw [6, 8] (fun bv iv W => ∃ (i : Nat) (L : List Nat), iv = .int .i64 (i : Int) ∧ i ≤ k ∧ L = litD ++ List.replicate k 40 ++ [49] ++ List.replicate i 41 ∧ ∃ A c F, bv = .slice A L.length c ∧ L.length ≤ c ∧ Hid (Own w [] (fun _ => True) [] [⟨5, 1, .slice A L.length c, L.length, bvs L⟩] F W)) (fun _ iv _ => k - (intOf iv).toNat)
        case atStart => exact ⟨0, _, rfl, Nat.zero_le _, by rw [← HL.out]; simp, _, _, _, rfl, hcap, HO⟩
        case round =>
          clear HO hcap HL HLL
          obtain ⟨i, L, rfl, hi, hL, A, c, F, rfl, hc, HO⟩ := hrel
          have hLn : L.length ≤ 1000 := by rw [hL]; simp [litD]; omega
          have HLL := Lib.hid hLn
          have HL := Lib.hid hL
          clear hL hLn
          by_cases hik : i < k
          · have d1 : decide ((i : Int) < (k : Int)) = true := decide_eq_true (by exact_mod_cast hik)
            (repeat' (first | (with_reducible first | refine oXt ?_ | refine oXb ?_) | ((with_reducible refine ib_miss ?_ ?_); exact rfl) | ((first | ((with_reducible refine to_load ?_); first | refine oL1 HO rfl rfl ?_ | refine oL2 HO rfl rfl ?_ | refine oL3 HO rfl rfl ?_) | ((with_reducible refine to_field ?_); refine oF1 rfl ?_; refine ⟨_, _, _, _, _, _, _, _, rfl, rfl, inferInstance, ?_⟩) | ((first | with_reducible refine oAl HO ?_ | ((with_reducible refine to_box ?_); refine wo_box HO rfl rfl ?_)); clear HO; intro _ HO)); (try simp only [Act.put, pS0, pS1, pS2])) | ((first | ((with_reducible refine to_store ?_); first | refine oT1 HO rfl rfl rfl ?_ | refine oT2 HO rfl rfl rfl (by rfl) ?_ | refine oT3 HO rfl rfl rfl rfl ?_) | with_reducible refine ab_drew HO ?_); clear HO; intro _ HO) | ((with_reducible refine ab_junk HO 9 ?_); clear HO; intro _ HO HB) | ((with_reducible refine ab_junk HO 5 ?_); clear HO; intro _ HO HQ) | ((with_reducible refine to_append ?_); refine wo_appU HO rfl rfl rfl HQ 41 rfl (by have h := HLL.out; omega) ?_; clear HO HQ; intro _ _ _ hcap HO; (try simp only [Act.put, pS0, pS1, pS2])) | go_values | go_skip | go_guarded | go_step | go_upon | (go_ite <;> go_prune <;> (try go_simp))))
            go_roundw
            case rel => exact ⟨i + 1, _, by go_num, hik, by rw [List.replicate_succ', ← List.append_assoc, ← HL.out], _, _, _, rfl, hcap, HO⟩
            case measure => exact meas2 (by go_num) (Nat.lt_succ_self i) hik
          have d1 : decide ((i : Int) < (k : Int)) = false := decide_eq_false (fun h => hik (by exact_mod_cast h))
          obtain rfl : k = i := by omega
          (repeat' (first | (with_reducible first | refine oXt ?_ | refine oXb ?_) | ((with_reducible refine ib_miss ?_ ?_); exact rfl) | ((first | ((with_reducible refine to_load ?_); first | refine oL1 HO rfl rfl ?_ | refine oL2 HO rfl rfl ?_ | refine oL3 HO rfl rfl ?_) | ((with_reducible refine to_field ?_); refine oF1 rfl ?_; refine ⟨_, _, _, _, _, _, _, _, rfl, rfl, inferInstance, ?_⟩) | ((first | with_reducible refine oAl HO ?_ | ((with_reducible refine to_box ?_); refine wo_box HO rfl rfl ?_)); clear HO; intro _ HO)); (try simp only [Act.put, pS0, pS1, pS2])) | ((first | ((with_reducible refine to_store ?_); first | refine oT1 HO rfl rfl rfl ?_ | refine oT2 HO rfl rfl rfl (by rfl) ?_ | refine oT3 HO rfl rfl rfl rfl ?_) | with_reducible refine ab_drew HO ?_); clear HO; intro _ HO) | ((with_reducible refine ab_junk HO 9 ?_); clear HO; intro _ HO HB) | ((with_reducible refine ab_junk HO 5 ?_); clear HO; intro _ HO HQ) | ((with_reducible refine to_append ?_); refine wo_appB (ys := [32, 125]) HO rfl rfl rfl (rb_junkD (l := [32, 125]) (by decide) HQ) (by have h := HLL.out; simp; omega) ?_; clear HO HQ; intro _ _ _ hcap HO; (try simp only [Act.put, pS0, pS1, pS2])) | go_values | go_skip | go_guarded | go_step | go_upon | (go_ite <;> go_prune <;> (try go_simp))))
          obtain ⟨A9, c9, e9, hc9, HO9⟩ := one_bytesD HO rfl
          injection e9 with q1 _ q2
          subst q1 q2
          clear HO hcap
          have hE : L ++ [32, 125] = deepL k false := by rw [HL.out]; exact rfl
          have hbl : ∀ x ∈ deepL k false, x < 256 := fun x hx => deep_lt x hx
          rw [hE] at HO9 hc9
          refine arm_parse (src := deepL k false) HO9 (rb_coldD HO9 hbl mH) hc9 (deep_len k hk80 false) rfl (by rw [← hE]; first | rfl | (simp; done) | (simp [Nat.add_assoc]; done)) ?_ ?_
          · clear HO9
            intro p e g W HE HO
            obtain ⟨hd1, rfl⟩ := deep_err HE.out HD.out
            have d9 : decide ((61 : Int) < (k : Int)) = true := decide_eq_true (by exact_mod_cast hd1)
            clear HE hE hbl HD HL HLL
            first
            | (exfalso; omega)
            | (dsimp only
               (repeat' (first | (with_reducible first | refine oXt ?_ | refine oXb ?_) | ((with_reducible refine ib_miss ?_ ?_); exact rfl) | ((first | ((with_reducible refine to_load ?_); first | refine oL1 HO rfl rfl ?_ | refine oL2 HO rfl rfl ?_ | refine oL3 HO rfl rfl ?_) | ((with_reducible refine to_field ?_); refine oF1 rfl ?_; refine ⟨_, _, _, _, _, _, _, _, rfl, rfl, inferInstance, ?_⟩) | ((first | with_reducible refine oAl HO ?_ | ((with_reducible refine to_box ?_); refine wo_box HO rfl rfl ?_)); clear HO; intro _ HO)); (try simp only [Act.put, pS0, pS1, pS2])) | ((first | ((with_reducible refine to_store ?_); first | refine oT1 HO rfl rfl rfl ?_ | refine oT2 HO rfl rfl rfl (by rfl) ?_ | refine oT3 HO rfl rfl rfl rfl ?_) | with_reducible refine ab_drew HO ?_); clear HO; intro _ HO) | ((with_reducible refine ab_junk HO 9 ?_); clear HO; intro _ HO HB) | ((go_big_may; first | (go_at_call 6; refine arm_code HO (by repeat (first | exact mH | apply mT)) (by decide) (by decide) rfl rfl ?_)) <;> (try dsimp only)) | go_values | go_skip | go_guarded | go_step | go_upon | (go_ite <;> go_prune <;> (try go_simp))))
               refine bp_tmp (t := 4) rfl rfl rfl ?_
               exact ⟨rfl, HO.out.kept.below⟩)
          · clear HO9
            intro fe re A' c1 B' c2 W HE HC HO
            obtain ⟨hd1, hd2⟩ := deep_tree HE.out HD.out
            have d9 : decide ((61 : Int) < (k : Int)) = false := decide_eq_false (fun h => hd1 (by exact_mod_cast h))
            have d8 : ((re.length : Int) == 1) = true := by rw [hd2]; rfl
            clear HE hE hbl HD HL HLL hd2
            dsimp only
            (repeat' (first | (with_reducible first | refine oXt ?_ | refine oXb ?_) | ((with_reducible refine ib_miss ?_ ?_); exact rfl) | ((first | ((with_reducible refine to_load ?_); first | refine oL1 HO rfl rfl ?_ | refine oL2 HO rfl rfl ?_ | refine oL3 HO rfl rfl ?_) | ((with_reducible refine to_field ?_); refine oF1 rfl ?_; refine ⟨_, _, _, _, _, _, _, _, rfl, rfl, inferInstance, ?_⟩) | ((first | with_reducible refine oAl HO ?_ | ((with_reducible refine to_box ?_); refine wo_box HO rfl rfl ?_)); clear HO; intro _ HO)); (try simp only [Act.put, pS0, pS1, pS2])) | ((first | ((with_reducible refine to_store ?_); first | refine oT1 HO rfl rfl rfl ?_ | refine oT2 HO rfl rfl rfl (by rfl) ?_ | refine oT3 HO rfl rfl rfl rfl ?_) | with_reducible refine ab_drew HO ?_); clear HO; intro _ HO) | ((with_reducible refine ab_junk HO 9 ?_); clear HO; intro _ HO HB) | go_values | go_skip | go_guarded | go_step | go_upon | (go_ite <;> go_prune <;> (try go_simp))))
            refine bp_tmp (t := 4) rfl rfl rfl ?_
            exact ⟨rfl, HO.out.kept.below⟩
set_option maxRecDepth 100000 in
set_option maxHeartbeats 3200000 in
theorem pdeep_t (n : Nat) (hn : n < 256) (w : World) :
    Calls Tryz.prog 3 #[.int .u8 (n : Int), .bool true] w fun e w' => e = .returned (.bool true) ∧ Below w.heap.size w w' := by
  have HO : Hid (Own w [] (fun _ => True) [] [] [] w) := Lib.hid (Own.init trivial (fun _ _ _ _ _ => trivial))
  have hcv := fun (w : World) (C : Array Value) (n c : Nat) => Lib.run_convert_bytes_const (P := Tryz.prog) w 23 5 C n c Tryz.underlying23 Tryz.underlying5
  obtain ⟨k, hk⟩ : ∃ k, n % 80 = k := ⟨_, rfl⟩
  have hk80 : k < 80 := by omega
  have hrem : Int.tmod (n : Int) 80 = (k : Int) := by rw [← hk]; exact (Int.ofNat_tmod n 80).symm
  have HD := Lib.hid (deep_all k hk80 true)
  clear hk
  go_enter Tryz.func3, Tryz.ntmps3
  (repeat' (first | (with_reducible first | refine oXt ?_ | refine oXb ?_) | ((with_reducible refine ib_miss ?_ ?_); exact rfl) | ((first | ((with_reducible refine to_load ?_); first | refine oL1 HO rfl rfl ?_ | refine oL2 HO rfl rfl ?_ | refine oL3 HO rfl rfl ?_) | ((with_reducible refine to_field ?_); refine oF1 rfl ?_; refine ⟨_, _, _, _, _, _, _, _, rfl, rfl, inferInstance, ?_⟩) | ((first | with_reducible refine oAl HO ?_ | ((with_reducible refine to_box ?_); refine wo_box HO rfl rfl ?_)); clear HO; intro _ HO)); (try simp only [Act.put, pS0, pS1, pS2])) | ((first | ((with_reducible refine to_store ?_); first | refine oT1 HO rfl rfl rfl ?_ | refine oT2 HO rfl rfl rfl (by rfl) ?_ | refine oT3 HO rfl rfl rfl rfl ?_) | with_reducible refine ab_drew HO ?_); clear HO; intro _ HO) | ((with_reducible refine ab_junk HO 9 ?_); clear HO; intro _ HO HB) | ((with_reducible refine ab_markD HO ?_); clear HO; intro _ HO) | ((go_big_may; first | (go_at_call 4; refine arm_awakeD HO rfl rfl ?_; clear HO; intro _ HO)) <;> (try dsimp only)) | go_values | go_skip | go_guarded | go_step | go_upon | (go_ite <;> go_prune <;> (try go_simp))))
  go_loopw [6, 7] (fun bv iv W => ∃ (j : Nat) (L : List Nat), iv = .int .i64 (j : Int) ∧ j ≤ k ∧ L = litD ++ List.replicate j 33 ∧ DRow w L bv W) (fun _ iv _ => k - (intOf iv).toNat)
  case atStart => exact ⟨0, litD, rfl, Nat.zero_le _, by simp, .inl ⟨rfl, _, rfl, HO⟩⟩
  case round =>
    clear HO
    obtain ⟨j, L, rfl, hj, hL, hD⟩ := hrel
    have hLn : L.length ≤ 1000 := by rw [hL]; simp [litD]; omega
    have HLL := Lib.hid hLn
    have HL := Lib.hid hL
    clear hL hLn
    by_cases hjk : j < k
    · have d1 : decide ((j : Int) < (k : Int)) = true := decide_eq_true (by exact_mod_cast hjk)
      rcases hD with ⟨hl, g, rfl, HO⟩ | ⟨A, c, F, hlt, rfl, hc, HO⟩
      · subst hl
        (repeat' (first | (with_reducible first | refine oXt ?_ | refine oXb ?_) | ((with_reducible refine ib_miss ?_ ?_); exact rfl) | ((first | ((with_reducible refine to_load ?_); first | refine oL1 HO rfl rfl ?_ | refine oL2 HO rfl rfl ?_ | refine oL3 HO rfl rfl ?_) | ((with_reducible refine to_field ?_); refine oF1 rfl ?_; refine ⟨_, _, _, _, _, _, _, _, rfl, rfl, inferInstance, ?_⟩) | ((first | with_reducible refine oAl HO ?_ | ((with_reducible refine to_box ?_); refine wo_box HO rfl rfl ?_)); clear HO; intro _ HO)); (try simp only [Act.put, pS0, pS1, pS2])) | ((first | ((with_reducible refine to_store ?_); first | refine oT1 HO rfl rfl rfl ?_ | refine oT2 HO rfl rfl rfl (by rfl) ?_ | refine oT3 HO rfl rfl rfl rfl ?_) | with_reducible refine ab_drew HO ?_); clear HO; intro _ HO) | ((with_reducible refine ab_junk HO 9 ?_); clear HO; intro _ HO HB) | ((with_reducible refine ab_junk HO 5 ?_); clear HO; intro _ HO HQ) | ((with_reducible refine to_append ?_); refine wo_appM (l := litD) (ys := [33]) HO rfl rfl (rb_coldD HO (by decide) (by repeat (first | exact mH | apply mT))) rfl (rb_junkD (l := [33]) (by decide) HQ) (by decide) (by decide) ?_; clear HO HQ; intro _ _ _ hcap HO; (try simp only [Act.put, pS0, pS1, pS2])) | go_values | go_skip | go_guarded | go_step | go_upon | (go_ite <;> go_prune <;> (try go_simp))))
        go_roundw
        case rel => exact ⟨j + 1, _, by go_num, hjk, by rw [List.replicate_succ', ← List.append_assoc, ← HL.out], .inr ⟨_, _, _, by first | (simp; done) | (simp; omega), rfl, hcap, HO⟩⟩
        case measure => exact meas2 (by go_num) (Nat.lt_succ_self j) hjk
      · (repeat' (first | (with_reducible first | refine oXt ?_ | refine oXb ?_) | ((with_reducible refine ib_miss ?_ ?_); exact rfl) | ((first | ((with_reducible refine to_load ?_); first | refine oL1 HO rfl rfl ?_ | refine oL2 HO rfl rfl ?_ | refine oL3 HO rfl rfl ?_) | ((with_reducible refine to_field ?_); refine oF1 rfl ?_; refine ⟨_, _, _, _, _, _, _, _, rfl, rfl, inferInstance, ?_⟩) | ((first | with_reducible refine oAl HO ?_ | ((with_reducible refine to_box ?_); refine wo_box HO rfl rfl ?_)); clear HO; intro _ HO)); (try simp only [Act.put, pS0, pS1, pS2])) | ((first | ((with_reducible refine to_store ?_); first | refine oT1 HO rfl rfl rfl ?_ | refine oT2 HO rfl rfl rfl (by rfl) ?_ | refine oT3 HO rfl rfl rfl rfl ?_) | with_reducible refine ab_drew HO ?_); clear HO; intro _ HO) | ((with_reducible refine ab_junk HO 9 ?_); clear HO; intro _ HO HB) | ((with_reducible refine ab_junk HO 5 ?_); clear HO; intro _ HO HQ) | ((with_reducible refine to_append ?_); refine wo_appU HO rfl rfl rfl HQ 33 rfl (by have h := HLL.out; omega) ?_; clear HO HQ; intro _ _ _ hcap HO; (try simp only [Act.put, pS0, pS1, pS2])) | go_values | go_skip | go_guarded | go_step | go_upon | (go_ite <;> go_prune <;> (try go_simp))))
        go_roundw
        case rel => exact ⟨j + 1, _, by go_num, hjk, by rw [List.replicate_succ', ← List.append_assoc, ← HL.out], .inr ⟨_, _, _, by first | (simp; done) | (simp; omega), rfl, hcap, HO⟩⟩
        case measure => exact meas2 (by go_num) (Nat.lt_succ_self j) hjk
    · have d1 : decide ((j : Int) < (k : Int)) = false := decide_eq_false (fun h => hjk (by exact_mod_cast h))
      obtain rfl : k = j := by omega
      rcases hD with ⟨hl, g, rfl, HO⟩ | ⟨A, c, F, hlt, rfl, hc, HO⟩
      case' inl => subst hl
      case' inl => have dz : decide ((0 : Int) < (k : Int)) = false := decide_eq_false (by have h := congrArg List.length HL.out; simp at h; omega)
      case' inl => have hz0 : ¬ 0 < k := by have h := congrArg List.length HL.out; simp at h; omega
      case' inr => have hz0 : 0 < k := by have h := congrArg List.length HL.out; simp at h; omega
      case' inr => have dz : decide ((0 : Int) < (k : Int)) = true := decide_eq_true (by have h := congrArg List.length HL.out; simp at h; omega)
      case' inl => (repeat' (first | (with_reducible first | refine oXt ?_ | refine oXb ?_) | ((with_reducible refine ib_miss ?_ ?_); exact rfl) | ((first | ((with_reducible refine to_load ?_); first | refine oL1 HO rfl rfl ?_ | refine oL2 HO rfl rfl ?_ | refine oL3 HO rfl rfl ?_) | ((with_reducible refine to_field ?_); refine oF1 rfl ?_; refine ⟨_, _, _, _, _, _, _, _, rfl, rfl, inferInstance, ?_⟩) | ((first | with_reducible refine oAl HO ?_ | ((with_reducible refine to_box ?_); refine wo_box HO rfl rfl ?_)); clear HO; intro _ HO)); (try simp only [Act.put, pS0, pS1, pS2])) | ((first | ((with_reducible refine to_store ?_); first | refine oT1 HO rfl rfl rfl ?_ | refine oT2 HO rfl rfl rfl (by rfl) ?_ | refine oT3 HO rfl rfl rfl rfl ?_) | with_reducible refine ab_drew HO ?_); clear HO; intro _ HO) | ((with_reducible refine ab_junk HO 9 ?_); clear HO; intro _ HO HB) | ((with_reducible refine ab_junk HO 5 ?_); clear HO; intro _ HO HQ) | ((with_reducible refine to_append ?_); refine wo_appM (l := litD) (ys := [49]) HO rfl rfl (rb_coldD HO (by decide) (by repeat (first | exact mH | apply mT))) rfl (rb_junkD (l := [49]) (by decide) HQ) (by decide) (by decide) ?_; clear HO HQ; intro _ _ _ hcap HO; (try simp only [Act.put, pS0, pS1, pS2])) | go_values | go_skip | go_guarded | go_step | go_upon | (go_ite <;> go_prune <;> (try go_simp))))
      case' inr => (repeat' (first | (with_reducible first | refine oXt ?_ | refine oXb ?_) | ((with_reducible refine ib_miss ?_ ?_); exact rfl) | ((first | ((with_reducible refine to_load ?_); first | refine oL1 HO rfl rfl ?_ | refine oL2 HO rfl rfl ?_ | refine oL3 HO rfl rfl ?_) | ((with_reducible refine to_field ?_); refine oF1 rfl ?_; refine ⟨_, _, _, _, _, _, _, _, rfl, rfl, inferInstance, ?_⟩) | ((first | with_reducible refine oAl HO ?_ | ((with_reducible refine to_box ?_); refine wo_box HO rfl rfl ?_)); clear HO; intro _ HO)); (try simp only [Act.put, pS0, pS1, pS2])) | ((first | ((with_reducible refine to_store ?_); first | refine oT1 HO rfl rfl rfl ?_ | refine oT2 HO rfl rfl rfl (by rfl) ?_ | refine oT3 HO rfl rfl rfl rfl ?_) | with_reducible refine ab_drew HO ?_); clear HO; intro _ HO) | ((with_reducible refine ab_junk HO 9 ?_); clear HO; intro _ HO HB) | ((with_reducible refine ab_junk HO 5 ?_); clear HO; intro _ HO HQ) | ((with_reducible refine to_append ?_); refine wo_appU HO rfl rfl rfl HQ 49 rfl (by have h := HLL.out; omega) ?_; clear HO HQ; intro _ _ _ hcap HO; (try simp only [Act.put, pS0, pS1, pS2])) | go_values | go_skip | go_guarded | go_step | go_upon | (go_ite <;> go_prune <;> (try go_simp))))
      all_goals
        go_loopw [6, 8] (fun bv iv W => ∃ (i : Nat) (L : List Nat), iv = .int .i64 (i : Int) ∧ i = 0 ∧ L = litD ++ List.replicate k 33 ++ [49] ++ List.replicate i 41 ∧ ∃ A c F, bv = .slice A L.length c ∧ L.length ≤ c ∧ Hid (Own w [] (fun _ => True) [] [⟨5, 1, .slice A L.length c, L.length, bvs L⟩] F W)) (fun _ iv _ => k - (intOf iv).toNat)
        case atStart => exact ⟨0, _, rfl, rfl, by rw [← HL.out]; simp, _, _, _, rfl, hcap, HO⟩
        case round =>
          clear HO hcap HL HLL
          obtain ⟨i, L, rfl, hi, hL, A, c, F, rfl, hc, HO⟩ := hrel
          have hLn : L.length ≤ 1000 := by rw [hL]; simp [litD]; omega
          have HLL := Lib.hid hLn
          have HL := Lib.hid hL
          clear hL hLn
          subst hi
          (repeat' (first | (with_reducible first | refine oXt ?_ | refine oXb ?_) | ((with_reducible refine ib_miss ?_ ?_); exact rfl) | ((first | ((with_reducible refine to_load ?_); first | refine oL1 HO rfl rfl ?_ | refine oL2 HO rfl rfl ?_ | refine oL3 HO rfl rfl ?_) | ((with_reducible refine to_field ?_); refine oF1 rfl ?_; refine ⟨_, _, _, _, _, _, _, _, rfl, rfl, inferInstance, ?_⟩) | ((first | with_reducible refine oAl HO ?_ | ((with_reducible refine to_box ?_); refine wo_box HO rfl rfl ?_)); clear HO; intro _ HO)); (try simp only [Act.put, pS0, pS1, pS2])) | ((first | ((with_reducible refine to_store ?_); first | refine oT1 HO rfl rfl rfl ?_ | refine oT2 HO rfl rfl rfl (by rfl) ?_ | refine oT3 HO rfl rfl rfl rfl ?_) | with_reducible refine ab_drew HO ?_); clear HO; intro _ HO) | ((with_reducible refine ab_junk HO 9 ?_); clear HO; intro _ HO HB) | ((with_reducible refine ab_junk HO 5 ?_); clear HO; intro _ HO HQ) | ((with_reducible refine to_append ?_); refine wo_appB (ys := [32, 125]) HO rfl rfl rfl (rb_junkD (l := [32, 125]) (by decide) HQ) (by have h := HLL.out; simp; omega) ?_; clear HO HQ; intro _ _ _ hcap HO; (try simp only [Act.put, pS0, pS1, pS2])) | go_values | go_skip | go_guarded | go_step | go_upon | (go_ite <;> go_prune <;> (try go_simp))))
          obtain ⟨A9, c9, e9, hc9, HO9⟩ := one_bytesD HO rfl
          injection e9 with q1 _ q2
          subst q1 q2
          clear HO hcap
          have hE : L ++ [32, 125] = deepL k true := by rw [HL.out]; exact rfl
          have hbl : ∀ x ∈ deepL k true, x < 256 := fun x hx => deep_lt x hx
          rw [hE] at HO9 hc9
          refine arm_parse (src := deepL k true) HO9 (rb_coldD HO9 hbl mH) hc9 (deep_len k hk80 true) rfl (by rw [← hE]; first | rfl | (simp; done) | (simp [Nat.add_assoc]; done)) ?_ ?_
          · clear HO9
            intro p e g W HE HO
            obtain ⟨hd1, rfl⟩ := deep_err HE.out HD.out
            have d9 : decide ((61 : Int) < (k : Int)) = true := decide_eq_true (by exact_mod_cast hd1)
            clear HE hE hbl HD HL HLL
            first
            | (exfalso; omega)
            | (dsimp only
               (repeat' (first | (with_reducible first | refine oXt ?_ | refine oXb ?_) | ((with_reducible refine ib_miss ?_ ?_); exact rfl) | ((first | ((with_reducible refine to_load ?_); first | refine oL1 HO rfl rfl ?_ | refine oL2 HO rfl rfl ?_ | refine oL3 HO rfl rfl ?_) | ((with_reducible refine to_field ?_); refine oF1 rfl ?_; refine ⟨_, _, _, _, _, _, _, _, rfl, rfl, inferInstance, ?_⟩) | ((first | with_reducible refine oAl HO ?_ | ((with_reducible refine to_box ?_); refine wo_box HO rfl rfl ?_)); clear HO; intro _ HO)); (try simp only [Act.put, pS0, pS1, pS2])) | ((first | ((with_reducible refine to_store ?_); first | refine oT1 HO rfl rfl rfl ?_ | refine oT2 HO rfl rfl rfl (by rfl) ?_ | refine oT3 HO rfl rfl rfl rfl ?_) | with_reducible refine ab_drew HO ?_); clear HO; intro _ HO) | ((with_reducible refine ab_junk HO 9 ?_); clear HO; intro _ HO HB) | ((go_big_may; first | (go_at_call 6; refine arm_code HO (by repeat (first | exact mH | apply mT)) (by decide) (by decide) rfl rfl ?_)) <;> (try dsimp only)) | go_values | go_skip | go_guarded | go_step | go_upon | (go_ite <;> go_prune <;> (try go_simp))))
               refine bp_tmp (t := 4) rfl rfl rfl ?_
               exact ⟨rfl, HO.out.kept.below⟩)
          · clear HO9
            intro fe re A' c1 B' c2 W HE HC HO
            obtain ⟨hd1, hd2⟩ := deep_tree HE.out HD.out
            have d9 : decide ((61 : Int) < (k : Int)) = false := decide_eq_false (fun h => hd1 (by exact_mod_cast h))
            have d8 : ((re.length : Int) == 1) = true := by rw [hd2]; rfl
            clear HE hE hbl HD HL HLL hd2
            dsimp only
            (repeat' (first | (with_reducible first | refine oXt ?_ | refine oXb ?_) | ((with_reducible refine ib_miss ?_ ?_); exact rfl) | ((first | ((with_reducible refine to_load ?_); first | refine oL1 HO rfl rfl ?_ | refine oL2 HO rfl rfl ?_ | refine oL3 HO rfl rfl ?_) | ((with_reducible refine to_field ?_); refine oF1 rfl ?_; refine ⟨_, _, _, _, _, _, _, _, rfl, rfl, inferInstance, ?_⟩) | ((first | with_reducible refine oAl HO ?_ | ((with_reducible refine to_box ?_); refine wo_box HO rfl rfl ?_)); clear HO; intro _ HO)); (try simp only [Act.put, pS0, pS1, pS2])) | ((first | ((with_reducible refine to_store ?_); first | refine oT1 HO rfl rfl rfl ?_ | refine oT2 HO rfl rfl rfl (by rfl) ?_ | refine oT3 HO rfl rfl rfl rfl ?_) | with_reducible refine ab_drew HO ?_); clear HO; intro _ HO) | ((with_reducible refine ab_junk HO 9 ?_); clear HO; intro _ HO HB) | go_values | go_skip | go_guarded | go_step | go_upon | (go_ite <;> go_prune <;> (try go_simp))))
            refine bp_tmp (t := 4) rfl rfl rfl ?_
            exact ⟨rfl, HO.out.kept.below⟩
theorem pdeep_w (x : Int) (b : Bool) (w : World) (h : 0 ≤ x ∧ x < 256) :
    Calls Tryz.prog 3 #[.int .u8 x, .bool b] w fun e w' => e = .returned (.bool true) ∧ Below w.heap.size w w' := by
  obtain ⟨n, rfl⟩ := Int.eq_ofNat_of_zero_le h.1
  cases b
  · exact pdeep_f n (by have := h.2; omega) w
  · exact pdeep_t n (by have := h.2; omega) w
end Go.Proofs.YtdiibenofbcfnaaGreat
