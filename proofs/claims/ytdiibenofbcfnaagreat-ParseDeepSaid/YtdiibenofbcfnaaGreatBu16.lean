/- Several texts put together: ParE, ParF. -/
import Derived.Test.YtdiibenofbcfnaaGreatBu3
import Derived.Test.YtdiibenofbcfnaaGreatBu15
set_option linter.unusedSimpArgs false
set_option linter.unusedVariables false
namespace Go.Proofs.YtdiibenofbcfnaaGreat
open Go.RowKit
section
variable {β : Type} {g : Nat} {ts : List TokF} {a d n : Nat} {w w' w0 W : World} {X : List Nat} {bs : List Bx} {rs : List Rw} {F : List Cold} {T : Ending → World → Prop} {K : FuncId} {args : Array Value} {R : PR β}
theorem le_nx : a ≤ nx ts a := by unfold nx; split <;> omega
theorem nx_isS {ss : List (List Nat)} (h : isS ts a ss = true) : nx ts a = a + 1 := by
  unfold isS at h
  rw [Bool.and_eq_true] at h
  unfold nx
  rw [if_neg]
  intro e
  have h1 := beq_iff_eq.1 h.1
  have h2 := beq_iff_eq.1 e
  omega
theorem nx_isW {ss : List (List Nat)} (h : isW ts a ss = true) : nx ts a = a + 1 := by
  unfold isW at h
  rw [Bool.and_eq_true] at h
  unfold nx
  rw [if_neg]
  intro e
  have h1 := beq_iff_eq.1 h.1
  have h2 := beq_iff_eq.1 e
  omega
theorem arm_tokF {k : TokF → PP β} (HO : Hid (Own w0 X (PS g ts a d) bs rs F w)) (HF : Hid ((tokP ts >>= k) a d = R)) (hK : K = 15) (ha : args = #[.pointer (some ⟨g, 0, none⟩)])
    (h : ∀ W, Hid (Own w0 X (PS g ts a d) bs rs F W) → Hid (k (tk ts a) a d = R) → T (.returned (.agg #[.int .i64 ((TokF.k (tk ts a) : Nat) : Int), .int .i64 ((TokF.at' (tk ts a) : Nat) : Int), .string (strN (TokF.s (tk ts a))), .bool (zn (TokF.z (tk ts a))), .int .u64 (zh (TokF.z (tk ts a))), .int .u64 (zl (TokF.z (tk ts a)))])) W) : Calls Tryz.prog K args w T :=
  arm_tok HO hK ha fun W hO => h W hO HF
theorem arm_nextF {k : TokF → PP β} (HO : Hid (Own w0 [g] (PS g ts a d) bs rs F w)) (HF : Hid ((nextP ts >>= k) a d = R)) (hg : g < w0.heap.size) (hK : K = 29) (ha : args = #[.pointer (some ⟨g, 0, none⟩)])
    (h : ∀ W, a ≤ nx ts a → Hid (Own w0 [g] (PS g ts (nx ts a) d) bs rs F W) → Hid (k (tk ts a) (nx ts a) d = R) → T (.returned (.agg #[.int .i64 ((TokF.k (tk ts a) : Nat) : Int), .int .i64 ((TokF.at' (tk ts a) : Nat) : Int), .string (strN (TokF.s (tk ts a))), .bool (zn (TokF.z (tk ts a))), .int .u64 (zh (TokF.z (tk ts a))), .int .u64 (zl (TokF.z (tk ts a)))])) W) : Calls Tryz.prog K args w T :=
  arm_next HO hg hK ha fun W hO => h W le_nx hO HF
theorem arm_sgn (HO : Hid (Own w0 X (PS g ts a d) bs rs F w)) (hK : K = 28) {r c m : Nat} (ha : args = #[.pointer (some ⟨g, 0, none⟩), .slice (some ⟨r, 0, none⟩) m c]) {cs : List Value} (HB : Hid (Blk w r 9 cs.toArray)) {ss : List (List Nat)} (hcs : cs = ss.map fun s => Value.string (strN s)) (hm : m = ss.length) (hss : ∀ s ∈ ss, ∀ x ∈ s, x < 256) (hsl : ss.length ≤ 100)
    (h : ∀ W b, isS ts a ss = b → Hid (Own w0 X (PS g ts a d) bs rs F W) → T (.returned (.bool b)) W) : Calls Tryz.prog K args w T := by
  subst hK ha hcs hm
  refine (psign_any ss hss hsl r c w HB.out HO.out.st).mono fun e W hp => ?_
  obtain ⟨rfl, q⟩ := hp
  exact h W _ rfl (Lib.hid (HO.out.next q))
theorem arm_wrd (HO : Hid (Own w0 X (PS g ts a d) bs rs F w)) (hK : K = 30) {r c m : Nat} (ha : args = #[.pointer (some ⟨g, 0, none⟩), .slice (some ⟨r, 0, none⟩) m c]) {cs : List Value} (HB : Hid (Blk w r 9 cs.toArray)) {ss : List (List Nat)} (hcs : cs = ss.map fun s => Value.string (strN s)) (hm : m = ss.length) (hss : ∀ s ∈ ss, ∀ x ∈ s, x < 256) (hsl : ss.length ≤ 100)
    (h : ∀ W b, isW ts a ss = b → Hid (Own w0 X (PS g ts a d) bs rs F W) → T (.returned (.bool b)) W) : Calls Tryz.prog K args w T := by
  subst hK ha hcs hm
  refine (pword_any ss hss hsl r c w HB.out HO.out.st).mono fun e W hp => ?_
  obtain ⟨rfl, q⟩ := hp
  exact h W _ rfl (Lib.hid (HO.out.next q))
theorem arm_sgnF {ss : List (List Nat)} {k : Bool → PP β} (HO : Hid (Own w0 X (PS g ts a d) bs rs F w)) (HF : Hid ((sgnP ts ss >>= k) a d = R)) (hK : K = 28) {r c m : Nat} (ha : args = #[.pointer (some ⟨g, 0, none⟩), .slice (some ⟨r, 0, none⟩) m c]) {cs : List Value} (HB : Hid (Blk w r 9 cs.toArray)) (hcs : cs = ss.map fun s => Value.string (strN s)) (hm : m = ss.length) (hss : ∀ s ∈ ss, ∀ x ∈ s, x < 256) (hsl : ss.length ≤ 100)
    (h : ∀ W b, isS ts a ss = b → Hid (Own w0 X (PS g ts a d) bs rs F W) → Hid (k b a d = R) → T (.returned (.bool b)) W) : Calls Tryz.prog K args w T :=
  arm_sgn HO hK ha HB hcs hm hss hsl fun W b hb hO => h W b hb hO (by subst hb; exact HF)
theorem arm_wrdF {ss : List (List Nat)} {k : Bool → PP β} (HO : Hid (Own w0 X (PS g ts a d) bs rs F w)) (HF : Hid ((wrdP ts ss >>= k) a d = R)) (hK : K = 30) {r c m : Nat} (ha : args = #[.pointer (some ⟨g, 0, none⟩), .slice (some ⟨r, 0, none⟩) m c]) {cs : List Value} (HB : Hid (Blk w r 9 cs.toArray)) (hcs : cs = ss.map fun s => Value.string (strN s)) (hm : m = ss.length) (hss : ∀ s ∈ ss, ∀ x ∈ s, x < 256) (hsl : ss.length ≤ 100)
    (h : ∀ W b, isW ts a ss = b → Hid (Own w0 X (PS g ts a d) bs rs F W) → Hid (k b a d = R) → T (.returned (.bool b)) W) : Calls Tryz.prog K args w T :=
  arm_wrd HO hK ha HB hcs hm hss hsl fun W b hb hO => h W b hb hO (by subst hb; exact HF)
theorem arm_fail {k : Int} (HO : Hid (Own w0 [g] (PS g ts a d) bs rs F w)) (HF : Hid ((failP ts k : PP β) a d = R)) (hK : K = 39) (ha : args = #[.pointer (some ⟨g, 0, none⟩), .int .i64 k])
    (h : ∀ v pl e W, Hid (FailV W w0.heap.size v pl e) → Hid (Kept [g] w0 W) → Hid (R = .err pl e) → T (.panicked [{ v := v, recovered := false }]) W) : Calls Tryz.prog K args w T := by
  subst hK ha
  refine (pfail_any k w HO.out.st).mono fun e W hp => ?_
  obtain ⟨v, rfl, hv, q⟩ := hp
  exact h v _ k W (Lib.hid (hv.mono HO.out.kept.size)) (Lib.hid (HO.out.kept.trans q fun y hy => .inl hy)) (Lib.hid HF.out.symm)
theorem arm_ask {t : Nat → Bool} (HO : Hid (Own w0 X (PS g ts a d) bs rs F w)) {K' : FuncId} (H : ∀ w, PS g ts a d w → Calls Tryz.prog K' #[.pointer (some ⟨g, 0, none⟩)] w fun e w' => e = .returned (.bool (t a)) ∧ Below w.heap.size w w') (hK : K = K') (ha : args = #[.pointer (some ⟨g, 0, none⟩)])
    (h : ∀ W b, t a = b → Hid (Own w0 X (PS g ts a d) bs rs F W) → T (.returned (.bool b)) W) : Calls Tryz.prog K args w T := by
  subst hK ha
  refine (H w HO.out.st).mono fun e W hp => ?_
  obtain ⟨rfl, q⟩ := hp
  exact h W _ rfl (Lib.hid (HO.out.next q))
theorem arm_askF {t : Nat → Bool} {k : Bool → PP β} (HO : Hid (Own w0 X (PS g ts a d) bs rs F w)) (HF : Hid ((askP t >>= k) a d = R)) {K' : FuncId} (H : ∀ w, PS g ts a d w → Calls Tryz.prog K' #[.pointer (some ⟨g, 0, none⟩)] w fun e w' => e = .returned (.bool (t a)) ∧ Below w.heap.size w w') (hK : K = K') (ha : args = #[.pointer (some ⟨g, 0, none⟩)])
    (h : ∀ W b, t a = b → Hid (Own w0 X (PS g ts a d) bs rs F W) → Hid (k b a d = R) → T (.returned (.bool b)) W) : Calls Tryz.prog K args w T :=
  arm_ask HO H hK ha fun W b hb hO => h W b hb hO (by subst hb; exact HF)
end
set_option maxRecDepth 100000 in
set_option maxHeartbeats 3200000 in
theorem ptake_any (g : Nat) (ts : List TokF) (n : Nat) (s : List Nat) (hs : ∀ x ∈ s, x < 256) : FC 40 #[.pointer (some ⟨g, 0, none⟩), .string (strN s)] (takeP ts s) VU g ts n := by
  intro w a d m hn
  obtain ⟨R, hR⟩ : ∃ R, (takeP ts s) a d = R := ⟨_, rfl⟩
  rw [hR]
  have HF := Lib.hid hR
  have HO := m.own
  have hg := m.lt
  clear hR
  unfold takeP at HF
  clear m
  go_enter Tryz.func40, Tryz.ntmps40
  (repeat' (first | (with_reducible first | refine oXt ?_ | refine oXb ?_) | ((with_reducible refine ib_miss ?_ ?_); exact rfl) | ((first | with_reducible refine ab_drew HO ?_); clear HO; intro _ HO) | ((with_reducible refine ab_junk HO 9 ?_); clear HO; intro _ HO HB) | ((go_big_may; first | (go_at_call 28; refine arm_sgnF HO HF rfl rfl HB rfl rfl (by simpa using hs) (by simp) ?_; clear HO HF HB; intro _ b hb HO HF; cases b <;> (try simp only [↓reduceIte, Bool.false_eq_true, Bool.not_true, Bool.not_false] at HF)) | (go_at_call 29; first | (refine arm_nextF HO HF hg rfl rfl ?_; clear HO HF; intro _ hle HO HF) | (refine arm_next HO hg rfl rfl ?_; clear HO; intro _ HO)) | (go_at_call 39; refine arm_fail HO HF rfl rfl ?_; (intro v pl e W h1 h2 h3; first | (exact bp_panic2 rfl h1 h2 h3) | ((try dsimp only); (repeat (first | go_big_open | (simp only [Exit.then, Exit.inBlock]))); exact bp_panic2 rfl h1 h2 h3))) | fail) <;> (try dsimp only)) | go_values | go_skip | go_guarded | go_step | go_upon | (go_ite <;> go_prune <;> (try go_simp))))
  exact bp_noneN rfl rfl (bp_ok HO HF (by omega) rfl rfl)
set_option maxRecDepth 100000 in
set_option maxHeartbeats 3200000 in
theorem pkey_any (g : Nat) (ts : List TokF) (n : Nat) (s : List Nat) (hs : ∀ x ∈ s, x < 256) : FC 65 #[.pointer (some ⟨g, 0, none⟩), .string (strN s)] (keyP ts s) VU g ts n := by
  intro w a d m hn
  obtain ⟨R, hR⟩ : ∃ R, (keyP ts s) a d = R := ⟨_, rfl⟩
  rw [hR]
  have HF := Lib.hid hR
  have HO := m.own
  have hg := m.lt
  clear hR
  unfold keyP at HF
  clear m
  go_enter Tryz.func65, Tryz.ntmps65
  (repeat' (first | (with_reducible first | refine oXt ?_ | refine oXb ?_) | ((with_reducible refine ib_miss ?_ ?_); exact rfl) | ((first | with_reducible refine ab_drew HO ?_); clear HO; intro _ HO) | ((with_reducible refine ab_junk HO 9 ?_); clear HO; intro _ HO HB) | ((go_big_may; first | (go_at_call 30; refine arm_wrdF HO HF rfl rfl HB rfl rfl (by simpa using hs) (by simp) ?_; clear HO HF HB; intro _ b hb HO HF; cases b <;> (try simp only [↓reduceIte, Bool.false_eq_true, Bool.not_true, Bool.not_false] at HF)) | (go_at_call 29; first | (refine arm_nextF HO HF hg rfl rfl ?_; clear HO HF; intro _ hle HO HF) | (refine arm_next HO hg rfl rfl ?_; clear HO; intro _ HO)) | (go_at_call 39; refine arm_fail HO HF rfl rfl ?_; (intro v pl e W h1 h2 h3; first | (exact bp_panic2 rfl h1 h2 h3) | ((try dsimp only); (repeat (first | go_big_open | (simp only [Exit.then, Exit.inBlock]))); exact bp_panic2 rfl h1 h2 h3))) | fail) <;> (try dsimp only)) | go_values | go_skip | go_guarded | go_step | go_upon | (go_ite <;> go_prune <;> (try go_simp))))
  exact bp_noneN rfl rfl (bp_ok HO HF (by omega) rfl rfl)
set_option maxRecDepth 100000 in
set_option maxHeartbeats 3200000 in
theorem pname_any (g : Nat) (ts : List TokF) (n : Nat) : FC 41 #[.pointer (some ⟨g, 0, none⟩)] (nameP ts) VT g ts n := by
  intro w a d m hn
  obtain ⟨R, hR⟩ : ∃ R, (nameP ts) a d = R := ⟨_, rfl⟩
  rw [hR]
  have HF := Lib.hid hR
  have HO := m.own
  have hg := m.lt
  clear hR
  unfold nameP at HF
  clear m
  have HF0 : Hid (((if (((tk ts a).k : Int) == 5) = true then nextP ts else failP ts 4) : PP TokF) a d = R) := HF
  clear HF
  cases hk : (((tk ts a).k : Int) == 5)
  · have HF : Hid ((failP ts 4 : PP TokF) a d = R) := by rw [hk] at HF0; exact HF0
    clear HF0
    go_enter Tryz.func41, Tryz.ntmps41
    (repeat' (first | (with_reducible first | refine oXt ?_ | refine oXb ?_) | ((with_reducible refine ib_miss ?_ ?_); exact rfl) | ((first | ((with_reducible refine to_field ?_); refine oF1 rfl ?_; refine ⟨_, _, _, _, _, _, _, _, rfl, rfl, inferInstance, ?_⟩) | ((first | with_reducible refine oAl HO ?_); clear HO; intro _ HO)); (try simp only [Act.put, pS0, pS1, pS2])) | ((first | ((with_reducible refine to_store ?_); first | refine oT1 HO rfl rfl rfl ?_ | refine oT2 HO rfl rfl rfl (by rfl) ?_ | refine oT3 HO rfl rfl rfl rfl ?_) | with_reducible refine ab_drew HO ?_); clear HO; intro _ HO) | ((go_big_may; first | (go_at_call 15; first | (refine arm_tokF HO HF rfl rfl ?_; clear HO HF; intro _ HO HF) | (refine arm_tok HO rfl rfl ?_; clear HO; intro _ HO)) | (go_at_call 39; refine arm_fail HO HF rfl rfl ?_; (intro v pl e W h1 h2 h3; first | (exact bp_panic2 rfl h1 h2 h3) | ((try dsimp only); (repeat (first | go_big_open | (simp only [Exit.then, Exit.inBlock]))); exact bp_panic2 rfl h1 h2 h3))) | fail) <;> (try dsimp only)) | go_values | go_skip | go_guarded | go_step | go_upon | (go_ite <;> go_prune <;> (try go_simp))))
  · have HF : Hid ((nextP ts : PP TokF) a d = R) := by rw [hk] at HF0; exact HF0
    clear HF0
    have HF2 : R = .ok (tk ts a) (nx ts a) d := HF.out.symm
    subst HF2
    go_enter Tryz.func41, Tryz.ntmps41
    (repeat' (first | (with_reducible first | refine oXt ?_ | refine oXb ?_) | ((with_reducible refine ib_miss ?_ ?_); exact rfl) | ((first | ((with_reducible refine to_field ?_); refine oF1 rfl ?_; refine ⟨_, _, _, _, _, _, _, _, rfl, rfl, inferInstance, ?_⟩) | ((first | with_reducible refine oAl HO ?_); clear HO; intro _ HO)); (try simp only [Act.put, pS0, pS1, pS2])) | ((first | ((with_reducible refine to_store ?_); first | refine oT1 HO rfl rfl rfl ?_ | refine oT2 HO rfl rfl rfl (by rfl) ?_ | refine oT3 HO rfl rfl rfl rfl ?_) | with_reducible refine ab_drew HO ?_); clear HO; intro _ HO) | ((go_big_may; first | (go_at_call 15; refine arm_tok HO rfl rfl ?_; clear HO; intro _ HO) | (go_at_call 29; refine arm_next HO hg rfl rfl ?_; clear HO; intro _ HO) | fail) <;> (try dsimp only)) | go_values | go_skip | go_guarded | go_step | go_upon | (go_ite <;> go_prune <;> (try go_simp))))
    (refine bp_cell HO (t := 2) (ty := 59) rfl rfl (by repeat (first | exact mH | apply mT)) Tryz.isAgg59 Tryz.sizeOf59 (by rfl) rfl ?_)
    exact ⟨_, rfl, rfl, HO.out.st, HO.out.kept, le_nx, rfl⟩
section
variable {β : Type} {g : Nat} {ts : List TokF} {a d n : Nat} {w w' w0 W : World} {X : List Nat} {bs : List Bx} {rs : List Rw} {F : List Cold} {T : Ending → World → Prop} {K : FuncId} {args : Array Value} {R : PR β}
theorem arm_take {s : List Nat} {S : ByteArray} {k : Unit → PP β} (HO : Hid (Own w0 [g] (PS g ts a d) bs rs F w)) (HF : Hid ((takeP ts s >>= k) a d = R)) (hg : g < w0.heap.size) (hK : K = 40) (ha : args = #[.pointer (some ⟨g, 0, none⟩), .string S]) (hS : S = strN s) (hs : ∀ x ∈ s, x < 256)
    (hok : ∀ a' W, Hid (Own w0 [g] (PS g ts a' d) bs rs F W) → a ≤ a' → Hid (k () a' d = R) → T (.returned (.tuple #[])) W)
    (herr : ∀ v pl e W, Hid (FailV W w0.heap.size v pl e) → Hid (Kept [g] w0 W) → Hid (R = .err pl e) → T (.panicked [{ v := v, recovered := false }]) W) : Calls Tryz.prog K args w T := by
  subst hK ha hS
  exact arm_unit (n := 65) (Lib.hid (ptake_any g ts 65 s hs)) HO HF hg (by omega) hok herr
theorem arm_key {s : List Nat} {S : ByteArray} {k : Unit → PP β} (HO : Hid (Own w0 [g] (PS g ts a d) bs rs F w)) (HF : Hid ((keyP ts s >>= k) a d = R)) (hg : g < w0.heap.size) (hK : K = 65) (ha : args = #[.pointer (some ⟨g, 0, none⟩), .string S]) (hS : S = strN s) (hs : ∀ x ∈ s, x < 256)
    (hok : ∀ a' W, Hid (Own w0 [g] (PS g ts a' d) bs rs F W) → a ≤ a' → Hid (k () a' d = R) → T (.returned (.tuple #[])) W)
    (herr : ∀ v pl e W, Hid (FailV W w0.heap.size v pl e) → Hid (Kept [g] w0 W) → Hid (R = .err pl e) → T (.panicked [{ v := v, recovered := false }]) W) : Calls Tryz.prog K args w T := by
  subst hK ha hS
  exact arm_unit (n := 65) (Lib.hid (pkey_any g ts 65 s hs)) HO HF hg (by omega) hok herr
end
set_option maxRecDepth 100000 in
set_option maxHeartbeats 3200000 in
theorem penter_any {g : Nat} {ts : List TokF} {a d : Nat} (w : World) (m : PS g ts a d w) (hd : d < 64) : Calls Tryz.prog 57 #[.pointer (some ⟨g, 0, none⟩)] w fun e w' => e = .returned (.tuple #[]) ∧ PS g ts a (d + 1) w' ∧ Kept [g] w w' := by
  have HO := m.own
  have hg := m.lt
  have hge : ¬ ((64 : Int) ≤ (d : Int)) := by omega
  have hw1 : wrap64 ((d : Int) + 1) = (d : Int) + 1 := IntWalk.wrap64_in _ (by omega)
  have hd1 : d + 1 ≤ 64 := hd
  clear m
  go_enter Tryz.func57, Tryz.ntmps57
  (repeat' (first | (with_reducible first | refine oXt ?_ | refine oXb ?_) | ((with_reducible refine ib_miss ?_ ?_); exact rfl) | ((first | ((with_reducible refine to_load ?_); first | refine oL1 HO rfl rfl ?_ | refine oL2 HO rfl rfl ?_ | refine oL3 HO rfl rfl ?_ | (refine wo_loadD HO rfl rfl Tryz.isAgg3 ?_; (try simp only [Act.put, pS0, pS1, pS2])))); (try simp only [Act.put, pS0, pS1, pS2])) | ((first | ((with_reducible refine to_store ?_); first | refine oT1 HO rfl rfl rfl ?_ | refine oT2 HO rfl rfl rfl (by rfl) ?_ | refine oT3 HO rfl rfl rfl rfl ?_) | with_reducible refine ab_drew HO ?_); clear HO; intro _ HO) | ((with_reducible refine to_store ?_); first | (refine wo_storeD HO hg rfl rfl rfl rfl Tryz.sizeOf3 (d + 1) hd1 (by simp) ?_; clear HO; intro _ HO)) | go_values | go_skip | go_guarded | go_step | go_upon | (go_ite <;> go_prune <;> (try go_simp))))
  refine bp_noneN rfl rfl ?_
  exact ⟨rfl, HO.out.st, HO.out.kept⟩
set_option maxRecDepth 100000 in
set_option maxHeartbeats 3200000 in
theorem penter_deep {g : Nat} {ts : List TokF} {a : Nat} (w : World) (m : PS g ts a 64 w) : Calls Tryz.prog 57 #[.pointer (some ⟨g, 0, none⟩)] w fun e w' => ∃ v, e = .panicked [{ v := v, recovered := false }] ∧ FailV w' w.heap.size v (tk ts a).at' 6 ∧ Kept [g] w w' := by
  have HO := m.own
  have hg := m.lt
  clear m
  go_enter Tryz.func57, Tryz.ntmps57
  (repeat' (first | (with_reducible first | refine oXt ?_ | refine oXb ?_) | ((with_reducible refine ib_miss ?_ ?_); exact rfl) | ((first | ((with_reducible refine to_load ?_); first | refine oL1 HO rfl rfl ?_ | refine oL2 HO rfl rfl ?_ | refine oL3 HO rfl rfl ?_ | (refine wo_loadD HO rfl rfl Tryz.isAgg3 ?_; (try simp only [Act.put, pS0, pS1, pS2])))); (try simp only [Act.put, pS0, pS1, pS2])) | ((first | ((with_reducible refine to_store ?_); first | refine oT1 HO rfl rfl rfl ?_ | refine oT2 HO rfl rfl rfl (by rfl) ?_ | refine oT3 HO rfl rfl rfl rfl ?_) | with_reducible refine ab_drew HO ?_); clear HO; intro _ HO) | ((go_big_may; first | (go_at_call 39; refine (pfail_any 6 _ HO.out.st).mono ?_; rintro _ W ⟨v, rfl, hv, q⟩) | fail) <;> (try dsimp only)) | go_values | go_skip | go_guarded | go_step | go_upon | (go_ite <;> go_prune <;> (try go_simp))))
  exact ⟨rfl, v, rfl, hv.mono HO.out.kept.size, HO.out.kept.trans q fun y hy => .inl hy⟩
set_option maxRecDepth 100000 in
set_option maxHeartbeats 3200000 in
theorem pleave_any {g : Nat} {ts : List TokF} {a d : Nat} (w : World) (m : PS g ts a (d + 1) w) : Calls Tryz.prog 59 #[.pointer (some ⟨g, 0, none⟩)] w fun e w' => e = .returned (.tuple #[]) ∧ PS g ts a d w' ∧ Kept [g] w w' := by
  have HO := m.own
  have hg := m.lt
  have hw1 : wrap64 (((d + 1 : Nat) : Int) - 1) = (d : Int) := by rw [show ((d + 1 : Nat) : Int) - 1 = (d : Int) by omega]; exact IntWalk.wrap64_in _ (by have := m.hd; omega)
  have hd1 : d ≤ 64 := by have := m.hd; omega
  clear m
  go_enter Tryz.func59, Tryz.ntmps59
  (repeat' (first | (with_reducible first | refine oXt ?_ | refine oXb ?_) | ((with_reducible refine ib_miss ?_ ?_); exact rfl) | ((first | ((with_reducible refine to_load ?_); first | refine oL1 HO rfl rfl ?_ | refine oL2 HO rfl rfl ?_ | refine oL3 HO rfl rfl ?_ | (refine wo_loadD HO rfl rfl Tryz.isAgg3 ?_; (try simp only [Act.put, pS0, pS1, pS2])))); (try simp only [Act.put, pS0, pS1, pS2])) | ((first | ((with_reducible refine to_store ?_); first | refine oT1 HO rfl rfl rfl ?_ | refine oT2 HO rfl rfl rfl (by rfl) ?_ | refine oT3 HO rfl rfl rfl rfl ?_) | with_reducible refine ab_drew HO ?_); clear HO; intro _ HO) | ((with_reducible refine to_store ?_); first | (refine wo_storeD HO hg rfl rfl rfl rfl Tryz.sizeOf3 d hd1 (by first | rfl | simpa using hw1) ?_; clear HO; intro _ HO)) | go_values | go_skip | go_guarded | go_step | go_upon | (go_ite <;> go_prune <;> (try go_simp))))
  refine bp_noneN rfl rfl ?_
  exact ⟨rfl, HO.out.st, HO.out.kept⟩
section
variable {β : Type} {g : Nat} {ts : List TokF} {a d n : Nat} {w w' w0 W : World} {X : List Nat} {bs : List Bx} {rs : List Rw} {F : List Cold} {T : Ending → World → Prop} {K : FuncId} {args : Array Value} {R : PR β}
theorem arm_enter {k : Unit → PP β} (HO : Hid (Own w0 [g] (PS g ts a d) bs rs F w)) (HF : Hid ((enterP ts >>= k) a d = R)) (hg : g < w0.heap.size) (hK : K = 57) (ha : args = #[.pointer (some ⟨g, 0, none⟩)])
    (hok : ∀ W, d < 64 → Hid (Own w0 [g] (PS g ts a (d + 1)) bs rs F W) → Hid (k () a (d + 1) = R) → T (.returned (.tuple #[])) W)
    (herr : ∀ v pl e W, Hid (FailV W w0.heap.size v pl e) → Hid (Kept [g] w0 W) → Hid (R = .err pl e) → T (.panicked [{ v := v, recovered := false }]) W) : Calls Tryz.prog K args w T := by
  subst hK ha
  by_cases hd : d < 64
  · refine (penter_any w HO.out.st hd).mono fun e W hp => ?_
    obtain ⟨rfl, hs, q⟩ := hp
    have e : enterP ts a d = .ok () a (d + 1) := by unfold enterP; rw [if_neg (by omega)]
    exact hok W hd (Lib.hid (HO.out.pcall hg q hs)) (Lib.hid (bind_ok e HF.out))
  · obtain rfl : d = 64 := by have := HO.out.st.hd; omega
    refine (penter_deep w HO.out.st).mono fun e W hp => ?_
    obtain ⟨v, rfl, hv, q⟩ := hp
    have e : enterP ts a 64 = .err (tk ts a).at' 6 := by unfold enterP; rw [if_pos (by omega)]
    exact herr v _ 6 W (Lib.hid (hv.mono HO.out.kept.size)) (Lib.hid (HO.out.kept.trans q fun y hy => .inl hy)) (Lib.hid (bind_err e HF.out))
theorem arm_leave {k : Unit → PP β} (HO : Hid (Own w0 [g] (PS g ts a (d + 1)) bs rs F w)) (HF : Hid ((leaveP >>= k) a (d + 1) = R)) (hg : g < w0.heap.size) (hK : K = 59) (ha : args = #[.pointer (some ⟨g, 0, none⟩)])
    (hok : ∀ W, Hid (Own w0 [g] (PS g ts a d) bs rs F W) → Hid (k () a d = R) → T (.returned (.tuple #[])) W) : Calls Tryz.prog K args w T := by
  subst hK ha
  refine (pleave_any w HO.out.st).mono fun e W hp => ?_
  obtain ⟨rfl, hs, q⟩ := hp
  exact hok W (Lib.hid (HO.out.pcall hg q hs)) HF
end
set_option maxRecDepth 100000 in
set_option maxHeartbeats 3200000 in
theorem pover_any {g : Nat} {ts : List TokF} {a d : Nat} (w : World) (m : PS g ts a d w) : Calls Tryz.prog 45 #[.pointer (some ⟨g, 0, none⟩)] w fun e w' => e = .returned (.bool (overA ts a)) ∧ Below w.heap.size w w' := by
  have HO : Hid (Own w [] (PS g ts a d) [] [] [] w) := Lib.hid (Own.init m (PS.loc m.lt))
  clear m
  unfold overA
  cases hk1 : (((tk ts a).k : Int) == 1)
  · cases hk0 : (((tk ts a).k : Int) == 0)
    · go_enter Tryz.func45, Tryz.ntmps45
      (repeat' (first | (with_reducible first | refine oXt ?_ | refine oXb ?_) | ((with_reducible refine ib_miss ?_ ?_); exact rfl) | ((first | ((with_reducible refine to_field ?_); refine oF1 rfl ?_; refine ⟨_, _, _, _, _, _, _, _, rfl, rfl, inferInstance, ?_⟩)); (try simp only [Act.put, pS0, pS1, pS2])) | ((first | with_reducible refine ab_drew HO ?_); clear HO; intro _ HO) | ((with_reducible refine ab_junk HO 9 ?_); clear HO; intro _ HO HB) | ((go_big_may; first | (go_at_call 15; first | (refine arm_tokF HO HF rfl rfl ?_; clear HO HF; intro _ HO HF) | (refine arm_tok HO rfl rfl ?_; clear HO; intro _ HO)) | (go_at_call 28; refine arm_sgn HO rfl rfl HB (ss := [[59], [125]]) rfl rfl (by decide) (by decide) ?_; clear HO HB; intro _ b hb HO; cases b) | fail) <;> (try dsimp only)) | go_values | go_skip | go_guarded | go_step | go_upon | (go_ite <;> go_prune <;> (try go_simp))))
      all_goals (refine bp_tmp (t := 2) rfl rfl rfl ?_; refine ⟨?_, HO.out.kept.below⟩; (try simp only [*, Bool.true_or, Bool.or_true, Bool.false_or, Bool.or_false]); rfl)
    · go_enter Tryz.func45, Tryz.ntmps45
      (repeat' (first | (with_reducible first | refine oXt ?_ | refine oXb ?_) | ((with_reducible refine ib_miss ?_ ?_); exact rfl) | ((first | ((with_reducible refine to_field ?_); refine oF1 rfl ?_; refine ⟨_, _, _, _, _, _, _, _, rfl, rfl, inferInstance, ?_⟩)); (try simp only [Act.put, pS0, pS1, pS2])) | ((first | with_reducible refine ab_drew HO ?_); clear HO; intro _ HO) | ((with_reducible refine ab_junk HO 9 ?_); clear HO; intro _ HO HB) | ((go_big_may; first | (go_at_call 15; first | (refine arm_tokF HO HF rfl rfl ?_; clear HO HF; intro _ HO HF) | (refine arm_tok HO rfl rfl ?_; clear HO; intro _ HO)) | (go_at_call 28; refine arm_sgn HO rfl rfl HB (ss := [[59], [125]]) rfl rfl (by decide) (by decide) ?_; clear HO HB; intro _ b hb HO; cases b) | fail) <;> (try dsimp only)) | go_values | go_skip | go_guarded | go_step | go_upon | (go_ite <;> go_prune <;> (try go_simp))))
      all_goals (refine bp_tmp (t := 2) rfl rfl rfl ?_; refine ⟨?_, HO.out.kept.below⟩; (try simp only [*, Bool.true_or, Bool.or_true, Bool.false_or, Bool.or_false]); rfl)
  · go_enter Tryz.func45, Tryz.ntmps45
    (repeat' (first | (with_reducible first | refine oXt ?_ | refine oXb ?_) | ((with_reducible refine ib_miss ?_ ?_); exact rfl) | ((first | ((with_reducible refine to_field ?_); refine oF1 rfl ?_; refine ⟨_, _, _, _, _, _, _, _, rfl, rfl, inferInstance, ?_⟩)); (try simp only [Act.put, pS0, pS1, pS2])) | ((first | with_reducible refine ab_drew HO ?_); clear HO; intro _ HO) | ((with_reducible refine ab_junk HO 9 ?_); clear HO; intro _ HO HB) | ((go_big_may; first | (go_at_call 15; first | (refine arm_tokF HO HF rfl rfl ?_; clear HO HF; intro _ HO HF) | (refine arm_tok HO rfl rfl ?_; clear HO; intro _ HO)) | (go_at_call 28; refine arm_sgn HO rfl rfl HB (ss := [[59], [125]]) rfl rfl (by decide) (by decide) ?_; clear HO HB; intro _ b hb HO; cases b) | fail) <;> (try dsimp only)) | go_values | go_skip | go_guarded | go_step | go_upon | (go_ite <;> go_prune <;> (try go_simp))))
    all_goals (refine bp_tmp (t := 2) rfl rfl rfl ?_; refine ⟨?_, HO.out.kept.below⟩; (try simp only [*, Bool.true_or, Bool.or_true, Bool.false_or, Bool.or_false]); rfl)
set_option maxRecDepth 100000 in
set_option maxHeartbeats 3200000 in
theorem pplaced_any {g : Nat} {ts : List TokF} {a d : Nat} (w : World) (m : PS g ts a d w) : Calls Tryz.prog 88 #[.pointer (some ⟨g, 0, none⟩)] w fun e w' => e = .returned (.bool (placedA ts a)) ∧ Below w.heap.size w w' := by
  have HO : Hid (Own w [] (PS g ts a d) [] [] [] w) := Lib.hid (Own.init m (PS.loc m.lt))
  clear m
  unfold placedA
  cases hk5 : (((tk ts a).k : Int) == 5)
  · go_enter Tryz.func88, Tryz.ntmps88
    (repeat' (first | (with_reducible first | refine oXt ?_ | refine oXb ?_) | ((with_reducible refine ib_miss ?_ ?_); exact rfl) | ((first | ((with_reducible refine to_field ?_); refine oF1 rfl ?_; refine ⟨_, _, _, _, _, _, _, _, rfl, rfl, inferInstance, ?_⟩)); (try simp only [Act.put, pS0, pS1, pS2])) | ((first | with_reducible refine ab_drew HO ?_); clear HO; intro _ HO) | ((with_reducible refine ab_junk HO 9 ?_); clear HO; intro _ HO HB) | ((go_big_may; first | (go_at_call 15; first | (refine arm_tokF HO HF rfl rfl ?_; clear HO HF; intro _ HO HF) | (refine arm_tok HO rfl rfl ?_; clear HO; intro _ HO)) | (go_at_call 28; refine arm_sgn HO rfl rfl HB (ss := [[36]]) rfl rfl (by decide) (by decide) ?_; clear HO HB; intro _ b hb HO; cases b) | fail) <;> (try dsimp only)) | go_values | go_skip | go_guarded | go_step | go_upon | (go_ite <;> go_prune <;> (try go_simp))))
    all_goals (refine bp_tmp (t := 2) rfl rfl rfl ?_; refine ⟨?_, HO.out.kept.below⟩; (try simp only [*, Bool.true_or, Bool.or_true, Bool.false_or, Bool.or_false]); rfl)
  · go_enter Tryz.func88, Tryz.ntmps88
    (repeat' (first | (with_reducible first | refine oXt ?_ | refine oXb ?_) | ((with_reducible refine ib_miss ?_ ?_); exact rfl) | ((first | ((with_reducible refine to_field ?_); refine oF1 rfl ?_; refine ⟨_, _, _, _, _, _, _, _, rfl, rfl, inferInstance, ?_⟩)); (try simp only [Act.put, pS0, pS1, pS2])) | ((first | with_reducible refine ab_drew HO ?_); clear HO; intro _ HO) | ((with_reducible refine ab_junk HO 9 ?_); clear HO; intro _ HO HB) | ((go_big_may; first | (go_at_call 15; first | (refine arm_tokF HO HF rfl rfl ?_; clear HO HF; intro _ HO HF) | (refine arm_tok HO rfl rfl ?_; clear HO; intro _ HO)) | (go_at_call 28; refine arm_sgn HO rfl rfl HB (ss := [[36]]) rfl rfl (by decide) (by decide) ?_; clear HO HB; intro _ b hb HO; cases b) | fail) <;> (try dsimp only)) | go_values | go_skip | go_guarded | go_step | go_upon | (go_ite <;> go_prune <;> (try go_simp))))
    all_goals (refine bp_tmp (t := 2) rfl rfl rfl ?_; refine ⟨?_, HO.out.kept.below⟩; (try simp only [*, Bool.true_or, Bool.or_true, Bool.false_or, Bool.or_false]); rfl)
set_option maxRecDepth 100000 in
set_option maxHeartbeats 3200000 in
theorem pfurther_any {g : Nat} {ts : List TokF} {a d : Nat} (w : World) (m : PS g ts a d w) : Calls Tryz.prog 87 #[.pointer (some ⟨g, 0, none⟩)] w fun e w' => e = .returned (.bool (furtherA ts a)) ∧ Below w.heap.size w w' := by
  have HO : Hid (Own w [] (PS g ts a d) [] [] [] w) := Lib.hid (Own.init m (PS.loc m.lt))
  clear m
  unfold furtherA
  go_enter Tryz.func87, Tryz.ntmps87
  (repeat' (first | (with_reducible first | refine oXt ?_ | refine oXb ?_) | ((with_reducible refine ib_miss ?_ ?_); exact rfl) | ((first | ((with_reducible refine to_field ?_); refine oF1 rfl ?_; refine ⟨_, _, _, _, _, _, _, _, rfl, rfl, inferInstance, ?_⟩)); (try simp only [Act.put, pS0, pS1, pS2])) | ((first | with_reducible refine ab_drew HO ?_); clear HO; intro _ HO) | ((with_reducible refine ab_junk HO 9 ?_); clear HO; intro _ HO HB) | ((go_big_may; first | (go_at_call 15; first | (refine arm_tokF HO HF rfl rfl ?_; clear HO HF; intro _ HO HF) | (refine arm_tok HO rfl rfl ?_; clear HO; intro _ HO)) | (go_at_call 28; refine arm_sgn HO rfl rfl HB (ss := [[36], [33], [40], [43,43], [45,45]]) rfl rfl (by decide) (by decide) ?_; clear HO HB; intro _ b hb HO; cases b) | fail) <;> (try dsimp only)) | go_values | go_skip | go_guarded | go_step | go_upon | (go_ite <;> go_prune <;> (try go_simp))))
  all_goals (refine bp_tmp (t := 2) rfl rfl rfl ?_; refine ⟨?_, HO.out.kept.below⟩; (try simp only [*, Bool.true_or, Bool.or_true, Bool.false_or, Bool.or_false]); rfl)
theorem pmeas {g : Nat} {ts : List TokF} {b d b' d' : Nat} {W0 W1 : World} (h0 : PS g ts b d W0) (h1 : PS g ts b' d' W1) (hlt : b < b') : ts.length - (intOf ((W1.cell? ⟨g, 1, none⟩).getD undef)).toNat < ts.length - (intOf ((W0.cell? ⟨g, 1, none⟩).getD undef)).toNat := by
  obtain ⟨_, _, _, k1, _⟩ := h1.cells
  obtain ⟨_, _, _, k0, _⟩ := h0.cells
  rw [k1, k0]
  have := h0.ha
  show ts.length - (b' : Int).toNat < ts.length - (b : Int).toNat
  rw [Int.toNat_natCast, Int.toNat_natCast]; omega
theorem nx_of {ts : List TokF} {b : Nat} {c : Int} (hc : c ≠ 0) (h : (((tk ts b).k : Int) == c) = true) : nx ts b = b + 1 := by
  unfold nx
  rw [if_neg]
  intro e
  have h1 := beq_iff_eq.1 h
  have h2 := beq_iff_eq.1 e
  omega
set_option maxRecDepth 100000 in
set_option maxHeartbeats 3200000 in
theorem plines_any (g : Nat) (ts : List TokF) (n : Nat) : FC 42 #[.pointer (some ⟨g, 0, none⟩)] (linesP ts) VU g ts n := by
  intro w a d m hn
  unfold linesP
  obtain ⟨N, hN⟩ : ∃ N, linesF ts ts.length a = N := ⟨_, rfl⟩
  rw [hN]
  have HN := Lib.hid hN
  have HO := m.own
  have hg := m.lt
  clear hN m
  go_enter Tryz.func42, Tryz.ntmps42
  go_wp2_with fail
  go_loopw [] (fun W => ∃ f b, a ≤ b ∧ ts.length ≤ f + b ∧ Hid (linesF ts f b = N) ∧ Hid (Own w [g] (PS g ts b d) [] [] [] W)) (fun W => ts.length - (intOf ((W.cell? ⟨g, 1, none⟩).getD undef)).toNat)
  case atStart => exact ⟨ts.length, a, Nat.le_refl _, by omega, HN, HO⟩
  case round =>
    clear HO HN
    obtain ⟨f, b, hab, hf, HL, HO⟩ := hrel
    have hb := HO.out.st.ha
    obtain ⟨f, rfl⟩ : ∃ f', f = f' + 1 := ⟨f - 1, by omega⟩
    have HO0 := HO
    have hL := HL.out
    rw [linesF] at hL
    clear HL
    cases hk : (((tk ts b).k : Int) == 1)
    · rw [hk, if_neg (by decide)] at hL
      obtain rfl : b = N := hL
      (repeat' (first | (with_reducible first | refine oXt ?_ | refine oXb ?_) | ((with_reducible refine ib_miss ?_ ?_); exact rfl) | ((first | ((with_reducible refine to_field ?_); refine oF1 rfl ?_; refine ⟨_, _, _, _, _, _, _, _, rfl, rfl, inferInstance, ?_⟩)); (try simp only [Act.put, pS0, pS1, pS2])) | ((first | with_reducible refine ab_drew HO ?_); clear HO; intro _ HO) | ((go_big_may; first | (go_at_call 15; first | (refine arm_tokF HO HF rfl rfl ?_; clear HO HF; intro _ HO HF) | (refine arm_tok HO rfl rfl ?_; clear HO; intro _ HO)) | fail) <;> (try dsimp only)) | go_values | go_skip | go_guarded | go_step | go_upon | (go_ite <;> go_prune <;> (try go_simp))))
      refine bp_noneN rfl rfl ?_
      exact ⟨_, rfl, rfl, HO.out.st, HO.out.kept, hab, rfl⟩
    · rw [hk, if_pos rfl] at hL
      have hnx := nx_of (by decide) hk
      have HL := Lib.hid hL
      clear hL
      (repeat' (first | (with_reducible first | refine oXt ?_ | refine oXb ?_) | ((with_reducible refine ib_miss ?_ ?_); exact rfl) | ((first | ((with_reducible refine to_field ?_); refine oF1 rfl ?_; refine ⟨_, _, _, _, _, _, _, _, rfl, rfl, inferInstance, ?_⟩)); (try simp only [Act.put, pS0, pS1, pS2])) | ((first | with_reducible refine ab_drew HO ?_); clear HO; intro _ HO) | ((go_big_may; first | (go_at_call 15; refine arm_tok HO rfl rfl ?_; clear HO; intro _ HO) | (go_at_call 29; refine arm_next HO hg rfl rfl ?_; clear HO; intro _ HO) | fail) <;> (try dsimp only)) | go_values | go_skip | go_guarded | go_step | go_upon | (go_ite <;> go_prune <;> (try go_simp))))
      go_roundw
      case rel => exact ⟨f, nx ts b, by omega, by omega, HL, HO⟩
      case measure => exact pmeas HO0.out.st HO.out.st (by omega)
set_option maxRecDepth 100000 in
set_option maxHeartbeats 3200000 in
theorem pends_any (g : Nat) (ts : List TokF) (n : Nat) : FC 14 #[.pointer (some ⟨g, 0, none⟩)] (endsP ts) VU g ts n := by
  intro w a d m hn
  unfold endsP
  obtain ⟨N, hN⟩ : ∃ N, endsF ts ts.length a = N := ⟨_, rfl⟩
  rw [hN]
  have HN := Lib.hid hN
  have HO := m.own
  have hg := m.lt
  clear hN m
  go_enter Tryz.func14, Tryz.ntmps14
  go_wp2_with fail
  go_loopw [] (fun W => ∃ f b, a ≤ b ∧ ts.length ≤ f + b ∧ Hid (endsF ts f b = N) ∧ Hid (Own w [g] (PS g ts b d) [] [] [] W)) (fun W => ts.length - (intOf ((W.cell? ⟨g, 1, none⟩).getD undef)).toNat)
  case atStart => exact ⟨ts.length, a, Nat.le_refl _, by omega, HN, HO⟩
  case round =>
    clear HO HN
    obtain ⟨f, b, hab, hf, HL, HO⟩ := hrel
    have hbl := HO.out.st.ha
    obtain ⟨f, rfl⟩ : ∃ f', f = f' + 1 := ⟨f - 1, by omega⟩
    have HO0 := HO
    have hL := HL.out
    rw [endsF] at hL
    have HL := Lib.hid hL
    clear hL
    cases hk : (((tk ts b).k : Int) == 1)
    · rw [hk, Bool.false_or] at HL
      (repeat' (first | (with_reducible first | refine oXt ?_ | refine oXb ?_) | ((with_reducible refine ib_miss ?_ ?_); exact rfl) | ((first | ((with_reducible refine to_field ?_); refine oF1 rfl ?_; refine ⟨_, _, _, _, _, _, _, _, rfl, rfl, inferInstance, ?_⟩)); (try simp only [Act.put, pS0, pS1, pS2])) | ((first | with_reducible refine ab_drew HO ?_); clear HO; intro _ HO) | ((with_reducible refine ab_junk HO 9 ?_); clear HO; intro _ HO HB) | ((go_big_may; first | (go_at_call 15; refine arm_tok HO rfl rfl ?_; clear HO; intro _ HO) | (go_at_call 29; refine arm_next HO hg rfl rfl ?_; clear HO; intro _ HO) | (go_at_call 28; refine arm_sgn HO rfl rfl HB (ss := [[59]]) rfl rfl (by decide) (by decide) ?_; clear HO HB; intro _ b hb HO; cases b) | fail) <;> (try dsimp only)) | go_values | go_skip | go_guarded | go_step | go_upon | (go_ite <;> go_prune <;> (try go_simp))))
      · have hL := HL.out
        rename_i hb
        rw [hb, if_neg (by decide)] at hL
        exact bp_noneN rfl rfl ⟨_, rfl, rfl, hL ▸ HO.out.st, HO.out.kept, hL ▸ hab, rfl⟩
      · have hL := HL.out
        rename_i hb _
        rw [hb, if_pos rfl] at hL
        have hnx := nx_isS hb
        go_roundw
        case rel => exact ⟨f, nx ts b, by omega, by omega, Lib.hid hL, HO⟩
        case measure => exact pmeas HO0.out.st HO.out.st (by omega)
    · rw [hk, Bool.true_or, if_pos rfl] at HL
      have hnx := nx_of (by decide) hk
      (repeat' (first | (with_reducible first | refine oXt ?_ | refine oXb ?_) | ((with_reducible refine ib_miss ?_ ?_); exact rfl) | ((first | ((with_reducible refine to_field ?_); refine oF1 rfl ?_; refine ⟨_, _, _, _, _, _, _, _, rfl, rfl, inferInstance, ?_⟩)); (try simp only [Act.put, pS0, pS1, pS2])) | ((first | with_reducible refine ab_drew HO ?_); clear HO; intro _ HO) | ((with_reducible refine ab_junk HO 9 ?_); clear HO; intro _ HO HB) | ((go_big_may; first | (go_at_call 15; refine arm_tok HO rfl rfl ?_; clear HO; intro _ HO) | (go_at_call 29; refine arm_next HO hg rfl rfl ?_; clear HO; intro _ HO) | fail) <;> (try dsimp only)) | go_values | go_skip | go_guarded | go_step | go_upon | (go_ite <;> go_prune <;> (try go_simp))))
      go_roundw
      case rel => exact ⟨f, nx ts b, by omega, by omega, HL, HO⟩
      case measure => exact pmeas HO0.out.st HO.out.st (by omega)
set_option maxRecDepth 100000 in
set_option maxHeartbeats 3200000 in
theorem pclose_any (g : Nat) (ts : List TokF) (n : Nat) : FC 33 #[.pointer (some ⟨g, 0, none⟩)] (closeP ts) VU g ts n := by
  intro w a d m hn
  obtain ⟨R, hR⟩ : ∃ R, (closeP ts >>= fun x => pure x) a d = R := ⟨_, rfl⟩
  have hR2 : closeP ts a d = R := by
    rw [← hR]
    show _ = PP.bind (closeP ts) _ a d
    unfold PP.bind
    cases closeP ts a d <;> rfl
  rw [hR2]
  have HF0 := Lib.hid hR2
  have HO := m.own
  have hg := m.lt
  clear hR hR2 m
  have HF : Hid ((askP (overA ts) >>= fun b => if b = true then (endsP ts >>= fun x => pure x) else failP ts 4) a d = R) := Lib.hid (by
    rw [← HF0.out]
    unfold closeP
    show PP.bind (askP (overA ts)) _ a d = PP.bind (askP (overA ts)) _ a d
    unfold PP.bind askP
    dsimp only
    cases overA ts a
    · rfl
    · simp only [if_true]
      show PP.bind (endsP ts) _ a d = _
      unfold PP.bind
      cases endsP ts a d <;> rfl)
  clear HF0
  go_enter Tryz.func33, Tryz.ntmps33
  (repeat' (first | (with_reducible first | refine oXt ?_ | refine oXb ?_) | ((with_reducible refine ib_miss ?_ ?_); exact rfl) | ((first | with_reducible refine ab_drew HO ?_); clear HO; intro _ HO) | ((go_big_may; first | (go_at_call 45; first | (refine arm_askF HO HF (fun w m => pover_any w m) rfl rfl ?_; clear HO HF; intro _ b hb HO HF; cases b <;> (try simp only [↓reduceIte, Bool.false_eq_true, Bool.not_true, Bool.not_false, pp_pure] at HF)) | (refine arm_ask HO (fun w m => pover_any w m) rfl rfl ?_; clear HO; intro _ b hb HO; cases b)) | (go_at_call 14; refine arm_unit (n := 65) (Lib.hid (pends_any _ _ _)) HO HF hg (by omega) ?_ ?_; rotate_left; (intro v pl e W h1 h2 h3; first | (exact bp_panic2 rfl h1 h2 h3) | ((try dsimp only); (repeat (first | go_big_open | (simp only [Exit.then, Exit.inBlock]))); exact bp_panic2 rfl h1 h2 h3)); clear HO HF; intro _ _ HO hle HF) | (go_at_call 39; refine arm_fail HO HF rfl rfl ?_; (intro v pl e W h1 h2 h3; first | (exact bp_panic2 rfl h1 h2 h3) | ((try dsimp only); (repeat (first | go_big_open | (simp only [Exit.then, Exit.inBlock]))); exact bp_panic2 rfl h1 h2 h3))) | fail) <;> (try dsimp only)) | go_values | go_skip | go_guarded | go_step | go_upon | (go_ite <;> go_prune <;> (try go_simp))))
  refine bp_noneN rfl rfl ?_
  refine bp_ok HO HF ?_ rfl rfl
  omega
open Go.RowKit
theorem nv0 (k a : Nat) (s : List Nat) (i : Nat) (l : List NodeT) (A : Option Addr) (c : Nat) : (.agg #[.int .i64 ((NodeT.k (NodeT.mk k a s 0 i l) : Nat) : Int), .int .i64 ((NodeT.at' (NodeT.mk k a s 0 i l) : Nat) : Int), .string (strN (NodeT.s (NodeT.mk k a s 0 i l))), .bool (zn (NodeT.z (NodeT.mk k a s 0 i l))), .int .u64 (zh (NodeT.z (NodeT.mk k a s 0 i l))), .int .u64 (zl (NodeT.z (NodeT.mk k a s 0 i l))), .int .i64 ((NodeT.i (NodeT.mk k a s 0 i l) : Nat) : Int), .slice A (NodeT.l (NodeT.mk k a s 0 i l)).length c] : Value) = .agg #[.int .i64 (k : Int), .int .i64 (a : Int), .string (strN s), .bool false, .int .u64 0, .int .u64 0, .int .i64 (i : Int), .slice A l.length c] := by
  have h1 : zn (NodeT.z (NodeT.mk k a s 0 i l)) = false := by show zn 0 = false; decide
  have h2 : zh (NodeT.z (NodeT.mk k a s 0 i l)) = 0 := by show zh 0 = 0; decide
  have h3 : zl (NodeT.z (NodeT.mk k a s 0 i l)) = 0 := by show zl 0 = 0; decide
  rw [h1, h2, h3]
  rfl
theorem row_kids {w : World} {B r n cap : Nat} {xs : List Value} {els : List El} {F : Nat → Prop} (hrow : w.ownsRow B 39 8 (.slice (some ⟨r, 0, none⟩) n cap) n xs) (hxs : xs = flatE els) (hF : F r) (hel : ∀ e ∈ els, e.1.l.length ≤ e.2.2 ∧ KidsL w F e.1.l e.2.1 0) : KidsL w F (els.map (·.1)) (some ⟨r, 0, none⟩) 0 := by
  subst hxs
  refine kids_of_cells hF els [] hel (fun j v hv => ?_)
  have := hrow.cells (g := r) rfl j v hv
  rw [Addr.add_mid, Nat.zero_add] at this
  exact this
theorem own0 (w : World) : Hid (Own w [] (fun _ => True) [] [] [] w) := Lib.hid (Own.init trivial (fun _ _ _ _ h => h))
set_option maxRecDepth 100000 in
set_option maxHeartbeats 3200000 in
theorem plval_any (n : NodeT) (A : Option Addr) (c : Nat) (w : World) : Calls Tryz.prog 61 #[.agg #[.int .i64 ((NodeT.k n : Nat) : Int), .int .i64 ((NodeT.at' n : Nat) : Int), .string (strN (NodeT.s n)), .bool (zn (NodeT.z n)), .int .u64 (zh (NodeT.z n)), .int .u64 (zl (NodeT.z n)), .int .i64 ((NodeT.i n : Nat) : Int), .slice A (NodeT.l n).length c]] w fun e w' => e = .returned (.bool (lval n)) ∧ Below w.heap.size w w' := by
  have HO := own0 w
  unfold lval
  cases h4 : ((n.k : Int) == 4)
  · cases h5 : ((n.k : Int) == 5)
    · go_enter Tryz.func61, Tryz.ntmps61
      (repeat' (first | (with_reducible first | refine oXt ?_ | refine oXb ?_) | ((with_reducible refine ib_miss ?_ ?_); exact rfl) | ((first | ((with_reducible refine to_load ?_); first | refine oL1 HO rfl rfl ?_ | refine oL2 HO rfl rfl ?_ | refine oL3 HO rfl rfl ?_) | ((first | ((with_reducible refine to_box ?_); refine wo_box HO rfl rfl ?_)); clear HO; intro _ HO)); (try simp only [Act.put, pS0, pS1, pS2])) | ((first | with_reducible refine ab_drew HO ?_); clear HO; intro _ HO) | go_values | go_skip | go_guarded | go_step | go_upon | (go_ite <;> go_prune <;> (try go_simp))))
      refine bp_tmp (t := 2) rfl rfl rfl ?_
      exact ⟨rfl, HO.out.kept.below⟩
    · go_enter Tryz.func61, Tryz.ntmps61
      (repeat' (first | (with_reducible first | refine oXt ?_ | refine oXb ?_) | ((with_reducible refine ib_miss ?_ ?_); exact rfl) | ((first | ((with_reducible refine to_load ?_); first | refine oL1 HO rfl rfl ?_ | refine oL2 HO rfl rfl ?_ | refine oL3 HO rfl rfl ?_) | ((first | ((with_reducible refine to_box ?_); refine wo_box HO rfl rfl ?_)); clear HO; intro _ HO)); (try simp only [Act.put, pS0, pS1, pS2])) | ((first | with_reducible refine ab_drew HO ?_); clear HO; intro _ HO) | go_values | go_skip | go_guarded | go_step | go_upon | (go_ite <;> go_prune <;> (try go_simp))))
      refine bp_tmp (t := 2) rfl rfl rfl ?_
      exact ⟨rfl, HO.out.kept.below⟩
  · go_enter Tryz.func61, Tryz.ntmps61
    (repeat' (first | (with_reducible first | refine oXt ?_ | refine oXb ?_) | ((with_reducible refine ib_miss ?_ ?_); exact rfl) | ((first | ((with_reducible refine to_load ?_); first | refine oL1 HO rfl rfl ?_ | refine oL2 HO rfl rfl ?_ | refine oL3 HO rfl rfl ?_) | ((first | ((with_reducible refine to_box ?_); refine wo_box HO rfl rfl ?_)); clear HO; intro _ HO)); (try simp only [Act.put, pS0, pS1, pS2])) | ((first | with_reducible refine ab_drew HO ?_); clear HO; intro _ HO) | go_values | go_skip | go_guarded | go_step | go_upon | (go_ite <;> go_prune <;> (try go_simp))))
    refine bp_tmp (t := 2) rfl rfl rfl ?_
    exact ⟨rfl, HO.out.kept.below⟩
set_option maxRecDepth 100000 in
set_option maxHeartbeats 3200000 in
theorem ptwo_any (kind : Nat) (s : List Nat) (x y : NodeT) (A B : Option Addr) (c e : Nat) (w : World) (Fp : Nat → Prop) (hF : ∀ b, Fp b → b < w.heap.size) (hx : KidsL w Fp x.l A 0) (hy : KidsL w Fp y.l B 0) (hc : x.l.length ≤ c) (he : y.l.length ≤ e) :
    Calls Tryz.prog 62 #[.int .i64 (kind : Int), .string (strN s), .agg #[.int .i64 ((NodeT.k x : Nat) : Int), .int .i64 ((NodeT.at' x : Nat) : Int), .string (strN (NodeT.s x)), .bool (zn (NodeT.z x)), .int .u64 (zh (NodeT.z x)), .int .u64 (zl (NodeT.z x)), .int .i64 ((NodeT.i x : Nat) : Int), .slice A (NodeT.l x).length c], .agg #[.int .i64 ((NodeT.k y : Nat) : Int), .int .i64 ((NodeT.at' y : Nat) : Int), .string (strN (NodeT.s y)), .bool (zn (NodeT.z y)), .int .u64 (zh (NodeT.z y)), .int .u64 (zl (NodeT.z y)), .int .i64 ((NodeT.i y : Nat) : Int), .slice B (NodeT.l y).length e]] w fun e w' => ∃ r, e = .returned (.agg #[.int .i64 ((NodeT.k (twoT kind s x y) : Nat) : Int), .int .i64 ((NodeT.at' (twoT kind s x y) : Nat) : Int), .string (strN (NodeT.s (twoT kind s x y))), .bool (zn (NodeT.z (twoT kind s x y))), .int .u64 (zh (NodeT.z (twoT kind s x y))), .int .u64 (zl (NodeT.z (twoT kind s x y))), .int .i64 ((NodeT.i (twoT kind s x y) : Nat) : Int), .slice (some ⟨r,0,none⟩) (NodeT.l (twoT kind s x y)).length 2]) ∧ w.heap.size ≤ r ∧ r < w'.heap.size ∧ Below w.heap.size w w' ∧ KidsL w' (fun b => Fp b ∨ b = r) (twoT kind s x y).l (some ⟨r, 0, none⟩) 0 := by
  have HO := own0 w
  have HX := Lib.hid hx
  have HY := Lib.hid hy
  clear hx hy
  go_enter Tryz.func62, Tryz.ntmps62
  (repeat' (first | (with_reducible first | refine oXt ?_ | refine oXb ?_) | ((with_reducible refine ib_miss ?_ ?_); exact rfl) | ((first | ((with_reducible refine to_load ?_); first | refine oL1 HO rfl rfl ?_ | refine oL2 HO rfl rfl ?_ | refine oL3 HO rfl rfl ?_) | ((first | with_reducible refine oAl HO ?_ | ((with_reducible refine to_box ?_); refine wo_box HO rfl rfl ?_)); clear HO; intro _ HO)); (try simp only [Act.put, pS0, pS1, pS2])) | ((first | ((with_reducible refine to_store ?_); first | refine oT1 HO rfl rfl rfl ?_ | refine oT2 HO rfl rfl rfl (by rfl) ?_ | refine oT3 HO rfl rfl rfl rfl ?_) | with_reducible refine ab_drew HO ?_); clear HO; intro _ HO) | ((with_reducible refine ab_junk HO 9 ?_); clear HO; intro _ HO HB) | (first | ((with_reducible refine ab_row HO 39 8 1 ?_ ?_ ?_); (rfl); (decide); clear HO; intro _ HO) | ((with_reducible refine ab_row HO 39 8 2 ?_ ?_ ?_); (rfl); (decide); clear HO; intro _ HO) | ((with_reducible refine ab_row HO 39 8 3 ?_ ?_ ?_); (rfl); (decide); clear HO; intro _ HO) | ((with_reducible refine ab_row HO 39 8 4 ?_ ?_ ?_); (rfl); (decide); clear HO; intro _ HO)) | go_values | go_skip | go_guarded | go_step | go_upon | (go_ite <;> go_prune <;> (try go_simp))))
  refine bp_cell HO (t := 8) (ty := 39) rfl rfl (by repeat (first | exact mH | apply mT)) Tryz.isAgg39 Tryz.sizeOf39 (by rfl) rfl ?_
  have hrow := HO.out.row _ List.mem_cons_self
  have hlt := hrow.lt _ rfl
  have hbel := HO.out.kept.below
  refine ⟨_, congrArg Ending.returned (nv0 kind x.at' s 0 [x, y] _ 2).symm, hlt.1, hlt.2, hbel, ?_⟩
  rename_i W4 W3 W2 W1 W
  have hx := KidsL.st (F' := fun b => Fp b ∨ b = W2.heap.size) (fun b hb => ⟨.inl hb, hbel.block b (hF b hb)⟩) _ _ _ HX.out
  have hy := KidsL.st (F' := fun b => Fp b ∨ b = W2.heap.size) (fun b hb => ⟨.inl hb, hbel.block b (hF b hb)⟩) _ _ _ HY.out
  refine row_kids (els := [(x, A, c), (y, B, e)]) (r := W2.heap.size) hrow rfl (.inr rfl) (fun el hel => ?_)
  rcases List.mem_cons.1 hel with rfl | hel
  · exact ⟨hc, hx⟩
  · obtain rfl := List.mem_singleton.1 hel
    exact ⟨he, hy⟩
section
variable {β : Type} {g : Nat} {ts : List TokF} {a d n : Nat} {w w' w0 W : World} {X : List Nat} {S : World → Prop} {bs : List Bx} {rs : List Rw} {F : List Cold} {T : Ending → World → Prop} {K : FuncId} {args : Array Value} {R : PR β}
theorem arm_lval {x : NodeT} {A : Option Addr} {c : Nat} (HO : Hid (Own w0 X S bs rs F w)) (hK : K = 61) (ha : args = #[.agg #[.int .i64 ((NodeT.k x : Nat) : Int), .int .i64 ((NodeT.at' x : Nat) : Int), .string (strN (NodeT.s x)), .bool (zn (NodeT.z x)), .int .u64 (zh (NodeT.z x)), .int .u64 (zl (NodeT.z x)), .int .i64 ((NodeT.i x : Nat) : Int), .slice A (NodeT.l x).length c]]) (h : ∀ W b, lval x = b → Hid (Own w0 X S bs rs F W) → T (.returned (.bool b)) W) : Calls Tryz.prog K args w T := by
  subst hK ha
  refine (plval_any x A c w).mono fun e W hp => ?_
  obtain ⟨rfl, q⟩ := hp
  exact h W _ rfl (Lib.hid (HO.out.next q))
theorem arm_two {kind : Nat} {kd : Int} {s : List Nat} {sv : ByteArray} {x y : NodeT} {A B : Option Addr} {c e : Nat} (HO : Hid (Own w0 X S bs rs F w)) (hK : K = 62) (ha : args = #[.int .i64 kd, .string sv, .agg #[.int .i64 ((NodeT.k x : Nat) : Int), .int .i64 ((NodeT.at' x : Nat) : Int), .string (strN (NodeT.s x)), .bool (zn (NodeT.z x)), .int .u64 (zh (NodeT.z x)), .int .u64 (zl (NodeT.z x)), .int .i64 ((NodeT.i x : Nat) : Int), .slice A (NodeT.l x).length c], .agg #[.int .i64 ((NodeT.k y : Nat) : Int), .int .i64 ((NodeT.at' y : Nat) : Int), .string (strN (NodeT.s y)), .bool (zn (NodeT.z y)), .int .u64 (zh (NodeT.z y)), .int .u64 (zl (NodeT.z y)), .int .i64 ((NodeT.i y : Nat) : Int), .slice B (NodeT.l y).length e]]) (hkd : kd = (kind : Int)) (hsv : sv = strN s) (hx : Cold.kids A x.l ∈ F) (hy : Cold.kids B y.l ∈ F) (hc : x.l.length ≤ c) (he : y.l.length ≤ e)
    (h : ∀ r W, Hid (Own w0 X S bs rs (Cold.kids (some ⟨r, 0, none⟩) (twoT kind s x y).l :: F) W) → T (.returned (.agg #[.int .i64 ((NodeT.k (twoT kind s x y) : Nat) : Int), .int .i64 ((NodeT.at' (twoT kind s x y) : Nat) : Int), .string (strN (NodeT.s (twoT kind s x y))), .bool (zn (NodeT.z (twoT kind s x y))), .int .u64 (zh (NodeT.z (twoT kind s x y))), .int .u64 (zl (NodeT.z (twoT kind s x y))), .int .i64 ((NodeT.i (twoT kind s x y) : Nat) : Int), .slice (some ⟨r,0,none⟩) (NodeT.l (twoT kind s x y)).length 2])) W) : Calls Tryz.prog K args w T := by
  subst hK ha hkd hsv
  refine (ptwo_any kind s x y A B c e w (fun b => w0.heap.size ≤ b ∧ b < w.heap.size ∧ b ∉ hot bs rs) (fun b hb => hb.2.1) (HO.out.cold _ hx) (HO.out.cold _ hy) hc he).mono fun e W hp => ?_
  obtain ⟨r, rfl, h1, h2, q, hk⟩ := hp
  refine h r W (Lib.hid ((HO.out.next q).coldAll _ (KidsL.st (fun b hb => ⟨?_, rfl⟩) _ _ _ hk)))
  rcases hb with hb | rfl
  · exact ⟨hb.1, Nat.lt_of_lt_of_le hb.2.1 q.size, hb.2.2⟩
  · exact ⟨Nat.le_trans HO.out.kept.size h1, h2, fun hm => by have := (HO.out.hot_lt b hm).2; omega⟩
end
end Go.Proofs.YtdiibenofbcfnaaGreat
