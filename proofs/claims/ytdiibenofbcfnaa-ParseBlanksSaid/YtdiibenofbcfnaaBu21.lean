/- Several texts put together: SimE, ParL, SimF, LexK. -/
import Derived.Test.YtdiibenofbcfnaaBu20
import Derived.Test.YtdiibenofbcfnaaBu3
import Derived.Test.YtdiibenofbcfnaaBu19
import Derived.Test.YtdiibenofbcfnaaBu7
import Derived.Deep.Cut
set_option linter.unusedSimpArgs false
set_option linter.unusedVariables false
namespace Go.Proofs.Ytdiibenofbcfnaa
open Go.RowKit
def goF (p : Nat → Bool) : Nat → Nat → Nat
  | 0, a => a
  | f + 1, a => if p a = true then goF p f (a + 1) else a
theorem linesF_go (ts : List TokF) : ∀ f a, linesF ts f a = goF (fun a => ((tk ts a).k : Int) == 1) f a
  | 0, a => rfl
  | f + 1, a => by
    rw [linesF, goF]
    split
    · rename_i h
      rw [nx_of (by decide) h, linesF_go ts f]
    · rfl
def endA (ts : List TokF) (a : Nat) : Bool := (((tk ts a).k : Int) == 1) || isS ts a [[59]]
theorem endA_k {ts : List TokF} {a : Nat} (h : endA ts a = true) : 1 ≤ (tk ts a).k := by
  unfold endA at h
  rw [Bool.or_eq_true] at h
  rcases h with h | h
  · have := eq_of_beq h; omega
  · rw [k_isS h]; decide
theorem endsF_go (ts : List TokF) : ∀ f a, endsF ts f a = goF (endA ts) f a
  | 0, a => rfl
  | f + 1, a => by
    rw [endsF, goF]
    show (if endA ts a = true then _ else _) = _
    split
    · rename_i h
      rw [nx_eq (endA_k h), endsF_go ts f]
    · rfl
theorem goF_spec (p : Nat → Bool) : ∀ f a, a ≤ goF p f a ∧ goF p f a ≤ a + f ∧ (∀ i, a ≤ i → i < goF p f a → p i = true) ∧ (p (goF p f a) = false ∨ goF p f a = a + f)
  | 0, a => ⟨Nat.le_refl _, Nat.le_refl _, fun i h1 h2 => absurd h2 (by rw [goF]; omega), .inr rfl⟩
  | f + 1, a => by
    rw [goF]
    split
    · rename_i h
      obtain ⟨h1, h2, h3, h4⟩ := goF_spec p f (a + 1)
      refine ⟨by omega, by omega, fun i hi1 hi2 => ?_, h4.imp id (fun e => by omega)⟩
      rcases Nat.eq_or_lt_of_le hi1 with e | e
      · exact e ▸ h
      · exact h3 i e hi2
    · rename_i h
      exact ⟨Nat.le_refl _, by omega, fun i h1 h2 => absurd h2 (by omega), .inl (by simpa using h)⟩
theorem goF_of {p : Nat → Bool} : ∀ (f a c : Nat), a ≤ c → (∀ i, a ≤ i → i < c → p i = true) → p c = false → c - a ≤ f → goF p f a = c
  | 0, a, c, h1, _, _, h4 => by rw [goF]; omega
  | f + 1, a, c, h1, h2, h3, h4 => by
    rw [goF]
    rcases Nat.eq_or_lt_of_le h1 with e | e
    · subst e
      rw [if_neg (by rw [h3]; decide)]
    · rw [if_pos (h2 a (Nat.le_refl _) e)]
      exact goF_of f (a + 1) c e (fun i hi1 hi2 => h2 i (by omega) hi2) h3 (by omega)
theorem goF_stop {p : Nat → Bool} {f a L : Nat} (hL : p L = false) (ha : a ≤ L) (hf : L ≤ a + f) : goF p f a ≤ L ∧ p (goF p f a) = false := by
  obtain ⟨h1, h2, h3, h4⟩ := goF_spec p f a
  have hle : goF p f a ≤ L := by
    apply Classical.byContradiction
    intro h
    have := h3 L ha (by omega)
    rw [hL] at this; cases this
  refine ⟨hle, ?_⟩
  rcases h4 with h4 | h4
  · exact h4
  · rw [show goF p f a = L by omega]; exact hL
structure TsE (ts : List TokF) (n : Nat) : Prop where
  len : ts.length = n + 1
  last : (tk ts n).k = 0 ∧ (tk ts n).s = [] ∧ (tk ts n).z = 0
  more : ∀ i, i < n → (tk ts i).k ≠ 0
theorem TsE.nb {ts : List TokF} {n : Nat} (h : TsE ts n) : ∀ b, b < ts.length → nx ts b < ts.length := by
  intro b hb
  rw [h.len] at hb ⊢
  rcases Nat.lt_or_ge b n with h1 | h1
  · rw [nx_eq (by have := h.more b h1; omega)]; omega
  · obtain rfl : b = n := by omega
    unfold nx
    rw [h.last.1]
    simp
theorem TsE.end0 {ts : List TokF} {n : Nat} (h : TsE ts n) : endA ts n = false := by
  unfold endA isS
  rw [h.last.1]
  rfl
theorem TsE.line0 {ts : List TokF} {n : Nat} (h : TsE ts n) : (((tk ts n).k : Int) == 1) = false := by rw [h.last.1]; rfl
theorem isS_of {ts us : List TokF} {b a : Nat} (h : tkR (tk ts b) (tk us a)) (ss : List (List Nat)) : isS ts b ss = isS us a ss := by
  unfold isS
  rw [h.beq (by decide), h.2.1]
theorem isS_low {ts : List TokF} {b : Nat} (h : (tk ts b).k ≤ 1) (ss : List (List Nat)) : isS ts b ss = false := by
  unfold isS
  have : ((((tk ts b).k : Int)) == 9) = false := by rw [beq_eq_false_iff_ne]; omega
  rw [this]; rfl
structure Ahd (fs gs : List TokF) (b a : Nat) : Prop where
  t : tkR (tk fs b) (tk gs a)
  a1 : 2 ≤ (tk fs b).k → tkR (ahead fs 1 b) (ahead gs 1 a)
  a2 : 2 ≤ (tk fs b).k → 2 ≤ (ahead fs 1 b).k → tkR (ahead fs 2 b) (ahead gs 2 a)
  a3 : 2 ≤ (tk fs b).k → 2 ≤ (ahead fs 1 b).k → 2 ≤ (ahead fs 2 b).k → tkR (ahead fs 3 b) (ahead gs 3 a)
theorem beq_low {k : Nat} {c : Int} (hc : 2 ≤ c) (h : ¬ 2 ≤ k) : (((k : Nat) : Int) == c) = false := by rw [beq_eq_false_iff_ne]; omega
theorem tkR.low {t u : TokF} (h : tkR t u) (h2 : ¬ 2 ≤ t.k) : ¬ 2 ≤ u.k := by rcases h.1 with e | e <;> omega
theorem Ahd.each {fs gs : List TokF} {b a : Nat} (h : Ahd fs gs b a) : eachA fs b = eachA gs a := by
  unfold eachA
  rw [h.t.beq (c := 5) (by decide)]
  by_cases h0 : 2 ≤ (tk fs b).k
  · have h1 := h.a1 h0
    rw [h1.beq (c := 7) (by decide), h1.2.1]
    by_cases h2 : 2 ≤ (ahead fs 1 b).k
    · have h3 := h.a2 h0 h2
      rw [h3.beq (c := 5) (by decide)]
      by_cases h4 : 2 ≤ (ahead fs 2 b).k
      · have h5 := h.a3 h0 h2 h4
        rw [h5.beq (c := 9) (by decide), h5.2.1]
      · rw [beq_low (k := (ahead gs 2 a).k) (by decide) (h3.low h4)]
        simp
    · rw [beq_low (k := (ahead gs 1 a).k) (by decide) (h1.low h2)]
      simp
  · rw [beq_low (k := (tk gs a).k) (by decide) (h.t.low h0)]
    simp
theorem Ahd.reads {fs gs : List TokF} {b a : Nat} (h : Ahd fs gs b a) : readsA fs b = readsA gs a := by
  unfold readsA
  by_cases h0 : 2 ≤ (tk fs b).k
  · have h1 := h.a1 h0
    rw [isS_of h.t, h1.beq (c := 7) (by decide), h1.2.1]
  · rw [isS_low (by omega), isS_low (ts := gs) (by have := h.t.low h0; omega)]; rfl
theorem Ahd.args {fs gs : List TokF} {b a : Nat} (h : Ahd fs gs b a) : argsA fs b = argsA gs a := by
  unfold argsA
  by_cases h0 : 2 ≤ (tk fs b).k
  · have h1 := h.a1 h0
    rw [isS_of h.t, h1.beq (c := 9) (by decide), h1.2.1]
  · rw [isS_low (by omega), isS_low (ts := gs) (by have := h.t.low h0; omega)]; rfl
structure Fst (ts us : List TokF) (n m : Nat) : Prop where
  t : TsE ts n
  u : TsE us m
  nm : n < m
  same : ∀ i, i < n → tk us i = tk ts i
  line : (tk us n).k = 1 ∧ (tk us n).s = [] ∧ (tk us n).z = 0
def CxF (ts us : List TokF) (n : Nat) : Cx := ⟨ts, us, fun b a => b = a ∧ b ≤ n, fun b => b < n⟩
section
variable {ts us : List TokF} {n m : Nat}
theorem Fst.tkr (h : Fst ts us n m) {b : Nat} (hb : b ≤ n) : tkR (tk ts b) (tk us b) := by
  rcases Nat.eq_or_lt_of_le hb with e | e
  · subst e
    exact ⟨.inr ⟨by rw [h.t.last.1]; omega, by rw [h.line.1]; omega⟩, by rw [h.t.last.2.1, h.line.2.1], by rw [h.t.last.2.2, h.line.2.2]⟩
  · rw [h.same b e]; exact tkR.rfl' _
theorem Fst.ahd (h : Fst ts us n m) {b : Nat} (hb : b ≤ n) : Ahd ts us b b := by
  have hlt : 2 ≤ (tk ts b).k → b < n := fun h2 => by
    rcases Nat.eq_or_lt_of_le hb with e | e
    · subst e; rw [h.t.last.1] at h2; omega
    · exact e
  have ha : ∀ j, b + j ≤ n → ahead ts j b = tk ts (b + j) ∧ ahead us j b = tk us (b + j) := fun j hj => ⟨ahead_tk (by rw [h.t.len]; omega), ahead_tk (by rw [h.u.len]; have := h.nm; omega)⟩
  have hstep : ∀ j, b + j ≤ n → 2 ≤ (ahead ts j b).k → b + j < n := fun j hj h2 => by
    rw [(ha j hj).1] at h2
    rcases Nat.eq_or_lt_of_le hj with e | e
    · rw [e, h.t.last.1] at h2; omega
    · exact e
  refine ⟨h.tkr hb, fun h0 => ?_, fun h0 h1 => ?_, fun h0 h1 h2 => ?_⟩
  · have := hlt h0
    rw [(ha 1 (by omega)).1, (ha 1 (by omega)).2]
    exact h.tkr (by omega)
  · have := hlt h0
    have := hstep 1 (by omega) h1
    rw [(ha 2 (by omega)).1, (ha 2 (by omega)).2]
    exact h.tkr (by omega)
  · have := hlt h0
    have := hstep 1 (by omega) h1
    have := hstep 2 (by omega) h2
    rw [(ha 3 (by omega)).1, (ha 3 (by omega)).2]
    exact h.tkr (by omega)
theorem Fst.go (h : Fst ts us n m) {p q : Nat → Bool} (hpq : ∀ i, i < n → p i = q i) (hp : p n = false) {b : Nat} (hb : b ≤ n) (hl : goF p ts.length b < n) : goF q us.length b = goF p ts.length b := by
  obtain ⟨h1, h2, h3, h4⟩ := goF_spec p ts.length b
  have hs := goF_stop hp hb (by rw [h.t.len]; omega : n ≤ b + ts.length)
  exact goF_of _ _ _ h1 (fun i hi1 hi2 => by rw [← hpq i (by omega)]; exact h3 i hi1 hi2) (by rw [← hpq _ hl]; exact hs.2) (by rw [h.u.len]; have := h.nm; omega)
theorem Fst.lg (h : Fst ts us n m) : Lg (CxF ts us n) where
  fl := fun b a hr => by show b < ts.length; rw [h.t.len]; have := hr.2; omega
  gl := fun b a hr => by show a < us.length; rw [h.u.len]; have := hr.1; have := hr.2; have := h.nm; omega
  nb := h.t.nb
  ng := h.u.nb
  sig := fun b a hr => by obtain ⟨rfl, hb⟩ := hr; exact h.tkr hb
  over := fun b a hr => by
    obtain ⟨rfl, hb⟩ := hr
    show overA ts b = overA us b
    unfold overA
    rcases Nat.eq_or_lt_of_le hb with e | e
    · subst e
      rw [h.t.last.1, h.line.1]
      rfl
    · unfold isS
      rw [h.same b e]
  nx := fun b a hr h2 => by
    obtain ⟨rfl, hb⟩ := hr
    refine ⟨rfl, ?_⟩
    rcases Nat.eq_or_lt_of_le hb with e | e
    · subst e
      have h2 : 2 ≤ (tk ts b).k := h2
      rw [h.t.last.1] at h2; omega
    · exact e
  low := fun b b' h1 h2 => Nat.lt_of_le_of_lt h1 h2
  big := fun b hb h2 => by
    have hb : b < ts.length := hb
    rw [h.t.len] at hb
    rcases Nat.eq_or_lt_of_le (Nat.le_of_lt_succ hb) with e | e
    · subst e
      have h2 : 2 ≤ (tk ts b).k := h2
      rw [h.t.last.1] at h2; omega
    · exact e
  last := fun b hb h1 => by
    have hb : b < ts.length := hb
    show b + 1 = ts.length
    rw [h.t.len] at hb ⊢
    have : ¬ b < n := h1
    omega
  lines := fun b a hr hl => by
    obtain ⟨rfl, hb⟩ := hr
    have hl : linesF ts ts.length b < n := hl
    show linesF ts ts.length b = linesF us us.length b ∧ linesF ts ts.length b ≤ n
    rw [linesF_go] at hl ⊢
    rw [linesF_go]
    exact ⟨(h.go (fun i hi => by rw [h.same i hi]) h.t.line0 hb hl).symm, Nat.le_of_lt hl⟩
  ends := fun b a hr hl => by
    obtain ⟨rfl, hb⟩ := hr
    have hl : endsF ts ts.length b < n := hl
    show endsF ts ts.length b = endsF us us.length b ∧ endsF ts ts.length b ≤ n
    rw [endsF_go] at hl ⊢
    rw [endsF_go]
    exact ⟨(h.go (fun i hi => by unfold endA isS; rw [h.same i hi]) h.t.end0 hb hl).symm, Nat.le_of_lt hl⟩
  each := fun b a hr => by obtain ⟨rfl, hb⟩ := hr; exact (h.ahd hb).each
  reads := fun b a hr => by obtain ⟨rfl, hb⟩ := hr; exact (h.ahd hb).reads
  args := fun b a hr => by obtain ⟨rfl, hb⟩ := hr; exact (h.ahd hb).args
end
open Go.RowKit
set_option maxRecDepth 100000 in
set_option maxHeartbeats 3200000 in
theorem pwithin_any (p : Par) (g : Nat) (ts : List TokF) (n : Nat) (H_list : FC 73 #[.pointer (some ⟨g, 0, none⟩)] (listF ts p) VL g ts n) (s e : List Nat) (hs : ∀ x ∈ s, x < 256) (he : ∀ x ∈ e, x < 256) : FC 75 #[.pointer (some ⟨g, 0, none⟩), .string (strN s), .string (strN e)] (withinF ts p s e) VL g ts n := by
  intro w a d m hn
  obtain ⟨R, hR⟩ : ∃ R, (withinF ts p s e) a d = R := ⟨_, rfl⟩
  rw [hR]
  have HF := Lib.hid hR
  have HO := m.ownN
  have hg := m.lt
  unfold withinF at HF
  clear hR m
  have C_list := Lib.hid H_list
  go_enter Try.func75, Try.ntmps75
  (repeat' (first | (with_reducible first | refine oXt ?_ | refine oXb ?_) | ((with_reducible refine ib_miss ?_ ?_); exact rfl) | ((first | with_reducible refine ab_drew HO ?_); clear HO; intro _ HO) | ((go_big_may; first | (go_at_call 39; refine arm_take HO HF hg rfl rfl rfl hs ?_ ?_; rotate_left; (intro v pl e W h1 h2 h3; first | (exact bp_panic2 rfl h1 h2 h3) | ((try dsimp only); (repeat (first | go_big_open | (simp only [Exit.then, Exit.inBlock]))); exact bp_panic2 rfl h1 h2 h3)); clear HO HF; intro _ _ HO hle HF) | (go_at_call 39; refine arm_take HO HF hg rfl rfl rfl he ?_ ?_; rotate_left; (intro v pl e W h1 h2 h3; first | (exact bp_panic2 rfl h1 h2 h3) | ((try dsimp only); (repeat (first | go_big_open | (simp only [Exit.then, Exit.inBlock]))); exact bp_panic2 rfl h1 h2 h3)); clear HO HF; intro _ _ HO hle HF) | (go_at_call 73; refine arm_list C_list HO HF hg (by omega) ?_ ?_; rotate_left; (intro v pl e W h1 h2 h3; first | (exact bp_panic2 rfl h1 h2 h3) | ((try dsimp only); (repeat (first | go_big_open | (simp only [Exit.then, Exit.inBlock]))); exact bp_panic2 rfl h1 h2 h3)); clear HO HF; intro _ _ _ _ _ HO hl hle HF) | fail) <;> (try dsimp only)) | go_values | go_skip | go_guarded | go_step | go_upon | (go_ite <;> go_prune <;> (try go_simp))))
  refine bp_tmp (t := 6) rfl rfl rfl ?_
  exact bp_list HO HF rfl List.mem_cons_self (by omega)
theorem pp_ret {α : Type} {m : PP α} {a d : Nat} {R : PR α} (h : m a d = R) : (m >>= fun x => pure x) a d = R := by
  rw [← h]
  show PP.bind m _ a d = _
  unfold PP.bind
  cases m a d <;> rfl
set_option maxRecDepth 100000 in
set_option maxHeartbeats 3200000 in
theorem psubs_any (p : Par) (g : Nat) (ts : List TokF) (n : Nat) (H_list : FC 73 #[.pointer (some ⟨g, 0, none⟩)] (listF ts p) VL g ts n) : FC 71 #[.pointer (some ⟨g, 0, none⟩)] (withinF ts p [91] [93]) VL g ts n := by
  intro w a d m hn
  obtain ⟨R, hR⟩ : ∃ R, (withinF ts p [91] [93]) a d = R := ⟨_, rfl⟩
  rw [hR]
  have HF := Lib.hid (pp_ret hR)
  have HO := m.ownN
  have hg := m.lt
  clear hR m
  have C_within : Hid (FC 75 #[.pointer (some ⟨g, 0, none⟩), .string { data := #[91] }, .string { data := #[93] }] (withinF ts p [91] [93]) VL g ts n) := Lib.hid (pwithin_any p g ts n H_list [91] [93] (by decide) (by decide))
  go_enter Try.func71, Try.ntmps71
  (repeat' (first | (with_reducible first | refine oXt ?_ | refine oXb ?_) | ((with_reducible refine ib_miss ?_ ?_); exact rfl) | ((first | with_reducible refine ab_drew HO ?_); clear HO; intro _ HO) | ((go_big_may; first | (go_at_call 75; refine arm_list C_within HO HF hg (by omega) ?_ ?_; rotate_left; (intro v pl e W h1 h2 h3; first | (exact bp_panic2 rfl h1 h2 h3) | ((try dsimp only); (repeat (first | go_big_open | (simp only [Exit.then, Exit.inBlock]))); exact bp_panic2 rfl h1 h2 h3)); clear HO HF; intro _ _ _ _ _ HO hl hle HF) | fail) <;> (try dsimp only)) | go_values | go_skip | go_guarded | go_step | go_upon | (go_ite <;> go_prune <;> (try go_simp))))
  refine bp_tmp (t := 2) rfl rfl rfl ?_
  exact bp_list HO HF rfl List.mem_cons_self (by omega)
section
variable {β : Type} {g : Nat} {ts : List TokF} {a d n : Nat} {w w' w0 W : World} {X : List Nat} {S : World → Prop} {bs : List Bx} {rs : List Rw} {F : List Cold} {T : Ending → World → Prop} {K : FuncId} {args : Array Value} {R : PR β}
theorem arm_aheadF {ki : Int} (j : Nat) {k : TokF → PP β} (HO : Hid (Own w0 X (PS g ts a d) bs rs F w)) (HF : Hid ((aheadP ts j >>= k) a d = R)) (hK : K = 68) (ha : args = #[.pointer (some ⟨g, 0, none⟩), .int .i64 ki]) (hk : ki = (j : Int)) (hk2 : j ≤ 10) (h : ∀ W, Hid (Own w0 X (PS g ts a d) bs rs F W) → Hid (k (ahead ts j a) a d = R) → T (.returned (.agg #[.int .i64 ((TokF.k (ahead ts j a) : Nat) : Int), .int .i64 ((TokF.at' (ahead ts j a) : Nat) : Int), .string (strN (TokF.s (ahead ts j a))), .bool (zn (TokF.z (ahead ts j a))), .int .u64 (zh (TokF.z (ahead ts j a))), .int .u64 (zl (TokF.z (ahead ts j a)))])) W) : Calls Try.prog K args w T :=
  arm_ahead j HO hK ha hk hk2 fun W hO => h W hO HF
theorem bp_listnil {a0 a' d' : Nat} {R : PR (List NodeT)} (HO : Hid (Own w0 [g] (PS g ts a' d) bs rs F W)) (HF : Hid ((pure [] : PP (List NodeT)) a' d = R)) (hd : d = d') (ha : a0 ≤ a') : PPost g ts w0 a0 d' R VL (.returned (.slice none 0 0)) W :=
  bp_ok HO HF ha hd ⟨[], rfl, World.ownsRow_nil _ _ _ _, fun e he => by cases he⟩
def Cold.cells (b o : Nat) (cs : List Value) : Cold := ⟨fun w F => F b ∧ w.rangeAt b o cs, fun _ _ _ _ hF h => ⟨(hF b h.1).1, fun j v hv => (World.cell?_of_block (hF b h.1).2).trans (h.2 j v hv)⟩⟩
theorem Own.open1 {A : Option Addr} {x : NodeT} {l : List NodeT} (h : Own w0 X S bs rs F w) (hm : Cold.kids A (x :: l) ∈ F) : ∃ b o A' c', A = some ⟨b, o, none⟩ ∧ x.l.length ≤ c' ∧ Own w0 X S bs rs (Cold.cells b o (nodeC x A' c') :: Cold.kids A' x.l :: F) w := by
  have hk := h.cold _ hm
  unfold Cold.kids at hk
  dsimp only at hk
  rw [KidsL] at hk
  obtain ⟨⟨b, o, A', c', e, hF, hr, hc, hn⟩, _⟩ := hk
  rw [KidsN_eq] at hn
  exact ⟨b, o, A', c', e, hc, (h.coldAll (Cold.kids A' x.l) hn).coldAll (Cold.cells b o (nodeC x A' c')) ⟨hF, hr⟩⟩
theorem wo_loadC {P : Program} {o : Oper} {act : Act} {KK : Act → World → Prop} {Q : Exit → Act → World → Prop} (HO : Hid (Own w0 X S bs rs F w)) {ty : TypeId} {x : Operand} (ho : o.op = .load ty x) {b k : Nat} (hx : act.eval x = .pointer (some ⟨b, k, none⟩)) {cs : List Value} (hm : Cold.cells b k cs ∈ F)
    (hd : ∀ w, (isAgg ty).run P w = .ok true w) {n : Nat} (hs : ∀ w, (sizeOf ty).run P w = .ok n w) (hn : cs.length = n) (h : KK (act.put o.dst (.agg cs.toArray)) w) : WOp P o act w KK Q := by
  subst hn
  have hl : (loadCells ⟨b, k, none⟩ cs.length).run P w = .ok cs.toArray w :=
    run_loadCells_list (P := P) w ⟨b, k, none⟩ cs (fun j v hv => by rw [Addr.add_mid]; exact (HO.out.cold _ hm).2 j v hv)
  unfold WOp Oper.wp execOp
  simp only [ho, hx, Instr.loadAt, Instr.sureAddr, Sem.run_bind, Sem.run_pure, Result.andThen_ok, loadVar, hd w, if_true, hs w, hl]
  exact h
end
set_option maxRecDepth 100000 in
set_option maxHeartbeats 3200000 in
theorem pargs_any (p : Par) (g : Nat) (ts : List TokF) (n : Nat) (H_list : FC 73 #[.pointer (some ⟨g, 0, none⟩)] (listF ts p) VL g ts n) : FC 89 #[.pointer (some ⟨g, 0, none⟩)] (argsF ts p) VL g ts n := by
  intro w a d m hn
  obtain ⟨R, hR⟩ : ∃ R, (argsF ts p) a d = R := ⟨_, rfl⟩
  rw [hR]
  have HF := Lib.hid hR
  have HO := m.ownN
  have hg := m.lt
  unfold argsF at HF
  clear hR m
  have C_within : Hid (FC 75 #[.pointer (some ⟨g, 0, none⟩), .string { data := #[40] }, .string { data := #[41] }] (withinF ts p [40] [41]) VL g ts n) := Lib.hid (pwithin_any p g ts n H_list [40] [41] (by decide) (by decide))
  have hby : ∀ x ∈ (ahead ts 1 a).s, x < 256 := by
    have h1 : min (a + 1) (ts.length - 1) < ts.length := by have := HO.out.st.ha; omega
    unfold ahead
    rw [tk_eq h1]
    exact HO.out.st.ok.byte _ (List.getElem_mem h1)
  have h8 := list8 hby [41] (by decide)
  simp only [List.map_cons, List.map_nil] at h8
  have h8' : ((strN (ahead ts 1 a).s).toList == [41]) = decide ((ahead ts 1 a).s = [41]) := by rw [Bool.eq_iff_iff, beq_iff_eq, decide_eq_true_eq]; exact h8
  clear h8 hby
  cases h9 : (((ahead ts 1 a).k : Int) == 9)
  · clear h8'
    go_enter Try.func89, Try.ntmps89
    (repeat' (first | (with_reducible first | refine oXt ?_ | refine oXb ?_) | ((with_reducible refine ib_miss ?_ ?_); exact rfl) | ((first | ((with_reducible refine to_load ?_); first | refine oL1 HO rfl rfl ?_ | refine oL2 HO rfl rfl ?_ | refine oL3 HO rfl rfl ?_) | ((first | with_reducible refine oAl HO ?_); clear HO; intro _ HO)); (try simp only [Act.put, pS0, pS1, pS2])) | ((first | ((with_reducible refine to_store ?_); first | refine oT1 HO rfl rfl rfl ?_ | refine oT2 HO rfl rfl rfl (by rfl) ?_ | refine oT3 HO rfl rfl rfl rfl ?_) | with_reducible refine ab_drew HO ?_); clear HO; intro _ HO) | ((with_reducible refine ab_junk HO 9 ?_); clear HO; intro _ HO HB) | (simp only [h9, Bool.false_and, Bool.and_false, Bool.false_eq_true, ↓reduceIte] at HF) | ((go_big_may; first | (go_at_call 68; first | (refine arm_aheadF 1 HO HF rfl rfl rfl (by decide) ?_; clear HO HF; intro _ HO HF) | (refine arm_ahead 1 HO rfl rfl rfl (by decide) ?_; clear HO; intro _ HO)) | (go_at_call 27; refine arm_sgnF HO HF rfl rfl HB rfl rfl (by decide) (by decide) ?_; clear HO HF HB; intro _ b hb HO HF; cases b <;> (try simp only [↓reduceIte, Bool.false_eq_true, Bool.not_true, Bool.not_false, pp_pure] at HF)) | fail) <;> (try dsimp only)) | go_values | go_skip | go_guarded | go_step | go_upon | (go_ite <;> go_prune <;> (try go_simp))))
    all_goals (replace HF := Lib.hid (pp_ret HF.out))
    (repeat' (first | (with_reducible first | refine oXt ?_ | refine oXb ?_) | ((with_reducible refine ib_miss ?_ ?_); exact rfl) | ((first | ((with_reducible refine to_load ?_); first | refine oL1 HO rfl rfl ?_ | refine oL2 HO rfl rfl ?_ | refine oL3 HO rfl rfl ?_) | ((first | with_reducible refine oAl HO ?_); clear HO; intro _ HO)); (try simp only [Act.put, pS0, pS1, pS2])) | ((first | ((with_reducible refine to_store ?_); first | refine oT1 HO rfl rfl rfl ?_ | refine oT2 HO rfl rfl rfl (by rfl) ?_ | refine oT3 HO rfl rfl rfl rfl ?_) | with_reducible refine ab_drew HO ?_); clear HO; intro _ HO) | ((with_reducible refine ab_junk HO 9 ?_); clear HO; intro _ HO HB) | ((go_big_may; first | (go_at_call 75; refine arm_list C_within HO HF hg (by omega) ?_ ?_; rotate_left; (intro v pl e W h1 h2 h3; first | (exact bp_panic2 rfl h1 h2 h3) | ((try dsimp only); (repeat (first | go_big_open | (simp only [Exit.then, Exit.inBlock]))); exact bp_panic2 rfl h1 h2 h3)); clear HO HF; intro _ _ _ _ _ HO hl hle HF) | fail) <;> (try dsimp only)) | go_values | go_skip | go_guarded | go_step | go_upon | (go_ite <;> go_prune <;> (try go_simp))))
    all_goals (refine bp_tmp (t := 2) rfl rfl rfl ?_; exact bp_list HO HF rfl List.mem_cons_self (by omega))
  · cases hs : decide ((ahead ts 1 a).s = [41])
    rotate_left
    · rw [hs] at h8'
      go_enter Try.func89, Try.ntmps89
      (repeat' (first | (with_reducible first | refine oXt ?_ | refine oXb ?_) | ((with_reducible refine ib_miss ?_ ?_); exact rfl) | ((first | ((with_reducible refine to_load ?_); first | refine oL1 HO rfl rfl ?_ | refine oL2 HO rfl rfl ?_ | refine oL3 HO rfl rfl ?_) | ((first | with_reducible refine oAl HO ?_); clear HO; intro _ HO)); (try simp only [Act.put, pS0, pS1, pS2])) | ((first | ((with_reducible refine to_store ?_); first | refine oT1 HO rfl rfl rfl ?_ | refine oT2 HO rfl rfl rfl (by rfl) ?_ | refine oT3 HO rfl rfl rfl rfl ?_) | with_reducible refine ab_drew HO ?_); clear HO; intro _ HO) | ((with_reducible refine ab_junk HO 9 ?_); clear HO; intro _ HO HB) | (simp only [h9, hs, Bool.false_and, Bool.true_and, Bool.false_eq_true, ↓reduceIte] at HF) | ((go_big_may; first | (go_at_call 68; first | (refine arm_aheadF 1 HO HF rfl rfl rfl (by decide) ?_; clear HO HF; intro _ HO HF) | (refine arm_ahead 1 HO rfl rfl rfl (by decide) ?_; clear HO; intro _ HO)) | (go_at_call 27; refine arm_sgnF HO HF rfl rfl HB rfl rfl (by decide) (by decide) ?_; clear HO HF HB; intro _ b hb HO HF; cases b <;> (try simp only [↓reduceIte, Bool.false_eq_true, Bool.not_true, Bool.not_false, pp_pure] at HF)) | (go_at_call 28; first | (refine arm_nextF HO HF hg rfl rfl ?_; clear HO HF; intro _ hle HO HF) | (refine arm_next HO hg rfl rfl ?_; clear HO; intro _ HO)) | fail) <;> (try dsimp only)) | go_values | go_skip | go_guarded | go_step | go_upon | (go_ite <;> go_prune <;> (try go_simp))))
      · replace HF := Lib.hid (pp_ret HF.out)
        (repeat' (first | (with_reducible first | refine oXt ?_ | refine oXb ?_) | ((with_reducible refine ib_miss ?_ ?_); exact rfl) | ((first | ((with_reducible refine to_load ?_); first | refine oL1 HO rfl rfl ?_ | refine oL2 HO rfl rfl ?_ | refine oL3 HO rfl rfl ?_) | ((first | with_reducible refine oAl HO ?_); clear HO; intro _ HO)); (try simp only [Act.put, pS0, pS1, pS2])) | ((first | ((with_reducible refine to_store ?_); first | refine oT1 HO rfl rfl rfl ?_ | refine oT2 HO rfl rfl rfl (by rfl) ?_ | refine oT3 HO rfl rfl rfl rfl ?_) | with_reducible refine ab_drew HO ?_); clear HO; intro _ HO) | ((with_reducible refine ab_junk HO 9 ?_); clear HO; intro _ HO HB) | ((go_big_may; first | (go_at_call 75; refine arm_list C_within HO HF hg (by omega) ?_ ?_; rotate_left; (intro v pl e W h1 h2 h3; first | (exact bp_panic2 rfl h1 h2 h3) | ((try dsimp only); (repeat (first | go_big_open | (simp only [Exit.then, Exit.inBlock]))); exact bp_panic2 rfl h1 h2 h3)); clear HO HF; intro _ _ _ _ _ HO hl hle HF) | fail) <;> (try dsimp only)) | go_values | go_skip | go_guarded | go_step | go_upon | (go_ite <;> go_prune <;> (try go_simp))))
        refine bp_tmp (t := 2) rfl rfl rfl ?_
        exact bp_list HO HF rfl List.mem_cons_self (by omega)
      · refine bp_tmp (t := 2) rfl rfl rfl ?_
        refine bp_listnil HO HF rfl ?_
        omega
    · rw [hs] at h8'
      go_enter Try.func89, Try.ntmps89
      (repeat' (first | (with_reducible first | refine oXt ?_ | refine oXb ?_) | ((with_reducible refine ib_miss ?_ ?_); exact rfl) | ((first | ((with_reducible refine to_load ?_); first | refine oL1 HO rfl rfl ?_ | refine oL2 HO rfl rfl ?_ | refine oL3 HO rfl rfl ?_) | ((first | with_reducible refine oAl HO ?_); clear HO; intro _ HO)); (try simp only [Act.put, pS0, pS1, pS2])) | ((first | ((with_reducible refine to_store ?_); first | refine oT1 HO rfl rfl rfl ?_ | refine oT2 HO rfl rfl rfl (by rfl) ?_ | refine oT3 HO rfl rfl rfl rfl ?_) | with_reducible refine ab_drew HO ?_); clear HO; intro _ HO) | ((with_reducible refine ab_junk HO 9 ?_); clear HO; intro _ HO HB) | (simp only [h9, hs, Bool.false_and, Bool.true_and, Bool.and_false, Bool.false_eq_true, ↓reduceIte] at HF) | ((go_big_may; first | (go_at_call 68; first | (refine arm_aheadF 1 HO HF rfl rfl rfl (by decide) ?_; clear HO HF; intro _ HO HF) | (refine arm_ahead 1 HO rfl rfl rfl (by decide) ?_; clear HO; intro _ HO)) | (go_at_call 27; refine arm_sgnF HO HF rfl rfl HB rfl rfl (by decide) (by decide) ?_; clear HO HF HB; intro _ b hb HO HF; cases b <;> (try simp only [↓reduceIte, Bool.false_eq_true, Bool.not_true, Bool.not_false, pp_pure] at HF)) | fail) <;> (try dsimp only)) | go_values | go_skip | go_guarded | go_step | go_upon | (go_ite <;> go_prune <;> (try go_simp))))
      all_goals (replace HF := Lib.hid (pp_ret HF.out))
      (repeat' (first | (with_reducible first | refine oXt ?_ | refine oXb ?_) | ((with_reducible refine ib_miss ?_ ?_); exact rfl) | ((first | ((with_reducible refine to_load ?_); first | refine oL1 HO rfl rfl ?_ | refine oL2 HO rfl rfl ?_ | refine oL3 HO rfl rfl ?_) | ((first | with_reducible refine oAl HO ?_); clear HO; intro _ HO)); (try simp only [Act.put, pS0, pS1, pS2])) | ((first | ((with_reducible refine to_store ?_); first | refine oT1 HO rfl rfl rfl ?_ | refine oT2 HO rfl rfl rfl (by rfl) ?_ | refine oT3 HO rfl rfl rfl rfl ?_) | with_reducible refine ab_drew HO ?_); clear HO; intro _ HO) | ((with_reducible refine ab_junk HO 9 ?_); clear HO; intro _ HO HB) | ((go_big_may; first | (go_at_call 75; refine arm_list C_within HO HF hg (by omega) ?_ ?_; rotate_left; (intro v pl e W h1 h2 h3; first | (exact bp_panic2 rfl h1 h2 h3) | ((try dsimp only); (repeat (first | go_big_open | (simp only [Exit.then, Exit.inBlock]))); exact bp_panic2 rfl h1 h2 h3)); clear HO HF; intro _ _ _ _ _ HO hl hle HF) | fail) <;> (try dsimp only)) | go_values | go_skip | go_guarded | go_step | go_upon | (go_ite <;> go_prune <;> (try go_simp))))
      all_goals (refine bp_tmp (t := 2) rfl rfl rfl ?_; exact bp_list HO HF rfl List.mem_cons_self (by omega))
open Go.RowKit
def Alk (t u : TokF) : Prop := t.k = u.k ∧ t.s = u.s ∧ t.z = u.z
theorem Alk.tkR {t u : TokF} (h : Alk t u) : tkR t u := ⟨.inl h.1, h.2⟩
structure Mvd (ts us : List TokF) (n m o : Nat) : Prop where
  t : TsE ts n
  u : TsE us m
  om : m = o + n
  same : ∀ i, i ≤ n → Alk (tk ts i) (tk us (o + i))
def CxM (ts us : List TokF) (n o : Nat) : Cx := ⟨ts, us, fun b a => b ≤ n ∧ a = o + b, fun _ => True⟩
section
variable {ts us : List TokF} {n m o : Nat}
theorem Mvd.aheadM (h : Mvd ts us n m o) {b : Nat} (hb : b ≤ n) (j : Nat) : tkR (ahead ts j b) (ahead us j (o + b)) := by
  unfold ahead
  rw [h.t.len, h.u.len, h.om]
  have e : min (o + b + j) (o + n + 1 - 1) = o + min (b + j) (n + 1 - 1) := by omega
  rw [e]
  exact (h.same _ (by omega)).tkR
theorem Mvd.isSM (h : Mvd ts us n m o) {b : Nat} (hb : b ≤ n) (ss : List (List Nat)) : isS ts b ss = isS us (o + b) ss := isS_of (h.same b hb).tkR ss
theorem Mvd.go (h : Mvd ts us n m o) {p q : Nat → Bool} (hpq : ∀ i, i ≤ n → p i = q (o + i)) (hp : p n = false) {b : Nat} (hb : b ≤ n) : goF p ts.length b ≤ n ∧ goF q us.length (o + b) = o + goF p ts.length b := by
  obtain ⟨h1, h2, h3, h4⟩ := goF_spec p ts.length b
  have hs := goF_stop hp hb (by rw [h.t.len]; omega : n ≤ b + ts.length)
  refine ⟨hs.1, goF_of _ _ _ (by omega) (fun i hi1 hi2 => ?_) (by rw [← hpq _ hs.1]; exact hs.2) (by rw [h.u.len, h.om]; omega)⟩
  have := h3 (i - o) (by omega) (by omega)
  rw [hpq _ (by omega), show o + (i - o) = i by omega] at this
  exact this
theorem Mvd.lg (h : Mvd ts us n m o) : Lg (CxM ts us n o) where
  fl := fun b a hr => by show b < ts.length; rw [h.t.len]; have := hr.1; omega
  gl := fun b a hr => by show a < us.length; rw [h.u.len]; have := hr.1; have := hr.2; have := h.om; omega
  nb := h.t.nb
  ng := h.u.nb
  sig := fun b a hr => by obtain ⟨hb, rfl⟩ := hr; exact (h.same b hb).tkR
  over := fun b a hr => by
    obtain ⟨hb, rfl⟩ := hr
    show overA ts b = overA us (o + b)
    unfold overA
    rw [h.isSM hb, (h.same b hb).1]
  nx := fun b a hr h2 => by
    obtain ⟨hb, rfl⟩ := hr
    refine ⟨?_, rfl⟩
    rcases Nat.eq_or_lt_of_le hb with e | e
    · subst e
      have h2 : 2 ≤ (tk ts b).k := h2
      rw [h.t.last.1] at h2; omega
    · exact e
  low := fun _ _ _ _ => trivial
  big := fun _ _ _ => trivial
  last := fun _ _ h => absurd trivial h
  lines := fun b a hr _ => by
    obtain ⟨hb, rfl⟩ := hr
    show linesF ts ts.length b ≤ n ∧ linesF us us.length (o + b) = o + linesF ts ts.length b
    rw [linesF_go, linesF_go]
    exact h.go (fun i hi => by rw [(h.same i hi).1]) h.t.line0 hb
  ends := fun b a hr _ => by
    obtain ⟨hb, rfl⟩ := hr
    show endsF ts ts.length b ≤ n ∧ endsF us us.length (o + b) = o + endsF ts ts.length b
    rw [endsF_go, endsF_go]
    exact h.go (fun i hi => by unfold endA; rw [(h.same i hi).1, h.isSM hi]) h.t.end0 hb
  each := fun b a hr => by obtain ⟨hb, rfl⟩ := hr; exact (⟨(h.same b hb).tkR, fun _ => h.aheadM hb 1, fun _ _ => h.aheadM hb 2, fun _ _ _ => h.aheadM hb 3⟩ : Ahd ts us b (o + b)).each
  reads := fun b a hr => by obtain ⟨hb, rfl⟩ := hr; exact (⟨(h.same b hb).tkR, fun _ => h.aheadM hb 1, fun _ _ => h.aheadM hb 2, fun _ _ _ => h.aheadM hb 3⟩ : Ahd ts us b (o + b)).reads
  args := fun b a hr => by obtain ⟨hb, rfl⟩ := hr; exact (⟨(h.same b hb).tkR, fun _ => h.aheadM hb 1, fun _ _ => h.aheadM hb 2, fun _ _ _ => h.aheadM hb 3⟩ : Ahd ts us b (o + b)).args
end
structure Bck (us ts : List TokF) (m n o : Nat) : Prop where
  u : TsE us m
  t : TsE ts n
  om : o + n ≤ m
  same : ∀ i, i < n → Alk (tk us (o + i)) (tk ts i)
  low : ∀ i, o + n ≤ i → i ≤ m → (tk us i).k ≤ 1 ∧ (tk us i).s = [] ∧ (tk us i).z = 0
def CxB (us ts : List TokF) (m n o : Nat) : Cx := ⟨us, ts, fun b a => o ≤ b ∧ b ≤ m ∧ a = min (b - o) n, fun _ => True⟩
section
variable {us ts : List TokF} {m n o : Nat}
theorem Bck.tkr (h : Bck us ts m n o) {b : Nat} (h1 : o ≤ b) (h2 : b ≤ m) : tkR (tk us b) (tk ts (min (b - o) n)) := by
  rcases Nat.lt_or_ge b (o + n) with hl | hl
  · have := h.same (b - o) (by omega)
    rw [show o + (b - o) = b by omega] at this
    rw [Nat.min_eq_left (by omega)]
    exact this.tkR
  · rw [Nat.min_eq_right (by omega)]
    have hw := h.low b hl h2
    exact ⟨.inr ⟨hw.1, by rw [h.t.last.1]; omega⟩, by rw [hw.2.1, h.t.last.2.1], by rw [hw.2.2, h.t.last.2.2]⟩
theorem Bck.aheadB (h : Bck us ts m n o) {b : Nat} (h1 : o ≤ b) (h2 : b ≤ m) (j : Nat) : tkR (ahead us j b) (ahead ts j (min (b - o) n)) := by
  unfold ahead
  rw [h.t.len, h.u.len]
  have hom := h.om
  have e : min (min (b - o) n + j) (n + 1 - 1) = min (min (b + j) (m + 1 - 1) - o) n := by omega
  rw [e]
  exact h.tkr (by omega) (by omega)
theorem Bck.go (h : Bck us ts m n o) {p q : Nat → Bool} (hpq : ∀ i, o ≤ i → i < o + n → p i = q (i - o)) (hp : p m = false) (hq : q n = false) {b : Nat} (h1 : o ≤ b) (h2 : b ≤ m) : o ≤ goF p us.length b ∧ goF p us.length b ≤ m ∧ p (goF p us.length b) = false ∧ goF q ts.length (min (b - o) n) = min (goF p us.length b - o) n := by
  obtain ⟨g1, g2, g3, g4⟩ := goF_spec p us.length b
  have hs := goF_stop hp h2 (by rw [h.u.len]; omega : m ≤ b + us.length)
  refine ⟨by omega, hs.1, hs.2, ?_⟩
  have hlen := h.t.len
  rcases Nat.lt_or_ge (goF p us.length b) (o + n) with hl | hl
  · rw [Nat.min_eq_left (by omega), Nat.min_eq_left (by omega)]
    refine goF_of _ _ _ (by omega) (fun i hi1 hi2 => ?_) ?_ (by omega)
    · have := g3 (o + i) (by omega) (by omega)
      rw [hpq _ (by omega) (by omega), show o + i - o = i by omega] at this
      exact this
    · rw [← hpq _ (by omega) hl]; exact hs.2
  · rw [Nat.min_eq_right (by omega : n ≤ goF p us.length b - o)]
    refine goF_of _ _ _ (by omega) (fun i hi1 hi2 => ?_) hq (by omega)
    have := g3 (o + i) (by omega) (by omega)
    rw [hpq _ (by omega) (by omega), show o + i - o = i by omega] at this
    exact this
theorem Bck.lg (h : Bck us ts m n o) : Lg (CxB us ts m n o) where
  fl := fun b a hr => by show b < us.length; rw [h.u.len]; have := hr.2.1; omega
  gl := fun b a hr => by show a < ts.length; rw [h.t.len]; have := hr.2.2; omega
  nb := h.u.nb
  ng := h.t.nb
  sig := fun b a hr => by obtain ⟨h1, h2, rfl⟩ := hr; exact h.tkr h1 h2
  over := fun b a hr => by
    obtain ⟨h1, h2, rfl⟩ := hr
    show overA us b = overA ts (min (b - o) n)
    unfold overA
    rw [isS_of (h.tkr h1 h2)]
    rcases Nat.lt_or_ge b (o + n) with hl | hl
    · have := h.same (b - o) (by omega)
      rw [show o + (b - o) = b by omega] at this
      rw [Nat.min_eq_left (by omega), this.1]
    · rw [Nat.min_eq_right (by omega), h.t.last.1]
      have hw := (h.low b hl h2).1
      rcases Nat.eq_zero_or_pos (tk us b).k with e | e
      · rw [e]
      · rw [show (tk us b).k = 1 by omega]; rfl
  nx := fun b a hr h2 => by
    obtain ⟨h1, h3, rfl⟩ := hr
    have h2 : 2 ≤ (tk us b).k := h2
    have hl : b < o + n := by
      apply Classical.byContradiction
      intro hc
      have := (h.low b (by omega) h3).1
      omega
    have := h.om
    exact ⟨by omega, by omega, by omega⟩
  low := fun _ _ _ _ => trivial
  big := fun _ _ _ => trivial
  last := fun _ _ h => absurd trivial h
  lines := fun b a hr _ => by
    obtain ⟨h1, h2, rfl⟩ := hr
    show o ≤ linesF us us.length b ∧ linesF us us.length b ≤ m ∧ linesF ts ts.length (min (b - o) n) = min (linesF us us.length b - o) n
    rw [linesF_go, linesF_go]
    have := h.go (p := fun a => ((tk us a).k : Int) == 1) (q := fun a => ((tk ts a).k : Int) == 1) (fun i hi1 hi2 => by
      have := h.same (i - o) (by omega)
      rw [show o + (i - o) = i by omega] at this
      rw [this.1]) h.u.line0 h.t.line0 h1 h2
    exact ⟨this.1, this.2.1, this.2.2.2⟩
  ends := fun b a hr _ => by
    obtain ⟨h1, h2, rfl⟩ := hr
    show o ≤ endsF us us.length b ∧ endsF us us.length b ≤ m ∧ endsF ts ts.length (min (b - o) n) = min (endsF us us.length b - o) n
    rw [endsF_go, endsF_go]
    have := h.go (p := endA us) (q := endA ts) (fun i hi1 hi2 => by
      have := h.same (i - o) (by omega)
      rw [show o + (i - o) = i by omega] at this
      unfold endA
      rw [isS_of this.tkR, this.1]) h.u.end0 h.t.end0 h1 h2
    exact ⟨this.1, this.2.1, this.2.2.2⟩
  each := fun b a hr => by obtain ⟨h1, h2, rfl⟩ := hr; exact (⟨h.tkr h1 h2, fun _ => h.aheadB h1 h2 1, fun _ _ => h.aheadB h1 h2 2, fun _ _ _ => h.aheadB h1 h2 3⟩ : Ahd us ts b _).each
  reads := fun b a hr => by obtain ⟨h1, h2, rfl⟩ := hr; exact (⟨h.tkr h1 h2, fun _ => h.aheadB h1 h2 1, fun _ _ => h.aheadB h1 h2 2, fun _ _ _ => h.aheadB h1 h2 3⟩ : Ahd us ts b _).reads
  args := fun b a hr => by obtain ⟨h1, h2, rfl⟩ := hr; exact (⟨h.tkr h1 h2, fun _ => h.aheadB h1 h2 1, fun _ _ => h.aheadB h1 h2 2, fun _ _ _ => h.aheadB h1 h2 3⟩ : Ahd us ts b _).args
end
open Go.RowKit
def regL (src : List Nat) (a : Nat) : Except Int (TokF × Nat) := match quotN 47 (src.drop (a + 1)) with
  | none => .error 7
  | some n => .ok (⟨4, a, unreg ((src.drop (a + 1)).take n), 0⟩, n + 2)
theorem wo_appV {w0 w : World} {bs : List Bx} {rs : List Rw} {F : List Cold} {K : Act → World → Prop} {act : Act} {o : Oper} {Q : Exit → Act → World → Prop} {X : List Nat} {S : World → Prop} {v : Value} {l : List Nat} {n : Nat} (HO : Hid (Own w0 X S bs (⟨5, 1, v, n, bvs l⟩ :: rs) F w)) (hn : Hid (n = l.length)) {s x : Operand}
    (ho : o.op = .call { callee := .builtin .append, args := #[s, x], argTypes := #[22, 22] }) (hs : act.eval s = v) {r c : Nat} (hx : act.eval x = .slice (some ⟨r, 0, none⟩) 1 c) {u : Int} (HB : Hid (Blk w r 5 #[.int .u8 u])) (y : Nat) (hy : u = (y : Int)) (hm : n ≤ 1000000)
    (h : ∀ A' c' W, (l ++ [y]).length ≤ c' → Hid (Own w0 X S bs (⟨5, 1, .slice A' (l ++ [y]).length c', (l ++ [y]).length, bvs (l ++ [y])⟩ :: rs) F W) → K (act.put o.dst (.slice A' (l ++ [y]).length c')) W) : WOp Try.prog o act w K Q := by
  have e := hn.out
  subst e
  exact wo_appU HO ho hs hx HB y hy hm h
set_option maxRecDepth 100000 in
set_option maxHeartbeats 3200000 in
theorem regex_r {g : Nat} {src : List Nat} {a : Nat} {V : Value} (w : World) (m : RdrS w g src a V) (ha : a < src.length) : Calls Try.prog 23 #[.pointer (some ⟨g, 0, none⟩)] w (LexPost g src a V (regL src a) w) := by
  have HO := LS.own m
  have hg := m.lt
  have hlen := m.len
  have HB8 := Lib.hid m.byte
  obtain ⟨R, hR⟩ : ∃ R, regL src a = R := ⟨_, rfl⟩
  rw [hR]
  unfold regL at hR
  have HR := Lib.hid hR
  clear hR m
  go_enter Try.func23, Try.ntmps23
  (repeat' (first | (with_reducible first | refine oXt ?_ | refine oXb ?_) | ((with_reducible refine ib_miss ?_ ?_); exact rfl) | ((first | ((with_reducible refine to_load ?_); first | refine oL1 HO rfl rfl ?_ | refine oL2 HO rfl rfl ?_ | refine oL3 HO rfl rfl ?_ | (refine lo_loadA HO rfl rfl Try.isAgg3 ?_; (try simp only [Act.put, pS0, pS1, pS2]))) | ((first | with_reducible refine oAl HO ?_); clear HO; intro _ HO)); (try simp only [Act.put, pS0, pS1, pS2])) | ((first | ((with_reducible refine to_store ?_); first | refine oT1 HO rfl rfl rfl ?_ | refine oT2 HO rfl rfl rfl (by rfl) ?_ | refine oT3 HO rfl rfl rfl rfl ?_) | with_reducible refine ab_drew HO ?_); clear HO; intro _ HO) | ((with_reducible refine ab_junk HO 9 ?_); clear HO; intro _ HO HB) | ((with_reducible refine to_make ?_); refine wo_make HO rfl rfl rfl (by omega) ?_; clear HO; intro _ _ _ hcap HO; (try simp only [Act.put, pS0, pS1, pS2])) | ((go_big_may; first | (go_at_call 34; refine arm_quoted HO hg ha (.inr rfl) rfl rfl ?_ ?_; (clear HO; intro hQ b W HO); rotate_left; (clear HO; intro n A c W hQ hln hnc HO); rotate_left) | fail) <;> (try dsimp only)) | go_values | go_skip | go_guarded | go_step | go_upon | (go_ite <;> go_prune <;> (try go_simp))))
  · refine bp_cellT HO (t := 2) (s := 3) rfl rfl rfl (by repeat (first | exact mH | apply mT)) Try.isAgg63 Try.sizeOf63 (by rfl) rfl ?_
    have hR := HR.out
    rw [hQ] at hR
    subst hR
    exact ⟨⟨_, by rw [tokV_0]; rfl, HO.out.flt List.mem_cons_self⟩, Upd.of_kept HO.out.kept⟩
  · obtain ⟨T, hT⟩ : ∃ T, (src.drop (a + 1)).take n = T := ⟨_, rfl⟩
    have hTn : T.length = n := by rw [← hT]; simp; omega
    have hw : wellS false T = true := by rw [← hT]; exact quotS_well 47 _ false n hQ
    have hT8 : ∀ x ∈ T, x < 256 := by rw [← hT]; exact fun x hx => HB8.out x (List.mem_of_mem_drop (List.mem_of_mem_take hx))
    have hR := HR.out
    rw [hQ] at hR
    simp only at hR
    rw [hT] at HO hR
    have HR := Lib.hid hR
    have HTN := Lib.hid hTn
    have HU := Lib.hid (RegI.start hw)
    have HT8 := Lib.hid hT8
    clear hR hTn hw hT8 hT hQ
    go_loopw [7, 8] (fun ov iv W => ∃ (k : Nat) (out : List Nat) (A' : Option Addr) (c' : Nat), ov = .slice A' out.length c' ∧ iv = .int .i64 (k : Int) ∧ out.length ≤ c' ∧ k ≤ n ∧ Hid (RegI T (unreg T) k out) ∧ Hid (Own w [g] (LS g src (a + n + 2) V A T) [⟨w.heap.size, 63, [.int .i64 0, .int .i64 0, .string { data := #[] }, .bool false, .int .u64 0, .int .u64 0]⟩] [⟨5, 1, .slice A' out.length c', out.length, bvs out⟩] [] W)) (fun _ iv _ => n - (intOf iv).toNat)
    case atStart => exact ⟨0, [], _, _, rfl, rfl, hcap, Nat.zero_le _, HU, HO⟩
    case round =>
      clear HO HU hcap
      obtain ⟨k, out, A', c', rfl, rfl, hcap, hkn, HU, HO⟩ := hrel
      have hol : out.length ≤ 1000000 := by have := HU.out.2.2.2; omega
      by_cases hk : k < n
      · have hd : decide ((k : Int) < (n : Int)) = true := decide_eq_true (by omega)
        have hkT : k < T.length := by rw [HTN.out]; exact hk
        have hk6 : k ≤ 1000000 := by omega
        obtain ⟨ad, rfl, _, hcell⟩ := HO.out.st.b.2 (Nat.lt_of_le_of_lt (Nat.zero_le k) hkT)
        have k2 := hcell k hkT
        have HCELL := Lib.hid hcell
        clear hcell
        obtain ⟨sb, qo, sp, hq⟩ : ∃ sb qo sp, ad.add k = (⟨sb, qo, sp⟩ : Addr) := ⟨_, _, _, rfl⟩
        rw [hq] at k2
        obtain ⟨x, hxe⟩ : ∃ x, x = T[k] := ⟨_, rfl⟩
        rw [← hxe] at k2
        by_cases hx : x = 92
        · subst hx
          have hjT := HU.out.next hkT hxe.symm
          have hk1n : k + 1 < n := HTN.out ▸ hjT
          have k3 := HCELL.out (k + 1) hjT
          obtain ⟨sb2, qo2, sp2, hq2⟩ : ∃ sb qo sp, ad.add (k + 1) = (⟨sb, qo, sp⟩ : Addr) := ⟨_, _, _, rfl⟩
          rw [hq2] at k3
          obtain ⟨y, hye⟩ : ∃ y, y = T[k + 1] := ⟨_, rfl⟩
          have hy8 : y < 256 := by rw [hye]; exact HT8.out _ (List.getElem_mem hjT)
          rw [← hye] at k3
          have hd2 : decide ((k : Int) + 1 < (n : Int)) = true := decide_eq_true (by omega)
          by_cases hy : y = 47
          · have n47 : ((y : Int) != 47) = false := by rw [hy]; rfl
            have HU2 := Lib.hid (HU.out.slash hjT hxe.symm (hye.symm.trans hy))
            rw [← hye] at HU2
            clear hye hxe hd hy
            (repeat' (first | (with_reducible first | refine oXt ?_ | refine oXb ?_) | ((with_reducible refine ib_miss ?_ ?_); exact rfl) | ((first | ((with_reducible refine to_load ?_); first | refine oL1 HO rfl rfl ?_ | refine oL2 HO rfl rfl ?_ | refine oL3 HO rfl rfl ?_) | ((first | with_reducible refine oAl HO ?_); clear HO; intro _ HO)); (try simp only [Act.put, pS0, pS1, pS2])) | ((first | ((with_reducible refine to_store ?_); first | refine oT1 HO rfl rfl rfl ?_ | refine oT2 HO rfl rfl rfl (by rfl) ?_ | refine oT3 HO rfl rfl rfl rfl ?_) | with_reducible refine ab_drew HO ?_); clear HO; intro _ HO) | ((with_reducible refine ab_junk HO 9 ?_); clear HO; intro _ HO HB) | ((with_reducible refine to_append ?_); refine wo_appU HO rfl rfl rfl HB (y) (by first | rfl | (simp; done) | omega) (by first | omega | (simp; omega)) ?_; clear HO HB; intro _ _ _ hcap HO; (try simp only [Act.put, pS0, pS1, pS2])) | ((with_reducible refine ab_junk HO 5 ?_); clear HO; intro _ HO HB) | go_values | go_skip | go_guarded | go_step | go_upon | (go_ite <;> go_prune <;> (try go_simp))))
            go_roundw
            case rel => exact ⟨k + 2, _, _, _, rfl, by first | rfl | (congr 1; omega), hcap, hk1n, HU2, HO⟩
            case measure => exact meas2 (k' := k + 2) (by first | rfl | omega) (by omega) hk
          · have n47 : ((y : Int) != 47) = true := by rw [bne_iff_ne]; exact fun e => hy (by exact_mod_cast e)
            have HU2 := Lib.hid (HU.out.other hjT hxe.symm (fun e => hy (hye.trans e)))
            rw [← hye] at HU2
            have HYE := Lib.hid hye
            have HQ2 := Lib.hid hq2
            clear hye hxe hd hy
            (repeat' (go_not_at_region 13; first | (with_reducible first | refine oXt ?_ | refine oXb ?_) | ((with_reducible refine ib_miss ?_ ?_); exact rfl) | ((first | ((with_reducible refine to_load ?_); first | refine oL1 HO rfl rfl ?_ | refine oL2 HO rfl rfl ?_ | refine oL3 HO rfl rfl ?_) | ((first | with_reducible refine oAl HO ?_); clear HO; intro _ HO)); (try simp only [Act.put, pS0, pS1, pS2])) | ((first | ((with_reducible refine to_store ?_); first | refine oT1 HO rfl rfl rfl ?_ | refine oT2 HO rfl rfl rfl (by rfl) ?_ | refine oT3 HO rfl rfl rfl rfl ?_) | with_reducible refine ab_drew HO ?_); clear HO; intro _ HO) | ((with_reducible refine ab_junk HO 9 ?_); clear HO; intro _ HO HB) | ((with_reducible refine to_append ?_); refine wo_appU HO rfl rfl rfl HB (92) (by first | rfl | (simp; done) | omega) (by first | omega | (simp; omega)) ?_; clear HO HB; intro _ _ _ hcap HO; (try simp only [Act.put, pS0, pS1, pS2])) | ((with_reducible refine ab_junk HO 5 ?_); clear HO; intro _ HO HB) | go_values | go_skip | go_guarded | go_step | go_upon | (go_ite <;> go_prune <;> (try go_simp))))
            obtain ⟨m, hm⟩ : ∃ m, m = out.length + 1 := ⟨_, rfl⟩
            have hml : (out ++ [92]).length = m := by rw [hm]; simp
            rw [hml] at HO ⊢
            have HML := Lib.hid hml.symm
            have hm6 : m ≤ 1000000 := by have := HU.out.2.2.2; omega
            clear hm hml
            clear k2 k3
            obtain ⟨ad', e', _, hcell2⟩ := HO.out.st.b.2 (Nat.lt_of_le_of_lt (Nat.zero_le k) hkT)
            obtain rfl : ad = ad' := Option.some.inj e'
            have k4 := hcell2 (k + 1) hjT
            rw [HQ2.out, ← HYE.out] at k4
            clear hcell2 e'
            (repeat' (first | (with_reducible first | refine oXt ?_ | refine oXb ?_) | ((with_reducible refine ib_miss ?_ ?_); exact rfl) | ((first | ((with_reducible refine to_load ?_); first | refine oL1 HO rfl rfl ?_ | refine oL2 HO rfl rfl ?_ | refine oL3 HO rfl rfl ?_) | ((first | with_reducible refine oAl HO ?_); clear HO; intro _ HO)); (try simp only [Act.put, pS0, pS1, pS2])) | ((first | ((with_reducible refine to_store ?_); first | refine oT1 HO rfl rfl rfl ?_ | refine oT2 HO rfl rfl rfl (by rfl) ?_ | refine oT3 HO rfl rfl rfl rfl ?_) | with_reducible refine ab_drew HO ?_); clear HO; intro _ HO) | ((with_reducible refine ab_junk HO 9 ?_); clear HO; intro _ HO HB) | ((with_reducible refine to_append ?_); refine wo_appV HO HML rfl rfl rfl HB (y) (by first | rfl | (simp; done) | omega) (by first | omega | (simp; omega)) ?_; clear HO HB; intro _ _ _ hcap HO; (try simp only [Act.put, pS0, pS1, pS2])) | ((with_reducible refine ab_junk HO 5 ?_); clear HO; intro _ HO HB) | go_values | go_skip | go_guarded | go_step | go_upon | (go_ite <;> go_prune <;> (try go_simp))))
            go_roundw
            case rel => exact ⟨k + 2, _, _, _, rfl, by first | rfl | (congr 1; omega), hcap, hk1n, HU2, HO⟩
            case measure => exact meas2 (k' := k + 2) (by first | rfl | omega) (by omega) hk
        · have HU2 := Lib.hid (HU.out.plain hkT (fun e => hx (hxe.trans e)))
          rw [← hxe] at HU2
          have n92 : ((x : Int) == 92) = false := by rw [beq_eq_false_iff_ne]; exact fun e => hx (by exact_mod_cast e)
          clear hxe HU hx
          (repeat' (first | (with_reducible first | refine oXt ?_ | refine oXb ?_) | ((with_reducible refine ib_miss ?_ ?_); exact rfl) | ((first | ((with_reducible refine to_load ?_); first | refine oL1 HO rfl rfl ?_ | refine oL2 HO rfl rfl ?_ | refine oL3 HO rfl rfl ?_) | ((first | with_reducible refine oAl HO ?_); clear HO; intro _ HO)); (try simp only [Act.put, pS0, pS1, pS2])) | ((first | ((with_reducible refine to_store ?_); first | refine oT1 HO rfl rfl rfl ?_ | refine oT2 HO rfl rfl rfl (by rfl) ?_ | refine oT3 HO rfl rfl rfl rfl ?_) | with_reducible refine ab_drew HO ?_); clear HO; intro _ HO) | ((with_reducible refine ab_junk HO 9 ?_); clear HO; intro _ HO HB) | ((with_reducible refine to_append ?_); refine wo_appU HO rfl rfl rfl HB (x) (by first | rfl | (simp; done) | omega) (by first | omega | (simp; omega)) ?_; clear HO HB; intro _ _ _ hcap HO; (try simp only [Act.put, pS0, pS1, pS2])) | ((with_reducible refine ab_junk HO 5 ?_); clear HO; intro _ HO HB) | go_values | go_skip | go_guarded | go_step | go_upon | (go_ite <;> go_prune <;> (try go_simp))))
          go_roundw
          case rel => exact ⟨k + 1, _, _, _, rfl, by first | rfl | (rw [w1_nat hk6]; rfl), hcap, hk, HU2, HO⟩
          case measure => exact meas2 (by first | rfl | (rw [w1_nat hk6]; rfl)) (Nat.lt_succ_self k) hk
      · have hd : decide ((k : Int) < (n : Int)) = false := decide_eq_false (by omega)
        have hout := HU.out.done (by rw [HTN.out]; omega)
        obtain ⟨A9, c9, e9, hc9, HO9⟩ := HO.out.freezeG (fun h => by rw [List.length_eq_zero_iff.1 h]; rfl)
        dsimp only at e9 hc9
        injection e9 with e91 _ e92
        subst e91 e92
        subst hout
        have hstr := str_rowAt (B := wr.heap.size) (c := c') (HO9.cold _ List.mem_cons_self) (fun x hx => HT8.out x (unreg_sub _ T (Nat.le_refl _) x hx)) (fun b hb => hb.2.1)
        have hfin : R = .ok (⟨4, a, unreg T, 0⟩, n + 2) := by rw [← HR.out]
        generalize unreg T = U at hstr hfin
        have HFIN := Lib.hid hfin
        clear HO HU hol hc9 hcap HR hfin
        have HO := Lib.hid HO9
        clear HO9
        (repeat' (first | (with_reducible first | refine oXt ?_ | refine oXb ?_) | ((with_reducible refine ib_miss ?_ ?_); exact rfl) | ((first | ((with_reducible refine to_load ?_); first | refine oL1 HO rfl rfl ?_ | refine oL2 HO rfl rfl ?_ | refine oL3 HO rfl rfl ?_) | ((first | with_reducible refine oAl HO ?_); clear HO; intro _ HO)); (try simp only [Act.put, pS0, pS1, pS2])) | ((first | ((with_reducible refine to_store ?_); first | refine oT1 HO rfl rfl rfl ?_ | refine oT2 HO rfl rfl rfl (by rfl) ?_ | refine oT3 HO rfl rfl rfl rfl ?_) | with_reducible refine ab_drew HO ?_); clear HO; intro _ HO) | ((with_reducible refine ab_junk HO 9 ?_); clear HO; intro _ HO HB) | go_values | go_skip | go_guarded | go_step | go_upon | (go_ite <;> go_prune <;> (try go_simp))))
        refine bp_cellT HO (t := 2) (s := 3) rfl rfl rfl (by repeat (first | exact mH | apply mT)) Try.isAgg63 Try.sizeOf63 (by rfl) rfl ?_
        rw [HFIN.out]
        exact ⟨by rw [tokV_0]; rfl, HO.out.st.r, Upd.of_kept HO.out.kept⟩
end Go.Proofs.Ytdiibenofbcfnaa
