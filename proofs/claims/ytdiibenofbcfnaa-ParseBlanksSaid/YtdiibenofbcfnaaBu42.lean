/- Several texts put together: SimK, JoiC, JoiB. -/
import Derived.Test.YtdiibenofbcfnaaBu41
import Derived.Lib.SlBytesConst
set_option linter.unusedSimpArgs false
set_option linter.unusedVariables false
namespace Go.Proofs.Ytdiibenofbcfnaa
open Go.RowKit
theorem mvd_parse {ts us : List TokF} {n m : Nat} (h : Mvd ts us n m 0) {T : TreeT} {b d : Nat} (p1 : parseT ts = .ok T b d) : ∃ U b d, parseT us = .ok U b d ∧ TR nilT T U := by
  rw [parseT_eq] at p1
  have he := h.ends (Nat.zero_le n)
  rw [Nat.add_zero, Nat.zero_add] at he
  obtain ⟨V, hV, hi⟩ := joinB h (psim_par h.lg 65) (padv_par ts 65) (padv_par us 65) (X := nilT) ts.length nilT _ 0 T b d he.1 (by rw [h.t.len]; omega) p1 nilT us.length ⟨rfl, rfl⟩ (by omega)
  refine ⟨V, 0 + b, d, ?_, hV⟩
  rw [parseT_eq, he.2]
  rw [Nat.zero_add] at hi
  exact hi
theorem joinC {us ts : List TokF} {m n o : Nat} (h : Bck us ts m n o) {p q : Par} (hp : PSim (CxB us ts m n o) p q) (hA : PAdv p) (hB : PAdv q) : ∀ (f : Nat) (t : TreeT) (b a d : Nat) (T : TreeT) (b' d' : Nat), (CxB us ts m n o).rel b a → m + 1 ≤ f + b → iter (goP us) (itemF us p) f t b d = .ok T b' d' → ∀ (u : TreeT) (f' : Nat), TR nilT t u → ∃ U a' e', iter (goP ts) (itemF ts q) f' u a d = .ok U a' e'
  | 0, t, b, a, d, T, b', d', hr, hf, hi, u, f', hu => by
    have := hr.2.1
    omega
  | f + 1, t, b, a, d, T, b', d', hr, hf, hi, u, f', hu => by
    have hr0 := hr
    obtain ⟨h1, h2, h3⟩ := hr0
    rcases Nat.lt_or_ge a n with hl | hl
    · cases f' with
      | zero => exact ⟨u, a, d, rfl⟩
      | succ f' =>
        have ha : o + a = b := by omega
        have hs := h.same a hl
        rw [ha] at hs
        have hk := h.t.more a hl
        rw [iterP_step (goP_ne (by rw [hs.1]; exact hk))] at hi
        obtain ⟨t1, b1, d1, h1', h2'⟩ := bind_inv hi
        obtain ⟨b2, rfl, hir⟩ := item_inv h1'
        obtain ⟨a2, u1, hr2, hlt, _, hir2, htr⟩ := item_sim h.lg hp hA hB (C := CxB us ts m n o) hr hu hir
        replace hir2 : ItemR ts q u a d a2 u1 d1 := hir2
        rw [iterP_step (goP_ne hk), bind_step (item_of hir2)]
        have hr3 := h.lg.ends b2 a2 hr2 trivial
        replace hr3 : (CxB us ts m n o).rel (endsF us us.length b2) (endsF ts ts.length a2) := hr3
        have hle := (goF_spec (endA us) us.length b2).1
        rw [← endsF_go] at hle
        exact joinC h hp hA hB f t1 _ _ d1 T b' d' hr3 (by omega) h2' u1 f' htr
    · have : a = n := by omega
      subst this
      exact ⟨u, a, d, iterP_stop (goP_zero h.t.last.1)⟩
theorem back_parse {us ts : List TokF} {m n o : Nat} (h : Bck us ts m n o) (hlow : ∀ i, i < o → (tk us i).k = 1) {U : TreeT} {b d : Nat} (p1 : parseT us = .ok U b d) : ∃ T b d, parseT ts = .ok T b d := by
  rw [parseT_eq] at p1
  have hom := h.om
  have hE : endsF us us.length 0 = endsF us us.length o := by
    rw [endsF_go, endsF_go]
    obtain ⟨g1, g2, g3, g4⟩ := goF_spec (endA us) us.length o
    have hs := goF_stop (p := endA us) (f := us.length) (a := o) h.u.end0 (by omega) (by rw [h.u.len]; omega)
    refine goF_of _ _ _ (by omega) (fun i hi1 hi2 => ?_) hs.2 (by have := hs.1; have := h.u.len; omega)
    rcases Nat.lt_or_ge i o with e | e
    · unfold endA; rw [hlow i e]; rfl
    · exact g3 i e hi2
  rw [hE] at p1
  have hr : (CxB us ts m n o).rel o 0 := ⟨Nat.le_refl _, by omega, by omega⟩
  have hr2 := h.lg.ends o 0 hr trivial
  replace hr2 : (CxB us ts m n o).rel (endsF us us.length o) (endsF ts ts.length 0) := hr2
  obtain ⟨T, a', e', hi⟩ := joinC h (psim_par h.lg 65) (padv_par us 65) (padv_par ts 65) us.length nilT _ _ 0 U b d hr2 (by rw [h.u.len]; omega) p1 nilT ts.length ⟨rfl, rfl⟩
  exact ⟨T, a', e', by rw [parseT_eq]; exact hi⟩
theorem tail_ok {l : List Nat} (hb : ∀ x ∈ l, x < 256) (hlen : l.length + 4 ≤ 16384) {T : TreeT} (h : treeS l = .ok T) : ∃ U, treeS (l ++ tailW) = .ok U ∧ TR nilT T U := by
  unfold treeS at h
  cases l1 : lexS l with
  | error e => rw [l1] at h; cases h
  | ok ts =>
    rw [l1] at h
    dsimp only at h
    obtain ⟨vs, e, rfl, he0, he1, he2, _, hvs⟩ := lexS_ok hb l1
    have q1 : allF l.length 0 l [] = .ok (vs ++ [e]) := by unfold lexS at l1; rwa [if_neg (by omega)] at l1
    obtain ⟨A, hA, hext⟩ := allF_tail l.length 0 l [] _ (l ++ tailW).length hb (Nat.le_refl _) (by simp [tailW]) q1
    have hA' : vs = A ∧ e = ⟨0, 0 + l.length, [], 0⟩ := by
      have := List.append_inj' hA (by simp)
      exact ⟨by simpa using this.1, by simpa using this.2⟩
    obtain ⟨rfl, rfl⟩ := hA'
    have l3 : lexS (l ++ tailW) = .ok (vs ++ [⟨0, 0 + l.length + 4, [], 0⟩]) := by
      unfold lexS
      rw [if_neg (by simp [tailW]; omega), hext]
      simp
    have hM : Mvd (vs ++ [⟨0, 0 + l.length, [], 0⟩]) (vs ++ [⟨0, 0 + l.length + 4, [], 0⟩]) vs.length vs.length 0 := by
      refine ⟨TsE.of ⟨rfl, rfl, rfl⟩ (fun t ht => (hvs t ht).k0), TsE.of ⟨rfl, rfl, rfl⟩ (fun t ht => (hvs t ht).k0), by omega, fun i hi => ?_⟩
      rw [show 0 + i = i from Nat.zero_add i]
      rcases Nat.eq_or_lt_of_le hi with e | e
      · subst e
        have h1 := tk_right (A := vs) (B := [(⟨0, 0 + l.length, [], 0⟩ : TokF)]) 0
        have h2 := tk_right (A := vs) (B := [(⟨0, 0 + l.length + 4, [], 0⟩ : TokF)]) 0
        rw [show vs.length + 0 = vs.length from rfl] at h1 h2
        rw [h1, h2]
        exact ⟨rfl, rfl, rfl⟩
      · rw [tk_left e, tk_left e]; exact ⟨rfl, rfl, rfl⟩
    cases p1 : parseT (vs ++ [⟨0, 0 + l.length, [], 0⟩]) with
    | err p k => rw [p1] at h; cases h
    | ok t1 b1 d1 =>
      rw [p1] at h
      injection h with h
      subst h
      obtain ⟨U, bb, dd, hp, htr⟩ := mvd_parse hM p1
      refine ⟨U, ?_, htr⟩
      unfold treeS
      rw [l3]
      dsimp only
      rw [hp]
def preA : List Nat := [35, 32, 97, 32, 99, 111, 109, 109, 101, 110, 116]
def preB : List Nat := [32, 9]
def blankL (l : List Nat) : List Nat := preA ++ 10 :: (preB ++ 10 :: ((l ++ tailW) ++ 10 :: ([] ++ 10 :: [])))
set_option maxRecDepth 100000 in
theorem tree_pre : treeS preA = .ok nilT ∧ treeS preB = .ok nilT ∧ treeS [] = .ok nilT := ⟨by rfl, by rfl, by rfl⟩
theorem blank_ok {l : List Nat} (hb : ∀ x ∈ l, x < 256) (hlen : l.length ≤ 400) {T : TreeT} (h : treeS l = .ok T) : ∃ U, treeS (blankL l) = .ok U ∧ U.funcs.map erF = T.funcs.map erF ∧ U.rules.map erR = T.rules.map erR := by
  obtain ⟨hA, hB, hN⟩ := tree_pre
  have hw : ∀ x ∈ l ++ tailW, x < 256 := fun x hx => by
    rcases List.mem_append.1 hx with h | h
    · exact hb x h
    · simp [tailW] at h; omega
  have hlw : (l ++ tailW).length = l.length + 4 := by simp [tailW]
  obtain ⟨U1, t1, r1⟩ := tail_ok hb (by omega) h
  obtain ⟨U0, t0, r0⟩ := joinsS (a := []) (b := []) (by simp) (by simp) (by simp) (by simp) hN hN
  obtain ⟨U2, t2, r2⟩ := joinsS (a := l ++ tailW) (b := [] ++ 10 :: []) hw (by simp) (by simp [tailW]) (by simp [tailW]; omega) t1 t0
  obtain ⟨U3, t3, r3⟩ := joinsS (a := preB) (b := (l ++ tailW) ++ 10 :: ([] ++ 10 :: [])) (by decide) (fun x hx => by
    rcases List.mem_append.1 hx with h | h
    · exact hw x h
    · simp at h; omega) (by decide) (by simp [tailW, preB]; omega) hB t2
  obtain ⟨U4, t4, r4⟩ := joinsS (a := preA) (b := preB ++ 10 :: ((l ++ tailW) ++ 10 :: ([] ++ 10 :: []))) (by decide) (fun x hx => by
    rcases List.mem_append.1 hx with h | h
    · simp [preB] at h; omega
    · rcases List.mem_cons.1 h with h | h
      · omega
      · rcases List.mem_append.1 h with h | h
        · exact hw x h
        · simp at h; omega) (by decide) (by simp [tailW, preB, preA]; omega) hA t3
  refine ⟨U4, t4, ?_, ?_⟩
  · rw [r4.f, r3.f, r2.f, r1.f, r0.f]; simp [nilT]
  · rw [r4.r, r3.r, r2.r, r1.r, r0.r]; simp [nilT]
theorem blank_bad {l : List Nat} (hb : ∀ x ∈ l, x < 256) (hlen : l.length ≤ 400) {U : TreeT} (h : treeS (blankL l) = .ok U) : ∃ T, treeS l = .ok T := by
  unfold treeS at h
  cases l3 : lexS (blankL l) with
  | error e => rw [l3] at h; cases h
  | ok us =>
  rw [l3] at h
  dsimp only at h
  have hw : ∀ x ∈ l ++ tailW, x < 256 := fun x hx => by
    rcases List.mem_append.1 hx with h | h
    · exact hb x h
    · simp [tailW] at h; omega
  have hBl : (blankL l).length = l.length + 21 := by simp [blankL, tailW, preA, preB]
  have q3 : allF (blankL l).length 0 (blankL l) [] = .ok us := by unfold lexS at l3; rwa [if_neg (by omega)] at l3
  obtain ⟨A1, g1, hA1, hg1, e1⟩ := allF_ext (preB ++ 10 :: ((l ++ tailW) ++ 10 :: ([] ++ 10 :: []))) preA.length 0 preA [] [⟨0, 11, [], 0⟩] (blankL l).length (by decide) (by decide) (Nat.le_refl _) (Nat.le_refl _) (by rfl)
  obtain rfl : A1 = [] := by
    have := congrArg List.length hA1
    simp at this
    exact this
  rw [show preA ++ 10 :: (preB ++ 10 :: ((l ++ tailW) ++ 10 :: ([] ++ 10 :: []))) = blankL l from rfl, q3] at e1
  obtain ⟨A2, g2, hA2, hg2, e2⟩ := allF_ext ((l ++ tailW) ++ 10 :: ([] ++ 10 :: [])) preB.length (0 + preA.length + 1) preB ([] ++ [] ++ [⟨1, 0 + preA.length, [], 0⟩]) [⟨1, 11, [], 0⟩, ⟨0, 14, [], 0⟩] g1 (by decide) (by decide) (Nat.le_refl _) hg1 (by rfl)
  obtain rfl : A2 = [] := by
    have := congrArg List.length hA2
    simp at this
    exact this
  rw [e2] at e1
  have hop : operandL (([] ++ [] ++ [(⟨1, 0 + preA.length, [], 0⟩ : TokF)]) ++ [] ++ [(⟨1, 0 + preA.length + 1 + preB.length, [], 0⟩ : TokF)]).getLast? = operandL ([] : List TokF).getLast? := by decide
  generalize hts : (([] ++ [] ++ [(⟨1, 0 + preA.length, [], 0⟩ : TokF)]) ++ [] ++ [(⟨1, 0 + preA.length + 1 + preB.length, [], 0⟩ : TokF)]) = us0 at e1 hop
  have hus0 : us0.length = 2 ∧ ∀ i, i < 2 → (tk us0 i).k = 1 := by
    subst hts
    refine ⟨rfl, fun i hi => ?_⟩
    rcases (by omega : i = 0 ∨ i = 1) with rfl | rfl <;> rfl
  generalize 0 + preA.length + 1 + preB.length + 1 = pl at e1
  have hgl : l.length ≤ g2 := by simp [tailW] at hg2; omega
  cases q1 : allF l.length 0 l [] with
  | error x =>
    exfalso
    cases q2 : allF l.length pl l us0 with
    | ok vs =>
      obtain ⟨Y, Y', _, hsh, _⟩ := allF_shift l.length pl l us0 vs l.length 0 [] hop (Nat.le_refl _) (Nat.le_refl _) hb q2
      rw [q1] at hsh
      cases hsh
    | error y =>
      have := allF_bad (tl_line ([] ++ 10 :: [])) l.length pl l us0 y g2 hb (Nat.le_refl _) hgl q2
      rw [← List.append_assoc, ← e1] at this
      cases this
  | ok ts =>
    have l1 : lexS l = .ok ts := by unfold lexS; rw [if_neg (by omega)]; exact q1
    obtain ⟨vs, e, rfl, he0, he1, he2, _, hvs⟩ := lexS_ok hb l1
    obtain ⟨A, hA, hext⟩ := allF_tail l.length 0 l [] _ (l ++ tailW).length hb (Nat.le_refl _) (by simp [tailW]) q1
    have hA' : vs = A ∧ e = ⟨0, 0 + l.length, [], 0⟩ := by
      have := List.append_inj' hA (by simp)
      exact ⟨by simpa using this.1, by simpa using this.2⟩
    obtain ⟨rfl, rfl⟩ := hA'
    obtain ⟨Y, Y', hY, hsh, hal⟩ := allF_shift (l ++ tailW).length 0 (l ++ tailW) [] _ (l ++ tailW).length pl us0 hop.symm (Nat.le_refl _) (Nat.le_refl _) hw hext
    obtain ⟨A3, g3, hA3, hg3, e3⟩ := allF_ext ([] ++ 10 :: []) (l ++ tailW).length pl (l ++ tailW) us0 _ g2 hw (by simp [tailW]) (Nat.le_refl _) hg2 hsh
    rw [e3] at e1
    obtain ⟨A4, g4, hA4, hg4, e4⟩ := allF_ext [] 0 (pl + (l ++ tailW).length + 1) [] (us0 ++ A3 ++ [⟨1, pl + (l ++ tailW).length, [], 0⟩]) _ g3 (by simp) (by simp) (Nat.le_refl _) hg3 rfl
    rw [e4] at e1
    have hA4' : A4 = [] := by
      have := congrArg List.length hA4
      simp at this
      exact this
    subst hA4'
    have e5 : allF g4 (pl + (l ++ tailW).length + 1 + ([] : List Nat).length + 1) [] (us0 ++ A3 ++ [⟨1, pl + (l ++ tailW).length, [], 0⟩] ++ [] ++ [⟨1, pl + (l ++ tailW).length + 1 + ([] : List Nat).length, [], 0⟩]) = .ok (us0 ++ A3 ++ [⟨1, pl + (l ++ tailW).length, [], 0⟩] ++ [] ++ [⟨1, pl + (l ++ tailW).length + 1 + ([] : List Nat).length, [], 0⟩] ++ [⟨0, pl + (l ++ tailW).length + 1 + ([] : List Nat).length + 1, [], 0⟩]) := by
      cases g4 with
      | zero => rw [allF]
      | succ g => rw [allF]; rfl
    rw [e5] at e1
    injection e1 with e1
    have hYe : Y = vs ++ [⟨0, 0 + l.length + 4, [], 0⟩] := by simpa using hY.symm
    have hY' : Y' = A3 ++ [⟨0, pl + (l ++ tailW).length, [], 0⟩] := by
      have : us0 ++ Y' = us0 ++ (A3 ++ [⟨0, pl + (l ++ tailW).length, [], 0⟩]) := by rw [hA3, List.append_assoc]
      exact List.append_cancel_left this
    have hlA : A3.length = vs.length := by
      have := forall₂_len hal
      rw [hYe, hY'] at this
      simp at this
      omega
    have hget := forall₂_get hal
    have hsame : ∀ i, i < vs.length → Alk (tk A3 i) (tk vs i) := fun i hi => by
      have := hget i
      rw [hYe, hY', tk_left hi, tk_left (by omega)] at this
      exact ⟨this.1.symm, this.2.1.symm, this.2.2.symm⟩
    have eus : us = us0 ++ (A3 ++ ([⟨1, pl + (l ++ tailW).length, [], 0⟩, ⟨1, pl + (l ++ tailW).length + 1 + ([] : List Nat).length, [], 0⟩] ++ [⟨0, pl + (l ++ tailW).length + 1 + ([] : List Nat).length + 1, [], 0⟩])) := by
      rw [e1]; simp
    have htk : ∀ i, tk us (2 + i) = tk (A3 ++ ([⟨1, pl + (l ++ tailW).length, [], 0⟩, ⟨1, pl + (l ++ tailW).length + 1 + ([] : List Nat).length, [], 0⟩] ++ [⟨0, pl + (l ++ tailW).length + 1 + ([] : List Nat).length + 1, [], 0⟩])) i := fun i => by
      have := tk_right (A := us0) (B := A3 ++ ([⟨1, pl + (l ++ tailW).length, [], 0⟩, ⟨1, pl + (l ++ tailW).length + 1 + ([] : List Nat).length, [], 0⟩] ++ [⟨0, pl + (l ++ tailW).length + 1 + ([] : List Nat).length + 1, [], 0⟩])) i
      rw [hus0.1] at this
      rw [eus, this]
    have htail : ∀ j, j ≤ 2 → (tk us (2 + (vs.length + j))).k = (if j < 2 then 1 else 0) ∧ (tk us (2 + (vs.length + j))).s = [] ∧ (tk us (2 + (vs.length + j))).z = 0 := fun j hj => by
      rw [htk, ← hlA, tk_right]
      rcases (by omega : j = 0 ∨ j = 1 ∨ j = 2) with rfl | rfl | rfl <;> exact ⟨rfl, rfl, rfl⟩
    have hul : us.length = vs.length + 4 + 1 := by rw [eus]; simp [hus0.1, hlA]; omega
    have hU : TsE us (vs.length + 4) := by
      refine ⟨hul, ?_, fun i hi => ?_⟩
      · have := htail 2 (Nat.le_refl _)
        rw [show 2 + (vs.length + 2) = vs.length + 4 by omega] at this
        exact this
      · rcases Nat.lt_or_ge i 2 with h1 | h1
        · rw [eus, tk_left (by rw [hus0.1]; exact h1), hus0.2 i h1]; decide
        · rcases Nat.lt_or_ge (i - 2) vs.length with h2 | h2
          · have := htk (i - 2)
            rw [show 2 + (i - 2) = i by omega] at this
            rw [this, tk_left (by omega), (hsame _ h2).1]
            exact (hvs _ (tk_mem h2)).k0
          · have := htail (i - 2 - vs.length) (by omega)
            rw [show 2 + (vs.length + (i - 2 - vs.length)) = i by omega, if_pos (by omega)] at this
            rw [this.1]; decide
    have hB : Bck us (vs ++ [⟨0, 0 + l.length, [], 0⟩]) (vs.length + 4) vs.length 2 := by
      refine ⟨hU, TsE.of ⟨rfl, rfl, rfl⟩ (fun t ht => (hvs t ht).k0), by omega, fun i hi => ?_, fun i h1 h2 => ?_⟩
      · rw [htk, tk_left (by omega), tk_left hi]; exact hsame i hi
      · have := htail (i - 2 - vs.length) (by omega)
        rw [show 2 + (vs.length + (i - 2 - vs.length)) = i by omega] at this
        refine ⟨?_, this.2⟩
        rw [this.1]
        split <;> omega
    cases p1 : parseT us with
    | err p k => rw [p1] at h; cases h
    | ok t1 b1 d1 =>
      obtain ⟨T, b, d, hp⟩ := back_parse hB (fun i hi => by rw [eus, tk_left (by rw [hus0.1]; exact hi)]; exact hus0.2 i hi) p1
      refine ⟨T, ?_⟩
      unfold treeS
      rw [l1]
      dsimp only
      rw [hp]
open Go.RowKit
section
variable {o : Oper} {act : Act} {w0 w : World} {X : List Nat} {S : World → Prop} {bs : List Bx} {rs : List Rw} {F : List Cold} {KK : Act → World → Prop} {Q : Exit → Act → World → Prop}
theorem wo_appK {v : Value} {e : TypeId} {sz n' m : Nat} {xs ys : List Value} (HO : Hid (Own w0 X S bs (⟨e, sz, v, n', xs⟩ :: rs) F w)) {s x : Operand} {T' : TypeId}
    (ho : o.op = .call { callee := .builtin .append, args := #[s, x], argTypes := #[T', T'] }) (hs : act.eval s = v) {A : Option Addr} {c : Nat} (hx : act.eval x = .slice A m c) (hrd : Reads w w.heap.size sz A m ys)
    (ht : Try.prog.underlying T' = some (.slice e)) {z : Value} {bytes : Nat} (hinfo : (Try.prog.info? e).map (fun i => (i.zero, i.size, i.bytes)) = some (some z, sz, bytes)) (hzs : z.cells.size = sz) (hsz : 0 < sz) (h1 : ∀ u ∈ ys, u.oneCell' = true) (hm : n' + m ≤ 1000000) (hby : bytes ≤ 1000)
    (h : ∀ A' c' W, n' + m ≤ c' → Hid (Own w0 X S bs (⟨e, sz, .slice A' (n' + m) c', n' + m, xs ++ ys⟩ :: rs) F W) → KK (act.put o.dst (.slice A' (n' + m) c')) W) : WOp Try.prog o act w KK Q := by
  obtain ⟨i0, hi, hz0, hz1, hz2⟩ := info_parts hinfo
  have hrow := HO.out.row _ List.mem_cons_self
  have hb2 : (n' + m) * bytes ≤ 140737488355328 := by
    have : (n' + m) * bytes ≤ 1000000 * 1000 := Nat.mul_le_mul hm hby
    omega
  unfold WOp
  refine wp_append_any w s x T' ho w0.heap.size e i0 z sz bytes ht hi hz0 hz1 hz2 hzs hsz v n' xs hs hrow w.heap.size A m c ys hx hrd h1 (by unfold maxLen; omega) hb2 HO.out.kept.size (fun v' w' g1 g2 g3 => ?_)
  have hO2 := HO.out.grow ⟨e, sz, v', n' + m, xs ++ ys⟩ g1 g2 (by
    rcases g3 with g3 | g3
    · exact .inl g3
    · exact .inr fun k hk => by
        have hk' : v'.ownBlock = some k := hk
        rw [g3] at hk'; injection hk' with hk'; omega)
  have g4 := g1.2
  rcases g4 with ⟨rfl, h0⟩ | ⟨gg, cap, cur, rfl, _, _, hn2, _⟩
  · have h0' : n' + m = 0 := h0
    have hO3 := Lib.hid hO2
    rw [h0'] at hO3
    have := h none 0 w' (by omega)
    rw [h0'] at this
    exact this hO3
  · exact h _ _ w' hn2 (Lib.hid hO2)
theorem one_bvs (l : List Nat) : ∀ u ∈ bvs l, u.oneCell' = true := fun u hu => by
  obtain ⟨x, _, rfl⟩ := List.mem_map.1 hu
  rfl
theorem reads_bytes {B : Nat} {A : Option Addr} {l : List Nat} (h : RB w B A l) : Reads w B 1 A l.length (bvs l) := by
  refine ⟨by simp [bvs], fun hn => ?_⟩
  obtain ⟨ad, e, hb, hc⟩ := h.2 hn
  refine ⟨ad, e, hb, fun j u hu => ?_⟩
  have hj : j < l.length := by
    rcases Nat.lt_or_ge j l.length with hj | hj
    · exact hj
    · rw [List.getElem?_eq_none (by simpa [bvs] using hj)] at hu; cases hu
  unfold bvs at hu
  rw [List.getElem?_map, List.getElem?_eq_getElem hj] at hu
  injection hu with hu
  rw [← hu]
  exact hc j hj
theorem wo_appB {v : Value} {l ys : List Nat} (HO : Hid (Own w0 X S bs (⟨5, 1, v, l.length, bvs l⟩ :: rs) F w)) {s x : Operand}
    (ho : o.op = .call { callee := .builtin .append, args := #[s, x], argTypes := #[22, 22] }) (hs : act.eval s = v) {A : Option Addr} {c : Nat} (hx : act.eval x = .slice A ys.length c) (hr : Hid (RB w w.heap.size A ys)) (hm : l.length + ys.length ≤ 1000000)
    (h : ∀ A' c' W, (l ++ ys).length ≤ c' → Hid (Own w0 X S bs (⟨5, 1, .slice A' (l ++ ys).length c', (l ++ ys).length, bvs (l ++ ys)⟩ :: rs) F W) → KK (act.put o.dst (.slice A' (l ++ ys).length c')) W) : WOp Try.prog o act w KK Q := by
  refine wo_appK HO ho hs hx (reads_bytes hr.out) Try.underlying22 info_u8 rfl (by decide) (one_bvs ys) hm (by decide) (fun A' c' W h1 h2 => ?_)
  have e1 : l.length + ys.length = (l ++ ys).length := by simp
  have e2 : bvs l ++ bvs ys = bvs (l ++ ys) := by simp [bvs]
  rw [e2, e1] at h2
  rw [e1] at h1 ⊢
  exact h A' c' W h1 h2
theorem wo_appM {b : Nat} {l ys : List Nat} (HO : Hid (Own w0 X S bs rs F w)) {s x : Operand}
    (ho : o.op = .call { callee := .builtin .append, args := #[s, x], argTypes := #[22, 22] }) (hs : act.eval s = .slice (some ⟨b, 0, none⟩) l.length l.length) (hb : Hid (RB w w.heap.size (some ⟨b, 0, none⟩) l)) {A : Option Addr} {c : Nat} (hx : act.eval x = .slice A ys.length c) (hr : Hid (RB w w.heap.size A ys)) (hpos : 0 < ys.length) (hm : l.length + ys.length ≤ 1000000)
    (h : ∀ A' c' W, (l ++ ys).length ≤ c' → Hid (Own w0 X S bs (⟨5, 1, .slice A' (l ++ ys).length c', (l ++ ys).length, bvs (l ++ ys)⟩ :: rs) F W) → KK (act.put o.dst (.slice A' (l ++ ys).length c')) W) : WOp Try.prog o act w KK Q := by
  obtain ⟨i0, hi, hz0, hz1, hz2⟩ := info_parts info_u8
  obtain ⟨ad, rfl, _, _⟩ := hr.out.2 hpos
  obtain ⟨hl1, hl2⟩ := reads_bytes hb.out
  obtain ⟨hy1, hy2⟩ := reads_bytes hr.out
  have holds : ∀ j v, (bvs l)[j]? = some v → w.cell? ((⟨b, 0, none⟩ : Addr).add j) = some v := fun j v hv => by
    have hj : 0 < l.length := by
      rcases Nat.eq_zero_or_pos l.length with h0 | h0
      · rw [List.length_eq_zero_iff.1 h0] at hv; cases hv
      · exact h0
    obtain ⟨ad', e, _, hc⟩ := hl2 hj
    cases e
    exact hc j v hv
  have hnews : ∀ j v, (bvs ys)[j]? = some v → w.cell? (ad.add j) = some v := fun j v hv => by
    obtain ⟨ad', e, _, hc⟩ := hy2 hpos
    cases e
    exact hc j v hv
  have hN : l.length + ys.length ≤ maxLen := by unfold maxLen; omega
  have hfit : Builtin.nextslicecap (l.length + ys.length) l.length * i0.bytes ≤ 281474976710656 := growslice_fits (by omega) (by rw [hz2]; omega)
  have hrun := run_append_grow (P := Try.prog) w 22 o.type 5 i0 (.int .u8 0) Try.underlying22 hi hz0 ⟨b, 0, none⟩ l.length l.length (bvs l) (by rw [hz1]; exact hl1) holds ad ys.length c (bvs ys) (by rw [hz1]; exact hy1) hnews (by omega) (by omega) hfit
  have hge := grownCap_ge w (l.length + ys.length) l.length 5
  have hcm : grownCap w (l.length + ys.length) l.length 5 ≤ maxLen := grownCap_le_maxLen w _ _ _ hN
  have hO := HO.out.drew.junk (.cells ((bvs l).toArray ++ (bvs ys).toArray ++ Builtin.zeroCells (Value.int .u8 0).cells (grownCap w (l.length + ys.length) l.length 5 - (l.length + ys.length))) 5)
  have e1 : (l ++ ys).length = l.length + ys.length := by simp
  have e2 : bvs l ++ bvs ys = bvs (l ++ ys) := by simp [bvs]
  have hrow : (w.drew.alloc (.cells ((bvs l).toArray ++ (bvs ys).toArray ++ Builtin.zeroCells (Value.int .u8 0).cells (grownCap w (l.length + ys.length) l.length 5 - (l.length + ys.length))) 5)).ownsRow w.heap.size 5 1 (.slice (some ⟨w.heap.size, 0, none⟩) (l ++ ys).length (grownCap w (l.length + ys.length) l.length 5)) (l ++ ys).length (bvs (l ++ ys)) := by
    refine ⟨by simp [bvs], .inr ⟨w.heap.size, _, _, rfl, Nat.le_refl _, heap_alloc_new w.drew _, by rw [e1]; exact hge, hcm, ?_, ?_⟩⟩
    · simp only [Array.size_append, List.size_toArray, size_zeroCells, hl1, hy1, Value.cells]
      simp only [List.size_toArray, List.length_cons, List.length_nil]
      omega
    · simp only [Array.toList_append, List.append_assoc]
      rw [← List.append_assoc, e2, Nat.mul_one]
      exact (congrArg (fun n => List.take n _) (by simp [bvs] : (l ++ ys).length = (bvs (l ++ ys)).length)).trans List.take_left
  have hO2 := hO.addRow ⟨5, 1, .slice (some ⟨w.heap.size, 0, none⟩) (l ++ ys).length (grownCap w (l.length + ys.length) l.length 5), (l ++ ys).length, bvs (l ++ ys)⟩ w.heap.size HO.out.kept.size hrow (fun b hb hm => by have := (HO.out.hot_lt b hm).2; omega) (fun d hd => d.st w _ _ _ (fun b hb => ⟨⟨⟨hb.1, Nat.lt_of_lt_of_le hb.2.1 (by simp), hb.2.2⟩, hb.2.1⟩, Below.heap_alloc w.drew _ b hb.2.1⟩) (HO.out.cold d hd))
  have := h _ _ _ (by rw [e1]; exact hge) (Lib.hid hO2)
  unfold WOp Oper.wp execOp
  simp only [ho, resolve, invoke, builtin, Sem.run_bind, Sem.run_pure, Result.andThen_ok, List.map_toArray, List.map_cons, List.map_nil, hs, hx, hrun]
  rw [e1] at this
  exact this
end
open Go.RowKit
section
variable {act : Act} {w0 w : World} {X : List Nat} {S : World → Prop} {bs : List Bx} {rs : List Rw} {F : List Cold} {K : Act → World → Prop}
theorem ab_mark (HO : Hid (Own w0 X S bs rs F w)) {cs : List Value} {t : TypeId} {n : Nat} (h : ∀ W, Hid (Own w0 X S bs rs F W) → Hid (∃ f, W.heap[w.heap.size]? = some (.cells cs.toArray t f)) → K act W) : K act (w.alloc (.cells cs.toArray t (n, n + 1))) :=
  h _ (Lib.hid (HO.out.junk _)) (Lib.hid ⟨(n, n + 1), by show (w.heap.push _)[w.heap.size]? = _; simp⟩)
theorem rb_mark {W : World} {b : Nat} {t : TypeId} {l : List Nat} (hb : ∀ x ∈ l, x < 256) (h : ∃ f, W.heap[b]? = some (.cells (bvs l).toArray t f)) : RB W W.heap.size (some ⟨b, 0, none⟩) l := by
  obtain ⟨f, h⟩ := h
  have hlt : b < W.heap.size := by
    rcases Nat.lt_or_ge b W.heap.size with h' | h'
    · exact h'
    · rw [Array.getElem?_eq_none h'] at h; cases h
  refine rb_of hb hlt (fun j hj => ?_)
  unfold World.cell?
  simp [h, bvs, bv, hj]
end
theorem kid_at {w0 W : World} {X : List Nat} {S : World → Prop} {bs : List Bx} {rs : List Rw} {F : List Cold} {l : List NodeT} {A : Option Addr} (HO : Hid (Own w0 X S bs rs F W)) (m : Cold.kids A l ∈ F) (j : Nat) (hj : j < l.length) :
    ∃ b o A' c', A = some ⟨b, o, none⟩ ∧ Hid (Own w0 X S bs rs (Cold.at b (o + 8 * j) (nodeC l[j] A' c') :: Cold.kids A' l[j].l :: F) W) := by
  have h := HO.out.cold _ m
  have key : ∀ (l : List NodeT) (i j : Nat) (h : j < l.length) (P : Nat → Prop), KidsL W P l A i → ∃ b o A' c', A = some ⟨b, o, none⟩ ∧ P b ∧ W.rangeAt b (o + 8 * (i + j)) (nodeC l[j] A' c') ∧ KidsL W P l[j].l A' 0 := by
    intro l
    induction l with
    | nil => intro i j h; exact absurd h (by simp)
    | cons n l ih =>
      intro i j h P hk
      rw [KidsL] at hk
      cases j with
      | zero =>
        obtain ⟨⟨b, o, A', c', h1, h2, h3, _, h5⟩, _⟩ := hk
        exact ⟨b, o, A', c', h1, h2, h3, by rw [← KidsN_eq]; exact h5⟩
      | succ j =>
        have := ih (i + 1) j (by simpa using h) P hk.2
        rw [show i + 1 + j = i + (j + 1) by omega] at this
        exact this
  obtain ⟨b, o, A', c', h1, h2, h3, h4⟩ := key l 0 j hj _ h
  rw [Nat.zero_add] at h3
  exact ⟨b, o, A', c', h1, Lib.hid ((HO.out.coldAll (Cold.kids A' l[j].l) h4).coldAll (Cold.at b (o + 8 * j) (nodeC l[j] A' c')) ⟨h2, h3⟩)⟩
theorem rule_at {w0 W : World} {X : List Nat} {S : World → Prop} {bs : List Bx} {rs : List Rw} {F : List Cold} {r : RuleT} {A B : Option Addr} {x : ElR} (HO : Hid (Own w0 X S bs rs F W)) (m : Cold.tree A B [] [x] ∈ F) :
    ∃ b, B = some ⟨b, 0, none⟩ ∧ Hid (Own w0 X S bs rs (Cold.at b 0 (ruleC x.1 x.2.1 x.2.2.1 x.2.2.2.1 x.2.2.2.2) :: Cold.kids x.2.1 x.1.l :: Cold.kids x.2.2.2.1 x.1.body.l :: F) W) := by
  have h := HO.out.cold _ m
  obtain ⟨b, e, hb, hc⟩ := h.rr (by simp [flatR, ruleC])
  have he := h.er x List.mem_cons_self
  refine ⟨b, e, Lib.hid (((HO.out.coldAll (Cold.kids x.2.2.2.1 x.1.body.l) he.2.2.2).coldAll (Cold.kids x.2.1 x.1.l) he.2.2.1).coldAll (Cold.at b 0 (ruleC x.1 x.2.1 x.2.2.1 x.2.2.2.1 x.2.2.2.2)) ⟨hb, fun i v hv => ?_⟩)⟩
  rw [Nat.zero_add]
  exact hc i v (by simpa [flatR] using hv)
theorem arm_parse1 {w0 w : World} {S : World → Prop} {bs : List Bx} {rs : List Rw} {F : List Cold} {T : Ending → World → Prop} {KF : FuncId} {args : Array Value} {src : List Nat} {A : Option Addr} {c : Nat} {r : RuleT} (HO : Hid (Own w0 [] S bs rs F w)) (hr : Hid (RB w w.heap.size A src)) (ht : treeS src = .ok ⟨[], [r]⟩) (hc : src.length ≤ c) (hlen : src.length ≤ 1000000) (hK : KF = 6) (hargs : args = #[.slice A src.length c])
    (hok : ∀ A' c1 B' c2 (x : ElR) W, x.1 = r → Hid (Own w0 [] S bs rs (Cold.tree A' B' [] [x] :: F) W) → T (.returned (.tuple #[.agg #[.slice A' 0 c1, .slice B' 1 c2], .nilIface])) W) : Calls Try.prog KF args w T := by
  refine arm_parse HO hr hc hlen hK hargs (fun p k b W HE _ => ?_) (fun fe re A' c1 B' c2 W HE _ HO => ?_)
  · have h := HE.out; rw [ht] at h; cases h
  · have h := HE.out
    rw [ht] at h
    injection h with h
    injection h with hf hr
    obtain rfl : fe = [] := List.map_eq_nil_iff.1 hf.symm
    obtain ⟨x, rfl⟩ : ∃ x, re = [x] := by
      match re, hr with
      | [x], _ => exact ⟨x, rfl⟩
    exact hok A' c1 B' c2 x W (by simpa using hr.symm) HO
set_option maxRecDepth 100000 in
set_option maxHeartbeats 3200000 in
theorem awake13_any (w : World) : Calls Try.prog 5 #[] w fun e w' => e = .returned (.bool true) ∧ Below w.heap.size w w' := by
  have HO : Hid (Own w [] (fun _ => True) [] [] [] w) := Lib.hid (Own.init trivial (fun _ _ _ _ _ => trivial))
  have hcv := fun (w : World) (C : Array Value) (n c : Nat) => Lib.run_convert_bytes_const (P := Try.prog) w 22 5 C n c Try.underlying22 Try.underlying5
  go_enter Try.func5, Try.ntmps5
  (repeat' (go_not_at_region 3; first | (with_reducible first | refine oXt ?_ | refine oXb ?_) | ((with_reducible refine ib_miss ?_ ?_); exact rfl) | ((first | ((with_reducible refine to_load ?_); first | refine oL1 HO rfl rfl ?_ | refine oL2 HO rfl rfl ?_ | refine oL3 HO rfl rfl ?_) | ((first | with_reducible refine oAl HO ?_); clear HO; intro _ HO)); (try simp only [Act.put, pS0, pS1, pS2])) | ((first | ((with_reducible refine to_store ?_); first | refine oT1 HO rfl rfl rfl ?_ | refine oT2 HO rfl rfl rfl (by rfl) ?_ | refine oT3 HO rfl rfl rfl rfl ?_) | with_reducible refine ab_drew HO ?_); clear HO; intro _ HO) | ((with_reducible refine ab_junk HO 9 ?_); clear HO; intro _ HO HB) | ((with_reducible refine ab_mark HO ?_); clear HO; intro _ HO HB) | ((go_big_may; first | (go_at_call 6; first | (refine arm_parse1 (src := src1) HO (Lib.hid (rb_mark (l := src1) (by decide) HB.out)) tree1 (by decide) (by decide) rfl rfl ?_; clear HO HB; intro At1 ct1 Bt1 dt1 xt _ hxt HO) | (refine arm_parse1 (src := src2) HO (Lib.hid (rb_mark (l := src2) (by decide) HB.out)) tree2 (by decide) (by decide) rfl rfl ?_; clear HO HB; intro Au1 cu1 Bu1 du1 xu _ hxu HO))) <;> (try dsimp only)) | go_values | go_skip | go_guarded | go_step | go_upon | (go_ite <;> go_prune <;> (try go_simp))))
  obtain ⟨r1, At, ct, Bt, dt⟩ := xt
  obtain ⟨r2, Au, cu, Bu, du⟩ := xu
  dsimp only at hxt hxu
  subst hxt hxu
  obtain ⟨b1, rfl, HO1⟩ := rule_at (r := rule1) (x := (rule1, At, ct, Bt, dt)) HO (by repeat (first | exact mH | apply mT))
  obtain ⟨b2, rfl, HO2⟩ := rule_at (r := rule2) (x := (rule2, Au, cu, Bu, du)) HO1 (by repeat (first | exact mH | apply mT))
  obtain ⟨b3, o3, A3, c3, e3, HO3⟩ := kid_at HO2 (A := Bu) (l := [.mk 54 2 [] 0 0 [asg2]]) (by repeat (first | exact mH | apply mT)) 0 (by decide)
  obtain ⟨b4, o4, A4, c4, e4, HO4⟩ := kid_at HO3 (A := A3) (l := [asg2]) (by repeat (first | exact mH | apply mT)) 0 (by decide)
  obtain ⟨b5, o5, A5, c5, e5, HO5⟩ := kid_at HO4 (A := A4) (l := [.mk 4 2 [97] 0 0 [], .mk 14 6 [] 0 0 [.mk 4 6 [98] 0 0 [], .mk 15 8 [43] 0 0 [.mk 4 8 [99] 0 0 [], .mk 1 12 [] 1000000 0 []]]]) (by repeat (first | exact mH | apply mT)) 1 (by decide)
  obtain ⟨b6, o6, A6, c6, e6, HO⟩ := kid_at HO5 (A := At) (l := [.mk 13 0 [62] 0 0 [.mk 6 0 [] 0 0 [.mk 1 1 [] 1000000 0 []], .mk 1 5 [] 2000000 0 []]]) (by repeat (first | exact mH | apply mT)) 0 (by decide)
  clear HO1 HO2 HO3 HO4 HO5
  subst e3 e4 e5 e6
  simp only [ruleC, nodeC, rule1, rule2, asg2, NodeT.k, NodeT.at', NodeT.s, NodeT.z, NodeT.i, NodeT.l, List.length_cons, List.length_nil, List.getElem_cons_zero, List.getElem_cons_succ, Nat.mul_zero, Nat.add_zero, Nat.mul_one] at HO
  (repeat' (first | (with_reducible first | refine oXt ?_ | refine oXb ?_) | ((with_reducible refine ib_miss ?_ ?_); exact rfl) | ((first | ((with_reducible refine to_load ?_); first | refine oL1 HO rfl rfl ?_ | refine oL2 HO rfl rfl ?_ | refine oL3 HO rfl rfl ?_ | refine oC1 HO rfl rfl ?_ | refine oC2 HO rfl rfl ?_) | ((first | with_reducible refine oAl HO ?_); clear HO; intro _ HO)); (try simp only [Act.put, pS0, pS1, pS2])) | ((first | ((with_reducible refine to_store ?_); first | refine oT1 HO rfl rfl rfl ?_ | refine oT2 HO rfl rfl rfl (by rfl) ?_ | refine oT3 HO rfl rfl rfl rfl ?_) | with_reducible refine ab_drew HO ?_); clear HO; intro _ HO) | ((with_reducible refine ab_junk HO 9 ?_); clear HO; intro _ HO HB) | go_values | go_skip | go_guarded | go_step | go_upon | (go_ite <;> go_prune <;> (try go_simp))))
  refine bp_tmp (t := 0) rfl rfl rfl ?_
  exact ⟨rfl, HO.out.kept.below⟩
end Go.Proofs.Ytdiibenofbcfnaa
