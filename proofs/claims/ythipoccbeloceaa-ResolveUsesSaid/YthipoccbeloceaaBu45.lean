/- Several texts put together: RqJ. -/
import Derived.Test.YthipoccbeloceaaBu43
import Derived.Test.YthipoccbeloceaaBu44
import Derived.Test.YthipoccbeloceaaBu7
set_option linter.unusedSimpArgs false
set_option linter.unusedVariables false
namespace Go.Proofs.Ythipoccbeloceaa
open Go.RowKit
theorem item_adv {ts : List TokF} {p : RPar} (H : PSz p) {t u : TreeT} {k k' : Nat} (h : ritem ts p t k = .ok u k') : k + 1 ≤ k' ∧ u.funcs.length + u.rules.length ≤ t.funcs.length + t.rules.length + 1 := by
  have hb : ∀ kd l (t : TreeT) k1 (u : TreeT) k', rbody ts p k kd l t k1 = .ok u k' → k1 + 1 ≤ k' ∧ u.funcs.length + u.rules.length ≤ t.funcs.length + t.rules.length + 1 := by
    intro kd l t k1 u k' h
    unfold rbody at h
    obtain ⟨b, k2, h1, h2⟩ := gr_inv h
    have := H.block _ _ _ h1
    have := nsz_pos b
    cases h2
    simp only [List.length_append, List.length_cons, List.length_nil]
    omega
  have hr : ∀ kd l (t : TreeT) k1 (u : TreeT) k', rrule ts p k kd l t k1 = .ok u k' → k1 ≤ k' ∧ u.funcs.length + u.rules.length ≤ t.funcs.length + t.rules.length + 1 := by
    intro kd l t k1 u k' h
    unfold rrule at h
    split at h
    · have := hb _ _ _ _ _ _ h
      omega
    · cases h
      simp only [List.length_append, List.length_cons, List.length_nil]
      omega
  unfold ritem at h
  split at h
  · unfold rfunction at h
    split at h
    · split at h
      · obtain ⟨l, k1, h1, h2⟩ := gr_inv h
        obtain ⟨b, k2, h3, h4⟩ := gr_inv h2
        have := sz_param _ _ _ _ _ h1
        have := H.block _ _ _ h3
        have := rl_le (ts := ts) (k1 + 1)
        cases h4
        simp only [List.length_append, List.length_cons, List.length_nil]
        omega
      · cases h
    · cases h
  · split at h
    · have := hb _ _ _ _ _ _ h
      omega
    · split at h
      · exact hb _ _ _ _ _ _ h
      · obtain ⟨x, k1, h1, h2⟩ := gr_inv h
        have := H.expr _ _ _ h1
        have := nsz_pos x
        split at h2
        · obtain ⟨y, k2, h3, h4⟩ := gr_inv h2
          have := H.expr _ _ _ h3
          have := rl_le (ts := ts) (k1 + 1)
          have := hr _ _ _ _ _ _ h4
          omega
        · have := hr _ _ _ _ _ _ h2
          omega
section
variable {b c k : Nat} {ts : List TokF} {w0 w : World} {bs : List Bx} {rs : List Rw} {F : List Cold} {T : Ending → World → Prop} {K : FuncId} {args : Array Value} {β : Type} {R : GR β} {p : RPar}
theorem arm_ritem (C_block : Hid (∀ k, k < ts.length → RC 53 #[.agg #[.slice (some ⟨b, 0, none⟩) ts.length c], .int .i64 (k : Int), .int .i64 0] (p.block k) VG b c ts (k + 1))) (C_expr : Hid (∀ k, k < ts.length → RC 51 #[.agg #[.slice (some ⟨b, 0, none⟩) ts.length c], .int .i64 (k : Int), .int .i64 0] (p.expr k) VG b c ts (k + 1)))
    {fe : List ElF} {re : List ElR} {A0 B0 : Option Addr} {c1 c2 : Nat} {kk : TreeT → Nat → GR β} (HO : Hid (Own w0 [] (RS b c ts w0.heap.size) bs rs F w)) (HF : Hid ((ritem ts p ⟨fe.map (·.1), re.map (·.1)⟩ k).bind kk = R)) (hK : K = 31) (hargs : args = #[.agg #[.slice (some ⟨b, 0, none⟩) ts.length c], .agg #[.slice A0 fe.length c1, .slice B0 re.length c2], .int .i64 (k : Int)]) (hk : k < ts.length) (hT : Cold.tree A0 B0 fe re ∈ F) (hc1 : fe.length ≤ c1) (hc2 : re.length ≤ c2) (hl1 : fe.length ≤ 100000) (hl2 : re.length ≤ 100000)
    (hok : ∀ (fe' : List ElF) (re' : List ElR) A c1' B c2' a W, ritem ts p ⟨fe.map (·.1), re.map (·.1)⟩ k = .ok ⟨fe'.map (·.1), re'.map (·.1)⟩ a → Hid (Own w0 [] (RS b c ts w0.heap.size) bs rs (Cold.tree A B fe' re' :: F) W) → fe'.length ≤ c1' → re'.length ≤ c2' → a < ts.length → Hid (kk ⟨fe'.map (·.1), re'.map (·.1)⟩ a = R) → T (.returned (.agg #[.slice A fe'.length c1', .slice B re'.length c2', .int .i64 ((a : Nat) : Int), .int .i64 0])) W)
    (herr : ∀ a q W, Hid (Own w0 [] (RS b c ts w0.heap.size) bs rs F W) → (q != 0) = true → Hid (R = .err a q) → T (.returned (.agg #[.slice none 0 0, .slice none 0 0, .int .i64 ((a : Nat) : Int), .int .i64 q])) W) : Calls Try.prog K args w T := by
  subst hK hargs
  refine (ritem_any p b c ts C_block.out C_expr.out k hk fe re A0 B0 c1 c2 hc1 hc2 hl1 hl2 (fun b => w0.heap.size ≤ b ∧ b < w.heap.size ∧ b ∉ hot bs rs) w HO.out.st.more (fun b hb => hb.2.1) (HO.out.cold _ hT)).mono fun e W hp => ?_
  obtain ⟨q, hp⟩ := hp
  cases hr : ritem ts p ⟨fe.map (·.1), re.map (·.1)⟩ k with
  | ok x a =>
    rw [hr] at hp
    obtain ⟨h1, h2, fe', re', A, c1', B, c2', rfl, rfl, h3, h4, h5⟩ := hp
    refine hok fe' re' A c1' B c2' a W hr (Lib.hid ((HO.out.next q).coldAll (Cold.tree A B fe' re') (TreeAt.st (fun b hb => ⟨?_, rfl⟩) h5))) h3 h4 h2 (Lib.hid (gr_ok hr HF.out))
    rcases hb with hb | hb
    · exact ⟨hb.1, Nat.lt_of_lt_of_le hb.2.1 q.size, hb.2.2⟩
    · exact ⟨Nat.le_trans HO.out.kept.size hb.1, hb.2, fun hm => by have := (HO.out.hot_lt b hm).2; omega⟩
  | err a e =>
    rw [hr] at hp
    obtain ⟨h1, rfl⟩ := hp
    exact herr a e W (Lib.hid (HO.out.next q)) h1 (Lib.hid (gr_err hr HF.out))
end
instance iTZRow13 : TZ 93 [.slice none 0 0] := ⟨Try.zeroValue93⟩
section
variable {b c n m : Nat} {ts : List TokF} {w0 w W : World} {bs : List Bx} {rs : List Rw} {F : List Cold}
def LoopP {S : World → Prop} (_ : Hid (Own w0 [] S (⟨n, 27, [.slice none 0 0, .slice none 0 0]⟩ :: bs) rs F w)) (g : Nat → TreeT → Nat → Prop) (m : Nat) (v : Value) (W : World) : Prop :=
  ∃ (fe : List ElF) (re : List ElR) (A : Option Addr) (c1 : Nat) (B : Option Addr) (c2 f q : Nat), v = .int .i64 (q : Int) ∧ q < m ∧ fe.length + re.length ≤ q ∧ m ≤ f + q ∧ fe.length ≤ c1 ∧ re.length ≤ c2 ∧ Hid (g f ⟨fe.map (·.1), re.map (·.1)⟩ q) ∧ Hid (Own w0 [] S (⟨n, 27, [.slice A fe.length c1, .slice B re.length c2]⟩ :: bs) rs [Cold.tree A B fe re, Cold.kids none []] W)
theorem rt_tree {S : World → Prop} {fe : List ElF} {re : List ElR} {A B : Option Addr} {c1 c2 a : Nat} {f : GR TreeT} (HO : Hid (Own w [] S bs rs F W)) (hT : Cold.tree A B fe re ∈ F) (HF : Hid (.ok ⟨fe.map (·.1), re.map (·.1)⟩ a = f)) (ha : a < ts.length) (h1 : fe.length ≤ c1) (h2 : re.length ≤ c2) :
    RTree ts 0 w (fun _ => False) f (.returned (.agg #[.slice A fe.length c1, .slice B re.length c2, .int .i64 ((a : Nat) : Int), .int .i64 0])) W := by
  rw [← HF.out]
  exact ⟨HO.out.kept.below, Nat.zero_le _, ha, fe, re, A, c1, B, c2, rfl, rfl, h1, h2, TreeAt.st (fun b hb => ⟨.inr ⟨hb.1, hb.2.1⟩, rfl⟩) (HO.out.cold _ hT)⟩
end
set_option maxRecDepth 100000 in
set_option maxHeartbeats 3200000 in
theorem rparse_any (b c : Nat) (ts : List TokF) (w : World) (h : RS b c ts w.heap.size w) : Calls Try.prog 13 #[.slice (some ⟨b, 0, none⟩) ts.length c] w (RTree ts 0 w (fun _ => False) (rparse ts)) := by
  obtain ⟨R, hR⟩ : ∃ R, rparse ts = R := ⟨_, rfl⟩
  rw [hR]
  have HF := Lib.hid hR
  have HRS := Lib.hid h
  have HO := h.ownN
  have hlen := h.ok.len
  have hk0 := h.pos
  have hok := rok_all b c ts 64 0 rfl
  have C_block : Hid (∀ k, k < ts.length → RC 53 #[.agg #[.slice (some ⟨b, 0, none⟩) ts.length c], .int .i64 (k : Int), .int .i64 0] ((rp ts 65).block k) VG b c ts (k + 1)) := Lib.hid hok.block
  have C_expr : Hid (∀ k, k < ts.length → RC 51 #[.agg #[.slice (some ⟨b, 0, none⟩) ts.length c], .int .i64 (k : Int), .int .i64 0] ((rp ts 65).expr k) VG b c ts (k + 1)) := Lib.hid hok.expr
  have HS := psz ts 65
  clear h hR hok
  unfold rparse at HF
  generalize rp ts 65 = p at HF C_block C_expr HS
  have hc0 : Cn 0 0 := ⟨fun _ => rfl⟩
  go_enter Try.func13, Try.ntmps13
  (repeat' (first | ((with_reducible refine zG ?_); first | refine oWx ?_ | (refine oWs ?_; clear HO; intro _ HO)) | ((go_big_may; first | (go_at_call 30; refine arm_ends (by omega) HO rfl rfl ?_; clear HO; intro _ q hq hle hlt HO; (try simp only [hq] at HF))) <;> (try dsimp only)) | go_values | go_skip | go_guarded | go_step | go_upon | (go_ite <;> go_prune <;> (try go_simp))))
  replace HO := Lib.hid (HO.out.coldAll (Cold.tree none none [] []) ⟨fun h => absurd rfl h, fun h => absurd rfl h, fun _ h => (by cases h), fun _ h => (by cases h)⟩)
  have HO0 := HO
  go_loopw [5] (fun v W => LoopP HO0 (fun f t q => rprogF ts p f t q = R) ts.length v W) (fun v _ => ts.length - (intOf v).toNat)
  case atStart => exact ⟨[], [], none, 0, none, 0, ts.length, _, rfl, hlt, by simp, by omega, Nat.le_refl _, Nat.le_refl _, HF, HO⟩
  case round =>
    clear HO HF hlt hle hq
    obtain ⟨fe, re, A, c1, B, c2, f, q, rfl, hq0, hl, hf, hc1, hc2, HF, HO⟩ := hrel
    obtain ⟨f, rfl⟩ : ∃ f', f = f' + 1 := ⟨f - 1, by omega⟩
    have hqI : (q : Int) < (ts.length : Int) := by omega
    dsimp only at HF
    rw [rprogF] at HF
    have hkd : rkd ts q 0 = (((tk ts q).k : Int) == 0) := rfl
    rw [hkd] at HF
    clear hkd
    cases h0 : (((tk ts q).k : Int) == 0)
    · have h0b : (((tk ts q).k : Int) != 0) = true := by rw [bne, h0]; rfl
      simp only [h0, Bool.false_eq_true, ↓reduceIte] at HF
      (repeat' (first | ((with_reducible refine zG ?_); first | refine oWx ?_ | (refine oWs ?_; clear HO; intro _ HO)) | ((with_reducible refine to_load ?_); (first | first | refine oR6 HO rfl rfl rfl (by omega) ?_ | refine oR1 HO rfl rfl rfl rfl (by omega) ?_ | refine oR0 HO rfl rfl rfl (by omega) ?_); (try simp only [Act.put, pS])) | ((go_big_may; first | (go_at_call 31; refine arm_ritem C_block C_expr HO HF rfl rfl hq0 mM hc1 hc2 (by omega) (by omega) ?_ ?_; (clear HO HF; intro fe2 re2 A2 c12 B2 c22 a2 W2 hres HO hc12 hc22 ha2 HF; obtain ⟨q2, rfl⟩ : ∃ q2, a2 = q2 + 1 := ⟨a2 - 1, by have := (item_adv HS hres).1; omega⟩; have hq21 : ((q2 + 1 : Nat) : Int) - 1 = (q2 : Int) := (by omega); have hq22 : q2 < ts.length := Nat.lt_of_succ_lt ha2; (try simp only [Nat.add_sub_cancel] at HF)); rotate_left; (clear HO HF; intro _ _ _ HO hq HE); rotate_left) | (go_at_call 32; refine arm_is [125] (by decide) (by omega) HO rfl rfl ?_; clear HO; intro _ z hz hlt HO; cases z <;> (try simp only [hz, ↓reduceIte, bZ] at HF) <;> (first | (replace hlt := hlt rfl) | clear hlt)) | (go_at_call 33; refine arm_stops (by omega) HO rfl rfl ?_; clear HO; intro _ z hz hlt HO; cases z <;> (try simp only [hz, ↓reduceIte, bZ] at HF) <;> (first | (replace hlt := hlt rfl) | clear hlt)) | (go_at_call 30; refine arm_ends (by omega) HO rfl rfl ?_; clear HO; intro _ q hq hle hlt HO; (try simp only [hq] at HF))) <;> (try dsimp only)) | go_values | go_skip | go_guarded | go_step | go_upon | (go_ite <;> go_prune <;> (try go_simp))))
      all_goals first
        | (refine oBc HO (t := 2) (ty := 59) rfl rfl rfl ?_
           first
           | exact rt_err HO (by assumption) HE
           | exact rt_err HO rfl (Lib.hid HF.out.symm))
        | skip
      all_goals
        have hadv := item_adv HS hres
        dsimp only at hadv
        simp only [List.length_map] at hadv
        have hadv1 := hadv.1
        have hadv2 := hadv.2
        exact ⟨⟨fe2, re2, A2, c12, B2, c22, f, _, rfl, hlt, by omega, by omega, hc12, hc22, HF, Lib.hid (HO.out.sub (List.sublist_cons_self _ _) (List.Sublist.refl _) (fun c hc => by simp only [List.mem_cons, List.not_mem_nil, or_false] at hc; rcases hc with rfl | rfl <;> (repeat (first | exact mH | apply mT))))⟩, meas2 rfl (by omega) hq0⟩
    · have h0b : (((tk ts q).k : Int) != 0) = false := by rw [bne, h0]; rfl
      simp only [h0, ↓reduceIte] at HF
      (repeat' (first | ((with_reducible refine zG ?_); first | refine oWx ?_ | (refine oWs ?_; clear HO; intro _ HO)) | ((with_reducible refine to_load ?_); (first | first | refine oR6 HO rfl rfl rfl (by omega) ?_ | refine oR1 HO rfl rfl rfl rfl (by omega) ?_ | refine oR0 HO rfl rfl rfl (by omega) ?_); (try simp only [Act.put, pS])) | go_values | go_skip | go_guarded | go_step | go_upon | (go_ite <;> go_prune <;> (try go_simp))))
      refine oBc HO (t := 2) (ty := 59) rfl rfl rfl ?_
      exact rt_tree HO mH HF hq0 hc1 hc2
end Go.Proofs.Ythipoccbeloceaa
