/- Several texts put together: JoiB. -/
import Derived.Test.YtdiibenofbcfnaaBu41
import Derived.Lib.SlBytesConst
set_option linter.unusedSimpArgs false
set_option linter.unusedVariables false
namespace Go.Proofs.Ytdiibenofbcfnaa
open Go.RowKit
section
variable {act : Act} {w0 w : World} {X : List Nat} {S : World → Prop} {bs : List Bx} {rs : List Rw} {F : List Cold} {K : Act → World → Prop}
theorem ab_mark (HO : Hid (Own w0 X S bs rs F w)) {cs : List Value} {t : TypeId} {n : Nat} (h : ∀ W, Hid (Own w0 X S bs rs F W) → Hid (∃ f, W.heap[w.heap.size]? = some (.cells cs.toArray t f)) → K act W) : K act (w.alloc (.cells cs.toArray t (n, n + 1))) :=
  h _ (Lib.hid (HO.out.junk _)) (Lib.hid ⟨(n, n + 1), by show (w.heap.push _)[w.heap.size]? = _; simp⟩)
theorem rb_mark {W : World} {b : Nat} {t : TypeId} {l : List Nat} (hb : ∀ x ∈ l, x < 256) (h : ∃ f, W.heap[b]? = some (.cells (bvs l).toArray t f)) : RB W W.heap.size (some ⟨b, 0, none⟩) l := by
  obtain ⟨f, h⟩ := h
  have hlt : b < W.heap.size := by
    rcases Nat.lt_or_ge b W.heap.size with h' | h'
    · exact h'
    · rw [Array.getElem?_eq_none h'] at h; cases h
  refine rb_of hb hlt (fun j hj => ?_)
  unfold World.cell?
  simp [h, bvs, bv, hj]
end
theorem kid_at {w0 W : World} {X : List Nat} {S : World → Prop} {bs : List Bx} {rs : List Rw} {F : List Cold} {l : List NodeT} {A : Option Addr} (HO : Hid (Own w0 X S bs rs F W)) (m : Cold.kids A l ∈ F) (j : Nat) (hj : j < l.length) :
    ∃ b o A' c', A = some ⟨b, o, none⟩ ∧ Hid (Own w0 X S bs rs (Cold.at b (o + 8 * j) (nodeC l[j] A' c') :: Cold.kids A' l[j].l :: F) W) := by
  have h := HO.out.cold _ m
  have key : ∀ (l : List NodeT) (i j : Nat) (h : j < l.length) (P : Nat → Prop), KidsL W P l A i → ∃ b o A' c', A = some ⟨b, o, none⟩ ∧ P b ∧ W.rangeAt b (o + 8 * (i + j)) (nodeC l[j] A' c') ∧ KidsL W P l[j].l A' 0 := by
    intro l
    induction l with
    | nil => intro i j h; exact absurd h (by simp)
    | cons n l ih =>
      intro i j h P hk
      rw [KidsL] at hk
      cases j with
      | zero =>
        obtain ⟨⟨b, o, A', c', h1, h2, h3, _, h5⟩, _⟩ := hk
        exact ⟨b, o, A', c', h1, h2, h3, by rw [← KidsN_eq]; exact h5⟩
      | succ j =>
        have := ih (i + 1) j (by simpa using h) P hk.2
        rw [show i + 1 + j = i + (j + 1) by omega] at this
        exact this
  obtain ⟨b, o, A', c', h1, h2, h3, h4⟩ := key l 0 j hj _ h
  rw [Nat.zero_add] at h3
  exact ⟨b, o, A', c', h1, Lib.hid ((HO.out.coldAll (Cold.kids A' l[j].l) h4).coldAll (Cold.at b (o + 8 * j) (nodeC l[j] A' c')) ⟨h2, h3⟩)⟩
theorem rule_at {w0 W : World} {X : List Nat} {S : World → Prop} {bs : List Bx} {rs : List Rw} {F : List Cold} {r : RuleT} {A B : Option Addr} {x : ElR} (HO : Hid (Own w0 X S bs rs F W)) (m : Cold.tree A B [] [x] ∈ F) :
    ∃ b, B = some ⟨b, 0, none⟩ ∧ Hid (Own w0 X S bs rs (Cold.at b 0 (ruleC x.1 x.2.1 x.2.2.1 x.2.2.2.1 x.2.2.2.2) :: Cold.kids x.2.1 x.1.l :: Cold.kids x.2.2.2.1 x.1.body.l :: F) W) := by
  have h := HO.out.cold _ m
  obtain ⟨b, e, hb, hc⟩ := h.rr (by simp [flatR, ruleC])
  have he := h.er x List.mem_cons_self
  refine ⟨b, e, Lib.hid (((HO.out.coldAll (Cold.kids x.2.2.2.1 x.1.body.l) he.2.2.2).coldAll (Cold.kids x.2.1 x.1.l) he.2.2.1).coldAll (Cold.at b 0 (ruleC x.1 x.2.1 x.2.2.1 x.2.2.2.1 x.2.2.2.2)) ⟨hb, fun i v hv => ?_⟩)⟩
  rw [Nat.zero_add]
  exact hc i v (by simpa [flatR] using hv)
theorem arm_parse1 {w0 w : World} {S : World → Prop} {bs : List Bx} {rs : List Rw} {F : List Cold} {T : Ending → World → Prop} {KF : FuncId} {args : Array Value} {src : List Nat} {A : Option Addr} {c : Nat} {r : RuleT} (HO : Hid (Own w0 [] S bs rs F w)) (hr : Hid (RB w w.heap.size A src)) (ht : treeS src = .ok ⟨[], [r]⟩) (hc : src.length ≤ c) (hlen : src.length ≤ 1000000) (hK : KF = 6) (hargs : args = #[.slice A src.length c])
    (hok : ∀ A' c1 B' c2 (x : ElR) W, x.1 = r → Hid (Own w0 [] S bs rs (Cold.tree A' B' [] [x] :: F) W) → T (.returned (.tuple #[.agg #[.slice A' 0 c1, .slice B' 1 c2], .nilIface])) W) : Calls Try.prog KF args w T := by
  refine arm_parse HO hr hc hlen hK hargs (fun p k b W HE _ => ?_) (fun fe re A' c1 B' c2 W HE _ HO => ?_)
  · have h := HE.out; rw [ht] at h; cases h
  · have h := HE.out
    rw [ht] at h
    injection h with h
    injection h with hf hr
    obtain rfl : fe = [] := List.map_eq_nil_iff.1 hf.symm
    obtain ⟨x, rfl⟩ : ∃ x, re = [x] := by
      match re, hr with
      | [x], _ => exact ⟨x, rfl⟩
    exact hok A' c1 B' c2 x W (by simpa using hr.symm) HO
set_option maxRecDepth 100000 in
set_option maxHeartbeats 3200000 in
theorem awake13_any (w : World) : Calls Try.prog 5 #[] w fun e w' => e = .returned (.bool true) ∧ Below w.heap.size w w' := by
  have HO : Hid (Own w [] (fun _ => True) [] [] [] w) := Lib.hid (Own.init trivial (fun _ _ _ _ _ => trivial))
  have hcv := fun (w : World) (C : Array Value) (n c : Nat) => Lib.run_convert_bytes_const (P := Try.prog) w 22 5 C n c Try.underlying22 Try.underlying5
  go_enter Try.func5, Try.ntmps5
  (repeat' (go_not_at_region 3; first | (with_reducible first | refine oXt ?_ | refine oXb ?_) | ((with_reducible refine ib_miss ?_ ?_); exact rfl) | ((first | ((with_reducible refine to_load ?_); first | refine oL1 HO rfl rfl ?_ | refine oL2 HO rfl rfl ?_ | refine oL3 HO rfl rfl ?_) | ((first | with_reducible refine oAl HO ?_); clear HO; intro _ HO)); (try simp only [Act.put, pS0, pS1, pS2])) | ((first | ((with_reducible refine to_store ?_); first | refine oT1 HO rfl rfl rfl ?_ | refine oT2 HO rfl rfl rfl (by rfl) ?_ | refine oT3 HO rfl rfl rfl rfl ?_) | with_reducible refine ab_drew HO ?_); clear HO; intro _ HO) | ((with_reducible refine ab_junk HO 9 ?_); clear HO; intro _ HO HB) | ((with_reducible refine ab_mark HO ?_); clear HO; intro _ HO HB) | ((go_big_may; first | (go_at_call 6; first | (refine arm_parse1 (src := src1) HO (Lib.hid (rb_mark (l := src1) (by decide) HB.out)) tree1 (by decide) (by decide) rfl rfl ?_; clear HO HB; intro At1 ct1 Bt1 dt1 xt _ hxt HO) | (refine arm_parse1 (src := src2) HO (Lib.hid (rb_mark (l := src2) (by decide) HB.out)) tree2 (by decide) (by decide) rfl rfl ?_; clear HO HB; intro Au1 cu1 Bu1 du1 xu _ hxu HO))) <;> (try dsimp only)) | go_values | go_skip | go_guarded | go_step | go_upon | (go_ite <;> go_prune <;> (try go_simp))))
  obtain ⟨r1, At, ct, Bt, dt⟩ := xt
  obtain ⟨r2, Au, cu, Bu, du⟩ := xu
  dsimp only at hxt hxu
  subst hxt hxu
  obtain ⟨b1, rfl, HO1⟩ := rule_at (r := rule1) (x := (rule1, At, ct, Bt, dt)) HO (by repeat (first | exact mH | apply mT))
  obtain ⟨b2, rfl, HO2⟩ := rule_at (r := rule2) (x := (rule2, Au, cu, Bu, du)) HO1 (by repeat (first | exact mH | apply mT))
  obtain ⟨b3, o3, A3, c3, e3, HO3⟩ := kid_at HO2 (A := Bu) (l := [.mk 54 2 [] 0 0 [asg2]]) (by repeat (first | exact mH | apply mT)) 0 (by decide)
  obtain ⟨b4, o4, A4, c4, e4, HO4⟩ := kid_at HO3 (A := A3) (l := [asg2]) (by repeat (first | exact mH | apply mT)) 0 (by decide)
  obtain ⟨b5, o5, A5, c5, e5, HO5⟩ := kid_at HO4 (A := A4) (l := [.mk 4 2 [97] 0 0 [], .mk 14 6 [] 0 0 [.mk 4 6 [98] 0 0 [], .mk 15 8 [43] 0 0 [.mk 4 8 [99] 0 0 [], .mk 1 12 [] 1000000 0 []]]]) (by repeat (first | exact mH | apply mT)) 1 (by decide)
  obtain ⟨b6, o6, A6, c6, e6, HO⟩ := kid_at HO5 (A := At) (l := [.mk 13 0 [62] 0 0 [.mk 6 0 [] 0 0 [.mk 1 1 [] 1000000 0 []], .mk 1 5 [] 2000000 0 []]]) (by repeat (first | exact mH | apply mT)) 0 (by decide)
  clear HO1 HO2 HO3 HO4 HO5
  subst e3 e4 e5 e6
  simp only [ruleC, nodeC, rule1, rule2, asg2, NodeT.k, NodeT.at', NodeT.s, NodeT.z, NodeT.i, NodeT.l, List.length_cons, List.length_nil, List.getElem_cons_zero, List.getElem_cons_succ, Nat.mul_zero, Nat.add_zero, Nat.mul_one] at HO
  (repeat' (first | (with_reducible first | refine oXt ?_ | refine oXb ?_) | ((with_reducible refine ib_miss ?_ ?_); exact rfl) | ((first | ((with_reducible refine to_load ?_); first | refine oL1 HO rfl rfl ?_ | refine oL2 HO rfl rfl ?_ | refine oL3 HO rfl rfl ?_ | refine oC1 HO rfl rfl ?_ | refine oC2 HO rfl rfl ?_) | ((first | with_reducible refine oAl HO ?_); clear HO; intro _ HO)); (try simp only [Act.put, pS0, pS1, pS2])) | ((first | ((with_reducible refine to_store ?_); first | refine oT1 HO rfl rfl rfl ?_ | refine oT2 HO rfl rfl rfl (by rfl) ?_ | refine oT3 HO rfl rfl rfl rfl ?_) | with_reducible refine ab_drew HO ?_); clear HO; intro _ HO) | ((with_reducible refine ab_junk HO 9 ?_); clear HO; intro _ HO HB) | go_values | go_skip | go_guarded | go_step | go_upon | (go_ite <;> go_prune <;> (try go_simp))))
  refine bp_tmp (t := 0) rfl rfl rfl ?_
  exact ⟨rfl, HO.out.kept.below⟩
end Go.Proofs.Ytdiibenofbcfnaa
