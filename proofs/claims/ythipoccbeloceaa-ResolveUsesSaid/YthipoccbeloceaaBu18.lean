/- Several texts put together: RtJ. -/
import Derived.Test.YthipoccbeloceaaBu12
set_option linter.unusedSimpArgs false
set_option linter.unusedVariables false
namespace Go.Proofs.Ythipoccbeloceaa
open Go.RowKit
attribute [local irreducible] WQ
set_option maxRecDepth 100000 in
set_option maxHeartbeats 6400000 in
theorem form_any {g nF cF nR cR cP mf mg ma mh : Nat} {AF AR AP : Option Addr} {vL vQ : Value} {xt : List Bx} {ms : List (Nat × List (Value × Value))} {X : List Nat} {p : Pl} {v : Value} (w : World) (hs : SX (⟨g, 68, [.slice AF nF cF, .slice AR nR cR, .map (some mf), .slice AP nF cP, .map (some mg), vL, .map (some ma), .map (some mh), vQ]⟩ :: xt) ms X w.heap.size w) (hp : PlAt w (Eld w X) p v) (hby : byteOk p.n.s) (hl : p.n.l.length ≤ 1000000) :
    Calls Try.prog 19 #[.pointer (some ⟨g, 0, none⟩), v] w (RdV X (SX (⟨g, 68, [.slice AF nF cF, .slice AR nR cR, .map (some mf), .slice AP nF cP, .map (some mg), vL, .map (some ma), .map (some mh), vQ]⟩ :: xt) ms X w.heap.size) (.bool (formB p)) w) := by
  have HO := hs.own
  obtain ⟨b, o, A, c, u, rfl, hn1, hu⟩ := hp
  have HN := Lib.hid hn1
  have HB := Lib.hid hby
  clear hs hu hby
  unfold formB
  cases k51 : ((p.n.k : Int) == 51)
  rotate_left
  ·
    go_enter Try.func19, Try.ntmps19
    (repeat' (first | ((with_reducible refine zG ?_); first | refine oWx ?_ | (refine oWs ?_; clear HO; intro _ HO)) | ((with_reducible refine to_load ?_); (first | first | refine oN0 HO rfl rfl HN ?_ | refine oNj HO rfl rfl HN rfl rfl ?_ | refine oY1 HO rfl rfl ?_ | refine oY3 HO rfl rfl ?_); (try simp only [Act.put, pS])) | go_values | go_skip | go_guarded | go_step | go_upon | (go_ite <;> go_prune <;> (try go_simp))))
    refine bp_tmp (t := 4) rfl rfl rfl ?_
    exact ⟨by simp [*], HO.out.kept, HO.out.st⟩
  cases k47 : ((p.n.k : Int) == 47)
  rotate_left
  ·
    go_enter Try.func19, Try.ntmps19
    (repeat' (first | ((with_reducible refine zG ?_); first | refine oWx ?_ | (refine oWs ?_; clear HO; intro _ HO)) | ((with_reducible refine to_load ?_); (first | first | refine oN0 HO rfl rfl HN ?_ | refine oNj HO rfl rfl HN rfl rfl ?_ | refine oY1 HO rfl rfl ?_ | refine oY3 HO rfl rfl ?_); (try simp only [Act.put, pS])) | go_values | go_skip | go_guarded | go_step | go_upon | (go_ite <;> go_prune <;> (try go_simp))))
    refine bp_tmp (t := 4) rfl rfl rfl ?_
    exact ⟨by simp [*], HO.out.kept, HO.out.st⟩
  cases k48 : ((p.n.k : Int) == 48)
  rotate_left
  ·
    go_enter Try.func19, Try.ntmps19
    (repeat' (first | ((with_reducible refine zG ?_); first | refine oWx ?_ | (refine oWs ?_; clear HO; intro _ HO)) | ((with_reducible refine to_load ?_); (first | first | refine oN0 HO rfl rfl HN ?_ | refine oNj HO rfl rfl HN rfl rfl ?_ | refine oY1 HO rfl rfl ?_ | refine oY3 HO rfl rfl ?_); (try simp only [Act.put, pS])) | go_values | go_skip | go_guarded | go_step | go_upon | (go_ite <;> go_prune <;> (try go_simp))))
    refine bp_tmp (t := 4) rfl rfl rfl ?_
    exact ⟨by simp [*], HO.out.kept, HO.out.st⟩
  cases k49 : ((p.n.k : Int) == 49)
  rotate_left
  · cases hf0 : decide (0 ≤ p.fn) <;> (have hf1 := hf0) <;> (simp only [decide_eq_true_eq, decide_eq_false_iff_not] at hf1)
    all_goals
      go_enter Try.func19, Try.ntmps19
      (repeat' (first | ((with_reducible refine zG ?_); first | refine oWx ?_ | (refine oWs ?_; clear HO; intro _ HO)) | ((with_reducible refine to_load ?_); (first | first | refine oN0 HO rfl rfl HN ?_ | refine oNj HO rfl rfl HN rfl rfl ?_ | refine oY1 HO rfl rfl ?_ | refine oY3 HO rfl rfl ?_); (try simp only [Act.put, pS])) | go_values | go_skip | go_guarded | go_step | go_upon | (go_ite <;> go_prune <;> (try go_simp))))
      refine bp_tmp (t := 4) rfl rfl rfl ?_
      exact ⟨by simp [*], HO.out.kept, HO.out.st⟩
  cases k7 : ((p.n.k : Int) == 7)
  rotate_left
  ·
    go_enter Try.func19, Try.ntmps19
    (repeat' (first | ((with_reducible refine zG ?_); first | refine oWx ?_ | (refine oWs ?_; clear HO; intro _ HO)) | ((with_reducible refine to_load ?_); (first | first | refine oN0 HO rfl rfl HN ?_ | refine oNj HO rfl rfl HN rfl rfl ?_ | refine oY1 HO rfl rfl ?_ | refine oY3 HO rfl rfl ?_); (try simp only [Act.put, pS])) | ((go_big_may; first | (go_at_call 36; refine (target_any _ (by omega) (by omega) hl _ (HN.out.st (HO.out.eld (fun _ h => by cases h)))).mono ?_; rintro e W ⟨rfl, q⟩; replace HO := Lib.hid (HO.out.next q); clear q)) <;> (try dsimp only)) | go_values | go_skip | go_guarded | go_step | go_upon | (go_ite <;> go_prune <;> (try go_simp))))
    refine bp_tmp (t := 4) rfl rfl rfl ?_
    exact ⟨by simp [*], HO.out.kept, HO.out.st⟩
  cases k17 : ((p.n.k : Int) == 17)
  rotate_left
  ·
    go_enter Try.func19, Try.ntmps19
    (repeat' (first | ((with_reducible refine zG ?_); first | refine oWx ?_ | (refine oWs ?_; clear HO; intro _ HO)) | ((with_reducible refine to_load ?_); (first | first | refine oN0 HO rfl rfl HN ?_ | refine oNj HO rfl rfl HN rfl rfl ?_ | refine oY1 HO rfl rfl ?_ | refine oY3 HO rfl rfl ?_); (try simp only [Act.put, pS])) | ((go_big_may; first | (go_at_call 36; refine (target_any _ (by omega) (by omega) hl _ (HN.out.st (HO.out.eld (fun _ h => by cases h)))).mono ?_; rintro e W ⟨rfl, q⟩; replace HO := Lib.hid (HO.out.next q); clear q)) <;> (try dsimp only)) | go_values | go_skip | go_guarded | go_step | go_upon | (go_ite <;> go_prune <;> (try go_simp))))
    refine bp_tmp (t := 4) rfl rfl rfl ?_
    exact ⟨by simp [*], HO.out.kept, HO.out.st⟩
  cases k20 : ((p.n.k : Int) == 20)
  rotate_left
  · have hw1 : IntKind.i64.wrap ((p.n.l.length : Int) - 1) = (p.n.l.length : Int) - 1 := IntWalk.i64_in _ (by omega)
    rcases Nat.mod_two_eq_zero_or_one p.n.i with m0 | m0
    case' inl => have m1 : Int.tmod (p.n.i : Int) 2 = 0 := by rw [Int.tmod_eq_emod_of_nonneg (by omega)]; omega
    case' inr => have m1 : Int.tmod (p.n.i : Int) 2 = 1 := by rw [Int.tmod_eq_emod_of_nonneg (by omega)]; omega
    all_goals
      replace m0 := Lib.hid m0
      clear hn1
      go_enter Try.func19, Try.ntmps19
      (repeat' (first | ((with_reducible refine zG ?_); first | refine oWx ?_ | (refine oWs ?_; clear HO; intro _ HO)) | ((with_reducible refine to_load ?_); (first | first | refine oN0 HO rfl rfl HN ?_ | refine oNj HO rfl rfl HN rfl rfl ?_ | refine oY1 HO rfl rfl ?_ | refine oY3 HO rfl rfl ?_); (try simp only [Act.put, pS])) | go_values | go_skip | go_guarded | go_step | go_upon | (go_ite <;> go_prune <;> (try go_simp))))
      (refine qBe HO (by kernel_rfl) ?_); (repeat' (first | ((with_reducible refine qNi ?_); (clear HO; intro _ HO)) | ((with_reducible refine qSt ?_); first | ((first | ((with_reducible refine qLd ?_); first | ((with_reducible refine qGd ?_); (with_reducible refine qSk ?_ ?_); focus rfl) | refine qL1 (by rfl) rfl rfl ?_ | refine qL3 (by rfl) rfl rfl ?_ | refine qN0 HN (by rfl) rfl rfl ?_ | refine qNj HN (by rfl) rfl rfl rfl rfl ?_) | ((with_reducible refine qLk ?_); first | ((with_reducible refine qGd ?_); (with_reducible refine qSk ?_ ?_); focus rfl)) | ((with_reducible refine qFd ?_); first | ((with_reducible refine qGd ?_); (with_reducible refine qSk ?_ ?_); focus rfl) | refine qVa (by rfl) (rFi rfl rfl ⟨_, _, _, _, _, _, _, rfl, rfl, inferInstance⟩) ?_) | ((with_reducible refine qCl ?_); first | ((with_reducible refine qGd ?_); (with_reducible refine qSk ?_ ?_); focus rfl) | (refine' qCa (by rfl) (by intro _ _; go_simp; (try first | with_reducible rfl | exact ⟨rfl, rfl⟩)) ?_ ?_; rotate_left; ((intro w9 HO9; go_at_call 36; refine (target_any _ (by omega) (by omega) hl _ (HN.out.st (HO9.out.eld (fun _ h => by cases h)))).mono ?_; rintro e W ⟨rfl, q⟩; exact ⟨rfl, Lib.hid (HO9.out.next q)⟩)))) | ((fail_if_success (with_reducible refine qLd ?_)); (fail_if_success (with_reducible refine qLk ?_)); (fail_if_success (with_reducible refine qCl ?_)); first | ((with_reducible refine qGd ?_); (with_reducible refine qSk ?_ ?_); focus rfl) | refine qVa (by rfl) (by intro _ _; go_simp; (try with_reducible rfl)) ?_)); (try simp only [Act.put, pS])))))
      all_goals ((repeat' (first | ((with_reducible refine zG ?_); first | refine oWx ?_ | (refine oWs ?_; clear HO; intro _ HO)) | ((with_reducible refine to_load ?_); (first | first | refine oN0 HO rfl rfl HN ?_ | refine oNj HO rfl rfl HN rfl rfl ?_ | refine oY1 HO rfl rfl ?_ | refine oY3 HO rfl rfl ?_); (try simp only [Act.put, pS])) | go_values | go_skip | go_guarded | go_step | go_upon | (go_ite <;> go_prune <;> (try go_simp)))))
      all_goals (replace m0 := m0.out; refine bp_tmp (t := 4) rfl rfl rfl ?_; exact ⟨by simp [*], HO.out.kept, HO.out.st⟩)
  cases k19 : ((p.n.k : Int) == 19)
  ·
    go_enter Try.func19, Try.ntmps19
    (repeat' (first | ((with_reducible refine zG ?_); first | refine oWx ?_ | (refine oWs ?_; clear HO; intro _ HO)) | ((with_reducible refine to_load ?_); (first | first | refine oN0 HO rfl rfl HN ?_ | refine oNj HO rfl rfl HN rfl rfl ?_ | refine oY1 HO rfl rfl ?_ | refine oY3 HO rfl rfl ?_); (try simp only [Act.put, pS])) | go_values | go_skip | go_guarded | go_step | go_upon | (go_ite <;> go_prune <;> (try go_simp))))
    refine bp_tmp (t := 4) rfl rfl rfl ?_
    exact ⟨by simp [*], HO.out.kept, HO.out.st⟩
  have hwd := fun y hy => wd_eqR HB.out (y := y) hy
  have w0 : ((strN p.n.s).toList == ([115, 117, 98] : List UInt8)) = decide (p.n.s = [115, 117, 98]) := hwd [115, 117, 98] (by decide)
  have w1 : ((strN p.n.s).toList == ([103, 115, 117, 98] : List UInt8)) = decide (p.n.s = [103, 115, 117, 98]) := hwd [103, 115, 117, 98] (by decide)
  have w2 : ((strN p.n.s).toList == ([115, 112, 108, 105, 116] : List UInt8)) = decide (p.n.s = [115, 112, 108, 105, 116]) := hwd [115, 112, 108, 105, 116] (by decide)
  clear hwd
  cases s0 : decide (p.n.s = [115, 117, 98]) <;> cases s1 : decide (p.n.s = [103, 115, 117, 98])
  · cases s2 : decide (p.n.s = [115, 112, 108, 105, 116])
    · rw [s0] at w0
      rw [s1] at w1
      rw [s2] at w2
      rw [decide_eq_false_iff_not] at s0 s1 s2
      go_enter Try.func19, Try.ntmps19
      (repeat' (first | ((with_reducible refine zG ?_); first | refine oWx ?_ | (refine oWs ?_; clear HO; intro _ HO)) | ((with_reducible refine to_load ?_); (first | first | refine oN0 HO rfl rfl HN ?_ | refine oNj HO rfl rfl HN rfl rfl ?_ | refine oY1 HO rfl rfl ?_ | refine oY3 HO rfl rfl ?_); (try simp only [Act.put, pS])) | go_values | go_skip | go_guarded | go_step | go_upon | (go_ite <;> go_prune <;> (try go_simp))))
      refine bp_tmp (t := 4) rfl rfl rfl ?_
      exact ⟨by simp [*], HO.out.kept, HO.out.st⟩
    · rw [s0] at w0
      rw [s1] at w1
      rw [s2] at w2
      rw [decide_eq_false_iff_not] at s0 s1
      replace s2 := Lib.hid (of_decide_eq_true s2)
      rcases Nat.lt_or_ge 1 p.n.l.length with h1 | h1
      · obtain ⟨b2, o2, A2, c2, rfl, hk2⟩ := hn1.kid 1 h1
        have HK := Lib.hid hk2
        have h1I : (1 : Int) < (p.n.l.length : Int) := by omega
        have e1 : p.n.l[1]? = some p.n.l[1] := List.getElem?_eq_getElem h1
        generalize hx1 : p.n.l[1] = x1 at HK e1
        clear hk2 hn1
        go_enter Try.func19, Try.ntmps19
        (repeat' (first | ((with_reducible refine zG ?_); first | refine oWx ?_ | (refine oWs ?_; clear HO; intro _ HO)) | ((with_reducible refine to_load ?_); (first | first | refine oN0 HO rfl rfl HN ?_ | refine oNj HO rfl rfl HN rfl rfl ?_ | refine oN0 HO rfl rfl HK ?_); (try simp only [Act.put, pS])) | go_values | go_skip | go_guarded | go_step | go_upon | (go_ite <;> go_prune <;> (try go_simp))))
        all_goals (replace s2 := s2.out; refine bp_tmp (t := 4) rfl rfl rfl ?_; exact ⟨by (try simp only [e1]); simp [s2, hx1, k19, k20, k17, k7, k49, k48, k47, k51, bne], HO.out.kept, HO.out.st⟩)
      · have h1I : ¬ (1 : Int) < (p.n.l.length : Int) := by omega
        have e1 : p.n.l[1]? = none := List.getElem?_eq_none h1
        clear hn1
        go_enter Try.func19, Try.ntmps19
        (repeat' (first | ((with_reducible refine zG ?_); first | refine oWx ?_ | (refine oWs ?_; clear HO; intro _ HO)) | ((with_reducible refine to_load ?_); (first | first | refine oN0 HO rfl rfl HN ?_ | refine oNj HO rfl rfl HN rfl rfl ?_ | refine oY1 HO rfl rfl ?_ | refine oY3 HO rfl rfl ?_); (try simp only [Act.put, pS])) | go_values | go_skip | go_guarded | go_step | go_upon | (go_ite <;> go_prune <;> (try go_simp))))
        replace s2 := s2.out
        refine bp_tmp (t := 4) rfl rfl rfl ?_
        exact ⟨by simp [*], HO.out.kept, HO.out.st⟩
  all_goals
    rw [s0] at w0
    rw [s1] at w1
    clear w2 hn1
    rcases Nat.lt_or_ge 2 p.n.l.length with h2 | h2
    case' inl => have h2I : (2 : Int) < (p.n.l.length : Int) := by omega
    case' inr => have h2I : ¬ (2 : Int) < (p.n.l.length : Int) := by omega
    all_goals
      go_enter Try.func19, Try.ntmps19
      (repeat' (first | ((with_reducible refine zG ?_); first | refine oWx ?_ | (refine oWs ?_; clear HO; intro _ HO)) | ((with_reducible refine to_load ?_); (first | first | refine oN0 HO rfl rfl HN ?_ | refine oNj HO rfl rfl HN rfl rfl ?_ | refine oY1 HO rfl rfl ?_ | refine oY3 HO rfl rfl ?_); (try simp only [Act.put, pS])) | ((go_big_may; first | (go_at_call 36; refine (target_any _ (by omega) (by omega) hl _ (HN.out.st (HO.out.eld (fun _ h => by cases h)))).mono ?_; rintro e W ⟨rfl, q⟩; replace HO := Lib.hid (HO.out.next q); clear q)) <;> (try dsimp only)) | go_values | go_skip | go_guarded | go_step | go_upon | (go_ite <;> go_prune <;> (try go_simp))))
      all_goals (refine bp_tmp (t := 4) rfl rfl rfl ?_; refine ⟨?_, HO.out.kept, HO.out.st⟩; (try simp at s0 s1); first | (simp [*]; done) | exact absurd (Or.inl s0) (by assumption) | exact absurd (Or.inr s1) (by assumption))
end Go.Proofs.Ythipoccbeloceaa
