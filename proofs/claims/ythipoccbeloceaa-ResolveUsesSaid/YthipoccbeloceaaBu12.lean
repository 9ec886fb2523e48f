/- Several texts put together: RtI. -/
import Derived.Test.YthipoccbeloceaaBu6
import Derived.Test.YthipoccbeloceaaBu3
import Derived.Test.YthipoccbeloceaaBu7
set_option linter.unusedSimpArgs false
set_option linter.unusedVariables false
namespace Go.Proofs.Ythipoccbeloceaa
open Go.RowKit
theorem wd_eqR {x y : List Nat} (hx : ∀ a ∈ x, a < 256) (hy : ∀ a ∈ y, a < 256) : ((strN x).toList == y.map UInt8.ofNat) = decide (x = y) := by
  rw [← strN_list y]
  exact strN_beq hx hy
def TrAt (w : World) (P : Nat → Prop) (AF AR : Option Addr) (nF nR : Nat) (t : TreeT) : Prop := ∃ (fe : List ElF) (re : List ElR), t = ⟨fe.map (·.1), re.map (·.1)⟩ ∧ nF = fe.length ∧ nR = re.length ∧ TreeAt w P AF AR fe re
theorem flatF_get : ∀ (fe : List ElF) (i j : Nat) (x : ElF), fe[i]? = some x → j < 11 → (flatF fe)[i * 11 + j]? = (funcC x.1 x.2.1 x.2.2.1 x.2.2.2.1 x.2.2.2.2)[j]?
  | [], i, j, x, h, _ => by simp at h
  | y :: fe, 0, j, x, h, hj => by
    simp at h
    subst h
    unfold flatF
    rw [List.flatMap_cons, Nat.zero_mul, Nat.zero_add, List.getElem?_append_left (by simpa [funcC] using hj)]
  | y :: fe, i + 1, j, x, h, hj => by
    have ih := flatF_get fe i j x (by simpa using h) hj
    unfold flatF at ih ⊢
    rw [List.flatMap_cons, List.getElem?_append_right (by simp [funcC]; omega)]
    rw [← ih]
    congr 1
    simp [funcC]
    omega
theorem TrAt.func {w : World} {P : Nat → Prop} {AF AR : Option Addr} {nF nR : Nat} {t : TreeT} (h : TrAt w P AF AR nF nR t) {i : Nat} {f : FuncT} (hf : t.funcs[i]? = some f) : nF = t.funcs.length ∧ ∃ b A c B e, AF = some ⟨b, 0, none⟩ ∧ P b ∧ (∀ j u, (funcC f A c B e)[j]? = some u → w.cell? ⟨b, i * 11 + j, none⟩ = some u) ∧ ElF.ok w P (f, A, c, B, e) := by
  obtain ⟨fe, re, rfl, hn, _, hT⟩ := h
  have hx : (fe.map (·.1))[i]? = some f := hf
  rw [List.getElem?_map] at hx
  obtain ⟨⟨f', A, c, B, e⟩, hy, rfl⟩ := Option.map_eq_some_iff.1 hx
  have hne : flatF fe ≠ [] := by
    intro h0
    have := flatF_get fe i 0 _ hy (by decide)
    rw [h0] at this
    simp [funcC] at this
  obtain ⟨b, hA, hb, hc⟩ := hT.rf hne
  refine ⟨by rw [hn]; simp, b, A, c, B, e, hA, hb, fun j u hu => ?_, hT.ef _ (List.mem_of_getElem? hy)⟩
  have hj : j < 11 := by
    rcases Nat.lt_or_ge j 11 with h | h
    · exact h
    · rw [List.getElem?_eq_none (by simpa [funcC] using h)] at hu; cases hu
  exact hc _ u (by rw [flatF_get fe i j _ hy hj]; exact hu)
theorem fnOf_lt {t : TreeT} {s : List Nat} {j : Nat} (h : fnOf t s = some j) : j < t.funcs.length := by
  have := (posF_lt _ _ _ _ h).2.1
  rw [List.length_map] at this
  omega
set_option maxRecDepth 100000 in
set_option maxHeartbeats 3200000 in
theorem counts_any {g nF cF nR cR cP mf mg ma mh : Nat} {AF AR AP : Option Addr} {vL vQ : Value} {xt : List Bx} {ms : List (Nat × List (Value × Value))} {X : List Nat} {t : TreeT} {p : Pl} {v : Value} (w : World) (hs : SX (⟨g, 68, [.slice AF nF cF, .slice AR nR cR, .map (some mf), .slice AP nF cP, .map (some mg), vL, .map (some ma), .map (some mh), vQ]⟩ :: xt) ms X w.heap.size w) (hp : PlAt w (Eld w X) p v) (hf : FmAt w (Eld w X) mf t) (ht : TrAt w (Eld w X) AF AR nF nR t) (hby : byteOk p.n.s) (hl : p.n.l.length ≤ 1000000) (hn : nF ≤ 1000000) (hun : unknownB t p = false) :
    Calls Try.prog 17 #[.pointer (some ⟨g, 0, none⟩), v] w (RdV X (SX (⟨g, 68, [.slice AF nF cF, .slice AR nR cR, .map (some mf), .slice AP nF cP, .map (some mg), vL, .map (some ma), .map (some mh), vQ]⟩ :: xt) ms X w.heap.size) (.bool (countsB t p)) w) := by
  have HO := hs.own
  obtain ⟨b, o, A, c, u, rfl, hn1, hu⟩ := hp
  have HN := Lib.hid hn1
  have HM := Lib.hid hf
  have HB := Lib.hid hby
  have HT := Lib.hid ht
  clear hs hn1 hu hf hby ht
  unfold countsB
  cases hk : ((p.n.k : Int) == 18)
  · cases hk9 : ((p.n.k : Int) == 19)
    · go_enter Try.func17, Try.ntmps17
      (repeat' (first | ((with_reducible refine zG ?_); first | refine oWx ?_ | (refine oWs ?_; clear HO; intro _ HO)) | ((with_reducible refine to_load ?_); (first | first | refine oN0 HO rfl rfl HN ?_ | refine oNj HO rfl rfl HN rfl rfl ?_ | refine oY1 HO rfl rfl ?_ | refine oY3 HO rfl rfl ?_); (try simp only [Act.put, pS])) | go_values | go_skip | go_guarded | go_step | go_upon | (go_ite <;> go_prune <;> (try go_simp))))
      refine bp_tmp (t := 4) rfl rfl rfl ?_
      exact ⟨by simp, HO.out.kept, HO.out.st⟩
    · have hwd := fun y hy => wd_eqR HB.out (y := y) hy
      have w0 := hwd [108, 101, 110, 103, 116, 104] (by decide)
      have w1 := hwd [115, 117, 98, 115, 116, 114] (by decide)
      have w2 := hwd [115, 112, 108, 105, 116] (by decide)
      have w3 := hwd [115, 117, 98] (by decide)
      have w4 := hwd [103, 115, 117, 98] (by decide)
      have w5 := hwd [105, 110, 100, 101, 120] (by decide)
      have w6 := hwd [109, 97, 116, 99, 104] (by decide)
      have w7 := hwd [115, 112, 114, 105, 110, 116, 102] (by decide)
      have w8 := hwd [105, 110, 116] (by decide)
      have w9 := hwd [116, 111, 108, 111, 119, 101, 114] (by decide)
      have w10 := hwd [116, 111, 117, 112, 112, 101, 114] (by decide)
      have w11 := hwd [99, 108, 111, 115, 101] (by decide)
      clear hwd HM HT hun
      generalize hsv : p.n.s = s at *
      go_enter Try.func17, Try.ntmps17
      (repeat' (first | ((with_reducible refine zG ?_); first | refine oWx ?_ | (refine oWs ?_; clear HO; intro _ HO)) | ((with_reducible refine to_load ?_); (first | first | refine oN0 HO rfl rfl HN ?_ | refine oNj HO rfl rfl HN rfl rfl ?_ | refine oY1 HO rfl rfl ?_ | refine oY3 HO rfl rfl ?_); (try simp only [Act.put, pS])) | go_values | go_skip | go_guarded | go_step | go_upon | (go_ite <;> go_prune <;> (try go_simp))))
      all_goals
        refine bp_tmp (t := 4) rfl rfl rfl ?_
        refine ⟨?_, HO.out.kept, HO.out.st⟩
        clear HO
        simp_all [boundsB]
  · have hfs : ∃ j, fnOf t p.n.s = some j := by
      unfold unknownB at hun
      rw [hk, Bool.true_and, Bool.not_eq_false'] at hun
      exact Option.isSome_iff_exists.1 hun
    obtain ⟨j, hj⟩ := hfs
    have hjl := fnOf_lt hj
    obtain ⟨hnF, b2, A2, c2, B2, e2, rfl, hb2, hc2, hok⟩ := HT.out.func (List.getElem?_eq_getElem hjl)
    have hlk : (lookK p.n.s (enumF (t.funcs.map (·.name)) 0)).getD (.int .i64 0) = .int .i64 (j : Int) := by rw [HM.out.look, hj]; rfl
    have hcell := hc2 1 _ rfl
    have hps : parsOf t ((some j).getD 0) = (t.funcs[j]).params := by unfold parsOf; rw [Option.getD_some, List.getElem?_eq_getElem hjl]
    have hjn : (j : Int) < (nF : Int) := by omega
    have HE2 := Lib.hid hb2
    rw [hj, hps]
    clear hps hok hc2 hun hj HT
    generalize (t.funcs[j]).params.length = pl at hcell ⊢
    clear hjl hnF hb2
    go_enter Try.func17, Try.ntmps17
    (repeat' (first | ((with_reducible refine zG ?_); first | refine oWx ?_ | (refine oWs ?_; clear HO; intro _ HO)) | ((with_reducible refine to_load ?_); (first | first | refine oN0 HO rfl rfl HN ?_ | refine oNj HO rfl rfl HN rfl rfl ?_ | refine oY1 HO rfl rfl ?_ | refine oY3 HO rfl rfl ?_); (try simp only [Act.put, pS])) | go_values | go_skip | go_guarded | go_step | go_upon | (go_ite <;> go_prune <;> (try go_simp))))
    (refine qBe HO (by kernel_rfl) ?_); (repeat' (first | ((with_reducible refine qNi ?_); (clear HO; intro _ HO)) | ((with_reducible refine qSt ?_); first | ((first | ((with_reducible refine qLd ?_); first | ((with_reducible refine qGd ?_); (with_reducible refine qSk ?_ ?_); focus rfl) | refine qL1 (by rfl) rfl rfl ?_ | refine qL3 (by rfl) rfl rfl ?_ | refine qY1 (by rfl) rfl rfl ?_ | refine qN0 HN (by rfl) rfl rfl ?_ | refine qNj HN (by rfl) rfl rfl rfl rfl ?_ | refine qE1 HE2.out hcell (by rfl) rfl rfl ?_) | ((with_reducible refine qLk ?_); first | ((with_reducible refine qGd ?_); (with_reducible refine qSk ?_ ?_); focus rfl) | refine qVa (by rfl) (rke3 keyStr Try.underlying62 zInt rfl rfl rfl HM.out.hb HM.out.ok HB.out hlk) ?_) | ((with_reducible refine qFd ?_); first | ((with_reducible refine qGd ?_); (with_reducible refine qSk ?_ ?_); focus rfl) | refine qVa (by rfl) (rFi rfl rfl ⟨_, _, _, _, _, _, _, rfl, rfl, inferInstance⟩) ?_) | ((with_reducible refine qCl ?_); first | ((with_reducible refine qGd ?_); (with_reducible refine qSk ?_ ?_); focus rfl)) | ((fail_if_success (with_reducible refine qLd ?_)); (fail_if_success (with_reducible refine qLk ?_)); (fail_if_success (with_reducible refine qCl ?_)); first | ((with_reducible refine qGd ?_); (with_reducible refine qSk ?_ ?_); focus rfl) | refine qVa (by rfl) (by intro _ _; go_simp; (try with_reducible rfl)) ?_)); (try simp only [Act.put, pS])))))
    (repeat' (first | ((with_reducible refine zG ?_); first | refine oWx ?_ | (refine oWs ?_; clear HO; intro _ HO)) | ((with_reducible refine to_load ?_); (first | first | refine oN0 HO rfl rfl HN ?_ | refine oNj HO rfl rfl HN rfl rfl ?_ | refine oY1 HO rfl rfl ?_ | refine oY3 HO rfl rfl ?_); (try simp only [Act.put, pS])) | go_values | go_skip | go_guarded | go_step | go_upon | (go_ite <;> go_prune <;> (try go_simp))))
    refine bp_tmp (t := 4) rfl rfl rfl ?_
    exact ⟨by simp, HO.out.kept, HO.out.st⟩
end Go.Proofs.Ythipoccbeloceaa
