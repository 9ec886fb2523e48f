/- Several texts put together: RtL. -/
import Derived.Test.YthipoccbeloceaaBu7
set_option linter.unusedSimpArgs false
set_option linter.unusedVariables false
namespace Go.Proofs.Ythipoccbeloceaa
open Go.RowKit
theorem FmAt.st {w w' : World} {P P' : Nat → Prop} {mf : Nat} {t : TreeT} (hF : ∀ b, P b → P' b ∧ w'.heap[b]? = w.heap[b]?) (h : FmAt w P mf t) : FmAt w' P' mf t := ⟨⟨(hF _ h.hb.1).1, (hF _ h.hb.1).2.trans h.hb.2⟩, h.ok⟩
theorem PmAt.st {w w' : World} {P P' : Nat → Prop} {AP : Option Addr} {nF : Nat} {t : TreeT} (hF : ∀ b, P b → P' b ∧ w'.heap[b]? = w.heap[b]?) (h : PmAt w P AP nF t) : PmAt w' P' AP nF t :=
  ⟨h.n, fun i f hf => by
    obtain ⟨b, m, e, hb, hc, hm, ho⟩ := h.get i f hf
    exact ⟨b, m, e, (hF _ hb).1, (World.cell?_of_block (hF _ hb).2).trans hc, ⟨(hF _ hm.1).1, (hF _ hm.1).2.trans hm.2⟩, ho⟩⟩
theorem ret_b {b c : Bool} (h : b = c) : Ending.returned (.bool b) = .returned (.bool c) := by rw [h]
theorem mis_c0 (D R : Bool) : (D = false) ∨ (D = true ∧ R = false) ∨ (D = true ∧ R = true) := by cases D <;> cases R <;> simp
theorem mis_c1 (A B D R N S I : Bool) : (A = true ∧ B = true ∧ D = true) ∨ (A = true ∧ B = true ∧ D = false) ∨ (A = false ∧ D = false) ∨ (A = true ∧ B = false ∧ D = false) ∨ (A = false ∧ D = true ∧ R = false) ∨ (A = true ∧ B = false ∧ D = true ∧ R = false) ∨ (A = true ∧ B = false ∧ D = true ∧ R = true) ∨ (A = false ∧ D = true ∧ R = true ∧ N = false) ∨ (A = false ∧ D = true ∧ R = true ∧ N = true ∧ S = false) ∨ (A = false ∧ D = true ∧ R = true ∧ N = true ∧ S = true ∧ I = false) ∨ (A = false ∧ D = true ∧ R = true ∧ N = true ∧ S = true ∧ I = true) := by
  cases A <;> cases B <;> cases D <;> cases R <;> cases N <;> cases S <;> cases I <;> simp
theorem by19 {k : Nat} (h : ((k : Int) == 18) = true) : ((k : Int) == 19) = false := by rw [beq_eq_false_iff_ne]; have := beq_iff_eq.1 h; omega
attribute [local irreducible] WQ
set_option maxRecDepth 100000 in
set_option maxHeartbeats 6400000 in
theorem misused_any {g nF cF nR cR cP mf mg ma mh : Nat} {AF AR AP : Option Addr} {vL vQ : Value} {xt : List Bx} {X : List Nat} {L : List (List Nat)} {arr : List Rf} {hl : List (Value × Value)} {t : TreeT} {p : Pl} {v : Value} {q : List Rf} {hd : List (Rf × Rf)} (w : World) (hs : SX (⟨g, 68, [.slice AF nF cF, .slice AR nR cR, .map (some mf), .slice AP nF cP, .map (some mg), vL, .map (some ma), .map (some mh), vQ]⟩ :: xt) [(mg, encK strV (enumF L 0)), (ma, encK refV (arrE arr)), (mh, hl)] X w.heap.size w) (hp : PlAt w (Eld w X) p v) (hf : FmAt w (Eld w X) mf t) (hpm : PmAt w (Eld w X) AP nF t) (hfn : p.fn < (t.funcs.length : Int)) (hf1 : -1 ≤ p.fn) (hn2 : nF ≤ 1000000) (hby : byteOk p.n.s) (hbu : ∀ u, p.up = some u → byteOk u.s) (hLo : ∀ x ∈ enumF L 0, byteOk x.1) :
    Calls Try.prog 23 #[.pointer (some ⟨g, 0, none⟩), v] w (RdV X (SX (⟨g, 68, [.slice AF nF cF, .slice AR nR cR, .map (some mf), .slice AP nF cP, .map (some mg), vL, .map (some ma), .map (some mh), vQ]⟩ :: xt) [(mg, encK strV (enumF L 0)), (ma, encK refV (arrE arr)), (mh, hl)] X w.heap.size) (.bool (misusedB t ⟨L, arr, q, hd⟩ p)) w) := by
  have HO := hs.own
  obtain ⟨b, o, A, c, u, rfl, hn1, hu⟩ := hp
  have HN := Lib.hid hn1
  have HM := Lib.hid hf
  have HP := Lib.hid hpm
  have HB := Lib.hid hby
  have HL := Lib.hid hLo
  have HF1 := Lib.hid hfn
  have HF2 := Lib.hid hf1
  clear hs hn1 hf hpm hby hLo hfn hf1
  have e4 : misusedB t ⟨L, arr, q, hd⟩ p = if isHanded p && decide (paramOf t p ∈ arr) then !((p.n.k : Int) == 4) else if !((p.n.k : Int) == 4) || !decide (refS t L p.fn p.n.s ∈ arr) then false else !isSplit p := rfl
  rw [e4]
  clear e4
  cases hup : p.up with
  | none =>
    have hh : isHanded p = false := by unfold isHanded; rw [hup]
    have hsp : isSplit p = false := by unfold isSplit; rw [hup]
    rw [hup] at hu
    obtain rfl : u = .pointer none := hu
    rw [hh, hsp]
    clear hh hsp hup hbu HM
    rcases mis_c0 ((p.n.k : Int) == 4) (decide (refS t L p.fn p.n.s ∈ arr)) with h4 | ⟨h4, hr⟩ | ⟨h4, hr⟩
    all_goals
      (try rw [hr])
      rw [h4]
      go_enter Try.func23, Try.ntmps23
      (repeat' (first | ((with_reducible refine zG ?_); first | refine oWx ?_ | (refine oWs ?_; clear HO; intro _ HO)) | ((with_reducible refine to_load ?_); (first | first | refine oN0 HO rfl rfl HN ?_ | refine oNj HO rfl rfl HN rfl rfl ?_ | refine oY1 HO rfl rfl ?_ | refine oY3 HO rfl rfl ?_); (try simp only [Act.put, pS])) | go_values | go_skip | go_guarded | go_step | go_upon | (go_ite <;> go_prune <;> (try go_simp))))
      (refine qBe HO (by kernel_rfl) ?_); (repeat' (first | ((with_reducible refine qNi ?_); (clear HO; intro _ HO)) | ((with_reducible refine qSt ?_); first | ((first | ((with_reducible refine qLd ?_); first | ((with_reducible refine qGd ?_); (with_reducible refine qSk ?_ ?_); focus rfl) | refine qL1 (by rfl) rfl rfl ?_ | refine qL3 (by rfl) rfl rfl ?_ | refine qY1 (by rfl) rfl rfl ?_ | refine qN0 HN (by rfl) rfl rfl ?_ | refine qNj HN (by rfl) rfl rfl rfl rfl ?_) | ((with_reducible refine qLk ?_); first | ((with_reducible refine qGd ?_); (with_reducible refine qSk ?_ ?_); focus rfl)) | ((with_reducible refine qFd ?_); first | ((with_reducible refine qGd ?_); (with_reducible refine qSk ?_ ?_); focus rfl) | refine qVa (by rfl) (rFi rfl rfl ⟨_, _, _, _, _, _, _, rfl, rfl, inferInstance⟩) ?_) | ((with_reducible refine qCl ?_); first | ((with_reducible refine qGd ?_); (with_reducible refine qSk ?_ ?_); focus rfl)) | ((fail_if_success (with_reducible refine qLd ?_)); (fail_if_success (with_reducible refine qLk ?_)); (fail_if_success (with_reducible refine qCl ?_)); first | ((with_reducible refine qGd ?_); (with_reducible refine qSk ?_ ?_); focus rfl) | refine qVa (by rfl) (by intro _ _; go_simp; (try with_reducible rfl)) ?_)); (try simp only [Act.put, pS])))))
      (repeat' (first | ((with_reducible refine zG ?_); first | refine oWx ?_ | (refine oWs ?_; clear HO; intro _ HO)) | ((with_reducible refine to_load ?_); (first | first | refine oN0 HO rfl rfl HN ?_ | refine oNj HO rfl rfl HN rfl rfl ?_ | refine oY1 HO rfl rfl ?_ | refine oY3 HO rfl rfl ?_); (try simp only [Act.put, pS])) | go_values | go_skip | go_guarded | go_step | go_upon | (go_ite <;> go_prune <;> (try go_simp))))
      all_goals (try (refine qBe HO (by kernel_rfl) ?_); (repeat' (first | ((with_reducible refine qNi ?_); (clear HO; intro _ HO)) | ((with_reducible refine qSt ?_); first | ((first | ((with_reducible refine qLd ?_); first | ((with_reducible refine qGd ?_); (with_reducible refine qSk ?_ ?_); focus rfl) | refine qL1 (by rfl) rfl rfl ?_ | refine qL3 (by rfl) rfl rfl ?_ | refine qY1 (by rfl) rfl rfl ?_ | refine qN0 HN (by rfl) rfl rfl ?_ | refine qNj HN (by rfl) rfl rfl rfl rfl ?_) | ((with_reducible refine qLk ?_); first | ((with_reducible refine qGd ?_); (with_reducible refine qSk ?_ ?_); focus rfl)) | ((with_reducible refine qFd ?_); first | ((with_reducible refine qGd ?_); (with_reducible refine qSk ?_ ?_); focus rfl) | refine qVa (by rfl) (rFi rfl rfl ⟨_, _, _, _, _, _, _, rfl, rfl, inferInstance⟩) ?_) | ((with_reducible refine qCl ?_); first | ((with_reducible refine qGd ?_); (with_reducible refine qSk ?_ ?_); focus rfl) | (refine' qCa (by rfl) (by intro _ _; go_simp; (try first | with_reducible rfl | exact ⟨rfl, rfl⟩)) ?_ ?_; rotate_left; ((intro w9 HO9; first | (go_at_call 38; exact arm_rdv (fun w h => ref_any p.fn HF1.out HF2.out hn2 p.n.s HB.out HL.out w (rdv_at h) (HP.out.st (h.out.eld (fun _ h => h)))) HO9 (fun W h => ⟨rfl, h⟩)) | (go_at_call 40; exact arm_rdv (fun w h => isArray_any (refS t L p.fn p.n.s) w (rdv_at h)) HO9 (fun W h => ⟨ret_b hr, h⟩)))))) | ((fail_if_success (with_reducible refine qLd ?_)); (fail_if_success (with_reducible refine qLk ?_)); (fail_if_success (with_reducible refine qCl ?_)); first | ((with_reducible refine qGd ?_); (with_reducible refine qSk ?_ ?_); focus rfl) | refine qVa (by rfl) (by intro _ _; go_simp; (try with_reducible rfl)) ?_)); (try simp only [Act.put, pS]))))))
      all_goals ((repeat' (first | ((with_reducible refine zG ?_); first | refine oWx ?_ | (refine oWs ?_; clear HO; intro _ HO)) | ((with_reducible refine to_load ?_); (first | first | refine oN0 HO rfl rfl HN ?_ | refine oNj HO rfl rfl HN rfl rfl ?_ | refine oY1 HO rfl rfl ?_ | refine oY3 HO rfl rfl ?_); (try simp only [Act.put, pS])) | go_values | go_skip | go_guarded | go_step | go_upon | (go_ite <;> go_prune <;> (try go_simp)))))
      all_goals (refine bp_tmp (t := 4) rfl rfl rfl ?_; exact ⟨by simp, HO.out.kept, HO.out.st⟩)
  | some n2 =>
    have hbu2 := Lib.hid (hbu n2 hup)
    rw [hup] at hu
    obtain ⟨b2, o2, A2, c2, rfl, hn3⟩ := hu
    have HU := Lib.hid hn3
    have hlk : (lookK n2.s (enumF (t.funcs.map (·.name)) 0)).getD (.int .i64 0) = .int .i64 (((fnOf t n2.s).getD 0 : Nat) : Int) := by rw [HM.out.look]; cases fnOf t n2.s <;> rfl
    have hh : isHanded p = ((n2.k : Int) == 18) := by unfold isHanded; rw [hup]
    have hsp : isSplit p = (((n2.k : Int) == 19) && (decide (n2.s = [115, 112, 108, 105, 116]) && ((p.i : Int) == 1))) := by unfold isSplit; rw [hup]
    have hpo : paramOf t p = ⟨((fnOf t n2.s).getD 0 : Nat), p.i⟩ := by unfold paramOf; rw [hup]
    have hwn : ((strN n2.s).toList != ([115, 112, 108, 105, 116] : List UInt8)) = !decide (n2.s = [115, 112, 108, 105, 116]) := by
      rw [bne]
      congr 1
      exact wd_eqK hbu2.out (y := [115, 112, 108, 105, 116]) (by decide)
    have h19n : ((n2.k : Int) != 19) = !((n2.k : Int) == 19) := rfl
    have h1n : ((p.i : Int) != 1) = !((p.i : Int) == 1) := rfl
    rw [hh, hsp, hpo]
    clear hh hsp hpo hup hbu hn3
    rcases mis_c1 ((n2.k : Int) == 18) (decide ((⟨((fnOf t n2.s).getD 0 : Nat), p.i⟩ : Rf) ∈ arr)) ((p.n.k : Int) == 4) (decide (refS t L p.fn p.n.s ∈ arr)) ((n2.k : Int) == 19) (decide (n2.s = [115, 112, 108, 105, 116])) ((p.i : Int) == 1) with ⟨h18, hm, h4⟩ | ⟨h18, hm, h4⟩ | ⟨h18, h4⟩ | ⟨h18, hm, h4⟩ | ⟨h18, h4, hr⟩ | ⟨h18, hm, h4, hr⟩ | ⟨h18, hm, h4, hr⟩ | ⟨h18, h4, hr, h19⟩ | ⟨h18, h4, hr, h19, hsd⟩ | ⟨h18, h4, hr, h19, hsd, h1⟩ | ⟨h18, h4, hr, h19, hsd, h1⟩
    all_goals
      (try (have h19 := by19 h18))
      rw [h18, h4]
      (try rw [hm])
      (try rw [hr])
      (try rw [h19])
      (try rw [hsd])
      (try rw [h1])
      (try rw [h19] at h19n)
      (try rw [h1] at h1n)
      (try rw [hsd] at hwn)
      go_enter Try.func23, Try.ntmps23
      (repeat' (first | ((with_reducible refine zG ?_); first | refine oWx ?_ | (refine oWs ?_; clear HO; intro _ HO)) | ((with_reducible refine to_load ?_); (first | first | refine oN0 HO rfl rfl HN ?_ | refine oNj HO rfl rfl HN rfl rfl ?_ | refine oY1 HO rfl rfl ?_ | refine oY3 HO rfl rfl ?_); (try simp only [Act.put, pS])) | go_values | go_skip | go_guarded | go_step | go_upon | (go_ite <;> go_prune <;> (try go_simp))))
      (refine qBe HO (by kernel_rfl) ?_); (repeat' (first | ((with_reducible refine qNi ?_); (clear HO; intro _ HO)) | ((with_reducible refine qSt ?_); first | ((first | ((with_reducible refine qLd ?_); first | ((with_reducible refine qGd ?_); (with_reducible refine qSk ?_ ?_); focus rfl) | refine qL1 (by rfl) rfl rfl ?_ | refine qL3 (by rfl) rfl rfl ?_ | refine qY1 (by rfl) rfl rfl ?_ | refine qN0 HU (by rfl) rfl rfl ?_ | refine qNj HU (by rfl) rfl rfl rfl rfl ?_) | ((with_reducible refine qLk ?_); first | ((with_reducible refine qGd ?_); (with_reducible refine qSk ?_ ?_); focus rfl) | refine qVa (by rfl) (rke3 keyStr Try.underlying62 zInt rfl rfl rfl HM.out.hb HM.out.ok hbu2.out hlk) ?_) | ((with_reducible refine qFd ?_); first | ((with_reducible refine qGd ?_); (with_reducible refine qSk ?_ ?_); focus rfl) | refine qVa (by rfl) (rFi rfl rfl ⟨_, _, _, _, _, _, _, rfl, rfl, inferInstance⟩) ?_) | ((with_reducible refine qCl ?_); first | ((with_reducible refine qGd ?_); (with_reducible refine qSk ?_ ?_); focus rfl) | (refine' qCa (by rfl) (by intro _ _; go_simp; (try first | with_reducible rfl | exact ⟨rfl, rfl⟩)) ?_ ?_; rotate_left; ((intro w9 HO9; go_at_call 40; exact arm_rdv (fun w h => isArray_any ⟨((fnOf t n2.s).getD 0 : Nat), p.i⟩ w (rdv_at h)) HO9 (fun W h => ⟨ret_b hm, h⟩))))) | ((fail_if_success (with_reducible refine qLd ?_)); (fail_if_success (with_reducible refine qLk ?_)); (fail_if_success (with_reducible refine qCl ?_)); first | ((with_reducible refine qGd ?_); (with_reducible refine qSk ?_ ?_); focus rfl) | refine qVa (by rfl) (by intro _ _; go_simp; (try with_reducible rfl)) ?_)); (try simp only [Act.put, pS])))))
      all_goals ((repeat' (first | ((with_reducible refine zG ?_); first | refine oWx ?_ | (refine oWs ?_; clear HO; intro _ HO)) | ((with_reducible refine to_load ?_); (first | first | refine oN0 HO rfl rfl HN ?_ | refine oNj HO rfl rfl HN rfl rfl ?_ | refine oY1 HO rfl rfl ?_ | refine oY3 HO rfl rfl ?_); (try simp only [Act.put, pS])) | go_values | go_skip | go_guarded | go_step | go_upon | (go_ite <;> go_prune <;> (try go_simp)))))
      all_goals (try (refine qBe HO (by kernel_rfl) ?_); (repeat' (first | ((with_reducible refine qNi ?_); (clear HO; intro _ HO)) | ((with_reducible refine qSt ?_); first | ((first | ((with_reducible refine qLd ?_); first | ((with_reducible refine qGd ?_); (with_reducible refine qSk ?_ ?_); focus rfl) | refine qL1 (by rfl) rfl rfl ?_ | refine qL3 (by rfl) rfl rfl ?_ | refine qY1 (by rfl) rfl rfl ?_ | refine qN0 HN (by rfl) rfl rfl ?_ | refine qNj HN (by rfl) rfl rfl rfl rfl ?_) | ((with_reducible refine qLk ?_); first | ((with_reducible refine qGd ?_); (with_reducible refine qSk ?_ ?_); focus rfl)) | ((with_reducible refine qFd ?_); first | ((with_reducible refine qGd ?_); (with_reducible refine qSk ?_ ?_); focus rfl) | refine qVa (by rfl) (rFi rfl rfl ⟨_, _, _, _, _, _, _, rfl, rfl, inferInstance⟩) ?_) | ((with_reducible refine qCl ?_); first | ((with_reducible refine qGd ?_); (with_reducible refine qSk ?_ ?_); focus rfl) | (refine' qCa (by rfl) (by intro _ _; go_simp; (try first | with_reducible rfl | exact ⟨rfl, rfl⟩)) ?_ ?_; rotate_left; ((intro w9 HO9; first | (go_at_call 38; exact arm_rdv (fun w h => ref_any p.fn HF1.out HF2.out hn2 p.n.s HB.out HL.out w (rdv_at h) (HP.out.st (h.out.eld (fun _ h => h)))) HO9 (fun W h => ⟨rfl, h⟩)) | (go_at_call 40; exact arm_rdv (fun w h => isArray_any (refS t L p.fn p.n.s) w (rdv_at h)) HO9 (fun W h => ⟨ret_b hr, h⟩)))))) | ((fail_if_success (with_reducible refine qLd ?_)); (fail_if_success (with_reducible refine qLk ?_)); (fail_if_success (with_reducible refine qCl ?_)); first | ((with_reducible refine qGd ?_); (with_reducible refine qSk ?_ ?_); focus rfl) | refine qVa (by rfl) (by intro _ _; go_simp; (try with_reducible rfl)) ?_)); (try simp only [Act.put, pS]))))))
      all_goals ((repeat' (first | ((with_reducible refine zG ?_); first | refine oWx ?_ | (refine oWs ?_; clear HO; intro _ HO)) | ((with_reducible refine to_load ?_); (first | first | refine oN0 HO rfl rfl HN ?_ | refine oNj HO rfl rfl HN rfl rfl ?_ | refine oY1 HO rfl rfl ?_ | refine oY3 HO rfl rfl ?_ | refine oN0 HO rfl rfl HU ?_ | refine oNj HO rfl rfl HU rfl rfl ?_); (try simp only [Act.put, pS])) | go_values | go_skip | go_guarded | go_step | go_upon | (go_ite <;> go_prune <;> (try go_simp)))))
      all_goals (refine bp_tmp (t := 4) rfl rfl rfl ?_; refine ⟨?_, HO.out.kept, HO.out.st⟩; first | (simp; done) | (rename_i hx; simp [bne, hx] at hwn))
end Go.Proofs.Ythipoccbeloceaa
