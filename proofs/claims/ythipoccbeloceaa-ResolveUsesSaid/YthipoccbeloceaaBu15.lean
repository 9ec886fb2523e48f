/- Several texts put together: RpG. -/
import Derived.Test.YthipoccbeloceaaBu11
set_option linter.unusedSimpArgs false
set_option linter.unusedVariables false
namespace Go.Proofs.Ythipoccbeloceaa
open Go.RowKit
section
variable {b c n m : Nat} {ts : List TokF} {w0 w W : World} {bs : List Bx} {rs : List Rw} {F : List Cold} {X : List Nat} {S : World → Prop}
theorem rp_listE {els : List El} {f : GR (List NodeT)} {A : Option Addr} {a e : Nat} (HO : Hid (Own w [] (RS b c ts w.heap.size) bs (⟨45, 8, .slice A els.length e, els.length, flatE els⟩ :: rs) F W)) (HF : Hid (.ok (els.map (·.1)) a = f)) (hE : Cold.els els ∈ F) (hm : m ≤ a) (ha : a < ts.length) (he : els.length ≤ e) : RPost ts m w f VGL (.returned (.agg #[.int .i64 0, .int .i64 0, .string { data := #[] }, .bool false, .int .u64 0, .int .u64 0, .int .i64 0, .slice A els.length e, .int .i64 (a : Int), .int .i64 0])) W := by
  obtain ⟨A9, c9, e9, hc9, HO9⟩ := HO.out.freeze hE
  injection e9 with e91 _ e92
  subst e91 e92
  have := rp_list (Lib.hid HO9) HF hm ha List.mem_cons_self (by rw [List.length_map]; exact he)
  rw [List.length_map] at this
  exact this
def LoopL (_ : Hid (Own w0 X S (⟨n, 45, [.int .i64 0, .int .i64 0, .string { data := #[] }, .bool false, .int .u64 0, .int .u64 0, .int .i64 0, .slice none 0 0]⟩ :: bs) rs F w)) (g : Nat → List NodeT → Nat → Prop) (v : Value) (W : World) : Prop :=
  ∃ (els : List El) (A : Option Addr) (e f q : Nat), v = .int .i64 (q : Int) ∧ q < m ∧ c ≤ q ∧ m ≤ f + q ∧ els.length ≤ q ∧ els.length ≤ e ∧ Hid (g f (els.map (·.1)) q) ∧ Hid (Own w0 X S (⟨n, 45, [.int .i64 0, .int .i64 0, .string { data := #[] }, .bool false, .int .u64 0, .int .u64 0, .int .i64 0, .slice A els.length e]⟩ :: bs) [⟨45, 8, .slice A els.length e, els.length, flatE els⟩] [Cold.els els, Cold.kids none []] W)
end
theorem neI {e : List Nat} (he : ∀ x ∈ e, x < 256) (h : ¬ e = []) : ((strN e).toList == []) = false := by
  rw [show ([] : List UInt8) = (strN []).toList by rw [strN_list]; rfl, strN_beq he (by simp)]
  exact decide_eq_false h
set_option maxRecDepth 100000 in
set_option maxHeartbeats 3200000 in
theorem rlist_any (p : RPar) (b c : Nat) (ts : List TokF) (d : Nat) (H_expr : ∀ k, k < ts.length → RC 51 #[.agg #[.slice (some ⟨b, 0, none⟩) ts.length c], .int .i64 (k : Int), .int .i64 (d : Int)] (rexpr ts p k) VG b c ts (k + 1)) (k : Nat) (e : List Nat) (z : Bool) (he : ∀ x ∈ e, x < 256) (hk : k < ts.length) : RC 80 #[.agg #[.slice (some ⟨b, 0, none⟩) ts.length c], .int .i64 (k : Int), .int .i64 (d : Int), .string (strN e), .bool z] (rlist ts p k e z) VGL b c ts (k + 1) := by
  intro w h
  obtain ⟨R, hR⟩ : ∃ R, rlist ts p k e z = R := ⟨_, rfl⟩
  rw [hR]
  have HF := Lib.hid hR
  have HRS := Lib.hid h
  have HO := h.ownN
  have hlen := h.ok.len
  have hkI : (k : Int) < (ts.length : Int) := by omega
  clear h hR
  have C_expr := Lib.hid H_expr
  clear H_expr
  unfold rlist at HF
  by_cases he0 : e = []
  case' pos =>
    subst he0
    have hn0 : strN [] = { data := #[] } := rfl
    have hn1 := Lib.hid hn0
    have hE := Lib.hid (rfl : ([] : List Nat) = [])
  case' neg =>
    have hn1 := neI he he0
    have hE := Lib.hid he0
  all_goals
    cases z
    all_goals
      simp only [Bool.false_and, Bool.true_and, Bool.false_eq_true, ↓reduceIte] at HF
      go_enter Try.func80, Try.ntmps80
      (repeat' (first | ((with_reducible refine zG ?_); first | refine oWx ?_ | (refine oWs ?_; clear HO; intro _ HO) | (refine oWj ?_; clear HO; intro _ HO HB)) | ((go_big_may; first | (go_at_call 32; refine arm_is _ (by assumption) (by omega) HO rfl rfl ?_; clear HO; intro _ z hz hlt HO; cases z <;> (try simp only [hz, ↓reduceIte, bZ] at HF) <;> (first | (replace hlt := hlt rfl) | clear hlt))) <;> (try dsimp only)) | go_values | go_skip | go_guarded | go_step | go_upon | (go_ite <;> go_prune <;> (try go_simp))))
      all_goals try
        refine oBc HO (t := 10) (ty := 116) rfl rfl rfl ?_
        refine rp_list (l := []) HO HF ?_ ?_ mH (Nat.le_refl 0) <;> first | exact Nat.le_refl _ | assumption
      have HO0 := HO
      go_loopw [1] (fun v W => LoopL (m := ts.length) (c := k) HO0 (fun f l q => rlistF ts p _ f l q = R) v W) (fun kv _ => ts.length - (intOf kv).toNat)
      case atStart => exact ⟨[], none, 0, ts.length, k, rfl, hk, Nat.le_refl _, by omega, by simp, Nat.le_refl _, HF, Lib.hid ((HO.out.nilRow _ _).elsNil)⟩
      case round =>
        clear HO HF
        obtain ⟨els, A, ce, f, q, rfl, hq0, hkq, hf, hlq, hle0, HF, HO⟩ := hrel
        obtain ⟨f, rfl⟩ : ∃ f', f = f' + 1 := ⟨f - 1, by omega⟩
        have hqI : (q : Int) < (ts.length : Int) := by omega
        dsimp only at HF
        rw [rlistF] at HF
        simp only [hE.out, ↓reduceIte] at HF
        (repeat' (first | ((with_reducible refine zG ?_); first | refine oWx ?_ | (refine oWs ?_; clear HO; intro _ HO) | (refine oWj ?_; clear HO; intro _ HO HB)) | ((with_reducible refine zG ?_); refine oWn ?_; clear HO; intro _ HO) | ((with_reducible refine to_append ?_); refine wo_appN HO mM rfl rfl rfl mM (by first | omega | simp) ?_; clear HO; intro eN _ _ _ hmap hlen hcap HO; replace hlen := Lib.hid hlen; (try simp only [Act.put, pS])) | ((go_big_may; first | (go_at_call 51; (first | refine arm_rn rfl ?_ (C_expr.out _ ?_) HO HF ?_ ?_ | refine arm_rn rfl ?_ (C_expr.out _ ?_) HO (gr_eta HF) ?_ ?_); (first | with_reducible rfl | rfl | (rw [IntWalk.i64_in _ (by omega)]; rfl)); (omega); (clear HO HF; intro _ _ _ _ _ HO _ hle hlt HF); rotate_left; (clear HO HF; intro _ _ _ HO hq HE); rotate_left) | (go_at_call 32; refine arm_is [44] (by decide) (by omega) HO rfl rfl ?_; clear HO; intro _ z hz hlt HO; cases z <;> (try simp only [hz, ↓reduceIte, bZ] at HF) <;> (first | (replace hlt := hlt rfl) | clear hlt)) | (go_at_call 32; refine arm_is _ (by assumption) (by omega) HO rfl rfl ?_; clear HO; intro _ z hz hlt HO; cases z <;> (try simp only [hz, ↓reduceIte, bZ] at HF) <;> (first | (replace hlt := hlt rfl) | clear hlt)) | (go_at_call 52; refine arm_lines (by omega) HO rfl rfl ?_; clear HO; intro _ q hq hle hlt HO; (try simp only [hq] at HF)) | (go_at_call 63; refine arm_bad HO rfl rfl ?_; clear HO; intro _ HO) | fail) <;> (try dsimp only)) | go_values | go_skip | go_guarded | go_step | go_upon | (go_ite <;> go_prune <;> (try go_simp))))
        all_goals first
          | (refine oBc HO (t := 10) (ty := 116) rfl rfl rfl ?_
             (try rw [← hmap] at HF)
             first
             | exact rp_err HO (by assumption) HE
             | exact rp_err HO rfl (Lib.hid HF.out.symm)
             | (refine rp_listE HO HF mH ?_ ?_ ?_; (show (_ : Nat) ≤ _; omega); (show (_ : Nat) < _; omega); assumption))
          | skip
        have hl1 := hlen.out
        refine ⟨⟨_, _, _, f, _, rfl, by assumption, by omega, by omega, by omega, hcap, by rw [hmap]; exact HF, Lib.hid (HO.out.sub (List.sublist_cons_self _ _) (List.Sublist.refl _) (fun c hc => mem2 hc mM mM))⟩, ?_⟩
        exact meas2 rfl (by omega) hq0
end Go.Proofs.Ythipoccbeloceaa
