/- Several texts put together: Errs, NumQ, Product, DecB. -/
import Derived.Test.YtkhhjibpppmekaaBu1
import Derived.Lib.IfaceEq
import Derived.LaidEql
import Derived.Stop.Asserts
import Derived.RowKitTokens
import Derived.Test.YtkhhjibpppmekaaBu7
import Derived.Test.YtkhhjibpppmekaaBu8
/- errors.Is between the program's error numbers; fieldfarelaw01.Code. -/
namespace Go.Proofs.Ytkhhjibpppmekaa
open Go.RowKit Go.Extern.Stop Go.Stop Go.Extern
theorem isTypeOf (v : Value) (w : World) : (Extern.ReflectliteType.typeOf #[.iface 83 v]).run Try.prog w = .ok (.iface 150 (.agg #[.pointer (some ⟨2, 83, none⟩)])) w := by kernel_rfl
theorem isComp : (Try.prog.info? 83).map (·.comparable) = some true := by kernel_rfl
theorem noIs (v : Value) (xT : TypeId) (w : World) : (Instr.typeAssert (.iface 83 v) xT 152 true).run Try.prog w = .ok (.tuple #[.nilIface, .bool false]) w := run_typeAssert_lacksB Try.underlying152 (by kernel_rfl) (by kernel_rfl) v xT w
theorem noUnwrap (v : Value) (xT : TypeId) (w : World) : (Instr.typeAssert (.iface 83 v) xT 155 true).run Try.prog w = .ok (.tuple #[.nilIface, .bool false]) w := run_typeAssert_lacksB Try.underlying155 (by kernel_rfl) (by kernel_rfl) v xT w
theorem noUnwraps (v : Value) (xT : TypeId) (w : World) : (Instr.typeAssert (.iface 83 v) xT 157 true).run Try.prog w = .ok (.tuple #[.nilIface, .bool false]) w := run_typeAssert_lacksB Try.underlying157 (by kernel_rfl) (by kernel_rfl) v xT w
set_option maxRecDepth 100000 in
set_option maxHeartbeats 400000 in
theorem is_errno (a b : Int) (w : World) :
    Calls Try.prog 52 #[.iface 83 (.int .i64 a), .iface 83 (.int .i64 b)] w fun e w' => e = .returned (.bool (a == b)) ∧ w = w' := by
  have h8 := @run_callFunc_extern Try.prog 80 _ Extern.ReflectliteType.typeOf Try.func80 (by kernel_rfl) (by kernel_rfl) (by kernel_rfl) (by kernel_rfl)
  have h32 := @run_callFunc_extern Try.prog 131 _ (Extern.ReflectliteType.method fun t => do Rtype.noPackHeld "Comparable" t; pure (.bool (← typeInfo t).comparable)) Try.func131 (by kernel_rfl) (by kernel_rfl) (by kernel_rfl) (by kernel_rfl)
  have tT := isTypeOf
  have cT : ∀ W, (callFunc 131 #[.agg #[.pointer (some ⟨2, 83, none⟩)]]).run Try.prog W = .ok (.value (.bool true)) W := fun W => by rw [h32]; kernel_rfl
  clear h32
  have nE := noIs
  have uE := noUnwrap
  have vE := noUnwraps
  have heq := Lib.run_eql_iface_int (P := Try.prog) (t := 27) (tx := 83) (k := .i64) w a b Try.underlying27 isComp Try.underlying83
  cases hab : (a == b)
  · rw [hab] at heq
    go_enter Try.func52, Try.ntmps52
    go_wp2
    refine wp_loop_rounds 1 ?_
    rw [rounds_succ]
    go_wp2
    go_ret
    exact ⟨rfl, rfl⟩
  · rw [hab] at heq
    go_enter Try.func52, Try.ntmps52
    go_wp2
    refine wp_loop_rounds 1 ?_
    rw [rounds_succ]
    go_wp2
    go_ret
    exact ⟨rfl, rfl⟩
set_option maxRecDepth 100000 in
set_option maxHeartbeats 400000 in
theorem code_nil (w : World) :
    Calls Try.prog 16 #[.nilIface] w fun e w' => e = .returned (.int .i64 0) ∧ w = w' := by
  go_enter Try.func16, Try.ntmps16
  go_wp2_with fail
  go_ret
  exact ⟨rfl, rfl⟩
set_option maxRecDepth 100000 in
set_option maxHeartbeats 400000 in
theorem code_errno (k : Int) (h1 : 1 ≤ k) (h2 : k ≤ 25) (w : World) :
    Calls Try.prog 16 #[.iface 83 (.int .i64 k)] w fun e w' => e = .returned (.int .i64 k) ∧ w = w' := by
  go_enter Try.func16, Try.ntmps16
  go_wp2_with fail
  go_loop [3] (fun i => ∃ n : Int, 1 ≤ n ∧ n ≤ k ∧ i = .int .i64 n) (fun i => (k - intOf i).toNat)
  case atStart => exact ⟨1, by omega, h1, rfl⟩
  case round =>
    obtain ⟨n, hn1, hn2, rfl⟩ := hrel
    by_cases he : n = k
    · subst he
      have hb : (n == n) = true := by simp
      go_wp2_with (go_at_call 52; refine (is_errno _ _ _).mono ?_; rintro e w' ⟨rfl, rfl⟩)
      go_ret
      exact ⟨rfl, rfl⟩
    · have hb : (k == n) = false := by rw [beq_eq_false_iff_ne]; omega
      have hlt : n < k := by omega
      clear he
      go_wp2_with (go_at_call 52; refine (is_errno _ _ _).mono ?_; rintro e w' ⟨rfl, rfl⟩)
      go_round
      case rel => exact ⟨n + 1, by omega, by omega, rfl⟩
      case measure => simp [intOf]; omega
end Go.Proofs.Ytkhhjibpppmekaa

/- What Prefix returns, and what the reference's does, in the same words. -/
namespace Go.Proofs.Ytkhhjibpppmekaa
open Go.RowKit
def pOk (bs : List Nat) : Bool := decide (0 < nW bs + nB bs) && decide ((strip (wholeL bs)).length ≤ 30)
def pOver (bs : List Nat) : Bool := decide (0 < nW bs + nB bs) && decide (30 < (strip (wholeL bs)).length)
def pM (bs : List Nat) : Nat := if pOk bs then numN bs else 0
def pP (bs : List Nat) : Bool := sneg bs && decide (0 < pM bs)
def errV (over : Bool) : Value := if over then .iface 83 (.int .i64 2) else .nilIface
theorem dg_len_iff (M : Nat) : (0 < (dg M).length) ↔ 0 < M := by
  constructor
  · intro h
    rcases Nat.eq_zero_or_pos M with e | e
    · rw [e, dg_zero] at h; simp at h
    · exact e
  · intro h; exact dg_len_pos (by omega)
theorem pM_lt (bs : List Nat) : pM bs < 1000000000000000000000000000000000000 := by
  unfold pM
  split
  · rename_i h
    unfold pOk at h
    rw [Bool.and_eq_true, decide_eq_true_eq, decide_eq_true_eq] at h
    exact numN_lt h.2
  · decide
theorem prefix_q (A : Option Addr) (c : Nat) (bs : List Nat) (w : World) (B0 : Nat) (hB0 : B0 ≤ w.heap.size) (hr : RB w B0 A bs) (hc : bs.length ≤ c) (hm : bs.length ≤ 140737488351232) :
    Calls Try.prog 66 #[.slice A bs.length c] w fun e w' => e = .returned (.tuple #[.agg #[.bool (pP bs), .int .u64 (mh (pM bs)), .int .u64 (ml (pM bs))], .int .i64 ((nP bs : Nat) : Int), errV (pOver bs)]) ∧ Below w.heap.size w w' := by
  refine (prefix_any A c bs w B0 hB0 hr hc hm).mono fun e w' ⟨h, hb⟩ => ⟨?_, hb⟩
  rcases h with ⟨hz, rfl⟩ | ⟨hz, ho, rfl⟩ | ⟨hz, ho, rfl⟩
  · have h1 : pOk bs = false := by unfold pOk; rw [hz]; rfl
    have h2 : pOver bs = false := by unfold pOver; rw [hz]; rfl
    have h3 : pM bs = 0 := by unfold pM; rw [h1]; rfl
    have h4 : nP bs = 0 := by unfold nP; rw [if_pos hz]
    have h5 : pP bs = false := by unfold pP; rw [h3]; simp
    rw [h2, h3, h4, h5]; rfl
  · have h1 : pOk bs = false := by unfold pOk; rw [decide_eq_false (show ¬ (strip (wholeL bs)).length ≤ 30 by omega), Bool.and_false]
    have h2 : pOver bs = true := by unfold pOver; rw [decide_eq_true hz, decide_eq_true ho]; rfl
    have h3 : pM bs = 0 := by unfold pM; rw [h1]; rfl
    have h4 : nP bs = nI3 bs := by unfold nP; rw [if_neg (by omega)]
    have h5 : pP bs = false := by unfold pP; rw [h3]; simp
    rw [h2, h3, h4, h5]; rfl
  · have h1 : pOk bs = true := by unfold pOk; rw [decide_eq_true hz, decide_eq_true ho]; rfl
    have h2 : pOver bs = false := by unfold pOver; rw [decide_eq_false (show ¬ 30 < (strip (wholeL bs)).length by omega), Bool.and_false]
    have h3 : pM bs = numN bs := by unfold pM; rw [h1]; rfl
    have h4 : nP bs = nI3 bs := by unfold nP; rw [if_neg (by omega)]
    have hN := numN_lt (bs := bs) ho
    have h5 : zn (pz bs) = pP bs := by
      unfold zn pz pP
      rw [h3]
      cases sneg bs
      · simp
      · by_cases h : numN bs = 0
        · simp [h]
        · simp <;> omega
    have h6 : zh (pz bs) = mh (pM bs) := by rw [h3]; unfold zh pz mh; split <;> omega
    have h7 : zl (pz bs) = ml (pM bs) := by rw [h3]; unfold zl pz ml; split <;> omega
    rw [h2, h4, h5, h6, h7]; rfl
theorem rprefix_q (bs : List Nat) (w : World) (hb : ∀ x ∈ bs, x < 256) (hl : bs.length ≤ 100000) :
    Calls Try.prog 69 #[.string (strN bs)] w fun e w' => (∃ (A : Option Addr) (c : Nat), e = .returned (.agg #[.bool (pP bs), .slice A (dg (pM bs)).length c, .int .i64 ((nP bs : Nat) : Int), .int .i64 (if pOver bs then 2 else 0)]) ∧ RI w' w'.heap.size A (dg (pM bs)) ∧ (dg (pM bs)).length ≤ c) ∧ Below w.heap.size w w' := by
  refine (rprefix_any bs w hb hl).mono fun e w' ⟨h, hB⟩ => ⟨?_, hB⟩
  rcases h with ⟨hz, rfl⟩ | ⟨hz, ho, rfl⟩ | ⟨hz, ho, A, c, rfl, hri, hc⟩
  · have h1 : pOk bs = false := by unfold pOk; rw [hz]; rfl
    have h2 : pOver bs = false := by unfold pOver; rw [hz]; rfl
    have h3 : pM bs = 0 := by unfold pM; rw [h1]; rfl
    have h4 : nP bs = 0 := by unfold nP; rw [if_pos hz]
    have h5 : pP bs = false := by unfold pP; rw [h3]; simp
    rw [h2, h3, h4, h5, dg_zero]
    exact ⟨none, 0, rfl, RI.nil, by simp⟩
  · have h1 : pOk bs = false := by unfold pOk; rw [decide_eq_false (show ¬ (strip (wholeL bs)).length ≤ 30 by omega), Bool.and_false]
    have h2 : pOver bs = true := by unfold pOver; rw [decide_eq_true hz, decide_eq_true ho]; rfl
    have h3 : pM bs = 0 := by unfold pM; rw [h1]; rfl
    have h4 : nP bs = nI3 bs := by unfold nP; rw [if_neg (by omega)]
    have h5 : pP bs = false := by unfold pP; rw [h3]; simp
    rw [h2, h3, h4, h5, dg_zero]
    exact ⟨none, 0, rfl, RI.nil, by simp⟩
  · have h1 : pOk bs = true := by unfold pOk; rw [decide_eq_true hz, decide_eq_true ho]; rfl
    have h2 : pOver bs = false := by unfold pOver; rw [decide_eq_false (show ¬ 30 < (strip (wholeL bs)).length by omega), Bool.and_false]
    have h3 : pM bs = numN bs := by unfold pM; rw [h1]; rfl
    have h4 : nP bs = nI3 bs := by unfold nP; rw [if_neg (by omega)]
    have h5 : (sneg bs && decide (0 < (dg (numN bs)).length)) = pP bs := by
      unfold pP; rw [h3]; congr 1; exact decide_eq_decide.2 (dg_len_iff _)
    rw [h2, h4, ← h5, h3]
    exact ⟨A, c, rfl, hri, hc⟩
theorem code_errV (o : Bool) (w : World) : Calls Try.prog 16 #[errV o] w fun e w' => e = .returned (.int .i64 (if o then 2 else 0)) ∧ w = w' := by
  cases o
  · exact code_nil w
  · exact code_errno 2 (by decide) (by decide) w
theorem good_pq (bs : List Nat) : goodB (pP bs) (mh (pM bs)) (ml (pM bs)) = true := by
  have hM := pM_lt bs
  have i : IsD (pP bs) (mh (pM bs)) (ml (pM bs)) (if pP bs then -(pM bs : Int) else (pM bs : Int)) := by
    unfold mh ml
    refine ⟨⟨by omega, by omega⟩, ⟨by omega, by omega⟩, ?_, ?_, ?_⟩
    · split <;> omega
    · cases h : pP bs
      · symm; rw [decide_eq_false_iff_not]; simp
      · have : 0 < pM bs := by
          unfold pP at h; rw [Bool.and_eq_true, decide_eq_true_eq] at h; exact h.2
        symm; rw [decide_eq_true_eq]; simp; omega
    · unfold LIM; split <;> omega
  exact good_of i
end Go.Proofs.Ytkhhjibpppmekaa

/- dec.product: the product of two magnitudes. -/
namespace Go.Proofs.Ytkhhjibpppmekaa
open Go.RowKit
theorem mul64_q (x y : Int) (hx : 0 ≤ x) (hx' : x < 18446744073709551616) (hy : 0 ≤ y) (hy' : y < 18446744073709551616) (w : World) :
    Calls Try.prog 77 #[.int .u64 x, .int .u64 y] w fun e w' => e = .returned (.tuple #[.int .u64 (ph x y), .int .u64 (pl x y)]) ∧ w' = w :=
  (mul64 x y hx hx' hy hy' w).mono fun _ _ ⟨he, hw⟩ => ⟨he, hw.symm⟩
def Add (a b s c : Int) : Prop := 0 ≤ s ∧ s < 18446744073709551616 ∧ 0 ≤ c ∧ c ≤ 1 ∧ a + b = c * 18446744073709551616 + s
theorem add_mk {a b : Int} (ha : Wd a) (hb : Wd b) : ∃ s c, Add a b s c ∧ ∀ W : World, (callFunc 97 #[.int .u64 a, .int .u64 b, .int .u64 0]).run Try.prog W = .ok (.value (.tuple #[.int .u64 s, .int .u64 c])) W := by
  obtain ⟨a1, a2⟩ := ha; obtain ⟨b1, b2⟩ := hb
  exact ⟨_, _, by unfold Add; omega, fun W => add64_0 a b a1 b1 W⟩
theorem add_zero {a : Int} (ha : Wd a) : ∀ W : World, (callFunc 97 #[.int .u64 a, .int .u64 0, .int .u64 0]).run Try.prog W = .ok (.value (.tuple #[.int .u64 a, .int .u64 0])) W := by
  obtain ⟨a1, a2⟩ := ha
  intro W
  have := add64_0 a 0 a1 (by decide) W
  rw [show (a + 0) % 18446744073709551616 = a by omega, show (a + 0) / 18446744073709551616 = 0 by omega] at this
  exact this
set_option maxRecDepth 100000 in
set_option maxHeartbeats 1600000 in
theorem product_any (n m : Bool) (x1 x0 y1 y0 : Int) (h1 : Wd x1) (h0 : Wd x0) (g1 : Wd y1) (g0 : Wd y0) (w : World) :
    Calls Try.prog 75 #[.agg #[.bool n, .int .u64 x1, .int .u64 x0], .agg #[.bool m, .int .u64 y1, .int .u64 y0]] w fun e w' => ∃ a b c d : Int, e = .returned (.agg #[.int .u64 a, .int .u64 b, .int .u64 c, .int .u64 d]) ∧ Wd a ∧ Wd b ∧ Wd c ∧ Wd d ∧ lim4 a b c d = (x1 * 18446744073709551616 + x0) * (y1 * 18446744073709551616 + y0) ∧ Below w.heap.size w w' := by
  obtain ⟨a1, a2⟩ := h1; obtain ⟨b1, b2⟩ := h0; obtain ⟨c1, c2⟩ := g1; obtain ⟨d1, d2⟩ := g0
  have l00 := pl_range x0 y0; have l01 := pl_range x0 y1; have l10 := pl_range x1 y0; have l11 := pl_range x1 y1
  have k00 := ph_range b1 b2 d1 d2; have k01 := ph_range b1 b2 c1 c2; have k10 := ph_range a1 a2 d1 d2; have k11 := ph_range a1 a2 c1 c2
  obtain ⟨A, C, hA, eA⟩ := add_mk l01 ⟨k00.1, by omega⟩
  obtain ⟨A1, A2, A3, A4, A5⟩ := id hA
  obtain ⟨B, D, hB, eB⟩ := add_mk l10 ⟨A1, A2⟩
  obtain ⟨B1, B2, B3, B4, B5⟩ := id hB
  obtain ⟨E, F, hE, eE⟩ := add_mk l11 (b := ph x0 y1 + C) ⟨by omega, by omega⟩
  obtain ⟨E1, E2, E3, E4, E5⟩ := id hE
  obtain ⟨G, H, hG, eG⟩ := add_mk (a := E) (b := ph x1 y0 + D) ⟨E1, E2⟩ ⟨by omega, by omega⟩
  obtain ⟨G1, G2, G3, G4, G5⟩ := id hG
  have z00 := add_zero l00; have z01 := add_zero l01; have zB := add_zero (a := B) ⟨B1, B2⟩
  have p00 := phl x0 y0; have p01 := phl x0 y1; have p10 := phl x1 y0; have p11 := phl x1 y1
  have hN : lim4 (pl x0 y0) B G (ph x1 y1 + F + H) = (x1 * 18446744073709551616 + x0) * (y1 * 18446744073709551616 + y0) := by
    unfold lim4
    have : (x1 * 18446744073709551616 + x0) * (y1 * 18446744073709551616 + y0) = (x1 * y1) * 340282366920938463463374607431768211456 + (x1 * y0) * 18446744073709551616 + (x0 * y1) * 18446744073709551616 + x0 * y0 := by
      simp only [Int.add_mul, Int.mul_add, Int.mul_right_comm _ _ y1, Int.mul_right_comm _ _ y0, ← Int.mul_assoc]
      omega
    omega
  have hT : ph x1 y1 + F + H < 18446744073709551616 := by
    have : 0 ≤ pl x0 y0 := l00.1
    have u : (x1 * 18446744073709551616 + x0) * (y1 * 18446744073709551616 + y0) ≤ 340282366920938463463374607431768211455 * 340282366920938463463374607431768211455 :=
      Int.mul_le_mul (by omega) (by omega) (by omega) (by omega)
    rw [← hN] at u
    unfold lim4 at u
    omega
  refine Calls.mono (R := fun e w' => e = .returned (.agg #[.int .u64 (pl x0 y0), .int .u64 B, .int .u64 G, .int .u64 (ph x1 y1 + F + H)]) ∧ Below w.heap.size w w') ?_ ?_
  · clear hN p00 p01 p10 p11 hA hB hE hG A5 B5 E5 G5
    obtain ⟨l001, l002⟩ := l00; obtain ⟨l011, l012⟩ := l01; obtain ⟨l101, l102⟩ := l10; obtain ⟨l111, l112⟩ := l11
    obtain ⟨k001, k002⟩ := k00; obtain ⟨k011, k012⟩ := k01; obtain ⟨k101, k102⟩ := k10; obtain ⟨k111, k112⟩ := k11
    have HA := Lib.hid eA; have HB := Lib.hid eB; have HE := Lib.hid eE; have HG := Lib.hid eG
    have Z0 := Lib.hid z00; have Z1 := Lib.hid z01; have ZB := Lib.hid zB
    clear eA eB eE eG z00 z01 zB
    go_enter Try.func75, Try.ntmps75
    go_upto_region 1 with fail
    go_cut [5, 6] (fun x y wx => ∃ p q : Nat, x = .pointer (some ⟨p, 0, none⟩) ∧ y = .pointer (some ⟨q, 0, none⟩) ∧ wx.cell? ⟨p, 0, none⟩ = some (.int .u64 x0) ∧ wx.cell? ⟨p, 1, none⟩ = some (.int .u64 x1) ∧ wx.cell? ⟨q, 0, none⟩ = some (.int .u64 y0) ∧ wx.cell? ⟨q, 1, none⟩ = some (.int .u64 y1) ∧ p < wx.heap.size ∧ q < wx.heap.size ∧ Below (w.heap.size + 3) (((w.alloc (.cells #[.bool n, .int .u64 x1, .int .u64 x0] 24)).alloc (.cells #[.bool m, .int .u64 y1, .int .u64 y0] 24)).alloc (.cells #[.int .u64 0, .int .u64 0, .int .u64 0, .int .u64 0] 121)) wx)
    case first =>
      clear HA HB HE HG Z0 Z1 ZB A1 A2 A3 A4 B1 B2 B3 B4 E1 E2 E3 E4 G1 G2 G3 G4 hT a1 a2 b1 b2 c1 c2 d1 d2 l001 l002 l011 l012 l101 l102 l111 l112 k001 k002 k011 k012 k101 k102 k111 k112
      go_region
      all_goals (go_wp2_with fail; go_meet; exact ⟨_, _, rfl, rfl, by simp (maxDischargeDepth := 12) [go_sem], by simp (maxDischargeDepth := 12) [go_sem], by simp (maxDischargeDepth := 12) [go_sem], by simp (maxDischargeDepth := 12) [go_sem], by simp, by simp, by (repeat' (first | (with_reducible exact Below.refl _ _) | (refine Below.trans ?_ (Below.mono (by with_reducible assumption) ?_)) | (with_reducible exact Below.refl _ _) | (with_reducible refine below_drewN ?_ _) | (with_reducible refine Below.drew ?_) | (with_reducible refine Below.setCell ?_ ?_ _) | (with_reducible refine Below.alloc ?_ ?_ _) | (with_reducible assumption) | (simp; done) | (simp; omega) | omega))⟩)
    case rest =>
      obtain ⟨p, q, rfl, rfl, u0, u1, v0, v1, hp, hq, hB⟩ := hcut
      have t0 : wc.cell? ⟨w.heap.size + 1 + 1, 0, none⟩ = some (.int .u64 0) := (Below.cell hB (by simp)).trans (by simp [go_sem])
      have t1 : wc.cell? ⟨w.heap.size + 1 + 1, 1, none⟩ = some (.int .u64 0) := (Below.cell hB (by simp)).trans (by simp [go_sem])
      have t2 : wc.cell? ⟨w.heap.size + 1 + 1, 2, none⟩ = some (.int .u64 0) := (Below.cell hB (by simp)).trans (by simp [go_sem])
      have t3 : wc.cell? ⟨w.heap.size + 1 + 1, 3, none⟩ = some (.int .u64 0) := (Below.cell hB (by simp)).trans (by simp [go_sem])
      have f0 : wc.frozen? ⟨w.heap.size + 1 + 1, 0, none⟩ = false := (Below.frozen hB (by simp)).trans (by simp [go_sem])
      have f1 : wc.frozen? ⟨w.heap.size + 1 + 1, 1, none⟩ = false := (Below.frozen hB (by simp)).trans (by simp [go_sem])
      have f2 : wc.frozen? ⟨w.heap.size + 1 + 1, 2, none⟩ = false := (Below.frozen hB (by simp)).trans (by simp [go_sem])
      have f3 : wc.frozen? ⟨w.heap.size + 1 + 1, 3, none⟩ = false := (Below.frozen hB (by simp)).trans (by simp [go_sem])
      have hs := hB.size; simp at hs
      have hB' : Below w.heap.size w wc := Below.trans (by (repeat' (first | (with_reducible exact Below.refl _ _) | (refine Below.trans ?_ (Below.mono (by with_reducible assumption) ?_)) | (with_reducible exact Below.refl _ _) | (with_reducible refine below_drewN ?_ _) | (with_reducible refine Below.drew ?_) | (with_reducible refine Below.setCell ?_ ?_ _) | (with_reducible refine Below.alloc ?_ ?_ _) | (with_reducible assumption) | (simp; done) | (simp; omega) | omega))) (hB.mono (by omega))
      have HB' := Lib.hid hB'
      clear hB hB'
      clear A1 A2 B1 B2 E1 E2 G1 G2
      obtain ⟨wp, rfl⟩ : ∃ wp : World, wp = wc := ⟨_, rfl⟩
      go_upto_block 0 with fail
      go_cut [9] (fun _ wx => wx.cell? ⟨wp.heap.size, 0, none⟩ = some (.int .u64 (pl x0 y0)) ∧ wx.cell? ⟨wp.heap.size, 1, none⟩ = some (.int .u64 B) ∧ wx.cell? ⟨wp.heap.size, 2, none⟩ = some (.int .u64 G) ∧ wx.cell? ⟨wp.heap.size, 3, none⟩ = some (.int .u64 (ph x1 y1 + F + H)) ∧ Below wp.heap.size wp wx)
      case first =>
        go_wp2_with fail
        refine wp_loop_rounds 3 ?_
        rw [rounds_succ]; go_wp2_with fail
        refine wp_loop_rounds 3 ?_
        rw [rounds_succ]; go_wp2_with fail
        go_quiet ((go_at_call 77; refine Calls.quiet_of_same (mul64_q _ _ (by omega) (by omega) (by omega) (by omega) _)))
        have z00 := Z0.out
        go_wp2_with fail
        clear z00
        rw [rounds_succ]; go_wp2_with fail
        go_quiet ((go_at_call 77; refine Calls.quiet_of_same (mul64_q _ _ (by omega) (by omega) (by omega) (by omega) _)))
        have z01 := Z1.out; have eA := HA.out
        go_wp2_with fail
        clear z01 eA
        rw [rounds_succ]; go_wp2_with fail
        rw [rounds_succ]; go_wp2_with fail
        refine wp_loop_rounds 3 ?_
        rw [rounds_succ]; go_wp2_with fail
        go_quiet ((go_at_call 77; refine Calls.quiet_of_same (mul64_q _ _ (by omega) (by omega) (by omega) (by omega) _)))
        have eB := HB.out; have zB := ZB.out
        go_wp2_with fail
        clear eB zB
        rw [rounds_succ]; go_wp2_with fail
        go_quiet ((go_at_call 77; refine Calls.quiet_of_same (mul64_q _ _ (by omega) (by omega) (by omega) (by omega) _)))
        have eE := HE.out; have eG := HG.out
        go_wp2_with fail
        clear eE eG
        rw [rounds_succ]; go_wp2_with fail
        rw [rounds_succ]; go_wp2_with fail
        go_meet
        exact ⟨by simp (maxDischargeDepth := 12) [go_sem], by simp (maxDischargeDepth := 12) [go_sem], by simp (maxDischargeDepth := 12) [go_sem], by simp (maxDischargeDepth := 12) [go_sem], by (repeat' (first | (with_reducible exact Below.refl _ _) | (refine Below.trans ?_ (Below.mono (by with_reducible assumption) ?_)) | (with_reducible exact Below.refl _ _) | (with_reducible refine below_drewN ?_ _) | (with_reducible refine Below.drew ?_) | (with_reducible refine Below.setCell ?_ ?_ _) | (with_reducible refine Below.alloc ?_ ?_ _) | (with_reducible assumption) | (simp; done) | (simp; omega) | omega))⟩
      case rest =>
        obtain ⟨r0, r1, r2, r3, hb⟩ := hcut
        clear A3 A4 B3 B4 E3 E4 G3 G4 hT a1 a2 b1 b2 c1 c2 d1 d2 l001 l002 l011 l012 l101 l102 l111 l112 k001 k002 k011 k012 k101 k102 k111 k112 HA HB HE HG Z0 Z1 ZB u0 u1 v0 v1 hp hq
        have y0 : wc.cell? ⟨w.heap.size + 1 + 1, 0, none⟩ = some (.int .u64 0) := (Below.cell hb (by simp; omega)).trans t0
        have z0 : wc.frozen? ⟨w.heap.size + 1 + 1, 0, none⟩ = false := (Below.frozen hb (by simp; omega)).trans f0
        have y1 : wc.cell? ⟨w.heap.size + 1 + 1, 1, none⟩ = some (.int .u64 0) := (Below.cell hb (by simp; omega)).trans t1
        have z1 : wc.frozen? ⟨w.heap.size + 1 + 1, 1, none⟩ = false := (Below.frozen hb (by simp; omega)).trans f1
        have y2 : wc.cell? ⟨w.heap.size + 1 + 1, 2, none⟩ = some (.int .u64 0) := (Below.cell hb (by simp; omega)).trans t2
        have z2 : wc.frozen? ⟨w.heap.size + 1 + 1, 2, none⟩ = false := (Below.frozen hb (by simp; omega)).trans f2
        have y3 : wc.cell? ⟨w.heap.size + 1 + 1, 3, none⟩ = some (.int .u64 0) := (Below.cell hb (by simp; omega)).trans t3
        have z3 : wc.frozen? ⟨w.heap.size + 1 + 1, 3, none⟩ = false := (Below.frozen hb (by simp; omega)).trans f3
        clear t0 t1 t2 t3 f0 f1 f2 f3
        have hs2 := hb.size
        go_wp2
        (try simp only [Exit.inBlock, Exit.then]); refine bodyPost_ret (by simp [results, Try.results75, go_sem, *]; try rfl) rfl ?_
        exact ⟨rfl, by refine Below.trans HB'.out ?_; refine Below.trans (hb.mono (by omega)) ?_; (repeat' (first | (with_reducible exact Below.refl _ _) | (refine Below.trans ?_ (Below.mono (by with_reducible assumption) ?_)) | (with_reducible exact Below.refl _ _) | (with_reducible refine below_drewN ?_ _) | (with_reducible refine Below.drew ?_) | (with_reducible refine Below.setCell ?_ ?_ _) | (with_reducible refine Below.alloc ?_ ?_ _) | (with_reducible assumption) | (simp; done) | (simp; omega) | omega))⟩
  · rintro e w' ⟨rfl, hw⟩
    exact ⟨_, _, _, _, rfl, l00, ⟨B1, B2⟩, ⟨G1, G2⟩, ⟨by omega, hT⟩, hN, hw⟩
end Go.Proofs.Ytkhhjibpppmekaa

/- dec.result, Int, Neg: what each call returns, in whatever world. -/
namespace Go.Proofs.Ytkhhjibpppmekaa
open Go.RowKit
set_option maxRecDepth 100000 in
set_option maxHeartbeats 400000 in
theorem result_ok (neg : Bool) (a b c d z : Int) (ha : Wd a) (hb : Wd b) (hc : Wd c) (hd : Wd d) (hz : lim4 a b c d = z.natAbs) (hs : z = 0 ∨ neg = decide (z < 0)) (hl : z.natAbs < LIM) (w : World) :
    Calls Try.prog 76 #[.bool neg, .agg #[.int .u64 a, .int .u64 b, .int .u64 c, .int .u64 d]] w fun e w' => e = .returned (.tuple #[.agg #[.bool (zn (z)), .int .u64 (zh (z)), .int .u64 (zl (z))], .nilIface]) ∧ Below w.heap.size w w' := by
  obtain ⟨rfl, rfl, hbl⟩ := lim4_lt ha hb hc hd (by omega)
  rw [lim4_small] at hz
  have hi : z ≠ 0 → IsD neg b a z := fun h => ⟨hb, ha, hz, by rcases hs with hs | hs; exact absurd hs h; exact hs, hl⟩
  obtain ⟨a1, a2⟩ := ha; obtain ⟨b1, b2⟩ := hb
  by_cases h0 : z = 0
  · subst h0
    obtain rfl : a = 0 := by simp at hz; omega
    obtain rfl : b = 0 := by simp at hz; omega
    clear hi hs hl hz a1 a2 b1 b2
    have e1 : zn 0 = false := by decide
    have e2 : zh 0 = 0 := by decide
    have e3 : zl 0 = 0 := by decide
    rw [e1, e2, e3]; clear e1 e2 e3
    go_enter Try.func76, Try.ntmps76
    go_wp2_with (go_at_call 65; refine (below_any _ _ _ _ _).mono ?_; rintro e w' ⟨rfl, rfl⟩)
    go_returns
    exact ⟨rfl, by (repeat' (first | (with_reducible exact Below.refl _ _) | (refine Below.trans ?_ (Below.mono (by with_reducible assumption) ?_)) | (with_reducible exact Below.refl _ _) | (with_reducible refine below_drewN ?_ _) | (with_reducible refine Below.drew ?_) | (with_reducible refine Below.setCell ?_ ?_ _) | (with_reducible refine Below.alloc ?_ ?_ _) | (with_reducible assumption) | (simp; done) | (simp; omega) | omega))⟩
  · obtain ⟨e1, e2, e3⟩ := (hi h0).eq
    rw [← e1, ← e2, ← e3]; clear e1 e2 e3 hi
    by_cases hb0 : b = 0
    · subst hb0
      have ha0 : (a == 0) = false := by rw [beq_eq_false_iff_ne]; omega
      clear hs hl hz h0
      go_enter Try.func76, Try.ntmps76
      go_wp2_with (go_at_call 65; refine (below_any _ _ _ _ _).mono ?_; rintro e w' ⟨rfl, rfl⟩)
      go_returns
      exact ⟨rfl, by (repeat' (first | (with_reducible exact Below.refl _ _) | (refine Below.trans ?_ (Below.mono (by with_reducible assumption) ?_)) | (with_reducible exact Below.refl _ _) | (with_reducible refine below_drewN ?_ _) | (with_reducible refine Below.drew ?_) | (with_reducible refine Below.setCell ?_ ?_ _) | (with_reducible refine Below.alloc ?_ ?_ _) | (with_reducible assumption) | (simp; done) | (simp; omega) | omega))⟩
    · have hb0' : (b == 0) = false := by rw [beq_eq_false_iff_ne]; omega
      clear hs hl hz h0
      go_enter Try.func76, Try.ntmps76
      go_wp2_with (go_at_call 65; refine (below_any _ _ _ _ _).mono ?_; rintro e w' ⟨rfl, rfl⟩)
      go_returns
      exact ⟨rfl, by (repeat' (first | (with_reducible exact Below.refl _ _) | (refine Below.trans ?_ (Below.mono (by with_reducible assumption) ?_)) | (with_reducible exact Below.refl _ _) | (with_reducible refine below_drewN ?_ _) | (with_reducible refine Below.drew ?_) | (with_reducible refine Below.setCell ?_ ?_ _) | (with_reducible refine Below.alloc ?_ ?_ _) | (with_reducible assumption) | (simp; done) | (simp; omega) | omega))⟩

theorem wne {x : Int} (h : x ≠ 0) : (x == 0) = false := by rw [beq_eq_false_iff_ne]; exact h
set_option maxRecDepth 100000 in
set_option maxHeartbeats 400000 in
theorem result_over (neg : Bool) (a b c d : Int) (ha : Wd a) (hb : Wd b) (hc : Wd c) (hd : Wd d) (hl : LIM ≤ lim4 a b c d) (w : World) :
    Calls Try.prog 76 #[.bool neg, .agg #[.int .u64 a, .int .u64 b, .int .u64 c, .int .u64 d]] w fun e w' => e = .returned (.tuple #[.agg #[.bool false, .int .u64 0, .int .u64 0], .iface 83 (.int .i64 2)]) ∧ Below w.heap.size w w' := by
  by_cases hd0 : d = 0
  · subst hd0
    by_cases hc0 : c = 0
    · subst hc0
      have hbl : blw b a 54210108624275221 12919594847110692864 = false := by
        rw [Bool.eq_false_iff]
        intro h
        rw [blw_iff ha hb] at h
        rw [lim4_small] at hl
        omega
      clear ha hb hc hd hl
      go_enter Try.func76, Try.ntmps76
      go_wp2_with (go_at_call 65; refine (below_any _ _ _ _ _).mono ?_; rintro e w' ⟨rfl, rfl⟩)
      go_returns
      exact ⟨rfl, by (repeat' (first | (with_reducible exact Below.refl _ _) | (refine Below.trans ?_ (Below.mono (by with_reducible assumption) ?_)) | (with_reducible exact Below.refl _ _) | (with_reducible refine below_drewN ?_ _) | (with_reducible refine Below.drew ?_) | (with_reducible refine Below.setCell ?_ ?_ _) | (with_reducible refine Below.alloc ?_ ?_ _) | (with_reducible assumption) | (simp; done) | (simp; omega) | omega))⟩
    · have hc1 := wne hc0
      clear ha hb hc hd hl
      go_enter Try.func76, Try.ntmps76
      go_wp2_with (go_at_call 65; refine (below_any _ _ _ _ _).mono ?_; rintro e w' ⟨rfl, rfl⟩)
      go_returns
      exact ⟨rfl, by (repeat' (first | (with_reducible exact Below.refl _ _) | (refine Below.trans ?_ (Below.mono (by with_reducible assumption) ?_)) | (with_reducible exact Below.refl _ _) | (with_reducible refine below_drewN ?_ _) | (with_reducible refine Below.drew ?_) | (with_reducible refine Below.setCell ?_ ?_ _) | (with_reducible refine Below.alloc ?_ ?_ _) | (with_reducible assumption) | (simp; done) | (simp; omega) | omega))⟩
  · have hd1 := wne hd0
    clear ha hb hc hd hl
    go_enter Try.func76, Try.ntmps76
    go_wp2_with (go_at_call 65; refine (below_any _ _ _ _ _).mono ?_; rintro e w' ⟨rfl, rfl⟩)
    go_returns
    exact ⟨rfl, by (repeat' (first | (with_reducible exact Below.refl _ _) | (refine Below.trans ?_ (Below.mono (by with_reducible assumption) ?_)) | (with_reducible exact Below.refl _ _) | (with_reducible refine below_drewN ?_ _) | (with_reducible refine Below.drew ?_) | (with_reducible refine Below.setCell ?_ ?_ _) | (with_reducible refine Below.alloc ?_ ?_ _) | (with_reducible assumption) | (simp; done) | (simp; omega) | omega))⟩

theorem wrap_i64_u64 (n : Int) (h : 0 ≤ n) (h1 : n < 9223372036854775808) : IntKind.u64.wrap n = n := by rw [IntKind.wrap_u64]; omega
theorem wrap_neg_u64 (n : Int) (h : n < 0) (h1 : -9223372036854775808 ≤ n) : IntKind.u64.wrap (-IntKind.u64.wrap n) = -n := by simp only [IntKind.wrap_u64]; omega
set_option maxRecDepth 100000 in
set_option maxHeartbeats 400000 in
theorem int_any (n : Int) (h0 : -9223372036854775808 ≤ n) (h1 : n < 9223372036854775808) (w : World) :
    Calls Try.prog 46 #[.int .i64 n] w fun e w' => e = .returned (.agg #[.bool (zn (n * 1000000)), .int .u64 (zh (n * 1000000)), .int .u64 (zl (n * 1000000))]) ∧ Below w.heap.size w w' := by
  by_cases hn : n < 0
  · have e1 : zn (n * 1000000) = true := by unfold zn; rw [decide_eq_true_eq]; omega
    have e2 : zh (n * 1000000) = ph (-n) 1000000 := by unfold zh ph; omega
    have e3 : zl (n * 1000000) = pl (-n) 1000000 := by unfold zl pl; omega
    rw [e1, e2, e3]; clear e1 e2 e3
    have ew := wrap_neg_u64 n hn h0
    go_enter Try.func46, Try.ntmps46
    go_wp2_with (go_at_call 77; refine (mul64 _ _ (by omega) (by omega) (by omega) (by omega) _).mono ?_; rintro e w' ⟨rfl, rfl⟩)
    go_returns
    exact ⟨rfl, by (repeat' (first | (with_reducible exact Below.refl _ _) | (refine Below.trans ?_ (Below.mono (by with_reducible assumption) ?_)) | (with_reducible exact Below.refl _ _) | (with_reducible refine below_drewN ?_ _) | (with_reducible refine Below.drew ?_) | (with_reducible refine Below.setCell ?_ ?_ _) | (with_reducible refine Below.alloc ?_ ?_ _) | (with_reducible assumption) | (simp; done) | (simp; omega) | omega))⟩
  · have hd : decide (n < 0) = false := decide_eq_false hn
    have e1 : zn (n * 1000000) = false := by unfold zn; rw [decide_eq_false_iff_not]; omega
    have e2 : zh (n * 1000000) = ph n 1000000 := by unfold zh ph; omega
    have e3 : zl (n * 1000000) = pl n 1000000 := by unfold zl pl; omega
    rw [e1, e2, e3]; clear e1 e2 e3
    go_enter Try.func46, Try.ntmps46
    go_wp2_with (go_at_call 77; refine (mul64 _ _ (by omega) (by omega) (by omega) (by omega) _).mono ?_; rintro e w' ⟨rfl, rfl⟩)
    go_returns
    exact ⟨rfl, by (repeat' (first | (with_reducible exact Below.refl _ _) | (refine Below.trans ?_ (Below.mono (by with_reducible assumption) ?_)) | (with_reducible exact Below.refl _ _) | (with_reducible refine below_drewN ?_ _) | (with_reducible refine Below.drew ?_) | (with_reducible refine Below.setCell ?_ ?_ _) | (with_reducible refine Below.alloc ?_ ?_ _) | (with_reducible assumption) | (simp; done) | (simp; omega) | omega))⟩

end Go.Proofs.Ytkhhjibpppmekaa
