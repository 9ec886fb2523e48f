/- Several texts put together: NumK, RefF, DecA, Nat, Div64, DecM. -/
import Derived.Test.YtkhhjibpppmekaaBu4
import Derived.Test.YtkhhjibpppmekaaBu6
import Derived.Test.YtkhhjibpppmekaaBu1
import Derived.Lib.BitFns
import Derived.Test.YtkhhjibpppmekaaShelf
import Derived.Laws.BitsAllLaws
import Derived.Test.YtkhhjibpppmekaaBu2
/- Plain facts on numerals: a letter ahead, a letter behind. -/
namespace Go.Proofs.Ytkhhjibpppmekaa
open Go.RowKit
/-- How many bytes the numeral has, 0 where there is none. -/
def nP (bs : List Nat) : Nat := if nW bs + nB bs = 0 then 0 else nI3 bs
theorem nP_le (bs : List Nat) : nP bs ≤ bs.length := by
  unfold nP; split
  · omega
  · exact nI3_le bs
theorem x_ahead (bs : List Nat) : nW (120 :: bs) + nB (120 :: bs) = 0 := by
  have h1 : span blankB (120 :: bs) = 0 := by simp [span, blankB]
  have h2 : sgn (120 :: bs) = 0 := by unfold sgn; rw [h1]; simp
  have h3 : nI1 (120 :: bs) = 0 := by unfold nI1; rw [h1, h2]
  have h4 : nW (120 :: bs) = 0 := by unfold nW; rw [h3]; simp [span, digB]
  have h5 : nI2 (120 :: bs) = 0 := by unfold nI2; rw [h3, h4]
  have h6 : nDot (120 :: bs) = false := by unfold nDot; rw [h5]; rfl
  have h7 : nB (120 :: bs) = 0 := by unfold nB; rw [h6]; rfl
  rw [h4, h7]
theorem looks_ahead (bs : List Nat) : looksB (120 :: bs) = false := by
  unfold looksB; rw [x_ahead]; rfl
theorem span_full {p : Nat → Bool} {l : List Nat} (h : span p l = l.length) (x : Nat) (hx : x ∈ l) : p x = true := by
  obtain ⟨j, hj, rfl⟩ := List.getElem_of_mem hx
  exact span_all p l j (by omega) hj
/-- What a numeral is made of. -/
def numeralB (c : Nat) : Bool := blankB c || digB c || decide (c = 43) || decide (c = 45) || decide (c = 46)
theorem nI3_mem (bs : List Nat) (j : Nat) (hj : j < bs.length) (h : j < nI3 bs) : numeralB bs[j] = true := by
  unfold numeralB
  by_cases h0 : j < span blankB bs
  · rw [span_all blankB bs j h0 hj]; rfl
  by_cases h1 : j < nI1 bs
  · unfold nI1 at h1
    cases hs : (sgn bs == 1)
    · rw [(sgn_zero hs).1] at h1; omega
    · obtain ⟨e, hl, hx, _⟩ := sgn_one hs
      have : j = span blankB bs := by omega
      subst this
      rcases hx with hx | hx <;> rw [hx] <;> rfl
  by_cases h2 : j < nI2 bs
  · have hd := span_all digB (bs.drop (nI1 bs)) (j - nI1 bs) (by unfold nI2 nW at h2; omega) (by rw [List.length_drop]; omega)
    rw [List.getElem_drop] at hd
    have e : nI1 bs + (j - nI1 bs) = j := by omega
    simp only [e] at hd
    rw [hd]; simp
  unfold nI3 at h
  split at h
  · rename_i hdot
    by_cases h3 : j = nI2 bs
    · subst h3
      unfold nDot at hdot
      rw [head_drop hj] at hdot
      have : bs[nI2 bs] = 46 := by simpa using hdot
      rw [this]; rfl
    · have hb : nB bs = span digB (bs.drop (nI2 bs + 1)) := by unfold nB; rw [if_pos hdot]
      have hd := span_all digB (bs.drop (nI2 bs + 1)) (j - (nI2 bs + 1)) (by rw [← hb]; omega) (by rw [List.length_drop]; omega)
      rw [List.getElem_drop] at hd
      have e : nI2 bs + 1 + (j - (nI2 bs + 1)) = j := by omega
      simp only [e] at hd
      rw [hd]; simp
  · omega
theorem looks_behind (bs : List Nat) : looksB (bs ++ [120]) = false := by
  unfold looksB
  rw [Bool.and_eq_false_iff]
  right
  rw [decide_eq_false_iff_not]
  intro h
  have hle : nI3 (bs ++ [120]) ≤ bs.length := by
    rcases Nat.lt_or_ge bs.length (nI3 (bs ++ [120])) with hlt | hge
    · have := nI3_mem (bs ++ [120]) bs.length (by simp) hlt
      simp [numeralB, blankB, digB] at this
    · exact hge
  have := span_full h 120 (by rw [List.drop_append_of_le_length hle]; simp)
  simp [blankB] at this
theorem looks_all {bs : List Nat} (h : looksB bs = true) : 0 < nP bs ∧ ∀ j (hj : j < bs.length), nP bs ≤ j → blankB bs[j] = true := by
  unfold looksB at h
  rw [Bool.and_eq_true, decide_eq_true_eq, decide_eq_true_eq] at h
  obtain ⟨h1, h2⟩ := h
  have e : nP bs = nI3 bs := by unfold nP; rw [if_neg (by omega)]
  rw [e]
  refine ⟨nI3_pos' h1, fun j hj hle => ?_⟩
  have := span_all blankB (bs.drop (nI3 bs)) (j - nI3 bs) (by rw [h2, List.length_drop]; omega) (by rw [List.length_drop]; omega)
  rw [List.getElem_drop] at this
  have e : nI3 bs + (j - nI3 bs) = j := by omega
  simpa only [e] using this
end Go.Proofs.Ytkhhjibpppmekaa

/- fieldfareref02: Looks. -/
namespace Go.Proofs.Ytkhhjibpppmekaa
open Go.RowKit
theorem rprefix_n (bs : List Nat) (w : World) (hb : ∀ x ∈ bs, x < 256) (hl : bs.length ≤ 100000) :
    Calls Try.prog 69 #[.string (strN bs)] w fun e w' => ∃ (p : Bool) (A : Option Addr) (n c : Nat) (k : Int), e = .returned (.agg #[.bool p, .slice A n c, .int .i64 ((nP bs : Nat) : Int), .int .i64 k]) ∧ Below w.heap.size w w' := by
  refine (rprefix_any bs w hb hl).mono fun e w' ⟨h, hB⟩ => ?_
  rcases h with ⟨hz, rfl⟩ | ⟨hz, _, rfl⟩ | ⟨hz, _, A, c, rfl, _, _⟩
  · exact ⟨_, _, _, _, _, by unfold nP; rw [if_pos hz]; rfl, hB⟩
  · exact ⟨_, _, _, _, _, by unfold nP; rw [if_neg (by omega)], hB⟩
  · exact ⟨_, _, _, _, _, by unfold nP; rw [if_neg (by omega)], hB⟩
theorem looks_iff (bs : List Nat) : looksB bs = (decide (0 < nP bs) && decide (span blankB (bs.drop (nP bs)) = (bs.drop (nP bs)).length)) := by
  unfold looksB nP
  by_cases h : nW bs + nB bs = 0
  · rw [if_pos h, h]; rfl
  · rw [if_neg h]
    have := nI3_pos' (bs := bs) (by omega)
    rw [decide_eq_true (show 0 < nW bs + nB bs by omega), decide_eq_true this]
set_option maxRecDepth 100000 in
set_option maxHeartbeats 800000 in
theorem rlooks_any (bs : List Nat) (w : World) (hb : ∀ x ∈ bs, x < 256) (hl : bs.length ≤ 100000) :
    Calls Try.prog 87 #[.string (strN bs)] w fun e w' => e = .returned (.bool (looksB bs)) ∧ Below w.heap.size w w' := by
  have hlk := looks_iff bs
  have hn := nP_le bs
  have pr := fun W => rprefix_n bs W hb hl
  obtain ⟨n, hnn⟩ : ∃ n, n = nP bs := ⟨_, rfl⟩
  rw [← hnn] at hlk hn pr
  obtain ⟨S, hS⟩ : ∃ S, S = strN bs := ⟨_, rfl⟩
  have hSl : S.size = bs.length := by rw [hS]; exact strN_size bs
  have hSg : ∀ k (hk : k < bs.length) (hk' : k < S.size), S[k].toNat = bs[k] := by
    intro k hk hk'
    subst hS
    have := strN_get hb k hk hk'
    omega
  rw [← hS] at pr
  have PR := Lib.hid pr
  rw [← hS]
  have HSG := Lib.hid hSg; have HLK := Lib.hid hlk
  clear hS hSg hb hlk hnn pr
  by_cases h0 : n = 0
  · subst h0
    have hfin : looksB bs = false := by rw [HLK.out]; rfl
    have HF := Lib.hid hfin; clear hfin
    go_enter Try.func87, Try.ntmps87
    go_wp2_with (go_at_call 69; refine (PR.out _).mono ?_; rintro e w1 ⟨p, A, m, c, k, rfl, b1⟩; have hs_b1 := Below.size b1; (try simp at hs_b1))
    go_ret
    exact ⟨by rw [HF.out]; rfl, by (repeat' (first | (with_reducible exact Below.refl _ _) | (refine Below.trans ?_ (Below.mono (by with_reducible assumption) ?_)) | (with_reducible exact Below.refl _ _) | (with_reducible refine below_drewN ?_ _) | (with_reducible refine Below.drew ?_) | (with_reducible refine Below.setCell ?_ ?_ _) | (with_reducible refine Below.alloc ?_ ?_ _) | (with_reducible assumption) | (simp; done) | (simp; omega) | omega))⟩
  · have hn0 : ((n : Int) == 0) = false := by rw [beq_eq_false_iff_ne]; omega
    obtain ⟨l, hll⟩ : ∃ l, l = bs.drop n := ⟨_, rfl⟩
    have hlen : l.length = bs.length - n := by rw [hll, List.length_drop]
    have hel : ∀ j (h : j < l.length), ∃ h' : n + j < bs.length, l[j] = bs[n + j] := by
      intro j h; subst hll; exact ⟨by rw [List.length_drop] at h; omega, List.getElem_drop⟩
    have hlk2 : looksB bs = decide (span blankB l = l.length) := by rw [HLK.out, decide_eq_true (by omega), hll]; rfl
    have HLN := Lib.hid hlen; have HEL := Lib.hid hel; have HL2 := Lib.hid hlk2; have H0 := Lib.hid h0
    clear hll hlen hel hlk2 h0
    go_enter Try.func87, Try.ntmps87
    go_wp2_with (go_at_call 69; refine (PR.out _).mono ?_; rintro e w1 ⟨p, A, m, c, k, rfl, b1⟩; have hs_b1 := Below.size b1; (try simp at hs_b1))
    have HB1 := Lib.hid b1
    clear b1
    go_loop [4] (fun i => ∃ k : Nat, n + k ≤ bs.length ∧ i = .int .i64 ((n + k : Nat) : Int) ∧ Hid (∀ j (hj : j < l.length), j < k → blankB l[j] = true)) (fun i => bs.length - (intOf i).toNat)
    case atStart => exact ⟨0, by omega, rfl, Lib.hid (fun _ _ h => absurd h (by omega))⟩
    case round =>
      obtain ⟨k, hk, rfl, hall⟩ := hrel
      obtain ⟨m, hm⟩ : ∃ m, m = n + k := ⟨_, rfl⟩
      rw [← hm] at hk
      rw [← hm]
      have HM := Lib.hid hm; clear hm
      by_cases hlt : m < bs.length
      · have hmS : m < S.size := by omega
        have hx := HSG.out m hlt hmS
        have hkl : k < l.length := by have := HLN.out; have := HM.out; omega
        obtain ⟨_, he⟩ := HEL.out k hkl
        have hlm : l[k] = bs[m] := by rw [he]; congr 1; exact HM.out.symm
        cases hbx : blankB bs[m]
        · have hfin : looksB bs = false := by
            have hs : span blankB l = k := span_eq _ _ _ (by omega) (fun j hj hjk => hall.out j hj hjk) (fun hj => by rw [hlm]; exact hbx)
            rw [HL2.out, hs, decide_eq_false_iff_not]; omega
          have HF := Lib.hid hfin
          rw [← hx] at hbx
          clear hfin hx hlm he hkl
          go_wp2_with (go_at_call 92; refine (rblank_any _ _).mono ?_; rintro e w' ⟨rfl, rfl⟩)
          go_ret
          exact ⟨by rw [HF.out]; rfl, by refine Below.trans HB1.out ?_; (repeat' (first | (with_reducible exact Below.refl _ _) | (refine Below.trans ?_ (Below.mono (by with_reducible assumption) ?_)) | (with_reducible exact Below.refl _ _) | (with_reducible refine below_drewN ?_ _) | (with_reducible refine Below.drew ?_) | (with_reducible refine Below.setCell ?_ ?_ _) | (with_reducible refine Below.alloc ?_ ?_ _) | (with_reducible assumption) | (simp; done) | (simp; omega) | omega))⟩
        · have hall2 : ∀ j (hj : j < l.length), j < k + 1 → blankB l[j] = true := by
            intro j hj hjk
            by_cases e : j = k
            · subst e; rw [hlm]; exact hbx
            · exact hall.out j hj (by omega)
          have HA2 := Lib.hid hall2
          rw [← hx] at hbx
          clear hall2 hx hlm he hkl hall
          go_wp2_with (go_at_call 92; refine (rblank_any _ _).mono ?_; rintro e w' ⟨rfl, rfl⟩)
          refine ⟨⟨k + 1, by have := HM.out; omega, congrArg (Value.int .i64) (by have := HM.out; omega), HA2⟩, by simp [intOf]; omega⟩
      · have hfin : looksB bs = true := by
          have hkl : k = l.length := by have := HLN.out; have := HM.out; omega
          have hs : span blankB l = k := span_eq _ _ _ (by omega) (fun j hj hjk => hall.out j hj hjk) (fun hj => by omega)
          rw [HL2.out, hs, decide_eq_true_eq]; exact hkl
        have HF := Lib.hid hfin
        clear hfin
        go_wp2_with fail
        go_ret
        exact ⟨by rw [HF.out]; rfl, by refine Below.trans HB1.out ?_; (repeat' (first | (with_reducible exact Below.refl _ _) | (refine Below.trans ?_ (Below.mono (by with_reducible assumption) ?_)) | (with_reducible exact Below.refl _ _) | (with_reducible refine below_drewN ?_ _) | (with_reducible refine Below.drew ?_) | (with_reducible refine Below.setCell ?_ ?_ _) | (with_reducible refine Below.alloc ?_ ?_ _) | (with_reducible assumption) | (simp; done) | (simp; omega) | omega))⟩
end Go.Proofs.Ytkhhjibpppmekaa

/- The walks of dec.below and dec.Good: what each call returns, in whatever world. -/
namespace Go.Proofs.Ytkhhjibpppmekaa
open Go.RowKit

def blw (aH aL bH bL : Int) : Bool := decide (aH < bH) || (aH == bH && decide (aL < bL))

set_option maxHeartbeats 400000 in
theorem below_any (aH aL bH bL : Int) (w : World) :
    Calls Try.prog 65 #[.int .u64 aH, .int .u64 aL, .int .u64 bH, .int .u64 bL] w fun e w' => e = .returned (.bool (blw aH aL bH bL)) ∧ w = w' := by
  by_cases h1 : aH < bH
  · have e1 : blw aH aL bH bL = true := by simp [blw, h1]
    rw [e1]; clear e1
    go_enter Try.func65, Try.ntmps65
    go_wp2
    go_ret
    exact ⟨rfl, rfl⟩
  · by_cases h2 : aH = bH
    · subst h2
      have e1 : blw aH aL aH bL = decide (aL < bL) := by simp [blw]
      rw [e1]; clear e1 h1
      go_enter Try.func65, Try.ntmps65
      go_wp2
      go_ret
      exact ⟨rfl, rfl⟩
    · have e1 : blw aH aL bH bL = false := by simp [blw, h1, h2]
      rw [e1]; clear e1
      have h3 : (aH == bH) = false := by simpa using h2
      clear h2
      go_enter Try.func65, Try.ntmps65
      go_wp2
      go_ret
      exact ⟨rfl, rfl⟩
theorem below_q (aH aL bH bL : Int) (w : World) :
    Calls Try.prog 65 #[.int .u64 aH, .int .u64 aL, .int .u64 bH, .int .u64 bL] w fun e w' => e = .returned (.bool (blw aH aL bH bL)) ∧ w' = w :=
  (below_any aH aL bH bL w).mono fun _ _ ⟨he, hw⟩ => ⟨he, hw.symm⟩

def goodB (neg : Bool) (hi lo : Int) : Bool := blw hi lo 54210108624275221 12919594847110692864 && !(neg && hi == 0 && lo == 0)

set_option maxHeartbeats 400000 in
theorem good_any (neg : Bool) (hi lo : Int) (w : World) :
    Calls Try.prog 31 #[.agg #[.bool neg, .int .u64 hi, .int .u64 lo]] w fun e w' => e = .returned (.bool (goodB neg hi lo)) ∧ w.alloc (.cells #[.bool neg, .int .u64 hi, .int .u64 lo] 24) = w' := by
  have hg : goodB neg hi lo = (blw hi lo 54210108624275221 12919594847110692864 && !(neg && hi == 0 && lo == 0)) := rfl
  cases h1 : blw hi lo 54210108624275221 12919594847110692864
  all_goals
    rw [h1] at hg
    have HG := Lib.hid hg; clear hg
    go_enter Try.func31, Try.ntmps31
    go_wp2_with (go_at_call 65; refine (below_any _ _ _ _ _).mono ?_; rintro e w' ⟨rfl, rfl⟩)
    all_goals (go_ret; exact ⟨by rw [HG.out]; simp [*], by simp [*]⟩)
end Go.Proofs.Ytkhhjibpppmekaa

/- Plain arithmetic for math/bits.Div64: how many leading zeros a word has, and how a digit of a quotient is found. No program here. -/
namespace Go.Proofs.Ytkhhjibpppmekaa

theorem bl_bounds (x : Nat) : x ≠ 0 → x < 2 ^ 64 → 2 ^ Lib.bitLen x ≤ 2 * x ∧ x < 2 ^ Lib.bitLen x := by
  induction x using Nat.strongRecOn with
  | ind x ih =>
    intro h0 h
    rw [Lib.bitLen_half x h0 h]
    by_cases h1 : x / 2 = 0
    · rw [h1]
      have e : Lib.bitLen 0 = 0 := by decide
      rw [e]
      have : x = 1 := by omega
      subst this; decide
    · have := ih (x / 2) (by omega) h1 (by omega)
      rw [Nat.add_comm 1, Nat.pow_succ]
      omega

theorem lz_bounds (x : Nat) (h0 : x ≠ 0) (h : x < 2 ^ 64) :
    ∃ s : Nat, 64 - (Lib.bitLen x : Int) = s ∧ s ≤ 63 ∧ 9223372036854775808 ≤ x * 2 ^ s ∧ x * 2 ^ s < 18446744073709551616 := by
  have ⟨a, b⟩ := bl_bounds x h0 h
  have c := Lib.bitLen_le x 64 (Nat.le_refl _) h
  have d : 1 ≤ Lib.bitLen x := by
    rcases Nat.eq_zero_or_pos (Lib.bitLen x) with e | e
    · rw [e] at b; omega
    · exact e
  refine ⟨64 - Lib.bitLen x, by omega, by omega, ?_, ?_⟩
  · have e : 2 ^ Lib.bitLen x * 2 ^ (64 - Lib.bitLen x) = 18446744073709551616 := by
      rw [← Nat.pow_add, show Lib.bitLen x + (64 - Lib.bitLen x) = 64 by omega]
    have := Nat.mul_le_mul_right (2 ^ (64 - Lib.bitLen x)) a
    rw [e, Nat.mul_assoc] at this
    omega
  · have e : 2 ^ Lib.bitLen x * 2 ^ (64 - Lib.bitLen x) = 18446744073709551616 := by
      rw [← Nat.pow_add, show Lib.bitLen x + (64 - Lib.bitLen x) = 64 by omega]
    rw [← e]
    exact Nat.mul_lt_mul_of_pos_right b (Nat.pow_pos (by decide))

/-- A divisor that is normal, in two halves; what is left, the next digit. -/
structure Nrm (v y1 y0 u d : Int) : Prop where
  hv : v = y1 * 4294967296 + y0
  a1 : 2147483648 ≤ y1
  a2 : y1 < 4294967296
  b1 : 0 ≤ y0
  b2 : y0 < 4294967296
  u1 : 0 ≤ u
  u2 : u < v
  d1 : 0 ≤ d
  d2 : d < 4294967296

/-- The quotient's digit. -/
def kq (v u d : Int) : Int := (u * 4294967296 + d) / v

/-- What holds while the digit is sought. -/
structure Kinv (v y1 u d q r : Int) : Prop where
  e : q * y1 + r = u
  r0 : 0 ≤ r
  r1 : r < 4294967296
  lo : kq v u d ≤ q
  hi : q ≤ 4294967297
  q0 : 0 ≤ q

section
variable {v y1 y0 u d q r : Int}
theorem kq_lt (h : Nrm v y1 y0 u d) : 0 ≤ kq v u d ∧ kq v u d < 4294967296 := by
  obtain ⟨hv, a1, a2, b1, b2, u1, u2, d1, d2⟩ := h
  unfold kq
  have hp : 0 < v := by omega
  refine ⟨Int.ediv_nonneg (by omega) (by omega), Int.ediv_lt_of_lt_mul hp ?_⟩
  omega
theorem mulv (h : Nrm v y1 y0 u d) (q : Int) : q * v = (q * y1) * 4294967296 + q * y0 := by
  rw [h.hv, Int.mul_add, Int.mul_assoc]
theorem kq_lt_of (h : Nrm v y1 y0 u d) {q : Int} (hq : u * 4294967296 + d < q * v) : kq v u d < q :=
  Int.ediv_lt_of_lt_mul (by have := h.u1; have := h.u2; omega) hq
theorem le_kq_of (h : Nrm v y1 y0 u d) {q : Int} (hq : q * v ≤ u * 4294967296 + d) : q ≤ kq v u d :=
  Int.le_ediv_of_mul_le (by have := h.u1; have := h.u2; omega) hq
theorem kinv_start (h : Nrm v y1 y0 u d) : Kinv v y1 u d (u / y1) (u - u / y1 * y1) := by
  have hm := Int.emod_add_mul_ediv u y1
  have hp : 0 < y1 := by have := h.a1; omega
  have m0 := Int.emod_nonneg u (show y1 ≠ 0 by omega)
  have m1 := Int.emod_lt_of_pos u hp
  have hc : y1 * (u / y1) = u / y1 * y1 := Int.mul_comm _ _
  have hq0 : 0 ≤ u / y1 := Int.ediv_nonneg h.u1 (by omega)
  obtain ⟨hv, a1, a2, b1, b2, u1, u2, d1, d2⟩ := id h
  refine ⟨by omega, by omega, by omega, ?_, ?_, hq0⟩
  · have : kq v u d < u / y1 + 1 := by
      apply kq_lt_of h
      rw [mulv h]
      simp only [Int.add_mul, Int.one_mul]
      have : 0 ≤ u / y1 * y0 := Int.mul_nonneg hq0 b1
      omega
    omega
  · have : u / y1 < 4294967298 := by
      apply Int.ediv_lt_of_lt_mul hp
      omega
    omega
theorem kprod (h : Nrm v y1 y0 u d) (_k : Kinv v y1 u d q r) (hq : q < 4294967296) (hq0 : 0 ≤ q) : 0 ≤ q * y0 ∧ q * y0 < 18446744073709551616 := by
  refine ⟨Int.mul_nonneg hq0 h.b1, ?_⟩
  have a : q * y0 ≤ 4294967295 * y0 := Int.mul_le_mul_of_nonneg_right (by omega) h.b1
  have := h.b2
  omega
theorem kgreat (h : Nrm v y1 y0 u d) (k : Kinv v y1 u d q r) (ht : 4294967296 ≤ q ∨ 4294967296 * r + d < q * y0) : kq v u d < q := by
  rcases ht with ht | ht
  · have := (kq_lt h).2; omega
  · apply kq_lt_of h
    rw [mulv h]
    have := k.e
    omega
theorem kdone (h : Nrm v y1 y0 u d) (k : Kinv v y1 u d q r) (ht : q * y0 ≤ 4294967296 * r + d) : q = kq v u d := by
  have : q ≤ kq v u d := by
    apply le_kq_of h
    rw [mulv h]
    have := k.e
    omega
  have := k.lo
  omega
theorem knext (h : Nrm v y1 y0 u d) (k : Kinv v y1 u d q r) (ht : 4294967296 ≤ q ∨ 4294967296 * r + d < q * y0) (hr : r + y1 < 4294967296) : Kinv v y1 u d (q - 1) (r + y1) := by
  have g := kgreat h k ht
  have q0 := (kq_lt h).1
  obtain ⟨e, r0, r1, lo, hi, _⟩ := k
  have := h.a1
  refine ⟨?_, by omega, hr, by omega, by omega, by omega⟩
  rw [Int.sub_mul]; omega
theorem kbreak (h : Nrm v y1 y0 u d) (k : Kinv v y1 u d q r) (ht : 4294967296 ≤ q ∨ 4294967296 * r + d < q * y0) (hr : 4294967296 ≤ r + y1) : q - 1 = kq v u d := by
  have g := kgreat h k ht
  have q0 := (kq_lt h).1
  obtain ⟨e, r0, r1, lo, hi, _⟩ := k
  have : q - 1 ≤ kq v u d := by
    apply le_kq_of h
    rw [mulv h]
    simp only [Int.sub_mul, Int.one_mul]
    have a : q * y0 ≤ 4294967297 * y0 := Int.mul_le_mul_of_nonneg_right hi h.b1
    have := h.b2
    have := h.b1
    have := h.d1
    omega
  omega
/-- What is left behind a digit. -/
theorem kleft (h : Nrm v y1 y0 u d) : 0 ≤ u * 4294967296 + d - kq v u d * v ∧ u * 4294967296 + d - kq v u d * v < v ∧ u * 4294967296 + d - kq v u d * v = (u * 4294967296 + d) % v := by
  have hp : 0 < v := by have := h.u1; have := h.u2; omega
  have e := Int.emod_add_mul_ediv (u * 4294967296 + d) v
  have m0 := Int.emod_nonneg (u * 4294967296 + d) (show v ≠ 0 by omega)
  have m1 := Int.emod_lt_of_pos (u * 4294967296 + d) hp
  unfold kq
  rw [Int.mul_comm _ v]
  omega
end

/-- The two digits together are the quotient; what is left of the last one is the rest, moved. -/
theorem kjoin (hi lo y p v : Int) (hp : 0 < p) (hv : v = y * p) (hy : 0 < y) (u d1 d0 : Int) (hn : (u * 4294967296 + d1) * 4294967296 + d0 = (hi * 18446744073709551616 + lo) * p) (_h1 : 0 ≤ d0) (_h2 : d0 < 4294967296) :
    kq v u d1 * 4294967296 + kq v ((u * 4294967296 + d1) % v) d0 = (hi * 18446744073709551616 + lo) / y ∧
    (((u * 4294967296 + d1) % v) * 4294967296 + d0) % v / p = (hi * 18446744073709551616 + lo) % y := by
  have hvp : 0 < v := by rw [hv]; exact Int.mul_pos hy hp
  generalize hM : hi * 18446744073709551616 + lo = M at *
  generalize hA : u * 4294967296 + d1 = A at *
  have e := Int.emod_add_mul_ediv A v
  have hN : M * p = (A % v * 4294967296 + d0) + v * (A / v * 4294967296) := by
    rw [← hn, ← Int.mul_assoc]
    have : A * 4294967296 = (A % v + v * (A / v)) * 4294967296 := by rw [e]
    rw [Int.add_mul] at this
    omega
  constructor
  · unfold kq
    rw [hA]
    have q : M * p / v = M / y := by rw [hv]; exact Int.mul_ediv_mul_of_pos_left _ _ hp
    rw [← q, hN, Int.add_mul_ediv_left _ _ (by omega)]
    omega
  · have q : M * p % v = M % y * p := by rw [hv, Int.mul_comm M, Int.mul_comm y, Int.mul_emod_mul_of_pos _ _ hp, Int.mul_comm]
    have r : M * p % v = (A % v * 4294967296 + d0) % v := by rw [hN, Int.add_mul_emod_self_left]
    rw [← r, q]
    exact Int.mul_ediv_cancel _ (by omega)
end Go.Proofs.Ytkhhjibpppmekaa

/- math/bits.Div64: of a divisor greater than the high word it returns the quotient and the rest. -/
namespace Go.Proofs.Ytkhhjibpppmekaa
open Go.RowKit
theorem u64_mask (a : Int) (h1 : 0 ≤ a) (h2 : a < 18446744073709551616) : bits .and .u64 a 4294967295 = a % 4294967296 := by
  rw [u64_and a 4294967295 h1 h2 (by decide) (by decide), show (4294967295 : Int).toNat = 2 ^ 32 - 1 by rfl, Nat.and_two_pow_sub_one_eq_mod]
  omega
theorem u64_join (a b : Int) (p : Nat) (hp : p ≤ 63) (h1 : 0 ≤ a) (h2 : a * 2 ^ p < 18446744073709551616) (h3 : 0 ≤ b) (h4 : b < 2 ^ p) : bits .or .u64 (a * 2 ^ p) b = a * 2 ^ p + b := by
  obtain ⟨a, rfl⟩ := Int.eq_ofNat_of_zero_le h1
  obtain ⟨b, rfl⟩ := Int.eq_ofNat_of_zero_le h3
  have h4' : b < 2 ^ p := by
    have : ((b : Nat) : Int) < ((2 ^ p : Nat) : Int) := by simpa using h4
    omega
  have h2' : a * 2 ^ p < 18446744073709551616 := by
    have : ((a * 2 ^ p : Nat) : Int) < ((18446744073709551616 : Nat) : Int) := by simpa using h2
    omega
  have hb : b < 18446744073709551616 := by
    have : 2 ^ p ≤ 2 ^ 63 := Nat.pow_le_pow_right (by decide) hp
    omega
  have e : (a : Int) * 2 ^ p = ((a * 2 ^ p : Nat) : Int) := by simp
  rw [e, u64_or_nat _ _ h2' hb, Nat.mul_comm, ← Nat.two_pow_add_eq_or_of_lt h4']
  simp
/-- The numbers of Div64, moved. -/
theorem div_pre (hi lo y : Int) (s : Nat) (hs : s ≤ 63) (h1 : 0 ≤ hi) (h2 : hi < y) (h3 : 0 ≤ lo) (h4 : lo < 18446744073709551616) (v1 : 9223372036854775808 ≤ y * 2 ^ s) (v2 : y * 2 ^ s < 18446744073709551616) :
    ∃ u d1 d0 : Int, bits .or .u64 (IntKind.u64.wrap (hi * 2 ^ s)) (lo / 2 ^ (64 - s)) = u ∧ IntKind.u64.wrap (lo * 2 ^ s) / 4294967296 = d1 ∧ bits .and .u64 (IntKind.u64.wrap (lo * 2 ^ s)) 4294967295 = d0 ∧
      Nrm (y * 2 ^ s) (y * 2 ^ s / 4294967296) (y * 2 ^ s % 4294967296) u d1 ∧ 0 ≤ d0 ∧ d0 < 4294967296 ∧ (u * 4294967296 + d1) * 4294967296 + d0 = (hi * 18446744073709551616 + lo) * 2 ^ s := by
  have hp : (0 : Int) < 2 ^ s := Int.pow_pos (by decide)
  have hps : (2 : Int) ^ s * 2 ^ (64 - s) = 18446744073709551616 := by
    rw [← Int.pow_add, show s + (64 - s) = 64 by omega]; rfl
  have hp2 : (0 : Int) < 2 ^ (64 - s) := Int.pow_pos (by decide)
  have a1 : 0 ≤ hi * 2 ^ s := Int.mul_nonneg h1 (by omega)
  have a2 : (hi + 1) * 2 ^ s ≤ y * 2 ^ s := Int.mul_le_mul_of_nonneg_right (by omega) (by omega)
  rw [Int.add_mul, Int.one_mul] at a2
  have c1 : 0 ≤ lo / 2 ^ (64 - s) := Int.ediv_nonneg h3 (by omega)
  have c2 : lo / 2 ^ (64 - s) < 2 ^ s := Int.ediv_lt_of_lt_mul hp2 (by rw [hps]; exact h4)
  have e1 : IntKind.u64.wrap (hi * 2 ^ s) = hi * 2 ^ s := by rw [IntKind.wrap_u64]; omega
  have e2 : lo * 2 ^ s / 18446744073709551616 = lo / 2 ^ (64 - s) := by
    rw [← hps, Int.mul_comm lo, Int.mul_ediv_mul_of_pos _ _ hp]
  rw [e1, u64_join hi _ s hs h1 (by omega) c1 c2, IntKind.wrap_u64, u64_mask _ (by omega) (by omega)]
  generalize hc : lo / 2 ^ (64 - s) = c at *
  generalize hP : (2 : Int) ^ s = P at *
  have e3 := Int.emod_add_mul_ediv (lo * P) 18446744073709551616
  rw [e2] at e3
  generalize hT : lo * P % 18446744073709551616 = T at *
  have t0 : 0 ≤ T := by rw [← hT]; exact Int.emod_nonneg _ (by decide)
  have t1 : T < 18446744073709551616 := by rw [← hT]; exact Int.emod_lt_of_pos _ (by decide)
  refine ⟨_, _, _, rfl, rfl, rfl, ⟨by omega, by omega, by omega, by omega, by omega, by omega, by omega, by omega, by omega⟩, by omega, by omega, ?_⟩
  have : (hi * 18446744073709551616 + lo) * P = hi * P * 18446744073709551616 + lo * P := by rw [Int.add_mul, Int.mul_right_comm]
  omega
theorem lz_any (y : Int) (h1 : 1 ≤ y) (h2 : y < 18446744073709551616) (w : World) :
    Calls Try.prog 89 #[.int .u64 y] w fun e w' => ∃ s : Nat, e = .returned (.int .i64 s) ∧ w = w' ∧ s ≤ 63 ∧ 9223372036854775808 ≤ y * 2 ^ s ∧ y * 2 ^ s < 18446744073709551616 := by
  obtain ⟨n, rfl⟩ := Int.eq_ofNat_of_zero_le (show 0 ≤ y by omega)
  obtain ⟨s, e1, e2, e3, e4⟩ := lz_bounds n (by omega) (by omega)
  refine (Try.bits_LeadingZeros64 n w (by omega) (by omega)).mono ?_
  rintro e w' ⟨rfl, rfl⟩
  refine ⟨s, ?_, rfl, e2, ?_, ?_⟩
  · rw [Int.toNat_natCast, e1]
  · have : ((9223372036854775808 : Nat) : Int) ≤ ((n * 2 ^ s : Nat) : Int) := by omega
    simpa using this
  · have : ((n * 2 ^ s : Nat) : Int) < ((18446744073709551616 : Nat) : Int) := by omega
    simpa using this
theorem u64_unw (a d b : Int) (h0 : 0 ≤ a + d - b) (h1 : a + d - b < 18446744073709551616) : IntKind.u64.wrap (IntKind.u64.wrap (IntKind.u64.wrap a + d) - IntKind.u64.wrap b) = a + d - b := by
  simp only [IntKind.wrap_u64]; omega
/-- What Div64 returns, behind names. -/
def dq (hi lo y : Int) : Int := (hi * 18446744073709551616 + lo) / y
def dr (hi lo y : Int) : Int := (hi * 18446744073709551616 + lo) % y
def DivRel (hi lo y : Int) (v s yh yl u d1 d0 : Value) : Prop :=
  ∃ (S : Nat) (V u' d1' d0' : Int), S ≤ 63 ∧ v = .int .u64 V ∧ s = .int .u64 S ∧ yh = .int .u64 (V / 4294967296) ∧ yl = .int .u64 (V % 4294967296) ∧ u = .int .u64 u' ∧ d1 = .int .u64 d1' ∧ d0 = .int .u64 d0' ∧
    Nrm V (V / 4294967296) (V % 4294967296) u' d1' ∧ 0 ≤ d0' ∧ d0' < 4294967296 ∧ V < 18446744073709551616 ∧
    kq V u' d1' * 4294967296 + kq V ((u' * 4294967296 + d1') % V) d0' = dq hi lo y ∧ (((u' * 4294967296 + d1') % V) * 4294967296 + d0') % V / 2 ^ S = dr hi lo y
set_option maxRecDepth 100000 in
set_option maxHeartbeats 400000 in
theorem div64_pos (hi lo y : Int) (h1 : 0 ≤ hi) (h2 : hi < y) (h3 : 0 ≤ lo) (h4 : lo < 18446744073709551616) (h5 : y < 18446744073709551616) (h6 : 1 ≤ hi) (w : World) :
    Calls Try.prog 64 #[.int .u64 hi, .int .u64 lo, .int .u64 y] w fun e w' => e = .returned (.tuple #[.int .u64 (dq hi lo y), .int .u64 (dr hi lo y)]) ∧ w = w' := by
  go_enter Try.func64, Try.ntmps64
  go_upto_region 8 with (go_at_call 89; refine (lz_any _ (by omega) (by omega) _).mono ?_; rintro e w' ⟨s, rfl, rfl, hs, hv1, hv2⟩)
  go_upto_region 14 with (fail)
  go_cut [2, 8, 9, 10, 11, 13, 14] (fun v s yh yl u d1 d0 w1 => DivRel hi lo y v s yh yl u d1 d0 ∧ w = w1)
  case first =>
    go_wp2_with fail
    go_meet
    obtain ⟨u, d1, d0, e1, e2, e3, hN, g1, g2, hJ⟩ := div_pre hi lo y s hs h1 h2 h3 h4 hv1 hv2
    have hj := kjoin hi lo y (2 ^ s) (y * 2 ^ s) (Int.pow_pos (by decide)) rfl (by omega) u d1 d0 hJ g1 g2
    rw [e1, e2, e3, u64_mask _ (by omega) hv2]
    exact ⟨⟨s, y * 2 ^ s, u, d1, d0, hs, rfl, rfl, rfl, rfl, rfl, rfl, rfl, hN, g1, g2, hv2, hj.1, hj.2⟩, rfl⟩
  case rest =>
    obtain ⟨⟨s', V, u', d1', d0', hs', rfl, rfl, rfl, rfl, rfl, rfl, rfl, hN, g1, g2, hV, hq, hr⟩, rfl⟩ := hcut
    clear hv1 hv2 hs
    have HQ := Lib.hid hq; clear hq
    have HR := Lib.hid hr; clear hr
    have hK := kinv_start hN
    obtain ⟨y1, hy1⟩ : ∃ y1, y1 = V / 4294967296 := ⟨_, rfl⟩
    obtain ⟨y0, hy0⟩ : ∃ y0, y0 = V % 4294967296 := ⟨_, rfl⟩
    rw [← hy1] at hN hK
    rw [← hy0] at hN
    rw [← hy1, ← hy0]
    clear hy1 hy0
    have a1 := hN.a1; have a2 := hN.a2; have b1 := hN.b1; have b2 := hN.b2; have u1 := hN.u1; have u2 := hN.u2; have dd1 := hN.d1; have dd2 := hN.d2
    have k0 := hK.r0; have k1 := hK.r1; have k2 := hK.q0; have k3 := hK.hi
    have p0 : 0 ≤ u' / y1 * y1 := Int.mul_nonneg k2 (by omega)
    go_upto_block 0 with (fail)
    go_cut [15] (fun q w1 => q = .int .u64 (kq V u' d1') ∧ w = w1)
    case first =>
      go_wp2_with fail
      go_loop [15, 16] (fun q r => ∃ q' r' : Int, q = .int .u64 q' ∧ r = .int .u64 r' ∧ Kinv V y1 u' d1' q' r') (fun q _ => (intOf q).toNat)
      case atStart => exact ⟨_, _, rfl, rfl, hK⟩
      case round =>
        obtain ⟨q', r', rfl, rfl, hI⟩ := hrel
        clear hK k0 k1 k2 k3 p0
        have i0 := hI.r0; have i1 := hI.r1; have i2 := hI.q0; have i3 := hI.hi; have i4 := hI.lo
        have hz := (kq_lt hN).1
        by_cases t1 : 4294967296 ≤ q'
        · have hg := kgreat hN hI (.inl t1)
          by_cases t3 : r' + y1 < 4294967296
          · have hI' := knext hN hI (.inl t1) t3
            go_wp2_with fail
            go_round
            case rel => exact ⟨_, _, rfl, rfl, hI'⟩
            case measure => simp [intOf]; omega
          · have HI' := Lib.hid (kbreak hN hI (.inl t1) (by omega))
            go_wp2_with fail
            go_meet
            exact ⟨by rw [HI'.out], rfl⟩
        · have pp := kprod hN hI (by omega) i2
          obtain ⟨pp1, pp2⟩ := pp
          by_cases t2 : 4294967296 * r' + d1' < q' * y0
          · have hg := kgreat hN hI (.inr t2)
            by_cases t3 : r' + y1 < 4294967296
            · have hI' := knext hN hI (.inr t2) t3
              go_wp2_with fail
              go_round
              case rel => exact ⟨_, _, rfl, rfl, hI'⟩
              case measure => simp [intOf]; omega
            · have HI' := Lib.hid (kbreak hN hI (.inr t2) (by omega))
              go_wp2_with fail
              go_meet
              exact ⟨by rw [HI'.out], rfl⟩
          · have HI' := Lib.hid (kdone hN hI (by omega))
            go_wp2_with fail
            go_meet
            exact ⟨by rw [HI'.out], rfl⟩
    case rest =>
      obtain ⟨rfl, rfl⟩ := hcut
      have hu2 := kleft hN
      have hN2 : Nrm V y1 y0 ((u' * 4294967296 + d1') % V) d0' := by
        obtain ⟨c1, c2, c3⟩ := hu2
        rw [c3] at c1 c2
        exact ⟨hN.hv, a1, a2, b1, b2, c1, c2, g1, g2⟩
      have e17 : IntKind.u64.wrap (IntKind.u64.wrap (IntKind.u64.wrap (u' * 4294967296) + d1') - IntKind.u64.wrap (kq V u' d1' * V)) = (u' * 4294967296 + d1') % V := by
        obtain ⟨c1, c2, c3⟩ := hu2
        rw [← c3]
        exact u64_unw _ _ _ c1 (by omega)
      have E17 := Lib.hid e17; clear e17
      obtain ⟨z0, z1⟩ := kq_lt hN
      obtain ⟨Q1, hQ1⟩ : ∃ Q1, Q1 = kq V u' d1' := ⟨_, rfl⟩
      obtain ⟨u2, hu2'⟩ : ∃ u2, u2 = (u' * 4294967296 + d1') % V := ⟨_, rfl⟩
      rw [← hQ1, ← hu2'] at HQ
      rw [← hu2'] at HR hN2
      rw [← hQ1] at z0 z1
      rw [← hQ1, ← hu2'] at E17
      rw [← hQ1]
      clear hQ1 hu2 hu2' hK k0 k1 k2 k3 p0
      go_upto_region 21 with (fail)
      go_cut [17] (fun x w1 => x = .int .u64 u2 ∧ w = w1)
      case first =>
        go_wp2_with fail
        go_meet
        exact ⟨by rw [E17.out], rfl⟩
      case rest =>
        obtain ⟨rfl, rfl⟩ := hcut
        clear E17 hN
        have hK := kinv_start hN2
        have u1' := hN2.u1; have u2' := hN2.u2
        have k0 := hK.r0; have k1 := hK.r1; have k2 := hK.q0; have k3 := hK.hi
        have p0 : 0 ≤ u2 / y1 * y1 := Int.mul_nonneg k2 (by omega)
        go_upto_block 2 with (fail)
        go_cut [18] (fun q w1 => q = .int .u64 (kq V u2 d0') ∧ w = w1)
        case first =>
          go_wp2_with fail
          go_loop [18, 16] (fun q r => ∃ q' r' : Int, q = .int .u64 q' ∧ r = .int .u64 r' ∧ Kinv V y1 u2 d0' q' r') (fun q _ => (intOf q).toNat)
          case atStart => exact ⟨_, _, rfl, rfl, hK⟩
          case round =>
            obtain ⟨q', r', rfl, rfl, hI⟩ := hrel
            clear hK k0 k1 k2 k3 p0
            have i0 := hI.r0; have i1 := hI.r1; have i2 := hI.q0; have i3 := hI.hi; have i4 := hI.lo
            have hz := (kq_lt hN2).1
            by_cases t1 : 4294967296 ≤ q'
            · have hg := kgreat hN2 hI (.inl t1)
              by_cases t3 : r' + y1 < 4294967296
              · have hI' := knext hN2 hI (.inl t1) t3
                go_wp2_with fail
                go_round
                case rel => exact ⟨_, _, rfl, rfl, hI'⟩
                case measure => simp [intOf]; omega
              · have HI' := Lib.hid (kbreak hN2 hI (.inl t1) (by omega))
                go_wp2_with fail
                go_meet
                exact ⟨by rw [HI'.out], rfl⟩
            · have pp := kprod hN2 hI (by omega) i2
              obtain ⟨pp1, pp2⟩ := pp
              by_cases t2 : 4294967296 * r' + d0' < q' * y0
              · have hg := kgreat hN2 hI (.inr t2)
                by_cases t3 : r' + y1 < 4294967296
                · have hI' := knext hN2 hI (.inr t2) t3
                  go_wp2_with fail
                  go_round
                  case rel => exact ⟨_, _, rfl, rfl, hI'⟩
                  case measure => simp [intOf]; omega
                · have HI' := Lib.hid (kbreak hN2 hI (.inr t2) (by omega))
                  go_wp2_with fail
                  go_meet
                  exact ⟨by rw [HI'.out], rfl⟩
              · have HI' := Lib.hid (kdone hN2 hI (by omega))
                go_wp2_with fail
                go_meet
                exact ⟨by rw [HI'.out], rfl⟩
        case rest =>
          obtain ⟨rfl, rfl⟩ := hcut
          obtain ⟨y0', y1'⟩ := kq_lt hN2
          have hl := kleft hN2
          have e7 : IntKind.u64.wrap (IntKind.u64.wrap (IntKind.u64.wrap (u2 * 4294967296) + d0') - IntKind.u64.wrap (kq V u2 d0' * V)) = (u2 * 4294967296 + d0') % V := by
            obtain ⟨c1, c2, c3⟩ := hl
            rw [← c3]
            exact u64_unw _ _ _ c1 (by omega)
          have E7 := Lib.hid e7; clear e7 hl
          obtain ⟨Q0, hQ0⟩ : ∃ Q0, Q0 = kq V u2 d0' := ⟨_, rfl⟩
          rw [← hQ0] at HQ E7 y0' y1'
          rw [← hQ0]
          clear hQ0 hK k0 k1 k2 k3 p0
          go_wp2
          go_ret2
          rw [E7.out, HQ.out, HR.out]
          exact ⟨rfl, rfl⟩
set_option maxHeartbeats 400000 in
theorem div64_zero (lo y : Int) (h2 : 0 < y) (h3 : 0 ≤ lo) (h4 : lo < 18446744073709551616) (h5 : y < 18446744073709551616) (w : World) :
    Calls Try.prog 64 #[.int .u64 0, .int .u64 lo, .int .u64 y] w fun e w' => e = .returned (.tuple #[.int .u64 (dq 0 lo y), .int .u64 (dr 0 lo y)]) ∧ ∃ n, w' = w.drewN n := by
  have hq : dq 0 lo y = lo / y := by simp [dq]
  have hr : dr 0 lo y = lo % y := by simp [dr]
  rw [hq, hr]; clear hq hr
  have hy : (y == 0) = false := by rw [beq_eq_false_iff_ne]; omega
  go_enter Try.func64, Try.ntmps64
  go_wp2_with fail
  go_quiet (fail)
  go_wp2
  go_ret2
  exact ⟨rfl, _, rfl⟩

theorem div64_any (hi lo y : Int) (h1 : 0 ≤ hi) (h2 : hi < y) (h3 : 0 ≤ lo) (h4 : lo < 18446744073709551616) (h5 : y < 18446744073709551616) (w : World) :
    Calls Try.prog 64 #[.int .u64 hi, .int .u64 lo, .int .u64 y] w fun e w' => e = .returned (.tuple #[.int .u64 (dq hi lo y), .int .u64 (dr hi lo y)]) ∧ ∃ n, w' = w.drewN n := by
  by_cases h : hi = 0
  · subst h; exact div64_zero lo y h2 h3 h4 h5 w
  · exact (div64_pos hi lo y h1 h2 h3 h4 h5 (by omega) w).mono fun _ _ ⟨he, hw⟩ => ⟨he, 0, hw.symm⟩
theorem dq_range {hi lo y : Int} (h1 : 0 ≤ hi) (h2 : hi < y) (h3 : 0 ≤ lo) (h4 : lo < 18446744073709551616) : 0 ≤ dq hi lo y ∧ dq hi lo y < 18446744073709551616 :=
  ⟨Int.ediv_nonneg (by omega) (by omega), Int.ediv_lt_of_lt_mul (by omega) (by omega)⟩
theorem dr_range {hi lo y : Int} (h1 : 0 ≤ hi) (h2 : hi < y) : 0 ≤ dr hi lo y ∧ dr hi lo y < y :=
  ⟨Int.emod_nonneg _ (by omega), Int.emod_lt_of_pos _ (by omega)⟩
theorem dqr (hi lo y : Int) : hi * 18446744073709551616 + lo = dq hi lo y * y + dr hi lo y := by
  unfold dq dr; rw [Int.mul_comm (_ / y)]; exact (Int.mul_ediv_add_emod _ _).symm
end Go.Proofs.Ytkhhjibpppmekaa

/- Plain facts on numbers of two and of four words. No program. -/
namespace Go.Proofs.Ytkhhjibpppmekaa
open Go.RowKit

theorem blw_iff {b a : Int} (ha : Wd a) (hb : Wd b) : blw b a 54210108624275221 12919594847110692864 = true ↔ b * 18446744073709551616 + a < LIM := by
  obtain ⟨a1, a2⟩ := ha; obtain ⟨b1, b2⟩ := hb
  unfold blw LIM
  simp only [Bool.or_eq_true, decide_eq_true_eq, Bool.and_eq_true, beq_iff_eq]
  omega
theorem blw2_iff {b a d c : Int} (ha : Wd a) (hb : Wd b) (hc : Wd c) (hd : Wd d) : blw b a d c = true ↔ b * 18446744073709551616 + a < d * 18446744073709551616 + c := by
  obtain ⟨a1, a2⟩ := ha; obtain ⟨b1, b2⟩ := hb; obtain ⟨c1, c2⟩ := hc; obtain ⟨d1, d2⟩ := hd
  unfold blw
  simp only [Bool.or_eq_true, decide_eq_true_eq, Bool.and_eq_true, beq_iff_eq]
  omega
theorem lim4_lt {a b c d : Int} (ha : Wd a) (hb : Wd b) (hc : Wd c) (hd : Wd d) (h : lim4 a b c d < LIM) : d = 0 ∧ c = 0 ∧ blw b a 54210108624275221 12919594847110692864 = true := by
  rw [blw_iff ha hb]
  obtain ⟨a1, a2⟩ := ha; obtain ⟨b1, b2⟩ := hb; obtain ⟨c1, c2⟩ := hc; obtain ⟨d1, d2⟩ := hd
  unfold lim4 LIM at *
  omega
theorem lim4_small {a b : Int} : lim4 a b 0 0 = b * 18446744073709551616 + a := by unfold lim4; omega
theorem lim4_nonneg {a b c d : Int} (ha : Wd a) (hb : Wd b) (hc : Wd c) (hd : Wd d) : 0 ≤ lim4 a b c d := by
  obtain ⟨a1, a2⟩ := ha; obtain ⟨b1, b2⟩ := hb; obtain ⟨c1, c2⟩ := hc; obtain ⟨d1, d2⟩ := hd
  unfold lim4; omega
theorem good_of {n : Bool} {h l z : Int} (i : IsD n h l z) : goodB n h l = true := by
  obtain ⟨hh, hl, e, rfl, g⟩ := i
  unfold goodB
  rw [(blw_iff hl hh).2 (by omega)]
  simp only [Bool.true_and]
  rw [Bool.not_eq_true', Bool.and_eq_false_iff, Bool.and_eq_false_iff]
  simp only [decide_eq_false_iff_not, beq_eq_false_iff_ne]
  obtain ⟨a1, a2⟩ := hh; obtain ⟨b1, b2⟩ := hl
  omega
/-- What a right number is in millionths. -/
def zof (n : Bool) (h l : Int) : Int := if n then -(h * 18446744073709551616 + l) else h * 18446744073709551616 + l
theorem of_good {n : Bool} {h l : Int} (hh : Wd h) (hl : Wd l) (g : goodB n h l = true) : IsD n h l (zof n h l) := by
  unfold goodB at g
  rw [Bool.and_eq_true, blw_iff hl hh] at g
  obtain ⟨g1, g2⟩ := g
  rw [Bool.not_eq_true', Bool.and_eq_false_iff, Bool.and_eq_false_iff] at g2
  simp only [beq_eq_false_iff_ne] at g2
  have hh' := hh; have hl' := hl
  obtain ⟨a1, a2⟩ := hh'; obtain ⟨b1, b2⟩ := hl'
  unfold zof
  cases n
  · refine ⟨hh, hl, ?_, ?_, ?_⟩ <;> simp only [Bool.false_eq_true, if_false]
    · omega
    · symm; rw [decide_eq_false_iff_not]; omega
    · omega
  · refine ⟨hh, hl, ?_, ?_, ?_⟩ <;> simp only [if_true]
    · omega
    · symm; rw [decide_eq_true_eq]; simp at g2; omega
    · omega
theorem quot_unique {N Q y r : Int} (h : N = Q * y + r) (h0 : 0 ≤ r) (h1 : r < y) : Q = N / y ∧ r = N % y := by
  have hy : y ≠ 0 := by omega
  subst h
  constructor
  · rw [Int.add_comm, Int.add_mul_ediv_right _ _ hy, Int.ediv_eq_zero_of_lt h0 h1]; omega
  · rw [Int.add_comm, Int.add_mul_emod_self_right, Int.emod_eq_of_lt h0 h1]
theorem small_eq {a b c d y : Int} (ha : Wd a) (hb : Wd b) (hc : Wd c) (hd : Wd d) (hy0 : 0 < y) :
    ∃ q0 q1 q2 q3 r : Int, q0 = dq (dr (dr (dr 0 d y) c y) b y) a y ∧ q1 = dq (dr (dr 0 d y) c y) b y ∧ q2 = dq (dr 0 d y) c y ∧ q3 = dq 0 d y ∧ r = dr (dr (dr (dr 0 d y) c y) b y) a y ∧
      Wd q0 ∧ Wd q1 ∧ Wd q2 ∧ Wd q3 ∧ lim4 q0 q1 q2 q3 = lim4 a b c d / y ∧ r = lim4 a b c d % y := by
  obtain ⟨a1, a2⟩ := ha; obtain ⟨b1, b2⟩ := hb; obtain ⟨c1, c2⟩ := hc; obtain ⟨d1, d2⟩ := hd
  obtain ⟨x1, x2⟩ := dr_range (lo := d) (Int.le_refl 0) hy0
  obtain ⟨x3, x4⟩ := dr_range (lo := c) x1 x2
  obtain ⟨x5, x6⟩ := dr_range (lo := b) x3 x4
  obtain ⟨x7, x8⟩ := dr_range (lo := a) x5 x6
  have w3 := dq_range (Int.le_refl 0) hy0 d1 d2
  have w2 := dq_range x1 x2 c1 c2
  have w1 := dq_range x3 x4 b1 b2
  have w0 := dq_range x5 x6 a1 a2
  have e3 := dqr 0 d y
  have e2 := dqr (dr 0 d y) c y
  have e1 := dqr (dr (dr 0 d y) c y) b y
  have e0 := dqr (dr (dr (dr 0 d y) c y) b y) a y
  have hu : lim4 a b c d = lim4 (dq (dr (dr (dr 0 d y) c y) b y) a y) (dq (dr (dr 0 d y) c y) b y) (dq (dr 0 d y) c y) (dq 0 d y) * y + dr (dr (dr (dr 0 d y) c y) b y) a y := by
    unfold lim4
    simp only [Int.add_mul, Int.mul_right_comm _ _ y]
    omega
  have := quot_unique hu x7 x8
  exact ⟨_, _, _, _, _, rfl, rfl, rfl, rfl, rfl, w0, w1, w2, w3, this.1, this.2⟩
end Go.Proofs.Ytkhhjibpppmekaa
