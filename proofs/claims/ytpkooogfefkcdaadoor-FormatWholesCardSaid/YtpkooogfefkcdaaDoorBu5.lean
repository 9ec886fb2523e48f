/- Several texts put together: FmtE, DecA, Nat, Div64, DecM. -/
import Derived.Test.YtpkooogfefkcdaaDoorBu4
import Derived.Test.YtpkooogfefkcdaaDoorBu1
import Derived.Lib.BitFns
import Derived.Test.YtpkooogfefkcdaaDoorShelf
import Derived.Laws.BitsAllLaws
/- Layer 8: format.piece. -/
namespace Go.Proofs.YtpkooogfefkcdaaDoor
open Go.RowKit
theorem tw_idx : ∀ l : List Nat, l.takeWhile (· ≠ 37) = match idxL 37 l with | some i => l.take i | none => l
  | [] => rfl
  | x :: l => by
    by_cases h : x = 37
    · subst h; simp [idxL]
    · have ih := tw_idx l
      rw [idxL, if_neg h, List.takeWhile_cons, if_pos (by simpa using h), ih]
      cases idxL 37 l <;> rfl
/-- The spec of a plain text: only the place behind it. -/
def nextC (n : Nat) : Array Value := specC 0 ⟨false, false, false, false⟩ 0 0 false false 0 n
set_option maxRecDepth 100000 in
set_option maxHeartbeats 1600000 in
theorem piece_plain (L : List Nat) (hL : ∀ x ∈ L, x < 256) (hm : L.length ≤ 1000000) (a : Nat) (ha : a < L.length) (h37 : (L.drop a).head? ≠ some 37) (w : World) :
    Calls Tryd.prog 18 #[.string (strN L), .int .i64 (a : Int)] w fun e w' => e = .returned (.tuple #[.string (strN ((L.drop a).takeWhile (· ≠ 37))), .agg (nextC (a + ((L.drop a).takeWhile (· ≠ 37)).length))]) ∧ Below w.heap.size w w' := by
  have hsz := strN_size L
  have hsl := fun W => sslice_l L a (by omega) W
  have htw := tw_idx (L.drop a)
  have hdl : (L.drop a).length = L.length - a := List.length_drop ..
  have hb : ∀ x ∈ L.drop a, x < 256 := fun x hx => hL x (List.mem_of_mem_drop hx)
  have hix : ∀ W, Calls Tryd.prog 27 #[.string (strN (L.drop a)), .int .u8 37] W fun e w' => e = .returned (.int .i64 (match idxL 37 (L.drop a) with | some i => (i : Int) | none => -1)) ∧ w' = W := fun W => by
    have := Tryd.strings_IndexByte (strN (L.drop a)) 37 W
    rw [strN_data] at this
    have e := idx_lib 37 (by decide) (L.drop a) hb
    rw [show (37 : Int).toNat.toUInt8 = UInt8.ofNat 37 from rfl, e] at this
    exact this
  cases hi : idxL 37 (L.drop a) with
  | none =>
    rw [hi] at hix htw
    rw [htw, hdl, show a + (L.length - a) = L.length by omega]
    dsimp only at hix
    have hex : (strN L).extract a (a + (L.length - a)) = strN (L.drop a) := by rw [strN_extract, show a + (L.length - a) = L.length by omega, List.take_length]
    have HEX := Lib.hid hex
    have HIX := Lib.hid hix
    generalize strN (L.drop a) = D at hsl HIX HEX ⊢
    generalize strN L = S at hsl HEX hsz ⊢
    clear hex hix htw hi hb hdl h37
    go_enter Tryd.func18, Tryd.ntmps18
    go_wp2_with (first
      | (go_at_call 27; (with_reducible refine (HIX.out _).mono ?_); rintro e w2 ⟨rfl, rfl⟩)
      | fail)
    (try simp only [Exit.inBlock, Exit.then]); refine bodyPost_ret (by simp [results, Tryd.results18, go_sem, *]; try rfl) rfl ?_
    exact ⟨by rw [HEX.out, show (a : Int) + ((L.length : Int) - a) = L.length by omega]; rfl, by (repeat' (first | (with_reducible exact Below.refl _ _) | (refine Below.trans ?_ (Below.mono (by with_reducible assumption) ?_)) | (with_reducible exact Below.refl _ _) | (with_reducible refine below_drewN ?_ _) | (with_reducible refine Below.drew ?_) | (with_reducible refine Below.setCell ?_ ?_ _) | (with_reducible refine Below.alloc ?_ ?_ _) | (with_reducible assumption) | (simp; done) | (simp; omega) | omega))⟩
  | some i =>
    have hil := idx_lt 37 (L.drop a) i hi
    rw [hi] at hix htw
    dsimp only at hix htw
    have hi0 : i ≠ 0 := fun e => by
      subst e
      cases hd : L.drop a with
      | nil => rw [hd] at hi; simp [idxL] at hi
      | cons c r =>
        rw [hd] at hi h37
        rw [idxL] at hi
        split at hi
        · rename_i e; exact h37 (by rw [e]; rfl)
        · rw [Option.map_eq_some_iff] at hi
          obtain ⟨j, _, hj⟩ := hi
          omega
    have hln : ((L.drop a).take i).length = i := by rw [List.length_take]; omega
    rw [htw, hln]
    have hex : (strN L).extract a (a + i) = strN ((L.drop a).take i) := by
      rw [strN_extract, List.drop_take]
      congr 2
      omega
    have HEX := Lib.hid hex
    have HIX := Lib.hid hix
    rw [hdl] at hil
    generalize strN ((L.drop a).take i) = T at HEX ⊢
    generalize strN (L.drop a) = D at hsl HIX
    generalize strN L = S at hsl HEX hsz ⊢
    clear hex hix htw hi hb hdl h37 hln
    have hin : ((i : Int) == 0) = false := beq_false_of_ne (by omega)
    go_enter Tryd.func18, Tryd.ntmps18
    go_wp2_with (first
      | (go_at_call 27; (with_reducible refine (HIX.out _).mono ?_); rintro e w2 ⟨rfl, rfl⟩)
      | fail)
    (try simp only [Exit.inBlock, Exit.then]); refine bodyPost_ret (by simp [results, Tryd.results18, go_sem, *]; try rfl) rfl ?_
    exact ⟨by rw [HEX.out]; rfl, by (repeat' (first | (with_reducible exact Below.refl _ _) | (refine Below.trans ?_ (Below.mono (by with_reducible assumption) ?_)) | (with_reducible exact Below.refl _ _) | (with_reducible refine below_drewN ?_ _) | (with_reducible refine Below.drew ?_) | (with_reducible refine Below.setCell ?_ ?_ _) | (with_reducible refine Below.alloc ?_ ?_ _) | (with_reducible assumption) | (simp; done) | (simp; omega) | omega))⟩
theorem index_head (r : List Nat) (hb : ∀ x ∈ (37 :: r : List Nat), x < 256) (W : World) : Calls Tryd.prog 27 #[.string (strN (37 :: r)), .int .u8 37] W fun e w' => e = .returned (.int .i64 0) ∧ w' = W := by
  have := Tryd.strings_IndexByte (strN (37 :: r)) 37 W
  rw [strN_data] at this
  have e := idx_lib 37 (by decide) (37 :: r) hb
  rw [show (37 : Int).toNat.toUInt8 = UInt8.ofNat 37 from rfl, e] at this
  exact this
theorem two_prefix (r : List Nat) (hb : ∀ x ∈ r, x < 256) : Lib.hasPrefix ((37 :: r).map UInt8.ofNat) [37, 37] = (r.head? == some 37) := by
  cases r with
  | nil => rfl
  | cons c r =>
    have hc := hb c (List.mem_cons_self ..)
    by_cases h : c = 37
    · subst h; simp [Lib.hasPrefix]
    · have h2 : UInt8.ofNat c ≠ 37 := fun e => by
        have := congrArg UInt8.toNat e
        rw [UInt8.toNat_ofNat', Nat.mod_eq_of_lt (show c < 2 ^ 8 from hc)] at this
        exact h this
      have h3 : ((37 : UInt8) == UInt8.ofNat c) = false := beq_false_of_ne (Ne.symm h2)
      have h4 : (c == 37) = false := beq_false_of_ne h
      simp [Lib.hasPrefix, List.isPrefixOf, h3, h4]
set_option maxRecDepth 100000 in
set_option maxHeartbeats 1600000 in
theorem piece_verb (L : List Nat) (hL : ∀ x ∈ L, x < 256) (hm : L.length ≤ 1000000) (a : Nat) (r : List Nat) (hr : L.drop a = 37 :: r) (w : World) :
    Calls Tryd.prog 18 #[.string (strN L), .int .i64 (a : Int)] w fun e w' => (if r.head? = some 37 then e = .returned (.tuple #[.string (strN [37]), .agg (nextC (a + 2))]) else
      e = .returned (.tuple #[.string { data := #[] }, .agg (specC a (readL r).fl (readL r).width (readL r).prec (readL r).sw (readL r).sp (readL r).verb (if (readL r).verb = 0 then 0 else a + (readL r).len))])) ∧ Below w.heap.size w w' := by
  have hal : a < L.length := by
    rcases Nat.lt_or_ge a L.length with h | h
    · exact h
    · rw [List.drop_eq_nil_of_le h] at hr; cases hr
  have hsl := fun W => sslice_l L a (by omega) W
  have hb : ∀ x ∈ L.drop a, x < 256 := fun x hx => hL x (List.mem_of_mem_drop hx)
  rw [hr] at hsl hb
  have hix := fun W => index_head r hb W
  have hpf := two_prefix r (fun x hx => hb x (List.mem_cons_of_mem _ hx))
  have hhp : ∀ W, Calls Tryd.prog 28 #[.string (strN (37 :: r)), .string { data := #[37, 37] }] W fun e w' => e = .returned (.bool (r.head? == some 37)) ∧ w' = W := fun W => by
    have := Tryd.strings_HasPrefix (strN (37 :: r)) { data := #[37, 37] } W
    rw [strN_data] at this
    rw [← hpf]
    exact this
  have hrd := fun W => read_any L hL hm a hal W
  have hd1 : L.drop (a + 1) = r := by rw [← List.drop_drop, hr]; rfl
  rw [hd1] at hrd
  have HIX := Lib.hid hix
  have HRD := Lib.hid hrd
  have hsz := strN_size L
  generalize strN (37 :: r) = D at hsl HIX hhp
  generalize strN L = S at hsl HRD hsz ⊢
  clear hix hrd hpf hd1 hb hr
  by_cases h37 : r.head? = some 37
  · rw [show (r.head? == some 37) = true by rw [h37]; rfl] at hhp
    simp only [if_pos h37]
    have HHP := Lib.hid hhp
    clear hhp h37 HRD
    go_enter Tryd.func18, Tryd.ntmps18
    go_wp2_with (first
      | (go_at_call 27; (with_reducible refine (HIX.out _).mono ?_); rintro e w2 ⟨rfl, rfl⟩)
      | (go_at_call 28; (with_reducible refine (HHP.out _).mono ?_); rintro e w3 ⟨rfl, rfl⟩)
      | fail)
    (try simp only [Exit.inBlock, Exit.then]); refine bodyPost_ret (by simp [results, Tryd.results18, go_sem, *]; try rfl) rfl ?_
    exact ⟨rfl, by (repeat' (first | (with_reducible exact Below.refl _ _) | (refine Below.trans ?_ (Below.mono (by with_reducible assumption) ?_)) | (with_reducible exact Below.refl _ _) | (with_reducible refine below_drewN ?_ _) | (with_reducible refine Below.drew ?_) | (with_reducible refine Below.setCell ?_ ?_ _) | (with_reducible refine Below.alloc ?_ ?_ _) | (with_reducible assumption) | (simp; done) | (simp; omega) | omega))⟩
  · rw [show (r.head? == some 37) = false from beq_false_of_ne h37] at hhp
    simp only [if_neg h37]
    have HHP := Lib.hid hhp
    clear hhp h37
    generalize (if (readL r).verb = 0 then 0 else a + (readL r).len) = nx at HRD ⊢
    generalize readL r = R at HRD ⊢
    simp only [specC] at HRD ⊢
    go_enter Tryd.func18, Tryd.ntmps18
    go_wp2_with (first
      | (go_at_call 27; (with_reducible refine (HIX.out _).mono ?_); rintro e w2 ⟨rfl, rfl⟩)
      | (go_at_call 28; (with_reducible refine (HHP.out _).mono ?_); rintro e w3 ⟨rfl, rfl⟩)
      | (go_at_call 29; (with_reducible refine (HRD.out _).mono ?_); rintro e w4 ⟨rfl, b4⟩; have hk : Blk w4 w.heap.size 52 zeroC := (Blk.new w 52 zeroC).below b4 (by simp); have z0 := hk.cell 0; have y0 := hk.frozen 0; have z1 := hk.cell 1; have y1 := hk.frozen 1; have z2 := hk.cell 2; have y2 := hk.frozen 2; have z3 := hk.cell 3; have y3 := hk.frozen 3; have z4 := hk.cell 4; have y4 := hk.frozen 4; have z5 := hk.cell 5; have y5 := hk.frozen 5; have z6 := hk.cell 6; have y6 := hk.frozen 6; have z7 := hk.cell 7; have y7 := hk.frozen 7; have z8 := hk.cell 8; have y8 := hk.frozen 8; have z9 := hk.cell 9; have y9 := hk.frozen 9; have z10 := hk.cell 10; have y10 := hk.frozen 10; simp only [zeroC, List.getElem?_toArray, List.getElem?_cons_zero, List.getElem?_cons_succ] at z0 z1 z2 z3 z4 z5 z6 z7 z8 z9 z10; have HK := Lib.hid hk; have HB4 := Lib.hid (((Below.refl _ _).alloc (Nat.le_refl _) (.cells zeroC 52)).trans (b4.mono (show w.heap.size ≤ _ by simp))); have hz4 := hk.lt; clear hk b4)
      | fail)
    generalize hW9 : (World.setCell _ _ _ : World) = w9
    have hb9 : Below w.heap.size w w9 := by
      rw [← hW9]
      repeat (first | (with_reducible exact HB4.out) | (with_reducible refine Below.setCell ?_ (by exact Nat.le_refl _) _))
    have hfin : Blk w9 w.heap.size 52 #[.int .i64 (a : Int), .bool R.fl.left, .bool R.fl.zero, .bool R.fl.plus, .bool R.fl.blank, .int .i64 (R.width : Int), .int .i64 R.prec, .bool R.sw, .bool R.sp, .int .u8 (R.verb : Int), .int .i64 (nx : Int)] := by
      rw [← hW9]
      with_reducible exact store11 (b := zeroC) HK.out rfl _ _ _ _ _ _ _ _ _ _ _
    have kk0 := hfin.cell 0
    have kk1 := hfin.cell 1
    have kk2 := hfin.cell 2
    have kk3 := hfin.cell 3
    have kk4 := hfin.cell 4
    have kk5 := hfin.cell 5
    have kk6 := hfin.cell 6
    have kk7 := hfin.cell 7
    have kk8 := hfin.cell 8
    have kk9 := hfin.cell 9
    have kk10 := hfin.cell 10
    simp only [List.getElem?_toArray, List.getElem?_cons_zero, List.getElem?_cons_succ] at kk0 kk1 kk2 kk3 kk4 kk5 kk6 kk7 kk8 kk9 kk10
    clear hW9 hfin z0 z1 z2 z3 z4 z5 z6 z7 z8 z9 z10 y0 y1 y2 y3 y4 y5 y6 y7 y8 y9 y10
    (try simp only [Exit.inBlock, Exit.then]); refine bodyPost_ret (by simp [results, Tryd.results18, go_sem, *]; try rfl) rfl ?_
    exact ⟨rfl, hb9⟩
end Go.Proofs.YtpkooogfefkcdaaDoor

/- The walks of dec.below and dec.Good: what each call returns, in whatever world. -/
namespace Go.Proofs.YtpkooogfefkcdaaDoor
open Go.RowKit

def blw (aH aL bH bL : Int) : Bool := decide (aH < bH) || (aH == bH && decide (aL < bL))

set_option maxHeartbeats 400000 in
theorem below_any (aH aL bH bL : Int) (w : World) :
    Calls Tryd.prog 23 #[.int .u64 aH, .int .u64 aL, .int .u64 bH, .int .u64 bL] w fun e w' => e = .returned (.bool (blw aH aL bH bL)) ∧ w = w' := by
  by_cases h1 : aH < bH
  · have e1 : blw aH aL bH bL = true := by simp [blw, h1]
    rw [e1]; clear e1
    go_enter Tryd.func23, Tryd.ntmps23
    go_wp2
    go_ret
    exact ⟨rfl, rfl⟩
  · by_cases h2 : aH = bH
    · subst h2
      have e1 : blw aH aL aH bL = decide (aL < bL) := by simp [blw]
      rw [e1]; clear e1 h1
      go_enter Tryd.func23, Tryd.ntmps23
      go_wp2
      go_ret
      exact ⟨rfl, rfl⟩
    · have e1 : blw aH aL bH bL = false := by simp [blw, h1, h2]
      rw [e1]; clear e1
      have h3 : (aH == bH) = false := by simpa using h2
      clear h2
      go_enter Tryd.func23, Tryd.ntmps23
      go_wp2
      go_ret
      exact ⟨rfl, rfl⟩
theorem below_q (aH aL bH bL : Int) (w : World) :
    Calls Tryd.prog 23 #[.int .u64 aH, .int .u64 aL, .int .u64 bH, .int .u64 bL] w fun e w' => e = .returned (.bool (blw aH aL bH bL)) ∧ w' = w :=
  (below_any aH aL bH bL w).mono fun _ _ ⟨he, hw⟩ => ⟨he, hw.symm⟩

def goodB (neg : Bool) (hi lo : Int) : Bool := blw hi lo 54210108624275221 12919594847110692864 && !(neg && hi == 0 && lo == 0)

set_option maxHeartbeats 400000 in
theorem good_any (neg : Bool) (hi lo : Int) (w : World) :
    Calls Tryd.prog 14 #[.agg #[.bool neg, .int .u64 hi, .int .u64 lo]] w fun e w' => e = .returned (.bool (goodB neg hi lo)) ∧ w.alloc (.cells #[.bool neg, .int .u64 hi, .int .u64 lo] 34) = w' := by
  have hg : goodB neg hi lo = (blw hi lo 54210108624275221 12919594847110692864 && !(neg && hi == 0 && lo == 0)) := rfl
  cases h1 : blw hi lo 54210108624275221 12919594847110692864
  all_goals
    rw [h1] at hg
    have HG := Lib.hid hg; clear hg
    go_enter Tryd.func14, Tryd.ntmps14
    go_wp2_with (go_at_call 23; refine (below_any _ _ _ _ _).mono ?_; rintro e w' ⟨rfl, rfl⟩)
    all_goals (go_ret; exact ⟨by rw [HG.out]; simp [*], by simp [*]⟩)
end Go.Proofs.YtpkooogfefkcdaaDoor

/- Plain arithmetic for math/bits.Div64: how many leading zeros a word has, and how a digit of a quotient is found. No program here. -/
namespace Go.Proofs.YtpkooogfefkcdaaDoor

theorem bl_bounds (x : Nat) : x ≠ 0 → x < 2 ^ 64 → 2 ^ Lib.bitLen x ≤ 2 * x ∧ x < 2 ^ Lib.bitLen x := by
  induction x using Nat.strongRecOn with
  | ind x ih =>
    intro h0 h
    rw [Lib.bitLen_half x h0 h]
    by_cases h1 : x / 2 = 0
    · rw [h1]
      have e : Lib.bitLen 0 = 0 := by decide
      rw [e]
      have : x = 1 := by omega
      subst this; decide
    · have := ih (x / 2) (by omega) h1 (by omega)
      rw [Nat.add_comm 1, Nat.pow_succ]
      omega

theorem lz_bounds (x : Nat) (h0 : x ≠ 0) (h : x < 2 ^ 64) :
    ∃ s : Nat, 64 - (Lib.bitLen x : Int) = s ∧ s ≤ 63 ∧ 9223372036854775808 ≤ x * 2 ^ s ∧ x * 2 ^ s < 18446744073709551616 := by
  have ⟨a, b⟩ := bl_bounds x h0 h
  have c := Lib.bitLen_le x 64 (Nat.le_refl _) h
  have d : 1 ≤ Lib.bitLen x := by
    rcases Nat.eq_zero_or_pos (Lib.bitLen x) with e | e
    · rw [e] at b; omega
    · exact e
  refine ⟨64 - Lib.bitLen x, by omega, by omega, ?_, ?_⟩
  · have e : 2 ^ Lib.bitLen x * 2 ^ (64 - Lib.bitLen x) = 18446744073709551616 := by
      rw [← Nat.pow_add, show Lib.bitLen x + (64 - Lib.bitLen x) = 64 by omega]
    have := Nat.mul_le_mul_right (2 ^ (64 - Lib.bitLen x)) a
    rw [e, Nat.mul_assoc] at this
    omega
  · have e : 2 ^ Lib.bitLen x * 2 ^ (64 - Lib.bitLen x) = 18446744073709551616 := by
      rw [← Nat.pow_add, show Lib.bitLen x + (64 - Lib.bitLen x) = 64 by omega]
    rw [← e]
    exact Nat.mul_lt_mul_of_pos_right b (Nat.pow_pos (by decide))

/-- A divisor that is normal, in two halves; what is left, the next digit. -/
structure Nrm (v y1 y0 u d : Int) : Prop where
  hv : v = y1 * 4294967296 + y0
  a1 : 2147483648 ≤ y1
  a2 : y1 < 4294967296
  b1 : 0 ≤ y0
  b2 : y0 < 4294967296
  u1 : 0 ≤ u
  u2 : u < v
  d1 : 0 ≤ d
  d2 : d < 4294967296

/-- The quotient's digit. -/
def kq (v u d : Int) : Int := (u * 4294967296 + d) / v

/-- What holds while the digit is sought. -/
structure Kinv (v y1 u d q r : Int) : Prop where
  e : q * y1 + r = u
  r0 : 0 ≤ r
  r1 : r < 4294967296
  lo : kq v u d ≤ q
  hi : q ≤ 4294967297
  q0 : 0 ≤ q

section
variable {v y1 y0 u d q r : Int}
theorem kq_lt (h : Nrm v y1 y0 u d) : 0 ≤ kq v u d ∧ kq v u d < 4294967296 := by
  obtain ⟨hv, a1, a2, b1, b2, u1, u2, d1, d2⟩ := h
  unfold kq
  have hp : 0 < v := by omega
  refine ⟨Int.ediv_nonneg (by omega) (by omega), Int.ediv_lt_of_lt_mul hp ?_⟩
  omega
theorem mulv (h : Nrm v y1 y0 u d) (q : Int) : q * v = (q * y1) * 4294967296 + q * y0 := by
  rw [h.hv, Int.mul_add, Int.mul_assoc]
theorem kq_lt_of (h : Nrm v y1 y0 u d) {q : Int} (hq : u * 4294967296 + d < q * v) : kq v u d < q :=
  Int.ediv_lt_of_lt_mul (by have := h.u1; have := h.u2; omega) hq
theorem le_kq_of (h : Nrm v y1 y0 u d) {q : Int} (hq : q * v ≤ u * 4294967296 + d) : q ≤ kq v u d :=
  Int.le_ediv_of_mul_le (by have := h.u1; have := h.u2; omega) hq
theorem kinv_start (h : Nrm v y1 y0 u d) : Kinv v y1 u d (u / y1) (u - u / y1 * y1) := by
  have hm := Int.emod_add_mul_ediv u y1
  have hp : 0 < y1 := by have := h.a1; omega
  have m0 := Int.emod_nonneg u (show y1 ≠ 0 by omega)
  have m1 := Int.emod_lt_of_pos u hp
  have hc : y1 * (u / y1) = u / y1 * y1 := Int.mul_comm _ _
  have hq0 : 0 ≤ u / y1 := Int.ediv_nonneg h.u1 (by omega)
  obtain ⟨hv, a1, a2, b1, b2, u1, u2, d1, d2⟩ := id h
  refine ⟨by omega, by omega, by omega, ?_, ?_, hq0⟩
  · have : kq v u d < u / y1 + 1 := by
      apply kq_lt_of h
      rw [mulv h]
      simp only [Int.add_mul, Int.one_mul]
      have : 0 ≤ u / y1 * y0 := Int.mul_nonneg hq0 b1
      omega
    omega
  · have : u / y1 < 4294967298 := by
      apply Int.ediv_lt_of_lt_mul hp
      omega
    omega
theorem kprod (h : Nrm v y1 y0 u d) (_k : Kinv v y1 u d q r) (hq : q < 4294967296) (hq0 : 0 ≤ q) : 0 ≤ q * y0 ∧ q * y0 < 18446744073709551616 := by
  refine ⟨Int.mul_nonneg hq0 h.b1, ?_⟩
  have a : q * y0 ≤ 4294967295 * y0 := Int.mul_le_mul_of_nonneg_right (by omega) h.b1
  have := h.b2
  omega
theorem kgreat (h : Nrm v y1 y0 u d) (k : Kinv v y1 u d q r) (ht : 4294967296 ≤ q ∨ 4294967296 * r + d < q * y0) : kq v u d < q := by
  rcases ht with ht | ht
  · have := (kq_lt h).2; omega
  · apply kq_lt_of h
    rw [mulv h]
    have := k.e
    omega
theorem kdone (h : Nrm v y1 y0 u d) (k : Kinv v y1 u d q r) (ht : q * y0 ≤ 4294967296 * r + d) : q = kq v u d := by
  have : q ≤ kq v u d := by
    apply le_kq_of h
    rw [mulv h]
    have := k.e
    omega
  have := k.lo
  omega
theorem knext (h : Nrm v y1 y0 u d) (k : Kinv v y1 u d q r) (ht : 4294967296 ≤ q ∨ 4294967296 * r + d < q * y0) (hr : r + y1 < 4294967296) : Kinv v y1 u d (q - 1) (r + y1) := by
  have g := kgreat h k ht
  have q0 := (kq_lt h).1
  obtain ⟨e, r0, r1, lo, hi, _⟩ := k
  have := h.a1
  refine ⟨?_, by omega, hr, by omega, by omega, by omega⟩
  rw [Int.sub_mul]; omega
theorem kbreak (h : Nrm v y1 y0 u d) (k : Kinv v y1 u d q r) (ht : 4294967296 ≤ q ∨ 4294967296 * r + d < q * y0) (hr : 4294967296 ≤ r + y1) : q - 1 = kq v u d := by
  have g := kgreat h k ht
  have q0 := (kq_lt h).1
  obtain ⟨e, r0, r1, lo, hi, _⟩ := k
  have : q - 1 ≤ kq v u d := by
    apply le_kq_of h
    rw [mulv h]
    simp only [Int.sub_mul, Int.one_mul]
    have a : q * y0 ≤ 4294967297 * y0 := Int.mul_le_mul_of_nonneg_right hi h.b1
    have := h.b2
    have := h.b1
    have := h.d1
    omega
  omega
/-- What is left behind a digit. -/
theorem kleft (h : Nrm v y1 y0 u d) : 0 ≤ u * 4294967296 + d - kq v u d * v ∧ u * 4294967296 + d - kq v u d * v < v ∧ u * 4294967296 + d - kq v u d * v = (u * 4294967296 + d) % v := by
  have hp : 0 < v := by have := h.u1; have := h.u2; omega
  have e := Int.emod_add_mul_ediv (u * 4294967296 + d) v
  have m0 := Int.emod_nonneg (u * 4294967296 + d) (show v ≠ 0 by omega)
  have m1 := Int.emod_lt_of_pos (u * 4294967296 + d) hp
  unfold kq
  rw [Int.mul_comm _ v]
  omega
end

/-- The two digits together are the quotient; what is left of the last one is the rest, moved. -/
theorem kjoin (hi lo y p v : Int) (hp : 0 < p) (hv : v = y * p) (hy : 0 < y) (u d1 d0 : Int) (hn : (u * 4294967296 + d1) * 4294967296 + d0 = (hi * 18446744073709551616 + lo) * p) (_h1 : 0 ≤ d0) (_h2 : d0 < 4294967296) :
    kq v u d1 * 4294967296 + kq v ((u * 4294967296 + d1) % v) d0 = (hi * 18446744073709551616 + lo) / y ∧
    (((u * 4294967296 + d1) % v) * 4294967296 + d0) % v / p = (hi * 18446744073709551616 + lo) % y := by
  have hvp : 0 < v := by rw [hv]; exact Int.mul_pos hy hp
  generalize hM : hi * 18446744073709551616 + lo = M at *
  generalize hA : u * 4294967296 + d1 = A at *
  have e := Int.emod_add_mul_ediv A v
  have hN : M * p = (A % v * 4294967296 + d0) + v * (A / v * 4294967296) := by
    rw [← hn, ← Int.mul_assoc]
    have : A * 4294967296 = (A % v + v * (A / v)) * 4294967296 := by rw [e]
    rw [Int.add_mul] at this
    omega
  constructor
  · unfold kq
    rw [hA]
    have q : M * p / v = M / y := by rw [hv]; exact Int.mul_ediv_mul_of_pos_left _ _ hp
    rw [← q, hN, Int.add_mul_ediv_left _ _ (by omega)]
    omega
  · have q : M * p % v = M % y * p := by rw [hv, Int.mul_comm M, Int.mul_comm y, Int.mul_emod_mul_of_pos _ _ hp, Int.mul_comm]
    have r : M * p % v = (A % v * 4294967296 + d0) % v := by rw [hN, Int.add_mul_emod_self_left]
    rw [← r, q]
    exact Int.mul_ediv_cancel _ (by omega)
end Go.Proofs.YtpkooogfefkcdaaDoor

/- math/bits.Div64: of a divisor greater than the high word it returns the quotient and the rest. -/
namespace Go.Proofs.YtpkooogfefkcdaaDoor
open Go.RowKit
theorem u64_mask (a : Int) (h1 : 0 ≤ a) (h2 : a < 18446744073709551616) : bits .and .u64 a 4294967295 = a % 4294967296 := by
  rw [u64_and a 4294967295 h1 h2 (by decide) (by decide), show (4294967295 : Int).toNat = 2 ^ 32 - 1 by rfl, Nat.and_two_pow_sub_one_eq_mod]
  omega
theorem u64_join (a b : Int) (p : Nat) (hp : p ≤ 63) (h1 : 0 ≤ a) (h2 : a * 2 ^ p < 18446744073709551616) (h3 : 0 ≤ b) (h4 : b < 2 ^ p) : bits .or .u64 (a * 2 ^ p) b = a * 2 ^ p + b := by
  obtain ⟨a, rfl⟩ := Int.eq_ofNat_of_zero_le h1
  obtain ⟨b, rfl⟩ := Int.eq_ofNat_of_zero_le h3
  have h4' : b < 2 ^ p := by
    have : ((b : Nat) : Int) < ((2 ^ p : Nat) : Int) := by simpa using h4
    omega
  have h2' : a * 2 ^ p < 18446744073709551616 := by
    have : ((a * 2 ^ p : Nat) : Int) < ((18446744073709551616 : Nat) : Int) := by simpa using h2
    omega
  have hb : b < 18446744073709551616 := by
    have : 2 ^ p ≤ 2 ^ 63 := Nat.pow_le_pow_right (by decide) hp
    omega
  have e : (a : Int) * 2 ^ p = ((a * 2 ^ p : Nat) : Int) := by simp
  rw [e, u64_or_nat _ _ h2' hb, Nat.mul_comm, ← Nat.two_pow_add_eq_or_of_lt h4']
  simp
/-- The numbers of Div64, moved. -/
theorem div_pre (hi lo y : Int) (s : Nat) (hs : s ≤ 63) (h1 : 0 ≤ hi) (h2 : hi < y) (h3 : 0 ≤ lo) (h4 : lo < 18446744073709551616) (v1 : 9223372036854775808 ≤ y * 2 ^ s) (v2 : y * 2 ^ s < 18446744073709551616) :
    ∃ u d1 d0 : Int, bits .or .u64 (IntKind.u64.wrap (hi * 2 ^ s)) (lo / 2 ^ (64 - s)) = u ∧ IntKind.u64.wrap (lo * 2 ^ s) / 4294967296 = d1 ∧ bits .and .u64 (IntKind.u64.wrap (lo * 2 ^ s)) 4294967295 = d0 ∧
      Nrm (y * 2 ^ s) (y * 2 ^ s / 4294967296) (y * 2 ^ s % 4294967296) u d1 ∧ 0 ≤ d0 ∧ d0 < 4294967296 ∧ (u * 4294967296 + d1) * 4294967296 + d0 = (hi * 18446744073709551616 + lo) * 2 ^ s := by
  have hp : (0 : Int) < 2 ^ s := Int.pow_pos (by decide)
  have hps : (2 : Int) ^ s * 2 ^ (64 - s) = 18446744073709551616 := by
    rw [← Int.pow_add, show s + (64 - s) = 64 by omega]; rfl
  have hp2 : (0 : Int) < 2 ^ (64 - s) := Int.pow_pos (by decide)
  have a1 : 0 ≤ hi * 2 ^ s := Int.mul_nonneg h1 (by omega)
  have a2 : (hi + 1) * 2 ^ s ≤ y * 2 ^ s := Int.mul_le_mul_of_nonneg_right (by omega) (by omega)
  rw [Int.add_mul, Int.one_mul] at a2
  have c1 : 0 ≤ lo / 2 ^ (64 - s) := Int.ediv_nonneg h3 (by omega)
  have c2 : lo / 2 ^ (64 - s) < 2 ^ s := Int.ediv_lt_of_lt_mul hp2 (by rw [hps]; exact h4)
  have e1 : IntKind.u64.wrap (hi * 2 ^ s) = hi * 2 ^ s := by rw [IntKind.wrap_u64]; omega
  have e2 : lo * 2 ^ s / 18446744073709551616 = lo / 2 ^ (64 - s) := by
    rw [← hps, Int.mul_comm lo, Int.mul_ediv_mul_of_pos _ _ hp]
  rw [e1, u64_join hi _ s hs h1 (by omega) c1 c2, IntKind.wrap_u64, u64_mask _ (by omega) (by omega)]
  generalize hc : lo / 2 ^ (64 - s) = c at *
  generalize hP : (2 : Int) ^ s = P at *
  have e3 := Int.emod_add_mul_ediv (lo * P) 18446744073709551616
  rw [e2] at e3
  generalize hT : lo * P % 18446744073709551616 = T at *
  have t0 : 0 ≤ T := by rw [← hT]; exact Int.emod_nonneg _ (by decide)
  have t1 : T < 18446744073709551616 := by rw [← hT]; exact Int.emod_lt_of_pos _ (by decide)
  refine ⟨_, _, _, rfl, rfl, rfl, ⟨by omega, by omega, by omega, by omega, by omega, by omega, by omega, by omega, by omega⟩, by omega, by omega, ?_⟩
  have : (hi * 18446744073709551616 + lo) * P = hi * P * 18446744073709551616 + lo * P := by rw [Int.add_mul, Int.mul_right_comm]
  omega
theorem lz_any (y : Int) (h1 : 1 ≤ y) (h2 : y < 18446744073709551616) (w : World) :
    Calls Tryd.prog 80 #[.int .u64 y] w fun e w' => ∃ s : Nat, e = .returned (.int .i64 s) ∧ w = w' ∧ s ≤ 63 ∧ 9223372036854775808 ≤ y * 2 ^ s ∧ y * 2 ^ s < 18446744073709551616 := by
  obtain ⟨n, rfl⟩ := Int.eq_ofNat_of_zero_le (show 0 ≤ y by omega)
  obtain ⟨s, e1, e2, e3, e4⟩ := lz_bounds n (by omega) (by omega)
  refine (Tryd.bits_LeadingZeros64 n w (by omega) (by omega)).mono ?_
  rintro e w' ⟨rfl, rfl⟩
  refine ⟨s, ?_, rfl, e2, ?_, ?_⟩
  · rw [Int.toNat_natCast, e1]
  · have : ((9223372036854775808 : Nat) : Int) ≤ ((n * 2 ^ s : Nat) : Int) := by omega
    simpa using this
  · have : ((n * 2 ^ s : Nat) : Int) < ((18446744073709551616 : Nat) : Int) := by omega
    simpa using this
theorem u64_unw (a d b : Int) (h0 : 0 ≤ a + d - b) (h1 : a + d - b < 18446744073709551616) : IntKind.u64.wrap (IntKind.u64.wrap (IntKind.u64.wrap a + d) - IntKind.u64.wrap b) = a + d - b := by
  simp only [IntKind.wrap_u64]; omega
/-- What Div64 returns, behind names. -/
def dq (hi lo y : Int) : Int := (hi * 18446744073709551616 + lo) / y
def dr (hi lo y : Int) : Int := (hi * 18446744073709551616 + lo) % y
def DivRel (hi lo y : Int) (v s yh yl u d1 d0 : Value) : Prop :=
  ∃ (S : Nat) (V u' d1' d0' : Int), S ≤ 63 ∧ v = .int .u64 V ∧ s = .int .u64 S ∧ yh = .int .u64 (V / 4294967296) ∧ yl = .int .u64 (V % 4294967296) ∧ u = .int .u64 u' ∧ d1 = .int .u64 d1' ∧ d0 = .int .u64 d0' ∧
    Nrm V (V / 4294967296) (V % 4294967296) u' d1' ∧ 0 ≤ d0' ∧ d0' < 4294967296 ∧ V < 18446744073709551616 ∧
    kq V u' d1' * 4294967296 + kq V ((u' * 4294967296 + d1') % V) d0' = dq hi lo y ∧ (((u' * 4294967296 + d1') % V) * 4294967296 + d0') % V / 2 ^ S = dr hi lo y
set_option maxRecDepth 100000 in
set_option maxHeartbeats 400000 in
theorem div64_pos (hi lo y : Int) (h1 : 0 ≤ hi) (h2 : hi < y) (h3 : 0 ≤ lo) (h4 : lo < 18446744073709551616) (h5 : y < 18446744073709551616) (h6 : 1 ≤ hi) (w : World) :
    Calls Tryd.prog 69 #[.int .u64 hi, .int .u64 lo, .int .u64 y] w fun e w' => e = .returned (.tuple #[.int .u64 (dq hi lo y), .int .u64 (dr hi lo y)]) ∧ w = w' := by
  go_enter Tryd.func69, Tryd.ntmps69
  go_upto_region 8 with (go_at_call 80; refine (lz_any _ (by omega) (by omega) _).mono ?_; rintro e w' ⟨s, rfl, rfl, hs, hv1, hv2⟩)
  go_upto_region 14 with (fail)
  go_cut [2, 8, 9, 10, 11, 13, 14] (fun v s yh yl u d1 d0 w1 => DivRel hi lo y v s yh yl u d1 d0 ∧ w = w1)
  case first =>
    go_wp2_with fail
    go_meet
    obtain ⟨u, d1, d0, e1, e2, e3, hN, g1, g2, hJ⟩ := div_pre hi lo y s hs h1 h2 h3 h4 hv1 hv2
    have hj := kjoin hi lo y (2 ^ s) (y * 2 ^ s) (Int.pow_pos (by decide)) rfl (by omega) u d1 d0 hJ g1 g2
    rw [e1, e2, e3, u64_mask _ (by omega) hv2]
    exact ⟨⟨s, y * 2 ^ s, u, d1, d0, hs, rfl, rfl, rfl, rfl, rfl, rfl, rfl, hN, g1, g2, hv2, hj.1, hj.2⟩, rfl⟩
  case rest =>
    obtain ⟨⟨s', V, u', d1', d0', hs', rfl, rfl, rfl, rfl, rfl, rfl, rfl, hN, g1, g2, hV, hq, hr⟩, rfl⟩ := hcut
    clear hv1 hv2 hs
    have HQ := Lib.hid hq; clear hq
    have HR := Lib.hid hr; clear hr
    have hK := kinv_start hN
    obtain ⟨y1, hy1⟩ : ∃ y1, y1 = V / 4294967296 := ⟨_, rfl⟩
    obtain ⟨y0, hy0⟩ : ∃ y0, y0 = V % 4294967296 := ⟨_, rfl⟩
    rw [← hy1] at hN hK
    rw [← hy0] at hN
    rw [← hy1, ← hy0]
    clear hy1 hy0
    have a1 := hN.a1; have a2 := hN.a2; have b1 := hN.b1; have b2 := hN.b2; have u1 := hN.u1; have u2 := hN.u2; have dd1 := hN.d1; have dd2 := hN.d2
    have k0 := hK.r0; have k1 := hK.r1; have k2 := hK.q0; have k3 := hK.hi
    have p0 : 0 ≤ u' / y1 * y1 := Int.mul_nonneg k2 (by omega)
    go_upto_block 0 with (fail)
    go_cut [15] (fun q w1 => q = .int .u64 (kq V u' d1') ∧ w = w1)
    case first =>
      go_wp2_with fail
      go_loop [15, 16] (fun q r => ∃ q' r' : Int, q = .int .u64 q' ∧ r = .int .u64 r' ∧ Kinv V y1 u' d1' q' r') (fun q _ => (intOf q).toNat)
      case atStart => exact ⟨_, _, rfl, rfl, hK⟩
      case round =>
        obtain ⟨q', r', rfl, rfl, hI⟩ := hrel
        clear hK k0 k1 k2 k3 p0
        have i0 := hI.r0; have i1 := hI.r1; have i2 := hI.q0; have i3 := hI.hi; have i4 := hI.lo
        have hz := (kq_lt hN).1
        by_cases t1 : 4294967296 ≤ q'
        · have hg := kgreat hN hI (.inl t1)
          by_cases t3 : r' + y1 < 4294967296
          · have hI' := knext hN hI (.inl t1) t3
            go_wp2_with fail
            go_round
            case rel => exact ⟨_, _, rfl, rfl, hI'⟩
            case measure => simp [intOf]; omega
          · have HI' := Lib.hid (kbreak hN hI (.inl t1) (by omega))
            go_wp2_with fail
            go_meet
            exact ⟨by rw [HI'.out], rfl⟩
        · have pp := kprod hN hI (by omega) i2
          obtain ⟨pp1, pp2⟩ := pp
          by_cases t2 : 4294967296 * r' + d1' < q' * y0
          · have hg := kgreat hN hI (.inr t2)
            by_cases t3 : r' + y1 < 4294967296
            · have hI' := knext hN hI (.inr t2) t3
              go_wp2_with fail
              go_round
              case rel => exact ⟨_, _, rfl, rfl, hI'⟩
              case measure => simp [intOf]; omega
            · have HI' := Lib.hid (kbreak hN hI (.inr t2) (by omega))
              go_wp2_with fail
              go_meet
              exact ⟨by rw [HI'.out], rfl⟩
          · have HI' := Lib.hid (kdone hN hI (by omega))
            go_wp2_with fail
            go_meet
            exact ⟨by rw [HI'.out], rfl⟩
    case rest =>
      obtain ⟨rfl, rfl⟩ := hcut
      have hu2 := kleft hN
      have hN2 : Nrm V y1 y0 ((u' * 4294967296 + d1') % V) d0' := by
        obtain ⟨c1, c2, c3⟩ := hu2
        rw [c3] at c1 c2
        exact ⟨hN.hv, a1, a2, b1, b2, c1, c2, g1, g2⟩
      have e17 : IntKind.u64.wrap (IntKind.u64.wrap (IntKind.u64.wrap (u' * 4294967296) + d1') - IntKind.u64.wrap (kq V u' d1' * V)) = (u' * 4294967296 + d1') % V := by
        obtain ⟨c1, c2, c3⟩ := hu2
        rw [← c3]
        exact u64_unw _ _ _ c1 (by omega)
      have E17 := Lib.hid e17; clear e17
      obtain ⟨z0, z1⟩ := kq_lt hN
      obtain ⟨Q1, hQ1⟩ : ∃ Q1, Q1 = kq V u' d1' := ⟨_, rfl⟩
      obtain ⟨u2, hu2'⟩ : ∃ u2, u2 = (u' * 4294967296 + d1') % V := ⟨_, rfl⟩
      rw [← hQ1, ← hu2'] at HQ
      rw [← hu2'] at HR hN2
      rw [← hQ1] at z0 z1
      rw [← hQ1, ← hu2'] at E17
      rw [← hQ1]
      clear hQ1 hu2 hu2' hK k0 k1 k2 k3 p0
      go_upto_region 21 with (fail)
      go_cut [17] (fun x w1 => x = .int .u64 u2 ∧ w = w1)
      case first =>
        go_wp2_with fail
        go_meet
        exact ⟨by rw [E17.out], rfl⟩
      case rest =>
        obtain ⟨rfl, rfl⟩ := hcut
        clear E17 hN
        have hK := kinv_start hN2
        have u1' := hN2.u1; have u2' := hN2.u2
        have k0 := hK.r0; have k1 := hK.r1; have k2 := hK.q0; have k3 := hK.hi
        have p0 : 0 ≤ u2 / y1 * y1 := Int.mul_nonneg k2 (by omega)
        go_upto_block 2 with (fail)
        go_cut [18] (fun q w1 => q = .int .u64 (kq V u2 d0') ∧ w = w1)
        case first =>
          go_wp2_with fail
          go_loop [18, 16] (fun q r => ∃ q' r' : Int, q = .int .u64 q' ∧ r = .int .u64 r' ∧ Kinv V y1 u2 d0' q' r') (fun q _ => (intOf q).toNat)
          case atStart => exact ⟨_, _, rfl, rfl, hK⟩
          case round =>
            obtain ⟨q', r', rfl, rfl, hI⟩ := hrel
            clear hK k0 k1 k2 k3 p0
            have i0 := hI.r0; have i1 := hI.r1; have i2 := hI.q0; have i3 := hI.hi; have i4 := hI.lo
            have hz := (kq_lt hN2).1
            by_cases t1 : 4294967296 ≤ q'
            · have hg := kgreat hN2 hI (.inl t1)
              by_cases t3 : r' + y1 < 4294967296
              · have hI' := knext hN2 hI (.inl t1) t3
                go_wp2_with fail
                go_round
                case rel => exact ⟨_, _, rfl, rfl, hI'⟩
                case measure => simp [intOf]; omega
              · have HI' := Lib.hid (kbreak hN2 hI (.inl t1) (by omega))
                go_wp2_with fail
                go_meet
                exact ⟨by rw [HI'.out], rfl⟩
            · have pp := kprod hN2 hI (by omega) i2
              obtain ⟨pp1, pp2⟩ := pp
              by_cases t2 : 4294967296 * r' + d0' < q' * y0
              · have hg := kgreat hN2 hI (.inr t2)
                by_cases t3 : r' + y1 < 4294967296
                · have hI' := knext hN2 hI (.inr t2) t3
                  go_wp2_with fail
                  go_round
                  case rel => exact ⟨_, _, rfl, rfl, hI'⟩
                  case measure => simp [intOf]; omega
                · have HI' := Lib.hid (kbreak hN2 hI (.inr t2) (by omega))
                  go_wp2_with fail
                  go_meet
                  exact ⟨by rw [HI'.out], rfl⟩
              · have HI' := Lib.hid (kdone hN2 hI (by omega))
                go_wp2_with fail
                go_meet
                exact ⟨by rw [HI'.out], rfl⟩
        case rest =>
          obtain ⟨rfl, rfl⟩ := hcut
          obtain ⟨y0', y1'⟩ := kq_lt hN2
          have hl := kleft hN2
          have e7 : IntKind.u64.wrap (IntKind.u64.wrap (IntKind.u64.wrap (u2 * 4294967296) + d0') - IntKind.u64.wrap (kq V u2 d0' * V)) = (u2 * 4294967296 + d0') % V := by
            obtain ⟨c1, c2, c3⟩ := hl
            rw [← c3]
            exact u64_unw _ _ _ c1 (by omega)
          have E7 := Lib.hid e7; clear e7 hl
          obtain ⟨Q0, hQ0⟩ : ∃ Q0, Q0 = kq V u2 d0' := ⟨_, rfl⟩
          rw [← hQ0] at HQ E7 y0' y1'
          rw [← hQ0]
          clear hQ0 hK k0 k1 k2 k3 p0
          go_wp2
          go_ret2
          rw [E7.out, HQ.out, HR.out]
          exact ⟨rfl, rfl⟩
set_option maxHeartbeats 400000 in
theorem div64_zero (lo y : Int) (h2 : 0 < y) (h3 : 0 ≤ lo) (h4 : lo < 18446744073709551616) (h5 : y < 18446744073709551616) (w : World) :
    Calls Tryd.prog 69 #[.int .u64 0, .int .u64 lo, .int .u64 y] w fun e w' => e = .returned (.tuple #[.int .u64 (dq 0 lo y), .int .u64 (dr 0 lo y)]) ∧ ∃ n, w' = w.drewN n := by
  have hq : dq 0 lo y = lo / y := by simp [dq]
  have hr : dr 0 lo y = lo % y := by simp [dr]
  rw [hq, hr]; clear hq hr
  have hy : (y == 0) = false := by rw [beq_eq_false_iff_ne]; omega
  go_enter Tryd.func69, Tryd.ntmps69
  go_wp2_with fail
  go_quiet (fail)
  go_wp2
  go_ret2
  exact ⟨rfl, _, rfl⟩

theorem div64_any (hi lo y : Int) (h1 : 0 ≤ hi) (h2 : hi < y) (h3 : 0 ≤ lo) (h4 : lo < 18446744073709551616) (h5 : y < 18446744073709551616) (w : World) :
    Calls Tryd.prog 69 #[.int .u64 hi, .int .u64 lo, .int .u64 y] w fun e w' => e = .returned (.tuple #[.int .u64 (dq hi lo y), .int .u64 (dr hi lo y)]) ∧ ∃ n, w' = w.drewN n := by
  by_cases h : hi = 0
  · subst h; exact div64_zero lo y h2 h3 h4 h5 w
  · exact (div64_pos hi lo y h1 h2 h3 h4 h5 (by omega) w).mono fun _ _ ⟨he, hw⟩ => ⟨he, 0, hw.symm⟩
theorem dq_range {hi lo y : Int} (h1 : 0 ≤ hi) (h2 : hi < y) (h3 : 0 ≤ lo) (h4 : lo < 18446744073709551616) : 0 ≤ dq hi lo y ∧ dq hi lo y < 18446744073709551616 :=
  ⟨Int.ediv_nonneg (by omega) (by omega), Int.ediv_lt_of_lt_mul (by omega) (by omega)⟩
theorem dr_range {hi lo y : Int} (h1 : 0 ≤ hi) (h2 : hi < y) : 0 ≤ dr hi lo y ∧ dr hi lo y < y :=
  ⟨Int.emod_nonneg _ (by omega), Int.emod_lt_of_pos _ (by omega)⟩
theorem dqr (hi lo y : Int) : hi * 18446744073709551616 + lo = dq hi lo y * y + dr hi lo y := by
  unfold dq dr; rw [Int.mul_comm (_ / y)]; exact (Int.mul_ediv_add_emod _ _).symm
end Go.Proofs.YtpkooogfefkcdaaDoor

/- Plain facts on numbers of two and of four words. No program. -/
namespace Go.Proofs.YtpkooogfefkcdaaDoor
open Go.RowKit

theorem blw_iff {b a : Int} (ha : Wd a) (hb : Wd b) : blw b a 54210108624275221 12919594847110692864 = true ↔ b * 18446744073709551616 + a < LIM := by
  obtain ⟨a1, a2⟩ := ha; obtain ⟨b1, b2⟩ := hb
  unfold blw LIM
  simp only [Bool.or_eq_true, decide_eq_true_eq, Bool.and_eq_true, beq_iff_eq]
  omega
theorem blw2_iff {b a d c : Int} (ha : Wd a) (hb : Wd b) (hc : Wd c) (hd : Wd d) : blw b a d c = true ↔ b * 18446744073709551616 + a < d * 18446744073709551616 + c := by
  obtain ⟨a1, a2⟩ := ha; obtain ⟨b1, b2⟩ := hb; obtain ⟨c1, c2⟩ := hc; obtain ⟨d1, d2⟩ := hd
  unfold blw
  simp only [Bool.or_eq_true, decide_eq_true_eq, Bool.and_eq_true, beq_iff_eq]
  omega
theorem lim4_lt {a b c d : Int} (ha : Wd a) (hb : Wd b) (hc : Wd c) (hd : Wd d) (h : lim4 a b c d < LIM) : d = 0 ∧ c = 0 ∧ blw b a 54210108624275221 12919594847110692864 = true := by
  rw [blw_iff ha hb]
  obtain ⟨a1, a2⟩ := ha; obtain ⟨b1, b2⟩ := hb; obtain ⟨c1, c2⟩ := hc; obtain ⟨d1, d2⟩ := hd
  unfold lim4 LIM at *
  omega
theorem lim4_small {a b : Int} : lim4 a b 0 0 = b * 18446744073709551616 + a := by unfold lim4; omega
theorem lim4_nonneg {a b c d : Int} (ha : Wd a) (hb : Wd b) (hc : Wd c) (hd : Wd d) : 0 ≤ lim4 a b c d := by
  obtain ⟨a1, a2⟩ := ha; obtain ⟨b1, b2⟩ := hb; obtain ⟨c1, c2⟩ := hc; obtain ⟨d1, d2⟩ := hd
  unfold lim4; omega
theorem good_of {n : Bool} {h l z : Int} (i : IsD n h l z) : goodB n h l = true := by
  obtain ⟨hh, hl, e, rfl, g⟩ := i
  unfold goodB
  rw [(blw_iff hl hh).2 (by omega)]
  simp only [Bool.true_and]
  rw [Bool.not_eq_true', Bool.and_eq_false_iff, Bool.and_eq_false_iff]
  simp only [decide_eq_false_iff_not, beq_eq_false_iff_ne]
  obtain ⟨a1, a2⟩ := hh; obtain ⟨b1, b2⟩ := hl
  omega
/-- What a right number is in millionths. -/
def zof (n : Bool) (h l : Int) : Int := if n then -(h * 18446744073709551616 + l) else h * 18446744073709551616 + l
theorem of_good {n : Bool} {h l : Int} (hh : Wd h) (hl : Wd l) (g : goodB n h l = true) : IsD n h l (zof n h l) := by
  unfold goodB at g
  rw [Bool.and_eq_true, blw_iff hl hh] at g
  obtain ⟨g1, g2⟩ := g
  rw [Bool.not_eq_true', Bool.and_eq_false_iff, Bool.and_eq_false_iff] at g2
  simp only [beq_eq_false_iff_ne] at g2
  have hh' := hh; have hl' := hl
  obtain ⟨a1, a2⟩ := hh'; obtain ⟨b1, b2⟩ := hl'
  unfold zof
  cases n
  · refine ⟨hh, hl, ?_, ?_, ?_⟩ <;> simp only [Bool.false_eq_true, if_false]
    · omega
    · symm; rw [decide_eq_false_iff_not]; omega
    · omega
  · refine ⟨hh, hl, ?_, ?_, ?_⟩ <;> simp only [if_true]
    · omega
    · symm; rw [decide_eq_true_eq]; simp at g2; omega
    · omega
theorem quot_unique {N Q y r : Int} (h : N = Q * y + r) (h0 : 0 ≤ r) (h1 : r < y) : Q = N / y ∧ r = N % y := by
  have hy : y ≠ 0 := by omega
  subst h
  constructor
  · rw [Int.add_comm, Int.add_mul_ediv_right _ _ hy, Int.ediv_eq_zero_of_lt h0 h1]; omega
  · rw [Int.add_comm, Int.add_mul_emod_self_right, Int.emod_eq_of_lt h0 h1]
theorem small_eq {a b c d y : Int} (ha : Wd a) (hb : Wd b) (hc : Wd c) (hd : Wd d) (hy0 : 0 < y) :
    ∃ q0 q1 q2 q3 r : Int, q0 = dq (dr (dr (dr 0 d y) c y) b y) a y ∧ q1 = dq (dr (dr 0 d y) c y) b y ∧ q2 = dq (dr 0 d y) c y ∧ q3 = dq 0 d y ∧ r = dr (dr (dr (dr 0 d y) c y) b y) a y ∧
      Wd q0 ∧ Wd q1 ∧ Wd q2 ∧ Wd q3 ∧ lim4 q0 q1 q2 q3 = lim4 a b c d / y ∧ r = lim4 a b c d % y := by
  obtain ⟨a1, a2⟩ := ha; obtain ⟨b1, b2⟩ := hb; obtain ⟨c1, c2⟩ := hc; obtain ⟨d1, d2⟩ := hd
  obtain ⟨x1, x2⟩ := dr_range (lo := d) (Int.le_refl 0) hy0
  obtain ⟨x3, x4⟩ := dr_range (lo := c) x1 x2
  obtain ⟨x5, x6⟩ := dr_range (lo := b) x3 x4
  obtain ⟨x7, x8⟩ := dr_range (lo := a) x5 x6
  have w3 := dq_range (Int.le_refl 0) hy0 d1 d2
  have w2 := dq_range x1 x2 c1 c2
  have w1 := dq_range x3 x4 b1 b2
  have w0 := dq_range x5 x6 a1 a2
  have e3 := dqr 0 d y
  have e2 := dqr (dr 0 d y) c y
  have e1 := dqr (dr (dr 0 d y) c y) b y
  have e0 := dqr (dr (dr (dr 0 d y) c y) b y) a y
  have hu : lim4 a b c d = lim4 (dq (dr (dr (dr 0 d y) c y) b y) a y) (dq (dr (dr 0 d y) c y) b y) (dq (dr 0 d y) c y) (dq 0 d y) * y + dr (dr (dr (dr 0 d y) c y) b y) a y := by
    unfold lim4
    simp only [Int.add_mul, Int.mul_right_comm _ _ y]
    omega
  have := quot_unique hu x7 x8
  exact ⟨_, _, _, _, _, rfl, rfl, rfl, rfl, rfl, w0, w1, w2, w3, this.1, this.2⟩
end Go.Proofs.YtpkooogfefkcdaaDoor
