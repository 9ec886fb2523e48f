/- Several texts put together: FmtL, FmtM. -/
import Derived.Test.YtpkooogfefkcdaaDoorBu9
import Derived.Lib.LaidTab
/- Layer 8: fixed. -/
namespace Go.Proofs.YtpkooogfefkcdaaDoor
open Go.RowKit
theorem cutL_len (c : Nat) (l : List Nat) : (cutL c l).1.length ≤ l.length ∧ (cutL c l).2.1.length ≤ l.length := by
  unfold cutL
  split
  · simp only [List.length_take, List.length_drop]; omega
  · simp
theorem cutL_sub (c : Nat) (l : List Nat) : (∀ x ∈ (cutL c l).1, x ∈ l) ∧ (∀ x ∈ (cutL c l).2.1, x ∈ l) := by
  unfold cutL
  split
  · exact ⟨fun x hx => List.mem_of_mem_take hx, fun x hx => List.mem_of_mem_drop hx⟩
  · exact ⟨fun x hx => hx, fun x hx => by cases hx⟩
theorem digitsF_len (z : Int) : (digitsF z).1.length ≤ 39 ∧ (digitsF z).2.length ≤ 39 := by
  have h1 := cutL_len 46 (textL (z.natAbs : Int))
  have h2 := textL_len (z.natAbs : Int)
  unfold digitsF
  exact ⟨by dsimp only; omega, by dsimp only; omega⟩
theorem digitsF_byte (z : Int) : (∀ x ∈ (digitsF z).1, x < 256) ∧ (∀ x ∈ (digitsF z).2, x < 256) := by
  have h1 := cutL_sub 46 (textL (z.natAbs : Int))
  have h2 := textL_bytes (z.natAbs : Int)
  exact ⟨fun x hx => h2 x (h1.1 x hx), fun x hx => h2 x (h1.2 x hx)⟩
theorem fixedF_zero {p : Int} (z : Int) (h : p = 0) : fixedF p z = (digitsF z).1 := by unfold fixedF; simp [h]
theorem fixedF_more {p : Int} (z : Int) {c : Nat} (hc : 0 < c) (h : (if p < 0 then 6 else p.toNat) = c) : fixedF p z = (digitsF z).1 ++ 46 :: ((digitsF z).2 ++ List.replicate (c - (digitsF z).2.length) 48).take c := by
  unfold fixedF
  simp only [h]
  rw [if_neg (by omega)]
set_option maxRecDepth 100000 in
set_option maxHeartbeats 1600000 in
theorem fixed_any (a next : Nat) (s : SpecF) (hp : -1000 < s.prec ∧ s.prec < 1000) (n : Bool) (h l z : Int) (i : IsD n h l z) (w : World) :
    Calls Tryd.prog 53 #[.agg (specV a s next), .agg #[.bool n, .int .u64 h, .int .u64 l]] w fun e w' => e = .returned (.string (strN (fixedF s.prec z))) ∧ Below w.heap.size w w' := by
  have HD := Lib.hid (fun W => digits_any8 n h l z i W)
  have hl := digitsF_len z
  simp only [specV, specC]
  by_cases hp0 : s.prec = 0
  · have hpp := fixedF_zero z hp0
    rw [hpp]
    obtain ⟨D1, hD1⟩ : ∃ x, x = strN (digitsF z).1 := ⟨_, rfl⟩
    obtain ⟨D2, hD2⟩ : ∃ x, x = strN (digitsF z).2 := ⟨_, rfl⟩
    rw [← hD1, ← hD2] at HD
    rw [← hD1]
    rw [hp0]
    clear hD1 hD2 hpp hp0 hp i
    go_enter Tryd.func53, Tryd.ntmps53
    go_wp2_with (first
      | (go_at_call 50; (with_reducible refine (HD.out _).mono ?_); rintro e w2 ⟨rfl, b2⟩; have hs_b2 := Below.size b2; (try simp at hs_b2))
      | fail)
    go_ret
    exact ⟨rfl, by (repeat' (first | (with_reducible exact Below.refl _ _) | (refine Below.trans ?_ (Below.mono (by with_reducible assumption) ?_)) | (with_reducible exact Below.refl _ _) | (with_reducible refine below_drewN ?_ _) | (with_reducible refine Below.drew ?_) | (with_reducible refine Below.setCell ?_ ?_ _) | (with_reducible refine Below.alloc ?_ ?_ _) | (with_reducible assumption) | (simp; done) | (simp; omega) | omega))⟩
  · obtain ⟨c, hc⟩ : ∃ c, (if s.prec < 0 then 6 else s.prec.toNat) = c := ⟨_, rfl⟩
    have hcp : 0 < c ∧ c ≤ 1000 := by split at hc <;> omega
    have hpp := fixedF_more z hcp.1 hc
    rw [hpp]
    obtain ⟨q, hq⟩ : ∃ q, q = c - (digitsF z).2.length := ⟨_, rfl⟩
    have hqm : max 0 ((c : Int) - ((digitsF z).2.length : Int)) = (q : Int) := by omega
    have HR := Lib.hid (fun W => show Calls Tryd.prog 30 #[.string { data := #[48] }, .int .i64 (q : Int)] W _ from repeat_any 48 q (by omega) W)
    have hsl := fun W => sslice_h ((digitsF z).2 ++ List.replicate q 48) c (by simp; omega) W
    have hs1 := strN_size (digitsF z).1
    have hs2 := strN_size (digitsF z).2
    have hs3 := strN_size (List.replicate q 48)
    have hs4 := strN_size (((digitsF z).2 ++ List.replicate q 48).take c)
    have hap := strN_app (digitsF z).2 (List.replicate q 48)
    have hfin : strN (digitsF z).1 ++ { data := #[46] } ++ strN (((digitsF z).2 ++ List.replicate q 48).take c) = strN ((digitsF z).1 ++ 46 :: ((digitsF z).2 ++ List.replicate q 48).take c) := by
      rw [show ({ data := #[46] } : ByteArray) = strN [46] from rfl, strN_app, strN_app]; simp
    rw [← hq, ← hfin]
    simp only [List.length_replicate] at hs3
    have hs4' : (strN (((digitsF z).2 ++ List.replicate q 48).take c)).size ≤ 1000 := by rw [hs4, List.length_take]; omega
    obtain ⟨D1, hD1⟩ : ∃ x, x = strN (digitsF z).1 := ⟨_, rfl⟩
    obtain ⟨D2, hD2⟩ : ∃ x, x = strN (digitsF z).2 := ⟨_, rfl⟩
    obtain ⟨D3, hD3⟩ : ∃ x, x = strN (List.replicate q 48) := ⟨_, rfl⟩
    obtain ⟨D4, hD4⟩ : ∃ x, x = strN ((digitsF z).2 ++ List.replicate q 48) := ⟨_, rfl⟩
    obtain ⟨D5, hD5⟩ : ∃ x, x = strN (((digitsF z).2 ++ List.replicate q 48).take c) := ⟨_, rfl⟩
    rw [← hD1, ← hD2] at HD
    rw [← hD3] at HR
    rw [← hD4, ← hD5] at hsl
    rw [← hD2, ← hD3, ← hD4] at hap
    rw [← hD1, ← hD5]
    rw [← hD1] at hs1
    rw [← hD2] at hs2
    rw [← hD3] at hs3
    rw [← hD5] at hs4'
    rw [← hs2] at hqm
    have hb1 : D1.size ≤ 100 := by omega
    have hb2 : D2.size ≤ 100 := by omega
    have hb3 : D3.size ≤ 2000 := by omega
    clear hD1 hD2 hD3 hD4 hD5 hs1 hs2 hs3 hs4 hfin hq hpp i hl
    rcases Int.lt_or_le s.prec 0 with hn | hn
    · rw [if_pos hn] at hc
      subst hc
      have hqm' : max 0 ((6 : Int) - (D2.size : Int)) = (q : Int) := hqm
      have hsl' : ∀ W, (Instr.slice 9 (.string D4) none (some (.int .i64 6)) none).run Tryd.prog W = .ok (.string D5) W := hsl
      clear hp hp0 hqm hsl
      go_enter Tryd.func53, Tryd.ntmps53
      go_wp2_with (first
        | (go_at_call 50; (with_reducible refine (HD.out _).mono ?_); rintro e w2 ⟨rfl, b2⟩; have hs_b2 := Below.size b2; (try simp at hs_b2))
        | (go_at_call 30; (with_reducible refine (HR.out _).mono ?_); rintro e w3 ⟨rfl, b3⟩)
        | fail)
      go_ret
      exact ⟨rfl, by (repeat' (first | (with_reducible exact Below.refl _ _) | (refine Below.trans ?_ (Below.mono (by with_reducible assumption) ?_)) | (with_reducible exact Below.refl _ _) | (with_reducible refine below_drewN ?_ _) | (with_reducible refine Below.drew ?_) | (with_reducible refine Below.setCell ?_ ?_ _) | (with_reducible refine Below.alloc ?_ ?_ _) | (with_reducible assumption) | (simp; done) | (simp; omega) | omega))⟩
    · rw [if_neg (by omega)] at hc
      have hsp : s.prec = (c : Int) := by omega
      rw [hsp]
      clear hp hp0 hn hsp hc
      have hc0 : ((c : Int) == 0) = false := beq_false_of_ne (by omega)
      go_enter Tryd.func53, Tryd.ntmps53
      go_wp2_with (first
        | (go_at_call 50; (with_reducible refine (HD.out _).mono ?_); rintro e w2 ⟨rfl, b2⟩; have hs_b2 := Below.size b2; (try simp at hs_b2))
        | (go_at_call 30; (with_reducible refine (HR.out _).mono ?_); rintro e w3 ⟨rfl, b3⟩)
        | fail)
      go_ret
      exact ⟨rfl, by (repeat' (first | (with_reducible exact Below.refl _ _) | (refine Below.trans ?_ (Below.mono (by with_reducible assumption) ?_)) | (with_reducible exact Below.refl _ _) | (with_reducible refine below_drewN ?_ _) | (with_reducible refine Below.drew ?_) | (with_reducible refine Below.setCell ?_ ?_ _) | (with_reducible refine Below.alloc ?_ ?_ _) | (with_reducible assumption) | (simp; done) | (simp; omega) | omega))⟩
end Go.Proofs.YtpkooogfefkcdaaDoor

/- strconv.FormatUint at the bases 8 and 16. -/
namespace Go.Proofs.YtpkooogfefkcdaaDoor
open Go.RowKit
def bruijnT : List Int := [0, 1, 56, 2, 57, 49, 28, 3, 61, 58, 42, 50, 38, 29, 17, 4, 62, 47, 59, 36, 45, 43, 51, 22, 53, 39, 33, 30, 24, 18, 12, 5, 63, 55, 48, 27, 60, 41, 37, 16, 46, 35, 44, 21, 52, 32, 23, 11, 54, 26, 40, 15, 34, 20, 31, 10, 25, 14, 19, 9, 13, 8, 7, 6]
/-- The table that the count of zeros looks into. -/
def TzOk (w : World) : Prop := Lib.TabIs Tryd.prog w "math/bits.deBruijn64tab" .u8 bruijnT
theorem TzOk.below {w w' : World} (h : TzOk w) (q : Below w.heap.size w w') : TzOk w' := by
  unfold TzOk Lib.TabIs World.var? at h ⊢
  cases hg : Tryd.prog.globalNamed "math/bits.deBruijn64tab" with
  | none => rw [hg] at h; cases h
  | some g =>
    rw [hg] at h
    simp only [Option.bind_some] at h ⊢
    rcases Nat.lt_or_ge g w.heap.size with hlt | hge
    · rw [q.block g hlt]; exact h
    · rw [Array.getElem?_eq_none hge] at h; cases h
theorem TzOk.at_ {w : World} (h : TzOk w) (i : Nat) (hi : i < bruijnT.length) : w.cell? ⟨8, i, none⟩ = some (.int .u8 (bruijnT.getD i 0)) := by
  have := Lib.TabIs.cell h (show Tryd.prog.globalNamed "math/bits.deBruijn64tab" = some 8 by kernel_rfl) i hi
  exact this
set_option maxRecDepth 100000 in
set_option maxHeartbeats 1600000 in
theorem tz_8 (w : World) (h : TzOk w) : Calls Tryd.prog 86 #[.int .u64 8] w fun e w' => e = .returned (.int .i64 3) ∧ w' = w := by
  have hc : w.cell? ⟨8, 7, none⟩ = some (.int .u8 3) := h.at_ 7 (by decide)
  have h1 : bits BinOp.and IntKind.u64 8 (IntKind.u64.wrap (-8)) = 8 := by decide
  have h2 : IntKind.u64.wrap (8 * 285870213051353865) = 2286961704410830920 := by decide
  clear h
  go_enter Tryd.func86, Tryd.ntmps86
  go_wp2
  go_ret
  exact ⟨rfl, rfl⟩
theorem pow2_8 (w : World) : Calls Tryd.prog 85 #[.int .i64 8] w fun e w' => e = .returned (.bool true) ∧ w' = w := by
  have h1 : bits BinOp.and IntKind.i64 8 (8 - 1) = 0 := by decide
  go_enter Tryd.func85, Tryd.ntmps85
  go_wp2
  go_ret
  exact ⟨rfl, rfl⟩
set_option maxRecDepth 100000 in
set_option maxHeartbeats 1600000 in
theorem tz_16 (w : World) (h : TzOk w) : Calls Tryd.prog 86 #[.int .u64 16] w fun e w' => e = .returned (.int .i64 4) ∧ w' = w := by
  have hc : w.cell? ⟨8, 15, none⟩ = some (.int .u8 4) := h.at_ 15 (by decide)
  have h1 : bits BinOp.and IntKind.u64 16 (IntKind.u64.wrap (-16)) = 16 := by decide
  have h2 : IntKind.u64.wrap (16 * 285870213051353865) = 4573923408821661840 := by decide
  clear h
  go_enter Tryd.func86, Tryd.ntmps86
  go_wp2
  go_ret
  exact ⟨rfl, rfl⟩
theorem pow2_16 (w : World) : Calls Tryd.prog 85 #[.int .i64 16] w fun e w' => e = .returned (.bool true) ∧ w' = w := by
  have h1 : bits BinOp.and IntKind.i64 16 (16 - 1) = 0 := by decide
  go_enter Tryd.func85, Tryd.ntmps85
  go_wp2
  go_ret
  exact ⟨rfl, rfl⟩
theorem and_mask (s : Nat) (hs : s ≤ 32) (n : Nat) (h2 : n < 18446744073709551616) : bits BinOp.and IntKind.u64 (n : Int) (((2 ^ s - 1 : Nat) : Int)) = ((n % 2 ^ s : Nat) : Int) := by
  have hp : (2 : Nat) ^ s ≤ 2 ^ 32 := Nat.pow_le_pow_right (by decide) hs
  have hp0 : 0 < (2 : Nat) ^ s := Nat.two_pow_pos s
  have e1 : ∀ m : Nat, m < 18446744073709551616 → (BitVec.ofInt IntKind.u64.bits (m : Int)).toNat = m := fun m hm => by
    rw [BitVec.toNat_ofInt]
    show ((m : Int) % (2 ^ 64 : Nat)).toNat = m
    rw [show ((2 ^ 64 : Nat) : Int) = 18446744073709551616 by decide]
    omega
  unfold bits
  dsimp only
  rw [BitVec.toNat_and, e1 n h2, e1 (2 ^ s - 1) (by have : (2 : Nat) ^ 32 = 4294967296 := by decide
                                                    omega), Nat.and_two_pow_sub_one_eq_mod, IntKind.wrap_u64]
  have : n % 2 ^ s < 2 ^ s := Nat.mod_lt _ hp0
  have h3 : (2 : Nat) ^ 32 = 4294967296 := by decide
  generalize n % 2 ^ s = r at *
  omega
theorem and_8 (n : Nat) (h2 : n < 18446744073709551616) : bits BinOp.and IntKind.u64 (n : Int) 7 = ((n % 8 : Nat) : Int) := and_mask 3 (by decide) n h2
theorem and_16 (n : Nat) (h2 : n < 18446744073709551616) : bits BinOp.and IntKind.u64 (n : Int) 15 = ((n % 16 : Nat) : Int) := and_mask 4 (by decide) n h2
/-- The digit that tells d. -/
def dgB (d : Nat) : Nat := if d < 10 then 48 + d else 87 + d
theorem baseF_step (b f x : Nat) (h : b ≤ x) (h16 : x % b < 16) : baseF false b (f + 1) x = baseF false b f (x / b) ++ [dgB (x % b)] := by
  rw [baseF, if_neg (by omega)]; rfl
theorem baseF_last (b f x : Nat) (h : x < b) (h2 : b ≤ 16) : baseF false b (f + 1) x = [dgB x] := by
  rw [baseF, if_pos h, Nat.mod_eq_of_lt h]; rfl
/-- The row of 65 bytes: from m on the digits D. -/
structure RowD (w : World) (g m : Nat) (D : List Nat) (cs : Array Value) : Prop where
  b : Blk w g 135 cs
  z : cs.size = 65
  d : ∀ j (h : j < D.length), cs[m + j]? = some (bv D[j])
  l : m + D.length = 65
theorem RowD.at_ {w : World} {g m k : Nat} {D : List Nat} {cs : Array Value} (h : RowD w g m D cs) (hk : k < 65) : ∃ v, w.cell? ⟨g, k, none⟩ = some v := by
  have hz := h.z
  exact ⟨cs[k], by rw [h.b.cell k]; exact Array.getElem?_eq_getElem (by omega)⟩
theorem RowD.put {w : World} {g m : Nat} {D : List Nat} {cs : Array Value} (h : RowD w g (m + 1) D cs) (d : Nat) : RowD (w.setCell ⟨g, m, none⟩ (bv d)) g m (d :: D) (cs.setIfInBounds m (bv d)) := by
  have hz := h.z
  have hl := h.l
  refine ⟨h.b.set_ m _, by simp [hz], fun j hj => ?_, by simp only [List.length_cons]; omega⟩
  cases j with
  | zero => simp [hz, show m < 65 by omega]
  | succ j =>
    have := h.d j (by simpa using hj)
    rw [Array.getElem?_setIfInBounds_ne (by omega), show m + (j + 1) = m + 1 + j by omega, this]; rfl
theorem dig36 (x : Nat) (h : x < 16) (h' : x < ({ data := #[48, 49, 50, 51, 52, 53, 54, 55, 56, 57, 97, 98, 99, 100, 101, 102, 103, 104, 105, 106, 107, 108, 109, 110, 111, 112, 113, 114, 115, 116, 117, 118, 119, 120, 121, 122] } : ByteArray).size) : ((({ data := #[48, 49, 50, 51, 52, 53, 54, 55, 56, 57, 97, 98, 99, 100, 101, 102, 103, 104, 105, 106, 107, 108, 109, 110, 111, 112, 113, 114, 115, 116, 117, 118, 119, 120, 121, 122] } : ByteArray)[x]'h').toNat : Int) = (dgB x : Int) := by
  have : ∀ y : Fin 16, (({ data := #[48, 49, 50, 51, 52, 53, 54, 55, 56, 57, 97, 98, 99, 100, 101, 102, 103, 104, 105, 106, 107, 108, 109, 110, 111, 112, 113, 114, 115, 116, 117, 118, 119, 120, 121, 122] } : ByteArray)[y.val]'(Nat.lt_of_lt_of_le y.isLt (by decide))).toNat = dgB y.val := by decide
  exact congrArg Int.ofNat (this ⟨x, h⟩)
theorem lt36 (x : Nat) (h : x < 16) : x < ({ data := #[48, 49, 50, 51, 52, 53, 54, 55, 56, 57, 97, 98, 99, 100, 101, 102, 103, 104, 105, 106, 107, 108, 109, 110, 111, 112, 113, 114, 115, 116, 117, 118, 119, 120, 121, 122] } : ByteArray).size := Nat.lt_of_lt_of_le h (by decide)
theorem RowD.conv {w : World} {g m : Nat} {D : List Nat} {cs : Array Value} (h : RowD w g m D cs) : (convert 46 9 (.slice (some ⟨g, m, none⟩) (65 - m) (65 - m))).run Tryd.prog w = .ok (.string (strN D)) w := by
  have hl := h.l
  rw [← strN_nums]
  refine run_convert_bytes_arg (P := Tryd.prog) w 46 5 Tryd.underlying46 Tryd.underlying5 g m (65 - m) (65 - m) (D.map Int.ofNat) (by rw [List.length_map]; omega) (fun i hi => ?_) 9 Tryd.underlying9
  have hi' : i < D.length := by omega
  rw [h.b.cell (m + i), h.d i hi']
  simp [List.getD_eq_getElem?_getD, List.getElem?_eq_getElem hi', bv]
theorem slice65 (W : World) (g a : Nat) (ha : a < 65) : (Instr.sliceAt 135 (.pointer (some ⟨g, 0, none⟩)) (some (.int .i64 (a : Int))) none none).run Tryd.prog W = .ok (.slice (some ⟨g, a, none⟩) (65 - a) (65 - a)) W := by
  have hal : Tryd.prog.arrayLen 135 = 65 := by simp [Program.arrayLen, Tryd.underlying135]
  rw [run_sliceAt_array_l W 135 ⟨g, 0, none⟩ (by simp [Program.arrayLen, Program.elem, Tryd.underlying135]) .i64 (a : Int) (by omega) (by rw [hal]; omega)]
  have hne : ¬ (65 = a) := by omega
  simp [go_sem, hne]
theorem pow_small {x b f : Nat} (hx : x < b ^ (f + 1)) (hb : 0 < b) : x / b < b ^ f := by
  rw [Nat.pow_succ] at hx
  exact Nat.div_lt_of_lt_mul (by rw [Nat.mul_comm]; exact hx)
set_option maxRecDepth 100000 in
set_option maxHeartbeats 1600000 in
theorem bits_8 (n : Nat) (hn : n < 18446744073709551616) (w : World) (h : TzOk w) : Calls Tryd.prog 74 #[.slice none 0 0, .int .u64 (n : Int), .int .i64 8, .bool false, .bool false] w fun e w' => e = .returned (.tuple #[.slice none 0 0, .string (strN (baseF false 8 22 n))]) ∧ Below w.heap.size w w' := by
  have HTZ := Lib.hid h
  have HP := Lib.hid (fun W => pow2_8 W)
  obtain ⟨R, hR⟩ : ∃ R, baseF false 8 22 n = R := ⟨_, rfl⟩
  rw [hR]
  have HR := Lib.hid hR
  clear h hR
  go_enter Tryd.func74, Tryd.ntmps74
  go_wp2_with (first
    | (go_at_call 85; (with_reducible refine (HP.out _).mono ?_); rintro e w2 ⟨rfl, rfl⟩)
    | (go_at_call 86; (with_reducible refine (tz_8 _ (HTZ.out.below (by (repeat' (first | (with_reducible exact Below.refl _ _) | (refine Below.trans ?_ (Below.mono (by with_reducible assumption) ?_)) | (with_reducible exact Below.refl _ _) | (with_reducible refine below_drewN ?_ _) | (with_reducible refine Below.drew ?_) | (with_reducible refine Below.setCell ?_ ?_ _) | (with_reducible refine Below.alloc ?_ ?_ _) | (with_reducible assumption) | (simp; done) | (simp; omega) | omega))))).mono ?_); rintro e w2 ⟨rfl, rfl⟩)
    | fail)
  go_loopw [1, 13] (fun u i wr => ∃ (x m : Nat) (D : List Nat) (cs : Array Value), x < 18446744073709551616 ∧ 43 < m ∧ m ≤ 65 ∧ u = .int .u64 (x : Int) ∧ i = .int .i64 (m : Int) ∧ Hid (RowD wr w.heap.size m D cs) ∧ Hid (x < 8 ^ (m - 43)) ∧ Hid (baseF false 8 (m - 43) x ++ D = R) ∧ Hid (Below w.heap.size w wr)) (fun u _ _ => (intOf u).toNat)
  case atStart => exact ⟨n, 65, [], _, hn, by decide, by decide, rfl, rfl, Lib.hid ⟨Blk.new _ _ _, by decide, (by intro j h; simp at h), rfl⟩, Lib.hid (by omega), Lib.hid (by simpa using HR.out), Lib.hid (by (repeat' (first | (with_reducible exact Below.refl _ _) | (refine Below.trans ?_ (Below.mono (by with_reducible assumption) ?_)) | (with_reducible exact Below.refl _ _) | (with_reducible refine below_drewN ?_ _) | (with_reducible refine Below.drew ?_) | (with_reducible refine Below.setCell ?_ ?_ _) | (with_reducible refine Below.alloc ?_ ?_ _) | (with_reducible assumption) | (simp; done) | (simp; omega) | omega)))⟩
  case round =>
    obtain ⟨x, m, D, cs, hx, hm0, hm, rfl, rfl, HRo, HX, HB, HW⟩ := hrel
    by_cases hlt : 8 ≤ x
    · obtain ⟨m', rfl⟩ : ∃ m', m = m' + 1 := ⟨m - 1, by omega⟩
      have hm2 : 43 < m' := by
        have h1 := HX.out
        rcases Nat.lt_or_ge 43 m' with h | h
        · exact h
        · rw [show m' + 1 - 43 = 1 by omega] at h1; omega
      obtain ⟨f, hf⟩ : ∃ f, m' - 43 = f := ⟨_, rfl⟩
      obtain ⟨f', rfl⟩ : ∃ f', f = f' + 1 := ⟨f - 1, by omega⟩
      rw [show m' + 1 - 43 = f' + 1 + 1 by omega] at HX HB
      have hx2 := pow_small HX.out (by decide)
      have hb2 := HB.out
      rw [baseF_step 8 (f' + 1) x hlt (by omega), List.append_assoc, List.singleton_append] at hb2
      rw [← hf] at hx2 hb2
      obtain ⟨y, hy⟩ : ∃ y, y = x % 8 := ⟨_, rfl⟩
      have hy16 : y < 8 := by omega
      have hand : bits BinOp.and IntKind.u64 (x : Int) 7 = (y : Int) := by rw [hy]; exact and_8 x hx
      rw [← hy] at hb2
      have hdg := dig36 y (Nat.lt_of_lt_of_le hy16 (by decide)) (lt36 y (Nat.lt_of_lt_of_le hy16 (by decide)))
      dsimp only at hdg
      have hput := RowD.put (m := m') HRo.out (dgB y)
      have HPU := Lib.hid hput
      have HX2 := Lib.hid hx2
      have HB2 := Lib.hid hb2
      have hyi : ((y : Nat) : Int) < 36 := by omega
      obtain ⟨v, hv⟩ := HRo.out.at_ (k := m') (by omega)
      have hfz : wr.frozen? ⟨w.heap.size, m', none⟩ = false := HRo.out.b.frozen m'
      clear hx2 hb2 hy hput HX HB hf
      go_wp2_with fail
      go_roundw
      case rel => exact ⟨x / 8, m', _, _, by omega, hm2, by omega, rfl, rfl, HPU, HX2, HB2, Lib.hid (HW.out.setCell (Nat.le_refl _) _)⟩
      case measure => simp [intOf]; omega
    · obtain ⟨m', rfl⟩ : ∃ m', m = m' + 1 := ⟨m - 1, by omega⟩
      obtain ⟨v, hv⟩ := HRo.out.at_ (k := m') (by omega)
      have hf : wr.frozen? ⟨w.heap.size, m', none⟩ = false := HRo.out.b.frozen m'
      have hlt16 : x < 16 := by omega
      have hdg := dig36 x hlt16 (lt36 x hlt16)
      dsimp only at hdg
      have hput := RowD.put (m := m') HRo.out (dgB x)
      have HPU := Lib.hid hput
      have hsl := fun W => slice65 W w.heap.size m' (by omega)
      have hcv := hput.conv
      simp only [bv] at hcv
      have hb2 := HB.out
      rw [show m' + 1 - 43 = (m' - 43) + 1 by omega, baseF_last 8 _ x (by omega) (by decide)] at hb2
      have hb3 : strN (dgB x :: D) = strN R := by rw [← hb2]; rfl
      have HB3 := Lib.hid hb3
      clear hput hb2 hb3
      go_wp2_with fail
      go_ret2
      exact ⟨by rw [← HB3.out]; rfl, HW.out.setCell (Nat.le_refl _) _⟩
set_option maxRecDepth 100000 in
set_option maxHeartbeats 1600000 in
theorem bits_16 (n : Nat) (hn : n < 18446744073709551616) (w : World) (h : TzOk w) : Calls Tryd.prog 74 #[.slice none 0 0, .int .u64 (n : Int), .int .i64 16, .bool false, .bool false] w fun e w' => e = .returned (.tuple #[.slice none 0 0, .string (strN (baseF false 16 16 n))]) ∧ Below w.heap.size w w' := by
  have HTZ := Lib.hid h
  have HP := Lib.hid (fun W => pow2_16 W)
  obtain ⟨R, hR⟩ : ∃ R, baseF false 16 16 n = R := ⟨_, rfl⟩
  rw [hR]
  have HR := Lib.hid hR
  clear h hR
  go_enter Tryd.func74, Tryd.ntmps74
  go_wp2_with (first
    | (go_at_call 85; (with_reducible refine (HP.out _).mono ?_); rintro e w2 ⟨rfl, rfl⟩)
    | (go_at_call 86; (with_reducible refine (tz_16 _ (HTZ.out.below (by (repeat' (first | (with_reducible exact Below.refl _ _) | (refine Below.trans ?_ (Below.mono (by with_reducible assumption) ?_)) | (with_reducible exact Below.refl _ _) | (with_reducible refine below_drewN ?_ _) | (with_reducible refine Below.drew ?_) | (with_reducible refine Below.setCell ?_ ?_ _) | (with_reducible refine Below.alloc ?_ ?_ _) | (with_reducible assumption) | (simp; done) | (simp; omega) | omega))))).mono ?_); rintro e w2 ⟨rfl, rfl⟩)
    | fail)
  go_loopw [1, 13] (fun u i wr => ∃ (x m : Nat) (D : List Nat) (cs : Array Value), x < 18446744073709551616 ∧ 49 < m ∧ m ≤ 65 ∧ u = .int .u64 (x : Int) ∧ i = .int .i64 (m : Int) ∧ Hid (RowD wr w.heap.size m D cs) ∧ Hid (x < 16 ^ (m - 49)) ∧ Hid (baseF false 16 (m - 49) x ++ D = R) ∧ Hid (Below w.heap.size w wr)) (fun u _ _ => (intOf u).toNat)
  case atStart => exact ⟨n, 65, [], _, hn, by decide, by decide, rfl, rfl, Lib.hid ⟨Blk.new _ _ _, by decide, (by intro j h; simp at h), rfl⟩, Lib.hid (by omega), Lib.hid (by simpa using HR.out), Lib.hid (by (repeat' (first | (with_reducible exact Below.refl _ _) | (refine Below.trans ?_ (Below.mono (by with_reducible assumption) ?_)) | (with_reducible exact Below.refl _ _) | (with_reducible refine below_drewN ?_ _) | (with_reducible refine Below.drew ?_) | (with_reducible refine Below.setCell ?_ ?_ _) | (with_reducible refine Below.alloc ?_ ?_ _) | (with_reducible assumption) | (simp; done) | (simp; omega) | omega)))⟩
  case round =>
    obtain ⟨x, m, D, cs, hx, hm0, hm, rfl, rfl, HRo, HX, HB, HW⟩ := hrel
    by_cases hlt : 16 ≤ x
    · obtain ⟨m', rfl⟩ : ∃ m', m = m' + 1 := ⟨m - 1, by omega⟩
      have hm2 : 49 < m' := by
        have h1 := HX.out
        rcases Nat.lt_or_ge 49 m' with h | h
        · exact h
        · rw [show m' + 1 - 49 = 1 by omega] at h1; omega
      obtain ⟨f, hf⟩ : ∃ f, m' - 49 = f := ⟨_, rfl⟩
      obtain ⟨f', rfl⟩ : ∃ f', f = f' + 1 := ⟨f - 1, by omega⟩
      rw [show m' + 1 - 49 = f' + 1 + 1 by omega] at HX HB
      have hx2 := pow_small HX.out (by decide)
      have hb2 := HB.out
      rw [baseF_step 16 (f' + 1) x hlt (by omega), List.append_assoc, List.singleton_append] at hb2
      rw [← hf] at hx2 hb2
      obtain ⟨y, hy⟩ : ∃ y, y = x % 16 := ⟨_, rfl⟩
      have hy16 : y < 16 := by omega
      have hand : bits BinOp.and IntKind.u64 (x : Int) 15 = (y : Int) := by rw [hy]; exact and_16 x hx
      rw [← hy] at hb2
      have hdg := dig36 y (Nat.lt_of_lt_of_le hy16 (by decide)) (lt36 y (Nat.lt_of_lt_of_le hy16 (by decide)))
      dsimp only at hdg
      have hput := RowD.put (m := m') HRo.out (dgB y)
      have HPU := Lib.hid hput
      have HX2 := Lib.hid hx2
      have HB2 := Lib.hid hb2
      have hyi : ((y : Nat) : Int) < 36 := by omega
      obtain ⟨v, hv⟩ := HRo.out.at_ (k := m') (by omega)
      have hfz : wr.frozen? ⟨w.heap.size, m', none⟩ = false := HRo.out.b.frozen m'
      clear hx2 hb2 hy hput HX HB hf
      go_wp2_with fail
      go_roundw
      case rel => exact ⟨x / 16, m', _, _, by omega, hm2, by omega, rfl, rfl, HPU, HX2, HB2, Lib.hid (HW.out.setCell (Nat.le_refl _) _)⟩
      case measure => simp [intOf]; omega
    · obtain ⟨m', rfl⟩ : ∃ m', m = m' + 1 := ⟨m - 1, by omega⟩
      obtain ⟨v, hv⟩ := HRo.out.at_ (k := m') (by omega)
      have hf : wr.frozen? ⟨w.heap.size, m', none⟩ = false := HRo.out.b.frozen m'
      have hlt16 : x < 16 := by omega
      have hdg := dig36 x hlt16 (lt36 x hlt16)
      dsimp only at hdg
      have hput := RowD.put (m := m') HRo.out (dgB x)
      have HPU := Lib.hid hput
      have hsl := fun W => slice65 W w.heap.size m' (by omega)
      have hcv := hput.conv
      simp only [bv] at hcv
      have hb2 := HB.out
      rw [show m' + 1 - 49 = (m' - 49) + 1 by omega, baseF_last 16 _ x (by omega) (by decide)] at hb2
      have hb3 : strN (dgB x :: D) = strN R := by rw [← hb2]; rfl
      have HB3 := Lib.hid hb3
      clear hput hb2 hb3
      go_wp2_with fail
      go_ret2
      exact ⟨by rw [← HB3.out]; rfl, HW.out.setCell (Nat.le_refl _) _⟩
set_option maxRecDepth 100000 in
set_option maxHeartbeats 1600000 in
theorem iuint_8 (n : Nat) (hn : n < 18446744073709551616) (w : World) (h : TzOk w) : Calls Tryd.prog 63 #[.int .u64 (n : Int), .int .i64 8] w fun e w' => e = .returned (.string (strN (baseF false 8 22 n))) ∧ Below w.heap.size w w' := by
  have HB := Lib.hid (bits_8 n hn)
  have HTZ := Lib.hid h
  clear h
  go_enter Tryd.func63, Tryd.ntmps63
  go_wp2_with (first
    | (go_at_call 74; (with_reducible refine (HB.out _ HTZ.out).mono ?_); rintro e w2 ⟨rfl, b2⟩)
    | fail)
  go_ret
  exact ⟨rfl, b2⟩
theorem uint_8 (n : Nat) (hn : n < 18446744073709551616) (w : World) (h : TzOk w) : Calls Tryd.prog 54 #[.int .u64 (n : Int), .int .i64 8] w fun e w' => e = .returned (.string (strN (baseF false 8 22 n))) ∧ Below w.heap.size w w' := by
  have HB := Lib.hid (iuint_8 n hn)
  have HTZ := Lib.hid h
  clear h
  go_enter Tryd.func54, Tryd.ntmps54
  go_wp2_with (first
    | (go_at_call 63; (with_reducible refine (HB.out _ HTZ.out).mono ?_); rintro e w2 ⟨rfl, b2⟩)
    | fail)
  go_ret
  exact ⟨rfl, b2⟩
set_option maxRecDepth 100000 in
set_option maxHeartbeats 1600000 in
theorem iuint_16 (n : Nat) (hn : n < 18446744073709551616) (w : World) (h : TzOk w) : Calls Tryd.prog 63 #[.int .u64 (n : Int), .int .i64 16] w fun e w' => e = .returned (.string (strN (baseF false 16 16 n))) ∧ Below w.heap.size w w' := by
  have HB := Lib.hid (bits_16 n hn)
  have HTZ := Lib.hid h
  clear h
  go_enter Tryd.func63, Tryd.ntmps63
  go_wp2_with (first
    | (go_at_call 74; (with_reducible refine (HB.out _ HTZ.out).mono ?_); rintro e w2 ⟨rfl, b2⟩)
    | fail)
  go_ret
  exact ⟨rfl, b2⟩
theorem uint_16 (n : Nat) (hn : n < 18446744073709551616) (w : World) (h : TzOk w) : Calls Tryd.prog 54 #[.int .u64 (n : Int), .int .i64 16] w fun e w' => e = .returned (.string (strN (baseF false 16 16 n))) ∧ Below w.heap.size w w' := by
  have HB := Lib.hid (iuint_16 n hn)
  have HTZ := Lib.hid h
  clear h
  go_enter Tryd.func54, Tryd.ntmps54
  go_wp2_with (first
    | (go_at_call 63; (with_reducible refine (HB.out _ HTZ.out).mono ?_); rintro e w2 ⟨rfl, b2⟩)
    | fail)
  go_ret
  exact ⟨rfl, b2⟩
end Go.Proofs.YtpkooogfefkcdaaDoor
