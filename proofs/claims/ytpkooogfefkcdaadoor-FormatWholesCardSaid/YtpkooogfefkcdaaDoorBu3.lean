/- Several texts put together: ScrC, FmtB, FmtC, Rd. -/
import Derived.Test.YtpkooogfefkcdaaDoorBu2
import Derived.Test.YtpkooogfefkcdaaDoorBu1
import Derived.Below
import Derived.Laws.OwnMore
import Derived.Laws.Rows
import Derived.Deep.AppendLies
import Derived.Deep.Draws
import Derived.Maps.AppendAt
import Derived.RegionTactic
import Derived.OwnWalk
import Derived.Laws.AppendOwnNone
/- Layer 24: texts of lines, plain; slices of strings; cutting. -/
namespace Go.Proofs.YtpkooogfefkcdaaDoor
open Go.RowKit
theorem strN_data (l : List Nat) : (strN l).data.toList = l.map UInt8.ofNat := by simp [strN]
theorem strN_extract (L : List Nat) (i j : Nat) : (strN L).extract i j = strN ((L.take j).drop i) := by
  have : ((strN L).extract i j).data = (strN ((L.take j).drop i)).data := by
    rw [ByteArray.data_extract]
    simp only [strN, List.extract_toArray, List.extract_eq_take_drop, List.map_drop, List.map_take]
    rw [List.take_drop]
    by_cases h : i ≤ j
    · rw [show i + (j - i) = j by omega]
    · rw [List.drop_of_length_le (by simp; omega), List.drop_of_length_le (by simp; omega)]
  cases h1 : (strN L).extract i j; cases h2 : strN ((L.take j).drop i); rw [h1, h2] at this; simpa using this
theorem ofNat_inj {a b : Nat} (ha : a < 256) (hb : b < 256) (h : UInt8.ofNat a = UInt8.ofNat b) : a = b := by
  have := congrArg UInt8.toNat h
  simpa [UInt8.toNat_ofNat', Nat.mod_eq_of_lt ha, Nat.mod_eq_of_lt hb] using this
theorem strN_inj {a b : List Nat} (ha : ∀ x ∈ a, x < 256) (hb : ∀ x ∈ b, x < 256) (h : strN a = strN b) : a = b := by
  have h2 : a.map UInt8.ofNat = b.map UInt8.ofNat := by rw [← strN_data, ← strN_data, h]
  induction a generalizing b with
  | nil => cases b with
    | nil => rfl
    | cons y b => simp at h2
  | cons x a ih => cases b with
    | nil => simp at h2
    | cons y b =>
      simp only [List.map_cons, List.cons.injEq] at h2
      have e := ofNat_inj (ha x (List.mem_cons_self ..)) (hb y (List.mem_cons_self ..)) h2.1
      subst e
      have := ih (fun z hz => ha z (List.mem_cons_of_mem _ hz)) (b := b) (fun z hz => hb z (List.mem_cons_of_mem _ hz)) (by unfold strN; rw [h2.2]) h2.2
      rw [this]
/-- Where a byte first stands. -/
def idxL (c : Nat) : List Nat → Option Nat
  | [] => none
  | x :: l => if x = c then some 0 else (idxL c l).map (· + 1)
theorem idx_lib (c : Nat) (hc : c < 256) : ∀ (l : List Nat), (∀ x ∈ l, x < 256) → Lib.indexByte (l.map UInt8.ofNat) (UInt8.ofNat c) = match idxL c l with | some i => (i : Int) | none => -1
  | [], _ => rfl
  | x :: l, h => by
    have ih := idx_lib c hc l (fun z hz => h z (List.mem_cons_of_mem _ hz))
    rw [List.map_cons, Lib.indexByte, idxL]
    by_cases e : x = c
    · subst e; simp
    · have e2 : (UInt8.ofNat x == UInt8.ofNat c) = false := by
        rw [beq_eq_false_iff_ne]; intro h2; exact e (ofNat_inj (h x (List.mem_cons_self ..)) hc h2)
      rw [e2, if_neg e, ih]
      cases h3 : idxL c l with
      | none => simp
      | some i =>
        simp
        try omega
theorem idx_lt (c : Nat) : ∀ (l : List Nat) (i : Nat), idxL c l = some i → i < l.length
  | [], i, h => by cases h
  | x :: l, i, h => by
    rw [idxL] at h
    split at h
    · injection h with h; subst h; simp
    · rw [Option.map_eq_some_iff] at h
      obtain ⟨j, hj, rfl⟩ := h
      have := idx_lt c l j hj
      simp; omega
/-- strings.Cut at one byte. -/
def cutL (c : Nat) (l : List Nat) : List Nat × List Nat × Bool :=
  match idxL c l with
  | some i => (l.take i, l.drop (i + 1), true)
  | none => (l, [], false)
theorem idx_app (c : Nat) : ∀ (a b : List Nat), c ∉ a → idxL c (a ++ c :: b) = some a.length
  | [], b, _ => by simp [idxL]
  | x :: a, b, h => by
    rw [List.cons_append, idxL, if_neg (fun e => h (by simp [e])), idx_app c a b (fun e => h (List.mem_cons_of_mem _ e))]
    simp
theorem idx_none (c : Nat) : ∀ (a : List Nat), c ∉ a → idxL c a = none
  | [], _ => rfl
  | x :: a, h => by
    rw [idxL, if_neg (fun e => h (by simp [e])), idx_none c a (fun e => h (List.mem_cons_of_mem _ e))]
    rfl
theorem cut_app (c : Nat) (a b : List Nat) (h : c ∉ a) : cutL c (a ++ c :: b) = (a, b, true) := by
  unfold cutL; rw [idx_app c a b h]; simp
theorem cut_none (c : Nat) (a : List Nat) (h : c ∉ a) : cutL c a = (a, [], false) := by
  unfold cutL; rw [idx_none c a h]
theorem sslice_run (L : List Nat) (i j : Nat) (hi : i ≤ j) (hj : j ≤ L.length) (W : World) : (Instr.slice 9 (.string (strN L)) (some (.int .i64 (i : Int))) (some (.int .i64 (j : Int))) none).run Tryd.prog W = .ok (.string (strN ((L.take j).drop i))) W := by
  rw [run_slice_string_if W 9 (strN L) .i64 .i64 i j Tryd.underlying9, if_pos (by rw [strN_size]; omega), if_pos (by omega), Int.toNat_natCast, Int.toNat_natCast, strN_extract]
theorem sslice_h (L : List Nat) (j : Nat) (hj : j ≤ L.length) (W : World) : (Instr.slice 9 (.string (strN L)) none (some (.int .i64 (j : Int))) none).run Tryd.prog W = .ok (.string (strN (L.take j))) W := by
  rw [run_slice_string_h W 9 (strN L) Tryd.underlying9 .i64 j (by omega) (by rw [strN_size]; omega), Int.toNat_natCast, strN_extract, List.drop_zero]
theorem sslice_l (L : List Nat) (i : Nat) (hi : i ≤ L.length) (W : World) : (Instr.slice 9 (.string (strN L)) (some (.int .i64 (i : Int))) none none).run Tryd.prog W = .ok (.string (strN (L.drop i))) W := by
  rw [run_slice_string_l W 9 (strN L) Tryd.underlying9 .i64 i (by omega) (by rw [strN_size]; omega), Int.toNat_natCast, strN_size, strN_extract, List.take_length]
set_option maxRecDepth 100000 in
set_option maxHeartbeats 1600000 in
theorem lcut_any (L : List Nat) (hL : ∀ x ∈ L, x < 256) (hm : L.length ≤ 140737488351232) (c : Nat) (hc : c < 256) (w : World) :
    Calls Tryd.prog 70 #[.string (strN L), .string (strN [c])] w fun e w' => e = .returned (.tuple #[.string (strN (cutL c L).1), .string (strN (cutL c L).2.1), .bool (cutL c L).2.2]) ∧ Below w.heap.size w w' := by
  have hix : ∀ W, Calls Tryd.prog 81 #[.string (strN L), .string (strN [c])] W fun e w' => e = .returned (.int .i64 (match idxL c L with | some i => (i : Int) | none => -1)) ∧ w' = W := fun W => by
    have := Tryd.stringslite_Index_one (strN L) (UInt8.ofNat c) W
    rw [strN_data, idx_lib c hc L hL] at this
    exact this
  have hs1 : (strN [c]).size = 1 := strN_size _
  have hsz := strN_size L
  cases h : idxL c L with
  | some i =>
    rw [h] at hix
    dsimp only at hix
    have hi := idx_lt c L i h
    have r1 := fun W => sslice_h L i (by omega) W
    have r2 := fun W => sslice_l L (i + 1) (by omega) W
    simp only [Int.natCast_add, Int.cast_ofNat_Int] at r2
    rw [show cutL c L = (L.take i, L.drop (i + 1), true) by unfold cutL; rw [h]]
    have HX := Lib.hid hix
    generalize strN (L.take i) = s1 at r1 ⊢
    generalize strN (L.drop (i + 1)) = s2 at r2 ⊢
    generalize strN L = S at r1 r2 HX hsz ⊢
    generalize strN [c] = S1 at HX hs1 ⊢
    clear hix h
    go_enter Tryd.func70, Tryd.ntmps70
    go_wp2_with (go_at_call 81; (with_reducible refine (HX.out _).mono ?_); rintro e w1 ⟨rfl, rfl⟩)
    go_region
    go_wp2
    (try simp only [Exit.inBlock, Exit.then]); refine bodyPost_ret (by simp [results, Tryd.results70, go_sem, *]; try rfl) rfl ?_
    exact ⟨rfl, by (repeat' (first | (with_reducible exact Below.refl _ _) | (refine Below.trans ?_ (Below.mono (by with_reducible assumption) ?_)) | (with_reducible exact Below.refl _ _) | (with_reducible refine below_drewN ?_ _) | (with_reducible refine Below.drew ?_) | (with_reducible refine Below.setCell ?_ ?_ _) | (with_reducible refine Below.alloc ?_ ?_ _) | (with_reducible assumption) | (simp; done) | (simp; omega) | omega))⟩
  | none =>
    rw [h] at hix
    dsimp only at hix
    rw [show cutL c L = (L, [], false) by unfold cutL; rw [h]]
    have HX := Lib.hid hix
    generalize strN L = S at HX ⊢
    generalize strN [c] = S1 at HX ⊢
    clear hix h hsz hs1
    go_enter Tryd.func70, Tryd.ntmps70
    go_wp2_with (go_at_call 81; (with_reducible refine (HX.out _).mono ?_); rintro e w1 ⟨rfl, rfl⟩)
    (try simp only [Exit.inBlock, Exit.then]); refine bodyPost_ret (by simp [results, Tryd.results70, go_sem, *]; try rfl) rfl ?_
    exact ⟨rfl, by (repeat' (first | (with_reducible exact Below.refl _ _) | (refine Below.trans ?_ (Below.mono (by with_reducible assumption) ?_)) | (with_reducible exact Below.refl _ _) | (with_reducible refine below_drewN ?_ _) | (with_reducible refine Below.drew ?_) | (with_reducible refine Below.setCell ?_ ?_ _) | (with_reducible refine Below.alloc ?_ ?_ _) | (with_reducible assumption) | (simp; done) | (simp; omega) | omega))⟩
set_option maxHeartbeats 400000 in
theorem cut_any (L : List Nat) (hL : ∀ x ∈ L, x < 256) (hm : L.length ≤ 140737488351232) (c : Nat) (hc : c < 256) (w : World) :
    Calls Tryd.prog 61 #[.string (strN L), .string (strN [c])] w fun e w' => e = .returned (.tuple #[.string (strN (cutL c L).1), .string (strN (cutL c L).2.1), .bool (cutL c L).2.2]) ∧ Below w.heap.size w w' := by
  have HX := Lib.hid (fun W => lcut_any L hL hm c hc W)
  generalize strN L = S at HX ⊢
  generalize strN [c] = S1 at HX ⊢
  generalize strN (cutL c L).1 = s1 at HX ⊢
  generalize strN (cutL c L).2.1 = s2 at HX ⊢
  generalize (cutL c L).2.2 = b at HX ⊢
  go_enter Tryd.func61, Tryd.ntmps61
  go_wp2_with (go_at_call 70; (with_reducible refine (HX.out _).mono ?_); rintro e w1 ⟨rfl, b1⟩)
  (try simp only [Exit.inBlock, Exit.then]); refine bodyPost_ret (by simp [results, Tryd.results61, go_sem, *]; try rfl) rfl ?_
  exact ⟨rfl, by (repeat' (first | (with_reducible exact Below.refl _ _) | (refine Below.trans ?_ (Below.mono (by with_reducible assumption) ?_)) | (with_reducible exact Below.refl _ _) | (with_reducible refine below_drewN ?_ _) | (with_reducible refine Below.drew ?_) | (with_reducible refine Below.setCell ?_ ?_ _) | (with_reducible refine Below.alloc ?_ ?_ _) | (with_reducible assumption) | (simp; done) | (simp; omega) | omega))⟩
end Go.Proofs.YtpkooogfefkcdaaDoor

/- Layer 8, plain: what Make tells. -/
namespace Go.Proofs.YtpkooogfefkcdaaDoor
open Go.RowKit
/-- An argument; z: its number, in millionths, where it is a right one. -/
structure ArgF where
  s : List Nat
  n : Bool
  h : Int
  l : Int
  num : Bool
  z : Option Int
def zeroF : ArgF := ⟨[], false, 0, 0, false, some 0⟩
/-- dec.Whole of a right number. -/
def wholeZ (z : Int) : Int × Bool := if -9223372036854775808 ≤ z.tdiv 1000000 ∧ z.tdiv 1000000 < 9223372036854775808 then (z.tdiv 1000000, true) else (0, false)
def takeF : List ArgF → Option (ArgF × Int × List ArgF)
  | [] => some (zeroF, 0, [])
  | a :: r => a.z.map fun z => (a, z, r)
def clampF (k : Int) : Int := if k < -999 then -999 else if 999 < k then 999 else k
def starF (l : List ArgF) : Option (Int × List ArgF) := (takeF l).map fun x => (clampF (wholeZ x.2.1).1, x.2.2)
/-- A number's digits, ahead of the point and behind it. -/
def digitsF (z : Int) : List Nat × List Nat := ((cutL 46 (textL (z.natAbs : Int))).1, (cutL 46 (textL (z.natAbs : Int))).2.1)
def filledF (prec : Int) (d : List Nat) : List Nat := List.replicate (prec - d.length).toNat 48 ++ d
def signF (f : FlagsF) (neg : Bool) : List Nat := if neg then [45] else if f.plus then [43] else if f.blank then [32] else []
def fixedF (prec : Int) (z : Int) : List Nat :=
  let count := if prec < 0 then 6 else prec.toNat
  if count = 0 then (digitsF z).1 else (digitsF z).1 ++ 46 :: ((digitsF z).2 ++ List.replicate (count - (digitsF z).2.length) 48).take count
/-- The digits of a number in a base. -/
def baseF (up : Bool) (b : Nat) : Nat → Nat → List Nat
  | 0, _ => []
  | k + 1, n => (if n < b then [] else baseF up b k (n / b)) ++ [if n % b < 10 then 48 + n % b else (if up then 55 else 87) + n % b]
def u64F (k : Int) : Nat := (k % 18446744073709551616).toNat
/-- What a verb tells: a sign, and the rest. -/
def bodyF (sp : SpecF) (a : ArgF) (z : Int) : Except Int (List Nat × List Nat) :=
  if sp.verb = 100 ∨ sp.verb = 105 then .ok (signF sp.fl (decide (z.tdiv 1000000 < 0)), filledF sp.prec (digitsF (z.tdiv 1000000 * 1000000)).1)
  else if sp.verb = 102 then .ok (signF sp.fl (decide (z < 0)), fixedF sp.prec z)
  else if sp.verb = 115 then .ok ([], if 0 ≤ sp.prec ∧ sp.prec < a.s.length then a.s.take sp.prec.toNat else a.s)
  else if sp.verb = 99 ∧ a.num = false then .ok ([], a.s.take 1)
  else if (wholeZ z).2 = false then .error 2
  else if sp.verb = 99 then .ok ([], [((wholeZ z).1 % 256).toNat])
  else if sp.verb = 111 then .ok ([], filledF sp.prec (baseF false 8 22 (u64F (wholeZ z).1)))
  else .ok ([], filledF sp.prec (baseF (sp.verb == 88) 16 16 (u64F (wholeZ z).1)))
def zerosF (sp : SpecF) : Bool :=
  if sp.verb = 102 then sp.fl.zero else if sp.verb = 115 ∨ sp.verb = 99 then false else sp.fl.zero && decide (sp.prec < 0)
def addF (b : List Nat) (l : List Nat) : Except Int (List Nat) := if 65536 < b.length + l.length then .error 13 else .ok (b ++ l)
/-- What is told at a width. -/
def laidF (sp : SpecF) (x : List Nat × List Nat) : List Nat :=
  let room := sp.width - x.1.length - x.2.length
  if sp.fl.left then x.1 ++ x.2 ++ List.replicate room 32
  else if zerosF sp then x.1 ++ List.replicate room 48 ++ x.2
  else List.replicate room 32 ++ x.1 ++ x.2
def widthF (sp : SpecF) (args : List ArgF) : Option (SpecF × List ArgF) :=
  if sp.sw then (starF args).map fun x => (if x.1 < 0 then { sp with fl := { sp.fl with left := true }, width := (-x.1).toNat } else { sp with width := x.1.toNat }, x.2) else some (sp, args)
def precF (sp : SpecF) (args : List ArgF) : Option (SpecF × List ArgF) :=
  if sp.sp then (starF args).map fun x => ({ sp with prec := x.1 }, x.2) else some (sp, args)
def tellF (sp : SpecF) (args : List ArgF) (b : List Nat) : Except Int (List Nat × List ArgF) :=
  match widthF sp args with
  | none => .error 1
  | some (s1, a1) => match precF s1 a1 with
    | none => .error 1
    | some (s2, a2) =>
      if s2.verb = 0 then .error 4
      else match takeF a2 with
        | none => .error 1
        | some (a, z, a3) => match bodyF s2 a z with
          | .error e => .error e
          | .ok x => match addF b (laidF s2 x) with
            | .error e => .error e
            | .ok b' => .ok (b', a3)
/-- The plain text at the head, and how long; or what a % begins. -/
def pieceF (l : List Nat) : (List Nat × Nat) ⊕ SpecF :=
  match l with
  | 37 :: 37 :: _ => .inl ([37], 2)
  | 37 :: r => .inr (readL r)
  | l => .inl (l.takeWhile (· ≠ 37), (l.takeWhile (· ≠ 37)).length)
def makeF : Nat → List Nat → List ArgF → List Nat → Except Int (List Nat)
  | 0, _, _, b => .ok b
  | _ + 1, [], _, b => .ok b
  | k + 1, c :: l, args, b => match pieceF (c :: l) with
    | .inl x => match addF b x.1 with
      | .error e => .error e
      | .ok b' => makeF k ((c :: l).drop x.2) args b'
    | .inr sp => match tellF sp args b with
      | .error e => .error e
      | .ok (b', args') => makeF k ((c :: l).drop sp.len) args' b'
end Go.Proofs.YtpkooogfefkcdaaDoor

/- Layer 8: format.size. -/
namespace Go.Proofs.YtpkooogfefkcdaaDoor
open Go.RowKit
theorem szD_step (k : Nat) (c : Nat) (r : List Nat) (n : Nat) (h : 48 ≤ c ∧ c ≤ 57) : szD (k + 1) (c :: r) n = ((szD k r (n * 10 + (c - 48))).1, (szD k r (n * 10 + (c - 48))).2 + 1) := by
  conv => lhs; unfold szD
  rw [if_pos h]
theorem szD_stop (k : Nat) (c : Nat) (r : List Nat) (n : Nat) (h : ¬ (48 ≤ c ∧ c ≤ 57)) : szD (k + 1) (c :: r) n = (n, 0) := by
  conv => lhs; unfold szD
  rw [if_neg h]
theorem szD_nil (k n : Nat) : szD k [] n = (n, 0) := by cases k <;> rfl
theorem szD_zero (l : List Nat) (n : Nat) : szD 0 l n = (n, 0) := by cases l <;> rfl
theorem get_at {L : List Nat} (hL : ∀ x ∈ L, x < 256) (i : Nat) (h : i < L.length) (h' : i < (strN L).size) : (((strN L)[i]'h').toNat : Int) = (L[i] : Int) := by rw [strN_get hL i h h']
set_option maxRecDepth 100000 in
set_option maxHeartbeats 1600000 in
theorem size_any (L : List Nat) (hL : ∀ x ∈ L, x < 256) (hm : L.length ≤ 1000000) (a : Nat) (ha : a ≤ L.length) (w : World) :
    Calls Tryd.prog 42 #[.string (strN L), .int .i64 (a : Int)] w fun e w' => e = .returned (.tuple #[.int .i64 ((sizeL (L.drop a)).1 : Int), .bool (sizeL (L.drop a)).2.1, .int .i64 ((a + (sizeL (L.drop a)).2.2 : Nat) : Int)]) ∧ w' = w := by
  have hsz := strN_size L
  have hget := fun i h h' => get_at hL i h h'
  generalize strN L = S at hsz hget ⊢
  have HG := Lib.hid hget
  clear hget
  by_cases hst : (L.drop a).head? = some 42
  · obtain ⟨r, hr⟩ : ∃ r, L.drop a = 42 :: r := by
      cases hd : L.drop a with
      | nil => rw [hd] at hst; cases hst
      | cons x r => rw [hd] at hst; simp at hst; exact ⟨r, by rw [hst]⟩
    have hal : a < L.length := by
      rcases Nat.lt_or_ge a L.length with h | h
      · exact h
      · rw [List.drop_eq_nil_of_le h] at hr; cases hr
    have hSa : a < S.size := by omega
    have g := HG.out a hal hSa
    have h42 : L[a] = 42 := by
      have := List.drop_eq_getElem_cons hal
      rw [this] at hr
      injection hr
    rw [h42] at g
    rw [hr, sizeL_star]
    clear hr h42 hst
    go_enter Tryd.func42, Tryd.ntmps42
    go_wp2
    (try simp only [Exit.inBlock, Exit.then]); refine bodyPost_ret (by simp [results, Tryd.results42, go_sem, *]; try rfl) rfl ?_
    exact ⟨by simp, rfl⟩
  · rw [sizeL_no _ hst]
    have hno : ∀ (h : a < L.length), (((L[a] : Nat) : Int) == 42) = false := fun h => by
      have h2 : L[a] ≠ 42 := fun e => hst (by rw [List.head?_drop, List.getElem?_eq_getElem h, e])
      exact beq_false_of_ne (by omega)
    obtain ⟨R, hR⟩ : ∃ R, szD 3 (L.drop a) 0 = R := ⟨_, rfl⟩
    rw [hR]
    have HR := Lib.hid hR
    clear hR hst
    have H0 : (a < S.size ∧ ∃ c : Nat, (∀ h : a < S.size, ((S[a]'h).toNat : Int) = (c : Int)) ∧ ((c : Int) == 42) = false) ∨ a = S.size := by
      rcases Nat.lt_or_ge a L.length with h | h
      · exact .inl ⟨by omega, L[a], fun h' => HG.out a h h', hno h⟩
      · exact .inr (by omega)
    clear hno
    rcases H0 with ⟨h1, c, h2, h3⟩ | h1
    case' inl => have g := h2 h1
    case' inr => skip
    all_goals
      go_enter Tryd.func42, Tryd.ntmps42
      go_wp2
      go_loopw [4, 6] (fun n x wr => ∃ q m : Nat, n = .int .i64 (m : Int) ∧ x = .int .i64 (q : Int) ∧ a ≤ q ∧ q ≤ a + 3 ∧ q ≤ L.length ∧ m < 10 ^ (q - a) ∧ Hid (R = ((szD (a + 3 - q) (L.drop q) m).1, (q - a) + (szD (a + 3 - q) (L.drop q) m).2)) ∧ wr = w) (fun _ x _ => a + 3 - (intOf x).toNat)
      case atStart => exact ⟨a, 0, rfl, rfl, by omega, by omega, ha, by simp, Lib.hid (by rw [← HR.out, show a + 3 - a = 3 by omega, Nat.sub_self]; simp), rfl⟩
      case round =>
        obtain ⟨q, m, rfl, rfl, hq1, hq2, hq3, hmq, HRq, rfl⟩ := hrel
        have hm3 : m < 1000 := Nat.lt_of_lt_of_le hmq (Nat.pow_le_pow_right (by omega) (by omega) : 10 ^ (q - a) ≤ 10 ^ 3)
        by_cases hc : q < L.length ∧ q < a + 3
        · obtain ⟨hc1, hc2⟩ := hc
          have hSq : q < S.size := by omega
          have gq := HG.out q hc1 hSq
          have hdr : L.drop q = L[q] :: L.drop (q + 1) := List.drop_eq_getElem_cons hc1
          have h256 := hL _ (List.getElem_mem hc1)
          have hk : a + 3 - q = (a + 3 - (q + 1)) + 1 := by omega
          have hRq := HRq.out
          rw [hdr, hk] at hRq
          generalize L[q] = d at gq hRq h256
          by_cases hd : 48 ≤ d ∧ d ≤ 57
          · rw [szD_step _ _ _ _ hd] at hRq
            have HRn := Lib.hid hRq
            have hpw : 10 ^ (q + 1 - a) = 10 ^ (q - a) * 10 := by rw [← Nat.pow_succ]; congr 1; omega
            have hmn : m * 10 + (d - 48) < 10 ^ (q + 1 - a) := by rw [hpw]; omega
            obtain ⟨hd1, hd2⟩ := hd
            have HMN := Lib.hid hmn
            clear hRq hpw hmn hdr hk hmq
            go_wp2
            all_goals
              go_roundw
              case rel => exact ⟨q + 1, m * 10 + (d - 48), by go_num, by go_num, by omega, by omega, by omega, HMN.out, Lib.hid (by rw [HRn.out]; congr 1; omega), trivial⟩
              case measure => simp [intOf]; omega
          · rw [szD_stop _ _ _ _ hd] at hRq
            have HRn := Lib.hid hRq
            rcases (by omega : d < 48 ∨ 57 < d) with hd1 | hd1
            case' inl => have dd : decide ((d : Int) < 48) = true := decide_eq_true (by omega)
            case' inr => (have dd : decide ((d : Int) < 48) = false := decide_eq_false (by omega)); have de : decide (57 < (d : Int)) = true := decide_eq_true (by omega)
            all_goals
              clear hRq hdr hk hmq hd hd1
              go_wp2
              all_goals
                (try simp only [Exit.inBlock, Exit.then]); refine bodyPost_ret (by simp [results, Tryd.results42, go_sem, *]; try rfl) rfl ?_
                exact ⟨by rw [HRn.out]; (try simp); (try omega), rfl⟩
        · have hRq := HRq.out
          have hz : szD (a + 3 - q) (L.drop q) m = (m, 0) := by
            rcases Nat.lt_or_ge q L.length with h | h
            · rw [show a + 3 - q = 0 by omega]; exact szD_zero _ _
            · rw [List.drop_eq_nil_of_le h]; exact szD_nil _ _
          rw [hz] at hRq
          have HRn := Lib.hid hRq
          rcases Nat.lt_or_ge q L.length with h | h
          case' inl => obtain rfl : q = a + 3 := by omega
          case' inr => obtain rfl : q = L.length := by omega
          all_goals
            clear hRq hz hc hmq h
            go_wp2
            all_goals
              (try simp only [Exit.inBlock, Exit.then]); refine bodyPost_ret (by simp [results, Tryd.results42, go_sem, *]; try rfl) rfl ?_
              exact ⟨by rw [HRn.out]; (try simp); (try omega), rfl⟩
end Go.Proofs.YtpkooogfefkcdaaDoor

/- Slices as lists of cells; blocks known whole; appending to rows that a call owns. -/
namespace Go.Proofs.YtpkooogfefkcdaaDoor
open Go.RowKit
def Reads (w : World) (B size : Nat) (A : Option Addr) (n : Nat) (xs : List Value) : Prop :=
  xs.length = n * size ∧ (0 < n → ∃ ad, A = some ad ∧ ad.block < B ∧ ∀ j u, xs[j]? = some u → w.cell? (ad.add j) = some u)

section
variable {w w' : World} {B B' size n : Nat} {A : Option Addr} {xs : List Value}
theorem Reads.none_ : Reads w B size A 0 [] := ⟨by simp, fun h => absurd h (by omega)⟩
theorem Reads.at_ {k : Nat} (h : Reads w B 1 A n xs) (hk : k < n) : ∃ ad u, A = some ad ∧ ad.block < B ∧ xs[k]? = some u ∧ w.cell? (ad.add k) = some u := by
  obtain ⟨ad, e, hb, hc⟩ := h.2 (by omega)
  have hl : k < xs.length := by have := h.1; omega
  exact ⟨ad, xs[k], e, hb, List.getElem?_eq_getElem hl, hc k _ (List.getElem?_eq_getElem hl)⟩
theorem Reads.keep (h : Reads w B size A n xs) (hk : ∀ p : Addr, p.block < B → w'.cell? p = w.cell? p) : Reads w' B size A n xs :=
  ⟨h.1, fun hn => by
    obtain ⟨ad, e, hb, hc⟩ := h.2 hn
    exact ⟨ad, e, hb, fun j u hu => (hk _ (by rw [block_of_add]; exact hb)).trans (hc j u hu)⟩⟩
theorem Reads.more (h : Reads w B size A n xs) (hB : B ≤ B') : Reads w B' size A n xs :=
  ⟨h.1, fun hn => by
    obtain ⟨ad, e, hb, hc⟩ := h.2 hn
    exact ⟨ad, e, by omega, hc⟩⟩
theorem Reads.below (h : Reads w B size A n xs) (hb : Below B w w') : Reads w' B size A n xs := h.keep fun _ hp => hb.cell hp
theorem Reads.drew (h : Reads w B size A n xs) : Reads w.drew B size A n xs := h
theorem Reads.drewN (h : Reads w B size A n xs) (k : Nat) : Reads (w.drewN k) B size A n xs := h
theorem Reads.alloc (h : Reads w B size A n xs) (hB : B ≤ w.heap.size) (o : Obj) : Reads (w.alloc o) B size A n xs := h.keep fun p hp => World.cell?_alloc_lt w o p (by omega)
theorem Reads.setCell (h : Reads w B size A n xs) {p : Addr} (hB : B ≤ p.block) (u : Value) : Reads (w.setCell p u) B size A n xs :=
  h.keep fun q hq => World.cell?_setCell_other w p q u (fun e => by subst e; omega)
theorem Reads.grown (h : Reads w B size A n xs) {row : Option Nat} (hg : w.grownBy w' row) (hB : B ≤ w.heap.size) (hr : ∀ g, row = some g → B ≤ g) : Reads w' B size A n xs :=
  h.keep fun p hp => World.cell?_of_block (hg.block p.block (by omega) (fun e => by have := hr _ e.symm; omega))
theorem Reads.cut (h : Reads w B size A n xs) {k cap : Nat} (hk : k ≤ n) (hc : n ≤ cap) :
    Reads w B size (if cap = k then A else A.map (·.add (k * size))) (n - k) (xs.drop (k * size)) := by
  refine ⟨by rw [List.length_drop, h.1, Nat.sub_mul], fun hn => ?_⟩
  obtain ⟨ad, rfl, hb, hcell⟩ := h.2 (by omega)
  rw [if_neg (by omega)]
  refine ⟨ad.add (k * size), rfl, by rw [block_of_add]; exact hb, fun j u hu => ?_⟩
  rw [add_of_add]
  exact hcell _ u (by rw [← hu, List.getElem?_drop])
theorem Reads.of_own {base : Nat} {e : TypeId} {c : Nat} (h : w.ownsRow base e size (.slice A n c) n xs) : Reads w w.heap.size size A n xs := by
  refine ⟨h.1, fun hn => ?_⟩
  obtain ⟨g, cap, hv, _, hlt⟩ := h.form hn
  have hA : A = some ⟨g, 0, none⟩ := by injection hv
  subst hA
  exact ⟨_, rfl, hlt, h.cells (g := g) rfl⟩
end
def Blk (w : World) (g : Nat) (t : TypeId) (cs : Array Value) : Prop := w.heap[g]? = some (.cells cs t (0, 0))

section
variable {w w' : World} {g : Nat} {t : TypeId} {cs : Array Value}
theorem Blk.lt (h : Blk w g t cs) : g < w.heap.size := by
  rcases Nat.lt_or_ge g w.heap.size with hlt | hge
  · exact hlt
  · unfold Blk at h; rw [Array.getElem?_eq_none hge] at h; cases h
theorem Blk.cell (h : Blk w g t cs) (i : Nat) : w.cell? ⟨g, i, none⟩ = cs[i]? := cell_of_row w g i cs t (0, 0) h
theorem Blk.frozen (h : Blk w g t cs) (i : Nat) : w.frozen? ⟨g, i, none⟩ = false := by
  unfold Blk at h
  simp [World.frozen?, h]
theorem Blk.new (w : World) (t : TypeId) (cs : Array Value) : Blk (w.alloc (.cells cs t)) w.heap.size t cs := heap_alloc_new w _
theorem Blk.drew (h : Blk w g t cs) : Blk w.drew g t cs := h
theorem Blk.drewN (h : Blk w g t cs) (n : Nat) : Blk (w.drewN n) g t cs := h
theorem Blk.alloc (h : Blk w g t cs) (o : Obj) : Blk (w.alloc o) g t cs := (Below.heap_alloc w o g h.lt).trans h
theorem Blk.set_ (h : Blk w g t cs) (i : Nat) (u : Value) : Blk (w.setCell ⟨g, i, none⟩ u) g t (cs.setIfInBounds i u) := by
  unfold Blk at h ⊢
  simp [World.setCell, Array.getElem?_modify, h]
theorem Blk.far (h : Blk w g t cs) {p : Addr} (hp : g ≠ p.block) (u : Value) : Blk (w.setCell p u) g t cs := (Below.heap_setCell w p u g hp).trans h
theorem Blk.below {B : Nat} (h : Blk w g t cs) (hb : Below B w w') (hg : g < B) : Blk w' g t cs := (hb.block g hg).trans h
theorem Blk.grown {row : Option Nat} (h : Blk w g t cs) (hb : w.grownBy w' row) (hg : some g ≠ row) : Blk w' g t cs := (hb.block g h.lt hg).trans h
theorem Blk.ne_ {g' : Nat} {t' : TypeId} {cs' : Array Value} (h : Blk w g t cs) (h' : Blk w g' t' cs') (hne : t ≠ t') : g ≠ g' := by
  rintro rfl
  unfold Blk at h h'
  rw [h] at h'
  injection h' with h'
  injection h' with _ ht
  exact hne ht
theorem own_blk_ne {base : Nat} {e : TypeId} {size n : Nat} {v : Value} {xs : List Value} (h : w.ownsRow base e size v n xs) (hg : Blk w g t cs) (hne : e ≠ t) : v.ownBlock ≠ some g := by
  rcases h.2 with ⟨rfl, _⟩ | ⟨g', cap, cur, rfl, _, hh, _⟩
  · simp [Value.ownBlock]
  · intro he
    have : g' = g := by simpa [Value.ownBlock] using he
    subst this
    exact Blk.ne_ (t := e) hh hg hne rfl
end
section
variable {P : Program} (w : World)

theorem run_append_of_nil (base : Nat) (t ty e : TypeId) (i : TypeInfo) (size : Nat) (ht : P.underlying t = some (.slice e)) (hi : P.info? e = some i)
    (v : Value) (n : Nat) (xs : List Value) (hown : w.ownsRow base e size v n xs) (c : Nat) : (Builtin.append_ #[t, t] ty #[v, .slice none 0 c]).run P w = .ok v w := by
  rcases hown.2 with ⟨rfl, rfl⟩ | ⟨g, cap, cur, rfl, _, _, hnc, _⟩
  · simp [Builtin.append_, run_underlying ht, sizeOf, typeInfo, hi, Builtin.lenOf, Builtin.firstCells]
  · simp [Builtin.append_, run_underlying ht, sizeOf, typeInfo, hi, Builtin.lenOf, Builtin.firstCells, hnc, storeCells]

theorem run_append_any (base : Nat) (t ty e : TypeId) (i : TypeInfo) (z : Value) (size bytes : Nat) (ht : P.underlying t = some (.slice e)) (hi : P.info? e = some i) (hz : i.zero = some z)
    (hsize : i.size = size) (hby : i.bytes = bytes) (hzs : z.cells.size = size) (hsz : 0 < size)
    (v : Value) (n : Nat) (xs : List Value) (hown : w.ownsRow base e size v n xs)
    (B : Nat) (A : Option Addr) (m c : Nat) (news : List Value) (hr : Reads w B size A m news) (h1 : ∀ u ∈ news, u.oneCell' = true)
    (h63 : n + m ≤ maxLen) (hbytes : (n + m) * bytes ≤ 140737488355328) (hbase : base ≤ w.heap.size) :
    ∃ v' w', (Builtin.append_ #[t, t] ty #[v, .slice A m c]).run P w = .ok v' w' ∧ w'.ownsRow base e size v' (n + m) (xs ++ news) ∧ w.grownBy w' v.ownBlock ∧
      (v'.ownBlock = v.ownBlock ∨ v'.ownBlock = some w.heap.size) := by
  rcases A with _ | ad
  · have hm : m = 0 := by
      rcases Nat.eq_zero_or_pos m with h0 | h0
      · exact h0
      · obtain ⟨ad, h, _⟩ := hr.2 h0
        cases h
    subst hm
    have hn : news = [] := List.eq_nil_of_length_eq_zero (by simpa using hr.1)
    subst hn
    exact ⟨v, w, run_append_of_nil w base t ty e i size ht hi v n xs hown c, by simpa using hown, World.grownBy.refl w _, .inl rfl⟩
  · have hcells : ∀ j u, news[j]? = some u → w.cell? (ad.add j) = some u := by
      intro j u hu
      rcases Nat.eq_zero_or_pos m with h0 | h0
      · subst h0
        have hn : news = [] := List.eq_nil_of_length_eq_zero (by simpa using hr.1)
        subst hn
        simp at hu
      · obtain ⟨ad', h, _, hc⟩ := hr.2 h0
        injection h with h
        subst h
        exact hc j u hu
    obtain ⟨v', w', hrun, h2, h3, _, h5⟩ := run_append_own_at (P := P) w base t ty e i z size bytes ht hi hz hsize hby hzs hsz v n xs hown ad m c news hr.1 hcells h1 h63 hbytes hbase
    exact ⟨v', w', hrun, h2, h3, h5⟩

theorem wp_append_any {o : Oper} {a : Act} {K : Act → World → Prop} {Q : Exit → Act → World → Prop} (s x : Operand) (t : TypeId)
    (ho : o.op = .call { callee := .builtin .append, args := #[s, x], argTypes := #[t, t] })
    (base : Nat) (e : TypeId) (i : TypeInfo) (z : Value) (size bytes : Nat) (ht : P.underlying t = some (.slice e)) (hi : P.info? e = some i) (hz : i.zero = some z)
    (hsize : i.size = size) (hby : i.bytes = bytes) (hzs : z.cells.size = size) (hsz : 0 < size)
    (v : Value) (n : Nat) (xs : List Value) (hs : a.eval s = v) (hown : w.ownsRow base e size v n xs)
    (B : Nat) (A : Option Addr) (m c : Nat) (news : List Value) (hx : a.eval x = .slice A m c) (hr : Reads w B size A m news) (h1 : ∀ u ∈ news, u.oneCell' = true)
    (h63 : n + m ≤ maxLen) (hbytes : (n + m) * bytes ≤ 140737488355328) (hbase : base ≤ w.heap.size)
    (h : ∀ v' w', w'.ownsRow base e size v' (n + m) (xs ++ news) → w.grownBy w' v.ownBlock → (v'.ownBlock = v.ownBlock ∨ v'.ownBlock = some w.heap.size) → K (a.put o.dst v') w') : o.wp P a w K Q := by
  obtain ⟨v', w', hrun, h2, h3, h4⟩ := run_append_any (P := P) w base t o.type e i z size bytes ht hi hz hsize hby hzs hsz v n xs hown B A m c news hr h1 h63 hbytes hbase
  unfold Oper.wp execOp
  simp only [ho, resolve, invoke, builtin, Sem.run_bind, Sem.run_pure, Result.andThen_ok, List.map_toArray, List.map_cons, List.map_nil, hs, hx, hrun]
  exact h v' w' h2 h3 h4

theorem wpList_append_any {ops : Array Oper} {rest : List Oper} {o : Oper} {a : Act} {Q : Exit → Act → World → Prop} (hgd : o.guard = none) (s x : Operand) (t : TypeId)
    (ho : o.op = .call { callee := .builtin .append, args := #[s, x], argTypes := #[t, t] })
    (base : Nat) (e : TypeId) (i : TypeInfo) (z : Value) (size bytes : Nat) (ht : P.underlying t = some (.slice e)) (hi : P.info? e = some i) (hz : i.zero = some z)
    (hsize : i.size = size) (hby : i.bytes = bytes) (hzs : z.cells.size = size) (hsz : 0 < size)
    (v : Value) (n : Nat) (xs : List Value) (hs : a.eval s = v) (hown : w.ownsRow base e size v n xs)
    (B : Nat) (A : Option Addr) (m c : Nat) (news : List Value) (hx : a.eval x = .slice A m c) (hr : Reads w B size A m news) (h1 : ∀ u ∈ news, u.oneCell' = true)
    (h63 : n + m ≤ maxLen) (hbytes : (n + m) * bytes ≤ 140737488355328) (hbase : base ≤ w.heap.size)
    (h : ∀ v' w', w'.ownsRow base e size v' (n + m) (xs ++ news) → w.grownBy w' v.ownBlock → (v'.ownBlock = v.ownBlock ∨ v'.ownBlock = some w.heap.size) → wpList P ops Q rest (a.put o.dst v') w') : wpList P ops Q (o :: rest) a w :=
  wpList_plain hgd fun _ hK => wp_append_any w s x t ho base e i z size bytes ht hi hz hsize hby hzs hsz v n xs hs hown B A m c news hx hr h1 h63 hbytes hbase fun v' w' h2 h3 h4 => hK _ _ (h v' w' h2 h3 h4)

theorem step_append_any {ops : Array Oper} {o : Oper} {a : Act} {K : Act → World → Prop} {Q : Exit → Act → World → Prop} {E : Prop} (hgd : o.guard = none) (s x : Operand) (t : TypeId)
    (ho : o.op = .call { callee := .builtin .append, args := #[s, x], argTypes := #[t, t] })
    (base : Nat) (e : TypeId) (i : TypeInfo) (z : Value) (size bytes : Nat) (ht : P.underlying t = some (.slice e)) (hi : P.info? e = some i) (hz : i.zero = some z)
    (hsize : i.size = size) (hby : i.bytes = bytes) (hzs : z.cells.size = size) (hsz : 0 < size)
    (v : Value) (n : Nat) (xs : List Value) (hs : a.eval s = v) (hown : w.ownsRow base e size v n xs)
    (B : Nat) (A : Option Addr) (m c : Nat) (news : List Value) (hx : a.eval x = .slice A m c) (hr : Reads w B size A m news) (h1 : ∀ u ∈ news, u.oneCell' = true)
    (h63 : n + m ≤ maxLen) (hbytes : (n + m) * bytes ≤ 140737488355328) (hbase : base ≤ w.heap.size)
    (h : ∀ v' w', w'.ownsRow base e size v' (n + m) (xs ++ news) → w.grownBy w' v.ownBlock → (v'.ownBlock = v.ownBlock ∨ v'.ownBlock = some w.heap.size) → K (a.put o.dst v') w') :
    if Region.wanted o (yielded ops a.tmps) = true then Oper.wp P o a w K Q else E := by
  have hw : Region.wanted o (yielded ops a.tmps) = true := by simp [Region.wanted, hgd]
  rw [if_pos hw]
  exact wp_append_any w s x t ho base e i z size bytes ht hi hz hsize hby hzs hsz v n xs hs hown B A m c news hx hr h1 h63 hbytes hbase h
end
end Go.Proofs.YtpkooogfefkcdaaDoor
