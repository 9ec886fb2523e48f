/- Several texts put together: ScrC, ScrD, Frame, FrameG, RngA, ScrE. -/
import Derived.Test.YtanbplnagcmlcaaDoorBu2
import Derived.Lib.LaidTab
import Derived.Lib.AppendIntMem
import Derived.Test.YtanbplnagcmlcaaDoorRows
import Derived.Test.YtanbplnagcmlcaaDoorBu1
import Derived.ProofKit
import Derived.OpenShut
import Derived.ShutString
import Derived.ChangeOld
import Derived.Lib.SmallJoins
import Derived.LaidLaws
import Derived.Lib.LaidIn
import Derived.Stop.Joined
import Derived.Clock
import Derived.RangeFuncNested
import Derived.RangeFuncBound
import Derived.RangeFuncCalls
import Derived.RangeFuncLeaves
import Derived.Shelf.Abstract
import Derived.OwnWalkIn
import Derived.TacticsInMore
import Derived.LoopNIn
import Derived.LoopIn
/- Layer 24: texts of lines, plain; slices of strings; cutting. -/
namespace Go.Proofs.YtanbplnagcmlcaaDoor
open Go.RowKit
theorem strN_data (l : List Nat) : (strN l).data.toList = l.map UInt8.ofNat := by simp [strN]
theorem strN_extract (L : List Nat) (i j : Nat) : (strN L).extract i j = strN ((L.take j).drop i) := by
  have : ((strN L).extract i j).data = (strN ((L.take j).drop i)).data := by
    rw [ByteArray.data_extract]
    simp only [strN, List.extract_toArray, List.extract_eq_take_drop, List.map_drop, List.map_take]
    rw [List.take_drop]
    by_cases h : i ≤ j
    · rw [show i + (j - i) = j by omega]
    · rw [List.drop_of_length_le (by simp; omega), List.drop_of_length_le (by simp; omega)]
  cases h1 : (strN L).extract i j; cases h2 : strN ((L.take j).drop i); rw [h1, h2] at this; simpa using this
theorem ofNat_inj {a b : Nat} (ha : a < 256) (hb : b < 256) (h : UInt8.ofNat a = UInt8.ofNat b) : a = b := by
  have := congrArg UInt8.toNat h
  simpa [UInt8.toNat_ofNat', Nat.mod_eq_of_lt ha, Nat.mod_eq_of_lt hb] using this
theorem strN_inj {a b : List Nat} (ha : ∀ x ∈ a, x < 256) (hb : ∀ x ∈ b, x < 256) (h : strN a = strN b) : a = b := by
  have h2 : a.map UInt8.ofNat = b.map UInt8.ofNat := by rw [← strN_data, ← strN_data, h]
  induction a generalizing b with
  | nil => cases b with
    | nil => rfl
    | cons y b => simp at h2
  | cons x a ih => cases b with
    | nil => simp at h2
    | cons y b =>
      simp only [List.map_cons, List.cons.injEq] at h2
      have e := ofNat_inj (ha x (List.mem_cons_self ..)) (hb y (List.mem_cons_self ..)) h2.1
      subst e
      have := ih (fun z hz => ha z (List.mem_cons_of_mem _ hz)) (b := b) (fun z hz => hb z (List.mem_cons_of_mem _ hz)) (by unfold strN; rw [h2.2]) h2.2
      rw [this]
/-- Where a byte first stands. -/
def idxL (c : Nat) : List Nat → Option Nat
  | [] => none
  | x :: l => if x = c then some 0 else (idxL c l).map (· + 1)
theorem idx_lib (c : Nat) (hc : c < 256) : ∀ (l : List Nat), (∀ x ∈ l, x < 256) → Lib.indexByte (l.map UInt8.ofNat) (UInt8.ofNat c) = match idxL c l with | some i => (i : Int) | none => -1
  | [], _ => rfl
  | x :: l, h => by
    have ih := idx_lib c hc l (fun z hz => h z (List.mem_cons_of_mem _ hz))
    rw [List.map_cons, Lib.indexByte, idxL]
    by_cases e : x = c
    · subst e; simp
    · have e2 : (UInt8.ofNat x == UInt8.ofNat c) = false := by
        rw [beq_eq_false_iff_ne]; intro h2; exact e (ofNat_inj (h x (List.mem_cons_self ..)) hc h2)
      rw [e2, if_neg e, ih]
      cases h3 : idxL c l with
      | none => simp
      | some i =>
        simp
        try omega
theorem idx_lt (c : Nat) : ∀ (l : List Nat) (i : Nat), idxL c l = some i → i < l.length
  | [], i, h => by cases h
  | x :: l, i, h => by
    rw [idxL] at h
    split at h
    · injection h with h; subst h; simp
    · rw [Option.map_eq_some_iff] at h
      obtain ⟨j, hj, rfl⟩ := h
      have := idx_lt c l j hj
      simp; omega
/-- strings.Cut at one byte. -/
def cutL (c : Nat) (l : List Nat) : List Nat × List Nat × Bool :=
  match idxL c l with
  | some i => (l.take i, l.drop (i + 1), true)
  | none => (l, [], false)
theorem idx_app (c : Nat) : ∀ (a b : List Nat), c ∉ a → idxL c (a ++ c :: b) = some a.length
  | [], b, _ => by simp [idxL]
  | x :: a, b, h => by
    rw [List.cons_append, idxL, if_neg (fun e => h (by simp [e])), idx_app c a b (fun e => h (List.mem_cons_of_mem _ e))]
    simp
theorem idx_none (c : Nat) : ∀ (a : List Nat), c ∉ a → idxL c a = none
  | [], _ => rfl
  | x :: a, h => by
    rw [idxL, if_neg (fun e => h (by simp [e])), idx_none c a (fun e => h (List.mem_cons_of_mem _ e))]
    rfl
theorem cut_app (c : Nat) (a b : List Nat) (h : c ∉ a) : cutL c (a ++ c :: b) = (a, b, true) := by
  unfold cutL; rw [idx_app c a b h]; simp
theorem cut_none (c : Nat) (a : List Nat) (h : c ∉ a) : cutL c a = (a, [], false) := by
  unfold cutL; rw [idx_none c a h]
theorem sslice_run (L : List Nat) (i j : Nat) (hi : i ≤ j) (hj : j ≤ L.length) (W : World) : (Instr.slice 9 (.string (strN L)) (some (.int .i64 (i : Int))) (some (.int .i64 (j : Int))) none).run Tryd.prog W = .ok (.string (strN ((L.take j).drop i))) W := by
  rw [run_slice_string_if W 9 (strN L) .i64 .i64 i j Tryd.underlying9, if_pos (by rw [strN_size]; omega), if_pos (by omega), Int.toNat_natCast, Int.toNat_natCast, strN_extract]
theorem sslice_h (L : List Nat) (j : Nat) (hj : j ≤ L.length) (W : World) : (Instr.slice 9 (.string (strN L)) none (some (.int .i64 (j : Int))) none).run Tryd.prog W = .ok (.string (strN (L.take j))) W := by
  rw [run_slice_string_h W 9 (strN L) Tryd.underlying9 .i64 j (by omega) (by rw [strN_size]; omega), Int.toNat_natCast, strN_extract, List.drop_zero]
theorem sslice_l (L : List Nat) (i : Nat) (hi : i ≤ L.length) (W : World) : (Instr.slice 9 (.string (strN L)) (some (.int .i64 (i : Int))) none none).run Tryd.prog W = .ok (.string (strN (L.drop i))) W := by
  rw [run_slice_string_l W 9 (strN L) Tryd.underlying9 .i64 i (by omega) (by rw [strN_size]; omega), Int.toNat_natCast, strN_size, strN_extract, List.take_length]
set_option maxRecDepth 100000 in
set_option maxHeartbeats 1600000 in
theorem lcut_any (L : List Nat) (hL : ∀ x ∈ L, x < 256) (hm : L.length ≤ 140737488351232) (c : Nat) (hc : c < 256) (w : World) :
    Calls Tryd.prog 30 #[.string (strN L), .string (strN [c])] w fun e w' => e = .returned (.tuple #[.string (strN (cutL c L).1), .string (strN (cutL c L).2.1), .bool (cutL c L).2.2]) ∧ Below w.heap.size w w' := by
  have hix : ∀ W, Calls Tryd.prog 39 #[.string (strN L), .string (strN [c])] W fun e w' => e = .returned (.int .i64 (match idxL c L with | some i => (i : Int) | none => -1)) ∧ w' = W := fun W => by
    have := Tryd.stringslite_Index_one (strN L) (UInt8.ofNat c) W
    rw [strN_data, idx_lib c hc L hL] at this
    exact this
  have hs1 : (strN [c]).size = 1 := strN_size _
  have hsz := strN_size L
  cases h : idxL c L with
  | some i =>
    rw [h] at hix
    dsimp only at hix
    have hi := idx_lt c L i h
    have r1 := fun W => sslice_h L i (by omega) W
    have r2 := fun W => sslice_l L (i + 1) (by omega) W
    simp only [Int.natCast_add, Int.cast_ofNat_Int] at r2
    rw [show cutL c L = (L.take i, L.drop (i + 1), true) by unfold cutL; rw [h]]
    have HX := Lib.hid hix
    generalize strN (L.take i) = s1 at r1 ⊢
    generalize strN (L.drop (i + 1)) = s2 at r2 ⊢
    generalize strN L = S at r1 r2 HX hsz ⊢
    generalize strN [c] = S1 at HX hs1 ⊢
    clear hix h
    go_enter Tryd.func30, Tryd.ntmps30
    go_wp2_with (go_at_call 39; (with_reducible refine (HX.out _).mono ?_); rintro e w1 ⟨rfl, rfl⟩)
    go_region
    go_wp2
    (try simp only [Exit.inBlock, Exit.then]); refine bodyPost_ret (by simp [results, Tryd.results30, go_sem, *]; try rfl) rfl ?_
    exact ⟨rfl, by (repeat' (first | (with_reducible exact Below.refl _ _) | (refine Below.trans ?_ (Below.mono (by with_reducible assumption) ?_)) | (with_reducible exact Below.refl _ _) | (with_reducible refine below_drewN ?_ _) | (with_reducible refine Below.drew ?_) | (with_reducible refine Below.setCell ?_ ?_ _) | (with_reducible refine Below.alloc ?_ ?_ _) | (with_reducible assumption) | (simp; done) | (simp; omega) | omega))⟩
  | none =>
    rw [h] at hix
    dsimp only at hix
    rw [show cutL c L = (L, [], false) by unfold cutL; rw [h]]
    have HX := Lib.hid hix
    generalize strN L = S at HX ⊢
    generalize strN [c] = S1 at HX ⊢
    clear hix h hsz hs1
    go_enter Tryd.func30, Tryd.ntmps30
    go_wp2_with (go_at_call 39; (with_reducible refine (HX.out _).mono ?_); rintro e w1 ⟨rfl, rfl⟩)
    (try simp only [Exit.inBlock, Exit.then]); refine bodyPost_ret (by simp [results, Tryd.results30, go_sem, *]; try rfl) rfl ?_
    exact ⟨rfl, by (repeat' (first | (with_reducible exact Below.refl _ _) | (refine Below.trans ?_ (Below.mono (by with_reducible assumption) ?_)) | (with_reducible exact Below.refl _ _) | (with_reducible refine below_drewN ?_ _) | (with_reducible refine Below.drew ?_) | (with_reducible refine Below.setCell ?_ ?_ _) | (with_reducible refine Below.alloc ?_ ?_ _) | (with_reducible assumption) | (simp; done) | (simp; omega) | omega))⟩
set_option maxHeartbeats 400000 in
theorem cut_any (L : List Nat) (hL : ∀ x ∈ L, x < 256) (hm : L.length ≤ 140737488351232) (c : Nat) (hc : c < 256) (w : World) :
    Calls Tryd.prog 20 #[.string (strN L), .string (strN [c])] w fun e w' => e = .returned (.tuple #[.string (strN (cutL c L).1), .string (strN (cutL c L).2.1), .bool (cutL c L).2.2]) ∧ Below w.heap.size w w' := by
  have HX := Lib.hid (fun W => lcut_any L hL hm c hc W)
  generalize strN L = S at HX ⊢
  generalize strN [c] = S1 at HX ⊢
  generalize strN (cutL c L).1 = s1 at HX ⊢
  generalize strN (cutL c L).2.1 = s2 at HX ⊢
  generalize (cutL c L).2.2 = b at HX ⊢
  go_enter Tryd.func20, Tryd.ntmps20
  go_wp2_with (go_at_call 30; (with_reducible refine (HX.out _).mono ?_); rintro e w1 ⟨rfl, b1⟩)
  (try simp only [Exit.inBlock, Exit.then]); refine bodyPost_ret (by simp [results, Tryd.results20, go_sem, *]; try rfl) rfl ?_
  exact ⟨rfl, by (repeat' (first | (with_reducible exact Below.refl _ _) | (refine Below.trans ?_ (Below.mono (by with_reducible assumption) ?_)) | (with_reducible exact Below.refl _ _) | (with_reducible refine below_drewN ?_ _) | (with_reducible refine Below.drew ?_) | (with_reducible refine Below.setCell ?_ ?_ _) | (with_reducible refine Below.alloc ?_ ?_ _) | (with_reducible assumption) | (simp; done) | (simp; omega) | omega))⟩
end Go.Proofs.YtanbplnagcmlcaaDoor

/- Layer 24: digits, and what they tell; words with blanks between. -/
namespace Go.Proofs.YtanbplnagcmlcaaDoor
open Go.RowKit
/-- A number's digits. -/
def decN (n : Nat) : List Nat := if n < 10 then [48 + n] else decN (n / 10) ++ [48 + n % 10]
termination_by n
decreasing_by omega
theorem decN_small {n : Nat} (h : n < 10) : decN n = [48 + n] := by rw [decN, if_pos h]
theorem decN_step {n : Nat} (h : ¬ n < 10) : decN n = decN (n / 10) ++ [48 + n % 10] := by rw [decN, if_neg h]
theorem decN_lib (n : Nat) : Lib.decDigits n = (decN n).map UInt8.ofNat := by
  induction n using Nat.strongRecOn with
  | _ n ih =>
    rw [Lib.decDigits]
    by_cases h : n < 10
    · rw [dif_pos h, decN_small h]; rfl
    · rw [dif_neg h, decN_step h, ih (n / 10) (by omega), List.map_append]; rfl
theorem decN_dig (n : Nat) : ∀ d ∈ decN n, 48 ≤ d ∧ d ≤ 57 := by
  induction n using Nat.strongRecOn with
  | _ n ih =>
    by_cases h : n < 10
    · rw [decN_small h]; intro d hd; rw [List.mem_singleton] at hd; omega
    · rw [decN_step h]
      intro d hd
      rcases List.mem_append.1 hd with hd | hd
      · exact ih (n / 10) (by omega) d hd
      · rw [List.mem_singleton] at hd; omega
theorem decN_lt (n : Nat) : ∀ d ∈ decN n, d < 256 := fun d hd => by have := decN_dig n d hd; omega
theorem decN_pos (n : Nat) : 0 < (decN n).length := by
  rw [decN]; split <;> simp
def valD (l : List Nat) : Nat := l.foldl (fun a d => a * 10 + (d - 48)) 0
theorem valD_snoc (l : List Nat) (d : Nat) : valD (l ++ [d]) = valD l * 10 + (d - 48) := by unfold valD; rw [List.foldl_append]; rfl
theorem decN_val (n : Nat) : valD (decN n) = n := by
  induction n using Nat.strongRecOn with
  | _ n ih =>
    by_cases h : n < 10
    · rw [decN_small h]; unfold valD; simp
    · rw [decN_step h, valD_snoc, ih (n / 10) (by omega)]; omega
theorem decN_len (k : Nat) : ∀ (n : Nat), 1 ≤ k → n < 10 ^ k → (decN n).length ≤ k := by
  induction k with
  | zero => intro n h; omega
  | succ k ih =>
    intro n _ h
    by_cases h10 : n < 10
    · rw [decN_small h10]; simp
    · rw [decN_step h10, List.length_append, List.length_singleton]
      have hk : 1 ≤ k := by
        cases k with
        | zero => simp at h; omega
        | succ k => omega
      have := ih (n / 10) hk (by rw [Nat.pow_succ] at h; omega)
      omega
theorem decN_head (n : Nat) : ∀ d, (decN n)[0]? = some d → 1 < (decN n).length → d ≠ 48 := by
  induction n using Nat.strongRecOn with
  | _ n ih =>
    intro d hd hl
    by_cases h : n < 10
    · rw [decN_small h] at hl; simp at hl
    · rw [decN_step h, List.getElem?_append_left (decN_pos _)] at hd
      by_cases h2 : n / 10 < 10
      · rw [decN_small h2] at hd; simp at hd; omega
      · refine ih (n / 10) (by omega) d hd ?_
        rw [decN_step h2, List.length_append]
        have := decN_pos (n / 10 / 10)
        simp; omega
theorem foldD_lt : ∀ (l : List Nat) (a : Nat), (∀ d ∈ l, 48 ≤ d ∧ d ≤ 57) → l.foldl (fun a d => a * 10 + (d - 48)) a + 1 ≤ (a + 1) * 10 ^ l.length
  | [], a, _ => by simp
  | d :: l, a, h => by
    have h1 := foldD_lt l (a * 10 + (d - 48)) (fun z hz => h z (List.mem_cons_of_mem _ hz))
    have h2 := h d (List.mem_cons_self ..)
    rw [List.foldl_cons, List.length_cons, Nat.pow_succ]
    refine Nat.le_trans h1 ?_
    rw [Nat.mul_comm (10 ^ l.length) 10, ← Nat.mul_assoc]
    exact Nat.mul_le_mul_right _ (by omega)
theorem valD_lt (l : List Nat) (h : ∀ d ∈ l, 48 ≤ d ∧ d ≤ 57) : valD l < 10 ^ l.length := by
  have := foldD_lt l 0 h
  unfold valD; omega
/-- The table that strconv reads. -/
def TabOk (w : World) : Prop := Lib.TabIs Tryd.prog w "internal/strconv.uint64pow10" .u64 Lib.pow10Tab
theorem TabOk.below {w w' : World} (h : TabOk w) (q : Below w.heap.size w w') : TabOk w' := by
  unfold TabOk Lib.TabIs World.var? at h ⊢
  cases hg : Tryd.prog.globalNamed "internal/strconv.uint64pow10" with
  | none => rw [hg] at h; cases h
  | some g =>
    rw [hg] at h
    simp only [Option.bind_some] at h ⊢
    rcases Nat.lt_or_ge g w.heap.size with hlt | hge
    · rw [q.block g hlt]; exact h
    · rw [Array.getElem?_eq_none hge] at h; cases h
theorem itoa_any (n : Nat) (hn : n ≤ 1099511627776) (w : World) (h : TabOk w) :
    Calls Tryd.prog 17 #[.int .i64 (n : Int)] w fun e w' => e = .returned (.string (strN (decN n))) ∧ Below w.heap.size w w' := by
  refine (Tryd.strconv_Itoa (n : Int) (by omega) (by omega) w h).mono ?_
  rintro e w' ⟨rfl, k, os, rfl⟩
  refine ⟨?_, Lib.below_grow _ _ (Nat.le_refl _) _ _⟩
  unfold Lib.itoa
  rw [if_neg (by omega), Int.toNat_natCast, decN_lib]
  rfl
theorem join_two (a b : List UInt8) (sep : List UInt8) : Lib.join [a, b] sep = a ++ sep ++ b := by
  rw [Lib.join_cons]; simp [Lib.joinTail]
theorem row_any (a b : List Nat) (hl : a.length + b.length ≤ 1000000) (w : World) (g : Nat) (h0 : w.cell? ⟨g, 0, none⟩ = some (.string (strN a))) (h1 : w.cell? ⟨g, 1, none⟩ = some (.string (strN b))) (hg : g < w.heap.size) :
    Calls Tryd.prog 16 #[.slice (some ⟨g, 0, none⟩) 2 2] w fun e w' => e = .returned (.string (strN (a ++ 32 :: b))) ∧ Below w.heap.size w w' := by
  have hj := Tryd.strings_Join g 0 2 [strN a, strN b] ⟨#[32]⟩ w (by
    intro j x hx
    match j, hx with
    | 0, hx => simp at hx; subst hx; exact h0
    | 1, hx => simp at hx; subst hx; exact h1) hg (by simp) (by simp) (by
      simp only [List.map_cons, List.map_nil, strN_data, join_two, List.length_append, List.length_map]
      simp; omega)
  simp only [List.map_cons, List.map_nil, strN_data, join_two] at hj
  have hj : Calls Tryd.prog 25 #[.slice (some ⟨g, 0, none⟩) 2 2, .string { data := #[32] }] w fun e w' => e = .returned (.string ⟨(a.map UInt8.ofNat ++ [32] ++ b.map UInt8.ofNat).toArray⟩) ∧ Below w.heap.size w w' := hj
  have e : (⟨(a.map UInt8.ofNat ++ [32] ++ b.map UInt8.ofNat).toArray⟩ : ByteArray) = strN (a ++ 32 :: b) := by
    unfold strN; simp
  rw [e] at hj
  have HJ := Lib.hid hj
  clear hj e h0 h1
  go_enter Tryd.func16, Tryd.ntmps16
  go_wp2_with (go_at_call 25; (with_reducible refine HJ.out.mono ?_); rintro e w1 ⟨rfl, b1⟩)
  go_ret
  exact ⟨rfl, by (repeat' (first | (with_reducible exact Below.refl _ _) | (refine Below.trans ?_ (Below.mono (by with_reducible assumption) ?_)) | (with_reducible exact Below.refl _ _) | (with_reducible refine below_drewN ?_ _) | (with_reducible refine Below.drew ?_) | (with_reducible refine Below.setCell ?_ ?_ _) | (with_reducible refine Below.alloc ?_ ?_ _) | (with_reducible assumption) | (simp; done) | (simp; omega) | omega))⟩
end Go.Proofs.YtanbplnagcmlcaaDoor

/- How what came in as an argument is opened: numbers, bytes. -/
namespace Go.Proofs.YtanbplnagcmlcaaDoor
open Go.ChangeShapes Go.WideShapes Go.ChangeAt Go.RowKit Go.Joins
theorem wd_of {n : Int} (h : (Lit.int .u64 n).wf = true) : Wd n := by
  simp [Lit.wf, IntKind.min, IntKind.max, IntKind.signed, IntKind.bits] at h
  exact ⟨h.1, by omega⟩
theorem byte_range {n : Int} (h : (Lit.int .u8 n).wf = true) : 0 ≤ n ∧ n < 256 := by
  simp [Lit.wf, IntKind.min, IntKind.max, IntKind.signed, IntKind.bits] at h
  exact ⟨h.1, by omega⟩
theorem int64_range {n : Int} (h : (Lit.int .i64 n).wf = true) : -9223372036854775808 ≤ n ∧ n < 9223372036854775808 := by
  simp [Lit.wf, IntKind.min, IntKind.max, IntKind.signed, IntKind.bits] at h
  exact ⟨h.1, by omega⟩
set_option maxRecDepth 100000 in
theorem bytes_form {H : Type} {enc : TypeId × Value → H} {w : World} {base : Nat} {spare : Nat → Bool} {held : Bool} {r : Reach} {b0 : Nat} {v : Value} {d : DataW H} {p : List MemPlace}
    (hv : Value.okWide Tryd.prog w r b0 27 v) (h : DataW.Trod enc Tryd.prog w base spare held 27 v d p) :
    ∃ (A : Option Addr) (c : Nat) (bs : List Nat), v = .slice A bs.length c ∧ RB w w.heap.size A bs ∧ bs.length ≤ c ∧ (A = none → bs = [] ∧ c = 0) := by
  obtain ⟨a, len, cap, rfl⟩ := okWide_slice Tryd.underlying27 hv
  obtain ⟨fuel, hf⟩ := h
  rcases open_ints Tryd.underlying27 Tryd.underlying5 (by kernel_rfl) hf with ⟨hcs, _⟩ | ⟨x, l, c, zs, hcs, _, hl, hm, hz, _, hcell, hwz⟩
  · simp [Value.cells] at hcs
    obtain ⟨rfl, rfl, rfl⟩ := hcs
    exact ⟨none, 0, [], rfl, RB.nil, by simp, fun _ => ⟨rfl, rfl⟩⟩
  · simp [Value.cells] at hcs
    obtain ⟨rfl, rfl, rfl⟩ := hcs
    have hzl : len ≤ zs.length := by rw [hz]; split <;> omega
    have hb : ∀ n ∈ zs, 0 ≤ n ∧ n < 256 := fun n hn => byte_range (hwz n hn)
    have hlen : ((zs.take len).map Int.toNat).length = len := by rw [List.length_map, List.length_take]; omega
    refine ⟨some x, cap, (zs.take len).map Int.toNat, by rw [hlen], ⟨?_, ?_⟩, by rw [hlen]; exact hl, fun e => by cases e⟩
    · intro y hy
      obtain ⟨n, hn, rfl⟩ := List.mem_map.1 hy
      have := hb n (List.mem_of_mem_take hn)
      omega
    · intro h0
      rw [hlen] at h0
      refine ⟨x, rfl, ?_, ?_⟩
      · have := World.block_lt_of_cell? w (x.add 0) (hcell 0 (by omega))
        rw [block_of_add] at this; exact this
      · intro j hj
        rw [hlen] at hj
        rw [hcell j (by omega)]
        have hjz : j < zs.length := by omega
        have := hb zs[j] (List.getElem_mem hjz)
        rw [List.getElem_map, List.getElem_take, List.getD_eq_getElem?_getD, List.getElem?_eq_getElem hjz]
        simp only [Option.getD_some]
        rw [Int.toNat_of_nonneg this.1]
end Go.Proofs.YtanbplnagcmlcaaDoor

/- What the laws of layer 24 take of memory: the tables that the library's variables hold. -/
namespace Go.Proofs.YtanbplnagcmlcaaDoor
open Go.ChangeShapes Go.WideShapes Go.ChangeAt Go.RowKit
def laid3 : List (String × DataW Unit) := [("math/bits.deBruijn32tab", Rows.laid_math_bits_deBruijn32tab), ("math/bits.deBruijn64tab", Rows.laid_math_bits_deBruijn64tab), ("internal/strconv.uint64pow10", Rows.laid_internal_strconv_uint64pow10)]
def bruijn32 : List Int := [0, 1, 28, 2, 29, 14, 24, 3, 30, 22, 20, 15, 25, 17, 4, 8, 31, 27, 13, 23, 21, 19, 16, 7, 26, 12, 18, 6, 11, 5, 10, 9]
def bruijn64 : List Int := [0, 1, 56, 2, 57, 49, 28, 3, 61, 58, 42, 50, 38, 29, 17, 4, 62, 47, 59, 36, 45, 43, 51, 22, 53, 39, 33, 30, 24, 18, 12, 5, 63, 55, 48, 27, 60, 41, 37, 16, 46, 35, 44, 21, 52, 32, 23, 11, 54, 26, 40, 15, 34, 20, 31, 10, 25, 14, 19, 9, 13, 8, 7, 6]
theorem laid_tail {P : Program} {W : World} {x : String × DataW Unit} {rest : List (String × DataW Unit)} (h : laidMet P (x :: rest) W) : laidMet P rest W := by
  obtain ⟨ps, hv, hn, hb⟩ := h
  obtain ⟨g, t, cs, fuel, p, q, hg, ht, hvar, hd, hq, rfl⟩ := hv
  exact ⟨q, hq, (List.nodup_append.1 hn).2.1, fun b off hm => hb b off (List.mem_append_right _ hm)⟩
theorem tab_ok {W : World} (h : laidMet Tryd.prog laid3 W) : TabOk W := by
  have h3 : laidMet Tryd.prog [("internal/strconv.uint64pow10", Lib.tabData .u64 Lib.pow10Tab)] W := laid_tail (laid_tail h)
  exact Lib.tabIs_of_head (g := 1) (by kernel_rfl) (t := 105) (by kernel_rfl) Tryd.underlying105 Tryd.underlying95 (by kernel_rfl) (by kernel_rfl) h3
/-- A world in which they hold what they are laid with. -/
noncomputable def laidWorld (os : Os) : World :=
  let w0 := World.holding Tryd.prog os ⟨#[], #[], []⟩
  { w0 with heap := ((w0.heap.modify 1 fun
      | .cells _ t frozen => .cells (Lib.pow10Tab.map fun z => Value.int .u64 z).toArray t frozen
      | o => o).modify 2 fun
      | .cells _ t frozen => .cells (bruijn32.map fun z => Value.int .u8 z).toArray t frozen
      | o => o).modify 3 fun
      | .cells _ t frozen => .cells (bruijn64.map fun z => Value.int .u8 z).toArray t frozen
      | o => o }
theorem laid_met (os : Os) (args : Array Value) : laidMet Tryd.prog laid3 ((laidWorld os).forCall (fun _ _ => 0) ⟨#[], args, []⟩).memory :=
  (LaidIn.of_run [1, 2, 3] 8 (by kernel_rfl) (by kernel_rfl) (by kernel_rfl) (by kernel_rfl)).met
theorem laid_met_h (os : Os) (args : Array Value) : laidMetH Tryd.prog laid3 ((laidWorld os).forCall (fun _ _ => 0) ⟨#[], args, []⟩).memory := laid_met os args
end Go.Proofs.YtanbplnagcmlcaaDoor

/- A range over a function whose closure stores into the variable that it has captured (block Bt) between two rounds: the statement's law. -/
namespace Go.Proofs.YtanbplnagcmlcaaDoor
open Go.RowKit Go.Shelf
/-- The captured variable's cell is as it was. -/
def TB (Bt : Nat) (W W' : World) : Prop := W'.heap[Bt]? = W.heap[Bt]?
/-- What holds goes on holding while new blocks are laid and the captured variable is written. -/
structure Stab (Bt : Nat) (J : World → Prop) : Prop where
  grow : ∀ W W', J W → W.grownBy W' none → J W'
  put : ∀ W u, J W → J (W.setCell ⟨Bt, 0, none⟩ u)
/-- The loop's record and the block of the rounds' deferred calls. -/
def Bk (l D : Nat) (R : Loop) (W : World) : Prop := W.heap[l]? = some (.loop R) ∧ W.heap[D]? = some (.deferred (some []))
theorem Bk.grown {l D : Nat} {R : Loop} {W W' : World} {row : Option Nat} (h : Bk l D R W) (hg : W.grownBy W' row) (h1 : row ≠ some l) (h2 : row ≠ some D) : Bk l D R W' :=
  ⟨(hg.block l (Array.getElem?_eq_some_iff.1 h.1).1 h1.symm).trans h.1, (hg.block D (Array.getElem?_eq_some_iff.1 h.2).1 h2.symm).trans h.2⟩
theorem grown_setCell (W : World) (Bt : Nat) (u : Value) : W.grownBy (W.setCell ⟨Bt, 0, none⟩ u) (some Bt) :=
  ⟨rfl, rfl, rfl, by simp [World.setCell], fun k _ hk => Below.heap_setCell W ⟨Bt, 0, none⟩ u k (fun e => hk (by rw [e]))⟩
theorem Bk.put {l D Bt : Nat} {R : Loop} {W : World} (h : Bk l D R W) (u : Value) (h1 : Bt ≠ l) (h2 : Bt ≠ D) : Bk l D R (W.setCell ⟨Bt, 0, none⟩ u) :=
  h.grown (grown_setCell W Bt u) (fun e => h1 (Option.some.inj e)) (fun e => h2 (Option.some.inj e))
/-- How a round's body may be left. -/
def rngPost (Bt : Nat) (I : World → Prop) (Ix : World → Prop) (W : World) : Exit → Act → World → Prop
  | .normal, _, W' => KeepsOthers W W' ∧ TB Bt W W' ∧ I W'
  | .ret, _, W' => KeepsOthers W W' ∧ Ix W'
  | _, _, _ => False
section
variable {F : Fence} {n : Nat} {P : Program}
/-- One round. -/
theorem round_own {l D Bt B : Nat} {fn : FuncId} {tmps xs : Array Value} {ps : Array Tmp} {assign body : Code} {a₁ : Act} {W : World} {I I' Ix : World → Prop}
    (hfn : F.fn fn) (hlD : l ≠ D) (hB : B ≤ l ∧ B ≤ D) (hBt : Bt < B) (hps : xs.size = ps.size)
    (oI : ∀ W W' row, I W → W.grownBy W' row → (∀ r, row = some r → B ≤ r ∧ ∃ o : Obj, W.heap[r]? = some o ∧ o.isCells = false) → I W')
    (oI' : ∀ W W' row, I' W → W.grownBy W' row → (∀ r, row = some r → B ≤ r ∧ ∃ o : Obj, W.heap[r]? = some o ∧ o.isCells = false) → I' W')
    (oX : ∀ W W' row, Ix W → W.grownBy W' row → (∀ r, row = some r → B ≤ r ∧ ∃ o : Obj, W.heap[r]? = some o ∧ o.isCells = false) → Ix W')
    (hi : I W) (hb : Bk l D { state := .ready, pending := none, fn, tmps, params := ps, assign, body, defers := D } W)
    (hassign : ∀ (W : World) (K : Act → World → Prop), K a₁ W → assign.wpIn (F.inRound l) n P (Exit.then K (fun _ _ _ => False)) { tmps := (ps.zip xs).foldl (fun t (p, v) => t.setIfInBounds p v) tmps, defers := [] } W)
    (hbody : ∀ W, I W → body.wpIn (F.inRound l) n P (rngPost Bt I' Ix W) a₁ W) :
    YieldAt F n P l xs W fun e W' =>
      (e = .returned (.bool true) ∧ (I' W' ∧ Bk l D { state := .ready, pending := none, fn, tmps, params := ps, assign, body, defers := D } W') ∧ TB Bt W W') ∨
      (e = .returned (.bool false) ∧ Ix W' ∧ Bk l D { state := .done, pending := some .ret, fn, tmps, params := ps, assign, body, defers := D } W') := by
  obtain ⟨hl, hd⟩ := hb
  have hlt := (Array.getElem?_eq_some_iff.1 hl).1
  refine ⟨fn, _, assign, body, run_yield (P := P) (args := xs) hl hps, roundIn_of_wpIn hfn (hassign W _ ⟨_, run_beginRound hl rfl, ?_⟩)⟩
  have hl2 := World.putObj_heap_same (o := .loop { state := .busy, pending := none, fn, tmps, params := ps, assign, body, defers := D }) hlt
  have hd2 := (World.putObj_heap_other (o := .loop { state := .busy, pending := none, fn, tmps, params := ps, assign, body, defers := D }) hlD.symm).trans hd
  have t2 : TB Bt W (W.putObj l (.loop { state := .busy, pending := none, fn, tmps, params := ps, assign, body, defers := D })) := World.putObj_heap_other (by omega)
  have i2 : I (W.putObj l (.loop { state := .busy, pending := none, fn, tmps, params := ps, assign, body, defers := D })) := oI _ _ (some l) hi (grownBy_putObj' W l _) (fun r e => by cases e; exact ⟨hB.1, _, hl, rfl⟩)
  refine wpIn_mono (hbody _ i2) ?_
  intro e a3 W3 hp
  cases e with
  | normal =>
    obtain ⟨k3, t3, i3⟩ := hp
    have l3 := k3.same _ _ hl2 rfl
    have d3 := k3.same _ _ hd2 rfl
    have lt3 := (Array.getElem?_eq_some_iff.1 l3).1
    refine ⟨_, _, run_endRound (P := P) none l3, .inl ⟨rfl, ⟨oI' _ _ (some l) i3 (grownBy_putObj' W3 l _) (fun r e => by cases e; exact ⟨hB.1, _, l3, rfl⟩), World.putObj_heap_same lt3, (World.putObj_heap_other hlD.symm).trans d3⟩, ?_⟩⟩
    exact (World.putObj_heap_other (show Bt ≠ l by omega)).trans (t3.trans t2)
  | ret =>
    obtain ⟨k3, x3⟩ := hp
    have l3 := k3.same _ _ hl2 rfl
    have d3 := k3.same _ _ hd2 rfl
    have lt3 := (Array.getElem?_eq_some_iff.1 l3).1
    exact ⟨_, _, run_endRound (P := P) (some .ret) l3, .inr ⟨rfl, oX _ _ (some l) x3 (grownBy_putObj' W3 l _) (fun r e => by cases e; exact ⟨hB.1, _, l3, rfl⟩), World.putObj_heap_same lt3, (World.putObj_heap_other hlD.symm).trans d3⟩⟩
  | exit id => exact hp.elim
  | goto t => exact hp.elim
  | panic ch => exact hp.elim
  | outgrown => exact hp.elim
/-- What the iterator owes: N elements at the most, one by one. -/
def Seq (F : Fence) (n : Nat) (P : Program) (gf : Nat) (lb : Array Value) (encs : Nat → Array Value) (Bt N : Nat) (w0 : World) : Prop :=
  ∀ (l : Nat) (J : Nat → World → Prop) (Jx : World → Prop) (W : World), Below w0.heap.size w0 W → (∀ k, Stab Bt (J k)) →
    (∀ k W1, J k W1 → k < N → YieldAt F (n - 1) P l (encs k) W1 fun e W' => (e = .returned (.bool true) ∧ J (k + 1) W' ∧ TB Bt W1 W') ∨ (e = .returned (.bool false) ∧ Jx W')) →
    J 0 W → CallsIn F n P gf (#[.func (.yield l) #[] #[]] ++ lb) W fun e W' => (∃ v, e = .returned v) ∧ (J N W' ∨ Jx W')
/-- The statement. -/
theorem range_own {g : Operand} {ps : Array Tmp} {assign body : Code} {Q : Exit → Act → World → Prop} {a : Act} {w : World} (hro : F.round = none) (h1 : 1 ≤ n) {gf : Nat} {lb : Array Value}
    (hg : a.eval g = .func (.func gf) #[] lb) (hFg : F.fn gf) (eg : ∀ args w, (callFunc gf args).run P w = .ok (.enter gf args) w) {encs : Nat → Array Value} {Bt N : Nat} (hBt : Bt < w.heap.size) (hps : ∀ k, (encs k).size = ps.size)
    (hseq : Seq F (n - 1) P gf lb encs Bt N w) (I : Nat → World → Prop) (Ix : World → Prop)
    (oI : ∀ k W W' row, I k W → W.grownBy W' row → (∀ r, row = some r → w.heap.size ≤ r ∧ ∃ o : Obj, W.heap[r]? = some o ∧ o.isCells = false) → I k W')
    (oX : ∀ W W' row, Ix W → W.grownBy W' row → (∀ r, row = some r → w.heap.size ≤ r ∧ ∃ o : Obj, W.heap[r]? = some o ∧ o.isCells = false) → Ix W')
    (sI : ∀ k W u, I k W → I k (W.setCell ⟨Bt, 0, none⟩ u)) (h0 : I 0 w) (a₁ : Nat → Act)
    (hassign : ∀ (l k : Nat) (W : World) (K : Act → World → Prop), K (a₁ k) W → assign.wpIn (F.inRound l) (n - 1 - 1) P (Exit.then K (fun _ _ _ => False)) { tmps := (ps.zip (encs k)).foldl (fun t (p, v) => t.setIfInBounds p v) a.tmps, defers := [] } W)
    (hbody : ∀ (l k : Nat) (W : World), I k W → k < N → body.wpIn (F.inRound l) (n - 1 - 1) P (rngPost Bt (I (k + 1)) Ix W) (a₁ k) W)
    (hdone : ∀ (D : Nat) (W : World), w.heap.size ≤ D → I N W → W.heap[D]? = some (.deferred (some [])) → Q .normal { a with defers := { target := .collected D, args := #[] } :: a.defers } W)
    (hstop : ∀ (D : Nat) (W : World), w.heap.size ≤ D → Ix W → W.heap[D]? = some (.deferred (some [])) → Code.ret.wpIn F n P Q { a with defers := { target := .collected D, args := #[] } :: a.defers } W) :
    (Code.rangeFunc g ps assign body).wpIn F n P Q a w := by
  refine wpIn_rangeFunc fun fn hfn => ?_
  rw [hro]
  have hW : ∀ (o1 o2 : Obj) (k : Nat), I k w → I k ((w.alloc o1).alloc o2) := fun o1 o2 k h =>
    oI k _ _ none (oI k _ _ none h (World.grownBy_alloc w o1 none) (fun r e => by cases e)) (World.grownBy_alloc _ o2 none) (fun r e => by cases e)
  have hbel : ∀ (o1 o2 : Obj), Below w.heap.size w ((w.alloc o1).alloc o2) := fun o1 o2 => ((Below.refl _ w).alloc (Nat.le_refl _) _).alloc (by simp) _
  obtain ⟨W1, hW1⟩ : ∃ W1, W1 = (w.alloc (.deferred (some []))).alloc (.loop { state := .ready, pending := none, fn, tmps := a.tmps, params := ps, assign, body, defers := w.heap.size }) := ⟨_, rfl⟩
  refine ⟨w.heap.size + 1, [{ target := .collected w.heap.size, args := #[] }], W1, { target := .fn (.func gf) lb, args := #[.func (.yield (w.heap.size + 1)) #[] #[]] }, W1, gf, #[.func (.yield (w.heap.size + 1)) #[] #[]] ++ lb, W1, by rw [hW1]; exact run_enterLoop_outer _ _ _ _ _, ?_, ?_, ?_, fun _ => h1, ?_⟩
  · simp only [resolve, hg]
    simp [go_sem]
  · intro f' hf'
    simp [Target.leads] at hf'
    subst hf'
    exact hFg
  · simp [invoke, go_sem, eg]
  · subst hW1
    have hb0 : Bk (w.heap.size + 1) w.heap.size { state := .ready, pending := none, fn, tmps := a.tmps, params := ps, assign, body, defers := w.heap.size } ((w.alloc (.deferred (some []))).alloc (.loop { state := .ready, pending := none, fn, tmps := a.tmps, params := ps, assign, body, defers := w.heap.size })) := by
      refine ⟨?_, (Below.heap_alloc _ _ _ (by simp)).trans (World.alloc_heap_new w _)⟩
      have := World.alloc_heap_new (w.alloc (.deferred (some []))) (.loop { state := .ready, pending := none, fn, tmps := a.tmps, params := ps, assign, body, defers := w.heap.size })
      rwa [World.size_alloc] at this
    refine (hseq (w.heap.size + 1) (fun k W => I k W ∧ Bk (w.heap.size + 1) w.heap.size { state := .ready, pending := none, fn, tmps := a.tmps, params := ps, assign, body, defers := w.heap.size } W)
      (fun W => Ix W ∧ Bk (w.heap.size + 1) w.heap.size { state := .done, pending := some .ret, fn, tmps := a.tmps, params := ps, assign, body, defers := w.heap.size } W) _ (hbel _ _)
      (fun k => ⟨fun A B h hg' => ⟨oI k A B none h.1 hg' (fun r e => by cases e), h.2.grown hg' (by simp) (by simp)⟩, fun A u h => ⟨sI k A u h.1, h.2.put u (by omega) (by omega)⟩⟩) ?_ ⟨hW _ _ 0 h0, hb0⟩).mono ?_
    · rintro k W ⟨hi, hb⟩ hk
      exact round_own (B := w.heap.size) hfn (by omega) ⟨by omega, Nat.le_refl _⟩ hBt (hps k) (oI k) (oI (k + 1)) oX hi hb (fun W K hK => hassign _ k W K hK) (fun W h => hbody _ k W h hk)
    · rintro e W2 ⟨⟨v, rfl⟩, (⟨hi, hl, hd⟩ | ⟨hx, hl, hd⟩)⟩
      · have hlt := (Array.getElem?_eq_some_iff.1 hl).1
        exact ⟨none, _, run_endLoop (P := P) hl (by simp), hdone _ _ (Nat.le_refl _) (oI N _ _ (some (w.heap.size + 1)) hi (grownBy_putObj' W2 _ _) (fun r e => by cases e; exact ⟨by omega, _, hl, rfl⟩)) ((World.putObj_heap_other (by omega)).trans hd)⟩
      · exact ⟨some .ret, _, run_endLoop (P := P) hl (by simp), hstop _ _ (Nat.le_refl _) (oX _ _ (some (w.heap.size + 1)) hx (grownBy_putObj' W2 _ _) (fun r e => by cases e; exact ⟨by omega, _, hl, rfl⟩)) ((World.putObj_heap_other (by omega)).trans hd)⟩
end
end Go.Proofs.YtanbplnagcmlcaaDoor

/- Layer 24: the number that digits tell. -/
namespace Go.Proofs.YtanbplnagcmlcaaDoor
open Go.RowKit
theorem sindex_run (L : List Nat) (hL : ∀ x ∈ L, x < 256) (i : Nat) (hi : i < L.length) (W : World) : (Instr.index 9 (.string (strN L)) (.int .i64 (i : Int))).run Tryd.prog W = .ok (.int .u8 ((L[i] : Nat) : Int)) W := by
  have hs := strN_size L
  rw [run_index_string W 9 (strN L) .i64 i Tryd.underlying9, dif_pos (by omega)]
  congr 2
  exact strN_get hL i hi (by omega)
theorem strN_full (L : List Nat) (h : 0 < L.length) : (strN L).toList.isEmpty = false := by
  rw [ByteArray.toList_eq, strN_data]
  cases L with
  | nil => simp at h
  | cons x l => rfl
theorem rb_at' {w : World} {B j : Nat} {A : Option Addr} {bs : List Nat} (h : RB w B A bs) (hj : j < bs.length) : ∃ ad q, A = some ad ∧ ad.add j = q ∧ q.block < B ∧ w.cell? q = some (.int .u8 ((bs[j] : Nat) : Int)) := by
  obtain ⟨ad, e, hb, hc⟩ := h.2 (by omega)
  exact ⟨ad, _, e, rfl, by rw [block_of_add]; exact hb, hc j hj⟩
theorem add0 (b j : Nat) : (⟨b, 0, none⟩ : Addr).add j = ⟨b, j, none⟩ := by unfold Addr.add; split <;> simp_all
set_option maxRecDepth 100000 in
set_option maxHeartbeats 1600000 in
theorem number_any (L : List Nat) (hd : ∀ d ∈ L, 48 ≤ d ∧ d ≤ 57) (h0 : 0 < L.length) (h13 : L.length ≤ 13) (hh : ∀ d, L[0]? = some d → 1 < L.length → d ≠ 48) (w : World) :
    Calls Tryd.prog 21 #[.string (strN L)] w fun e w' => e = .returned (.tuple #[.int .i64 (valD L : Int), .bool (decide (valD L ≤ 1099511627776))]) ∧ Below w.heap.size w w' := by
  have hL : ∀ x ∈ L, x < 256 := fun x hx => by have := hd x hx; omega
  have hsz := strN_size L
  have hne := strN_full L h0
  have hs0 : 0 < (strN L).size := by omega
  have hh0 : 1 < L.length → ((((strN L)[0]'hs0).toNat : Int) == 48) = false := fun h1 => by
    rw [strN_get hL 0 h0 hs0]
    have := hh L[0] (List.getElem?_eq_getElem h0) h1
    simp; omega
  obtain ⟨c, C, f, hrun, hc, hrb⟩ := conv_run w L hL
  have HD := Lib.hid hd
  have HRB := Lib.hid hrb
  generalize hS : strN L = S at hsz hne hs0 hh0 hrun ⊢
  clear hS hL hd hrb hh
  have d13 : decide (13 < (L.length : Int)) = false := by simp; omega
  by_cases h1 : 1 < L.length
  case' pos =>
    have e48 := hh0 h1
    clear hh0
    go_enter Tryd.func21, Tryd.ntmps21
    go_wp2
  case' neg =>
    obtain h1' : L.length = 1 := by omega
    have e1 : decide (1 < (L.length : Int)) = false := by simp; omega
    clear hh0 h1'
    go_enter Tryd.func21, Tryd.ntmps21
    go_wp2
  all_goals
    generalize hW : (World.drew _ : World) = W1 at HRB
    have HW1 : Hid (Below w.heap.size w W1) := Lib.hid (by rw [← hW]; (repeat' (first | (with_reducible exact Below.refl _ _) | (refine Below.trans ?_ (Below.mono (by with_reducible assumption) ?_)) | (with_reducible exact Below.refl _ _) | (with_reducible refine below_drewN ?_ _) | (with_reducible refine Below.drew ?_) | (with_reducible refine Below.setCell ?_ ?_ _) | (with_reducible refine Below.alloc ?_ ?_ _) | (with_reducible assumption) | (simp; done) | (simp; omega) | omega)))
    have hz1 : W1.heap.size = w.heap.size + 1 := by rw [← hW]; simp
    clear hW hrun
    go_loopw [4, 6, 27] (fun n _ i wr => ∃ j : Nat, n = .int .i64 (valD (L.take j) : Int) ∧ i = .int .i64 (j : Int) ∧ j ≤ L.length ∧ wr = W1) (fun _ _ i _ => L.length - (intOf i).toNat)
    case atStart => exact ⟨0, rfl, rfl, Nat.zero_le _, rfl⟩
    case round =>
      obtain ⟨j, rfl, rfl, hj, rfl⟩ := hrel
      by_cases hlt : j < L.length
      · obtain ⟨ad, q, e0, hq, hqb, hcell⟩ := rb_at' HRB.out hlt
        injection e0 with e0
        subst e0
        rw [add0] at hq
        subst hq
        have hqw : w.heap.size < wr.heap.size := by omega
        have hdg := HD.out L[j] (List.getElem_mem hlt)
        have hva : valD (L.take (j + 1)) = valD (L.take j) * 10 + (L[j] - 48) := by
          rw [List.take_add_one, List.getElem?_eq_getElem hlt]; exact valD_snoc _ _
        have hvb : valD (L.take j) < 10 ^ (L.take j).length := valD_lt _ (fun z hz => HD.out z (List.mem_of_mem_take hz))
        have hvc : valD (L.take j) < 10000000000000 := Nat.lt_of_lt_of_le hvb (Nat.pow_le_pow_right (by omega) (by rw [List.length_take]; omega) : 10 ^ (L.take j).length ≤ 10 ^ 13)
        generalize L[j] = d at hcell hdg hva
        generalize valD (L.take j) = v at hva hvc ⊢
        have HVA := Lib.hid hva
        clear hva hvb
        go_wp2
        go_roundw
        case rel => exact ⟨j + 1, by rw [HVA.out]; congr 1; omega, by go_num, by omega, trivial⟩
        case measure => simp [intOf]; omega
      · obtain rfl : j = L.length := by omega
        rw [List.take_length]
        go_wp2
        (try simp only [Exit.inBlock, Exit.then]); refine bodyPost_ret (by simp [results, Tryd.results21, go_sem, *]; try rfl) rfl ?_
        exact ⟨by simp; omega, HW1.out⟩
end Go.Proofs.YtanbplnagcmlcaaDoor
