/- Several texts put together: ScrC, ScrD, Frame, FrameG, ScrE, ScrF. -/
import Derived.Test.YtanbplnagcmlcaaDoorBu2
import Derived.Lib.LaidTab
import Derived.Lib.AppendIntMem
import Derived.Test.YtanbplnagcmlcaaDoorRows
import Derived.Test.YtanbplnagcmlcaaDoorBu1
import Derived.ProofKit
import Derived.OpenShut
import Derived.ShutString
import Derived.ChangeOld
import Derived.Lib.SmallJoins
import Derived.LaidLaws
import Derived.Lib.LaidIn
import Derived.Stop.Joined
import Derived.Clock
/- Layer 24: texts of lines, plain; slices of strings; cutting. -/
namespace Go.Proofs.YtanbplnagcmlcaaDoor
open Go.RowKit
theorem strN_data (l : List Nat) : (strN l).data.toList = l.map UInt8.ofNat := by simp [strN]
theorem strN_extract (L : List Nat) (i j : Nat) : (strN L).extract i j = strN ((L.take j).drop i) := by
  have : ((strN L).extract i j).data = (strN ((L.take j).drop i)).data := by
    rw [ByteArray.data_extract]
    simp only [strN, List.extract_toArray, List.extract_eq_take_drop, List.map_drop, List.map_take]
    rw [List.take_drop]
    by_cases h : i ≤ j
    · rw [show i + (j - i) = j by omega]
    · rw [List.drop_of_length_le (by simp; omega), List.drop_of_length_le (by simp; omega)]
  cases h1 : (strN L).extract i j; cases h2 : strN ((L.take j).drop i); rw [h1, h2] at this; simpa using this
theorem ofNat_inj {a b : Nat} (ha : a < 256) (hb : b < 256) (h : UInt8.ofNat a = UInt8.ofNat b) : a = b := by
  have := congrArg UInt8.toNat h
  simpa [UInt8.toNat_ofNat', Nat.mod_eq_of_lt ha, Nat.mod_eq_of_lt hb] using this
theorem strN_inj {a b : List Nat} (ha : ∀ x ∈ a, x < 256) (hb : ∀ x ∈ b, x < 256) (h : strN a = strN b) : a = b := by
  have h2 : a.map UInt8.ofNat = b.map UInt8.ofNat := by rw [← strN_data, ← strN_data, h]
  induction a generalizing b with
  | nil => cases b with
    | nil => rfl
    | cons y b => simp at h2
  | cons x a ih => cases b with
    | nil => simp at h2
    | cons y b =>
      simp only [List.map_cons, List.cons.injEq] at h2
      have e := ofNat_inj (ha x (List.mem_cons_self ..)) (hb y (List.mem_cons_self ..)) h2.1
      subst e
      have := ih (fun z hz => ha z (List.mem_cons_of_mem _ hz)) (b := b) (fun z hz => hb z (List.mem_cons_of_mem _ hz)) (by unfold strN; rw [h2.2]) h2.2
      rw [this]
/-- Where a byte first stands. -/
def idxL (c : Nat) : List Nat → Option Nat
  | [] => none
  | x :: l => if x = c then some 0 else (idxL c l).map (· + 1)
theorem idx_lib (c : Nat) (hc : c < 256) : ∀ (l : List Nat), (∀ x ∈ l, x < 256) → Lib.indexByte (l.map UInt8.ofNat) (UInt8.ofNat c) = match idxL c l with | some i => (i : Int) | none => -1
  | [], _ => rfl
  | x :: l, h => by
    have ih := idx_lib c hc l (fun z hz => h z (List.mem_cons_of_mem _ hz))
    rw [List.map_cons, Lib.indexByte, idxL]
    by_cases e : x = c
    · subst e; simp
    · have e2 : (UInt8.ofNat x == UInt8.ofNat c) = false := by
        rw [beq_eq_false_iff_ne]; intro h2; exact e (ofNat_inj (h x (List.mem_cons_self ..)) hc h2)
      rw [e2, if_neg e, ih]
      cases h3 : idxL c l with
      | none => simp
      | some i =>
        simp
        try omega
theorem idx_lt (c : Nat) : ∀ (l : List Nat) (i : Nat), idxL c l = some i → i < l.length
  | [], i, h => by cases h
  | x :: l, i, h => by
    rw [idxL] at h
    split at h
    · injection h with h; subst h; simp
    · rw [Option.map_eq_some_iff] at h
      obtain ⟨j, hj, rfl⟩ := h
      have := idx_lt c l j hj
      simp; omega
/-- strings.Cut at one byte. -/
def cutL (c : Nat) (l : List Nat) : List Nat × List Nat × Bool :=
  match idxL c l with
  | some i => (l.take i, l.drop (i + 1), true)
  | none => (l, [], false)
theorem idx_app (c : Nat) : ∀ (a b : List Nat), c ∉ a → idxL c (a ++ c :: b) = some a.length
  | [], b, _ => by simp [idxL]
  | x :: a, b, h => by
    rw [List.cons_append, idxL, if_neg (fun e => h (by simp [e])), idx_app c a b (fun e => h (List.mem_cons_of_mem _ e))]
    simp
theorem idx_none (c : Nat) : ∀ (a : List Nat), c ∉ a → idxL c a = none
  | [], _ => rfl
  | x :: a, h => by
    rw [idxL, if_neg (fun e => h (by simp [e])), idx_none c a (fun e => h (List.mem_cons_of_mem _ e))]
    rfl
theorem cut_app (c : Nat) (a b : List Nat) (h : c ∉ a) : cutL c (a ++ c :: b) = (a, b, true) := by
  unfold cutL; rw [idx_app c a b h]; simp
theorem cut_none (c : Nat) (a : List Nat) (h : c ∉ a) : cutL c a = (a, [], false) := by
  unfold cutL; rw [idx_none c a h]
theorem sslice_run (L : List Nat) (i j : Nat) (hi : i ≤ j) (hj : j ≤ L.length) (W : World) : (Instr.slice 9 (.string (strN L)) (some (.int .i64 (i : Int))) (some (.int .i64 (j : Int))) none).run Tryd.prog W = .ok (.string (strN ((L.take j).drop i))) W := by
  rw [run_slice_string_if W 9 (strN L) .i64 .i64 i j Tryd.underlying9, if_pos (by rw [strN_size]; omega), if_pos (by omega), Int.toNat_natCast, Int.toNat_natCast, strN_extract]
theorem sslice_h (L : List Nat) (j : Nat) (hj : j ≤ L.length) (W : World) : (Instr.slice 9 (.string (strN L)) none (some (.int .i64 (j : Int))) none).run Tryd.prog W = .ok (.string (strN (L.take j))) W := by
  rw [run_slice_string_h W 9 (strN L) Tryd.underlying9 .i64 j (by omega) (by rw [strN_size]; omega), Int.toNat_natCast, strN_extract, List.drop_zero]
theorem sslice_l (L : List Nat) (i : Nat) (hi : i ≤ L.length) (W : World) : (Instr.slice 9 (.string (strN L)) (some (.int .i64 (i : Int))) none none).run Tryd.prog W = .ok (.string (strN (L.drop i))) W := by
  rw [run_slice_string_l W 9 (strN L) Tryd.underlying9 .i64 i (by omega) (by rw [strN_size]; omega), Int.toNat_natCast, strN_size, strN_extract, List.take_length]
set_option maxRecDepth 100000 in
set_option maxHeartbeats 1600000 in
theorem lcut_any (L : List Nat) (hL : ∀ x ∈ L, x < 256) (hm : L.length ≤ 140737488351232) (c : Nat) (hc : c < 256) (w : World) :
    Calls Tryd.prog 30 #[.string (strN L), .string (strN [c])] w fun e w' => e = .returned (.tuple #[.string (strN (cutL c L).1), .string (strN (cutL c L).2.1), .bool (cutL c L).2.2]) ∧ Below w.heap.size w w' := by
  have hix : ∀ W, Calls Tryd.prog 39 #[.string (strN L), .string (strN [c])] W fun e w' => e = .returned (.int .i64 (match idxL c L with | some i => (i : Int) | none => -1)) ∧ w' = W := fun W => by
    have := Tryd.stringslite_Index_one (strN L) (UInt8.ofNat c) W
    rw [strN_data, idx_lib c hc L hL] at this
    exact this
  have hs1 : (strN [c]).size = 1 := strN_size _
  have hsz := strN_size L
  cases h : idxL c L with
  | some i =>
    rw [h] at hix
    dsimp only at hix
    have hi := idx_lt c L i h
    have r1 := fun W => sslice_h L i (by omega) W
    have r2 := fun W => sslice_l L (i + 1) (by omega) W
    simp only [Int.natCast_add, Int.cast_ofNat_Int] at r2
    rw [show cutL c L = (L.take i, L.drop (i + 1), true) by unfold cutL; rw [h]]
    have HX := Lib.hid hix
    generalize strN (L.take i) = s1 at r1 ⊢
    generalize strN (L.drop (i + 1)) = s2 at r2 ⊢
    generalize strN L = S at r1 r2 HX hsz ⊢
    generalize strN [c] = S1 at HX hs1 ⊢
    clear hix h
    go_enter Tryd.func30, Tryd.ntmps30
    go_wp2_with (go_at_call 39; (with_reducible refine (HX.out _).mono ?_); rintro e w1 ⟨rfl, rfl⟩)
    go_region
    go_wp2
    (try simp only [Exit.inBlock, Exit.then]); refine bodyPost_ret (by simp [results, Tryd.results30, go_sem, *]; try rfl) rfl ?_
    exact ⟨rfl, by (repeat' (first | (with_reducible exact Below.refl _ _) | (refine Below.trans ?_ (Below.mono (by with_reducible assumption) ?_)) | (with_reducible exact Below.refl _ _) | (with_reducible refine below_drewN ?_ _) | (with_reducible refine Below.drew ?_) | (with_reducible refine Below.setCell ?_ ?_ _) | (with_reducible refine Below.alloc ?_ ?_ _) | (with_reducible assumption) | (simp; done) | (simp; omega) | omega))⟩
  | none =>
    rw [h] at hix
    dsimp only at hix
    rw [show cutL c L = (L, [], false) by unfold cutL; rw [h]]
    have HX := Lib.hid hix
    generalize strN L = S at HX ⊢
    generalize strN [c] = S1 at HX ⊢
    clear hix h hsz hs1
    go_enter Tryd.func30, Tryd.ntmps30
    go_wp2_with (go_at_call 39; (with_reducible refine (HX.out _).mono ?_); rintro e w1 ⟨rfl, rfl⟩)
    (try simp only [Exit.inBlock, Exit.then]); refine bodyPost_ret (by simp [results, Tryd.results30, go_sem, *]; try rfl) rfl ?_
    exact ⟨rfl, by (repeat' (first | (with_reducible exact Below.refl _ _) | (refine Below.trans ?_ (Below.mono (by with_reducible assumption) ?_)) | (with_reducible exact Below.refl _ _) | (with_reducible refine below_drewN ?_ _) | (with_reducible refine Below.drew ?_) | (with_reducible refine Below.setCell ?_ ?_ _) | (with_reducible refine Below.alloc ?_ ?_ _) | (with_reducible assumption) | (simp; done) | (simp; omega) | omega))⟩
set_option maxHeartbeats 400000 in
theorem cut_any (L : List Nat) (hL : ∀ x ∈ L, x < 256) (hm : L.length ≤ 140737488351232) (c : Nat) (hc : c < 256) (w : World) :
    Calls Tryd.prog 20 #[.string (strN L), .string (strN [c])] w fun e w' => e = .returned (.tuple #[.string (strN (cutL c L).1), .string (strN (cutL c L).2.1), .bool (cutL c L).2.2]) ∧ Below w.heap.size w w' := by
  have HX := Lib.hid (fun W => lcut_any L hL hm c hc W)
  generalize strN L = S at HX ⊢
  generalize strN [c] = S1 at HX ⊢
  generalize strN (cutL c L).1 = s1 at HX ⊢
  generalize strN (cutL c L).2.1 = s2 at HX ⊢
  generalize (cutL c L).2.2 = b at HX ⊢
  go_enter Tryd.func20, Tryd.ntmps20
  go_wp2_with (go_at_call 30; (with_reducible refine (HX.out _).mono ?_); rintro e w1 ⟨rfl, b1⟩)
  (try simp only [Exit.inBlock, Exit.then]); refine bodyPost_ret (by simp [results, Tryd.results20, go_sem, *]; try rfl) rfl ?_
  exact ⟨rfl, by (repeat' (first | (with_reducible exact Below.refl _ _) | (refine Below.trans ?_ (Below.mono (by with_reducible assumption) ?_)) | (with_reducible exact Below.refl _ _) | (with_reducible refine below_drewN ?_ _) | (with_reducible refine Below.drew ?_) | (with_reducible refine Below.setCell ?_ ?_ _) | (with_reducible refine Below.alloc ?_ ?_ _) | (with_reducible assumption) | (simp; done) | (simp; omega) | omega))⟩
end Go.Proofs.YtanbplnagcmlcaaDoor

/- Layer 24: digits, and what they tell; words with blanks between. -/
namespace Go.Proofs.YtanbplnagcmlcaaDoor
open Go.RowKit
/-- A number's digits. -/
def decN (n : Nat) : List Nat := if n < 10 then [48 + n] else decN (n / 10) ++ [48 + n % 10]
termination_by n
decreasing_by omega
theorem decN_small {n : Nat} (h : n < 10) : decN n = [48 + n] := by rw [decN, if_pos h]
theorem decN_step {n : Nat} (h : ¬ n < 10) : decN n = decN (n / 10) ++ [48 + n % 10] := by rw [decN, if_neg h]
theorem decN_lib (n : Nat) : Lib.decDigits n = (decN n).map UInt8.ofNat := by
  induction n using Nat.strongRecOn with
  | _ n ih =>
    rw [Lib.decDigits]
    by_cases h : n < 10
    · rw [dif_pos h, decN_small h]; rfl
    · rw [dif_neg h, decN_step h, ih (n / 10) (by omega), List.map_append]; rfl
theorem decN_dig (n : Nat) : ∀ d ∈ decN n, 48 ≤ d ∧ d ≤ 57 := by
  induction n using Nat.strongRecOn with
  | _ n ih =>
    by_cases h : n < 10
    · rw [decN_small h]; intro d hd; rw [List.mem_singleton] at hd; omega
    · rw [decN_step h]
      intro d hd
      rcases List.mem_append.1 hd with hd | hd
      · exact ih (n / 10) (by omega) d hd
      · rw [List.mem_singleton] at hd; omega
theorem decN_lt (n : Nat) : ∀ d ∈ decN n, d < 256 := fun d hd => by have := decN_dig n d hd; omega
theorem decN_pos (n : Nat) : 0 < (decN n).length := by
  rw [decN]; split <;> simp
def valD (l : List Nat) : Nat := l.foldl (fun a d => a * 10 + (d - 48)) 0
theorem valD_snoc (l : List Nat) (d : Nat) : valD (l ++ [d]) = valD l * 10 + (d - 48) := by unfold valD; rw [List.foldl_append]; rfl
theorem decN_val (n : Nat) : valD (decN n) = n := by
  induction n using Nat.strongRecOn with
  | _ n ih =>
    by_cases h : n < 10
    · rw [decN_small h]; unfold valD; simp
    · rw [decN_step h, valD_snoc, ih (n / 10) (by omega)]; omega
theorem decN_len (k : Nat) : ∀ (n : Nat), 1 ≤ k → n < 10 ^ k → (decN n).length ≤ k := by
  induction k with
  | zero => intro n h; omega
  | succ k ih =>
    intro n _ h
    by_cases h10 : n < 10
    · rw [decN_small h10]; simp
    · rw [decN_step h10, List.length_append, List.length_singleton]
      have hk : 1 ≤ k := by
        cases k with
        | zero => simp at h; omega
        | succ k => omega
      have := ih (n / 10) hk (by rw [Nat.pow_succ] at h; omega)
      omega
theorem decN_head (n : Nat) : ∀ d, (decN n)[0]? = some d → 1 < (decN n).length → d ≠ 48 := by
  induction n using Nat.strongRecOn with
  | _ n ih =>
    intro d hd hl
    by_cases h : n < 10
    · rw [decN_small h] at hl; simp at hl
    · rw [decN_step h, List.getElem?_append_left (decN_pos _)] at hd
      by_cases h2 : n / 10 < 10
      · rw [decN_small h2] at hd; simp at hd; omega
      · refine ih (n / 10) (by omega) d hd ?_
        rw [decN_step h2, List.length_append]
        have := decN_pos (n / 10 / 10)
        simp; omega
theorem foldD_lt : ∀ (l : List Nat) (a : Nat), (∀ d ∈ l, 48 ≤ d ∧ d ≤ 57) → l.foldl (fun a d => a * 10 + (d - 48)) a + 1 ≤ (a + 1) * 10 ^ l.length
  | [], a, _ => by simp
  | d :: l, a, h => by
    have h1 := foldD_lt l (a * 10 + (d - 48)) (fun z hz => h z (List.mem_cons_of_mem _ hz))
    have h2 := h d (List.mem_cons_self ..)
    rw [List.foldl_cons, List.length_cons, Nat.pow_succ]
    refine Nat.le_trans h1 ?_
    rw [Nat.mul_comm (10 ^ l.length) 10, ← Nat.mul_assoc]
    exact Nat.mul_le_mul_right _ (by omega)
theorem valD_lt (l : List Nat) (h : ∀ d ∈ l, 48 ≤ d ∧ d ≤ 57) : valD l < 10 ^ l.length := by
  have := foldD_lt l 0 h
  unfold valD; omega
/-- The table that strconv reads. -/
def TabOk (w : World) : Prop := Lib.TabIs Tryd.prog w "internal/strconv.uint64pow10" .u64 Lib.pow10Tab
theorem TabOk.below {w w' : World} (h : TabOk w) (q : Below w.heap.size w w') : TabOk w' := by
  unfold TabOk Lib.TabIs World.var? at h ⊢
  cases hg : Tryd.prog.globalNamed "internal/strconv.uint64pow10" with
  | none => rw [hg] at h; cases h
  | some g =>
    rw [hg] at h
    simp only [Option.bind_some] at h ⊢
    rcases Nat.lt_or_ge g w.heap.size with hlt | hge
    · rw [q.block g hlt]; exact h
    · rw [Array.getElem?_eq_none hge] at h; cases h
theorem itoa_any (n : Nat) (hn : n ≤ 1099511627776) (w : World) (h : TabOk w) :
    Calls Tryd.prog 17 #[.int .i64 (n : Int)] w fun e w' => e = .returned (.string (strN (decN n))) ∧ Below w.heap.size w w' := by
  refine (Tryd.strconv_Itoa (n : Int) (by omega) (by omega) w h).mono ?_
  rintro e w' ⟨rfl, k, os, rfl⟩
  refine ⟨?_, Lib.below_grow _ _ (Nat.le_refl _) _ _⟩
  unfold Lib.itoa
  rw [if_neg (by omega), Int.toNat_natCast, decN_lib]
  rfl
theorem join_two (a b : List UInt8) (sep : List UInt8) : Lib.join [a, b] sep = a ++ sep ++ b := by
  rw [Lib.join_cons]; simp [Lib.joinTail]
theorem row_any (a b : List Nat) (hl : a.length + b.length ≤ 1000000) (w : World) (g : Nat) (h0 : w.cell? ⟨g, 0, none⟩ = some (.string (strN a))) (h1 : w.cell? ⟨g, 1, none⟩ = some (.string (strN b))) (hg : g < w.heap.size) :
    Calls Tryd.prog 16 #[.slice (some ⟨g, 0, none⟩) 2 2] w fun e w' => e = .returned (.string (strN (a ++ 32 :: b))) ∧ Below w.heap.size w w' := by
  have hj := Tryd.strings_Join g 0 2 [strN a, strN b] ⟨#[32]⟩ w (by
    intro j x hx
    match j, hx with
    | 0, hx => simp at hx; subst hx; exact h0
    | 1, hx => simp at hx; subst hx; exact h1) hg (by simp) (by simp) (by
      simp only [List.map_cons, List.map_nil, strN_data, join_two, List.length_append, List.length_map]
      simp; omega)
  simp only [List.map_cons, List.map_nil, strN_data, join_two] at hj
  have hj : Calls Tryd.prog 25 #[.slice (some ⟨g, 0, none⟩) 2 2, .string { data := #[32] }] w fun e w' => e = .returned (.string ⟨(a.map UInt8.ofNat ++ [32] ++ b.map UInt8.ofNat).toArray⟩) ∧ Below w.heap.size w w' := hj
  have e : (⟨(a.map UInt8.ofNat ++ [32] ++ b.map UInt8.ofNat).toArray⟩ : ByteArray) = strN (a ++ 32 :: b) := by
    unfold strN; simp
  rw [e] at hj
  have HJ := Lib.hid hj
  clear hj e h0 h1
  go_enter Tryd.func16, Tryd.ntmps16
  go_wp2_with (go_at_call 25; (with_reducible refine HJ.out.mono ?_); rintro e w1 ⟨rfl, b1⟩)
  go_ret
  exact ⟨rfl, by (repeat' (first | (with_reducible exact Below.refl _ _) | (refine Below.trans ?_ (Below.mono (by with_reducible assumption) ?_)) | (with_reducible exact Below.refl _ _) | (with_reducible refine below_drewN ?_ _) | (with_reducible refine Below.drew ?_) | (with_reducible refine Below.setCell ?_ ?_ _) | (with_reducible refine Below.alloc ?_ ?_ _) | (with_reducible assumption) | (simp; done) | (simp; omega) | omega))⟩
end Go.Proofs.YtanbplnagcmlcaaDoor

/- How what came in as an argument is opened: numbers, bytes. -/
namespace Go.Proofs.YtanbplnagcmlcaaDoor
open Go.ChangeShapes Go.WideShapes Go.ChangeAt Go.RowKit Go.Joins
theorem wd_of {n : Int} (h : (Lit.int .u64 n).wf = true) : Wd n := by
  simp [Lit.wf, IntKind.min, IntKind.max, IntKind.signed, IntKind.bits] at h
  exact ⟨h.1, by omega⟩
theorem byte_range {n : Int} (h : (Lit.int .u8 n).wf = true) : 0 ≤ n ∧ n < 256 := by
  simp [Lit.wf, IntKind.min, IntKind.max, IntKind.signed, IntKind.bits] at h
  exact ⟨h.1, by omega⟩
theorem int64_range {n : Int} (h : (Lit.int .i64 n).wf = true) : -9223372036854775808 ≤ n ∧ n < 9223372036854775808 := by
  simp [Lit.wf, IntKind.min, IntKind.max, IntKind.signed, IntKind.bits] at h
  exact ⟨h.1, by omega⟩
set_option maxRecDepth 100000 in
theorem bytes_form {H : Type} {enc : TypeId × Value → H} {w : World} {base : Nat} {spare : Nat → Bool} {held : Bool} {r : Reach} {b0 : Nat} {v : Value} {d : DataW H} {p : List MemPlace}
    (hv : Value.okWide Tryd.prog w r b0 27 v) (h : DataW.Trod enc Tryd.prog w base spare held 27 v d p) :
    ∃ (A : Option Addr) (c : Nat) (bs : List Nat), v = .slice A bs.length c ∧ RB w w.heap.size A bs ∧ bs.length ≤ c ∧ (A = none → bs = [] ∧ c = 0) := by
  obtain ⟨a, len, cap, rfl⟩ := okWide_slice Tryd.underlying27 hv
  obtain ⟨fuel, hf⟩ := h
  rcases open_ints Tryd.underlying27 Tryd.underlying5 (by kernel_rfl) hf with ⟨hcs, _⟩ | ⟨x, l, c, zs, hcs, _, hl, hm, hz, _, hcell, hwz⟩
  · simp [Value.cells] at hcs
    obtain ⟨rfl, rfl, rfl⟩ := hcs
    exact ⟨none, 0, [], rfl, RB.nil, by simp, fun _ => ⟨rfl, rfl⟩⟩
  · simp [Value.cells] at hcs
    obtain ⟨rfl, rfl, rfl⟩ := hcs
    have hzl : len ≤ zs.length := by rw [hz]; split <;> omega
    have hb : ∀ n ∈ zs, 0 ≤ n ∧ n < 256 := fun n hn => byte_range (hwz n hn)
    have hlen : ((zs.take len).map Int.toNat).length = len := by rw [List.length_map, List.length_take]; omega
    refine ⟨some x, cap, (zs.take len).map Int.toNat, by rw [hlen], ⟨?_, ?_⟩, by rw [hlen]; exact hl, fun e => by cases e⟩
    · intro y hy
      obtain ⟨n, hn, rfl⟩ := List.mem_map.1 hy
      have := hb n (List.mem_of_mem_take hn)
      omega
    · intro h0
      rw [hlen] at h0
      refine ⟨x, rfl, ?_, ?_⟩
      · have := World.block_lt_of_cell? w (x.add 0) (hcell 0 (by omega))
        rw [block_of_add] at this; exact this
      · intro j hj
        rw [hlen] at hj
        rw [hcell j (by omega)]
        have hjz : j < zs.length := by omega
        have := hb zs[j] (List.getElem_mem hjz)
        rw [List.getElem_map, List.getElem_take, List.getD_eq_getElem?_getD, List.getElem?_eq_getElem hjz]
        simp only [Option.getD_some]
        rw [Int.toNat_of_nonneg this.1]
end Go.Proofs.YtanbplnagcmlcaaDoor

/- What the laws of layer 24 take of memory: the tables that the library's variables hold. -/
namespace Go.Proofs.YtanbplnagcmlcaaDoor
open Go.ChangeShapes Go.WideShapes Go.ChangeAt Go.RowKit
def laid3 : List (String × DataW Unit) := [("math/bits.deBruijn32tab", Rows.laid_math_bits_deBruijn32tab), ("math/bits.deBruijn64tab", Rows.laid_math_bits_deBruijn64tab), ("internal/strconv.uint64pow10", Rows.laid_internal_strconv_uint64pow10)]
def bruijn32 : List Int := [0, 1, 28, 2, 29, 14, 24, 3, 30, 22, 20, 15, 25, 17, 4, 8, 31, 27, 13, 23, 21, 19, 16, 7, 26, 12, 18, 6, 11, 5, 10, 9]
def bruijn64 : List Int := [0, 1, 56, 2, 57, 49, 28, 3, 61, 58, 42, 50, 38, 29, 17, 4, 62, 47, 59, 36, 45, 43, 51, 22, 53, 39, 33, 30, 24, 18, 12, 5, 63, 55, 48, 27, 60, 41, 37, 16, 46, 35, 44, 21, 52, 32, 23, 11, 54, 26, 40, 15, 34, 20, 31, 10, 25, 14, 19, 9, 13, 8, 7, 6]
theorem laid_tail {P : Program} {W : World} {x : String × DataW Unit} {rest : List (String × DataW Unit)} (h : laidMet P (x :: rest) W) : laidMet P rest W := by
  obtain ⟨ps, hv, hn, hb⟩ := h
  obtain ⟨g, t, cs, fuel, p, q, hg, ht, hvar, hd, hq, rfl⟩ := hv
  exact ⟨q, hq, (List.nodup_append.1 hn).2.1, fun b off hm => hb b off (List.mem_append_right _ hm)⟩
theorem tab_ok {W : World} (h : laidMet Tryd.prog laid3 W) : TabOk W := by
  have h3 : laidMet Tryd.prog [("internal/strconv.uint64pow10", Lib.tabData .u64 Lib.pow10Tab)] W := laid_tail (laid_tail h)
  exact Lib.tabIs_of_head (g := 1) (by kernel_rfl) (t := 105) (by kernel_rfl) Tryd.underlying105 Tryd.underlying95 (by kernel_rfl) (by kernel_rfl) h3
/-- A world in which they hold what they are laid with. -/
noncomputable def laidWorld (os : Os) : World :=
  let w0 := World.holding Tryd.prog os ⟨#[], #[], []⟩
  { w0 with heap := ((w0.heap.modify 1 fun
      | .cells _ t frozen => .cells (Lib.pow10Tab.map fun z => Value.int .u64 z).toArray t frozen
      | o => o).modify 2 fun
      | .cells _ t frozen => .cells (bruijn32.map fun z => Value.int .u8 z).toArray t frozen
      | o => o).modify 3 fun
      | .cells _ t frozen => .cells (bruijn64.map fun z => Value.int .u8 z).toArray t frozen
      | o => o }
theorem laid_met (os : Os) (args : Array Value) : laidMet Tryd.prog laid3 ((laidWorld os).forCall (fun _ _ => 0) ⟨#[], args, []⟩).memory :=
  (LaidIn.of_run [1, 2, 3] 8 (by kernel_rfl) (by kernel_rfl) (by kernel_rfl) (by kernel_rfl)).met
theorem laid_met_h (os : Os) (args : Array Value) : laidMetH Tryd.prog laid3 ((laidWorld os).forCall (fun _ _ => 0) ⟨#[], args, []⟩).memory := laid_met os args
end Go.Proofs.YtanbplnagcmlcaaDoor

/- Layer 24: the number that digits tell. -/
namespace Go.Proofs.YtanbplnagcmlcaaDoor
open Go.RowKit
theorem sindex_run (L : List Nat) (hL : ∀ x ∈ L, x < 256) (i : Nat) (hi : i < L.length) (W : World) : (Instr.index 9 (.string (strN L)) (.int .i64 (i : Int))).run Tryd.prog W = .ok (.int .u8 ((L[i] : Nat) : Int)) W := by
  have hs := strN_size L
  rw [run_index_string W 9 (strN L) .i64 i Tryd.underlying9, dif_pos (by omega)]
  congr 2
  exact strN_get hL i hi (by omega)
theorem strN_full (L : List Nat) (h : 0 < L.length) : (strN L).toList.isEmpty = false := by
  rw [ByteArray.toList_eq, strN_data]
  cases L with
  | nil => simp at h
  | cons x l => rfl
theorem rb_at' {w : World} {B j : Nat} {A : Option Addr} {bs : List Nat} (h : RB w B A bs) (hj : j < bs.length) : ∃ ad q, A = some ad ∧ ad.add j = q ∧ q.block < B ∧ w.cell? q = some (.int .u8 ((bs[j] : Nat) : Int)) := by
  obtain ⟨ad, e, hb, hc⟩ := h.2 (by omega)
  exact ⟨ad, _, e, rfl, by rw [block_of_add]; exact hb, hc j hj⟩
theorem add0 (b j : Nat) : (⟨b, 0, none⟩ : Addr).add j = ⟨b, j, none⟩ := by unfold Addr.add; split <;> simp_all
set_option maxRecDepth 100000 in
set_option maxHeartbeats 1600000 in
theorem number_any (L : List Nat) (hd : ∀ d ∈ L, 48 ≤ d ∧ d ≤ 57) (h0 : 0 < L.length) (h13 : L.length ≤ 13) (hh : ∀ d, L[0]? = some d → 1 < L.length → d ≠ 48) (w : World) :
    Calls Tryd.prog 21 #[.string (strN L)] w fun e w' => e = .returned (.tuple #[.int .i64 (valD L : Int), .bool (decide (valD L ≤ 1099511627776))]) ∧ Below w.heap.size w w' := by
  have hL : ∀ x ∈ L, x < 256 := fun x hx => by have := hd x hx; omega
  have hsz := strN_size L
  have hne := strN_full L h0
  have hs0 : 0 < (strN L).size := by omega
  have hh0 : 1 < L.length → ((((strN L)[0]'hs0).toNat : Int) == 48) = false := fun h1 => by
    rw [strN_get hL 0 h0 hs0]
    have := hh L[0] (List.getElem?_eq_getElem h0) h1
    simp; omega
  obtain ⟨c, C, f, hrun, hc, hrb⟩ := conv_run w L hL
  have HD := Lib.hid hd
  have HRB := Lib.hid hrb
  generalize hS : strN L = S at hsz hne hs0 hh0 hrun ⊢
  clear hS hL hd hrb hh
  have d13 : decide (13 < (L.length : Int)) = false := by simp; omega
  by_cases h1 : 1 < L.length
  case' pos =>
    have e48 := hh0 h1
    clear hh0
    go_enter Tryd.func21, Tryd.ntmps21
    go_wp2
  case' neg =>
    obtain h1' : L.length = 1 := by omega
    have e1 : decide (1 < (L.length : Int)) = false := by simp; omega
    clear hh0 h1'
    go_enter Tryd.func21, Tryd.ntmps21
    go_wp2
  all_goals
    generalize hW : (World.drew _ : World) = W1 at HRB
    have HW1 : Hid (Below w.heap.size w W1) := Lib.hid (by rw [← hW]; (repeat' (first | (with_reducible exact Below.refl _ _) | (refine Below.trans ?_ (Below.mono (by with_reducible assumption) ?_)) | (with_reducible exact Below.refl _ _) | (with_reducible refine below_drewN ?_ _) | (with_reducible refine Below.drew ?_) | (with_reducible refine Below.setCell ?_ ?_ _) | (with_reducible refine Below.alloc ?_ ?_ _) | (with_reducible assumption) | (simp; done) | (simp; omega) | omega)))
    have hz1 : W1.heap.size = w.heap.size + 1 := by rw [← hW]; simp
    clear hW hrun
    go_loopw [4, 6, 27] (fun n _ i wr => ∃ j : Nat, n = .int .i64 (valD (L.take j) : Int) ∧ i = .int .i64 (j : Int) ∧ j ≤ L.length ∧ wr = W1) (fun _ _ i _ => L.length - (intOf i).toNat)
    case atStart => exact ⟨0, rfl, rfl, Nat.zero_le _, rfl⟩
    case round =>
      obtain ⟨j, rfl, rfl, hj, rfl⟩ := hrel
      by_cases hlt : j < L.length
      · obtain ⟨ad, q, e0, hq, hqb, hcell⟩ := rb_at' HRB.out hlt
        injection e0 with e0
        subst e0
        rw [add0] at hq
        subst hq
        have hqw : w.heap.size < wr.heap.size := by omega
        have hdg := HD.out L[j] (List.getElem_mem hlt)
        have hva : valD (L.take (j + 1)) = valD (L.take j) * 10 + (L[j] - 48) := by
          rw [List.take_add_one, List.getElem?_eq_getElem hlt]; exact valD_snoc _ _
        have hvb : valD (L.take j) < 10 ^ (L.take j).length := valD_lt _ (fun z hz => HD.out z (List.mem_of_mem_take hz))
        have hvc : valD (L.take j) < 10000000000000 := Nat.lt_of_lt_of_le hvb (Nat.pow_le_pow_right (by omega) (by rw [List.length_take]; omega) : 10 ^ (L.take j).length ≤ 10 ^ 13)
        generalize L[j] = d at hcell hdg hva
        generalize valD (L.take j) = v at hva hvc ⊢
        have HVA := Lib.hid hva
        clear hva hvb
        go_wp2
        go_roundw
        case rel => exact ⟨j + 1, by rw [HVA.out]; congr 1; omega, by go_num, by omega, trivial⟩
        case measure => simp [intOf]; omega
      · obtain rfl : j = L.length := by omega
        rw [List.take_length]
        go_wp2
        (try simp only [Exit.inBlock, Exit.then]); refine bodyPost_ret (by simp [results, Tryd.results21, go_sem, *]; try rfl) rfl ?_
        exact ⟨by simp; omega, HW1.out⟩
end Go.Proofs.YtanbplnagcmlcaaDoor

/- Layer 24: bytes as a text. -/
namespace Go.Proofs.YtanbplnagcmlcaaDoor
open Go.RowKit
def escL (c : Nat) : List Nat := if plainB c then [c] else [92, 48 + c / 64, 48 + c / 8 % 8, 48 + c % 8]
def bodyL (bs : List Nat) : List Nat := bs.flatMap escL
def quoteL (bs : List Nat) : List Nat := 34 :: (bodyL bs ++ [34])
theorem escL_lt {c : Nat} (hc : c < 256) : ∀ x ∈ escL c, x < 256 := by
  unfold escL
  intro x hx
  split at hx
  · rw [List.mem_singleton] at hx; omega
  · simp at hx; omega
theorem bodyL_lt {bs : List Nat} (h : ∀ x ∈ bs, x < 256) : ∀ x ∈ bodyL bs, x < 256 := by
  intro x hx
  obtain ⟨c, hc, hx⟩ := List.mem_flatMap.1 hx
  exact escL_lt (h c hc) x hx
theorem quoteL_lt {bs : List Nat} (h : ∀ x ∈ bs, x < 256) : ∀ x ∈ quoteL bs, x < 256 := by
  intro x hx
  unfold quoteL at hx
  rcases List.mem_cons.1 hx with rfl | hx
  · omega
  · rcases List.mem_append.1 hx with hx | hx
    · exact bodyL_lt h x hx
    · rw [List.mem_singleton] at hx; omega
theorem escL_len (c : Nat) : 1 ≤ (escL c).length ∧ (escL c).length ≤ 4 := by unfold escL; split <;> simp
theorem bodyL_len (bs : List Nat) : (bodyL bs).length ≤ 4 * bs.length := by
  induction bs with
  | nil => simp [bodyL]
  | cons c l ih =>
    unfold bodyL at ih ⊢
    rw [List.flatMap_cons, List.length_append, List.length_cons]
    have := (escL_len c).2
    omega
theorem bodyL_snoc (l : List Nat) (c : Nat) : bodyL (l ++ [c]) = bodyL l ++ escL c := by unfold bodyL; simp
theorem scr_nums (L : List Nat) : strOfNums (L.map Int.ofNat) = strN L := by
  unfold strOfNums strN
  rw [List.map_map]; rfl
theorem str_of_ob {W : World} {base : Nat} {v : Value} {L : List Nat} (h : OB W base v L) (h0 : 0 < L.length) :
    (convert 27 9 v).run Tryd.prog W = .ok (.string (strN L)) W := by
  obtain ⟨A, c, hv, hc, hr, hA⟩ := h.slice
  obtain ⟨hb, hl, h' | ⟨g, cap, cur, hv', hg, hh, hn, hm, hs, ht⟩⟩ := h
  · exact absurd h'.2 (by omega)
  · rw [hv'] at hv
    simp only [Value.slice.injEq] at hv
    obtain ⟨e1, _, e3⟩ := hv
    subst e1
    subst e3
    obtain ⟨ad, e, hab, hcell⟩ := hr.2 h0
    simp only [Option.some.injEq] at e
    subst e
    rw [hv', ← scr_nums]
    refine run_convert_bytes_arg (P := Tryd.prog) W 27 5 Tryd.underlying27 Tryd.underlying5 g 0 L.length cap (L.map Int.ofNat) (by rw [List.length_map]) (fun i hi => ?_) 9 Tryd.underlying9
    have := hcell i hi
    rw [add0] at this
    rw [Nat.zero_add, this]
    simp [List.getD_eq_getElem?_getD, List.getElem?_eq_getElem hi]
theorem rb_esc (W : World) (x : Nat) (hx : x < 256) : RB (W.alloc (.cells #[.int .u8 92, .int .u8 (48 + (x : Int) / 64), .int .u8 (48 + (x : Int) / 8 % 8), .int .u8 (48 + (x : Int) % 8)] 5)) (W.heap.size + 1) (some ⟨W.heap.size, 0, none⟩) [92, 48 + x / 64, 48 + x / 8 % 8, 48 + x % 8] := by
  have h := rb_row W [92, 48 + x / 64, 48 + x / 8 % 8, 48 + x % 8] (by simp; omega) 5 (0, 0)
  have e : nums [92, 48 + x / 64, 48 + x / 8 % 8, 48 + x % 8] = #[.int .u8 92, .int .u8 (48 + (x : Int) / 64), .int .u8 (48 + (x : Int) / 8 % 8), .int .u8 (48 + (x : Int) % 8)] := by simp [nums]
  rw [e] at h
  exact h
theorem rb_one (W : World) (x : Nat) (hx : x < 256) : RB (W.alloc (.cells #[.int .u8 (x : Int)] 5)) (W.heap.size + 1) (some ⟨W.heap.size, 0, none⟩) [x] := rb_row W [x] (by simpa using hx) 5 (0, 0)
set_option maxRecDepth 100000 in
set_option maxHeartbeats 1600000 in
theorem quoted_any (A : Option Addr) (c : Nat) (bs : List Nat) (hc : bs.length ≤ c) (hm : bs.length ≤ 100000) (w : World) (B : Nat) (hB : B ≤ w.heap.size) (hr : RB w B A bs) :
    Calls Tryd.prog 18 #[.slice A bs.length c] w fun e w' => e = .returned (.string (strN (quoteL bs))) ∧ Below w.heap.size w w' := by
  have HR := Lib.hid hr
  clear hr
  go_enter Tryd.func18, Tryd.ntmps18
  go_wp2
  have ho := OB.lit w [34] (base := w.heap.size) (by decide) (Nat.le_refl _) (by unfold maxLen; simp)
  generalize hW : (World.alloc _ _ : World) = W1
  have hW' : w.alloc (.cells (nums [34]) 5) = W1 := hW
  rw [hW'] at ho
  have hb1 : Below w.heap.size w W1 := by rw [← hW]; (repeat' (first | (with_reducible exact Below.refl _ _) | (refine Below.trans ?_ (Below.mono (by with_reducible assumption) ?_)) | (with_reducible exact Below.refl _ _) | (with_reducible refine below_drewN ?_ _) | (with_reducible refine Below.drew ?_) | (with_reducible refine Below.setCell ?_ ?_ _) | (with_reducible refine Below.alloc ?_ ?_ _) | (with_reducible assumption) | (simp; done) | (simp; omega) | omega))
  have HO := Lib.hid ho
  have HB := Lib.hid hb1
  clear ho hb1 hW hW'
  go_loopw [3, 5, 9] (fun v _ i wr => ∃ j : Nat, i = .int .i64 (j : Int) ∧ j ≤ bs.length ∧ Hid (OB wr w.heap.size v (34 :: bodyL (bs.take j))) ∧ Hid (Below w.heap.size w wr)) (fun _ _ i _ => bs.length - (intOf i).toNat)
  case atStart => exact ⟨0, rfl, Nat.zero_le _, HO, HB⟩
  case round =>
    obtain ⟨j, rfl, hj, HOr, HBr⟩ := hrel
    have hzr := HBr.out.size
    obtain ⟨Av, cv, rfl, hcv, _, _⟩ := HOr.out.slice
    by_cases hlt : j < bs.length
    · obtain ⟨ad, q, rfl, hq, hqb, hcell⟩ := rb_at' (HR.out.below (HBr.out.mono hB)) hlt
      have hqw : q.block < wr.heap.size := by omega
      have hc256 : bs[j] < 256 := HR.out.1 _ (List.getElem_mem hlt)
      have hsn : bs.take (j + 1) = bs.take j ++ [bs[j]] := by rw [List.take_add_one, List.getElem?_eq_getElem hlt]; rfl
      generalize bs[j] = x at hcell hc256 hsn
      have HSN := Lib.hid hsn
      have hlen := bodyL_len (bs.take j)
      rw [List.length_take] at hlen
      clear hsn
      have hpl := fun W => plain_any x hc256 W
      cases hp : plainB x
      · rw [hp] at hpl
        have HPL := Lib.hid hpl
        have HP := Lib.hid hp
        clear hp hpl
        go_wp2_with (first
          | (go_at_call 27; (with_reducible refine (HPL.out _).mono ?_); rintro e w5 ⟨rfl, rfl⟩)
          | (at_builtin; (with_reducible refine wpList_appB rfl (.tmp 19) (.tmp 30) rfl w.heap.size (by simp; omega) (.slice Av (34 :: bodyL (bs.take j)).length cv) _ (by simp [Act.eval, Act.put]) (HOr.out.alloc _) (some ⟨w5.heap.size, 0, none⟩) 4 4 [92, 48 + x / 64, 48 + x / 8 % 8, 48 + x % 8] _ (by simp [Act.eval, Act.put]) rfl (by intro e; cases e) (rb_esc w5 x hc256) (by simp; omega) ?_); intro v9 w9 ho9 hg9; have HB9 := Lib.hid (OB.below (HOr.out.alloc _) hg9 (show Below w.heap.size w _ from HBr.out.alloc hzr _) (Nat.le_refl _) (by simp; omega)); have HO9 := Lib.hid ho9; obtain ⟨A9, c9, hv9, hc9, _, _⟩ := ho9.slice; subst hv9; clear ho9 hg9)
          | fail)
        go_roundw
        case rel => exact ⟨j + 1, by go_num, by omega, Lib.hid (by rw [HSN.out, bodyL_snoc, show escL x = [92, 48 + x / 64, 48 + x / 8 % 8, 48 + x % 8] from by unfold escL; rw [HP.out]; rfl]; have h9 := HO9.out; simp only [List.length_cons, List.length_append, List.length_nil, List.cons_append] at h9 ⊢; exact h9), HB9⟩
        case measure => simp [intOf]; omega
      · rw [hp] at hpl
        have HPL := Lib.hid hpl
        have HP := Lib.hid hp
        clear hp hpl
        go_wp2_with (first
          | (go_at_call 27; (with_reducible refine (HPL.out _).mono ?_); rintro e w5 ⟨rfl, rfl⟩)
          | (at_builtin; (with_reducible refine wpList_appB rfl (.tmp 15) (.tmp 17) rfl w.heap.size (by simp; omega) (.slice Av (34 :: bodyL (bs.take j)).length cv) _ (by simp [Act.eval, Act.put]) (HOr.out.alloc _) (some ⟨w5.heap.size, 0, none⟩) 1 1 [x] _ (by simp [Act.eval, Act.put]) rfl (by intro e; cases e) (rb_one w5 x hc256) (by simp; omega) ?_); intro v9 w9 ho9 hg9; have HB9 := Lib.hid (OB.below (HOr.out.alloc _) hg9 (show Below w.heap.size w _ from HBr.out.alloc hzr _) (Nat.le_refl _) (by simp; omega)); have HO9 := Lib.hid ho9; obtain ⟨A9, c9, hv9, hc9, _, _⟩ := ho9.slice; subst hv9; clear ho9 hg9)
          | fail)
        go_roundw
        case rel => exact ⟨j + 1, by go_num, by omega, Lib.hid (by rw [HSN.out, bodyL_snoc, show escL x = [x] from by unfold escL; rw [HP.out]; rfl]; have h9 := HO9.out; simp only [List.length_cons, List.length_append, List.length_nil, List.cons_append] at h9 ⊢; exact h9), HB9⟩
        case measure => simp [intOf]; omega
    · obtain rfl : j = bs.length := by omega
      rw [List.take_length] at HOr
      have hlen := bodyL_len bs
      go_wp2_with (first
        | (at_builtin; (with_reducible refine wpList_appB rfl (.tmp 33) (.tmp 34) rfl w.heap.size (by simp; omega) (.slice Av (34 :: bodyL bs).length cv) _ (by simp [Act.eval, Act.put]) (HOr.out.alloc _) (some ⟨wr.heap.size, 0, none⟩) 1 1 [34] _ (by simp [Act.eval, Act.put]) rfl (by intro e; cases e) (rb_one wr 34 (by decide)) (by simp; omega) ?_); intro v9 w9 ho9 hg9; have HB9 := Lib.hid (OB.below (HOr.out.alloc _) hg9 (show Below w.heap.size w _ from HBr.out.alloc hzr _) (Nat.le_refl _) (by simp; omega)); have HO9 := Lib.hid ho9; obtain ⟨A9, c9, hv9, hc9, _, _⟩ := ho9.slice; subst hv9; have hcv : (convert 27 9 (.slice A9 ((bodyL bs).length + 1 + 1) c9)).run Tryd.prog w9 = .ok (.string (strN (quoteL bs))) w9 := (by have h8 := str_of_ob HO9.out (by simp); simp only [List.length_cons, List.length_append, List.length_nil, List.cons_append] at h8; exact h8); clear ho9 hg9)
        | fail)
      (try simp only [Exit.inBlock, Exit.then]); refine bodyPost_ret (by simp [results, Tryd.results18, go_sem, *]; try rfl) rfl ?_
      exact ⟨rfl, HB9.out⟩
end Go.Proofs.YtanbplnagcmlcaaDoor
