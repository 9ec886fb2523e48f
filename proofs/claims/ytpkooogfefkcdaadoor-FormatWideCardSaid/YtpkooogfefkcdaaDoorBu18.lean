/- Several texts put together: NumM, Ints, Dig, RefA, RefB, RefD, RefE, NumK, RefF, NumJ. -/
import Derived.Test.YtpkooogfefkcdaaDoorBu17
import Derived.Test.YtpkooogfefkcdaaDoorBu1
import Derived.Laws.AppendOwnNone
import Derived.Below
import Derived.Laws.IdiomStrings
import Derived.Laws.BitsAllLaws
import Derived.Test.YtpkooogfefkcdaaDoorBu6
import Derived.Lib.SlBytesConst
/- Plain: a text of digits read as a numeral. -/
namespace Go.Proofs.YtpkooogfefkcdaaDoor
open Go.RowKit
def NoDig (r : List Nat) : Prop := ∀ x, r.head? = some x → digB x = false
theorem digB_of {x : Nat} (h : 48 ≤ x ∧ x ≤ 57) : digB x = true := by unfold digB; simp; omega
theorem span_app {W r : List Nat} (hW : AllDig W) (hr : NoDig r) : span digB (W ++ r) = W.length := by
  induction W with
  | nil =>
    cases r with
    | nil => rfl
    | cons x r => simp [span, hr x rfl]
  | cons c W ih =>
    have hc := digB_of (hW c List.mem_cons_self)
    simp only [List.cons_append, span, hc, if_true, List.length_cons]
    rw [ih (fun x hx => hW x (List.mem_cons_of_mem _ hx))]
theorem blank_dig {x : Nat} (h : 48 ≤ x ∧ x ≤ 57) : blankB x = false := by unfold blankB; simp; omega
structure Parsed (bs : List Nat) (neg : Bool) (W f : List Nat) (n : Nat) : Prop where
  hneg : sneg bs = neg
  hW : nW bs = W.length
  hwhole : wholeL bs = W
  hB : nB bs = f.length
  hbehind : behindL bs = f
  hI3 : nI3 bs = n
theorem parse (neg : Bool) (W D f rest : List Nat) (hW : AllDig W) (hne : 0 < W.length) (hf : AllDig f) (hD : (D = [] ∧ f = [] ∧ rest.head? ≠ some 46) ∨ D = 46 :: f) (hr : NoDig rest) :
    Parsed ((if neg then [45] else []) ++ W ++ D ++ rest) neg W f ((if neg then 1 else 0) + W.length + D.length) := by
  obtain ⟨x, W', rfl⟩ : ∃ x W', W = x :: W' := by cases W with | nil => simp at hne | cons x W' => exact ⟨x, W', rfl⟩
  have hx := hW x List.mem_cons_self
  obtain ⟨bs, hbs⟩ : ∃ bs, bs = (if neg then [45] else []) ++ (x :: W') ++ D ++ rest := ⟨_, rfl⟩
  rw [← hbs]
  have h1 : span blankB bs = 0 := by
    rw [hbs]; cases neg
    · simp [span, blank_dig hx]
    · simp [span, blankB]
  have h2 : sgn bs = (if neg then 1 else 0) ∧ sneg bs = neg := by
    unfold sgn sneg; rw [h1, hbs]
    cases neg
    · simp; omega
    · simp
  have h3 : nI1 bs = (if neg then 1 else 0) := by unfold nI1; rw [h1, h2.1]; omega
  have h4 : bs.drop (nI1 bs) = (x :: W') ++ (D ++ rest) := by
    rw [h3, hbs]; cases neg <;> simp
  have hnd : NoDig (D ++ rest) := by
    rcases hD with ⟨rfl, _⟩ | rfl
    · simpa using hr
    · intro y hy; simp at hy; subst hy; rfl
  have h5 : nW bs = (x :: W').length := by unfold nW; rw [h4]; exact span_app hW hnd
  have h6 : wholeL bs = x :: W' := by unfold wholeL; rw [h4, h5]; simp
  have h7 : nI2 bs = (if neg then 1 else 0) + (x :: W').length := by unfold nI2; rw [h3, h5]
  have h8 : bs.drop (nI2 bs) = D ++ rest := by
    unfold nI2; rw [← List.drop_drop, h4, h5]; simp
  have h9 : bs.drop (nI2 bs + 1) = (D ++ rest).drop 1 := by rw [← List.drop_drop, h8]
  rcases hD with ⟨rfl, rfl, h46⟩ | rfl
  · have hd : nDot bs = false := by
      unfold nDot; rw [h8, List.nil_append]
      simpa using h46
    have hB : nB bs = 0 := by unfold nB; rw [hd]; rfl
    refine ⟨h2.2, h5, h6, hB, by unfold behindL; rw [hB]; rfl, ?_⟩
    unfold nI3; rw [hd, h7]; simp
  · have hd : nDot bs = true := by unfold nDot; rw [h8]; rfl
    have hB : nB bs = f.length := by
      unfold nB; rw [hd, h9]; exact span_app hf hr
    refine ⟨h2.2, h5, h6, hB, by unfold behindL; rw [h9, hB]; simp, ?_⟩
    unfold nI3; rw [hd, h7, hB]; simp; omega
theorem dv_strip (l : List Nat) : dv 0 (strip l) = dv 0 l := by
  induction l with
  | nil => rfl
  | cons c l ih =>
    by_cases h : c = 48
    · subst h; rw [strip_cons_zero, ih]; rfl
    · rw [strip_cons_other h]
theorem strip_len (l : List Nat) : (strip l).length ≤ l.length := (List.dropWhile_sublist _).length_le
theorem strip_zeros (m : Nat) (l : List Nat) : strip (List.replicate m 48 ++ l) = strip l := by
  induction m with
  | zero => simp
  | succ m ih => rw [List.replicate_succ, List.cons_append, strip_cons_zero, ih]
theorem digs_succ (k W : Nat) (T : List Nat) : digs (k + 1) W T = if W / 10 = 0 then (48 + W % 10) :: T else digs k (W / 10) ((48 + W % 10) :: T) := rfl
theorem digs_app : ∀ (k V : Nat) (T : List Nat), digs k V T = digs k V [] ++ T := by
  intro k
  induction k with
  | zero => intro V T; rfl
  | succ k ih =>
    intro V T
    unfold digs; split
    · rfl
    · rw [ih _ (_ :: T), ih _ [_], List.append_assoc]; rfl
theorem digs_dig : ∀ (k V : Nat) (T : List Nat), AllDig T → AllDig (digs k V T) := by
  intro k
  induction k with
  | zero => intro V T h; exact h
  | succ k ih =>
    intro V T h
    have hc : AllDig ((48 + V % 10) :: T) := by
      intro x hx
      rcases List.mem_cons.1 hx with rfl | hx
      · omega
      · exact h x hx
    unfold digs; split
    · exact hc
    · exact ih _ _ hc
theorem dv_cons (N c : Nat) (l : List Nat) : dv N (c :: l) = dv (N * 10 + (c - 48)) l := by unfold dv; rw [List.foldl_cons]
theorem dv_digs : ∀ (k V : Nat) (T : List Nat), V < 10 ^ k → dv 0 (digs k V T) = dv V T := by
  intro k
  induction k with
  | zero => intro V T h; have : V = 0 := by omega
            subst this; rfl
  | succ k ih =>
    intro V T h
    rw [Nat.pow_succ] at h
    rw [digs_succ]; split
    · rw [dv_cons, show 0 * 10 + (48 + V % 10 - 48) = V by omega]
    · rw [ih _ _ (by omega), dv_cons, show V / 10 * 10 + (48 + V % 10 - 48) = V by omega]
theorem digs_fuel : ∀ (k V : Nat) (T : List Nat), V < 10 ^ (k + 1) → digs (k + 2) V T = digs (k + 1) V T := by
  intro k
  induction k with
  | zero =>
    intro V T h
    have h0 : V / 10 = 0 := by omega
    simp [digs, h0]
  | succ k ih =>
    intro V T h
    rw [Nat.pow_succ] at h
    rw [digs_succ (k + 2) V]
    have e := digs_succ (k + 1) V T
    have i := ih (V / 10) ((48 + V % 10) :: T) (by omega)
    rw [i]
    exact e.symm
theorem digs_30 (V : Nat) (h : V < 1000000000000000000000000000000) : (digs 31 V []).length ≤ 30 := by
  rw [digs_fuel 29 V [] (by omega)]
  simpa using digs_len 30 V []
theorem frs_dig (F : Nat) : ∀ k, AllDig (frs F k) := by
  intro k
  induction k with
  | zero => intro x hx; simp [frs] at hx
  | succ k ih =>
    unfold frs; split
    · intro x hx
      rcases List.mem_cons.1 hx with rfl | hx
      · omega
      · exact ih x hx
    · intro x hx; simp at hx
theorem frs_getD (F : Nat) : ∀ (k i : Nat), i < k → (frs F k).getD i 48 = 48 + F / 10 ^ (k - 1 - i) % 10 := by
  intro k
  induction k with
  | zero => intro i h; omega
  | succ k ih =>
    intro i h
    unfold frs; split
    · cases i with
      | zero => simp
      | succ i => rw [List.getD_cons_succ, ih i (by omega), show k + 1 - 1 - (i + 1) = k - 1 - i by omega]
    · rename_i hc
      have hc1 : F / 10 ^ k % 10 = 0 := by omega
      have hc2 : (frs F k).length = 0 := by omega
      have hc3 : frs F k = [] := List.length_eq_zero_iff.1 hc2
      rw [show ([] : List Nat).getD i 48 = 48 by simp]
      cases i with
      | zero => simp [hc1]
      | succ i =>
        have := ih i (by omega)
        rw [hc3] at this
        rw [show ([] : List Nat).getD i 48 = 48 by simp] at this
        rw [show k + 1 - 1 - (i + 1) = k - 1 - i by omega]
        exact this
theorem fr_congr {l l' : List Nat} (N : Nat) : ∀ k, (∀ i, i < k → l.getD i 48 = l'.getD i 48) → fr N l k = fr N l' k := by
  intro k
  induction k with
  | zero => intro _; rfl
  | succ k ih =>
    intro h
    show fr N l k * 10 + (l.getD k 48 - 48) = fr N l' k * 10 + (l'.getD k 48 - 48)
    rw [ih (fun i hi => h i (by omega)), h k (by omega)]
theorem getD_zeros (l : List Nat) (m i : Nat) : (l ++ List.replicate m 48).getD i 48 = l.getD i 48 := by
  rw [List.getD_eq_getElem?_getD, List.getD_eq_getElem?_getD, List.getElem?_append]
  split
  · rfl
  · rename_i h
    rw [List.getElem?_eq_none (by omega : l.length ≤ i), List.getElem?_replicate]
    split <;> rfl
theorem fr_ind (N F : Nat) (L : List Nat) (hF : F < 1000000) (g : ∀ i, i < 6 → L.getD i 48 = 48 + F / 10 ^ (5 - i) % 10) : ∀ j, j ≤ 6 → fr N L j = N * 10 ^ j + F / 10 ^ (6 - j) := by
  intro j
  induction j with
  | zero => intro _; rw [Nat.div_eq_of_lt (by simpa using hF)]; simp [fr]
  | succ j ih =>
    intro hj
    have e : F / 10 ^ (6 - j) = F / 10 ^ (6 - (j + 1)) / 10 := by
      rw [Nat.div_div_eq_div_mul, ← Nat.pow_succ, show (6 - (j + 1)).succ = 6 - j by omega]
    have gj := g j (by omega)
    rw [show 5 - j = 6 - (j + 1) by omega] at gj
    have i := ih (by omega)
    rw [e] at i
    have s : fr N L (j + 1) = fr N L j * 10 + (L.getD j 48 - 48) := by simp only [fr]
    rw [s, i, gj, Nat.pow_succ, ← Nat.mul_assoc]
    generalize N * 10 ^ j = M
    generalize F / 10 ^ (6 - (j + 1)) = X
    omega
theorem fr_lem (N F : Nat) (L : List Nat) (hF : F < 1000000) (g : ∀ i, i < 6 → L.getD i 48 = 48 + F / 10 ^ (5 - i) % 10) : fr N L 6 = N * 1000000 + F := by
  have := fr_ind N F L hF g 6 (by decide)
  simpa using this
theorem fr_frs (N F m : Nat) (hF : F < 1000000) : fr N (frs F 6 ++ List.replicate m 48) 6 = N * 1000000 + F := by
  refine fr_lem N F _ hF fun i hi => ?_
  rw [getD_zeros]
  exact frs_getD F 6 i hi
/-- What a text of digits, with zeros ahead and behind, is read as. -/
theorem Parsed.num {bs : List Nat} {neg : Bool} {n V F m m' : Nat} (h : Parsed bs neg (List.replicate m 48 ++ digs 31 V []) (frs F 6 ++ List.replicate m' 48) n) (hV : V < 1000000000000000000000000000000) (hF : F < 1000000) :
    numN bs = V * 1000000 + F ∧ (strip (wholeL bs)).length ≤ 30 ∧ 0 < nW bs + nB bs := by
  refine ⟨?_, ?_, ?_⟩
  · unfold numN
    rw [h.hwhole, h.hbehind, fr_frs _ _ _ hF, strip_zeros, dv_strip, dv_digs 31 V [] (Nat.lt_of_lt_of_le hV (by decide)), show dv V [] = V from rfl]
  · rw [h.hwhole, strip_zeros]
    exact Nat.le_trans (strip_len _) (digs_30 V hV)
  · rw [h.hW, List.length_append]
    have : 1 ≤ (digs 31 V []).length := digs_pos 30 V []
    omega
theorem Parsed.looks {bs : List Nat} {neg : Bool} {W f : List Nat} (h : Parsed bs neg W f bs.length) (hW : 0 < W.length) : looksB bs = true := by
  unfold looksB
  rw [h.hI3, h.hW, Bool.and_eq_true, decide_eq_true_eq, decide_eq_true_eq]
  exact ⟨by omega, by simp [span]⟩
theorem Parsed.z {bs : List Nat} {neg : Bool} {W f : List Nat} {n : Nat} (h : Parsed bs neg W f n) : pz bs = if neg then -(numN bs : Int) else (numN bs : Int) := by
  unfold pz; rw [h.hneg]
theorem nil_zeros (F : Nat) : frs F 6 = frs F 6 ++ List.replicate 0 48 := by simp
theorem frs_zero : ∀ k, frs 0 k = [] := by
  intro k
  induction k with
  | zero => rfl
  | succ k ih => simp [frs, ih]
/-- A number's own text, and something behind it that is of no numeral, is read as it was. -/
theorem text_parse (z : Int) (rest : List Nat) (h1 : NoDig rest) (h2 : rest.head? ≠ some 46) :
    Parsed (textL z ++ rest) (decide (z < 0)) (digs 31 (z.natAbs / 1000000) []) (frs (z.natAbs % 1000000) 6) (textL z).length := by
  have hD : (frP (z.natAbs % 1000000) = [] ∧ frs (z.natAbs % 1000000) 6 = [] ∧ rest.head? ≠ some 46) ∨ frP (z.natAbs % 1000000) = 46 :: frs (z.natAbs % 1000000) 6 := by
    unfold frP; split
    · rename_i h; left; rw [h]; exact ⟨rfl, frs_zero 6, h2⟩
    · right; rfl
  have key := parse (decide (z < 0)) (digs 31 (z.natAbs / 1000000) []) (frP (z.natAbs % 1000000)) (frs (z.natAbs % 1000000) 6) rest (digs_dig _ _ _ (by intro x hx; simp at hx)) (digs_pos 30 _ _) (frs_dig _ _) hD h1
  have e : textL z = (if decide (z < 0) = true then [45] else []) ++ digs 31 (z.natAbs / 1000000) [] ++ frP (z.natAbs % 1000000) := by
    unfold textL; rw [digs_app _ _ (frP _), List.append_assoc]; simp only [decide_eq_true_eq]
  rw [e]
  have hl : ((if decide (z < 0) = true then [45] else []) ++ digs 31 (z.natAbs / 1000000) [] ++ frP (z.natAbs % 1000000)).length = (if decide (z < 0) = true then 1 else 0) + (digs 31 (z.natAbs / 1000000) []).length + (frP (z.natAbs % 1000000)).length := by
    rw [List.length_append, List.length_append]; split <;> rfl
  rw [hl]; exact key
theorem text_read (z : Int) (rest : List Nat) (h1 : NoDig rest) (h2 : rest.head? ≠ some 46) (hz : z.natAbs < LIM) :
    pz (textL z ++ rest) = z ∧ nI3 (textL z ++ rest) = (textL z).length ∧ (strip (wholeL (textL z ++ rest))).length ≤ 30 ∧ 0 < nW (textL z ++ rest) + nB (textL z ++ rest) := by
  have h := text_parse z rest h1 h2
  have hN : z.natAbs < 1000000000000000000000000000000000000 := by unfold LIM at hz; omega
  have h' : Parsed (textL z ++ rest) (decide (z < 0)) (List.replicate 0 48 ++ digs 31 (z.natAbs / 1000000) []) (frs (z.natAbs % 1000000) 6 ++ List.replicate 0 48) (textL z).length := by simpa using h
  obtain ⟨e1, e2, e3⟩ := h'.num (by omega) (by omega)
  refine ⟨?_, h.hI3, e2, e3⟩
  rw [h.z, e1]
  by_cases hz0 : z < 0 <;> simp only [hz0, decide_true, decide_false, if_true, Bool.false_eq_true, if_false] <;> omega
def hasDot (l : List Nat) : Bool := l.contains 46
theorem take_has (L : List Nat) (k : Nat) (h : k < L.length) : hasDot (L.take (k + 1)) = (hasDot (L.take k) || (L[k] == 46)) := by
  unfold hasDot
  rw [List.take_succ_eq_append_getElem h, List.contains_append]
  congr 1
  simp only [List.contains_cons, List.contains_nil, Bool.or_false]
  rw [Bool.eq_iff_iff]; simp only [beq_iff_eq]; exact eq_comm
theorem no_dot {l : List Nat} (h : AllDig l) : l.contains 46 = false := by
  rw [Bool.eq_false_iff]
  intro hc
  have := h 46 (by simpa using hc)
  omega
/-- A text of no negative number, with its point. -/
def dotted (z : Int) : List Nat := digs 31 (z.natAbs / 1000000) [] ++ 46 :: frs (z.natAbs % 1000000) 6
theorem text_dot (z : Int) (h : 0 ≤ z) : (hasDot (textL z) = true ∧ textL z = dotted z) ∨ (hasDot (textL z) = false ∧ textL z ++ [46] = dotted z) := by
  unfold hasDot
  have e : textL z = digs 31 (z.natAbs / 1000000) [] ++ frP (z.natAbs % 1000000) := by
    unfold textL; rw [if_neg (by omega), List.nil_append, digs_app]
  have hd := no_dot (digs_dig 31 (z.natAbs / 1000000) [] (by intro x hx; simp at hx))
  unfold dotted
  rw [e]
  by_cases hF : z.natAbs % 1000000 = 0
  · right
    rw [hF]
    have : frP 0 = [] := rfl
    rw [this, frs_zero, List.append_nil]
    exact ⟨hd, rfl⟩
  · left
    have : frP (z.natAbs % 1000000) = 46 :: frs (z.natAbs % 1000000) 6 := by unfold frP; rw [if_neg hF]
    rw [this]
    exact ⟨by rw [List.contains_append]; simp, rfl⟩
theorem dig_bytes {l : List Nat} (h : AllDig l) : Bytes l := fun x hx => by have := h x hx; omega
theorem bytes_app {l m : List Nat} (hl : Bytes l) (hm : Bytes m) : Bytes (l ++ m) := fun x hx => by
  rcases List.mem_append.1 hx with hx | hx
  · exact hl x hx
  · exact hm x hx
theorem bytes_rep (k : Nat) : Bytes (List.replicate k 48) := fun x hx => by rw [(List.mem_replicate.1 hx).2]; decide
theorem dotted_bytes (z : Int) : Bytes (dotted z) := by
  unfold dotted
  refine bytes_app (dig_bytes (digs_dig _ _ _ (by intro x hx; simp at hx))) ?_
  intro x hx
  rcases List.mem_cons.1 hx with rfl | hx
  · decide
  · exact dig_bytes (frs_dig _ 6) x hx
/-- Zeros ahead, zeros behind: it is read as it was. -/
theorem dotted_read (z : Int) (h : 0 ≤ z) (hz : z.natAbs < LIM) (a b : Nat) :
    let bs := List.replicate a 48 ++ dotted z ++ List.replicate b 48
    pz bs = z ∧ nI3 bs = bs.length ∧ (strip (wholeL bs)).length ≤ 30 ∧ 0 < nW bs + nB bs := by
  intro bs
  have hN : z.natAbs < 1000000000000000000000000000000000000 := by unfold LIM at hz; omega
  have hz0 : AllDig (List.replicate a 48) := fun x hx => by rw [(List.mem_replicate.1 hx).2]; decide
  have hz1 : AllDig (List.replicate b 48) := fun x hx => by rw [(List.mem_replicate.1 hx).2]; decide
  have app : ∀ {l m : List Nat}, AllDig l → AllDig m → AllDig (l ++ m) := fun hl hm x hx => by
    rcases List.mem_append.1 hx with hx | hx
    · exact hl x hx
    · exact hm x hx
  have hpos : 1 ≤ (digs 31 (z.natAbs / 1000000) []).length := digs_pos 30 _ _
  have key := parse false (List.replicate a 48 ++ digs 31 (z.natAbs / 1000000) []) (46 :: (frs (z.natAbs % 1000000) 6 ++ List.replicate b 48)) (frs (z.natAbs % 1000000) 6 ++ List.replicate b 48) [] (app hz0 (digs_dig _ _ _ (by intro x hx; simp at hx))) (by rw [List.length_append]; omega) (app (frs_dig _ _) hz1) (.inr rfl) (by intro x hx; simp at hx)
  have e : (if false = true then [45] else []) ++ (List.replicate a 48 ++ digs 31 (z.natAbs / 1000000) []) ++ (46 :: (frs (z.natAbs % 1000000) 6 ++ List.replicate b 48)) ++ [] = bs := by
    simp [bs, dotted]
  rw [e] at key
  obtain ⟨e1, e2, e3⟩ := key.num (by omega) (by omega)
  refine ⟨?_, ?_, e2, e3⟩
  · rw [key.z, e1]
    simp only [Bool.false_eq_true, if_false]; omega
  · rw [key.hI3, ← e]; simp; omega
end Go.Proofs.YtpkooogfefkcdaaDoor

/- Slices of ints: as lists; those that a call has made: appending to them. -/
namespace Go.Proofs.YtpkooogfefkcdaaDoor
open Go.RowKit
/-- A slice of ints reads as a list, below block B. -/
def RI (w : World) (B : Nat) (A : Option Addr) (bs : List Nat) : Prop :=
  (0 < bs.length → ∃ ad, A = some ad ∧ ad.block < B ∧ ∀ j (h : j < bs.length), w.cell? (ad.add j) = some (.int .i64 ((bs[j] : Nat) : Int)))
section
variable {w w' : World} {B B' : Nat} {A : Option Addr} {bs : List Nat}
theorem RI.keep (h : RI w B A bs) (hk : ∀ p : Addr, p.block < B → w'.cell? p = w.cell? p) : RI w' B A bs :=
  fun hn => by
    obtain ⟨ad, e, hb, hc⟩ := h hn
    exact ⟨ad, e, hb, fun j hj => (hk _ (by rw [block_of_add]; exact hb)).trans (hc j hj)⟩
theorem RI.below (h : RI w B A bs) (hb : Below B w w') : RI w' B A bs := h.keep fun _ hp => hb.cell hp
theorem RI.more (h : RI w B A bs) (hB : B ≤ B') : RI w B' A bs :=
  fun hn => by
    obtain ⟨ad, e, hb, hc⟩ := h hn
    exact ⟨ad, e, by omega, hc⟩
theorem RI.cut (h : RI w B A bs) {k cap : Nat} (hc : bs.length ≤ cap) : RI w B (if cap = k then A else A.map (·.add k)) (bs.drop k) := by
  intro hn
  rw [List.length_drop] at hn
  obtain ⟨ad, rfl, hb, hcell⟩ := h (by omega)
  rw [if_neg (by omega)]
  refine ⟨ad.add k, rfl, by rw [block_of_add]; exact hb, fun j hj => ?_⟩
  rw [List.length_drop] at hj
  rw [add_of_add, List.getElem_drop]
  exact hcell (k + j) (by omega)
theorem RI.take (h : RI w B A bs) (k : Nat) : RI w B A (bs.take k) := by
  intro hn
  rw [List.length_take] at hn
  obtain ⟨ad, e, hb, hcell⟩ := h (by omega)
  refine ⟨ad, e, hb, fun j hj => ?_⟩
  rw [List.length_take] at hj
  rw [List.getElem_take]
  exact hcell j (by omega)
theorem RI.nil : RI w B A [] := by intro h; simp at h
end
theorem ri_of {w : World} {B b : Nat} {bs : List Nat} (h : b < B) (hc : ∀ j (h : j < bs.length), w.cell? ⟨b, j, none⟩ = some (.int .i64 ((bs[j] : Nat) : Int))) : RI w B (some ⟨b, 0, none⟩) bs := by
  refine fun _ => ⟨_, rfl, h, fun j hj => ?_⟩
  have : (⟨b, 0, none⟩ : Addr).add j = ⟨b, j, none⟩ := by unfold Addr.add; split <;> simp_all
  rw [this]; exact hc j hj
def inums (bs : List Nat) : Array Value := (bs.map fun x => Value.int .i64 ((x : Nat) : Int)).toArray
theorem ri_row (w : World) (bs : List Nat) (t : TypeId) (f : Nat × Nat) : RI (w.alloc (.cells (inums bs) t f)) (w.heap.size + 1) (some ⟨w.heap.size, 0, none⟩) bs := by
  refine ri_of (by omega) fun j hj => ?_
  rw [World.cell?_alloc_mark]
  simp [inums, hj]
def iv (x : Nat) : Value := .int .i64 (x : Int)
/-- The value v is a slice that owns its row, which holds ints. -/
def OI (w : World) (base : Nat) (v : Value) (bs : List Nat) : Prop := w.ownsRow base 3 1 v bs.length (bs.map iv)
theorem OI.slice {w : World} {base : Nat} {v : Value} {bs : List Nat} (h : OI w base v bs) :
    ∃ (A : Option Addr) (c : Nat), v = .slice A bs.length c ∧ bs.length ≤ c ∧ RI w w.heap.size A bs ∧ (A = none → bs = [] ∧ c = 0) := by
  obtain ⟨hl, h | ⟨g, cap, cur, hv, hg, hh, hn, hm, hs, ht⟩⟩ := h
  · obtain ⟨rfl, h0⟩ := h
    refine ⟨none, 0, by rw [h0], by omega, ?_, fun _ => ⟨List.length_eq_zero_iff.1 h0, rfl⟩⟩
    rw [List.length_eq_zero_iff.1 h0]; exact RI.nil
  · refine ⟨some ⟨g, 0, none⟩, cap, hv, hn, ?_, fun e => by cases e⟩
    have hlt : g < w.heap.size := by
      rcases Nat.lt_or_ge g w.heap.size with h | h
      · exact h
      · rw [Array.getElem?_eq_none h] at hh; cases hh
    refine ri_of hlt fun j hj => ?_
    rw [cell_of_row w g j cur 3 (0, 0) hh]
    have : (cur.toList.take (bs.length * 1))[j]? = (bs.map iv)[j]? := by rw [ht]
    rw [List.getElem?_take, if_pos (by omega), List.getElem?_map, List.getElem?_eq_getElem hj] at this
    simpa [iv] using this
theorem OI.kept {w w' : World} {base : Nat} {v : Value} {bs : List Nat} {row : Option Nat} (h : OI w base v bs) (hg : w.grownBy w' row) (hne : v.ownBlock = none ∨ v.ownBlock ≠ row) : OI w' base v bs := World.ownsRow.kept h hg hne
theorem OI.alloc {w : World} {base : Nat} {v : Value} {bs : List Nat} (h : OI w base v bs) (o : Obj) : OI (w.alloc o) base v bs := World.ownsRow.alloc h o
theorem OI.nil (w : World) (base : Nat) : OI w base (.slice none 0 0) [] := World.ownsRow_nil _ _ _ _
theorem OI.setCell {w : World} {base : Nat} {v : Value} {bs : List Nat} (h : OI w base v bs) {a : Addr} (ha : a.block < base) (u : Value) : OI (w.setCell a u) base v bs := ownsRow_setCell_below h ha u
theorem OI.drew {w : World} {base : Nat} {v : Value} {bs : List Nat} (h : OI w base v bs) : OI w.drew base v bs := World.ownsRow.kept (row := none) h ⟨rfl, rfl, rfl, Nat.le_refl _, fun _ _ _ => rfl⟩ (by cases v.ownBlock <;> simp)
theorem OI.lit (w : World) (bs : List Nat) {base : Nat} (hB : base ≤ w.heap.size) (hl : bs.length ≤ maxLen) : OI (w.alloc (.cells (inums bs) 3)) base (.slice (some ⟨w.heap.size, 0, none⟩) bs.length bs.length) bs :=
  by have := World.ownsRow_lit (e := 3) (size := 1) w (inums bs) bs.length hB hl (by simp [inums]); exact this
theorem OI.block {w : World} {base : Nat} {v : Value} {bs : List Nat} (h : OI w base v bs) : ∀ k, v.ownBlock = some k → base ≤ k ∧ k < w.heap.size := World.ownsRow.lt h
theorem info_int : (Tryd.prog.info? 3).map (fun i => (i.zero, i.size, i.bytes)) = some (some (.int .i64 0), 1, 8) := by kernel_rfl
theorem OI.below {w w' : World} {base B : Nat} {v : Value} {bs : List Nat} {W : World} (h : OI w base v bs) (hg : w.grownBy w' v.ownBlock) (hb : Below B W w) (hB : B ≤ base) (hbase : B ≤ w.heap.size) : Below B W w' :=
  hb.grown hg hbase fun k hk => Nat.le_trans hB (h.block k hk).1
theorem OI.apart {w w' : World} {base b : Nat} {v v' : Value} {bs bs' : List Nat} (h : OI w base v bs) (h' : OI w' b v' bs') (hb : w.heap.size ≤ b) : v.ownBlock = none ∨ v.ownBlock ≠ v'.ownBlock := by
  cases e : v.ownBlock with
  | none => exact .inl rfl
  | some k =>
    right
    intro e2
    have h1 := h.block k e
    have h2 := h'.block k e2.symm
    omega
theorem OI.mono {w : World} {base base' : Nat} {v : Value} {bs : List Nat} (h : OI w base v bs) (hb : base' ≤ base) : OI w base' v bs := by
  obtain ⟨h2, h3 | ⟨g, cap, cur, e, hg, hr⟩⟩ := h
  · exact ⟨h2, .inl h3⟩
  · exact ⟨h2, .inr ⟨g, cap, cur, e, Nat.le_trans hb hg, hr⟩⟩
end Go.Proofs.YtpkooogfefkcdaaDoor

/- Plain: the digits of a natural number, the least first. -/
namespace Go.Proofs.YtpkooogfefkcdaaDoor
/-- What digits say. -/
def val : List Nat → Nat
  | [] => 0
  | d :: l => d + 10 * val l
def Dig10 (l : List Nat) : Prop := ∀ x ∈ l, x < 10
def dgF : Nat → Nat → List Nat
  | 0, _ => []
  | k + 1, N => if N = 0 then [] else N % 10 :: dgF k (N / 10)
/-- The digits of N, without a 0 as greatest one. -/
def dg (N : Nat) : List Nat := dgF N N
theorem dgF_zero (k : Nat) : dgF k 0 = [] := by cases k <;> simp [dgF]
theorem dgF_fuel : ∀ (k k' N : Nat), N ≤ k → N ≤ k' → dgF k N = dgF k' N := by
  intro k
  induction k with
  | zero => intro k' N h _; obtain rfl : N = 0 := by omega
            rw [dgF_zero, dgF_zero]
  | succ k ih =>
    intro k' N h h'
    cases k' with
    | zero => obtain rfl : N = 0 := by omega
              rw [dgF_zero, dgF_zero]
    | succ k' =>
      simp only [dgF]
      split
      · rfl
      · rw [ih k' (N / 10) (by omega) (by omega)]
theorem dg_zero : dg 0 = [] := rfl
theorem dg_succ {N : Nat} (h : N ≠ 0) : dg N = N % 10 :: dg (N / 10) := by
  obtain ⟨m, rfl⟩ : ∃ m, N = m + 1 := ⟨N - 1, by omega⟩
  unfold dg
  simp only [dgF]
  rw [if_neg h, dgF_fuel m ((m + 1) / 10) ((m + 1) / 10) (by omega) (Nat.le_refl _)]
theorem dg_induct (P : Nat → Prop) (h0 : P 0) (h : ∀ N, N ≠ 0 → P (N / 10) → P N) : ∀ N, P N := by
  intro N
  induction N using Nat.strongRecOn with
  | _ N ih =>
    by_cases e : N = 0
    · rw [e]; exact h0
    · exact h N e (ih (N / 10) (by omega))
theorem val_dg : ∀ N, val (dg N) = N := by
  refine dg_induct _ rfl fun N h ih => ?_
  rw [dg_succ h]; simp only [val]; rw [ih]; omega
theorem dg_dig : ∀ N, Dig10 (dg N) := by
  refine dg_induct _ (by intro x hx; simp [dg_zero] at hx) fun N h ih => ?_
  rw [dg_succ h]
  intro x hx
  rcases List.mem_cons.1 hx with rfl | hx
  · omega
  · exact ih x hx
theorem val_lt {l : List Nat} (h : Dig10 l) : val l < 10 ^ l.length := by
  induction l with
  | nil => simp [val]
  | cons d l ih =>
    have h1 := ih (fun x hx => h x (List.mem_cons_of_mem _ hx))
    have h2 := h d List.mem_cons_self
    simp only [val, List.length_cons, Nat.pow_succ]; omega
theorem dg_lt (N : Nat) : N < 10 ^ (dg N).length := by
  have := val_lt (dg_dig N); rwa [val_dg] at this
theorem dg_ge : ∀ N, N ≠ 0 → 10 ^ ((dg N).length - 1) ≤ N := by
  refine dg_induct _ (by intro h; exact absurd rfl h) fun N h ih _ => ?_
  rw [dg_succ h, List.length_cons, Nat.add_sub_cancel]
  by_cases e : N / 10 = 0
  · rw [e, dg_zero]; simp; omega
  · have h1 := ih e
    have h2 : (dg (N / 10)).length ≠ 0 := by rw [dg_succ e]; simp
    obtain ⟨k, hk⟩ : ∃ k, (dg (N / 10)).length = k + 1 := ⟨(dg (N / 10)).length - 1, by omega⟩
    rw [hk] at h1 ⊢
    rw [Nat.add_sub_cancel] at h1
    rw [Nat.pow_succ]; omega
theorem dg_len_pos {N : Nat} (h : N ≠ 0) : 0 < (dg N).length := by rw [dg_succ h]; simp
theorem dg_nil {N : Nat} (h : (dg N).length = 0) : N = 0 := by
  rcases Nat.eq_zero_or_pos N with e | e
  · exact e
  · have := dg_len_pos (N := N) (by omega); omega
theorem dg_val {l : List Nat} (h : Dig10 l) (hl : l = [] ∨ 10 ^ (l.length - 1) ≤ val l) : dg (val l) = l := by
  induction l with
  | nil => rfl
  | cons d l ih =>
    have h2 := h d List.mem_cons_self
    have hl2 : 10 ^ l.length ≤ d + 10 * val l := by
      rcases hl with h | h
      · cases h
      · simpa [val] using h
    have hd : Dig10 l := fun x hx => h x (List.mem_cons_of_mem _ hx)
    have hpos : 0 < 10 ^ l.length := Nat.pow_pos (by decide)
    have hi := ih hd (by
      cases l with
      | nil => exact .inl rfl
      | cons e l =>
        right
        simp only [List.length_cons, Nat.add_sub_cancel, Nat.pow_succ] at hl2 ⊢
        omega)
    simp only [val]
    rw [dg_succ (by omega), show (d + 10 * val l) % 10 = d by omega, show (d + 10 * val l) / 10 = val l by omega, hi]
theorem val_app (l m : List Nat) : val (l ++ m) = val l + 10 ^ l.length * val m := by
  induction l with
  | nil => simp [val]
  | cons d l ih =>
    simp only [List.cons_append, val, ih, List.length_cons, Nat.pow_succ]
    rw [Nat.mul_add, Nat.mul_comm (10 ^ l.length) 10, Nat.mul_assoc]; omega
theorem Dig10.app {l m : List Nat} (hl : Dig10 l) (hm : Dig10 m) : Dig10 (l ++ m) := fun x hx => by
  rcases List.mem_append.1 hx with hx | hx
  · exact hl x hx
  · exact hm x hx
theorem Dig10.one {d : Nat} (h : d < 10) : Dig10 [d] := fun x hx => by simp at hx; omega
theorem Dig10.nil : Dig10 [] := fun x hx => by simp at hx
theorem Dig10.take {l : List Nat} (h : Dig10 l) (k : Nat) : Dig10 (l.take k) := fun x hx => h x (List.mem_of_mem_take hx)
theorem Dig10.drop {l : List Nat} (h : Dig10 l) (k : Nat) : Dig10 (l.drop k) := fun x hx => h x (List.mem_of_mem_drop hx)
/-- Digits with a greatest one that is not 0 are those of what they say. -/
theorem dg_last {l : List Nat} {d : Nat} (h : Dig10 (l ++ [d])) (hd : d ≠ 0) : dg (val (l ++ [d])) = l ++ [d] := by
  refine dg_val h (.inr ?_)
  rw [val_app, List.length_append]
  simp only [val, List.length_singleton, Nat.add_sub_cancel]
  have : 10 ^ l.length * 1 ≤ 10 ^ l.length * (d + 10 * 0) := Nat.mul_le_mul_left _ (by omega)
  omega
theorem dg_one {d : Nat} (h : d ≠ 0) (h1 : d < 10) : dg d = [d] := by
  rw [dg_succ h, show d % 10 = d by omega, show d / 10 = 0 by omega, dg_zero]
/-- cut: the zeros that are greatest go. -/
theorem val_take_zero {l : List Nat} {n : Nat} (h : n < l.length) (hz : l[n] = 0) : val (l.take (n + 1)) = val (l.take n) := by
  rw [List.take_succ_eq_append_getElem h, val_app, hz]; simp [val]
theorem cut_done {l : List Nat} (h : Dig10 l) (n : Nat) (hn : n ≤ l.length) (hv : val (l.take n) = val l) (hl : n = 0 ∨ ∃ k, n = k + 1 ∧ ∃ hk : k < l.length, l[k] ≠ 0) : l.take n = dg (val l) := by
  rw [← hv]
  rcases hl with rfl | ⟨k, rfl, hk, hz⟩
  · rfl
  · rw [List.take_succ_eq_append_getElem hk] at hv ⊢
    exact (dg_last (by rw [← List.take_succ_eq_append_getElem hk]; exact h.take _) hz).symm
/-- Less. -/
theorem less_len {a b : Nat} (h : (dg a).length < (dg b).length) : a < b := by
  have h1 := dg_lt a
  have hb : b ≠ 0 := by rintro rfl; simp [dg_zero] at h
  have h2 := dg_ge b hb
  have h3 : 10 ^ (dg a).length ≤ 10 ^ ((dg b).length - 1) := Nat.pow_le_pow_right (by decide) (by omega)
  omega
theorem val_at {l : List Nat} (i : Nat) (h : i < l.length) : val l = val (l.take i) + 10 ^ i * (l[i] + 10 * val (l.drop (i + 1))) := by
  have e : l = l.take i ++ (l[i] :: l.drop (i + 1)) := by rw [← List.drop_eq_getElem_cons h, List.take_append_drop]
  conv => lhs; rw [e]
  rw [val_app, List.length_take, Nat.min_eq_left (by omega)]; rfl
theorem less_at {l m : List Nat} (hl : Dig10 l) (i : Nat) (h : i < l.length) (h' : i < m.length) (he : l.drop (i + 1) = m.drop (i + 1)) (hlt : l[i] < m[i]) : val l < val m := by
  rw [val_at i h, val_at i h', he]
  have h1 := val_lt (hl.take i)
  rw [List.length_take, Nat.min_eq_left (by omega)] at h1
  have h2 : 10 ^ i * (l[i] + 10 * val (m.drop (i + 1)) + 1) ≤ 10 ^ i * (m[i] + 10 * val (m.drop (i + 1))) := Nat.mul_le_mul_left _ (by omega)
  rw [Nat.mul_add, Nat.mul_one] at h2
  omega
theorem drop_step {l m : List Nat} (i : Nat) (h : i < l.length) (h' : i < m.length) (he : l.drop (i + 1) = m.drop (i + 1)) (heq : l[i] = m[i]) : l.drop i = m.drop i := by
  rw [List.drop_eq_getElem_cons h, List.drop_eq_getElem_cons h', he, heq]
/-- double: twice digits, and a bit. -/
theorem dbl_done {N b : Nat} (hb : b ≤ 1) (L : List Nat) (c : Nat) (hc : c ≤ 1) (hL : Dig10 L) (hlen : L.length = (dg N).length) (hv : val L + 10 ^ L.length * c = 2 * N + b) :
    (c = 1 → L ++ [1] = dg (2 * N + b)) ∧ (c = 0 → L = dg (2 * N + b)) := by
  constructor
  · rintro rfl
    rw [← hv]
    have := dg_last (l := L) (d := 1) (hL.app (Dig10.one (by decide))) (by decide)
    rw [val_app] at this
    simpa [val] using this.symm
  · rintro rfl
    rw [Nat.mul_zero, Nat.add_zero] at hv
    rw [← hv]
    refine (dg_val hL ?_).symm
    by_cases hN : N = 0
    · left; rw [hN, dg_zero] at hlen; exact List.length_eq_zero_iff.1 hlen
    · right
      rw [hlen, hv]
      have := dg_ge N hN
      omega
end Go.Proofs.YtpkooogfefkcdaaDoor

/- fieldfareref01: cut, double. -/
namespace Go.Proofs.YtpkooogfefkcdaaDoor
open Go.RowKit
end Go.Proofs.YtpkooogfefkcdaaDoor

/- fieldfareref01: Of. -/
namespace Go.Proofs.YtpkooogfefkcdaaDoor
open Go.RowKit
theorem dg_len_le {M k : Nat} (h : M < 10 ^ k) : (dg M).length ≤ k := by
  rcases Nat.lt_or_ge k (dg M).length with hlt | hge
  · have hM : M ≠ 0 := by rintro rfl; simp [dg_zero] at hlt
    have h1 := dg_ge M hM
    have h2 : 10 ^ k ≤ 10 ^ ((dg M).length - 1) := Nat.pow_le_pow_right (by decide) (by omega)
    omega
  · exact hge
theorem of_bit (x j : Nat) (hx : x < 18446744073709551616) : wrap64 (bits .and .u64 ((x : Int) / 2 ^ j) 1) = ((x / 2 ^ j % 2 : Nat) : Int) := by
  have e : ((x : Int) / 2 ^ j) = ((x / 2 ^ j : Nat) : Int) := by simp [Int.natCast_ediv, Int.natCast_pow]
  have hl : x / 2 ^ j ≤ x := Nat.div_le_self _ _
  rw [e, show (1 : Int) = ((1 : Nat) : Int) from rfl, u64_and_nat _ _ (by omega) (by decide), Nat.and_one_is_mod]
  unfold wrap64; omega
theorem half_step (M j : Nat) : 2 * (M / 2 ^ (j + 1)) + M / 2 ^ j % 2 = M / 2 ^ j := by
  rw [Nat.pow_succ, ← Nat.div_div_eq_div_mul]; omega
theorem low_bit (x y j : Nat) (hj : j < 64) : y / 2 ^ j % 2 = (x * 18446744073709551616 + y) / 2 ^ j % 2 := by
  have e : x * 18446744073709551616 = 2 ^ j * (x * 2 ^ (64 - j)) := by
    rw [Nat.mul_left_comm, ← Nat.pow_add, show j + (64 - j) = 64 by omega]
  rw [e, Nat.mul_add_div (Nat.pow_pos (by decide))]
  obtain ⟨k, hk⟩ : ∃ k, 64 - j = k + 1 := ⟨63 - j, by omega⟩
  rw [hk, Nat.pow_succ, ← Nat.mul_assoc]
  omega
end Go.Proofs.YtpkooogfefkcdaaDoor

/- Plain: a numeral's digits, as the reference takes them. -/
namespace Go.Proofs.YtpkooogfefkcdaaDoor
open Go.RowKit
def fdr (B : List Nat) : Nat → List Nat
  | 0 => []
  | j + 1 => fdr B j ++ [B.getD (5 - j) 48 - 48]
def rdig (l : List Nat) : List Nat := (l.map (· - 48)).reverse
theorem fdr_len (B : List Nat) : ∀ j, (fdr B j).length = j := by
  intro j
  induction j with
  | zero => rfl
  | succ j ih => simp [fdr, ih]
theorem fdr_dig {B : List Nat} (h : AllDig B) : ∀ j, Dig10 (fdr B j) := by
  intro j
  induction j with
  | zero => exact Dig10.nil
  | succ j ih => exact ih.app (Dig10.one (by have := getD_dig h (5 - j); omega))
theorem val_fdr (B : List Nat) : val (fdr B 6) = fr 0 B 6 := by
  simp only [fdr, fr, List.nil_append, List.cons_append, val, Nat.sub_self, Nat.sub_zero, Nat.reduceSub]
  omega
theorem rdig_cons (c : Nat) (l : List Nat) : rdig (c :: l) = rdig l ++ [c - 48] := by simp [rdig]
theorem rdig_len (l : List Nat) : (rdig l).length = l.length := by simp [rdig]
theorem rdig_dig {l : List Nat} (h : AllDig l) : Dig10 (rdig l) := by
  intro x hx
  simp only [rdig, List.mem_reverse, List.mem_map] at hx
  obtain ⟨y, hy, rfl⟩ := hx
  have := h y hy; omega
theorem val_rdig_aux : ∀ (l : List Nat) (N : Nat), dv N l = N * 10 ^ l.length + val (rdig l) := by
  intro l
  induction l with
  | nil => intro N; simp [dv, rdig, val]
  | cons c l ih =>
    intro N
    rw [dv_cons, ih, rdig_cons, val_app, rdig_len, List.length_cons, Nat.pow_succ]
    simp only [val]
    rw [Nat.add_mul, Nat.mul_zero, Nat.add_zero, Nat.mul_assoc, Nat.mul_comm 10 (10 ^ l.length), Nat.mul_comm (c - 48)]
    omega
theorem val_rdig (l : List Nat) : val (rdig l) = dv 0 l := by rw [val_rdig_aux l 0]; simp
theorem fr_shift (N : Nat) (B : List Nat) : ∀ k, fr N B k = N * 10 ^ k + fr 0 B k := by
  intro k
  induction k with
  | zero => simp [fr]
  | succ k ih =>
    simp only [fr]
    rw [ih, Nat.pow_succ, ← Nat.mul_assoc]; omega
/-- All the digits, the least first. -/
def allD (bs : List Nat) : List Nat := fdr (behindL bs) 6 ++ rdig (wholeL bs)
theorem allD_dig (bs : List Nat) : Dig10 (allD bs) := (fdr_dig (behind_dig bs) 6).app (rdig_dig (whole_dig bs))
theorem allD_len (bs : List Nat) : (allD bs).length = 6 + nW bs := by unfold allD; rw [List.length_append, fdr_len, rdig_len, whole_len]
theorem val_allD (bs : List Nat) : val (allD bs) = numN bs := by
  unfold allD numN
  rw [val_app, fdr_len, val_fdr, val_rdig, fr_shift (dv 0 (strip (wholeL bs))), dv_strip]
  omega
theorem strip_head {l : List Nat} (h : AllDig l) (hs : 0 < (strip l).length) : 10 ^ ((strip l).length - 1) ≤ dv 0 (strip l) := by
  obtain ⟨c, m, e⟩ : ∃ c m, strip l = c :: m := by
    cases hh : strip l with
    | nil => rw [hh] at hs; simp at hs
    | cons c m => exact ⟨c, m, rfl⟩
  have hc : c ≠ 48 := by
    have : ∀ l : List Nat, ∀ c m, strip l = c :: m → c ≠ 48 := by
      intro l
      induction l with
      | nil => intro c m h; simp [strip] at h
      | cons a l ih =>
        intro c m h
        by_cases ha : a = 48
        · subst ha; rw [strip_cons_zero] at h; exact ih _ _ h
        · rw [strip_cons_other ha] at h; simp at h; omega
    exact this l c m e
  have hcd := (h.strip) c (by rw [e]; exact List.mem_cons_self)
  rw [e, dv_cons, val_rdig_aux, List.length_cons, Nat.add_sub_cancel]
  have : 1 * 10 ^ m.length ≤ (0 * 10 + (c - 48)) * 10 ^ m.length := Nat.mul_le_mul_right _ (by omega)
  omega
theorem over_iff (bs : List Nat) : 36 < (dg (numN bs)).length ↔ 30 < (strip (wholeL bs)).length := by
  have hf := fr_bound (behind_dig bs) 0 6
  have hn : numN bs = dv 0 (strip (wholeL bs)) * 10 ^ 6 + fr 0 (behindL bs) 6 := by unfold numN; rw [fr_shift]
  have hl := dv_bound (whole_dig bs).strip
  constructor
  · intro h
    rcases Nat.lt_or_ge 30 (strip (wholeL bs)).length with h1 | h1
    · exact h1
    · have := numN_lt (bs := bs) h1
      have h2 := dg_len_le (M := numN bs) (k := 36) (by omega)
      omega
  · intro h
    have h1 := strip_head (whole_dig bs) (by omega)
    have h2 : 10 ^ 30 ≤ 10 ^ ((strip (wholeL bs)).length - 1) := Nat.pow_le_pow_right (by decide) (by omega)
    rcases Nat.lt_or_ge 36 (dg (numN bs)).length with h3 | h3
    · exact h3
    · have h4 := dg_lt (numN bs)
      have h5 : 10 ^ (dg (numN bs)).length ≤ 10 ^ 36 := Nat.pow_le_pow_right (by decide) h3
      omega
end Go.Proofs.YtpkooogfefkcdaaDoor

/- fieldfareref02: digit, Prefix, Looks. -/
namespace Go.Proofs.YtpkooogfefkcdaaDoor
open Go.RowKit
theorem strN_cut {L : List Nat} (k : Nat) (hk : k < L.length) : (strN L).extract k (k + 1) = strN [L[k]] := by
  have : ((strN L).extract k (k + 1)).data = (strN [L[k]]).data := by
    rw [ByteArray.data_extract]
    simp only [strN, List.extract_toArray, List.map_cons, List.map_nil]
    congr 1
    rw [List.extract_eq_take_drop, List.drop_eq_getElem_cons (by simpa using hk)]
    simp
  cases h1 : (strN L).extract k (k + 1); cases h2 : strN [L[k]]; rw [h1, h2] at this; simpa using this
/-- What the reference's Prefix returns. -/
def RPost (bs : List Nat) (e : Ending) (w' : World) : Prop :=
  (nW bs + nB bs = 0 ∧ e = .returned (.agg #[.bool false, .slice none 0 0, .int .i64 0, .int .i64 0])) ∨
  (0 < nW bs + nB bs ∧ 30 < (strip (wholeL bs)).length ∧ e = .returned (.agg #[.bool false, .slice none 0 0, .int .i64 ((nI3 bs : Nat) : Int), .int .i64 2])) ∨
  (0 < nW bs + nB bs ∧ (strip (wholeL bs)).length ≤ 30 ∧ ∃ (A : Option Addr) (c : Nat), e = .returned (.agg #[.bool (sneg bs && decide (0 < (dg (numN bs)).length)), .slice A (dg (numN bs)).length c, .int .i64 ((nI3 bs : Nat) : Int), .int .i64 0]) ∧
    RI w' w'.heap.size A (dg (numN bs)) ∧ (dg (numN bs)).length ≤ c)
end Go.Proofs.YtpkooogfefkcdaaDoor

/- Plain facts on numerals: a letter ahead, a letter behind. -/
namespace Go.Proofs.YtpkooogfefkcdaaDoor
open Go.RowKit
/-- How many bytes the numeral has, 0 where there is none. -/
def nP (bs : List Nat) : Nat := if nW bs + nB bs = 0 then 0 else nI3 bs
theorem nP_le (bs : List Nat) : nP bs ≤ bs.length := by
  unfold nP; split
  · omega
  · exact nI3_le bs
theorem x_ahead (bs : List Nat) : nW (120 :: bs) + nB (120 :: bs) = 0 := by
  have h1 : span blankB (120 :: bs) = 0 := by simp [span, blankB]
  have h2 : sgn (120 :: bs) = 0 := by unfold sgn; rw [h1]; simp
  have h3 : nI1 (120 :: bs) = 0 := by unfold nI1; rw [h1, h2]
  have h4 : nW (120 :: bs) = 0 := by unfold nW; rw [h3]; simp [span, digB]
  have h5 : nI2 (120 :: bs) = 0 := by unfold nI2; rw [h3, h4]
  have h6 : nDot (120 :: bs) = false := by unfold nDot; rw [h5]; rfl
  have h7 : nB (120 :: bs) = 0 := by unfold nB; rw [h6]; rfl
  rw [h4, h7]
theorem looks_ahead (bs : List Nat) : looksB (120 :: bs) = false := by
  unfold looksB; rw [x_ahead]; rfl
theorem span_full {p : Nat → Bool} {l : List Nat} (h : span p l = l.length) (x : Nat) (hx : x ∈ l) : p x = true := by
  obtain ⟨j, hj, rfl⟩ := List.getElem_of_mem hx
  exact span_all p l j (by omega) hj
/-- What a numeral is made of. -/
def numeralB (c : Nat) : Bool := blankB c || digB c || decide (c = 43) || decide (c = 45) || decide (c = 46)
theorem nI3_mem (bs : List Nat) (j : Nat) (hj : j < bs.length) (h : j < nI3 bs) : numeralB bs[j] = true := by
  unfold numeralB
  by_cases h0 : j < span blankB bs
  · rw [span_all blankB bs j h0 hj]; rfl
  by_cases h1 : j < nI1 bs
  · unfold nI1 at h1
    cases hs : (sgn bs == 1)
    · rw [(sgn_zero hs).1] at h1; omega
    · obtain ⟨e, hl, hx, _⟩ := sgn_one hs
      have : j = span blankB bs := by omega
      subst this
      rcases hx with hx | hx <;> rw [hx] <;> rfl
  by_cases h2 : j < nI2 bs
  · have hd := span_all digB (bs.drop (nI1 bs)) (j - nI1 bs) (by unfold nI2 nW at h2; omega) (by rw [List.length_drop]; omega)
    rw [List.getElem_drop] at hd
    have e : nI1 bs + (j - nI1 bs) = j := by omega
    simp only [e] at hd
    rw [hd]; simp
  unfold nI3 at h
  split at h
  · rename_i hdot
    by_cases h3 : j = nI2 bs
    · subst h3
      unfold nDot at hdot
      rw [head_drop hj] at hdot
      have : bs[nI2 bs] = 46 := by simpa using hdot
      rw [this]; rfl
    · have hb : nB bs = span digB (bs.drop (nI2 bs + 1)) := by unfold nB; rw [if_pos hdot]
      have hd := span_all digB (bs.drop (nI2 bs + 1)) (j - (nI2 bs + 1)) (by rw [← hb]; omega) (by rw [List.length_drop]; omega)
      rw [List.getElem_drop] at hd
      have e : nI2 bs + 1 + (j - (nI2 bs + 1)) = j := by omega
      simp only [e] at hd
      rw [hd]; simp
  · omega
theorem looks_behind (bs : List Nat) : looksB (bs ++ [120]) = false := by
  unfold looksB
  rw [Bool.and_eq_false_iff]
  right
  rw [decide_eq_false_iff_not]
  intro h
  have hle : nI3 (bs ++ [120]) ≤ bs.length := by
    rcases Nat.lt_or_ge bs.length (nI3 (bs ++ [120])) with hlt | hge
    · have := nI3_mem (bs ++ [120]) bs.length (by simp) hlt
      simp [numeralB, blankB, digB] at this
    · exact hge
  have := span_full h 120 (by rw [List.drop_append_of_le_length hle]; simp)
  simp [blankB] at this
theorem looks_all {bs : List Nat} (h : looksB bs = true) : 0 < nP bs ∧ ∀ j (hj : j < bs.length), nP bs ≤ j → blankB bs[j] = true := by
  unfold looksB at h
  rw [Bool.and_eq_true, decide_eq_true_eq, decide_eq_true_eq] at h
  obtain ⟨h1, h2⟩ := h
  have e : nP bs = nI3 bs := by unfold nP; rw [if_neg (by omega)]
  rw [e]
  refine ⟨nI3_pos' h1, fun j hj hle => ?_⟩
  have := span_all blankB (bs.drop (nI3 bs)) (j - nI3 bs) (by rw [h2, List.length_drop]; omega) (by rw [List.length_drop]; omega)
  rw [List.getElem_drop] at this
  have e : nI3 bs + (j - nI3 bs) = j := by omega
  simpa only [e] using this
end Go.Proofs.YtpkooogfefkcdaaDoor

/- fieldfareref02: Looks. -/
namespace Go.Proofs.YtpkooogfefkcdaaDoor
open Go.RowKit
theorem looks_iff (bs : List Nat) : looksB bs = (decide (0 < nP bs) && decide (span blankB (bs.drop (nP bs)) = (bs.drop (nP bs)).length)) := by
  unfold looksB nP
  by_cases h : nW bs + nB bs = 0
  · rw [if_pos h, h]; rfl
  · rw [if_neg h]
    have := nI3_pos' (bs := bs) (by omega)
    rw [decide_eq_true (show 0 < nW bs + nB bs by omega), decide_eq_true this]
end Go.Proofs.YtpkooogfefkcdaaDoor

/- fieldfarelaw02.awake. -/
namespace Go.Proofs.YtpkooogfefkcdaaDoor
open Go.RowKit
def c1 : List Nat := [32, 45, 49, 50, 46, 53, 48, 120]
theorem prefix_c1 (w : World) (f : Nat × Nat) :
    Calls Tryd.prog 15 #[.slice (some ⟨w.heap.size, 0, none⟩) 8 8] (w.alloc (.cells #[.int .u8 32, .int .u8 45, .int .u8 49, .int .u8 50, .int .u8 46, .int .u8 53, .int .u8 48, .int .u8 120] 5 f)) fun e w' => e = .returned (.tuple #[.agg #[.bool true, .int .u64 0, .int .u64 12500000], .int .i64 7, .nilIface]) ∧ Below w.heap.size w w' := by
  have h := prefix_any (some ⟨w.heap.size, 0, none⟩) 8 c1 (w.alloc (.cells (nums c1) 5 f)) (w.heap.size + 1) (by simp) (rb_row w c1 (by decide) _ f) (by decide) (by decide)
  refine Calls.mono h fun e w' ⟨he, hb⟩ => ⟨?_, ((Below.refl _ _).alloc (Nat.le_refl _) _).trans (hb.mono (by simp))⟩
  rcases he with ⟨h, _⟩ | ⟨_, h, _⟩ | ⟨_, _, he⟩
  · exact absurd h (by decide)
  · exact absurd h (by decide)
  · rw [he, show pz c1 = -12500000 by decide, show nI3 c1 = 7 by decide]
    rfl
def c2 : List Nat := [32, 51, 32]
def c3 : List Nat := [51, 120]
theorem text_c4 (w : World) :
    Calls Tryd.prog 62 #[.agg #[.bool false, .int .u64 0, .int .u64 500000]] w fun e w' => e = .returned (.string { data := #[48, 46, 53] }) ∧ Below w.heap.size w w' := by
  have i : IsD false 0 500000 500000 := ⟨⟨by decide, by decide⟩, ⟨by decide, by decide⟩, by decide, by decide, by decide⟩
  have h := text_ok false 0 500000 500000 i w
  rw [show strN (textL 500000) = { data := #[48, 46, 53] } by decide] at h
  exact h
end Go.Proofs.YtpkooogfefkcdaaDoor
