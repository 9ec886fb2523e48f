/- Several texts put together: NumM, FfxA, FwhC, DecD. -/
import Derived.Test.YtpkooogfefkcdaaDoorBu18
import Derived.Test.YtpkooogfefkcdaaDoorBu1
import Derived.Test.YtpkooogfefkcdaaDoorBu16
import Derived.Test.YtpkooogfefkcdaaDoorBu15
import Derived.Test.YtpkooogfefkcdaaDoorBu12
import Derived.Test.YtpkooogfefkcdaaDoorBu8
/- Plain: a text of digits read as a numeral. -/
namespace Go.Proofs.YtpkooogfefkcdaaDoor
open Go.RowKit
def NoDig (r : List Nat) : Prop := ∀ x, r.head? = some x → digB x = false
theorem digB_of {x : Nat} (h : 48 ≤ x ∧ x ≤ 57) : digB x = true := by unfold digB; simp; omega
theorem span_app {W r : List Nat} (hW : AllDig W) (hr : NoDig r) : span digB (W ++ r) = W.length := by
  induction W with
  | nil =>
    cases r with
    | nil => rfl
    | cons x r => simp [span, hr x rfl]
  | cons c W ih =>
    have hc := digB_of (hW c List.mem_cons_self)
    simp only [List.cons_append, span, hc, if_true, List.length_cons]
    rw [ih (fun x hx => hW x (List.mem_cons_of_mem _ hx))]
theorem blank_dig {x : Nat} (h : 48 ≤ x ∧ x ≤ 57) : blankB x = false := by unfold blankB; simp; omega
structure Parsed (bs : List Nat) (neg : Bool) (W f : List Nat) (n : Nat) : Prop where
  hneg : sneg bs = neg
  hW : nW bs = W.length
  hwhole : wholeL bs = W
  hB : nB bs = f.length
  hbehind : behindL bs = f
  hI3 : nI3 bs = n
theorem parse (neg : Bool) (W D f rest : List Nat) (hW : AllDig W) (hne : 0 < W.length) (hf : AllDig f) (hD : (D = [] ∧ f = [] ∧ rest.head? ≠ some 46) ∨ D = 46 :: f) (hr : NoDig rest) :
    Parsed ((if neg then [45] else []) ++ W ++ D ++ rest) neg W f ((if neg then 1 else 0) + W.length + D.length) := by
  obtain ⟨x, W', rfl⟩ : ∃ x W', W = x :: W' := by cases W with | nil => simp at hne | cons x W' => exact ⟨x, W', rfl⟩
  have hx := hW x List.mem_cons_self
  obtain ⟨bs, hbs⟩ : ∃ bs, bs = (if neg then [45] else []) ++ (x :: W') ++ D ++ rest := ⟨_, rfl⟩
  rw [← hbs]
  have h1 : span blankB bs = 0 := by
    rw [hbs]; cases neg
    · simp [span, blank_dig hx]
    · simp [span, blankB]
  have h2 : sgn bs = (if neg then 1 else 0) ∧ sneg bs = neg := by
    unfold sgn sneg; rw [h1, hbs]
    cases neg
    · simp; omega
    · simp
  have h3 : nI1 bs = (if neg then 1 else 0) := by unfold nI1; rw [h1, h2.1]; omega
  have h4 : bs.drop (nI1 bs) = (x :: W') ++ (D ++ rest) := by
    rw [h3, hbs]; cases neg <;> simp
  have hnd : NoDig (D ++ rest) := by
    rcases hD with ⟨rfl, _⟩ | rfl
    · simpa using hr
    · intro y hy; simp at hy; subst hy; rfl
  have h5 : nW bs = (x :: W').length := by unfold nW; rw [h4]; exact span_app hW hnd
  have h6 : wholeL bs = x :: W' := by unfold wholeL; rw [h4, h5]; simp
  have h7 : nI2 bs = (if neg then 1 else 0) + (x :: W').length := by unfold nI2; rw [h3, h5]
  have h8 : bs.drop (nI2 bs) = D ++ rest := by
    unfold nI2; rw [← List.drop_drop, h4, h5]; simp
  have h9 : bs.drop (nI2 bs + 1) = (D ++ rest).drop 1 := by rw [← List.drop_drop, h8]
  rcases hD with ⟨rfl, rfl, h46⟩ | rfl
  · have hd : nDot bs = false := by
      unfold nDot; rw [h8, List.nil_append]
      simpa using h46
    have hB : nB bs = 0 := by unfold nB; rw [hd]; rfl
    refine ⟨h2.2, h5, h6, hB, by unfold behindL; rw [hB]; rfl, ?_⟩
    unfold nI3; rw [hd, h7]; simp
  · have hd : nDot bs = true := by unfold nDot; rw [h8]; rfl
    have hB : nB bs = f.length := by
      unfold nB; rw [hd, h9]; exact span_app hf hr
    refine ⟨h2.2, h5, h6, hB, by unfold behindL; rw [h9, hB]; simp, ?_⟩
    unfold nI3; rw [hd, h7, hB]; simp; omega
theorem dv_strip (l : List Nat) : dv 0 (strip l) = dv 0 l := by
  induction l with
  | nil => rfl
  | cons c l ih =>
    by_cases h : c = 48
    · subst h; rw [strip_cons_zero, ih]; rfl
    · rw [strip_cons_other h]
theorem strip_len (l : List Nat) : (strip l).length ≤ l.length := (List.dropWhile_sublist _).length_le
theorem strip_zeros (m : Nat) (l : List Nat) : strip (List.replicate m 48 ++ l) = strip l := by
  induction m with
  | zero => simp
  | succ m ih => rw [List.replicate_succ, List.cons_append, strip_cons_zero, ih]
theorem digs_succ (k W : Nat) (T : List Nat) : digs (k + 1) W T = if W / 10 = 0 then (48 + W % 10) :: T else digs k (W / 10) ((48 + W % 10) :: T) := rfl
theorem digs_app : ∀ (k V : Nat) (T : List Nat), digs k V T = digs k V [] ++ T := by
  intro k
  induction k with
  | zero => intro V T; rfl
  | succ k ih =>
    intro V T
    unfold digs; split
    · rfl
    · rw [ih _ (_ :: T), ih _ [_], List.append_assoc]; rfl
theorem digs_dig : ∀ (k V : Nat) (T : List Nat), AllDig T → AllDig (digs k V T) := by
  intro k
  induction k with
  | zero => intro V T h; exact h
  | succ k ih =>
    intro V T h
    have hc : AllDig ((48 + V % 10) :: T) := by
      intro x hx
      rcases List.mem_cons.1 hx with rfl | hx
      · omega
      · exact h x hx
    unfold digs; split
    · exact hc
    · exact ih _ _ hc
theorem dv_cons (N c : Nat) (l : List Nat) : dv N (c :: l) = dv (N * 10 + (c - 48)) l := by unfold dv; rw [List.foldl_cons]
theorem dv_digs : ∀ (k V : Nat) (T : List Nat), V < 10 ^ k → dv 0 (digs k V T) = dv V T := by
  intro k
  induction k with
  | zero => intro V T h; have : V = 0 := by omega
            subst this; rfl
  | succ k ih =>
    intro V T h
    rw [Nat.pow_succ] at h
    rw [digs_succ]; split
    · rw [dv_cons, show 0 * 10 + (48 + V % 10 - 48) = V by omega]
    · rw [ih _ _ (by omega), dv_cons, show V / 10 * 10 + (48 + V % 10 - 48) = V by omega]
theorem digs_fuel : ∀ (k V : Nat) (T : List Nat), V < 10 ^ (k + 1) → digs (k + 2) V T = digs (k + 1) V T := by
  intro k
  induction k with
  | zero =>
    intro V T h
    have h0 : V / 10 = 0 := by omega
    simp [digs, h0]
  | succ k ih =>
    intro V T h
    rw [Nat.pow_succ] at h
    rw [digs_succ (k + 2) V]
    have e := digs_succ (k + 1) V T
    have i := ih (V / 10) ((48 + V % 10) :: T) (by omega)
    rw [i]
    exact e.symm
theorem digs_30 (V : Nat) (h : V < 1000000000000000000000000000000) : (digs 31 V []).length ≤ 30 := by
  rw [digs_fuel 29 V [] (by omega)]
  simpa using digs_len 30 V []
theorem frs_dig (F : Nat) : ∀ k, AllDig (frs F k) := by
  intro k
  induction k with
  | zero => intro x hx; simp [frs] at hx
  | succ k ih =>
    unfold frs; split
    · intro x hx
      rcases List.mem_cons.1 hx with rfl | hx
      · omega
      · exact ih x hx
    · intro x hx; simp at hx
theorem frs_getD (F : Nat) : ∀ (k i : Nat), i < k → (frs F k).getD i 48 = 48 + F / 10 ^ (k - 1 - i) % 10 := by
  intro k
  induction k with
  | zero => intro i h; omega
  | succ k ih =>
    intro i h
    unfold frs; split
    · cases i with
      | zero => simp
      | succ i => rw [List.getD_cons_succ, ih i (by omega), show k + 1 - 1 - (i + 1) = k - 1 - i by omega]
    · rename_i hc
      have hc1 : F / 10 ^ k % 10 = 0 := by omega
      have hc2 : (frs F k).length = 0 := by omega
      have hc3 : frs F k = [] := List.length_eq_zero_iff.1 hc2
      rw [show ([] : List Nat).getD i 48 = 48 by simp]
      cases i with
      | zero => simp [hc1]
      | succ i =>
        have := ih i (by omega)
        rw [hc3] at this
        rw [show ([] : List Nat).getD i 48 = 48 by simp] at this
        rw [show k + 1 - 1 - (i + 1) = k - 1 - i by omega]
        exact this
theorem fr_congr {l l' : List Nat} (N : Nat) : ∀ k, (∀ i, i < k → l.getD i 48 = l'.getD i 48) → fr N l k = fr N l' k := by
  intro k
  induction k with
  | zero => intro _; rfl
  | succ k ih =>
    intro h
    show fr N l k * 10 + (l.getD k 48 - 48) = fr N l' k * 10 + (l'.getD k 48 - 48)
    rw [ih (fun i hi => h i (by omega)), h k (by omega)]
theorem getD_zeros (l : List Nat) (m i : Nat) : (l ++ List.replicate m 48).getD i 48 = l.getD i 48 := by
  rw [List.getD_eq_getElem?_getD, List.getD_eq_getElem?_getD, List.getElem?_append]
  split
  · rfl
  · rename_i h
    rw [List.getElem?_eq_none (by omega : l.length ≤ i), List.getElem?_replicate]
    split <;> rfl
theorem fr_ind (N F : Nat) (L : List Nat) (hF : F < 1000000) (g : ∀ i, i < 6 → L.getD i 48 = 48 + F / 10 ^ (5 - i) % 10) : ∀ j, j ≤ 6 → fr N L j = N * 10 ^ j + F / 10 ^ (6 - j) := by
  intro j
  induction j with
  | zero => intro _; rw [Nat.div_eq_of_lt (by simpa using hF)]; simp [fr]
  | succ j ih =>
    intro hj
    have e : F / 10 ^ (6 - j) = F / 10 ^ (6 - (j + 1)) / 10 := by
      rw [Nat.div_div_eq_div_mul, ← Nat.pow_succ, show (6 - (j + 1)).succ = 6 - j by omega]
    have gj := g j (by omega)
    rw [show 5 - j = 6 - (j + 1) by omega] at gj
    have i := ih (by omega)
    rw [e] at i
    have s : fr N L (j + 1) = fr N L j * 10 + (L.getD j 48 - 48) := by simp only [fr]
    rw [s, i, gj, Nat.pow_succ, ← Nat.mul_assoc]
    generalize N * 10 ^ j = M
    generalize F / 10 ^ (6 - (j + 1)) = X
    omega
theorem fr_lem (N F : Nat) (L : List Nat) (hF : F < 1000000) (g : ∀ i, i < 6 → L.getD i 48 = 48 + F / 10 ^ (5 - i) % 10) : fr N L 6 = N * 1000000 + F := by
  have := fr_ind N F L hF g 6 (by decide)
  simpa using this
theorem fr_frs (N F m : Nat) (hF : F < 1000000) : fr N (frs F 6 ++ List.replicate m 48) 6 = N * 1000000 + F := by
  refine fr_lem N F _ hF fun i hi => ?_
  rw [getD_zeros]
  exact frs_getD F 6 i hi
/-- What a text of digits, with zeros ahead and behind, is read as. -/
theorem Parsed.num {bs : List Nat} {neg : Bool} {n V F m m' : Nat} (h : Parsed bs neg (List.replicate m 48 ++ digs 31 V []) (frs F 6 ++ List.replicate m' 48) n) (hV : V < 1000000000000000000000000000000) (hF : F < 1000000) :
    numN bs = V * 1000000 + F ∧ (strip (wholeL bs)).length ≤ 30 ∧ 0 < nW bs + nB bs := by
  refine ⟨?_, ?_, ?_⟩
  · unfold numN
    rw [h.hwhole, h.hbehind, fr_frs _ _ _ hF, strip_zeros, dv_strip, dv_digs 31 V [] (Nat.lt_of_lt_of_le hV (by decide)), show dv V [] = V from rfl]
  · rw [h.hwhole, strip_zeros]
    exact Nat.le_trans (strip_len _) (digs_30 V hV)
  · rw [h.hW, List.length_append]
    have : 1 ≤ (digs 31 V []).length := digs_pos 30 V []
    omega
theorem Parsed.looks {bs : List Nat} {neg : Bool} {W f : List Nat} (h : Parsed bs neg W f bs.length) (hW : 0 < W.length) : looksB bs = true := by
  unfold looksB
  rw [h.hI3, h.hW, Bool.and_eq_true, decide_eq_true_eq, decide_eq_true_eq]
  exact ⟨by omega, by simp [span]⟩
theorem Parsed.z {bs : List Nat} {neg : Bool} {W f : List Nat} {n : Nat} (h : Parsed bs neg W f n) : pz bs = if neg then -(numN bs : Int) else (numN bs : Int) := by
  unfold pz; rw [h.hneg]
theorem nil_zeros (F : Nat) : frs F 6 = frs F 6 ++ List.replicate 0 48 := by simp
theorem frs_zero : ∀ k, frs 0 k = [] := by
  intro k
  induction k with
  | zero => rfl
  | succ k ih => simp [frs, ih]
/-- A number's own text, and something behind it that is of no numeral, is read as it was. -/
theorem text_parse (z : Int) (rest : List Nat) (h1 : NoDig rest) (h2 : rest.head? ≠ some 46) :
    Parsed (textL z ++ rest) (decide (z < 0)) (digs 31 (z.natAbs / 1000000) []) (frs (z.natAbs % 1000000) 6) (textL z).length := by
  have hD : (frP (z.natAbs % 1000000) = [] ∧ frs (z.natAbs % 1000000) 6 = [] ∧ rest.head? ≠ some 46) ∨ frP (z.natAbs % 1000000) = 46 :: frs (z.natAbs % 1000000) 6 := by
    unfold frP; split
    · rename_i h; left; rw [h]; exact ⟨rfl, frs_zero 6, h2⟩
    · right; rfl
  have key := parse (decide (z < 0)) (digs 31 (z.natAbs / 1000000) []) (frP (z.natAbs % 1000000)) (frs (z.natAbs % 1000000) 6) rest (digs_dig _ _ _ (by intro x hx; simp at hx)) (digs_pos 30 _ _) (frs_dig _ _) hD h1
  have e : textL z = (if decide (z < 0) = true then [45] else []) ++ digs 31 (z.natAbs / 1000000) [] ++ frP (z.natAbs % 1000000) := by
    unfold textL; rw [digs_app _ _ (frP _), List.append_assoc]; simp only [decide_eq_true_eq]
  rw [e]
  have hl : ((if decide (z < 0) = true then [45] else []) ++ digs 31 (z.natAbs / 1000000) [] ++ frP (z.natAbs % 1000000)).length = (if decide (z < 0) = true then 1 else 0) + (digs 31 (z.natAbs / 1000000) []).length + (frP (z.natAbs % 1000000)).length := by
    rw [List.length_append, List.length_append]; split <;> rfl
  rw [hl]; exact key
theorem text_read (z : Int) (rest : List Nat) (h1 : NoDig rest) (h2 : rest.head? ≠ some 46) (hz : z.natAbs < LIM) :
    pz (textL z ++ rest) = z ∧ nI3 (textL z ++ rest) = (textL z).length ∧ (strip (wholeL (textL z ++ rest))).length ≤ 30 ∧ 0 < nW (textL z ++ rest) + nB (textL z ++ rest) := by
  have h := text_parse z rest h1 h2
  have hN : z.natAbs < 1000000000000000000000000000000000000 := by unfold LIM at hz; omega
  have h' : Parsed (textL z ++ rest) (decide (z < 0)) (List.replicate 0 48 ++ digs 31 (z.natAbs / 1000000) []) (frs (z.natAbs % 1000000) 6 ++ List.replicate 0 48) (textL z).length := by simpa using h
  obtain ⟨e1, e2, e3⟩ := h'.num (by omega) (by omega)
  refine ⟨?_, h.hI3, e2, e3⟩
  rw [h.z, e1]
  by_cases hz0 : z < 0 <;> simp only [hz0, decide_true, decide_false, if_true, Bool.false_eq_true, if_false] <;> omega
def hasDot (l : List Nat) : Bool := l.contains 46
theorem take_has (L : List Nat) (k : Nat) (h : k < L.length) : hasDot (L.take (k + 1)) = (hasDot (L.take k) || (L[k] == 46)) := by
  unfold hasDot
  rw [List.take_succ_eq_append_getElem h, List.contains_append]
  congr 1
  simp only [List.contains_cons, List.contains_nil, Bool.or_false]
  rw [Bool.eq_iff_iff]; simp only [beq_iff_eq]; exact eq_comm
theorem no_dot {l : List Nat} (h : AllDig l) : l.contains 46 = false := by
  rw [Bool.eq_false_iff]
  intro hc
  have := h 46 (by simpa using hc)
  omega
/-- A text of no negative number, with its point. -/
def dotted (z : Int) : List Nat := digs 31 (z.natAbs / 1000000) [] ++ 46 :: frs (z.natAbs % 1000000) 6
theorem text_dot (z : Int) (h : 0 ≤ z) : (hasDot (textL z) = true ∧ textL z = dotted z) ∨ (hasDot (textL z) = false ∧ textL z ++ [46] = dotted z) := by
  unfold hasDot
  have e : textL z = digs 31 (z.natAbs / 1000000) [] ++ frP (z.natAbs % 1000000) := by
    unfold textL; rw [if_neg (by omega), List.nil_append, digs_app]
  have hd := no_dot (digs_dig 31 (z.natAbs / 1000000) [] (by intro x hx; simp at hx))
  unfold dotted
  rw [e]
  by_cases hF : z.natAbs % 1000000 = 0
  · right
    rw [hF]
    have : frP 0 = [] := rfl
    rw [this, frs_zero, List.append_nil]
    exact ⟨hd, rfl⟩
  · left
    have : frP (z.natAbs % 1000000) = 46 :: frs (z.natAbs % 1000000) 6 := by unfold frP; rw [if_neg hF]
    rw [this]
    exact ⟨by rw [List.contains_append]; simp, rfl⟩
theorem dig_bytes {l : List Nat} (h : AllDig l) : Bytes l := fun x hx => by have := h x hx; omega
theorem bytes_app {l m : List Nat} (hl : Bytes l) (hm : Bytes m) : Bytes (l ++ m) := fun x hx => by
  rcases List.mem_append.1 hx with hx | hx
  · exact hl x hx
  · exact hm x hx
theorem bytes_rep (k : Nat) : Bytes (List.replicate k 48) := fun x hx => by rw [(List.mem_replicate.1 hx).2]; decide
theorem dotted_bytes (z : Int) : Bytes (dotted z) := by
  unfold dotted
  refine bytes_app (dig_bytes (digs_dig _ _ _ (by intro x hx; simp at hx))) ?_
  intro x hx
  rcases List.mem_cons.1 hx with rfl | hx
  · decide
  · exact dig_bytes (frs_dig _ 6) x hx
/-- Zeros ahead, zeros behind: it is read as it was. -/
theorem dotted_read (z : Int) (h : 0 ≤ z) (hz : z.natAbs < LIM) (a b : Nat) :
    let bs := List.replicate a 48 ++ dotted z ++ List.replicate b 48
    pz bs = z ∧ nI3 bs = bs.length ∧ (strip (wholeL bs)).length ≤ 30 ∧ 0 < nW bs + nB bs := by
  intro bs
  have hN : z.natAbs < 1000000000000000000000000000000000000 := by unfold LIM at hz; omega
  have hz0 : AllDig (List.replicate a 48) := fun x hx => by rw [(List.mem_replicate.1 hx).2]; decide
  have hz1 : AllDig (List.replicate b 48) := fun x hx => by rw [(List.mem_replicate.1 hx).2]; decide
  have app : ∀ {l m : List Nat}, AllDig l → AllDig m → AllDig (l ++ m) := fun hl hm x hx => by
    rcases List.mem_append.1 hx with hx | hx
    · exact hl x hx
    · exact hm x hx
  have hpos : 1 ≤ (digs 31 (z.natAbs / 1000000) []).length := digs_pos 30 _ _
  have key := parse false (List.replicate a 48 ++ digs 31 (z.natAbs / 1000000) []) (46 :: (frs (z.natAbs % 1000000) 6 ++ List.replicate b 48)) (frs (z.natAbs % 1000000) 6 ++ List.replicate b 48) [] (app hz0 (digs_dig _ _ _ (by intro x hx; simp at hx))) (by rw [List.length_append]; omega) (app (frs_dig _ _) hz1) (.inr rfl) (by intro x hx; simp at hx)
  have e : (if false = true then [45] else []) ++ (List.replicate a 48 ++ digs 31 (z.natAbs / 1000000) []) ++ (46 :: (frs (z.natAbs % 1000000) 6 ++ List.replicate b 48)) ++ [] = bs := by
    simp [bs, dotted]
  rw [e] at key
  obtain ⟨e1, e2, e3⟩ := key.num (by omega) (by omega)
  refine ⟨?_, ?_, e2, e3⟩
  · rw [key.z, e1]
    simp only [Bool.false_eq_true, if_false]; omega
  · rw [key.hI3, ← e]; simp; omega
end Go.Proofs.YtpkooogfefkcdaaDoor

/- fieldfarelaw08.FormatFixed, plain: what is told with so many places is read as the number, cut there. -/
namespace Go.Proofs.YtpkooogfefkcdaaDoor
open Go.RowKit
theorem digits_dig (k V : Nat) : AllDig (digs k V []) := digs_dig k V [] (fun x hx => by cases hx)
theorem no46 {l : List Nat} (h : AllDig l) : 46 ∉ l := fun hm => by have := h 46 hm; omega
theorem digitsF_eq (z : Int) : digitsF z = (digs 31 (z.natAbs / 1000000) [], frs (z.natAbs % 1000000) 6) := by
  have hW := digits_dig 31 (z.natAbs / 1000000)
  have e : textL (z.natAbs : Int) = digs 31 (z.natAbs / 1000000) [] ++ frP (z.natAbs % 1000000) := by
    unfold textL; rw [if_neg (by omega), List.nil_append, digs_app, Int.natAbs_natCast]
  unfold digitsF
  rw [e]
  by_cases hF : z.natAbs % 1000000 = 0
  · rw [hF, show frP 0 = [] from rfl, List.append_nil, frs_zero, cut_none 46 _ (no46 hW)]
  · have h3 : frP (z.natAbs % 1000000) = 46 :: frs (z.natAbs % 1000000) 6 := by unfold frP; rw [if_neg hF]
    rw [h3, cut_app 46 _ _ (no46 hW)]
def fixL (z : Int) (p : Nat) : List Nat := (frs (z.natAbs % 1000000) 6 ++ List.replicate (p - (frs (z.natAbs % 1000000) 6).length) 48).take p
/-- What is told of a number with p places. -/
def fixT (z : Int) (p : Nat) : List Nat := (if decide (z < 0) = true then [45] else []) ++ digs 31 (z.natAbs / 1000000) [] ++ (if p = 0 then [] else 46 :: fixL z p)
theorem fixedF_eq (z : Int) (p : Nat) : fixedF (p : Int) z = digs 31 (z.natAbs / 1000000) [] ++ (if p = 0 then [] else 46 :: fixL z p) := by
  unfold fixedF fixL
  rw [digitsF_eq]
  simp only [Int.toNat_natCast]
  rw [if_neg (show ¬((p : Int) < 0) by omega)]
  by_cases h : p = 0
  · rw [if_pos h, if_pos h, List.append_nil]
  · rw [if_neg h, if_neg h]
/-- The places, cut at the p-th. -/
def cutF (F p : Nat) : Nat := if 6 ≤ p then F else F / 10 ^ (6 - p) * 10 ^ (6 - p)
theorem cut_digit (F p i : Nat) (hi : i < 6) (h : i < p) : cutF F p / 10 ^ (5 - i) % 10 = F / 10 ^ (5 - i) % 10 := by
  unfold cutF
  split
  · rfl
  · rw [show 5 - i = (6 - p) + (p - 1 - i) by omega, Nat.pow_add, ← Nat.div_div_eq_div_mul, ← Nat.div_div_eq_div_mul, Nat.mul_div_cancel _ (Nat.pow_pos (by decide))]
theorem cut_digit0 (F p i : Nat) (hi : i < 6) (h : p ≤ i) : cutF F p / 10 ^ (5 - i) % 10 = 0 := by
  unfold cutF
  rw [if_neg (by omega)]
  rw [show 6 - p = (i - p + 1) + (5 - i) by omega, Nat.pow_add, ← Nat.mul_assoc, Nat.mul_div_cancel _ (Nat.pow_pos (by decide)), Nat.pow_succ, ← Nat.mul_assoc]
  exact Nat.mul_mod_left _ _
theorem cut_le (F p : Nat) : cutF F p ≤ F := by
  unfold cutF; split
  · exact Nat.le_refl _
  · exact Nat.div_mul_le_self _ _
theorem cut_rest (F p : Nat) (h : p < 6) : F - cutF F p < 10 ^ (6 - p) := by
  unfold cutF
  rw [if_neg (by omega)]
  have h1 := Nat.div_add_mod F (10 ^ (6 - p))
  have h2 := Nat.mod_lt F (show 10 ^ (6 - p) > 0 from Nat.pow_pos (by decide))
  rw [Nat.mul_comm] at h1
  omega
theorem getD_take (l : List Nat) (p i : Nat) : (l.take p).getD i 48 = if i < p then l.getD i 48 else 48 := by
  by_cases h : i < p
  · rw [if_pos h, List.getD_eq_getElem?_getD, List.getD_eq_getElem?_getD, List.getElem?_take_of_lt h]
  · rw [if_neg h, List.getD_eq_getElem?_getD, List.getElem?_take, if_neg h]; rfl
theorem fixL_fr (z : Int) (p N : Nat) : fr N (fixL z p) 6 = N * 1000000 + cutF (z.natAbs % 1000000) p := by
  have hF : z.natAbs % 1000000 < 1000000 := Nat.mod_lt _ (by decide)
  refine fr_lem N _ _ (Nat.lt_of_le_of_lt (cut_le _ _) hF) fun i hi => ?_
  unfold fixL
  rw [getD_take]
  split
  · rename_i h
    rw [getD_zeros, frs_getD _ 6 i hi, cut_digit _ _ _ hi h]
  · rename_i h
    rw [cut_digit0 _ _ _ hi (by omega)]
theorem fr_nil0 (N : Nat) : fr N [] 6 = N * 1000000 := by
  have h : ∀ k, fr N [] k = N * 10 ^ k := by
    intro k
    induction k with
    | zero => simp [fr]
    | succ k ih => simp only [fr, ih, List.getD_nil, Nat.sub_self, Nat.add_zero, Nat.pow_succ, Nat.mul_assoc]
  exact h 6
theorem fixL_dig (z : Int) (p : Nat) : AllDig (fixL z p) := fun x hx => by
  have h := List.mem_of_mem_take hx
  rcases List.mem_append.1 h with h | h
  · exact frs_dig _ 6 x h
  · rw [(List.mem_replicate.1 h).2]; decide
/-- The number, cut at the p-th place. -/
def cutZ (z : Int) (p : Nat) : Int := if z < 0 then -((z.natAbs / 1000000 * 1000000 + cutF (z.natAbs % 1000000) p : Nat) : Int) else ((z.natAbs / 1000000 * 1000000 + cutF (z.natAbs % 1000000) p : Nat) : Int)
theorem fix_read (z : Int) (p : Nat) (hz : z.natAbs < LIM) : pz (fixT z p) = cutZ z p ∧ nI3 (fixT z p) = (fixT z p).length ∧ (strip (wholeL (fixT z p))).length ≤ 30 ∧ 0 < nW (fixT z p) + nB (fixT z p) := by
  have hN : z.natAbs < 1000000000000000000000000000000000000 := by unfold LIM at hz; omega
  have hV : z.natAbs / 1000000 < 1000000000000000000000000000000 := by omega
  have hpos : 0 < (digs 31 (z.natAbs / 1000000) []).length := digs_pos 30 _ _
  obtain ⟨f, hf, hD, hP⟩ : ∃ f, fr (z.natAbs / 1000000) f 6 = z.natAbs / 1000000 * 1000000 + cutF (z.natAbs % 1000000) p ∧
      (∃ D, fixT z p = (if decide (z < 0) = true then [45] else []) ++ digs 31 (z.natAbs / 1000000) [] ++ D ++ []) ∧ Parsed (fixT z p) (decide (z < 0)) (digs 31 (z.natAbs / 1000000) []) f (fixT z p).length := by
    by_cases hp : p = 0
    · have key := parse (decide (z < 0)) (digs 31 (z.natAbs / 1000000) []) [] [] [] (digits_dig _ _) hpos (fun x hx => by cases hx) (.inl ⟨rfl, rfl, by simp⟩) (by intro x hx; simp at hx)
      have e : fixT z p = (if decide (z < 0) = true then [45] else []) ++ digs 31 (z.natAbs / 1000000) [] ++ [] ++ [] := by unfold fixT; rw [if_pos hp]; simp only [List.append_nil]
      refine ⟨[], ?_, ⟨[], e⟩, ?_⟩
      · rw [fr_nil0]
        subst hp
        have : z.natAbs % 1000000 / 1000000 = 0 := by omega
        unfold cutF
        rw [if_neg (by decide), show (10 : Nat) ^ (6 - 0) = 1000000 by decide, this]; omega
      · rw [← e] at key
        have hl : (fixT z p).length = (if decide (z < 0) = true then 1 else 0) + (digs 31 (z.natAbs / 1000000) []).length + ([] : List Nat).length := by
          rw [e]; simp only [List.length_append, List.append_nil, List.length_nil]; split <;> simp
        rw [hl]; exact key
    · have key := parse (decide (z < 0)) (digs 31 (z.natAbs / 1000000) []) (46 :: fixL z p) (fixL z p) [] (digits_dig _ _) hpos (fixL_dig z p) (.inr rfl) (by intro x hx; simp at hx)
      have e : fixT z p = (if decide (z < 0) = true then [45] else []) ++ digs 31 (z.natAbs / 1000000) [] ++ (46 :: fixL z p) ++ [] := by unfold fixT; rw [if_neg hp, List.append_nil]
      refine ⟨fixL z p, fixL_fr z p _, ⟨_, e⟩, ?_⟩
      rw [← e] at key
      have hl : (fixT z p).length = (if decide (z < 0) = true then 1 else 0) + (digs 31 (z.natAbs / 1000000) []).length + (46 :: fixL z p).length := by
        rw [e]; simp only [List.length_append, List.append_nil]; split <;> simp
      rw [hl]; exact key
  have hnum : numN (fixT z p) = z.natAbs / 1000000 * 1000000 + cutF (z.natAbs % 1000000) p := by
    unfold numN
    rw [hP.hwhole, hP.hbehind, dv_strip, dv_digs 31 _ [] (Nat.lt_of_lt_of_le hV (by decide)), show dv (z.natAbs / 1000000) [] = z.natAbs / 1000000 from rfl, hf]
  refine ⟨?_, hP.hI3, ?_, ?_⟩
  · rw [hP.z, hnum]
    unfold cutZ
    by_cases h : z < 0 <;> simp [h]
  · rw [hP.hwhole]
    exact Nat.le_trans (strip_len _) (digs_30 _ hV)
  · rw [hP.hW]; omega
theorem cutZ_six (z : Int) (p : Nat) (h : 6 ≤ p) : cutZ z p = z := by
  unfold cutZ cutF
  rw [if_pos h]
  split <;> omega
theorem cutZ_rest (z : Int) (p : Nat) (h : p < 6) : ∃ δ : Nat, δ < 10 ^ (6 - p) ∧ z - cutZ z p = if z < 0 then -(δ : Int) else (δ : Int) := by
  refine ⟨z.natAbs % 1000000 - cutF (z.natAbs % 1000000) p, cut_rest _ _ h, ?_⟩
  have := cut_le (z.natAbs % 1000000) p
  unfold cutZ
  split <;> omega
theorem cutZ_lim {z : Int} (p : Nat) (h : z.natAbs < LIM) : (cutZ z p).natAbs < LIM := by
  have := cut_le (z.natAbs % 1000000) p
  unfold LIM at *
  unfold cutZ
  split <;> omega
theorem fixT_byte (z : Int) (p : Nat) : ∀ x ∈ fixT z p, x < 256 := fun x hx => by
  unfold fixT at hx
  rcases List.mem_append.1 hx with hx | hx
  · rcases List.mem_append.1 hx with hx | hx
    · split at hx
      · simp at hx; omega
      · cases hx
    · have := digits_dig 31 (z.natAbs / 1000000) x hx; omega
  · split at hx
    · cases hx
    · rcases List.mem_cons.1 hx with rfl | hx
      · decide
      · have := fixL_dig z p x hx; omega
theorem fixT_len (z : Int) (p : Nat) : (fixT z p).length ≤ p + 40 := by
  have h1 := digs_len 31 (z.natAbs / 1000000) []
  have h2 : (fixL z p).length ≤ p := by unfold fixL; rw [List.length_take]; omega
  unfold fixT
  rw [List.length_append, List.length_append]
  simp only [List.length_nil] at h1
  have h3 : (if decide (z < 0) = true then [45] else []).length ≤ 1 := by split <;> simp
  have h4 : (if p = 0 then [] else 46 :: fixL z p).length ≤ p + 1 := by split <;> simp; omega
  omega
def fixP : List Nat := [37, 46, 42, 102]
theorem fix_gen (z : Int) (p : Nat) (hp : p ≤ 99) (args : List ArgF) (a : ArgF) (ha : a.z = some z) (hstar : starF args = some ((p : Int), [a])) : makeF 5 fixP args [] = .ok (fixT z p) := by
  have hl := fixT_len z p
  have hadd : addF [] (fixT z p) = .ok (fixT z p) := by
    unfold addF
    rw [if_neg (by rw [List.length_nil]; omega)]; rfl
  have hpc : pieceF fixP = .inr ⟨⟨false, false, false, false⟩, 0, 0, false, true, 102, 4⟩ := by rfl
  rw [makeF_verb (by simp [fixP]) hpc]
  have ht : tellF ⟨⟨false, false, false, false⟩, 0, 0, false, true, 102, 4⟩ args [] = .ok (fixT z p, []) := by
    unfold tellF widthF
    rw [if_neg (by decide)]
    simp only [precF, if_true, hstar, Option.map_some]
    rw [if_neg (by decide)]
    rw [takeF_some _ _ z ha]
    have hb : bodyF ⟨⟨false, false, false, false⟩, 0, (p : Int), false, true, 102, 4⟩ a z = .ok ((if decide (z < 0) = true then [45] else []), fixedF (p : Int) z) := by
      unfold bodyF
      rw [if_neg (show ¬(102 = 100 ∨ 102 = 105) by decide), if_pos rfl]
      unfold signF
      simp
    simp only [hb]
    have hlaid : laidF ⟨⟨false, false, false, false⟩, 0, (p : Int), false, true, 102, 4⟩ ((if decide (z < 0) = true then [45] else []), fixedF (p : Int) z) = fixT z p := by
      unfold laidF zerosF
      simp only [Nat.zero_sub, Bool.false_eq_true, if_false, ite_self, List.replicate_zero, List.nil_append, List.append_nil]
      rw [fixedF_eq]
      unfold fixT
      rw [List.append_assoc]
    rw [hlaid, hadd]
  rw [ht]
  exact makeF_nil _ (by decide) _ _
end Go.Proofs.YtpkooogfefkcdaaDoor

/- fieldfarelaw08.FormatWholes, plain. -/
namespace Go.Proofs.YtpkooogfefkcdaaDoor
open Go.RowKit
theorem hexN_dig (up : Bool) (r : Nat) (h : r < 16) : hexN (if r < 10 then 48 + r else (if up then 55 else 87) + r) = r ∧ isHex (if r < 10 then 48 + r else (if up then 55 else 87) + r) := by
  unfold hexN isHex
  by_cases h10 : r < 10
  · rw [if_pos h10, if_pos (by omega)]; omega
  · rw [if_neg h10]
    cases up
    · simp only [Bool.false_eq_true, if_false]
      rw [if_neg (by omega), if_pos (by omega)]; omega
    · simp only [if_true]
      rw [if_neg (by omega), if_neg (by omega)]; omega
theorem base_val (up : Bool) (b : Nat) (hb : 2 ≤ b) (hb2 : b ≤ 16) : ∀ k n, n < b ^ k → natV b (baseF up b k n) = n ∧ ∀ x ∈ baseF up b k n, isHex x
  | 0, n, h => by
    rw [Nat.pow_zero] at h
    obtain rfl : n = 0 := by omega
    exact ⟨rfl, fun x hx => by cases hx⟩
  | k + 1, n, h => by
    have hm : n % b < b := Nat.mod_lt _ (by omega)
    obtain ⟨h1, h2⟩ := hexN_dig up (n % b) (by omega)
    rw [baseF, natV_snoc, h1]
    by_cases hlt : n < b
    · rw [if_pos hlt]
      refine ⟨?_, fun x hx => ?_⟩
      · show b * 0 + n % b = n
        rw [Nat.mul_zero, Nat.zero_add, Nat.mod_eq_of_lt hlt]
      · rw [List.nil_append, List.mem_singleton] at hx; rw [hx]; exact h2
    · rw [if_neg hlt]
      have hd : n / b < b ^ k := by rw [Nat.div_lt_iff_lt_mul (by omega), ← Nat.pow_succ]; exact h
      obtain ⟨g1, g2⟩ := base_val up b hb hb2 k (n / b) hd
      refine ⟨?_, fun x hx => ?_⟩
      · rw [g1]; exact Nat.div_add_mod n b
      · rcases List.mem_append.1 hx with hx | hx
        · exact g2 x hx
        · rw [List.mem_singleton] at hx; rw [hx]; exact h2
theorem dv_natV : ∀ (l : List Nat) (N : Nat), AllDig l → l.foldl (fun v c => 10 * v + hexN c) N = dv N l
  | [], N, _ => rfl
  | x :: l, N, h => by
    have hx := h x (List.mem_cons_self ..)
    rw [List.foldl_cons, dv_cons, dv_natV l _ fun y hy => h y (List.mem_cons_of_mem _ hy)]
    congr 1
    unfold hexN
    rw [if_pos hx, Nat.mul_comm]
theorem digs_natV (V : Nat) (h : V < 10000000000000000000) : natV 10 (digs 31 V []) = V := by
  have h1 := dv_natV (digs 31 V []) 0 (digits_dig 31 V)
  have h2 := dv_digs 31 V [] (Nat.lt_of_lt_of_le h (by decide))
  unfold natV
  rw [h1, h2]; rfl
def whD (n : Int) : List Nat := (if n < 0 then [45] else []) ++ digs 31 n.natAbs []
def whX (up : Bool) (n : Int) : List Nat := baseF up 16 16 (u64F n)
def whO (n : Int) : List Nat := baseF false 8 22 (u64F n)
def whT (n : Int) : List Nat := whD n ++ 32 :: (whD n ++ 32 :: (whX false n ++ 32 :: (whO n ++ 32 :: whX true n)))
def whP : List Nat := [37, 100, 32, 37, 105, 32, 37, 120, 32, 37, 111, 32, 37, 88]
def spW (v : Nat) : SpecF := ⟨⟨false, false, false, false⟩, 0, -1, false, false, v, 2⟩
theorem tell_w (v : Nat) (hv : v ≠ 0) (a : ArgF) (r : List ArgF) (z : Int) (x : List Nat × List Nat) (ha : a.z = some z) (hb : bodyF (spW v) a z = .ok x) : tellU (spW v) (a :: r) = some (x.1 ++ x.2, r) := by
  unfold tellU
  have h1 : widthF (spW v) (a :: r) = some (spW v, a :: r) := rfl
  have h2 : precF (spW v) (a :: r) = some (spW v, a :: r) := rfl
  rw [h1]
  dsimp only
  rw [h2]
  dsimp only
  rw [if_neg (show ¬(spW v).verb = 0 from hv), takeF_some _ _ z ha]
  simp only [hb]
  have hl : laidF (spW v) x = x.1 ++ x.2 := by
    unfold laidF
    simp only [spW, Nat.zero_sub, List.replicate_zero, Bool.false_eq_true, if_false, List.nil_append, List.append_nil, ite_self]
  rw [hl]
theorem filled_no (d : List Nat) : filledF (-1) d = d := by
  unfold filledF
  rw [show ((-1 : Int) - d.length).toNat = 0 by omega]; rfl
section
variable {a : ArgF} {z n : Int}
theorem wh_d (v : Nat) (hv : v = 100 ∨ v = 105) (hz : z.tdiv 1000000 = n) : bodyF (spW v) a z = .ok ((if n < 0 then [45] else []), digs 31 n.natAbs []) := by
  unfold bodyF
  rw [if_pos (show (spW v).verb = 100 ∨ (spW v).verb = 105 from hv), hz, digitsF_eq]
  have e : (n * 1000000).natAbs / 1000000 = n.natAbs := by omega
  rw [e]
  show Except.ok (signF _ _, filledF (-1) _) = _
  rw [filled_no]
  unfold signF
  simp [spW]
theorem wh_w (v : Nat) (hv : v = 111 ∨ v = 120 ∨ v = 88) (hz : wholeZ z = (n, true)) : bodyF (spW v) a z = .ok ([], if v = 111 then whO n else whX (v == 88) n) := by
  rw [bodyF_whole (spW v) a z (by right; exact hv), hz]
  rw [if_neg (by simp), if_neg (show ¬(spW v).verb = 99 by show ¬v = 99; omega)]
  by_cases h : v = 111
  · rw [if_pos (show (spW v).verb = 111 from h), if_pos h]
    show Except.ok ([], filledF (-1) _) = _
    rw [filled_no]; rfl
  · rw [if_neg (show ¬(spW v).verb = 111 from h), if_neg h]
    show Except.ok ([], filledF (-1) _) = _
    rw [filled_no]; rfl
theorem wh_out (ha : a.z = some z) (hz : z.tdiv 1000000 = n) (hw : wholeZ z = (n, true)) : outL whP [a, a, a, a, a] = some (whT n) := by
  have v1 := tell_w 100 (by decide) a [a, a, a, a] z _ ha (wh_d 100 (.inl rfl) hz)
  have v2 := tell_w 105 (by decide) a [a, a, a] z _ ha (wh_d 105 (.inr rfl) hz)
  have v3 := tell_w 120 (by decide) a [a, a] z _ ha (wh_w 120 (by omega) hw)
  have v4 := tell_w 111 (by decide) a [a] z _ ha (wh_w 111 (by omega) hw)
  have v5 := tell_w 88 (by decide) a [] z _ ha (wh_w 88 (by omega) hw)
  have sp : ∀ (q : List Nat) (r : List ArgF), outL (32 :: q) r = (outL q r).map fun u => [32] ++ u := fun q r => out_plain [32] q r (by decide)
  have g : ∀ (v : Nat) (q : List Nat) (r : List ArgF), pieceF (37 :: v :: q) = .inr (spW v) → outL (37 :: v :: q) r = (tellU (spW v) r).bind fun y => (outL q y.2).map fun u => y.1 ++ u := fun v q r h => outL_verb (by simp) h
  unfold whP
  rw [g 100 _ _ rfl, v1, Option.bind_some]
  dsimp only
  rw [sp, g 105 _ _ rfl, v2, Option.bind_some]
  dsimp only
  rw [sp, g 120 _ _ rfl, v3, Option.bind_some]
  dsimp only
  rw [sp, g 111 _ _ rfl, v4, Option.bind_some]
  dsimp only
  rw [sp, g 88 _ _ rfl, v5, Option.bind_some]
  dsimp only
  rw [outL_nil]
  simp only [Option.map_some]
  unfold whT whD
  simp
end
theorem whD_no (n : Int) : ∀ x ∈ whD n, x ≠ 32 ∧ x < 256 := fun x hx => by
  unfold whD at hx
  rcases List.mem_append.1 hx with hx | hx
  · split at hx
    · simp at hx; omega
    · cases hx
  · have := digits_dig 31 n.natAbs x hx; omega
theorem hex_no {x : Nat} (h : isHex x) : x ≠ 32 ∧ x < 256 := by unfold isHex at h; omega
theorem u64F_16 (n : Int) : u64F n < 16 ^ 16 := by have := u64F_lt n; exact Nat.lt_of_lt_of_le this (by decide)
theorem u64F_8 (n : Int) : u64F n < 8 ^ 22 := by have := u64F_lt n; exact Nat.lt_of_lt_of_le this (by decide)
theorem whX_val (up : Bool) (n : Int) : natV 16 (whX up n) = u64F n ∧ ∀ x ∈ whX up n, isHex x := base_val up 16 (by decide) (by decide) 16 _ (u64F_16 n)
theorem whO_val (n : Int) : natV 8 (whO n) = u64F n ∧ ∀ x ∈ whO n, isHex x := base_val false 8 (by decide) (by decide) 22 _ (u64F_8 n)
theorem whT_parts (n : Int) : partsG [] (whT n) = [whD n, whD n, whX false n, whO n, whX true n] := by
  unfold whT
  rw [partsG_app _ _ _ (fun x hx => (whD_no n x hx).1), partsG_app _ _ _ (fun x hx => (whD_no n x hx).1), partsG_app _ _ _ (fun x hx => (hex_no ((whX_val false n).2 x hx)).1), partsG_app _ _ _ (fun x hx => (hex_no ((whO_val n).2 x hx)).1), partsG_end _ _ (fun x hx => (hex_no ((whX_val true n).2 x hx)).1)]
  rfl
theorem whD_len (n : Int) : (whD n).length ≤ 32 := by
  have := digs_len 31 n.natAbs []
  unfold whD
  rw [List.length_append]
  simp only [List.length_nil] at this
  split <;> simp <;> omega
theorem whT_len (n : Int) : (whT n).length ≤ 130 := by
  have h1 := whD_len n
  have h2 := baseF_len false 16 16 (u64F n)
  have h3 := baseF_len true 16 16 (u64F n)
  have h4 := baseF_len false 8 22 (u64F n)
  unfold whT whX whO
  simp only [List.length_append, List.length_cons]
  omega
theorem whT_byte (n : Int) : ∀ x ∈ whT n, x < 256 := fun x hx => by
  unfold whT at hx
  simp only [List.mem_append, List.mem_cons] at hx
  rcases hx with h | rfl | h | rfl | h | rfl | h | rfl | h
  · exact (whD_no n x h).2
  · decide
  · exact (whD_no n x h).2
  · decide
  · exact (hex_no ((whX_val false n).2 x h)).2
  · decide
  · exact (hex_no ((whO_val n).2 x h)).2
  · decide
  · exact (hex_no ((whX_val true n).2 x h)).2
theorem wh_make {a : ArgF} {z n : Int} (ha : a.z = some z) (hz : z.tdiv 1000000 = n) (hw : wholeZ z = (n, true)) : makeF (whP.length + 1) whP [a, a, a, a, a] [] = .ok (whT n) := by
  have h1 := make_out whP [a, a, a, a, a]
  rw [wh_out ha hz hw, Option.bind_some, if_pos (by have := whT_len n; omega)] at h1
  exact opt_ok h1
end Go.Proofs.YtpkooogfefkcdaaDoor

/- dec.Sub, Cmp. -/
namespace Go.Proofs.YtpkooogfefkcdaaDoor
open Go.RowKit
set_option maxRecDepth 100000 in
set_option maxHeartbeats 400000 in
theorem sub_any (n m rn : Bool) (ha la hb lb rh rl zb : Int) (er : Value) (ga : goodB n ha la = true) (ib : IsD m hb lb zb)
    (HR : Hid (∀ W, Calls Tryd.prog 26 #[.agg #[.bool n, .int .u64 ha, .int .u64 la], .agg #[.bool (zn (-zb)), .int .u64 (zh (-zb)), .int .u64 (zl (-zb))]] W
      fun e w' => e = .returned (.tuple #[.agg #[.bool rn, .int .u64 rh, .int .u64 rl], er]) ∧ Below W.heap.size W w')) (w : World) :
    Calls Tryd.prog 16 #[.agg #[.bool n, .int .u64 ha, .int .u64 la], .agg #[.bool m, .int .u64 hb, .int .u64 lb]] w fun e w' => e = .returned (.tuple #[.agg #[.bool rn, .int .u64 rh, .int .u64 rl], er]) ∧ Below w.heap.size w w' := by
  have gb := good_of ib
  go_enter Tryd.func16, Tryd.ntmps16
  go_wp2_with ((go_at_call 14; refine (good_any _ _ _ _).mono ?_; rintro e w1 ⟨rfl, rfl⟩))
  go_region_with (first | (go_at_call 17; refine (neg_ok _ _ _ _ ib _).mono ?_; rintro e w1 ⟨rfl, q1⟩; obtain ⟨hc_q1, hf_q1⟩ := bcell q1; have hs_q1 := Below.size q1; (try simp at hs_q1); have kq1_wheapsize11_0 : w1.cell? ⟨w.heap.size + 1 + 1, 0, none⟩ = some (.bool false) := (Below.cell q1 (by first | (simp; done) | (simp; omega) | omega)).trans (by first | (simp (maxDischargeDepth := 12) [go_sem]; done) | simp (maxDischargeDepth := 12) [go_sem, *]); have gq1_wheapsize11_0 : w1.frozen? ⟨w.heap.size + 1 + 1, 0, none⟩ = false := (Below.frozen q1 (by first | (simp; done) | (simp; omega) | omega)).trans (by first | (simp (maxDischargeDepth := 12) [go_sem]; done) | simp (maxDischargeDepth := 12) [go_sem, *]); have kq1_wheapsize11_1 : w1.cell? ⟨w.heap.size + 1 + 1, 1, none⟩ = some (.int .u64 0) := (Below.cell q1 (by first | (simp; done) | (simp; omega) | omega)).trans (by first | (simp (maxDischargeDepth := 12) [go_sem]; done) | simp (maxDischargeDepth := 12) [go_sem, *]); have gq1_wheapsize11_1 : w1.frozen? ⟨w.heap.size + 1 + 1, 1, none⟩ = false := (Below.frozen q1 (by first | (simp; done) | (simp; omega) | omega)).trans (by first | (simp (maxDischargeDepth := 12) [go_sem]; done) | simp (maxDischargeDepth := 12) [go_sem, *]); have kq1_wheapsize11_2 : w1.cell? ⟨w.heap.size + 1 + 1, 2, none⟩ = some (.int .u64 0) := (Below.cell q1 (by first | (simp; done) | (simp; omega) | omega)).trans (by first | (simp (maxDischargeDepth := 12) [go_sem]; done) | simp (maxDischargeDepth := 12) [go_sem, *]); have gq1_wheapsize11_2 : w1.frozen? ⟨w.heap.size + 1 + 1, 2, none⟩ = false := (Below.frozen q1 (by first | (simp; done) | (simp; omega) | omega)).trans (by first | (simp (maxDischargeDepth := 12) [go_sem]; done) | simp (maxDischargeDepth := 12) [go_sem, *]); have lq1_wheapsize11 : w.heap.size + 1 + 1 < w1.heap.size := (by first | omega | (have := Below.size q1; simp at this; omega)); have lq1_wheapsize11' : w.heap.size + 1 + 1 < w1.heap.size + 1 := Nat.lt_succ_of_lt lq1_wheapsize11; have lq1_wheapsize11'' : w.heap.size + 1 + 1 < w1.heap.size + 1 + 1 := Nat.lt_succ_of_lt lq1_wheapsize11') | (go_at_call 26; refine (HR.out _).mono ?_; rintro e w2 ⟨rfl, q2⟩; obtain ⟨hc_q2, hf_q2⟩ := bcell q2; have hs_q2 := Below.size q2; (try simp at hs_q2); have kq2_wheapsize11_0 : w2.cell? ⟨w.heap.size + 1 + 1, 0, none⟩ = some (.bool false) := (Below.cell q2 (by first | (simp; done) | (simp; omega) | omega)).trans (by first | (simp (maxDischargeDepth := 12) [go_sem]; done) | simp (maxDischargeDepth := 12) [go_sem, *]); have gq2_wheapsize11_0 : w2.frozen? ⟨w.heap.size + 1 + 1, 0, none⟩ = false := (Below.frozen q2 (by first | (simp; done) | (simp; omega) | omega)).trans (by first | (simp (maxDischargeDepth := 12) [go_sem]; done) | simp (maxDischargeDepth := 12) [go_sem, *]); have kq2_wheapsize11_1 : w2.cell? ⟨w.heap.size + 1 + 1, 1, none⟩ = some (.int .u64 0) := (Below.cell q2 (by first | (simp; done) | (simp; omega) | omega)).trans (by first | (simp (maxDischargeDepth := 12) [go_sem]; done) | simp (maxDischargeDepth := 12) [go_sem, *]); have gq2_wheapsize11_1 : w2.frozen? ⟨w.heap.size + 1 + 1, 1, none⟩ = false := (Below.frozen q2 (by first | (simp; done) | (simp; omega) | omega)).trans (by first | (simp (maxDischargeDepth := 12) [go_sem]; done) | simp (maxDischargeDepth := 12) [go_sem, *]); have kq2_wheapsize11_2 : w2.cell? ⟨w.heap.size + 1 + 1, 2, none⟩ = some (.int .u64 0) := (Below.cell q2 (by first | (simp; done) | (simp; omega) | omega)).trans (by first | (simp (maxDischargeDepth := 12) [go_sem]; done) | simp (maxDischargeDepth := 12) [go_sem, *]); have gq2_wheapsize11_2 : w2.frozen? ⟨w.heap.size + 1 + 1, 2, none⟩ = false := (Below.frozen q2 (by first | (simp; done) | (simp; omega) | omega)).trans (by first | (simp (maxDischargeDepth := 12) [go_sem]; done) | simp (maxDischargeDepth := 12) [go_sem, *]); have lq2_wheapsize11 : w.heap.size + 1 + 1 < w2.heap.size := (by first | omega | (have := Below.size q2; simp at this; omega)); have lq2_wheapsize11' : w.heap.size + 1 + 1 < w2.heap.size + 1 := Nat.lt_succ_of_lt lq2_wheapsize11; have lq2_wheapsize11'' : w.heap.size + 1 + 1 < w2.heap.size + 1 + 1 := Nat.lt_succ_of_lt lq2_wheapsize11'))
  all_goals (go_wp2; (try simp only [Exit.inBlock, Exit.then]); refine bodyPost_ret (by simp [results, Tryd.results16, go_sem, *]; try rfl) rfl ?_; exact ⟨rfl, by (repeat' (first | (with_reducible exact Below.refl _ _) | (refine Below.trans ?_ (Below.mono (by with_reducible assumption) ?_)) | (with_reducible exact Below.refl _ _) | (with_reducible refine below_drewN ?_ _) | (with_reducible refine Below.drew ?_) | (with_reducible refine Below.setCell ?_ ?_ _) | (with_reducible refine Below.alloc ?_ ?_ _) | (with_reducible assumption) | (simp; done) | (simp; omega) | omega))⟩)
theorem IsD.neg {n : Bool} {h l z : Int} (i : IsD n h l z) : IsD (zn (-z)) (zh (-z)) (zl (-z)) (-z) := IsD.of (by have := i.2.2.2.2; omega)
theorem sub_ok (n m : Bool) (ha la hb lb za zb z : Int) (ia : IsD n ha la za) (ib : IsD m hb lb zb) (hz : z = za - zb) (hl : z.natAbs < LIM) (w : World) :
    Calls Tryd.prog 16 #[.agg #[.bool n, .int .u64 ha, .int .u64 la], .agg #[.bool m, .int .u64 hb, .int .u64 lb]] w fun e w' => e = .returned (.tuple #[.agg #[.bool (zn (z)), .int .u64 (zh (z)), .int .u64 (zl (z))], .nilIface]) ∧ Below w.heap.size w w' :=
  sub_any n m _ ha la hb lb _ _ zb _ (good_of ia) ib (Lib.hid fun W => add_ok _ _ _ _ _ _ za (-zb) z ia ib.neg (by omega) hl W) w
theorem sub_over (n m : Bool) (ha la hb lb za zb : Int) (ia : IsD n ha la za) (ib : IsD m hb lb zb) (hl : LIM ≤ (za - zb).natAbs) (w : World) :
    Calls Tryd.prog 16 #[.agg #[.bool n, .int .u64 ha, .int .u64 la], .agg #[.bool m, .int .u64 hb, .int .u64 lb]] w fun e w' => e = .returned (.tuple #[.agg #[.bool false, .int .u64 0, .int .u64 0], .iface 67 (.int .i64 2)]) ∧ Below w.heap.size w w' :=
  sub_any n m _ ha la hb lb _ _ zb _ (good_of ia) ib (Lib.hid fun W => add_over _ _ _ _ _ _ za (-zb) ia ib.neg (by omega) W) w
set_option maxRecDepth 100000 in
set_option maxHeartbeats 400000 in
theorem sub_bad (n m : Bool) (ha la hb lb : Int) (hg : goodB n ha la = false ∨ goodB m hb lb = false) (w : World) :
    Calls Tryd.prog 16 #[.agg #[.bool n, .int .u64 ha, .int .u64 la], .agg #[.bool m, .int .u64 hb, .int .u64 lb]] w fun e w' => e = .returned (.tuple #[.agg #[.bool false, .int .u64 0, .int .u64 0], .iface 67 (.int .i64 1)]) ∧ Below w.heap.size w w' := by
  cases ga : goodB n ha la
  · clear hg
    go_enter Tryd.func16, Tryd.ntmps16
    go_wp2_with ((go_at_call 14; refine (good_any _ _ _ _).mono ?_; rintro e w1 ⟨rfl, rfl⟩))
    go_returns
    exact ⟨rfl, by (repeat' (first | (with_reducible exact Below.refl _ _) | (refine Below.trans ?_ (Below.mono (by with_reducible assumption) ?_)) | (with_reducible exact Below.refl _ _) | (with_reducible refine below_drewN ?_ _) | (with_reducible refine Below.drew ?_) | (with_reducible refine Below.setCell ?_ ?_ _) | (with_reducible refine Below.alloc ?_ ?_ _) | (with_reducible assumption) | (simp; done) | (simp; omega) | omega))⟩
  · have gb : goodB m hb lb = false := by rcases hg with h | h; rw [ga] at h; cases h; exact h
    clear hg
    go_enter Tryd.func16, Tryd.ntmps16
    go_wp2_with ((go_at_call 14; refine (good_any _ _ _ _).mono ?_; rintro e w1 ⟨rfl, rfl⟩))
    go_returns
    exact ⟨rfl, by (repeat' (first | (with_reducible exact Below.refl _ _) | (refine Below.trans ?_ (Below.mono (by with_reducible assumption) ?_)) | (with_reducible exact Below.refl _ _) | (with_reducible refine below_drewN ?_ _) | (with_reducible refine Below.drew ?_) | (with_reducible refine Below.setCell ?_ ?_ _) | (with_reducible refine Below.alloc ?_ ?_ _) | (with_reducible assumption) | (simp; done) | (simp; omega) | omega))⟩
def cmpZ (a b : Int) : Int := if a < b then -1 else if a = b then 0 else 1
end Go.Proofs.YtpkooogfefkcdaaDoor
