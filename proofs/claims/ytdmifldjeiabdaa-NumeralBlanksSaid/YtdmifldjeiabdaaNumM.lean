/- Plain: a text of digits read as a numeral. -/
import Derived.Test.YtdmifldjeiabdaaNumF
import Derived.Test.YtdmifldjeiabdaaNumG
import Derived.Test.YtdmifldjeiabdaaNumH
namespace Go.Proofs.Ytdmifldjeiabdaa
open Go.RowKit
def NoDig (r : List Nat) : Prop := ∀ x, r.head? = some x → digB x = false
theorem digB_of {x : Nat} (h : 48 ≤ x ∧ x ≤ 57) : digB x = true := by unfold digB; simp; omega
theorem span_app {W r : List Nat} (hW : AllDig W) (hr : NoDig r) : span digB (W ++ r) = W.length := by
  induction W with
  | nil =>
    cases r with
    | nil => rfl
    | cons x r => simp [span, hr x rfl]
  | cons c W ih =>
    have hc := digB_of (hW c List.mem_cons_self)
    simp only [List.cons_append, span, hc, if_true, List.length_cons]
    rw [ih (fun x hx => hW x (List.mem_cons_of_mem _ hx))]
theorem blank_dig {x : Nat} (h : 48 ≤ x ∧ x ≤ 57) : blankB x = false := by unfold blankB; simp; omega
structure Parsed (bs : List Nat) (neg : Bool) (W f : List Nat) (n : Nat) : Prop where
  hneg : sneg bs = neg
  hW : nW bs = W.length
  hwhole : wholeL bs = W
  hB : nB bs = f.length
  hbehind : behindL bs = f
  hI3 : nI3 bs = n
theorem parse (neg : Bool) (W D f rest : List Nat) (hW : AllDig W) (hne : 0 < W.length) (hf : AllDig f) (hD : (D = [] ∧ f = [] ∧ rest.head? ≠ some 46) ∨ D = 46 :: f) (hr : NoDig rest) :
    Parsed ((if neg then [45] else []) ++ W ++ D ++ rest) neg W f ((if neg then 1 else 0) + W.length + D.length) := by
  obtain ⟨x, W', rfl⟩ : ∃ x W', W = x :: W' := by cases W with | nil => simp at hne | cons x W' => exact ⟨x, W', rfl⟩
  have hx := hW x List.mem_cons_self
  obtain ⟨bs, hbs⟩ : ∃ bs, bs = (if neg then [45] else []) ++ (x :: W') ++ D ++ rest := ⟨_, rfl⟩
  rw [← hbs]
  have h1 : span blankB bs = 0 := by
    rw [hbs]; cases neg
    · simp [span, blank_dig hx]
    · simp [span, blankB]
  have h2 : sgn bs = (if neg then 1 else 0) ∧ sneg bs = neg := by
    unfold sgn sneg; rw [h1, hbs]
    cases neg
    · simp; omega
    · simp
  have h3 : nI1 bs = (if neg then 1 else 0) := by unfold nI1; rw [h1, h2.1]; omega
  have h4 : bs.drop (nI1 bs) = (x :: W') ++ (D ++ rest) := by
    rw [h3, hbs]; cases neg <;> simp
  have hnd : NoDig (D ++ rest) := by
    rcases hD with ⟨rfl, _⟩ | rfl
    · simpa using hr
    · intro y hy; simp at hy; subst hy; rfl
  have h5 : nW bs = (x :: W').length := by unfold nW; rw [h4]; exact span_app hW hnd
  have h6 : wholeL bs = x :: W' := by unfold wholeL; rw [h4, h5]; simp
  have h7 : nI2 bs = (if neg then 1 else 0) + (x :: W').length := by unfold nI2; rw [h3, h5]
  have h8 : bs.drop (nI2 bs) = D ++ rest := by
    unfold nI2; rw [← List.drop_drop, h4, h5]; simp
  have h9 : bs.drop (nI2 bs + 1) = (D ++ rest).drop 1 := by rw [← List.drop_drop, h8]
  rcases hD with ⟨rfl, rfl, h46⟩ | rfl
  · have hd : nDot bs = false := by
      unfold nDot; rw [h8, List.nil_append]
      simpa using h46
    have hB : nB bs = 0 := by unfold nB; rw [hd]; rfl
    refine ⟨h2.2, h5, h6, hB, by unfold behindL; rw [hB]; rfl, ?_⟩
    unfold nI3; rw [hd, h7]; simp
  · have hd : nDot bs = true := by unfold nDot; rw [h8]; rfl
    have hB : nB bs = f.length := by
      unfold nB; rw [hd, h9]; exact span_app hf hr
    refine ⟨h2.2, h5, h6, hB, by unfold behindL; rw [h9, hB]; simp, ?_⟩
    unfold nI3; rw [hd, h7, hB]; simp; omega
theorem dv_strip (l : List Nat) : dv 0 (strip l) = dv 0 l := by
  induction l with
  | nil => rfl
  | cons c l ih =>
    by_cases h : c = 48
    · subst h; rw [strip_cons_zero, ih]; rfl
    · rw [strip_cons_other h]
theorem strip_len (l : List Nat) : (strip l).length ≤ l.length := (List.dropWhile_sublist _).length_le
theorem strip_zeros (m : Nat) (l : List Nat) : strip (List.replicate m 48 ++ l) = strip l := by
  induction m with
  | zero => simp
  | succ m ih => rw [List.replicate_succ, List.cons_append, strip_cons_zero, ih]
theorem digs_succ (k W : Nat) (T : List Nat) : digs (k + 1) W T = if W / 10 = 0 then (48 + W % 10) :: T else digs k (W / 10) ((48 + W % 10) :: T) := rfl
theorem digs_app : ∀ (k V : Nat) (T : List Nat), digs k V T = digs k V [] ++ T := by
  intro k
  induction k with
  | zero => intro V T; rfl
  | succ k ih =>
    intro V T
    unfold digs; split
    · rfl
    · rw [ih _ (_ :: T), ih _ [_], List.append_assoc]; rfl
theorem digs_dig : ∀ (k V : Nat) (T : List Nat), AllDig T → AllDig (digs k V T) := by
  intro k
  induction k with
  | zero => intro V T h; exact h
  | succ k ih =>
    intro V T h
    have hc : AllDig ((48 + V % 10) :: T) := by
      intro x hx
      rcases List.mem_cons.1 hx with rfl | hx
      · omega
      · exact h x hx
    unfold digs; split
    · exact hc
    · exact ih _ _ hc
theorem dv_cons (N c : Nat) (l : List Nat) : dv N (c :: l) = dv (N * 10 + (c - 48)) l := by unfold dv; rw [List.foldl_cons]
theorem dv_digs : ∀ (k V : Nat) (T : List Nat), V < 10 ^ k → dv 0 (digs k V T) = dv V T := by
  intro k
  induction k with
  | zero => intro V T h; have : V = 0 := by omega
            subst this; rfl
  | succ k ih =>
    intro V T h
    rw [Nat.pow_succ] at h
    rw [digs_succ]; split
    · rw [dv_cons, show 0 * 10 + (48 + V % 10 - 48) = V by omega]
    · rw [ih _ _ (by omega), dv_cons, show V / 10 * 10 + (48 + V % 10 - 48) = V by omega]
theorem digs_fuel : ∀ (k V : Nat) (T : List Nat), V < 10 ^ (k + 1) → digs (k + 2) V T = digs (k + 1) V T := by
  intro k
  induction k with
  | zero =>
    intro V T h
    have h0 : V / 10 = 0 := by omega
    simp [digs, h0]
  | succ k ih =>
    intro V T h
    rw [Nat.pow_succ] at h
    rw [digs_succ (k + 2) V]
    have e := digs_succ (k + 1) V T
    have i := ih (V / 10) ((48 + V % 10) :: T) (by omega)
    rw [i]
    exact e.symm
theorem digs_30 (V : Nat) (h : V < 1000000000000000000000000000000) : (digs 31 V []).length ≤ 30 := by
  rw [digs_fuel 29 V [] (by omega)]
  simpa using digs_len 30 V []
theorem frs_dig (F : Nat) : ∀ k, AllDig (frs F k) := by
  intro k
  induction k with
  | zero => intro x hx; simp [frs] at hx
  | succ k ih =>
    unfold frs; split
    · intro x hx
      rcases List.mem_cons.1 hx with rfl | hx
      · omega
      · exact ih x hx
    · intro x hx; simp at hx
theorem frs_getD (F : Nat) : ∀ (k i : Nat), i < k → (frs F k).getD i 48 = 48 + F / 10 ^ (k - 1 - i) % 10 := by
  intro k
  induction k with
  | zero => intro i h; omega
  | succ k ih =>
    intro i h
    unfold frs; split
    · cases i with
      | zero => simp
      | succ i => rw [List.getD_cons_succ, ih i (by omega), show k + 1 - 1 - (i + 1) = k - 1 - i by omega]
    · rename_i hc
      have hc1 : F / 10 ^ k % 10 = 0 := by omega
      have hc2 : (frs F k).length = 0 := by omega
      have hc3 : frs F k = [] := List.length_eq_zero_iff.1 hc2
      rw [show ([] : List Nat).getD i 48 = 48 by simp]
      cases i with
      | zero => simp [hc1]
      | succ i =>
        have := ih i (by omega)
        rw [hc3] at this
        rw [show ([] : List Nat).getD i 48 = 48 by simp] at this
        rw [show k + 1 - 1 - (i + 1) = k - 1 - i by omega]
        exact this
theorem fr_congr {l l' : List Nat} (N : Nat) : ∀ k, (∀ i, i < k → l.getD i 48 = l'.getD i 48) → fr N l k = fr N l' k := by
  intro k
  induction k with
  | zero => intro _; rfl
  | succ k ih =>
    intro h
    show fr N l k * 10 + (l.getD k 48 - 48) = fr N l' k * 10 + (l'.getD k 48 - 48)
    rw [ih (fun i hi => h i (by omega)), h k (by omega)]
theorem getD_zeros (l : List Nat) (m i : Nat) : (l ++ List.replicate m 48).getD i 48 = l.getD i 48 := by
  rw [List.getD_eq_getElem?_getD, List.getD_eq_getElem?_getD, List.getElem?_append]
  split
  · rfl
  · rename_i h
    rw [List.getElem?_eq_none (by omega : l.length ≤ i), List.getElem?_replicate]
    split <;> rfl
theorem fr_ind (N F : Nat) (L : List Nat) (hF : F < 1000000) (g : ∀ i, i < 6 → L.getD i 48 = 48 + F / 10 ^ (5 - i) % 10) : ∀ j, j ≤ 6 → fr N L j = N * 10 ^ j + F / 10 ^ (6 - j) := by
  intro j
  induction j with
  | zero => intro _; rw [Nat.div_eq_of_lt (by simpa using hF)]; simp [fr]
  | succ j ih =>
    intro hj
    have e : F / 10 ^ (6 - j) = F / 10 ^ (6 - (j + 1)) / 10 := by
      rw [Nat.div_div_eq_div_mul, ← Nat.pow_succ, show (6 - (j + 1)).succ = 6 - j by omega]
    have gj := g j (by omega)
    rw [show 5 - j = 6 - (j + 1) by omega] at gj
    have i := ih (by omega)
    rw [e] at i
    have s : fr N L (j + 1) = fr N L j * 10 + (L.getD j 48 - 48) := by simp only [fr]
    rw [s, i, gj, Nat.pow_succ, ← Nat.mul_assoc]
    generalize N * 10 ^ j = M
    generalize F / 10 ^ (6 - (j + 1)) = X
    omega
theorem fr_lem (N F : Nat) (L : List Nat) (hF : F < 1000000) (g : ∀ i, i < 6 → L.getD i 48 = 48 + F / 10 ^ (5 - i) % 10) : fr N L 6 = N * 1000000 + F := by
  have := fr_ind N F L hF g 6 (by decide)
  simpa using this
theorem fr_frs (N F m : Nat) (hF : F < 1000000) : fr N (frs F 6 ++ List.replicate m 48) 6 = N * 1000000 + F := by
  refine fr_lem N F _ hF fun i hi => ?_
  rw [getD_zeros]
  exact frs_getD F 6 i hi
/-- What a text of digits, with zeros ahead and behind, is read as. -/
theorem Parsed.num {bs : List Nat} {neg : Bool} {n V F m m' : Nat} (h : Parsed bs neg (List.replicate m 48 ++ digs 31 V []) (frs F 6 ++ List.replicate m' 48) n) (hV : V < 1000000000000000000000000000000) (hF : F < 1000000) :
    numN bs = V * 1000000 + F ∧ (strip (wholeL bs)).length ≤ 30 ∧ 0 < nW bs + nB bs := by
  refine ⟨?_, ?_, ?_⟩
  · unfold numN
    rw [h.hwhole, h.hbehind, fr_frs _ _ _ hF, strip_zeros, dv_strip, dv_digs 31 V [] (Nat.lt_of_lt_of_le hV (by decide)), show dv V [] = V from rfl]
  · rw [h.hwhole, strip_zeros]
    exact Nat.le_trans (strip_len _) (digs_30 V hV)
  · rw [h.hW, List.length_append]
    have : 1 ≤ (digs 31 V []).length := digs_pos 30 V []
    omega
theorem Parsed.looks {bs : List Nat} {neg : Bool} {W f : List Nat} (h : Parsed bs neg W f bs.length) (hW : 0 < W.length) : looksB bs = true := by
  unfold looksB
  rw [h.hI3, h.hW, Bool.and_eq_true, decide_eq_true_eq, decide_eq_true_eq]
  exact ⟨by omega, by simp [span]⟩
theorem Parsed.z {bs : List Nat} {neg : Bool} {W f : List Nat} {n : Nat} (h : Parsed bs neg W f n) : pz bs = if neg then -(numN bs : Int) else (numN bs : Int) := by
  unfold pz; rw [h.hneg]
theorem nil_zeros (F : Nat) : frs F 6 = frs F 6 ++ List.replicate 0 48 := by simp
theorem frs_zero : ∀ k, frs 0 k = [] := by
  intro k
  induction k with
  | zero => rfl
  | succ k ih => simp [frs, ih]
/-- A number's own text, and something behind it that is of no numeral, is read as it was. -/
theorem text_parse (z : Int) (rest : List Nat) (h1 : NoDig rest) (h2 : rest.head? ≠ some 46) :
    Parsed (textL z ++ rest) (decide (z < 0)) (digs 31 (z.natAbs / 1000000) []) (frs (z.natAbs % 1000000) 6) (textL z).length := by
  have hD : (frP (z.natAbs % 1000000) = [] ∧ frs (z.natAbs % 1000000) 6 = [] ∧ rest.head? ≠ some 46) ∨ frP (z.natAbs % 1000000) = 46 :: frs (z.natAbs % 1000000) 6 := by
    unfold frP; split
    · rename_i h; left; rw [h]; exact ⟨rfl, frs_zero 6, h2⟩
    · right; rfl
  have key := parse (decide (z < 0)) (digs 31 (z.natAbs / 1000000) []) (frP (z.natAbs % 1000000)) (frs (z.natAbs % 1000000) 6) rest (digs_dig _ _ _ (by intro x hx; simp at hx)) (digs_pos 30 _ _) (frs_dig _ _) hD h1
  have e : textL z = (if decide (z < 0) = true then [45] else []) ++ digs 31 (z.natAbs / 1000000) [] ++ frP (z.natAbs % 1000000) := by
    unfold textL; rw [digs_app _ _ (frP _), List.append_assoc]; simp only [decide_eq_true_eq]
  rw [e]
  have hl : ((if decide (z < 0) = true then [45] else []) ++ digs 31 (z.natAbs / 1000000) [] ++ frP (z.natAbs % 1000000)).length = (if decide (z < 0) = true then 1 else 0) + (digs 31 (z.natAbs / 1000000) []).length + (frP (z.natAbs % 1000000)).length := by
    rw [List.length_append, List.length_append]; split <;> rfl
  rw [hl]; exact key
theorem text_read (z : Int) (rest : List Nat) (h1 : NoDig rest) (h2 : rest.head? ≠ some 46) (hz : z.natAbs < LIM) :
    pz (textL z ++ rest) = z ∧ nI3 (textL z ++ rest) = (textL z).length ∧ (strip (wholeL (textL z ++ rest))).length ≤ 30 ∧ 0 < nW (textL z ++ rest) + nB (textL z ++ rest) := by
  have h := text_parse z rest h1 h2
  have hN : z.natAbs < 1000000000000000000000000000000000000 := by unfold LIM at hz; omega
  have h' : Parsed (textL z ++ rest) (decide (z < 0)) (List.replicate 0 48 ++ digs 31 (z.natAbs / 1000000) []) (frs (z.natAbs % 1000000) 6 ++ List.replicate 0 48) (textL z).length := by simpa using h
  obtain ⟨e1, e2, e3⟩ := h'.num (by omega) (by omega)
  refine ⟨?_, h.hI3, e2, e3⟩
  rw [h.z, e1]
  by_cases hz0 : z < 0 <;> simp only [hz0, decide_true, decide_false, if_true, Bool.false_eq_true, if_false] <;> omega
def hasDot (l : List Nat) : Bool := l.contains 46
theorem take_has (L : List Nat) (k : Nat) (h : k < L.length) : hasDot (L.take (k + 1)) = (hasDot (L.take k) || (L[k] == 46)) := by
  unfold hasDot
  rw [List.take_succ_eq_append_getElem h, List.contains_append]
  congr 1
  simp only [List.contains_cons, List.contains_nil, Bool.or_false]
  rw [Bool.eq_iff_iff]; simp only [beq_iff_eq]; exact eq_comm
theorem no_dot {l : List Nat} (h : AllDig l) : l.contains 46 = false := by
  rw [Bool.eq_false_iff]
  intro hc
  have := h 46 (by simpa using hc)
  omega
/-- A text of no negative number, with its point. -/
def dotted (z : Int) : List Nat := digs 31 (z.natAbs / 1000000) [] ++ 46 :: frs (z.natAbs % 1000000) 6
theorem text_dot (z : Int) (h : 0 ≤ z) : (hasDot (textL z) = true ∧ textL z = dotted z) ∨ (hasDot (textL z) = false ∧ textL z ++ [46] = dotted z) := by
  unfold hasDot
  have e : textL z = digs 31 (z.natAbs / 1000000) [] ++ frP (z.natAbs % 1000000) := by
    unfold textL; rw [if_neg (by omega), List.nil_append, digs_app]
  have hd := no_dot (digs_dig 31 (z.natAbs / 1000000) [] (by intro x hx; simp at hx))
  unfold dotted
  rw [e]
  by_cases hF : z.natAbs % 1000000 = 0
  · right
    rw [hF]
    have : frP 0 = [] := rfl
    rw [this, frs_zero, List.append_nil]
    exact ⟨hd, rfl⟩
  · left
    have : frP (z.natAbs % 1000000) = 46 :: frs (z.natAbs % 1000000) 6 := by unfold frP; rw [if_neg hF]
    rw [this]
    exact ⟨by rw [List.contains_append]; simp, rfl⟩
theorem dig_bytes {l : List Nat} (h : AllDig l) : Bytes l := fun x hx => by have := h x hx; omega
theorem bytes_app {l m : List Nat} (hl : Bytes l) (hm : Bytes m) : Bytes (l ++ m) := fun x hx => by
  rcases List.mem_append.1 hx with hx | hx
  · exact hl x hx
  · exact hm x hx
theorem bytes_rep (k : Nat) : Bytes (List.replicate k 48) := fun x hx => by rw [(List.mem_replicate.1 hx).2]; decide
theorem dotted_bytes (z : Int) : Bytes (dotted z) := by
  unfold dotted
  refine bytes_app (dig_bytes (digs_dig _ _ _ (by intro x hx; simp at hx))) ?_
  intro x hx
  rcases List.mem_cons.1 hx with rfl | hx
  · decide
  · exact dig_bytes (frs_dig _ 6) x hx
/-- Zeros ahead, zeros behind: it is read as it was. -/
theorem dotted_read (z : Int) (h : 0 ≤ z) (hz : z.natAbs < LIM) (a b : Nat) :
    let bs := List.replicate a 48 ++ dotted z ++ List.replicate b 48
    pz bs = z ∧ nI3 bs = bs.length ∧ (strip (wholeL bs)).length ≤ 30 ∧ 0 < nW bs + nB bs := by
  intro bs
  have hN : z.natAbs < 1000000000000000000000000000000000000 := by unfold LIM at hz; omega
  have hz0 : AllDig (List.replicate a 48) := fun x hx => by rw [(List.mem_replicate.1 hx).2]; decide
  have hz1 : AllDig (List.replicate b 48) := fun x hx => by rw [(List.mem_replicate.1 hx).2]; decide
  have app : ∀ {l m : List Nat}, AllDig l → AllDig m → AllDig (l ++ m) := fun hl hm x hx => by
    rcases List.mem_append.1 hx with hx | hx
    · exact hl x hx
    · exact hm x hx
  have hpos : 1 ≤ (digs 31 (z.natAbs / 1000000) []).length := digs_pos 30 _ _
  have key := parse false (List.replicate a 48 ++ digs 31 (z.natAbs / 1000000) []) (46 :: (frs (z.natAbs % 1000000) 6 ++ List.replicate b 48)) (frs (z.natAbs % 1000000) 6 ++ List.replicate b 48) [] (app hz0 (digs_dig _ _ _ (by intro x hx; simp at hx))) (by rw [List.length_append]; omega) (app (frs_dig _ _) hz1) (.inr rfl) (by intro x hx; simp at hx)
  have e : (if false = true then [45] else []) ++ (List.replicate a 48 ++ digs 31 (z.natAbs / 1000000) []) ++ (46 :: (frs (z.natAbs % 1000000) 6 ++ List.replicate b 48)) ++ [] = bs := by
    simp [bs, dotted]
  rw [e] at key
  obtain ⟨e1, e2, e3⟩ := key.num (by omega) (by omega)
  refine ⟨?_, ?_, e2, e3⟩
  · rw [key.z, e1]
    simp only [Bool.false_eq_true, if_false]; omega
  · rw [key.hI3, ← e]; simp; omega
end Go.Proofs.Ytdmifldjeiabdaa
