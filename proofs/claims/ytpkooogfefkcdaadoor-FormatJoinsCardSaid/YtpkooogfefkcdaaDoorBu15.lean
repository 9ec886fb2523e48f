/- Several texts put together: FrameM, FmtV, FmtW, FjoA. -/
import Derived.Test.YtpkooogfefkcdaaDoorBu14
/- How a slice of arguments of Make that came in as an argument is opened. -/
namespace Go.Proofs.YtpkooogfefkcdaaDoor
open Go.ChangeShapes Go.WideShapes Go.ChangeAt Go.RowKit Go.Joins Go.Deep
theorem flatLenA {α : Type} (f : α → List Value) (k : Nat) (hf : ∀ y, (f y).length = k) (l : List α) : (l.flatMap f).length = l.length * k := by
  induction l with
  | nil => simp
  | cons a l ih => rw [List.flatMap_cons, List.length_append, ih, hf, List.length_cons, Nat.add_mul]; omega
theorem flatAtA {α : Type} (f : α → List Value) (k : Nat) (hf : ∀ y, (f y).length = k) : ∀ (l : List α) (i j : Nat) (hi : i < l.length), j < k → (l.flatMap f)[i * k + j]? = (f l[i])[j]?
  | a :: l, 0, j, hi, hj => by rw [List.flatMap_cons, Nat.zero_mul, Nat.zero_add, List.getElem?_append_left (by rw [hf]; exact hj)]; rfl
  | a :: l, i + 1, j, hi, hj => by
    rw [List.flatMap_cons, List.getElem?_append_right (by rw [hf, Nat.add_mul]; omega), hf, show (i + 1) * k + j - k = i * k + j by rw [Nat.add_mul]; omega]
    exact flatAtA f k hf l i j (by simpa using hi) hj
/-- A slice of n elements of k cells each, that read as xs, below block B. -/
def SlA (w : World) (B k : Nat) (v : Value) (n : Nat) (xs : List Value) : Prop :=
  ∃ (A : Option Addr) (c : Nat), v = .slice A n c ∧ n ≤ c ∧ c ≤ maxLen ∧ (A = none → n = 0 ∧ c = 0) ∧ Reads w B k A n xs
theorem SlA.nil {w : World} {B k : Nat} : SlA w B k (.slice none 0 0) 0 [] := ⟨none, 0, rfl, by omega, by omega, fun _ => ⟨rfl, rfl⟩, by simp [Reads]⟩
section
variable {H : Type} {enc : TypeId × Value → H} {P : Program} {w : World} {base : Nat} {spare : Nat → Bool} {held : Bool}
theorem cellsGetA {a : Addr} {k : Nat} {cs : List Value} (h : w.cells? base a k = some cs) : cs.length = k ∧ ∀ j u, cs[j]? = some u → w.cell? (a.add j) = some u := by
  unfold World.cells? at h
  split at h
  · refine ⟨by simpa using mapM_some_length h, fun j u hu => ?_⟩
    have hj : j < k := by
      have := mapM_some_length h
      have h2 := (List.getElem?_eq_some_iff.1 hu).1
      simp at this; omega
    have := mapM_some_get h j j (by simp [hj])
    rw [this]; exact hu
  · cases h
theorem pickListA {α : Type} (Q : Nat → α → Prop) : ∀ (n : Nat), (∀ i, i < n → ∃ y, Q i y) → ∃ ys : List α, ys.length = n ∧ ∀ i y, ys[i]? = some y → Q i y
  | 0, _ => ⟨[], rfl, fun i y h => by simp at h⟩
  | n + 1, h => by
    obtain ⟨ys, hl, hy⟩ := pickListA Q n (fun i hi => h i (by omega))
    obtain ⟨y, hq⟩ := h n (by omega)
    refine ⟨ys ++ [y], by simp [hl], fun i z hz => ?_⟩
    rcases Nat.lt_or_ge i ys.length with hi | hi
    · rw [List.getElem?_append_left hi] at hz; exact hy i z hz
    · rw [List.getElem?_append_right hi] at hz
      have : i - ys.length = 0 := by
        have := (List.getElem?_eq_some_iff.1 hz).1
        simp at this; omega
      rw [this] at hz
      simp at hz
      subst hz
      have : i = n := by omega
      subst this
      exact hq
theorem sliceFormA {α : Type} {k : Nat} (hk : 0 < k) (f : α → List Value) (hf : ∀ y, (f y).length = k) (good : α → Prop) {t e : TypeId} (ht : P.underlying t = some (.slice e)) (hc : P.cellsOf e = k)
    (hel : ∀ n cs x, DataW.trod enc P w base spare held n e cs = some x → ∃ y : α, cs = f y ∧ good y) {fuel : Nat} {cs : List Value} {x : DataW H × List MemPlace} (h : DataW.trod enc P w base spare held fuel t cs = some x) :
    ∃ (v : Value) (ys : List α), cs = [v] ∧ SlA w w.heap.size k v ys.length (ys.flatMap f) ∧ ∀ y ∈ ys, good y := by
  rcases DataW.trod_slice ht h with ⟨hcs, _⟩ | ⟨a, len, cap, elems, rest, n, _, hcs, _, _, hl, hm, hlen, hE, _⟩
  · exact ⟨_, [], hcs, SlA.nil, fun y hy => by cases hy⟩
  · rw [hc] at hE
    obtain ⟨ys, hyl, hy⟩ := pickListA (fun i y => w.cells? base (a.add (i * k)) k = some (f y) ∧ good y) len (fun i hi => by
      have h1 := hE i hi
      rw [List.getElem?_eq_getElem (by omega)] at h1
      rw [Option.bind_eq_some_iff] at h1
      obtain ⟨c1, hc1, h2⟩ := h1
      obtain ⟨y, rfl, hg⟩ := hel _ _ _ h2
      exact ⟨y, hc1, hg⟩)
    have hcell : ∀ i (hi : i < ys.length) j u, (f ys[i])[j]? = some u → w.cell? (a.add (i * k + j)) = some u := by
      intro i hi j u hu
      have := (cellsGetA (hy i ys[i] (List.getElem?_eq_getElem hi)).1).2 j u hu
      rw [add_of_add] at this
      exact this
    refine ⟨_, ys, hcs, ⟨some a, cap, by rw [hyl], by omega, hm, (fun e => by cases e), ?_, ?_⟩, fun y hy' => ?_⟩
    · rw [flatLenA f k hf, hyl]
    · intro h0
      have hk0 : 0 < (f ys[0]).length := by rw [hf]; exact hk
      refine ⟨a, rfl, ?_, ?_⟩
      · have := World.block_lt_of_cell? w _ (hcell 0 h0 0 _ (List.getElem?_eq_getElem hk0))
        rw [block_of_add] at this; exact this
      · intro j u hu
        have hj : j < ys.length * k := by
          have := (List.getElem?_eq_some_iff.1 hu).1
          rw [flatLenA f k hf] at this; exact this
        have hi : j / k < ys.length := (Nat.div_lt_iff_lt_mul hk).2 hj
        have hjk := Nat.div_add_mod' j k
        have := hcell (j / k) hi (j % k) u (by
          rw [← flatAtA f k hf ys (j / k) (j % k) hi (Nat.mod_lt _ hk), hjk]; exact hu)
        rw [hjk] at this
        exact this
    · obtain ⟨i, hi, rfl⟩ := List.getElem_of_mem hy'
      exact (hy i _ (List.getElem?_eq_getElem hi)).2
end


theorem cellsArg : Tryd.prog.cellsOf 37 = 5 := by kernel_rfl
theorem cellsStringA : Tryd.prog.cellsOf 9 = 1 := by kernel_rfl
theorem cellsBoolA : Tryd.prog.cellsOf 4 = 1 := by kernel_rfl
theorem cellsU64A : Tryd.prog.cellsOf 32 = 1 := by kernel_rfl
/-- An argument as it came in. -/
structure ArgF.ok0 (a : ArgF) : Prop where
  b : ∀ x ∈ a.s, x < 256
  wh : Wd a.h
  wl : Wd a.l
  no : a.z = none → goodB a.n a.h a.l = false
  yes : ∀ z, a.z = some z → IsD a.n a.h a.l z
theorem ArgF.ok0.ok {a : ArgF} (h : a.ok0) (hl : a.s.length ≤ 1000000) : a.ok := ⟨h.b, hl, h.wh, h.wl, h.no, h.yes⟩
section
variable {H : Type} {enc : TypeId × Value → H} {w : World} {base : Nat} {spare : Nat → Bool} {held : Bool}
set_option maxRecDepth 100000 in
theorem args_form {r : Reach} {b0 : Nat} {v : Value} {d : DataW H} {p : List MemPlace} (hv : Value.okWide Tryd.prog w r b0 22 v) (h0 : DataW.Trod enc Tryd.prog w base spare held 22 v d p) :
    ∃ (rs : List ArgF) (A : Option Addr) (c : Nat), v = .slice A rs.length c ∧ Reads w w.heap.size 5 A rs.length (rs.flatMap argC) ∧ (∀ a ∈ rs, a.ok0) ∧ rs.length ≤ c := by
  obtain ⟨a1, len, cap, rfl⟩ := okWide_slice Tryd.underlying22 hv
  obtain ⟨fuel, h⟩ := h0
  obtain ⟨v', ys, e, hs, hg⟩ := sliceFormA (P := Tryd.prog) (k := 5) (by omega) argC (fun _ => rfl) (fun a => a.ok0) Tryd.underlying22 cellsArg (fun n cs x hx => by
    obtain ⟨xs, m, _, _, hl, hlen, hf⟩ := DataW.trod_struct Tryd.underlying37 hx
    rw [cellsArg] at hl
    match cs, hl, xs, hlen with
    | [c0, c1, c2, c3, c4], _, [y0, y1, y2], _ =>
      have g0 : DataW.trod enc Tryd.prog w base spare held m 9 [c0] = some y0 := by simpa [cellsStringA] using hf 0 _ rfl
      have g1 : DataW.trod enc Tryd.prog w base spare held m 34 [c1, c2, c3] = some y1 := by simpa [cellsDec] using hf 1 _ rfl
      have g2 : DataW.trod enc Tryd.prog w base spare held m 4 [c4] = some y2 := by simpa [cellsBoolA] using hf 2 _ rfl
      obtain ⟨z0, z1, z2, m2, _, _, i0, i1, i2⟩ := trod_struct3 Tryd.underlying34 g1
      have j0 : DataW.trod enc Tryd.prog w base spare held m2 4 [c1] = some z0 := by simpa [Value.cells, cellsBoolA] using i0
      have j1 : DataW.trod enc Tryd.prog w base spare held m2 32 [c2] = some z1 := by simpa [Value.cells, cellsU64A] using i1
      have j2 : DataW.trod enc Tryd.prog w base spare held m2 32 [c3] = some z2 := by simpa [Value.cells, cellsU64A] using i2
      obtain ⟨s, e0, _, ws⟩ := DataW.trod_string Tryd.underlying9 g0
      obtain ⟨n1, e1, _⟩ := DataW.trod_bool Tryd.underlying4 j0
      obtain ⟨h1, e2, _, wb⟩ := DataW.trod_int Tryd.underlying32 j1
      obtain ⟨l1, e3, _, wc⟩ := DataW.trod_int Tryd.underlying32 j2
      obtain ⟨num, e4, _⟩ := DataW.trod_bool Tryd.underlying4 g2
      simp at e0 e1 e2 e3 e4
      subst e0 e1 e2 e3 e4
      refine ⟨⟨numsS s, n1, h1, l1, num, if goodB n1 h1 l1 = true then some (zof n1 h1 l1) else none⟩, by simp only [argC, strN_numsS], numsS_lt s, wd_of wb, wd_of wc, fun hz => ?_, fun z hz => ?_⟩
      · dsimp only at hz
        split at hz
        · cases hz
        · rename_i hg; simpa using hg
      · dsimp only at hz
        split at hz
        · rename_i hg
          obtain rfl := Option.some.inj hz
          exact of_good (wd_of wb) (wd_of wc) hg
        · cases hz) h
  obtain ⟨A, c, rfl, h1, h2, h3, h4⟩ := hs
  simp [Value.cells] at e
  obtain ⟨rfl, rfl, rfl⟩ := e
  exact ⟨ys, _, _, rfl, h4, hg, h1⟩
end
end Go.Proofs.YtpkooogfefkcdaaDoor

/- Layer 8, plain: two patterns one behind the other. -/
namespace Go.Proofs.YtpkooogfefkcdaaDoor
open Go.RowKit
/-- What a verb tells, whatever room there is. -/
def tellU (sp : SpecF) (args : List ArgF) : Option (List Nat × List ArgF) :=
  match widthF sp args with
  | none => none
  | some (s1, a1) => match precF s1 a1 with
    | none => none
    | some (s2, a2) =>
      if s2.verb = 0 then none
      else match takeF a2 with
        | none => none
        | some (a, z, a3) => match bodyF s2 a z with
          | .error _ => none
          | .ok x => some (laidF s2 x, a3)
def roomy (b : List Nat) (t : List Nat) : Prop := b.length + t.length ≤ 65536
theorem addF_opt (b t : List Nat) : (addF b t).toOption = if b.length + t.length ≤ 65536 then some (b ++ t) else none := by
  unfold addF
  by_cases h : 65536 < b.length + t.length
  · rw [if_pos h, if_neg (by omega)]; rfl
  · rw [if_neg h, if_pos (by omega)]; rfl
theorem tell_opt (sp : SpecF) (args : List ArgF) (b : List Nat) : (tellF sp args b).toOption = (tellU sp args).bind fun x => if b.length + x.1.length ≤ 65536 then some (b ++ x.1, x.2) else none := by
  unfold tellF tellU
  cases h1 : widthF sp args with
  | none => rfl
  | some x1 =>
    obtain ⟨s1, a1⟩ := x1
    dsimp only
    cases h2 : precF s1 a1 with
    | none => rfl
    | some x2 =>
      obtain ⟨s2, a2⟩ := x2
      dsimp only
      split
      · rfl
      · cases h3 : takeF a2 with
        | none => rfl
        | some x3 =>
          obtain ⟨a, z, a3⟩ := x3
          dsimp only
          cases h4 : bodyF s2 a z with
          | error e => rfl
          | ok x =>
            dsimp only
            have h5 := addF_opt b (laidF s2 x)
            cases h6 : addF b (laidF s2 x) with
            | error e =>
              rw [h6] at h5
              by_cases hr : b.length + (laidF s2 x).length ≤ 65536
              · rw [if_pos hr] at h5; cases h5
              · simp only [Option.bind_some, if_neg hr]; rfl
            | ok b' =>
              rw [h6] at h5
              by_cases hr : b.length + (laidF s2 x).length ≤ 65536
              · rw [if_pos hr] at h5
                obtain rfl : b' = b ++ laidF s2 x := Option.some.inj h5
                simp only [Option.bind_some, if_pos hr]; rfl
              · rw [if_neg hr] at h5; cases h5
theorem take_drop {l r : List ArgF} {a : ArgF} {z : Int} (h : takeF l = some (a, z, r)) : r = l.drop 1 := by
  cases l with
  | nil => simp [takeF] at h; simp [h]
  | cons x l => simp [takeF] at h; obtain ⟨_, _, _, _, h⟩ := h; simp [h]
theorem star_drop {l r : List ArgF} {k : Int} (h : starF l = some (k, r)) : r = l.drop 1 := by
  unfold starF at h
  cases ht : takeF l with
  | none => rw [ht] at h; cases h
  | some x =>
    obtain ⟨a, z, r'⟩ := x
    rw [ht] at h
    simp at h
    rw [← h.2]; exact take_drop ht
/-- How many arguments a verb takes. -/
def takes (sp : SpecF) : Nat := 1 + (if sp.sw then 1 else 0) + (if sp.sp then 1 else 0)
theorem width_drop {sp s1 : SpecF} {args r : List ArgF} (h : widthF sp args = some (s1, r)) : r = args.drop (if sp.sw then 1 else 0) ∧ s1.sp = sp.sp := by
  unfold widthF at h
  split at h
  · rename_i hs
    cases ht : starF args with
    | none => rw [ht] at h; cases h
    | some x =>
      obtain ⟨k, r'⟩ := x
      rw [ht] at h
      simp at h
      rw [if_pos hs, ← h.2]
      refine ⟨star_drop ht, ?_⟩
      rw [← h.1]; split <;> rfl
  · rename_i hs
    injection h with h; injection h with h1 h2; subst h1 h2
    rw [if_neg hs]; exact ⟨rfl, rfl⟩
theorem prec_drop {sp s1 : SpecF} {args r : List ArgF} (h : precF sp args = some (s1, r)) : r = args.drop (if sp.sp then 1 else 0) := by
  unfold precF at h
  split at h
  · rename_i hs
    cases ht : starF args with
    | none => rw [ht] at h; cases h
    | some x =>
      obtain ⟨k, r'⟩ := x
      rw [ht] at h
      simp at h
      rw [if_pos hs, ← h.2]
      exact star_drop ht
  · rename_i hs
    injection h with h; injection h with h1 h2; subst h1 h2
    rw [if_neg hs]; rfl
theorem tell_drop {sp : SpecF} {args r : List ArgF} {t : List Nat} (h : tellU sp args = some (t, r)) : r = args.drop (takes sp) := by
  unfold tellU at h
  cases h1 : widthF sp args with
  | none => rw [h1] at h; cases h
  | some x1 =>
    obtain ⟨s1, a1⟩ := x1
    rw [h1] at h
    dsimp only at h
    obtain ⟨e1, e1'⟩ := width_drop h1
    cases h2 : precF s1 a1 with
    | none => rw [h2] at h; cases h
    | some x2 =>
      obtain ⟨s2, a2⟩ := x2
      rw [h2] at h
      dsimp only at h
      have e2 := prec_drop h2
      rw [e1'] at e2
      split at h
      · cases h
      · cases h3 : takeF a2 with
        | none => rw [h3] at h; cases h
        | some x3 =>
          obtain ⟨a, z, a3⟩ := x3
          rw [h3] at h
          dsimp only at h
          have e3 := take_drop h3
          cases h4 : bodyF s2 a z with
          | error e => rw [h4] at h; cases h
          | ok x =>
            rw [h4] at h
            injection h with h; injection h with h5 h6
            rw [← h6, e3, e2, e1, List.drop_drop, List.drop_drop]
            congr 1
            unfold takes; omega
/-- What a pattern tells, whatever room there is. -/
def outF : Nat → List Nat → List ArgF → Option (List Nat)
  | 0, _, _ => some []
  | _ + 1, [], _ => some []
  | k + 1, c :: l, args => match pieceF (c :: l) with
    | .inl x => (outF k ((c :: l).drop x.2) args).map fun u => x.1 ++ u
    | .inr sp => (tellU sp args).bind fun y => (outF k ((c :: l).drop sp.len) y.2).map fun u => y.1 ++ u
theorem outF_nil (k : Nat) (r : List ArgF) : outF k [] r = some [] := by cases k <;> rfl
theorem outF_text {k : Nat} {L T : List Nat} {n : Nat} {r : List ArgF} (h0 : L ≠ []) (hp : pieceF L = .inl (T, n)) : outF (k + 1) L r = (outF k (L.drop n) r).map fun u => T ++ u := by
  cases L with
  | nil => exact absurd rfl h0
  | cons c l => rw [outF, hp]
theorem outF_verb {k : Nat} {L : List Nat} {sp : SpecF} {r : List ArgF} (h0 : L ≠ []) (hp : pieceF L = .inr sp) : outF (k + 1) L r = (tellU sp r).bind fun y => (outF k (L.drop sp.len) y.2).map fun u => y.1 ++ u := by
  cases L with
  | nil => exact absurd rfl h0
  | cons c l => rw [outF, hp]
theorem make_opt : ∀ (k : Nat) (l : List Nat) (args : List ArgF) (b : List Nat), b.length ≤ 65536 → (makeF k l args b).toOption = (outF k l args).bind fun u => if b.length + u.length ≤ 65536 then some (b ++ u) else none
  | 0, l, args, b, hb => by
    rw [makeF, outF, Option.bind_some, if_pos (by simpa using hb), List.append_nil]; rfl
  | k + 1, [], args, b, hb => by
    rw [makeF, outF, Option.bind_some, if_pos (by simpa using hb), List.append_nil]; rfl
  | k + 1, c :: l, args, b, hb => by
    have h0 : (c :: l) ≠ [] := by simp
    cases hp : pieceF (c :: l) with
    | inl x =>
      obtain ⟨T, n⟩ := x
      rw [makeF_text h0 hp, outF_text h0 hp]
      have ha := addF_opt b T
      by_cases hr : b.length + T.length ≤ 65536
      · rw [if_pos hr] at ha
        cases hd : addF b T with
        | error e => rw [hd] at ha; cases ha
        | ok b' =>
          rw [hd] at ha
          obtain rfl : b' = b ++ T := Option.some.inj ha
          dsimp only
          rw [make_opt k _ args _ (by rw [List.length_append]; exact hr)]
          cases outF k ((c :: l).drop n) args with
          | none => rfl
          | some u => simp only [Option.bind_some, Option.map_some, List.length_append, List.append_assoc, Nat.add_assoc]
      · rw [if_neg hr] at ha
        cases hd : addF b T with
        | ok b' => rw [hd] at ha; cases ha
        | error e =>
          dsimp only
          cases outF k ((c :: l).drop n) args with
          | none => rfl
          | some u => simp only [Option.bind_some, Option.map_some, List.length_append]; rw [if_neg (by omega)]; rfl
    | inr sp =>
      rw [makeF_verb h0 hp, outF_verb h0 hp]
      have ha := tell_opt sp args b
      cases ht : tellU sp args with
      | none =>
        rw [ht] at ha
        cases hd : tellF sp args b with
        | ok b' => rw [hd] at ha; cases ha
        | error e => rfl
      | some y =>
        obtain ⟨t, r⟩ := y
        rw [ht, Option.bind_some] at ha
        by_cases hr : b.length + t.length ≤ 65536
        · rw [if_pos hr] at ha
          cases hd : tellF sp args b with
          | error e => rw [hd] at ha; cases ha
          | ok y =>
            rw [hd] at ha
            obtain rfl : y = (b ++ t, r) := Option.some.inj ha
            dsimp only
            rw [make_opt k _ r _ (by rw [List.length_append]; exact hr), Option.bind_some]
            cases outF k ((c :: l).drop sp.len) r with
            | none => rfl
            | some u => simp only [Option.bind_some, Option.map_some, List.length_append, List.append_assoc, Nat.add_assoc]
        · rw [if_neg hr] at ha
          cases hd : tellF sp args b with
          | ok b' => rw [hd] at ha; cases ha
          | error e =>
            rw [Option.bind_some]
            dsimp only
            cases outF k ((c :: l).drop sp.len) r with
            | none => rfl
            | some u => simp only [Option.bind_some, Option.map_some, List.length_append]; rw [if_neg (by omega)]; rfl
theorem szD_app : ∀ (k : Nat) (l m : List Nat) (n : Nat), l.drop (szD k l n).2 ≠ [] → szD k (l ++ m) n = szD k l n
  | 0, l, m, n, _ => by cases l <;> cases m <;> rfl
  | k + 1, [], m, n, h => by simp at h
  | k + 1, c :: r, m, n, h => by
    unfold szD at h
    rw [List.cons_append, szD, szD]
    by_cases hc : 48 ≤ c ∧ c ≤ 57
    · rw [if_pos hc] at h
      rw [if_pos hc, if_pos hc, szD_app k r m _ (by simpa using h)]
    · rw [if_neg hc, if_neg hc]
theorem sizeL_app (l m : List Nat) (h : l.drop (sizeL l).2.2 ≠ []) : sizeL (l ++ m) = sizeL l := by
  by_cases h42 : l.head? = some 42
  · cases l with
    | nil => cases h42
    | cons c r => simp at h42; subst h42; rfl
  · have h0 : l ≠ [] := by rintro rfl; simp at h
    rw [sizeL_no l h42] at h ⊢
    rw [sizeL_no (l ++ m) (by cases l with | nil => exact absurd rfl h0 | cons c r => simpa using h42), szD_app 3 l m 0 h]
theorem precP_app (l m : List Nat) (h : l.drop (precP l).2.2 ≠ []) : precP (l ++ m) = precP l := by
  cases l with
  | nil => simp at h
  | cons c r =>
    by_cases hc : c = 46
    · subst hc
      rw [precP_dot] at h
      rw [List.cons_append, precP_dot, precP_dot, sizeL_app r m (by simpa using h)]
    · rw [List.cons_append, precP_no _ _ hc, precP_no _ _ hc]
theorem flagsL_app : ∀ (l m : List Nat) (f : FlagsF), l.drop (flagsL l f).2 ≠ [] → flagsL (l ++ m) f = flagsL l f
  | [], m, f, h => by simp at h
  | c :: r, m, f, h => by
    by_cases h1 : c = 45
    · subst h1; rw [List.cons_append, flagsL, flagsL, flagsL_app r m _ (by rw [flagsL] at h; simpa using h)]
    · by_cases h2 : c = 48
      · subst h2; rw [List.cons_append, flagsL, flagsL, flagsL_app r m _ (by rw [flagsL] at h; simpa using h)]
      · by_cases h3 : c = 43
        · subst h3; rw [List.cons_append, flagsL, flagsL, flagsL_app r m _ (by rw [flagsL] at h; simpa using h)]
        · by_cases h4 : c = 32
          · subst h4; rw [List.cons_append, flagsL, flagsL, flagsL_app r m _ (by rw [flagsL] at h; simpa using h)]
          · have e : ∀ (r : List Nat) (f : FlagsF), flagsL (c :: r) f = (f, 0) := fun r f => by
              unfold flagsL
              split
              all_goals first | rfl | (rename_i h'; injection h' with h' _; subst h'; first | exact absurd rfl h1 | exact absurd rfl h2 | exact absurd rfl h3 | exact absurd rfl h4)
            rw [List.cons_append, e, e]
theorem readL_app (l m : List Nat) (h : (readL l).verb ≠ 0) : readL (l ++ m) = readL l := by
  obtain ⟨f, hf⟩ : ∃ f, flagsL l ⟨false, false, false, false⟩ = f := ⟨_, rfl⟩
  obtain ⟨w, hw⟩ : ∃ w, sizeL (l.drop f.2) = w := ⟨_, rfl⟩
  obtain ⟨p, hp⟩ : ∃ p, precP ((l.drop f.2).drop w.2.2) = p := ⟨_, rfl⟩
  have hv : ((l.drop f.2).drop w.2.2).drop p.2.2 ≠ [] := by
    intro e
    apply h
    unfold readL
    simp only [hf, hw, hp, e]
  have ne : ∀ {x : List Nat} {k : Nat}, x.drop k ≠ [] → x ≠ [] := fun h e => h (by rw [e]; exact List.drop_nil)
  have n2 := ne hv
  have n1 := ne n2
  have dr : ∀ {x : List Nat} {k : Nat}, x.drop k ≠ [] → (x ++ m).drop k = x.drop k ++ m := fun {x k} h => by
    rw [List.drop_append, show k - x.length = 0 from by
      rcases Nat.lt_or_ge k x.length with g | g
      · omega
      · exact absurd (List.drop_eq_nil_of_le g) h]
    rfl
  have a1 : flagsL (l ++ m) ⟨false, false, false, false⟩ = f := by rw [flagsL_app l m _ (by rw [hf]; exact n1), hf]
  have a2 : sizeL ((l ++ m).drop f.2) = w := by rw [dr n1, sizeL_app _ m (by rw [hw]; exact n2), hw]
  have a3 : precP (((l ++ m).drop f.2).drop w.2.2) = p := by rw [dr n1, dr n2, precP_app _ m (by rw [hp]; exact hv), hp]
  unfold readL
  simp only [hf, hw, hp, a1, a2, a3]
  rw [dr n1, dr n2, dr hv]
  cases hc : ((l.drop f.2).drop w.2.2).drop p.2.2 with
  | nil => exact absurd hc hv
  | cons c r => rfl
theorem pieceF_37 (r : List Nat) (h : r.head? ≠ some 37) : pieceF (37 :: r) = .inr (readL r) := by
  cases r with
  | nil => rfl
  | cons c r =>
    unfold pieceF
    split
    · rename_i h2; injection h2 with _ h2; injection h2 with h2 _; rw [h2] at h; exact absurd rfl h
    · rename_i h2; injection h2 with _ h2; rw [h2]
    · rename_i h3 h4; exact absurd rfl (h4 _)
theorem pieceF_plain (l : List Nat) (h : l.head? ≠ some 37) : pieceF l = .inl (l.takeWhile (· ≠ 37), (l.takeWhile (· ≠ 37)).length) := by
  unfold pieceF
  split
  · exact absurd rfl h
  · exact absurd rfl h
  · rfl
end Go.Proofs.YtpkooogfefkcdaaDoor

/- Layer 8, plain: what two patterns, one behind the other, tell. -/
namespace Go.Proofs.YtpkooogfefkcdaaDoor
open Go.RowKit
theorem pieceF_len {l : List Nat} (h0 : l ≠ []) {T : List Nat} {n : Nat} (hp : pieceF l = .inl (T, n)) : 1 ≤ n ∧ n ≤ l.length := by
  by_cases h37 : l.head? = some 37
  · obtain ⟨r, rfl⟩ : ∃ r, l = 37 :: r := by
      cases l with
      | nil => cases h37
      | cons x r => simp at h37; exact ⟨r, by rw [h37]⟩
    by_cases h2 : r.head? = some 37
    · obtain ⟨r', rfl⟩ : ∃ r', r = 37 :: r' := by
        cases r with
        | nil => cases h2
        | cons x r => simp at h2; exact ⟨r, by rw [h2]⟩
      have e : pieceF (37 :: 37 :: r') = .inl ([37], 2) := rfl
      rw [e] at hp
      injection hp with hp; injection hp with _ hp
      subst hp
      simp
    · rw [pieceF_37 r h2] at hp; cases hp
  · rw [pieceF_plain l h37] at hp
    injection hp with hp; injection hp with _ hp
    subst hp
    refine ⟨?_, (List.takeWhile_sublist _).length_le⟩
    cases l with
    | nil => exact absurd rfl h0
    | cons c r => rw [List.takeWhile_cons, if_pos (by simpa using h37)]; simp
theorem pieceF_sp {l : List Nat} {sp : SpecF} (hp : pieceF l = .inr sp) : ∃ r, l = 37 :: r ∧ r.head? ≠ some 37 ∧ sp = readL r := by
  by_cases h37 : l.head? = some 37
  · obtain ⟨r, rfl⟩ : ∃ r, l = 37 :: r := by
      cases l with
      | nil => cases h37
      | cons x r => simp at h37; exact ⟨r, by rw [h37]⟩
    by_cases h2 : r.head? = some 37
    · obtain ⟨r', rfl⟩ : ∃ r', r = 37 :: r' := by
        cases r with
        | nil => cases h2
        | cons x r => simp at h2; exact ⟨r, by rw [h2]⟩
      have e : pieceF (37 :: 37 :: r') = .inl ([37], 2) := rfl
      rw [e] at hp
      cases hp
    · rw [pieceF_37 r h2] at hp
      injection hp with hp
      exact ⟨r, rfl, h2, hp.symm⟩
  · rw [pieceF_plain l h37] at hp; cases hp
theorem tell_verb {sp : SpecF} {args r : List ArgF} {t : List Nat} (h : tellU sp args = some (t, r)) : sp.verb ≠ 0 := by
  intro hv
  unfold tellU at h
  cases h1 : widthF sp args with
  | none => rw [h1] at h; cases h
  | some x1 =>
    obtain ⟨s1, a1⟩ := x1
    rw [h1] at h
    dsimp only at h
    have e1 : s1.verb = sp.verb := by
      unfold widthF at h1
      split at h1
      · cases ht : starF args with
        | none => rw [ht] at h1; cases h1
        | some x =>
          rw [ht] at h1
          simp at h1
          rw [← h1.1]; split <;> rfl
      · injection h1 with h1; injection h1 with h1 _; rw [h1]
    cases h2 : precF s1 a1 with
    | none => rw [h2] at h; cases h
    | some x2 =>
      obtain ⟨s2, a2⟩ := x2
      rw [h2] at h
      dsimp only at h
      have e2 : s2.verb = s1.verb := by
        unfold precF at h2
        split at h2
        · cases ht : starF a1 with
          | none => rw [ht] at h2; cases h2
          | some x =>
            rw [ht] at h2
            simp at h2
            rw [← h2.1]
        · injection h2 with h2; injection h2 with h2 _; rw [h2]
      rw [if_pos (by rw [e2, e1, hv])] at h
      cases h
/-- How far it goes does not hang on the fuel. -/
theorem outF_fuel : ∀ (k k' : Nat) (l : List Nat) (args : List ArgF), l.length < k → l.length < k' → outF k l args = outF k' l args
  | 0, _, _, _, h, _ => by omega
  | _ + 1, 0, _, _, _, h => by omega
  | k + 1, k' + 1, [], args, _, _ => rfl
  | k + 1, k' + 1, c :: l, args, h, h' => by
    have h0 : (c :: l) ≠ [] := by simp
    have hd : ∀ n, 1 ≤ n → ((c :: l).drop n).length < k ∧ ((c :: l).drop n).length < k' := fun n hn => by rw [List.length_drop]; simp only [List.length_cons] at h h' ⊢; omega
    cases hp : pieceF (c :: l) with
    | inl x =>
      obtain ⟨T, n⟩ := x
      obtain ⟨g1, g2⟩ := hd n (pieceF_len h0 hp).1
      rw [outF_text h0 hp, outF_text h0 hp, outF_fuel k k' _ _ g1 g2]
    | inr sp =>
      rw [outF_verb h0 hp, outF_verb h0 hp]
      cases ht : tellU sp args with
      | none => rfl
      | some y =>
        obtain ⟨r, e1, e2, rfl⟩ := pieceF_sp hp
        obtain ⟨g1, g2⟩ := hd (readL r).len ((readL_facts r).2.2.2 (tell_verb ht)).1
        rw [Option.bind_some, Option.bind_some, outF_fuel k k' _ _ g1 g2]
def outL (l : List Nat) (args : List ArgF) : Option (List Nat) := outF (l.length + 1) l args
theorem outL_of {k : Nat} {l : List Nat} (args : List ArgF) (h : l.length < k) : outF k l args = outL l args := outF_fuel _ _ _ _ h (Nat.lt_succ_self _)
theorem outL_nil (args : List ArgF) : outL [] args = some [] := rfl
theorem outL_text {L T : List Nat} {n : Nat} {r : List ArgF} (h0 : L ≠ []) (hp : pieceF L = .inl (T, n)) : outL L r = (outL (L.drop n) r).map fun u => T ++ u := by
  have h := pieceF_len h0 hp
  have : 0 < L.length := List.length_pos_iff.2 h0
  unfold outL
  rw [outF_text h0 hp, outL_of _ (by rw [List.length_drop]; omega)]; rfl
theorem outL_verb {L : List Nat} {sp : SpecF} {r : List ArgF} (h0 : L ≠ []) (hp : pieceF L = .inr sp) : outL L r = (tellU sp r).bind fun y => (outL (L.drop sp.len) y.2).map fun u => y.1 ++ u := by
  have : 0 < L.length := List.length_pos_iff.2 h0
  show outF (L.length + 1) L r = _
  rw [outF_verb h0 hp]
  cases ht : tellU sp r with
  | none => rfl
  | some y =>
    obtain ⟨q, e1, e2, rfl⟩ := pieceF_sp hp
    have g := ((readL_facts q).2.2.2 (tell_verb ht)).1
    rw [Option.bind_some, Option.bind_some, outL_of _ (by rw [List.length_drop]; omega)]
theorem takeWhile_none (l : List Nat) (h : ∀ x ∈ l, x ≠ 37) : l.takeWhile (· ≠ 37) = l := by
  induction l with
  | nil => rfl
  | cons c l ih => rw [List.takeWhile_cons, if_pos (by simpa using h c (by simp)), ih fun x hx => h x (by simp [hx])]
theorem takeWhile_pre (T l : List Nat) (h : ∀ x ∈ T, x ≠ 37) : (T ++ l).takeWhile (· ≠ 37) = T ++ l.takeWhile (· ≠ 37) := by
  induction T with
  | nil => rfl
  | cons c T ih => rw [List.cons_append, List.takeWhile_cons, if_pos (by simpa using h c (by simp)), ih fun x hx => h x (by simp [hx])]; rfl
theorem takeWhile_head (l : List Nat) (h : l.head? = some 37) : l.takeWhile (· ≠ 37) = [] := by
  cases l with
  | nil => rfl
  | cons c l => simp at h; subst h; rfl
/-- Plain text ahead of any pattern. -/
theorem out_plain (T q : List Nat) (r : List ArgF) (h : ∀ x ∈ T, x ≠ 37) : outL (T ++ q) r = (outL q r).map fun u => T ++ u := by
  cases T with
  | nil => simp only [List.nil_append]; cases outL q r <;> rfl
  | cons c T =>
    have hc := h c (by simp)
    have h37 : ((c :: T) ++ q).head? ≠ some 37 := by simpa using hc
    have hp := pieceF_plain _ h37
    rw [takeWhile_pre _ _ h] at hp
    rw [outL_text (by simp) hp]
    by_cases hq : q.head? = some 37 ∨ q = []
    · have e : q.takeWhile (· ≠ 37) = [] := by
        rcases hq with hq | rfl
        · exact takeWhile_head q hq
        · rfl
      rw [e, List.append_nil, List.drop_left]
    · obtain ⟨hq1, hq2⟩ := not_or.1 hq
      rw [outL_text hq2 (pieceF_plain q hq1), List.length_append, ← List.drop_drop, List.drop_left]
      cases outL (q.drop (q.takeWhile (· ≠ 37)).length) r with
      | none => rfl
      | some u => simp only [Option.map_some, List.append_assoc]
theorem argsF_fuel : ∀ (k k' : Nat) (l : List Nat), l.length < k → l.length < k' → argsF k l = argsF k' l
  | 0, _, _, h, _ => by omega
  | _ + 1, 0, _, _, h => by omega
  | k + 1, k' + 1, [], _, _ => rfl
  | k + 1, k' + 1, c :: l, h, h' => by
    have h0 : (c :: l) ≠ [] := by simp
    have hd : ∀ n, 1 ≤ n → ((c :: l).drop n).length < k ∧ ((c :: l).drop n).length < k' := fun n hn => by rw [List.length_drop]; simp only [List.length_cons] at h h' ⊢; omega
    cases hp : pieceF (c :: l) with
    | inl x =>
      obtain ⟨T, n⟩ := x
      obtain ⟨g1, g2⟩ := hd n (pieceF_len h0 hp).1
      rw [argsF_text h0 hp, argsF_text h0 hp, argsF_fuel k k' _ g1 g2]
    | inr sp =>
      rw [argsF_verb h0 hp, argsF_verb h0 hp]
      obtain ⟨r, e1, e2, rfl⟩ := pieceF_sp hp
      split
      · rfl
      · rename_i hv
        obtain ⟨g1, g2⟩ := hd (readL r).len ((readL_facts r).2.2.2 hv).1
        rw [argsF_fuel k k' _ g1 g2]
/-- Two patterns one behind the other tell their texts one behind the other. -/
theorem out_join (q : List Nat) : ∀ (k : Nat) (p : List Nat) (args : List ArgF) (n : Nat), p.length < k → argsF k p = some n →
    outL (p ++ q) args = (outL p args).bind fun s => (outL q (args.drop n)).map fun t => s ++ t
  | 0, _, _, _, h, _ => by omega
  | k + 1, [], args, n, _, ha => by
    rw [argsF_nil] at ha
    obtain rfl : 0 = n := Option.some.inj ha
    rw [List.nil_append, outL_nil, Option.bind_some, List.drop_zero]
    cases outL q args <;> rfl
  | k + 1, c :: l, args, n, h, ha => by
    have h0 : (c :: l) ≠ [] := by simp
    cases hp : pieceF (c :: l) with
    | inl x =>
      obtain ⟨T, m⟩ := x
      obtain ⟨g1, g2⟩ := pieceF_len h0 hp
      rw [argsF_text h0 hp] at ha
      have ih := out_join q k ((c :: l).drop m) args n (by rw [List.length_drop]; simp only [List.length_cons] at h ⊢; omega) ha
      have key : outL ((c :: l) ++ q) args = (outL ((c :: l).drop m ++ q) args).map fun u => T ++ u := by
        by_cases h37 : c = 37
        · subst h37
          by_cases h2 : l.head? = some 37
          · obtain ⟨r', rfl⟩ : ∃ r', l = 37 :: r' := by
              cases l with
              | nil => cases h2
              | cons x r => simp at h2; exact ⟨r, by rw [h2]⟩
            have e : pieceF (37 :: 37 :: r') = .inl ([37], 2) := rfl
            rw [e] at hp
            injection hp with hp; injection hp with h1 hp
            subst h1 hp
            exact outL_text (L := 37 :: 37 :: (r' ++ q)) (T := [37]) (n := 2) (by simp) rfl
          · rw [pieceF_37 l h2] at hp; cases hp
        · rw [pieceF_plain (c :: l) (by simpa using h37)] at hp
          injection hp with hp; injection hp with h1 hp
          subst h1 hp
          have hT : ∀ x ∈ (c :: l).takeWhile (· ≠ 37), x ≠ 37 := fun x hx => by simpa using List.all_eq_true.1 (List.all_takeWhile (p := (· ≠ 37)) (l := c :: l)) x hx
          have e : (c :: l) = (c :: l).takeWhile (· ≠ 37) ++ (c :: l).drop ((c :: l).takeWhile (· ≠ 37)).length := by
            conv => lhs; rw [← List.take_append_drop ((c :: l).takeWhile (· ≠ 37)).length (c :: l)]
            congr 1
            exact (List.prefix_iff_eq_take.1 (List.takeWhile_prefix _)).symm
          conv => lhs; rw [e, List.append_assoc]
          exact out_plain _ _ _ hT
      rw [key, ih, outL_text h0 hp]
      cases outL ((c :: l).drop m) args with
      | none => rfl
      | some s =>
        simp only [Option.bind_some, Option.map_some]
        cases outL q (args.drop n) with
        | none => rfl
        | some t => simp only [Option.map_some, List.append_assoc]
    | inr sp =>
      rw [argsF_verb h0 hp] at ha
      obtain ⟨r, e1, e2, rfl⟩ := pieceF_sp hp
      injection e1 with e1 e3
      subst e1 e3
      split at ha
      · cases ha
      · rename_i hv
        cases har : argsF k ((37 :: l).drop (readL l).len) with
        | none => rw [har] at ha; cases ha
        | some n' =>
          rw [har, Option.map_some] at ha
          have hn : takes (readL l) + n' = n := by have := Option.some.inj ha; unfold takes; omega
          obtain ⟨g1, g2⟩ := (readL_facts l).2.2.2 hv
          have hne : l ≠ [] := by rintro rfl; exact hv rfl
          have hpq : pieceF ((37 :: l) ++ q) = .inr (readL l) := by
            rw [List.cons_append, pieceF_37 _ (by cases l with | nil => exact absurd rfl hne | cons x l => simpa using e2), readL_app l q hv]
          rw [outL_verb (by simp) hpq, outL_verb h0 hp]
          cases ht : tellU (readL l) args with
          | none => rfl
          | some y =>
            obtain ⟨t, ra⟩ := y
            have hra := tell_drop ht
            have ih := out_join q k ((37 :: l).drop (readL l).len) ra n' (by rw [List.length_drop]; simp only [List.length_cons] at h ⊢; omega) har
            have ed : ((37 :: l) ++ q).drop (readL l).len = (37 :: l).drop (readL l).len ++ q := by
              rw [List.drop_append, show (readL l).len - (37 :: l).length = 0 by simp only [List.length_cons]; omega]; rfl
            rw [Option.bind_some, Option.bind_some, ed, ih]
            have er : ra.drop n' = args.drop n := by rw [hra, List.drop_drop, hn]
            rw [er]
            cases outL ((37 :: l).drop (readL l).len) ra with
            | none => rfl
            | some s =>
              simp only [Option.bind_some, Option.map_some]
              cases outL q (args.drop n) with
              | none => rfl
              | some t => simp only [Option.map_some, List.append_assoc]
theorem make_out (l : List Nat) (args : List ArgF) : (makeF (l.length + 1) l args []).toOption = (outL l args).bind fun u => if u.length ≤ 65536 then some u else none := by
  rw [make_opt _ _ _ _ (by simp)]
  show (outL l args).bind _ = _
  cases outL l args with
  | none => rfl
  | some u => simp
theorem opt_ok {R : Except Int (List Nat)} {t : List Nat} (h : R.toOption = some t) : R = .ok t := by
  cases R with
  | error e => cases h
  | ok b => exact congrArg _ (Option.some.inj h)
theorem opt_no {R : Except Int (List Nat)} (h : R.toOption = none) : ∃ c, R = .error c := by
  cases R with
  | error e => exact ⟨e, rfl⟩
  | ok b => cases h
/-- The law of two patterns. -/
theorem joins_plain (p q : List Nat) (args : List ArgF) (n : Nat) (ha : argsF (p.length + 1) p = some n) :
    (∃ c c', makeF (p.length + 1) p args [] = .error c ∧ makeF ((p ++ q).length + 1) (p ++ q) args [] = .error c') ∨
    (∃ s, makeF (p.length + 1) p args [] = .ok s ∧ s.length ≤ 65536 ∧
      ((∃ c c', makeF (q.length + 1) q (args.drop n) [] = .error c ∧ makeF ((p ++ q).length + 1) (p ++ q) args [] = .error c') ∨
      (∃ t, makeF (q.length + 1) q (args.drop n) [] = .ok t ∧ t.length ≤ 65536 ∧
        ((65536 < s.length + t.length ∧ ∃ c', makeF ((p ++ q).length + 1) (p ++ q) args [] = .error c') ∨ makeF ((p ++ q).length + 1) (p ++ q) args [] = .ok (s ++ t))))) := by
  have hj := out_join q (p.length + 1) p args n (Nat.lt_succ_self _) ha
  have h1 := make_out p args
  have h2 := make_out q (args.drop n)
  have h3 := make_out (p ++ q) args
  rw [hj] at h3
  obtain ⟨R3, hR3⟩ : ∃ R, makeF ((p ++ q).length + 1) (p ++ q) args [] = R := ⟨_, rfl⟩
  rw [hR3] at h3 ⊢
  cases hs : outL p args with
  | none =>
    rw [hs] at h1 h3
    obtain ⟨c, hc⟩ := opt_no h1
    obtain ⟨c', hc'⟩ := opt_no h3
    exact .inl ⟨c, c', hc, hc'⟩
  | some s =>
    rw [hs] at h1 h3
    simp only [Option.bind_some] at h1 h3
    by_cases g1 : s.length ≤ 65536
    · rw [if_pos g1] at h1
      refine .inr ⟨s, opt_ok h1, g1, ?_⟩
      cases ht : outL q (args.drop n) with
      | none =>
        rw [ht] at h2 h3
        obtain ⟨c, hc⟩ := opt_no h2
        obtain ⟨c', hc'⟩ := opt_no h3
        exact .inl ⟨c, c', hc, hc'⟩
      | some t =>
        rw [ht] at h2 h3
        simp only [Option.bind_some, Option.map_some, List.length_append] at h2 h3
        by_cases g2 : t.length ≤ 65536
        · rw [if_pos g2] at h2
          refine .inr ⟨t, opt_ok h2, g2, ?_⟩
          by_cases g3 : s.length + t.length ≤ 65536
          · rw [if_pos g3] at h3
            exact .inr (opt_ok h3)
          · rw [if_neg g3] at h3
            exact .inl ⟨by omega, opt_no h3⟩
        · rw [if_neg g2] at h2
          rw [if_neg (by omega)] at h3
          obtain ⟨c, hc⟩ := opt_no h2
          obtain ⟨c', hc'⟩ := opt_no h3
          exact .inl ⟨c, c', hc, hc'⟩
    · rw [if_neg g1] at h1
      obtain ⟨c, hc⟩ := opt_no h1
      have : ((outL q (args.drop n)).map fun t => s ++ t).bind (fun u => if u.length ≤ 65536 then some u else none) = none := by
        cases outL q (args.drop n) with
        | none => rfl
        | some t => simp only [Option.map_some, Option.bind_some, List.length_append]; rw [if_neg (by omega)]
      rw [this] at h3
      obtain ⟨c', hc'⟩ := opt_no h3
      exact .inl ⟨c, c', hc, hc'⟩
end Go.Proofs.YtpkooogfefkcdaaDoor

/- fieldfarelaw08.few; Make of arguments that an elder world holds. -/
namespace Go.Proofs.YtpkooogfefkcdaaDoor
open Go.RowKit
theorem arg_at {w : World} {B i : Nat} {A : Option Addr} {args : List ArgF} (h : Reads w B 5 A args.length (args.flatMap argC)) (hi : i < args.length) :
    ∃ ad sb qo sp, A = some ad ∧ ad.add (i * 5) = ⟨sb, qo, sp⟩ ∧ sb < B ∧ w.cell? ⟨sb, qo, sp⟩ = some (.string (strN args[i].s)) := by
  obtain ⟨ad, e, hb, hc⟩ := h.2 (by omega)
  have h0 := hc (i * 5 + 0) _ (flatAtA argC 5 (fun _ => rfl) args i 0 hi (by omega))
  have hbl : (ad.add (i * 5)).block = ad.block := block_of_add ..
  exact ⟨ad, (ad.add (i * 5)).block, (ad.add (i * 5)).off, (ad.add (i * 5)).spot, e, rfl, by rw [hbl]; exact hb, h0⟩
set_option maxRecDepth 100000 in
set_option maxHeartbeats 1600000 in
theorem few_any {args : List ArgF} {A : Option Addr} {c : Nat} (w W : World) (hr : Reads w w.heap.size 5 A args.length (args.flatMap argC)) (hc : args.length ≤ c) (q : Below w.heap.size w W) :
    Calls Tryd.prog 8 #[.slice A args.length c] W fun e w' => e = .returned (.bool (decide (args.length ≤ 12 ∧ ∀ a ∈ args, a.s.length ≤ 100))) ∧ Below W.heap.size W w' := by
  have HR := Lib.hid hr
  have HQ := Lib.hid q
  clear hr q
  by_cases h12 : args.length ≤ 12
  · have d12 : decide ((12 : Int) < (args.length : Int)) = false := by simp; omega
    have d12' : decide (12 < args.length) = false := by simp; omega
    go_enter Tryd.func8, Tryd.ntmps8
    go_wp2_with fail
    go_loopw [3] (fun i wr => ∃ j : Nat, i = .int .i64 (j : Int) ∧ j ≤ args.length ∧ (∀ a ∈ args.take j, a.s.length ≤ 100) ∧ wr = W) (fun i _ => args.length - (intOf i).toNat)
    case atStart => exact ⟨0, by go_num, Nat.zero_le _, by simp, rfl⟩
    case round =>
      obtain ⟨j, rfl, hj, hall, rfl⟩ := hrel
      by_cases hlt : j < args.length
      · obtain ⟨ad, sb, qo, sp, rfl, hq, hb, h4⟩ := arg_at HR.out hlt
        have h5 := (HQ.out.cell hb).trans h4
        have hs5 := strN_size (args[j]'hlt).s
        have hz := HQ.out.size
        by_cases h100 : (args[j]'hlt).s.length ≤ 100
        · have d5 : decide ((100 : Int) < ((args[j]'hlt).s.length : Int)) = false := by simp; omega
          have d5' : decide (100 < (args[j]'hlt).s.length) = false := by simp; omega
          go_wp2_with fail
          go_roundw
          case rel => exact ⟨j + 1, by go_num, by omega, fun x hx => by
            rw [List.take_add_one, List.getElem?_eq_getElem hlt] at hx
            rcases List.mem_append.1 hx with hx | hx
            · exact hall x hx
            · simp at hx; rw [hx]; exact h100, trivial⟩
          case measure => simp [intOf]; omega
        · have d5 : decide ((100 : Int) < ((args[j]'hlt).s.length : Int)) = true := by simp; omega
          have d5' : decide (100 < (args[j]'hlt).s.length) = true := by simp; omega
          go_wp2_with fail
          go_ret
          refine ⟨?_, Below.refl _ _⟩
          rw [decide_eq_false (fun h => h100 (h.2 _ (List.getElem_mem hlt)))]; rfl
      · obtain rfl : j = args.length := by omega
        rw [List.take_length] at hall
        go_wp2_with fail
        go_ret
        exact ⟨by rw [decide_eq_true ⟨h12, hall⟩]; rfl, Below.refl _ _⟩
  · have d12 : decide ((12 : Int) < (args.length : Int)) = true := by simp; omega
    have d12' : decide (12 < args.length) = true := by simp; omega
    go_enter Tryd.func8, Tryd.ntmps8
    go_wp2_with fail
    go_ret
    exact ⟨by rw [decide_eq_false (fun h => h12 h.1)]; rfl, Below.refl _ _⟩
section
variable {P : List Nat} {args : List ArgF} {A : Option Addr} {c : Nat} {w W : World}
theorem make_no {cc : Int} (hP : ∀ x ∈ P, x < 256) (hPl : P.length ≤ 1000000) (hok : ∀ a ∈ args, a.ok) (hc : args.length ≤ c) (hr : Reads w w.heap.size 5 A args.length (args.flatMap argC)) (hR : makeF (P.length + 1) P args [] = .error cc) (q : Below w.heap.size w W) (ht : TzOk W) :
    Calls Tryd.prog 10 #[.string (strN P), .slice A args.length c] W fun e w' => (∃ T u, e = .returned (.tuple #[.string { data := #[] }, .iface T u])) ∧ Below W.heap.size W w' :=
  (make_any P hP hPl args A c w.heap.size hok hc W (hr.below q) q.size ht).mono fun e w' h => by
    obtain ⟨⟨_, h⟩ | ⟨b', h, he⟩, hb⟩ := h
    · exact ⟨h, hb⟩
    · rw [hR] at h; cases h
theorem make_yes {b : List Nat} (hP : ∀ x ∈ P, x < 256) (hPl : P.length ≤ 1000000) (hok : ∀ a ∈ args, a.ok) (hc : args.length ≤ c) (hr : Reads w w.heap.size 5 A args.length (args.flatMap argC)) (hR : makeF (P.length + 1) P args [] = .ok b) (q : Below w.heap.size w W) (ht : TzOk W) :
    Calls Tryd.prog 10 #[.string (strN P), .slice A args.length c] W fun e w' => e = .returned (.tuple #[.string (strN b), .nilIface]) ∧ Below W.heap.size W w' :=
  (make_any P hP hPl args A c w.heap.size hok hc W (hr.below q) q.size ht).mono fun e w' h => by
    obtain ⟨⟨⟨_, h⟩, _⟩ | ⟨b', h, he⟩, hb⟩ := h
    · rw [hR] at h; cases h
    · rw [hR] at h
      injection h with h; subst h
      exact ⟨he, hb⟩
end
end Go.Proofs.YtpkooogfefkcdaaDoor
