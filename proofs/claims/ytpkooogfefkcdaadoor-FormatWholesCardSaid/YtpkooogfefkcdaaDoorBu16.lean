/- Several texts put together: FmtW, FmtY, NumB. -/
import Derived.Test.YtpkooogfefkcdaaDoorBu14
import Derived.Test.YtpkooogfefkcdaaDoorBu15
import Derived.Test.YtpkooogfefkcdaaDoorBu1
/- Layer 8, plain: what two patterns, one behind the other, tell. -/
namespace Go.Proofs.YtpkooogfefkcdaaDoor
open Go.RowKit
theorem pieceF_len {l : List Nat} (h0 : l ≠ []) {T : List Nat} {n : Nat} (hp : pieceF l = .inl (T, n)) : 1 ≤ n ∧ n ≤ l.length := by
  by_cases h37 : l.head? = some 37
  · obtain ⟨r, rfl⟩ : ∃ r, l = 37 :: r := by
      cases l with
      | nil => cases h37
      | cons x r => simp at h37; exact ⟨r, by rw [h37]⟩
    by_cases h2 : r.head? = some 37
    · obtain ⟨r', rfl⟩ : ∃ r', r = 37 :: r' := by
        cases r with
        | nil => cases h2
        | cons x r => simp at h2; exact ⟨r, by rw [h2]⟩
      have e : pieceF (37 :: 37 :: r') = .inl ([37], 2) := rfl
      rw [e] at hp
      injection hp with hp; injection hp with _ hp
      subst hp
      simp
    · rw [pieceF_37 r h2] at hp; cases hp
  · rw [pieceF_plain l h37] at hp
    injection hp with hp; injection hp with _ hp
    subst hp
    refine ⟨?_, (List.takeWhile_sublist _).length_le⟩
    cases l with
    | nil => exact absurd rfl h0
    | cons c r => rw [List.takeWhile_cons, if_pos (by simpa using h37)]; simp
theorem pieceF_sp {l : List Nat} {sp : SpecF} (hp : pieceF l = .inr sp) : ∃ r, l = 37 :: r ∧ r.head? ≠ some 37 ∧ sp = readL r := by
  by_cases h37 : l.head? = some 37
  · obtain ⟨r, rfl⟩ : ∃ r, l = 37 :: r := by
      cases l with
      | nil => cases h37
      | cons x r => simp at h37; exact ⟨r, by rw [h37]⟩
    by_cases h2 : r.head? = some 37
    · obtain ⟨r', rfl⟩ : ∃ r', r = 37 :: r' := by
        cases r with
        | nil => cases h2
        | cons x r => simp at h2; exact ⟨r, by rw [h2]⟩
      have e : pieceF (37 :: 37 :: r') = .inl ([37], 2) := rfl
      rw [e] at hp
      cases hp
    · rw [pieceF_37 r h2] at hp
      injection hp with hp
      exact ⟨r, rfl, h2, hp.symm⟩
  · rw [pieceF_plain l h37] at hp; cases hp
theorem tell_verb {sp : SpecF} {args r : List ArgF} {t : List Nat} (h : tellU sp args = some (t, r)) : sp.verb ≠ 0 := by
  intro hv
  unfold tellU at h
  cases h1 : widthF sp args with
  | none => rw [h1] at h; cases h
  | some x1 =>
    obtain ⟨s1, a1⟩ := x1
    rw [h1] at h
    dsimp only at h
    have e1 : s1.verb = sp.verb := by
      unfold widthF at h1
      split at h1
      · cases ht : starF args with
        | none => rw [ht] at h1; cases h1
        | some x =>
          rw [ht] at h1
          simp at h1
          rw [← h1.1]; split <;> rfl
      · injection h1 with h1; injection h1 with h1 _; rw [h1]
    cases h2 : precF s1 a1 with
    | none => rw [h2] at h; cases h
    | some x2 =>
      obtain ⟨s2, a2⟩ := x2
      rw [h2] at h
      dsimp only at h
      have e2 : s2.verb = s1.verb := by
        unfold precF at h2
        split at h2
        · cases ht : starF a1 with
          | none => rw [ht] at h2; cases h2
          | some x =>
            rw [ht] at h2
            simp at h2
            rw [← h2.1]
        · injection h2 with h2; injection h2 with h2 _; rw [h2]
      rw [if_pos (by rw [e2, e1, hv])] at h
      cases h
/-- How far it goes does not hang on the fuel. -/
theorem outF_fuel : ∀ (k k' : Nat) (l : List Nat) (args : List ArgF), l.length < k → l.length < k' → outF k l args = outF k' l args
  | 0, _, _, _, h, _ => by omega
  | _ + 1, 0, _, _, _, h => by omega
  | k + 1, k' + 1, [], args, _, _ => rfl
  | k + 1, k' + 1, c :: l, args, h, h' => by
    have h0 : (c :: l) ≠ [] := by simp
    have hd : ∀ n, 1 ≤ n → ((c :: l).drop n).length < k ∧ ((c :: l).drop n).length < k' := fun n hn => by rw [List.length_drop]; simp only [List.length_cons] at h h' ⊢; omega
    cases hp : pieceF (c :: l) with
    | inl x =>
      obtain ⟨T, n⟩ := x
      obtain ⟨g1, g2⟩ := hd n (pieceF_len h0 hp).1
      rw [outF_text h0 hp, outF_text h0 hp, outF_fuel k k' _ _ g1 g2]
    | inr sp =>
      rw [outF_verb h0 hp, outF_verb h0 hp]
      cases ht : tellU sp args with
      | none => rfl
      | some y =>
        obtain ⟨r, e1, e2, rfl⟩ := pieceF_sp hp
        obtain ⟨g1, g2⟩ := hd (readL r).len ((readL_facts r).2.2.2 (tell_verb ht)).1
        rw [Option.bind_some, Option.bind_some, outF_fuel k k' _ _ g1 g2]
def outL (l : List Nat) (args : List ArgF) : Option (List Nat) := outF (l.length + 1) l args
theorem outL_of {k : Nat} {l : List Nat} (args : List ArgF) (h : l.length < k) : outF k l args = outL l args := outF_fuel _ _ _ _ h (Nat.lt_succ_self _)
theorem outL_nil (args : List ArgF) : outL [] args = some [] := rfl
theorem outL_text {L T : List Nat} {n : Nat} {r : List ArgF} (h0 : L ≠ []) (hp : pieceF L = .inl (T, n)) : outL L r = (outL (L.drop n) r).map fun u => T ++ u := by
  have h := pieceF_len h0 hp
  have : 0 < L.length := List.length_pos_iff.2 h0
  unfold outL
  rw [outF_text h0 hp, outL_of _ (by rw [List.length_drop]; omega)]; rfl
theorem outL_verb {L : List Nat} {sp : SpecF} {r : List ArgF} (h0 : L ≠ []) (hp : pieceF L = .inr sp) : outL L r = (tellU sp r).bind fun y => (outL (L.drop sp.len) y.2).map fun u => y.1 ++ u := by
  have : 0 < L.length := List.length_pos_iff.2 h0
  show outF (L.length + 1) L r = _
  rw [outF_verb h0 hp]
  cases ht : tellU sp r with
  | none => rfl
  | some y =>
    obtain ⟨q, e1, e2, rfl⟩ := pieceF_sp hp
    have g := ((readL_facts q).2.2.2 (tell_verb ht)).1
    rw [Option.bind_some, Option.bind_some, outL_of _ (by rw [List.length_drop]; omega)]
theorem takeWhile_none (l : List Nat) (h : ∀ x ∈ l, x ≠ 37) : l.takeWhile (· ≠ 37) = l := by
  induction l with
  | nil => rfl
  | cons c l ih => rw [List.takeWhile_cons, if_pos (by simpa using h c (by simp)), ih fun x hx => h x (by simp [hx])]
theorem takeWhile_pre (T l : List Nat) (h : ∀ x ∈ T, x ≠ 37) : (T ++ l).takeWhile (· ≠ 37) = T ++ l.takeWhile (· ≠ 37) := by
  induction T with
  | nil => rfl
  | cons c T ih => rw [List.cons_append, List.takeWhile_cons, if_pos (by simpa using h c (by simp)), ih fun x hx => h x (by simp [hx])]; rfl
theorem takeWhile_head (l : List Nat) (h : l.head? = some 37) : l.takeWhile (· ≠ 37) = [] := by
  cases l with
  | nil => rfl
  | cons c l => simp at h; subst h; rfl
/-- Plain text ahead of any pattern. -/
theorem out_plain (T q : List Nat) (r : List ArgF) (h : ∀ x ∈ T, x ≠ 37) : outL (T ++ q) r = (outL q r).map fun u => T ++ u := by
  cases T with
  | nil => simp only [List.nil_append]; cases outL q r <;> rfl
  | cons c T =>
    have hc := h c (by simp)
    have h37 : ((c :: T) ++ q).head? ≠ some 37 := by simpa using hc
    have hp := pieceF_plain _ h37
    rw [takeWhile_pre _ _ h] at hp
    rw [outL_text (by simp) hp]
    by_cases hq : q.head? = some 37 ∨ q = []
    · have e : q.takeWhile (· ≠ 37) = [] := by
        rcases hq with hq | rfl
        · exact takeWhile_head q hq
        · rfl
      rw [e, List.append_nil, List.drop_left]
    · obtain ⟨hq1, hq2⟩ := not_or.1 hq
      rw [outL_text hq2 (pieceF_plain q hq1), List.length_append, ← List.drop_drop, List.drop_left]
      cases outL (q.drop (q.takeWhile (· ≠ 37)).length) r with
      | none => rfl
      | some u => simp only [Option.map_some, List.append_assoc]
theorem argsF_fuel : ∀ (k k' : Nat) (l : List Nat), l.length < k → l.length < k' → argsF k l = argsF k' l
  | 0, _, _, h, _ => by omega
  | _ + 1, 0, _, _, h => by omega
  | k + 1, k' + 1, [], _, _ => rfl
  | k + 1, k' + 1, c :: l, h, h' => by
    have h0 : (c :: l) ≠ [] := by simp
    have hd : ∀ n, 1 ≤ n → ((c :: l).drop n).length < k ∧ ((c :: l).drop n).length < k' := fun n hn => by rw [List.length_drop]; simp only [List.length_cons] at h h' ⊢; omega
    cases hp : pieceF (c :: l) with
    | inl x =>
      obtain ⟨T, n⟩ := x
      obtain ⟨g1, g2⟩ := hd n (pieceF_len h0 hp).1
      rw [argsF_text h0 hp, argsF_text h0 hp, argsF_fuel k k' _ g1 g2]
    | inr sp =>
      rw [argsF_verb h0 hp, argsF_verb h0 hp]
      obtain ⟨r, e1, e2, rfl⟩ := pieceF_sp hp
      split
      · rfl
      · rename_i hv
        obtain ⟨g1, g2⟩ := hd (readL r).len ((readL_facts r).2.2.2 hv).1
        rw [argsF_fuel k k' _ g1 g2]
/-- Two patterns one behind the other tell their texts one behind the other. -/
theorem out_join (q : List Nat) : ∀ (k : Nat) (p : List Nat) (args : List ArgF) (n : Nat), p.length < k → argsF k p = some n →
    outL (p ++ q) args = (outL p args).bind fun s => (outL q (args.drop n)).map fun t => s ++ t
  | 0, _, _, _, h, _ => by omega
  | k + 1, [], args, n, _, ha => by
    rw [argsF_nil] at ha
    obtain rfl : 0 = n := Option.some.inj ha
    rw [List.nil_append, outL_nil, Option.bind_some, List.drop_zero]
    cases outL q args <;> rfl
  | k + 1, c :: l, args, n, h, ha => by
    have h0 : (c :: l) ≠ [] := by simp
    cases hp : pieceF (c :: l) with
    | inl x =>
      obtain ⟨T, m⟩ := x
      obtain ⟨g1, g2⟩ := pieceF_len h0 hp
      rw [argsF_text h0 hp] at ha
      have ih := out_join q k ((c :: l).drop m) args n (by rw [List.length_drop]; simp only [List.length_cons] at h ⊢; omega) ha
      have key : outL ((c :: l) ++ q) args = (outL ((c :: l).drop m ++ q) args).map fun u => T ++ u := by
        by_cases h37 : c = 37
        · subst h37
          by_cases h2 : l.head? = some 37
          · obtain ⟨r', rfl⟩ : ∃ r', l = 37 :: r' := by
              cases l with
              | nil => cases h2
              | cons x r => simp at h2; exact ⟨r, by rw [h2]⟩
            have e : pieceF (37 :: 37 :: r') = .inl ([37], 2) := rfl
            rw [e] at hp
            injection hp with hp; injection hp with h1 hp
            subst h1 hp
            exact outL_text (L := 37 :: 37 :: (r' ++ q)) (T := [37]) (n := 2) (by simp) rfl
          · rw [pieceF_37 l h2] at hp; cases hp
        · rw [pieceF_plain (c :: l) (by simpa using h37)] at hp
          injection hp with hp; injection hp with h1 hp
          subst h1 hp
          have hT : ∀ x ∈ (c :: l).takeWhile (· ≠ 37), x ≠ 37 := fun x hx => by simpa using List.all_eq_true.1 (List.all_takeWhile (p := (· ≠ 37)) (l := c :: l)) x hx
          have e : (c :: l) = (c :: l).takeWhile (· ≠ 37) ++ (c :: l).drop ((c :: l).takeWhile (· ≠ 37)).length := by
            conv => lhs; rw [← List.take_append_drop ((c :: l).takeWhile (· ≠ 37)).length (c :: l)]
            congr 1
            exact (List.prefix_iff_eq_take.1 (List.takeWhile_prefix _)).symm
          conv => lhs; rw [e, List.append_assoc]
          exact out_plain _ _ _ hT
      rw [key, ih, outL_text h0 hp]
      cases outL ((c :: l).drop m) args with
      | none => rfl
      | some s =>
        simp only [Option.bind_some, Option.map_some]
        cases outL q (args.drop n) with
        | none => rfl
        | some t => simp only [Option.map_some, List.append_assoc]
    | inr sp =>
      rw [argsF_verb h0 hp] at ha
      obtain ⟨r, e1, e2, rfl⟩ := pieceF_sp hp
      injection e1 with e1 e3
      subst e1 e3
      split at ha
      · cases ha
      · rename_i hv
        cases har : argsF k ((37 :: l).drop (readL l).len) with
        | none => rw [har] at ha; cases ha
        | some n' =>
          rw [har, Option.map_some] at ha
          have hn : takes (readL l) + n' = n := by have := Option.some.inj ha; unfold takes; omega
          obtain ⟨g1, g2⟩ := (readL_facts l).2.2.2 hv
          have hne : l ≠ [] := by rintro rfl; exact hv rfl
          have hpq : pieceF ((37 :: l) ++ q) = .inr (readL l) := by
            rw [List.cons_append, pieceF_37 _ (by cases l with | nil => exact absurd rfl hne | cons x l => simpa using e2), readL_app l q hv]
          rw [outL_verb (by simp) hpq, outL_verb h0 hp]
          cases ht : tellU (readL l) args with
          | none => rfl
          | some y =>
            obtain ⟨t, ra⟩ := y
            have hra := tell_drop ht
            have ih := out_join q k ((37 :: l).drop (readL l).len) ra n' (by rw [List.length_drop]; simp only [List.length_cons] at h ⊢; omega) har
            have ed : ((37 :: l) ++ q).drop (readL l).len = (37 :: l).drop (readL l).len ++ q := by
              rw [List.drop_append, show (readL l).len - (37 :: l).length = 0 by simp only [List.length_cons]; omega]; rfl
            rw [Option.bind_some, Option.bind_some, ed, ih]
            have er : ra.drop n' = args.drop n := by rw [hra, List.drop_drop, hn]
            rw [er]
            cases outL ((37 :: l).drop (readL l).len) ra with
            | none => rfl
            | some s =>
              simp only [Option.bind_some, Option.map_some]
              cases outL q (args.drop n) with
              | none => rfl
              | some t => simp only [Option.map_some, List.append_assoc]
theorem make_out (l : List Nat) (args : List ArgF) : (makeF (l.length + 1) l args []).toOption = (outL l args).bind fun u => if u.length ≤ 65536 then some u else none := by
  rw [make_opt _ _ _ _ (by simp)]
  show (outL l args).bind _ = _
  cases outL l args with
  | none => rfl
  | some u => simp
theorem opt_ok {R : Except Int (List Nat)} {t : List Nat} (h : R.toOption = some t) : R = .ok t := by
  cases R with
  | error e => cases h
  | ok b => exact congrArg _ (Option.some.inj h)
theorem opt_no {R : Except Int (List Nat)} (h : R.toOption = none) : ∃ c, R = .error c := by
  cases R with
  | error e => exact ⟨e, rfl⟩
  | ok b => cases h
/-- The law of two patterns. -/
theorem joins_plain (p q : List Nat) (args : List ArgF) (n : Nat) (ha : argsF (p.length + 1) p = some n) :
    (∃ c c', makeF (p.length + 1) p args [] = .error c ∧ makeF ((p ++ q).length + 1) (p ++ q) args [] = .error c') ∨
    (∃ s, makeF (p.length + 1) p args [] = .ok s ∧ s.length ≤ 65536 ∧
      ((∃ c c', makeF (q.length + 1) q (args.drop n) [] = .error c ∧ makeF ((p ++ q).length + 1) (p ++ q) args [] = .error c') ∨
      (∃ t, makeF (q.length + 1) q (args.drop n) [] = .ok t ∧ t.length ≤ 65536 ∧
        ((65536 < s.length + t.length ∧ ∃ c', makeF ((p ++ q).length + 1) (p ++ q) args [] = .error c') ∨ makeF ((p ++ q).length + 1) (p ++ q) args [] = .ok (s ++ t))))) := by
  have hj := out_join q (p.length + 1) p args n (Nat.lt_succ_self _) ha
  have h1 := make_out p args
  have h2 := make_out q (args.drop n)
  have h3 := make_out (p ++ q) args
  rw [hj] at h3
  obtain ⟨R3, hR3⟩ : ∃ R, makeF ((p ++ q).length + 1) (p ++ q) args [] = R := ⟨_, rfl⟩
  rw [hR3] at h3 ⊢
  cases hs : outL p args with
  | none =>
    rw [hs] at h1 h3
    obtain ⟨c, hc⟩ := opt_no h1
    obtain ⟨c', hc'⟩ := opt_no h3
    exact .inl ⟨c, c', hc, hc'⟩
  | some s =>
    rw [hs] at h1 h3
    simp only [Option.bind_some] at h1 h3
    by_cases g1 : s.length ≤ 65536
    · rw [if_pos g1] at h1
      refine .inr ⟨s, opt_ok h1, g1, ?_⟩
      cases ht : outL q (args.drop n) with
      | none =>
        rw [ht] at h2 h3
        obtain ⟨c, hc⟩ := opt_no h2
        obtain ⟨c', hc'⟩ := opt_no h3
        exact .inl ⟨c, c', hc, hc'⟩
      | some t =>
        rw [ht] at h2 h3
        simp only [Option.bind_some, Option.map_some, List.length_append] at h2 h3
        by_cases g2 : t.length ≤ 65536
        · rw [if_pos g2] at h2
          refine .inr ⟨t, opt_ok h2, g2, ?_⟩
          by_cases g3 : s.length + t.length ≤ 65536
          · rw [if_pos g3] at h3
            exact .inr (opt_ok h3)
          · rw [if_neg g3] at h3
            exact .inl ⟨by omega, opt_no h3⟩
        · rw [if_neg g2] at h2
          rw [if_neg (by omega)] at h3
          obtain ⟨c, hc⟩ := opt_no h2
          obtain ⟨c', hc'⟩ := opt_no h3
          exact .inl ⟨c, c', hc, hc'⟩
    · rw [if_neg g1] at h1
      obtain ⟨c, hc⟩ := opt_no h1
      have : ((outL q (args.drop n)).map fun t => s ++ t).bind (fun u => if u.length ≤ 65536 then some u else none) = none := by
        cases outL q (args.drop n) with
        | none => rfl
        | some t => simp only [Option.map_some, Option.bind_some, List.length_append]; rw [if_neg (by omega)]
      rw [this] at h3
      obtain ⟨c', hc'⟩ := opt_no h3
      exact .inl ⟨c, c', hc, hc'⟩
end Go.Proofs.YtpkooogfefkcdaaDoor

/- fieldfarelaw08.FormatWide: plain, and the walk. -/
namespace Go.Proofs.YtpkooogfefkcdaaDoor
open Go.RowKit
theorem whole_mill (k : Int) (h : -9223372036854775808 ≤ k ∧ k < 9223372036854775808) : wholeZ (k * 1000000) = (k, true) := by
  unfold wholeZ
  rw [Int.mul_tdiv_cancel _ (by decide), if_pos h]
def wideP (left : Bool) : List Nat := if left then [37, 45, 42, 115] else [37, 42, 115]
def wideT (s : List Nat) (n : Nat) (left : Bool) : List Nat := if left then s ++ List.replicate (n - s.length) 32 else List.replicate (n - s.length) 32 ++ s
theorem star_num (n : Nat) (hn : n ≤ 999) (num : Bool) (r : List ArgF) : starF (numA ((n : Int) * 1000000) num :: r) = some ((n : Int), r) := by
  unfold starF takeF numA
  simp only [Option.map_some]
  rw [whole_mill _ (by omega)]
  unfold clampF
  rw [if_neg (by dsimp only; omega), if_neg (by dsimp only; omega)]
theorem wide_len (s : List Nat) (n : Nat) (left : Bool) : (wideT s n left).length = if n ≤ s.length then s.length else n := by
  unfold wideT
  cases left <;> simp <;> split <;> omega
theorem wide_gen (s : List Nat) (n : Nat) (left : Bool) (hn : n ≤ 255) (hs : s.length ≤ 100) (args : List ArgF) (hstar : starF args = some ((n : Int), [strA s])) : makeF ((wideP left).length + 1) (wideP left) args [] = .ok (wideT s n left) := by
  have hl := wide_len s n left
  have ha : addF [] (wideT s n left) = .ok (wideT s n left) := by
    unfold addF
    rw [if_neg (by rw [hl, List.length_nil]; split <;> omega)]; rfl
  cases left
  · have hp : pieceF (wideP false) = .inr ⟨⟨false, false, false, false⟩, 0, -1, true, false, 115, 3⟩ := by rfl
    rw [makeF_verb (by simp [wideP]) hp]
    have ht : tellF ⟨⟨false, false, false, false⟩, 0, -1, true, false, 115, 3⟩ args [] = .ok (wideT s n false, []) := by
      unfold tellF widthF
      rw [if_pos rfl, hstar]
      simp only [Option.map_some]
      rw [if_neg (by omega)]
      simp only [precF, Bool.false_eq_true, if_false]
      rw [if_neg (by decide)]
      rw [takeF_some _ _ 0 rfl]
      have hb : bodyF ⟨⟨false, false, false, false⟩, ((n : Int)).toNat, -1, true, false, 115, 3⟩ (strA s) 0 = .ok ([], s) := by
        unfold bodyF
        rw [if_neg (show ¬(115 = 100 ∨ 115 = 105) by decide), if_neg (show ¬115 = 102 by decide), if_pos rfl, if_neg (by dsimp only; omega)]; rfl
      simp only [hb]
      have hlaid : laidF ⟨⟨false, false, false, false⟩, ((n : Int)).toNat, -1, true, false, 115, 3⟩ ([], s) = wideT s n false := by
        unfold laidF wideT zerosF
        simp
      rw [hlaid, ha]
    rw [ht]
    exact makeF_nil _ (by decide) _ _
  · have hp : pieceF (wideP true) = .inr ⟨⟨true, false, false, false⟩, 0, -1, true, false, 115, 4⟩ := by rfl
    rw [makeF_verb (by simp [wideP]) hp]
    have ht : tellF ⟨⟨true, false, false, false⟩, 0, -1, true, false, 115, 4⟩ args [] = .ok (wideT s n true, []) := by
      unfold tellF widthF
      rw [if_pos rfl, hstar]
      simp only [Option.map_some]
      rw [if_neg (by omega)]
      simp only [precF, Bool.false_eq_true, if_false]
      rw [if_neg (by decide)]
      rw [takeF_some _ _ 0 rfl]
      have hb : bodyF ⟨⟨true, false, false, false⟩, ((n : Int)).toNat, -1, true, false, 115, 4⟩ (strA s) 0 = .ok ([], s) := by
        unfold bodyF
        rw [if_neg (show ¬(115 = 100 ∨ 115 = 105) by decide), if_neg (show ¬115 = 102 by decide), if_pos rfl, if_neg (by dsimp only; omega)]; rfl
      simp only [hb]
      have hlaid : laidF ⟨⟨true, false, false, false⟩, ((n : Int)).toNat, -1, true, false, 115, 4⟩ ([], s) = wideT s n true := by
        unfold laidF wideT zerosF
        simp
      rw [hlaid, ha]
    rw [ht]
    exact makeF_nil _ (by decide) _ _
theorem wide_make (s : List Nat) (n : Nat) (left : Bool) (hn : n ≤ 255) (hs : s.length ≤ 100) : makeF ((wideP left).length + 1) (wideP left) [numA ((n : Int) * 1000000) false, strA s] [] = .ok (wideT s n left) :=
  wide_gen s n left hn hs _ (star_num n (by omega) false _)
theorem plain_make (s : List Nat) (h : ∀ x ∈ s, x ≠ 37) (hs : s.length ≤ 100) (r : List ArgF) : makeF (s.length + 1) s r [] = .ok s := by
  have h1 := make_out s r
  have h2 := out_plain s [] r h
  rw [List.append_nil, outL_nil, Option.map_some, List.append_nil] at h2
  rw [h2, Option.bind_some, if_pos (by omega)] at h1
  exact opt_ok h1
end Go.Proofs.YtpkooogfefkcdaaDoor

/- numeral.digits. -/
namespace Go.Proofs.YtpkooogfefkcdaaDoor
open Go.RowKit
set_option maxRecDepth 100000 in
set_option maxHeartbeats 400000 in
theorem digits_any (A : Option Addr) (c : Nat) (bs : List Nat) (w : World) (hr : RB w w.heap.size A bs) (hc : bs.length ≤ c) (hm : bs.length ≤ 140737488351232) :
    Calls Tryd.prog 36 #[.slice A bs.length c] w fun e w' => e = .returned (.slice A (span digB bs) c) ∧ w = w' := by
  have hH := Lib.hid hr
  clear hr
  go_enter Tryd.func36, Tryd.ntmps36
  go_wp2_with fail
  go_loop [3] (fun n => ∃ k : Nat, k ≤ bs.length ∧ n = .int .i64 k ∧ Hid (∀ j (hj : j < bs.length), j < k → digB bs[j] = true)) (fun n => bs.length - (intOf n).toNat)
  case atStart => exact ⟨0, Nat.zero_le _, rfl, Lib.hid (fun _ _ h => absurd h (by omega))⟩
  case round =>
    obtain ⟨k, hk, rfl, hall⟩ := hrel
    by_cases hlt : k < bs.length
    · obtain ⟨ad, rfl, hb, hcell⟩ := hH.out.2 (by omega)
      have hx := hH.out.1 bs[k] (List.getElem_mem _)
      have hcl := hcell k hlt
      obtain ⟨x, hxe⟩ : ∃ x, x = bs[k] := ⟨_, rfl⟩
      rw [← hxe] at hx hcl
      have HX := Lib.hid hxe; clear hxe hcell hb
      by_cases h1 : 48 ≤ x
      · by_cases h2 : x ≤ 57
        · go_wp2
          go_round
          case rel => exact ⟨k + 1, by omega, by go_num, Lib.hid (fun j hj hjk => by
            by_cases e : j = k
            · subst e; rw [← HX.out]; simp [digB, h1, h2]
            · exact hall.out j hj (by omega))⟩
          case measure => simp [intOf]; omega
        · have he : span digB bs = k := span_eq _ _ _ hk (fun j hj hjk => hall.out j hj hjk) (fun hj => by rw [← HX.out]; simp [digB]; omega)
          have HE := Lib.hid he; clear he
          go_wp2
          go_ret
          exact ⟨by rw [HE.out]; rfl, rfl⟩
      · have he : span digB bs = k := span_eq _ _ _ hk (fun j hj hjk => hall.out j hj hjk) (fun hj => by rw [← HX.out]; simp [digB]; omega)
        have HE := Lib.hid he; clear he
        go_wp2
        go_ret
        exact ⟨by rw [HE.out]; rfl, rfl⟩
    · have he : span digB bs = k := span_eq _ _ _ hk (fun j hj hjk => hall.out j hj hjk) (fun hj => by omega)
      have HE := Lib.hid he; clear he
      go_wp2
      go_ret
      exact ⟨by rw [HE.out]; rfl, rfl⟩
end Go.Proofs.YtpkooogfefkcdaaDoor
