/- Several texts put together: FmtT, FmtU, FmtX, Frame, FrameL. -/
import Derived.Test.YtpkooogfefkcdaaDoorBu13
import Derived.Test.YtpkooogfefkcdaaDoorBu1
import Derived.Test.YtpkooogfefkcdaaDoorRows
import Derived.ProofKit
import Derived.OpenShut
import Derived.ShutString
import Derived.ChangeOld
import Derived.Lib.SmallJoins
import Derived.LaidLaws
import Derived.Lay
import Derived.LaidOnce
import Derived.Lib.LaidTab
/- Layer 8: Make. -/
namespace Go.Proofs.YtpkooogfefkcdaaDoor
open Go.RowKit
theorem madd_no {g B t blanks c : Nat} {V : Value} {args : List ArgF} {bs : List Nat} (Ts : List (List Nat)) (hT : ∀ T ∈ Ts, ∀ x ∈ T, x < 256) (w : World) (m : MkS w g B V args bs) (hb : bs.length ≤ 65536) (hbl : blanks ≤ 1000000) (hTl : Ts.flatten.length ≤ 1000000000) (hTn : Ts.length ≤ 1000) (ht : TxB w t Ts) (htg : t ≠ g)
    (h : 65536 < bs.length + (List.replicate blanks 32 ++ Ts.flatten).length) :
    Calls Tryd.prog 20 #[.pointer (some ⟨g, 0, none⟩), .int .i64 (blanks : Int), .slice (some ⟨t, 0, none⟩) Ts.length c] w fun e w' => (∃ T u, e = .returned (.iface T u)) ∧ Below w.heap.size w w' :=
  (add_any Ts hT w m hb hbl hTl hTn ht htg).mono fun e w' p => by
    rcases p with ⟨_, h2, h3⟩ | ⟨h1, _⟩
    · exact ⟨h2, h3⟩
    · omega
theorem madd_ok {g B t blanks c : Nat} {V : Value} {args : List ArgF} {bs : List Nat} (Ts : List (List Nat)) (hT : ∀ T ∈ Ts, ∀ x ∈ T, x < 256) (w : World) (m : MkS w g B V args bs) (hb : bs.length ≤ 65536) (hbl : blanks ≤ 1000000) (hTl : Ts.flatten.length ≤ 1000000000) (hTn : Ts.length ≤ 1000) (ht : TxB w t Ts) (htg : t ≠ g)
    (h : bs.length + (List.replicate blanks 32 ++ Ts.flatten).length ≤ 65536) :
    Calls Tryd.prog 20 #[.pointer (some ⟨g, 0, none⟩), .int .i64 (blanks : Int), .slice (some ⟨t, 0, none⟩) Ts.length c] w fun e w' => e = .returned .nilIface ∧ ∃ V', MkS w' g B V' args (bs ++ (List.replicate blanks 32 ++ Ts.flatten)) ∧ Upd g V.ownBlock w w' :=
  (add_any Ts hT w m hb hbl hTl hTn ht htg).mono fun e w' p => by
    rcases p with ⟨h1, _⟩ | ⟨_, h2, h3⟩
    · omega
    · exact ⟨h2, h3⟩
theorem tell_no {g B : Nat} {V : Value} {args : List ArgF} {bs : List Nat} (at' next : Nat) (s : SpecF) (hv : isVerb s.verb = true ∨ s.verb = 0) (hwd : s.width < 1000) (hpr : -1000 < s.prec ∧ s.prec < 1000) (w : World) (m : MkS w g B V args bs) (hb : bs.length ≤ 65536) (hg8 : 8 < g) (ht : TzOk w) {c : Int} (h : tellF s args bs = .error c) :
    Calls Tryd.prog 21 #[.pointer (some ⟨g, 0, none⟩), .agg (specV at' s next)] w fun e w' => (∃ T u, e = .returned (.iface T u)) ∧ Upd g V.ownBlock w w' :=
  (tell_any at' next s hv hwd hpr w m hb hg8 ht).mono fun e w' p => by
    rcases p with ⟨_, h2, h3⟩ | ⟨b', r, h1, _⟩
    · exact ⟨h2, h3⟩
    · rw [h] at h1; cases h1
theorem tell_ok {g B : Nat} {V : Value} {args r : List ArgF} {bs b' : List Nat} (at' next : Nat) (s : SpecF) (hv : isVerb s.verb = true ∨ s.verb = 0) (hwd : s.width < 1000) (hpr : -1000 < s.prec ∧ s.prec < 1000) (w : World) (m : MkS w g B V args bs) (hb : bs.length ≤ 65536) (hg8 : 8 < g) (ht : TzOk w) (h : tellF s args bs = .ok (b', r)) :
    Calls Tryd.prog 21 #[.pointer (some ⟨g, 0, none⟩), .agg (specV at' s next)] w fun e w' => e = .returned .nilIface ∧ ∃ V', MkS w' g B V' r b' ∧ Upd g V.ownBlock w w' :=
  (tell_any at' next s hv hwd hpr w m hb hg8 ht).mono fun e w' p => by
    rcases p with ⟨⟨c, h1⟩, _⟩ | ⟨b2, r2, h1, h2, h3⟩
    · rw [h] at h1; cases h1
    · rw [h] at h1
      injection h1 with h1
      injection h1 with h1 h4
      subst h1 h4
      exact ⟨h2, h3⟩
theorem tellF_len {s : SpecF} {args r : List ArgF} {bs b' : List Nat} (h : tellF s args bs = .ok (b', r)) : b'.length ≤ 65536 ∧ s.verb ≠ 0 := by
  unfold tellF at h
  cases h1 : widthF s args with
  | none => rw [h1] at h; cases h
  | some p =>
    obtain ⟨s1, a1⟩ := p
    have v1 : s1.verb = s.verb := by
      unfold widthF at h1
      split at h1
      · rw [Option.map_eq_some_iff] at h1
        obtain ⟨x, _, h1⟩ := h1
        injection h1 with h1 _
        rw [← h1]; split <;> rfl
      · injection h1 with h1; injection h1 with h1 _; rw [h1]
    rw [h1] at h
    dsimp only at h
    cases h2 : precF s1 a1 with
    | none => rw [h2] at h; cases h
    | some p =>
      obtain ⟨s2, a2⟩ := p
      have v2 : s2.verb = s1.verb := by
        unfold precF at h2
        split at h2
        · rw [Option.map_eq_some_iff] at h2
          obtain ⟨x, _, h2⟩ := h2
          injection h2 with h2 _
          rw [← h2]
        · injection h2 with h2; injection h2 with h2 _; rw [h2]
      rw [h2] at h
      dsimp only at h
      split at h
      · cases h
      · rename_i hv
        refine ⟨?_, by omega⟩
        split at h
        · cases h
        · split at h
          · cases h
          · split at h
            · cases h
            · rename_i b2 h3
              injection h with h
              injection h with h _
              subst h
              unfold addF at h3
              split at h3
              · cases h3
              · injection h3 with h3
                rw [← h3, List.length_append]; omega
theorem precP_len (l : List Nat) : -1000 < (precP l).1 ∧ (precP l).1 < 1000 := by
  unfold precP
  split
  · rename_i r3
    have := (sizeL_len r3).2
    dsimp only; omega
  · dsimp only; omega
theorem readL_facts (l : List Nat) : (readL l).width < 1000 ∧ (-1000 < (readL l).prec ∧ (readL l).prec < 1000) ∧ (isVerb (readL l).verb = true ∨ (readL l).verb = 0) ∧ ((readL l).verb ≠ 0 → 1 ≤ (readL l).len ∧ (readL l).len ≤ l.length + 1) := by
  obtain ⟨f, hf⟩ : ∃ f, flagsL l ⟨false, false, false, false⟩ = f := ⟨_, rfl⟩
  obtain ⟨p, hp⟩ : ∃ p, precP ((l.drop f.2).drop (sizeL (l.drop f.2)).2.2) = p := ⟨_, rfl⟩
  have hw := (sizeL_len (l.drop f.2)).2
  have hpp := precP_len ((l.drop f.2).drop (sizeL (l.drop f.2)).2.2)
  rw [hp] at hpp
  generalize hs : sizeL (l.drop f.2) = sz at hp hw
  have hr : readL l = match ((l.drop f.2).drop sz.2.2).drop p.2.2 with
      | c :: _ => if isVerb c then ⟨f.1, sz.1, p.1, sz.2.1, p.2.1, c, 1 + f.2 + sz.2.2 + p.2.2 + 1⟩ else ⟨f.1, sz.1, p.1, sz.2.1, p.2.1, 0, 0⟩
      | [] => ⟨f.1, sz.1, p.1, sz.2.1, p.2.1, 0, 0⟩ := by
    unfold readL
    simp only [hf, hs, hp]
    rfl
  rw [hr]
  cases hd : ((l.drop f.2).drop sz.2.2).drop p.2.2 with
  | nil => exact ⟨hw, hpp, .inr rfl, fun h => absurd rfl h⟩
  | cons c r =>
    have hl := congrArg List.length hd
    simp only [List.length_drop, List.length_cons] at hl
    dsimp only
    by_cases hv : isVerb c = true
    · rw [if_pos hv]
      exact ⟨hw, hpp, .inl hv, fun _ => ⟨by dsimp only; omega, by dsimp only; omega⟩⟩
    · rw [if_neg hv]
      exact ⟨hw, hpp, .inr rfl, fun h => absurd rfl h⟩
theorem fmt_str {W : World} {B : Nat} {A : Option Addr} {L : List Nat} {c : Nat} (h : RB W B A L) (hA : A = none → L = []) :
    (convert 46 9 (.slice A L.length c)).run Tryd.prog W = .ok (.string (strN L)) W := by
  cases A with
  | none =>
    obtain rfl := hA rfl
    exact run_convert_bytes_nil (P := Tryd.prog) W 46 5 Tryd.underlying46 Tryd.underlying5 0 c 9 Tryd.underlying9
  | some ad =>
    have := run_convert_bytes_back (P := Tryd.prog) W 46 9 5 ad c (L.map UInt8.ofNat) Tryd.underlying46 Tryd.underlying5 Tryd.underlying9 (fun j hj => by
      rw [List.length_map] at hj
      obtain ⟨ad', e, _, hc⟩ := h.2 (by omega)
      simp only [Option.some.injEq] at e
      subst e
      rw [hc j hj, List.getElem_map, UInt8.toNat_ofNat', Nat.mod_eq_of_lt (show L[j] < 2 ^ 8 from h.1 _ (List.getElem_mem hj))])
    rw [List.length_map] at this
    exact this
theorem txt_full (L : List Nat) (h : 0 < L.length) : (strN L).toList.isEmpty = false := by
  rw [ByteArray.toList_eq, strN_data]
  cases L with
  | nil => simp at h
  | cons x l => rfl
theorem txb1' (W : World) (a : List Nat) (t : Nat) (ht : t = W.heap.size) : TxB (W.alloc (.cells #[.string (strN a)] 9)) t [a] := by subst ht; exact txb1 W a
/-- What stands below a maker is as it was, behind a call that touches the maker alone. -/
theorem MkS.low {W W' : World} {g B : Nat} {V : Value} {args : List ArgF} {bs : List Nat} (m : MkS W g B V args bs) {w : World} (hb : Below g w W) (u : Upd g V.ownBlock W W') : Below g w W' :=
  hb.trans (u.below (by have := m.lt; omega) (Nat.le_refl _) fun r e => by have := m.block r e; omega)
theorem makeF_nil (k : Nat) (hk : 0 < k) (r : List ArgF) (b : List Nat) : makeF k [] r b = .ok b := by
  cases k with
  | zero => omega
  | succ k => rfl
theorem makeF_text {k : Nat} {L T : List Nat} {n : Nat} {r : List ArgF} {b : List Nat} (h0 : L ≠ []) (hp : pieceF L = .inl (T, n)) : makeF (k + 1) L r b = match addF b T with | .error e => .error e | .ok b' => makeF k (L.drop n) r b' := by
  cases L with
  | nil => exact absurd rfl h0
  | cons c l => rw [makeF, hp]; rfl
theorem makeF_verb {k : Nat} {L : List Nat} {sp : SpecF} {r : List ArgF} {b : List Nat} (h0 : L ≠ []) (hp : pieceF L = .inr sp) : makeF (k + 1) L r b = match tellF sp r b with | .error e => .error e | .ok (b', r') => makeF k (L.drop sp.len) r' b' := by
  cases L with
  | nil => exact absurd rfl h0
  | cons c l => rw [makeF, hp]; rfl
/-- A piece is a text or begins with a verb's %. -/
def TextAt (P : List Nat) (j : Nat) (T : List Nat) (n : Nat) : Prop :=
  pieceF (P.drop j) = .inl (T, n) ∧ 0 < T.length ∧ 1 ≤ n ∧ j + n ≤ P.length ∧ (∀ x ∈ T, x < 256) ∧ T.length ≤ P.length + 2 ∧
    ∀ W, Calls Tryd.prog 18 #[.string (strN P), .int .i64 (j : Int)] W fun e w' => e = .returned (.tuple #[.string (strN T), .agg (nextC (j + n))]) ∧ Below W.heap.size W w'
def VerbAt (P : List Nat) (j : Nat) (l : List Nat) : Prop :=
  P.drop j = 37 :: l ∧ pieceF (P.drop j) = .inr (readL l) ∧
    ∀ W, Calls Tryd.prog 18 #[.string (strN P), .int .i64 (j : Int)] W fun e w' => e = .returned (.tuple #[.string { data := #[] }, .agg (specV j (readL l) (if (readL l).verb = 0 then 0 else j + (readL l).len))]) ∧ Below W.heap.size W w'
theorem piece_cases (P : List Nat) (hP : ∀ x ∈ P, x < 256) (hPl : P.length ≤ 1000000) (j : Nat) (hj : j < P.length) : (∃ T n, TextAt P j T n) ∨ ∃ l, VerbAt P j l := by
  have hdl : (P.drop j).length = P.length - j := List.length_drop ..
  by_cases h37 : (P.drop j).head? = some 37
  · obtain ⟨r, hr⟩ : ∃ r, P.drop j = 37 :: r := by
      cases hd : P.drop j with
      | nil => rw [hd] at h37; cases h37
      | cons x r => rw [hd] at h37; simp at h37; exact ⟨r, by rw [h37]⟩
    rw [hr, List.length_cons] at hdl
    by_cases h2 : r.head? = some 37
    · obtain ⟨r', hr'⟩ : ∃ r', r = 37 :: r' := by
        cases hd : r with
        | nil => rw [hd] at h2; cases h2
        | cons x r => rw [hd] at h2; simp at h2; exact ⟨r, by rw [h2]⟩
      have hl2 := congrArg List.length hr'
      rw [List.length_cons] at hl2
      refine .inl ⟨[37], 2, by rw [hr, hr']; rfl, by simp, by omega, by omega, by simp, by simp, fun W => ?_⟩
      refine (piece_verb P hP hPl j r hr W).mono fun e w' h => ?_
      rw [if_pos h2] at h
      exact h
    · refine .inr ⟨r, hr, ?_, fun W => ?_⟩
      · rw [hr]
        cases r with
        | nil => rfl
        | cons c r =>
          unfold pieceF
          split
          · rename_i h; injection h with _ h; injection h with h _; rw [h] at h2; exact absurd rfl h2
          · rename_i h; injection h with _ h; rw [h]
          · rename_i h3 h4; exact absurd rfl (h4 _)
      · refine (piece_verb P hP hPl j r hr W).mono fun e w' h => ?_
        rw [if_neg h2] at h
        exact h
  · have h1 : pieceF (P.drop j) = .inl ((P.drop j).takeWhile (· ≠ 37), ((P.drop j).takeWhile (· ≠ 37)).length) := by
      unfold pieceF
      split
      · rename_i h; rw [h] at h37; exact absurd rfl h37
      · rename_i h; rw [h] at h37; exact absurd rfl h37
      · rfl
    have hlen : ((P.drop j).takeWhile (· ≠ 37)).length ≤ P.length - j := by rw [← hdl]; exact (List.takeWhile_sublist _).length_le
    have hpos : 0 < ((P.drop j).takeWhile (· ≠ 37)).length := by
      cases hd : P.drop j with
      | nil => rw [hd] at hdl; simp at hdl; omega
      | cons c l =>
        rw [hd] at h37
        rw [List.takeWhile_cons, if_pos (by simpa using h37)]; simp
    refine .inl ⟨_, _, h1, hpos, hpos, by omega, fun x hx => hP x (List.mem_of_mem_drop ((List.takeWhile_sublist _).subset hx)), by omega, fun W => ?_⟩
    exact piece_plain P hP hPl j hj h37 W
theorem TzOk.lt {w : World} (h : TzOk w) : 8 < w.heap.size := by
  unfold TzOk Lib.TabIs World.var? at h
  rw [show Tryd.prog.globalNamed "math/bits.deBruijn64tab" = some 8 by kernel_rfl] at h
  simp only [Option.bind_some] at h
  rcases Nat.lt_or_ge 8 w.heap.size with hlt | hge
  · exact hlt
  · rw [Array.getElem?_eq_none hge] at h; cases h
/-- What Make leaves. -/
def MakePost (R : Except Int (List Nat)) (w : World) (e : Ending) (w' : World) : Prop :=
  ((∃ c, R = .error c) ∧ (∃ T u, e = .returned (.tuple #[.string { data := #[] }, .iface T u])) ∨ ∃ b, R = .ok b ∧ e = .returned (.tuple #[.string (strN b), .nilIface])) ∧ Below w.heap.size w w'
set_option maxRecDepth 100000 in
set_option maxHeartbeats 6400000 in
theorem make_any (P : List Nat) (hP : ∀ x ∈ P, x < 256) (hPl : P.length ≤ 1000000) (args : List ArgF) (A : Option Addr) (c B : Nat) (hok : ∀ a ∈ args, a.ok) (hc : args.length ≤ c) (w : World) (hr : Reads w B 5 A args.length (args.flatMap argC)) (hB : B ≤ w.heap.size) (ht : TzOk w) :
    Calls Tryd.prog 10 #[.string (strN P), .slice A args.length c] w (MakePost (makeF (P.length + 1) P args []) w) := by
  have h8 := ht.lt
  obtain ⟨R, hR⟩ : ∃ R, makeF (P.length + 1) P args [] = R := ⟨_, rfl⟩
  rw [hR]
  have HR := Lib.hid hR
  have HTZ := Lib.hid ht
  have m0 : MkS (w.alloc (.cells #[.slice A args.length c, .slice none 0 0] 58)) w.heap.size B (.slice none 0 0) args [] :=
    ⟨⟨A, c, Box2.make _ _ _ _ rfl, hr.alloc hB _, hc⟩, OB.nil _ _, hB, hok⟩
  have HM0 := Lib.hid m0
  have hsz := strN_size P
  clear hR ht m0 hr
  go_enter Tryd.func10, Tryd.ntmps10
  go_wp2_with fail
  go_loopw [7] (fun i wr => ∃ (j k : Nat) (V : Value) (r : List ArgF) (b : List Nat), i = .int .i64 (j : Int) ∧ j ≤ P.length ∧ P.length - j < k ∧ b.length ≤ 65536 ∧ Hid (MkS wr w.heap.size B V r b) ∧ Hid (makeF k (P.drop j) r b = R) ∧ Hid (Below w.heap.size w wr)) (fun i _ => P.length - (intOf i).toNat)
  case atStart => exact ⟨0, P.length + 1, _, args, [], rfl, by omega, by omega, by simp, HM0, HR, Lib.hid (by (repeat' (first | (with_reducible exact Below.refl _ _) | (refine Below.trans ?_ (Below.mono (by with_reducible assumption) ?_)) | (with_reducible exact Below.refl _ _) | (with_reducible refine below_drewN ?_ _) | (with_reducible refine Below.drew ?_) | (with_reducible refine Below.setCell ?_ ?_ _) | (with_reducible refine Below.alloc ?_ ?_ _) | (with_reducible assumption) | (simp; done) | (simp; omega) | omega)))⟩
  case round =>
    obtain ⟨j, k, V, r, b, rfl, hj, hk, hb, HM, HMK, HW⟩ := hrel
    by_cases hlt : j < P.length
    · obtain ⟨k', rfl⟩ : ∃ k', k = k' + 1 := ⟨k - 1, by omega⟩
      have hne : P.drop j ≠ [] := fun e => by have := congrArg List.length e; rw [List.length_drop, List.length_nil] at this; omega
      have hgz := HM.out.lt
      rcases piece_cases P hP hPl j hlt with ⟨T, n, hpc, hT0, hn1, hjn, hTb, hTl, hcall⟩ | ⟨l, hdr, hpc, hcall⟩
      · have hmk := HMK.out
        rw [makeF_text hne hpc] at hmk
        have HCL := Lib.hid hcall
        simp only [nextC, specC] at HCL
        have HTb := Lib.hid hTb
        have hsT := strN_size T
        have hTe := txt_full T hT0
        have hfl : (List.replicate 0 32 ++ [T].flatten) = T := by simp
        have HFL := Lib.hid hfl
        have HTS : Hid (∀ T' ∈ [T], ∀ c ∈ T', c < 256) := Lib.hid (by intro T' h c hc; rw [List.mem_singleton] at h; subst h; exact HTb.out c hc)
        have HTL : Hid ([T].flatten.length ≤ 1000000000) := Lib.hid (by simp; omega)
        clear hcall hpc hTb hne HMK hfl
        by_cases hov : 65536 < b.length + T.length
        · have HA := Lib.hid (fun (W : World) (t c : Nat) (m : MkS W w.heap.size B V r b) (htx : TxB W t [T]) (htg : t ≠ w.heap.size) => show Calls Tryd.prog 20 #[.pointer (some ⟨w.heap.size, 0, none⟩), .int .i64 0, .slice (some ⟨t, 0, none⟩) 1 c] W _ from madd_no (blanks := 0) (c := c) [T] HTS.out W m hb (by decide) HTL.out (by simp) htx htg (by rw [HFL.out]; exact hov))
          rw [addF, if_pos hov] at hmk
          have HMK := Lib.hid hmk
          clear hmk
          go_wp2_with (first
            | (go_at_call 18; (with_reducible refine (HCL.out _).mono ?_); rintro e w2 ⟨rfl, b2⟩; have HM2 := Lib.hid (HM.out.next b2); have HW2 := Lib.hid (HW.out.trans (b2.mono HW.out.size)); have z2 := b2.size; clear b2)
            | (go_at_call 20; (with_reducible refine (HA.out _ _ _ (HM2.out.next (((Below.refl _ _).alloc (Nat.le_refl _) _).alloc (by simp) _)) (txb1' _ _ _ (by simp)) (by omega)).mono ?_); rintro e w3 ⟨⟨T1, u1, rfl⟩, b3⟩)
            | fail)
          go_ret2
          exact ⟨.inl ⟨⟨13, HMK.out.symm⟩, _, _, rfl⟩, ((HW2.out.alloc (by omega) _).alloc (by simp; omega) _).trans (b3.mono (by simp; omega))⟩
        · have HA := Lib.hid (fun (W : World) (t c : Nat) (m : MkS W w.heap.size B V r b) (htx : TxB W t [T]) (htg : t ≠ w.heap.size) => show Calls Tryd.prog 20 #[.pointer (some ⟨w.heap.size, 0, none⟩), .int .i64 0, .slice (some ⟨t, 0, none⟩) 1 c] W (fun e w' => e = .returned .nilIface ∧ ∃ V', MkS w' w.heap.size B V' r (b ++ T) ∧ Upd w.heap.size V.ownBlock W w') from (by
            have h := madd_ok (blanks := 0) (c := c) [T] HTS.out W m hb (by decide) HTL.out (by simp) htx htg (by rw [HFL.out]; omega)
            rw [HFL.out] at h; exact h))
          rw [addF, if_neg hov] at hmk
          dsimp only at hmk
          rw [List.drop_drop] at hmk
          have HMK := Lib.hid hmk
          clear hmk
          go_wp2_with (first
            | (go_at_call 18; (with_reducible refine (HCL.out _).mono ?_); rintro e w2 ⟨rfl, b2⟩; have HM2 := Lib.hid (HM.out.next b2); have HW2 := Lib.hid (HW.out.trans (b2.mono HW.out.size)); have z2 := b2.size; clear b2)
            | (go_at_call 20; (with_reducible refine (HA.out _ _ _ (HM2.out.next (((Below.refl _ _).alloc (Nat.le_refl _) _).alloc (by simp) _)) (txb1' _ _ _ (by simp)) (by omega)).mono ?_); rintro e w3 ⟨rfl, V3, m3, u3⟩; have q10 : w3.cell? ⟨w2.heap.size, 10, none⟩ = some (.int .i64 ((j + n : Nat) : Int)) := (u3.cell (k := w2.heap.size) (j := 10) (by simp; omega) (by omega) (fun e => by have := HM.out.block _ e.symm; omega)).trans (by simp [go_sem]); have HM3 := Lib.hid m3; have HW3 := Lib.hid (MkS.low (HM2.out.next (((Below.refl _ _).alloc (Nat.le_refl _) _).alloc (by simp) _)) ((HW2.out.alloc (by omega) _).alloc (by simp; omega) _) u3); clear m3 u3)
            | fail)
          go_roundw
          case rel => exact ⟨j + n, k', V3, r, b ++ T, by go_num, hjn, by omega, by rw [List.length_append]; omega, HM3, HMK, HW3⟩
          case measure => simp [intOf]; omega
      · have hmk := HMK.out
        rw [makeF_verb hne hpc] at hmk
        have HCL := Lib.hid hcall
        simp only [specV, specC] at HCL
        obtain ⟨hwd, hpr, hvb, hln⟩ := readL_facts l
        have hll := congrArg List.length hdr
        rw [List.length_drop, List.length_cons] at hll
        clear hcall hpc hne HMK hdr
        cases htl : tellF (readL l) r b with
        | error cc =>
          rw [htl] at hmk
          dsimp only at hmk
          have HMK := Lib.hid hmk
          have HT := Lib.hid (fun (nx : Nat) (W : World) (m : MkS W w.heap.size B V r b) (ht : TzOk W) => tell_no j nx (readL l) hvb hwd hpr W m hb h8 ht htl)
          simp only [specV, specC] at HT
          clear hmk htl hln hpr hwd hvb
          generalize readL l = sp at HCL HT
          generalize (if sp.verb = 0 then 0 else j + sp.len) = nx at HCL
          go_wp2_with (first
            | (go_at_call 18; (with_reducible refine (HCL.out _).mono ?_); rintro e w2 ⟨rfl, b2⟩; have HM2 := Lib.hid (HM.out.next b2); have HW2 := Lib.hid (HW.out.trans (b2.mono HW.out.size)); have z2 := b2.size; clear b2)
            | (go_at_call 21; (with_reducible refine (HT.out _ _ (HM2.out.next ((Below.refl _ _).alloc (Nat.le_refl _) _)) (HTZ.out.below (HW2.out.alloc (by omega) _))).mono ?_); rintro e w3 ⟨⟨T1, u1, rfl⟩, u3⟩; have HW3 := Lib.hid (MkS.low (HM2.out.next ((Below.refl _ _).alloc (Nat.le_refl _) _)) (HW2.out.alloc (by omega) _) u3); clear u3)
            | fail)
          go_ret2
          exact ⟨.inl ⟨⟨_, HMK.out.symm⟩, _, _, rfl⟩, HW3.out⟩
        | ok p =>
          obtain ⟨b', r'⟩ := p
          obtain ⟨hb', hv0⟩ := tellF_len htl
          have hl2 := hln hv0
          rw [htl] at hmk
          dsimp only at hmk
          obtain ⟨nx, hnx⟩ : ∃ nx, nx = j + (readL l).len := ⟨_, rfl⟩
          rw [List.drop_drop, ← hnx] at hmk
          have HMK := Lib.hid hmk
          have HT := Lib.hid (fun (nx : Nat) (W : World) (m : MkS W w.heap.size B V r b) (ht : TzOk W) => tell_ok j nx (readL l) hvb hwd hpr W m hb h8 ht htl)
          simp only [specV, specC] at HT
          rw [if_neg hv0, ← hnx] at HCL
          have hnx1 : j < nx := by omega
          have hnx2 : nx ≤ P.length := by omega
          clear hmk htl hln hpr hwd hvb hv0 hnx hl2
          generalize readL l = sp at HCL HT
          go_wp2_with (first
            | (go_at_call 18; (with_reducible refine (HCL.out _).mono ?_); rintro e w2 ⟨rfl, b2⟩; have HM2 := Lib.hid (HM.out.next b2); have HW2 := Lib.hid (HW.out.trans (b2.mono HW.out.size)); have z2 := b2.size; clear b2)
            | (go_at_call 21; (with_reducible refine (HT.out _ _ (HM2.out.next ((Below.refl _ _).alloc (Nat.le_refl _) _)) (HTZ.out.below (HW2.out.alloc (by omega) _))).mono ?_); rintro e w3 ⟨rfl, V3, m3, u3⟩; have q10 : w3.cell? ⟨w2.heap.size, 10, none⟩ = some (.int .i64 (nx : Int)) := (u3.cell (k := w2.heap.size) (j := 10) (by simp) (by omega) (fun e => by have := HM.out.block _ e.symm; omega)).trans (by simp [go_sem]); have HM3 := Lib.hid m3; have HW3 := Lib.hid (MkS.low (HM2.out.next ((Below.refl _ _).alloc (Nat.le_refl _) _)) (HW2.out.alloc (by omega) _) u3); clear m3 u3)
            | fail)
          go_roundw
          case rel => exact ⟨nx, k', V3, r', b', by go_num, by omega, by omega, hb', HM3, HMK, HW3⟩
          case measure => simp [intOf]; omega
    · obtain rfl : j = P.length := by omega
      have hfin := HMK.out
      rw [List.drop_length, makeF_nil k (by omega)] at hfin
      obtain ⟨A1, c1, hV, hc1, hrb, hA1⟩ := HM.out.own.slice
      obtain ⟨A2, c2, bx, _, _⟩ := HM.out.box
      have k1 := bx.c1
      rw [hV] at k1
      have hcv := fmt_str (c := c1) hrb (fun e => (hA1 e).1)
      have HF := Lib.hid hfin
      clear hV hrb bx hfin
      go_wp2_with fail
      go_ret2
      exact ⟨.inr ⟨b, HF.out.symm, rfl⟩, by exact HW.out⟩
end Go.Proofs.YtpkooogfefkcdaaDoor

/- Layer 8: format.Args at any pattern. -/
namespace Go.Proofs.YtpkooogfefkcdaaDoor
open Go.RowKit
/-- How many arguments a pattern takes; none: it is no right pattern. -/
def argsF : Nat → List Nat → Option Nat
  | 0, _ => some 0
  | _ + 1, [] => some 0
  | k + 1, c :: l => match pieceF (c :: l) with
    | .inl x => argsF k ((c :: l).drop x.2)
    | .inr sp => if sp.verb = 0 then none else (argsF k ((c :: l).drop sp.len)).map fun n => 1 + (if sp.sw then 1 else 0) + (if sp.sp then 1 else 0) + n
theorem argsF_nil (k : Nat) : argsF k [] = some 0 := by cases k <;> rfl
theorem argsF_text {k : Nat} {L T : List Nat} {n : Nat} (h0 : L ≠ []) (hp : pieceF L = .inl (T, n)) : argsF (k + 1) L = argsF k (L.drop n) := by
  cases L with
  | nil => exact absurd rfl h0
  | cons c l => rw [argsF, hp]
theorem argsF_verb {k : Nat} {L : List Nat} {sp : SpecF} (h0 : L ≠ []) (hp : pieceF L = .inr sp) : argsF (k + 1) L = if sp.verb = 0 then none else (argsF k (L.drop sp.len)).map fun n => 1 + (if sp.sw then 1 else 0) + (if sp.sp then 1 else 0) + n := by
  cases L with
  | nil => exact absurd rfl h0
  | cons c l => rw [argsF, hp]
/-- What Args leaves. -/
def ArgsPost (R : Option Nat) (w : World) (e : Ending) (w' : World) : Prop :=
  (R = none ∧ (∃ T u, e = .returned (.tuple #[.int .i64 0, .iface T u])) ∨ ∃ n : Nat, R = some n ∧ e = .returned (.tuple #[.int .i64 (n : Int), .nilIface])) ∧ Below w.heap.size w w'
set_option maxRecDepth 100000 in
set_option maxHeartbeats 6400000 in
theorem args_any (P : List Nat) (hP : ∀ x ∈ P, x < 256) (hPl : P.length ≤ 1000000) (w : World) :
    Calls Tryd.prog 9 #[.string (strN P)] w (ArgsPost (argsF (P.length + 1) P) w) := by
  obtain ⟨R, hR⟩ : ∃ R, argsF (P.length + 1) P = R := ⟨_, rfl⟩
  rw [hR]
  have HR := Lib.hid (show (argsF (P.length + 1) (P.drop 0)).map (fun n => 0 + n) = R by rw [List.drop_zero, hR]; cases R <;> simp)
  have hsz := strN_size P
  clear hR
  go_enter Tryd.func9, Tryd.ntmps9
  go_wp2_with fail
  go_loopw [4, 5] (fun cv i wr => ∃ (j k c : Nat), cv = .int .i64 (c : Int) ∧ i = .int .i64 (j : Int) ∧ j ≤ P.length ∧ P.length - j < k ∧ c ≤ 3 * j ∧ Hid ((argsF k (P.drop j)).map (fun n => c + n) = R) ∧ Hid (Below w.heap.size w wr)) (fun _ i _ => P.length - (intOf i).toNat)
  case atStart => exact ⟨0, P.length + 1, 0, by go_num, by go_num, by omega, by omega, by omega, HR, Lib.hid (by (repeat' (first | (with_reducible exact Below.refl _ _) | (refine Below.trans ?_ (Below.mono (by with_reducible assumption) ?_)) | (with_reducible exact Below.refl _ _) | (with_reducible refine below_drewN ?_ _) | (with_reducible refine Below.drew ?_) | (with_reducible refine Below.setCell ?_ ?_ _) | (with_reducible refine Below.alloc ?_ ?_ _) | (with_reducible assumption) | (simp; done) | (simp; omega) | omega)))⟩
  case round =>
    obtain ⟨j, k, c, rfl, rfl, hj, hk, hc, HMK, HW⟩ := hrel
    by_cases hlt : j < P.length
    · obtain ⟨k', rfl⟩ : ∃ k', k = k' + 1 := ⟨k - 1, by omega⟩
      have hne : P.drop j ≠ [] := fun e => by have := congrArg List.length e; rw [List.length_drop, List.length_nil] at this; omega
      rcases piece_cases P hP hPl j hlt with ⟨T, n, hpc, hT0, hn1, hjn, hTb, hTl, hcall⟩ | ⟨l, hdr, hpc, hcall⟩
      · have hmk := HMK.out
        rw [argsF_text hne hpc, List.drop_drop] at hmk
        have HMK := Lib.hid hmk
        have HCL := Lib.hid hcall
        simp only [nextC, specC] at HCL
        have hTe := txt_full T hT0
        clear hcall hpc hTb hne hmk
        go_wp2_with (first
          | (go_at_call 18; (with_reducible refine (HCL.out _).mono ?_); rintro e w2 ⟨rfl, b2⟩; have HW2 := Lib.hid (below_step HW.out b2); have z2 := b2.size; clear b2)
          | fail)
        go_roundw
        case rel => exact ⟨j + n, k', c, by go_num, by go_num, by omega, by omega, by omega, HMK, Lib.hid (HW2.out.alloc (by have := HW2.out.size; omega) _)⟩
        case measure => simp [intOf]; omega
      · have hmk := HMK.out
        rw [argsF_verb hne hpc] at hmk
        have HCL := Lib.hid hcall
        simp only [specV, specC] at HCL
        obtain ⟨hwd, hpr, hvb, hln⟩ := readL_facts l
        have hll := congrArg List.length hdr
        rw [List.length_drop, List.length_cons] at hll
        clear hcall hpc hne HMK hdr hwd hpr
        by_cases hv0 : (readL l).verb = 0
        · rw [if_pos hv0] at hmk HCL
          rw [hv0] at HCL
          have HMK := Lib.hid hmk
          have HFA := Lib.hid (fun (W : World) => fault_any j 0 (readL l) W)
          simp only [specV, specC, hv0, show ((0 : Nat) : Int) = 0 from rfl] at HFA HCL
          clear hmk hvb hln hv0
          generalize readL l = sp at HCL HFA
          go_wp2_with (first
            | (go_at_call 18; (with_reducible refine (HCL.out _).mono ?_); rintro e w2 ⟨rfl, b2⟩; have HW2 := Lib.hid (below_step HW.out b2); have z2 := b2.size; clear b2)
            | (go_at_call 19; (with_reducible refine (HFA.out _).mono ?_); rintro e w3 ⟨⟨T, u, rfl⟩, b3⟩; have HW3 := Lib.hid ((HW2.out.alloc (by have := HW2.out.size; omega) _).trans (b3.mono (by have := HW2.out.size; simp; omega))); clear b3)
            | fail)
          go_ret2
          exact ⟨.inl ⟨HMK.out.symm, T, u, rfl⟩, by exact HW3.out⟩
        · rw [if_neg hv0] at hmk HCL
          obtain ⟨l1, l2⟩ := hln hv0
          have HMK := Lib.hid hmk
          have hv0' : (((readL l).verb : Int) == 0) = false := by simpa using hv0
          generalize readL l = sp at *
          clear hmk hvb hln hv0
          obtain ⟨fl, wd, pr, sw, sp', vb, ln⟩ := sp
          dsimp only at *
          obtain ⟨d, hd⟩ : ∃ d, 1 + (if sw then 1 else 0) + (if sp' then 1 else 0) = d := ⟨_, rfl⟩
          have hmk := HMK.out
          rw [hd, List.drop_drop, Option.map_map] at hmk
          have HMQ : Hid ((argsF k' (P.drop (j + ln))).map (fun n => (c + d) + n) = R) := Lib.hid (by
            rw [← hmk]
            congr 1
            funext n
            simp only [Function.comp]
            omega)
          have hd3 : 1 ≤ d ∧ d ≤ 3 := by subst hd; split <;> split <;> omega
          clear HMK hmk
          cases sw <;> cases sp'
          all_goals
            simp only [if_true, if_false, Bool.false_eq_true, Nat.add_zero, Nat.reduceAdd] at hd
            subst hd
            go_wp2_with (first
              | (go_at_call 18; (with_reducible refine (HCL.out _).mono ?_); rintro e w2 ⟨rfl, b2⟩; have HW2 := Lib.hid (below_step HW.out b2); have z2 := b2.size; clear b2)
              | fail)
            go_roundw
            case rel => exact ⟨j + ln, k', _, by go_num, by go_num, by omega, by omega, by omega, HMQ, Lib.hid (HW2.out.alloc (by have := HW2.out.size; omega) _)⟩
            case measure => simp [intOf]; omega
    · obtain rfl : j = P.length := by omega
      have hfin := HMK.out
      rw [List.drop_length, argsF_nil] at hfin
      have HF := Lib.hid hfin
      clear hfin
      go_wp2_with fail
      go_ret2
      exact ⟨.inr ⟨c, HF.out.symm, by go_num⟩, by exact HW.out⟩
end Go.Proofs.YtpkooogfefkcdaaDoor

/- Layer 8: Make of arguments that are laid at once; what the laws take for granted (awake). -/
namespace Go.Proofs.YtpkooogfefkcdaaDoor
open Go.RowKit
def numA (z : Int) (num : Bool) : ArgF := ⟨[], zn z, zh z, zl z, num, some z⟩
def strA (s : List Nat) : ArgF := ⟨s, false, 0, 0, false, some 0⟩
theorem numA_ok {z : Int} (h : z.natAbs < LIM) (num : Bool) : (numA z num).ok :=
  ⟨by simp [numA], by simp [numA], (IsD.of h).1, (IsD.of h).2.1, fun h => by simp [numA] at h, fun z' e => by
    injection e with e; subst e; exact IsD.of h⟩
theorem strA_ok {s : List Nat} (h : ∀ x ∈ s, x < 256) (hl : s.length ≤ 1000000) : (strA s).ok :=
  ⟨h, hl, Wd.zero, Wd.zero, fun h => by simp [strA] at h, fun z' e => by
    injection e with e; subst e; exact ⟨Wd.zero, Wd.zero, rfl, rfl, by decide⟩⟩
theorem reads_lit (W : World) (args : List ArgF) (t : TypeId) (f : Nat × Nat) : Reads (W.alloc (.cells (args.flatMap argC).toArray t f)) (W.heap.size + 1) 5 (some ⟨W.heap.size, 0, none⟩) args.length (args.flatMap argC) := by
  refine ⟨?_, fun _ => ⟨_, rfl, by show W.heap.size < _; omega, fun j u hu => ?_⟩⟩
  · induction args with
    | nil => rfl
    | cons a r ih => rw [List.flatMap_cons, List.length_append, ih, List.length_cons]; show 5 + _ = _; omega
  · have : (⟨W.heap.size, 0, none⟩ : Addr).add j = ⟨W.heap.size, j, none⟩ := by unfold Addr.add; split <;> simp_all
    rw [this, World.cell?_alloc_mark]
    simpa using hu
/-- Make of arguments laid in a new block, where it tells b. -/
theorem make_ok {P b : List Nat} {args : List ArgF} (hP : ∀ x ∈ P, x < 256) (hPl : P.length ≤ 1000000) (hok : ∀ a ∈ args, a.ok) (hR : makeF (P.length + 1) P args [] = .ok b) {S T : ByteArray} (hS : strN P = S) (hT : strN b = T) {cs : Array Value} (hcs : (args.flatMap argC).toArray = cs) {n : Nat} (hn : args.length = n) (f : Nat × Nat) (W : World) (ht : TzOk W) :
    Calls Tryd.prog 10 #[.string S, .slice (some ⟨W.heap.size, 0, none⟩) n n] (W.alloc (.cells cs 37 f)) fun e w' => e = .returned (.tuple #[.string T, .nilIface]) ∧ Below W.heap.size W w' := by
  subst hS hT hcs hn
  have q1 : Below W.heap.size W (W.alloc (.cells (args.flatMap argC).toArray 37 f)) := (Below.refl _ _).alloc (Nat.le_refl _) _
  refine (make_any P hP hPl args (some ⟨W.heap.size, 0, none⟩) args.length (W.heap.size + 1) hok (Nat.le_refl _) _ (reads_lit W args _ f) (by simp) (ht.below q1)).mono fun e w' h => ?_
  obtain ⟨⟨⟨c, h⟩, _⟩ | ⟨b', h, he⟩, hb⟩ := h
  · rw [hR] at h; cases h
  · rw [hR] at h
    injection h with h; subst h
    exact ⟨he, q1.trans (hb.mono (by simp))⟩
/-- Make of no arguments. -/
theorem make_nil {P b : List Nat} (hP : ∀ x ∈ P, x < 256) (hPl : P.length ≤ 1000000) (hR : makeF (P.length + 1) P [] [] = .ok b) {S T : ByteArray} (hS : strN P = S) (hT : strN b = T) (W : World) (ht : TzOk W) :
    Calls Tryd.prog 10 #[.string S, .slice none 0 0] W fun e w' => e = .returned (.tuple #[.string T, .nilIface]) ∧ Below W.heap.size W w' := by
  subst hS hT
  refine (make_any P hP hPl [] none 0 0 (fun a h => by cases h) (Nat.le_refl _) W Reads.none_ (Nat.zero_le _) ht).mono fun e w' h => ?_
  obtain ⟨⟨⟨c, h⟩, _⟩ | ⟨b', h, he⟩, hb⟩ := h
  · rw [hR] at h; cases h
  · rw [hR] at h
    injection h with h; subst h
    exact ⟨he, hb⟩
theorem awake8_make : makeF 16 [37, 48, 53, 46, 49, 102, 124, 37, 45, 52, 115, 124, 37, 43, 100] [numA (-3250000) false, strA [97, 98], numA (7 * 1000000) false] [] = .ok [45, 48, 51, 46, 50, 124, 97, 98, 32, 32, 124, 43, 55] := by kernel_rfl
theorem awake8_args : argsF 10 [37, 42, 100, 37, 37, 37, 115] = some 3 := by kernel_rfl
set_option maxRecDepth 100000 in
set_option maxHeartbeats 1600000 in
theorem awake8_any (w : World) (ht : TzOk w) : Calls Tryd.prog 7 #[] w fun e w' => e = .returned (.bool true) ∧ Below w.heap.size w w' := by
  have HT := Lib.hid ht
  have hm := fun (W : World) (h : TzOk W) => make_ok (P := [37, 48, 53, 46, 49, 102, 124, 37, 45, 52, 115, 124, 37, 43, 100]) (by decide) (by decide) (args := [numA (-3250000) false, strA [97, 98], numA (7 * 1000000) false]) (by
    intro a ha
    simp only [List.mem_cons, List.not_mem_nil, or_false] at ha
    rcases ha with rfl | rfl | rfl
    · exact numA_ok (by decide) _
    · exact strA_ok (by decide) (by decide)
    · exact numA_ok (by decide) _) awake8_make (S := { data := #[37, 48, 53, 46, 49, 102, 124, 37, 45, 52, 115, 124, 37, 43, 100] }) rfl (T := { data := #[45, 48, 51, 46, 50, 124, 97, 98, 32, 32, 124, 43, 55] }) rfl (cs := #[.string { data := #[] }, .bool true, .int .u64 0, .int .u64 3250000, .bool false, .string { data := #[97, 98] }, .bool false, .int .u64 0, .int .u64 0, .bool false, .string { data := #[] }, .bool (zn 7000000), .int .u64 (zh 7000000), .int .u64 (zl 7000000), .bool false]) (by kernel_rfl) (n := 3) rfl (0, 0) W h
  have ha := fun (W : World) => (args_any [37, 42, 100, 37, 37, 37, 115] (by decide) (by decide) W).mono fun e w' (h : ArgsPost (argsF 8 [37, 42, 100, 37, 37, 37, 115]) W e w') => show e = .returned (.tuple #[.int .i64 3, .nilIface]) ∧ Below W.heap.size W w' from by
    rw [show argsF 8 [37, 42, 100, 37, 37, 37, 115] = some 3 by kernel_rfl] at h
    obtain ⟨⟨h, _⟩ | ⟨n, h, he⟩, hb⟩ := h
    · cases h
    · injection h with h; subst h
      exact ⟨he, hb⟩
  have HM := Lib.hid hm
  have HA : Hid (∀ W, Calls Tryd.prog 9 #[.string { data := #[37, 42, 100, 37, 37, 37, 115] }] W fun e w' => e = .returned (.tuple #[.int .i64 3, .nilIface]) ∧ Below W.heap.size W w') := Lib.hid ha
  clear hm ha ht
  go_enter Tryd.func7, Tryd.ntmps7
  go_wp2_with (first
    | (go_at_call 11; (with_reducible refine (int_any 7 (by decide) (by decide) _).mono ?_); rintro e w1 ⟨rfl, b1⟩; have HB1 := Lib.hid b1; have HT1 := Lib.hid (HT.out.below b1); clear b1)
    | (go_at_call 10; (with_reducible refine (HM.out _ HT1.out).mono ?_); rintro e w2 ⟨rfl, b2⟩; have HB2 := Lib.hid (below_step HB1.out b2); clear b2)
    | (go_at_call 9; (with_reducible refine (HA.out _).mono ?_); rintro e w3 ⟨rfl, b3⟩; have HB3 := Lib.hid (below_step HB2.out b3); clear b3)
    | fail)
  go_ret
  exact ⟨rfl, HB3.out⟩
end Go.Proofs.YtpkooogfefkcdaaDoor

/- How what came in as an argument is opened: numbers, bytes. -/
namespace Go.Proofs.YtpkooogfefkcdaaDoor
open Go.ChangeShapes Go.WideShapes Go.ChangeAt Go.RowKit Go.Joins
theorem cellsDec : Tryd.prog.cellsOf 34 = 3 := by kernel_rfl
theorem wd_of {n : Int} (h : (Lit.int .u64 n).wf = true) : Wd n := by
  simp [Lit.wf, IntKind.min, IntKind.max, IntKind.signed, IntKind.bits] at h
  exact ⟨h.1, by omega⟩
theorem byte_range {n : Int} (h : (Lit.int .u8 n).wf = true) : 0 ≤ n ∧ n < 256 := by
  simp [Lit.wf, IntKind.min, IntKind.max, IntKind.signed, IntKind.bits] at h
  exact ⟨h.1, by omega⟩
theorem int64_range {n : Int} (h : (Lit.int .i64 n).wf = true) : -9223372036854775808 ≤ n ∧ n < 9223372036854775808 := by
  simp [Lit.wf, IntKind.min, IntKind.max, IntKind.signed, IntKind.bits] at h
  exact ⟨h.1, by omega⟩
set_option maxRecDepth 100000 in
theorem dec_form {H : Type} {enc : TypeId × Value → H} {w : World} {base : Nat} {spare : Nat → Bool} {held : Bool} {r : Reach} {b0 : Nat} {v : Value} {d : DataW H} {p : List MemPlace}
    (hv : Value.okWide Tryd.prog w r b0 34 v) (h : DataW.Trod enc Tryd.prog w base spare held 34 v d p) :
    ∃ (n : Bool) (hi lo : Int), v = .agg #[.bool n, .int .u64 hi, .int .u64 lo] ∧ Wd hi ∧ Wd lo := by
  obtain ⟨v0, v1, v2, y0, y1, y2, m, rfl, _, _, h0, h1, h2⟩ := open_agg3 Tryd.underlying34 (by kernel_rfl) cellsDec hv h
  obtain ⟨a, e0, _⟩ := DataW.trod_bool Tryd.underlying4 h0
  obtain ⟨b, e1, _, wb⟩ := DataW.trod_int Tryd.underlying32 h1
  obtain ⟨c, e2, _, wc⟩ := DataW.trod_int Tryd.underlying32 h2
  simp at e0 e1 e2
  subst e0 e1 e2
  exact ⟨a, b, c, rfl, wd_of wb, wd_of wc⟩
set_option maxRecDepth 100000 in
theorem bytes_form {H : Type} {enc : TypeId × Value → H} {w : World} {base : Nat} {spare : Nat → Bool} {held : Bool} {r : Reach} {b0 : Nat} {v : Value} {d : DataW H} {p : List MemPlace}
    (hv : Value.okWide Tryd.prog w r b0 46 v) (h : DataW.Trod enc Tryd.prog w base spare held 46 v d p) :
    ∃ (A : Option Addr) (c : Nat) (bs : List Nat), v = .slice A bs.length c ∧ RB w w.heap.size A bs ∧ bs.length ≤ c ∧ (A = none → bs = [] ∧ c = 0) := by
  obtain ⟨a, len, cap, rfl⟩ := okWide_slice Tryd.underlying46 hv
  obtain ⟨fuel, hf⟩ := h
  rcases open_ints Tryd.underlying46 Tryd.underlying5 (by kernel_rfl) hf with ⟨hcs, _⟩ | ⟨x, l, c, zs, hcs, _, hl, hm, hz, _, hcell, hwz⟩
  · simp [Value.cells] at hcs
    obtain ⟨rfl, rfl, rfl⟩ := hcs
    exact ⟨none, 0, [], rfl, RB.nil, by simp, fun _ => ⟨rfl, rfl⟩⟩
  · simp [Value.cells] at hcs
    obtain ⟨rfl, rfl, rfl⟩ := hcs
    have hzl : len ≤ zs.length := by rw [hz]; split <;> omega
    have hb : ∀ n ∈ zs, 0 ≤ n ∧ n < 256 := fun n hn => byte_range (hwz n hn)
    have hlen : ((zs.take len).map Int.toNat).length = len := by rw [List.length_map, List.length_take]; omega
    refine ⟨some x, cap, (zs.take len).map Int.toNat, by rw [hlen], ⟨?_, ?_⟩, by rw [hlen]; exact hl, fun e => by cases e⟩
    · intro y hy
      obtain ⟨n, hn, rfl⟩ := List.mem_map.1 hy
      have := hb n (List.mem_of_mem_take hn)
      omega
    · intro h0
      rw [hlen] at h0
      refine ⟨x, rfl, ?_, ?_⟩
      · have := World.block_lt_of_cell? w (x.add 0) (hcell 0 (by omega))
        rw [block_of_add] at this; exact this
      · intro j hj
        rw [hlen] at hj
        rw [hcell j (by omega)]
        have hjz : j < zs.length := by omega
        have := hb zs[j] (List.getElem_mem hjz)
        rw [List.getElem_map, List.getElem_take, List.getD_eq_getElem?_getD, List.getElem?_eq_getElem hjz]
        simp only [Option.getD_some]
        rw [Int.toNat_of_nonneg this.1]
end Go.Proofs.YtpkooogfefkcdaaDoor

/- What the laws of layer 8 take of memory: the tables that the library's variables hold. -/
namespace Go.Proofs.YtpkooogfefkcdaaDoor
open Go.ChangeShapes Go.WideShapes Go.ChangeAt Go.RowKit
def laid6 : List (String × DataW Unit) := [("math/bits.deBruijn32tab", Rows.laid_math_bits_deBruijn32tab), ("math/bits.deBruijn64tab", Rows.laid_math_bits_deBruijn64tab), ("internal/strconv.uint64pow10", Rows.laid_internal_strconv_uint64pow10), ("unicode/utf8.acceptRanges", Rows.laid_unicode_utf8_acceptRanges), ("unicode.CaseRanges", Rows.laid_unicode_CaseRanges), ("unicode/utf8.first", Rows.laid_unicode_utf8_first)]
theorem laid_tail6 {P : Program} {W : World} {x : String × DataW Unit} {rest : List (String × DataW Unit)} (h : laidMet P (x :: rest) W) : laidMet P rest W := by
  obtain ⟨ps, hv, hn, hb⟩ := h
  obtain ⟨g, t, cs, fuel, p, q, hg, ht, hvar, hd, hq, rfl⟩ := hv
  exact ⟨q, hq, (List.nodup_append.1 hn).2.1, fun b off hm => hb b off (List.mem_append_right _ hm)⟩
theorem tz_ok {W : World} (h : laidMetH Tryd.prog laid6 W) : TzOk W := by
  rw [MakeChecks.laidMetH_plain _ _ _ (by kernel_rfl)] at h
  have h2 : laidMet Tryd.prog (("math/bits.deBruijn64tab", Lib.tabData .u8 bruijnT) :: _) W := laid_tail6 h
  exact Lib.tabIs_of_head (g := 8) (by kernel_rfl) (t := 152) (by kernel_rfl) Tryd.underlying152 Tryd.underlying5 (by kernel_rfl) (by kernel_rfl) h2
/-- A world in which they hold what they are laid with. -/
noncomputable def laidWorld6 (os : Os) : World := World.laidAll Tryd.prog os laid6
theorem laid_met6 (os : Os) (args : Array Value) : laidMetH Tryd.prog laid6 ((laidWorld6 os).forCall (fun _ _ => 0) ⟨#[], args, []⟩).memory := by
  rw [MakeChecks.laidMetH_plain _ _ _ (by kernel_rfl)]; exact laidMet_laidAll _ (by kernel_rfl) (by kernel_rfl)
theorem shaped6 (os : Os) (args : Array Value) : ((laidWorld6 os).forCall (fun _ _ => 0) ⟨#[], args, []⟩).Shaped Tryd.prog := World.shaped_of_ZipB (by kernel_rfl) (by kernel_rfl)
end Go.Proofs.YtpkooogfefkcdaaDoor
