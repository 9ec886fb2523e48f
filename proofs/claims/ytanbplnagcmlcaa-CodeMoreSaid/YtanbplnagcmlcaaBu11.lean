/- Several texts put together: CodP, CodQ. -/
import Derived.Test.YtanbplnagcmlcaaBu9
import Derived.Test.YtanbplnagcmlcaaBu10
/- Layer 15: where any instruction goes on; what is plain about ways that lead on. -/
namespace Go.Proofs.Ytanbplnagcmlcaa
open Go.RowKit
theorem ways_any {w : World} {B g : Nat} {C : CodeV} {G L P J : Value} {row : Value × List InsV} {loc : Value × List VarV} (H : Gs w B g C G L P J row loc) {k : Nat} {x : InsV} (hx : row.2[k]? = some x) (cells each : Int) (c0 : 0 ≤ cells) (c1 : cells ≤ 1000) (e0 : 0 ≤ each) (e1 : each ≤ 1000) :
    Calls Try.prog 13 #[.pointer (some ⟨g, 0, none⟩), .int .i64 (k : Int), .agg #[.int .i64 cells, .int .i64 each]] w (WaysPost (waysOf (pNms C) (mineV loc) (pIns x) k cells each) w) := by
  have hop : (pIns x).op = x.op := rfl
  have hb : (pIns x).b = x.b := rfl
  cases hc : countsOf (pNms C) (mineV loc) (pIns x) with
  | none =>
    rw [show waysOf (pNms C) (mineV loc) (pIns x) k cells each = none from by unfold waysOf; rw [hc]]
    exact ways_none H hx cells each hc
  | some tp =>
    obtain ⟨t, p⟩ := tp
    obtain ⟨t0, p0, p2⟩ := counts_low t p hc
    by_cases hlow : cells < t
    · rw [show waysOf (pNms C) (mineV loc) (pIns x) k cells each = none from by unfold waysOf; rw [hc]; exact if_pos hlow]
      exact ways_low H hx cells each hc hlow
    · have hw : waysOf (pNms C) (mineV loc) (pIns x) k cells each = if x.op = 25 ∨ x.op = 27 ∨ x.op = 26 then some []
          else if x.op = 21 then some [(x.b, cells - t + p, each)]
          else if x.op = 23 ∨ x.op = 22 then some [((k : Int) + 1, cells - t + p, each), (x.b, cells - t, each)]
          else if x.op = 34 then some [((k : Int) + 1, cells - t + p, each), (x.b, cells - t, each - 1)]
          else if x.op = 36 then some [((k : Int) + 1, cells - t + p, each), (x.b, cells - t + 1, each)]
          else if x.op = 33 then some [((k : Int) + 1, cells - t + p, each + 1)]
          else if x.op = 35 then some [((k : Int) + 1, cells - t + p, each - 1)]
          else some [((k : Int) + 1, cells - t + p, each)] := by unfold waysOf; rw [hc]; exact if_neg hlow
      rw [hw]
      by_cases o25 : x.op = 25
      · rw [if_pos (.inl o25)]; exact ways_25 H hx cells each hc hlow c0 c1 e0 e1 t0 p0 p2 o25
      by_cases o27 : x.op = 27
      · rw [if_pos (.inr (.inl o27))]; exact ways_27 H hx cells each hc hlow c0 c1 e0 e1 t0 p0 p2 o27
      by_cases o26 : x.op = 26
      · rw [if_pos (.inr (.inr o26))]; exact ways_26 H hx cells each hc hlow c0 c1 e0 e1 t0 p0 p2 o26
      rw [if_neg (by rintro (h | h | h) <;> contradiction)]
      by_cases o21 : x.op = 21
      · rw [if_pos o21]; exact ways_21 H hx cells each hc hlow c0 c1 e0 e1 t0 p0 p2 o21
      rw [if_neg o21]
      by_cases o23 : x.op = 23
      · rw [if_pos (.inl o23)]; exact ways_23 H hx cells each hc hlow c0 c1 e0 e1 t0 p0 p2 o23
      by_cases o22 : x.op = 22
      · rw [if_pos (.inr o22)]; exact ways_22 H hx cells each hc hlow c0 c1 e0 e1 t0 p0 p2 o22
      rw [if_neg (by rintro (h | h) <;> contradiction)]
      by_cases o34 : x.op = 34
      · rw [if_pos o34]; exact ways_34 H hx cells each hc hlow c0 c1 e0 e1 t0 p0 p2 o34
      rw [if_neg o34]
      by_cases o36 : x.op = 36
      · rw [if_pos o36]; exact ways_36 H hx cells each hc hlow c0 c1 e0 e1 t0 p0 p2 o36
      rw [if_neg o36]
      by_cases o33 : x.op = 33
      · rw [if_pos o33]; exact ways_33 H hx cells each hc hlow c0 c1 e0 e1 t0 p0 p2 o33
      rw [if_neg o33]
      by_cases o35 : x.op = 35
      · rw [if_pos o35]; exact ways_35 H hx cells each hc hlow c0 c1 e0 e1 t0 p0 p2 o35
      rw [if_neg o35]
      exact ways_rest H hx cells each hc hlow c0 c1 e0 e1 t0 p0 p2 (by simpa using o25) (by simpa using o27) (by simpa using o26) (by simpa using o21) (by simpa using o23) (by simpa using o22) (by simpa using o34) (by simpa using o36) (by simpa using o33) (by simpa using o35)
/-- How many instructions nothing has led to yet. -/
def unseen (l : List (Int × Int)) : Nat := l.countP (fun x => decide (x.1 < 0))
theorem unseen_set : ∀ (l : List (Int × Int)) (k : Nat) (h : k < l.length) (x : Int × Int), ¬ 0 ≤ l[k].1 → 0 ≤ x.1 → unseen (l.set k x) + 1 = unseen l
  | y :: l, 0, _, x, h1, h2 => by
    have h1' : y.1 < 0 := by simpa using h1
    have h2' : ¬ x.1 < 0 := by omega
    simp [unseen, List.countP_cons, h1', h2']
  | y :: l, k + 1, h, x, h1, h2 => by
    have ih := unseen_set l k (by simpa using h) x (by simpa using h1) h2
    unfold unseen at ih ⊢
    rw [List.set_cons_succ, List.countP_cons, List.countP_cons]
    omega
/-- So far as was gone: n instructions, f at most are still to be gone through. -/
structure Nice (n f : Nat) (st : Sn) : Prop where
  n : st.1.length = n
  t : ∀ k ∈ st.2, ∃ h, st.1[k]? = some h ∧ 0 ≤ h.1 ∧ h.1 ≤ 1000 ∧ 0 ≤ h.2 ∧ h.2 ≤ 1000
  f : unseen st.1 + st.2.length ≤ f
theorem lead_nice {n f : Nat} {st st' : Sn} {x : Int × Int × Int} (N : Nice n f st) (h : leadOf st x = some st') : Nice n f st' := by
  by_cases hin : 0 ≤ x.1 ∧ x.1 < st.1.length
  · obtain ⟨k, hk⟩ : ∃ k : Nat, x.1 = (k : Int) := ⟨x.1.toNat, by omega⟩
    have hk' : k < st.1.length := by omega
    by_cases hfar : 0 ≤ x.2.1 ∧ x.2.1 ≤ 1000 ∧ 0 ≤ x.2.2 ∧ x.2.2 ≤ 1000
    · rw [lead_in hk hk' hfar] at h
      split at h
      · split at h
        · injection h with h; subst h; exact N
        · cases h
      · rename_i hs
        injection h with h; subst h
        refine ⟨by rw [List.length_set]; exact N.n, ?_, ?_⟩
        · intro j hj
          by_cases e : j = k
          · subst e
            exact ⟨x.2, by rw [List.getElem?_set]; simp [hk'], hfar.1, hfar.2.1, hfar.2.2.1, hfar.2.2.2⟩
          · have : j ∈ st.2 := by
              rcases List.mem_cons.1 hj with h | h
              · exact absurd h e
              · exact h
            obtain ⟨y, hy, hr⟩ := N.t j this
            exact ⟨y, by rw [List.getElem?_set, if_neg (fun h => e h.symm)]; exact hy, hr⟩
        · have := unseen_set st.1 k hk' x.2 hs hfar.1
          have := N.f
          rw [List.length_cons]; dsimp only; omega
    · rw [lead_far hfar] at h; cases h
  · rw [lead_out hin] at h; cases h
theorem nice_pop {n f : Nat} {a : List (Int × Int)} {k : Nat} {rest : List Nat} (N : Nice n (f + 1) (a, k :: rest)) : Nice n f (a, rest) :=
  ⟨N.n, fun j hj => N.t j (List.mem_cons_of_mem _ hj), by have := N.f; rw [List.length_cons] at this; dsimp only at *; omega⟩
theorem unseen_new : ∀ (l : List InsV), unseen (l.map fun _ => ((-1, -1) : Int × Int)) = l.length
  | [] => rfl
  | x :: l => by
    have ih := unseen_new l
    unfold unseen at ih ⊢
    rw [List.map_cons, List.countP_cons, ih]; rfl
theorem nice_new (l : List InsV) : Nice l.length (l.length + 1) (l.map fun _ => (-1, -1), []) :=
  ⟨List.length_map _, (fun _ h => by cases h), (by rw [unseen_new]; simp)⟩
def goOn (C : CodeV) (loc : Value × List VarV) (row : Value × List InsV) (f : Nat) : Option Sn → Option (List (Int × Int))
  | none => none
  | some st => allOf (pNms C) (mineV loc) (row.2.map pIns) f st
theorem all_done {C : CodeV} {loc : Value × List VarV} {row : Value × List InsV} {f : Nat} {a : List (Int × Int)} : allOf (pNms C) (mineV loc) (row.2.map pIns) f (a, []) = some a := by
  cases f <;> simp [allOf]
theorem all_step {C : CodeV} {loc : Value × List VarV} {row : Value × List InsV} {f k : Nat} {a : List (Int × Int)} {rest : List Nat} {x : InsV} {h : Int × Int} (hx : row.2[k]? = some x) (hh : a[k]? = some h) :
    allOf (pNms C) (mineV loc) (row.2.map pIns) (f + 1) (a, k :: rest) = match waysOf (pNms C) (mineV loc) (pIns x) k h.1 h.2 with
      | none => none
      | some l => goOn C loc row f (leadsOf (a, rest) l) := by
  rw [allOf]
  dsimp only
  rw [List.getElem?_map, hx, hh]
  dsimp only [Option.map_some]
  cases waysOf (pNms C) (mineV loc) (pIns x) k h.1 h.2 with
  | none => rfl
  | some l =>
    dsimp only
    cases leadsOf (a, rest) l <;> rfl
theorem leads_step {st : Sn} {l : List (Int × Int × Int)} {j : Nat} {x : Int × Int × Int} (h : l[j]? = some x) : leadsOf st (l.drop j) = match leadOf st x with
    | none => none
    | some st' => leadsOf st' (l.drop (j + 1)) := by
  obtain ⟨hj, rfl⟩ := List.getElem?_eq_some_iff.1 h
  rw [List.drop_eq_getElem_cons hj]
  rfl
theorem way_at {w : World} {A : Option Addr} {l : List (Int × Int × Int)} (h : WaySl w A l) {j : Nat} (hj : j < l.length) :
    ∃ b q x, A = some ⟨b, 0, none⟩ ∧ (⟨b, 0, none⟩ : Addr).add (j * 3) = q ∧ q.block < w.heap.size ∧ l[j]? = some x ∧ w.cell? q = some (.int .i64 x.1) ∧ w.cell? ⟨q.block, q.off + 1, none⟩ = some (.int .i64 x.2.1) ∧ w.cell? ⟨q.block, q.off + 2, none⟩ = some (.int .i64 x.2.2) := by
  rcases h with ⟨_, rfl⟩ | ⟨b, rfl, hb⟩
  · simp at hj
  · have e1 : (⟨b, 0, none⟩ : Addr).add (j * 3) = ⟨b, j * 3, none⟩ := by unfold Addr.add; split <;> simp_all
    refine ⟨b, ⟨b, j * 3, none⟩, l[j], rfl, e1, hb.lt, List.getElem?_eq_getElem hj, ?_, ?_, ?_⟩
    all_goals
      rw [hb.cell]
      simp only [List.getElem?_toArray]
    · have := flat_at wayC 3 (fun _ => rfl) l j 0 hj (by omega)
      rw [Nat.add_zero] at this
      rw [this]; rfl
    · rw [flat_at wayC 3 (fun _ => rfl) l j 1 hj (by omega)]; rfl
    · rw [flat_at wayC 3 (fun _ => rfl) l j 2 hj (by omega)]; rfl
/-- The last one taken off. -/
theorem oi_pop {w : World} {base k n c : Nat} {A : Option Addr} {bs : List Nat} (h : OI w base (.slice A n c) (bs ++ [k])) : ∃ b, A = some ⟨b, 0, none⟩ ∧ n = bs.length + 1 ∧ base ≤ b ∧ b < w.heap.size ∧ n ≤ c ∧ c ≤ maxLen ∧ w.cell? ⟨b, bs.length, none⟩ = some (.int .i64 k) ∧ OI w base (.slice (some ⟨b, 0, none⟩) bs.length c) bs := by
  obtain ⟨h1, h2 | ⟨b, cap, cur, hv, hg, hh, hn, hm, hs, ht⟩⟩ := h
  · simp at h2
  · injection hv with e1 e2 e3
    subst e1 e2 e3
    rw [List.length_append, List.length_singleton] at hn ht
    refine ⟨b, rfl, by simp, hg, lt_of_block hh, by simpa using hn, hm, ?_, ⟨by simp, .inr ⟨b, c, cur, rfl, hg, hh, by omega, hm, hs, ?_⟩⟩⟩
    · rw [cell_of_row w b bs.length cur 3 (0, 0) hh]
      have : (cur.toList.take ((bs.length + 1) * 1))[bs.length]? = ((bs ++ [k]).map iv)[bs.length]? := by rw [ht]
      rw [List.getElem?_take, if_pos (by omega)] at this
      rw [List.map_append, List.getElem?_append_right (by simp)] at this
      simpa [iv] using this
    · have : (cur.toList.take ((bs.length + 1) * 1)).take (bs.length * 1) = ((bs ++ [k]).map iv).take (bs.length * 1) := by rw [ht]
      rw [List.take_take, Nat.min_eq_left (by omega)] at this
      rw [this]; simp
end Go.Proofs.Ytanbplnagcmlcaa

/- Layer 15: going through all instructions of a procedure. -/
namespace Go.Proofs.Ytanbplnagcmlcaa
open Go.RowKit
def AllPost (B B0 g : Nat) (C : CodeV) (G L P J : Value) (row : Value × List InsV) (loc : Value × List VarV) (res : Option (List (Int × Int))) (w : World) (e : Ending) (w' : World) : Prop :=
  Below B0 w w' ∧ (match res with
    | none => e = .returned (.bool false)
    | some l => e = .returned (.bool true) ∧ ∃ vs vt, St w' B B0 g C G L P J row loc vs vt (l, []))
theorem lead_no {w : World} {B B0 g : Nat} {C : CodeV} {G L P J : Value} {row : Value × List InsV} {loc : Value × List VarV} {vs vt : Value} {st : Sn} {n f : Nat} (H : St w B B0 g C G L P J row loc vs vt st) (N : Nice n f st) (hn : n = row.2.length) (hf : f < 1000000) (x : Int × Int × Int) (h : leadOf st x = none) :
    Calls Try.prog 12 #[.pointer (some ⟨g, 0, none⟩), .agg #[.int .i64 x.1, .int .i64 x.2.1, .int .i64 x.2.2]] w fun e w' => e = .returned (.bool false) ∧ Below B0 w w' := by
  refine (lead_any H (by rw [N.n, hn]) (by have := N.f; omega) x).mono ?_
  rintro e w' ⟨hb, hm⟩
  rw [h] at hm
  exact ⟨hm, hb⟩
theorem lead_yes {w : World} {B B0 g : Nat} {C : CodeV} {G L P J : Value} {row : Value × List InsV} {loc : Value × List VarV} {vs vt : Value} {st st' : Sn} {n f : Nat} (H : St w B B0 g C G L P J row loc vs vt st) (N : Nice n f st) (hn : n = row.2.length) (hf : f < 1000000) (x : Int × Int × Int) (h : leadOf st x = some st') :
    Calls Try.prog 12 #[.pointer (some ⟨g, 0, none⟩), .agg #[.int .i64 x.1, .int .i64 x.2.1, .int .i64 x.2.2]] w fun e w' => e = .returned (.bool true) ∧ Below B0 w w' ∧ (∃ vs vt, St w' B B0 g C G L P J row loc vs vt st') ∧ (∀ A l, WaySl w A l → WaySl w' A l) ∧ w.heap.size ≤ w'.heap.size := by
  refine (lead_any H (by rw [N.n, hn]) (by have := N.f; omega) x).mono ?_
  rintro e w' ⟨hb, hm⟩
  rw [h] at hm
  obtain ⟨he, hst, hk, hz⟩ := hm
  refine ⟨he, hb, hst, fun A l hA => ?_, hz⟩
  rcases hA with ⟨h1, h2⟩ | ⟨b, h1, h2⟩
  · exact .inl ⟨h1, h2⟩
  · exact .inr ⟨b, h1, hk b _ h2⟩
theorem WaySl.below {w w' : World} {A : Option Addr} {l : List (Int × Int × Int)} (h : WaySl w A l) (q : Below w.heap.size w w') : WaySl w' A l := by
  rcases h with ⟨h1, h2⟩ | ⟨b, h1, h2⟩
  · exact .inl ⟨h1, h2⟩
  · exact .inr ⟨b, h1, h2.below q h2.lt⟩
theorem St.B0 {w : World} {B B0 g : Nat} {C : CodeV} {G L P J : Value} {row : Value × List InsV} {loc : Value × List VarV} {vs vt : Value} {st : Sn} (h : St w B B0 g C G L P J row loc vs vt st) : B0 ≤ w.heap.size := by have := h.hg; have := h.blk.lt; omega
theorem ways_len {g : Nms} {mine : List Bool} {x : Ins} {k c e : Int} {l : List (Int × Int × Int)} (h : waysOf g mine x k c e = some l) : l.length ≤ 2 := by
  unfold waysOf at h
  split at h
  · cases h
  · repeat' split at h
    all_goals first | (cases h; done) | (injection h with h; subst h; simp)
theorem way_at2 {w : World} {A : Option Addr} {l : List (Int × Int × Int)} (h : WaySl w A l) {j : Nat} (hj : j < l.length) :
    ∃ b x, A = some ⟨b, 0, none⟩ ∧ b < w.heap.size ∧ l[j]? = some x ∧ w.cell? ⟨b, j * 3, none⟩ = some (.int .i64 x.1) ∧ w.cell? ⟨b, j * 3 + 1, none⟩ = some (.int .i64 x.2.1) ∧ w.cell? ⟨b, j * 3 + 2, none⟩ = some (.int .i64 x.2.2) := by
  obtain ⟨b, q, x, e, hq, hz, hx, q0, q1, q2⟩ := way_at h hj
  have e1 : (⟨b, 0, none⟩ : Addr).add (j * 3) = ⟨b, j * 3, none⟩ := by unfold Addr.add; split <;> simp_all
  rw [e1] at hq
  subst hq
  exact ⟨b, x, e, hz, hx, q0, q1, q2⟩
/-- The last of what is to be done taken off. -/
theorem St.pop {w w' : World} {B B0 g : Nat} {C : CodeV} {G L P J : Value} {row : Value × List InsV} {loc : Value × List VarV} {vs vt v' : Value} {a : List (Int × Int)} {k : Nat} {rest : List Nat} (h : St w B B0 g C G L P J row loc vs vt (a, k :: rest)) (q : Below w.heap.size w w') (ht : OI w B0 v' rest.reverse) :
    St (w'.setCell ⟨g, 7, none⟩ v') B B0 g C G L P J row loc vs v' (a, rest) := by
  have hB := h.hB
  have hg := h.hg
  have h2 := h.below q
  have hq : Below B w (w'.setCell ⟨g, 7, none⟩ v') := (q.mono (by have := h.B0; omega)).setCell (by show B ≤ g; omega) _
  refine ⟨h.ok.below hq, h.rok.below hq, h.lok.below hq, ?_, ?_, ?_, hB, hg⟩
  · have := h2.blk.set_ 7 v'
    simpa using this
  · exact ownsRow_setCell_other h2.sn (own_blk_ne h2.sn h2.blk (by decide)) _
  · exact ownsRow_setCell_other (ownsRow_below ht q) (own_blk_ne ht h.blk (by decide)) _
set_option maxRecDepth 100000 in
set_option maxHeartbeats 1600000 in
theorem all_any {w : World} {B B0 g : Nat} {C : CodeV} {G L P J : Value} {row : Value × List InsV} {loc : Value × List VarV} {vs vt : Value} (H : St w B B0 g C G L P J row loc vs vt (row.2.map fun _ => (-1, -1), [])) (hrow : row.2.length < 900000) (res : Option (List (Int × Int))) (hres : goOn C loc row (row.2.length + 1) (leadOf (row.2.map fun _ => (-1, -1), []) (0, 0, 0)) = res) :
    Calls Try.prog 10 #[.pointer (some ⟨g, 0, none⟩)] w (AllPost B B0 g C G L P J row loc res w) := by
  have hN := nice_new row.2
  generalize hq : leadOf (row.2.map fun _ => (-1, -1), []) (0, 0, 0) = q at hres
  have HH := Lib.hid H
  have HN := Lib.hid hN
  have HQ := Lib.hid hq
  have hg := H.blk.lt
  clear H hN hq
  cases q with
  | none =>
    obtain rfl : none = res := hres
    go_enter Try.func10, Try.ntmps10
    go_wp2_with (go_at_call 12; (with_reducible refine (lead_no (HH.out.below (by repeat' (first | (with_reducible exact Below.refl _ _) | (with_reducible assumption) | (with_reducible refine Below.drew ?_) | (with_reducible refine below_drewN ?_ _) | (with_reducible refine Below.alloc ?_ ?_ _) | (with_reducible exact Nat.le_refl _) | (simp; done) | (simp; omega)))) HN.out rfl (by omega) (0, 0, 0) HQ.out).mono ?_); rintro e w1 ⟨rfl, b1⟩)
    (try simp only [Exit.inBlock, Exit.then]); refine bodyPost_ret (by simp [results, Try.results10, go_sem, *]; try rfl) rfl ?_
    exact ⟨by first | exact b1 | exact (Below.mono (by repeat' (first | (with_reducible exact Below.refl _ _) | (with_reducible assumption) | (with_reducible refine Below.drew ?_) | (with_reducible refine below_drewN ?_ _) | (with_reducible refine Below.alloc ?_ ?_ _) | (with_reducible exact Nat.le_refl _) | (simp; done) | (simp; omega))) HH.out.B0).trans b1, rfl⟩
  | some st0 =>
    have N0 := Lib.hid (lead_nice HN.out HQ.out)
    have HR := Lib.hid hres
    clear hres
    go_enter Try.func10, Try.ntmps10
    go_wp2_with (go_at_call 12; (with_reducible refine (lead_yes (HH.out.below (by repeat' (first | (with_reducible exact Below.refl _ _) | (with_reducible assumption) | (with_reducible refine Below.drew ?_) | (with_reducible refine below_drewN ?_ _) | (with_reducible refine Below.alloc ?_ ?_ _) | (with_reducible exact Nat.le_refl _) | (simp; done) | (simp; omega)))) HN.out rfl (by omega) (0, 0, 0) HQ.out).mono ?_); rintro e w1 ⟨rfl, b1, ⟨vs1, vt1, hs1⟩, hway, z1⟩; have HS1 := Lib.hid hs1; clear hs1 hway)
    have HB1 : Hid (Below B0 w w1) := Lib.hid (by first | exact b1 | exact (Below.mono (by repeat' (first | (with_reducible exact Below.refl _ _) | (with_reducible assumption) | (with_reducible refine Below.drew ?_) | (with_reducible refine below_drewN ?_ _) | (with_reducible refine Below.alloc ?_ ?_ _) | (with_reducible exact Nat.le_refl _) | (simp; done) | (simp; omega))) HH.out.B0).trans b1)
    have hw0 := HH.out.B0
    clear b1
    go_loopg [] (row.2.length + 1) (fun k wr => ∃ (vs vt : Value) (st : Sn), Hid (St wr B B0 g C G L P J row loc vs vt st) ∧ Hid (Nice row.2.length k st) ∧ Hid (allOf (pNms C) (mineV loc) (row.2.map pIns) k st = res) ∧ Hid (Below B0 w wr) ∧ k ≤ row.2.length + 1)
    case atStart => exact ⟨_, _, _, HS1, N0, Lib.hid HR.out, HB1, Nat.le_refl _⟩
    case round =>
      obtain ⟨vs2, vt2, ⟨sa, todo⟩, HS, HNi, HA, HBw, hk1⟩ := hrel
      have c7 := HS.out.blk.cell 7
      have c6 := HS.out.blk.cell 6
      have f7 := HS.out.blk.frozen 7
      simp only [List.getElem?_toArray, List.getElem?_cons_succ, List.getElem?_cons_zero] at c6 c7
      have hgr := HS.out.blk.lt
      cases todo with
      | nil =>
        obtain ⟨A2, n2, hv2, _, _, _⟩ := OI.slice HS.out.td
        simp only [List.reverse_nil, List.length_nil] at hv2
        subst hv2
        have hd := HA.out
        rw [all_done] at hd
        subst hd
        go_wp2
        (try simp only [Exit.inBlock, Exit.then]); refine bodyPost_ret (by simp [results, Try.results10, go_sem, *]; try rfl) rfl ?_
        exact ⟨HBw.out.trans (Below.mono (Below.refl _ _) HS.out.B0), rfl, _, _, HS.out⟩
      | cons k rest =>
        have htd := HS.out.td
        simp only [List.reverse_cons] at htd
        obtain ⟨A2, n2, hv2, _, _, _⟩ := OI.slice htd
        subst hv2
        obtain ⟨tb, rfl, hn, htb, htz, hc1, hc2, hck, hpop⟩ := oi_pop htd
        have HP := Lib.hid hpop
        generalize hm : rest.reverse.length = m at *
        have hlm : (rest.reverse ++ [k]).length = m + 1 := by rw [List.length_append, hm, List.length_singleton]
        rw [hlm] at c7 HS hc1
        unfold maxLen at hc2
        clear hm htd hn hpop hlm
        obtain ⟨f, rfl⟩ : ∃ f, gk = f + 1 := by
          have := HNi.out.f
          rw [List.length_cons] at this
          exact ⟨gk - 1, by dsimp only at this; omega⟩
        obtain ⟨hh, hsk, b0, b1, b2, b3⟩ := HNi.out.t k List.mem_cons_self
        dsimp only at hsk
        obtain ⟨hka, hke⟩ := List.getElem?_eq_some_iff.1 hsk
        have hkr : k < row.2.length := by have := HNi.out.n; dsimp only at this; omega
        obtain ⟨x, hx⟩ : ∃ x, row.2[k]? = some x := ⟨_, List.getElem?_eq_getElem hkr⟩
        have hstep := HA.out
        rw [all_step hx hsk] at hstep
        have HX := Lib.hid hx
        have HKE := Lib.hid hke
        have HN5 := Lib.hid (nice_pop HNi.out)
        obtain ⟨hc, he⟩ := hh
        generalize hwo : waysOf (pNms C) (mineV loc) (pIns x) (k : Int) (hc, he).1 (hc, he).2 = wo at hstep
        have HWO := Lib.hid hwo
        have HST := Lib.hid hstep
        dsimp only at *
        clear hstep hwo hx hke hsk HA HNi c6
        go_wp2
        go_quiet (fail)
        go_wp2
        go_region
        generalize hW : (World.setCell _ _ _ : World) = W5
        have HS5 : Hid (St W5 B B0 g C G L P J row loc vs2 (.slice (some ⟨tb, 0, none⟩) m n2) (sa, rest)) := Lib.hid (by rw [← hW]; exact HS.out.pop (by repeat' (first | (with_reducible exact Below.refl _ _) | (with_reducible assumption) | (with_reducible refine Below.drew ?_) | (with_reducible refine below_drewN ?_ _) | (with_reducible refine Below.alloc ?_ ?_ _) | (with_reducible exact Nat.le_refl _) | (simp; done) | (simp; omega))) HP.out)
        have HB5 : Hid (Below B0 w W5) := Lib.hid (by rw [← hW]; exact (HBw.out.trans (Below.mono (by repeat' (first | (with_reducible exact Below.refl _ _) | (with_reducible assumption) | (with_reducible refine Below.drew ?_) | (with_reducible refine below_drewN ?_ _) | (with_reducible refine Below.alloc ?_ ?_ _) | (with_reducible exact Nat.le_refl _) | (simp; done) | (simp; omega))) HS.out.B0)).setCell HS.out.hg _)
        clear hW HS HBw HP hck c7 f7 hgr htz
        have c6 := HS5.out.blk.cell 6
        simp only [List.getElem?_toArray, List.getElem?_cons_succ, List.getElem?_cons_zero] at c6
        have hgr := HS5.out.blk.lt
        obtain ⟨ad, cap, sb, qo, u0, u1, ev, hn1, hn2, hq, hob, hqb, hqz, h0, h1, s0, s1, fr0, fr1, hcu, hset⟩ := ownsRow_two HS5.out.sn hka rfl
        obtain ⟨rfl, rfl⟩ := sh_at hka h0 h1
        have hke := HKE.out
        dsimp only at hke h0 h1 ev hn1
        rw [hke] at s0 s1
        unfold maxLen at hn2
        subst ev
        dsimp only at *
        clear hke h0 h1 hob hcu hset HKE fr0 fr1
        cases wo with
        | none =>
          obtain rfl : none = res := HST.out
          go_wp2_with (go_at_call 13; (with_reducible refine (ways_any (HS5.out.gs.below (by repeat' (first | (with_reducible exact Below.refl _ _) | (with_reducible assumption) | (with_reducible refine Below.drew ?_) | (with_reducible refine below_drewN ?_ _) | (with_reducible refine Below.alloc ?_ ?_ _) | (with_reducible exact Nat.le_refl _) | (simp; done) | (simp; omega)))) HX.out hc he b0 b1 b2 b3).mono ?_); rw [HWO.out]; rintro e w6 ⟨rfl, b6⟩)
          (try simp only [Exit.inBlock, Exit.then]); refine bodyPost_ret (by simp [results, Try.results10, go_sem, *]; try rfl) rfl ?_
          exact ⟨HB5.out.trans (Below.mono (by (repeat' (first | (with_reducible exact Below.refl _ _) | (refine Below.trans ?_ (Below.mono (by with_reducible assumption) ?_)) | (with_reducible exact Below.refl _ _) | (with_reducible refine below_drewN ?_ _) | (with_reducible refine Below.drew ?_) | (with_reducible refine Below.setCell ?_ ?_ _) | (with_reducible refine Below.alloc ?_ ?_ _) | (with_reducible assumption) | (simp; done) | (simp; omega) | omega))) HS5.out.B0), rfl⟩
        | some l =>
          go_wp2_with (go_at_call 13; (with_reducible refine (ways_any (HS5.out.gs.below (by repeat' (first | (with_reducible exact Below.refl _ _) | (with_reducible assumption) | (with_reducible refine Below.drew ?_) | (with_reducible refine below_drewN ?_ _) | (with_reducible refine Below.alloc ?_ ?_ _) | (with_reducible exact Nat.le_refl _) | (simp; done) | (simp; omega)))) HX.out hc he b0 b1 b2 b3).mono ?_); rw [HWO.out]; rintro e w6 ⟨⟨A6, rfl, hws⟩, b6⟩; have HW6 := Lib.hid hws; clear hws; have HS6 := Lib.hid (show St w6 B B0 g C G L P J row loc _ _ (sa, rest) from HS5.out.below (by (repeat' (first | (with_reducible exact Below.refl _ _) | (refine Below.trans ?_ (Below.mono (by with_reducible assumption) ?_)) | (with_reducible exact Below.refl _ _) | (with_reducible refine below_drewN ?_ _) | (with_reducible refine Below.drew ?_) | (with_reducible refine Below.setCell ?_ ?_ _) | (with_reducible refine Below.alloc ?_ ?_ _) | (with_reducible assumption) | (simp; done) | (simp; omega) | omega)))); have HB6 := Lib.hid (show Below B0 w w6 from HB5.out.trans (Below.mono (by (repeat' (first | (with_reducible exact Below.refl _ _) | (refine Below.trans ?_ (Below.mono (by with_reducible assumption) ?_)) | (with_reducible exact Below.refl _ _) | (with_reducible refine below_drewN ?_ _) | (with_reducible refine Below.drew ?_) | (with_reducible refine Below.setCell ?_ ?_ _) | (with_reducible refine Below.alloc ?_ ?_ _) | (with_reducible assumption) | (simp; done) | (simp; omega) | omega))) HS5.out.B0)); clear b6)
          have hll := ways_len HWO.out
          have hstep := HST.out
          obtain ⟨j0, hj0⟩ : ∃ j0 : Nat, j0 = 0 := ⟨0, rfl⟩
          have HI := Lib.hid (show goOn C loc row f (leadsOf (sa, rest) (l.drop 0)) = res from hstep)
          clear hstep HST hj0 j0 c6 hgr s0 s1
          go_loopw [61] (fun i wr => ∃ (j : Nat) (st1 : Sn) (vs1 vt1 : Value), i = .int .i64 (j : Int) ∧ j ≤ l.length ∧ Hid (St wr B B0 g C G L P J row loc vs1 vt1 st1) ∧ Hid (Nice row.2.length f st1) ∧ Hid (goOn C loc row f (leadsOf st1 (l.drop j)) = res) ∧ Hid (WaySl wr A6 l) ∧ Hid (Below B0 w wr)) (fun i _ => l.length - (intOf i).toNat)
          case atStart => exact ⟨0, _, _, _, rfl, Nat.zero_le _, HS6, HN5, HI, HW6, HB6⟩
          case round =>
            obtain ⟨j, st1, vs3, vt3, rfl, hj, HS7, HN7, HI7, HW7, HB7⟩ := hrel
            have hgr := HS7.out.blk.lt
            by_cases hlt : j < l.length
            · obtain ⟨wb, ⟨x1, x2, x3⟩, rfl, hqz, hlx, q0, q1, q2⟩ := way_at2 HW7.out hlt
              have hi := HI7.out
              rw [leads_step hlx] at hi
              generalize hlo : leadOf st1 (x1, x2, x3) = lo at hi
              have HLO := Lib.hid hlo
              dsimp only at q0 q1 q2
              clear hlo hlx HI7
              cases lo with
              | none =>
                obtain rfl : none = res := hi
                go_wp2_with (go_at_call 12; (with_reducible refine (lead_no (HS7.out.below (by (repeat' (first | (with_reducible exact Below.refl _ _) | (refine Below.trans ?_ (Below.mono (by with_reducible assumption) ?_)) | (with_reducible exact Below.refl _ _) | (with_reducible refine below_drewN ?_ _) | (with_reducible refine Below.drew ?_) | (with_reducible refine Below.setCell ?_ ?_ _) | (with_reducible refine Below.alloc ?_ ?_ _) | (with_reducible assumption) | (simp; done) | (simp; omega) | omega)))) HN7.out rfl (by omega) (x1, x2, x3) HLO.out).mono ?_); rintro e w8 ⟨rfl, b8⟩)
                (try simp only [Exit.inBlock, Exit.then]); refine bodyPost_ret (by simp [results, Try.results10, go_sem, *]; try rfl) rfl ?_
                exact ⟨(HB7.out.trans (Below.mono (by (repeat' (first | (with_reducible exact Below.refl _ _) | (refine Below.trans ?_ (Below.mono (by with_reducible assumption) ?_)) | (with_reducible exact Below.refl _ _) | (with_reducible refine below_drewN ?_ _) | (with_reducible refine Below.drew ?_) | (with_reducible refine Below.setCell ?_ ?_ _) | (with_reducible refine Below.alloc ?_ ?_ _) | (with_reducible assumption) | (simp; done) | (simp; omega) | omega))) HS7.out.B0)).trans b8, rfl⟩
              | some st2 =>
                have HI8 := Lib.hid (show goOn C loc row f (leadsOf st2 (l.drop (j + 1))) = res from hi)
                have HN8 := Lib.hid (lead_nice HN7.out HLO.out)
                clear hi
                go_wp2_with (go_at_call 12; (with_reducible refine (lead_yes (HS7.out.below (by (repeat' (first | (with_reducible exact Below.refl _ _) | (refine Below.trans ?_ (Below.mono (by with_reducible assumption) ?_)) | (with_reducible exact Below.refl _ _) | (with_reducible refine below_drewN ?_ _) | (with_reducible refine Below.drew ?_) | (with_reducible refine Below.setCell ?_ ?_ _) | (with_reducible refine Below.alloc ?_ ?_ _) | (with_reducible assumption) | (simp; done) | (simp; omega) | omega)))) HN7.out rfl (by omega) (x1, x2, x3) HLO.out).mono ?_); rintro e w8 ⟨rfl, b8, ⟨vs8, vt8, hs8⟩, hk8, z8⟩; have HS8 := Lib.hid hs8; have HW8 := Lib.hid (hk8 _ _ (HW7.out.below (by (repeat' (first | (with_reducible exact Below.refl _ _) | (refine Below.trans ?_ (Below.mono (by with_reducible assumption) ?_)) | (with_reducible exact Below.refl _ _) | (with_reducible refine below_drewN ?_ _) | (with_reducible refine Below.drew ?_) | (with_reducible refine Below.setCell ?_ ?_ _) | (with_reducible refine Below.alloc ?_ ?_ _) | (with_reducible assumption) | (simp; done) | (simp; omega) | omega))))); have HB8 := Lib.hid ((HB7.out.trans (Below.mono (by (repeat' (first | (with_reducible exact Below.refl _ _) | (refine Below.trans ?_ (Below.mono (by with_reducible assumption) ?_)) | (with_reducible exact Below.refl _ _) | (with_reducible refine below_drewN ?_ _) | (with_reducible refine Below.drew ?_) | (with_reducible refine Below.setCell ?_ ?_ _) | (with_reducible refine Below.alloc ?_ ?_ _) | (with_reducible assumption) | (simp; done) | (simp; omega) | omega))) HS7.out.B0)).trans b8); clear hs8 hk8 b8)
                go_roundw
                case rel => exact ⟨j + 1, st2, _, _, by go_num, by omega, HS8, HN8, HI8, HW8, HB8⟩
                case measure => simp [intOf]; omega
            · obtain rfl : j = l.length := by omega
              have hi := HI7.out
              rw [List.drop_length] at hi
              have HA := Lib.hid (show allOf (pNms C) (mineV loc) (row.2.map pIns) f st1 = res from hi)
              clear hi HI7
              go_wp2
              go_roundg f
              case measure => omega
              case rel => exact ⟨_, _, _, HS7, HN7, HA, HB7, by omega⟩
end Go.Proofs.Ytanbplnagcmlcaa
