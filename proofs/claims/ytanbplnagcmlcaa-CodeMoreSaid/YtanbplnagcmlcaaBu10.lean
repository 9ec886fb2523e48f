/- Several texts put together: Ints, CodO. -/
import Derived.Test.YtanbplnagcmlcaaBu1
import Derived.Laws.AppendOwnNone
import Derived.Below
import Derived.Laws.IdiomStrings
import Derived.Test.YtanbplnagcmlcaaBu9
import Derived.Deep.RegionLaw
import Derived.OneCell
/- Slices of ints: as lists; those that a call has made: appending to them. -/
namespace Go.Proofs.Ytanbplnagcmlcaa
open Go.RowKit
/-- A slice of ints reads as a list, below block B. -/
def RI (w : World) (B : Nat) (A : Option Addr) (bs : List Nat) : Prop :=
  (0 < bs.length → ∃ ad, A = some ad ∧ ad.block < B ∧ ∀ j (h : j < bs.length), w.cell? (ad.add j) = some (.int .i64 ((bs[j] : Nat) : Int)))
section
variable {w w' : World} {B B' : Nat} {A : Option Addr} {bs : List Nat}
theorem RI.keep (h : RI w B A bs) (hk : ∀ p : Addr, p.block < B → w'.cell? p = w.cell? p) : RI w' B A bs :=
  fun hn => by
    obtain ⟨ad, e, hb, hc⟩ := h hn
    exact ⟨ad, e, hb, fun j hj => (hk _ (by rw [block_of_add]; exact hb)).trans (hc j hj)⟩
theorem RI.below (h : RI w B A bs) (hb : Below B w w') : RI w' B A bs := h.keep fun _ hp => hb.cell hp
theorem RI.more (h : RI w B A bs) (hB : B ≤ B') : RI w B' A bs :=
  fun hn => by
    obtain ⟨ad, e, hb, hc⟩ := h hn
    exact ⟨ad, e, by omega, hc⟩
theorem RI.cut (h : RI w B A bs) {k cap : Nat} (hc : bs.length ≤ cap) : RI w B (if cap = k then A else A.map (·.add k)) (bs.drop k) := by
  intro hn
  rw [List.length_drop] at hn
  obtain ⟨ad, rfl, hb, hcell⟩ := h (by omega)
  rw [if_neg (by omega)]
  refine ⟨ad.add k, rfl, by rw [block_of_add]; exact hb, fun j hj => ?_⟩
  rw [List.length_drop] at hj
  rw [add_of_add, List.getElem_drop]
  exact hcell (k + j) (by omega)
theorem RI.take (h : RI w B A bs) (k : Nat) : RI w B A (bs.take k) := by
  intro hn
  rw [List.length_take] at hn
  obtain ⟨ad, e, hb, hcell⟩ := h (by omega)
  refine ⟨ad, e, hb, fun j hj => ?_⟩
  rw [List.length_take] at hj
  rw [List.getElem_take]
  exact hcell j (by omega)
theorem RI.nil : RI w B A [] := by intro h; simp at h
end
theorem ri_of {w : World} {B b : Nat} {bs : List Nat} (h : b < B) (hc : ∀ j (h : j < bs.length), w.cell? ⟨b, j, none⟩ = some (.int .i64 ((bs[j] : Nat) : Int))) : RI w B (some ⟨b, 0, none⟩) bs := by
  refine fun _ => ⟨_, rfl, h, fun j hj => ?_⟩
  have : (⟨b, 0, none⟩ : Addr).add j = ⟨b, j, none⟩ := by unfold Addr.add; split <;> simp_all
  rw [this]; exact hc j hj
def inums (bs : List Nat) : Array Value := (bs.map fun x => Value.int .i64 ((x : Nat) : Int)).toArray
theorem ri_row (w : World) (bs : List Nat) (t : TypeId) (f : Nat × Nat) : RI (w.alloc (.cells (inums bs) t f)) (w.heap.size + 1) (some ⟨w.heap.size, 0, none⟩) bs := by
  refine ri_of (by omega) fun j hj => ?_
  rw [World.cell?_alloc_mark]
  simp [inums, hj]
def iv (x : Nat) : Value := .int .i64 (x : Int)
/-- The value v is a slice that owns its row, which holds ints. -/
def OI (w : World) (base : Nat) (v : Value) (bs : List Nat) : Prop := w.ownsRow base 3 1 v bs.length (bs.map iv)
theorem OI.slice {w : World} {base : Nat} {v : Value} {bs : List Nat} (h : OI w base v bs) :
    ∃ (A : Option Addr) (c : Nat), v = .slice A bs.length c ∧ bs.length ≤ c ∧ RI w w.heap.size A bs ∧ (A = none → bs = [] ∧ c = 0) := by
  obtain ⟨hl, h | ⟨g, cap, cur, hv, hg, hh, hn, hm, hs, ht⟩⟩ := h
  · obtain ⟨rfl, h0⟩ := h
    refine ⟨none, 0, by rw [h0], by omega, ?_, fun _ => ⟨List.length_eq_zero_iff.1 h0, rfl⟩⟩
    rw [List.length_eq_zero_iff.1 h0]; exact RI.nil
  · refine ⟨some ⟨g, 0, none⟩, cap, hv, hn, ?_, fun e => by cases e⟩
    have hlt : g < w.heap.size := by
      rcases Nat.lt_or_ge g w.heap.size with h | h
      · exact h
      · rw [Array.getElem?_eq_none h] at hh; cases hh
    refine ri_of hlt fun j hj => ?_
    rw [cell_of_row w g j cur 3 (0, 0) hh]
    have : (cur.toList.take (bs.length * 1))[j]? = (bs.map iv)[j]? := by rw [ht]
    rw [List.getElem?_take, if_pos (by omega), List.getElem?_map, List.getElem?_eq_getElem hj] at this
    simpa [iv] using this
theorem OI.kept {w w' : World} {base : Nat} {v : Value} {bs : List Nat} {row : Option Nat} (h : OI w base v bs) (hg : w.grownBy w' row) (hne : v.ownBlock = none ∨ v.ownBlock ≠ row) : OI w' base v bs := World.ownsRow.kept h hg hne
theorem OI.alloc {w : World} {base : Nat} {v : Value} {bs : List Nat} (h : OI w base v bs) (o : Obj) : OI (w.alloc o) base v bs := World.ownsRow.alloc h o
theorem OI.nil (w : World) (base : Nat) : OI w base (.slice none 0 0) [] := World.ownsRow_nil _ _ _ _
theorem OI.setCell {w : World} {base : Nat} {v : Value} {bs : List Nat} (h : OI w base v bs) {a : Addr} (ha : a.block < base) (u : Value) : OI (w.setCell a u) base v bs := ownsRow_setCell_below h ha u
theorem OI.drew {w : World} {base : Nat} {v : Value} {bs : List Nat} (h : OI w base v bs) : OI w.drew base v bs := World.ownsRow.kept (row := none) h ⟨rfl, rfl, rfl, Nat.le_refl _, fun _ _ _ => rfl⟩ (by cases v.ownBlock <;> simp)
theorem OI.lit (w : World) (bs : List Nat) {base : Nat} (hB : base ≤ w.heap.size) (hl : bs.length ≤ maxLen) : OI (w.alloc (.cells (inums bs) 3)) base (.slice (some ⟨w.heap.size, 0, none⟩) bs.length bs.length) bs :=
  by have := World.ownsRow_lit (e := 3) (size := 1) w (inums bs) bs.length hB hl (by simp [inums]); exact this
theorem OI.block {w : World} {base : Nat} {v : Value} {bs : List Nat} (h : OI w base v bs) : ∀ k, v.ownBlock = some k → base ≤ k ∧ k < w.heap.size := World.ownsRow.lt h
theorem info_int : (Try.prog.info? 3).map (fun i => (i.zero, i.size, i.bytes)) = some (some (.int .i64 0), 1, 8) := by kernel_rfl
/-- append(v, x...) of ints, to a slice of the call's own. -/
theorem wpList_appI {w : World} {ops : Array Oper} {rest : List Oper} {o : Oper} {a : Act} {Q : Exit → Act → World → Prop} (hgd : o.guard = none) (s x : Operand)
    (ho : o.op = .call { callee := .builtin .append, args := #[s, x], argTypes := #[35, 35] }) (base : Nat) (hbase : base ≤ w.heap.size) (v : Value) (bs : List Nat) (hs : a.eval s = v) (hown : OI w base v bs)
    (A : Option Addr) (m c : Nat) (cs : List Nat) (B : Nat) (hx : a.eval x = .slice A m c) (hm : cs.length = m) (hA : A = none → cs = [] ∧ c = 0) (hr : RI w B A cs) (hlen : bs.length + cs.length ≤ 17592186043904)
    (h : ∀ v' w', OI w' base v' (bs ++ cs) → w.grownBy w' v.ownBlock → wpList Try.prog ops Q rest (a.put o.dst v') w') : wpList Try.prog ops Q (o :: rest) a w := by
  obtain ⟨i0, hi, hz0, hz1, hz2⟩ := info_parts info_int
  subst hm
  cases A with
  | none =>
    obtain ⟨rfl, rfl⟩ := hA rfl
    refine wpList_append_own_none hgd s x 35 ho base 3 i0 1 Try.underlying35 hi v bs.length (bs.map iv) hs hown hx ?_
    refine h v w (by rw [List.append_nil]; exact hown) ⟨rfl, rfl, rfl, Nat.le_refl _, fun _ _ _ => rfl⟩
  | some ad =>
    refine wpList_append_own w hgd s x 35 ho base 3 i0 (.int .i64 0) 1 8 Try.underlying35 hi hz0 hz1 hz2 rfl (by decide) v bs.length (bs.map iv) hs hown ad cs.length c (cs.map iv) hx (by simp) ?_ ?_ (by unfold maxLen; omega) (by omega) hbase ?_
    · intro j u hu
      rw [List.getElem?_map] at hu
      rcases Nat.lt_or_ge j cs.length with hj | hj
      · obtain ⟨ad', e, _, hc⟩ := hr (by omega)
        cases e
        rw [hc j hj]
        rw [List.getElem?_eq_getElem hj] at hu
        exact hu
      · rw [List.getElem?_eq_none hj] at hu; cases hu
    · intro u hu
      obtain ⟨y, _, rfl⟩ := List.mem_map.1 hu
      rfl
    · intro v' w' hown' hg _
      exact h v' w' (by unfold OI; rw [List.length_append, List.map_append]; exact hown') hg
theorem OI.below {w w' : World} {base B : Nat} {v : Value} {bs : List Nat} {W : World} (h : OI w base v bs) (hg : w.grownBy w' v.ownBlock) (hb : Below B W w) (hB : B ≤ base) (hbase : B ≤ w.heap.size) : Below B W w' :=
  hb.grown hg hbase fun k hk => Nat.le_trans hB (h.block k hk).1
theorem OI.apart {w w' : World} {base b : Nat} {v v' : Value} {bs bs' : List Nat} (h : OI w base v bs) (h' : OI w' b v' bs') (hb : w.heap.size ≤ b) : v.ownBlock = none ∨ v.ownBlock ≠ v'.ownBlock := by
  cases e : v.ownBlock with
  | none => exact .inl rfl
  | some k =>
    right
    intro e2
    have h1 := h.block k e
    have h2 := h'.block k e2.symm
    omega
theorem OI.mono {w : World} {base base' : Nat} {v : Value} {bs : List Nat} (h : OI w base v bs) (hb : base' ≤ base) : OI w base' v bs := by
  obtain ⟨h2, h3 | ⟨g, cap, cur, e, hg, hr⟩⟩ := h
  · exact ⟨h2, .inl h3⟩
  · exact ⟨h2, .inr ⟨g, cap, cur, e, Nat.le_trans hb hg, hr⟩⟩
end Go.Proofs.Ytanbplnagcmlcaa

/- Layer 15: a way leads on. -/
namespace Go.Proofs.Ytanbplnagcmlcaa
open Go.RowKit
theorem ownsRow_set {w : World} {base : Nat} {e : TypeId} {size n g cap : Nat} {xs : List Value} (h : w.ownsRow base e size (.slice (some ⟨g, 0, none⟩) n cap) n xs) {j : Nat} (u : Value) : (w.setCell ⟨g, j, none⟩ u).ownsRow base e size (.slice (some ⟨g, 0, none⟩) n cap) n (xs.set j u) := by
  obtain ⟨h1, h2 | ⟨g', cap', cur, hv, hg, hh, hn, hm, hs, ht⟩⟩ := h
  · cases h2.1
  · injection hv with hv1 _ hv2
    injection hv1 with hv1
    injection hv1 with hv1
    subst hv1 hv2
    refine ⟨by rw [List.length_set]; exact h1, .inr ⟨g, cap, cur.setIfInBounds j u, rfl, hg, ?_, hn, hm, by simpa using hs, ?_⟩⟩
    · exact Blk.set_ (t := e) hh j u
    · rw [← ht]
      simp [List.take_set]
theorem ownsRow_below {w w' : World} {base : Nat} {e : TypeId} {size n : Nat} {v : Value} {xs : List Value} (h : w.ownsRow base e size v n xs) (q : Below w.heap.size w w') : w'.ownsRow base e size v n xs := by
  obtain ⟨h1, h2 | ⟨g, cap, cur, hv, hg, hh, r⟩⟩ := h
  · exact ⟨h1, .inl h2⟩
  · exact ⟨h1, .inr ⟨g, cap, cur, hv, hg, (q.block g (lt_of_block hh)).trans hh, r⟩⟩
theorem ownsRow_two {w : World} {base : Nat} {e : TypeId} {size n k : Nat} {v : Value} {xs : List Value} (h : w.ownsRow base e size v n xs) (hk : k < n) (hs : size = 2) :
    ∃ ad cap sb qo u0 u1, v = .slice (some ad) n cap ∧ n ≤ cap ∧ cap ≤ maxLen ∧ ad.add (k * 2) = ⟨sb, qo, none⟩ ∧ v.ownBlock = some sb ∧ base ≤ sb ∧ sb < w.heap.size ∧ xs[k * 2]? = some u0 ∧ xs[k * 2 + 1]? = some u1 ∧ w.cell? ⟨sb, qo, none⟩ = some u0 ∧ w.cell? ⟨sb, qo + 1, none⟩ = some u1 ∧
      w.frozen? ⟨sb, qo, none⟩ = false ∧ w.frozen? ⟨sb, qo + 1, none⟩ = false ∧ (∃ cur, Blk w sb e cur) ∧ (∀ w', Below w.heap.size w w' → ∀ u v1, ((w'.setCell ⟨sb, qo, none⟩ u).setCell ⟨sb, qo + 1, none⟩ v1).ownsRow base e size v n ((xs.set (k * 2) u).set (k * 2 + 1) v1)) := by
  subst hs
  have hh := h
  obtain ⟨h1, h2 | ⟨g, cap, cur, rfl, hg, hb, hn, hm, hs, ht⟩⟩ := h
  · omega
  · have e1 : (⟨g, 0, none⟩ : Addr).add (k * 2) = ⟨g, k * 2, none⟩ := by unfold Addr.add; split <;> simp_all
    have hl : xs.length = n * 2 := h1
    have hc : ∀ j, j < n * 2 → w.cell? ⟨g, j, none⟩ = xs[j]? := by
      intro j hj
      rw [cell_of_row w g j cur e (0, 0) hb, ← ht]
      rw [List.getElem?_take, if_pos hj]; simp
    have hf : ∀ j, w.frozen? ⟨g, j, none⟩ = false := fun j => Blk.frozen (t := e) hb j
    refine ⟨⟨g, 0, none⟩, cap, g, k * 2, xs[k * 2], xs[k * 2 + 1], rfl, hn, hm, e1, rfl, hg, lt_of_block hb, List.getElem?_eq_getElem _, List.getElem?_eq_getElem _, ?_, ?_, hf _, hf _, ⟨cur, hb⟩, fun w' hw' u v1 => ?_⟩
    · rw [hc (k * 2) (by omega)]; exact List.getElem?_eq_getElem (by omega)
    · rw [hc (k * 2 + 1) (by omega)]; exact List.getElem?_eq_getElem (by omega)
    · exact ownsRow_set (ownsRow_set (ownsRow_below hh hw') u) v1
def sh (x : Int × Int) : List Value := [.int .i64 x.1, .int .i64 x.2]
theorem sh_at {l : List (Int × Int)} {k : Nat} {u0 u1 : Value} (hk : k < l.length) (h0 : (l.flatMap sh)[k * 2]? = some u0) (h1 : (l.flatMap sh)[k * 2 + 1]? = some u1) : u0 = .int .i64 l[k].1 ∧ u1 = .int .i64 l[k].2 := by
  have a0 := flat_at sh 2 (fun _ => rfl) l k 0 hk (by omega)
  have a1 := flat_at sh 2 (fun _ => rfl) l k 1 hk (by omega)
  rw [Nat.add_zero, h0] at a0
  rw [h1] at a1
  simp [sh] at a0 a1
  exact ⟨a0, a1⟩
theorem flat_set : ∀ (l : List (Int × Int)) (k : Nat) (x : Int × Int), k < l.length → ((l.flatMap sh).set (k * 2) (.int .i64 x.1)).set (k * 2 + 1) (.int .i64 x.2) = (l.set k x).flatMap sh
  | y :: l, 0, x, _ => by simp [sh]
  | y :: l, k + 1, x, h => by
    have ih := flat_set l k x (by simpa using h)
    rw [show (k + 1) * 2 = k * 2 + 1 + 1 by omega]
    simp only [List.flatMap_cons, sh, List.cons_append, List.nil_append, List.set_cons_succ] at ih ⊢
    rw [ih]
/-- What heights holds: its code, what has been seen, what is to be done. -/
structure St (w : World) (B B0 g : Nat) (C : CodeV) (G L P J : Value) (row : Value × List InsV) (loc : Value × List VarV) (vs vt : Value) (st : Sn) : Prop where
  ok : C.ok w B G L P J
  rok : rowOk w B row
  lok : varsOk w B loc
  blk : Blk w g 49 #[G, L, P, J, row.1, loc.1, vs, vt]
  sn : w.ownsRow B0 51 2 vs st.1.length (st.1.flatMap sh)
  td : OI w B0 vt st.2.reverse
  hB : B ≤ B0
  hg : B0 ≤ g
section
variable {w w' : World} {B B0 g : Nat} {C : CodeV} {G L P J : Value} {row : Value × List InsV} {loc : Value × List VarV} {vs vt : Value} {st : Sn}
theorem St.gs (h : St w B B0 g C G L P J row loc vs vt st) : Gs w B g C G L P J row loc :=
  have := h.blk.lt
  ⟨h.ok, h.rok, h.lok, h.blk.cell 0, h.blk.cell 1, h.blk.cell 2, h.blk.cell 3, h.blk.cell 4, h.blk.cell 5, by have := h.hB; have := h.hg; omega, this⟩
theorem St.below (h : St w B B0 g C G L P J row loc vs vt st) (q : Below w.heap.size w w') : St w' B B0 g C G L P J row loc vs vt st :=
  have hz := h.blk.lt
  have q' := q.mono (show B ≤ w.heap.size by have := h.hB; have := h.hg; omega)
  ⟨h.ok.below q', h.rok.below q', h.lok.below q', h.blk.below q hz, ownsRow_below h.sn q, ownsRow_below h.td q, h.hB, h.hg⟩
end
def LeadPost (B B0 g : Nat) (C : CodeV) (G L P J : Value) (row : Value × List InsV) (loc : Value × List VarV) (res : Option Sn) (w : World) (e : Ending) (w' : World) : Prop :=
  Below B0 w w' ∧ (match res with
    | none => e = .returned (.bool false)
    | some st' => e = .returned (.bool true) ∧ (∃ vs vt, St w' B B0 g C G L P J row loc vs vt st') ∧ (∀ b arr, Blk w b 55 arr → Blk w' b 55 arr) ∧ w.heap.size ≤ w'.heap.size)
theorem reads_new {w : World} {arr : Array Value} {T : TypeId} {n k b : Nat} (h : arr.size = n * k) (hb : b = w.heap.size) : Reads (w.alloc (.cells arr T)) (w.alloc (.cells arr T)).heap.size k (some ⟨b, 0, none⟩) n arr.toList := by
  subst hb
  refine ⟨by simpa using h, fun _ => ⟨_, rfl, by simp, fun j u hu => ?_⟩⟩
  have e : (⟨w.heap.size, 0, none⟩ : Addr).add j = ⟨w.heap.size, j, none⟩ := by unfold Addr.add; split <;> simp_all
  rw [e, World.cell?_alloc_mark]
  simpa using hu
theorem reads_new1 (w : World) (v : Value) (T : TypeId) : Reads (w.alloc (.cells #[v] T)) (w.heap.size + 1) 1 (some ⟨w.heap.size, 0, none⟩) 1 [v] := by
  have := (reads_new (w := w) (arr := #[v]) (T := T) (n := 1) (k := 1) rfl rfl)
  simpa using this
theorem oi_snoc {w : World} {base n k : Nat} {v : Value} {bs : List Nat} (h : w.ownsRow base 3 1 v (n + 1) (bs.map iv ++ [.int .i64 (k : Int)])) (hn : n = bs.length) : OI w base v (bs ++ [k]) := by
  subst hn
  unfold OI
  rw [List.length_append, List.map_append]
  exact h
/-- Behind the two stores of a height. -/
structure Mid (w V : World) (B B0 g : Nat) (C : CodeV) (G L P J : Value) (row : Value × List InsV) (loc : Value × List VarV) (vs vt : Value) (st : Sn) (k : Nat) (x : Int × Int) : Prop where
  b : Below B0 w V
  sn : V.ownsRow B0 51 2 vs st.1.length ((st.1.set k x).flatMap sh)
  blk : Blk V g 49 #[G, L, P, J, row.1, loc.1, vs, vt]
  td : OI V B0 vt st.2.reverse
  y : ∀ b arr, Blk w b 55 arr → Blk V b 55 arr
  z : w.heap.size ≤ V.heap.size
section
variable {w w' V : World} {B B0 g : Nat} {C : CodeV} {G L P J : Value} {row : Value × List InsV} {loc : Value × List VarV} {vs vt : Value} {st : Sn} {k : Nat} {x : Int × Int}
theorem Mid.below (h : Mid w V B B0 g C G L P J row loc vs vt st k x) (hB : B0 ≤ V.heap.size) (q : Below V.heap.size V w') : Mid w w' B B0 g C G L P J row loc vs vt st k x :=
  ⟨h.b.trans (q.mono hB), ownsRow_below h.sn q, h.blk.below q h.blk.lt, ownsRow_below h.td q, fun b arr hb => (h.y b arr hb).below q (h.y b arr hb).lt, Nat.le_trans h.z q.size⟩
theorem Mid.alloc (h : Mid w V B B0 g C G L P J row loc vs vt st k x) (hB : B0 ≤ V.heap.size) (o : Obj) : Mid w (V.alloc o) B B0 g C G L P J row loc vs vt st k x := h.below hB ((Below.refl _ _).alloc (Nat.le_refl _) _)
theorem Mid.drew (h : Mid w V B B0 g C G L P J row loc vs vt st k x) (hB : B0 ≤ V.heap.size) : Mid w V.drew B B0 g C G L P J row loc vs vt st k x := h.below hB (Below.refl _ _).drew
theorem Mid.drewN (h : Mid w V B B0 g C G L P J row loc vs vt st k x) (hB : B0 ≤ V.heap.size) (n : Nat) : Mid w (V.drewN n) B B0 g C G L P J row loc vs vt st k x := h.below hB (below_drewN (Below.refl _ _) n)
theorem mid_of {sb qo : Nat} {cur : Array Value} (H : St w B B0 g C G L P J row loc vs vt st) (q : Below w.heap.size w w') (hk : k < st.1.length) (hsb : B0 ≤ sb) (hcur : Blk w sb 51 cur)
    (hset : ∀ w', Below w.heap.size w w' → ∀ u v1, ((w'.setCell ⟨sb, qo, none⟩ u).setCell ⟨sb, qo + 1, none⟩ v1).ownsRow B0 51 2 vs st.1.length (((st.1.flatMap sh).set (k * 2) u).set (k * 2 + 1) v1)) :
    Mid w ((w'.setCell ⟨sb, qo, none⟩ (.int .i64 x.1)).setCell ⟨sb, qo + 1, none⟩ (.int .i64 x.2)) B B0 g C G L P J row loc vs vt st k x := by
  have h0 : B0 ≤ w.heap.size := by have := H.hg; have := H.blk.lt; omega
  refine ⟨((q.mono h0).setCell hsb _).setCell hsb _, ?_, ?_, ?_, fun b arr hb => ?_, by simpa using q.size⟩
  · have := hset w' q (.int .i64 x.1) (.int .i64 x.2)
    rw [flat_set _ _ _ hk] at this
    exact this
  · have hne : g ≠ sb := Blk.ne_ H.blk hcur (by decide)
    exact ((H.blk.below q H.blk.lt).far hne _).far hne _
  · have hne := own_blk_ne H.td hcur (by decide)
    exact ownsRow_setCell_other (ownsRow_setCell_other (ownsRow_below H.td q) hne _) hne _
  · have hne : b ≠ sb := Blk.ne_ hb hcur (by decide)
    exact ((hb.below q hb.lt).far hne _).far hne _
theorem lead_blk {w9 : World} (M : Mid w V B B0 g C G L P J row loc vs vt st k x) (hg : V.grownBy w9 vt.ownBlock) : w9.cell? ⟨g, 7, none⟩ = some vt ∧ w9.frozen? ⟨g, 7, none⟩ = false :=
  have h := M.blk.grown hg (fun e => own_blk_ne M.td M.blk (by decide) e.symm)
  ⟨h.cell 7, h.frozen 7⟩
theorem lead_fin {w9 : World} {v9 : Value} {n : Nat} (H : St w B B0 g C G L P J row loc vs vt st) (M : Mid w V B B0 g C G L P J row loc vs vt st k x) (hown : w9.ownsRow B0 3 1 v9 (n + 1) (st.2.reverse.map iv ++ [.int .i64 (k : Int)])) (hn : n = st.2.reverse.length) (hg : V.grownBy w9 vt.ownBlock) :
    LeadPost B B0 g C G L P J row loc (some (st.1.set k x, k :: st.2)) w (.returned (.bool true)) (w9.setCell ⟨g, 7, none⟩ v9) := by
  have hgB := H.hg
  have h0 : B0 ≤ V.heap.size := by have := M.blk.lt; omega
  have hvt : vt.ownBlock ≠ some g := own_blk_ne M.td M.blk (by decide)
  have hb9 : Below B0 w w9 := OI.below M.td hg M.b (Nat.le_refl _) h0
  have hvs : vs.ownBlock = none ∨ vs.ownBlock ≠ vt.ownBlock := by
    rcases M.sn.2 with ⟨rfl, _⟩ | ⟨g', cap, cur, rfl, _, hh, _⟩
    · exact .inl rfl
    · refine .inr fun e => ?_
      exact own_blk_ne (t := 51) M.td hh (by decide) e.symm
  have hB0 : B0 ≤ g := hgB
  have hq : Below B0 w (w9.setCell ⟨g, 7, none⟩ v9) := hb9.setCell hB0 _
  have hqB := hq.mono H.hB
  have g9 := M.blk.grown hg (fun e => hvt e.symm)
  refine ⟨hq, rfl, ⟨vs, v9, H.ok.below hqB, H.rok.below hqB, H.lok.below hqB, ?_, ?_, ?_, H.hB, hgB⟩, fun b arr hb => ?_, ?_⟩
  · have := g9.set_ 7 v9
    simpa using this
  · have h := M.sn.kept hg hvs
    rw [List.length_set]
    exact ownsRow_setCell_other h (own_blk_ne h g9 (by decide)) _
  · have h := oi_snoc hown hn
    rw [List.reverse_cons]
    exact ownsRow_setCell_other h (own_blk_ne h g9 (by decide)) _
  · have h := M.y b arr hb
    have hne : vt.ownBlock ≠ some b := own_blk_ne M.td h (by decide)
    exact (h.grown hg (fun e => hne e.symm)).far (Blk.ne_ (h.grown hg (fun e => hne e.symm)) g9 (by decide)) _
  · have := hg.size
    have := M.z
    simp; omega
end
theorem lead_out {st : Sn} {x : Int × Int × Int} (h : ¬ (0 ≤ x.1 ∧ x.1 < st.1.length)) : leadOf st x = none := by
  unfold leadOf; rw [if_pos (by omega)]
theorem lead_far {st : Sn} {x : Int × Int × Int} (h : ¬ (0 ≤ x.2.1 ∧ x.2.1 ≤ 1000 ∧ 0 ≤ x.2.2 ∧ x.2.2 ≤ 1000)) : leadOf st x = none := by
  unfold leadOf
  split
  · rfl
  · rw [if_pos (by omega)]
theorem lead_in {st : Sn} {x : Int × Int × Int} {k : Nat} (hx : x.1 = k) (hk : k < st.1.length) (h : 0 ≤ x.2.1 ∧ x.2.1 ≤ 1000 ∧ 0 ≤ x.2.2 ∧ x.2.2 ≤ 1000) :
    leadOf st x = if 0 ≤ st.1[k].1 then (if st.1[k] = x.2 then some st else none) else some (st.1.set k x.2, k :: st.2) := by
  unfold leadOf
  rw [if_neg (by omega), if_neg (by omega)]
  have : x.1.toNat = k := by omega
  rw [this, List.getElem?_eq_getElem hk]
set_option maxRecDepth 100000 in
set_option maxHeartbeats 1600000 in
theorem lead_fresh {w : World} {B B0 g : Nat} {C : CodeV} {G L P J : Value} {row : Value × List InsV} {loc : Value × List VarV} {vs vt : Value} {st : Sn} (H : St w B B0 g C G L P J row loc vs vt st) (hl : st.1.length = row.2.length) (hlt : st.2.length < 1000000) {k : Nat} (hk : k < st.1.length) {x1 x2 : Int} (a1 : 0 ≤ x1) (a2 : x1 ≤ 1000) (a3 : 0 ≤ x2) (a4 : x2 ≤ 1000) (hs : ¬ 0 ≤ st.1[k].1) :
    Calls Try.prog 12 #[.pointer (some ⟨g, 0, none⟩), .agg #[.int .i64 (k : Int), .int .i64 x1, .int .i64 x2]] w (LeadPost B B0 g C G L P J row loc (some (st.1.set k (x1, x2), k :: st.2)) w) := by
  have hgz := H.blk.lt
  have hgB := H.hg
  have c4 := H.blk.cell 4
  have c6 := H.blk.cell 6
  have c7 := H.blk.cell 7
  have f6 := H.blk.frozen 6
  have f7 := H.blk.frozen 7
  simp only [List.getElem?_toArray, List.getElem?_cons_succ, List.getElem?_cons_zero] at c4 c6 c7
  obtain ⟨A, c, e4, hc1, hc2, _, _⟩ := H.rok.1
  rw [e4, ← hl] at c4
  rw [← hl] at hc1
  unfold maxLen at hc2
  have hkd : decide (st.1.length ≤ k) = false := by simpa using hk
  have hk0 : decide ((k : Int) < 0) = false := by simp
  have HL := Lib.hid hl
  clear hl
  have d1 : decide (x1 < 0) = false := by simpa using a1
  have d2 : decide (1000 < x1) = false := by simpa using a2
  have d3 : decide (x2 < 0) = false := by simpa using a3
  have d4 : decide (1000 < x2) = false := by simpa using a4
  obtain ⟨ad, cap, sb, qo, u0, u1, ev, hn1, hn2, hq, hob, hqb, hqz, h0, h1, s0, s1, fr0, fr1, hcurx, hset⟩ := ownsRow_two H.sn hk rfl
  obtain ⟨rfl, rfl⟩ := sh_at hk h0 h1
  unfold maxLen at hn2
  subst ev
  have HH := Lib.hid H
  have HS := Lib.hid hset
  have HO := Lib.hid hob
  clear H hset hob h0 h1
  generalize hh : st.1[k] = hk' at *
  obtain ⟨h1, h2⟩ := hk'
  clear hh
  dsimp only at *
  have hsd : decide (0 ≤ h1) = false := by simpa using hs
  go_enter Try.func12, Try.ntmps12
  go_wp2
  go_quiet (fail)
  go_wp2
  go_quiet (fail)
  go_wp2
  go_region
  go_wp2
  generalize hW : (((World.setCell (World.setCell _ _ _) _ _)) : World) = W8
  obtain ⟨cur, hcur⟩ := hcurx
  have HM : Hid (Mid w W8 B B0 g C G L P J row loc (.slice (some ad) st.1.length cap) vt st k (x1, x2)) := Lib.hid (by rw [← hW]; refine mid_of (x := (x1, x2)) HH.out ?_ hk hqb hcur HS.out; (repeat' (first | (with_reducible exact Below.refl _ _) | (refine Below.trans ?_ (Below.mono (by with_reducible assumption) ?_)) | (with_reducible exact Below.refl _ _) | (with_reducible refine below_drewN ?_ _) | (with_reducible refine Below.drew ?_) | (with_reducible refine Below.setCell ?_ ?_ _) | (with_reducible refine Below.alloc ?_ ?_ _) | (with_reducible assumption) | (simp; done) | (simp; omega) | omega)))
  have W8c : W8.cell? ⟨w.heap.size, 0, none⟩ = some (.int .i64 k) := by
    have : w.heap.size ≠ sb := by omega
    rw [← hW]; simp (maxDischargeDepth := 12) [go_sem, this]
  have W8z : w.heap.size < W8.heap.size := by
    rw [← hW]; simp
  have y7 := HM.out.blk.cell 7
  have yf7 := HM.out.blk.frozen 7
  simp only [List.getElem?_toArray, List.getElem?_cons_succ, List.getElem?_cons_zero] at y7
  have g8 : g < W8.heap.size := by omega
  clear hW c4 c6 c7 f6 f7 s0 s1 fr0 fr1 HS
  obtain ⟨i0, hi, hz0, hz1, hz2⟩ := info_parts info_int
  have hrl : st.2.reverse.length < 1000000 := by rw [List.length_reverse]; exact hlt
  have hB9 : B0 ≤ W8.heap.size := by omega
  go_region_law (refine step_append_any _ rfl (.tmp 74) (.tmp 77) 35 rfl B0 3 i0 (.int .i64 0) 1 8 Try.underlying35 hi hz0 hz1 hz2 rfl (by decide) vt st.2.reverse.length (st.2.reverse.map iv) (by simp [Act.eval, Act.put]) (World.ownsRow.alloc HM.out.td _) (W8.heap.size + 1) (some ⟨W8.heap.size, 0, none⟩) 1 1 [.int .i64 k] (by simp [Act.eval, Act.put]) (reads_new1 _ _ _) (by simp; rfl) (by unfold maxLen; omega) (by omega) (by simp; omega) ?_; intro v9 w9 hown9 hg9 hb9; have HF := Lib.hid (lead_fin HH.out (by first | exact Mid.alloc HM.out hB9 _ | exact Mid.alloc (Mid.drew HM.out hB9) hB9 _ | exact Mid.alloc (Mid.drewN HM.out hB9 _) hB9 _) hown9 rfl hg9); have G9 := lead_blk (w := w) (x := (x1, x2)) (by first | exact Mid.alloc HM.out hB9 _ | exact Mid.alloc (Mid.drew HM.out hB9) hB9 _ | exact Mid.alloc (Mid.drewN HM.out hB9 _) hB9 _) hg9; have c97 := G9.1; have f97 := G9.2; have HO9 := Lib.hid (oi_snoc hown9 rfl); clear hown9 hg9 hb9 G9; obtain ⟨A9, n9, hv9, _, _, _⟩ := OI.slice HO9.out; subst hv9)

  all_goals
    go_wp2
    (try simp only [Exit.inBlock, Exit.then]); refine bodyPost_ret (by simp [results, Try.results12, go_sem, *]; try rfl) rfl ?_
    have hF := HF.out
    rw [List.length_append, List.length_reverse, List.length_singleton] at hF
    exact hF
set_option maxRecDepth 100000 in
set_option maxHeartbeats 1600000 in
theorem lead_any {w : World} {B B0 g : Nat} {C : CodeV} {G L P J : Value} {row : Value × List InsV} {loc : Value × List VarV} {vs vt : Value} {st : Sn} (H : St w B B0 g C G L P J row loc vs vt st) (hl : st.1.length = row.2.length) (hlt : st.2.length < 1000000) (x : Int × Int × Int) :
    Calls Try.prog 12 #[.pointer (some ⟨g, 0, none⟩), .agg #[.int .i64 x.1, .int .i64 x.2.1, .int .i64 x.2.2]] w (LeadPost B B0 g C G L P J row loc (leadOf st x) w) := by
  have hgz := H.blk.lt
  have hgB := H.hg
  have c4 := H.blk.cell 4
  have c6 := H.blk.cell 6
  have c7 := H.blk.cell 7
  have f6 := H.blk.frozen 6
  have f7 := H.blk.frozen 7
  simp only [List.getElem?_toArray, List.getElem?_cons_succ, List.getElem?_cons_zero] at c4 c6 c7
  obtain ⟨A, c, e4, hc1, hc2, _, _⟩ := H.rok.1
  rw [e4, ← hl] at c4
  rw [← hl] at hc1
  unfold maxLen at hc2
  obtain ⟨tw, x1, x2⟩ := x
  by_cases hin : 0 ≤ tw ∧ tw < st.1.length
  · obtain ⟨k, rfl⟩ : ∃ k : Nat, tw = (k : Int) := ⟨tw.toNat, by omega⟩
    have hk : k < st.1.length := by omega
    have hkd : decide (st.1.length ≤ k) = false := by simpa using hk
    have hk0 : decide ((k : Int) < 0) = false := by simp
    clear hin
    have HL := Lib.hid hl
    clear hl
    by_cases hfar : 0 ≤ x1 ∧ x1 ≤ 1000 ∧ 0 ≤ x2 ∧ x2 ≤ 1000
    · obtain ⟨a1, a2, a3, a4⟩ := hfar
      have d1 : decide (x1 < 0) = false := by simpa using a1
      have d2 : decide (1000 < x1) = false := by simpa using a2
      have d3 : decide (x2 < 0) = false := by simpa using a3
      have d4 : decide (1000 < x2) = false := by simpa using a4
      rw [lead_in rfl hk ⟨a1, a2, a3, a4⟩]
      obtain ⟨ad, cap, sb, qo, u0, u1, ev, hn1, hn2, hq, hob, hqb, hqz, h0, h1, s0, s1, fr0, fr1, hcurx, hset⟩ := ownsRow_two H.sn hk rfl
      obtain ⟨rfl, rfl⟩ := sh_at hk h0 h1
      unfold maxLen at hn2
      subst ev
      have HH := Lib.hid H
      have HS := Lib.hid hset
      have HO := Lib.hid hob
      clear H hset hob h0 h1
      generalize hh : st.1[k] = hk' at *
      obtain ⟨h1, h2⟩ := hk'
      have HK := Lib.hid hh
      clear hh
      dsimp only at *
      by_cases hs : 0 ≤ h1
      · have hsd : decide (0 ≤ h1) = true := by simpa using hs
        rw [if_pos hs]
        by_cases e1 : h1 = x1
        · by_cases e2 : h2 = x2
          · subst e1 e2
            rw [if_pos rfl]
            go_enter Try.func12, Try.ntmps12
            go_wp2
            go_quiet (fail)
            go_wp2
            go_quiet (fail)
            go_wp2
            go_quiet (fail)
            go_wp2
            go_ret
            exact ⟨by (repeat' (first | (with_reducible exact Below.refl _ _) | (refine Below.trans ?_ (Below.mono (by with_reducible assumption) ?_)) | (with_reducible exact Below.refl _ _) | (with_reducible refine below_drewN ?_ _) | (with_reducible refine Below.drew ?_) | (with_reducible refine Below.setCell ?_ ?_ _) | (with_reducible refine Below.alloc ?_ ?_ _) | (with_reducible assumption) | (simp; done) | (simp; omega) | omega)), rfl, ⟨_, _, HH.out.below (by (repeat' (first | (with_reducible exact Below.refl _ _) | (refine Below.trans ?_ (Below.mono (by with_reducible assumption) ?_)) | (with_reducible exact Below.refl _ _) | (with_reducible refine below_drewN ?_ _) | (with_reducible refine Below.drew ?_) | (with_reducible refine Below.setCell ?_ ?_ _) | (with_reducible refine Below.alloc ?_ ?_ _) | (with_reducible assumption) | (simp; done) | (simp; omega) | omega)))⟩, fun b arr hb => hb.below (by (repeat' (first | (with_reducible exact Below.refl _ _) | (refine Below.trans ?_ (Below.mono (by with_reducible assumption) ?_)) | (with_reducible exact Below.refl _ _) | (with_reducible refine below_drewN ?_ _) | (with_reducible refine Below.drew ?_) | (with_reducible refine Below.setCell ?_ ?_ _) | (with_reducible refine Below.alloc ?_ ?_ _) | (with_reducible assumption) | (simp; done) | (simp; omega) | omega))) hb.lt, by simp⟩
          · have b2 : (h2 == x2) = false := by simpa using e2
            rw [if_neg (by rintro h; injection h with _ h; exact e2 h)]
            clear e2
            go_enter Try.func12, Try.ntmps12
            go_wp2
            go_quiet (fail)
            go_wp2
            go_quiet (fail)
            go_wp2
            go_quiet (fail)
            go_wp2
            go_ret
            exact ⟨by (repeat' (first | (with_reducible exact Below.refl _ _) | (refine Below.trans ?_ (Below.mono (by with_reducible assumption) ?_)) | (with_reducible exact Below.refl _ _) | (with_reducible refine below_drewN ?_ _) | (with_reducible refine Below.drew ?_) | (with_reducible refine Below.setCell ?_ ?_ _) | (with_reducible refine Below.alloc ?_ ?_ _) | (with_reducible assumption) | (simp; done) | (simp; omega) | omega)), rfl⟩
        · have b1 : (h1 == x1) = false := by simpa using e1
          rw [if_neg (by rintro h; injection h with h _; exact e1 h)]
          clear e1
          go_enter Try.func12, Try.ntmps12
          go_wp2
          go_quiet (fail)
          go_wp2
          go_quiet (fail)
          go_wp2
          go_quiet (fail)
          go_wp2
          go_ret
          exact ⟨by (repeat' (first | (with_reducible exact Below.refl _ _) | (refine Below.trans ?_ (Below.mono (by with_reducible assumption) ?_)) | (with_reducible exact Below.refl _ _) | (with_reducible refine below_drewN ?_ _) | (with_reducible refine Below.drew ?_) | (with_reducible refine Below.setCell ?_ ?_ _) | (with_reducible refine Below.alloc ?_ ?_ _) | (with_reducible assumption) | (simp; done) | (simp; omega) | omega)), rfl⟩
      · rw [if_neg hs]; exact lead_fresh HH.out HL.out hlt hk a1 a2 a3 a4 (by rw [HK.out]; exact hs)
    · rw [lead_far hfar]
      have HH := Lib.hid H
      clear H
      by_cases a1 : 0 ≤ x1
      · have d1 : decide (x1 < 0) = false := by simpa using a1
        by_cases a2 : x1 ≤ 1000
        · have d2 : decide (1000 < x1) = false := by simpa using a2
          by_cases a3 : 0 ≤ x2
          · have d3 : decide (x2 < 0) = false := by simpa using a3
            have d4 : decide (1000 < x2) = true := by simp; omega
            clear hfar
            go_enter Try.func12, Try.ntmps12
            go_wp2
            go_quiet (fail)
            go_wp2
            go_ret
            exact ⟨by (repeat' (first | (with_reducible exact Below.refl _ _) | (refine Below.trans ?_ (Below.mono (by with_reducible assumption) ?_)) | (with_reducible exact Below.refl _ _) | (with_reducible refine below_drewN ?_ _) | (with_reducible refine Below.drew ?_) | (with_reducible refine Below.setCell ?_ ?_ _) | (with_reducible refine Below.alloc ?_ ?_ _) | (with_reducible assumption) | (simp; done) | (simp; omega) | omega)), rfl⟩
          · have d3 : decide (x2 < 0) = true := by simpa using a3
            clear hfar
            go_enter Try.func12, Try.ntmps12
            go_wp2
            go_quiet (fail)
            go_wp2
            go_ret
            exact ⟨by (repeat' (first | (with_reducible exact Below.refl _ _) | (refine Below.trans ?_ (Below.mono (by with_reducible assumption) ?_)) | (with_reducible exact Below.refl _ _) | (with_reducible refine below_drewN ?_ _) | (with_reducible refine Below.drew ?_) | (with_reducible refine Below.setCell ?_ ?_ _) | (with_reducible refine Below.alloc ?_ ?_ _) | (with_reducible assumption) | (simp; done) | (simp; omega) | omega)), rfl⟩
        · have d2 : decide (1000 < x1) = true := by simpa using a2
          clear hfar
          go_enter Try.func12, Try.ntmps12
          go_wp2
          go_quiet (fail)
          go_wp2
          go_ret
          exact ⟨by (repeat' (first | (with_reducible exact Below.refl _ _) | (refine Below.trans ?_ (Below.mono (by with_reducible assumption) ?_)) | (with_reducible exact Below.refl _ _) | (with_reducible refine below_drewN ?_ _) | (with_reducible refine Below.drew ?_) | (with_reducible refine Below.setCell ?_ ?_ _) | (with_reducible refine Below.alloc ?_ ?_ _) | (with_reducible assumption) | (simp; done) | (simp; omega) | omega)), rfl⟩
      · have d1 : decide (x1 < 0) = true := by simpa using a1
        clear hfar
        go_enter Try.func12, Try.ntmps12
        go_wp2
        go_quiet (fail)
        go_wp2
        go_ret
        exact ⟨by (repeat' (first | (with_reducible exact Below.refl _ _) | (refine Below.trans ?_ (Below.mono (by with_reducible assumption) ?_)) | (with_reducible exact Below.refl _ _) | (with_reducible refine below_drewN ?_ _) | (with_reducible refine Below.drew ?_) | (with_reducible refine Below.setCell ?_ ?_ _) | (with_reducible refine Below.alloc ?_ ?_ _) | (with_reducible assumption) | (simp; done) | (simp; omega) | omega)), rfl⟩
  · rw [lead_out hin]
    have HH := Lib.hid H
    clear H hl
    by_cases h0 : 0 ≤ tw
    · obtain ⟨k, rfl⟩ : ∃ k : Nat, tw = (k : Int) := ⟨tw.toNat, by omega⟩
      have hk : st.1.length ≤ k := by omega
      have hkd : decide (st.1.length ≤ k) = true := by simpa using hk
      have hk0 : decide ((k : Int) < 0) = false := by simp
      clear hin
      go_enter Try.func12, Try.ntmps12
      go_wp2
      go_quiet (fail)
      go_wp2
      go_ret
      exact ⟨by (repeat' (first | (with_reducible exact Below.refl _ _) | (refine Below.trans ?_ (Below.mono (by with_reducible assumption) ?_)) | (with_reducible exact Below.refl _ _) | (with_reducible refine below_drewN ?_ _) | (with_reducible refine Below.drew ?_) | (with_reducible refine Below.setCell ?_ ?_ _) | (with_reducible refine Below.alloc ?_ ?_ _) | (with_reducible assumption) | (simp; done) | (simp; omega) | omega)), rfl⟩
    · have hb0 : tw < 0 := by omega
      have hb0d : decide (tw < 0) = true := by simpa using hb0
      clear hin
      go_enter Try.func12, Try.ntmps12
      go_wp2
      go_quiet (fail)
      go_wp2
      go_ret
      exact ⟨by (repeat' (first | (with_reducible exact Below.refl _ _) | (refine Below.trans ?_ (Below.mono (by with_reducible assumption) ?_)) | (with_reducible exact Below.refl _ _) | (with_reducible refine below_drewN ?_ _) | (with_reducible refine Below.drew ?_) | (with_reducible refine Below.setCell ?_ ?_ _) | (with_reducible refine Below.alloc ?_ ?_ _) | (with_reducible assumption) | (simp; done) | (simp; omega) | omega)), rfl⟩
end Go.Proofs.Ytanbplnagcmlcaa
