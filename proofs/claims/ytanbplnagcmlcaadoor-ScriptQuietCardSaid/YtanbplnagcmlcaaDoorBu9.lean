/- Several texts put together: RngD, RngE, RngF. -/
import Derived.Test.YtanbplnagcmlcaaDoorBu8
/- Layer 24: the events that a script has told so far, in memory; a line that is none. -/
namespace Go.Proofs.YtanbplnagcmlcaaDoor
open Go.RowKit Go.Shelf
theorem ownBelow {w w' : World} {base : Nat} {e : TypeId} {size n : Nat} {v : Value} {xs : List Value} (h : w.ownsRow base e size v n xs) (q : Below w.heap.size w w') : w'.ownsRow base e size v n xs := by
  obtain ⟨h1, h2 | ⟨g, cap, cur, hv, hg, hh, r⟩⟩ := h
  · exact ⟨h1, .inl h2⟩
  · exact ⟨h1, .inr ⟨g, cap, cur, hv, hg, (q.block g (Array.getElem?_eq_some_iff.1 hh).1).trans hh, r⟩⟩
theorem ownApart {w : World} {b1 b2 s1 s2 n1 n2 : Nat} {e1 e2 : TypeId} {v1 v2 : Value} {x1 x2 : List Value} (h1 : w.ownsRow b1 e1 s1 v1 n1 x1) (h2 : w.ownsRow b2 e2 s2 v2 n2 x2) (hne : e1 ≠ e2) : v1.ownBlock = none ∨ v1.ownBlock ≠ v2.ownBlock := by
  rcases h2.2 with ⟨rfl, _⟩ | ⟨g', cap, cur, rfl, _, hh, _⟩
  · cases e : v1.ownBlock
    · exact .inl rfl
    · exact .inr (by simp [Value.ownBlock])
  · exact .inr (own_blk_ne (t := e2) h1 hh hne)
theorem ownSlice {w : World} {base : Nat} {e : TypeId} {size n : Nat} {v : Value} {xs : List Value} (h : w.ownsRow base e size v n xs) : ∃ A c, v = .slice A n c ∧ n ≤ c ∧ c ≤ maxLen := by
  rcases h.2 with ⟨rfl, rfl⟩ | ⟨g, cap, cur, rfl, _, _, hn, hm, _⟩
  · exact ⟨none, 0, rfl, Nat.le_refl _, by unfold maxLen; omega⟩
  · exact ⟨_, _, rfl, hn, hm⟩
def evC (x : Ev × Value) : List Value := [.int .i64 (x.1.k : Int), .int .i64 (x.1.c : Int), .int .i64 (x.1.n : Int), x.2]
/-- A slice of events of the call's own. -/
structure EvS (w : World) (B : Nat) (v : Value) (xs : List (Ev × Value)) : Prop where
  own : w.ownsRow B 29 4 v xs.length (xs.flatMap evC)
  obs : ∀ x ∈ xs, OB w B x.2 x.1.bs
def NoCells (w : World) (row : Option Nat) : Prop := ∀ r, row = some r → ∃ o : Obj, w.heap[r]? = some o ∧ o.isCells = false
theorem own_far {w : World} {base s n : Nat} {e : TypeId} {v : Value} {xs : List Value} (h : w.ownsRow base e s v n xs) {row : Option Nat} (hr : NoCells w row) : v.ownBlock = none ∨ v.ownBlock ≠ row := by
  rcases h.2 with ⟨rfl, _⟩ | ⟨g, cap, cur, rfl, _, hh, _⟩
  · exact .inl rfl
  · right
    rintro rfl
    obtain ⟨o, ho, hc⟩ := hr g rfl
    rw [hh] at ho
    cases ho
    cases hc
theorem EvS.nil (w : World) (B : Nat) : EvS w B (.slice none 0 0) [] := ⟨World.ownsRow_nil _ _ _ _, by simp⟩
theorem EvS.kept {w w' : World} {B : Nat} {v : Value} {xs : List (Ev × Value)} {row : Option Nat} (h : EvS w B v xs) (hg : w.grownBy w' row) (hr : NoCells w row) : EvS w' B v xs :=
  ⟨World.ownsRow.kept h.own hg (own_far h.own hr), fun x hx => (h.obs x hx).kept hg (own_far (h.obs x hx).2 hr)⟩
theorem EvS.next {w w' : World} {B : Nat} {v : Value} {xs : List (Ev × Value)} (h : EvS w B v xs) (q : Below w.heap.size w w') : EvS w' B v xs :=
  ⟨ownBelow h.own q, fun x hx => (h.obs x hx).next q⟩
theorem EvS.put {w : World} {B b j : Nat} {v : Value} {xs : List (Ev × Value)} (h : EvS w B v xs) (hb : b < B) (u : Value) : EvS (w.setCell ⟨b, j, none⟩ u) B v xs :=
  ⟨ownsRow_setCell_below h.own hb u, fun x hx => (h.obs x hx).setCell hb u⟩
theorem EvS.mono {w : World} {B B' : Nat} {v : Value} {xs : List (Ev × Value)} (h : EvS w B v xs) (hb : B' ≤ B) : EvS w B' v xs := by
  refine ⟨?_, fun x hx => (h.obs x hx).mono hb⟩
  obtain ⟨h1, h2 | ⟨g, cap, cur, e, hg, hr⟩⟩ := h.own
  · exact ⟨h1, .inl h2⟩
  · exact ⟨h1, .inr ⟨g, cap, cur, e, Nat.le_trans hb hg, hr⟩⟩
theorem EvS.snoc {w w' : World} {B : Nat} {v v' v1 : Value} {xs : List (Ev × Value)} {e : Ev} (h : EvS w B v xs) (ho : OB w B v1 e.bs) (hown : w'.ownsRow B 29 4 v' (xs.length + 1) (xs.flatMap evC ++ evC (e, v1))) (hg : w.grownBy w' v.ownBlock) : EvS w' B v' (xs ++ [(e, v1)]) := by
  refine ⟨?_, fun x hx => ?_⟩
  · rw [List.flatMap_append, List.length_append]
    simpa using hown
  · rcases List.mem_append.1 hx with hx | hx
    · exact (h.obs x hx).kept hg (ownApart (h.obs x hx).2 h.own (by decide))
    · rw [List.mem_singleton] at hx
      subst hx
      exact ho.kept hg (ownApart ho.2 h.own (by decide))
theorem keeps_below {W W' : World} (q : Below W.heap.size W W') : KeepsOthers W W' := ⟨q.size, fun k o hk _ => (q.block k (Array.getElem?_eq_some_iff.1 hk).1).trans hk⟩
theorem keeps_own {W W' : World} {base s n : Nat} {e : TypeId} {v : Value} {xs : List Value} (h : W.ownsRow base e s v n xs) (hg : W.grownBy W' v.ownBlock) : KeepsOthers W W' :=
  KeepsOthers.of_grownBy hg fun j o hj ho => by
    rcases h.2 with ⟨rfl, _⟩ | ⟨g, cap, cur, rfl, _, hh, _⟩
    · cases hj
    · obtain rfl : g = j := by simpa [Value.ownBlock] using hj
      rw [hh] at ho
      cases ho
      rfl
/-- What has been read so far. -/
structure PI (w0 : World) (B0 : Nat) (evs : List Ev) (W : World) : Prop where
  bel : Below B0 w0 W
  z : B0 + 5 ≤ W.heap.size
  r2 : Blk W B0 35 #[.slice none 0 0]
  r3 : Blk W (B0 + 1) 3 #[.int .i64 0]
  r4 : Blk W (B0 + 2) 24 #[.nilIface]
  ev : ∃ v xs, xs.map (·.1) = evs ∧ Blk W (B0 + 3) 35 #[v] ∧ EvS W (B0 + 5) v xs
/-- A line that is none, at its number. -/
structure PX (w0 : World) (B0 : Nat) (i : Int) (W : World) : Prop where
  bel : Below B0 w0 W
  r2 : Blk W B0 35 #[.slice none 0 0]
  r3 : Blk W (B0 + 1) 3 #[.int .i64 i]
  r4 : Blk W (B0 + 2) 24 #[.iface 43 (.int .i64 24)]
theorem PI.grow {w0 W W' : World} {B0 : Nat} {evs : List Ev} {row : Option Nat} (h : PI w0 B0 evs W) (hg : W.grownBy W' row) (hr : ∀ r, row = some r → B0 + 5 ≤ r ∧ ∃ o : Obj, W.heap[r]? = some o ∧ o.isCells = false) : PI w0 B0 evs W' := by
  have hn : ∀ g, g < B0 + 5 → some g ≠ row := fun g hg e => by have := (hr g e.symm).1; omega
  obtain ⟨v, xs, he, hb, hs⟩ := h.ev
  exact ⟨h.bel.grown hg (by have := h.z; omega) (fun k hk => by have := (hr k hk).1; omega), Nat.le_trans h.z hg.size, h.r2.grown hg (hn _ (by omega)), h.r3.grown hg (hn _ (by omega)), h.r4.grown hg (hn _ (by omega)),
    v, xs, he, hb.grown hg (hn _ (by omega)), hs.kept hg fun r hr' => (hr r hr').2⟩
theorem PX.grow {w0 W W' : World} {B0 : Nat} {i : Int} {row : Option Nat} (h : PX w0 B0 i W) (hg : W.grownBy W' row) (hr : ∀ r, row = some r → B0 + 5 ≤ r ∧ ∃ o : Obj, W.heap[r]? = some o ∧ o.isCells = false) : PX w0 B0 i W' := by
  have hn : ∀ g, g < B0 + 5 → some g ≠ row := fun g hg e => by have := (hr g e.symm).1; omega
  exact ⟨h.bel.grown hg (by have := h.r2.lt; omega) (fun k hk => by have := (hr k hk).1; omega), h.r2.grown hg (hn _ (by omega)), h.r3.grown hg (hn _ (by omega)), h.r4.grown hg (hn _ (by omega))⟩
theorem PI.put {w0 W : World} {B0 : Nat} {evs : List Ev} (h : PI w0 B0 evs W) (u : Value) : PI w0 B0 evs (W.setCell ⟨B0 + 4, 0, none⟩ u) := by
  obtain ⟨v, xs, he, hb, hs⟩ := h.ev
  exact ⟨h.bel.setCell (show B0 ≤ B0 + 4 by omega) u, by simpa using h.z, h.r2.far (show B0 ≠ B0 + 4 by omega) u, h.r3.far (show B0 + 1 ≠ B0 + 4 by omega) u, h.r4.far (show B0 + 2 ≠ B0 + 4 by omega) u,
    v, xs, he, hb.far (show B0 + 3 ≠ B0 + 4 by omega) u, hs.put (by omega) u⟩
theorem PI.next {w0 W W' : World} {B0 : Nat} {evs : List Ev} (h : PI w0 B0 evs W) (q : Below W.heap.size W W') : PI w0 B0 evs W' := by
  obtain ⟨v, xs, he, hb, hs⟩ := h.ev
  exact ⟨h.bel.trans (q.mono (by have := h.z; omega)), Nat.le_trans h.z q.size, h.r2.below q h.r2.lt, h.r3.below q h.r3.lt, h.r4.below q h.r4.lt, v, xs, he, hb.below q hb.lt, hs.next q⟩
theorem tb_below {W W' : World} {b : Nat} (hb : b < W.heap.size) (q : Below W.heap.size W W') : TB b W W' := q.block b hb
/-- A round that adds an event. -/
theorem PI.snoc {w0 W W3 W4 : World} {B0 : Nat} {v v' v1 : Value} {xs : List (Ev × Value)} {e : Ev} (h : PI w0 B0 (xs.map (·.1)) W) (q : Below W.heap.size W W3) (hb : Blk W (B0 + 3) 35 #[v]) (hs : EvS W3 (B0 + 5) v xs) (ho : OB W3 (B0 + 5) v1 e.bs)
    (hown : W4.ownsRow (B0 + 5) 29 4 v' (xs.length + 1) (xs.flatMap evC ++ evC (e, v1))) (hg : W3.grownBy W4 v.ownBlock) :
    KeepsOthers W (W4.setCell ⟨B0 + 3, 0, none⟩ v') ∧ TB (B0 + 4) W (W4.setCell ⟨B0 + 3, 0, none⟩ v') ∧ PI w0 B0 (xs.map (·.1) ++ [e]) (W4.setCell ⟨B0 + 3, 0, none⟩ v') := by
  have h3 := h.next q
  have hz := h.z
  have hl := World.ownsRow.lt hs.own
  have hn : ∀ g, g < B0 + 5 → some g ≠ v.ownBlock := fun g hg e => by have := (hl g e.symm).1; omega
  refine ⟨((keeps_below q).trans (keeps_own hs.own hg)).trans (KeepsOthers.setCell _ _ _), ?_, ?_⟩
  · refine (Below.heap_setCell W4 ⟨B0 + 3, 0, none⟩ v' (B0 + 4) (by show B0 + 4 ≠ B0 + 3; omega)).trans ?_
    exact (hg.block (B0 + 4) (by have := q.size; omega) (hn _ (by omega))).trans (tb_below (by omega) q)
  · refine ⟨(h3.bel.grown hg (by have := h3.z; omega) (fun k hk => by have := (hl k hk).1; omega)).setCell (show B0 ≤ B0 + 3 by omega) _, by simpa using Nat.le_trans h3.z hg.size, (h3.r2.grown hg (hn _ (by omega))).far (show B0 ≠ B0 + 3 by omega) _, (h3.r3.grown hg (hn _ (by omega))).far (show B0 + 1 ≠ B0 + 3 by omega) _, (h3.r4.grown hg (hn _ (by omega))).far (show B0 + 2 ≠ B0 + 3 by omega) _, v', xs ++ [(e, v1)], by simp, ?_, (hs.snoc ho hown hg).put (by omega) _⟩
    have := ((hb.below q hb.lt).grown hg (hn _ (by omega))).set_ 0 v'
    simpa using this
set_option maxRecDepth 100000 in
set_option maxHeartbeats 3200000 in
theorem read_none (w : World) :
    Calls Tryd.prog 9 #[.string (strN [110, 111, 110, 101])] w fun e w' => e = .returned (.tuple #[.agg #[.int .i64 0, .int .i64 0, .int .i64 0, .slice none 0 0], .iface 43 (.int .i64 24)]) ∧ Below w.heap.size w w' := by
  have HC1 := Lib.hid (fun W => cut32_no [110, 111, 110, 101] (by decide) (by decide) (by decide) W)
  have HLK := Lib.hid (fun W : World => look_none (heap_alloc_new W shapesO))
  generalize strN [110, 111, 110, 101] = S at HC1 HLK ⊢
  go_enter Tryd.func9, Tryd.ntmps9
  go_upto_region 2 with (first
    | (go_at_call 20; (with_reducible refine (HC1.out _).mono ?_); rintro e w1 ⟨rfl, b1⟩)
    | fail)
  have hlk1 := HLK.out w1
  have p1 : Below w.heap.size w w1 := ((Below.refl _ _).alloc (Nat.le_refl _) (.cells #[.int .i64 0, .int .i64 0, .int .i64 0, .slice none 0 0] 29)).trans (b1.mono (by simp))
  have br := (Box4.make w (.int .i64 0) (.int .i64 0) (.int .i64 0) (.slice none 0 0) 29 rfl).below b1
  clear b1 HC1
  go_upto_region 4 with (first
    | (go_at_call 14; (with_reducible refine (shapes_any _).mono ?_); rintro e w2 ⟨rfl, rfl⟩)
    | fail)
  generalize hW : (World.alloc _ _ : World) = w2
  have p2 : Below w1.heap.size w1 w2 := by rw [← hW]; (repeat' (first | (with_reducible exact Below.refl _ _) | (refine Below.trans ?_ (Below.mono (by with_reducible assumption) ?_)) | (with_reducible exact Below.refl _ _) | (with_reducible refine below_drewN ?_ _) | (with_reducible refine Below.drew ?_) | (with_reducible refine Below.setCell ?_ ?_ _) | (with_reducible refine Below.alloc ?_ ?_ _) | (with_reducible assumption) | (simp; done) | (simp; omega) | omega))
  clear hW hlk1 HLK
  have b4r_2 := Lib.hid (br.below p2); have b4r_20 := b4r_2.out.c0; have b4r_21 := b4r_2.out.c1; have b4r_22 := b4r_2.out.c2; have b4r_23 := b4r_2.out.c3; have b4r_2f0 := b4r_2.out.f0; have b4r_2f1 := b4r_2.out.f1; have b4r_2f2 := b4r_2.out.f2; have b4r_2f3 := b4r_2.out.f3; have b4r_2z := b4r_2.out.z
  have HB2 := Lib.hid (below_step p1 p2)
  clear br p1 p2
  go_wp2_with fail
  generalize hW9 : (World.setCell _ _ _ : World) = w9
  have hb9 : Below w.heap.size w w9 := by rw [← hW9]; exact (((HB2.out.setCell (Nat.le_refl _) _).setCell (Nat.le_refl _) _).setCell (Nat.le_refl _) _).setCell (Nat.le_refl _) _
  have b4z_9 := Lib.hid ((show Box4 w9 w.heap.size (.int .i64 0) (.int .i64 0) (.int .i64 0) (.slice none 0 0) by rw [← hW9]; exact b4r_2.out.set)); have b4z_90 := b4z_9.out.c0; have b4z_91 := b4z_9.out.c1; have b4z_92 := b4z_9.out.c2; have b4z_93 := b4z_9.out.c3; have b4z_9f0 := b4z_9.out.f0; have b4z_9f1 := b4z_9.out.f1; have b4z_9f2 := b4z_9.out.f2; have b4z_9f3 := b4z_9.out.f3; have b4z_9z := b4z_9.out.z
  clear hW9
  (try simp only [Exit.inBlock, Exit.then]); refine bodyPost_ret (by simp [results, Tryd.results9, go_sem, *]; try rfl) rfl ?_
  exact ⟨rfl, hb9⟩
end Go.Proofs.YtanbplnagcmlcaaDoor

/- Layer 24: the events of a script. -/
namespace Go.Proofs.YtanbplnagcmlcaaDoor
open Go.RowKit Go.Shelf
attribute [local go_sem] Oper.semAt_some
theorem PI.init (w : World) (S : ByteArray) {W : World} (hW : ((((w.alloc (.cells #[.slice none 0 0] 35)).alloc (.cells #[.int .i64 0] 3)).alloc (.cells #[.nilIface] 24)).alloc (.cells #[.slice none 0 0] 35)).alloc (.cells #[.string S] 9) = W) :
    PI w w.heap.size [] W ∧ Blk W (w.heap.size + 4) 9 #[.string S] ∧ W.heap.size = w.heap.size + 5 := by
  have r2 := ((((Blk.new w 35 #[.slice none 0 0]).alloc (.cells #[.int .i64 0] 3)).alloc (.cells #[.nilIface] 24)).alloc (.cells #[.slice none 0 0] 35)).alloc (.cells #[.string S] 9)
  have r3 := (((Blk.new (w.alloc (.cells #[.slice none 0 0] 35)) 3 #[.int .i64 0]).alloc (.cells #[.nilIface] 24)).alloc (.cells #[.slice none 0 0] 35)).alloc (.cells #[.string S] 9)
  have r4 := ((Blk.new ((w.alloc (.cells #[.slice none 0 0] 35)).alloc (.cells #[.int .i64 0] 3)) 24 #[.nilIface]).alloc (.cells #[.slice none 0 0] 35)).alloc (.cells #[.string S] 9)
  have r6 := (Blk.new (((w.alloc (.cells #[.slice none 0 0] 35)).alloc (.cells #[.int .i64 0] 3)).alloc (.cells #[.nilIface] 24)) 35 #[.slice none 0 0]).alloc (.cells #[.string S] 9)
  have rt := Blk.new ((((w.alloc (.cells #[.slice none 0 0] 35)).alloc (.cells #[.int .i64 0] 3)).alloc (.cells #[.nilIface] 24)).alloc (.cells #[.slice none 0 0] 35)) 9 #[.string S]
  have hz : W.heap.size = w.heap.size + 5 := by rw [← hW]; simp
  have hb : Below w.heap.size w W := by rw [← hW]; (repeat' (first | (with_reducible exact Below.refl _ _) | (refine Below.trans ?_ (Below.mono (by with_reducible assumption) ?_)) | (with_reducible exact Below.refl _ _) | (with_reducible refine below_drewN ?_ _) | (with_reducible refine Below.drew ?_) | (with_reducible refine Below.setCell ?_ ?_ _) | (with_reducible refine Below.alloc ?_ ?_ _) | (with_reducible assumption) | (simp; done) | (simp; omega) | omega))
  rw [hW] at r2 r3 r4 r6 rt
  simp only [World.size_alloc, Nat.add_assoc, Nat.reduceAdd] at r3 r4 r6 rt
  exact ⟨⟨hb, by omega, r2, r3, r4, _, [], rfl, r6, EvS.nil _ _⟩, rt, hz⟩
/-- Where the first line that is none stands. -/
def PXs (w0 : World) (B0 : Nat) (l : List Item) (W : World) : Prop := ∃ k : Nat, l[k]? = some .bad ∧ PX w0 B0 ((k : Int) + 1) W
def PIs (w0 : World) (B0 : Nat) (l : List Item) (k : Nat) (W : World) : Prop := PI w0 B0 (evsI (l.take k)) W
theorem take_blk {W : World} {g D : Nat} {t : TypeId} {cs : Array Value} (h : Blk W g t cs) (hD : g < D) (u : Obj) : Blk (W.putObj D u) g t cs := (World.putObj_heap_other (by omega)).trans h
theorem set3 {w W : World} {B : Nat} {a b c : Value} (hb : Below B w W) (h2 : Blk W B 35 #[a]) (h3 : Blk W (B + 1) 3 #[b]) (h4 : Blk W (B + 2) 24 #[c]) (a' b' c' : Value) {W9 : World}
    (h9 : ((W.setCell ⟨B, 0, none⟩ a').setCell ⟨B + 1, 0, none⟩ b').setCell ⟨B + 2, 0, none⟩ c' = W9) :
    Blk W9 B 35 #[a'] ∧ Blk W9 (B + 1) 3 #[b'] ∧ Blk W9 (B + 2) 24 #[c'] ∧ KeepsOthers W W9 ∧ Below B w W9 ∧ ∀ v xs, EvS W (B + 5) v xs → EvS W9 (B + 5) v xs := by
  subst h9
  have k2 := h2.set_ 0 a'
  have k3 := h3.set_ 0 b'
  have k4 := h4.set_ 0 c'
  refine ⟨((k2.far (show B ≠ B + 1 by omega) _).far (show B ≠ B + 2 by omega) _), (((h3.far (show B + 1 ≠ B by omega) _).set_ 0 b').far (show B + 1 ≠ B + 2 by omega) _), (((h4.far (show B + 2 ≠ B by omega) _).far (show B + 2 ≠ B + 1 by omega) _).set_ 0 c'), ?_, ((hb.setCell (Nat.le_refl _) _).setCell (show B ≤ B + 1 by omega) _).setCell (show B ≤ B + 2 by omega) _, fun v xs hs => ((hs.put (by omega) _).put (by omega) _).put (by omega) _⟩
  exact (((KeepsOthers.setCell _ _ _).trans (KeepsOthers.setCell _ _ _)).trans (KeepsOthers.setCell _ _ _))
set_option maxRecDepth 100000 in
set_option maxHeartbeats 3200000 in
theorem parse_nil (w : World) : Calls Tryd.prog 12 #[.string { data := #[] }] w fun e w' => (∃ v, e = .returned (.tuple #[v, .int .i64 0, .nilIface]) ∧ EvS w' w.heap.size v []) ∧ Below w.heap.size w w' := by
  refine callsIn_wide (n := 4).1 ?_
  refine callsIn_of_wp_marks Tryd.func12 rfl trivial ?_
  simp only [Tryd.ntmps12, List.size_toArray, List.length_cons, List.length_nil, Nat.reduceAdd, Nat.reduceSub, Array.replicate_succ, Array.replicate_zero, List.push_toArray, List.append_toArray, List.nil_append, List.cons_append]
  have hct := fun W => count_text [] ⟨by simp, by simp, by decide⟩ W
  have hct' : ∀ W, Calls Tryd.prog 23 #[.string { data := #[] }, .string { data := #[10] }] W fun e w' => e = .returned (.int .i64 0) ∧ w' = W := hct
  clear hct
  gi_wp2_with (first
    | (refine ⟨trivial, ?_⟩; gi_at_call 23; refine (callsIn_wide.2 (hct' _)).mono ?_; rintro e w1 ⟨rfl, rfl⟩)
    | (refine ⟨trivial, ?_⟩; gi_at_call 24; refine (callsIn_wide.2 (lines_any _ _)).mono ?_; rintro e w2 ⟨rfl, rfl⟩))
  generalize hW : (World.alloc _ _ : World) = W1
  obtain ⟨pi, bt, hz1⟩ := PI.init w _ hW
  simp only [Nat.add_assoc, Nat.reduceAdd]
  clear hct' hW
  refine range_own (gf := 34) (lb := #[.pointer (some ⟨w.heap.size + 4, 0, none⟩)]) (Bt := w.heap.size + 4) rfl (by decide) rfl trivial (enters_of Tryd.func34 (by kernel_rfl) rfl) (by omega) (fun _ => rfl)
    (lines1_seq [] ⟨by simp, by simp, by decide⟩ (by decide) 3 (by decide) _ W1 bt) (fun k W => PI w w.heap.size [] W) (fun _ => False)
    (fun k W W' row h hg hr => h.grow hg fun r e => by rw [← hz1]; exact hr r e)
    (fun _ _ _ h _ _ => h.elim) (fun k W u h => h.put u) pi
    ?a1 ?assign ?body ?done ?stop
  case assign =>
    intro l k W K hK
    simp only [encL]
    gi_wp2
    exact hK
  case body =>
    intro l k W _ hk
    exact absurd hk (by simp)
  case done =>
    intro D W hD h hK
    obtain ⟨hbel, hz, r2, r3, r4, v, xs, hev, r6, hs⟩ := h
    obtain ⟨A, c, rfl, _, _⟩ := ownSlice hs.own
    have c2 := r2.cell 0
    have f2 := r2.frozen 0
    have c3 := r3.cell 0
    have f3 := r3.frozen 0
    have c4 := r4.cell 0
    have f4 := r4.frozen 0
    have c6 := r6.cell 0
    simp only [List.getElem?_toArray, List.getElem?_cons_zero] at c2 c3 c4 c6
    have R2 := Lib.hid r2
    have R3 := Lib.hid r3
    have R4 := Lib.hid r4
    have HS := Lib.hid hs
    clear r2 r3 r4 r6 hs
    gi_wp2
    generalize hW9 : (World.setCell _ _ _ : World) = W9
    obtain ⟨k2, k3, k4, kO, kb, ks⟩ := set3 hbel R2.out R3.out R4.out _ _ _ hW9
    have kD := kO.same D _ hK rfl
    have hs9 := ks _ _ HS.out
    obtain rfl : xs = [] := List.map_eq_nil_iff.1 hev
    refine ⟨by simp, .inl ⟨_, _, rfl, run_takeDeferred kD, ?_⟩⟩
    have d2 := (take_blk k2 (show w.heap.size < D by omega) (.deferred none)).cell 0
    have d3 := (take_blk k3 (show w.heap.size + 1 < D by omega) (.deferred none)).cell 0
    have d4 := (take_blk k4 (show w.heap.size + 2 < D by omega) (.deferred none)).cell 0
    simp only [List.getElem?_toArray, List.getElem?_cons_zero] at d2 d3 d4
    refine ⟨_, by simp [results, Tryd.f12, go_sem, d2, d3, d4]; rfl, ?_⟩
    exact ⟨⟨_, rfl, (hs9.mono (show w.heap.size ≤ w.heap.size + 5 by omega)).kept (grownBy_putObj' W9 D _) (fun r e => by cases e; exact ⟨_, kD, rfl⟩)⟩, kb.grown (grownBy_putObj' W9 D _) (by have := kb.size; have := k4.lt; omega) (fun r e => by cases e; omega)⟩
  case stop =>
    intro D W _ h
    exact h.elim
theorem get0 {L : List Nat} (hL : ∀ x ∈ L, x < 256) {m : Nat} (hm : m < L.length) (h : m < (strN L).size) : (((strN L)[m]'h).toNat : Int) = (L[m] : Int) := by
  rw [strN_get hL m hm h]
theorem info_event : (Tryd.prog.info? 29).map (fun i => (i.zero, i.size, i.bytes)) = some (some (.agg #[.int .i64 0, .int .i64 0, .int .i64 0, .slice none 0 0]), 4, 48) := by kernel_rfl
theorem news_at {w : World} {arr : Array Value} {T : TypeId} {b : Nat} (hb : b = w.heap.size) : ∀ j u, arr.toList[j]? = some u → (w.alloc (.cells arr T)).cell? ((⟨b, 0, none⟩ : Addr).add j) = some u := by
  subst hb
  intro j u hu
  have e : (⟨w.heap.size, 0, none⟩ : Addr).add j = ⟨w.heap.size, j, none⟩ := by unfold Addr.add; split <;> simp_all
  rw [e, World.cell?_alloc_mark]
  simpa using hu
/-- What Parse returns. -/
def ParseRes (w : World) (l : List Item) (e : Ending) (w' : World) : Prop :=
  Below w.heap.size w w' ∧ ((∃ v xs, e = .returned (.tuple #[v, .int .i64 0, .nilIface]) ∧ xs.map (·.1) = evsI l ∧ EvS w' w.heap.size v xs ∧ ∀ x ∈ l, x ≠ .bad) ∨
    (∃ k : Nat, l[k]? = some .bad ∧ e = .returned (.tuple #[.slice none 0 0, .int .i64 ((k : Int) + 1), .iface 43 (.int .i64 24)])))
set_option maxRecDepth 100000 in
set_option maxHeartbeats 6400000 in
theorem parse_some (l : List Item) (h : ItemsOk l) (hne : l ≠ []) (w : World) : Calls Tryd.prog 12 #[.string (strN (joinT (textI l)))] w (ParseRes w l) := by
  have hL := h.lines
  have hN : (textI l).length = l.length := by simp [textI]
  have hct := fun W => count_text (textI l) hL W
  rw [hN] at hct
  obtain ⟨p, hp⟩ := join_last (textI l) (by simp [textI, hne])
  have hsz : (strN (joinT (textI l))).size = p.length + 1 := by rw [strN_size, hp]; simp
  have hsm : p.length < (strN (joinT (textI l))).size := by omega
  have g : (((strN (joinT (textI l)))[p.length]'hsm).toNat : Int) = 10 := by
    rw [strN_get (joinT_lt hL) p.length (by rw [hp]; simp) hsm]
    simp [hp]
  have hemp : (strN (joinT (textI l))).toList.isEmpty = false := strN_full _ (by rw [hp]; simp)
  have hpm : p.length ≤ 1000000 := by have := h.len; rw [hp, List.length_append] at this; omega
  have hn := h.n
  have hlen1 : l.length ≤ 100000 := by omega
  have hdec : decide (1000 < (l.length : Int)) = false := by simp; omega
  have hl1 := fun W W1 bt => lines1_seq (textI l) hL (by rw [hN]; exact hlen1) 3 (by decide) W W1 bt
  obtain ⟨S, hS⟩ : ∃ S, S = strN (joinT (textI l)) := ⟨_, rfl⟩
  rw [← hS] at hct ⊢
  have hsz' : S.size = p.length + 1 := by rw [hS]; exact hsz
  have hsm' : p.length < S.size := by omega
  have g' : ((S[p.length]'hsm').toNat : Int) = 10 := by subst hS; exact g
  have hemp' : S.toList.isEmpty = false := by rw [hS]; exact hemp
  have HS := Lib.hid hS
  clear hS g hemp hsz hsm hp
  generalize p.length = m at hsz' hsm' g' hpm
  have HL1 := Lib.hid hl1
  have HCT := Lib.hid hct
  have HI := Lib.hid h
  have HNN := Lib.hid hN
  clear hl1 hct hL h hN hne
  refine callsIn_wide (n := 4).1 ?_
  refine callsIn_of_wp_marks Tryd.func12 rfl trivial ?_
  simp only [Tryd.ntmps12, List.size_toArray, List.length_cons, List.length_nil, Nat.reduceAdd, Nat.reduceSub, Array.replicate_succ, Array.replicate_zero, List.push_toArray, List.append_toArray, List.nil_append, List.cons_append]
  gi_wp2_with (first
    | (refine ⟨trivial, ?_⟩; gi_at_call 23; refine (callsIn_wide.2 (HCT.out _)).mono ?_; rintro e w1 ⟨rfl, rfl⟩)
    | (refine ⟨trivial, ?_⟩; gi_at_call 24; refine (callsIn_wide.2 (lines_any _ _)).mono ?_; rintro e w2 ⟨rfl, rfl⟩))
  generalize hW : (World.alloc _ _ : World) = W1
  obtain ⟨pi, bt, hz1⟩ := PI.init w _ hW
  simp only [Nat.add_assoc, Nat.reduceAdd]
  rw [HS.out] at bt
  clear hW
  refine range_own (gf := 34) (lb := #[.pointer (some ⟨w.heap.size + 4, 0, none⟩)]) (Bt := w.heap.size + 4) rfl (by decide) rfl trivial (enters_of Tryd.func34 (by kernel_rfl) rfl) (by omega) (fun _ => rfl)
    (HL1.out _ W1 bt) (fun k W => PI w w.heap.size (evsI (l.take k)) W ∧ ∀ x ∈ l.take k, x ≠ .bad) (fun W => ∃ k : Nat, l[k]? = some .bad ∧ PX w w.heap.size ((k : Int) + 1) W)
    (fun k W W' row h hg hr => ⟨h.1.grow hg fun r e => by rw [← hz1]; exact hr r e, h.2⟩)
    (fun W W' row h hg hr => by
      obtain ⟨k, hk, hx⟩ := h
      exact ⟨k, hk, hx.grow hg fun r e => by rw [← hz1]; exact hr r e⟩)
    (fun k W u h => ⟨h.1.put u, h.2⟩) ⟨pi, by simp⟩
    ?a1 ?assign ?body ?done ?stop
  case assign =>
    intro l k W K hK
    simp only [encL]
    gi_wp2
    exact hK
  case body =>
    intro lp k W hI hk
    rw [HNN.out] at hk
    have hgd : (textI l)[k]?.getD [] = (l[k]).line := by simp [textI, hk]
    have htk := evsI_take l k hk
    have hbt : ∀ x ∈ l.take (k + 1), x ∈ l.take k ∨ x = l[k] := by
      intro x hx
      rw [List.take_add_one, List.getElem?_eq_getElem hk] at hx
      rcases List.mem_append.1 hx with hx | hx
      · exact .inl hx
      · exact .inr (by simpa using hx)
    have hik : l[k]? = some l[k] := List.getElem?_eq_getElem hk
    have hok := HI.out.ok _ (List.getElem_mem hk)
    rw [hgd, htk]
    obtain ⟨hpi, hnb⟩ := hI
    clear hgd htk
    generalize l[k] = it at hbt hik hok ⊢
    cases it with
    | skip b =>
      have hpost : KeepsOthers W W ∧ TB (w.heap.size + 4) W W ∧ PI w w.heap.size (evsI (l.take k) ++ evsI [.skip b]) W ∧ ∀ x ∈ l.take (k + 1), x ≠ .bad :=
        ⟨KeepsOthers.refl _, rfl, by simpa [evsI] using hpi, fun x hx => by
          rcases hbt x hx with h | h
          · exact hnb x h
          · rw [h]; exact fun e => by cases e⟩
      have HP := Lib.hid hpost
      obtain ⟨hb1, hb2, hb3⟩ := hok
      clear hpost hbt hik hnb hpi
      simp only [Item.line]
      rcases hb3 with rfl | hb3
      · rw [show strN [] = ({ data := #[] } : ByteArray) from rfl]
        gi_wp2
        exact HP.out
      · have hbl : 0 < b.length := by cases b; cases hb3; simp
        have hsb : 0 < (strN b).size := by rw [strN_size]; exact hbl
        have g0 : (((strN b)[0]'hsb).toNat : Int) = 35 := by
          rw [get0 hb1 hbl hsb]
          rw [List.getElem?_eq_getElem hbl] at hb3
          injection hb3 with hb3
          omega
        have he := strN_full b hbl
        generalize strN b = X at hsb g0 he
        clear hb1 hb2 hb3 hbl
        gi_wp2
        exact HP.out
    | ev e =>
      have hlb := line_lt e hok.1.lt
      have hll := line_len e hok.1 hok.2
      obtain ⟨c0, r0, hl0, h35, hc0⟩ := line_head e
      have hbl : 0 < (lineL e).length := by rw [hl0]; simp
      have hsb : 0 < (strN (lineL e)).size := by rw [strN_size]; exact hbl
      have g0 : (((strN (lineL e))[0]'hsb).toNat : Int) = (c0 : Int) := by
        rw [get0 hlb hbl hsb]
        simp [hl0]
      have gn : (((c0 : Int)) == 35) = false := by simp; omega
      have he := strN_full (lineL e) hbl
      have hsz3 : (strN (lineL e)).size ≤ 300 := by rw [strN_size]; exact hll
      have HRD := Lib.hid (fun W => read_ok e hok.1 W)
      obtain ⟨v, xs, hev, r6, hs⟩ := hpi.ev
      obtain ⟨A, cp, rfl, hcp, hcm⟩ := ownSlice hs.own
      have c6 := r6.cell 0
      have f6 := r6.frozen 0
      have hz6 := r6.lt
      simp only [List.getElem?_toArray, List.getElem?_cons_zero] at c6
      have hxl : xs.length ≤ 200 := by
        have h1 := congrArg List.length hev
        rw [List.length_map] at h1
        have : ∀ (a : List Item), (evsI a).length ≤ a.length := by
          intro a
          induction a with
          | nil => simp [evsI]
          | cons x a ih => cases x <;> simp [evsI] <;> omega
        have h2 := this (l.take k)
        rw [List.length_take] at h2
        omega
      have HNB := Lib.hid (fun x (hx : x ∈ l.take (k + 1)) => show x ≠ .bad by
          rcases hbt x hx with h | h
          · exact hnb x h
          · rw [h]; exact fun e => by cases e)
      have HPI := Lib.hid hpi
      have HR6 := Lib.hid r6
      have HSX := Lib.hid hs
      have HEV := Lib.hid hev
      have hzw := hpi.z
      have hd20 : decide (20000 < ((strN (lineL e)).size : Int)) = false := by simp; omega
      obtain ⟨i2, hi2, hy0, hy1, hy2⟩ := info_parts info_event
      simp only [Item.line]
      generalize strN (lineL e) = X at hsb g0 he hsz3 HRD hd20
      clear hbt hik hnb hpi r6 hs hev hok hlb hll hl0 hbl
      gi_wp2_with (first
        | (refine ⟨trivial, ?_⟩; gi_at_call 9; refine (CallsIn.inRound lp (callsIn_wide.2 (HRD.out _))).mono ?_; rintro e w2 ⟨⟨v1, rfl, ho1⟩, q2⟩; obtain ⟨A1, c1, rfl, hc1, _, _⟩ := ho1.slice; have HO1 := Lib.hid ho1; have c62 := (q2.cell (p := ⟨w.heap.size + 3, 0, none⟩) hz6).trans c6; have f62 := (q2.frozen (p := ⟨w.heap.size + 3, 0, none⟩) hz6).trans f6; have hz2 := q2.size; have hz62 : w.heap.size + 3 < w2.heap.size := (by omega); clear ho1)
        | (gi_at_builtin; generalize hSTOP : wpListIn _ _ _ _ _ _ _ _ = GG)
        | fail)
      rw [← hSTOP]
      clear hSTOP
      have hbb : Below W.heap.size W ((w2.alloc (.cells #[.int .i64 (e.k : Int), .int .i64 (e.c : Int), .int .i64 (e.n : Int), .slice A1 e.bs.length c1] 29)).alloc (.cells #[.int .i64 (e.k : Int), .int .i64 (e.c : Int), .int .i64 (e.n : Int), .slice A1 e.bs.length c1] 29)) := by (repeat' (first | (with_reducible exact Below.refl _ _) | (refine Below.trans ?_ (Below.mono (by with_reducible assumption) ?_)) | (with_reducible exact Below.refl _ _) | (with_reducible refine below_drewN ?_ _) | (with_reducible refine Below.drew ?_) | (with_reducible refine Below.setCell ?_ ?_ _) | (with_reducible refine Below.alloc ?_ ?_ _) | (with_reducible assumption) | (simp; done) | (simp; omega) | omega))
      have ho2 := (HO1.out.alloc (.cells #[.int .i64 (e.k : Int), .int .i64 (e.c : Int), .int .i64 (e.n : Int), .slice A1 e.bs.length c1] 29)).alloc (.cells #[.int .i64 (e.k : Int), .int .i64 (e.c : Int), .int .i64 (e.n : Int), .slice A1 e.bs.length c1] 29)
      have hs2 := HSX.out.next hbb
      have hnw := news_at (w := w2.alloc (.cells #[.int .i64 (e.k : Int), .int .i64 (e.c : Int), .int .i64 (e.n : Int), .slice A1 e.bs.length c1] 29)) (arr := #[.int .i64 (e.k : Int), .int .i64 (e.c : Int), .int .i64 (e.n : Int), .slice A1 e.bs.length c1]) (T := 29) (b := w2.heap.size + 1) (by simp)
      refine wpListIn_append_own _ rfl (.tmp 53) (.tmp 55) 35 rfl (w.heap.size + 5) 29 i2 _ 4 48 Tryd.underlying35 hi2 hy0 hy1 hy2 rfl (by decide) (.slice A xs.length cp) xs.length (xs.flatMap evC) rfl hs2.own ⟨w2.heap.size + 1, 0, none⟩ 1 1 [.int .i64 (e.k : Int), .int .i64 (e.c : Int), .int .i64 (e.n : Int), .slice A1 e.bs.length c1] rfl rfl hnw (by simp [Value.oneCell']) (by unfold maxLen; omega) (by omega) (by simp; omega) ?_
      intro v4 w4 hown4 hg4 _
      have hnb3 : some (w.heap.size + 3) ≠ (Value.slice A xs.length cp).ownBlock := fun e => by have := (World.ownsRow.lt hs2.own _ e.symm).1; omega
      have b64 := (HR6.out.below hbb hz6).grown hg4 hnb3
      have c64 := b64.cell 0
      have f64 := b64.frozen 0
      simp only [List.getElem?_toArray, List.getElem?_cons_zero] at c64
      obtain ⟨A4, cp4, rfl, _, _⟩ := ownSlice hown4
      have hfin := PI.snoc (w0 := w) (e := e) (by rw [HEV.out]; exact HPI.out) hbb HR6.out hs2 (ho2.mono (show w.heap.size + 5 ≤ W.heap.size from hzw)) hown4 hg4
      rw [HEV.out] at hfin
      have HF := Lib.hid hfin
      clear hfin hown4 hg4 hs2 ho2 hnw hbb b64 hnb3
      gi_wp2
      exact ⟨HF.out.1, HF.out.2.1, by simpa [evsI] using HF.out.2.2, HNB.out⟩
    | bad =>
      have HRD := Lib.hid (fun W => read_none W)
      have hsb : 0 < (strN [110, 111, 110, 101]).size := by rw [strN_size]; decide
      have g0 : (((strN [110, 111, 110, 101])[0]'hsb).toNat : Int) = 110 := get0 (by decide) (by decide) hsb
      have he := strN_full [110, 111, 110, 101] (by decide)
      simp only [Item.line]
      generalize strN [110, 111, 110, 101] = X at hsb g0 he HRD
      have HPI := Lib.hid hpi
      have c2 := hpi.r2.cell 0
      have f2 := hpi.r2.frozen 0
      have c3 := hpi.r3.cell 0
      have f3 := hpi.r3.frozen 0
      have c4 := hpi.r4.cell 0
      have f4 := hpi.r4.frozen 0
      have z4 := hpi.z
      simp only [List.getElem?_toArray, List.getElem?_cons_zero] at c2 c3 c4
      clear hbt hnb hpi hok
      have HIK := Lib.hid hik
      clear hik
      gi_wp2_with (first
        | (refine ⟨trivial, ?_⟩; gi_at_call 9; refine (CallsIn.inRound lp (callsIn_wide.2 (HRD.out _))).mono ?_; rintro e w2 ⟨rfl, q2⟩; have c22 := Eq.trans (q2.cell (p := ⟨w.heap.size, 0, none⟩) (show w.heap.size < W.heap.size by omega)) c2; have f22 := Eq.trans (q2.frozen (p := ⟨w.heap.size, 0, none⟩) (show w.heap.size < W.heap.size by omega)) f2; have c23 := Eq.trans (q2.cell (p := ⟨w.heap.size + 1, 0, none⟩) (show w.heap.size + 1 < W.heap.size by omega)) c3; have f23 := Eq.trans (q2.frozen (p := ⟨w.heap.size + 1, 0, none⟩) (show w.heap.size + 1 < W.heap.size by omega)) f3; have c24 := Eq.trans (q2.cell (p := ⟨w.heap.size + 2, 0, none⟩) (show w.heap.size + 2 < W.heap.size by omega)) c4; have f24 := Eq.trans (q2.frozen (p := ⟨w.heap.size + 2, 0, none⟩) (show w.heap.size + 2 < W.heap.size by omega)) f4; have hz2 : w.heap.size + 5 ≤ w2.heap.size := (by have := q2.size; omega); have hz22 : w.heap.size < w2.heap.size := (by omega); have hz23 : w.heap.size + 1 < w2.heap.size := (by omega); have hz24 : w.heap.size + 2 < w2.heap.size := (by omega); have HQ2 := Lib.hid q2; clear q2)
        | fail)
      have hb2 : Below W.heap.size W w2 := HQ2.out
      generalize hW9 : (World.setCell _ _ _ : World) = W9
      have hp2 := HPI.out.next hb2
      obtain ⟨k2, k3, k4, kO, kb, ks⟩ := set3 hp2.bel hp2.r2 hp2.r3 hp2.r4 _ _ _ hW9
      exact ⟨((keeps_below hb2).trans kO).trans (KeepsOthers.alloc _ _), k, HIK.out, kb.alloc (by have := kb.size; have := k4.lt; omega) _, k2.alloc _, k3.alloc _, k4.alloc _⟩
  case done =>
    intro D W hD h hK
    obtain ⟨⟨hbel, hz, r2, r3, r4, v, xs, hev, r6, hs⟩, hnb⟩ := h
    obtain ⟨A, c, rfl, _, _⟩ := ownSlice hs.own
    have c2 := r2.cell 0
    have f2 := r2.frozen 0
    have c3 := r3.cell 0
    have f3 := r3.frozen 0
    have c4 := r4.cell 0
    have f4 := r4.frozen 0
    have c6 := r6.cell 0
    simp only [List.getElem?_toArray, List.getElem?_cons_zero] at c2 c3 c4 c6
    have R2 := Lib.hid r2
    have R3 := Lib.hid r3
    have R4 := Lib.hid r4
    have HSX := Lib.hid hs
    have HEV := Lib.hid hev
    have HNB := Lib.hid hnb
    clear r2 r3 r4 r6 hs hev hnb
    gi_wp2
    generalize hW9 : (World.setCell _ _ _ : World) = W9
    obtain ⟨k2, k3, k4, kO, kb, ks⟩ := set3 hbel R2.out R3.out R4.out _ _ _ hW9
    have kD := kO.same D _ hK rfl
    have hs9 := ks _ _ HSX.out
    refine ⟨by simp, .inl ⟨_, _, rfl, run_takeDeferred kD, ?_⟩⟩
    have d2 := (take_blk k2 (show w.heap.size < D by omega) (.deferred none)).cell 0
    have d3 := (take_blk k3 (show w.heap.size + 1 < D by omega) (.deferred none)).cell 0
    have d4 := (take_blk k4 (show w.heap.size + 2 < D by omega) (.deferred none)).cell 0
    simp only [List.getElem?_toArray, List.getElem?_cons_zero] at d2 d3 d4
    refine ⟨_, by simp [results, Tryd.f12, go_sem, d2, d3, d4]; rfl, ?_⟩
    refine ⟨kb.grown (grownBy_putObj' W9 D _) (by have := kb.size; have := k4.lt; omega) (fun r e => by cases e; omega), .inl ⟨_, xs, rfl, ?_, ?_, ?_⟩⟩
    · have := HEV.out
      rw [HNN.out, List.take_length] at this
      exact this
    · exact (hs9.mono (show w.heap.size ≤ w.heap.size + 5 by omega)).kept (grownBy_putObj' W9 D _) (fun r e => by cases e; exact ⟨_, kD, rfl⟩)
    · have := HNB.out
      rw [HNN.out, List.take_length] at this
      exact this
  case stop =>
    intro D W hD h hK
    obtain ⟨k, hk, hbel, r2, r3, r4⟩ := h
    gi_wp2
    refine ⟨by simp, .inl ⟨_, _, rfl, run_takeDeferred hK, ?_⟩⟩
    have d2 := (take_blk r2 (show w.heap.size < D by omega) (.deferred none)).cell 0
    have d3 := (take_blk r3 (show w.heap.size + 1 < D by omega) (.deferred none)).cell 0
    have d4 := (take_blk r4 (show w.heap.size + 2 < D by omega) (.deferred none)).cell 0
    simp only [List.getElem?_toArray, List.getElem?_cons_zero] at d2 d3 d4
    refine ⟨_, by simp [results, Tryd.f12, go_sem, d2, d3, d4]; rfl, ?_⟩
    exact ⟨hbel.grown (grownBy_putObj' W D _) (by have := hbel.size; have := r4.lt; omega) (fun r e => by cases e; omega), .inr ⟨k, hk, rfl⟩⟩
/-- Parse. -/
theorem parse_any (l : List Item) (h : ItemsOk l) (w : World) : Calls Tryd.prog 12 #[.string (strN (joinT (textI l)))] w (ParseRes w l) := by
  by_cases hne : l = []
  · subst hne
    refine (parse_nil w).mono ?_
    rintro e w' ⟨⟨v, rfl, hs⟩, hb⟩
    exact ⟨hb, .inl ⟨v, [], rfl, rfl, hs, by simp⟩⟩
  · exact parse_some l h hne w
end Go.Proofs.YtanbplnagcmlcaaDoor

/- Layer 24: events that came in as an argument, and those that Parse returns, one by one. -/
namespace Go.Proofs.YtanbplnagcmlcaaDoor
open Go.RowKit
theorem flatAt {α : Type} (f : α → List Value) (k : Nat) (hf : ∀ x, (f x).length = k) : ∀ (l : List α) (j i : Nat) (hj : j < l.length), i < k → (l.flatMap f)[j * k + i]? = (f l[j])[i]?
  | x :: l, 0, i, _, hi => by
    rw [List.flatMap_cons, List.getElem?_append_left (by rw [hf]; omega)]
    simp
  | x :: l, j + 1, i, hj, hi => by
    rw [List.flatMap_cons, List.getElem?_append_right (by rw [hf, Nat.add_mul]; omega), hf]
    have := flatAt f k hf l j i (by simpa using hj) hi
    rw [show (j + 1) * k + i - k = j * k + i by rw [Nat.add_mul]; omega, this]
    simp
theorem flatLen {α : Type} (f : α → List Value) (k : Nat) (hf : ∀ x, (f x).length = k) : ∀ (l : List α), (l.flatMap f).length = l.length * k
  | [] => by simp
  | x :: l => by rw [List.flatMap_cons, List.length_append, hf, flatLen f k hf l, List.length_cons, Nat.add_mul]; omega
/-- An event as it lies in memory. -/
structure RawE where
  k : Int
  c : Int
  n : Int
  A : Option Addr
  cap : Nat
  bs : List Nat
def rawC (r : RawE) : List Value := [.int .i64 r.k, .int .i64 r.c, .int .i64 r.n, .slice r.A r.bs.length r.cap]
structure RawE.ok (w : World) (B : Nat) (r : RawE) : Prop where
  k : I64s r.k
  c : I64s r.c
  n : I64s r.n
  rb : RB w B r.A r.bs
  cap : r.bs.length ≤ r.cap
  len : r.bs.length ≤ maxLen
  nil : r.A = none → r.bs = []
theorem RawE.ok.below {w w' : World} {B : Nat} {r : RawE} (h : r.ok w B) (q : Below B w w') : r.ok w' B := ⟨h.k, h.c, h.n, h.rb.below q, h.cap, h.len, h.nil⟩
def RawE.ev (r : RawE) : Ev := ⟨r.k.toNat, r.c.toNat, r.n.toNat, r.bs⟩
/-- It may be told. -/
def RawE.good (r : RawE) : Prop := 0 ≤ r.k ∧ r.k < 8 ∧ rightB r.c (hasC r.k.toNat) = true ∧ rightB r.n (hasN r.k.toNat) = true ∧ r.bs.length ≤ 4096 ∧ (hasT r.k.toNat = true ∨ r.bs.length = 0)
theorem right_pos {n : Int} {b : Bool} (h : rightB n b = true) : 0 ≤ n := by
  unfold rightB at h; cases b
  · simp at h; omega
  · simp at h; omega
theorem RawE.good.ev {w : World} {B : Nat} {r : RawE} (h : r.good) (ho : r.ok w B) : r.ev.ok ∧ (r.ev.k : Int) = r.k ∧ (r.ev.c : Int) = r.c ∧ (r.ev.n : Int) = r.n := by
  obtain ⟨h1, h2, h3, h4, h5, h6⟩ := h
  have e1 : (r.ev.k : Int) = r.k := Int.toNat_of_nonneg h1
  have e2 : (r.ev.c : Int) = r.c := Int.toNat_of_nonneg (right_pos h3)
  have e3 : (r.ev.n : Int) = r.n := Int.toNat_of_nonneg (right_pos h4)
  refine ⟨⟨by omega, by rw [e2]; exact h3, by rw [e3]; exact h4, h5, ?_, ho.rb.1⟩, e1, e2, e3⟩
  rcases h6 with h6 | h6
  · exact .inl h6
  · exact .inr (List.length_eq_zero_iff.1 h6)
/-- Four cells in a row, at q. -/
structure At4 (w : World) (B sb qo : Nat) (sp : Option Nat) (a b c d : Value) : Prop where
  z : sb < B
  c0 : w.cell? ⟨sb, qo, sp⟩ = some a
  c1 : w.cell? ⟨sb, qo + 1, none⟩ = some b
  c2 : w.cell? ⟨sb, qo + 2, none⟩ = some c
  c3 : w.cell? ⟨sb, qo + 3, none⟩ = some d
theorem At4.below {w w' : World} {B sb qo : Nat} {sp : Option Nat} {a b c d : Value} (h : At4 w B sb qo sp a b c d) (q : Below B w w') : At4 w' B sb qo sp a b c d :=
  ⟨h.z, Eq.trans (q.cell (p := ⟨sb, qo, sp⟩) h.z) h.c0, Eq.trans (q.cell (p := ⟨sb, qo + 1, none⟩) h.z) h.c1, Eq.trans (q.cell (p := ⟨sb, qo + 2, none⟩) h.z) h.c2, Eq.trans (q.cell (p := ⟨sb, qo + 3, none⟩) h.z) h.c3⟩
theorem add_at (ad : Addr) (m j : Nat) : ad.add (m + (j + 1)) = ⟨(ad.add m).block, (ad.add m).off + (j + 1), none⟩ := by
  unfold Addr.add
  by_cases h : m = 0
  · subst h; simp
  · rw [if_neg (by omega), if_neg h]
    simp [Nat.add_assoc]
theorem reads4 {w : World} {B n i : Nat} {A : Option Addr} {xs : List Value} {a b c d : Value} (h : Reads w B 4 A n xs) (hi : i < n) (h0 : xs[i * 4]? = some a) (h1 : xs[i * 4 + 1]? = some b) (h2 : xs[i * 4 + 2]? = some c) (h3 : xs[i * 4 + 3]? = some d) :
    ∃ ad sb qo sp, A = some ad ∧ ad.add (i * 4) = ⟨sb, qo, sp⟩ ∧ At4 w B sb qo sp a b c d := by
  obtain ⟨ad, e, hb, hc⟩ := h.2 (by omega)
  have hbl : (ad.add (i * 4)).block = ad.block := by unfold Addr.add; split <;> rfl
  have g1 := hc _ _ h1
  have g2 := hc _ _ h2
  have g3 := hc _ _ h3
  rw [add_at ad (i * 4) 0] at g1
  rw [add_at ad (i * 4) 1] at g2
  rw [add_at ad (i * 4) 2] at g3
  exact ⟨ad, (ad.add (i * 4)).block, (ad.add (i * 4)).off, (ad.add (i * 4)).spot, e, rfl, by rw [hbl]; exact hb, hc _ _ h0, g1, g2, g3⟩
theorem raw_at {w : World} {B i : Nat} {A : Option Addr} {rs : List RawE} (h : Reads w B 4 A rs.length (rs.flatMap rawC)) (hi : i < rs.length) :
    ∃ ad sb qo sp, A = some ad ∧ ad.add (i * 4) = ⟨sb, qo, sp⟩ ∧ At4 w B sb qo sp (.int .i64 rs[i].k) (.int .i64 rs[i].c) (.int .i64 rs[i].n) (.slice rs[i].A rs[i].bs.length rs[i].cap) :=
  reads4 h hi (flatAt rawC 4 (fun _ => rfl) rs i 0 hi (by omega)) (flatAt rawC 4 (fun _ => rfl) rs i 1 hi (by omega)) (flatAt rawC 4 (fun _ => rfl) rs i 2 hi (by omega)) (flatAt rawC 4 (fun _ => rfl) rs i 3 hi (by omega))
theorem EvS.at_ {w : World} {B i : Nat} {A : Option Addr} {c : Nat} {xs : List (Ev × Value)} (h : EvS w B (.slice A xs.length c) xs) (hi : i < xs.length) :
    ∃ ad sb qo sp, A = some ad ∧ ad.add (i * 4) = ⟨sb, qo, sp⟩ ∧ At4 w w.heap.size sb qo sp (.int .i64 (xs[i].1.k : Int)) (.int .i64 (xs[i].1.c : Int)) (.int .i64 (xs[i].1.n : Int)) xs[i].2 :=
  reads4 (Reads.of_own h.own) hi (flatAt evC 4 (fun _ => rfl) xs i 0 hi (by omega)) (flatAt evC 4 (fun _ => rfl) xs i 1 hi (by omega)) (flatAt evC 4 (fun _ => rfl) xs i 2 hi (by omega)) (flatAt evC 4 (fun _ => rfl) xs i 3 hi (by omega))
end Go.Proofs.YtanbplnagcmlcaaDoor
