/- Several texts put together: FmtI, RegH, FmtJ, Product, DecB, DecE. -/
import Derived.Test.YtpkooogfefkcdaaDoorBu6
import Derived.Test.YtpkooogfefkcdaaDoorBu2
import Derived.Test.YtpkooogfefkcdaaDoorBu3
import Derived.Test.YtpkooogfefkcdaaDoorBu1
import Derived.Deep.RegionHeld3
import Derived.Deep.RegionLaw
import Derived.Test.YtpkooogfefkcdaaDoorBu5
/- What a maker's method leaves of memory; a maker's state. -/
namespace Go.Proofs.YtpkooogfefkcdaaDoor
open Go.RowKit
/-- All blocks but g and one row are as they were. -/
structure Upd (g : Nat) (row : Option Nat) (w w' : World) : Prop where
  os : w'.os = w.os
  tape : w'.tape = w.tape
  output : w'.output = w.output
  size : w.heap.size ≤ w'.heap.size
  block : ∀ k, k < w.heap.size → k ≠ g → some k ≠ row → w'.heap[k]? = w.heap[k]?
section
variable {w w' w'' : World} {g : Nat} {row row' : Option Nat}
theorem Upd.refl (g : Nat) (row : Option Nat) (w : World) : Upd g row w w := ⟨rfl, rfl, rfl, Nat.le_refl _, fun _ _ _ _ => rfl⟩
theorem Upd.of_below (q : Below w.heap.size w w') : Upd g row w w' := ⟨q.os, q.tape, q.output, q.size, fun k hk _ _ => q.block k hk⟩
theorem Upd.of_grown (q : w.grownBy w' row) : Upd g row w w' := ⟨q.os, q.tape, q.output, q.size, fun k hk _ hr => q.block k hk hr⟩
theorem Upd.weak (q : Upd g none w w') : Upd g row w w' := ⟨q.os, q.tape, q.output, q.size, fun k hk h1 _ => q.block k hk h1 (by simp)⟩
theorem Upd.trans (h : Upd g row w w') (k : Upd g row' w' w'') (hr : ∀ r, row' = some r → row = some r ∨ w.heap.size ≤ r) : Upd g row w w'' :=
  ⟨k.os.trans h.os, k.tape.trans h.tape, k.output.trans h.output, Nat.le_trans h.size k.size, fun i hi h1 h2 =>
    (k.block i (Nat.lt_of_lt_of_le hi h.size) h1 (fun e => by rcases hr i e.symm with h3 | h3; exact h2 h3.symm; omega)).trans (h.block i hi h1 h2)⟩
theorem Upd.trans_same (h : Upd g row w w') (k : Upd g row w' w'') : Upd g row w w'' := h.trans k fun _ e => .inl e
theorem Upd.next (h : Upd g row w w') (q : Below w'.heap.size w' w'') : Upd g row w w'' := h.trans_same (.of_below q)
theorem Upd.put (h : Upd g row w w') (j : Nat) (u : Value) : Upd g row w (w'.setCell ⟨g, j, none⟩ u) := by
  refine h.trans_same ⟨rfl, rfl, rfl, by simp, fun k _ hk _ => Below.heap_setCell w' _ u k hk⟩
theorem Upd.fresh (h : Upd g row w w') {b : Nat} (hb : w.heap.size ≤ b) (j : Nat) (u : Value) : Upd g row w (w'.setCell ⟨b, j, none⟩ u) :=
  ⟨h.os, h.tape, h.output, by simp; exact h.size, fun k hk h1 h2 => (Below.heap_setCell w' _ u k (by show k ≠ b; omega)).trans (h.block k hk h1 h2)⟩
theorem Upd.alloc (h : Upd g row w w') (o : Obj) : Upd g row w (w'.alloc o) := h.next ((Below.refl _ _).alloc (Nat.le_refl _) _)
theorem Upd.drew (h : Upd g row w w') : Upd g row w w'.drew := h.next (Below.refl _ _).drew
theorem Upd.drewN (h : Upd g row w w') (n : Nat) : Upd g row w (w'.drewN n) := h.next (below_drewN (Below.refl _ _) n)
theorem Upd.below (h : Upd g row w w') {B : Nat} (hB : B ≤ w.heap.size) (hg : B ≤ g) (hr : ∀ r, row = some r → B ≤ r) : Below B w w' :=
  ⟨h.os, h.tape, h.output, h.size, fun k hk => h.block k (by omega) (by omega) (fun e => by have := hr k e.symm; omega)⟩
theorem Upd.blk (h : Upd g row w w') {k : Nat} {t : TypeId} {cs : Array Value} (b : Blk w k t cs) (h1 : k ≠ g) (h2 : some k ≠ row) : Blk w' k t cs := (h.block k b.lt h1 h2).trans b
theorem Upd.reads (h : Upd g row w w') {B s n : Nat} {A : Option Addr} {xs : List Value} (r : Reads w B s A n xs) (hB : B ≤ w.heap.size) (hg : B ≤ g) (hr : ∀ r, row = some r → B ≤ r) : Reads w' B s A n xs := r.below (h.below hB hg hr)
theorem Upd.own (h : Upd g row w w') {base : Nat} {v : Value} {bs : List Nat} (o : OB w base v bs) (hg : g < base) (hr : v.ownBlock = none ∨ v.ownBlock ≠ row) : OB w' base v bs := by
  obtain ⟨hb, hl, h0 | ⟨k, cap, cur, rfl, hbk, hk, rest⟩⟩ := o
  · exact ⟨hb, hl, .inl h0⟩
  · refine ⟨hb, hl, .inr ⟨k, cap, cur, rfl, hbk, ?_, rest⟩⟩
    rw [h.block k (Array.getElem?_eq_some_iff.1 hk).1 (by omega) (by simpa [Value.ownBlock] using hr)]
    exact hk
theorem Upd.cell (h : Upd g row w w') {k j : Nat} (hk : k < w.heap.size) (h1 : k ≠ g) (h2 : some k ≠ row) : w'.cell? ⟨k, j, none⟩ = w.cell? ⟨k, j, none⟩ := World.cell?_of_block (h.block k hk h1 h2)
theorem Upd.frozen (h : Upd g row w w') {k j : Nat} (hk : k < w.heap.size) (h1 : k ≠ g) (h2 : some k ≠ row) : w'.frozen? ⟨k, j, none⟩ = w.frozen? ⟨k, j, none⟩ := World.frozen?_of_block (h.block k hk h1 h2)
end
/-- An argument's cells. -/
def argC (a : ArgF) : List Value := [.string (strN a.s), .bool a.n, .int .u64 a.h, .int .u64 a.l, .bool a.num]
structure ArgF.ok (a : ArgF) : Prop where
  b : ∀ x ∈ a.s, x < 256
  len : a.s.length ≤ 1000000
  wh : Wd a.h
  wl : Wd a.l
  no : a.z = none → goodB a.n a.h a.l = false
  yes : ∀ z, a.z = some z → IsD a.n a.h a.l z
/-- A maker at block g: its arguments, its bytes. -/
structure MkS (w : World) (g B : Nat) (V : Value) (args : List ArgF) (bs : List Nat) : Prop where
  box : ∃ A c, Box2 w g (.slice A args.length c) V ∧ Reads w B 5 A args.length (args.flatMap argC) ∧ args.length ≤ c
  own : OB w (g + 1) V bs
  le : B ≤ g
  ok : ∀ a ∈ args, a.ok
section
variable {w w' : World} {g B : Nat} {V : Value} {args : List ArgF} {bs : List Nat}
theorem MkS.lt (m : MkS w g B V args bs) : g < w.heap.size := by obtain ⟨A, c, b, _⟩ := m.box; exact b.z
theorem Box2.upd {k : Nat} {v0 v1 : Value} (b : Box2 w k v0 v1) (e : w'.heap[k]? = w.heap[k]?) : Box2 w' k v0 v1 :=
  ⟨(World.cell?_of_block (a := ⟨k, 0, none⟩) e).trans b.c0, (World.cell?_of_block (a := ⟨k, 1, none⟩) e).trans b.c1, (World.frozen?_of_block (a := ⟨k, 0, none⟩) e).trans b.f0, (World.frozen?_of_block (a := ⟨k, 1, none⟩) e).trans b.f1, by
    rcases Nat.lt_or_ge k w'.heap.size with h | h
    · exact h
    · have hz := b.z
      rw [Array.getElem?_eq_none h, Array.getElem?_eq_getElem hz] at e; cases e⟩
theorem MkS.next (m : MkS w g B V args bs) (q : Below w.heap.size w w') : MkS w' g B V args bs := by
  have hlt := m.lt
  have hle := m.le
  obtain ⟨A, c, b, r, hc⟩ := m.box
  exact ⟨⟨A, c, b.below q, r.below (q.mono (by omega)), hc⟩, m.own.next q, m.le, m.ok⟩
theorem MkS.block (m : MkS w g B V args bs) : ∀ r, V.ownBlock = some r → g + 1 ≤ r ∧ r < w.heap.size := m.own.block
theorem MkS.put (m : MkS w g B V args bs) {b : Nat} (hb : b ≠ g) (hB : B ≤ b) (hV : V.ownBlock ≠ some b) (j : Nat) (u : Value) : MkS (w.setCell ⟨b, j, none⟩ u) g B V args bs := by
  obtain ⟨A, c, bx, r, hc⟩ := m.box
  refine ⟨⟨A, c, bx.other hb j u, r.setCell hB u, hc⟩, ?_, m.le, m.ok⟩
  exact m.own.kept (row := some b) ⟨rfl, rfl, rfl, by simp, fun k _ hk => Below.heap_setCell w _ u k (fun e => hk (by rw [e]))⟩ (.inr hV)
/-- Behind an append, and the store of its outcome. -/
theorem MkS.grew {V' : Value} {bs' : List Nat} (m : MkS w g B V args bs) (hg : w.grownBy w' V.ownBlock) (ho : OB w' (g + 1) V' bs') : MkS (w'.setCell ⟨g, 1, none⟩ V') g B V' args bs' := by
  have hlt := m.lt
  have hle := m.le
  have hne : some g ≠ V.ownBlock := fun e => by have := m.block g e.symm; omega
  obtain ⟨A, c, b, r, hc⟩ := m.box
  have b2 : Box2 w' g _ _ := b.upd (hg.block g hlt hne)
  refine ⟨⟨A, c, ?_, ?_, hc⟩, ho.setCell (by show g < g + 1; omega) _, m.le, m.ok⟩
  · obtain ⟨c0, c1, f0, f1, z⟩ := b2
    constructor <;> (first | (simp (maxDischargeDepth := 12) [go_sem, *]; done) | (simp; omega))
  · exact (r.grown hg (by omega) fun k hk => by have := m.block k hk; omega).setCell hle _
end
/-- How add goes on: the texts so far are appended. -/
structure AddI (w : World) (g B : Nat) (V : Value) (args : List ArgF) (bs : List Nat) (V' : Value) (wr : World) : Prop where
  m : MkS wr g B V' args bs
  u : Upd g V.ownBlock w wr
  o : ∀ r, V'.ownBlock = some r → V.ownBlock = some r ∨ w.heap.size ≤ r
theorem AddI.step {w wr w2 : World} {g B : Nat} {V V' V2 : Value} {args : List ArgF} {bs bs2 : List Nat} (h : AddI w g B V args bs V' wr) (ho : OB w2 (g + 1) V2 bs2) (hg : wr.grownBy w2 V'.ownBlock) (hr : V2.ownBlock = V'.ownBlock ∨ V2.ownBlock = some wr.heap.size) :
    AddI w g B V args bs2 V2 (w2.setCell ⟨g, 1, none⟩ V2) :=
  ⟨h.m.grew hg ho, (h.u.trans (.of_grown hg) h.o).put 1 _, fun r e => by
    rcases hr with hr | hr
    · exact h.o r (hr ▸ e)
    · rw [hr] at e; injection e with e; right; have := h.u.size; omega⟩
end Go.Proofs.YtpkooogfefkcdaaDoor

/- The moves of a walk through a region that draws its order, the operations by their literal text. -/
namespace Go.Proofs.YtpkooogfefkcdaaDoor
section
variable {P : Program} {ops : Array Oper} {Q : Exit → Act → World → Prop} {md : Region.Mode} {S : World → Prop}
theorem lit_at {i : Nat} {oi : Oper} (h : (ops.toList.drop i).head? = some oi) : ops[i]? = some oi := by
  rw [List.head?_drop] at h
  simpa using h
theorem h4_take {i : Nat} {oi : Oper} {v : Value} {fuel : Nat} {listed : Array Bool} {a : Act} {w : World} (hi : (ops.toList.drop i).head? = some oi)
    (hs : Region.noSelect ops = true) (hf : Region.free md ops listed i = true) (hr : (Region.ready md ops listed).contains i = true)
    (hQ : ∀ c a w, Q (.panic c) (a.put oi.dst v) w → Q (.panic c) a w) (hw : Region.wanted oi (yielded ops a.tmps) = true) (hy : ∀ w, S w → (execOp a.eval oi).run P w = .ok (.value v) w) (hS : S w)
    (h : wpAnyH P md ops Q S fuel (listed.setIfInBounds i true) (a.put oi.dst v) w) : wpAnyH P md ops Q S (fuel + 1) listed a w :=
  wpAnyH_take (lit_at hi) hs hf hr hQ (.inl ⟨hw, hy⟩) hS h
theorem h4_skip {i : Nat} {oi : Oper} {fuel : Nat} {listed : Array Bool} {a : Act} {w : World} (hi : (ops.toList.drop i).head? = some oi)
    (hs : Region.noSelect ops = true) (hf : Region.free md ops listed i = true) (hr : (Region.ready md ops listed).contains i = true)
    (hQ : ∀ c a w, Q (.panic c) (a.put oi.dst undef) w → Q (.panic c) a w) (hw : Region.wanted oi (yielded ops a.tmps) = false) (hS : S w)
    (h : wpAnyH P md ops Q S fuel (listed.setIfInBounds i true) (a.put oi.dst undef) w) : wpAnyH P md ops Q S (fuel + 1) listed a w :=
  wpAnyH_take (lit_at hi) hs hf hr hQ (.inr ⟨hw, rfl⟩) hS h
theorem h4_cons {fuel : Nat} {listed : Array Bool} {a : Act} {w : World} {i : Nat} {o : Oper} {rs : List Nat} (ho : (ops.toList.drop i).head? = some o)
    (h : ∀ K' : Act → World → Prop, Shut (∀ a w, S w → (S w → wpAnyH P md ops Q S fuel (listed.setIfInBounds i true) a w) → K' a w) → if Region.wanted o (yielded ops a.tmps) = true then Oper.wp P o a w K' Q else K' (a.put o.dst undef) w)
    (hs : AllReadyH P md ops Q S fuel listed a w rs) : AllReadyH P md ops Q S fuel listed a w (i :: rs) :=
  AllReadyH.cons (lit_at ho) h hs
end
end Go.Proofs.YtpkooogfefkcdaaDoor

/- Layer 8: add. -/
namespace Go.Proofs.YtpkooogfefkcdaaDoor
open Go.RowKit
/-- What add leaves. -/
def AddPost (g B : Nat) (V : Value) (args : List ArgF) (bs more : List Nat) (w : World) (e : Ending) (w' : World) : Prop :=
  (65536 < bs.length + more.length ∧ (∃ T u, e = .returned (.iface T u)) ∧ Below w.heap.size w w') ∨
  (bs.length + more.length ≤ 65536 ∧ e = .returned .nilIface ∧ ∃ V', MkS w' g B V' args (bs ++ more) ∧ Upd g V.ownBlock w w')
theorem flat_take (Ts : List (List Nat)) (k : Nat) (hk : k < Ts.length) : (Ts.take (k + 1)).flatten = (Ts.take k).flatten ++ Ts[k] := by
  rw [List.take_succ_eq_append_getElem hk, List.flatten_append]; simp
theorem flat_le (Ts : List (List Nat)) (k : Nat) : (Ts.take k).flatten.length ≤ Ts.flatten.length := by
  have h : Ts.flatten = (Ts.take k).flatten ++ (Ts.drop k).flatten := by rw [← List.flatten_append, List.take_append_drop]
  rw [h, List.length_append]; omega
theorem flat_byte {Ts : List (List Nat)} (hT : ∀ T ∈ Ts, ∀ x ∈ T, x < 256) : ∀ x ∈ Ts.flatten, x < 256 := fun x hx => by
  obtain ⟨T, h1, h2⟩ := List.mem_flatten.1 hx
  exact hT T h1 x h2
/-- A text among the texts of a call. -/
def TxB (w : World) (t : Nat) (Ts : List (List Nat)) : Prop := Blk w t 9 (Ts.map fun T => Value.string (strN T)).toArray
theorem TxB.at_ {w : World} {t : Nat} {Ts : List (List Nat)} (h : TxB w t Ts) (k : Nat) (hk : k < Ts.length) : w.cell? ⟨t, k, none⟩ = some (.string (strN Ts[k])) := by
  rw [Blk.cell h k]; simp [hk]
set_option maxRecDepth 100000 in
set_option maxHeartbeats 3200000 in
theorem add_any {g B t blanks c : Nat} {V : Value} {args : List ArgF} {bs : List Nat} (Ts : List (List Nat)) (hT : ∀ T ∈ Ts, ∀ x ∈ T, x < 256) (w : World) (m : MkS w g B V args bs) (hb : bs.length ≤ 65536) (hbl : blanks ≤ 1000000) (hTl : Ts.flatten.length ≤ 1000000000) (hTn : Ts.length ≤ 1000) (ht : TxB w t Ts) (htg : t ≠ g) :
    Calls Tryd.prog 20 #[.pointer (some ⟨g, 0, none⟩), .int .i64 (blanks : Int), .slice (some ⟨t, 0, none⟩) Ts.length c] w (AddPost g B V args bs (List.replicate blanks 32 ++ Ts.flatten) w) := by
  have htB : Blk w t 9 _ := ht
  have hts : V.ownBlock ≠ some t := own_blk_ne m.own.2 htB (by decide)
  have htz := htB.lt
  have hgz := m.lt
  have HVG : Hid (some g ≠ V.ownBlock) := Lib.hid fun e => by have := m.block g e.symm; omega
  obtain ⟨A, ca, bx, hrd, hca⟩ := m.box
  obtain ⟨A0, c0, hV, hc0, hrb, hA0⟩ := m.own.slice
  have hk1 := bx.c1
  have hf1 := bx.f1
  have HM := Lib.hid m
  have HV := Lib.hid hV
  rw [hV] at hk1
  have HX := Lib.hid ht
  have HT := Lib.hid hT
  have hmore : (List.replicate blanks 32 ++ Ts.flatten).length = blanks + Ts.flatten.length := by simp
  obtain ⟨N, hN⟩ : ∃ N, N = Ts.flatten.length := ⟨_, rfl⟩
  have HN := Lib.hid hN
  have HMO := Lib.hid hmore
  rw [← hN] at hTl
  clear hV hrd bx m hrb hA0 htB ht hT hmore hN
  go_enter Tryd.func20, Tryd.ntmps20
  go_wp2
  go_loop [7, 21] (fun n i => ∃ k : Nat, k ≤ Ts.length ∧ i = .int .i64 (k : Int) ∧ n = .int .i64 ((bs.length : Int) + (blanks : Int) + ((Ts.take k).flatten.length : Nat))) (fun _ i => Ts.length - (intOf i).toNat)
  case atStart => exact ⟨0, Nat.zero_le _, rfl, by simp⟩
  case round =>
    obtain ⟨k, hk, rfl, rfl⟩ := hrel
    by_cases hlt : k < Ts.length
    · have hc := HX.out.at_ k hlt
      have hsz := strN_size Ts[k]
      have hfl := congrArg List.length (flat_take Ts k hlt)
      rw [List.length_append] at hfl
      have hfl1 := flat_le Ts k
      have hfl2 := flat_le Ts (k + 1)
      rw [← HN.out] at hfl1 hfl2
      have HFL := Lib.hid hfl
      obtain ⟨S, hS⟩ : ∃ S, S = strN Ts[k] := ⟨_, rfl⟩
      obtain ⟨p, hp⟩ : ∃ p, p = (Ts.take k).flatten.length := ⟨_, rfl⟩
      obtain ⟨q, hq⟩ : ∃ q, q = Ts[k].length := ⟨_, rfl⟩
      rw [← hS] at hc hsz
      rw [← hp] at hfl hfl1 ⊢
      rw [← hq] at hfl hsz
      have HP := Lib.hid hp
      have HQ := Lib.hid hq
      have hs2 : S.size ≤ 1000000000 := by omega
      clear hS hp hq hfl2 hfl
      go_wp2
      go_round
      case rel => exact ⟨k + 1, by omega, by go_num, by rw [HFL.out, ← HP.out, ← HQ.out]; congr 1; omega⟩
      case measure => simp [intOf]; omega
    · obtain rfl : k = Ts.length := by omega
      rw [List.take_length, ← HN.out]
      by_cases hov : 65536 < bs.length + blanks + N
      · go_wp2
        go_ret
        exact .inl ⟨by rw [HMO.out, ← HN.out]; omega, ⟨_, _, rfl⟩, by (repeat' (first | (with_reducible exact Below.refl _ _) | (refine Below.trans ?_ (Below.mono (by with_reducible assumption) ?_)) | (with_reducible exact Below.refl _ _) | (with_reducible refine below_drewN ?_ _) | (with_reducible refine Below.drew ?_) | (with_reducible refine Below.setCell ?_ ?_ _) | (with_reducible refine Below.alloc ?_ ?_ _) | (with_reducible assumption) | (simp; done) | (simp; omega) | omega))⟩
      · have HR := Lib.hid (fun W => show Calls Tryd.prog 30 #[.string { data := #[32] }, .int .i64 (blanks : Int)] W _ from repeat_any 32 blanks hbl W)
        have hR256 : ∀ x ∈ List.replicate blanks 32, x < 256 := fun x hx => by rw [(List.mem_replicate.1 hx).2]; decide
        have hRl : (List.replicate blanks 32).length = blanks := by simp
        have HRL := Lib.hid hRl
        clear hRl
        go_upto_region 9 with fail
        go_region_law (first
          | (refine if_appS (by rfl) _ _ rfl (g + 1) (by omega) _ bs rfl (HV.out ▸ HM2.out.own) _ hR256 rfl (by rw [HRL.out]; omega) (fun v3 w3 ho3 hg3 hr3 => ?_); rw [← HV.out] at hg3 hr3; obtain ⟨A3, c3, hv3, hc3, hrb3, hn3⟩ := ho3.slice; subst hv3; clear hrb3 hn3; have HO3 := Lib.hid ho3; have HG3 := Lib.hid hg3; have HR3 := Lib.hid hr3; clear ho3 hg3 hr3; have hk3 := (World.cell?_of_block (a := ⟨g, 1, none⟩) (HG3.out.block g (by omega) HVG.out)).trans hk2; have hf3 := (World.frozen?_of_block (a := ⟨g, 1, none⟩) (HG3.out.block g (by omega) HVG.out)).trans hf2)
          | (go_simp; go_at_call 30; (with_reducible refine (HR.out _).mono ?_); rintro e w2 ⟨rfl, b2⟩; have p2 : Below w.heap.size w w2 := Below.trans (by repeat' (first | (with_reducible assumption) | (with_reducible exact Below.refl _ _) | (with_reducible refine Below.drew ?_) | (with_reducible refine below_drewN ?_ _) | (with_reducible refine Below.alloc ?_ ?_ _) | (with_reducible exact Nat.le_refl _) | (simp; done) | (simp; omega) | omega)) (Below.mono b2 (by first | omega | (simp; done) | (simp; omega))); have HM2 := Lib.hid (HM.out.next p2); have HT2 := Lib.hid (Blk.below HX.out p2 htz); have hz2 := p2.size; have hk2 := (p2.cell (p := ⟨g, 1, none⟩) hgz).trans hk1; have hf2 := (p2.frozen (p := ⟨g, 1, none⟩) hgz).trans hf1))
        all_goals
          have hs0 : AddI w g B V args bs V w2 := ⟨HM2.out, .of_below (by with_reducible assumption), fun r e => .inl e⟩
          have hs1 := hs0.step HO3.out HG3.out HR3.out
          have HS1 := Lib.hid hs1
          clear hs0 hs1 HO3 HG3 HR3 HM2 HT2 hk3 hf3
          go_wp2_with fail
          go_loopw [45] (fun i wr => ∃ (k : Nat) (V' : Value), k ≤ Ts.length ∧ i = .int .i64 (k : Int) ∧ Hid (AddI w g B V args (bs ++ (List.replicate blanks 32 ++ (Ts.take k).flatten)) V' wr)) (fun i _ => Ts.length - (intOf i).toNat)
          case atStart => exact ⟨0, _, Nat.zero_le _, rfl, by simpa using HS1⟩
          case round =>
            obtain ⟨k, V', hk, rfl, HI0⟩ := hrel
            obtain ⟨bs5, hbs5⟩ : ∃ x, x = bs ++ (List.replicate blanks 32 ++ (Ts.take k).flatten) := ⟨_, rfl⟩
            have hi0 := HI0.out
            rw [← hbs5] at hi0
            have HI := Lib.hid hi0
            have HB5 := Lib.hid hbs5
            clear hi0 HI0 hbs5
            obtain ⟨A4, c4, hV4, hc4, hrb4, hn4⟩ := HI.out.m.own.slice
            obtain ⟨A5, c5, bx5, _, _⟩ := HI.out.m.box
            have hk5 := bx5.c1
            have hf5 := bx5.f1
            have hz5 := HI.out.m.lt
            have HV4 := Lib.hid hV4
            rw [hV4] at hk5
            clear hrb4 hn4 bx5 hV4
            by_cases hlt : k < Ts.length
            · have hblk := HI.out.u.blk HX.out htg (Ne.symm hts)
              have hc := TxB.at_ hblk k hlt
              have hfl := flat_take Ts k hlt
              have HFL := Lib.hid hfl
              have hT5 : ∀ x ∈ Ts[k], x < 256 := HT.out _ (List.getElem_mem hlt)
              have hfll := congrArg List.length hfl
              rw [List.length_append] at hfll
              have hfl2 := flat_le Ts (k + 1)
              rw [← HN.out] at hfl2
              have HLL : Hid (bs5.length + Ts[k].length ≤ 1000000000) := Lib.hid (by rw [HB5.out]; simp only [List.length_append]; rw [HRL.out]; omega)
              have HO5 := HI.out.m.own
              rw [HV4.out] at HO5
              clear hfl hfll hfl2 hblk
              go_wp2_with (first
                | (at_builtin; (refine wpList_appS rfl _ _ rfl (g + 1) (by omega) _ _ rfl HO5 _ hT5 rfl (by have := HLL.out; omega) (fun v6 w6 ho6 hg6 hr6 => ?_)); rw [← HV4.out] at hg6 hr6; obtain ⟨A6, c6, hv6, hc6, hrb6, hn6⟩ := ho6.slice; subst hv6; clear hrb6 hn6; have HS6 := Lib.hid (HI.out.step ho6 hg6 hr6); have hne6 : some g ≠ V'.ownBlock := (fun e => by have := HI.out.m.block g e.symm; omega); have hk6 := (World.cell?_of_block (a := ⟨g, 1, none⟩) (hg6.block g hz5 hne6)).trans hk5; have hf6 := (World.frozen?_of_block (a := ⟨g, 1, none⟩) (hg6.block g hz5 hne6)).trans hf5; clear ho6 hg6 hr6 hne6)
                | fail)
              go_roundw
              case rel => exact ⟨k + 1, _, by omega, by go_num, by rw [HFL.out, ← List.append_assoc (List.replicate blanks 32), ← List.append_assoc bs, ← HB5.out]; have h := HS6; rw [List.length_append] at h; exact h⟩
              case measure => simp [intOf]; omega
            · obtain rfl : k = Ts.length := by omega
              go_wp2_with fail
              go_ret
              exact .inr ⟨by rw [HMO.out, ← HN.out]; omega, rfl, V', by simpa [HB5.out] using HI.out.m, HI.out.u⟩
end Go.Proofs.YtpkooogfefkcdaaDoor

/- dec.product: the product of two magnitudes. -/
namespace Go.Proofs.YtpkooogfefkcdaaDoor
open Go.RowKit
theorem mul64_q (x y : Int) (hx : 0 ≤ x) (hx' : x < 18446744073709551616) (hy : 0 ≤ y) (hy' : y < 18446744073709551616) (w : World) :
    Calls Tryd.prog 22 #[.int .u64 x, .int .u64 y] w fun e w' => e = .returned (.tuple #[.int .u64 (ph x y), .int .u64 (pl x y)]) ∧ w' = w :=
  (mul64 x y hx hx' hy hy' w).mono fun _ _ ⟨he, hw⟩ => ⟨he, hw.symm⟩
def Add (a b s c : Int) : Prop := 0 ≤ s ∧ s < 18446744073709551616 ∧ 0 ≤ c ∧ c ≤ 1 ∧ a + b = c * 18446744073709551616 + s
theorem add_mk {a b : Int} (ha : Wd a) (hb : Wd b) : ∃ s c, Add a b s c ∧ ∀ W : World, (callFunc 37 #[.int .u64 a, .int .u64 b, .int .u64 0]).run Tryd.prog W = .ok (.value (.tuple #[.int .u64 s, .int .u64 c])) W := by
  obtain ⟨a1, a2⟩ := ha; obtain ⟨b1, b2⟩ := hb
  exact ⟨_, _, by unfold Add; omega, fun W => add64_0 a b a1 b1 W⟩
theorem add_zero {a : Int} (ha : Wd a) : ∀ W : World, (callFunc 37 #[.int .u64 a, .int .u64 0, .int .u64 0]).run Tryd.prog W = .ok (.value (.tuple #[.int .u64 a, .int .u64 0])) W := by
  obtain ⟨a1, a2⟩ := ha
  intro W
  have := add64_0 a 0 a1 (by decide) W
  rw [show (a + 0) % 18446744073709551616 = a by omega, show (a + 0) / 18446744073709551616 = 0 by omega] at this
  exact this
end Go.Proofs.YtpkooogfefkcdaaDoor

/- dec.result, Int, Neg: what each call returns, in whatever world. -/
namespace Go.Proofs.YtpkooogfefkcdaaDoor
open Go.RowKit
set_option maxRecDepth 100000 in
set_option maxHeartbeats 400000 in
theorem result_ok (neg : Bool) (a b c d z : Int) (ha : Wd a) (hb : Wd b) (hc : Wd c) (hd : Wd d) (hz : lim4 a b c d = z.natAbs) (hs : z = 0 ∨ neg = decide (z < 0)) (hl : z.natAbs < LIM) (w : World) :
    Calls Tryd.prog 38 #[.bool neg, .agg #[.int .u64 a, .int .u64 b, .int .u64 c, .int .u64 d]] w fun e w' => e = .returned (.tuple #[.agg #[.bool (zn (z)), .int .u64 (zh (z)), .int .u64 (zl (z))], .nilIface]) ∧ Below w.heap.size w w' := by
  obtain ⟨rfl, rfl, hbl⟩ := lim4_lt ha hb hc hd (by omega)
  rw [lim4_small] at hz
  have hi : z ≠ 0 → IsD neg b a z := fun h => ⟨hb, ha, hz, by rcases hs with hs | hs; exact absurd hs h; exact hs, hl⟩
  obtain ⟨a1, a2⟩ := ha; obtain ⟨b1, b2⟩ := hb
  by_cases h0 : z = 0
  · subst h0
    obtain rfl : a = 0 := by simp at hz; omega
    obtain rfl : b = 0 := by simp at hz; omega
    clear hi hs hl hz a1 a2 b1 b2
    have e1 : zn 0 = false := by decide
    have e2 : zh 0 = 0 := by decide
    have e3 : zl 0 = 0 := by decide
    rw [e1, e2, e3]; clear e1 e2 e3
    go_enter Tryd.func38, Tryd.ntmps38
    go_wp2_with (go_at_call 23; refine (below_any _ _ _ _ _).mono ?_; rintro e w' ⟨rfl, rfl⟩)
    go_returns
    exact ⟨rfl, by (repeat' (first | (with_reducible exact Below.refl _ _) | (refine Below.trans ?_ (Below.mono (by with_reducible assumption) ?_)) | (with_reducible exact Below.refl _ _) | (with_reducible refine below_drewN ?_ _) | (with_reducible refine Below.drew ?_) | (with_reducible refine Below.setCell ?_ ?_ _) | (with_reducible refine Below.alloc ?_ ?_ _) | (with_reducible assumption) | (simp; done) | (simp; omega) | omega))⟩
  · obtain ⟨e1, e2, e3⟩ := (hi h0).eq
    rw [← e1, ← e2, ← e3]; clear e1 e2 e3 hi
    by_cases hb0 : b = 0
    · subst hb0
      have ha0 : (a == 0) = false := by rw [beq_eq_false_iff_ne]; omega
      clear hs hl hz h0
      go_enter Tryd.func38, Tryd.ntmps38
      go_wp2_with (go_at_call 23; refine (below_any _ _ _ _ _).mono ?_; rintro e w' ⟨rfl, rfl⟩)
      go_returns
      exact ⟨rfl, by (repeat' (first | (with_reducible exact Below.refl _ _) | (refine Below.trans ?_ (Below.mono (by with_reducible assumption) ?_)) | (with_reducible exact Below.refl _ _) | (with_reducible refine below_drewN ?_ _) | (with_reducible refine Below.drew ?_) | (with_reducible refine Below.setCell ?_ ?_ _) | (with_reducible refine Below.alloc ?_ ?_ _) | (with_reducible assumption) | (simp; done) | (simp; omega) | omega))⟩
    · have hb0' : (b == 0) = false := by rw [beq_eq_false_iff_ne]; omega
      clear hs hl hz h0
      go_enter Tryd.func38, Tryd.ntmps38
      go_wp2_with (go_at_call 23; refine (below_any _ _ _ _ _).mono ?_; rintro e w' ⟨rfl, rfl⟩)
      go_returns
      exact ⟨rfl, by (repeat' (first | (with_reducible exact Below.refl _ _) | (refine Below.trans ?_ (Below.mono (by with_reducible assumption) ?_)) | (with_reducible exact Below.refl _ _) | (with_reducible refine below_drewN ?_ _) | (with_reducible refine Below.drew ?_) | (with_reducible refine Below.setCell ?_ ?_ _) | (with_reducible refine Below.alloc ?_ ?_ _) | (with_reducible assumption) | (simp; done) | (simp; omega) | omega))⟩

theorem wne {x : Int} (h : x ≠ 0) : (x == 0) = false := by rw [beq_eq_false_iff_ne]; exact h
set_option maxRecDepth 100000 in
set_option maxHeartbeats 400000 in
theorem result_over (neg : Bool) (a b c d : Int) (ha : Wd a) (hb : Wd b) (hc : Wd c) (hd : Wd d) (hl : LIM ≤ lim4 a b c d) (w : World) :
    Calls Tryd.prog 38 #[.bool neg, .agg #[.int .u64 a, .int .u64 b, .int .u64 c, .int .u64 d]] w fun e w' => e = .returned (.tuple #[.agg #[.bool false, .int .u64 0, .int .u64 0], .iface 67 (.int .i64 2)]) ∧ Below w.heap.size w w' := by
  by_cases hd0 : d = 0
  · subst hd0
    by_cases hc0 : c = 0
    · subst hc0
      have hbl : blw b a 54210108624275221 12919594847110692864 = false := by
        rw [Bool.eq_false_iff]
        intro h
        rw [blw_iff ha hb] at h
        rw [lim4_small] at hl
        omega
      clear ha hb hc hd hl
      go_enter Tryd.func38, Tryd.ntmps38
      go_wp2_with (go_at_call 23; refine (below_any _ _ _ _ _).mono ?_; rintro e w' ⟨rfl, rfl⟩)
      go_returns
      exact ⟨rfl, by (repeat' (first | (with_reducible exact Below.refl _ _) | (refine Below.trans ?_ (Below.mono (by with_reducible assumption) ?_)) | (with_reducible exact Below.refl _ _) | (with_reducible refine below_drewN ?_ _) | (with_reducible refine Below.drew ?_) | (with_reducible refine Below.setCell ?_ ?_ _) | (with_reducible refine Below.alloc ?_ ?_ _) | (with_reducible assumption) | (simp; done) | (simp; omega) | omega))⟩
    · have hc1 := wne hc0
      clear ha hb hc hd hl
      go_enter Tryd.func38, Tryd.ntmps38
      go_wp2_with (go_at_call 23; refine (below_any _ _ _ _ _).mono ?_; rintro e w' ⟨rfl, rfl⟩)
      go_returns
      exact ⟨rfl, by (repeat' (first | (with_reducible exact Below.refl _ _) | (refine Below.trans ?_ (Below.mono (by with_reducible assumption) ?_)) | (with_reducible exact Below.refl _ _) | (with_reducible refine below_drewN ?_ _) | (with_reducible refine Below.drew ?_) | (with_reducible refine Below.setCell ?_ ?_ _) | (with_reducible refine Below.alloc ?_ ?_ _) | (with_reducible assumption) | (simp; done) | (simp; omega) | omega))⟩
  · have hd1 := wne hd0
    clear ha hb hc hd hl
    go_enter Tryd.func38, Tryd.ntmps38
    go_wp2_with (go_at_call 23; refine (below_any _ _ _ _ _).mono ?_; rintro e w' ⟨rfl, rfl⟩)
    go_returns
    exact ⟨rfl, by (repeat' (first | (with_reducible exact Below.refl _ _) | (refine Below.trans ?_ (Below.mono (by with_reducible assumption) ?_)) | (with_reducible exact Below.refl _ _) | (with_reducible refine below_drewN ?_ _) | (with_reducible refine Below.drew ?_) | (with_reducible refine Below.setCell ?_ ?_ _) | (with_reducible refine Below.alloc ?_ ?_ _) | (with_reducible assumption) | (simp; done) | (simp; omega) | omega))⟩

theorem wrap_i64_u64 (n : Int) (h : 0 ≤ n) (h1 : n < 9223372036854775808) : IntKind.u64.wrap n = n := by rw [IntKind.wrap_u64]; omega
theorem wrap_neg_u64 (n : Int) (h : n < 0) (h1 : -9223372036854775808 ≤ n) : IntKind.u64.wrap (-IntKind.u64.wrap n) = -n := by simp only [IntKind.wrap_u64]; omega
set_option maxRecDepth 100000 in
set_option maxHeartbeats 400000 in
theorem int_any (n : Int) (h0 : -9223372036854775808 ≤ n) (h1 : n < 9223372036854775808) (w : World) :
    Calls Tryd.prog 11 #[.int .i64 n] w fun e w' => e = .returned (.agg #[.bool (zn (n * 1000000)), .int .u64 (zh (n * 1000000)), .int .u64 (zl (n * 1000000))]) ∧ Below w.heap.size w w' := by
  by_cases hn : n < 0
  · have e1 : zn (n * 1000000) = true := by unfold zn; rw [decide_eq_true_eq]; omega
    have e2 : zh (n * 1000000) = ph (-n) 1000000 := by unfold zh ph; omega
    have e3 : zl (n * 1000000) = pl (-n) 1000000 := by unfold zl pl; omega
    rw [e1, e2, e3]; clear e1 e2 e3
    have ew := wrap_neg_u64 n hn h0
    go_enter Tryd.func11, Tryd.ntmps11
    go_wp2_with (go_at_call 22; refine (mul64 _ _ (by omega) (by omega) (by omega) (by omega) _).mono ?_; rintro e w' ⟨rfl, rfl⟩)
    go_returns
    exact ⟨rfl, by (repeat' (first | (with_reducible exact Below.refl _ _) | (refine Below.trans ?_ (Below.mono (by with_reducible assumption) ?_)) | (with_reducible exact Below.refl _ _) | (with_reducible refine below_drewN ?_ _) | (with_reducible refine Below.drew ?_) | (with_reducible refine Below.setCell ?_ ?_ _) | (with_reducible refine Below.alloc ?_ ?_ _) | (with_reducible assumption) | (simp; done) | (simp; omega) | omega))⟩
  · have hd : decide (n < 0) = false := decide_eq_false hn
    have e1 : zn (n * 1000000) = false := by unfold zn; rw [decide_eq_false_iff_not]; omega
    have e2 : zh (n * 1000000) = ph n 1000000 := by unfold zh ph; omega
    have e3 : zl (n * 1000000) = pl n 1000000 := by unfold zl pl; omega
    rw [e1, e2, e3]; clear e1 e2 e3
    go_enter Tryd.func11, Tryd.ntmps11
    go_wp2_with (go_at_call 22; refine (mul64 _ _ (by omega) (by omega) (by omega) (by omega) _).mono ?_; rintro e w' ⟨rfl, rfl⟩)
    go_returns
    exact ⟨rfl, by (repeat' (first | (with_reducible exact Below.refl _ _) | (refine Below.trans ?_ (Below.mono (by with_reducible assumption) ?_)) | (with_reducible exact Below.refl _ _) | (with_reducible refine below_drewN ?_ _) | (with_reducible refine Below.drew ?_) | (with_reducible refine Below.setCell ?_ ?_ _) | (with_reducible refine Below.alloc ?_ ?_ _) | (with_reducible assumption) | (simp; done) | (simp; omega) | omega))⟩

set_option maxRecDepth 100000 in
set_option maxHeartbeats 400000 in
theorem neg_bad (n : Bool) (h l : Int) (hg : goodB n h l = false) (w : World) :
    Calls Tryd.prog 17 #[.agg #[.bool n, .int .u64 h, .int .u64 l]] w fun e w' => e = .returned (.agg #[.bool false, .int .u64 0, .int .u64 0]) ∧ Below w.heap.size w w' := by
  go_enter Tryd.func17, Tryd.ntmps17
  go_wp2_with (go_at_call 14; refine (good_any _ _ _ _).mono ?_; rintro e w1 ⟨rfl, rfl⟩)
  go_returns
  exact ⟨rfl, by (repeat' (first | (with_reducible exact Below.refl _ _) | (refine Below.trans ?_ (Below.mono (by with_reducible assumption) ?_)) | (with_reducible exact Below.refl _ _) | (with_reducible refine below_drewN ?_ _) | (with_reducible refine Below.drew ?_) | (with_reducible refine Below.setCell ?_ ?_ _) | (with_reducible refine Below.alloc ?_ ?_ _) | (with_reducible assumption) | (simp; done) | (simp; omega) | omega))⟩
set_option maxRecDepth 100000 in
set_option maxHeartbeats 400000 in
theorem neg_ok (n : Bool) (h l z : Int) (i : IsD n h l z) (w : World) :
    Calls Tryd.prog 17 #[.agg #[.bool n, .int .u64 h, .int .u64 l]] w fun e w' => e = .returned (.agg #[.bool (zn (-z)), .int .u64 (zh (-z)), .int .u64 (zl (-z))]) ∧ Below w.heap.size w w' := by
  have hg := good_of i
  obtain ⟨e1, e2, e3⟩ := i.eq
  have f2 : zh (-z) = zh z := by unfold zh; simp
  have f3 : zl (-z) = zl z := by unfold zl; simp
  rw [f2, f3, ← e2, ← e3]
  clear e2 e3 f2 f3
  obtain ⟨i1, i2, i3, i4, i5⟩ := i
  obtain ⟨h0, h1⟩ := i1
  obtain ⟨l0, l1⟩ := i2
  by_cases hz : z = 0
  · subst hz
    obtain rfl : h = 0 := by simp at i3; omega
    obtain rfl : l = 0 := by simp at i3; omega
    have f1 : zn (-0) = false := by decide
    have f4 : n = false := by rw [i4]; decide
    rw [f1]
    subst f4
    clear f1 e1 i3 i5 i4 h0 h1 l0 l1
    go_enter Tryd.func17, Tryd.ntmps17
    go_wp2_with (go_at_call 14; refine (good_any _ _ _ _).mono ?_; rintro e w1 ⟨rfl, rfl⟩)
    go_returns
    exact ⟨rfl, by (repeat' (first | (with_reducible exact Below.refl _ _) | (refine Below.trans ?_ (Below.mono (by with_reducible assumption) ?_)) | (with_reducible exact Below.refl _ _) | (with_reducible refine below_drewN ?_ _) | (with_reducible refine Below.drew ?_) | (with_reducible refine Below.setCell ?_ ?_ _) | (with_reducible refine Below.alloc ?_ ?_ _) | (with_reducible assumption) | (simp; done) | (simp; omega) | omega))⟩
  · have f1 : zn (-z) = !n := by
      rw [i4]; unfold zn
      by_cases hs : z < 0
      · rw [decide_eq_true hs, decide_eq_false (by omega)]; rfl
      · rw [decide_eq_false hs, decide_eq_true (by omega)]; rfl
    rw [f1]; clear f1 e1 i4
    by_cases hb0 : h = 0
    · subst hb0
      have ha0 : (l == 0) = false := by rw [beq_eq_false_iff_ne]; omega
      clear i3 i5 h0 h1 l0 l1 hz
      cases n
      all_goals
        go_enter Tryd.func17, Tryd.ntmps17
        go_wp2_with (go_at_call 14; refine (good_any _ _ _ _).mono ?_; rintro e w1 ⟨rfl, rfl⟩)
        go_returns
        exact ⟨rfl, by (repeat' (first | (with_reducible exact Below.refl _ _) | (refine Below.trans ?_ (Below.mono (by with_reducible assumption) ?_)) | (with_reducible exact Below.refl _ _) | (with_reducible refine below_drewN ?_ _) | (with_reducible refine Below.drew ?_) | (with_reducible refine Below.setCell ?_ ?_ _) | (with_reducible refine Below.alloc ?_ ?_ _) | (with_reducible assumption) | (simp; done) | (simp; omega) | omega))⟩
    · have hb1 := wne hb0
      clear i3 i5 h0 h1 l0 l1 hz hb0
      cases n
      all_goals
        go_enter Tryd.func17, Tryd.ntmps17
        go_wp2_with (go_at_call 14; refine (good_any _ _ _ _).mono ?_; rintro e w1 ⟨rfl, rfl⟩)
        go_returns
        exact ⟨rfl, by (repeat' (first | (with_reducible exact Below.refl _ _) | (refine Below.trans ?_ (Below.mono (by with_reducible assumption) ?_)) | (with_reducible exact Below.refl _ _) | (with_reducible refine below_drewN ?_ _) | (with_reducible refine Below.drew ?_) | (with_reducible refine Below.setCell ?_ ?_ _) | (with_reducible refine Below.alloc ?_ ?_ _) | (with_reducible assumption) | (simp; done) | (simp; omega) | omega))⟩
end Go.Proofs.YtpkooogfefkcdaaDoor

/- dec.Mul, Trunc, Whole. -/
namespace Go.Proofs.YtpkooogfefkcdaaDoor
open Go.RowKit
theorem goodD {z : Int} (h : z.natAbs < LIM) : goodB (zn z) (zh z) (zl z) = true := good_of (IsD.of h)
/-- A product, cut behind the sixth place. -/
def mulZ (a b : Int) : Int := (a * b).tdiv 1000000
theorem tdiv_sign {p k : Int} (hk : 0 < k) (h : p.tdiv k ≠ 0) : p.tdiv k < 0 ↔ p < 0 := by
  by_cases hp : 0 ≤ p
  · have := Int.tdiv_nonneg hp (show 0 ≤ k by omega)
    omega
  · have e : p = -(-p) := by omega
    have := Int.tdiv_nonneg (show 0 ≤ -p by omega) (show 0 ≤ k by omega)
    rw [e, Int.neg_tdiv] at h ⊢
    omega
theorem mul_neg_iff {a b : Int} (h : a * b ≠ 0) : a * b < 0 ↔ (a < 0 ↔ ¬ b < 0) := by
  by_cases ha : a < 0 <;> by_cases hb : b < 0
  · have := Int.mul_pos_of_neg_of_neg ha hb
    simp [ha, hb]; omega
  · have := Int.mul_nonpos_of_nonpos_of_nonneg (show a ≤ 0 by omega) (show 0 ≤ b by omega)
    simp [ha, hb]; omega
  · have := Int.mul_nonpos_of_nonneg_of_nonpos (show 0 ≤ a by omega) (show b ≤ 0 by omega)
    simp [ha, hb]; omega
  · have := Int.mul_nonneg (show 0 ≤ a by omega) (show 0 ≤ b by omega)
    simp [ha, hb]; omega
theorem sign_of {n m : Bool} {za zb z : Int} (hn : n = decide (za < 0)) (hm : m = decide (zb < 0)) (h : z < 0 ↔ (za < 0 ↔ ¬ zb < 0)) : (!n == m) = decide (z < 0) := by
  subst hn hm
  by_cases a : za < 0 <;> by_cases b : zb < 0 <;> simp [a, b] at h ⊢ <;> omega
theorem mul_sign {n m : Bool} {za zb : Int} (hn : n = decide (za < 0)) (hm : m = decide (zb < 0)) : mulZ za zb = 0 ∨ (!n == m) = decide (mulZ za zb < 0) := by
  by_cases h : mulZ za zb = 0
  · exact .inl h
  · refine .inr (sign_of hn hm ?_)
    unfold mulZ at h ⊢
    rw [tdiv_sign (by decide) h]
    apply mul_neg_iff
    intro e; rw [e] at h; exact h rfl
end Go.Proofs.YtpkooogfefkcdaaDoor
