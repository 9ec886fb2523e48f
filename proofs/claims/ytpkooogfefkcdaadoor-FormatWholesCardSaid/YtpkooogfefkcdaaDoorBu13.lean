/- Several texts put together: FmtR, FmtS. -/
import Derived.Test.YtpkooogfefkcdaaDoorBu12
/- Layer 8, plain: what a verb tells is bytes, and not many. -/
namespace Go.Proofs.YtpkooogfefkcdaaDoor
open Go.RowKit
/-- Bytes, at most so many. -/
def Few (l : List Nat) (k : Nat) : Prop := (∀ x ∈ l, x < 256) ∧ l.length ≤ k
theorem Few.app {a b : List Nat} {j k m : Nat} (ha : Few a j) (hb : Few b k) (h : j + k ≤ m) : Few (a ++ b) m :=
  ⟨fun x hx => by rcases List.mem_append.1 hx with h | h; exact ha.1 x h; exact hb.1 x h, by rw [List.length_append]; have := ha.2; have := hb.2; omega⟩
theorem Few.rep {c k m : Nat} (h : c < 256) (hk : k ≤ m) : Few (List.replicate k c) m := ⟨fun x hx => by rw [(List.mem_replicate.1 hx).2]; exact h, by simpa using hk⟩
theorem Few.take {a : List Nat} {j : Nat} (ha : Few a j) (k : Nat) : Few (a.take k) j := ⟨fun x hx => ha.1 x (List.mem_of_mem_take hx), by have := ha.2; rw [List.length_take]; omega⟩
theorem few_sign (f : FlagsF) (b : Bool) : Few (signF f b) 1 := by
  unfold signF Few
  split
  · simp
  · split
    · simp
    · split <;> simp
theorem few_digits (z : Int) : Few (digitsF z).1 39 ∧ Few (digitsF z).2 39 := ⟨⟨(digitsF_byte z).1, (digitsF_len z).1⟩, ⟨(digitsF_byte z).2, (digitsF_len z).2⟩⟩
theorem few_filled {p : Int} (hp : p < 1000) {d : List Nat} {k : Nat} (hd : Few d k) : Few (filledF p d) (1000 + k) := by
  unfold filledF
  exact (Few.rep (m := 1000) (by decide) (by omega)).app hd (by omega)
theorem few_fixed {p : Int} (hp : p < 1000) (z : Int) : Few (fixedF p z) 2000 := by
  have hd := few_digits z
  unfold fixedF
  dsimp only
  generalize hc : (if p < 0 then 6 else p.toNat) = c
  have hc2 : c ≤ 1000 := by split at hc <;> omega
  split
  · exact ⟨hd.1.1, by have := hd.1.2; omega⟩
  · refine hd.1.app (k := 1100) ?_ (by omega)
    have h2 : Few ((digitsF z).2 ++ List.replicate (c - (digitsF z).2.length) 48) 1039 := hd.2.app (Few.rep (m := 1000) (by decide) (by omega)) (by omega)
    have h3 := h2.take c
    exact ⟨fun x hx => by rcases List.mem_cons.1 hx with h | h; omega; exact h3.1 x h, by have := h3.2; simp only [List.length_cons]; omega⟩
theorem few_base (up : Bool) (b k n : Nat) (hb : b ≤ 16) (hb0 : 0 < b) : Few (baseF up b k n) k := ⟨fun x hx => by have := baseF_byte up b hb hb0 k n x hx; omega, baseF_len up b k n⟩
theorem few_body {s : SpecF} {a : ArgF} {z : Int} {x y : List Nat} (ok : a.ok) (hp : s.prec < 1000) (h : bodyF s a z = .ok (x, y)) : Few x 1 ∧ Few y 1002000 := by
  have hs : Few a.s 1000000 := ⟨ok.b, ok.len⟩
  have nil1 : Few [] 1 := ⟨by simp, by simp⟩
  have up : ∀ {l : List Nat} {k : Nat}, Few l k → k ≤ 1002000 → Few l 1002000 := fun hl hk => ⟨hl.1, by have := hl.2; omega⟩
  unfold bodyF at h
  split at h
  · injection h with h; injection h with h1 h2; subst h1 h2
    exact ⟨few_sign _ _, up (few_filled hp (few_digits _).1) (by omega)⟩
  · split at h
    · injection h with h; injection h with h1 h2; subst h1 h2
      exact ⟨few_sign _ _, up (few_fixed hp z) (by omega)⟩
    · split at h
      · injection h with h; injection h with h1 h2; subst h1 h2
        refine ⟨nil1, ?_⟩
        split
        · exact up (hs.take _) (by omega)
        · exact up hs (by omega)
      · split at h
        · injection h with h; injection h with h1 h2; subst h1 h2
          exact ⟨nil1, up (hs.take _) (by omega)⟩
        · split at h
          · cases h
          · split at h
            · injection h with h; injection h with h1 h2; subst h1 h2
              exact ⟨nil1, fun c hc => by rw [List.mem_singleton] at hc; omega, by simp⟩
            · split at h
              · injection h with h; injection h with h1 h2; subst h1 h2
                exact ⟨nil1, up (few_filled hp (few_base _ _ 22 _ (by decide) (by decide))) (by omega)⟩
              · injection h with h; injection h with h1 h2; subst h1 h2
                exact ⟨nil1, up (few_filled hp (few_base _ _ 16 _ (by decide) (by decide))) (by omega)⟩
set_option maxRecDepth 100000 in
theorem fault_any (at' next : Nat) (s : SpecF) (w : World) :
    Calls Tryd.prog 19 #[.agg (specV at' s next)] w fun e w' => (∃ T u, e = .returned (.iface T u)) ∧ Below w.heap.size w w' := by
  simp only [specV, specC]
  go_enter Tryd.func19, Tryd.ntmps19
  go_wp2
  go_ret
  exact ⟨⟨_, _, rfl⟩, by (repeat' (first | (with_reducible exact Below.refl _ _) | (refine Below.trans ?_ (Below.mono (by with_reducible assumption) ?_)) | (with_reducible exact Below.refl _ _) | (with_reducible refine below_drewN ?_ _) | (with_reducible refine Below.drew ?_) | (with_reducible refine Below.setCell ?_ ?_ _) | (with_reducible refine Below.alloc ?_ ?_ _) | (with_reducible assumption) | (simp; done) | (simp; omega) | omega))⟩
theorem body_ok {at' next : Nat} {s : SpecF} (hv : isVerb s.verb = true) (hp : -1000 < s.prec ∧ s.prec < 1000) {a : ArgF} (ok : a.ok) {z : Int} (ia : IsD a.n a.h a.l z) {x y : List Nat} (hb : bodyF s a z = .ok (x, y)) (w : World) (ht : TzOk w) :
    Calls Tryd.prog 33 #[.agg (specV at' s next), argV a] w fun e w' => e = .returned (.tuple #[.string (strN x), .string (strN y), .nilIface]) ∧ Below w.heap.size w w' :=
  (body_any at' next s hv hp a ok z ia w ht).mono fun e w' p => by
    obtain ⟨⟨⟨c, h⟩, _⟩ | ⟨x', y', h, he⟩, hbel⟩ := p
    · rw [hb] at h; cases h
    · rw [hb] at h
      injection h with h
      injection h with h1 h2
      subst h1 h2
      exact ⟨he, hbel⟩
theorem body_no {at' next : Nat} {s : SpecF} (hv : isVerb s.verb = true) (hp : -1000 < s.prec ∧ s.prec < 1000) {a : ArgF} (ok : a.ok) {z : Int} (ia : IsD a.n a.h a.l z) {c : Int} (hb : bodyF s a z = .error c) (w : World) (ht : TzOk w) :
    Calls Tryd.prog 33 #[.agg (specV at' s next), argV a] w fun e w' => (∃ T u, e = .returned (.tuple #[.string { data := #[] }, .string { data := #[] }, .iface T u])) ∧ Below w.heap.size w w' :=
  (body_any at' next s hv hp a ok z ia w ht).mono fun e w' p => by
    obtain ⟨⟨_, h⟩ | ⟨x', y', h, he⟩, hbel⟩ := p
    · exact ⟨h, hbel⟩
    · rw [hb] at h; cases h
theorem TzOk.belowB {w w' : World} (h : TzOk w) {B : Nat} (hB : 8 < B) (q : Below B w w') : TzOk w' := by
  unfold TzOk Lib.TabIs World.var? at h ⊢
  rw [show Tryd.prog.globalNamed "math/bits.deBruijn64tab" = some 8 by kernel_rfl] at h ⊢
  simp only [Option.bind_some] at h ⊢
  rw [q.block _ hB]; exact h
theorem TzOk.upd {w w' : World} (h : TzOk w) {g : Nat} {row : Option Nat} (hg : 8 < g) (hz : g < w.heap.size) (hr : ∀ r, row = some r → g < r) (u : Upd g row w w') : TzOk w' :=
  h.belowB (B := g) hg (u.below (by omega) (Nat.le_refl _) fun r e => by have := hr r e; omega)
/-- add's contract, its answer a value. -/
theorem add_val {g B t blanks c : Nat} {V : Value} {args : List ArgF} {bs : List Nat} (Ts : List (List Nat)) (hT : ∀ T ∈ Ts, ∀ x ∈ T, x < 256) (w : World) (m : MkS w g B V args bs) (hb : bs.length ≤ 65536) (hbl : blanks ≤ 1000000) (hTl : Ts.flatten.length ≤ 1000000000) (hTn : Ts.length ≤ 1000) (ht : TxB w t Ts) (htg : t ≠ g) :
    Calls Tryd.prog 20 #[.pointer (some ⟨g, 0, none⟩), .int .i64 (blanks : Int), .slice (some ⟨t, 0, none⟩) Ts.length c] w fun e w' => ∃ v, e = .returned v ∧ AddPost g B V args bs (List.replicate blanks 32 ++ Ts.flatten) w (.returned v) w' :=
  (add_any Ts hT w m hb hbl hTl hTn ht htg).mono fun e w' p => by
    rcases p with ⟨h1, ⟨T, u, rfl⟩, h3⟩ | ⟨h1, rfl, h3⟩
    · exact ⟨_, rfl, .inl ⟨h1, ⟨_, _, rfl⟩, h3⟩⟩
    · exact ⟨_, rfl, .inr ⟨h1, rfl, h3⟩⟩
end Go.Proofs.YtpkooogfefkcdaaDoor

/- Layer 8: tell. -/
namespace Go.Proofs.YtpkooogfefkcdaaDoor
open Go.RowKit
/-- What tell leaves. -/
def TellPost (g B : Nat) (V : Value) (s : SpecF) (args : List ArgF) (bs : List Nat) (w : World) (e : Ending) (w' : World) : Prop :=
  ((∃ c, tellF s args bs = .error c) ∧ (∃ T u, e = .returned (.iface T u)) ∧ Upd g V.ownBlock w w') ∨
  (∃ b' r, tellF s args bs = .ok (b', r) ∧ e = .returned .nilIface ∧ ∃ V', MkS w' g B V' r b' ∧ Upd g V.ownBlock w w')
theorem star_no {g B : Nat} {V : Value} {args : List ArgF} {bs : List Nat} {w : World} (m : MkS w g B V args bs) (h : starF args = none) :
    Calls Tryd.prog 31 #[.pointer (some ⟨g, 0, none⟩)] w fun e w' => (∃ T u, e = .returned (.tuple #[.int .i64 0, .iface T u])) ∧ Upd g none w w' :=
  (star_any w m).mono fun e w' p => by
    rcases p with ⟨_, h1, h2⟩ | ⟨k, r, h1, _⟩
    · exact ⟨h1, h2⟩
    · rw [h] at h1; cases h1
theorem star_ok {g B : Nat} {V : Value} {args r : List ArgF} {k : Int} {bs : List Nat} {w : World} (m : MkS w g B V args bs) (h : starF args = some (k, r)) :
    Calls Tryd.prog 31 #[.pointer (some ⟨g, 0, none⟩)] w fun e w' => e = .returned (.tuple #[.int .i64 k, .nilIface]) ∧ -999 ≤ k ∧ k ≤ 999 ∧ MkS w' g B V r bs ∧ Upd g none w w' :=
  (star_any w m).mono fun e w' p => by
    rcases p with ⟨h1, _⟩ | ⟨k', r', h1, h2, h3, h4, h5, h6⟩
    · rw [h] at h1; cases h1
    · rw [h] at h1
      injection h1 with h1
      injection h1 with h1 h6
      subst h1 h6
      exact ⟨h2, h3, h4, h5, by assumption⟩
/-- In the midst of tell: the spec's box, the maker. -/
structure TS (a next : Nat) (w : World) (g B : Nat) (V : Value) (s : SpecF) (args : List ArgF) (bs : List Nat) (wx : World) : Prop where
  k : specK a s (s.verb : Int) next wx w.heap.size
  m : MkS wx g B V args bs
  u : Upd g none w wx
  wd : s.width < 1000
  pr : -1000 < s.prec ∧ s.prec < 1000
theorem Box11.upd {w w' : World} {k : Nat} {v0 v1 v2 v3 v4 v5 v6 v7 v8 v9 v10 : Value} (b : Box11 w k v0 v1 v2 v3 v4 v5 v6 v7 v8 v9 v10) (e : w'.heap[k]? = w.heap[k]?) : Box11 w' k v0 v1 v2 v3 v4 v5 v6 v7 v8 v9 v10 := by
  have hz := b.z
  refine ⟨(World.cell?_of_block (a := ⟨k, 0, none⟩) e).trans b.c0, (World.cell?_of_block (a := ⟨k, 1, none⟩) e).trans b.c1, (World.cell?_of_block (a := ⟨k, 2, none⟩) e).trans b.c2, (World.cell?_of_block (a := ⟨k, 3, none⟩) e).trans b.c3, (World.cell?_of_block (a := ⟨k, 4, none⟩) e).trans b.c4, (World.cell?_of_block (a := ⟨k, 5, none⟩) e).trans b.c5, (World.cell?_of_block (a := ⟨k, 6, none⟩) e).trans b.c6, (World.cell?_of_block (a := ⟨k, 7, none⟩) e).trans b.c7, (World.cell?_of_block (a := ⟨k, 8, none⟩) e).trans b.c8, (World.cell?_of_block (a := ⟨k, 9, none⟩) e).trans b.c9, (World.cell?_of_block (a := ⟨k, 10, none⟩) e).trans b.c10, (World.frozen?_of_block (a := ⟨k, 0, none⟩) e).trans b.f0, (World.frozen?_of_block (a := ⟨k, 1, none⟩) e).trans b.f1, (World.frozen?_of_block (a := ⟨k, 2, none⟩) e).trans b.f2, (World.frozen?_of_block (a := ⟨k, 3, none⟩) e).trans b.f3, (World.frozen?_of_block (a := ⟨k, 4, none⟩) e).trans b.f4, (World.frozen?_of_block (a := ⟨k, 5, none⟩) e).trans b.f5, (World.frozen?_of_block (a := ⟨k, 6, none⟩) e).trans b.f6, (World.frozen?_of_block (a := ⟨k, 7, none⟩) e).trans b.f7, (World.frozen?_of_block (a := ⟨k, 8, none⟩) e).trans b.f8, (World.frozen?_of_block (a := ⟨k, 9, none⟩) e).trans b.f9, (World.frozen?_of_block (a := ⟨k, 10, none⟩) e).trans b.f10, ?_⟩
  rcases Nat.lt_or_ge k w'.heap.size with h | h
  · exact h
  · rw [Array.getElem?_eq_none h, Array.getElem?_eq_getElem hz] at e; cases e
/-- Behind a call that touches the maker alone. -/
theorem TS.upd {a next g B : Nat} {w wx wy : World} {V : Value} {s : SpecF} {args r : List ArgF} {bs : List Nat} (t : TS a next w g B V s args bs wx) (hg : g < w.heap.size) (u : Upd g none wx wy) (m : MkS wy g B V r bs) : TS a next w g B V s r bs wy :=
  ⟨Box11.upd t.k (u.block w.heap.size t.k.z (by omega) (by simp)), m, t.u.trans_same u, t.wd, t.pr⟩
/-- The walls of tell's stores into its box. -/
structure TW (w : World) (g B : Nat) (V : Value) : Prop where
  g : g < w.heap.size
  b : B ≤ w.heap.size
  v : ∀ b, w.heap.size ≤ b → V.ownBlock ≠ some b
section
variable {a next g B : Nat} {w wx : World} {V : Value} {fl : FlagsF} {wd : Nat} {pr : Int} {sw sp : Bool} {vb ln : Nat} {args : List ArgF} {bs : List Nat}
theorem TS.put {s s' : SpecF} (t : TS a next w g B V s args bs wx) (tw : TW w g B V) (j : Nat) (u : Value) (hw : s'.width < 1000) (hp : -1000 < s'.prec ∧ s'.prec < 1000) (hk : specK a s' (s'.verb : Int) next (wx.setCell ⟨w.heap.size, j, none⟩ u) w.heap.size) : TS a next w g B V s' args bs (wx.setCell ⟨w.heap.size, j, none⟩ u) :=
  ⟨hk, t.m.put (by have := tw.g; omega) tw.b (tw.v _ (Nat.le_refl _)) j u, t.u.fresh (Nat.le_refl _) j u, hw, hp⟩
theorem TS.width (t : TS a next w g B V ⟨fl, wd, pr, sw, sp, vb, ln⟩ args bs wx) (tw : TW w g B V) (c : Nat) (hc : c < 1000) : TS a next w g B V ⟨fl, c, pr, sw, sp, vb, ln⟩ args bs (wx.setCell ⟨w.heap.size, 5, none⟩ (.int .i64 (c : Int))) :=
  t.put tw 5 _ hc t.pr (by
    obtain ⟨c0, c1, c2, c3, c4, c5, c6, c7, c8, c9, c10, f0, f1, f2, f3, f4, f5, f6, f7, f8, f9, f10, z⟩ := t.k
    constructor <;> (first | (simp (maxDischargeDepth := 20) [go_sem, *]; done) | (simp; omega)))
theorem TS.left (t : TS a next w g B V ⟨fl, wd, pr, sw, sp, vb, ln⟩ args bs wx) (tw : TW w g B V) : TS a next w g B V ⟨{ fl with left := true }, wd, pr, sw, sp, vb, ln⟩ args bs (wx.setCell ⟨w.heap.size, 1, none⟩ (.bool true)) :=
  t.put tw 1 _ t.wd t.pr (by
    obtain ⟨c0, c1, c2, c3, c4, c5, c6, c7, c8, c9, c10, f0, f1, f2, f3, f4, f5, f6, f7, f8, f9, f10, z⟩ := t.k
    constructor <;> (first | (simp (maxDischargeDepth := 20) [go_sem, *]; done) | (simp; omega)))
theorem TS.wneg (t : TS a next w g B V ⟨fl, wd, pr, sw, sp, vb, ln⟩ args bs wx) (tw : TW w g B V) (v : Value) (c : Nat) (hc : c < 1000) : TS a next w g B V ⟨{ fl with left := true }, c, pr, sw, sp, vb, ln⟩ args bs (((wx.setCell ⟨w.heap.size, 5, none⟩ v).setCell ⟨w.heap.size, 1, none⟩ (.bool true)).setCell ⟨w.heap.size, 5, none⟩ (.int .i64 (c : Int))) := by
  have hg := tw.g
  refine ⟨?_, ((t.m.put (by omega) tw.b (tw.v _ (Nat.le_refl _)) 5 _).put (by omega) tw.b (tw.v _ (Nat.le_refl _)) 1 _).put (by omega) tw.b (tw.v _ (Nat.le_refl _)) 5 _, ((t.u.fresh (Nat.le_refl _) 5 _).fresh (Nat.le_refl _) 1 _).fresh (Nat.le_refl _) 5 _, hc, t.pr⟩
  obtain ⟨c0, c1, c2, c3, c4, c5, c6, c7, c8, c9, c10, f0, f1, f2, f3, f4, f5, f6, f7, f8, f9, f10, z⟩ := t.k
  constructor <;> (first | (simp (maxDischargeDepth := 20) [go_sem, *]; done) | (simp; omega))
theorem TS.prec (t : TS a next w g B V ⟨fl, wd, pr, sw, sp, vb, ln⟩ args bs wx) (tw : TW w g B V) (c : Int) (hc : -1000 < c ∧ c < 1000) : TS a next w g B V ⟨fl, wd, c, sw, sp, vb, ln⟩ args bs (wx.setCell ⟨w.heap.size, 6, none⟩ (.int .i64 c)) :=
  t.put tw 6 _ t.wd hc (by
    obtain ⟨c0, c1, c2, c3, c4, c5, c6, c7, c8, c9, c10, f0, f1, f2, f3, f4, f5, f6, f7, f8, f9, f10, z⟩ := t.k
    constructor <;> (first | (simp (maxDischargeDepth := 20) [go_sem, *]; done) | (simp; omega)))
end
theorem tellF_plain (fl : FlagsF) (wd : Nat) (pr : Int) (sw sp : Bool) (vb ln : Nat) (r : List ArgF) (bs : List Nat) : tellF ⟨fl, wd, pr, false, false, vb, ln⟩ r bs = if vb = 0 then .error 4 else match takeF r with
    | none => .error 1
    | some (a, z, r3) => match bodyF ⟨fl, wd, pr, sw, sp, vb, ln⟩ a z with
      | .error e => .error e
      | .ok x => match addF bs (laidF ⟨fl, wd, pr, sw, sp, vb, ln⟩ x) with
        | .error e => .error e
        | .ok b' => .ok (b', r3) := rfl
theorem widthF_no {s : SpecF} {args : List ArgF} (hs : s.sw = true) (h : starF args = none) (bs : List Nat) : tellF s args bs = .error 1 := by
  have : widthF s args = none := by simp [widthF, hs, h]
  unfold tellF; rw [this]
theorem txb1 (W : World) (a : List Nat) : TxB (W.alloc (.cells #[.string (strN a)] 9)) W.heap.size [a] := Blk.new _ _ _
theorem txb2 (W : World) (a b : List Nat) : TxB (W.alloc (.cells #[.string (strN a), .string (strN b)] 9)) W.heap.size [a, b] := Blk.new _ _ _
theorem txb3 (W : World) (a b c : List Nat) : TxB (W.alloc (.cells #[.string (strN a), .string (strN b), .string (strN c)] 9)) W.heap.size [a, b, c] := Blk.new _ _ _
theorem add_tell {g B : Nat} {V : Value} {s : SpecF} {args r : List ArgF} {bs more L : List Nat} {w W w' : World} {e : Ending} (h : tellF s args bs = match addF bs L with | .error e => .error e | .ok b' => .ok (b', r)) (hm : more = L) (u : Upd g none w W) (p : AddPost g B V r bs more W e w') : TellPost g B V s args bs w e w' := by
  subst hm
  rcases p with ⟨h1, h2, h3⟩ | ⟨h1, h2, V', h3, h4⟩
  · refine .inl ⟨⟨13, ?_⟩, h2, (u.next h3).weak⟩
    rw [h, addF, if_pos h1]
  · refine .inr ⟨bs ++ more, r, ?_, h2, V', h3, u.weak.trans_same h4⟩
    rw [h, addF, if_neg (by omega)]
set_option maxRecDepth 100000 in
set_option maxHeartbeats 6400000 in
theorem tell_any {g B : Nat} {V : Value} {args : List ArgF} {bs : List Nat} (at' next : Nat) (s : SpecF) (hv : isVerb s.verb = true ∨ s.verb = 0) (hwd : s.width < 1000) (hpr : -1000 < s.prec ∧ s.prec < 1000) (w : World) (m : MkS w g B V args bs) (hb : bs.length ≤ 65536) (hg8 : 8 < g) (ht : TzOk w) :
    Calls Tryd.prog 21 #[.pointer (some ⟨g, 0, none⟩), .agg (specV at' s next)] w (TellPost g B V s args bs w) := by
  have hgz := m.lt
  have HM := Lib.hid m
  have HTZ := Lib.hid ht
  have HNV : Hid (∀ b, w.heap.size ≤ b → V.ownBlock ≠ some b) := Lib.hid fun b hb e => by have := m.block b e; omega
  obtain ⟨fl, wd, pr, sw, sp, vb, ln⟩ := s
  have HT0 : Hid (TS at' next w g B V ⟨fl, wd, pr, sw, sp, vb, ln⟩ args bs (w.alloc (.cells (specV at' ⟨fl, wd, pr, sw, sp, vb, ln⟩ next) 52))) :=
    Lib.hid ⟨Box11.make w _ _ _ _ _ _ _ _ _ _ _ _ rfl, m.next (by (repeat' (first | (with_reducible exact Below.refl _ _) | (refine Below.trans ?_ (Below.mono (by with_reducible assumption) ?_)) | (with_reducible exact Below.refl _ _) | (with_reducible refine below_drewN ?_ _) | (with_reducible refine Below.drew ?_) | (with_reducible refine Below.setCell ?_ ?_ _) | (with_reducible refine Below.alloc ?_ ?_ _) | (with_reducible assumption) | (simp; done) | (simp; omega) | omega))), .of_below (by (repeat' (first | (with_reducible exact Below.refl _ _) | (refine Below.trans ?_ (Below.mono (by with_reducible assumption) ?_)) | (with_reducible exact Below.refl _ _) | (with_reducible refine below_drewN ?_ _) | (with_reducible refine Below.drew ?_) | (with_reducible refine Below.setCell ?_ ?_ _) | (with_reducible refine Below.alloc ?_ ?_ _) | (with_reducible assumption) | (simp; done) | (simp; omega) | omega))), hwd, hpr⟩
  have k0 := HT0.out.k
  simp only [specK] at k0
  simp only [specV, specC] at HT0 ⊢
  dsimp only at hv hwd hpr
  have HTW : Hid (TW w g B V) := Lib.hid ⟨hgz, by have := m.le; omega, HNV.out⟩
  clear m ht k0
  go_enter Tryd.func21, Tryd.ntmps21
  go_upto_if 11 with fail
  go_cut [5] from 12 to 28 (fun x wx => x = .nilIface ∧ ∃ s1 r1, Hid (widthF ⟨fl, wd, pr, sw, sp, vb, ln⟩ args = some (s1, r1)) ∧ s1.sp = sp ∧ s1.verb = vb ∧ Hid (TS at' next w g B V s1 r1 bs wx))
  case first =>
    cases sw
    · go_wp2_with fail
      go_meet
      exact ⟨rfl, _, _, Lib.hid rfl, rfl, rfl, HT0⟩
    · cases hS : starF args with
      | none =>
        have HE := Lib.hid (widthF_no (s := ⟨fl, wd, pr, true, sp, vb, ln⟩) rfl hS bs)
        go_wp2_with (first
          | (go_at_call 31; (with_reducible refine (star_no HT0.out.m hS).mono ?_); rintro e w2 ⟨⟨T, u, rfl⟩, u2⟩; have k2 : specK at' ⟨fl, wd, pr, true, sp, vb, ln⟩ (vb : Int) next w2 w.heap.size := Box11.upd HT0.out.k (u2.block w.heap.size HT0.out.k.z (by omega) (by simp)); have q5 := k2.c5; have e5 := k2.f5; have z2 := k2.z; have HU2 := Lib.hid (HT0.out.u.trans_same u2); clear u2 k2)
          | fail)
        go_ret
        exact .inl ⟨⟨_, HE.out⟩, ⟨_, _, rfl⟩, (HU2.out.fresh (Nat.le_refl _) 5 _).weak⟩
      | some x =>
        obtain ⟨c, r⟩ := x
        have hW : widthF ⟨fl, wd, pr, true, sp, vb, ln⟩ args = some (if c < 0 then ⟨{ fl with left := true }, (-c).toNat, pr, true, sp, vb, ln⟩ else ⟨fl, c.toNat, pr, true, sp, vb, ln⟩, r) := by simp [widthF, hS]
        go_wp2_with (first
          | (go_at_call 31; (with_reducible refine (star_ok HT0.out.m hS).mono ?_); rintro e w2 ⟨rfl, hc0, hc1, m2, u2⟩; have t2 := HT0.out.upd hgz u2 m2; have HT2 := Lib.hid t2; have q1 := t2.k.c1; have e1 := t2.k.f1; have q5 := t2.k.c5; have e5 := t2.k.f5; have z2 := t2.k.z; clear u2 m2 t2)
          | fail)
        · rename_i hneg
          go_meet
          obtain ⟨n, rfl⟩ : ∃ n : Nat, c = -(n : Int) := ⟨(-c).toNat, by omega⟩
          refine ⟨rfl, _, _, Lib.hid hW, ?_⟩
          rw [if_pos hneg]
          refine ⟨rfl, rfl, Lib.hid ?_⟩
          rw [Int.neg_neg, Int.toNat_natCast]
          exact HT2.out.wneg HTW.out _ n (by omega)
        · rename_i hneg
          go_meet
          obtain ⟨n, rfl⟩ : ∃ n : Nat, c = (n : Int) := ⟨c.toNat, by omega⟩
          refine ⟨rfl, _, _, Lib.hid hW, ?_⟩
          rw [if_neg (by omega)]
          refine ⟨rfl, rfl, Lib.hid ?_⟩
          rw [Int.toNat_natCast]
          exact HT2.out.width HTW.out n (by omega)
  case rest =>
  obtain ⟨rfl, ⟨fl1, wd1, pr1, sw1, sp1, vb1, ln1⟩, r1, HW1, hsp, hvb, HT1⟩ := hcut
  dsimp only at hsp hvb
  obtain rfl := hsp
  obtain rfl := hvb
  obtain ⟨w1, rfl⟩ : ∃ x, x = wc := ⟨_, rfl⟩
  have q8 := HT1.out.k.c8
  have z1 := HT1.out.k.z
  dsimp only at q8
  clear HT0
  go_upto_if 30 with fail
  go_cut [5] from 31 to 39 (fun x wx => x = .nilIface ∧ ∃ s2 r2, Hid (precF ⟨fl1, wd1, pr1, sw1, sp1, vb1, ln1⟩ r1 = some (s2, r2)) ∧ s2.verb = vb1 ∧ Hid (TS at' next w g B V s2 r2 bs wx))
  case first =>
    cases sp1
    · go_wp2_with fail
      go_meet
      exact ⟨rfl, _, _, Lib.hid rfl, rfl, HT1⟩
    · cases hS : starF r1 with
      | none =>
        have hE : tellF ⟨fl, wd, pr, sw, true, vb1, ln⟩ args bs = .error 1 := by
          have : precF ⟨fl1, wd1, pr1, sw1, true, vb1, ln1⟩ r1 = none := by simp [precF, hS]
          unfold tellF; rw [HW1.out]; dsimp only; rw [this]
        have HE := Lib.hid hE
        clear hE
        go_wp2_with (first
          | (go_at_call 31; (with_reducible refine (star_no HT1.out.m hS).mono ?_); rintro e w2 ⟨⟨T, u, rfl⟩, u2⟩; have k2 : specK at' ⟨fl1, wd1, pr1, sw1, true, vb1, ln1⟩ (vb1 : Int) next w2 w.heap.size := Box11.upd HT1.out.k (u2.block w.heap.size HT1.out.k.z (by omega) (by simp)); have q6 := k2.c6; have e6 := k2.f6; have z2 := k2.z; have HU2 := Lib.hid (HT1.out.u.trans_same u2); clear u2 k2)
          | fail)
        go_ret
        exact .inl ⟨⟨_, HE.out⟩, ⟨_, _, rfl⟩, (HU2.out.fresh (Nat.le_refl _) 6 _).weak⟩
      | some x =>
        obtain ⟨c, r⟩ := x
        have hP : precF ⟨fl1, wd1, pr1, sw1, true, vb1, ln1⟩ r1 = some (⟨fl1, wd1, c, sw1, true, vb1, ln1⟩, r) := by simp [precF, hS]
        have HP := Lib.hid hP
        clear hP
        go_wp2_with (first
          | (go_at_call 31; (with_reducible refine (star_ok HT1.out.m hS).mono ?_); rintro e w2 ⟨rfl, hc0, hc1, m2, u2⟩; have t2 := HT1.out.upd hgz u2 m2; have HT2 := Lib.hid t2; have q6 := t2.k.c6; have e6 := t2.k.f6; have z2 := t2.k.z; clear u2 m2 t2)
          | fail)
        go_meet
        exact ⟨rfl, _, _, HP, rfl, Lib.hid (HT2.out.prec HTW.out c (by omega))⟩
  case rest =>
  obtain ⟨rfl, ⟨⟨lf, zr, pl, bk⟩, wd2, pr2, sw2, sp2, vb2, ln2⟩, r2, HP2, hvb, HT2⟩ := hcut
  dsimp only at hvb
  obtain rfl := hvb
  obtain ⟨w2, rfl⟩ : ∃ x, x = wc := ⟨_, rfl⟩
  have hTell : tellF ⟨fl, wd, pr, sw, sp1, vb2, ln⟩ args bs = tellF ⟨⟨lf, zr, pl, bk⟩, wd2, pr2, false, false, vb2, ln2⟩ r2 bs := by
    unfold tellF; rw [HW1.out]; dsimp only; rw [HP2.out]; rfl
  have HTell := Lib.hid hTell
  clear hTell HW1 HP2 HT1 q8 z1
  have hpr2 := HT2.out.pr
  have hwd2 := HT2.out.wd
  dsimp only at hpr2 hwd2
  have q0 := HT2.out.k.c0
  have q1 := HT2.out.k.c1
  have q2 := HT2.out.k.c2
  have q3 := HT2.out.k.c3
  have q4 := HT2.out.k.c4
  have q5 := HT2.out.k.c5
  have q6 := HT2.out.k.c6
  have q7 := HT2.out.k.c7
  have q8 := HT2.out.k.c8
  have q9 := HT2.out.k.c9
  have q10 := HT2.out.k.c10
  have qz := HT2.out.k.z
  dsimp only at q0 q1 q2 q3 q4 q5 q6 q7 q8 q9 q10
  rcases Nat.eq_zero_or_pos vb2 with rfl | hvp
  · have HE : Hid (tellF ⟨⟨lf, zr, pl, bk⟩, wd2, pr2, false, false, 0, ln2⟩ r2 bs = .error 4) := Lib.hid rfl
    have HF := Lib.hid (fun W => fault_any at' next ⟨⟨lf, zr, pl, bk⟩, wd2, pr2, sw2, sp2, 0, ln2⟩ W)
    simp only [specV, specC] at HF
    rw [show ((0 : Nat) : Int) = 0 from rfl] at HF q9
    go_wp2_with (first
      | (go_at_call 19; (with_reducible refine (HF.out _).mono ?_); rintro e w3 ⟨⟨T, u, rfl⟩, b3⟩)
      | fail)
    go_ret
    exact .inl ⟨⟨_, by rw [HTell.out, HE.out]⟩, ⟨_, _, rfl⟩, (HT2.out.u.next b3).weak⟩
  · have hvn : ((vb2 : Int) == 0) = false := beq_false_of_ne (by omega)
    have hv' : isVerb vb2 = true := by rcases hv with h | h; exact h; omega
    have HV' := Lib.hid hv'
    clear hv hv'
    cases hTk : takeF r2 with
    | none =>
      have HE : Hid (tellF ⟨⟨lf, zr, pl, bk⟩, wd2, pr2, false, false, vb2, ln2⟩ r2 bs = .error 1) := Lib.hid (by
        rw [tellF_plain ⟨lf, zr, pl, bk⟩ wd2 pr2 sw2 sp2, hTk, if_neg (by omega)])
      have HTK := Lib.hid hTk
      clear hTk q0 q1 q2 q3 q4 q5 q6 q7 q8 q10
      go_wp2_with (first
        | (go_at_call 32; (with_reducible refine (take_no HT2.out.m HTK.out).mono ?_); rintro e w3 ⟨⟨T, u, rfl⟩, u3⟩)
        | fail)
      go_ret
      exact .inl ⟨⟨_, by rw [HTell.out, HE.out]⟩, ⟨_, _, rfl⟩, ((HT2.out.u.trans_same u3).alloc _).weak⟩
    | some x =>
      obtain ⟨a, z, r3⟩ := x
      have HTK := Lib.hid hTk
      have hNext : tellF ⟨⟨lf, zr, pl, bk⟩, wd2, pr2, false, false, vb2, ln2⟩ r2 bs = match bodyF ⟨⟨lf, zr, pl, bk⟩, wd2, pr2, sw2, sp2, vb2, ln2⟩ a z with
          | .error e => .error e
          | .ok x => match addF bs (laidF ⟨⟨lf, zr, pl, bk⟩, wd2, pr2, sw2, sp2, vb2, ln2⟩ x) with
            | .error e => .error e
            | .ok b' => .ok (b', r3) := by
        rw [tellF_plain ⟨lf, zr, pl, bk⟩ wd2 pr2 sw2 sp2, hTk, if_neg (by omega)]
      have HNX := Lib.hid hNext
      clear hNext hTk
      cases hB : bodyF ⟨⟨lf, zr, pl, bk⟩, wd2, pr2, sw2, sp2, vb2, ln2⟩ a z with
      | error c =>
        rw [hB] at HNX
        have HBD := Lib.hid (fun (ok : a.ok) (ia : IsD a.n a.h a.l z) W ht => body_no (at' := at') (next := next) HV'.out hpr2 ok ia hB W ht)
        simp only [specV, specC, argV] at HBD
        clear hB
        go_wp2_with (first
        | (go_at_call 32; (with_reducible refine (take_ok HT2.out.m HTK.out).mono ?_); rintro e w3 ⟨rfl, ok3, i3, m3, u3⟩; have t3 := HT2.out.upd hgz u3 m3; have HT3 := Lib.hid t3; have HO3 := Lib.hid ok3; have HI3 := Lib.hid i3; have TZ3 := Lib.hid ((HTZ.out.upd hg8 hgz (by simp) t3.u).below ((Below.refl w3.heap.size w3).alloc (Nat.le_refl _) (.cells #[.string (strN a.s), .bool a.n, .int .u64 a.h, .int .u64 a.l, .bool a.num] 37))); clear q0 q1 q2 q3 q4 q5 q6 q7 q8 q9 q10; have q0 := t3.k.c0; have q1 := t3.k.c1; have q2 := t3.k.c2; have q3 := t3.k.c3; have q4 := t3.k.c4; have q5 := t3.k.c5; have q6 := t3.k.c6; have q7 := t3.k.c7; have q8 := t3.k.c8; have q9 := t3.k.c9; have q10 := t3.k.c10; have qz3 := t3.k.z; dsimp only at q0 q1 q2 q3 q4 q5 q6 q7 q8 q9 q10; clear t3 ok3 i3 m3 u3)
          | (go_at_call 33; (with_reducible refine (HBD.out HO3.out HI3.out _ TZ3.out).mono ?_); rintro e w4 ⟨⟨T, u, rfl⟩, b4⟩)
          | fail)
        go_ret
        exact .inl ⟨⟨_, by rw [HTell.out, HNX.out]⟩, ⟨_, _, rfl⟩, ((HT3.out.u.alloc _).next b4).weak⟩
      | ok p =>
        obtain ⟨x, y⟩ := p
        rw [hB] at HNX
        have hoka : a.ok := by
          cases r2 with
          | nil => have h := HTK.out; simp [takeF] at h; rw [← h.1]; exact zeroF_ok
          | cons a0 r0 => have h := HTK.out; simp only [takeF, Option.map_eq_some_iff] at h; obtain ⟨_, _, h⟩ := h; injection h with h _; rw [← h]; exact HT2.out.m.ok a0 (List.mem_cons_self ..)
        have HBD := Lib.hid (fun (ia : IsD a.n a.h a.l z) W ht => body_ok (at' := at') (next := next) HV'.out hpr2 hoka ia hB W ht)
        simp only [specV, specC, argV] at HBD
        have hfb := few_body hoka hpr2.2 hB
        have HFB := Lib.hid hfb
        have hlx := hfb.1.2
        have hly := hfb.2.2
        have hsx := strN_size x
        have hsy := strN_size y
        obtain ⟨rm, hrm⟩ : ∃ rm, rm = wd2 - x.length - y.length := ⟨_, rfl⟩
        have hmx : max 0 ((wd2 : Int) - (x.length : Int) - (y.length : Int)) = (rm : Int) := by omega
        have hrl : rm ≤ 1000 := by omega
        have HRM := Lib.hid hrm
        have HRP := Lib.hid (fun W => show Calls Tryd.prog 30 #[.string { data := #[32] }, .int .i64 (rm : Int)] W _ from repeat_any 32 rm (by omega) W)
        have HRZ := Lib.hid (fun W => show Calls Tryd.prog 30 #[.string { data := #[48] }, .int .i64 (rm : Int)] W _ from repeat_any 48 rm (by omega) W)
        have HZ := Lib.hid (fun W => zeros_any at' next ⟨⟨lf, zr, pl, bk⟩, wd2, pr2, sw2, sp2, vb2, ln2⟩ (by have h := HV'.out; simp [isVerb] at h; dsimp only; omega) (by simpa [isVerb] using HV'.out) W)
        simp only [specV, specC] at HZ
        clear hB hfb hrm hoka
        go_upto_region 21 with (first
        | (go_at_call 32; (with_reducible refine (take_ok HT2.out.m HTK.out).mono ?_); rintro e w3 ⟨rfl, ok3, i3, m3, u3⟩; have t3 := HT2.out.upd hgz u3 m3; have HT3 := Lib.hid t3; have HO3 := Lib.hid ok3; have HI3 := Lib.hid i3; have TZ3 := Lib.hid ((HTZ.out.upd hg8 hgz (by simp) t3.u).below ((Below.refl w3.heap.size w3).alloc (Nat.le_refl _) (.cells #[.string (strN a.s), .bool a.n, .int .u64 a.h, .int .u64 a.l, .bool a.num] 37))); clear q0 q1 q2 q3 q4 q5 q6 q7 q8 q9 q10; have q0 := t3.k.c0; have q1 := t3.k.c1; have q2 := t3.k.c2; have q3 := t3.k.c3; have q4 := t3.k.c4; have q5 := t3.k.c5; have q6 := t3.k.c6; have q7 := t3.k.c7; have q8 := t3.k.c8; have q9 := t3.k.c9; have q10 := t3.k.c10; have qz3 := t3.k.z; dsimp only at q0 q1 q2 q3 q4 q5 q6 q7 q8 q9 q10; clear t3 ok3 i3 m3 u3)
          | (go_at_call 33; (with_reducible refine (HBD.out HI3.out _ TZ3.out).mono ?_); rintro e w4 ⟨rfl, b4⟩; have m4 : MkS w4 g B V r3 bs := (HT3.out.m.next ((Below.refl _ _).alloc (Nat.le_refl _) _)).next b4; have k4 : specK at' ⟨⟨lf, zr, pl, bk⟩, wd2, pr2, sw2, sp2, vb2, ln2⟩ (vb2 : Int) next w4 w.heap.size := Box11.below (Box11.alloc HT3.out.k _) b4; have HM4 := Lib.hid m4; have HK4 := Lib.hid k4; have HU4 := Lib.hid ((HT3.out.u.alloc _).next b4); clear q0 q1 q2 q3 q4 q5 q6 q7 q8 q9 q10; have q0 := k4.c0; have q1 := k4.c1; have q2 := k4.c2; have q3 := k4.c3; have q4 := k4.c4; have q5 := k4.c5; have q6 := k4.c6; have q7 := k4.c7; have q8 := k4.c8; have q9 := k4.c9; have q10 := k4.c10; have qz4 := k4.z; have gz4 := m4.lt; dsimp only at q0 q1 q2 q3 q4 q5 q6 q7 q8 q9 q10; clear m4 k4 b4)
          | fail)
        have hxy := HFB.out
        have HRl : Hid ([x, y, List.replicate rm 32].flatten.length ≤ 1000000000) := Lib.hid (by simp; omega)
        have HZl : Hid ([x, List.replicate rm 48, y].flatten.length ≤ 1000000000) := Lib.hid (by simp; omega)
        have HNl : Hid ([x, y].flatten.length ≤ 1000000000) := Lib.hid (by simp; omega)
        have HRb : Hid (∀ T ∈ [x, y, List.replicate rm 32], ∀ c ∈ T, c < 256) := Lib.hid (by
          intro T hT c hc
          simp only [List.mem_cons, List.not_mem_nil, or_false] at hT
          rcases hT with rfl | rfl | rfl
          · exact hxy.1.1 c hc
          · exact hxy.2.1 c hc
          · rw [(List.mem_replicate.1 hc).2]; decide)
        have HZb : Hid (∀ T ∈ [x, List.replicate rm 48, y], ∀ c ∈ T, c < 256) := Lib.hid (by
          intro T hT c hc
          simp only [List.mem_cons, List.not_mem_nil, or_false] at hT
          rcases hT with rfl | rfl | rfl
          · exact hxy.1.1 c hc
          · rw [(List.mem_replicate.1 hc).2]; decide
          · exact hxy.2.1 c hc)
        have HNb : Hid (∀ T ∈ [x, y], ∀ c ∈ T, c < 256) := Lib.hid (by
          intro T hT c hc
          simp only [List.mem_cons, List.not_mem_nil, or_false] at hT
          rcases hT with rfl | rfl
          · exact hxy.1.1 c hc
          · exact hxy.2.1 c hc)
        have HA3 := Lib.hid (fun (W : World) (t c : Nat) (Ts : List (List Nat)) (hn : Ts.length = 3) (hT : ∀ T ∈ Ts, ∀ x ∈ T, x < 256) (hl : Ts.flatten.length ≤ 1000000000) (m : MkS W g B V r3 bs) (htx : TxB W t Ts) (htg : t ≠ g) => show Calls Tryd.prog 20 #[.pointer (some ⟨g, 0, none⟩), .int .i64 0, .slice (some ⟨t, 0, none⟩) 3 c] W _ from (by have h := add_val (blanks := 0) (c := c) Ts hT W m hb (by decide) hl (by omega) htx htg; rw [hn] at h; exact h))
        have HA2 := Lib.hid (fun (W : World) (t c : Nat) (Ts : List (List Nat)) (hn : Ts.length = 2) (hT : ∀ T ∈ Ts, ∀ x ∈ T, x < 256) (hl : Ts.flatten.length ≤ 1000000000) (m : MkS W g B V r3 bs) (htx : TxB W t Ts) (htg : t ≠ g) => show Calls Tryd.prog 20 #[.pointer (some ⟨g, 0, none⟩), .int .i64 (rm : Int), .slice (some ⟨t, 0, none⟩) 2 c] W _ from (by have h := add_val (blanks := rm) (c := c) Ts hT W m hb (by omega) hl (by omega) htx htg; rw [hn] at h; exact h))
        clear hxy
        cases lf
        · cases hz : zerosF ⟨⟨false, zr, pl, bk⟩, wd2, pr2, sw2, sp2, vb2, ln2⟩
          · have hL : laidF ⟨⟨false, zr, pl, bk⟩, wd2, pr2, sw2, sp2, vb2, ln2⟩ (x, y) = List.replicate rm 32 ++ x ++ y := by
              unfold laidF; rw [HRM.out, hz]; rfl
            have HL := Lib.hid hL
            rw [hz] at HZ
            clear hL hz
            go_wp2_with (first
              | (go_at_call 34; (with_reducible refine (HZ.out _).mono ?_); rintro e w5 ⟨rfl, b5⟩; have HM5 := Lib.hid (HM4.out.next b5); have HU5 := Lib.hid (HU4.out.next b5); have gz5 := b5.size; clear b5)
              | (go_at_call 20; (with_reducible refine (HA2.out _ _ _ [x, y] rfl HNb.out HNl.out (HM5.out.next ((Below.refl _ _).alloc (Nat.le_refl _) _)) (txb2 _ _ _) (by omega)).mono ?_); rintro e w6 ⟨v, rfl, hp⟩; have HP := Lib.hid hp; clear hp)
              | fail)
            go_ret
            exact add_tell (by rw [HTell.out, HNX.out]) (by rw [HL.out]; simp) (HU5.out.alloc _) HP.out
          · have hL : laidF ⟨⟨false, zr, pl, bk⟩, wd2, pr2, sw2, sp2, vb2, ln2⟩ (x, y) = x ++ List.replicate rm 48 ++ y := by
              unfold laidF; rw [HRM.out, hz]; rfl
            have HL := Lib.hid hL
            rw [hz] at HZ
            clear hL hz
            go_wp2_with (first
              | (go_at_call 34; (with_reducible refine (HZ.out _).mono ?_); rintro e w5 ⟨rfl, b5⟩; have HM5 := Lib.hid (HM4.out.next b5); have HU5 := Lib.hid (HU4.out.next b5); have gz5 := b5.size; clear b5)
              | (go_at_call 30; (with_reducible refine (HRZ.out _).mono ?_); rintro e w7 ⟨rfl, b7⟩; have HM7 := Lib.hid (HM5.out.next b7); have HU7 := Lib.hid (HU5.out.next b7); have gz7 := b7.size; clear b7)
              | (go_at_call 20; (with_reducible refine (HA3.out _ _ _ [x, List.replicate rm 48, y] rfl HZb.out HZl.out (HM7.out.next ((Below.refl _ _).alloc (Nat.le_refl _) _)) (txb3 _ _ _ _) (by omega)).mono ?_); rintro e w6 ⟨v, rfl, hp⟩; have HP := Lib.hid hp; clear hp)
              | fail)
            go_ret
            exact add_tell (by rw [HTell.out, HNX.out]) (by rw [HL.out]; simp) (HU7.out.alloc _) HP.out
        · have hL : laidF ⟨⟨true, zr, pl, bk⟩, wd2, pr2, sw2, sp2, vb2, ln2⟩ (x, y) = x ++ y ++ List.replicate rm 32 := by
            unfold laidF; rw [HRM.out]; rfl
          have HL := Lib.hid hL
          clear hL
          go_wp2_with (first
            | (go_at_call 30; (with_reducible refine (HRP.out _).mono ?_); rintro e w5 ⟨rfl, b5⟩; have HM5 := Lib.hid (HM4.out.next b5); have HU5 := Lib.hid (HU4.out.next b5); have gz5 := b5.size; clear b5)
            | (go_at_call 20; (with_reducible refine (HA3.out _ _ _ [x, y, List.replicate rm 32] rfl HRb.out HRl.out (HM5.out.next ((Below.refl _ _).alloc (Nat.le_refl _) _)) (txb3 _ _ _ _) (by omega)).mono ?_); rintro e w6 ⟨v, rfl, hp⟩; have HP := Lib.hid hp; clear hp)
            | fail)
          go_ret
          exact add_tell (by rw [HTell.out, HNX.out]) (by rw [HL.out]; simp) (HU5.out.alloc _) HP.out
end Go.Proofs.YtpkooogfefkcdaaDoor
