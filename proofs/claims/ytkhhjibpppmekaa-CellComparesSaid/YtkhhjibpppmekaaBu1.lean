/- Several texts put together: Kit, NumA, Frame, FrameC, Box, NumB. -/
import Derived.Test.YtkhhjibpppmekaaProg
import Derived.WalkKit
import Derived.WalkSpells
import Derived.WalkLawsBesides
import Derived.BigQuiet
import Derived.Deep.QuietTactic
import Derived.StillTailTactics
import Derived.Deep.RegionHeld3
import Derived.Deep.RegionWith
import Derived.Deep.DeepCutAuto
import Derived.Deep.DeepFit
import Derived.Deep.CutBlock
import Derived.Deep.LoopGhost
import Derived.Lib.Hide
import Derived.Handy
import Derived.RowKit3
import Derived.Laws.OwnMore
import Derived.Deep.AppendLies
import Derived.Deep.Draws
import Derived.Test.YtkhhjibpppmekaaRows
import Derived.ProofKit
import Derived.OpenShut
import Derived.ShutString
import Derived.ChangeOld
import Derived.Lib.SmallJoins
/- What all texts of this seat import: the walk's tactics and laws. -/
namespace Go.Proofs.Ytkhhjibpppmekaa
open Go.RowKit

theorem below_drewN {B : Nat} {a w : World} (h : Below B a w) (n : Nat) : Below B a (w.drewN n) := ⟨h.os, h.tape, h.output, h.size, h.block⟩
theorem bcell {W w1 : World} (hb : Below W.heap.size W w1) : (∀ b o, b < W.heap.size → w1.cell? ⟨b, o, none⟩ = W.cell? ⟨b, o, none⟩) ∧ (∀ b o, b < W.heap.size → w1.frozen? ⟨b, o, none⟩ = W.frozen? ⟨b, o, none⟩) :=
  ⟨fun b o h => hb.cell (p := ⟨b, o, none⟩) h, fun b o h => hb.frozen (p := ⟨b, o, none⟩) h⟩
/-- A word. -/
def Wd (x : Int) : Prop := 0 ≤ x ∧ x < 18446744073709551616
theorem Wd.zero : Wd 0 := ⟨by decide, by decide⟩
/-- A whole number of four limbs. -/
def lim4 (a b c d : Int) : Int := a + b * 18446744073709551616 + c * 340282366920938463463374607431768211456 + d * 6277101735386680763835789423207666416102355444464034512896
/-- No magnitude is this or more. -/
def LIM : Int := 1000000000000000000000000000000000000
/-- The sign and the words of a number of millionths. -/
def zn (z : Int) : Bool := decide (z < 0)
def zh (z : Int) : Int := (z.natAbs : Int) / 18446744073709551616
def zl (z : Int) : Int := (z.natAbs : Int) % 18446744073709551616
/-- A right number's sign and words, and what it is in millionths. -/
def IsD (n : Bool) (h l z : Int) : Prop := Wd h ∧ Wd l ∧ h * 18446744073709551616 + l = z.natAbs ∧ n = decide (z < 0) ∧ z.natAbs < LIM
theorem IsD.words {n : Bool} {h l z : Int} (i : IsD n h l z) : Wd h ∧ Wd l := ⟨i.1, i.2.1⟩
theorem IsD.of {z : Int} (h : z.natAbs < LIM) : IsD (zn z) (zh z) (zl z) z := by
  unfold LIM at h
  refine ⟨⟨?_, ?_⟩, ⟨?_, ?_⟩, ?_, rfl, h⟩ <;> (try unfold zh) <;> (try unfold zl) <;> omega
theorem IsD.eq {n : Bool} {h l z : Int} (i : IsD n h l z) : n = zn z ∧ h = zh z ∧ l = zl z := by
  obtain ⟨⟨a, b⟩, ⟨c, d⟩, e, f, g⟩ := i
  refine ⟨f, ?_, ?_⟩
  · unfold zh; omega
  · unfold zl; omega
end Go.Proofs.Ytkhhjibpppmekaa

/- numeral.blank, numeral.digits, fieldfareref02.Blank; slices of bytes. -/
namespace Go.Proofs.Ytkhhjibpppmekaa
open Go.RowKit
theorem block_of_add (a : Addr) (n : Nat) : (a.add n).block = a.block := by unfold Addr.add; split <;> rfl
theorem add_of_add (a : Addr) (i j : Nat) : (a.add i).add j = a.add (i + j) := by
  unfold Addr.add
  by_cases hi : i = 0 <;> by_cases hj : j = 0 <;> simp [hi, hj, Nat.add_assoc]
/-- A slice of bytes reads as a list, below block B. -/
def RB (w : World) (B : Nat) (A : Option Addr) (bs : List Nat) : Prop :=
  (∀ x ∈ bs, x < 256) ∧ (0 < bs.length → ∃ ad, A = some ad ∧ ad.block < B ∧ ∀ j (h : j < bs.length), w.cell? (ad.add j) = some (.int .u8 ((bs[j] : Nat) : Int)))
section
variable {w w' : World} {B B' : Nat} {A : Option Addr} {bs : List Nat}
theorem RB.keep (h : RB w B A bs) (hk : ∀ p : Addr, p.block < B → w'.cell? p = w.cell? p) : RB w' B A bs :=
  ⟨h.1, fun hn => by
    obtain ⟨ad, e, hb, hc⟩ := h.2 hn
    exact ⟨ad, e, hb, fun j hj => (hk _ (by rw [block_of_add]; exact hb)).trans (hc j hj)⟩⟩
theorem RB.below (h : RB w B A bs) (hb : Below B w w') : RB w' B A bs := h.keep fun _ hp => hb.cell hp
theorem RB.more (h : RB w B A bs) (hB : B ≤ B') : RB w B' A bs :=
  ⟨h.1, fun hn => by
    obtain ⟨ad, e, hb, hc⟩ := h.2 hn
    exact ⟨ad, e, by omega, hc⟩⟩
theorem RB.cut (h : RB w B A bs) {k cap : Nat} (hc : bs.length ≤ cap) : RB w B (if cap = k then A else A.map (·.add k)) (bs.drop k) := by
  refine ⟨fun x hx => h.1 x (List.mem_of_mem_drop hx), fun hn => ?_⟩
  rw [List.length_drop] at hn
  obtain ⟨ad, rfl, hb, hcell⟩ := h.2 (by omega)
  rw [if_neg (by omega)]
  refine ⟨ad.add k, rfl, by rw [block_of_add]; exact hb, fun j hj => ?_⟩
  rw [List.length_drop] at hj
  rw [add_of_add, List.getElem_drop]
  exact hcell (k + j) (by omega)
theorem RB.take (h : RB w B A bs) (k : Nat) : RB w B A (bs.take k) := by
  refine ⟨fun x hx => h.1 x (List.mem_of_mem_take hx), fun hn => ?_⟩
  rw [List.length_take] at hn
  obtain ⟨ad, e, hb, hcell⟩ := h.2 (by omega)
  refine ⟨ad, e, hb, fun j hj => ?_⟩
  rw [List.length_take] at hj
  rw [List.getElem_take]
  exact hcell j (by omega)
theorem RB.nil : RB w B A [] := ⟨by simp, by simp⟩
end
/-- A blank; a digit. -/
def blankB (c : Nat) : Bool := (decide (9 ≤ c) && decide (c ≤ 13)) || decide (c = 32)
def digB (c : Nat) : Bool := decide (48 ≤ c) && decide (c ≤ 57)
/-- How many of the first ones there are. -/
def span (p : Nat → Bool) : List Nat → Nat
  | [] => 0
  | c :: l => if p c then span p l + 1 else 0
theorem span_le (p : Nat → Bool) (l : List Nat) : span p l ≤ l.length := by
  induction l with
  | nil => simp [span]
  | cons c l ih => simp only [span]; split <;> simp <;> omega
theorem span_stop (p : Nat → Bool) (l : List Nat) (h : span p l < l.length) : p (l[span p l]) = false := by
  induction l with
  | nil => simp at h
  | cons c l ih =>
    by_cases hc : p c = true
    · simp only [span, hc, if_true] at h ⊢
      simp only [List.getElem_cons_succ]
      exact ih (by simp at h; omega)
    · simp only [span, hc, Bool.false_eq_true, if_false] at h ⊢
      simpa using hc
theorem span_all (p : Nat → Bool) (l : List Nat) (j : Nat) (h : j < span p l) (hj : j < l.length) : p l[j] = true := by
  induction l generalizing j with
  | nil => simp at hj
  | cons c l ih =>
    by_cases hc : p c = true
    · cases j with
      | zero => simpa using hc
      | succ j =>
        simp only [span, hc, if_true] at h
        simp only [List.getElem_cons_succ]
        exact ih j (by omega) (by simp at hj; omega)
    · simp [span, hc] at h
theorem span_eq (p : Nat → Bool) (l : List Nat) (k : Nat) (hk : k ≤ l.length) (h : ∀ j (hj : j < l.length), j < k → p l[j] = true) (hs : ∀ hj : k < l.length, p l[k] = false) : span p l = k := by
  have a := span_le p l
  rcases Nat.lt_trichotomy (span p l) k with hlt | heq | hgt
  · have := span_stop p l (by omega)
    rw [h _ (by omega) hlt] at this; cases this
  · exact heq
  · have := span_all p l k hgt (by omega)
    rw [hs (by omega)] at this; cases this
set_option maxRecDepth 100000 in
set_option maxHeartbeats 400000 in
theorem blank_any (c : Nat) (w : World) :
    Calls Try.prog 68 #[.int .u8 (c : Int)] w fun e w' => e = .returned (.bool (blankB c)) ∧ w = w' := by
  have hg : blankB c = ((decide (9 ≤ c) && decide (c ≤ 13)) || decide (c = 32)) := rfl
  by_cases h1 : c < 9
  · have e1 : blankB c = false := by rw [hg]; simp; omega
    have h4 : ((c : Int) == 32) = false := by rw [beq_eq_false_iff_ne]; omega
    rw [e1]; clear hg e1
    go_enter Try.func68, Try.ntmps68
    go_wp2
    go_ret
    exact ⟨rfl, rfl⟩
  · by_cases h2 : c ≤ 13
    · have e1 : blankB c = true := by rw [hg]; simp; omega
      have h5 : decide ((c : Int) ≤ 13) = true := by rw [decide_eq_true_eq]; omega
      rw [e1]; clear hg e1
      go_enter Try.func68, Try.ntmps68
      go_wp2
      go_ret
      exact ⟨rfl, rfl⟩
    · by_cases h3 : c = 32
      · subst h3
        go_enter Try.func68, Try.ntmps68
        go_wp2
        go_ret
        exact ⟨rfl, rfl⟩
      · have e1 : blankB c = false := by rw [hg]; simp; omega
        have h4 : ((c : Int) == 32) = false := by rw [beq_eq_false_iff_ne]; omega
        have h5 : decide ((c : Int) ≤ 13) = false := by rw [decide_eq_false_iff_not]; omega
        rw [e1]; clear hg e1 h3
        go_enter Try.func68, Try.ntmps68
        go_wp2
        go_ret
        exact ⟨rfl, rfl⟩
set_option maxRecDepth 100000 in
set_option maxHeartbeats 400000 in
theorem rblank_any (c : Nat) (w : World) :
    Calls Try.prog 92 #[.int .u8 (c : Int)] w fun e w' => e = .returned (.bool (blankB c)) ∧ w = w' := by
  have hg : blankB c = ((decide (9 ≤ c) && decide (c ≤ 13)) || decide (c = 32)) := rfl
  by_cases h3 : c = 32
  · subst h3
    go_enter Try.func92, Try.ntmps92
    go_wp2
    go_ret
    exact ⟨rfl, rfl⟩
  · have h4 : ((c : Int) == 32) = false := by rw [beq_eq_false_iff_ne]; omega
    by_cases h1 : c < 9
    · have e1 : blankB c = false := by rw [hg]; simp; omega
      rw [e1]; clear hg e1 h3
      go_enter Try.func92, Try.ntmps92
      go_wp2
      go_ret
      exact ⟨rfl, rfl⟩
    · by_cases h2 : c ≤ 13
      · have e1 : blankB c = true := by rw [hg]; simp; omega
        have h5 : decide ((c : Int) ≤ 13) = true := by rw [decide_eq_true_eq]; omega
        rw [e1]; clear hg e1 h3
        go_enter Try.func92, Try.ntmps92
        go_wp2
        go_ret
        exact ⟨rfl, rfl⟩
      · have e1 : blankB c = false := by rw [hg]; simp; omega
        have h5 : decide ((c : Int) ≤ 13) = false := by rw [decide_eq_false_iff_not]; omega
        rw [e1]; clear hg e1 h3
        go_enter Try.func92, Try.ntmps92
        go_wp2
        go_ret
        exact ⟨rfl, rfl⟩
end Go.Proofs.Ytkhhjibpppmekaa

/- How what came in as an argument is opened: numbers, bytes. -/
namespace Go.Proofs.Ytkhhjibpppmekaa
open Go.ChangeShapes Go.WideShapes Go.ChangeAt Go.RowKit Go.Joins
theorem cellsDec : Try.prog.cellsOf 24 = 3 := by kernel_rfl
theorem wd_of {n : Int} (h : (Lit.int .u64 n).wf = true) : Wd n := by
  simp [Lit.wf, IntKind.min, IntKind.max, IntKind.signed, IntKind.bits] at h
  exact ⟨h.1, by omega⟩
theorem byte_range {n : Int} (h : (Lit.int .u8 n).wf = true) : 0 ≤ n ∧ n < 256 := by
  simp [Lit.wf, IntKind.min, IntKind.max, IntKind.signed, IntKind.bits] at h
  exact ⟨h.1, by omega⟩
theorem int64_range {n : Int} (h : (Lit.int .i64 n).wf = true) : -9223372036854775808 ≤ n ∧ n < 9223372036854775808 := by
  simp [Lit.wf, IntKind.min, IntKind.max, IntKind.signed, IntKind.bits] at h
  exact ⟨h.1, by omega⟩
set_option maxRecDepth 100000 in
theorem dec_form {H : Type} {enc : TypeId × Value → H} {w : World} {base : Nat} {spare : Nat → Bool} {held : Bool} {r : Reach} {b0 : Nat} {v : Value} {d : DataW H} {p : List MemPlace}
    (hv : Value.okWide Try.prog w r b0 24 v) (h : DataW.Trod enc Try.prog w base spare held 24 v d p) :
    ∃ (n : Bool) (hi lo : Int), v = .agg #[.bool n, .int .u64 hi, .int .u64 lo] ∧ Wd hi ∧ Wd lo := by
  obtain ⟨v0, v1, v2, y0, y1, y2, m, rfl, _, _, h0, h1, h2⟩ := open_agg3 Try.underlying24 (by kernel_rfl) cellsDec hv h
  obtain ⟨a, e0, _⟩ := DataW.trod_bool Try.underlying4 h0
  obtain ⟨b, e1, _, wb⟩ := DataW.trod_int Try.underlying22 h1
  obtain ⟨c, e2, _, wc⟩ := DataW.trod_int Try.underlying22 h2
  simp at e0 e1 e2
  subst e0 e1 e2
  exact ⟨a, b, c, rfl, wd_of wb, wd_of wc⟩
set_option maxRecDepth 100000 in
theorem bytes_form {H : Type} {enc : TypeId × Value → H} {w : World} {base : Nat} {spare : Nat → Bool} {held : Bool} {r : Reach} {b0 : Nat} {v : Value} {d : DataW H} {p : List MemPlace}
    (hv : Value.okWide Try.prog w r b0 62 v) (h : DataW.Trod enc Try.prog w base spare held 62 v d p) :
    ∃ (A : Option Addr) (c : Nat) (bs : List Nat), v = .slice A bs.length c ∧ RB w w.heap.size A bs ∧ bs.length ≤ c ∧ (A = none → bs = [] ∧ c = 0) := by
  obtain ⟨a, len, cap, rfl⟩ := okWide_slice Try.underlying62 hv
  obtain ⟨fuel, hf⟩ := h
  rcases open_ints Try.underlying62 Try.underlying5 (by kernel_rfl) hf with ⟨hcs, _⟩ | ⟨x, l, c, zs, hcs, _, hl, hm, hz, _, hcell, hwz⟩
  · simp [Value.cells] at hcs
    obtain ⟨rfl, rfl, rfl⟩ := hcs
    exact ⟨none, 0, [], rfl, RB.nil, by simp, fun _ => ⟨rfl, rfl⟩⟩
  · simp [Value.cells] at hcs
    obtain ⟨rfl, rfl, rfl⟩ := hcs
    have hzl : len ≤ zs.length := by rw [hz]; split <;> omega
    have hb : ∀ n ∈ zs, 0 ≤ n ∧ n < 256 := fun n hn => byte_range (hwz n hn)
    have hlen : ((zs.take len).map Int.toNat).length = len := by rw [List.length_map, List.length_take]; omega
    refine ⟨some x, cap, (zs.take len).map Int.toNat, by rw [hlen], ⟨?_, ?_⟩, by rw [hlen]; exact hl, fun e => by cases e⟩
    · intro y hy
      obtain ⟨n, hn, rfl⟩ := List.mem_map.1 hy
      have := hb n (List.mem_of_mem_take hn)
      omega
    · intro h0
      rw [hlen] at h0
      refine ⟨x, rfl, ?_, ?_⟩
      · have := World.block_lt_of_cell? w (x.add 0) (hcell 0 (by omega))
        rw [block_of_add] at this; exact this
      · intro j hj
        rw [hlen] at hj
        rw [hcell j (by omega)]
        have hjz : j < zs.length := by omega
        have := hb zs[j] (List.getElem_mem hjz)
        rw [List.getElem_map, List.getElem_take, List.getD_eq_getElem?_getD, List.getElem?_eq_getElem hjz]
        simp only [Option.getD_some]
        rw [Int.toNat_of_nonneg this.1]
end Go.Proofs.Ytkhhjibpppmekaa

/- How a cell that came in as an argument is opened. -/
namespace Go.Proofs.Ytkhhjibpppmekaa
open Go.ChangeShapes Go.WideShapes Go.ChangeAt Go.RowKit Go.Joins Go.Deep
theorem cellsCell : Try.prog.cellsOf 41 = 5 := by kernel_rfl
theorem cellsInt : Try.prog.cellsOf 3 = 1 := by kernel_rfl
theorem cellsString : Try.prog.cellsOf 9 = 1 := by kernel_rfl
theorem cellsBool : Try.prog.cellsOf 4 = 1 := by kernel_rfl
theorem cellsU64 : Try.prog.cellsOf 22 = 1 := by kernel_rfl
theorem array5 {α : Type} {cs : Array α} (h : cs.size = 5) : ∃ c0 c1 c2 c3 c4, cs = #[c0, c1, c2, c3, c4] := by
  obtain ⟨l⟩ := cs
  match l, h with
  | [c0, c1, c2, c3, c4], _ => exact ⟨c0, c1, c2, c3, c4, rfl⟩
set_option maxRecDepth 100000 in
theorem cell_form {H : Type} {enc : TypeId × Value → H} {w : World} {base : Nat} {spare : Nat → Bool} {held : Bool} {r : Reach} {b0 : Nat} {v : Value} {d : DataW H} {p : List MemPlace}
    (hv : Value.okWide Try.prog w r b0 41 v) (h : DataW.Trod enc Try.prog w base spare held 41 v d p) :
    ∃ (k : Int) (s : ByteArray) (n : Bool) (hi lo : Int), v = .agg #[.int .i64 k, .string s, .bool n, .int .u64 hi, .int .u64 lo] ∧ (-9223372036854775808 ≤ k ∧ k < 9223372036854775808) ∧ s.size ≤ maxLen ∧ Wd hi ∧ Wd lo := by
  obtain ⟨cs, rfl, hsz⟩ := okWide_struct Try.underlying41 hv
  obtain ⟨c0, c1, c2, c3, c4, rfl⟩ := array5 (hsz.trans cellsCell)
  obtain ⟨fuel, hf⟩ := h
  obtain ⟨y0, y1, y2, m, _, _, h0, h1, h2⟩ := trod_struct3 Try.underlying41 hf
  have g0 : DataW.trod enc Try.prog w base spare held m 3 [c0] = some y0 := by
    simpa [Value.cells, cellsInt] using h0
  have g1 : DataW.trod enc Try.prog w base spare held m 9 [c1] = some y1 := by
    simpa [Value.cells, cellsString] using h1
  have g2 : DataW.trod enc Try.prog w base spare held m 24 [c2, c3, c4] = some y2 := by
    simpa [Value.cells, cellsDec] using h2
  obtain ⟨z0, z1, z2, m2, _, _, i0, i1, i2⟩ := trod_struct3 Try.underlying24 g2
  have j0 : DataW.trod enc Try.prog w base spare held m2 4 [c2] = some z0 := by
    simpa [Value.cells, cellsBool] using i0
  have j1 : DataW.trod enc Try.prog w base spare held m2 22 [c3] = some z1 := by
    simpa [Value.cells, cellsU64] using i1
  have j2 : DataW.trod enc Try.prog w base spare held m2 22 [c4] = some z2 := by
    simpa [Value.cells, cellsU64] using i2
  obtain ⟨k, e0, _, wk⟩ := DataW.trod_int Try.underlying3 g0
  obtain ⟨s, e1, _, ws⟩ := DataW.trod_string Try.underlying9 g1
  obtain ⟨a, e2, _⟩ := DataW.trod_bool Try.underlying4 j0
  obtain ⟨b, e3, _, wb⟩ := DataW.trod_int Try.underlying22 j1
  obtain ⟨c, e4, _, wc⟩ := DataW.trod_int Try.underlying22 j2
  simp at e0 e1 e2 e3 e4
  subst e0 e1 e2 e3 e4
  exact ⟨k, s, a, b, c, rfl, int64_range wk, ws, wd_of wb, wd_of wc⟩
end Go.Proofs.Ytkhhjibpppmekaa

/- Boxes: blocks of a few cells that are known and may be written. -/
namespace Go.Proofs.Ytkhhjibpppmekaa
open Go.RowKit
theorem below_step {w a b : World} (h : Below w.heap.size w a) (p : Below a.heap.size a b) : Below w.heap.size w b := h.trans (p.mono h.size)
structure Box1 (w : World) (g : Nat) (v0 : Value) : Prop where
  c0 : w.cell? ⟨g, 0, none⟩ = some v0
  f0 : w.frozen? ⟨g, 0, none⟩ = false
  z : g < w.heap.size
section
variable {w w' : World} {g h : Nat} {v0 u0 : Value}
theorem Box1.below (b : Box1 w g v0) (q : Below w.heap.size w w') : Box1 w' g v0 :=
  ⟨(q.cell b.z).trans b.c0, (q.frozen b.z).trans b.f0, Nat.lt_of_lt_of_le b.z q.size⟩
theorem Box1.make (w : World) (v0 : Value) (T : TypeId) {g : Nat} (hg : g = w.heap.size) : Box1 (w.alloc (.cells #[v0] T)) g v0 := by
  subst hg; constructor <;> simp (maxDischargeDepth := 12) [go_sem]
theorem Box1.alloc (b : Box1 w g v0) (o : Obj) : Box1 (w.alloc o) g v0 := b.below ((Below.refl _ _).alloc (Nat.le_refl _) _)
theorem Box1.drew (b : Box1 w g v0) : Box1 w.drew g v0 := b.below (Below.refl _ _).drew
theorem Box1.drewN (b : Box1 w g v0) (k : Nat) : Box1 (w.drewN k) g v0 := b.below (below_drewN (Below.refl _ _) k)
theorem Box1.other (b : Box1 w g v0) (hne : h ≠ g) (j : Nat) (u : Value) : Box1 (w.setCell ⟨h, j, none⟩ u) g v0 := by
  obtain ⟨c0, f0, z⟩ := b
  have hn : g ≠ h := fun e => hne e.symm
  constructor <;> (first | (simp (maxDischargeDepth := 12) [go_sem, *]; done) | (simp; omega))
theorem Box1.set (b : Box1 w g v0) : Box1 (w.setCell ⟨g, 0, none⟩ u0) g u0 := by
  obtain ⟨c0, f0, z⟩ := b
  constructor <;> (first | (simp (maxDischargeDepth := 20) [go_sem, *]; done) | (simp; omega))
end
structure Box2 (w : World) (g : Nat) (v0 v1 : Value) : Prop where
  c0 : w.cell? ⟨g, 0, none⟩ = some v0
  c1 : w.cell? ⟨g, 1, none⟩ = some v1
  f0 : w.frozen? ⟨g, 0, none⟩ = false
  f1 : w.frozen? ⟨g, 1, none⟩ = false
  z : g < w.heap.size
section
variable {w w' : World} {g h : Nat} {v0 v1 u0 u1 : Value}
theorem Box2.below (b : Box2 w g v0 v1) (q : Below w.heap.size w w') : Box2 w' g v0 v1 :=
  ⟨(q.cell b.z).trans b.c0, (q.cell b.z).trans b.c1, (q.frozen b.z).trans b.f0, (q.frozen b.z).trans b.f1, Nat.lt_of_lt_of_le b.z q.size⟩
theorem Box2.make (w : World) (v0 v1 : Value) (T : TypeId) {g : Nat} (hg : g = w.heap.size) : Box2 (w.alloc (.cells #[v0, v1] T)) g v0 v1 := by
  subst hg; constructor <;> simp (maxDischargeDepth := 12) [go_sem]
theorem Box2.alloc (b : Box2 w g v0 v1) (o : Obj) : Box2 (w.alloc o) g v0 v1 := b.below ((Below.refl _ _).alloc (Nat.le_refl _) _)
theorem Box2.drew (b : Box2 w g v0 v1) : Box2 w.drew g v0 v1 := b.below (Below.refl _ _).drew
theorem Box2.drewN (b : Box2 w g v0 v1) (k : Nat) : Box2 (w.drewN k) g v0 v1 := b.below (below_drewN (Below.refl _ _) k)
theorem Box2.other (b : Box2 w g v0 v1) (hne : h ≠ g) (j : Nat) (u : Value) : Box2 (w.setCell ⟨h, j, none⟩ u) g v0 v1 := by
  obtain ⟨c0, c1, f0, f1, z⟩ := b
  have hn : g ≠ h := fun e => hne e.symm
  constructor <;> (first | (simp (maxDischargeDepth := 12) [go_sem, *]; done) | (simp; omega))
theorem Box2.set (b : Box2 w g v0 v1) : Box2 ((w.setCell ⟨g, 0, none⟩ u0).setCell ⟨g, 1, none⟩ u1) g u0 u1 := by
  obtain ⟨c0, c1, f0, f1, z⟩ := b
  constructor <;> (first | (simp (maxDischargeDepth := 20) [go_sem, *]; done) | (simp; omega))
end
structure Box3 (w : World) (g : Nat) (v0 v1 v2 : Value) : Prop where
  c0 : w.cell? ⟨g, 0, none⟩ = some v0
  c1 : w.cell? ⟨g, 1, none⟩ = some v1
  c2 : w.cell? ⟨g, 2, none⟩ = some v2
  f0 : w.frozen? ⟨g, 0, none⟩ = false
  f1 : w.frozen? ⟨g, 1, none⟩ = false
  f2 : w.frozen? ⟨g, 2, none⟩ = false
  z : g < w.heap.size
section
variable {w w' : World} {g h : Nat} {v0 v1 v2 u0 u1 u2 : Value}
theorem Box3.below (b : Box3 w g v0 v1 v2) (q : Below w.heap.size w w') : Box3 w' g v0 v1 v2 :=
  ⟨(q.cell b.z).trans b.c0, (q.cell b.z).trans b.c1, (q.cell b.z).trans b.c2, (q.frozen b.z).trans b.f0, (q.frozen b.z).trans b.f1, (q.frozen b.z).trans b.f2, Nat.lt_of_lt_of_le b.z q.size⟩
theorem Box3.make (w : World) (v0 v1 v2 : Value) (T : TypeId) {g : Nat} (hg : g = w.heap.size) : Box3 (w.alloc (.cells #[v0, v1, v2] T)) g v0 v1 v2 := by
  subst hg; constructor <;> simp (maxDischargeDepth := 12) [go_sem]
theorem Box3.alloc (b : Box3 w g v0 v1 v2) (o : Obj) : Box3 (w.alloc o) g v0 v1 v2 := b.below ((Below.refl _ _).alloc (Nat.le_refl _) _)
theorem Box3.drew (b : Box3 w g v0 v1 v2) : Box3 w.drew g v0 v1 v2 := b.below (Below.refl _ _).drew
theorem Box3.drewN (b : Box3 w g v0 v1 v2) (k : Nat) : Box3 (w.drewN k) g v0 v1 v2 := b.below (below_drewN (Below.refl _ _) k)
theorem Box3.other (b : Box3 w g v0 v1 v2) (hne : h ≠ g) (j : Nat) (u : Value) : Box3 (w.setCell ⟨h, j, none⟩ u) g v0 v1 v2 := by
  obtain ⟨c0, c1, c2, f0, f1, f2, z⟩ := b
  have hn : g ≠ h := fun e => hne e.symm
  constructor <;> (first | (simp (maxDischargeDepth := 12) [go_sem, *]; done) | (simp; omega))
theorem Box3.set (b : Box3 w g v0 v1 v2) : Box3 (((w.setCell ⟨g, 0, none⟩ u0).setCell ⟨g, 1, none⟩ u1).setCell ⟨g, 2, none⟩ u2) g u0 u1 u2 := by
  obtain ⟨c0, c1, c2, f0, f1, f2, z⟩ := b
  constructor <;> (first | (simp (maxDischargeDepth := 20) [go_sem, *]; done) | (simp; omega))
end
structure Box4 (w : World) (g : Nat) (v0 v1 v2 v3 : Value) : Prop where
  c0 : w.cell? ⟨g, 0, none⟩ = some v0
  c1 : w.cell? ⟨g, 1, none⟩ = some v1
  c2 : w.cell? ⟨g, 2, none⟩ = some v2
  c3 : w.cell? ⟨g, 3, none⟩ = some v3
  f0 : w.frozen? ⟨g, 0, none⟩ = false
  f1 : w.frozen? ⟨g, 1, none⟩ = false
  f2 : w.frozen? ⟨g, 2, none⟩ = false
  f3 : w.frozen? ⟨g, 3, none⟩ = false
  z : g < w.heap.size
section
variable {w w' : World} {g h : Nat} {v0 v1 v2 v3 u0 u1 u2 u3 : Value}
theorem Box4.below (b : Box4 w g v0 v1 v2 v3) (q : Below w.heap.size w w') : Box4 w' g v0 v1 v2 v3 :=
  ⟨(q.cell b.z).trans b.c0, (q.cell b.z).trans b.c1, (q.cell b.z).trans b.c2, (q.cell b.z).trans b.c3, (q.frozen b.z).trans b.f0, (q.frozen b.z).trans b.f1, (q.frozen b.z).trans b.f2, (q.frozen b.z).trans b.f3, Nat.lt_of_lt_of_le b.z q.size⟩
theorem Box4.make (w : World) (v0 v1 v2 v3 : Value) (T : TypeId) {g : Nat} (hg : g = w.heap.size) : Box4 (w.alloc (.cells #[v0, v1, v2, v3] T)) g v0 v1 v2 v3 := by
  subst hg; constructor <;> simp (maxDischargeDepth := 12) [go_sem]
theorem Box4.alloc (b : Box4 w g v0 v1 v2 v3) (o : Obj) : Box4 (w.alloc o) g v0 v1 v2 v3 := b.below ((Below.refl _ _).alloc (Nat.le_refl _) _)
theorem Box4.drew (b : Box4 w g v0 v1 v2 v3) : Box4 w.drew g v0 v1 v2 v3 := b.below (Below.refl _ _).drew
theorem Box4.drewN (b : Box4 w g v0 v1 v2 v3) (k : Nat) : Box4 (w.drewN k) g v0 v1 v2 v3 := b.below (below_drewN (Below.refl _ _) k)
theorem Box4.other (b : Box4 w g v0 v1 v2 v3) (hne : h ≠ g) (j : Nat) (u : Value) : Box4 (w.setCell ⟨h, j, none⟩ u) g v0 v1 v2 v3 := by
  obtain ⟨c0, c1, c2, c3, f0, f1, f2, f3, z⟩ := b
  have hn : g ≠ h := fun e => hne e.symm
  constructor <;> (first | (simp (maxDischargeDepth := 12) [go_sem, *]; done) | (simp; omega))
theorem Box4.set (b : Box4 w g v0 v1 v2 v3) : Box4 ((((w.setCell ⟨g, 0, none⟩ u0).setCell ⟨g, 1, none⟩ u1).setCell ⟨g, 2, none⟩ u2).setCell ⟨g, 3, none⟩ u3) g u0 u1 u2 u3 := by
  obtain ⟨c0, c1, c2, c3, f0, f1, f2, f3, z⟩ := b
  constructor <;> (first | (simp (maxDischargeDepth := 20) [go_sem, *]; done) | (simp; omega))
end
structure Box5 (w : World) (g : Nat) (v0 v1 v2 v3 v4 : Value) : Prop where
  c0 : w.cell? ⟨g, 0, none⟩ = some v0
  c1 : w.cell? ⟨g, 1, none⟩ = some v1
  c2 : w.cell? ⟨g, 2, none⟩ = some v2
  c3 : w.cell? ⟨g, 3, none⟩ = some v3
  c4 : w.cell? ⟨g, 4, none⟩ = some v4
  f0 : w.frozen? ⟨g, 0, none⟩ = false
  f1 : w.frozen? ⟨g, 1, none⟩ = false
  f2 : w.frozen? ⟨g, 2, none⟩ = false
  f3 : w.frozen? ⟨g, 3, none⟩ = false
  f4 : w.frozen? ⟨g, 4, none⟩ = false
  z : g < w.heap.size
section
variable {w w' : World} {g h : Nat} {v0 v1 v2 v3 v4 u0 u1 u2 u3 u4 : Value}
theorem Box5.below (b : Box5 w g v0 v1 v2 v3 v4) (q : Below w.heap.size w w') : Box5 w' g v0 v1 v2 v3 v4 :=
  ⟨(q.cell b.z).trans b.c0, (q.cell b.z).trans b.c1, (q.cell b.z).trans b.c2, (q.cell b.z).trans b.c3, (q.cell b.z).trans b.c4, (q.frozen b.z).trans b.f0, (q.frozen b.z).trans b.f1, (q.frozen b.z).trans b.f2, (q.frozen b.z).trans b.f3, (q.frozen b.z).trans b.f4, Nat.lt_of_lt_of_le b.z q.size⟩
theorem Box5.make (w : World) (v0 v1 v2 v3 v4 : Value) (T : TypeId) {g : Nat} (hg : g = w.heap.size) : Box5 (w.alloc (.cells #[v0, v1, v2, v3, v4] T)) g v0 v1 v2 v3 v4 := by
  subst hg; constructor <;> simp (maxDischargeDepth := 12) [go_sem]
theorem Box5.alloc (b : Box5 w g v0 v1 v2 v3 v4) (o : Obj) : Box5 (w.alloc o) g v0 v1 v2 v3 v4 := b.below ((Below.refl _ _).alloc (Nat.le_refl _) _)
theorem Box5.drew (b : Box5 w g v0 v1 v2 v3 v4) : Box5 w.drew g v0 v1 v2 v3 v4 := b.below (Below.refl _ _).drew
theorem Box5.drewN (b : Box5 w g v0 v1 v2 v3 v4) (k : Nat) : Box5 (w.drewN k) g v0 v1 v2 v3 v4 := b.below (below_drewN (Below.refl _ _) k)
theorem Box5.other (b : Box5 w g v0 v1 v2 v3 v4) (hne : h ≠ g) (j : Nat) (u : Value) : Box5 (w.setCell ⟨h, j, none⟩ u) g v0 v1 v2 v3 v4 := by
  obtain ⟨c0, c1, c2, c3, c4, f0, f1, f2, f3, f4, z⟩ := b
  have hn : g ≠ h := fun e => hne e.symm
  constructor <;> (first | (simp (maxDischargeDepth := 12) [go_sem, *]; done) | (simp; omega))
theorem Box5.set (b : Box5 w g v0 v1 v2 v3 v4) : Box5 (((((w.setCell ⟨g, 0, none⟩ u0).setCell ⟨g, 1, none⟩ u1).setCell ⟨g, 2, none⟩ u2).setCell ⟨g, 3, none⟩ u3).setCell ⟨g, 4, none⟩ u4) g u0 u1 u2 u3 u4 := by
  obtain ⟨c0, c1, c2, c3, c4, f0, f1, f2, f3, f4, z⟩ := b
  constructor <;> (first | (simp (maxDischargeDepth := 20) [go_sem, *]; done) | (simp; omega))
end
structure Box6 (w : World) (g : Nat) (v0 v1 v2 v3 v4 v5 : Value) : Prop where
  c0 : w.cell? ⟨g, 0, none⟩ = some v0
  c1 : w.cell? ⟨g, 1, none⟩ = some v1
  c2 : w.cell? ⟨g, 2, none⟩ = some v2
  c3 : w.cell? ⟨g, 3, none⟩ = some v3
  c4 : w.cell? ⟨g, 4, none⟩ = some v4
  c5 : w.cell? ⟨g, 5, none⟩ = some v5
  f0 : w.frozen? ⟨g, 0, none⟩ = false
  f1 : w.frozen? ⟨g, 1, none⟩ = false
  f2 : w.frozen? ⟨g, 2, none⟩ = false
  f3 : w.frozen? ⟨g, 3, none⟩ = false
  f4 : w.frozen? ⟨g, 4, none⟩ = false
  f5 : w.frozen? ⟨g, 5, none⟩ = false
  z : g < w.heap.size
section
variable {w w' : World} {g h : Nat} {v0 v1 v2 v3 v4 v5 u0 u1 u2 u3 u4 u5 : Value}
theorem Box6.below (b : Box6 w g v0 v1 v2 v3 v4 v5) (q : Below w.heap.size w w') : Box6 w' g v0 v1 v2 v3 v4 v5 :=
  ⟨(q.cell b.z).trans b.c0, (q.cell b.z).trans b.c1, (q.cell b.z).trans b.c2, (q.cell b.z).trans b.c3, (q.cell b.z).trans b.c4, (q.cell b.z).trans b.c5, (q.frozen b.z).trans b.f0, (q.frozen b.z).trans b.f1, (q.frozen b.z).trans b.f2, (q.frozen b.z).trans b.f3, (q.frozen b.z).trans b.f4, (q.frozen b.z).trans b.f5, Nat.lt_of_lt_of_le b.z q.size⟩
theorem Box6.make (w : World) (v0 v1 v2 v3 v4 v5 : Value) (T : TypeId) {g : Nat} (hg : g = w.heap.size) : Box6 (w.alloc (.cells #[v0, v1, v2, v3, v4, v5] T)) g v0 v1 v2 v3 v4 v5 := by
  subst hg; constructor <;> simp (maxDischargeDepth := 12) [go_sem]
theorem Box6.alloc (b : Box6 w g v0 v1 v2 v3 v4 v5) (o : Obj) : Box6 (w.alloc o) g v0 v1 v2 v3 v4 v5 := b.below ((Below.refl _ _).alloc (Nat.le_refl _) _)
theorem Box6.drew (b : Box6 w g v0 v1 v2 v3 v4 v5) : Box6 w.drew g v0 v1 v2 v3 v4 v5 := b.below (Below.refl _ _).drew
theorem Box6.drewN (b : Box6 w g v0 v1 v2 v3 v4 v5) (k : Nat) : Box6 (w.drewN k) g v0 v1 v2 v3 v4 v5 := b.below (below_drewN (Below.refl _ _) k)
theorem Box6.other (b : Box6 w g v0 v1 v2 v3 v4 v5) (hne : h ≠ g) (j : Nat) (u : Value) : Box6 (w.setCell ⟨h, j, none⟩ u) g v0 v1 v2 v3 v4 v5 := by
  obtain ⟨c0, c1, c2, c3, c4, c5, f0, f1, f2, f3, f4, f5, z⟩ := b
  have hn : g ≠ h := fun e => hne e.symm
  constructor <;> (first | (simp (maxDischargeDepth := 12) [go_sem, *]; done) | (simp; omega))
theorem Box6.set (b : Box6 w g v0 v1 v2 v3 v4 v5) : Box6 ((((((w.setCell ⟨g, 0, none⟩ u0).setCell ⟨g, 1, none⟩ u1).setCell ⟨g, 2, none⟩ u2).setCell ⟨g, 3, none⟩ u3).setCell ⟨g, 4, none⟩ u4).setCell ⟨g, 5, none⟩ u5) g u0 u1 u2 u3 u4 u5 := by
  obtain ⟨c0, c1, c2, c3, c4, c5, f0, f1, f2, f3, f4, f5, z⟩ := b
  constructor <;> (first | (simp (maxDischargeDepth := 20) [go_sem, *]; done) | (simp; omega))
end
structure Box7 (w : World) (g : Nat) (v0 v1 v2 v3 v4 v5 v6 : Value) : Prop where
  c0 : w.cell? ⟨g, 0, none⟩ = some v0
  c1 : w.cell? ⟨g, 1, none⟩ = some v1
  c2 : w.cell? ⟨g, 2, none⟩ = some v2
  c3 : w.cell? ⟨g, 3, none⟩ = some v3
  c4 : w.cell? ⟨g, 4, none⟩ = some v4
  c5 : w.cell? ⟨g, 5, none⟩ = some v5
  c6 : w.cell? ⟨g, 6, none⟩ = some v6
  f0 : w.frozen? ⟨g, 0, none⟩ = false
  f1 : w.frozen? ⟨g, 1, none⟩ = false
  f2 : w.frozen? ⟨g, 2, none⟩ = false
  f3 : w.frozen? ⟨g, 3, none⟩ = false
  f4 : w.frozen? ⟨g, 4, none⟩ = false
  f5 : w.frozen? ⟨g, 5, none⟩ = false
  f6 : w.frozen? ⟨g, 6, none⟩ = false
  z : g < w.heap.size
section
variable {w w' : World} {g h : Nat} {v0 v1 v2 v3 v4 v5 v6 u0 u1 u2 u3 u4 u5 u6 : Value}
theorem Box7.below (b : Box7 w g v0 v1 v2 v3 v4 v5 v6) (q : Below w.heap.size w w') : Box7 w' g v0 v1 v2 v3 v4 v5 v6 :=
  ⟨(q.cell b.z).trans b.c0, (q.cell b.z).trans b.c1, (q.cell b.z).trans b.c2, (q.cell b.z).trans b.c3, (q.cell b.z).trans b.c4, (q.cell b.z).trans b.c5, (q.cell b.z).trans b.c6, (q.frozen b.z).trans b.f0, (q.frozen b.z).trans b.f1, (q.frozen b.z).trans b.f2, (q.frozen b.z).trans b.f3, (q.frozen b.z).trans b.f4, (q.frozen b.z).trans b.f5, (q.frozen b.z).trans b.f6, Nat.lt_of_lt_of_le b.z q.size⟩
theorem Box7.make (w : World) (v0 v1 v2 v3 v4 v5 v6 : Value) (T : TypeId) {g : Nat} (hg : g = w.heap.size) : Box7 (w.alloc (.cells #[v0, v1, v2, v3, v4, v5, v6] T)) g v0 v1 v2 v3 v4 v5 v6 := by
  subst hg; constructor <;> simp (maxDischargeDepth := 12) [go_sem]
theorem Box7.alloc (b : Box7 w g v0 v1 v2 v3 v4 v5 v6) (o : Obj) : Box7 (w.alloc o) g v0 v1 v2 v3 v4 v5 v6 := b.below ((Below.refl _ _).alloc (Nat.le_refl _) _)
theorem Box7.drew (b : Box7 w g v0 v1 v2 v3 v4 v5 v6) : Box7 w.drew g v0 v1 v2 v3 v4 v5 v6 := b.below (Below.refl _ _).drew
theorem Box7.drewN (b : Box7 w g v0 v1 v2 v3 v4 v5 v6) (k : Nat) : Box7 (w.drewN k) g v0 v1 v2 v3 v4 v5 v6 := b.below (below_drewN (Below.refl _ _) k)
theorem Box7.other (b : Box7 w g v0 v1 v2 v3 v4 v5 v6) (hne : h ≠ g) (j : Nat) (u : Value) : Box7 (w.setCell ⟨h, j, none⟩ u) g v0 v1 v2 v3 v4 v5 v6 := by
  obtain ⟨c0, c1, c2, c3, c4, c5, c6, f0, f1, f2, f3, f4, f5, f6, z⟩ := b
  have hn : g ≠ h := fun e => hne e.symm
  constructor <;> (first | (simp (maxDischargeDepth := 12) [go_sem, *]; done) | (simp; omega))
theorem Box7.set (b : Box7 w g v0 v1 v2 v3 v4 v5 v6) : Box7 (((((((w.setCell ⟨g, 0, none⟩ u0).setCell ⟨g, 1, none⟩ u1).setCell ⟨g, 2, none⟩ u2).setCell ⟨g, 3, none⟩ u3).setCell ⟨g, 4, none⟩ u4).setCell ⟨g, 5, none⟩ u5).setCell ⟨g, 6, none⟩ u6) g u0 u1 u2 u3 u4 u5 u6 := by
  obtain ⟨c0, c1, c2, c3, c4, c5, c6, f0, f1, f2, f3, f4, f5, f6, z⟩ := b
  constructor <;> (first | (simp (maxDischargeDepth := 20) [go_sem, *]; done) | (simp; omega))
end
structure Box8 (w : World) (g : Nat) (v0 v1 v2 v3 v4 v5 v6 v7 : Value) : Prop where
  c0 : w.cell? ⟨g, 0, none⟩ = some v0
  c1 : w.cell? ⟨g, 1, none⟩ = some v1
  c2 : w.cell? ⟨g, 2, none⟩ = some v2
  c3 : w.cell? ⟨g, 3, none⟩ = some v3
  c4 : w.cell? ⟨g, 4, none⟩ = some v4
  c5 : w.cell? ⟨g, 5, none⟩ = some v5
  c6 : w.cell? ⟨g, 6, none⟩ = some v6
  c7 : w.cell? ⟨g, 7, none⟩ = some v7
  f0 : w.frozen? ⟨g, 0, none⟩ = false
  f1 : w.frozen? ⟨g, 1, none⟩ = false
  f2 : w.frozen? ⟨g, 2, none⟩ = false
  f3 : w.frozen? ⟨g, 3, none⟩ = false
  f4 : w.frozen? ⟨g, 4, none⟩ = false
  f5 : w.frozen? ⟨g, 5, none⟩ = false
  f6 : w.frozen? ⟨g, 6, none⟩ = false
  f7 : w.frozen? ⟨g, 7, none⟩ = false
  z : g < w.heap.size
section
variable {w w' : World} {g h : Nat} {v0 v1 v2 v3 v4 v5 v6 v7 u0 u1 u2 u3 u4 u5 u6 u7 : Value}
theorem Box8.below (b : Box8 w g v0 v1 v2 v3 v4 v5 v6 v7) (q : Below w.heap.size w w') : Box8 w' g v0 v1 v2 v3 v4 v5 v6 v7 :=
  ⟨(q.cell b.z).trans b.c0, (q.cell b.z).trans b.c1, (q.cell b.z).trans b.c2, (q.cell b.z).trans b.c3, (q.cell b.z).trans b.c4, (q.cell b.z).trans b.c5, (q.cell b.z).trans b.c6, (q.cell b.z).trans b.c7, (q.frozen b.z).trans b.f0, (q.frozen b.z).trans b.f1, (q.frozen b.z).trans b.f2, (q.frozen b.z).trans b.f3, (q.frozen b.z).trans b.f4, (q.frozen b.z).trans b.f5, (q.frozen b.z).trans b.f6, (q.frozen b.z).trans b.f7, Nat.lt_of_lt_of_le b.z q.size⟩
theorem Box8.make (w : World) (v0 v1 v2 v3 v4 v5 v6 v7 : Value) (T : TypeId) {g : Nat} (hg : g = w.heap.size) : Box8 (w.alloc (.cells #[v0, v1, v2, v3, v4, v5, v6, v7] T)) g v0 v1 v2 v3 v4 v5 v6 v7 := by
  subst hg; constructor <;> simp (maxDischargeDepth := 12) [go_sem]
theorem Box8.alloc (b : Box8 w g v0 v1 v2 v3 v4 v5 v6 v7) (o : Obj) : Box8 (w.alloc o) g v0 v1 v2 v3 v4 v5 v6 v7 := b.below ((Below.refl _ _).alloc (Nat.le_refl _) _)
theorem Box8.drew (b : Box8 w g v0 v1 v2 v3 v4 v5 v6 v7) : Box8 w.drew g v0 v1 v2 v3 v4 v5 v6 v7 := b.below (Below.refl _ _).drew
theorem Box8.drewN (b : Box8 w g v0 v1 v2 v3 v4 v5 v6 v7) (k : Nat) : Box8 (w.drewN k) g v0 v1 v2 v3 v4 v5 v6 v7 := b.below (below_drewN (Below.refl _ _) k)
theorem Box8.other (b : Box8 w g v0 v1 v2 v3 v4 v5 v6 v7) (hne : h ≠ g) (j : Nat) (u : Value) : Box8 (w.setCell ⟨h, j, none⟩ u) g v0 v1 v2 v3 v4 v5 v6 v7 := by
  obtain ⟨c0, c1, c2, c3, c4, c5, c6, c7, f0, f1, f2, f3, f4, f5, f6, f7, z⟩ := b
  have hn : g ≠ h := fun e => hne e.symm
  constructor <;> (first | (simp (maxDischargeDepth := 12) [go_sem, *]; done) | (simp; omega))
theorem Box8.set (b : Box8 w g v0 v1 v2 v3 v4 v5 v6 v7) : Box8 ((((((((w.setCell ⟨g, 0, none⟩ u0).setCell ⟨g, 1, none⟩ u1).setCell ⟨g, 2, none⟩ u2).setCell ⟨g, 3, none⟩ u3).setCell ⟨g, 4, none⟩ u4).setCell ⟨g, 5, none⟩ u5).setCell ⟨g, 6, none⟩ u6).setCell ⟨g, 7, none⟩ u7) g u0 u1 u2 u3 u4 u5 u6 u7 := by
  obtain ⟨c0, c1, c2, c3, c4, c5, c6, c7, f0, f1, f2, f3, f4, f5, f6, f7, z⟩ := b
  constructor <;> (first | (simp (maxDischargeDepth := 20) [go_sem, *]; done) | (simp; omega))
end
structure Box9 (w : World) (g : Nat) (v0 v1 v2 v3 v4 v5 v6 v7 v8 : Value) : Prop where
  c0 : w.cell? ⟨g, 0, none⟩ = some v0
  c1 : w.cell? ⟨g, 1, none⟩ = some v1
  c2 : w.cell? ⟨g, 2, none⟩ = some v2
  c3 : w.cell? ⟨g, 3, none⟩ = some v3
  c4 : w.cell? ⟨g, 4, none⟩ = some v4
  c5 : w.cell? ⟨g, 5, none⟩ = some v5
  c6 : w.cell? ⟨g, 6, none⟩ = some v6
  c7 : w.cell? ⟨g, 7, none⟩ = some v7
  c8 : w.cell? ⟨g, 8, none⟩ = some v8
  f0 : w.frozen? ⟨g, 0, none⟩ = false
  f1 : w.frozen? ⟨g, 1, none⟩ = false
  f2 : w.frozen? ⟨g, 2, none⟩ = false
  f3 : w.frozen? ⟨g, 3, none⟩ = false
  f4 : w.frozen? ⟨g, 4, none⟩ = false
  f5 : w.frozen? ⟨g, 5, none⟩ = false
  f6 : w.frozen? ⟨g, 6, none⟩ = false
  f7 : w.frozen? ⟨g, 7, none⟩ = false
  f8 : w.frozen? ⟨g, 8, none⟩ = false
  z : g < w.heap.size
section
variable {w w' : World} {g h : Nat} {v0 v1 v2 v3 v4 v5 v6 v7 v8 u0 u1 u2 u3 u4 u5 u6 u7 u8 : Value}
theorem Box9.below (b : Box9 w g v0 v1 v2 v3 v4 v5 v6 v7 v8) (q : Below w.heap.size w w') : Box9 w' g v0 v1 v2 v3 v4 v5 v6 v7 v8 :=
  ⟨(q.cell b.z).trans b.c0, (q.cell b.z).trans b.c1, (q.cell b.z).trans b.c2, (q.cell b.z).trans b.c3, (q.cell b.z).trans b.c4, (q.cell b.z).trans b.c5, (q.cell b.z).trans b.c6, (q.cell b.z).trans b.c7, (q.cell b.z).trans b.c8, (q.frozen b.z).trans b.f0, (q.frozen b.z).trans b.f1, (q.frozen b.z).trans b.f2, (q.frozen b.z).trans b.f3, (q.frozen b.z).trans b.f4, (q.frozen b.z).trans b.f5, (q.frozen b.z).trans b.f6, (q.frozen b.z).trans b.f7, (q.frozen b.z).trans b.f8, Nat.lt_of_lt_of_le b.z q.size⟩
theorem Box9.make (w : World) (v0 v1 v2 v3 v4 v5 v6 v7 v8 : Value) (T : TypeId) {g : Nat} (hg : g = w.heap.size) : Box9 (w.alloc (.cells #[v0, v1, v2, v3, v4, v5, v6, v7, v8] T)) g v0 v1 v2 v3 v4 v5 v6 v7 v8 := by
  subst hg; constructor <;> simp (maxDischargeDepth := 12) [go_sem]
theorem Box9.alloc (b : Box9 w g v0 v1 v2 v3 v4 v5 v6 v7 v8) (o : Obj) : Box9 (w.alloc o) g v0 v1 v2 v3 v4 v5 v6 v7 v8 := b.below ((Below.refl _ _).alloc (Nat.le_refl _) _)
theorem Box9.drew (b : Box9 w g v0 v1 v2 v3 v4 v5 v6 v7 v8) : Box9 w.drew g v0 v1 v2 v3 v4 v5 v6 v7 v8 := b.below (Below.refl _ _).drew
theorem Box9.drewN (b : Box9 w g v0 v1 v2 v3 v4 v5 v6 v7 v8) (k : Nat) : Box9 (w.drewN k) g v0 v1 v2 v3 v4 v5 v6 v7 v8 := b.below (below_drewN (Below.refl _ _) k)
theorem Box9.other (b : Box9 w g v0 v1 v2 v3 v4 v5 v6 v7 v8) (hne : h ≠ g) (j : Nat) (u : Value) : Box9 (w.setCell ⟨h, j, none⟩ u) g v0 v1 v2 v3 v4 v5 v6 v7 v8 := by
  obtain ⟨c0, c1, c2, c3, c4, c5, c6, c7, c8, f0, f1, f2, f3, f4, f5, f6, f7, f8, z⟩ := b
  have hn : g ≠ h := fun e => hne e.symm
  constructor <;> (first | (simp (maxDischargeDepth := 12) [go_sem, *]; done) | (simp; omega))
theorem Box9.set (b : Box9 w g v0 v1 v2 v3 v4 v5 v6 v7 v8) : Box9 (((((((((w.setCell ⟨g, 0, none⟩ u0).setCell ⟨g, 1, none⟩ u1).setCell ⟨g, 2, none⟩ u2).setCell ⟨g, 3, none⟩ u3).setCell ⟨g, 4, none⟩ u4).setCell ⟨g, 5, none⟩ u5).setCell ⟨g, 6, none⟩ u6).setCell ⟨g, 7, none⟩ u7).setCell ⟨g, 8, none⟩ u8) g u0 u1 u2 u3 u4 u5 u6 u7 u8 := by
  obtain ⟨c0, c1, c2, c3, c4, c5, c6, c7, c8, f0, f1, f2, f3, f4, f5, f6, f7, f8, z⟩ := b
  constructor <;> (first | (simp (maxDischargeDepth := 20) [go_sem, *]; done) | (simp; omega))
end
end Go.Proofs.Ytkhhjibpppmekaa

/- numeral.digits. -/
namespace Go.Proofs.Ytkhhjibpppmekaa
open Go.RowKit
set_option maxRecDepth 100000 in
set_option maxHeartbeats 400000 in
theorem digits_any (A : Option Addr) (c : Nat) (bs : List Nat) (w : World) (hr : RB w w.heap.size A bs) (hc : bs.length ≤ c) (hm : bs.length ≤ 140737488351232) :
    Calls Try.prog 91 #[.slice A bs.length c] w fun e w' => e = .returned (.slice A (span digB bs) c) ∧ w = w' := by
  have hH := Lib.hid hr
  clear hr
  go_enter Try.func91, Try.ntmps91
  go_wp2_with fail
  go_loop [3] (fun n => ∃ k : Nat, k ≤ bs.length ∧ n = .int .i64 k ∧ Hid (∀ j (hj : j < bs.length), j < k → digB bs[j] = true)) (fun n => bs.length - (intOf n).toNat)
  case atStart => exact ⟨0, Nat.zero_le _, rfl, Lib.hid (fun _ _ h => absurd h (by omega))⟩
  case round =>
    obtain ⟨k, hk, rfl, hall⟩ := hrel
    by_cases hlt : k < bs.length
    · obtain ⟨ad, rfl, hb, hcell⟩ := hH.out.2 (by omega)
      have hx := hH.out.1 bs[k] (List.getElem_mem _)
      have hcl := hcell k hlt
      obtain ⟨x, hxe⟩ : ∃ x, x = bs[k] := ⟨_, rfl⟩
      rw [← hxe] at hx hcl
      have HX := Lib.hid hxe; clear hxe hcell hb
      by_cases h1 : 48 ≤ x
      · by_cases h2 : x ≤ 57
        · go_wp2
          go_round
          case rel => exact ⟨k + 1, by omega, by go_num, Lib.hid (fun j hj hjk => by
            by_cases e : j = k
            · subst e; rw [← HX.out]; simp [digB, h1, h2]
            · exact hall.out j hj (by omega))⟩
          case measure => simp [intOf]; omega
        · have he : span digB bs = k := span_eq _ _ _ hk (fun j hj hjk => hall.out j hj hjk) (fun hj => by rw [← HX.out]; simp [digB]; omega)
          have HE := Lib.hid he; clear he
          go_wp2
          go_ret
          exact ⟨by rw [HE.out]; rfl, rfl⟩
      · have he : span digB bs = k := span_eq _ _ _ hk (fun j hj hjk => hall.out j hj hjk) (fun hj => by rw [← HX.out]; simp [digB]; omega)
        have HE := Lib.hid he; clear he
        go_wp2
        go_ret
        exact ⟨by rw [HE.out]; rfl, rfl⟩
    · have he : span digB bs = k := span_eq _ _ _ hk (fun j hj hjk => hall.out j hj hjk) (fun hj => by omega)
      have HE := Lib.hid he; clear he
      go_wp2
      go_ret
      exact ⟨by rw [HE.out]; rfl, rfl⟩
end Go.Proofs.Ytkhhjibpppmekaa
