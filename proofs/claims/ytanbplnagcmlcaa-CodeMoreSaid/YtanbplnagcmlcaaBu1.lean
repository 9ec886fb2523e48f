/- Several texts put together: Kit, NumA, Frame, CodA, CodB, CodC, Rd. -/
import Derived.Test.YtanbplnagcmlcaaProg
import Derived.WalkKit
import Derived.WalkSpells
import Derived.WalkLawsBesides
import Derived.BigQuiet
import Derived.Deep.QuietTactic
import Derived.StillTailTactics
import Derived.Deep.RegionHeld3
import Derived.Deep.RegionWith
import Derived.Deep.DeepCutAuto
import Derived.Deep.DeepFit
import Derived.Deep.CutBlock
import Derived.Deep.LoopGhost
import Derived.Lib.Hide
import Derived.Handy
import Derived.RowKit3
import Derived.Laws.OwnMore
import Derived.Deep.AppendLies
import Derived.Deep.Draws
import Derived.Test.YtanbplnagcmlcaaRows
import Derived.ProofKit
import Derived.OpenShut
import Derived.ShutString
import Derived.ChangeOld
import Derived.Lib.SmallJoins
import Derived.Below
import Derived.Laws.Rows
import Derived.Maps.AppendAt
import Derived.RegionTactic
import Derived.OwnWalk
import Derived.Laws.AppendOwnNone
/- What all texts of this seat import: the walk's tactics and laws. -/
namespace Go.Proofs.Ytanbplnagcmlcaa
open Go.RowKit

theorem below_drewN {B : Nat} {a w : World} (h : Below B a w) (n : Nat) : Below B a (w.drewN n) := ⟨h.os, h.tape, h.output, h.size, h.block⟩
theorem bcell {W w1 : World} (hb : Below W.heap.size W w1) : (∀ b o, b < W.heap.size → w1.cell? ⟨b, o, none⟩ = W.cell? ⟨b, o, none⟩) ∧ (∀ b o, b < W.heap.size → w1.frozen? ⟨b, o, none⟩ = W.frozen? ⟨b, o, none⟩) :=
  ⟨fun b o h => hb.cell (p := ⟨b, o, none⟩) h, fun b o h => hb.frozen (p := ⟨b, o, none⟩) h⟩
/-- A word. -/
def Wd (x : Int) : Prop := 0 ≤ x ∧ x < 18446744073709551616
theorem Wd.zero : Wd 0 := ⟨by decide, by decide⟩
/-- A whole number of four limbs. -/
def lim4 (a b c d : Int) : Int := a + b * 18446744073709551616 + c * 340282366920938463463374607431768211456 + d * 6277101735386680763835789423207666416102355444464034512896
/-- No magnitude is this or more. -/
def LIM : Int := 1000000000000000000000000000000000000
/-- The sign and the words of a number of millionths. -/
def zn (z : Int) : Bool := decide (z < 0)
def zh (z : Int) : Int := (z.natAbs : Int) / 18446744073709551616
def zl (z : Int) : Int := (z.natAbs : Int) % 18446744073709551616
/-- A right number's sign and words, and what it is in millionths. -/
def IsD (n : Bool) (h l z : Int) : Prop := Wd h ∧ Wd l ∧ h * 18446744073709551616 + l = z.natAbs ∧ n = decide (z < 0) ∧ z.natAbs < LIM
theorem IsD.words {n : Bool} {h l z : Int} (i : IsD n h l z) : Wd h ∧ Wd l := ⟨i.1, i.2.1⟩
theorem IsD.of {z : Int} (h : z.natAbs < LIM) : IsD (zn z) (zh z) (zl z) z := by
  unfold LIM at h
  refine ⟨⟨?_, ?_⟩, ⟨?_, ?_⟩, ?_, rfl, h⟩ <;> (try unfold zh) <;> (try unfold zl) <;> omega
theorem IsD.eq {n : Bool} {h l z : Int} (i : IsD n h l z) : n = zn z ∧ h = zh z ∧ l = zl z := by
  obtain ⟨⟨a, b⟩, ⟨c, d⟩, e, f, g⟩ := i
  refine ⟨f, ?_, ?_⟩
  · unfold zh; omega
  · unfold zl; omega
end Go.Proofs.Ytanbplnagcmlcaa

/- numeral.blank, numeral.digits, fieldfareref02.Blank; slices of bytes. -/
namespace Go.Proofs.Ytanbplnagcmlcaa
open Go.RowKit
theorem block_of_add (a : Addr) (n : Nat) : (a.add n).block = a.block := by unfold Addr.add; split <;> rfl
theorem add_of_add (a : Addr) (i j : Nat) : (a.add i).add j = a.add (i + j) := by
  unfold Addr.add
  by_cases hi : i = 0 <;> by_cases hj : j = 0 <;> simp [hi, hj, Nat.add_assoc]
/-- A slice of bytes reads as a list, below block B. -/
def RB (w : World) (B : Nat) (A : Option Addr) (bs : List Nat) : Prop :=
  (∀ x ∈ bs, x < 256) ∧ (0 < bs.length → ∃ ad, A = some ad ∧ ad.block < B ∧ ∀ j (h : j < bs.length), w.cell? (ad.add j) = some (.int .u8 ((bs[j] : Nat) : Int)))
section
variable {w w' : World} {B B' : Nat} {A : Option Addr} {bs : List Nat}
theorem RB.keep (h : RB w B A bs) (hk : ∀ p : Addr, p.block < B → w'.cell? p = w.cell? p) : RB w' B A bs :=
  ⟨h.1, fun hn => by
    obtain ⟨ad, e, hb, hc⟩ := h.2 hn
    exact ⟨ad, e, hb, fun j hj => (hk _ (by rw [block_of_add]; exact hb)).trans (hc j hj)⟩⟩
theorem RB.below (h : RB w B A bs) (hb : Below B w w') : RB w' B A bs := h.keep fun _ hp => hb.cell hp
theorem RB.more (h : RB w B A bs) (hB : B ≤ B') : RB w B' A bs :=
  ⟨h.1, fun hn => by
    obtain ⟨ad, e, hb, hc⟩ := h.2 hn
    exact ⟨ad, e, by omega, hc⟩⟩
theorem RB.cut (h : RB w B A bs) {k cap : Nat} (hc : bs.length ≤ cap) : RB w B (if cap = k then A else A.map (·.add k)) (bs.drop k) := by
  refine ⟨fun x hx => h.1 x (List.mem_of_mem_drop hx), fun hn => ?_⟩
  rw [List.length_drop] at hn
  obtain ⟨ad, rfl, hb, hcell⟩ := h.2 (by omega)
  rw [if_neg (by omega)]
  refine ⟨ad.add k, rfl, by rw [block_of_add]; exact hb, fun j hj => ?_⟩
  rw [List.length_drop] at hj
  rw [add_of_add, List.getElem_drop]
  exact hcell (k + j) (by omega)
theorem RB.take (h : RB w B A bs) (k : Nat) : RB w B A (bs.take k) := by
  refine ⟨fun x hx => h.1 x (List.mem_of_mem_take hx), fun hn => ?_⟩
  rw [List.length_take] at hn
  obtain ⟨ad, e, hb, hcell⟩ := h.2 (by omega)
  refine ⟨ad, e, hb, fun j hj => ?_⟩
  rw [List.length_take] at hj
  rw [List.getElem_take]
  exact hcell j (by omega)
theorem RB.nil : RB w B A [] := ⟨by simp, by simp⟩
end
/-- A blank; a digit. -/
def blankB (c : Nat) : Bool := (decide (9 ≤ c) && decide (c ≤ 13)) || decide (c = 32)
def digB (c : Nat) : Bool := decide (48 ≤ c) && decide (c ≤ 57)
/-- How many of the first ones there are. -/
def span (p : Nat → Bool) : List Nat → Nat
  | [] => 0
  | c :: l => if p c then span p l + 1 else 0
theorem span_le (p : Nat → Bool) (l : List Nat) : span p l ≤ l.length := by
  induction l with
  | nil => simp [span]
  | cons c l ih => simp only [span]; split <;> simp <;> omega
theorem span_stop (p : Nat → Bool) (l : List Nat) (h : span p l < l.length) : p (l[span p l]) = false := by
  induction l with
  | nil => simp at h
  | cons c l ih =>
    by_cases hc : p c = true
    · simp only [span, hc, if_true] at h ⊢
      simp only [List.getElem_cons_succ]
      exact ih (by simp at h; omega)
    · simp only [span, hc, Bool.false_eq_true, if_false] at h ⊢
      simpa using hc
theorem span_all (p : Nat → Bool) (l : List Nat) (j : Nat) (h : j < span p l) (hj : j < l.length) : p l[j] = true := by
  induction l generalizing j with
  | nil => simp at hj
  | cons c l ih =>
    by_cases hc : p c = true
    · cases j with
      | zero => simpa using hc
      | succ j =>
        simp only [span, hc, if_true] at h
        simp only [List.getElem_cons_succ]
        exact ih j (by omega) (by simp at hj; omega)
    · simp [span, hc] at h
theorem span_eq (p : Nat → Bool) (l : List Nat) (k : Nat) (hk : k ≤ l.length) (h : ∀ j (hj : j < l.length), j < k → p l[j] = true) (hs : ∀ hj : k < l.length, p l[k] = false) : span p l = k := by
  have a := span_le p l
  rcases Nat.lt_trichotomy (span p l) k with hlt | heq | hgt
  · have := span_stop p l (by omega)
    rw [h _ (by omega) hlt] at this; cases this
  · exact heq
  · have := span_all p l k hgt (by omega)
    rw [hs (by omega)] at this; cases this
end Go.Proofs.Ytanbplnagcmlcaa

/- How what came in as an argument is opened: numbers, bytes. -/
namespace Go.Proofs.Ytanbplnagcmlcaa
open Go.ChangeShapes Go.WideShapes Go.ChangeAt Go.RowKit Go.Joins
theorem cellsDec : Try.prog.cellsOf 34 = 3 := by kernel_rfl
theorem wd_of {n : Int} (h : (Lit.int .u64 n).wf = true) : Wd n := by
  simp [Lit.wf, IntKind.min, IntKind.max, IntKind.signed, IntKind.bits] at h
  exact ⟨h.1, by omega⟩
theorem byte_range {n : Int} (h : (Lit.int .u8 n).wf = true) : 0 ≤ n ∧ n < 256 := by
  simp [Lit.wf, IntKind.min, IntKind.max, IntKind.signed, IntKind.bits] at h
  exact ⟨h.1, by omega⟩
theorem int64_range {n : Int} (h : (Lit.int .i64 n).wf = true) : -9223372036854775808 ≤ n ∧ n < 9223372036854775808 := by
  simp [Lit.wf, IntKind.min, IntKind.max, IntKind.signed, IntKind.bits] at h
  exact ⟨h.1, by omega⟩
set_option maxRecDepth 100000 in
theorem dec_form {H : Type} {enc : TypeId × Value → H} {w : World} {base : Nat} {spare : Nat → Bool} {held : Bool} {r : Reach} {b0 : Nat} {v : Value} {d : DataW H} {p : List MemPlace}
    (hv : Value.okWide Try.prog w r b0 34 v) (h : DataW.Trod enc Try.prog w base spare held 34 v d p) :
    ∃ (n : Bool) (hi lo : Int), v = .agg #[.bool n, .int .u64 hi, .int .u64 lo] ∧ Wd hi ∧ Wd lo := by
  obtain ⟨v0, v1, v2, y0, y1, y2, m, rfl, _, _, h0, h1, h2⟩ := open_agg3 Try.underlying34 (by kernel_rfl) cellsDec hv h
  obtain ⟨a, e0, _⟩ := DataW.trod_bool Try.underlying4 h0
  obtain ⟨b, e1, _, wb⟩ := DataW.trod_int Try.underlying32 h1
  obtain ⟨c, e2, _, wc⟩ := DataW.trod_int Try.underlying32 h2
  simp at e0 e1 e2
  subst e0 e1 e2
  exact ⟨a, b, c, rfl, wd_of wb, wd_of wc⟩
set_option maxRecDepth 100000 in
theorem bytes_form {H : Type} {enc : TypeId × Value → H} {w : World} {base : Nat} {spare : Nat → Bool} {held : Bool} {r : Reach} {b0 : Nat} {v : Value} {d : DataW H} {p : List MemPlace}
    (hv : Value.okWide Try.prog w r b0 39 v) (h : DataW.Trod enc Try.prog w base spare held 39 v d p) :
    ∃ (A : Option Addr) (c : Nat) (bs : List Nat), v = .slice A bs.length c ∧ RB w w.heap.size A bs ∧ bs.length ≤ c ∧ (A = none → bs = [] ∧ c = 0) := by
  obtain ⟨a, len, cap, rfl⟩ := okWide_slice Try.underlying39 hv
  obtain ⟨fuel, hf⟩ := h
  rcases open_ints Try.underlying39 Try.underlying5 (by kernel_rfl) hf with ⟨hcs, _⟩ | ⟨x, l, c, zs, hcs, _, hl, hm, hz, _, hcell, hwz⟩
  · simp [Value.cells] at hcs
    obtain ⟨rfl, rfl, rfl⟩ := hcs
    exact ⟨none, 0, [], rfl, RB.nil, by simp, fun _ => ⟨rfl, rfl⟩⟩
  · simp [Value.cells] at hcs
    obtain ⟨rfl, rfl, rfl⟩ := hcs
    have hzl : len ≤ zs.length := by rw [hz]; split <;> omega
    have hb : ∀ n ∈ zs, 0 ≤ n ∧ n < 256 := fun n hn => byte_range (hwz n hn)
    have hlen : ((zs.take len).map Int.toNat).length = len := by rw [List.length_map, List.length_take]; omega
    refine ⟨some x, cap, (zs.take len).map Int.toNat, by rw [hlen], ⟨?_, ?_⟩, by rw [hlen]; exact hl, fun e => by cases e⟩
    · intro y hy
      obtain ⟨n, hn, rfl⟩ := List.mem_map.1 hy
      have := hb n (List.mem_of_mem_take hn)
      omega
    · intro h0
      rw [hlen] at h0
      refine ⟨x, rfl, ?_, ?_⟩
      · have := World.block_lt_of_cell? w (x.add 0) (hcell 0 (by omega))
        rw [block_of_add] at this; exact this
      · intro j hj
        rw [hlen] at hj
        rw [hcell j (by omega)]
        have hjz : j < zs.length := by omega
        have := hb zs[j] (List.getElem_mem hjz)
        rw [List.getElem_map, List.getElem_take, List.getD_eq_getElem?_getD, List.getElem?_eq_getElem hjz]
        simp only [Option.getD_some]
        rw [Int.toNat_of_nonneg this.1]
end Go.Proofs.Ytanbplnagcmlcaa

/- Layer 15 in plain Lean: what code.Heights and code.Valid compute. -/
namespace Go.Proofs.Ytanbplnagcmlcaa
/-- An instruction, as far as its heights go: operation, three numbers, its text, what is handed to a call. -/
structure Ins where
  op : Int
  a : Int
  b : Int
  c : Int
  s : List UInt8
  l : List Int
/-- The variables of a program, as far as code looks at them: which are arrays. -/
structure Nms where
  gl : List Bool
  lo : List (List Bool)
def atI {α : Type} (l : List α) (i : Int) : Option α := if i < 0 then none else l[i.toNat]?
/-- The variable of a place. -/
def varAt (g : Nms) (mine : List Bool) (scope i : Int) : Option Bool := if scope = 1 then atI mine i else if scope = 0 then atI g.gl i else none
def isNumber (g : Nms) (mine : List Bool) (scope i : Int) : Bool := if scope = 2 then decide (0 ≤ i ∧ i ≤ 8) else varAt g mine scope i == some false
def isArray (g : Nms) (mine : List Bool) (scope i : Int) : Bool := varAt g mine scope i == some true
/-- An instruction's place: how many cells it takes, and whether it is right. -/
def placeOf (g : Nms) (mine : List Bool) (x : Ins) : Int × Bool :=
  if x.a = 0 then (0, isNumber g mine x.c x.b) else if x.a = 1 then (1, isArray g mine x.c x.b) else if x.a = 2 then (1, decide (x.c = 0) && decide (x.b = 0)) else (0, false)
/-- A call's parts, one by one. -/
def callOf (g : Nms) (mine : List Bool) : List Int → List Bool → Int → Int × Bool
  | [], _, n => (n, true)
  | _ :: _, [], _ => (0, false)
  | v :: l, p :: ps, n =>
    if v = -1 then (if p then (0, false) else callOf g mine l ps (n + 1))
    else if v < -1 ∨ p = false then (0, false)
    else if 1000 ≤ v then (if isArray g mine 1 (v - 1000) then callOf g mine l ps n else (0, false))
    else if isArray g mine 0 v then callOf g mine l ps n else (0, false)
/-- A call: whether it is right, how many cells it takes. -/
def callAt (g : Nms) (mine : List Bool) (x : Ins) : Int × Bool :=
  match atI g.lo x.b with
  | none => (0, false)
  | some ps => if ps.length < x.l.length then (0, false) else callOf g mine x.l ps 0
/-- May a built-in function have so many parts? -/
def builtB (s : List UInt8) (n : Int) : Bool :=
  if s = [108, 101, 110, 103, 116, 104] then decide (n = 0 ∨ n = 1)
  else if s = [115, 117, 98, 115, 116, 114] then decide (n = 2 ∨ n = 3)
  else if s = [105, 110, 100, 101, 120] ∨ s = [109, 97, 116, 99, 104] then decide (n = 2)
  else if s = [115, 112, 114, 105, 110, 116, 102] then decide (1 ≤ n ∧ n ≤ 16)
  else if s = [105, 110, 116] ∨ s = [116, 111, 108, 111, 119, 101, 114] ∨ s = [116, 111, 117, 112, 112, 101, 114] ∨ s = [99, 108, 111, 115, 101] then decide (n = 1)
  else false
def arithB (s : List UInt8) : Bool := decide (s = [43]) || decide (s = [45]) || decide (s = [42]) || decide (s = [47]) || decide (s = [37]) || decide (s = [94])
def compB (s : List UInt8) : Bool := decide (s = [60]) || decide (s = [60, 61]) || decide (s = [61, 61]) || decide (s = [33, 61]) || decide (s = [62]) || decide (s = [62, 61])
def countB (s : List UInt8) : Bool := decide (s = [43, 120]) || decide (s = [45, 120]) || decide (s = [120, 43]) || decide (s = [120, 45])
/-- What an instruction takes and puts; none: it isn't as told. -/
def countsOf (g : Nms) (mine : List Bool) (x : Ins) : Option (Int × Int) :=
  let num := isNumber g mine x.a x.b
  let arr := isArray g mine x.a x.b
  let pl := placeOf g mine x
  let guard (b : Bool) (t p : Int) : Option (Int × Int) := if b then some (t, p) else none
  if x.op = 0 ∨ x.op = 35 ∨ x.op = 21 ∨ x.op = 26 then some (0, 0)
  else if x.op = 1 ∨ x.op = 2 ∨ x.op = 34 then some (0, 1)
  else if x.op = 3 ∨ x.op = 25 ∨ x.op = 27 ∨ x.op = 23 ∨ x.op = 22 then some (1, 0)
  else if x.op = 4 then some (2, 2)
  else if x.op = 5 then guard num 0 1
  else if x.op = 6 then guard num 1 1
  else if x.op = 7 ∨ x.op = 9 then guard arr 1 1
  else if x.op = 10 then guard arr 1 0
  else if x.op = 8 then guard arr 2 1
  else if x.op = 11 ∨ x.op = 33 then guard arr 0 0
  else if x.op = 12 ∨ x.op = 20 then some (1, 1)
  else if x.op = 13 ∨ x.op = 17 then some (2, 1)
  else if x.op = 14 then guard (decide (1 ≤ x.a)) x.a 1
  else if x.op = 15 then guard (arithB x.s) 2 1
  else if x.op = 18 then guard (compB x.s) 2 1
  else if x.op = 19 then guard (decide (x.s = [126]) || decide (x.s = [33, 126])) 2 1
  else if x.op = 16 then guard (decide (x.s = [43]) || decide (x.s = [45]) || decide (x.s = [33])) 1 1
  else if x.op = 24 then guard (callAt g mine x).2 (callAt g mine x).1 1
  else if x.op = 28 then guard (decide (x.c = 0 ∨ x.c = 1) && decide (x.c ≤ x.a)) x.a 0
  else if x.op = 29 then guard (decide (x.c = 0 ∨ x.c = 1) && decide (x.c < x.a)) x.a 0
  else if x.op = 30 then guard (builtB x.s x.a) x.a 1
  else if x.op = 31 then guard (pl.2 && (decide (x.s = [115, 117, 98]) || decide (x.s = [103, 115, 117, 98]))) (pl.1 + 2) 1
  else if x.op = 32 then guard (decide (x.c = 0 ∨ x.c = 1) && arr) (x.c + 1) 1
  else if x.op = 36 then guard (decide (x.a = 0 ∨ x.a = 1)) x.a 2
  else if x.op = 37 then guard (pl.2 && arithB x.s) (pl.1 + 1) 1
  else if x.op = 38 then guard (pl.2 && countB x.s) pl.1 1
  else none
/-- Where an instruction goes on, and with which height (cells, goings-through); none: it isn't as told, or takes too much. -/
def waysOf (g : Nms) (mine : List Bool) (x : Ins) (at' cells each : Int) : Option (List (Int × Int × Int)) :=
  match countsOf g mine x with
  | none => none
  | some (t, p) =>
    if cells < t then none
    else if x.op = 25 ∨ x.op = 27 ∨ x.op = 26 then some []
    else if x.op = 21 then some [(x.b, cells - t + p, each)]
    else if x.op = 23 ∨ x.op = 22 then some [(at' + 1, cells - t + p, each), (x.b, cells - t, each)]
    else if x.op = 34 then some [(at' + 1, cells - t + p, each), (x.b, cells - t, each - 1)]
    else if x.op = 36 then some [(at' + 1, cells - t + p, each), (x.b, cells - t + 1, each)]
    else if x.op = 33 then some [(at' + 1, cells - t + p, each + 1)]
    else if x.op = 35 then some [(at' + 1, cells - t + p, each - 1)]
    else some [(at' + 1, cells - t + p, each)]
/-- What has been seen (heights, below 0: nothing leads there), and what is to be done, last first. -/
abbrev Sn := List (Int × Int) × List Nat
/-- A way leads on; none: it may not. -/
def leadOf (st : Sn) (w : Int × Int × Int) : Option Sn :=
  if w.1 < 0 ∨ (st.1.length : Int) ≤ w.1 then none
  else if w.2.1 < 0 ∨ 1000 < w.2.1 ∨ w.2.2 < 0 ∨ 1000 < w.2.2 then none
  else match st.1[w.1.toNat]? with
    | none => none
    | some h => if 0 ≤ h.1 then (if h = w.2 then some st else none) else some (st.1.set w.1.toNat w.2, w.1.toNat :: st.2)
def leadsOf (st : Sn) : List (Int × Int × Int) → Option Sn
  | [] => some st
  | w :: l => match leadOf st w with
    | none => none
    | some st' => leadsOf st' l
/-- The instructions to which something leads, one by one. -/
def allOf (g : Nms) (mine : List Bool) (row : List Ins) : Nat → Sn → Option (List (Int × Int))
  | 0, st => if st.2 = [] then some st.1 else none
  | f + 1, st => match st.2 with
    | [] => some st.1
    | k :: todo => match row[k]?, st.1[k]? with
      | some x, some h => match waysOf g mine x k h.1 h.2 with
        | none => none
        | some l => match leadsOf (st.1, todo) l with
          | none => none
          | some st' => allOf g mine row f st'
      | _, _ => none
/-- The heights of a procedure's instructions. -/
def heightsOf (g : Nms) (mine : List Bool) (row : List Ins) : Option (List Int) :=
  match leadOf (row.map fun _ => (-1, -1), []) (0, 0, 0) with
  | none => none
  | some st => (allOf g mine row (row.length + 1) st).map fun l => l.map (·.1)
end Go.Proofs.Ytanbplnagcmlcaa

/- Layer 15 in plain Lean: code that may be run; one more procedure, one less rule. -/
namespace Go.Proofs.Ytanbplnagcmlcaa
/-- A rule's code: its kind, the procedures of its patterns, what is done, whether the record is written. -/
structure Jb where
  kind : Int
  pats : List Int
  body : Int
  bare : Bool
/-- The parameters of a procedure. -/
def mineOf (g : Nms) (i : Nat) : List Bool := (g.lo[i]?).getD []
def ownB (lo pr : Nat) (p : Int) : Bool := decide ((lo : Int) ≤ p) && decide (p < (pr : Int))
def jobB (lo pr : Nat) (j : Jb) : Bool :=
  decide (1 ≤ j.kind ∧ j.kind ≤ 7) && decide ((j.pats.length : Int) = if j.kind = 7 then 2 else if j.kind = 6 then 1 else 0) && (j.bare || ownB lo pr j.body) && j.pats.all (ownB lo pr)
def procsB (g : Nms) : Nat → List (List Ins) → Bool
  | _, [] => true
  | i, p :: l => (heightsOf g (mineOf g i) p).isSome && procsB g (i + 1) l
def validB (g : Nms) (procs : List (List Ins)) (jobs : List Jb) : Bool :=
  decide (g.lo.length ≤ procs.length) && g.lo.all (fun l => decide (l.length ≤ 16)) && procsB g 0 procs && jobs.all (jobB g.lo.length procs.length)
theorem procsB_app (g : Nms) : ∀ (l : List (List Ins)) (i : Nat) (p : List Ins), procsB g i (l ++ [p]) = (procsB g i l && (heightsOf g (mineOf g (i + l.length)) p).isSome)
  | [], i, p => by simp [procsB]
  | q :: l, i, p => by
    simp only [List.cons_append, procsB, procsB_app g l (i + 1) p, List.length_cons]
    rw [Bool.and_assoc, show i + 1 + l.length = i + (l.length + 1) by omega]
/-- 'tick; next'. -/
def tickNext : List Ins := [⟨0, 0, 0, 0, [], []⟩, ⟨26, 0, 0, 0, [], []⟩]
theorem heights_tick (g : Nms) : heightsOf g [] tickNext = some [0, 0] := rfl
theorem jobB_more {lo pr : Nat} {j : Jb} (h : jobB lo pr j = true) : jobB lo (pr + 1) j = true := by
  unfold jobB at h ⊢
  rw [Bool.and_eq_true, Bool.and_eq_true, Bool.and_eq_true] at h ⊢
  obtain ⟨⟨⟨h1, h2⟩, h3⟩, h4⟩ := h
  have ho : ∀ p, ownB lo pr p = true → ownB lo (pr + 1) p = true := by
    intro p hp
    unfold ownB at hp ⊢
    rw [Bool.and_eq_true, decide_eq_true_eq, decide_eq_true_eq] at hp ⊢
    omega
  refine ⟨⟨⟨h1, h2⟩, ?_⟩, ?_⟩
  · rw [Bool.or_eq_true] at h3 ⊢
    exact h3.imp id (ho _)
  · rw [List.all_eq_true] at h4 ⊢
    exact fun p hp => ho p (h4 p hp)
theorem valid_more {g : Nms} {procs : List (List Ins)} {jobs : List Jb} (h : validB g procs jobs = true) : validB g (procs ++ [tickNext]) jobs = true := by
  unfold validB at h ⊢
  rw [Bool.and_eq_true, Bool.and_eq_true, Bool.and_eq_true, decide_eq_true_eq] at h ⊢
  obtain ⟨⟨⟨h1, h2⟩, h3⟩, h4⟩ := h
  refine ⟨⟨⟨by rw [List.length_append]; omega, h2⟩, ?_⟩, ?_⟩
  · rw [procsB_app, h3, Bool.true_and, Nat.zero_add]
    have : mineOf g procs.length = [] := by unfold mineOf; rw [List.getElem?_eq_none h1]; rfl
    rw [this, heights_tick]; rfl
  · rw [List.all_eq_true] at h4 ⊢
    intro j hj
    rw [List.length_append]
    exact jobB_more (h4 j hj)
theorem valid_less {g : Nms} {procs : List (List Ins)} {j : Jb} {jobs : List Jb} (h : validB g procs (j :: jobs) = true) : validB g procs jobs = true := by
  unfold validB at h ⊢
  rw [Bool.and_eq_true] at h ⊢
  refine ⟨h.1, ?_⟩
  have := h.2
  rw [List.all_cons, Bool.and_eq_true] at this
  exact this.2
end Go.Proofs.Ytanbplnagcmlcaa

/- Layer 15 in plain Lean: the heights of instructions without jumps. -/
namespace Go.Proofs.Ytanbplnagcmlcaa
/-- The instruction that a byte of CodeRows stands for; what it adds; what it takes. -/
def insOf (b : Nat) : Ins := if b % 3 = 0 then ⟨1, 0, 0, 0, [], []⟩ else if b % 3 = 1 then ⟨3, 0, 0, 0, [], []⟩ else ⟨15, 0, 0, 0, [43], []⟩
def deltaOf (b : Nat) : Int := if b % 3 = 0 then 1 else -1
def needOf (b : Nat) : Int := if b % 3 = 0 then 0 else if b % 3 = 1 then 1 else 2
def nextI : Ins := ⟨26, 0, 0, 0, [], []⟩
def hsFrom (h : Int) : List Nat → List (Int × Int)
  | [] => [(h, 0)]
  | b :: l => (h, 0) :: hsFrom (h + deltaOf b) l
def lowFrom (h : Int) : List Nat → Bool
  | [] => false
  | b :: l => decide (h < needOf b) || lowFrom (h + deltaOf b) l
theorem ways_ins (g : Nms) (b : Nat) (k h e : Int) : waysOf g [] (insOf b) k h e = if h < needOf b then none else some [(k + 1, h + deltaOf b, e)] := by
  have : b % 3 = 0 ∨ b % 3 = 1 ∨ b % 3 = 2 := by omega
  rcases this with h3 | h3 | h3
  · simp [insOf, needOf, deltaOf, h3, waysOf, countsOf]
  · simp [insOf, needOf, deltaOf, h3, waysOf, countsOf]; rw [show h - 1 = h + -1 by omega]
  · simp [insOf, needOf, deltaOf, h3, waysOf, countsOf, arithB]; rw [show h - 2 + 1 = h + -1 by omega]
theorem ways_next (g : Nms) (k h e : Int) (h0 : 0 ≤ h) : waysOf g [] nextI k h e = some [] := by
  simp [nextI, waysOf, countsOf]; omega
theorem lead_new (P : List (Int × Int)) (h d : Int) (n : Nat) (e0 : 0 ≤ h + d) (e1 : h + d ≤ 1000) :
    leadOf (P ++ [(h, 0)] ++ List.replicate (n + 1) (-1, -1), []) ((P.length : Int) + 1, h + d, 0) = some (P ++ [(h, 0)] ++ [(h + d, 0)] ++ List.replicate n (-1, -1), [P.length + 1]) := by
  unfold leadOf
  have ht : ((P.length : Int) + 1).toNat = P.length + 1 := by omega
  rw [if_neg (by simp; omega), if_neg (by simp; omega)]
  simp only [ht]
  have hg : (P ++ [(h, 0)] ++ List.replicate (n + 1) ((-1, -1) : Int × Int))[P.length + 1]? = some (-1, -1) := by
    rw [List.getElem?_append_right (by simp)]
    simp
  rw [hg]
  simp only
  rw [if_neg (by decide)]
  congr 2
  rw [List.set_append_right _ _ (by simp)]
  simp [List.replicate_succ]
theorem all_row (g : Nms) : ∀ (l : List Nat) (pre : List Ins) (P : List (Int × Int)) (h : Int) (f : Nat), P.length = pre.length → 0 ≤ h → h + l.length ≤ 1000 →
    allOf g [] (pre ++ (l.map insOf ++ [nextI])) (f + l.length + 2) (P ++ [(h, 0)] ++ List.replicate l.length (-1, -1), [pre.length]) = if lowFrom h l then none else some (P ++ hsFrom h l)
  | [], pre, P, h, f, hp, h0, h1 => by
    have e1 : (pre ++ ([].map insOf ++ [nextI]))[pre.length]? = some nextI := by simp
    have e2 : (P ++ [(h, 0)] ++ List.replicate 0 ((-1, -1) : Int × Int))[pre.length]? = some (h, 0) := by rw [← hp]; simp
    show allOf g [] _ (f + 2) _ = _
    simp only [allOf, List.length_nil]
    rw [e1, e2]
    simp only [ways_next g _ h 0 h0, leadsOf]
    simp [lowFrom, hsFrom]
  | b :: l, pre, P, h, f, hp, h0, h1 => by
    have e1 : (pre ++ ((b :: l).map insOf ++ [nextI]))[pre.length]? = some (insOf b) := by simp
    have e2 : (P ++ [(h, 0)] ++ List.replicate (b :: l).length ((-1, -1) : Int × Int))[pre.length]? = some (h, 0) := by
      rw [← hp, List.append_assoc, List.getElem?_append_right (Nat.le_refl _)]; simp
    show allOf g [] _ ((f + l.length + 2) + 1) _ = _
    rw [allOf]
    simp only [e1, e2, ways_ins]
    by_cases hn : h < needOf b
    · rw [if_pos hn]; simp [lowFrom, hn]
    · rw [if_neg hn]
      have hd : 0 ≤ h + deltaOf b ∧ deltaOf b ≤ 1 := by unfold needOf at hn; unfold deltaOf; split <;> (try split at hn) <;> omega
      simp only [List.length_cons] at h1
      have hl := lead_new P h (deltaOf b) l.length hd.1 (by omega)
      simp only [leadsOf, List.length_cons]
      rw [show ((pre.length : Nat) : Int) = ((P.length : Nat) : Int) by rw [hp], hl]
      have ih := all_row g l (pre ++ [insOf b]) (P ++ [(h, 0)]) (h + deltaOf b) f (by simp [hp]) hd.1 (by omega)
      simp only [List.map_cons, List.cons_append, List.append_assoc, List.length_append, List.length_singleton, List.singleton_append, List.nil_append] at ih ⊢
      rw [hp, ih]
      simp [lowFrom, hsFrom, hn]
theorem heights_row (g : Nms) (l : List Nat) (hl : l.length ≤ 1000) : heightsOf g [] (l.map insOf ++ [nextI]) = if lowFrom 0 l then none else some ((hsFrom 0 l).map (·.1)) := by
  unfold heightsOf
  have e1 : ((l.map insOf ++ [nextI]).map fun _ => ((-1, -1) : Int × Int)) = List.replicate (l.length + 1) (-1, -1) := by
    rw [List.map_const']; simp
  have e2 : leadOf (List.replicate (l.length + 1) (-1, -1), []) (0, 0, 0) = some ([] ++ [(0, 0)] ++ List.replicate l.length (-1, -1), [0]) := by
    unfold leadOf
    rw [if_neg (by simp), if_neg (by decide)]
    simp [List.replicate_succ]
  rw [e1, e2]
  have h := all_row g l [] [] 0 0 rfl (by omega) (by omega)
  simp only [List.nil_append, List.length_append, List.length_map, List.length_singleton, List.length_nil, Nat.zero_add] at h ⊢
  rw [h]
  split <;> rfl
end Go.Proofs.Ytanbplnagcmlcaa

/- Slices as lists of cells; blocks known whole; appending to rows that a call owns. -/
namespace Go.Proofs.Ytanbplnagcmlcaa
open Go.RowKit
def Reads (w : World) (B size : Nat) (A : Option Addr) (n : Nat) (xs : List Value) : Prop :=
  xs.length = n * size ∧ (0 < n → ∃ ad, A = some ad ∧ ad.block < B ∧ ∀ j u, xs[j]? = some u → w.cell? (ad.add j) = some u)

section
variable {w w' : World} {B B' size n : Nat} {A : Option Addr} {xs : List Value}
theorem Reads.none_ : Reads w B size A 0 [] := ⟨by simp, fun h => absurd h (by omega)⟩
theorem Reads.at_ {k : Nat} (h : Reads w B 1 A n xs) (hk : k < n) : ∃ ad u, A = some ad ∧ ad.block < B ∧ xs[k]? = some u ∧ w.cell? (ad.add k) = some u := by
  obtain ⟨ad, e, hb, hc⟩ := h.2 (by omega)
  have hl : k < xs.length := by have := h.1; omega
  exact ⟨ad, xs[k], e, hb, List.getElem?_eq_getElem hl, hc k _ (List.getElem?_eq_getElem hl)⟩
theorem Reads.keep (h : Reads w B size A n xs) (hk : ∀ p : Addr, p.block < B → w'.cell? p = w.cell? p) : Reads w' B size A n xs :=
  ⟨h.1, fun hn => by
    obtain ⟨ad, e, hb, hc⟩ := h.2 hn
    exact ⟨ad, e, hb, fun j u hu => (hk _ (by rw [block_of_add]; exact hb)).trans (hc j u hu)⟩⟩
theorem Reads.more (h : Reads w B size A n xs) (hB : B ≤ B') : Reads w B' size A n xs :=
  ⟨h.1, fun hn => by
    obtain ⟨ad, e, hb, hc⟩ := h.2 hn
    exact ⟨ad, e, by omega, hc⟩⟩
theorem Reads.below (h : Reads w B size A n xs) (hb : Below B w w') : Reads w' B size A n xs := h.keep fun _ hp => hb.cell hp
theorem Reads.drew (h : Reads w B size A n xs) : Reads w.drew B size A n xs := h
theorem Reads.drewN (h : Reads w B size A n xs) (k : Nat) : Reads (w.drewN k) B size A n xs := h
theorem Reads.alloc (h : Reads w B size A n xs) (hB : B ≤ w.heap.size) (o : Obj) : Reads (w.alloc o) B size A n xs := h.keep fun p hp => World.cell?_alloc_lt w o p (by omega)
theorem Reads.setCell (h : Reads w B size A n xs) {p : Addr} (hB : B ≤ p.block) (u : Value) : Reads (w.setCell p u) B size A n xs :=
  h.keep fun q hq => World.cell?_setCell_other w p q u (fun e => by subst e; omega)
theorem Reads.grown (h : Reads w B size A n xs) {row : Option Nat} (hg : w.grownBy w' row) (hB : B ≤ w.heap.size) (hr : ∀ g, row = some g → B ≤ g) : Reads w' B size A n xs :=
  h.keep fun p hp => World.cell?_of_block (hg.block p.block (by omega) (fun e => by have := hr _ e.symm; omega))
theorem Reads.cut (h : Reads w B size A n xs) {k cap : Nat} (hk : k ≤ n) (hc : n ≤ cap) :
    Reads w B size (if cap = k then A else A.map (·.add (k * size))) (n - k) (xs.drop (k * size)) := by
  refine ⟨by rw [List.length_drop, h.1, Nat.sub_mul], fun hn => ?_⟩
  obtain ⟨ad, rfl, hb, hcell⟩ := h.2 (by omega)
  rw [if_neg (by omega)]
  refine ⟨ad.add (k * size), rfl, by rw [block_of_add]; exact hb, fun j u hu => ?_⟩
  rw [add_of_add]
  exact hcell _ u (by rw [← hu, List.getElem?_drop])
theorem Reads.of_own {base : Nat} {e : TypeId} {c : Nat} (h : w.ownsRow base e size (.slice A n c) n xs) : Reads w w.heap.size size A n xs := by
  refine ⟨h.1, fun hn => ?_⟩
  obtain ⟨g, cap, hv, _, hlt⟩ := h.form hn
  have hA : A = some ⟨g, 0, none⟩ := by injection hv
  subst hA
  exact ⟨_, rfl, hlt, h.cells (g := g) rfl⟩
end
def Blk (w : World) (g : Nat) (t : TypeId) (cs : Array Value) : Prop := w.heap[g]? = some (.cells cs t (0, 0))

section
variable {w w' : World} {g : Nat} {t : TypeId} {cs : Array Value}
theorem Blk.lt (h : Blk w g t cs) : g < w.heap.size := by
  rcases Nat.lt_or_ge g w.heap.size with hlt | hge
  · exact hlt
  · unfold Blk at h; rw [Array.getElem?_eq_none hge] at h; cases h
theorem Blk.cell (h : Blk w g t cs) (i : Nat) : w.cell? ⟨g, i, none⟩ = cs[i]? := cell_of_row w g i cs t (0, 0) h
theorem Blk.frozen (h : Blk w g t cs) (i : Nat) : w.frozen? ⟨g, i, none⟩ = false := by
  unfold Blk at h
  simp [World.frozen?, h]
theorem Blk.new (w : World) (t : TypeId) (cs : Array Value) : Blk (w.alloc (.cells cs t)) w.heap.size t cs := heap_alloc_new w _
theorem Blk.drew (h : Blk w g t cs) : Blk w.drew g t cs := h
theorem Blk.drewN (h : Blk w g t cs) (n : Nat) : Blk (w.drewN n) g t cs := h
theorem Blk.alloc (h : Blk w g t cs) (o : Obj) : Blk (w.alloc o) g t cs := (Below.heap_alloc w o g h.lt).trans h
theorem Blk.set_ (h : Blk w g t cs) (i : Nat) (u : Value) : Blk (w.setCell ⟨g, i, none⟩ u) g t (cs.setIfInBounds i u) := by
  unfold Blk at h ⊢
  simp [World.setCell, Array.getElem?_modify, h]
theorem Blk.far (h : Blk w g t cs) {p : Addr} (hp : g ≠ p.block) (u : Value) : Blk (w.setCell p u) g t cs := (Below.heap_setCell w p u g hp).trans h
theorem Blk.below {B : Nat} (h : Blk w g t cs) (hb : Below B w w') (hg : g < B) : Blk w' g t cs := (hb.block g hg).trans h
theorem Blk.grown {row : Option Nat} (h : Blk w g t cs) (hb : w.grownBy w' row) (hg : some g ≠ row) : Blk w' g t cs := (hb.block g h.lt hg).trans h
theorem Blk.ne_ {g' : Nat} {t' : TypeId} {cs' : Array Value} (h : Blk w g t cs) (h' : Blk w g' t' cs') (hne : t ≠ t') : g ≠ g' := by
  rintro rfl
  unfold Blk at h h'
  rw [h] at h'
  injection h' with h'
  injection h' with _ ht
  exact hne ht
theorem own_blk_ne {base : Nat} {e : TypeId} {size n : Nat} {v : Value} {xs : List Value} (h : w.ownsRow base e size v n xs) (hg : Blk w g t cs) (hne : e ≠ t) : v.ownBlock ≠ some g := by
  rcases h.2 with ⟨rfl, _⟩ | ⟨g', cap, cur, rfl, _, hh, _⟩
  · simp [Value.ownBlock]
  · intro he
    have : g' = g := by simpa [Value.ownBlock] using he
    subst this
    exact Blk.ne_ (t := e) hh hg hne rfl
end
section
variable {P : Program} (w : World)

theorem run_append_of_nil (base : Nat) (t ty e : TypeId) (i : TypeInfo) (size : Nat) (ht : P.underlying t = some (.slice e)) (hi : P.info? e = some i)
    (v : Value) (n : Nat) (xs : List Value) (hown : w.ownsRow base e size v n xs) (c : Nat) : (Builtin.append_ #[t, t] ty #[v, .slice none 0 c]).run P w = .ok v w := by
  rcases hown.2 with ⟨rfl, rfl⟩ | ⟨g, cap, cur, rfl, _, _, hnc, _⟩
  · simp [Builtin.append_, run_underlying ht, sizeOf, typeInfo, hi, Builtin.lenOf, Builtin.firstCells]
  · simp [Builtin.append_, run_underlying ht, sizeOf, typeInfo, hi, Builtin.lenOf, Builtin.firstCells, hnc, storeCells]

theorem run_append_any (base : Nat) (t ty e : TypeId) (i : TypeInfo) (z : Value) (size bytes : Nat) (ht : P.underlying t = some (.slice e)) (hi : P.info? e = some i) (hz : i.zero = some z)
    (hsize : i.size = size) (hby : i.bytes = bytes) (hzs : z.cells.size = size) (hsz : 0 < size)
    (v : Value) (n : Nat) (xs : List Value) (hown : w.ownsRow base e size v n xs)
    (B : Nat) (A : Option Addr) (m c : Nat) (news : List Value) (hr : Reads w B size A m news) (h1 : ∀ u ∈ news, u.oneCell' = true)
    (h63 : n + m ≤ maxLen) (hbytes : (n + m) * bytes ≤ 140737488355328) (hbase : base ≤ w.heap.size) :
    ∃ v' w', (Builtin.append_ #[t, t] ty #[v, .slice A m c]).run P w = .ok v' w' ∧ w'.ownsRow base e size v' (n + m) (xs ++ news) ∧ w.grownBy w' v.ownBlock ∧
      (v'.ownBlock = v.ownBlock ∨ v'.ownBlock = some w.heap.size) := by
  rcases A with _ | ad
  · have hm : m = 0 := by
      rcases Nat.eq_zero_or_pos m with h0 | h0
      · exact h0
      · obtain ⟨ad, h, _⟩ := hr.2 h0
        cases h
    subst hm
    have hn : news = [] := List.eq_nil_of_length_eq_zero (by simpa using hr.1)
    subst hn
    exact ⟨v, w, run_append_of_nil w base t ty e i size ht hi v n xs hown c, by simpa using hown, World.grownBy.refl w _, .inl rfl⟩
  · have hcells : ∀ j u, news[j]? = some u → w.cell? (ad.add j) = some u := by
      intro j u hu
      rcases Nat.eq_zero_or_pos m with h0 | h0
      · subst h0
        have hn : news = [] := List.eq_nil_of_length_eq_zero (by simpa using hr.1)
        subst hn
        simp at hu
      · obtain ⟨ad', h, _, hc⟩ := hr.2 h0
        injection h with h
        subst h
        exact hc j u hu
    obtain ⟨v', w', hrun, h2, h3, _, h5⟩ := run_append_own_at (P := P) w base t ty e i z size bytes ht hi hz hsize hby hzs hsz v n xs hown ad m c news hr.1 hcells h1 h63 hbytes hbase
    exact ⟨v', w', hrun, h2, h3, h5⟩

theorem wp_append_any {o : Oper} {a : Act} {K : Act → World → Prop} {Q : Exit → Act → World → Prop} (s x : Operand) (t : TypeId)
    (ho : o.op = .call { callee := .builtin .append, args := #[s, x], argTypes := #[t, t] })
    (base : Nat) (e : TypeId) (i : TypeInfo) (z : Value) (size bytes : Nat) (ht : P.underlying t = some (.slice e)) (hi : P.info? e = some i) (hz : i.zero = some z)
    (hsize : i.size = size) (hby : i.bytes = bytes) (hzs : z.cells.size = size) (hsz : 0 < size)
    (v : Value) (n : Nat) (xs : List Value) (hs : a.eval s = v) (hown : w.ownsRow base e size v n xs)
    (B : Nat) (A : Option Addr) (m c : Nat) (news : List Value) (hx : a.eval x = .slice A m c) (hr : Reads w B size A m news) (h1 : ∀ u ∈ news, u.oneCell' = true)
    (h63 : n + m ≤ maxLen) (hbytes : (n + m) * bytes ≤ 140737488355328) (hbase : base ≤ w.heap.size)
    (h : ∀ v' w', w'.ownsRow base e size v' (n + m) (xs ++ news) → w.grownBy w' v.ownBlock → (v'.ownBlock = v.ownBlock ∨ v'.ownBlock = some w.heap.size) → K (a.put o.dst v') w') : o.wp P a w K Q := by
  obtain ⟨v', w', hrun, h2, h3, h4⟩ := run_append_any (P := P) w base t o.type e i z size bytes ht hi hz hsize hby hzs hsz v n xs hown B A m c news hr h1 h63 hbytes hbase
  unfold Oper.wp execOp
  simp only [ho, resolve, invoke, builtin, Sem.run_bind, Sem.run_pure, Result.andThen_ok, List.map_toArray, List.map_cons, List.map_nil, hs, hx, hrun]
  exact h v' w' h2 h3 h4

theorem wpList_append_any {ops : Array Oper} {rest : List Oper} {o : Oper} {a : Act} {Q : Exit → Act → World → Prop} (hgd : o.guard = none) (s x : Operand) (t : TypeId)
    (ho : o.op = .call { callee := .builtin .append, args := #[s, x], argTypes := #[t, t] })
    (base : Nat) (e : TypeId) (i : TypeInfo) (z : Value) (size bytes : Nat) (ht : P.underlying t = some (.slice e)) (hi : P.info? e = some i) (hz : i.zero = some z)
    (hsize : i.size = size) (hby : i.bytes = bytes) (hzs : z.cells.size = size) (hsz : 0 < size)
    (v : Value) (n : Nat) (xs : List Value) (hs : a.eval s = v) (hown : w.ownsRow base e size v n xs)
    (B : Nat) (A : Option Addr) (m c : Nat) (news : List Value) (hx : a.eval x = .slice A m c) (hr : Reads w B size A m news) (h1 : ∀ u ∈ news, u.oneCell' = true)
    (h63 : n + m ≤ maxLen) (hbytes : (n + m) * bytes ≤ 140737488355328) (hbase : base ≤ w.heap.size)
    (h : ∀ v' w', w'.ownsRow base e size v' (n + m) (xs ++ news) → w.grownBy w' v.ownBlock → (v'.ownBlock = v.ownBlock ∨ v'.ownBlock = some w.heap.size) → wpList P ops Q rest (a.put o.dst v') w') : wpList P ops Q (o :: rest) a w :=
  wpList_plain hgd fun _ hK => wp_append_any w s x t ho base e i z size bytes ht hi hz hsize hby hzs hsz v n xs hs hown B A m c news hx hr h1 h63 hbytes hbase fun v' w' h2 h3 h4 => hK _ _ (h v' w' h2 h3 h4)

theorem step_append_any {ops : Array Oper} {o : Oper} {a : Act} {K : Act → World → Prop} {Q : Exit → Act → World → Prop} {E : Prop} (hgd : o.guard = none) (s x : Operand) (t : TypeId)
    (ho : o.op = .call { callee := .builtin .append, args := #[s, x], argTypes := #[t, t] })
    (base : Nat) (e : TypeId) (i : TypeInfo) (z : Value) (size bytes : Nat) (ht : P.underlying t = some (.slice e)) (hi : P.info? e = some i) (hz : i.zero = some z)
    (hsize : i.size = size) (hby : i.bytes = bytes) (hzs : z.cells.size = size) (hsz : 0 < size)
    (v : Value) (n : Nat) (xs : List Value) (hs : a.eval s = v) (hown : w.ownsRow base e size v n xs)
    (B : Nat) (A : Option Addr) (m c : Nat) (news : List Value) (hx : a.eval x = .slice A m c) (hr : Reads w B size A m news) (h1 : ∀ u ∈ news, u.oneCell' = true)
    (h63 : n + m ≤ maxLen) (hbytes : (n + m) * bytes ≤ 140737488355328) (hbase : base ≤ w.heap.size)
    (h : ∀ v' w', w'.ownsRow base e size v' (n + m) (xs ++ news) → w.grownBy w' v.ownBlock → (v'.ownBlock = v.ownBlock ∨ v'.ownBlock = some w.heap.size) → K (a.put o.dst v') w') :
    if Region.wanted o (yielded ops a.tmps) = true then Oper.wp P o a w K Q else E := by
  have hw : Region.wanted o (yielded ops a.tmps) = true := by simp [Region.wanted, hgd]
  rw [if_pos hw]
  exact wp_append_any w s x t ho base e i z size bytes ht hi hz hsize hby hzs hsz v n xs hs hown B A m c news hx hr h1 h63 hbytes hbase h
end
end Go.Proofs.Ytanbplnagcmlcaa
