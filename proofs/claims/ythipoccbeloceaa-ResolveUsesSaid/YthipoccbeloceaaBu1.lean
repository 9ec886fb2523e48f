/- Several texts put together: Kit, NumA, Frame, Rd, Own, Owp, RegE, Ins, NumB, Bits, NumD, Byt, Byc, Errs, Box, ScrA, ScrB, ScrC, Upd, RegH. -/
import Derived.Test.YthipoccbeloceaaProg
import Derived.WalkKit
import Derived.WalkSpells
import Derived.WalkLawsBesides
import Derived.BigQuiet
import Derived.Deep.QuietTactic
import Derived.StillTailTactics
import Derived.Deep.RegionHeld3
import Derived.Deep.RegionWith
import Derived.Deep.DeepCutAuto
import Derived.Deep.DeepFit
import Derived.Deep.CutBlock
import Derived.Deep.LoopGhost
import Derived.Lib.Hide
import Derived.Handy
import Derived.RowKit3
import Derived.Laws.OwnMore
import Derived.Deep.AppendLies
import Derived.Deep.Draws
import Derived.Test.YthipoccbeloceaaRows
import Derived.ProofKit
import Derived.OpenShut
import Derived.ShutString
import Derived.ChangeOld
import Derived.Lib.SmallJoins
import Derived.Below
import Derived.Laws.Rows
import Derived.Maps.AppendAt
import Derived.RegionTactic
import Derived.OwnWalk
import Derived.Laws.AppendOwnNone
import Derived.Deep.MidRow
import Derived.Laws.CopyRow
import Derived.Test.YthipoccbeloceaaShelf
import Derived.Shelf.Spec.BitsCarry
import Derived.Laws.IdiomStrings
import Derived.Lib.SlBytesConst
import Derived.ArgAppend
import Derived.Lib.IfaceEq
import Derived.LaidEql
import Derived.Stop.Asserts
import Derived.RowKitTokens
import Derived.Carry
import Derived.IntWalk
set_option linter.unusedSimpArgs false
set_option linter.unusedVariables false
namespace Go.Proofs.Ythipoccbeloceaa
open Go.RowKit
theorem below_drewN {B : Nat} {a w : World} (h : Below B a w) (n : Nat) : Below B a (w.drewN n) := ⟨h.os, h.tape, h.output, h.size, h.block⟩
def zn (z : Int) : Bool := decide (z < 0)
def zh (z : Int) : Int := (z.natAbs : Int) / 18446744073709551616
def zl (z : Int) : Int := (z.natAbs : Int) % 18446744073709551616
open Go.RowKit
theorem block_of_add (a : Addr) (n : Nat) : (a.add n).block = a.block := by unfold Addr.add; split <;> rfl
theorem add_of_add (a : Addr) (i j : Nat) : (a.add i).add j = a.add (i + j) := by
  unfold Addr.add
  by_cases hi : i = 0 <;> by_cases hj : j = 0 <;> simp [hi, hj, Nat.add_assoc]
def RB (w : World) (B : Nat) (A : Option Addr) (bs : List Nat) : Prop :=
  (∀ x ∈ bs, x < 256) ∧ (0 < bs.length → ∃ ad, A = some ad ∧ ad.block < B ∧ ∀ j (h : j < bs.length), w.cell? (ad.add j) = some (.int .u8 ((bs[j] : Nat) : Int)))
section
variable {w w' : World} {B B' : Nat} {A : Option Addr} {bs : List Nat}
theorem RB.keep (h : RB w B A bs) (hk : ∀ p : Addr, p.block < B → w'.cell? p = w.cell? p) : RB w' B A bs :=
  ⟨h.1, fun hn => by
    obtain ⟨ad, e, hb, hc⟩ := h.2 hn
    exact ⟨ad, e, hb, fun j hj => (hk _ (by rw [block_of_add]; exact hb)).trans (hc j hj)⟩⟩
theorem RB.below (h : RB w B A bs) (hb : Below B w w') : RB w' B A bs := h.keep fun _ hp => hb.cell hp
theorem RB.more (h : RB w B A bs) (hB : B ≤ B') : RB w B' A bs :=
  ⟨h.1, fun hn => by
    obtain ⟨ad, e, hb, hc⟩ := h.2 hn
    exact ⟨ad, e, by omega, hc⟩⟩
theorem RB.cut (h : RB w B A bs) {k cap : Nat} (hc : bs.length ≤ cap) : RB w B (if cap = k then A else A.map (·.add k)) (bs.drop k) := by
  refine ⟨fun x hx => h.1 x (List.mem_of_mem_drop hx), fun hn => ?_⟩
  rw [List.length_drop] at hn
  obtain ⟨ad, rfl, hb, hcell⟩ := h.2 (by omega)
  rw [if_neg (by omega)]
  refine ⟨ad.add k, rfl, by rw [block_of_add]; exact hb, fun j hj => ?_⟩
  rw [List.length_drop] at hj
  rw [add_of_add, List.getElem_drop]
  exact hcell (k + j) (by omega)
theorem RB.take (h : RB w B A bs) (k : Nat) : RB w B A (bs.take k) := by
  refine ⟨fun x hx => h.1 x (List.mem_of_mem_take hx), fun hn => ?_⟩
  rw [List.length_take] at hn
  obtain ⟨ad, e, hb, hcell⟩ := h.2 (by omega)
  refine ⟨ad, e, hb, fun j hj => ?_⟩
  rw [List.length_take] at hj
  rw [List.getElem_take]
  exact hcell j (by omega)
theorem RB.nil : RB w B A [] := ⟨by simp, by simp⟩
end
def blankB (c : Nat) : Bool := (decide (9 ≤ c) && decide (c ≤ 13)) || decide (c = 32)
def digB (c : Nat) : Bool := decide (48 ≤ c) && decide (c ≤ 57)
def span (p : Nat → Bool) : List Nat → Nat
  | [] => 0
  | c :: l => if p c then span p l + 1 else 0
theorem span_le (p : Nat → Bool) (l : List Nat) : span p l ≤ l.length := by
  induction l with
  | nil => simp [span]
  | cons c l ih => simp only [span]; split <;> simp <;> omega
theorem span_stop (p : Nat → Bool) (l : List Nat) (h : span p l < l.length) : p (l[span p l]) = false := by
  induction l with
  | nil => simp at h
  | cons c l ih =>
    by_cases hc : p c = true
    · simp only [span, hc, if_true] at h ⊢
      simp only [List.getElem_cons_succ]
      exact ih (by simp at h; omega)
    · simp only [span, hc, Bool.false_eq_true, if_false] at h ⊢
      simpa using hc
theorem span_all (p : Nat → Bool) (l : List Nat) (j : Nat) (h : j < span p l) (hj : j < l.length) : p l[j] = true := by
  induction l generalizing j with
  | nil => simp at hj
  | cons c l ih =>
    by_cases hc : p c = true
    · cases j with
      | zero => simpa using hc
      | succ j =>
        simp only [span, hc, if_true] at h
        simp only [List.getElem_cons_succ]
        exact ih j (by omega) (by simp at hj; omega)
    · simp [span, hc] at h
theorem span_eq (p : Nat → Bool) (l : List Nat) (k : Nat) (hk : k ≤ l.length) (h : ∀ j (hj : j < l.length), j < k → p l[j] = true) (hs : ∀ hj : k < l.length, p l[k] = false) : span p l = k := by
  have a := span_le p l
  rcases Nat.lt_trichotomy (span p l) k with hlt | heq | hgt
  · have := span_stop p l (by omega)
    rw [h _ (by omega) hlt] at this; cases this
  · exact heq
  · have := span_all p l k hgt (by omega)
    rw [hs (by omega)] at this; cases this
set_option maxRecDepth 100000 in
set_option maxHeartbeats 400000 in
theorem blank_any (c : Nat) (w : World) :
    Calls Try.prog 73 #[.int .u8 (c : Int)] w fun e w' => e = .returned (.bool (blankB c)) ∧ w = w' := by
  have hg : blankB c = ((decide (9 ≤ c) && decide (c ≤ 13)) || decide (c = 32)) := rfl
  by_cases h1 : c < 9
  · have e1 : blankB c = false := by rw [hg]; simp; omega
    have h4 : ((c : Int) == 32) = false := by rw [beq_eq_false_iff_ne]; omega
    rw [e1]; clear hg e1
    go_enter Try.func73, Try.ntmps73
    go_wp2
    go_ret
    exact ⟨rfl, rfl⟩
  · by_cases h2 : c ≤ 13
    · have e1 : blankB c = true := by rw [hg]; simp; omega
      have h5 : decide ((c : Int) ≤ 13) = true := by rw [decide_eq_true_eq]; omega
      rw [e1]; clear hg e1
      go_enter Try.func73, Try.ntmps73
      go_wp2
      go_ret
      exact ⟨rfl, rfl⟩
    · by_cases h3 : c = 32
      · subst h3
        go_enter Try.func73, Try.ntmps73
        go_wp2
        go_ret
        exact ⟨rfl, rfl⟩
      · have e1 : blankB c = false := by rw [hg]; simp; omega
        have h4 : ((c : Int) == 32) = false := by rw [beq_eq_false_iff_ne]; omega
        have h5 : decide ((c : Int) ≤ 13) = false := by rw [decide_eq_false_iff_not]; omega
        rw [e1]; clear hg e1 h3
        go_enter Try.func73, Try.ntmps73
        go_wp2
        go_ret
        exact ⟨rfl, rfl⟩
open Go.ChangeShapes Go.WideShapes Go.ChangeAt Go.RowKit Go.Joins
theorem byte_range {n : Int} (h : (Lit.int .u8 n).wf = true) : 0 ≤ n ∧ n < 256 := by
  simp [Lit.wf, IntKind.min, IntKind.max, IntKind.signed, IntKind.bits] at h
  exact ⟨h.1, by omega⟩
set_option maxRecDepth 100000 in
theorem bytes_form {H : Type} {enc : TypeId × Value → H} {w : World} {base : Nat} {spare : Nat → Bool} {held : Bool} {r : Reach} {b0 : Nat} {v : Value} {d : DataW H} {p : List MemPlace}
    (hv : Value.okWide Try.prog w r b0 22 v) (h : DataW.Trod enc Try.prog w base spare held 22 v d p) :
    ∃ (A : Option Addr) (c : Nat) (bs : List Nat), v = .slice A bs.length c ∧ RB w w.heap.size A bs ∧ bs.length ≤ c ∧ (A = none → bs = [] ∧ c = 0) := by
  obtain ⟨a, len, cap, rfl⟩ := okWide_slice Try.underlying22 hv
  obtain ⟨fuel, hf⟩ := h
  rcases open_ints Try.underlying22 Try.underlying5 (by kernel_rfl) hf with ⟨hcs, _⟩ | ⟨x, l, c, zs, hcs, _, hl, hm, hz, _, hcell, hwz⟩
  · simp [Value.cells] at hcs
    obtain ⟨rfl, rfl, rfl⟩ := hcs
    exact ⟨none, 0, [], rfl, RB.nil, by simp, fun _ => ⟨rfl, rfl⟩⟩
  · simp [Value.cells] at hcs
    obtain ⟨rfl, rfl, rfl⟩ := hcs
    have hzl : len ≤ zs.length := by rw [hz]; split <;> omega
    have hb : ∀ n ∈ zs, 0 ≤ n ∧ n < 256 := fun n hn => byte_range (hwz n hn)
    have hlen : ((zs.take len).map Int.toNat).length = len := by rw [List.length_map, List.length_take]; omega
    refine ⟨some x, cap, (zs.take len).map Int.toNat, by rw [hlen], ⟨?_, ?_⟩, by rw [hlen]; exact hl, fun e => by cases e⟩
    · intro y hy
      obtain ⟨n, hn, rfl⟩ := List.mem_map.1 hy
      have := hb n (List.mem_of_mem_take hn)
      omega
    · intro h0
      rw [hlen] at h0
      refine ⟨x, rfl, ?_, ?_⟩
      · have := World.block_lt_of_cell? w (x.add 0) (hcell 0 (by omega))
        rw [block_of_add] at this; exact this
      · intro j hj
        rw [hlen] at hj
        rw [hcell j (by omega)]
        have hjz : j < zs.length := by omega
        have := hb zs[j] (List.getElem_mem hjz)
        rw [List.getElem_map, List.getElem_take, List.getD_eq_getElem?_getD, List.getElem?_eq_getElem hjz]
        simp only [Option.getD_some]
        rw [Int.toNat_of_nonneg this.1]
open Go.RowKit
def Reads (w : World) (B size : Nat) (A : Option Addr) (n : Nat) (xs : List Value) : Prop :=
  xs.length = n * size ∧ (0 < n → ∃ ad, A = some ad ∧ ad.block < B ∧ ∀ j u, xs[j]? = some u → w.cell? (ad.add j) = some u)
section
variable {w w' : World} {B B' size n : Nat} {A : Option Addr} {xs : List Value}
theorem Reads.at_ {k : Nat} (h : Reads w B 1 A n xs) (hk : k < n) : ∃ ad u, A = some ad ∧ ad.block < B ∧ xs[k]? = some u ∧ w.cell? (ad.add k) = some u := by
  obtain ⟨ad, e, hb, hc⟩ := h.2 (by omega)
  have hl : k < xs.length := by have := h.1; omega
  exact ⟨ad, xs[k], e, hb, List.getElem?_eq_getElem hl, hc k _ (List.getElem?_eq_getElem hl)⟩
theorem Reads.keep (h : Reads w B size A n xs) (hk : ∀ p : Addr, p.block < B → w'.cell? p = w.cell? p) : Reads w' B size A n xs :=
  ⟨h.1, fun hn => by
    obtain ⟨ad, e, hb, hc⟩ := h.2 hn
    exact ⟨ad, e, hb, fun j u hu => (hk _ (by rw [block_of_add]; exact hb)).trans (hc j u hu)⟩⟩
theorem Reads.more (h : Reads w B size A n xs) (hB : B ≤ B') : Reads w B' size A n xs :=
  ⟨h.1, fun hn => by
    obtain ⟨ad, e, hb, hc⟩ := h.2 hn
    exact ⟨ad, e, by omega, hc⟩⟩
theorem Reads.below (h : Reads w B size A n xs) (hb : Below B w w') : Reads w' B size A n xs := h.keep fun _ hp => hb.cell hp
theorem Reads.drew (h : Reads w B size A n xs) : Reads w.drew B size A n xs := h
theorem Reads.drewN (h : Reads w B size A n xs) (k : Nat) : Reads (w.drewN k) B size A n xs := h
theorem Reads.alloc (h : Reads w B size A n xs) (hB : B ≤ w.heap.size) (o : Obj) : Reads (w.alloc o) B size A n xs := h.keep fun p hp => World.cell?_alloc_lt w o p (by omega)
theorem Reads.setCell (h : Reads w B size A n xs) {p : Addr} (hB : B ≤ p.block) (u : Value) : Reads (w.setCell p u) B size A n xs :=
  h.keep fun q hq => World.cell?_setCell_other w p q u (fun e => by subst e; omega)
theorem Reads.grown (h : Reads w B size A n xs) {row : Option Nat} (hg : w.grownBy w' row) (hB : B ≤ w.heap.size) (hr : ∀ g, row = some g → B ≤ g) : Reads w' B size A n xs :=
  h.keep fun p hp => World.cell?_of_block (hg.block p.block (by omega) (fun e => by have := hr _ e.symm; omega))
theorem Reads.cut (h : Reads w B size A n xs) {k cap : Nat} (hk : k ≤ n) (hc : n ≤ cap) :
    Reads w B size (if cap = k then A else A.map (·.add (k * size))) (n - k) (xs.drop (k * size)) := by
  refine ⟨by rw [List.length_drop, h.1, Nat.sub_mul], fun hn => ?_⟩
  obtain ⟨ad, rfl, hb, hcell⟩ := h.2 (by omega)
  rw [if_neg (by omega)]
  refine ⟨ad.add (k * size), rfl, by rw [block_of_add]; exact hb, fun j u hu => ?_⟩
  rw [add_of_add]
  exact hcell _ u (by rw [← hu, List.getElem?_drop])
theorem Reads.of_own {base : Nat} {e : TypeId} {c : Nat} (h : w.ownsRow base e size (.slice A n c) n xs) : Reads w w.heap.size size A n xs := by
  refine ⟨h.1, fun hn => ?_⟩
  obtain ⟨g, cap, hv, _, hlt⟩ := h.form hn
  have hA : A = some ⟨g, 0, none⟩ := by injection hv
  subst hA
  exact ⟨_, rfl, hlt, h.cells (g := g) rfl⟩
end
def Blk (w : World) (g : Nat) (t : TypeId) (cs : Array Value) : Prop := w.heap[g]? = some (.cells cs t (0, 0))
section
variable {w w' : World} {g : Nat} {t : TypeId} {cs : Array Value}
theorem Blk.lt (h : Blk w g t cs) : g < w.heap.size := by
  rcases Nat.lt_or_ge g w.heap.size with hlt | hge
  · exact hlt
  · unfold Blk at h; rw [Array.getElem?_eq_none hge] at h; cases h
theorem Blk.cell (h : Blk w g t cs) (i : Nat) : w.cell? ⟨g, i, none⟩ = cs[i]? := cell_of_row w g i cs t (0, 0) h
theorem Blk.frozen (h : Blk w g t cs) (i : Nat) : w.frozen? ⟨g, i, none⟩ = false := by
  unfold Blk at h
  simp [World.frozen?, h]
theorem Blk.new (w : World) (t : TypeId) (cs : Array Value) : Blk (w.alloc (.cells cs t)) w.heap.size t cs := heap_alloc_new w _
theorem Blk.drew (h : Blk w g t cs) : Blk w.drew g t cs := h
theorem Blk.drewN (h : Blk w g t cs) (n : Nat) : Blk (w.drewN n) g t cs := h
theorem Blk.alloc (h : Blk w g t cs) (o : Obj) : Blk (w.alloc o) g t cs := (Below.heap_alloc w o g h.lt).trans h
theorem Blk.set_ (h : Blk w g t cs) (i : Nat) (u : Value) : Blk (w.setCell ⟨g, i, none⟩ u) g t (cs.setIfInBounds i u) := by
  unfold Blk at h ⊢
  simp [World.setCell, Array.getElem?_modify, h]
theorem Blk.far (h : Blk w g t cs) {p : Addr} (hp : g ≠ p.block) (u : Value) : Blk (w.setCell p u) g t cs := (Below.heap_setCell w p u g hp).trans h
theorem Blk.below {B : Nat} (h : Blk w g t cs) (hb : Below B w w') (hg : g < B) : Blk w' g t cs := (hb.block g hg).trans h
theorem Blk.grown {row : Option Nat} (h : Blk w g t cs) (hb : w.grownBy w' row) (hg : some g ≠ row) : Blk w' g t cs := (hb.block g h.lt hg).trans h
end
section
variable {P : Program} (w : World)
theorem run_append_of_nil (base : Nat) (t ty e : TypeId) (i : TypeInfo) (size : Nat) (ht : P.underlying t = some (.slice e)) (hi : P.info? e = some i)
    (v : Value) (n : Nat) (xs : List Value) (hown : w.ownsRow base e size v n xs) (c : Nat) : (Builtin.append_ #[t, t] ty #[v, .slice none 0 c]).run P w = .ok v w := by
  rcases hown.2 with ⟨rfl, rfl⟩ | ⟨g, cap, cur, rfl, _, _, hnc, _⟩
  · simp [Builtin.append_, run_underlying ht, sizeOf, typeInfo, hi, Builtin.lenOf, Builtin.firstCells]
  · simp [Builtin.append_, run_underlying ht, sizeOf, typeInfo, hi, Builtin.lenOf, Builtin.firstCells, hnc, storeCells]
theorem run_append_any (base : Nat) (t ty e : TypeId) (i : TypeInfo) (z : Value) (size bytes : Nat) (ht : P.underlying t = some (.slice e)) (hi : P.info? e = some i) (hz : i.zero = some z)
    (hsize : i.size = size) (hby : i.bytes = bytes) (hzs : z.cells.size = size) (hsz : 0 < size)
    (v : Value) (n : Nat) (xs : List Value) (hown : w.ownsRow base e size v n xs)
    (B : Nat) (A : Option Addr) (m c : Nat) (news : List Value) (hr : Reads w B size A m news) (h1 : ∀ u ∈ news, u.oneCell' = true)
    (h63 : n + m ≤ maxLen) (hbytes : (n + m) * bytes ≤ 140737488355328) (hbase : base ≤ w.heap.size) :
    ∃ v' w', (Builtin.append_ #[t, t] ty #[v, .slice A m c]).run P w = .ok v' w' ∧ w'.ownsRow base e size v' (n + m) (xs ++ news) ∧ w.grownBy w' v.ownBlock ∧
      (v'.ownBlock = v.ownBlock ∨ v'.ownBlock = some w.heap.size) := by
  rcases A with _ | ad
  · have hm : m = 0 := by
      rcases Nat.eq_zero_or_pos m with h0 | h0
      · exact h0
      · obtain ⟨ad, h, _⟩ := hr.2 h0
        cases h
    subst hm
    have hn : news = [] := List.eq_nil_of_length_eq_zero (by simpa using hr.1)
    subst hn
    exact ⟨v, w, run_append_of_nil w base t ty e i size ht hi v n xs hown c, by simpa using hown, World.grownBy.refl w _, .inl rfl⟩
  · have hcells : ∀ j u, news[j]? = some u → w.cell? (ad.add j) = some u := by
      intro j u hu
      rcases Nat.eq_zero_or_pos m with h0 | h0
      · subst h0
        have hn : news = [] := List.eq_nil_of_length_eq_zero (by simpa using hr.1)
        subst hn
        simp at hu
      · obtain ⟨ad', h, _, hc⟩ := hr.2 h0
        injection h with h
        subst h
        exact hc j u hu
    obtain ⟨v', w', hrun, h2, h3, _, h5⟩ := run_append_own_at (P := P) w base t ty e i z size bytes ht hi hz hsize hby hzs hsz v n xs hown ad m c news hr.1 hcells h1 h63 hbytes hbase
    exact ⟨v', w', hrun, h2, h3, h5⟩
theorem wp_append_any {o : Oper} {a : Act} {K : Act → World → Prop} {Q : Exit → Act → World → Prop} (s x : Operand) (t : TypeId)
    (ho : o.op = .call { callee := .builtin .append, args := #[s, x], argTypes := #[t, t] })
    (base : Nat) (e : TypeId) (i : TypeInfo) (z : Value) (size bytes : Nat) (ht : P.underlying t = some (.slice e)) (hi : P.info? e = some i) (hz : i.zero = some z)
    (hsize : i.size = size) (hby : i.bytes = bytes) (hzs : z.cells.size = size) (hsz : 0 < size)
    (v : Value) (n : Nat) (xs : List Value) (hs : a.eval s = v) (hown : w.ownsRow base e size v n xs)
    (B : Nat) (A : Option Addr) (m c : Nat) (news : List Value) (hx : a.eval x = .slice A m c) (hr : Reads w B size A m news) (h1 : ∀ u ∈ news, u.oneCell' = true)
    (h63 : n + m ≤ maxLen) (hbytes : (n + m) * bytes ≤ 140737488355328) (hbase : base ≤ w.heap.size)
    (h : ∀ v' w', w'.ownsRow base e size v' (n + m) (xs ++ news) → w.grownBy w' v.ownBlock → (v'.ownBlock = v.ownBlock ∨ v'.ownBlock = some w.heap.size) → K (a.put o.dst v') w') : o.wp P a w K Q := by
  obtain ⟨v', w', hrun, h2, h3, h4⟩ := run_append_any (P := P) w base t o.type e i z size bytes ht hi hz hsize hby hzs hsz v n xs hown B A m c news hr h1 h63 hbytes hbase
  unfold Oper.wp execOp
  simp only [ho, resolve, invoke, builtin, Sem.run_bind, Sem.run_pure, Result.andThen_ok, List.map_toArray, List.map_cons, List.map_nil, hs, hx, hrun]
  exact h v' w' h2 h3 h4
end
open Go.RowKit
structure Bx where
  b : Nat
  t : TypeId
  cs : List Value
structure Rw where
  e : TypeId
  size : Nat
  v : Value
  n : Nat
  xs : List Value
structure Cold where
  C : World → (Nat → Prop) → Prop
  st : ∀ w w' (F F' : Nat → Prop), (∀ b, F b → F' b ∧ w'.heap[b]? = w.heap[b]?) → C w F → C w' F'
structure Kept (X : List Nat) (w w' : World) : Prop where
  os : w'.os = w.os
  tape : w'.tape = w.tape
  output : w'.output = w.output
  size : w.heap.size ≤ w'.heap.size
  block : ∀ k, k < w.heap.size → k ∉ X → w'.heap[k]? = w.heap[k]?
theorem Kept.refl (X : List Nat) (w : World) : Kept X w w := ⟨rfl, rfl, rfl, Nat.le_refl _, fun _ _ _ => rfl⟩
theorem Kept.trans {X Y : List Nat} {a b c : World} (h : Kept X a b) (k : Kept Y b c) (hs : ∀ y ∈ Y, y ∈ X ∨ a.heap.size ≤ y) : Kept X a c :=
  ⟨k.os.trans h.os, k.tape.trans h.tape, k.output.trans h.output, Nat.le_trans h.size k.size, fun i hi hx => (k.block i (Nat.lt_of_lt_of_le hi h.size) (fun hy => by
    rcases hs i hy with h | h
    · exact hx h
    · omega)).trans (h.block i hi hx)⟩
theorem Kept.of_below {X : List Nat} {w w' : World} (h : Below w.heap.size w w') : Kept X w w' := ⟨h.os, h.tape, h.output, h.size, fun k hk _ => h.block k hk⟩
theorem Kept.below {w w' : World} (h : Kept [] w w') : Below w.heap.size w w' := ⟨h.os, h.tape, h.output, h.size, fun k hk => h.block k hk (by simp)⟩
def Loc (S : World → Prop) (n : Nat) : Prop := ∀ w w' : World, (∀ b, b < n → w'.heap[b]? = w.heap[b]?) → w.heap.size ≤ w'.heap.size → S w → S w'
def hot (bs : List Bx) (rs : List Rw) : List Nat := bs.map (·.b) ++ rs.filterMap (·.v.ownBlock)
structure Own (w0 : World) (X : List Nat) (S : World → Prop) (bs : List Bx) (rs : List Rw) (F : List Cold) (w : World) : Prop where
  kept : Kept X w0 w
  loc : Loc S w0.heap.size
  st : S w
  box : ∀ x ∈ bs, Blk w x.b x.t x.cs.toArray
  base : ∀ x ∈ bs, w0.heap.size ≤ x.b
  row : ∀ r ∈ rs, w.ownsRow w0.heap.size r.e r.size r.v r.n r.xs
  nodup : (hot bs rs).Nodup
  cold : ∀ c ∈ F, c.C w (fun b => w0.heap.size ≤ b ∧ b < w.heap.size ∧ b ∉ hot bs rs)
theorem mH {α : Type} {x : α} {l : List α} : x ∈ x :: l := List.Mem.head _
theorem mT {α : Type} {x y : α} {l : List α} (h : x ∈ l) : x ∈ y :: l := List.Mem.tail _ h
theorem mM {α : Type} {x : α} {l : List α} (h : x ∈ l := by
    repeat (first | exact mH | apply mT)) : x ∈ l := h
section
variable {w0 w w' : World} {X : List Nat} {S S' : World → Prop} {bs bs' : List Bx} {rs rs' : List Rw} {F F' : List Cold}
theorem Own.init (hs : S w) (hl : Loc S w.heap.size) : Own w X S [] [] [] w := ⟨Kept.refl _ _, hl, hs, by simp, by simp, by simp, by simp [hot], by simp⟩
theorem Own.hot_lt (h : Own w0 X S bs rs F w) : ∀ b ∈ hot bs rs, w0.heap.size ≤ b ∧ b < w.heap.size := by
  intro b hb
  rcases List.mem_append.1 hb with hb | hb
  · obtain ⟨x, hx, rfl⟩ := List.mem_map.1 hb
    exact ⟨h.base x hx, (h.box x hx).lt⟩
  · obtain ⟨r, hr, e⟩ := List.mem_filterMap.1 hb
    exact (h.row r hr).lt b e
theorem Own.next (h : Own w0 X S bs rs F w) (q : Below w.heap.size w w') : Own w0 X S bs rs F w' := by
  refine ⟨h.kept.trans (Kept.of_below (X := []) q) (by simp), h.loc, h.loc w w' (fun b hb => q.block b (Nat.lt_of_lt_of_le hb h.kept.size)) q.size h.st, fun x hx => (h.box x hx).below q (h.box x hx).lt, h.base, fun r hr => ?_, h.nodup, fun c hc => ?_⟩
  · exact (h.row r hr).kept (row := none) ⟨q.os, q.tape, q.output, q.size, fun k hk _ => q.block k hk⟩ (by cases r.v.ownBlock <;> simp)
  · exact c.st w w' _ _ (fun b hb => ⟨⟨hb.1, Nat.lt_of_lt_of_le hb.2.1 q.size, hb.2.2⟩, q.block b hb.2.1⟩) (h.cold c hc)
theorem Own.drew (h : Own w0 X S bs rs F w) : Own w0 X S bs rs F w.drew := h.next (Below.refl _ _).drew
theorem Own.junk (h : Own w0 X S bs rs F w) (o : Obj) : Own w0 X S bs rs F (w.alloc o) := h.next ((Below.refl _ _).alloc (Nat.le_refl _) _)
theorem hot_box (x : Bx) : hot (x :: bs) rs = x.b :: hot bs rs := rfl
theorem mem_hot_row (r : Rw) (b : Nat) : b ∈ hot bs (r :: rs) ↔ r.v.ownBlock = some b ∨ b ∈ hot bs rs := by
  unfold hot
  rw [List.mem_append, List.mem_append, List.filterMap_cons]
  cases e : r.v.ownBlock with
  | none => simp
  | some k => simp; constructor <;> (rintro (h | h | h) <;> simp [h])
theorem Own.alloc (h : Own w0 X S bs rs F w) (t : TypeId) (cs : List Value) : Own w0 X S (⟨w.heap.size, t, cs⟩ :: bs) rs F (w.alloc (.cells cs.toArray t)) := by
  have h' := h.junk (.cells cs.toArray t)
  have hz : w.heap.size < (w.alloc (.cells cs.toArray t)).heap.size := (Blk.new w t cs.toArray).lt
  refine ⟨h'.kept, h'.loc, h'.st, fun x hx => ?_, fun x hx => ?_, h'.row, ?_, fun c hc => ?_⟩
  · rcases List.mem_cons.1 hx with rfl | hx
    · exact Blk.new _ _ _
    · exact h'.box x hx
  · rcases List.mem_cons.1 hx with rfl | hx
    · exact h.kept.size
    · exact h'.base x hx
  · rw [hot_box]
    exact List.nodup_cons.2 ⟨fun hm => Nat.lt_irrefl _ (h.hot_lt _ hm).2, h.nodup⟩
  · refine c.st w _ _ _ (fun b hb => ⟨⟨hb.1, Nat.lt_of_lt_of_le hb.2.1 (Nat.le_of_lt hz), ?_⟩, Below.heap_alloc w _ b hb.2.1⟩) (h.cold c hc)
    rw [hot_box]
    exact fun hm => by
      rcases List.mem_cons.1 hm with e | hm
      · rw [e] at hb; exact Nat.lt_irrefl _ hb.2.1
      · exact hb.2.2 hm
theorem nodup_row {r : Rw} (h : (hot bs rs).Nodup) (hn : ∀ b, r.v.ownBlock = some b → b ∉ hot bs rs) : (hot bs (r :: rs)).Nodup := by
  unfold hot at h hn ⊢
  rw [List.filterMap_cons]
  cases e : r.v.ownBlock with
  | none => simpa using h
  | some k =>
    have := hn k e
    simp only [List.mem_append, not_or] at this
    rw [List.nodup_append] at h ⊢
    refine ⟨h.1, List.nodup_cons.2 ⟨this.2, h.2.1⟩, fun a ha b hb => ?_⟩
    rcases List.mem_cons.1 hb with rfl | hb
    · exact fun e => this.1 (e ▸ ha)
    · exact h.2.2 a ha b hb
theorem Own.addRow (h : Own w0 X S bs rs F w) (r : Rw) (B : Nat) (hB : w0.heap.size ≤ B) (hr : w.ownsRow B r.e r.size r.v r.n r.xs) (hn : ∀ b, B ≤ b → b ∉ hot bs rs) (hF : ∀ c ∈ F, c.C w (fun b => (w0.heap.size ≤ b ∧ b < w.heap.size ∧ b ∉ hot bs rs) ∧ b < B)) : Own w0 X S bs (r :: rs) F w := by
  refine ⟨h.kept, h.loc, h.st, h.box, h.base, fun x hx => ?_, nodup_row h.nodup fun b e => hn b (hr.lt b e).1, fun c hc => ?_⟩
  · rcases List.mem_cons.1 hx with rfl | hx
    · obtain ⟨h1, h2⟩ := hr
      refine ⟨h1, ?_⟩
      rcases h2 with h2 | ⟨g, cap, cur, e, hg, h3⟩
      · exact .inl h2
      · exact .inr ⟨g, cap, cur, e, Nat.le_trans hB hg, h3⟩
    · exact h.row x hx
  · refine c.st w w _ _ (fun b hb => ⟨⟨hb.1.1, hb.1.2.1, fun hm => ?_⟩, rfl⟩) (hF c hc)
    rcases (mem_hot_row r b).1 hm with e | hm
    · have := (hr.lt b e).1; have := hb.2; omega
    · exact hb.1.2.2 hm
theorem Own.nilRow (h : Own w0 X S bs rs F w) (e : TypeId) (size : Nat) : Own w0 X S bs (⟨e, size, .slice none 0 0, 0, []⟩ :: rs) F w := by
  refine ⟨h.kept, h.loc, h.st, h.box, h.base, fun x hx => ?_, nodup_row h.nodup fun b e => by simp [Value.ownBlock] at e, fun c hc => ?_⟩
  · rcases List.mem_cons.1 hx with rfl | hx
    · exact World.ownsRow_nil _ _ _ _
    · exact h.row x hx
  · refine c.st w w _ _ (fun b hb => ⟨⟨hb.1, hb.2.1, fun hm => ?_⟩, rfl⟩) (h.cold c hc)
    rcases (mem_hot_row _ b).1 hm with e | hm
    · simp [Value.ownBlock] at e
    · exact hb.2.2 hm
theorem Own.litRow (h : Own w0 X S bs rs F w) (e : TypeId) (size n : Nat) (cs : List Value) (hc : cs.length = n * size) (hn : n ≤ maxLen) : Own w0 X S bs (⟨e, size, .slice (some ⟨w.heap.size, 0, none⟩) n n, n, cs⟩ :: rs) F (w.alloc (.cells cs.toArray e)) := by
  have h' := h.junk (.cells cs.toArray e)
  have hr : (w.alloc (.cells cs.toArray e)).ownsRow w.heap.size e size (.slice (some ⟨w.heap.size, 0, none⟩) n n) n cs := by
    have := World.ownsRow_lit (base := w.heap.size) (e := e) (size := size) w cs.toArray n (Nat.le_refl _) hn (by simpa using hc)
    simpa using this
  refine h'.addRow ⟨e, size, .slice (some ⟨w.heap.size, 0, none⟩) n n, n, cs⟩ w.heap.size h.kept.size hr (fun b hb hm => by have := (h.hot_lt b hm).2; omega) fun c hc => ?_
  exact c.st w _ _ _ (fun b hb => ⟨⟨⟨hb.1, Nat.lt_of_lt_of_le hb.2.1 ((Below.refl w.heap.size w).alloc (Nat.le_refl _) _).size, hb.2.2⟩, hb.2.1⟩, Below.heap_alloc w _ b hb.2.1⟩) (h.cold c hc)
inductive Chg {α : Type} : List α → α → α → List α → Prop
  | head (l : List α) (x y : α) : Chg (x :: l) x y (y :: l)
  | tail {l l' : List α} {x y : α} (z : α) (h : Chg l x y l') : Chg (z :: l) x y (z :: l')
theorem cH {α : Type} {l : List α} {x y : α} : Chg (x :: l) x y (y :: l) := .head _ _ _
theorem Chg.map {α β : Type} {l l' : List α} {x y : α} (f : α → β) (h : Chg l x y l') (e : f y = f x) : l'.map f = l.map f := by
  induction h with
  | head l x y => simp [e]
  | tail z h ih => simp [ih e]
theorem Chg.mem {α : Type} {l l' : List α} {x y : α} (h : Chg l x y l') : x ∈ l ∧ ∀ z ∈ l', z = y ∨ z ∈ l := by
  induction h with
  | head l x y => exact ⟨List.mem_cons_self, fun z hz => by rcases List.mem_cons.1 hz with h | h; exact .inl h; exact .inr (List.mem_cons_of_mem _ h)⟩
  | tail z h ih => exact ⟨List.mem_cons_of_mem _ ih.1, fun u hu => by
      rcases List.mem_cons.1 hu with rfl | hu
      · exact .inr List.mem_cons_self
      · rcases ih.2 u hu with h | h
        · exact .inl h
        · exact .inr (List.mem_cons_of_mem _ h)⟩
theorem Chg.others {l l' : List Bx} {x y : Bx} (h : Chg l x y l') (hn : (l.map (·.b)).Nodup) : ∀ z ∈ l', z = y ∨ (z ∈ l ∧ z.b ≠ x.b) := by
  induction h with
  | head l x y =>
    intro z hz
    rcases List.mem_cons.1 hz with h | h
    · exact .inl h
    · right
      rw [List.map_cons, List.nodup_cons] at hn
      exact ⟨List.mem_cons_of_mem _ h, fun e => hn.1 (e ▸ List.mem_map_of_mem h)⟩
  | tail u h ih =>
    intro z hz
    rw [List.map_cons, List.nodup_cons] at hn
    rcases List.mem_cons.1 hz with rfl | hz
    · exact .inr ⟨List.mem_cons_self, fun e => hn.1 (e ▸ List.mem_map_of_mem h.mem.1)⟩
    · rcases ih hn.2 z hz with h | h
      · exact .inl h
      · exact .inr ⟨List.mem_cons_of_mem _ h.1, h.2⟩
theorem Own.set (h : Own w0 X S bs rs F w) {b : Nat} {t : TypeId} {cs cs' : List Value} (hc : Chg bs ⟨b, t, cs⟩ ⟨b, t, cs'⟩ bs') (hb : Blk w' b t cs'.toArray) (hs : w'.heap.size = w.heap.size)
    (ho : w'.os = w.os ∧ w'.tape = w.tape ∧ w'.output = w.output) (hk : ∀ k, k ≠ b → w'.heap[k]? = w.heap[k]?) : Own w0 X S bs' rs F w' := by
  have hm := hc.mem
  have hot_eq : hot bs' rs = hot bs rs := by unfold hot; rw [hc.map (·.b) rfl]
  have hbb : w0.heap.size ≤ b := h.base _ hm.1
  have hbh : b ∈ hot bs rs := List.mem_append_left _ (List.mem_map_of_mem (f := (·.b)) hm.1)
  refine ⟨⟨ho.1.trans h.kept.os, ho.2.1.trans h.kept.tape, ho.2.2.trans h.kept.output, by rw [hs]; exact h.kept.size, fun k hk1 hk2 => (hk k (by omega)).trans (h.kept.block k hk1 hk2)⟩, h.loc, h.loc w w' (fun k hk1 => hk k (by omega)) (by omega) h.st, fun x hx => ?_, fun x hx => ?_, fun r hr => ?_, by rw [hot_eq]; exact h.nodup, fun c hc2 => ?_⟩
  · have hnd : (bs.map (·.b)).Nodup := (List.nodup_append.1 h.nodup).1
    rcases hc.others hnd x hx with rfl | ⟨h1, h2⟩
    · exact hb
    · exact (hk x.b h2).trans (h.box x h1)
  · rcases hm.2 x hx with rfl | h1
    · exact hbb
    · exact h.base x h1
  · have hr1 := h.row r hr
    refine hr1.kept (row := some b) ⟨ho.1, ho.2.1, ho.2.2, by omega, fun k _ hk2 => hk k fun e => hk2 (by rw [e])⟩ ?_
    cases e : r.v.ownBlock with
    | none => exact .inl rfl
    | some k =>
      right
      intro e2
      have e3 : k = b := Option.some.inj e2
      subst e3
      have hnd := List.nodup_append.1 h.nodup
      exact hnd.2.2 k (List.mem_map_of_mem (f := (·.b)) hm.1) k (List.mem_filterMap.2 ⟨r, hr, e⟩) rfl
  · rw [hot_eq]
    refine c.st w w' _ _ (fun k hk1 => ⟨⟨hk1.1, by rw [hs]; exact hk1.2.1, hk1.2.2⟩, hk k fun e => hk1.2.2 (e ▸ hbh)⟩) (h.cold c hc2)
theorem Own.cells (h : Own w0 X S bs rs F w) {b : Nat} {t : TypeId} {cs : List Value} (hm : ⟨b, t, cs⟩ ∈ bs) (o : Nat) : w.rangeAt b o (cs.drop o) := fun j v hv => by
  have hb : Blk w b t cs.toArray := h.box _ hm
  rw [hb.cell]
  simpa [List.getElem?_drop] using hv
theorem Own.call (h : Own w0 X S bs rs F w) {Y : List Nat} (hY : ∀ y ∈ Y, y ∈ X ∧ y < w0.heap.size) (q : Kept Y w w') (hs : S' w') (hl : Loc S' w0.heap.size) : Own w0 X S' bs rs F w' := by
  refine ⟨h.kept.trans q fun y hy => .inl (hY y hy).1, hl, hs, fun x hx => ?_, h.base, fun r hr => ?_, h.nodup, fun c hc => ?_⟩
  · have hb := h.box x hx
    exact (q.block x.b hb.lt fun hy => by have := (hY _ hy).2; have := h.base x hx; omega).trans hb
  · have hr1 := h.row r hr
    rcases hr1.2 with h2 | ⟨g, cap, cur, e, hg, hh, h3⟩
    · exact ⟨hr1.1, .inl h2⟩
    · have hlt : g < w.heap.size := by
        rcases Nat.lt_or_ge g w.heap.size with h | h
        · exact h
        · rw [Array.getElem?_eq_none h] at hh; cases hh
      exact ⟨hr1.1, .inr ⟨g, cap, cur, e, hg, (q.block g hlt fun hy => by have := (hY _ hy).2; omega).trans hh, h3⟩⟩
  · exact c.st w w' _ _ (fun b hb => ⟨⟨hb.1, Nat.lt_of_lt_of_le hb.2.1 q.size, hb.2.2⟩, q.block b hb.2.1 fun hy => by have := (hY _ hy).2; omega⟩) (h.cold c hc)
theorem Own.addCold (h : Own w0 X S bs rs F w) (c : Cold) (B : Nat) (hB : w0.heap.size ≤ B) (hn : ∀ b ∈ hot bs rs, b < B) (hc : c.C w (fun b => B ≤ b ∧ b < w.heap.size)) : Own w0 X S bs rs (c :: F) w :=
  ⟨h.kept, h.loc, h.st, h.box, h.base, h.row, h.nodup, fun d hd => by
    rcases List.mem_cons.1 hd with rfl | hd
    · exact d.st w w _ _ (fun b hb => ⟨⟨Nat.le_trans hB hb.1, hb.2, fun hm => by have := hn b hm; omega⟩, rfl⟩) hc
    · exact h.cold d hd⟩
theorem Own.coldAll (h : Own w0 X S bs rs F w) (c : Cold) (hc : c.C w (fun b => w0.heap.size ≤ b ∧ b < w.heap.size ∧ b ∉ hot bs rs)) : Own w0 X S bs rs (c :: F) w :=
  ⟨h.kept, h.loc, h.st, h.box, h.base, h.row, h.nodup, fun d hd => by
    rcases List.mem_cons.1 hd with rfl | hd
    · exact hc
    · exact h.cold d hd⟩
theorem Own.sub (h : Own w0 X S bs rs F w) (hb : bs'.Sublist bs) (hr : rs'.Sublist rs) (hF : ∀ c ∈ F', c ∈ F) : Own w0 X S bs' rs' F' w := by
  have hs : (hot bs' rs').Sublist (hot bs rs) := (hb.map _).append (hr.filterMap _)
  exact ⟨h.kept, h.loc, h.st, fun x hx => h.box x (hb.subset hx), fun x hx => h.base x (hb.subset hx), fun r h1 => h.row r (hr.subset h1), h.nodup.sublist hs, fun c hc => c.st w w _ _ (fun b hb2 => ⟨⟨hb2.1, hb2.2.1, fun hm => hb2.2.2 (hs.subset hm)⟩, rfl⟩) (h.cold c (hF c hc))⟩
theorem Own.grow {r : Rw} (h : Own w0 X S bs (r :: rs) F w) (r' : Rw) (hr : w'.ownsRow w0.heap.size r'.e r'.size r'.v r'.n r'.xs) (hg : w.grownBy w' r.v.ownBlock) (hv : r'.v.ownBlock = r.v.ownBlock ∨ ∀ k, r'.v.ownBlock = some k → w.heap.size ≤ k) : Own w0 X S bs (r' :: rs) F w' := by
  have hrow := h.row r List.mem_cons_self
  have hrb : ∀ k, r.v.ownBlock = some k → k ∈ hot bs (r :: rs) := fun k e => (mem_hot_row r k).2 (.inl e)
  have hlow : ∀ k, r.v.ownBlock = some k → w0.heap.size ≤ k := fun k e => (hrow.lt k e).1
  have hbox : ∀ x ∈ bs, some x.b ≠ r.v.ownBlock := fun x hx e => by
    have hnd := List.nodup_append.1 h.nodup
    exact hnd.2.2 x.b (List.mem_map_of_mem (f := (·.b)) hx) x.b (List.mem_filterMap.2 ⟨r, List.mem_cons_self, e.symm⟩) rfl
  have hsub := h.sub (List.Sublist.refl bs) (List.sublist_cons_self r rs) (fun c hc => hc)
  have hnew : ∀ b, r'.v.ownBlock = some b → b ∉ hot bs rs := by
    intro b e hm
    rcases hv with hv | hv
    · have hnd := h.nodup
      rw [hv] at e
      rcases List.mem_append.1 hm with hm | hm
      · obtain ⟨x, hx, rfl⟩ := List.mem_map.1 hm
        exact hbox x hx e.symm
      · have hnd2 := (List.nodup_append.1 hnd).2.1
        rw [List.filterMap_cons, e] at hnd2
        exact (List.nodup_cons.1 hnd2).1 hm
    · have := hv b e
      have := (hsub.hot_lt b hm).2
      omega
  refine ⟨h.kept.trans (Y := r.v.ownBlock.toList) ⟨hg.os, hg.tape, hg.output, hg.size, fun k hk hx => hg.block k hk (fun e => hx (by rw [← e]; simp))⟩ (fun y hy => .inr (hlow y (by simpa using hy))), h.loc, h.loc w w' (fun b hb => hg.block b (Nat.lt_of_lt_of_le hb h.kept.size) fun e => by have := hlow b e.symm; omega) hg.size h.st, fun x hx => (h.box x hx).grown hg (hbox x hx), h.base, fun x hx => ?_, nodup_row hsub.nodup hnew, fun c hc => ?_⟩
  · rcases List.mem_cons.1 hx with rfl | hx
    · exact hr
    · refine (h.row x (List.mem_cons_of_mem _ hx)).kept hg ?_
      cases e : x.v.ownBlock with
      | none => exact .inl rfl
      | some k =>
        right
        intro e2
        have hnd2 := (List.nodup_append.1 h.nodup).2.1
        rw [List.filterMap_cons, ← e2] at hnd2
        exact (List.nodup_cons.1 hnd2).1 (List.mem_filterMap.2 ⟨x, hx, e⟩)
  · refine c.st w w' _ _ (fun b hb => ⟨⟨hb.1, Nat.lt_of_lt_of_le hb.2.1 hg.size, fun hm => ?_⟩, hg.block b hb.2.1 fun e => hb.2.2 (hrb b e.symm)⟩) (h.cold c hc)
    rcases (mem_hot_row r' b).1 hm with e | hm
    · rcases hv with hv | hv
      · exact hb.2.2 (hrb b (hv ▸ e))
      · have := hv b e; omega
    · exact hb.2.2 ((mem_hot_row r b).2 (.inr hm))
end
open Go.RowKit
section
variable {P : Program} {o : Oper} {a : Act} {w0 w : World} {X : List Nat} {S : World → Prop} {bs bs' : List Bx} {rs : List Rw} {F : List Cold} {K : Act → World → Prop} {Q : Exit → Act → World → Prop}
def WOp (P : Program) (o : Oper) (a : Act) (w : World) (K : Act → World → Prop) (Q : Exit → Act → World → Prop) : Prop := o.wp P a w K Q
theorem to_load {d : Option Tmp} {ty T : TypeId} {x : Operand} {ps : String} {af : Array Edge} {gd : Option (Nat × Bool)} (h : WOp P ⟨d, .load ty x, T, ps, af, gd⟩ a w K Q) : Oper.wp P ⟨d, .load ty x, T, ps, af, gd⟩ a w K Q := h
theorem to_store {d : Option Tmp} {ty T : TypeId} {x y : Operand} {ps : String} {af : Array Edge} {gd : Option (Nat × Bool)} (h : WOp P ⟨d, .store ty x y, T, ps, af, gd⟩ a w K Q) : Oper.wp P ⟨d, .store ty x y, T, ps, af, gd⟩ a w K Q := h
theorem to_alloc {d : Option Tmp} {ty T : TypeId} {ps : String} {af : Array Edge} {gd : Option (Nat × Bool)} (h : WOp P ⟨d, .alloc ty, T, ps, af, gd⟩ a w K Q) : Oper.wp P ⟨d, .alloc ty, T, ps, af, gd⟩ a w K Q := h
theorem to_box {d : Option Tmp} {ty T : TypeId} {x : Operand} {ps : String} {af : Array Edge} {gd : Option (Nat × Bool)} (h : WOp P ⟨d, .box ty x, T, ps, af, gd⟩ a w K Q) : Oper.wp P ⟨d, .box ty x, T, ps, af, gd⟩ a w K Q := h
theorem wo_load (HO : Hid (Own w0 X S bs rs F w)) {ty : TypeId} {x : Operand} (ho : o.op = .load ty x) {b : Nat} (hx : a.eval x = .pointer (some ⟨b, 0, none⟩)) {t : TypeId} {cs : List Value} (hm : (⟨b, t, cs⟩ : Bx) ∈ bs)
    (hd : ∀ w, (isAgg ty).run P w = .ok true w) {n : Nat} (hs : ∀ w, (sizeOf ty).run P w = .ok n w) (hn : cs.length = n) (h : K (a.put o.dst (.agg cs.toArray)) w) : WOp P o a w K Q := by
  subst hn
  have hl : (loadCells ⟨b, 0, none⟩ cs.length).run P w = .ok cs.toArray w :=
    run_loadCells_list (P := P) w ⟨b, 0, none⟩ cs (fun j v hv => by rw [Addr.add_mid]; exact HO.out.cells hm 0 j v (by simpa using hv))
  unfold WOp Oper.wp execOp
  simp only [ho, hx, Instr.loadAt, Instr.sureAddr, Sem.run_bind, Sem.run_pure, Result.andThen_ok, loadVar, hd w, if_true, hs w, hl]
  exact h
theorem wo_load_at (HO : Hid (Own w0 X S bs rs F w)) {ty : TypeId} {x : Operand} (ho : o.op = .load ty x) {b k n : Nat} (hx : a.eval x = .pointer (some ⟨b, k, none⟩)) {t : TypeId} {cs sub : List Value} (hm : (⟨b, t, cs⟩ : Bx) ∈ bs)
    (hd : ∀ w, (isAgg ty).run P w = .ok true w) (hs : ∀ w, (sizeOf ty).run P w = .ok n w) (hsub : (cs.drop k).take n = sub) (hn : sub.length = n) (h : K (a.put o.dst (.agg sub.toArray)) w) : WOp P o a w K Q := by
  have hl : (loadCells ⟨b, k, none⟩ n).run P w = .ok sub.toArray w := by
    rw [← hn]
    refine run_loadCells_list (P := P) w ⟨b, k, none⟩ sub (fun j v hv => ?_)
    rw [Addr.add_mid]
    refine HO.out.cells hm k j v ?_
    rw [← hsub, List.getElem?_take] at hv
    split at hv
    · exact hv
    · cases hv
  unfold WOp Oper.wp execOp
  simp only [ho, hx, Instr.loadAt, Instr.sureAddr, Sem.run_bind, Sem.run_pure, Result.andThen_ok, loadVar, hd w, if_true, hs w, hl]
  exact h
theorem wo_load1 (HO : Hid (Own w0 X S bs rs F w)) {ty : TypeId} {x : Operand} (ho : o.op = .load ty x) {b k : Nat} (hx : a.eval x = .pointer (some ⟨b, k, none⟩)) {t : TypeId} {cs : List Value} {v : Value} (hm : (⟨b, t, cs⟩ : Bx) ∈ bs)
    (hd : ∀ w, (isAgg ty).run P w = .ok false w) (hv : cs[k]? = some v) (h : K (a.put o.dst v) w) : WOp P o a w K Q := by
  have hl : w.cell? ⟨b, k, none⟩ = some v := by
    have := HO.out.cells hm k 0 v (by rw [List.getElem?_drop]; exact hv)
    exact this
  unfold WOp Oper.wp execOp
  simp only [ho, hx, Instr.loadAt, Instr.sureAddr, Sem.run_bind, Sem.run_pure, Result.andThen_ok, loadVar, hd w, Bool.false_eq_true, if_false, run_load, hl]
  exact h
theorem setRow_other (w : World) (g k : Nat) (c : Array Value) (h : k ≠ g) : (w.setRow g c).heap[k]? = w.heap[k]? := by
  unfold World.setRow
  simp only [Array.getElem?_modify]
  rw [if_neg (fun e => h e.symm)]
theorem setRow_size (w : World) (g : Nat) (c : Array Value) : (w.setRow g c).heap.size = w.heap.size := by
  unfold World.setRow
  simp
theorem Own.storeAt (HO : Own w0 X S bs rs F w) {b k : Nat} {t : TypeId} {cs vs : List Value} (hc : Chg bs ⟨b, t, cs⟩ ⟨b, t, cs.take k ++ vs ++ cs.drop (k + vs.length)⟩ bs') (hl : k + vs.length ≤ cs.length) (h1 : ∀ v ∈ vs, v.oneCell' = true) :
    ∃ W, (storeCells ⟨b, k, none⟩ vs).run P w = .ok () W ∧ Own w0 X S bs' rs F W := by
  have hb : Blk w b t cs.toArray := HO.box _ hc.mem.1
  have hr := run_storeCells_at (P := P) b k t vs 0 cs.toArray w hb (by simpa using hl) h1
  refine ⟨_, hr, HO.set hc ?_ (setRow_size _ _ _) ⟨rfl, rfl, rfl⟩ fun k hk => setRow_other _ _ _ _ hk⟩
  have := setRow_heap w b cs.toArray (cs.toArray.toList.take (k + 0) ++ vs ++ cs.toArray.toList.drop (k + 0 + vs.length)).toArray t (0, 0) hb
  show (w.setRow b _).heap[b]? = _
  simpa using this
theorem wo_store (HO : Hid (Own w0 X S bs rs F w)) {ty : TypeId} {x y : Operand} (ho : o.op = .store ty x y) (hdst : o.dst = none) {b : Nat} (hx : a.eval x = .pointer (some ⟨b, 0, none⟩)) {vs : List Value} (hy : a.eval y = .agg vs.toArray) {t : TypeId} {cs : List Value} (hc : Chg bs ⟨b, t, cs⟩ ⟨b, t, vs⟩ bs')
    {n : Nat} (hs : ∀ w, (sizeOf ty).run P w = .ok n w) (hn : vs.length = n) (hl : cs.length = vs.length) (h1 : ∀ v ∈ vs, v.oneCell' = true) (h : ∀ W, Hid (Own w0 X S bs' rs F W) → K a W) : WOp P o a w K Q := by
  subst hn
  obtain ⟨W, hr, hO⟩ := HO.out.storeAt (P := P) (k := 0) (vs := vs) (t := t) (b := b) (cs := cs) (bs' := bs') (by rw [show cs.drop (0 + vs.length) = [] from List.drop_eq_nil_of_le (by omega)]; simpa using hc) (by omega) h1
  unfold WOp Oper.wp execOp
  simp only [ho, hx, hy, Instr.storeAt, Instr.sureAddr, Sem.run_bind, Sem.run_pure, Result.andThen_ok, storeVar, hs w, Value.cells, List.size_toArray, ne_eq, not_true, if_false, hr]
  have := h W (Lib.hid hO)
  simpa [Oper.upon, hdst, Act.put] using this
theorem wo_store_at (HO : Hid (Own w0 X S bs rs F w)) {ty : TypeId} {x y : Operand} (ho : o.op = .store ty x y) (hdst : o.dst = none) {b k : Nat} (hx : a.eval x = .pointer (some ⟨b, k, none⟩)) {vs : List Value} (hy : a.eval y = .agg vs.toArray) {t : TypeId} {cs cs' : List Value} (hm : (⟨b, t, cs⟩ : Bx) ∈ bs) (hcs : cs.take k ++ vs ++ cs.drop (k + vs.length) = cs') (hc : Chg bs ⟨b, t, cs⟩ ⟨b, t, cs'⟩ bs')
    {n : Nat} (hs : ∀ w, (sizeOf ty).run P w = .ok n w) (hn : vs.length = n) (hl : k + vs.length ≤ cs.length) (h1 : ∀ v ∈ vs, v.oneCell' = true) (h : ∀ W, Hid (Own w0 X S bs' rs F W) → K a W) : WOp P o a w K Q := by
  subst hcs hn
  obtain ⟨W, hr, hO⟩ := HO.out.storeAt (P := P) hc hl h1
  unfold WOp Oper.wp execOp
  simp only [ho, hx, hy, Instr.storeAt, Instr.sureAddr, Sem.run_bind, Sem.run_pure, Result.andThen_ok, storeVar, hs w, Value.cells, List.size_toArray, ne_eq, not_true, if_false, hr]
  have := h W (Lib.hid hO)
  simpa [Oper.upon, hdst, Act.put] using this
theorem one_cells {v : Value} (h : v.oneCell' = true) : v.cells = #[v] := by cases v <;> first | rfl | simp [Value.oneCell'] at h
theorem wo_store1 (HO : Hid (Own w0 X S bs rs F w)) {ty : TypeId} {x y : Operand} (ho : o.op = .store ty x y) (hdst : o.dst = none) {b k : Nat} (hx : a.eval x = .pointer (some ⟨b, k, none⟩)) {v : Value} (hy : a.eval y = v) {t : TypeId} {cs cs' : List Value} (hm : (⟨b, t, cs⟩ : Bx) ∈ bs) (hcs : cs.set k v = cs') (hc : Chg bs ⟨b, t, cs⟩ ⟨b, t, cs'⟩ bs')
    (hs : ∀ w, (sizeOf ty).run P w = .ok 1 w) (hl : k < cs.length) (h1 : v.oneCell' = true) (h : ∀ W, Hid (Own w0 X S bs' rs F W) → K a W) : WOp P o a w K Q := by
  have e : cs.take k ++ [v] ++ cs.drop (k + [v].length) = cs' := by
    rw [← hcs, List.set_eq_take_append_cons_drop, if_pos hl]; simp
  subst e
  obtain ⟨W, hr, hO⟩ := HO.out.storeAt (P := P) (vs := [v]) hc (by simp only [List.length_cons, List.length_nil]; omega) (by simpa using h1)
  unfold WOp Oper.wp execOp
  simp only [ho, hx, hy, Instr.storeAt, Instr.sureAddr, Sem.run_bind, Sem.run_pure, Result.andThen_ok, storeVar, hs w, one_cells h1, List.size_toArray, List.length_cons, List.length_nil, Nat.zero_add, ne_eq, not_true, if_false, hr]
  have := h W (Lib.hid hO)
  simpa [Oper.upon, hdst, Act.put] using this
theorem wo_store1c (HO : Hid (Own w0 X S bs rs F w)) {ty : TypeId} {x : Operand} {v : Value} (ho : o.op = .store ty x (.const v)) (hdst : o.dst = none) {b k : Nat} (hx : a.eval x = .pointer (some ⟨b, k, none⟩)) {t : TypeId} {cs cs' : List Value} (hm : (⟨b, t, cs⟩ : Bx) ∈ bs) (hcs : cs.set k v = cs') (hc : Chg bs ⟨b, t, cs⟩ ⟨b, t, cs'⟩ bs')
    (hs : ∀ w, (sizeOf ty).run P w = .ok 1 w) (hl : k < cs.length) (h1 : v.oneCell' = true) (h : ∀ W, Hid (Own w0 X S bs' rs F W) → K a W) : WOp P o a w K Q := wo_store1 HO ho hdst hx rfl hm hcs hc hs hl h1 h
theorem wo_store1t (HO : Hid (Own w0 X S bs rs F w)) {ty : TypeId} {x : Operand} {i : Tmp} {v : Value} (ho : o.op = .store ty x (.tmp i)) (hdst : o.dst = none) {b k : Nat} (hx : a.eval x = .pointer (some ⟨b, k, none⟩)) (hy : a.tmps[i]? = some v) {t : TypeId} {cs cs' : List Value} (hm : (⟨b, t, cs⟩ : Bx) ∈ bs) (hcs : cs.set k v = cs') (hc : Chg bs ⟨b, t, cs⟩ ⟨b, t, cs'⟩ bs')
    (hs : ∀ w, (sizeOf ty).run P w = .ok 1 w) (hl : k < cs.length) (h1 : v.oneCell' = true) (h : ∀ W, Hid (Own w0 X S bs' rs F W) → K a W) : WOp P o a w K Q :=
  wo_store1 HO ho hdst hx (show a.tmps.getD i undef = v by rw [Array.getD_eq_getD_getElem?, hy]; rfl) hm hcs hc hs hl h1 h
theorem wo_alloc (HO : Hid (Own w0 X S bs rs F w)) {t : TypeId} (ho : o.op = .alloc t) {cs : List Value} (hz : ∀ w, (zeroValue t).run P w = .ok (.agg cs.toArray) w) (h : ∀ W, Hid (Own w0 X S (⟨w.heap.size, t, cs⟩ :: bs) rs F W) → K (a.put o.dst (.pointer (some ⟨w.heap.size, 0, none⟩))) W) : WOp P o a w K Q := by
  have := h _ (Lib.hid (HO.out.alloc t cs))
  unfold WOp Oper.wp execOp
  simp only [ho, Instr.alloc, Sem.run_bind, hz w, Result.andThen_ok]
  simpa [go_sem, Oper.upon, newVar, Value.cells] using this
theorem wo_box (HO : Hid (Own w0 X S bs rs F w)) {t : TypeId} {x : Operand} (ho : o.op = .box t x) {cs : List Value} (hx : a.eval x = .agg cs.toArray) (h : ∀ W, Hid (Own w0 X S (⟨w.heap.size, t, cs⟩ :: bs) rs F W) → K (a.put o.dst (.pointer (some ⟨w.heap.size, 0, none⟩))) W) : WOp P o a w K Q := by
  have := h _ (Lib.hid (HO.out.alloc t cs))
  unfold WOp Oper.wp execOp
  simp only [ho, hx, Instr.box, Sem.run_bind]
  simpa [go_sem, Oper.upon, newVar, Value.cells] using this
theorem ab_row (HO : Hid (Own w0 X S bs rs F w)) (e : TypeId) (size n : Nat) {cs : List Value} (hc : cs.length = n * size) (hn : n ≤ maxLen) (h : ∀ W, Hid (Own w0 X S bs (⟨e, size, .slice (some ⟨w.heap.size, 0, none⟩) n n, n, cs⟩ :: rs) F W) → K a W) : K a (w.alloc (.cells cs.toArray e)) :=
  h _ (Lib.hid (HO.out.litRow e size n cs hc hn))
theorem ab_junk (HO : Hid (Own w0 X S bs rs F w)) (e : TypeId) {cs : List Value} (h : ∀ W, Hid (Own w0 X S bs rs F W) → Hid (Blk W w.heap.size e cs.toArray) → K a W) : K a (w.alloc (.cells cs.toArray e)) :=
  h _ (Lib.hid (HO.out.junk _)) (Lib.hid (Blk.new _ _ _))
theorem ab_drew (HO : Hid (Own w0 X S bs rs F w)) (h : ∀ W, Hid (Own w0 X S bs rs F W) → K a W) : K a w.drew := h _ (Lib.hid HO.out.drew)
theorem to_field {d : Option Tmp} {ty T : TypeId} {x : Operand} {f : Nat} {ps : String} {af : Array Edge} {gd : Option (Nat × Bool)} (h : WOp P ⟨d, .field ty x f, T, ps, af, gd⟩ a w K Q) : Oper.wp P ⟨d, .field ty x f, T, ps, af, gd⟩ a w K Q := h
theorem wo_field1 {ty : TypeId} {x : Operand} {f : Nat} (ho : o.op = .field ty x f) {cs : List Value} (hx : a.eval x = .agg cs.toArray) {fs : Array Field} (hu : P.underlying ty = some (.struct fs)) {fd : Field} (hf : fs[f]? = some fd) {v : Value} (hv : cs[fd.offset]? = some v) (hd : ∀ w, (isAgg fd.type).run P w = .ok false w) (h : K (a.put o.dst v) w) : WOp P o a w K Q := by
  have hv2 : cs.toArray[fd.offset]? = some v := by simpa using hv
  unfold WOp Oper.wp execOp
  simp only [ho, hx, Instr.field, Sem.run_bind, run_underlying hu w, Result.andThen_ok, hf, asAgg, Sem.run_pure, part, hd w, Bool.false_eq_true, if_false, hv2]
  exact h
theorem bp_cell {fn : Func} {R : Ending → World → Prop} (HO : Hid (Own w0 X S bs rs F w)) {t : Tmp} {ty : TypeId} (hf : fn.results = #[.cell t ty]) {b : Nat} (hx : a.tmps.getD t undef = .pointer (some ⟨b, 0, none⟩)) {u : TypeId} {cs : List Value} (hm : (⟨b, u, cs⟩ : Bx) ∈ bs)
    (hd : ∀ w, (isAgg ty).run P w = .ok true w) {n : Nat} (hs : ∀ w, (sizeOf ty).run P w = .ok n w) (hn : cs.length = n) (hdef : a.defers = []) (h : R (.returned (.agg cs.toArray)) w) : bodyPost P fn R .ret a w := by
  subst hn
  have hl : (loadCells ⟨b, 0, none⟩ cs.length).run P w = .ok cs.toArray w :=
    run_loadCells_list (P := P) w ⟨b, 0, none⟩ cs (fun j v hv => by rw [Addr.add_mid]; exact HO.out.cells hm 0 j v (by simpa using hv))
  refine ⟨hdef, _, ?_, h⟩
  have hx2 : a.tmps[t]?.getD undef = .pointer (some ⟨b, 0, none⟩) := by rw [← hx]; simp
  simp [results, hf, hx2, asAddr, loadVar, Sem.run_bind, hd w, hs w, hl]
theorem bp_tmp {fn : Func} {R : Ending → World → Prop} {t : Tmp} (hf : fn.results = #[.tmp t]) {v : Value} (hx : a.tmps.getD t undef = v) (hdef : a.defers = []) (h : R (.returned v) w) : bodyPost P fn R .ret a w := by
  refine ⟨hdef, _, ?_, h⟩
  have hx2 : a.tmps[t]?.getD undef = v := by rw [← hx]; simp
  simp [results, hf, hx2]
theorem bp_none {fn : Func} {R : Ending → World → Prop} (hf : fn.results = #[]) (hdef : a.defers = []) (h : R (.returned (.tuple #[])) w) : bodyPost P fn R .ret a w := by
  refine ⟨hdef, _, ?_, h⟩
  simp [results, hf]
theorem bp_noneN {fn : Func} {R : Ending → World → Prop} (hf : fn.results = #[]) (hdef : a.defers = []) (h : R (.returned (.tuple #[])) w) : bodyPost P fn R .normal a w := by
  refine ⟨hdef, _, ?_, h⟩
  simp [results, hf]
end
open Go.RowKit
section
variable {P : Program} {ops : Array Oper} {Q : Exit → Act → World → Prop} {md : Region.Mode} {S : World → Prop} {late : List Nat}
def Anyw : World → Prop := fun _ => True
def wpAnyE (P : Program) (md : Region.Mode) (ops : Array Oper) (Q : Exit → Act → World → Prop) (S : World → Prop) (late : List Nat) : Nat → Array Bool → Act → World → Prop
  | 0, listed, a, w => Region.ready md ops listed = [] ∧ Q .normal a w
  | f + 1, listed, a, w => (Region.ready md ops listed = [] → Q .normal a w) ∧
      ∀ i ∈ Region.ready md ops listed, (late.contains i = false → wpOp P ops Q i (fun a' w' => S w' ∧ wpAnyE P md ops Q S late f (listed.setIfInBounds i true) a' w') a w) ∧
        (late.contains i = true → wpOp P ops Q i (wpAnyH P md ops Q Anyw f (listed.setIfInBounds i true)) a w)
theorem wpAny_of_E : ∀ (f : Nat) (listed : Array Bool) (a : Act) (w : World), wpAnyE P md ops Q S late f listed a w → wpAny P md ops Q f listed a w
  | 0, _, _, _, h => h
  | f + 1, _, _, _, h => ⟨h.1, fun i hi => by
      cases hl : late.contains i with
      | false => exact wpOp_mono (fun a' w' h' => wpAny_of_E f _ a' w' h'.2) ((h.2 i hi).1 hl)
      | true => exact wpOp_mono (fun a' w' h' => wpAny_of_held f _ a' w' h') ((h.2 i hi).2 hl)⟩
def waits (md : Region.Mode) (ops : Array Oper) (late : List Nat) (listed : Array Bool) (i : Nat) : Bool :=
  late.all fun j => !listed.getD j true && match ops[j]? with
    | some o => o.after.any fun e => Region.binds md e && (e.on == i || late.contains e.on)
    | none => true
theorem not_ready_late {i j : Nat} {listed : Array Bool} (hi : listed.getD i true = false) (hw : waits md ops late listed i = true) (hj : late.contains j = true) : j ∉ Region.ready md ops listed := by
  intro hr
  obtain ⟨h0, o, ho, hall⟩ := mem_ready.1 hr
  have hw2 := List.all_eq_true.1 hw
  have h1 := hw2 j (by simpa using hj)
  rw [Bool.and_eq_true, ho] at h1
  obtain ⟨_, h1⟩ := h1
  have h1' : (o.after.any fun e => Region.binds md e && (e.on == i || late.contains e.on)) = true := h1
  rw [Array.any_eq_true] at h1'
  obtain ⟨k, hk, h2⟩ := h1'
  have he : o.after[k] ∈ o.after := Array.getElem_mem hk
  generalize o.after[k] = e at he h2
  rw [Bool.and_eq_true, Bool.or_eq_true] at h2
  have h3 := hall e he h2.1
  have off : ∀ k, listed.getD k true = false → listed.getD k false = false := by
    intro k hk
    rcases Nat.lt_or_ge k listed.size with h | h
    · simp [h] at hk ⊢; exact hk
    · simp [Array.getElem?_eq_none h]
  rcases h2.2 with h4 | h4
  · rw [beq_iff_eq.1 h4, off i hi] at h3; cases h3
  · have h5 := hw2 e.on (by simpa using h4)
    rw [Bool.and_eq_true] at h5
    have h6 : listed.getD e.on true = false := by
      cases h : listed.getD e.on true
      · rfl
      · rw [h] at h5; cases h5.1
    rw [off _ h6] at h3; cases h3
theorem waits_set {i j : Nat} {listed : Array Bool} (hw : waits md ops late listed i = true) (hj : late.contains j = false) : waits md ops late (listed.setIfInBounds j true) i = true := by
  refine List.all_eq_true.2 fun k hk => ?_
  have := List.all_eq_true.1 hw k hk
  have hne : j ≠ k := fun e => by subst e; have : late.contains j = true := by simpa using hk
                                  rw [hj] at this; cases this
  rw [getD_set_ne true hne]
  exact this
theorem wpAnyE_first {i : Nat} {oi : Oper} {v : Value} (hi : ops[i]? = some oi) (hsel : ∀ (j : Nat) (o : Oper) cs b, ops[j]? = some o → o.op ≠ .select cs b)
    (hQ : ∀ c a w, Q (.panic c) (a.put oi.dst v) w → Q (.panic c) a w) (hil : late.contains i = false) :
    ∀ (f : Nat) (listed : Array Bool) (a : Act) (w : World),
      (∀ j oj, ops[j]? = some oj → j ≠ i → listed.getD j true = false → (∀ e ∈ oj.after, Region.binds md e = true → e.on ≠ i) → oi.apart ops oj = true) →
      i ∈ Region.ready md ops listed → YieldsIf P ops S oi v a → S w → (waits md ops late listed i = true ∨ YieldsIf P ops Anyw oi v a) →
      wpAnyE P md ops Q S late f (listed.setIfInBounds i true) (a.put oi.dst v) w → wpAnyE P md ops Q S late (f + 1) listed a w := by
  intro f
  induction f with
  | zero =>
    intro listed a w _ hr hy hS _ H
    refine ⟨fun h => (by rw [h] at hr; cases hr), fun j hj => ?_⟩
    by_cases hji : j = i
    · subst hji
      exact ⟨fun _ => hy.wpOp hi hS ⟨hS, H⟩, fun h => by rw [hil] at h; cases h⟩
    · have := ready_mono hj hji
      rw [H.1] at this
      cases this
  | succ f ih =>
    intro listed a w hfree hr hy hS hlate H
    refine ⟨fun h => (by rw [h] at hr; cases hr), fun j hj => ?_⟩
    by_cases hji : j = i
    · subst hji
      exact ⟨fun _ => hy.wpOp hi hS ⟨hS, H⟩, fun h => by rw [hil] at h; cases h⟩
    · have h1 := H.2 j (ready_mono hj hji)
      obtain ⟨hjun, oj, hoj, hall⟩ := mem_ready.1 hj
      have hi0 : listed.getD i true = false := (mem_ready.1 hr).1
      have hnot : ∀ e ∈ oj.after, Region.binds md e = true → e.on ≠ i := fun e he hb heq => by
        have h1 := hall e he hb
        rw [heq] at h1
        rcases Nat.lt_or_ge i listed.size with h' | h'
        · simp [h'] at hi0 h1; rw [hi0] at h1; cases h1
        · simp [Array.getElem?_eq_none h'] at h1
      have hap := hfree j oj hoj hji hjun hnot
      have hfree' : ∀ k ok, ops[k]? = some ok → k ≠ i → (listed.setIfInBounds j true).getD k true = false →
          (∀ e ∈ ok.after, Region.binds md e = true → e.on ≠ i) → oi.apart ops ok = true := fun k ok hk hki hun hno => by
        refine hfree k ok hk hki ?_ hno
        by_cases hjk : j = k
        · subst hjk; exact hjun
        · rw [getD_set_ne true hjk] at hun; exact hun
      have comm : (listed.setIfInBounds i true).setIfInBounds j true = (listed.setIfInBounds j true).setIfInBounds i true := Array.setIfInBounds_comm _ _ (Ne.symm hji)
      refine ⟨fun hl => ?_, fun hl => ?_⟩
      · have h2 := wpOp_putIf hoj hap (fun cs b => hsel i oi cs b hi) (fun cs b => hsel j oj cs b hoj) hQ hy (h1.1 hl)
        rcases hlate with hw | hany
        · refine wpOp_mono (fun a' w' h3 => ⟨h3.2.1, ih (listed.setIfInBounds j true) a' w' hfree' (ready_mono hr (Ne.symm hji)) h3.1 h3.2.1 (.inl (waits_set hw hl)) ?_⟩) h2
          rw [← comm]
          exact h3.2.2
        · have h4 := wpOp_putIf hoj hap (fun cs b => hsel i oi cs b hi) (fun cs b => hsel j oj cs b hoj) hQ hany (h1.1 hl)
          refine wpOp_mono (fun a' w' h3 => ⟨h3.2.1, ih (listed.setIfInBounds j true) a' w' hfree' (ready_mono hr (Ne.symm hji)) ?_ h3.2.1 (.inr h3.1) ?_⟩) h4
          · exact h3.1.imp (fun ⟨a, b⟩ => ⟨a, fun w _ => b w trivial⟩) id
          · rw [← comm]
            exact h3.2.2
      · rcases hlate with hw | hany
        · exact absurd hj (not_ready_late hi0 hw hl)
        · have h4 := wpOp_putIf hoj hap (fun cs b => hsel i oi cs b hi) (fun cs b => hsel j oj cs b hoj) hQ hany (h1.2 hl)
          refine wpOp_mono (fun a' w' h3 => wpAnyH_first (S := Anyw) hi hsel hQ f (listed.setIfInBounds j true) a' w' hfree' (ready_mono hr (Ne.symm hji)) h3.1 trivial ?_) h4
          rw [← comm]
          exact h3.2
theorem e_at {i : Nat} {oi : Oper} (h : (ops.toList.drop i).head? = some oi) : ops[i]? = some oi := by
  rw [List.head?_drop] at h
  simpa using h
theorem e_take {i : Nat} {oi : Oper} {v : Value} {f : Nat} {listed : Array Bool} {a : Act} {w : World} (hi : (ops.toList.drop i).head? = some oi)
    (hs : Region.noSelect ops = true) (hf : Region.free md ops listed i = true) (hr : (Region.ready md ops listed).contains i = true) (hil : late.contains i = false) (hw : waits md ops late listed i = true)
    (hQ : ∀ c a w, Q (.panic c) (a.put oi.dst v) w → Q (.panic c) a w) (hwa : Region.wanted oi (yielded ops a.tmps) = true) (hS : S w) (hy : ∀ w, S w → (execOp a.eval oi).run P w = .ok (.value v) w)
    (h : wpAnyE P md ops Q S late f (listed.setIfInBounds i true) (a.put oi.dst v) w) : wpAnyE P md ops Q S late (f + 1) listed a w :=
  wpAnyE_first (e_at hi) (Region.noSelect_spec hs) hQ hil f listed a w (Region.free_spec (e_at hi) hf) (by simpa using hr) (.inl ⟨hwa, hy⟩) hS (.inl hw) h
theorem e_pure {i : Nat} {oi : Oper} {v : Value} {f : Nat} {listed : Array Bool} {a : Act} {w : World} (hi : (ops.toList.drop i).head? = some oi)
    (hs : Region.noSelect ops = true) (hf : Region.free md ops listed i = true) (hr : (Region.ready md ops listed).contains i = true) (hil : late.contains i = false)
    (hQ : ∀ c a w, Q (.panic c) (a.put oi.dst v) w → Q (.panic c) a w) (hwa : Region.wanted oi (yielded ops a.tmps) = true) (hS : S w) (hy : ∀ w, (execOp a.eval oi).run P w = .ok (.value v) w)
    (h : wpAnyE P md ops Q S late f (listed.setIfInBounds i true) (a.put oi.dst v) w) : wpAnyE P md ops Q S late (f + 1) listed a w :=
  wpAnyE_first (e_at hi) (Region.noSelect_spec hs) hQ hil f listed a w (Region.free_spec (e_at hi) hf) (by simpa using hr) (.inl ⟨hwa, fun w _ => hy w⟩) hS (.inr (.inl ⟨hwa, fun w _ => hy w⟩)) h
theorem e_one {i : Nat} {oi : Oper} {f : Nat} {listed : Array Bool} {a : Act} {w : World} (hr : Region.ready md ops listed = [i]) (hi : (ops.toList.drop i).head? = some oi) (hil : late.contains i = false) (hwa : Region.wanted oi (yielded ops a.tmps) = true)
    (h : ∀ K : Act → World → Prop, Hid (∀ a' w', S w' → wpAnyE P md ops Q S late f (listed.setIfInBounds i true) a' w' → K a' w') → Oper.wp P oi a w K Q) : wpAnyE P md ops Q S late (f + 1) listed a w := by
  refine ⟨fun h0 => (by rw [hr] at h0; cases h0), fun j hj => ?_⟩
  rw [hr] at hj
  obtain rfl := List.mem_singleton.1 hj
  refine ⟨fun _ => ?_, fun h => by rw [hil] at h; cases h⟩
  unfold wpOp
  simp only [e_at hi, hwa, if_true]
  exact .inl (h _ (Lib.hid fun _ _ h1 h2 => ⟨h1, h2⟩))
theorem e_late {i : Nat} {oi : Oper} {f : Nat} {listed : Array Bool} {a : Act} {w : World} (hr : Region.ready md ops listed = [i]) (hi : (ops.toList.drop i).head? = some oi) (hil : late.contains i = true) (hwa : Region.wanted oi (yielded ops a.tmps) = true)
    (h : ∀ K : Act → World → Prop, Hid (∀ a' w', wpAnyH P md ops Q Anyw f (listed.setIfInBounds i true) a' w' → K a' w') → Oper.wp P oi a w K Q) : wpAnyE P md ops Q S late (f + 1) listed a w := by
  refine ⟨fun h0 => (by rw [hr] at h0; cases h0), fun j hj => ?_⟩
  rw [hr] at hj
  obtain rfl := List.mem_singleton.1 hj
  refine ⟨fun h => by rw [hil] at h; (first | cases h | exact absurd h (by simp)), fun _ => ?_⟩
  unfold wpOp
  simp only [e_at hi, hwa, if_true]
  exact .inl (h _ (Lib.hid fun _ _ h1 => h1))
theorem e_more {i : Nat} {oi : Oper} {f : Nat} {listed : Array Bool} {a : Act} {w : World} (hr : Region.ready md ops listed = [i]) (hi : (ops.toList.drop i).head? = some oi) (hwa : Region.wanted oi (yielded ops a.tmps) = true)
    (h : ∀ K : Act → World → Prop, Hid (∀ a' w', wpAnyH P md ops Q Anyw f (listed.setIfInBounds i true) a' w' → K a' w') → Oper.wp P oi a w K Q) : wpAnyH P md ops Q Anyw (f + 1) listed a w := by
  refine ⟨fun h0 => (by rw [hr] at h0; cases h0), fun j hj => ?_⟩
  rw [hr] at hj
  obtain rfl := List.mem_singleton.1 hj
  have h2 : wpOp P ops Q j (wpAnyH P md ops Q Anyw f (listed.setIfInBounds j true)) a w := by
    unfold wpOp
    simp only [e_at hi, hwa, if_true]
    exact .inl (h _ (Lib.hid fun _ _ h1 => h1))
  exact wpOp_mono (fun a' w' h3 => ⟨trivial, h3⟩) h2
theorem e_pureH {i : Nat} {oi : Oper} {v : Value} {f : Nat} {listed : Array Bool} {a : Act} {w : World} (hi : (ops.toList.drop i).head? = some oi)
    (hs : Region.noSelect ops = true) (hf : Region.free md ops listed i = true) (hr : (Region.ready md ops listed).contains i = true)
    (hQ : ∀ c a w, Q (.panic c) (a.put oi.dst v) w → Q (.panic c) a w) (hwa : Region.wanted oi (yielded ops a.tmps) = true) (hy : ∀ w, (execOp a.eval oi).run P w = .ok (.value v) w)
    (h : wpAnyH P md ops Q Anyw f (listed.setIfInBounds i true) (a.put oi.dst v) w) : wpAnyH P md ops Q Anyw (f + 1) listed a w :=
  wpAnyH_first (S := Anyw) (e_at hi) (Region.noSelect_spec hs) hQ f listed a w (Region.free_spec (e_at hi) hf) (by simpa using hr) (.inl ⟨hwa, fun w _ => hy w⟩) trivial h
theorem e_done {f : Nat} {listed : Array Bool} {a : Act} {w : World} (hr : Region.ready md ops listed = []) (h : Q .normal a w) : wpAnyH P md ops Q Anyw f listed a w := wpAnyH_done hr h f
theorem e_start {id : Nat} {a : Act} {w : World} (S : World → Prop) (late : List Nat) (hm : P.follows .mixedOrders = true)
    (h : wpAnyE P .any ops Q S late ops.size (Array.replicate ops.size false) a w.drew) : (Code.region id ops true).wp P Q a w :=
  wp_region_any hm (wpAny_of_E _ _ _ _ h)
theorem e_both {i j : Nat} {oi oj : Oper} {f : Nat} {listed : Array Bool} {a : Act} {w : World} (hr : Region.ready md ops listed = [i, j]) (hi : (ops.toList.drop i).head? = some oi) (hj : (ops.toList.drop j).head? = some oj) (hil : late.contains i = false) (hjl : late.contains j = false) (hwa : Region.wanted oi (yielded ops a.tmps) = true) (hwb : Region.wanted oj (yielded ops a.tmps) = true)
    (h1 : ∀ K : Act → World → Prop, Hid (∀ a' w', S w' → wpAnyE P md ops Q S late f (listed.setIfInBounds i true) a' w' → K a' w') → Oper.wp P oi a w K Q)
    (h2 : ∀ K : Act → World → Prop, Hid (∀ a' w', S w' → wpAnyE P md ops Q S late f (listed.setIfInBounds j true) a' w' → K a' w') → Oper.wp P oj a w K Q) : wpAnyE P md ops Q S late (f + 1) listed a w := by
  refine ⟨fun h0 => (by rw [hr] at h0; cases h0), fun k hk => ?_⟩
  rw [hr] at hk
  rcases List.mem_cons.1 hk with rfl | hk
  · refine ⟨fun _ => ?_, fun h => by rw [hil] at h; cases h⟩
    unfold wpOp
    simp only [e_at hi, hwa, if_true]
    exact .inl (h1 _ (Lib.hid fun _ _ h1 h2 => ⟨h1, h2⟩))
  · obtain rfl := List.mem_singleton.1 hk
    refine ⟨fun _ => ?_, fun h => by rw [hjl] at h; cases h⟩
    unfold wpOp
    simp only [e_at hj, hwb, if_true]
    exact .inl (h2 _ (Lib.hid fun _ _ h1 h2 => ⟨h1, h2⟩))
def OwnB (w0 : World) (X : List Nat) (bs : List Bx) (w : World) : Prop := ∃ St rs F, Own w0 X St bs rs F w
theorem e_begin {id : Nat} {a : Act} {w0 w : World} {X : List Nat} {St : World → Prop} {bs : List Bx} {rs : List Rw} {F : List Cold} (HO : Hid (Own w0 X St bs rs F w)) (late : List Nat) (hm : P.follows .mixedOrders = true)
    (h : ∀ W, Hid (Own w0 X St bs rs F W) → wpAnyE P .any ops Q (OwnB w0 X bs) late ops.size (Array.replicate ops.size false) a W) : (Code.region id ops true).wp P Q a w :=
  e_start _ late hm (h _ (Lib.hid HO.out.drew))
theorem OwnB.of {w0 w : World} {X : List Nat} {St : World → Prop} {bs : List Bx} {rs : List Rw} {F : List Cold} (HO : Hid (Own w0 X St bs rs F w)) : OwnB w0 X bs w := ⟨St, rs, F, HO.out⟩
theorem e_load {w0 : World} {X : List Nat} {St : World → Prop} {bs : List Bx} {rs : List Rw} {F : List Cold} {i : Nat} {oi : Oper} {f : Nat} {listed : Array Bool} {a : Act} {w : World} (HO : Hid (Own w0 X St bs rs F w)) (hi : (ops.toList.drop i).head? = some oi)
    (hs : Region.noSelect ops = true) (hf : Region.free md ops listed i = true) (hr : (Region.ready md ops listed).contains i = true) (hil : late.contains i = false) (hw : waits md ops late listed i = true)
    {ty : TypeId} {x : Operand} (ho : oi.op = .load ty x) {b : Nat} (hx : a.eval x = .pointer (some ⟨b, 0, none⟩)) {t : TypeId} {cs : List Value} (hm : (⟨b, t, cs⟩ : Bx) ∈ bs)
    (hd : ∀ w, (isAgg ty).run P w = .ok true w) {n : Nat} (hsz : ∀ w, (sizeOf ty).run P w = .ok n w) (hn : cs.length = n)
    (hQ : ∀ c a w, Q (.panic c) (a.put oi.dst (.agg cs.toArray)) w → Q (.panic c) a w) (hwa : Region.wanted oi (yielded ops a.tmps) = true)
    (h : wpAnyE P md ops Q (OwnB w0 X bs) late f (listed.setIfInBounds i true) (a.put oi.dst (.agg cs.toArray)) w) : wpAnyE P md ops Q (OwnB w0 X bs) late (f + 1) listed a w := by
  subst hn
  refine e_take hi hs hf hr hil hw hQ hwa (OwnB.of HO) (fun w' hS => ?_) h
  obtain ⟨St', rs', F', h'⟩ := hS
  have hl : (loadCells ⟨b, 0, none⟩ cs.length).run P w' = .ok cs.toArray w' :=
    run_loadCells_list (P := P) w' ⟨b, 0, none⟩ cs (fun j v hv => by rw [Addr.add_mid]; exact h'.cells hm 0 j v (by simpa using hv))
  unfold execOp
  simp only [ho, hx, Instr.loadAt, Instr.sureAddr, Sem.run_bind, Sem.run_pure, Result.andThen_ok, loadVar, hd w', if_true, hsz w', hl]
theorem e_load1 {w0 : World} {X : List Nat} {St : World → Prop} {bs : List Bx} {rs : List Rw} {F : List Cold} {i : Nat} {oi : Oper} {f : Nat} {listed : Array Bool} {a : Act} {w : World} (HO : Hid (Own w0 X St bs rs F w)) (hi : (ops.toList.drop i).head? = some oi)
    (hs : Region.noSelect ops = true) (hf : Region.free md ops listed i = true) (hr : (Region.ready md ops listed).contains i = true) (hil : late.contains i = false) (hw : waits md ops late listed i = true)
    {ty : TypeId} {x : Operand} (ho : oi.op = .load ty x) {b k : Nat} (hx : a.eval x = .pointer (some ⟨b, k, none⟩)) {t : TypeId} {cs : List Value} {v : Value} (hm : (⟨b, t, cs⟩ : Bx) ∈ bs)
    (hd : ∀ w, (isAgg ty).run P w = .ok false w) (hv : cs[k]? = some v)
    (hQ : ∀ c a w, Q (.panic c) (a.put oi.dst v) w → Q (.panic c) a w) (hwa : Region.wanted oi (yielded ops a.tmps) = true)
    (h : wpAnyE P md ops Q (OwnB w0 X bs) late f (listed.setIfInBounds i true) (a.put oi.dst v) w) : wpAnyE P md ops Q (OwnB w0 X bs) late (f + 1) listed a w := by
  refine e_take hi hs hf hr hil hw hQ hwa (OwnB.of HO) (fun w' hS => ?_) h
  obtain ⟨St', rs', F', h'⟩ := hS
  have hl : w'.cell? ⟨b, k, none⟩ = some v := h'.cells hm k 0 v (by rw [List.getElem?_drop]; exact hv)
  unfold execOp
  simp only [ho, hx, Instr.loadAt, Instr.sureAddr, Sem.run_bind, Sem.run_pure, Result.andThen_ok, loadVar, hd w', Bool.false_eq_true, if_false, run_load, hl]
end
open Go.RowKit
class T1 (ty : TypeId) : Prop where
  a : ∀ w, (isAgg ty).run Try.prog w = .ok false w
  s : ∀ w, (sizeOf ty).run Try.prog w = .ok 1 w
class TN (ty : TypeId) (n : outParam Nat) : Prop where
  a : ∀ w, (isAgg ty).run Try.prog w = .ok true w
  s : ∀ w, (sizeOf ty).run Try.prog w = .ok n w
class TZ (ty : TypeId) (cs : outParam (List Value)) : Prop where
  z : ∀ w, (zeroValue ty).run Try.prog w = .ok (.agg cs.toArray) w
class TF (ty : TypeId) (fs : outParam (Array Field)) : Prop where
  u : Try.prog.underlying ty = some (.struct fs)
@[reducible] def fsOf {ty : TypeId} {fs : Array Field} (_ : Try.prog.underlying ty = some (.struct fs)) : Array Field := fs
instance : T1 3 := ⟨Try.isAgg3, Try.sizeOf3⟩
instance : T1 9 := ⟨Try.isAgg9, Try.sizeOf9⟩
instance : T1 4 := ⟨Try.isAgg4, Try.sizeOf4⟩
instance : T1 5 := ⟨Try.isAgg5, Try.sizeOf5⟩
instance : T1 40 := ⟨Try.isAgg40, Try.sizeOf40⟩
instance : T1 22 := ⟨Try.isAgg22, Try.sizeOf22⟩
instance : T1 43 := ⟨Try.isAgg43, Try.sizeOf43⟩
instance : T1 79 := ⟨Try.isAgg79, Try.sizeOf79⟩
instance : T1 24 := ⟨Try.isAgg24, Try.sizeOf24⟩
instance : T1 25 := ⟨Try.isAgg25, Try.sizeOf25⟩
instance : T1 55 := ⟨Try.isAgg55, Try.sizeOf55⟩
instance : T1 74 := ⟨Try.isAgg74, Try.sizeOf74⟩
instance : T1 35 := ⟨Try.isAgg35, Try.sizeOf35⟩
instance : T1 71 := ⟨Try.isAgg71, Try.sizeOf71⟩
instance : TN 45 8 := ⟨Try.isAgg45, Try.sizeOf45⟩
instance : TZ 45 [.int .i64 0, .int .i64 0, .string { data := #[] }, .bool false, .int .u64 0, .int .u64 0, .int .i64 0, .slice none 0 0] := ⟨Try.zeroValue45⟩
instance : TF 45 (fsOf Try.underlying45) := ⟨Try.underlying45⟩
instance : TN 89 6 := ⟨Try.isAgg89, Try.sizeOf89⟩
instance : TZ 89 [.int .i64 0, .int .i64 0, .string { data := #[] }, .bool false, .int .u64 0, .int .u64 0] := ⟨Try.zeroValue89⟩
instance : TF 89 (fsOf Try.underlying89) := ⟨Try.underlying89⟩
instance : TN 27 2 := ⟨Try.isAgg27, Try.sizeOf27⟩
instance : TZ 27 [.slice none 0 0, .slice none 0 0] := ⟨Try.zeroValue27⟩
instance : TF 27 (fsOf Try.underlying27) := ⟨Try.underlying27⟩
instance : TN 81 11 := ⟨Try.isAgg81, Try.sizeOf81⟩
instance : TZ 81 [.string { data := #[] }, .slice none 0 0, .int .i64 0, .int .i64 0, .string { data := #[] }, .bool false, .int .u64 0, .int .u64 0, .int .i64 0, .slice none 0 0, .int .i64 0] := ⟨Try.zeroValue81⟩
instance : TF 81 (fsOf Try.underlying81) := ⟨Try.underlying81⟩
instance : TN 83 12 := ⟨Try.isAgg83, Try.sizeOf83⟩
instance : TZ 83 [.int .i64 0, .int .i64 0, .slice none 0 0, .int .i64 0, .int .i64 0, .string { data := #[] }, .bool false, .int .u64 0, .int .u64 0, .int .i64 0, .slice none 0 0, .bool false] := ⟨Try.zeroValue83⟩
instance : TF 83 (fsOf Try.underlying83) := ⟨Try.underlying83⟩
instance : TN 76 2 := ⟨Try.isAgg76, Try.sizeOf76⟩
instance : TZ 76 [.int .i64 0, .nilIface] := ⟨Try.zeroValue76⟩
instance : TF 76 (fsOf Try.underlying76) := ⟨Try.underlying76⟩
instance : TN 42 3 := ⟨Try.isAgg42, Try.sizeOf42⟩
instance : TZ 42 [.bool false, .int .u64 0, .int .u64 0] := ⟨Try.zeroValue42⟩
instance : TF 42 (fsOf Try.underlying42) := ⟨Try.underlying42⟩
instance : TN 87 3 := ⟨Try.isAgg87, Try.sizeOf87⟩
instance : TZ 87 [.slice none 0 0, .int .i64 0, .slice none 0 0] := ⟨Try.zeroValue87⟩
instance : TF 87 (fsOf Try.underlying87) := ⟨Try.underlying87⟩
class Bi (bs : List Bx) (b : Nat) (t : outParam TypeId) (cs : outParam (List Value)) : Prop where
  m : (⟨b, t, cs⟩ : Bx) ∈ bs
instance (priority := low) {bs : List Bx} {b : Nat} {t : TypeId} {cs : List Value} {x : Bx} [h : Bi bs b t cs] : Bi (x :: bs) b t cs := ⟨List.mem_cons_of_mem _ h.m⟩
instance {bs : List Bx} {b : Nat} {t : TypeId} {cs : List Value} : Bi (⟨b, t, cs⟩ :: bs) b t cs := ⟨List.mem_cons_self⟩
class Bu (bs : List Bx) (b : Nat) (t : outParam TypeId) (cs : outParam (List Value)) (f : outParam (List Value → List Bx)) : Prop where
  m : (⟨b, t, cs⟩ : Bx) ∈ bs
  c : ∀ cs', Chg bs ⟨b, t, cs⟩ ⟨b, t, cs'⟩ (f cs')
instance (priority := low) {bs : List Bx} {b : Nat} {t : TypeId} {cs : List Value} {x : Bx} {f : List Value → List Bx} [h : Bu bs b t cs f] : Bu (x :: bs) b t cs (fun c => x :: f c) := ⟨List.mem_cons_of_mem _ h.m, fun c => .tail _ (h.c c)⟩
instance {bs : List Bx} {b : Nat} {t : TypeId} {cs : List Value} : Bu (⟨b, t, cs⟩ :: bs) b t cs (fun c => ⟨b, t, c⟩ :: bs) := ⟨List.mem_cons_self, fun _ => .head _ _ _⟩
class Oc (v : Value) : Prop where
  o : v.oneCell' = true
instance {t : IntKind} {n : Int} : Oc (.int t n) := ⟨rfl⟩
instance {b : Bool} : Oc (.bool b) := ⟨rfl⟩
instance {b : ByteArray} : Oc (.string b) := ⟨rfl⟩
instance {a : Option Addr} {n c : Nat} : Oc (.slice a n c) := ⟨rfl⟩
instance {a : Option Addr} : Oc (.pointer a) := ⟨rfl⟩
instance {t : TypeId} {v : Value} : Oc (.iface t v) := ⟨rfl⟩
instance : Oc .nilIface := ⟨rfl⟩
class Ocs (vs : List Value) (n : outParam Nat) : Prop where
  o : ∀ v ∈ vs, v.oneCell' = true
  n : vs.length = n
instance : Ocs [] 0 := ⟨fun _ h => (by cases h), rfl⟩
instance {v : Value} {vs : List Value} {n : Nat} [h : Oc v] [k : Ocs vs n] : Ocs (v :: vs) (n + 1) := ⟨fun u hu => (by rcases List.mem_cons.1 hu with rfl | hu; exact h.o; exact k.o u hu), (by rw [List.length_cons, k.n])⟩
class Ln (cs : List Value) (n : outParam Nat) : Prop where
  n : cs.length = n
instance : Ln [] 0 := ⟨rfl⟩
instance {v : Value} {vs : List Value} {n : Nat} [k : Ln vs n] : Ln (v :: vs) (n + 1) := ⟨(by rw [List.length_cons, k.n])⟩
class Gt (cs : List Value) (k : Nat) (v : outParam Value) : Prop where
  g : cs[k]? = some v
instance {v : Value} {vs : List Value} : Gt (v :: vs) 0 v := ⟨rfl⟩
instance {v u : Value} {vs : List Value} {k : Nat} [h : Gt vs k v] : Gt (u :: vs) (k + 1) v := ⟨h.g⟩
class Pt (cs : List Value) (k : Nat) (v : Value) (cs' : outParam (List Value)) : Prop where
  s : cs.set k v = cs'
  l : k < cs.length
instance {u v : Value} {vs : List Value} : Pt (u :: vs) 0 v (v :: vs) := ⟨rfl, Nat.succ_pos _⟩
instance {u v : Value} {vs vs' : List Value} {k : Nat} [h : Pt vs k v vs'] : Pt (u :: vs) (k + 1) v (u :: vs') := ⟨(by rw [List.set_cons_succ, h.s]), Nat.succ_lt_succ h.l⟩
class Tk (cs : List Value) (n : Nat) (sub : outParam (List Value)) : Prop where
  t : cs.take n = sub
  n : sub.length = n
instance {cs : List Value} : Tk cs 0 [] := ⟨List.take_zero, rfl⟩
instance {v : Value} {vs s : List Value} {n : Nat} [h : Tk vs n s] : Tk (v :: vs) (n + 1) (v :: s) := ⟨(by rw [List.take_succ_cons, h.t]), (by rw [List.length_cons, h.n])⟩
class Sb (cs : List Value) (k n : Nat) (sub : outParam (List Value)) : Prop where
  t : (cs.drop k).take n = sub
  n : sub.length = n
instance {cs s : List Value} {n : Nat} [h : Tk cs n s] : Sb cs 0 n s := ⟨h.t, h.n⟩
instance {v : Value} {vs s : List Value} {k n : Nat} [h : Sb vs k n s] : Sb (v :: vs) (k + 1) n s := ⟨h.t, h.n⟩
class Ci (F : List Cold) (c : Cold) : Prop where
  m : c ∈ F
instance {F : List Cold} {c : Cold} : Ci (c :: F) c := ⟨List.mem_cons_self⟩
instance (priority := low) {F : List Cold} {c d : Cold} [h : Ci F c] : Ci (d :: F) c := ⟨List.mem_cons_of_mem _ h.m⟩
theorem pS0 {α : Type} (l : List α) (i : Nat) (a : α) : l.toArray.setIfInBounds i a = (l.set i a).toArray := List.setIfInBounds_toArray l i a
theorem pS1 {α : Type} (x : α) (xs : List α) (y : α) : (x :: xs).set 0 y = y :: xs := rfl
theorem pS2 {α : Type} (x : α) (xs : List α) (n : Nat) (y : α) : (x :: xs).set (n + 1) y = x :: xs.set n y := rfl
section
variable {o : Oper} {a : Act} {w0 w : World} {X : List Nat} {S : World → Prop} {bs bs' : List Bx} {rs : List Rw} {F : List Cold} {K : Act → World → Prop} {Q : Exit → Act → World → Prop}
theorem oL1 (HO : Hid (Own w0 X S bs rs F w)) {ty : TypeId} {x : Operand} (ho : o.op = .load ty x) {b k : Nat} (hx : a.eval x = .pointer (some ⟨b, k, none⟩)) {t : TypeId} {cs : List Value} {v : Value} [T : T1 ty] [m : Bi bs b t cs] [g : Gt cs k v] (h : K (a.put o.dst v) w) : WOp Try.prog o a w K Q := wo_load1 HO ho hx m.m T.a g.g h
theorem oL2 (HO : Hid (Own w0 X S bs rs F w)) {ty : TypeId} {x : Operand} (ho : o.op = .load ty x) {b : Nat} (hx : a.eval x = .pointer (some ⟨b, 0, none⟩)) {t : TypeId} {cs : List Value} {n : Nat} [T : TN ty n] [m : Bi bs b t cs] [l : Ln cs n] (h : K (a.put o.dst (.agg cs.toArray)) w) : WOp Try.prog o a w K Q := wo_load HO ho hx m.m T.a T.s l.n h
theorem oL3 (HO : Hid (Own w0 X S bs rs F w)) {ty : TypeId} {x : Operand} (ho : o.op = .load ty x) {b k : Nat} (hx : a.eval x = .pointer (some ⟨b, k, none⟩)) {t : TypeId} {cs : List Value} {n : Nat} [T : TN ty n] [m : Bi bs b t cs] {sub : List Value} [l : Sb cs k n sub] (h : K (a.put o.dst (.agg sub.toArray)) w) : WOp Try.prog o a w K Q := wo_load_at HO ho hx m.m T.a T.s l.t l.n h
theorem oT1 (HO : Hid (Own w0 X S bs rs F w)) {ty : TypeId} {x : Operand} {v : Value} (ho : o.op = .store ty x (.const v)) (hdst : o.dst = none) {b k : Nat} (hx : a.eval x = .pointer (some ⟨b, k, none⟩)) {t : TypeId} {cs cs' : List Value} {f : List Value → List Bx} [T : T1 ty] [m : Bu bs b t cs f] [p : Pt cs k v cs'] [O : Oc v] (h : ∀ W, Hid (Own w0 X S (f cs') rs F W) → K a W) : WOp Try.prog o a w K Q := wo_store1c HO ho hdst hx m.m p.s (m.c cs') T.s p.l O.o h
theorem oT2 (HO : Hid (Own w0 X S bs rs F w)) {ty : TypeId} {x : Operand} {i : Tmp} {v : Value} (ho : o.op = .store ty x (.tmp i)) (hdst : o.dst = none) {b k : Nat} (hx : a.eval x = .pointer (some ⟨b, k, none⟩)) (hy : a.tmps.toList[i]? = some v) {t : TypeId} {cs cs' : List Value} {f : List Value → List Bx} [T : T1 ty] [m : Bu bs b t cs f] [p : Pt cs k v cs'] [O : Oc v] (h : ∀ W, Hid (Own w0 X S (f cs') rs F W) → K a W) : WOp Try.prog o a w K Q := wo_store1t HO ho hdst hx (by rw [← Array.getElem?_toList]; exact hy) m.m p.s (m.c cs') T.s p.l O.o h
theorem oT3 (HO : Hid (Own w0 X S bs rs F w)) {ty : TypeId} {x y : Operand} (ho : o.op = .store ty x y) (hdst : o.dst = none) {b : Nat} (hx : a.eval x = .pointer (some ⟨b, 0, none⟩)) {vs : List Value} (hy : a.eval y = .agg vs.toArray) {t : TypeId} {cs : List Value} {f : List Value → List Bx} {n : Nat} [T : TN ty n] [m : Bu bs b t cs f] [O : Ocs vs n] [L : Ln cs n] (h : ∀ W, Hid (Own w0 X S (f vs) rs F W) → K a W) : WOp Try.prog o a w K Q := wo_store HO ho hdst hx hy (m.c vs) T.s O.n (L.n.trans O.n.symm) O.o h
set_option maxRecDepth 100000 in
theorem oAl (HO : Hid (Own w0 X S bs rs F w)) {d : Option Tmp} {t T : TypeId} {ps : String} {af : Array Edge} {gd : Option (Nat × Bool)} {cs : List Value} [Z : TZ t cs] (h : ∀ W, Hid (Own w0 X S (⟨w.heap.size, t, cs⟩ :: bs) rs F W) → K (a.put d (.pointer (some ⟨w.heap.size, 0, none⟩))) W) : Oper.wp Try.prog ⟨d, .alloc t, T, ps, af, gd⟩ a w K Q := by
  with_reducible refine to_alloc ?_
  exact wo_alloc HO rfl Z.z h
set_option maxRecDepth 100000 in
theorem oF1 {ty : TypeId} {x : Operand} {f : Nat} {d : Option Tmp} {T : TypeId} {ps : String} {af : Array Edge} {gd : Option (Nat × Bool)} {cs : List Value} (hx : a.eval x = .agg cs.toArray) {fs : Array Field} [U : TF ty fs] (h : ∃ nm ft off em tg u1 u2 v, fs[f]? = some ⟨nm, ft, off, em, tg, u1, u2⟩ ∧ cs[off]? = some v ∧ T1 ft ∧ K (a.put d v) w) : WOp Try.prog ⟨d, .field ty x f, T, ps, af, gd⟩ a w K Q := by
  obtain ⟨_, _, _, _, _, _, _, _, h1, h2, h3, h4⟩ := h
  exact wo_field1 rfl hx U.u h1 h2 h3.a h4
theorem oBc {fn : Func} {R : Ending → World → Prop} (HO : Hid (Own w0 X S bs rs F w)) {t : Tmp} {ty : TypeId} (hf : fn.results = #[.cell t ty]) {b : Nat} (hx : a.tmps.getD t undef = .pointer (some ⟨b, 0, none⟩)) {u : TypeId} {cs : List Value} {n : Nat} (hdef : a.defers = []) [T : TN ty n] [m : Bi bs b u cs] [l : Ln cs n] (h : R (.returned (.agg cs.toArray)) w) : bodyPost Try.prog fn R .ret a w := bp_cell HO hf hx m.m T.a T.s l.n hdef h
end
structure wpE (w0 : World) (X : List Nat) (bs : List Bx) (late _plan _then : List Nat) (ops : Array Oper) (Q : Exit → Act → World → Prop) (f : Nat) (listed : Array Bool) (a : Act) (w : World) : Prop where
  h : wpAnyE Try.prog .any ops Q (OwnB w0 X bs) late f listed a w
structure wpL (_plan : List Nat) (ops : Array Oper) (Q : Exit → Act → World → Prop) (f : Nat) (listed : Array Bool) (a : Act) (w : World) : Prop where
  h : wpAnyH Try.prog .any ops Q Anyw f listed a w
def ckP (ops : Array Oper) (late : List Nat) (listed : Array Bool) (i : Nat) : Bool := Region.noSelect ops && Region.free .any ops listed i && (Region.ready .any ops listed).contains i && !late.contains i
def ckL (ops : Array Oper) (late : List Nat) (listed : Array Bool) (i : Nat) : Bool := ckP ops late listed i && waits .any ops late listed i
def ckO (ops : Array Oper) (late : List Nat) (listed : Array Bool) (i : Nat) : Bool := Region.ready .any ops listed == [i] && !late.contains i
def ckT (ops : Array Oper) (late : List Nat) (listed : Array Bool) (i : Nat) : Bool := Region.ready .any ops listed == [i] && late.contains i
def ckM (ops : Array Oper) (listed : Array Bool) (i : Nat) : Bool := Region.ready .any ops listed == [i]
def ckH (ops : Array Oper) (listed : Array Bool) (i : Nat) : Bool := Region.noSelect ops && Region.free .any ops listed i && (Region.ready .any ops listed).contains i
def ckD (ops : Array Oper) (listed : Array Bool) : Bool := Region.ready .any ops listed == []
theorem ckP.all {ops : Array Oper} {late : List Nat} {listed : Array Bool} {i : Nat} (h : ckP ops late listed i = true) : Region.noSelect ops = true ∧ Region.free .any ops listed i = true ∧ (Region.ready .any ops listed).contains i = true ∧ late.contains i = false := by
  unfold ckP at h
  simp only [Bool.and_eq_true, Bool.not_eq_true'] at h
  exact ⟨h.1.1.1, h.1.1.2, h.1.2, h.2⟩
theorem mixed : Try.prog.follows .mixedOrders = true := by kernel_rfl
section
variable {w0 w : World} {X : List Nat} {S : World → Prop} {bs : List Bx} {rs : List Rw} {F : List Cold} {late plan pl2 : List Nat} {ops : Array Oper} {Q : Exit → Act → World → Prop} {f : Nat} {listed : Array Bool} {a : Act} {i : Nat} {oi : Oper}
theorem eOp {K : Act → World → Prop} (h : Oper.wp Try.prog oi a w K Q) : Oper.wp Try.prog oi a w K Q := h
theorem eGo (h : wpE w0 X bs late plan pl2 ops Q f listed a w) : wpE w0 X bs late plan pl2 ops Q f listed a w := h
theorem eHo (h : wpL plan ops Q f listed a w) : wpL plan ops Q f listed a w := h
theorem eBe {id : Nat} (HO : Hid (Own w0 X S bs rs F w)) (late plan pl2 : List Nat) (h : ∀ W, Hid (Own w0 X S bs rs F W) → wpE w0 X bs late plan pl2 ops Q ops.size (Array.replicate ops.size false) a W) : (Code.region id ops true).wp Try.prog Q a w := e_begin HO late mixed fun W hO => (h W hO).h
theorem ePu (HO : Hid (Own w0 X S bs rs F w)) (hi : (ops.toList.drop i).head? = some oi) {v : Value} (hk : ckP ops late listed i = true) (hQ : ∀ c a w, Q (.panic c) (a.put oi.dst v) w → Q (.panic c) a w) (hwa : Region.wanted oi (yielded ops a.tmps) = true) (hy : ∀ w, (execOp a.eval oi).run Try.prog w = .ok (.value v) w)
    (h : wpE w0 X bs late plan pl2 ops Q f (listed.setIfInBounds i true) (a.put oi.dst v) w) : wpE w0 X bs late (i :: plan) pl2 ops Q (f + 1) listed a w :=
  ⟨e_pure hi (ckP.all hk).1 (ckP.all hk).2.1 (ckP.all hk).2.2.1 (ckP.all hk).2.2.2 hQ hwa (OwnB.of HO) hy h.h⟩
theorem eL1 (HO : Hid (Own w0 X S bs rs F w)) (hi : (ops.toList.drop i).head? = some oi) {ty : TypeId} {x : Operand} (ho : oi.op = .load ty x) {b k : Nat} (hx : a.eval x = .pointer (some ⟨b, k, none⟩)) {t : TypeId} {cs : List Value} {v : Value} [T : T1 ty] [m : Bi bs b t cs] [g : Gt cs k v] (hk : ckL ops late listed i = true) (hQ : ∀ c a w, Q (.panic c) (a.put oi.dst v) w → Q (.panic c) a w) (hwa : Region.wanted oi (yielded ops a.tmps) = true)
    (h : wpE w0 X bs late plan pl2 ops Q f (listed.setIfInBounds i true) (a.put oi.dst v) w) : wpE w0 X bs late (i :: plan) pl2 ops Q (f + 1) listed a w := by
  have hk2 := Bool.and_eq_true_iff.1 hk
  refine ⟨?_⟩
  exact e_load1 HO hi (ckP.all hk2.1).1 (ckP.all hk2.1).2.1 (ckP.all hk2.1).2.2.1 (ckP.all hk2.1).2.2.2 hk2.2 ho hx m.m T.a g.g hQ hwa h.h
theorem eL2 (HO : Hid (Own w0 X S bs rs F w)) (hi : (ops.toList.drop i).head? = some oi) {ty : TypeId} {x : Operand} (ho : oi.op = .load ty x) {b : Nat} (hx : a.eval x = .pointer (some ⟨b, 0, none⟩)) {t : TypeId} {cs : List Value} {n : Nat} [T : TN ty n] [m : Bi bs b t cs] [l : Ln cs n] (hk : ckL ops late listed i = true) (hQ : ∀ c a w, Q (.panic c) (a.put oi.dst (.agg cs.toArray)) w → Q (.panic c) a w) (hwa : Region.wanted oi (yielded ops a.tmps) = true)
    (h : wpE w0 X bs late plan pl2 ops Q f (listed.setIfInBounds i true) (a.put oi.dst (.agg cs.toArray)) w) : wpE w0 X bs late (i :: plan) pl2 ops Q (f + 1) listed a w := by
  have hk2 := Bool.and_eq_true_iff.1 hk
  refine ⟨?_⟩
  exact e_load HO hi (ckP.all hk2.1).1 (ckP.all hk2.1).2.1 (ckP.all hk2.1).2.2.1 (ckP.all hk2.1).2.2.2 hk2.2 ho hx m.m T.a T.s l.n hQ hwa h.h
theorem eA1 (hi : (ops.toList.drop i).head? = some oi) (hk : ckO ops late listed i = true) (hwa : Region.wanted oi (yielded ops a.tmps) = true)
    (h : ∀ K : Act → World → Prop, Hid (∀ a' w', OwnB w0 X bs w' → wpE w0 X bs late plan pl2 ops Q f (listed.setIfInBounds i true) a' w' → K a' w') → Oper.wp Try.prog oi a w K Q) : wpE w0 X bs late (i :: plan) pl2 ops Q (f + 1) listed a w := by
  have hk2 := Bool.and_eq_true_iff.1 hk
  exact ⟨e_one (beq_iff_eq.1 hk2.1) hi (by simpa using hk2.2) hwa fun K hK => h K (Lib.hid fun a' w' s k => hK.out a' w' s k.h)⟩
theorem eCa {c : Call} (hi : (ops.toList.drop i).head? = some oi) (_ : oi.op = .call c) (hk : ckO ops late listed i = true) (hwa : Region.wanted oi (yielded ops a.tmps) = true)
    (h : ∀ K : Act → World → Prop, Hid (∀ a' w', OwnB w0 X bs w' → wpE w0 X bs late plan pl2 ops Q f (listed.setIfInBounds i true) a' w' → K a' w') → Oper.wp Try.prog oi a w K Q) : wpE w0 X bs late (i :: plan) pl2 ops Q (f + 1) listed a w := eA1 hi hk hwa h
theorem eSl {c : TypeId} {m : Nat} {l : _} (hi : (ops.toList.drop i).head? = some oi) (_ : oi.op = .buildSlice c m l) (hk : ckO ops late listed i = true) (hwa : Region.wanted oi (yielded ops a.tmps) = true)
    (h : ∀ K : Act → World → Prop, Hid (∀ a' w', OwnB w0 X bs w' → wpE w0 X bs late plan pl2 ops Q f (listed.setIfInBounds i true) a' w' → K a' w') → Oper.wp Try.prog oi a w K Q) : wpE w0 X bs late (i :: plan) pl2 ops Q (f + 1) listed a w := eA1 hi hk hwa h
theorem eA2 (hi : (ops.toList.drop i).head? = some oi) (hk : ckT ops late listed i = true) (hwa : Region.wanted oi (yielded ops a.tmps) = true)
    (h : ∀ K : Act → World → Prop, Hid (∀ a' w', wpL pl2 ops Q f (listed.setIfInBounds i true) a' w' → K a' w') → Oper.wp Try.prog oi a w K Q) : wpE w0 X bs late [] (i :: pl2) ops Q (f + 1) listed a w := by
  have hk2 := Bool.and_eq_true_iff.1 hk
  exact ⟨e_late (beq_iff_eq.1 hk2.1) hi hk2.2 hwa fun K hK => h K (Lib.hid fun a' w' k => hK.out a' w' k.h)⟩
theorem eA3 (hi : (ops.toList.drop i).head? = some oi) (hk : ckM ops listed i = true) (hwa : Region.wanted oi (yielded ops a.tmps) = true)
    (h : ∀ K : Act → World → Prop, Hid (∀ a' w', wpL plan ops Q f (listed.setIfInBounds i true) a' w' → K a' w') → Oper.wp Try.prog oi a w K Q) : wpL (i :: plan) ops Q (f + 1) listed a w := ⟨e_more (beq_iff_eq.1 hk) hi hwa fun K hK => h K (Lib.hid fun a' w' k => hK.out a' w' k.h)⟩
theorem eA4 (hi : (ops.toList.drop i).head? = some oi) {v : Value} (hk : ckH ops listed i = true) (hQ : ∀ c a w, Q (.panic c) (a.put oi.dst v) w → Q (.panic c) a w) (hwa : Region.wanted oi (yielded ops a.tmps) = true) (hy : ∀ w, (execOp a.eval oi).run Try.prog w = .ok (.value v) w)
    (h : wpL plan ops Q f (listed.setIfInBounds i true) (a.put oi.dst v) w) : wpL (i :: plan) ops Q (f + 1) listed a w := by
  unfold ckH at hk
  simp only [Bool.and_eq_true] at hk
  exact ⟨e_pureH hi hk.1.1 hk.1.2 hk.2 hQ hwa hy h.h⟩
theorem eDo (hk : ckD ops listed = true) (h : Q .normal a w) : wpL [] ops Q f listed a w := ⟨e_done (beq_iff_eq.1 hk) h⟩
theorem eEe (hk : ckD ops listed = true) (h : Q .normal a w) : wpE w0 X bs late [] [] ops Q f listed a w := by
  have hr : Region.ready .any ops listed = [] := beq_iff_eq.1 hk
  refine ⟨?_⟩
  cases f with
  | zero => exact ⟨hr, h⟩
  | succ f => exact ⟨fun _ => h, fun i hi => by rw [hr] at hi; cases hi⟩
theorem eFi {cs : List Value} {ty : TypeId} {x : Operand} {k : Nat} {a : Act} {o : Oper} (ho : o.op = .field ty x k) (hx : a.eval x = .agg cs.toArray) {fs : Array Field} [U : TF ty fs] {v : Value} (h : ∃ nm ft off em tg u1 u2, fs[k]? = some ⟨nm, ft, off, em, tg, u1, u2⟩ ∧ cs[off]? = some v ∧ T1 ft) : ∀ w, (execOp a.eval o).run Try.prog w = .ok (.value v) w := by
  obtain ⟨_, _, off, _, _, _, _, h1, h2, h3⟩ := h
  intro w
  have hv2 : cs.toArray[off]? = some v := by simpa using h2
  unfold execOp
  simp only [ho, hx, Instr.field, Sem.run_bind, run_underlying U.u w, Result.andThen_ok, h1, asAgg, Sem.run_pure, part, h3.a w, Bool.false_eq_true, if_false, hv2]
end
class Xt (K : Act → World → Prop) (Q : Exit → Act → World → Prop) (e : Exit) (a : Act) (w : World) (q : outParam Prop) : Prop where
  i : q → Exit.then K Q e a w
class Xb (i : Nat) (Q : Exit → Act → World → Prop) (e : Exit) (a : Act) (w : World) (q : outParam Prop) : Prop where
  i : q → Exit.inBlock i Q e a w
section
variable {K : Act → World → Prop} {Q : Exit → Act → World → Prop} {i : Nat} {a : Act} {w : World}
theorem oXt {e : Exit} {q : Prop} [h : Xt K Q e a w q] (hq : q) : Exit.then K Q e a w := h.i hq
theorem oXb {e : Exit} {q : Prop} [h : Xb i Q e a w q] (hq : q) : Exit.inBlock i Q e a w := h.i hq
instance : Xt K Q (.exit i) a w (Q (.exit i) a w) := ⟨id⟩
instance : Xt K Q .ret a w (Q .ret a w) := ⟨id⟩
instance : Xt K Q .normal a w (K a w) := ⟨id⟩
instance : Xb i Q .ret a w (Q .ret a w) := ⟨id⟩
instance : Xb i Q .normal a w (Q .normal a w) := ⟨id⟩
theorem ib_hit (h : Q .normal a w) : Exit.inBlock i Q (.exit i) a w := by simp only [Exit.inBlock, if_true]; exact h
instance : Xb i Q (.exit i) a w (Q .normal a w) := ⟨ib_hit⟩
theorem ib_miss {j : Nat} (hij : (j == i) = false) (h : Q (.exit j) a w) : Exit.inBlock i Q (.exit j) a w := by
  have : ¬ j = i := by simpa using hij
  simp only [Exit.inBlock, this, if_false]; exact h
end
section
variable {G G' : Prop}
theorem pS : (∀ (α : Type) (l : List α) (i : Nat) (a : α), l.toArray.setIfInBounds i a = (l.set i a).toArray) ∧ (∀ (α : Type) (x : α) (xs : List α) (y : α), (x :: xs).set 0 y = y :: xs) ∧ (∀ (α : Type) (x : α) (xs : List α) (n : Nat) (y : α), (x :: xs).set (n + 1) y = x :: xs.set n y) := ⟨fun _ => pS0, fun _ => pS1, fun _ => pS2⟩
theorem bZ : ((false = true) = False) ∧ (∀ b : Bool, (b && true) = b) ∧ (∀ b : Bool, (true && b) = b) ∧ (∀ b : Bool, (false && b) = false) ∧ (∀ b : Bool, (b && false) = false) ∧ ((!true) = false) ∧ ((!false) = true) ∧ (∀ b : Bool, (b || true) = true) ∧ (∀ b : Bool, (true || b) = true) ∧ (∀ b : Bool, (b || false) = b) ∧ (∀ b : Bool, (false || b) = b) := ⟨Bool.false_eq_true, Bool.and_true, Bool.true_and, Bool.false_and, Bool.and_false, Bool.not_true, Bool.not_false, Bool.or_true, Bool.true_or, Bool.or_false, Bool.false_or⟩
theorem zG (h : Unit → G) : G := h ()
theorem oWx (h' : G') (h : Hid G' → G := by
    intro h
    first
      | ((with_reducible refine oXt ?_); with_reducible exact h.out)
      | ((with_reducible refine oXb ?_); with_reducible exact h.out)
      | ((with_reducible refine ib_miss ?_ h.out); exact rfl)
      | ((with_reducible refine to_load ?_); (first | refine oL1 HO rfl rfl ?_ | refine oL2 HO rfl rfl ?_ | refine oL3 HO rfl rfl ?_); (try simp only [Act.put, pS]); with_reducible exact h.out)
      | ((with_reducible refine to_field ?_); refine oF1 rfl ?_; refine ⟨_, _, _, _, _, _, _, _, rfl, rfl, inferInstance, ?_⟩; (try simp only [Act.put, pS]); with_reducible exact h.out)
      | fail) : Unit → G := fun _ => h (Lib.hid h')
theorem oWs (h' : G') (h : Hid G' → G := by
    intro h
    first
      | ((with_reducible refine oAl HO ?_); (try simp only [Act.put, pS]); with_reducible exact h.out)
      | ((with_reducible refine to_box ?_); refine wo_box HO rfl rfl ?_; (try simp only [Act.put, pS]); with_reducible exact h.out)
      | ((with_reducible refine to_store ?_); (first | refine oT1 HO rfl rfl rfl ?_ | refine oT2 HO rfl rfl rfl (by rfl) ?_ | refine oT3 HO rfl rfl rfl rfl ?_ | fail); with_reducible exact h.out)
      | ((with_reducible refine ab_drew HO ?_); with_reducible exact h.out)
      | fail) : Unit → G := fun _ => h (Lib.hid h')
theorem oWj (h' : G') (h : Hid G' → G := by
    intro h
    first
      | ((with_reducible refine ab_junk HO 9 ?_); exact h.out)
      | fail) : Unit → G := fun _ => h (Lib.hid h')
theorem oWf (h' : G') (h : Hid G' → G := by
    intro h
    (with_reducible refine eGo ?_)
    first
      | exact eCa rfl rfl (by kernel_rfl) (by rfl) h.out
      | exact eSl rfl rfl (by kernel_rfl) (by rfl) h.out
      | fail) : Unit → G := fun _ => h (Lib.hid h')
theorem oWe (h' : G') (h : Hid G' → G := by
    intro h
    (with_reducible refine eGo ?_)
    first
      | refine eL1 HO rfl rfl rfl (by kernel_rfl) (fun _ _ _ h => h) (by rfl) ?_
      | refine eL2 HO rfl rfl rfl (by kernel_rfl) (fun _ _ _ h => h) (by rfl) ?_
      | fail
    (try simp only [Act.put, pS])
    with_reducible exact h.out) : Unit → G := fun _ => h (Lib.hid h')
theorem oWp (h' : G') (h : Hid G' → G := by
    intro h
    first
      | ((with_reducible refine eGo ?_); (first | refine ePu HO rfl (by kernel_rfl) (fun _ _ _ h => h) (by rfl) (eFi rfl rfl ⟨_, _, _, _, _, _, _, rfl, rfl, inferInstance⟩) ?_ | refine ePu HO rfl (by kernel_rfl) (fun _ _ _ h => h) (by rfl) (by intro _; go_simp; (try with_reducible rfl)) ?_); (try simp only [Act.put, pS]); with_reducible exact h.out)
      | ((with_reducible refine eGo ?_); exact eEe (by kernel_rfl) h.out)
      | ((with_reducible refine eHo ?_); refine eA4 rfl (by kernel_rfl) (fun _ _ _ h => h) (by rfl) (by intro _; go_simp; (try with_reducible rfl)) ?_; (try simp only [Act.put, pS]); with_reducible exact h.out)
      | ((with_reducible refine eHo ?_); exact eDo (by kernel_rfl) h.out)
      | fail) : Unit → G := fun _ => h (Lib.hid h')
theorem oWg (h' : G') (h : Hid G' → G := by
    intro h
    first
      | ((with_reducible refine eGo ?_); first | exact eA1 rfl (by kernel_rfl) (by rfl) h.out | exact eA2 rfl (by kernel_rfl) (by rfl) h.out | fail)
      | ((with_reducible refine eHo ?_); exact eA3 rfl (by kernel_rfl) (by rfl) h.out)
      | fail) : Unit → G := fun _ => h (Lib.hid h')
theorem oWk (h' : G') (h : Hid G' → G := by
    intro h
    (with_reducible show K _ _)
    (first | with_reducible refine hK.out _ _ (OwnB.of HO) ?_ | with_reducible refine hK.out _ _ ?_ | fail)
    (try simp only [Act.put, pS])
    with_reducible exact h.out) : Unit → G := fun _ => h (Lib.hid h')
end
open Go.RowKit
set_option maxRecDepth 100000 in
set_option maxHeartbeats 400000 in
theorem digits_any (A : Option Addr) (c : Nat) (bs : List Nat) (w : World) (hr : RB w w.heap.size A bs) (hc : bs.length ≤ c) (hm : bs.length ≤ 140737488351232) :
    Calls Try.prog 74 #[.slice A bs.length c] w fun e w' => e = .returned (.slice A (span digB bs) c) ∧ w = w' := by
  have hH := Lib.hid hr
  clear hr
  go_enter Try.func74, Try.ntmps74
  go_wp2_with fail
  go_loop [3] (fun n => ∃ k : Nat, k ≤ bs.length ∧ n = .int .i64 k ∧ Hid (∀ j (hj : j < bs.length), j < k → digB bs[j] = true)) (fun n => bs.length - (intOf n).toNat)
  case atStart => exact ⟨0, Nat.zero_le _, rfl, Lib.hid (fun _ _ h => absurd h (by omega))⟩
  case round =>
    obtain ⟨k, hk, rfl, hall⟩ := hrel
    by_cases hlt : k < bs.length
    · obtain ⟨ad, rfl, hb, hcell⟩ := hH.out.2 (by omega)
      have hx := hH.out.1 bs[k] (List.getElem_mem _)
      have hcl := hcell k hlt
      obtain ⟨x, hxe⟩ : ∃ x, x = bs[k] := ⟨_, rfl⟩
      rw [← hxe] at hx hcl
      have HX := Lib.hid hxe; clear hxe hcell hb
      by_cases h1 : 48 ≤ x
      · by_cases h2 : x ≤ 57
        · go_wp2
          go_round
          case rel => exact ⟨k + 1, by omega, by go_num, Lib.hid (fun j hj hjk => by
            by_cases e : j = k
            · subst e; rw [← HX.out]; simp [digB, h1, h2]
            · exact hall.out j hj (by omega))⟩
          case measure => simp [intOf]; omega
        · have he : span digB bs = k := span_eq _ _ _ hk (fun j hj hjk => hall.out j hj hjk) (fun hj => by rw [← HX.out]; simp [digB]; omega)
          have HE := Lib.hid he; clear he
          go_wp2
          go_ret
          exact ⟨by rw [HE.out]; rfl, rfl⟩
      · have he : span digB bs = k := span_eq _ _ _ hk (fun j hj hjk => hall.out j hj hjk) (fun hj => by rw [← HX.out]; simp [digB]; omega)
        have HE := Lib.hid he; clear he
        go_wp2
        go_ret
        exact ⟨by rw [HE.out]; rfl, rfl⟩
    · have he : span digB bs = k := span_eq _ _ _ hk (fun j hj hjk => hall.out j hj hjk) (fun hj => by omega)
      have HE := Lib.hid he; clear he
      go_wp2
      go_ret
      exact ⟨by rw [HE.out]; rfl, rfl⟩
open Go.RowKit
theorem add64 (x y c : Int) (hx : 0 ≤ x) (hy : 0 ≤ y) (hc0 : 0 ≤ c) (hc : c ≤ 1) (w : World) : (callFunc 76 #[.int .u64 x, .int .u64 y, .int .u64 c]).run Try.prog w =
    .ok (.value (.tuple #[.int .u64 ((x + y + c) % 18446744073709551616), .int .u64 ((x + y + c) / 18446744073709551616)])) w := by
  obtain ⟨x, rfl⟩ := Int.eq_ofNat_of_zero_le hx
  obtain ⟨y, rfl⟩ := Int.eq_ofNat_of_zero_le hy
  obtain ⟨c, rfl⟩ := Int.eq_ofNat_of_zero_le hc0
  rw [run_callFunc_extern Try.func76 (by kernel_rfl) (by kernel_rfl) (by kernel_rfl) (e := add64Entry) (by kernel_rfl), run_add64 x y c (by omega) (by omega) (by omega) (by omega)]
  simp only [Result.andThen]
theorem add64_0 (x y : Int) (hx : 0 ≤ x) (hy : 0 ≤ y) (w : World) : (callFunc 76 #[.int .u64 x, .int .u64 y, .int .u64 0]).run Try.prog w =
    .ok (.value (.tuple #[.int .u64 ((x + y) % 18446744073709551616), .int .u64 ((x + y) / 18446744073709551616)])) w := by
  simpa using add64 x y 0 hx hy (Int.le_refl 0) (by decide) w
def ph (x y : Int) : Int := x * y / 18446744073709551616
def pl (x y : Int) : Int := x * y % 18446744073709551616
theorem mul64 (x y : Int) (hx : 0 ≤ x) (hx' : x < 18446744073709551616) (hy : 0 ≤ y) (hy' : y < 18446744073709551616) (w : World) :
    Calls Try.prog 75 #[.int .u64 x, .int .u64 y] w fun e w' => e = .returned (.tuple #[.int .u64 (ph x y), .int .u64 (pl x y)]) ∧ w = w' := by
  obtain ⟨x, rfl⟩ := Int.eq_ofNat_of_zero_le hx
  obtain ⟨y, rfl⟩ := Int.eq_ofNat_of_zero_le hy
  refine (Try.bits_Mul64 x y (by omega) (by omega) w).mono ?_
  rintro e w' ⟨rfl, rfl⟩
  exact ⟨by simp [ph, pl], rfl⟩
theorem phl (x y : Int) : x * y = ph x y * 18446744073709551616 + pl x y := by unfold ph pl; omega
theorem pl_range (x y : Int) : 0 ≤ pl x y ∧ pl x y < 18446744073709551616 := by unfold pl; omega
theorem ph_range {x y : Int} (hx : 0 ≤ x) (hx' : x < 18446744073709551616) (hy : 0 ≤ y) (hy' : y < 18446744073709551616) : 0 ≤ ph x y ∧ ph x y < 18446744073709551615 := by
  have a : 0 ≤ x * y := Int.mul_nonneg hx hy
  have b : x * y ≤ 18446744073709551615 * y := Int.mul_le_mul_of_nonneg_right (by omega) hy
  unfold ph; omega
open Go.RowKit
def mh (N : Nat) : Int := ((N / 18446744073709551616 : Nat) : Int)
def ml (N : Nat) : Int := ((N % 18446744073709551616 : Nat) : Int)
set_option maxRecDepth 100000 in
set_option maxHeartbeats 400000 in
theorem more_any (n : Bool) (N c : Nat) (hN : N < 10000000000000000000000000000000000000) (hc : 48 ≤ c) (hc2 : c ≤ 57) (w : World) :
    Calls Try.prog 66 #[.agg #[.bool n, .int .u64 (mh N), .int .u64 (ml N)], .int .u8 (c : Int)] w fun e w' => e = .returned (.agg #[.bool false, .int .u64 (mh (N * 10 + (c - 48))), .int .u64 (ml (N * 10 + (c - 48)))]) ∧ Below w.heap.size w w' := by
  obtain ⟨H, hH⟩ : ∃ H, H = N / 18446744073709551616 := ⟨_, rfl⟩
  obtain ⟨L, hL⟩ : ∃ L, L = N % 18446744073709551616 := ⟨_, rfl⟩
  have e1 : mh N = (H : Int) := by unfold mh; rw [hH]
  have e2 : ml N = (L : Int) := by unfold ml; rw [hL]
  rw [e1, e2]
  have bH : H < 1000000000000000000 := by omega
  have bL : L < 18446744073709551616 := by omega
  have pr := pl_range (L : Int) 10
  have qr := ph_range (x := (L : Int)) (y := 10) (by omega) (by omega) (by decide) (by decide)
  have pq := phl (L : Int) 10
  obtain ⟨S, hS⟩ : ∃ S : Int, S = (pl (L : Int) 10 + ((c : Int) - 48)) % 18446744073709551616 := ⟨_, rfl⟩
  obtain ⟨C, hC⟩ : ∃ C : Int, C = (pl (L : Int) 10 + ((c : Int) - 48)) / 18446744073709551616 := ⟨_, rfl⟩
  have f2 : ml (N * 10 + (c - 48)) = S := by
    unfold ml; omega
  have f1 : mh (N * 10 + (c - 48)) = (H : Int) * 10 + ph (L : Int) 10 + C := by
    unfold mh; omega
  rw [f1, f2]
  have ea := fun W => add64_0 (pl (L : Int) 10) ((c : Int) - 48) pr.1 (by omega) W
  rw [← hS, ← hC] at ea
  have hC1 : C ≤ 1 := by omega
  have hC0 : 0 ≤ C := by omega
  have hq1 : ph (L : Int) 10 < 20 := by unfold ph; omega
  have hq0 := qr.1
  clear hH hL e1 e2 f1 f2 hS hC pq qr hN pr
  go_enter Try.func66, Try.ntmps66
  go_wp2_with (go_at_call 75; refine (mul64 _ _ (by omega) (by omega) (by omega) (by omega) _).mono ?_; rintro e w' ⟨rfl, rfl⟩)
  go_outline
  go_returns
  exact ⟨rfl, by (repeat' (first | (with_reducible exact Below.refl _ _) | (refine Below.trans ?_ (Below.mono (by with_reducible assumption) ?_)) | (with_reducible exact Below.refl _ _) | (with_reducible refine below_drewN ?_ _) | (with_reducible refine Below.drew ?_) | (with_reducible refine Below.setCell ?_ ?_ _) | (with_reducible refine Below.alloc ?_ ?_ _) | (with_reducible assumption) | (simp; done) | (simp; omega) | omega))⟩
open Go.RowKit
theorem rb_of {w : World} {B b : Nat} {bs : List Nat} (hb : ∀ x ∈ bs, x < 256) (h : b < B) (hc : ∀ j (h : j < bs.length), w.cell? ⟨b, j, none⟩ = some (.int .u8 ((bs[j] : Nat) : Int))) : RB w B (some ⟨b, 0, none⟩) bs := by
  refine ⟨hb, fun _ => ⟨_, rfl, h, fun j hj => ?_⟩⟩
  have : (⟨b, 0, none⟩ : Addr).add j = ⟨b, j, none⟩ := by unfold Addr.add; split <;> simp_all
  rw [this]; exact hc j hj
def bv (x : Nat) : Value := .int .u8 (x : Int)
def OB (w : World) (base : Nat) (v : Value) (bs : List Nat) : Prop := (∀ x ∈ bs, x < 256) ∧ w.ownsRow base 5 1 v bs.length (bs.map bv)
theorem OB.slice {w : World} {base : Nat} {v : Value} {bs : List Nat} (h : OB w base v bs) :
    ∃ (A : Option Addr) (c : Nat), v = .slice A bs.length c ∧ bs.length ≤ c ∧ RB w w.heap.size A bs ∧ (A = none → bs = [] ∧ c = 0) := by
  obtain ⟨hb, hl, h | ⟨g, cap, cur, hv, hg, hh, hn, hm, hs, ht⟩⟩ := h
  · obtain ⟨rfl, h0⟩ := h
    refine ⟨none, 0, by rw [h0], by omega, ?_, fun _ => ⟨List.length_eq_zero_iff.1 h0, rfl⟩⟩
    rw [List.length_eq_zero_iff.1 h0]; exact RB.nil
  · refine ⟨some ⟨g, 0, none⟩, cap, hv, hn, ?_, fun e => by cases e⟩
    have hlt : g < w.heap.size := by
      rcases Nat.lt_or_ge g w.heap.size with h | h
      · exact h
      · rw [Array.getElem?_eq_none h] at hh; cases hh
    refine rb_of hb hlt fun j hj => ?_
    rw [cell_of_row w g j cur 5 (0, 0) hh]
    have : (cur.toList.take (bs.length * 1))[j]? = (bs.map bv)[j]? := by rw [ht]
    rw [List.getElem?_take, if_pos (by omega), List.getElem?_map, List.getElem?_eq_getElem hj] at this
    simpa [bv] using this
theorem OB.kept {w w' : World} {base : Nat} {v : Value} {bs : List Nat} {row : Option Nat} (h : OB w base v bs) (hg : w.grownBy w' row) (hne : v.ownBlock = none ∨ v.ownBlock ≠ row) : OB w' base v bs := ⟨h.1, h.2.kept hg hne⟩
theorem OB.alloc {w : World} {base : Nat} {v : Value} {bs : List Nat} (h : OB w base v bs) (o : Obj) : OB (w.alloc o) base v bs := ⟨h.1, h.2.alloc o⟩
theorem OB.nil (w : World) (base : Nat) : OB w base (.slice none 0 0) [] := ⟨by simp, World.ownsRow_nil _ _ _ _⟩
theorem OB.setCell {w : World} {base : Nat} {v : Value} {bs : List Nat} (h : OB w base v bs) {a : Addr} (ha : a.block < base) (u : Value) : OB (w.setCell a u) base v bs := ⟨h.1, ownsRow_setCell_below h.2 ha u⟩
theorem OB.block {w : World} {base : Nat} {v : Value} {bs : List Nat} (h : OB w base v bs) : ∀ k, v.ownBlock = some k → base ≤ k ∧ k < w.heap.size := h.2.lt
theorem info_u8 : (Try.prog.info? 5).map (fun i => (i.zero, i.size, i.bytes)) = some (some (.int .u8 0), 1, 1) := by kernel_rfl
theorem OB.below {w w' : World} {base B : Nat} {v : Value} {bs : List Nat} {W : World} (h : OB w base v bs) (hg : w.grownBy w' v.ownBlock) (hb : Below B W w) (hB : B ≤ base) (hbase : B ≤ w.heap.size) : Below B W w' :=
  hb.grown hg hbase fun k hk => Nat.le_trans hB (h.block k hk).1
theorem OB.apart {w w' : World} {base b : Nat} {v v' : Value} {bs bs' : List Nat} (h : OB w base v bs) (h' : OB w' b v' bs') (hb : w.heap.size ≤ b) : v.ownBlock = none ∨ v.ownBlock ≠ v'.ownBlock := by
  cases e : v.ownBlock with
  | none => exact .inl rfl
  | some k =>
    right
    intro e2
    have h1 := h.block k e
    have h2 := h'.block k e2.symm
    omega
theorem OB.mono {w : World} {base base' : Nat} {v : Value} {bs : List Nat} (h : OB w base v bs) (hb : base' ≤ base) : OB w base' v bs := by
  obtain ⟨h1, h2, h3 | ⟨g, cap, cur, e, hg, hr⟩⟩ := h
  · exact ⟨h1, h2, .inl h3⟩
  · exact ⟨h1, h2, .inr ⟨g, cap, cur, e, Nat.le_trans hb hg, hr⟩⟩
theorem OB.next {w w' : World} {base : Nat} {v : Value} {bs : List Nat} (h : OB w base v bs) (q : Below w.heap.size w w') : OB w' base v bs :=
  h.kept (row := none) ⟨q.os, q.tape, q.output, q.size, fun k hk _ => q.block k hk⟩ (by cases v.ownBlock <;> simp)
def strN (l : List Nat) : ByteArray := ⟨(l.map fun x => UInt8.ofNat x).toArray⟩
theorem strN_size (a : List Nat) : (strN a).size = a.length := by simp [strN, ByteArray.size]
theorem strN_app (a b : List Nat) : strN a ++ strN b = strN (a ++ b) := by
  have : (strN a ++ strN b).data = (strN (a ++ b)).data := by
    rw [ByteArray.data_append]; simp [strN]
  cases h1 : strN a ++ strN b; cases h2 : strN (a ++ b); rw [h1, h2] at this; simpa using this
open Go.RowKit
open Go.RowKit Go.Extern.Stop Go.Stop Go.Extern
open Go.RowKit
section
variable {w w' : World} {g h : Nat} {v0 u0 : Value}
end
section
variable {w w' : World} {g h : Nat} {v0 v1 u0 u1 : Value}
end
structure Box3 (w : World) (g : Nat) (v0 v1 v2 : Value) : Prop where
  c0 : w.cell? ⟨g, 0, none⟩ = some v0
  c1 : w.cell? ⟨g, 1, none⟩ = some v1
  c2 : w.cell? ⟨g, 2, none⟩ = some v2
  f0 : w.frozen? ⟨g, 0, none⟩ = false
  f1 : w.frozen? ⟨g, 1, none⟩ = false
  f2 : w.frozen? ⟨g, 2, none⟩ = false
  z : g < w.heap.size
section
variable {w w' : World} {g h : Nat} {v0 v1 v2 u0 u1 u2 : Value}
theorem Box3.below (b : Box3 w g v0 v1 v2) (q : Below w.heap.size w w') : Box3 w' g v0 v1 v2 :=
  ⟨(q.cell b.z).trans b.c0, (q.cell b.z).trans b.c1, (q.cell b.z).trans b.c2, (q.frozen b.z).trans b.f0, (q.frozen b.z).trans b.f1, (q.frozen b.z).trans b.f2, Nat.lt_of_lt_of_le b.z q.size⟩
theorem Box3.make (w : World) (v0 v1 v2 : Value) (T : TypeId) {g : Nat} (hg : g = w.heap.size) : Box3 (w.alloc (.cells #[v0, v1, v2] T)) g v0 v1 v2 := by
  subst hg; constructor <;> simp (maxDischargeDepth := 12) [go_sem]
theorem Box3.alloc (b : Box3 w g v0 v1 v2) (o : Obj) : Box3 (w.alloc o) g v0 v1 v2 := b.below ((Below.refl _ _).alloc (Nat.le_refl _) _)
theorem Box3.drew (b : Box3 w g v0 v1 v2) : Box3 w.drew g v0 v1 v2 := b.below (Below.refl _ _).drew
theorem Box3.drewN (b : Box3 w g v0 v1 v2) (k : Nat) : Box3 (w.drewN k) g v0 v1 v2 := b.below (below_drewN (Below.refl _ _) k)
theorem Box3.other (b : Box3 w g v0 v1 v2) (hne : h ≠ g) (j : Nat) (u : Value) : Box3 (w.setCell ⟨h, j, none⟩ u) g v0 v1 v2 := by
  obtain ⟨c0, c1, c2, f0, f1, f2, z⟩ := b
  have hn : g ≠ h := fun e => hne e.symm
  constructor <;> (first | (simp (maxDischargeDepth := 12) [go_sem, *]; done) | (simp; omega))
theorem Box3.set (b : Box3 w g v0 v1 v2) : Box3 (((w.setCell ⟨g, 0, none⟩ u0).setCell ⟨g, 1, none⟩ u1).setCell ⟨g, 2, none⟩ u2) g u0 u1 u2 := by
  obtain ⟨c0, c1, c2, f0, f1, f2, z⟩ := b
  constructor <;> (first | (simp (maxDischargeDepth := 20) [go_sem, *]; done) | (simp; omega))
end
section
variable {w w' : World} {g h : Nat} {v0 v1 v2 v3 u0 u1 u2 u3 : Value}
end
section
variable {w w' : World} {g h : Nat} {v0 v1 v2 v3 v4 u0 u1 u2 u3 u4 : Value}
end
structure Box6 (w : World) (g : Nat) (v0 v1 v2 v3 v4 v5 : Value) : Prop where
  c0 : w.cell? ⟨g, 0, none⟩ = some v0
  c1 : w.cell? ⟨g, 1, none⟩ = some v1
  c2 : w.cell? ⟨g, 2, none⟩ = some v2
  c3 : w.cell? ⟨g, 3, none⟩ = some v3
  c4 : w.cell? ⟨g, 4, none⟩ = some v4
  c5 : w.cell? ⟨g, 5, none⟩ = some v5
  f0 : w.frozen? ⟨g, 0, none⟩ = false
  f1 : w.frozen? ⟨g, 1, none⟩ = false
  f2 : w.frozen? ⟨g, 2, none⟩ = false
  f3 : w.frozen? ⟨g, 3, none⟩ = false
  f4 : w.frozen? ⟨g, 4, none⟩ = false
  f5 : w.frozen? ⟨g, 5, none⟩ = false
  z : g < w.heap.size
section
variable {w w' : World} {g h : Nat} {v0 v1 v2 v3 v4 v5 u0 u1 u2 u3 u4 u5 : Value}
theorem Box6.below (b : Box6 w g v0 v1 v2 v3 v4 v5) (q : Below w.heap.size w w') : Box6 w' g v0 v1 v2 v3 v4 v5 :=
  ⟨(q.cell b.z).trans b.c0, (q.cell b.z).trans b.c1, (q.cell b.z).trans b.c2, (q.cell b.z).trans b.c3, (q.cell b.z).trans b.c4, (q.cell b.z).trans b.c5, (q.frozen b.z).trans b.f0, (q.frozen b.z).trans b.f1, (q.frozen b.z).trans b.f2, (q.frozen b.z).trans b.f3, (q.frozen b.z).trans b.f4, (q.frozen b.z).trans b.f5, Nat.lt_of_lt_of_le b.z q.size⟩
theorem Box6.make (w : World) (v0 v1 v2 v3 v4 v5 : Value) (T : TypeId) {g : Nat} (hg : g = w.heap.size) : Box6 (w.alloc (.cells #[v0, v1, v2, v3, v4, v5] T)) g v0 v1 v2 v3 v4 v5 := by
  subst hg; constructor <;> simp (maxDischargeDepth := 12) [go_sem]
theorem Box6.alloc (b : Box6 w g v0 v1 v2 v3 v4 v5) (o : Obj) : Box6 (w.alloc o) g v0 v1 v2 v3 v4 v5 := b.below ((Below.refl _ _).alloc (Nat.le_refl _) _)
theorem Box6.drew (b : Box6 w g v0 v1 v2 v3 v4 v5) : Box6 w.drew g v0 v1 v2 v3 v4 v5 := b.below (Below.refl _ _).drew
theorem Box6.drewN (b : Box6 w g v0 v1 v2 v3 v4 v5) (k : Nat) : Box6 (w.drewN k) g v0 v1 v2 v3 v4 v5 := b.below (below_drewN (Below.refl _ _) k)
theorem Box6.other (b : Box6 w g v0 v1 v2 v3 v4 v5) (hne : h ≠ g) (j : Nat) (u : Value) : Box6 (w.setCell ⟨h, j, none⟩ u) g v0 v1 v2 v3 v4 v5 := by
  obtain ⟨c0, c1, c2, c3, c4, c5, f0, f1, f2, f3, f4, f5, z⟩ := b
  have hn : g ≠ h := fun e => hne e.symm
  constructor <;> (first | (simp (maxDischargeDepth := 12) [go_sem, *]; done) | (simp; omega))
theorem Box6.set (b : Box6 w g v0 v1 v2 v3 v4 v5) : Box6 ((((((w.setCell ⟨g, 0, none⟩ u0).setCell ⟨g, 1, none⟩ u1).setCell ⟨g, 2, none⟩ u2).setCell ⟨g, 3, none⟩ u3).setCell ⟨g, 4, none⟩ u4).setCell ⟨g, 5, none⟩ u5) g u0 u1 u2 u3 u4 u5 := by
  obtain ⟨c0, c1, c2, c3, c4, c5, f0, f1, f2, f3, f4, f5, z⟩ := b
  constructor <;> (first | (simp (maxDischargeDepth := 20) [go_sem, *]; done) | (simp; omega))
end
section
variable {w w' : World} {g h : Nat} {v0 v1 v2 v3 v4 v5 v6 u0 u1 u2 u3 u4 u5 u6 : Value}
end
section
variable {w w' : World} {g h : Nat} {v0 v1 v2 v3 v4 v5 v6 v7 u0 u1 u2 u3 u4 u5 u6 u7 : Value}
end
section
variable {w w' : World} {g h : Nat} {v0 v1 v2 v3 v4 v5 v6 v7 v8 u0 u1 u2 u3 u4 u5 u6 u7 u8 : Value}
end
section
variable {w w' : World} {g h : Nat} {v0 v1 v2 v3 v4 v5 v6 v7 v8 v9 u0 u1 u2 u3 u4 u5 u6 u7 u8 u9 : Value}
end
section
variable {w w' : World} {g h : Nat} {v0 v1 v2 v3 v4 v5 v6 v7 v8 v9 v10 u0 u1 u2 u3 u4 u5 u6 u7 u8 u9 u10 : Value}
end
open Go.RowKit
theorem strN_data (l : List Nat) : (strN l).data.toList = l.map UInt8.ofNat := by simp [strN]
theorem ofNat_inj {a b : Nat} (ha : a < 256) (hb : b < 256) (h : UInt8.ofNat a = UInt8.ofNat b) : a = b := by
  have := congrArg UInt8.toNat h
  simpa [UInt8.toNat_ofNat', Nat.mod_eq_of_lt ha, Nat.mod_eq_of_lt hb] using this
theorem strN_inj {a b : List Nat} (ha : ∀ x ∈ a, x < 256) (hb : ∀ x ∈ b, x < 256) (h : strN a = strN b) : a = b := by
  have h2 : a.map UInt8.ofNat = b.map UInt8.ofNat := by rw [← strN_data, ← strN_data, h]
  induction a generalizing b with
  | nil => cases b with
    | nil => rfl
    | cons y b => simp at h2
  | cons x a ih => cases b with
    | nil => simp at h2
    | cons y b =>
      simp only [List.map_cons, List.cons.injEq] at h2
      have e := ofNat_inj (ha x (List.mem_cons_self ..)) (hb y (List.mem_cons_self ..)) h2.1
      subst e
      have := ih (fun z hz => ha z (List.mem_cons_of_mem _ hz)) (b := b) (fun z hz => hb z (List.mem_cons_of_mem _ hz)) (by unfold strN; rw [h2.2]) h2.2
      rw [this]
open Go.RowKit
structure Upd (g : Nat) (row : Option Nat) (w w' : World) : Prop where
  os : w'.os = w.os
  tape : w'.tape = w.tape
  output : w'.output = w.output
  size : w.heap.size ≤ w'.heap.size
  block : ∀ k, k < w.heap.size → k ≠ g → some k ≠ row → w'.heap[k]? = w.heap[k]?
section
variable {w w' w'' : World} {g : Nat} {row row' : Option Nat}
theorem Upd.refl (g : Nat) (row : Option Nat) (w : World) : Upd g row w w := ⟨rfl, rfl, rfl, Nat.le_refl _, fun _ _ _ _ => rfl⟩
theorem Upd.of_below (q : Below w.heap.size w w') : Upd g row w w' := ⟨q.os, q.tape, q.output, q.size, fun k hk _ _ => q.block k hk⟩
theorem Upd.trans (h : Upd g row w w') (k : Upd g row' w' w'') (hr : ∀ r, row' = some r → row = some r ∨ w.heap.size ≤ r) : Upd g row w w'' :=
  ⟨k.os.trans h.os, k.tape.trans h.tape, k.output.trans h.output, Nat.le_trans h.size k.size, fun i hi h1 h2 =>
    (k.block i (Nat.lt_of_lt_of_le hi h.size) h1 (fun e => by rcases hr i e.symm with h3 | h3; exact h2 h3.symm; omega)).trans (h.block i hi h1 h2)⟩
theorem Upd.trans_same (h : Upd g row w w') (k : Upd g row w' w'') : Upd g row w w'' := h.trans k fun _ e => .inl e
theorem Upd.next (h : Upd g row w w') (q : Below w'.heap.size w' w'') : Upd g row w w'' := h.trans_same (.of_below q)
theorem Upd.put (h : Upd g row w w') (j : Nat) (u : Value) : Upd g row w (w'.setCell ⟨g, j, none⟩ u) := by
  refine h.trans_same ⟨rfl, rfl, rfl, by simp, fun k _ hk _ => Below.heap_setCell w' _ u k hk⟩
theorem Upd.fresh (h : Upd g row w w') {b : Nat} (hb : w.heap.size ≤ b) (j : Nat) (u : Value) : Upd g row w (w'.setCell ⟨b, j, none⟩ u) :=
  ⟨h.os, h.tape, h.output, by simp; exact h.size, fun k hk h1 h2 => (Below.heap_setCell w' _ u k (by show k ≠ b; omega)).trans (h.block k hk h1 h2)⟩
theorem Upd.alloc (h : Upd g row w w') (o : Obj) : Upd g row w (w'.alloc o) := h.next ((Below.refl _ _).alloc (Nat.le_refl _) _)
theorem Upd.drew (h : Upd g row w w') : Upd g row w w'.drew := h.next (Below.refl _ _).drew
theorem Upd.drewN (h : Upd g row w w') (n : Nat) : Upd g row w (w'.drewN n) := h.next (below_drewN (Below.refl _ _) n)
theorem Upd.below (h : Upd g row w w') {B : Nat} (hB : B ≤ w.heap.size) (hg : B ≤ g) (hr : ∀ r, row = some r → B ≤ r) : Below B w w' :=
  ⟨h.os, h.tape, h.output, h.size, fun k hk => h.block k (by omega) (by omega) (fun e => by have := hr k e.symm; omega)⟩
theorem Upd.reads (h : Upd g row w w') {B s n : Nat} {A : Option Addr} {xs : List Value} (r : Reads w B s A n xs) (hB : B ≤ w.heap.size) (hg : B ≤ g) (hr : ∀ r, row = some r → B ≤ r) : Reads w' B s A n xs := r.below (h.below hB hg hr)
theorem Upd.own (h : Upd g row w w') {base : Nat} {v : Value} {bs : List Nat} (o : OB w base v bs) (hg : g < base) (hr : v.ownBlock = none ∨ v.ownBlock ≠ row) : OB w' base v bs := by
  obtain ⟨hb, hl, h0 | ⟨k, cap, cur, rfl, hbk, hk, rest⟩⟩ := o
  · exact ⟨hb, hl, .inl h0⟩
  · refine ⟨hb, hl, .inr ⟨k, cap, cur, rfl, hbk, ?_, rest⟩⟩
    rw [h.block k (Array.getElem?_eq_some_iff.1 hk).1 (by omega) (by simpa [Value.ownBlock] using hr)]
    exact hk
theorem Upd.cell (h : Upd g row w w') {k j : Nat} (hk : k < w.heap.size) (h1 : k ≠ g) (h2 : some k ≠ row) : w'.cell? ⟨k, j, none⟩ = w.cell? ⟨k, j, none⟩ := World.cell?_of_block (h.block k hk h1 h2)
theorem Upd.frozen (h : Upd g row w w') {k j : Nat} (hk : k < w.heap.size) (h1 : k ≠ g) (h2 : some k ≠ row) : w'.frozen? ⟨k, j, none⟩ = w.frozen? ⟨k, j, none⟩ := World.frozen?_of_block (h.block k hk h1 h2)
end
section
variable {P : Program} {ops : Array Oper} {Q : Exit → Act → World → Prop} {md : Region.Mode} {S : World → Prop}
theorem lit_at {i : Nat} {oi : Oper} (h : (ops.toList.drop i).head? = some oi) : ops[i]? = some oi := by
  rw [List.head?_drop] at h
  simpa using h
theorem h4_take {i : Nat} {oi : Oper} {v : Value} {fuel : Nat} {listed : Array Bool} {a : Act} {w : World} (hi : (ops.toList.drop i).head? = some oi)
    (hs : Region.noSelect ops = true) (hf : Region.free md ops listed i = true) (hr : (Region.ready md ops listed).contains i = true)
    (hQ : ∀ c a w, Q (.panic c) (a.put oi.dst v) w → Q (.panic c) a w) (hw : Region.wanted oi (yielded ops a.tmps) = true) (hy : ∀ w, S w → (execOp a.eval oi).run P w = .ok (.value v) w) (hS : S w)
    (h : wpAnyH P md ops Q S fuel (listed.setIfInBounds i true) (a.put oi.dst v) w) : wpAnyH P md ops Q S (fuel + 1) listed a w :=
  wpAnyH_take (lit_at hi) hs hf hr hQ (.inl ⟨hw, hy⟩) hS h
theorem h4_cons {fuel : Nat} {listed : Array Bool} {a : Act} {w : World} {i : Nat} {o : Oper} {rs : List Nat} (ho : (ops.toList.drop i).head? = some o)
    (h : ∀ K' : Act → World → Prop, Shut (∀ a w, S w → (S w → wpAnyH P md ops Q S fuel (listed.setIfInBounds i true) a w) → K' a w) → if Region.wanted o (yielded ops a.tmps) = true then Oper.wp P o a w K' Q else K' (a.put o.dst undef) w)
    (hs : AllReadyH P md ops Q S fuel listed a w rs) : AllReadyH P md ops Q S fuel listed a w (i :: rs) :=
  AllReadyH.cons (lit_at ho) h hs
def wpHp (P : Program) (md : Region.Mode) (ops : Array Oper) (Q : Exit → Act → World → Prop) (S : World → Prop) (_ : List Nat) (fuel : Nat) (listed : Array Bool) (a : Act) (w : World) : Prop := wpAnyH P md ops Q S fuel listed a w
def ck4 (md : Region.Mode) (ops : Array Oper) (listed : Array Bool) (i : Nat) : Bool := Region.noSelect ops && Region.free md ops listed i && (Region.ready md ops listed).contains i
theorem h4_b {fuel : Nat} {listed : Array Bool} {a : Act} {w : World} (l : List Nat) (h : wpHp P md ops Q S l fuel listed a w) : wpAnyH P md ops Q S fuel listed a w := h
theorem h4_e {fuel : Nat} {listed : Array Bool} {a : Act} {w : World} (h : wpAnyH P md ops Q S fuel listed a w) : wpHp P md ops Q S [] fuel listed a w := h
theorem h4_p {i : Nat} {l : List Nat} {oi : Oper} {v : Value} {fuel : Nat} {listed : Array Bool} {a : Act} {w : World} (hi : (ops.toList.drop i).head? = some oi) (hk : ck4 md ops listed i = true)
    (hQ : ∀ c a w, Q (.panic c) (a.put oi.dst v) w → Q (.panic c) a w) (hw : Region.wanted oi (yielded ops a.tmps) = true) (hS : S w) (hy : ∀ w, S w → (execOp a.eval oi).run P w = .ok (.value v) w)
    (h : wpHp P md ops Q S l fuel (listed.setIfInBounds i true) (a.put oi.dst v) w) : wpHp P md ops Q S (i :: l) (fuel + 1) listed a w := by
  unfold ck4 at hk
  simp only [Bool.and_eq_true] at hk
  exact h4_take hi hk.1.1 hk.1.2 hk.2 hQ hw hy hS h
end
end Go.Proofs.Ythipoccbeloceaa
