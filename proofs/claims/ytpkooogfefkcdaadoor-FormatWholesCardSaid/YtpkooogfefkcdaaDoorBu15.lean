/- Several texts put together: FwhA, Strs, FwhB, FmtV. -/
import Derived.Test.YtpkooogfefkcdaaDoorBu3
import Derived.IntWalk
import Derived.Test.YtpkooogfefkcdaaDoorBu1
import Derived.Laws.AppendOwnNone
import Derived.Below
import Derived.Laws.IdiomStrings
import Derived.Test.YtpkooogfefkcdaaDoorBu2
import Derived.Test.YtpkooogfefkcdaaDoorBu14
/- fieldfarelaw08.value: what digits of a base tell. -/
namespace Go.Proofs.YtpkooogfefkcdaaDoor
open Go.RowKit
def hexN (c : Nat) : Nat := if 48 ≤ c ∧ c ≤ 57 then c - 48 else if 97 ≤ c ∧ c ≤ 102 then c - 87 else c - 55
def isHex (c : Nat) : Prop := (48 ≤ c ∧ c ≤ 57) ∨ (97 ≤ c ∧ c ≤ 102) ∨ (65 ≤ c ∧ c ≤ 70)
def natV (b : Nat) (l : List Nat) : Nat := l.foldl (fun v c => b * v + hexN c) 0
theorem natV_snoc (b : Nat) (l : List Nat) (c : Nat) : natV b (l ++ [c]) = b * natV b l + hexN c := by unfold natV; rw [List.foldl_append]; rfl
theorem natV_take (b : Nat) (l : List Nat) (j : Nat) (hj : j < l.length) : natV b (l.take (j + 1)) = b * natV b (l.take j) + hexN l[j] := by
  rw [List.take_add_one, List.getElem?_eq_getElem hj]
  exact natV_snoc _ _ _
theorem natV_le (b : Nat) (hb : 0 < b) (l : List Nat) (j : Nat) : natV b (l.take j) ≤ natV b l := by
  have h : ∀ d, j + d ≤ l.length → natV b (l.take j) ≤ natV b (l.take (j + d)) := by
    intro d
    induction d with
    | zero => intro _; exact Nat.le_refl _
    | succ d ih =>
      intro h
      refine Nat.le_trans (ih (by omega)) ?_
      rw [← Nat.add_assoc, natV_take b l (j + d) (by omega)]
      exact Nat.le_trans (Nat.le_mul_of_pos_left _ hb) (Nat.le_add_right _ _)
  rcases Nat.le_total j l.length with hj | hj
  · have := h (l.length - j) (by omega)
    rwa [show j + (l.length - j) = l.length by omega, List.take_length] at this
  · rw [List.take_of_length_le hj]; exact Nat.le_refl _
set_option maxRecDepth 100000 in
set_option maxHeartbeats 3200000 in
theorem value_any (b : Nat) (hb : 0 < b) (hb2 : b ≤ 16) (L : List Nat) (hL : ∀ x ∈ L, isHex x) (hl : L.length ≤ 1000000) (hv : natV b L < 18446744073709551616) (w : World) :
    Calls Tryd.prog 13 #[.string (strN L), .int .u64 (b : Int)] w fun e w' => e = .returned (.int .u64 (natV b L : Int)) ∧ w' = w := by
  have hL8 : ∀ x ∈ L, x < 256 := fun x hx => by have := hL x hx; unfold isHex at this; omega
  have hsz := strN_size L
  have HB8 := Lib.hid hL8
  clear hL8
  go_enter Tryd.func13, Tryd.ntmps13
  go_wp2_with fail
  go_loopw [5, 6] (fun v i wr => ∃ j : Nat, v = .int .u64 (natV b (L.take j) : Int) ∧ i = .int .i64 (j : Int) ∧ j ≤ L.length ∧ wr = w) (fun _ i _ => L.length - (intOf i).toNat)
  case atStart => exact ⟨0, rfl, by go_num, Nat.zero_le _, rfl⟩
  case round =>
    obtain ⟨j, rfl, rfl, hj, rfl⟩ := hrel
    by_cases hlt : j < L.length
    · have hq := get_at HB8.out j hlt (by rw [hsz]; exact hlt)
      have hx := hL _ (List.getElem_mem hlt)
      have hst := natV_take b L j hlt
      have hle := natV_le b hb L (j + 1)
      have hst2 : (b : Int) * ((natV b (L.take j) : Nat) : Int) = ((b * natV b (L.take j) : Nat) : Int) := by push_cast; rfl
      generalize b * natV b (L.take j) = q at *
      generalize natV b (L.take j) = v0 at *
      unfold hexN at hst
      generalize hc : L[j] = x at hq hx hst
      unfold isHex at hx
      have hw1 : IntKind.u64.wrap (x : Int) = (x : Int) := by rw [IntKind.wrap_u64]; omega
      rcases hx with hx | hx | hx
      · have i1 : (48 : Int) ≤ (x : Int) := by omega
        have i2 : (x : Int) ≤ 57 := by omega
        rw [if_pos hx] at hst
        go_wp2_with fail
        go_roundw
        case rel => exact ⟨j + 1, by rw [hst]; go_num, by go_num, by omega, trivial⟩
        case measure => simp [intOf]; omega
      · have i1 : (48 : Int) ≤ (x : Int) := by omega
        have i2 : ¬(x : Int) ≤ 57 := by omega
        have i3 : (97 : Int) ≤ (x : Int) := by omega
        have i4 : (x : Int) ≤ 102 := by omega
        rw [if_neg (by omega), if_pos hx] at hst
        go_wp2_with fail
        go_roundw
        case rel => exact ⟨j + 1, by rw [hst]; go_num, by go_num, by omega, trivial⟩
        case measure => simp [intOf]; omega
      · have i1 : (48 : Int) ≤ (x : Int) := by omega
        have i2 : ¬(x : Int) ≤ 57 := by omega
        have i3 : ¬(97 : Int) ≤ (x : Int) := by omega
        rw [if_neg (by omega), if_neg (by omega)] at hst
        go_wp2_with fail
        go_roundw
        case rel => exact ⟨j + 1, by rw [hst]; go_num, by go_num, by omega, trivial⟩
        case measure => simp [intOf]; omega
    · obtain rfl : j = L.length := by omega
      go_wp2_with fail
      go_ret
      rw [List.take_length]
      exact ⟨rfl, rfl⟩
end Go.Proofs.YtpkooogfefkcdaaDoor

/- Slices of strings: as lists; those that a call has made: appending to them. -/
namespace Go.Proofs.YtpkooogfefkcdaaDoor
open Go.RowKit
/-- A slice of strings reads as a list, below block B. -/
def RT (w : World) (B : Nat) (A : Option Addr) (bs : List (List Nat)) : Prop :=
  (0 < bs.length → ∃ ad, A = some ad ∧ ad.block < B ∧ ∀ j (h : j < bs.length), w.cell? (ad.add j) = some (.string (strN bs[j])))
section
variable {w w' : World} {B B' : Nat} {A : Option Addr} {bs : List (List Nat)}
theorem RT.keep (h : RT w B A bs) (hk : ∀ p : Addr, p.block < B → w'.cell? p = w.cell? p) : RT w' B A bs :=
  fun hn => by
    obtain ⟨ad, e, hb, hc⟩ := h hn
    exact ⟨ad, e, hb, fun j hj => (hk _ (by rw [block_of_add]; exact hb)).trans (hc j hj)⟩
theorem RT.below (h : RT w B A bs) (hb : Below B w w') : RT w' B A bs := h.keep fun _ hp => hb.cell hp
theorem RT.more (h : RT w B A bs) (hB : B ≤ B') : RT w B' A bs :=
  fun hn => by
    obtain ⟨ad, e, hb, hc⟩ := h hn
    exact ⟨ad, e, by omega, hc⟩
theorem RT.cut (h : RT w B A bs) {k cap : Nat} (hc : bs.length ≤ cap) : RT w B (if cap = k then A else A.map (·.add k)) (bs.drop k) := by
  intro hn
  rw [List.length_drop] at hn
  obtain ⟨ad, rfl, hb, hcell⟩ := h (by omega)
  rw [if_neg (by omega)]
  refine ⟨ad.add k, rfl, by rw [block_of_add]; exact hb, fun j hj => ?_⟩
  rw [List.length_drop] at hj
  rw [add_of_add, List.getElem_drop]
  exact hcell (k + j) (by omega)
theorem RT.take (h : RT w B A bs) (k : Nat) : RT w B A (bs.take k) := by
  intro hn
  rw [List.length_take] at hn
  obtain ⟨ad, e, hb, hcell⟩ := h (by omega)
  refine ⟨ad, e, hb, fun j hj => ?_⟩
  rw [List.length_take] at hj
  rw [List.getElem_take]
  exact hcell j (by omega)
theorem RT.nil : RT w B A [] := by intro h; simp at h
end
theorem rt_of {w : World} {B b : Nat} {bs : List (List Nat)} (h : b < B) (hc : ∀ j (h : j < bs.length), w.cell? ⟨b, j, none⟩ = some (.string (strN bs[j]))) : RT w B (some ⟨b, 0, none⟩) bs := by
  refine fun _ => ⟨_, rfl, h, fun j hj => ?_⟩
  have : (⟨b, 0, none⟩ : Addr).add j = ⟨b, j, none⟩ := by unfold Addr.add; split <;> simp_all
  rw [this]; exact hc j hj
def tnums (bs : List (List Nat)) : Array Value := (bs.map fun x => Value.string (strN x)).toArray
theorem rt_row (w : World) (bs : List (List Nat)) (t : TypeId) (f : Nat × Nat) : RT (w.alloc (.cells (tnums bs) t f)) (w.heap.size + 1) (some ⟨w.heap.size, 0, none⟩) bs := by
  refine rt_of (by omega) fun j hj => ?_
  rw [World.cell?_alloc_mark]
  simp [tnums, hj]
def sv (x : List Nat) : Value := .string (strN x)
/-- The value v is a slice that owns its row, which holds strings. -/
def OT (w : World) (base : Nat) (v : Value) (bs : List (List Nat)) : Prop := w.ownsRow base 9 1 v bs.length (bs.map sv)
theorem OT.slice {w : World} {base : Nat} {v : Value} {bs : List (List Nat)} (h : OT w base v bs) :
    ∃ (A : Option Addr) (c : Nat), v = .slice A bs.length c ∧ bs.length ≤ c ∧ RT w w.heap.size A bs ∧ (A = none → bs = [] ∧ c = 0) := by
  obtain ⟨hl, h | ⟨g, cap, cur, hv, hg, hh, hn, hm, hs, ht⟩⟩ := h
  · obtain ⟨rfl, h0⟩ := h
    refine ⟨none, 0, by rw [h0], by omega, ?_, fun _ => ⟨List.length_eq_zero_iff.1 h0, rfl⟩⟩
    rw [List.length_eq_zero_iff.1 h0]; exact RT.nil
  · refine ⟨some ⟨g, 0, none⟩, cap, hv, hn, ?_, fun e => by cases e⟩
    have hlt : g < w.heap.size := by
      rcases Nat.lt_or_ge g w.heap.size with h | h
      · exact h
      · rw [Array.getElem?_eq_none h] at hh; cases hh
    refine rt_of hlt fun j hj => ?_
    rw [cell_of_row w g j cur 9 (0, 0) hh]
    have : (cur.toList.take (bs.length * 1))[j]? = (bs.map sv)[j]? := by rw [ht]
    rw [List.getElem?_take, if_pos (by omega), List.getElem?_map, List.getElem?_eq_getElem hj] at this
    simpa [sv] using this
theorem OT.kept {w w' : World} {base : Nat} {v : Value} {bs : List (List Nat)} {row : Option Nat} (h : OT w base v bs) (hg : w.grownBy w' row) (hne : v.ownBlock = none ∨ v.ownBlock ≠ row) : OT w' base v bs := World.ownsRow.kept h hg hne
theorem OT.alloc {w : World} {base : Nat} {v : Value} {bs : List (List Nat)} (h : OT w base v bs) (o : Obj) : OT (w.alloc o) base v bs := World.ownsRow.alloc h o
theorem OT.nil (w : World) (base : Nat) : OT w base (.slice none 0 0) [] := World.ownsRow_nil _ _ _ _
theorem OT.setCell {w : World} {base : Nat} {v : Value} {bs : List (List Nat)} (h : OT w base v bs) {a : Addr} (ha : a.block < base) (u : Value) : OT (w.setCell a u) base v bs := ownsRow_setCell_below h ha u
theorem OT.drew {w : World} {base : Nat} {v : Value} {bs : List (List Nat)} (h : OT w base v bs) : OT w.drew base v bs := World.ownsRow.kept (row := none) h ⟨rfl, rfl, rfl, Nat.le_refl _, fun _ _ _ => rfl⟩ (by cases v.ownBlock <;> simp)
theorem OT.lit (w : World) (bs : List (List Nat)) {base : Nat} (hB : base ≤ w.heap.size) (hl : bs.length ≤ maxLen) : OT (w.alloc (.cells (tnums bs) 9)) base (.slice (some ⟨w.heap.size, 0, none⟩) bs.length bs.length) bs :=
  by have := World.ownsRow_lit (e := 9) (size := 1) w (tnums bs) bs.length hB hl (by simp [tnums]); exact this
theorem OT.block {w : World} {base : Nat} {v : Value} {bs : List (List Nat)} (h : OT w base v bs) : ∀ k, v.ownBlock = some k → base ≤ k ∧ k < w.heap.size := World.ownsRow.lt h
theorem info_str : (Tryd.prog.info? 9).map (fun i => (i.zero, i.size, i.bytes)) = some (some (.string { data := #[] }), 1, 16) := by kernel_rfl
/-- append(v, x...) of strings, to a slice of the call's own. -/
theorem wpList_appT {w : World} {ops : Array Oper} {rest : List Oper} {o : Oper} {a : Act} {Q : Exit → Act → World → Prop} (hgd : o.guard = none) (s x : Operand)
    (ho : o.op = .call { callee := .builtin .append, args := #[s, x], argTypes := #[39, 39] }) (base : Nat) (hbase : base ≤ w.heap.size) (v : Value) (bs : List (List Nat)) (hs : a.eval s = v) (hown : OT w base v bs)
    (A : Option Addr) (m c : Nat) (cs : List (List Nat)) (B : Nat) (hx : a.eval x = .slice A m c) (hm : cs.length = m) (hA : A = none → cs = [] ∧ c = 0) (hr : RT w B A cs) (hlen : bs.length + cs.length ≤ 1000000)
    (h : ∀ v' w', OT w' base v' (bs ++ cs) → w.grownBy w' v.ownBlock → wpList Tryd.prog ops Q rest (a.put o.dst v') w') : wpList Tryd.prog ops Q (o :: rest) a w := by
  obtain ⟨i0, hi, hz0, hz1, hz2⟩ := info_parts info_str
  subst hm
  cases A with
  | none =>
    obtain ⟨rfl, rfl⟩ := hA rfl
    refine wpList_append_own_none hgd s x 39 ho base 9 i0 1 Tryd.underlying39 hi v bs.length (bs.map sv) hs hown hx ?_
    refine h v w (by rw [List.append_nil]; exact hown) ⟨rfl, rfl, rfl, Nat.le_refl _, fun _ _ _ => rfl⟩
  | some ad =>
    refine wpList_append_own w hgd s x 39 ho base 9 i0 (.string { data := #[] }) 1 16 Tryd.underlying39 hi hz0 hz1 hz2 rfl (by decide) v bs.length (bs.map sv) hs hown ad cs.length c (cs.map sv) hx (by simp) ?_ ?_ (by unfold maxLen; omega) (by omega) hbase ?_
    · intro j u hu
      rw [List.getElem?_map] at hu
      rcases Nat.lt_or_ge j cs.length with hj | hj
      · obtain ⟨ad', e, _, hc⟩ := hr (by omega)
        cases e
        rw [hc j hj]
        rw [List.getElem?_eq_getElem hj] at hu
        exact hu
      · rw [List.getElem?_eq_none hj] at hu; cases hu
    · intro u hu
      obtain ⟨y, _, rfl⟩ := List.mem_map.1 hu
      rfl
    · intro v' w' hown' hg _
      exact h v' w' (by unfold OT; rw [List.length_append, List.map_append]; exact hown') hg
theorem OT.below {w w' : World} {base B : Nat} {v : Value} {bs : List (List Nat)} {W : World} (h : OT w base v bs) (hg : w.grownBy w' v.ownBlock) (hb : Below B W w) (hB : B ≤ base) (hbase : B ≤ w.heap.size) : Below B W w' :=
  hb.grown hg hbase fun k hk => Nat.le_trans hB (h.block k hk).1
theorem OT.apart {w w' : World} {base b : Nat} {v v' : Value} {bs bs' : List (List Nat)} (h : OT w base v bs) (h' : OT w' b v' bs') (hb : w.heap.size ≤ b) : v.ownBlock = none ∨ v.ownBlock ≠ v'.ownBlock := by
  cases e : v.ownBlock with
  | none => exact .inl rfl
  | some k =>
    right
    intro e2
    have h1 := h.block k e
    have h2 := h'.block k e2.symm
    omega
theorem OT.mono {w : World} {base base' : Nat} {v : Value} {bs : List (List Nat)} (h : OT w base v bs) (hb : base' ≤ base) : OT w base' v bs := by
  obtain ⟨h2, h3 | ⟨g, cap, cur, e, hg, hr⟩⟩ := h
  · exact ⟨h2, .inl h3⟩
  · exact ⟨h2, .inr ⟨g, cap, cur, e, Nat.le_trans hb hg, hr⟩⟩
end Go.Proofs.YtpkooogfefkcdaaDoor

/- fieldfarelaw08.parts: what stands between blanks. -/
namespace Go.Proofs.YtpkooogfefkcdaaDoor
open Go.RowKit
def partsG : List Nat → List Nat → List (List Nat)
  | cur, [] => [cur]
  | cur, c :: r => if c = 32 then cur :: partsG [] r else partsG (cur ++ [c]) r
theorem partsG_len : ∀ (cur l : List Nat), (partsG cur l).length ≤ l.length + 1
  | cur, [] => by simp [partsG]
  | cur, c :: r => by
    unfold partsG
    split
    · have := partsG_len [] r; simp only [List.length_cons]; omega
    · have := partsG_len (cur ++ [c]) r; simp only [List.length_cons]; omega
theorem partsG_app : ∀ (a cur l : List Nat), (∀ x ∈ a, x ≠ 32) → partsG cur (a ++ 32 :: l) = (cur ++ a) :: partsG [] l
  | [], cur, l, _ => by simp [partsG]
  | x :: a, cur, l, h => by
    rw [List.cons_append, partsG, if_neg (h x (by simp)), partsG_app a (cur ++ [x]) l fun y hy => h y (by simp [hy])]
    simp
theorem partsG_end : ∀ (a cur : List Nat), (∀ x ∈ a, x ≠ 32) → partsG cur a = [cur ++ a]
  | [], cur, _ => by simp [partsG]
  | x :: a, cur, h => by
    rw [partsG, if_neg (h x (by simp)), partsG_end a (cur ++ [x]) fun y hy => h y (by simp [hy])]
    simp
set_option maxRecDepth 100000 in
set_option maxHeartbeats 3200000 in
theorem parts_any (L : List Nat) (hL : ∀ x ∈ L, x < 256) (hl : L.length ≤ 10000) (w : World) :
    Calls Tryd.prog 12 #[.string (strN L)] w fun e w' => (∃ v, e = .returned v ∧ OT w' w.heap.size v (partsG [] L)) ∧ Below w.heap.size w w' := by
  have hsz := strN_size L
  have HB8 := Lib.hid hL
  have HP := Lib.hid (rfl : partsG [] L = partsG [] L)
  obtain ⟨R, hR⟩ : ∃ R, partsG [] L = R := ⟨_, rfl⟩
  have hRl : R.length ≤ 10001 := by have := partsG_len [] L; rw [hR] at this; omega
  have HR := Lib.hid hR
  rw [hR]
  clear hL HP hR
  go_enter Tryd.func12, Tryd.ntmps12
  go_wp2_with fail
  go_loopw [3, 4, 5] (fun o t i wr => ∃ (j : Nat) (ps : List (List Nat)) (cur : List Nat), t = .string (strN cur) ∧ i = .int .i64 (j : Int) ∧ j ≤ L.length ∧ cur.length ≤ j ∧ Hid (OT wr w.heap.size o ps) ∧ Hid (ps ++ partsG cur (L.drop j) = R) ∧ Hid (Below w.heap.size w wr)) (fun _ _ i _ => L.length - (intOf i).toNat)
  case atStart => exact ⟨0, [], [], rfl, by go_num, Nat.zero_le _, Nat.le_refl _, Lib.hid (OT.nil _ _), Lib.hid (by rw [List.nil_append, List.drop_zero]; exact HR.out), Lib.hid (Below.refl _ _)⟩
  case round =>
    obtain ⟨j, ps, cur, rfl, rfl, hj, hcur, HO, HPS, HBW⟩ := hrel
    have hcs := strN_size cur
    have hzw := HBW.out.size
    have hpl : ps.length ≤ R.length := by have := congrArg List.length HPS.out; rw [List.length_append] at this; omega
    by_cases hlt : j < L.length
    · have hq := get_at HB8.out j hlt (by rw [hsz]; exact hlt)
      have hdr : L.drop j = L[j] :: L.drop (j + 1) := List.drop_eq_getElem_cons hlt
      have hps := HPS.out
      rw [hdr, partsG] at hps
      by_cases hc : L[j] = 32
      · have hq2 : (((L[j] : Nat) : Int) == 32) = true := by rw [hc]; rfl
        rw [if_pos hc] at hps
        have HPS := Lib.hid hps
        have HO1 := Lib.hid (HO.out.alloc (.cells #[.string (strN cur)] 9))
        have HBA := Lib.hid (HBW.out.alloc hzw (.cells #[.string (strN cur)] 9))
        clear hps hdr
        go_wp2_with (first
          | (at_builtin; refine wpList_appT rfl (.tmp 16) (.tmp 18) rfl w.heap.size (by simp; omega) _ ps rfl HO1.out (some ⟨wr.heap.size, 0, none⟩) 1 1 [cur] _ rfl rfl (by intro e; cases e) (rt_row wr [cur] _ _) (by simp; omega) ?_; intro v2 w5 ho5 hg5; have HB5 := Lib.hid (HO1.out.below hg5 HBA.out (Nat.le_refl _) (by simp; omega)); have HO5 := Lib.hid ho5; clear ho5 hg5)
          | fail)
        go_roundw
        case rel => exact ⟨j + 1, ps ++ [cur], [], rfl, by go_num, by omega, by simp, HO5, Lib.hid (by rw [List.append_assoc]; exact HPS.out), HB5⟩
        case measure => simp [intOf]; omega
      · have hq2 : (((L[j] : Nat) : Int) == 32) = false := by simp; omega
        rw [if_neg hc] at hps
        have HPS := Lib.hid hps
        have hsl : (strN L).extract j (j + 1) = strN [L[j]] := by
          rw [strN_extract]
          congr 1
          rw [List.take_add_one, List.getElem?_eq_getElem hlt, List.drop_append, List.length_take, Nat.min_eq_left hj, Nat.sub_self]
          simp
        have hs1 : (strN [L[j]]).size = 1 := strN_size _
        have happ : strN cur ++ strN [L[j]] = strN (cur ++ [L[j]]) := strN_app _ _
        clear hps hdr
        go_wp2_with fail
        go_roundw
        case rel => exact ⟨j + 1, ps, cur ++ [L[j]], rfl, by go_num, by omega, by simp; omega, HO, HPS, HBW⟩
        case measure => simp [intOf]; omega
    · obtain rfl : j = L.length := by omega
      have hps := HPS.out
      rw [List.drop_length, partsG] at hps
      have HPS := Lib.hid hps
      have HO1 := Lib.hid (HO.out.alloc (.cells #[.string (strN cur)] 9))
      have HBA := Lib.hid (HBW.out.alloc hzw (.cells #[.string (strN cur)] 9))
      clear hps
      go_wp2_with (first
        | (at_builtin; refine wpList_appT rfl (.tmp 27) (.tmp 29) rfl w.heap.size (by simp; omega) _ ps rfl HO1.out (some ⟨wr.heap.size, 0, none⟩) 1 1 [cur] _ rfl rfl (by intro e; cases e) (rt_row wr [cur] _ _) (by simp; omega) ?_; intro v2 w5 ho5 hg5; have HB5 := Lib.hid (HO1.out.below hg5 HBA.out (Nat.le_refl _) (by simp; omega)); have HO5 := Lib.hid ho5; clear ho5 hg5)
        | fail)
      go_ret
      exact ⟨⟨_, rfl, by have := HO5.out; rw [HPS.out] at this; exact this⟩, HB5.out⟩
end Go.Proofs.YtpkooogfefkcdaaDoor

/- Layer 8, plain: two patterns one behind the other. -/
namespace Go.Proofs.YtpkooogfefkcdaaDoor
open Go.RowKit
/-- What a verb tells, whatever room there is. -/
def tellU (sp : SpecF) (args : List ArgF) : Option (List Nat × List ArgF) :=
  match widthF sp args with
  | none => none
  | some (s1, a1) => match precF s1 a1 with
    | none => none
    | some (s2, a2) =>
      if s2.verb = 0 then none
      else match takeF a2 with
        | none => none
        | some (a, z, a3) => match bodyF s2 a z with
          | .error _ => none
          | .ok x => some (laidF s2 x, a3)
def roomy (b : List Nat) (t : List Nat) : Prop := b.length + t.length ≤ 65536
theorem addF_opt (b t : List Nat) : (addF b t).toOption = if b.length + t.length ≤ 65536 then some (b ++ t) else none := by
  unfold addF
  by_cases h : 65536 < b.length + t.length
  · rw [if_pos h, if_neg (by omega)]; rfl
  · rw [if_neg h, if_pos (by omega)]; rfl
theorem tell_opt (sp : SpecF) (args : List ArgF) (b : List Nat) : (tellF sp args b).toOption = (tellU sp args).bind fun x => if b.length + x.1.length ≤ 65536 then some (b ++ x.1, x.2) else none := by
  unfold tellF tellU
  cases h1 : widthF sp args with
  | none => rfl
  | some x1 =>
    obtain ⟨s1, a1⟩ := x1
    dsimp only
    cases h2 : precF s1 a1 with
    | none => rfl
    | some x2 =>
      obtain ⟨s2, a2⟩ := x2
      dsimp only
      split
      · rfl
      · cases h3 : takeF a2 with
        | none => rfl
        | some x3 =>
          obtain ⟨a, z, a3⟩ := x3
          dsimp only
          cases h4 : bodyF s2 a z with
          | error e => rfl
          | ok x =>
            dsimp only
            have h5 := addF_opt b (laidF s2 x)
            cases h6 : addF b (laidF s2 x) with
            | error e =>
              rw [h6] at h5
              by_cases hr : b.length + (laidF s2 x).length ≤ 65536
              · rw [if_pos hr] at h5; cases h5
              · simp only [Option.bind_some, if_neg hr]; rfl
            | ok b' =>
              rw [h6] at h5
              by_cases hr : b.length + (laidF s2 x).length ≤ 65536
              · rw [if_pos hr] at h5
                obtain rfl : b' = b ++ laidF s2 x := Option.some.inj h5
                simp only [Option.bind_some, if_pos hr]; rfl
              · rw [if_neg hr] at h5; cases h5
theorem take_drop {l r : List ArgF} {a : ArgF} {z : Int} (h : takeF l = some (a, z, r)) : r = l.drop 1 := by
  cases l with
  | nil => simp [takeF] at h; simp [h]
  | cons x l => simp [takeF] at h; obtain ⟨_, _, _, _, h⟩ := h; simp [h]
theorem star_drop {l r : List ArgF} {k : Int} (h : starF l = some (k, r)) : r = l.drop 1 := by
  unfold starF at h
  cases ht : takeF l with
  | none => rw [ht] at h; cases h
  | some x =>
    obtain ⟨a, z, r'⟩ := x
    rw [ht] at h
    simp at h
    rw [← h.2]; exact take_drop ht
/-- How many arguments a verb takes. -/
def takes (sp : SpecF) : Nat := 1 + (if sp.sw then 1 else 0) + (if sp.sp then 1 else 0)
theorem width_drop {sp s1 : SpecF} {args r : List ArgF} (h : widthF sp args = some (s1, r)) : r = args.drop (if sp.sw then 1 else 0) ∧ s1.sp = sp.sp := by
  unfold widthF at h
  split at h
  · rename_i hs
    cases ht : starF args with
    | none => rw [ht] at h; cases h
    | some x =>
      obtain ⟨k, r'⟩ := x
      rw [ht] at h
      simp at h
      rw [if_pos hs, ← h.2]
      refine ⟨star_drop ht, ?_⟩
      rw [← h.1]; split <;> rfl
  · rename_i hs
    injection h with h; injection h with h1 h2; subst h1 h2
    rw [if_neg hs]; exact ⟨rfl, rfl⟩
theorem prec_drop {sp s1 : SpecF} {args r : List ArgF} (h : precF sp args = some (s1, r)) : r = args.drop (if sp.sp then 1 else 0) := by
  unfold precF at h
  split at h
  · rename_i hs
    cases ht : starF args with
    | none => rw [ht] at h; cases h
    | some x =>
      obtain ⟨k, r'⟩ := x
      rw [ht] at h
      simp at h
      rw [if_pos hs, ← h.2]
      exact star_drop ht
  · rename_i hs
    injection h with h; injection h with h1 h2; subst h1 h2
    rw [if_neg hs]; rfl
theorem tell_drop {sp : SpecF} {args r : List ArgF} {t : List Nat} (h : tellU sp args = some (t, r)) : r = args.drop (takes sp) := by
  unfold tellU at h
  cases h1 : widthF sp args with
  | none => rw [h1] at h; cases h
  | some x1 =>
    obtain ⟨s1, a1⟩ := x1
    rw [h1] at h
    dsimp only at h
    obtain ⟨e1, e1'⟩ := width_drop h1
    cases h2 : precF s1 a1 with
    | none => rw [h2] at h; cases h
    | some x2 =>
      obtain ⟨s2, a2⟩ := x2
      rw [h2] at h
      dsimp only at h
      have e2 := prec_drop h2
      rw [e1'] at e2
      split at h
      · cases h
      · cases h3 : takeF a2 with
        | none => rw [h3] at h; cases h
        | some x3 =>
          obtain ⟨a, z, a3⟩ := x3
          rw [h3] at h
          dsimp only at h
          have e3 := take_drop h3
          cases h4 : bodyF s2 a z with
          | error e => rw [h4] at h; cases h
          | ok x =>
            rw [h4] at h
            injection h with h; injection h with h5 h6
            rw [← h6, e3, e2, e1, List.drop_drop, List.drop_drop]
            congr 1
            unfold takes; omega
/-- What a pattern tells, whatever room there is. -/
def outF : Nat → List Nat → List ArgF → Option (List Nat)
  | 0, _, _ => some []
  | _ + 1, [], _ => some []
  | k + 1, c :: l, args => match pieceF (c :: l) with
    | .inl x => (outF k ((c :: l).drop x.2) args).map fun u => x.1 ++ u
    | .inr sp => (tellU sp args).bind fun y => (outF k ((c :: l).drop sp.len) y.2).map fun u => y.1 ++ u
theorem outF_nil (k : Nat) (r : List ArgF) : outF k [] r = some [] := by cases k <;> rfl
theorem outF_text {k : Nat} {L T : List Nat} {n : Nat} {r : List ArgF} (h0 : L ≠ []) (hp : pieceF L = .inl (T, n)) : outF (k + 1) L r = (outF k (L.drop n) r).map fun u => T ++ u := by
  cases L with
  | nil => exact absurd rfl h0
  | cons c l => rw [outF, hp]
theorem outF_verb {k : Nat} {L : List Nat} {sp : SpecF} {r : List ArgF} (h0 : L ≠ []) (hp : pieceF L = .inr sp) : outF (k + 1) L r = (tellU sp r).bind fun y => (outF k (L.drop sp.len) y.2).map fun u => y.1 ++ u := by
  cases L with
  | nil => exact absurd rfl h0
  | cons c l => rw [outF, hp]
theorem make_opt : ∀ (k : Nat) (l : List Nat) (args : List ArgF) (b : List Nat), b.length ≤ 65536 → (makeF k l args b).toOption = (outF k l args).bind fun u => if b.length + u.length ≤ 65536 then some (b ++ u) else none
  | 0, l, args, b, hb => by
    rw [makeF, outF, Option.bind_some, if_pos (by simpa using hb), List.append_nil]; rfl
  | k + 1, [], args, b, hb => by
    rw [makeF, outF, Option.bind_some, if_pos (by simpa using hb), List.append_nil]; rfl
  | k + 1, c :: l, args, b, hb => by
    have h0 : (c :: l) ≠ [] := by simp
    cases hp : pieceF (c :: l) with
    | inl x =>
      obtain ⟨T, n⟩ := x
      rw [makeF_text h0 hp, outF_text h0 hp]
      have ha := addF_opt b T
      by_cases hr : b.length + T.length ≤ 65536
      · rw [if_pos hr] at ha
        cases hd : addF b T with
        | error e => rw [hd] at ha; cases ha
        | ok b' =>
          rw [hd] at ha
          obtain rfl : b' = b ++ T := Option.some.inj ha
          dsimp only
          rw [make_opt k _ args _ (by rw [List.length_append]; exact hr)]
          cases outF k ((c :: l).drop n) args with
          | none => rfl
          | some u => simp only [Option.bind_some, Option.map_some, List.length_append, List.append_assoc, Nat.add_assoc]
      · rw [if_neg hr] at ha
        cases hd : addF b T with
        | ok b' => rw [hd] at ha; cases ha
        | error e =>
          dsimp only
          cases outF k ((c :: l).drop n) args with
          | none => rfl
          | some u => simp only [Option.bind_some, Option.map_some, List.length_append]; rw [if_neg (by omega)]; rfl
    | inr sp =>
      rw [makeF_verb h0 hp, outF_verb h0 hp]
      have ha := tell_opt sp args b
      cases ht : tellU sp args with
      | none =>
        rw [ht] at ha
        cases hd : tellF sp args b with
        | ok b' => rw [hd] at ha; cases ha
        | error e => rfl
      | some y =>
        obtain ⟨t, r⟩ := y
        rw [ht, Option.bind_some] at ha
        by_cases hr : b.length + t.length ≤ 65536
        · rw [if_pos hr] at ha
          cases hd : tellF sp args b with
          | error e => rw [hd] at ha; cases ha
          | ok y =>
            rw [hd] at ha
            obtain rfl : y = (b ++ t, r) := Option.some.inj ha
            dsimp only
            rw [make_opt k _ r _ (by rw [List.length_append]; exact hr), Option.bind_some]
            cases outF k ((c :: l).drop sp.len) r with
            | none => rfl
            | some u => simp only [Option.bind_some, Option.map_some, List.length_append, List.append_assoc, Nat.add_assoc]
        · rw [if_neg hr] at ha
          cases hd : tellF sp args b with
          | ok b' => rw [hd] at ha; cases ha
          | error e =>
            rw [Option.bind_some]
            dsimp only
            cases outF k ((c :: l).drop sp.len) r with
            | none => rfl
            | some u => simp only [Option.bind_some, Option.map_some, List.length_append]; rw [if_neg (by omega)]; rfl
theorem szD_app : ∀ (k : Nat) (l m : List Nat) (n : Nat), l.drop (szD k l n).2 ≠ [] → szD k (l ++ m) n = szD k l n
  | 0, l, m, n, _ => by cases l <;> cases m <;> rfl
  | k + 1, [], m, n, h => by simp at h
  | k + 1, c :: r, m, n, h => by
    unfold szD at h
    rw [List.cons_append, szD, szD]
    by_cases hc : 48 ≤ c ∧ c ≤ 57
    · rw [if_pos hc] at h
      rw [if_pos hc, if_pos hc, szD_app k r m _ (by simpa using h)]
    · rw [if_neg hc, if_neg hc]
theorem sizeL_app (l m : List Nat) (h : l.drop (sizeL l).2.2 ≠ []) : sizeL (l ++ m) = sizeL l := by
  by_cases h42 : l.head? = some 42
  · cases l with
    | nil => cases h42
    | cons c r => simp at h42; subst h42; rfl
  · have h0 : l ≠ [] := by rintro rfl; simp at h
    rw [sizeL_no l h42] at h ⊢
    rw [sizeL_no (l ++ m) (by cases l with | nil => exact absurd rfl h0 | cons c r => simpa using h42), szD_app 3 l m 0 h]
theorem precP_app (l m : List Nat) (h : l.drop (precP l).2.2 ≠ []) : precP (l ++ m) = precP l := by
  cases l with
  | nil => simp at h
  | cons c r =>
    by_cases hc : c = 46
    · subst hc
      rw [precP_dot] at h
      rw [List.cons_append, precP_dot, precP_dot, sizeL_app r m (by simpa using h)]
    · rw [List.cons_append, precP_no _ _ hc, precP_no _ _ hc]
theorem flagsL_app : ∀ (l m : List Nat) (f : FlagsF), l.drop (flagsL l f).2 ≠ [] → flagsL (l ++ m) f = flagsL l f
  | [], m, f, h => by simp at h
  | c :: r, m, f, h => by
    by_cases h1 : c = 45
    · subst h1; rw [List.cons_append, flagsL, flagsL, flagsL_app r m _ (by rw [flagsL] at h; simpa using h)]
    · by_cases h2 : c = 48
      · subst h2; rw [List.cons_append, flagsL, flagsL, flagsL_app r m _ (by rw [flagsL] at h; simpa using h)]
      · by_cases h3 : c = 43
        · subst h3; rw [List.cons_append, flagsL, flagsL, flagsL_app r m _ (by rw [flagsL] at h; simpa using h)]
        · by_cases h4 : c = 32
          · subst h4; rw [List.cons_append, flagsL, flagsL, flagsL_app r m _ (by rw [flagsL] at h; simpa using h)]
          · have e : ∀ (r : List Nat) (f : FlagsF), flagsL (c :: r) f = (f, 0) := fun r f => by
              unfold flagsL
              split
              all_goals first | rfl | (rename_i h'; injection h' with h' _; subst h'; first | exact absurd rfl h1 | exact absurd rfl h2 | exact absurd rfl h3 | exact absurd rfl h4)
            rw [List.cons_append, e, e]
theorem readL_app (l m : List Nat) (h : (readL l).verb ≠ 0) : readL (l ++ m) = readL l := by
  obtain ⟨f, hf⟩ : ∃ f, flagsL l ⟨false, false, false, false⟩ = f := ⟨_, rfl⟩
  obtain ⟨w, hw⟩ : ∃ w, sizeL (l.drop f.2) = w := ⟨_, rfl⟩
  obtain ⟨p, hp⟩ : ∃ p, precP ((l.drop f.2).drop w.2.2) = p := ⟨_, rfl⟩
  have hv : ((l.drop f.2).drop w.2.2).drop p.2.2 ≠ [] := by
    intro e
    apply h
    unfold readL
    simp only [hf, hw, hp, e]
  have ne : ∀ {x : List Nat} {k : Nat}, x.drop k ≠ [] → x ≠ [] := fun h e => h (by rw [e]; exact List.drop_nil)
  have n2 := ne hv
  have n1 := ne n2
  have dr : ∀ {x : List Nat} {k : Nat}, x.drop k ≠ [] → (x ++ m).drop k = x.drop k ++ m := fun {x k} h => by
    rw [List.drop_append, show k - x.length = 0 from by
      rcases Nat.lt_or_ge k x.length with g | g
      · omega
      · exact absurd (List.drop_eq_nil_of_le g) h]
    rfl
  have a1 : flagsL (l ++ m) ⟨false, false, false, false⟩ = f := by rw [flagsL_app l m _ (by rw [hf]; exact n1), hf]
  have a2 : sizeL ((l ++ m).drop f.2) = w := by rw [dr n1, sizeL_app _ m (by rw [hw]; exact n2), hw]
  have a3 : precP (((l ++ m).drop f.2).drop w.2.2) = p := by rw [dr n1, dr n2, precP_app _ m (by rw [hp]; exact hv), hp]
  unfold readL
  simp only [hf, hw, hp, a1, a2, a3]
  rw [dr n1, dr n2, dr hv]
  cases hc : ((l.drop f.2).drop w.2.2).drop p.2.2 with
  | nil => exact absurd hc hv
  | cons c r => rfl
theorem pieceF_37 (r : List Nat) (h : r.head? ≠ some 37) : pieceF (37 :: r) = .inr (readL r) := by
  cases r with
  | nil => rfl
  | cons c r =>
    unfold pieceF
    split
    · rename_i h2; injection h2 with _ h2; injection h2 with h2 _; rw [h2] at h; exact absurd rfl h
    · rename_i h2; injection h2 with _ h2; rw [h2]
    · rename_i h3 h4; exact absurd rfl (h4 _)
theorem pieceF_plain (l : List Nat) (h : l.head? ≠ some 37) : pieceF l = .inl (l.takeWhile (· ≠ 37), (l.takeWhile (· ≠ 37)).length) := by
  unfold pieceF
  split
  · exact absurd rfl h
  · exact absurd rfl h
  · rfl
end Go.Proofs.YtpkooogfefkcdaaDoor
