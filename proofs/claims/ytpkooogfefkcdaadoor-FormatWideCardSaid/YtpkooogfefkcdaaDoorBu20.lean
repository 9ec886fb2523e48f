/- Several texts put together: LawB, CelA, CelB, CelC, CelD, CelE, CelF, CelG, CelH, LawQ, LawC, LawR, FmtZ. -/
import Derived.Test.YtpkooogfefkcdaaDoorBu19
import Derived.Test.YtpkooogfefkcdaaDoorBu2
import Derived.Test.YtpkooogfefkcdaaDoorBu17
import Derived.Test.YtpkooogfefkcdaaDoorBu1
import Derived.WalkLawsBesides
import Derived.Deep.RegionHeld3
import Derived.IntWalk
import Derived.Test.YtpkooogfefkcdaaDoorBu15
/- fieldfarelaw01.awake: the walk. Numbers' boxes. -/
namespace Go.Proofs.YtpkooogfefkcdaaDoor
open Go.RowKit
/-- A number's box. -/
structure BoxD (w : World) (g : Nat) (n : Bool) (h l : Int) : Prop where
  c0 : w.cell? ⟨g, 0, none⟩ = some (.bool n)
  c1 : w.cell? ⟨g, 1, none⟩ = some (.int .u64 h)
  c2 : w.cell? ⟨g, 2, none⟩ = some (.int .u64 l)
  z : g < w.heap.size
theorem BoxD.below {w w' : World} {g : Nat} {n : Bool} {h l : Int} (b : BoxD w g n h l) (q : Below w.heap.size w w') : BoxD w' g n h l :=
  ⟨(q.cell b.z).trans b.c0, (q.cell b.z).trans b.c1, (q.cell b.z).trans b.c2, Nat.lt_of_lt_of_le b.z q.size⟩
theorem BoxD.new (w : World) (n : Bool) (h l : Int) : BoxD (w.alloc (.cells #[.bool n, .int .u64 h, .int .u64 l] 34)) w.heap.size n h l := by
  refine ⟨?_, ?_, ?_, ?_⟩ <;> simp (maxDischargeDepth := 12) [go_sem]
theorem BoxD.make (w : World) (n : Bool) (h l : Int) {g : Nat} (hg : g = w.heap.size) : BoxD (w.alloc (.cells #[.bool n, .int .u64 h, .int .u64 l] 34)) g n h l := by
  subst hg; exact BoxD.new w n h l
theorem BoxD.alloc {w : World} {g : Nat} {n : Bool} {h l : Int} (b : BoxD w g n h l) (o : Obj) : BoxD (w.alloc o) g n h l := b.below ((Below.refl _ _).alloc (Nat.le_refl _) _)
theorem BoxD.drew {w : World} {g : Nat} {n : Bool} {h l : Int} (b : BoxD w g n h l) : BoxD w.drew g n h l := b.below (Below.refl _ _).drew
theorem BoxD.drewN {w : World} {g : Nat} {n : Bool} {h l : Int} (b : BoxD w g n h l) (k : Nat) : BoxD (w.drewN k) g n h l := b.below (below_drewN (Below.refl _ _) k)
/-- A number's box that may be written. -/
structure BoxF (w : World) (g : Nat) (n : Bool) (h l : Int) : Prop where
  c0 : w.cell? ⟨g, 0, none⟩ = some (.bool n)
  c1 : w.cell? ⟨g, 1, none⟩ = some (.int .u64 h)
  c2 : w.cell? ⟨g, 2, none⟩ = some (.int .u64 l)
  f0 : w.frozen? ⟨g, 0, none⟩ = false
  f1 : w.frozen? ⟨g, 1, none⟩ = false
  f2 : w.frozen? ⟨g, 2, none⟩ = false
  z : g < w.heap.size
theorem BoxF.below {w w' : World} {g : Nat} {n : Bool} {h l : Int} (b : BoxF w g n h l) (q : Below w.heap.size w w') : BoxF w' g n h l :=
  ⟨(q.cell b.z).trans b.c0, (q.cell b.z).trans b.c1, (q.cell b.z).trans b.c2, (q.frozen b.z).trans b.f0, (q.frozen b.z).trans b.f1, (q.frozen b.z).trans b.f2, Nat.lt_of_lt_of_le b.z q.size⟩
theorem BoxF.make (w : World) (n : Bool) (h l : Int) {g : Nat} (hg : g = w.heap.size) : BoxF (w.alloc (.cells #[.bool n, .int .u64 h, .int .u64 l] 34)) g n h l := by
  subst hg; refine ⟨?_, ?_, ?_, ?_, ?_, ?_, ?_⟩ <;> simp (maxDischargeDepth := 12) [go_sem]
theorem BoxF.drew {w : World} {g : Nat} {n : Bool} {h l : Int} (b : BoxF w g n h l) : BoxF w.drew g n h l := b.below (Below.refl _ _).drew
theorem BoxF.drewN {w : World} {g : Nat} {n : Bool} {h l : Int} (b : BoxF w g n h l) (k : Nat) : BoxF (w.drewN k) g n h l := b.below (below_drewN (Below.refl _ _) k)
theorem BoxF.box {w : World} {g : Nat} {n : Bool} {h l : Int} (b : BoxF w g n h l) : BoxD w g n h l := ⟨b.c0, b.c1, b.c2, b.z⟩
theorem BoxF.alloc {w : World} {g : Nat} {n : Bool} {h l : Int} (b : BoxF w g n h l) (o : Obj) : BoxF (w.alloc o) g n h l := b.below ((Below.refl _ _).alloc (Nat.le_refl _) _)
theorem good_b (n : Bool) (h l : Int) {b : Bool} (hg : goodB n h l = b) (w : World) :
    Calls Tryd.prog 14 #[.agg #[.bool n, .int .u64 h, .int .u64 l]] w fun e w' => e = .returned (.bool b) ∧ Below w.heap.size w w' := by
  subst hg
  refine (good_any n h l w).mono ?_
  rintro e w' ⟨rfl, rfl⟩
  exact ⟨rfl, (Below.refl _ _).alloc (Nat.le_refl _) _⟩
end Go.Proofs.YtpkooogfefkcdaaDoor

/- cell.like, cell.Good, cell.right. -/
namespace Go.Proofs.YtpkooogfefkcdaaDoor
open Go.RowKit
/-- A text looks like a number that isn't too great; its number's parts. -/
def likeB (bs : List Nat) : Bool := looksB bs && !pOver bs
def kn (bs : List Nat) : Bool := likeB bs && pP bs
def kh (bs : List Nat) : Int := if likeB bs then mh (pM bs) else 0
def kl (bs : List Nat) : Int := if likeB bs then ml (pM bs) else 0
end Go.Proofs.YtpkooogfefkcdaaDoor

/- cell.Good. -/
namespace Go.Proofs.YtpkooogfefkcdaaDoor
open Go.RowKit
/-- Which cells are right. -/
def goodC (k : Int) (bs : List Nat) (n : Bool) (h l : Int) : Bool :=
  if k = 0 then decide (bs = []) && (!n && (decide (h = 0) && decide (l = 0)))
  else if k = 1 then decide (bs = []) && goodB n h l
  else if k = 2 then !n && (decide (h = 0) && decide (l = 0))
  else if k = 3 then likeB bs && decide (n = pP bs ∧ h = mh (pM bs) ∧ l = ml (pM bs))
  else false
theorem strN_nil (bs : List Nat) : (strN bs).toList = [] ↔ bs = [] := by
  rw [ByteArray.toList_eq]; simp [strN]
end Go.Proofs.YtpkooogfefkcdaaDoor

/- cell.right, cell.Num, cell.Text, cell.Input. -/
namespace Go.Proofs.YtpkooogfefkcdaaDoor
open Go.RowKit
/-- A cell's value. -/
abbrev cvZ : Value := .agg #[.int .i64 0, .string { data := #[] }, .bool false, .int .u64 0, .int .u64 0]
end Go.Proofs.YtpkooogfefkcdaaDoor

/- cmp.Compare of strings; cell.Number, String, Truth, Size. -/
namespace Go.Proofs.YtpkooogfefkcdaaDoor
open Go.RowKit
/-- How two texts stand. -/
def cmpS (S T : ByteArray) : Int := if Op.bytesLess S.toList T.toList then -1 else if S.toList == T.toList then 0 else 1
theorem goodB_zero : goodB false 0 0 = true := by decide
/-- A right cell's text; whether it counts as true; its number. -/
def strC (k : Int) (bs : List Nat) (n : Bool) (h l : Int) : List Nat := if k = 1 then textL (zof n h l) else bs
def truC (k : Int) (bs : List Nat) (n : Bool) (h l : Int) : Bool := if k = 2 then !decide (bs = []) else !(!n && (decide (h = 0) && decide (l = 0)))
def numN' (k : Int) (bs : List Nat) (n : Bool) : Bool := if k = 2 then pP bs else n
def numH (k : Int) (bs : List Nat) (h : Int) : Int := if k = 2 then mh (pM bs) else h
def numL (k : Int) (bs : List Nat) (l : Int) : Int := if k = 2 then ml (pM bs) else l
def numO (k : Int) (bs : List Nat) : Bool := if k = 2 then pOver bs else false
theorem pM_over {bs : List Nat} (h : pOver bs = true) : pM bs = 0 ∧ pP bs = false := by
  have h1 : pM bs = 0 := by
    unfold pM
    have : pOk bs = false := by
      unfold pOver at h
      unfold pOk
      rw [Bool.and_eq_true, decide_eq_true_eq, decide_eq_true_eq] at h
      rw [Bool.and_eq_false_iff]
      right
      rw [decide_eq_false_iff_not]; omega
    rw [this]; rfl
  exact ⟨h1, by unfold pP; rw [h1]; simp⟩
end Go.Proofs.YtpkooogfefkcdaaDoor

/- cell.Number. -/
namespace Go.Proofs.YtpkooogfefkcdaaDoor
open Go.RowKit
/-- What a cell's number answers. -/
abbrev NumV (k' : Int) (bs' : List Nat) (n' : Bool) (h' l' : Int) : Value := .tuple #[.agg #[.bool (numN' k' bs' n'), .int .u64 (numH k' bs' h'), .int .u64 (numL k' bs' l')], errV (numO k' bs')]
end Go.Proofs.YtpkooogfefkcdaaDoor

/- cell.Compare. -/
namespace Go.Proofs.YtpkooogfefkcdaaDoor
open Go.RowKit
/-- Memory behind 'a, b = right(a), right(b)'. -/
structure Two5 (w : World) (a0 a1 a2 a3 a4 b0 b1 b2 b3 b4 : Value) (wx : World) : Prop where
  a : Box5 wx w.heap.size a0 a1 a2 a3 a4
  b : Box5 wx (w.heap.size + 1) b0 b1 b2 b3 b4
  q : Below w.heap.size w wx
theorem two5_done {w X : World} {a0 a1 a2 a3 a4 b0 b1 b2 b3 b4 a0' a1' a2' a3' a4' b0' b1' b2' b3' b4' : Value} (A : Box5 X w.heap.size a0 a1 a2 a3 a4) (B : Box5 X (w.heap.size + 1) b0 b1 b2 b3 b4) (q : Below w.heap.size w X) :
    Two5 w a0' a1' a2' a3' a4' b0' b1' b2' b3' b4' ((((((((((X.setCell ⟨w.heap.size, 0, none⟩ a0').setCell ⟨w.heap.size, 1, none⟩ a1').setCell ⟨w.heap.size, 2, none⟩ a2').setCell ⟨w.heap.size, 3, none⟩ a3').setCell ⟨w.heap.size, 4, none⟩ a4').setCell ⟨w.heap.size + 1, 0, none⟩ b0').setCell ⟨w.heap.size + 1, 1, none⟩ b1').setCell ⟨w.heap.size + 1, 2, none⟩ b2').setCell ⟨w.heap.size + 1, 3, none⟩ b3').setCell ⟨w.heap.size + 1, 4, none⟩ b4') := by
  refine ⟨?_, ?_, ?_⟩
  · exact ((((A.set.other (by omega) _ _).other (by omega) _ _).other (by omega) _ _).other (by omega) _ _).other (by omega) _ _
  · have h := fun (j : Nat) => (by omega : w.heap.size ≠ w.heap.size + 1)
    exact (((((B.other (h := w.heap.size) (by omega) 0 a0').other (h := w.heap.size) (by omega) 1 a1').other (h := w.heap.size) (by omega) 2 a2').other (h := w.heap.size) (by omega) 3 a3').other (h := w.heap.size) (by omega) 4 a4').set
  · exact (((((((((q.setCell (by simp) _).setCell (by simp) _).setCell (by simp) _).setCell (by simp) _).setCell (by simp) _).setCell (by simp) _).setCell (by simp) _).setCell (by simp) _).setCell (by simp) _).setCell (by simp) _
end Go.Proofs.YtpkooogfefkcdaaDoor

/- cell.Arg. -/
namespace Go.Proofs.YtpkooogfefkcdaaDoor
open Go.RowKit
end Go.Proofs.YtpkooogfefkcdaaDoor

/- Layer 9's functions, each contract at any cell; cells that are right. -/
namespace Go.Proofs.YtpkooogfefkcdaaDoor
open Go.RowKit
theorem goodC_zero : goodC 0 [] false 0 0 = true := by decide
/-- A right cell counts as a number. -/
def isNum (k : Int) : Bool := decide (k = 1 ∨ k = 3)
/-- How two right cells compare. -/
def cmpC (k : Int) (bs : List Nat) (n : Bool) (h l : Int) (m : Int) (ds : List Nat) (o : Bool) (i j : Int) : Int :=
  if k = 2 ∨ m = 2 then cmpS (strN (strC k bs n h l)) (strN (strC m ds o i j)) else cmpZ (zof n h l) (zof o i j)
theorem likeC_good {bs : List Nat} (h : likeB bs = true) : goodC 3 bs (pP bs) (mh (pM bs)) (ml (pM bs)) = true := by
  unfold goodC; rw [if_neg (by decide), if_neg (by decide), if_neg (by decide), if_pos rfl, h]; simp
theorem textC_good (bs : List Nat) : goodC 2 bs false 0 0 = true := by
  unfold goodC; rw [if_neg (by decide), if_neg (by decide), if_pos rfl]; rfl
theorem numC_good {n : Bool} {h l : Int} (hg : goodB n h l = true) : goodC 1 [] n h l = true := by
  unfold goodC; rw [if_neg (by decide), if_pos rfl, hg]; rfl
theorem mh_wd {N : Nat} (h : (N : Int) < LIM) : Wd (mh N) ∧ Wd (ml N) := by
  unfold LIM at h; unfold mh ml Wd; omega
end Go.Proofs.YtpkooogfefkcdaaDoor

/- fieldfarelaw09.awake. -/
namespace Go.Proofs.YtpkooogfefkcdaaDoor
open Go.RowKit
theorem int_5 (w : World) : Calls Tryd.prog 11 #[.int .i64 5] w fun e w' => e = .returned (.agg #[.bool false, .int .u64 0, .int .u64 5000000]) ∧ Below w.heap.size w w' := int_k 5 _ _ _ (by decide) (by decide) (by decide) (by decide) (by decide) w
end Go.Proofs.YtpkooogfefkcdaaDoor

/- fieldfarelaw01.DecMoves: the walk. -/
namespace Go.Proofs.YtpkooogfefkcdaaDoor
open Go.RowKit
/-- An answer: a number and no error, or none and the error of what is too great. -/
def OkV (z : Int) (rn : Bool) (rh rl : Int) (er : Value) : Prop := (er = .nilIface ∧ IsD rn rh rl z) ∨ (er = .iface 67 (.int .i64 2) ∧ rn = false ∧ rh = 0 ∧ rl = 0 ∧ LIM ≤ ((z.natAbs : Nat) : Int))
theorem add_gen {n m : Bool} {ha la hb lb za zb : Int} (ia : IsD n ha la za) (ib : IsD m hb lb zb) : ∃ rn rh rl er, (∀ W, Calls Tryd.prog 26 #[.agg #[.bool n, .int .u64 ha, .int .u64 la], .agg #[.bool m, .int .u64 hb, .int .u64 lb]] W fun e w' => e = .returned (.tuple #[.agg #[.bool rn, .int .u64 rh, .int .u64 rl], er]) ∧ Below W.heap.size W w') ∧ OkV (za + zb) rn rh rl er := by
  by_cases h : (((za + zb).natAbs : Nat) : Int) < LIM
  · exact ⟨_, _, _, _, fun W => add_ok n m ha la hb lb za zb _ ia ib rfl h W, .inl ⟨rfl, IsD.of h⟩⟩
  · exact ⟨_, _, _, _, fun W => add_over n m ha la hb lb za zb ia ib (by omega) W, .inr ⟨rfl, rfl, rfl, rfl, by omega⟩⟩
theorem sub_gen {n m : Bool} {ha la hb lb za zb : Int} (ia : IsD n ha la za) (ib : IsD m hb lb zb) : ∃ rn rh rl er, (∀ W, Calls Tryd.prog 16 #[.agg #[.bool n, .int .u64 ha, .int .u64 la], .agg #[.bool m, .int .u64 hb, .int .u64 lb]] W fun e w' => e = .returned (.tuple #[.agg #[.bool rn, .int .u64 rh, .int .u64 rl], er]) ∧ Below W.heap.size W w') ∧ OkV (za - zb) rn rh rl er := by
  by_cases h : (((za - zb).natAbs : Nat) : Int) < LIM
  · exact ⟨_, _, _, _, fun W => sub_ok n m ha la hb lb za zb _ ia ib rfl h W, .inl ⟨rfl, IsD.of h⟩⟩
  · exact ⟨_, _, _, _, fun W => sub_over n m ha la hb lb za zb ia ib (by omega) W, .inr ⟨rfl, rfl, rfl, rfl, by omega⟩⟩
theorem good_split (n : Bool) (h l : Int) (hh : Wd h) (hl : Wd l) : goodB n h l = false ∨ ∃ z, IsD n h l z := by
  cases hg : goodB n h l
  · exact .inl rfl
  · exact .inr ⟨_, of_good hh hl hg⟩
end Go.Proofs.YtpkooogfefkcdaaDoor

/- fieldfarelaw09.CellSizes: the walk. -/
namespace Go.Proofs.YtpkooogfefkcdaaDoor
open Go.RowKit
/-- A string's bytes as numbers. -/
def numsS (s : ByteArray) : List Nat := s.data.toList.map UInt8.toNat
theorem strN_numsS (s : ByteArray) : strN (numsS s) = s := by
  cases s with
  | mk d =>
    unfold strN numsS
    congr 1
    apply Array.toList_inj.1
    simp [Function.comp_def]
theorem numsS_lt (s : ByteArray) : ∀ x ∈ numsS s, x < 256 := by
  intro x hx; obtain ⟨u, _, rfl⟩ := List.mem_map.1 hx; exact u.toNat_lt
theorem numsS_len (s : ByteArray) : (numsS s).length = s.size := by unfold numsS; rw [List.length_map, Array.length_toList]; rfl
end Go.Proofs.YtpkooogfefkcdaaDoor

/- fieldfarelaw08.FormatWide: the walk. -/
namespace Go.Proofs.YtpkooogfefkcdaaDoor
open Go.RowKit
theorem wideP_byte (left : Bool) : ∀ x ∈ wideP left, x < 256 := by cases left <;> decide
theorem wideP_len (left : Bool) : (wideP left).length ≤ 1000000 := by cases left <;> decide
set_option maxRecDepth 100000 in
set_option maxHeartbeats 6400000 in
theorem wide_law (S : ByteArray) (n0 : Int) (left : Bool) (w : World) (_ : S.size ≤ maxLen) (hn0 : 0 ≤ n0 ∧ n0 < 256) (ht : TzOk w) :
    Calls Tryd.prog 4 #[.string S, .int .u8 n0, .bool left] w fun e w' => e = .returned (.bool true) ∧ Below w.heap.size w w' := by
  have HT := Lib.hid ht
  clear ht
  by_cases hS : S.size ≤ 100
  · obtain ⟨n, rfl⟩ : ∃ n : Nat, n0 = (n : Int) := ⟨n0.toNat, by omega⟩
    have hn : n ≤ 255 := by omega
    have hb := numsS_lt S
    have hlen := numsS_len S
    have hSS := strN_numsS S
    generalize numsS S = L at *
    subst hSS
    have hL : L.length ≤ 100 := by omega
    have hsz := strN_size L
    have hargs : ∀ a ∈ [numA ((n : Int) * 1000000) false, strA L], a.ok := by
      intro a ha
      simp only [List.mem_cons, List.not_mem_nil, or_false] at ha
      rcases ha with rfl | rfl
      · exact numA_ok (by unfold LIM; omega) _
      · exact strA_ok hb (by omega)
    have hm := fun (S : ByteArray) (hS : strN (wideP left) = S) (W : World) (h : TzOk W) => make_ok (wideP_byte left) (wideP_len left) hargs (wide_make L n left hn hL) hS rfl (cs := #[.string { data := #[] }, .bool (zn ((n : Int) * 1000000)), .int .u64 (zh ((n : Int) * 1000000)), .int .u64 (zl ((n : Int) * 1000000)), .bool false, .string (strN L), .bool false, .int .u64 0, .int .u64 0, .bool false]) (by rfl) (n := 2) rfl (0, 0) W h
    have HM := Lib.hid hm
    have HI := Lib.hid (fun W => int_any (n : Int) (by omega) (by omega) W)
    have hd : decide ((100 : Int) < (L.length : Int)) = false := by simp; omega
    have hTl := wide_len L n left
    clear hm hargs hlen
    have HPN := Lib.hid (fun (W : World) (h : ∀ x ∈ L, x ≠ 37) (ht : TzOk W) => make_nil (P := L) hb (by omega) (plain_make L h hL []) rfl rfl W ht)
    cases left
    · have HS : Hid (strN (wideP false) = ({ data := #[37] } ++ { data := #[] } ++ { data := #[42, 115] } : ByteArray)) := Lib.hid (by decide)
      have hcut : (wideT L n false).drop ((wideT L n false).length - L.length) = L := by
        rw [wide_len]
        show (List.replicate (n - L.length) 32 ++ L).drop _ = L
        rw [List.drop_append, List.length_replicate, List.drop_eq_nil_of_le (by rw [List.length_replicate]; split <;> omega)]
        rw [show (if n ≤ L.length then L.length else n) - L.length - (n - L.length) = 0 by split <;> omega]; rfl
      have hle : L.length ≤ (wideT L n false).length ∧ n ≤ (wideT L n false).length := by rw [hTl]; split <;> omega
      have heq : L.length < (wideT L n false).length → (wideT L n false).length = n := by rw [hTl]; split <;> omega
      have hT3 : (wideT L n false).length ≤ 300 := by rw [hTl]; split <;> omega
      have hTs := strN_size (wideT L n false)
      generalize wideT L n false = T at *
      clear hTl
      have hcx : (strN T).extract (T.length - L.length) T.length = strN L := by rw [strN_extract, List.take_length, hcut]
      have hes : ((strN L).toList == (strN L).toList) = true := by simp
      have d1 : decide (T.length < L.length) = false := by simp; omega
      have d2 : decide (T.length < n) = false := by simp; omega
      by_cases hc : L.length < T.length
      case' pos => (have d3 : decide (L.length < T.length) = true := decide_eq_true hc); have d4 : ((T.length : Int) != (n : Int)) = false := by have := heq hc; simp; omega
      case' neg => have d3 : decide (L.length < T.length) = false := decide_eq_false hc
      all_goals
        clear heq hc
        go_enter Tryd.func4, Tryd.ntmps4
        go_wp2_with (first
          | (go_at_call 7; (with_reducible refine (awake8_any w HT.out).mono ?_); rintro e w1 ⟨rfl, b1⟩; have HT1 := Lib.hid (HT.out.below b1); have HB1 := Lib.hid b1; clear b1)
          | (go_at_call 11; (with_reducible refine (HI.out _).mono ?_); rintro e w2 ⟨rfl, b2⟩; have HT2 := Lib.hid (HT1.out.below b2); have HB2 := Lib.hid (below_step HB1.out b2); clear b2)
          | (go_at_call 10; (with_reducible refine (HM.out _ HS.out _ HT2.out).mono ?_); rintro e w3 ⟨rfl, b3⟩; have HT3 := Lib.hid (HT2.out.below b3); have HB3 := Lib.hid (below_step HB2.out b3); clear b3)
          | fail)
        clear d1 d2 d3
        go_loopw [11] (fun i wr => ∃ j : Nat, i = .int .i64 (j : Int) ∧ j ≤ L.length ∧ (∀ x ∈ L.take j, x ≠ 37) ∧ wr = w3) (fun i _ => L.length - (intOf i).toNat)
        case atStart => exact ⟨0, by go_num, Nat.zero_le _, by simp, rfl⟩
        case round =>
          obtain ⟨j, rfl, hj, h37, rfl⟩ := hrel
          by_cases hlt : j < L.length
          · have hq := get_at hb j hlt (by rw [hsz]; exact hlt)
            by_cases he : L[j] = 37
            · have hq2 : (((L[j] : Nat) : Int) == 37) = true := by rw [he]; rfl
              go_wp2_with fail
              go_ret
              exact ⟨rfl, HB3.out⟩
            · have hq2 : (((L[j] : Nat) : Int) == 37) = false := by simp; omega
              go_wp2_with fail
              go_roundw
              case rel => exact ⟨j + 1, by go_num, by omega, fun x hx => by
                rw [List.take_add_one, List.getElem?_eq_getElem hlt] at hx
                rcases List.mem_append.1 hx with hx | hx
                · exact h37 x hx
                · simp at hx; rw [hx]; exact he, trivial⟩
              case measure => simp [intOf]; omega
          · obtain rfl : j = L.length := by omega
            have h37' : ∀ x ∈ L, x ≠ 37 := by rwa [List.take_length] at h37
            go_wp2_with (first
              | (go_at_call 10; (with_reducible refine (HPN.out _ h37' HT3.out).mono ?_); rintro e w4 ⟨rfl, b4⟩; have HB4 := Lib.hid (below_step HB3.out b4); clear b4)
              | fail)
            go_ret
            exact ⟨rfl, HB4.out⟩
    · have HS : Hid (strN (wideP true) = ({ data := #[37] } ++ { data := #[45] } ++ { data := #[42, 115] } : ByteArray)) := Lib.hid (by decide)
      have hcut : (wideT L n true).take L.length = L := by
        show (L ++ List.replicate (n - L.length) 32).take L.length = L
        exact List.take_left
      have hle : L.length ≤ (wideT L n true).length ∧ n ≤ (wideT L n true).length := by rw [hTl]; split <;> omega
      have heq : L.length < (wideT L n true).length → (wideT L n true).length = n := by rw [hTl]; split <;> omega
      have hT3 : (wideT L n true).length ≤ 300 := by rw [hTl]; split <;> omega
      have hTs := strN_size (wideT L n true)
      generalize wideT L n true = T at *
      clear hTl
      have hcx : (strN T).extract 0 L.length = strN L := by rw [strN_extract, List.drop_zero, hcut]
      have hes : ((strN L).toList == (strN L).toList) = true := by simp
      have d1 : decide (T.length < L.length) = false := by simp; omega
      have d2 : decide (T.length < n) = false := by simp; omega
      by_cases hc : L.length < T.length
      case' pos => (have d3 : decide (L.length < T.length) = true := decide_eq_true hc); have d4 : ((T.length : Int) != (n : Int)) = false := by have := heq hc; simp; omega
      case' neg => have d3 : decide (L.length < T.length) = false := decide_eq_false hc
      all_goals
        clear heq hc
        go_enter Tryd.func4, Tryd.ntmps4
        go_wp2_with (first
          | (go_at_call 7; (with_reducible refine (awake8_any w HT.out).mono ?_); rintro e w1 ⟨rfl, b1⟩; have HT1 := Lib.hid (HT.out.below b1); have HB1 := Lib.hid b1; clear b1)
          | (go_at_call 11; (with_reducible refine (HI.out _).mono ?_); rintro e w2 ⟨rfl, b2⟩; have HT2 := Lib.hid (HT1.out.below b2); have HB2 := Lib.hid (below_step HB1.out b2); clear b2)
          | (go_at_call 10; (with_reducible refine (HM.out _ HS.out _ HT2.out).mono ?_); rintro e w3 ⟨rfl, b3⟩; have HT3 := Lib.hid (HT2.out.below b3); have HB3 := Lib.hid (below_step HB2.out b3); clear b3)
          | fail)
        clear d1 d2 d3
        go_loopw [11] (fun i wr => ∃ j : Nat, i = .int .i64 (j : Int) ∧ j ≤ L.length ∧ (∀ x ∈ L.take j, x ≠ 37) ∧ wr = w3) (fun i _ => L.length - (intOf i).toNat)
        case atStart => exact ⟨0, by go_num, Nat.zero_le _, by simp, rfl⟩
        case round =>
          obtain ⟨j, rfl, hj, h37, rfl⟩ := hrel
          by_cases hlt : j < L.length
          · have hq := get_at hb j hlt (by rw [hsz]; exact hlt)
            by_cases he : L[j] = 37
            · have hq2 : (((L[j] : Nat) : Int) == 37) = true := by rw [he]; rfl
              go_wp2_with fail
              go_ret
              exact ⟨rfl, HB3.out⟩
            · have hq2 : (((L[j] : Nat) : Int) == 37) = false := by simp; omega
              go_wp2_with fail
              go_roundw
              case rel => exact ⟨j + 1, by go_num, by omega, fun x hx => by
                rw [List.take_add_one, List.getElem?_eq_getElem hlt] at hx
                rcases List.mem_append.1 hx with hx | hx
                · exact h37 x hx
                · simp at hx; rw [hx]; exact he, trivial⟩
              case measure => simp [intOf]; omega
          · obtain rfl : j = L.length := by omega
            have h37' : ∀ x ∈ L, x ≠ 37 := by rwa [List.take_length] at h37
            go_wp2_with (first
              | (go_at_call 10; (with_reducible refine (HPN.out _ h37' HT3.out).mono ?_); rintro e w4 ⟨rfl, b4⟩; have HB4 := Lib.hid (below_step HB3.out b4); clear b4)
              | fail)
            go_ret
            exact ⟨rfl, HB4.out⟩
  · have hd : decide ((100 : Int) < (S.size : Int)) = true := by simp; omega
    clear hS
    go_enter Tryd.func4, Tryd.ntmps4
    go_wp2_with (first
      | (go_at_call 7; (with_reducible refine (awake8_any w HT.out).mono ?_); rintro e w1 ⟨rfl, b1⟩; have HB1 := Lib.hid b1; clear b1)
      | fail)
    go_ret
    exact ⟨rfl, HB1.out⟩
end Go.Proofs.YtpkooogfefkcdaaDoor
