/- Several texts put together: CelH, LawQ, LawC. -/
import Derived.Test.YtkhhjibpppmekaaBu20
import Derived.Test.YtkhhjibpppmekaaBu15
import Derived.Test.YtkhhjibpppmekaaBu16
/- Layer 9's functions, each contract at any cell; cells that are right. -/
namespace Go.Proofs.Ytkhhjibpppmekaa
open Go.RowKit
theorem right_self {k : Int} {bs : List Nat} {n : Bool} {h l : Int} (hb : ∀ x ∈ bs, x < 256) (hl : bs.length ≤ 140737488351232) (hg : goodC k bs n h l = true) : RightOf k bs n h l k bs n h l :=
  ⟨.inl ⟨hg, rfl, rfl, rfl, rfl, rfl⟩, fun W => right_ok hb hl hg W⟩
theorem goodC_zero : goodC 0 [] false 0 0 = true := by decide
theorem RightOf.again {k : Int} {bs : List Nat} {n : Bool} {h l : Int} {k' : Int} {bs' : List Nat} {n' : Bool} {h' l' : Int} (R : RightOf k bs n h l k' bs' n' h' l') (hb : ∀ x ∈ bs', x < 256) (hl : bs'.length ≤ 140737488351232) : RightOf k' bs' n' h' l' k' bs' n' h' l' := by
  refine right_self hb hl ?_
  rcases R.is with ⟨hg, rfl, rfl, rfl, rfl, rfl⟩ | ⟨_, rfl, rfl, rfl, rfl, rfl⟩
  · exact hg
  · exact goodC_zero
/-- A right cell counts as a number. -/
def isNum (k : Int) : Bool := decide (k = 1 ∨ k = 3)
theorem carg_any {k : Int} {bs : List Nat} {n : Bool} {h l : Int} {k' : Int} {bs' : List Nat} {n' : Bool} {h' l' : Int} (R : RightOf k bs n h l k' bs' n' h' l') (hb : ∀ x ∈ bs', x < 256) (hl : bs'.length ≤ 140737488351232) (wh : Wd h') (wl : Wd l') (ho : numO k' bs' = false) (w : World) :
    Calls Try.prog 32 #[.agg #[.int .i64 k, .string (strN bs), .bool n, .int .u64 h, .int .u64 l]] w fun e w' => e = .returned (.tuple #[.agg #[.string (strN (strC k' bs' n' h' l')), .bool (numN' k' bs' n'), .int .u64 (numH k' bs' h'), .int .u64 (numL k' bs' l'), .bool (isNum k')], .nilIface]) ∧ Below w.heap.size w w' := by
  have R2 := R.again hb hl
  have NU := fun W => cnumber_any R2 hb hl W
  unfold NumV at NU
  rw [ho] at NU
  refine carg_ok ?_ R.run NU (fun W => cstring_any R2 wh wl W) w
  rcases R.kinds with ⟨rfl, _⟩ | ⟨rfl, _⟩ | ⟨rfl, _⟩ | ⟨rfl, _⟩ <;> simp [isNum]
theorem carg_over {k : Int} {bs : List Nat} {n : Bool} {h l : Int} {k' : Int} {bs' : List Nat} {n' : Bool} {h' l' : Int} (R : RightOf k bs n h l k' bs' n' h' l') (hb : ∀ x ∈ bs', x < 256) (hl : bs'.length ≤ 140737488351232) (wh : Wd h') (wl : Wd l') (ho : numO k' bs' = true) (w : World) :
    Calls Try.prog 32 #[.agg #[.int .i64 k, .string (strN bs), .bool n, .int .u64 h, .int .u64 l]] w fun e w' => e = .returned (.tuple #[.agg #[.string { data := #[] }, .bool false, .int .u64 0, .int .u64 0, .bool false], .iface 83 (.int .i64 2)]) ∧ Below w.heap.size w w' := by
  have R2 := R.again hb hl
  have NU := fun W => cnumber_any R2 hb hl W
  unfold NumV at NU
  rw [ho] at NU
  exact carg_err R.run NU (fun W => cstring_any R2 wh wl W) w
/-- How two right cells compare. -/
def cmpC (k : Int) (bs : List Nat) (n : Bool) (h l : Int) (m : Int) (ds : List Nat) (o : Bool) (i j : Int) : Int :=
  if k = 2 ∨ m = 2 then cmpS (strN (strC k bs n h l)) (strN (strC m ds o i j)) else cmpZ (zof n h l) (zof o i j)
theorem ccompare_any {k : Int} {bs : List Nat} {n : Bool} {h l : Int} {k' : Int} {bs' : List Nat} {n' : Bool} {h' l' : Int} {m : Int} {ds : List Nat} {o : Bool} {i j : Int} {m' : Int} {ds' : List Nat} {o' : Bool} {i' j' : Int}
    (R : RightOf k bs n h l k' bs' n' h' l') (Q : RightOf m ds o i j m' ds' o' i' j') (hb : ∀ x ∈ bs', x < 256) (hl : bs'.length ≤ 140737488351232) (hd : ∀ x ∈ ds', x < 256) (hm : ds'.length ≤ 140737488351232) (wh : Wd h') (wl : Wd l') (wi : Wd i') (wj : Wd j') (w : World) :
    Calls Try.prog 26 #[.agg #[.int .i64 k, .string (strN bs), .bool n, .int .u64 h, .int .u64 l], .agg #[.int .i64 m, .string (strN ds), .bool o, .int .u64 i, .int .u64 j]] w fun e w' => e = .returned (.int .i64 (cmpC k' bs' n' h' l' m' ds' o' i' j')) ∧ Below w.heap.size w w' := by
  have R2 := R.again hb hl
  have Q2 := Q.again hd hm
  unfold cmpC
  by_cases hk : k' = 2 ∨ m' = 2
  · rw [if_pos hk]
    exact ccompare_text R.run Q.run (fun W => cstring_any R2 wh wl W) (fun W => cstring_any Q2 wi wj W) hk w
  · rw [if_neg hk]
    exact ccompare_num R.run Q.run (fun W => cmp_ok n' o' h' l' i' j' _ _ (of_good wh wl R.good) (of_good wi wj Q.good) W) (fun e => hk (.inl e)) (fun e => hk (.inr e)) w
theorem RightOf.words {k : Int} {bs : List Nat} {n : Bool} {h l : Int} {k' : Int} {bs' : List Nat} {n' : Bool} {h' l' : Int} (R : RightOf k bs n h l k' bs' n' h' l') (wh : Wd h) (wl : Wd l) : Wd h' ∧ Wd l' := by
  rcases R.is with ⟨hg, rfl, rfl, rfl, rfl, rfl⟩ | ⟨_, rfl, rfl, rfl, rfl, rfl⟩
  · exact ⟨wh, wl⟩
  · exact ⟨⟨by decide, by decide⟩, ⟨by decide, by decide⟩⟩
theorem RightOf.bytes {k : Int} {bs : List Nat} {n : Bool} {h l : Int} {k' : Int} {bs' : List Nat} {n' : Bool} {h' l' : Int} (R : RightOf k bs n h l k' bs' n' h' l') (hb : ∀ x ∈ bs, x < 256) {N : Nat} (hl : bs.length ≤ N) : (∀ x ∈ bs', x < 256) ∧ bs'.length ≤ N := by
  rcases R.is with ⟨hg, rfl, rfl, rfl, rfl, rfl⟩ | ⟨_, rfl, rfl, rfl, rfl, rfl⟩
  · exact ⟨hb, hl⟩
  · exact ⟨by simp, by simp⟩
theorem likeC_good {bs : List Nat} (h : likeB bs = true) : goodC 3 bs (pP bs) (mh (pM bs)) (ml (pM bs)) = true := by
  unfold goodC; rw [if_neg (by decide), if_neg (by decide), if_neg (by decide), if_pos rfl, h]; simp
theorem textC_good (bs : List Nat) : goodC 2 bs false 0 0 = true := by
  unfold goodC; rw [if_neg (by decide), if_neg (by decide), if_pos rfl]; rfl
theorem numC_good {n : Bool} {h l : Int} (hg : goodB n h l = true) : goodC 1 [] n h l = true := by
  unfold goodC; rw [if_neg (by decide), if_pos rfl, hg]; rfl
theorem mh_wd {N : Nat} (h : (N : Int) < LIM) : Wd (mh N) ∧ Wd (ml N) := by
  unfold LIM at h; unfold mh ml Wd; omega
end Go.Proofs.Ytkhhjibpppmekaa

/- fieldfarelaw09.awake. -/
namespace Go.Proofs.Ytkhhjibpppmekaa
open Go.RowKit
theorem in_10 (w : World) : Calls Try.prog 23 #[.string { data := #[49, 48] }] w fun e w' => e = .returned (.agg #[.int .i64 3, .string { data := #[49, 48] }, .bool false, .int .u64 0, .int .u64 10000000]) ∧ Below w.heap.size w w' := by
  have h := input_like (bs := [49, 48]) (by decide) (by decide) (by decide) w
  rw [show pP [49, 48] = false by decide, show mh (pM [49, 48]) = 0 by decide, show ml (pM [49, 48]) = 10000000 by decide] at h
  exact h
theorem in_9 (w : World) : Calls Try.prog 23 #[.string { data := #[57] }] w fun e w' => e = .returned (.agg #[.int .i64 3, .string { data := #[57] }, .bool false, .int .u64 0, .int .u64 9000000]) ∧ Below w.heap.size w w' := by
  have h := input_like (bs := [57]) (by decide) (by decide) (by decide) w
  rw [show pP [57] = false by decide, show mh (pM [57]) = 0 by decide, show ml (pM [57]) = 9000000 by decide] at h
  exact h
theorem r_10 : RightOf 3 [49, 48] false 0 10000000 3 [49, 48] false 0 10000000 := right_self (by decide) (by decide) (by decide)
theorem r_9 : RightOf 3 [57] false 0 9000000 3 [57] false 0 9000000 := right_self (by decide) (by decide) (by decide)
theorem r_t10 : RightOf 2 [49, 48] false 0 0 2 [49, 48] false 0 0 := right_self (by decide) (by decide) (by decide)
theorem cmp_10_9 (w : World) : Calls Try.prog 26 #[.agg #[.int .i64 3, .string { data := #[49, 48] }, .bool false, .int .u64 0, .int .u64 10000000], .agg #[.int .i64 3, .string { data := #[57] }, .bool false, .int .u64 0, .int .u64 9000000]] w fun e w' => e = .returned (.int .i64 1) ∧ Below w.heap.size w w' := by
  have h := ccompare_any r_10 r_9 (by decide) (by decide) (by decide) (by decide) ⟨by decide, by decide⟩ ⟨by decide, by decide⟩ ⟨by decide, by decide⟩ ⟨by decide, by decide⟩ w
  rw [show cmpC 3 [49, 48] false 0 10000000 3 [57] false 0 9000000 = 1 by unfold cmpC; rw [if_neg (by decide)]; decide] at h
  exact h
theorem cmp_t10_9 (w : World) : Calls Try.prog 26 #[.agg #[.int .i64 2, .string { data := #[49, 48] }, .bool false, .int .u64 0, .int .u64 0], .agg #[.int .i64 3, .string { data := #[57] }, .bool false, .int .u64 0, .int .u64 9000000]] w fun e w' => e = .returned (.int .i64 (-1)) ∧ Below w.heap.size w w' := by
  have h := ccompare_any r_t10 r_9 (by decide) (by decide) (by decide) (by decide) ⟨by decide, by decide⟩ ⟨by decide, by decide⟩ ⟨by decide, by decide⟩ ⟨by decide, by decide⟩ w
  rw [show cmpC 2 [49, 48] false 0 0 3 [57] false 0 9000000 = -1 by unfold cmpC cmpS; rw [if_pos (by decide), ByteArray.toList_eq, ByteArray.toList_eq]; decide] at h
  exact h
theorem num_5 (w : World) : Calls Try.prog 21 #[.agg #[.bool false, .int .u64 0, .int .u64 5000000]] w fun e w' => e = .returned (.agg #[.int .i64 1, .string { data := #[] }, .bool false, .int .u64 0, .int .u64 5000000]) ∧ Below w.heap.size w w' :=
  num_ok (by decide) w
theorem r_5 : RightOf 1 [] false 0 5000000 1 [] false 0 5000000 := right_self (by decide) (by decide) (by decide)
theorem str_5 (w : World) : Calls Try.prog 30 #[.agg #[.int .i64 1, .string { data := #[] }, .bool false, .int .u64 0, .int .u64 5000000]] w fun e w' => e = .returned (.string { data := #[53] }) ∧ Below w.heap.size w w' := by
  have h := cstring_any r_5 ⟨by decide, by decide⟩ ⟨by decide, by decide⟩ w
  rw [show strC 1 [] false 0 5000000 = [53] by unfold strC; rw [if_pos rfl]; decide] at h
  exact h
theorem int_5 (w : World) : Calls Try.prog 46 #[.int .i64 5] w fun e w' => e = .returned (.agg #[.bool false, .int .u64 0, .int .u64 5000000]) ∧ Below w.heap.size w w' := int_k 5 _ _ _ (by decide) (by decide) (by decide) (by decide) (by decide) w
set_option maxRecDepth 100000 in
set_option maxHeartbeats 800000 in
theorem awake9_any (w : World) :
    Calls Try.prog 20 #[] w fun e w' => e = .returned (.bool true) ∧ Below w.heap.size w w' := by
  have H10 := Lib.hid in_10; have H9 := Lib.hid in_9; have HC := Lib.hid cmp_10_9; have HT := Lib.hid cmp_t10_9; have H5 := Lib.hid int_5; have HN := Lib.hid num_5; have HS := Lib.hid str_5
  have HX := Lib.hid (fun W => ctext_any { data := #[49, 48] } W)
  go_enter Try.func20, Try.ntmps20
  go_wp2_with (first
    | (go_at_call 23; (with_reducible refine (H10.out _).mono ?_); rintro e w1 ⟨rfl, b1⟩; have z1 := Below.size b1; (try simp at z1))
    | (go_at_call 23; (with_reducible refine (H9.out _).mono ?_); rintro e w2 ⟨rfl, b2⟩; have z2 := Below.size b2; (try simp at z2))
    | (go_at_call 26; (with_reducible refine (HC.out _).mono ?_); rintro e w3 ⟨rfl, b3⟩; have z3 := Below.size b3; (try simp at z3))
    | (go_at_call 22; (with_reducible refine (HX.out _).mono ?_); rintro e w4 ⟨rfl, b4⟩; have z4 := Below.size b4; (try simp at z4))
    | (go_at_call 26; (with_reducible refine (HT.out _).mono ?_); rintro e w5 ⟨rfl, b5⟩; have z5 := Below.size b5; (try simp at z5))
    | (go_at_call 46; (with_reducible refine (H5.out _).mono ?_); rintro e w6 ⟨rfl, b6⟩; have z6 := Below.size b6; (try simp at z6))
    | (go_at_call 21; (with_reducible refine (HN.out _).mono ?_); rintro e w7 ⟨rfl, b7⟩; have z7 := Below.size b7; (try simp at z7))
    | (go_at_call 30; (with_reducible refine (HS.out _).mono ?_); rintro e w8 ⟨rfl, b8⟩; have z8 := Below.size b8; (try simp at z8)))
  go_ret
  exact ⟨rfl, by (repeat' (first | (with_reducible exact Below.refl _ _) | (refine Below.trans ?_ (Below.mono (by with_reducible assumption) ?_)) | (with_reducible exact Below.refl _ _) | (with_reducible refine below_drewN ?_ _) | (with_reducible refine Below.drew ?_) | (with_reducible refine Below.setCell ?_ ?_ _) | (with_reducible refine Below.alloc ?_ ?_ _) | (with_reducible assumption) | (simp; done) | (simp; omega) | omega))⟩
end Go.Proofs.Ytkhhjibpppmekaa

/- fieldfarelaw01.DecMoves: the walk. -/
namespace Go.Proofs.Ytkhhjibpppmekaa
open Go.RowKit
/-- An answer: a number and no error, or none and the error of what is too great. -/
def OkV (z : Int) (rn : Bool) (rh rl : Int) (er : Value) : Prop := (er = .nilIface ∧ IsD rn rh rl z) ∨ (er = .iface 83 (.int .i64 2) ∧ rn = false ∧ rh = 0 ∧ rl = 0 ∧ LIM ≤ ((z.natAbs : Nat) : Int))
theorem mul_gen {n m : Bool} {ha la hb lb za zb : Int} (ia : IsD n ha la za) (ib : IsD m hb lb zb) : ∃ rn rh rl er, (∀ W, Calls Try.prog 51 #[.agg #[.bool n, .int .u64 ha, .int .u64 la], .agg #[.bool m, .int .u64 hb, .int .u64 lb]] W fun e w' => e = .returned (.tuple #[.agg #[.bool rn, .int .u64 rh, .int .u64 rl], er]) ∧ Below W.heap.size W w') ∧ OkV (mulZ za zb) rn rh rl er := by
  by_cases h : (((mulZ za zb).natAbs : Nat) : Int) < LIM
  · exact ⟨_, _, _, _, fun W => mul_ok n m ha la hb lb za zb _ ia ib rfl h W, .inl ⟨rfl, IsD.of h⟩⟩
  · exact ⟨_, _, _, _, fun W => mul_over n m ha la hb lb za zb ia ib (by omega) W, .inr ⟨rfl, rfl, rfl, rfl, by omega⟩⟩
theorem div_gen {n m : Bool} {ha la hb lb za zb : Int} (ia : IsD n ha la za) (ib : IsD m hb lb zb) (hz : zb ≠ 0) : ∃ rn rh rl er, (∀ W, Calls Try.prog 45 #[.agg #[.bool n, .int .u64 ha, .int .u64 la], .agg #[.bool m, .int .u64 hb, .int .u64 lb]] W fun e w' => e = .returned (.tuple #[.agg #[.bool rn, .int .u64 rh, .int .u64 rl], er]) ∧ Below W.heap.size W w') ∧ OkV (divZ za zb) rn rh rl er := by
  by_cases h : (((divZ za zb).natAbs : Nat) : Int) < LIM
  · exact ⟨_, _, _, _, fun W => div_ok n m ha la hb lb za zb _ ia ib hz rfl h W, .inl ⟨rfl, IsD.of h⟩⟩
  · exact ⟨_, _, _, _, fun W => div_over n m ha la hb lb za zb ia ib hz (by omega) W, .inr ⟨rfl, rfl, rfl, rfl, by omega⟩⟩
theorem good_split (n : Bool) (h l : Int) (hh : Wd h) (hl : Wd l) : goodB n h l = false ∨ ∃ z, IsD n h l z := by
  cases hg : goodB n h l
  · exact .inl rfl
  · exact .inr ⟨_, of_good hh hl hg⟩
end Go.Proofs.Ytkhhjibpppmekaa
