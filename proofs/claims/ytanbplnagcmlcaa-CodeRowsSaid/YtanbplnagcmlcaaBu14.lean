/- Several texts put together: CodW. -/
import Derived.Test.YtanbplnagcmlcaaBu13
/- fieldfarelaw15.CodeRows: the walk. -/
namespace Go.Proofs.Ytanbplnagcmlcaa
open Go.RowKit
theorem rb_at {w : World} {B j : Nat} {A : Option Addr} {bs : List Nat} (h : RB w B A bs) (hj : j < bs.length) : ∃ ad q, A = some ad ∧ ad.add j = q ∧ q.block < B ∧ w.cell? q = some (.int .u8 ((bs[j] : Nat) : Int)) := by
  obtain ⟨ad, e, hb, hc⟩ := h.2 (by omega)
  exact ⟨ad, _, e, rfl, by rw [block_of_add]; exact hb, hc j hj⟩
/-- What the first loop has made. -/
structure RowSt (w : World) (base : Nat) (p wt : Value) (hi : Int) (lo : Bool) (bs : List Nat) (n : Nat) : Prop where
  p : w.ownsRow base 37 10 p n ((bs.map insVOf).flatMap insC)
  wt : w.ownsRow base 3 1 wt n ((wants 0 bs).map iv64)
  hi : hi = sumD bs
  lo : lo = lowFrom 0 bs
  n : bs.length = n
/-- Behind the first append. -/
structure RowMid (w : World) (base : Nat) (p wt : Value) (hi : Int) (lo : Bool) (bs : List Nat) (n : Nat) : Prop where
  p : w.ownsRow base 37 10 p n ((bs.map insVOf).flatMap insC)
  wt : w.ownsRow base 3 1 wt (n + 1) ((wants 0 bs).map iv64 ++ [.int .i64 hi])
  hi : hi = sumD bs
  lo : lo = lowFrom 0 bs
  n : bs.length = n
section
variable {w wr w9 w10 : World} {base n : Nat} {p wt v9 v10 : Value} {h : Int} {l : Bool} {bs : List Nat}
theorem RowSt.want (HS : RowSt wr base p wt h l bs n) (HB : Below base w wr) (hz : base ≤ wr.heap.size) (o : Obj) (hown : w9.ownsRow base 3 1 v9 (n + 1) ((wants 0 bs).map iv64 ++ [.int .i64 h])) (hg : (wr.alloc o).grownBy w9 wt.ownBlock) :
    RowMid w9 base p v9 h l bs n ∧ Below base w w9 :=
  ⟨⟨World.ownsRow.kept (World.ownsRow.alloc HS.p o) hg (own_apart HS.p HS.wt (by decide)), hown, HS.hi, HS.lo, HS.n⟩,
   (HB.alloc hz o).grown hg (by simp; omega) (fun k hk => (World.ownsRow.lt HS.wt k hk).1)⟩
theorem RowMid.ins (HS : RowMid wr base p wt h l bs n) (HB : Below base w wr) (hz : base ≤ wr.heap.size) (o : Obj) (b : Nat) {h' : Int} {l' : Bool} (hh : h' = h + deltaOf b) (hl : l' = (l || decide (h < needOf b)))
    (hown : w9.ownsRow base 37 10 v9 (n + 1) ((bs.map insVOf).flatMap insC ++ insC (insVOf b))) (hg : (wr.alloc o).grownBy w9 p.ownBlock) :
    RowSt w9 base v9 wt h' l' (bs ++ [b]) (n + 1) ∧ Below base w w9 := by
  refine ⟨⟨?_, ?_, ?_, ?_, by rw [List.length_append, HS.n]; rfl⟩, (HB.alloc hz o).grown hg (by simp; omega) (fun k hk => (World.ownsRow.lt HS.p k hk).1)⟩
  · rw [List.map_append, List.flatMap_append]
    simpa using hown
  · have := World.ownsRow.kept (World.ownsRow.alloc HS.wt o) hg (own_apart HS.wt HS.p (by decide))
    rw [wants_snoc, List.map_append, Int.zero_add, ← HS.hi]
    exact this
  · rw [sumD_snoc, ← HS.hi, hh]
  · rw [low_snoc, ← HS.lo, Int.zero_add, ← HS.hi, hl]
end
theorem low0 {w : World} {base n : Nat} {p wt : Value} {h : Int} {l : Bool} {bs : List Nat} (HS : RowMid w base p wt h l bs n) {b : Nat} (hb : needOf b = 0) : l = (l || decide (h < needOf b)) := by
  rw [hb]
  cases hl : l with
  | true => rfl
  | false =>
    have := low_ge bs 0 (by omega) (by rw [← HS.lo, hl])
    rw [Int.zero_add, ← HS.hi] at this
    rw [decide_eq_false (by omega)]; rfl
theorem rows_heights {V : World} {base m n10 : Nat} {A10 : Option Addr} {bs : List Nat} (h : V.ownsRow base 37 10 (.slice A10 m n10) m ((bs.map insVOf).flatMap insC ++ insC nextV)) (hm : m = bs.length + 1) (hbs : bs.length ≤ 60) {res : Option (List Int)} (hres : res = if lowFrom 0 bs then none else some (wants 0 bs ++ [sumD bs])) :
    Calls Try.prog 8 #[.agg #[.slice none 0 0, .slice none 0 0, .slice (some ⟨V.heap.size, 0, none⟩) 1 1, .slice none 0 0], .int .i64 0] (V.alloc (.cells #[.slice A10 m n10] 38)) (HPost res (V.alloc (.cells #[.slice A10 m n10] 38))) := by
  have h2 : V.ownsRow base 37 10 (.slice A10 m n10) m ((bs.map insVOf ++ [nextV]).flatMap insC) := by
    rw [List.flatMap_append]; simpa using h
  have := heights_any (rowC_ok (World.ownsRow.alloc h2 (.cells #[.slice A10 m n10] 38)) hm (Blk.new _ _ _)) (Nat.le_refl _) 0 (by unfold I64; omega) (by
    intro r hr
    simp only [rowC, List.mem_singleton] at hr
    subst hr
    simp; omega)
  rw [rowC_res _ _ (by omega), ← hres] at this
  exact this
theorem mod3 (b : Nat) : b % 3 = 0 ∨ b % 3 = 1 ∨ b % 3 = 2 := by omega
theorem ins_0 {b : Nat} (h : b % 3 = 0) : insVOf b = zi 1 { data := #[] } ∧ deltaOf b = 1 ∧ needOf b = 0 := by unfold insVOf deltaOf needOf; simp [h]
theorem ins_1 {b : Nat} (h : b % 3 = 1) : insVOf b = zi 3 { data := #[] } ∧ deltaOf b = -1 ∧ needOf b = 1 := by unfold insVOf deltaOf needOf; simp [h]
theorem ins_2 {b : Nat} (h : b % 3 = 2) : insVOf b = zi 15 { data := #[43] } ∧ deltaOf b = -1 ∧ needOf b = 2 := by unfold insVOf deltaOf needOf; simp [h]
set_option maxRecDepth 100000 in
set_option maxHeartbeats 3200000 in
theorem crows_law (A : Option Addr) (c : Nat) (bs : List Nat) (w : World) (hr : RB w w.heap.size A bs) (hc : bs.length ≤ c) (hA : A = none → bs = [] ∧ c = 0) :
    Calls Try.prog 4 #[.slice A bs.length c] w fun e w' => e = .returned (.bool true) ∧ Below w.heap.size w w' := by
  by_cases h60 : 60 < bs.length
  · clear hr hA
    have hd : decide ((60 : Int) < (bs.length : Int)) = true := by simp; omega
    go_enter Try.func4, Try.ntmps4
    go_wp2_with (go_at_call 5; refine (awake15_any _).mono ?_; rintro e w1 ⟨rfl, b1⟩)
    go_ret
    exact ⟨rfl, by (repeat' (first | (with_reducible exact Below.refl _ _) | (refine Below.trans ?_ (Below.mono (by with_reducible assumption) ?_)) | (with_reducible exact Below.refl _ _) | (with_reducible refine below_drewN ?_ _) | (with_reducible refine Below.drew ?_) | (with_reducible refine Below.setCell ?_ ?_ _) | (with_reducible refine Below.alloc ?_ ?_ _) | (with_reducible assumption) | (simp; done) | (simp; omega) | omega))⟩
  have hb60 : bs.length ≤ 60 := by omega
  have HR := Lib.hid hr
  obtain ⟨i2, hi2, hy0, hy1, hy2⟩ := info_parts info_inst
  obtain ⟨i0, hi, hz0, hz1, hz2⟩ := info_parts info_int
  clear hr hA
  go_enter Try.func4, Try.ntmps4
  go_wp2_with (go_at_call 5; refine (awake15_any _).mono ?_; rintro e w1 ⟨rfl, b1⟩; have HB1 := Lib.hid b1; clear b1)
  go_loopw [3, 4, 5, 6, 7] (fun p wt hi lo i wr => ∃ (j : Nat) (h : Int) (l : Bool), hi = .int .i64 h ∧ lo = .bool l ∧ i = .int .i64 (j : Int) ∧ j ≤ bs.length ∧ Hid (RowSt wr w.heap.size p wt h l (bs.take j) j) ∧ Hid (Below w.heap.size w wr)) (fun _ _ _ _ i _ => bs.length - (intOf i).toNat)
  case atStart => exact ⟨0, 0, false, rfl, rfl, rfl, Nat.zero_le _, Lib.hid ⟨World.ownsRow_nil _ _ _ _, World.ownsRow_nil _ _ _ _, rfl, rfl, rfl⟩, HB1⟩
  case round =>
    obtain ⟨j, h, l, rfl, rfl, rfl, hj, HS, HB⟩ := hrel
    have hzr := HB.out.size
    by_cases hlt : j < bs.length
    · obtain ⟨ad, q, rfl, hq, hqb, hcell⟩ := rb_at (HR.out.below HB.out) hlt
      have hqw : q.block < wr.heap.size := by omega
      have htl : (bs.take j).length = j := by rw [List.length_take]; omega
      obtain ⟨Ap, cp, hvp, hp1, hp2⟩ := own_slice HS.out.p
      obtain ⟨Aw, cw, hvw, hw1, hw2⟩ := own_slice HS.out.wt
      subst hvp hvw
      generalize hbj : bs[j] = b at hcell
      have HBJ := Lib.hid hbj
      clear hbj
      unfold maxLen at hp2 hw2
      have hab := sumD_abs (bs.take j)
      rw [htl, ← HS.out.hi] at hab
      rcases mod3 b with hm | hm | hm
      · have m0 : ((b : Int) % 3 == 0) = true := by simp; omega
        have HM := Lib.hid hm
        clear hm
        go_wp2_with (first
          | (at_builtin; (with_reducible refine wpList_append_any _ rfl (.tmp 22) (.tmp 24) 35 rfl w.heap.size 3 i0 (.int .i64 0) 1 8 Try.underlying35 hi hz0 hz1 hz2 rfl (by decide) (.slice Aw j cw) j _ (by simp [Act.eval, Act.put]) (World.ownsRow.alloc HS.out.wt _) _ (some ⟨wr.heap.size, 0, none⟩) 1 1 [.int .i64 h] (by simp [Act.eval, Act.put]) (reads_new rfl (by simp)) (by simp [Value.oneCell']) (by unfold maxLen; omega) (by omega) (by simp; omega) ?_); intro v9 w9 hown9 hg9 _; obtain ⟨hm9, hb9⟩ := HS.out.want HB.out hzr _ hown9 hg9; have HM9 := Lib.hid hm9; have HB9 := Lib.hid hb9; have hz9 := hb9.size; have c9 := Eq.trans (hb9.cell hqb) (Eq.trans (HB.out.cell hqb).symm hcell); obtain ⟨A9, n9, hv9, _, _⟩ := own_slice hown9; subst hv9; clear hown9 hg9 hm9 hb9)
          | (at_builtin; (with_reducible refine wpList_append_any _ rfl (.tmp 33) (.tmp 35) 38 rfl w.heap.size 37 i2 _ 10 104 Try.underlying38 hi2 hy0 hy1 hy2 rfl (by decide) (.slice Ap j cp) j _ (by simp [Act.eval, Act.put]) (World.ownsRow.alloc HM9.out.p _) _ (some ⟨w9.heap.size, 0, none⟩) 1 1 [.int .i64 1, .int .i64 0, .int .i64 0, .int .i64 0, .int .i64 0, .string { data := #[] }, .bool false, .int .u64 0, .int .u64 0, .slice none 0 0] (by simp [Act.eval, Act.put]) (reads_new rfl (by simp)) (by simp [Value.oneCell']) (by unfold maxLen; omega) (by omega) (by simp; omega) ?_); intro v10 w10 hown10 hg10 _; have HO10 := Lib.hid hown10; have HG10 := Lib.hid hg10; obtain ⟨A10, n10, hv10, _, _⟩ := own_slice hown10; subst hv10; clear hown10 hg10)
          | fail)
        go_roundw
        case rel =>
          obtain ⟨hs, hb⟩ := HM9.out.ins HB9.out hz9 _ b (h' := h + 1) (l' := l) (by rw [(ins_0 HM.out).2.1]) (low0 HM9.out (ins_0 HM.out).2.2) (by rw [(ins_0 HM.out).1]; exact HO10.out) HG10.out
          have e : bs.take j ++ [b] = bs.take (j + 1) := by rw [List.take_add_one, List.getElem?_eq_getElem hlt, HBJ.out]; rfl
          rw [e] at hs
          exact ⟨j + 1, h + 1, l, by go_num, rfl, by go_num, by omega, Lib.hid hs, Lib.hid hb⟩
        case measure => simp [intOf]; omega
      · have m0 : ((b : Int) % 3 == 0) = false := by simp; omega
        have m1 : ((b : Int) % 3 == 1) = true := by simp; omega
        have HM := Lib.hid hm
        clear hm
        cases l
        · go_wp2_with (first
            | (at_builtin; (with_reducible refine wpList_append_any _ rfl (.tmp 22) (.tmp 24) 35 rfl w.heap.size 3 i0 (.int .i64 0) 1 8 Try.underlying35 hi hz0 hz1 hz2 rfl (by decide) (.slice Aw j cw) j _ (by simp [Act.eval, Act.put]) (World.ownsRow.alloc HS.out.wt _) _ (some ⟨wr.heap.size, 0, none⟩) 1 1 [.int .i64 h] (by simp [Act.eval, Act.put]) (reads_new rfl (by simp)) (by simp [Value.oneCell']) (by unfold maxLen; omega) (by omega) (by simp; omega) ?_); intro v9 w9 hown9 hg9 _; obtain ⟨hm9, hb9⟩ := HS.out.want HB.out hzr _ hown9 hg9; have HM9 := Lib.hid hm9; have HB9 := Lib.hid hb9; have hz9 := hb9.size; have c9 := Eq.trans (hb9.cell hqb) (Eq.trans (HB.out.cell hqb).symm hcell); obtain ⟨A9, n9, hv9, _, _⟩ := own_slice hown9; subst hv9; clear hown9 hg9 hm9 hb9)
            | (at_builtin; (with_reducible refine wpList_append_any _ rfl (.tmp 41) (.tmp 43) 38 rfl w.heap.size 37 i2 _ 10 104 Try.underlying38 hi2 hy0 hy1 hy2 rfl (by decide) (.slice Ap j cp) j _ (by simp [Act.eval, Act.put]) (World.ownsRow.alloc HM9.out.p _) _ (some ⟨w9.heap.size, 0, none⟩) 1 1 [.int .i64 3, .int .i64 0, .int .i64 0, .int .i64 0, .int .i64 0, .string { data := #[] }, .bool false, .int .u64 0, .int .u64 0, .slice none 0 0] (by simp [Act.eval, Act.put]) (reads_new rfl (by simp)) (by simp [Value.oneCell']) (by unfold maxLen; omega) (by omega) (by simp; omega) ?_); intro v10 w10 hown10 hg10 _; have HO10 := Lib.hid hown10; have HG10 := Lib.hid hg10; obtain ⟨A10, n10, hv10, _, _⟩ := own_slice hown10; subst hv10; clear hown10 hg10)
            | fail)
          go_roundw
          case rel =>
            obtain ⟨hs, hb⟩ := HM9.out.ins HB9.out hz9 _ b (h' := h - 1) (l' := decide (h < 1)) (by rw [(ins_1 HM.out).2.1]; omega) (by rw [(ins_1 HM.out).2.2]; rfl) (by rw [(ins_1 HM.out).1]; exact HO10.out) HG10.out
            have e : bs.take j ++ [b] = bs.take (j + 1) := by rw [List.take_add_one, List.getElem?_eq_getElem hlt, HBJ.out]; rfl
            rw [e] at hs
            exact ⟨j + 1, h - 1, decide (h < 1), by go_num, rfl, by go_num, by omega, Lib.hid hs, Lib.hid hb⟩
          case measure => simp [intOf]; omega
        · go_wp2_with (first
            | (at_builtin; (with_reducible refine wpList_append_any _ rfl (.tmp 22) (.tmp 24) 35 rfl w.heap.size 3 i0 (.int .i64 0) 1 8 Try.underlying35 hi hz0 hz1 hz2 rfl (by decide) (.slice Aw j cw) j _ (by simp [Act.eval, Act.put]) (World.ownsRow.alloc HS.out.wt _) _ (some ⟨wr.heap.size, 0, none⟩) 1 1 [.int .i64 h] (by simp [Act.eval, Act.put]) (reads_new rfl (by simp)) (by simp [Value.oneCell']) (by unfold maxLen; omega) (by omega) (by simp; omega) ?_); intro v9 w9 hown9 hg9 _; obtain ⟨hm9, hb9⟩ := HS.out.want HB.out hzr _ hown9 hg9; have HM9 := Lib.hid hm9; have HB9 := Lib.hid hb9; have hz9 := hb9.size; have c9 := Eq.trans (hb9.cell hqb) (Eq.trans (HB.out.cell hqb).symm hcell); obtain ⟨A9, n9, hv9, _, _⟩ := own_slice hown9; subst hv9; clear hown9 hg9 hm9 hb9)
            | (at_builtin; (with_reducible refine wpList_append_any _ rfl (.tmp 41) (.tmp 43) 38 rfl w.heap.size 37 i2 _ 10 104 Try.underlying38 hi2 hy0 hy1 hy2 rfl (by decide) (.slice Ap j cp) j _ (by simp [Act.eval, Act.put]) (World.ownsRow.alloc HM9.out.p _) _ (some ⟨w9.heap.size, 0, none⟩) 1 1 [.int .i64 3, .int .i64 0, .int .i64 0, .int .i64 0, .int .i64 0, .string { data := #[] }, .bool false, .int .u64 0, .int .u64 0, .slice none 0 0] (by simp [Act.eval, Act.put]) (reads_new rfl (by simp)) (by simp [Value.oneCell']) (by unfold maxLen; omega) (by omega) (by simp; omega) ?_); intro v10 w10 hown10 hg10 _; have HO10 := Lib.hid hown10; have HG10 := Lib.hid hg10; obtain ⟨A10, n10, hv10, _, _⟩ := own_slice hown10; subst hv10; clear hown10 hg10)
            | fail)
          go_roundw
          case rel =>
            obtain ⟨hs, hb⟩ := HM9.out.ins HB9.out hz9 _ b (h' := h - 1) (l' := true) (by rw [(ins_1 HM.out).2.1]; omega) (by rfl) (by rw [(ins_1 HM.out).1]; exact HO10.out) HG10.out
            have e : bs.take j ++ [b] = bs.take (j + 1) := by rw [List.take_add_one, List.getElem?_eq_getElem hlt, HBJ.out]; rfl
            rw [e] at hs
            exact ⟨j + 1, h - 1, true, by go_num, rfl, by go_num, by omega, Lib.hid hs, Lib.hid hb⟩
          case measure => simp [intOf]; omega
      · have m0 : ((b : Int) % 3 == 0) = false := by simp; omega
        have m1 : ((b : Int) % 3 == 1) = false := by simp; omega
        have m2 : ((b : Int) % 3 == 2) = true := by simp; omega
        have HM := Lib.hid hm
        clear hm
        cases l
        · go_wp2_with (first
            | (at_builtin; (with_reducible refine wpList_append_any _ rfl (.tmp 22) (.tmp 24) 35 rfl w.heap.size 3 i0 (.int .i64 0) 1 8 Try.underlying35 hi hz0 hz1 hz2 rfl (by decide) (.slice Aw j cw) j _ (by simp [Act.eval, Act.put]) (World.ownsRow.alloc HS.out.wt _) _ (some ⟨wr.heap.size, 0, none⟩) 1 1 [.int .i64 h] (by simp [Act.eval, Act.put]) (reads_new rfl (by simp)) (by simp [Value.oneCell']) (by unfold maxLen; omega) (by omega) (by simp; omega) ?_); intro v9 w9 hown9 hg9 _; obtain ⟨hm9, hb9⟩ := HS.out.want HB.out hzr _ hown9 hg9; have HM9 := Lib.hid hm9; have HB9 := Lib.hid hb9; have hz9 := hb9.size; have c9 := Eq.trans (hb9.cell hqb) (Eq.trans (HB.out.cell hqb).symm hcell); obtain ⟨A9, n9, hv9, _, _⟩ := own_slice hown9; subst hv9; clear hown9 hg9 hm9 hb9)
            | (at_builtin; (with_reducible refine wpList_append_any _ rfl (.tmp 54) (.tmp 56) 38 rfl w.heap.size 37 i2 _ 10 104 Try.underlying38 hi2 hy0 hy1 hy2 rfl (by decide) (.slice Ap j cp) j _ (by simp [Act.eval, Act.put]) (World.ownsRow.alloc HM9.out.p _) _ (some ⟨w9.heap.size, 0, none⟩) 1 1 [.int .i64 15, .int .i64 0, .int .i64 0, .int .i64 0, .int .i64 0, .string { data := #[43] }, .bool false, .int .u64 0, .int .u64 0, .slice none 0 0] (by simp [Act.eval, Act.put]) (reads_new rfl (by simp)) (by simp [Value.oneCell']) (by unfold maxLen; omega) (by omega) (by simp; omega) ?_); intro v10 w10 hown10 hg10 _; have HO10 := Lib.hid hown10; have HG10 := Lib.hid hg10; obtain ⟨A10, n10, hv10, _, _⟩ := own_slice hown10; subst hv10; clear hown10 hg10)
            | fail)
          go_roundw
          case rel =>
            obtain ⟨hs, hb⟩ := HM9.out.ins HB9.out hz9 _ b (h' := h - 1) (l' := decide (h < 2)) (by rw [(ins_2 HM.out).2.1]; omega) (by rw [(ins_2 HM.out).2.2]; rfl) (by rw [(ins_2 HM.out).1]; exact HO10.out) HG10.out
            have e : bs.take j ++ [b] = bs.take (j + 1) := by rw [List.take_add_one, List.getElem?_eq_getElem hlt, HBJ.out]; rfl
            rw [e] at hs
            exact ⟨j + 1, h - 1, decide (h < 2), by go_num, rfl, by go_num, by omega, Lib.hid hs, Lib.hid hb⟩
          case measure => simp [intOf]; omega
        · go_wp2_with (first
            | (at_builtin; (with_reducible refine wpList_append_any _ rfl (.tmp 22) (.tmp 24) 35 rfl w.heap.size 3 i0 (.int .i64 0) 1 8 Try.underlying35 hi hz0 hz1 hz2 rfl (by decide) (.slice Aw j cw) j _ (by simp [Act.eval, Act.put]) (World.ownsRow.alloc HS.out.wt _) _ (some ⟨wr.heap.size, 0, none⟩) 1 1 [.int .i64 h] (by simp [Act.eval, Act.put]) (reads_new rfl (by simp)) (by simp [Value.oneCell']) (by unfold maxLen; omega) (by omega) (by simp; omega) ?_); intro v9 w9 hown9 hg9 _; obtain ⟨hm9, hb9⟩ := HS.out.want HB.out hzr _ hown9 hg9; have HM9 := Lib.hid hm9; have HB9 := Lib.hid hb9; have hz9 := hb9.size; have c9 := Eq.trans (hb9.cell hqb) (Eq.trans (HB.out.cell hqb).symm hcell); obtain ⟨A9, n9, hv9, _, _⟩ := own_slice hown9; subst hv9; clear hown9 hg9 hm9 hb9)
            | (at_builtin; (with_reducible refine wpList_append_any _ rfl (.tmp 54) (.tmp 56) 38 rfl w.heap.size 37 i2 _ 10 104 Try.underlying38 hi2 hy0 hy1 hy2 rfl (by decide) (.slice Ap j cp) j _ (by simp [Act.eval, Act.put]) (World.ownsRow.alloc HM9.out.p _) _ (some ⟨w9.heap.size, 0, none⟩) 1 1 [.int .i64 15, .int .i64 0, .int .i64 0, .int .i64 0, .int .i64 0, .string { data := #[43] }, .bool false, .int .u64 0, .int .u64 0, .slice none 0 0] (by simp [Act.eval, Act.put]) (reads_new rfl (by simp)) (by simp [Value.oneCell']) (by unfold maxLen; omega) (by omega) (by simp; omega) ?_); intro v10 w10 hown10 hg10 _; have HO10 := Lib.hid hown10; have HG10 := Lib.hid hg10; obtain ⟨A10, n10, hv10, _, _⟩ := own_slice hown10; subst hv10; clear hown10 hg10)
            | fail)
          go_roundw
          case rel =>
            obtain ⟨hs, hb⟩ := HM9.out.ins HB9.out hz9 _ b (h' := h - 1) (l' := true) (by rw [(ins_2 HM.out).2.1]; omega) (by rfl) (by rw [(ins_2 HM.out).1]; exact HO10.out) HG10.out
            have e : bs.take j ++ [b] = bs.take (j + 1) := by rw [List.take_add_one, List.getElem?_eq_getElem hlt, HBJ.out]; rfl
            rw [e] at hs
            exact ⟨j + 1, h - 1, true, by go_num, rfl, by go_num, by omega, Lib.hid hs, Lib.hid hb⟩
          case measure => simp [intOf]; omega
    · obtain rfl : j = bs.length := by omega
      rw [List.take_length] at HS
      have hzr := HB.out.size
      obtain ⟨Ap, cp, hvp, hp1, hp2⟩ := own_slice HS.out.p
      obtain ⟨Aw, cw, hvw, hw1, hw2⟩ := own_slice HS.out.wt
      subst hvp hvw
      unfold maxLen at hp2 hw2
      have hab := sumD_abs bs
      rw [← HS.out.hi] at hab
      cases hl : l with
      | true =>
        subst hl
        go_wp2_with (first
          | (at_builtin; (with_reducible refine wpList_append_any _ rfl (.tmp 65) (.tmp 67) 35 rfl w.heap.size 3 i0 (.int .i64 0) 1 8 Try.underlying35 hi hz0 hz1 hz2 rfl (by decide) (.slice Aw bs.length cw) bs.length _ (by simp [Act.eval, Act.put]) (World.ownsRow.alloc HS.out.wt _) _ (some ⟨wr.heap.size, 0, none⟩) 1 1 [.int .i64 h] (by simp [Act.eval, Act.put]) (reads_new rfl (by simp)) (by simp [Value.oneCell']) (by unfold maxLen; omega) (by omega) (by simp; omega) ?_); intro v9 w9 hown9 hg9 _; obtain ⟨hm9, hb9⟩ := HS.out.want HB.out hzr _ hown9 hg9; have HM9 := Lib.hid hm9; have HB9 := Lib.hid hb9; have hz9 := hb9.size; obtain ⟨A9, n9, hv9, hn91, hn92⟩ := own_slice hown9; subst hv9; clear hown9 hg9 hm9 hb9)
          | (at_builtin; (with_reducible refine wpList_append_any _ rfl (.tmp 70) (.tmp 72) 38 rfl w.heap.size 37 i2 _ 10 104 Try.underlying38 hi2 hy0 hy1 hy2 rfl (by decide) (.slice Ap bs.length cp) bs.length _ (by simp [Act.eval, Act.put]) (World.ownsRow.alloc HM9.out.p _) _ (some ⟨w9.heap.size, 0, none⟩) 1 1 [.int .i64 26, .int .i64 0, .int .i64 0, .int .i64 0, .int .i64 0, .string { data := #[] }, .bool false, .int .u64 0, .int .u64 0, .slice none 0 0] (by simp [Act.eval, Act.put]) (reads_new rfl (by simp)) (by simp [Value.oneCell']) (by unfold maxLen; omega) (by omega) (by simp; omega) ?_); intro v10 w10 hown10 hg10 _; have hb10 := (HB9.out.alloc hz9 _).grown hg10 (by simp; omega) (fun k hk => (World.ownsRow.lt HM9.out.p k hk).1); have HB10 := Lib.hid hb10; have hz10 := hb10.size; have HW10 := Lib.hid (World.ownsRow.kept (World.ownsRow.alloc HM9.out.wt _) hg10 (own_apart HM9.out.wt HM9.out.p (by decide))); obtain ⟨A10, n10, hv10, hn101, hn102⟩ := own_slice hown10; subst hv10; have HO10 := Lib.hid hown10; clear hown10 hg10 hb10)
          | (go_at_call 8; (with_reducible refine (rows_heights HO10.out rfl hb60 (res := none) (by rw [← HS.out.lo]; simp)).mono ?_); rintro e w11 ⟨b11, rfl⟩; have HB11 := Lib.hid ((HB10.out.alloc hz10 _).trans (b11.mono (by simp; omega))); clear b11)
          | fail)
        clear HO10 HW10 HM9
        go_loopw [10] (fun i wr => i = .int .i64 0 ∧ Hid (Below w.heap.size w wr)) (fun _ _ => 0)
        case atStart => exact ⟨rfl, HB11⟩
        case round =>
          obtain ⟨rfl, HBr⟩ := hrel
          go_wp2
          (try simp only [Exit.inBlock, Exit.then]); refine bodyPost_ret (by simp [results, Try.results4, go_sem, *]; try rfl) rfl ?_
          exact ⟨rfl, by first | exact HBr.out | (repeat' (first | (with_reducible exact Below.refl _ _) | (refine Below.trans ?_ (Below.mono (by with_reducible assumption) ?_)) | (with_reducible exact Below.refl _ _) | (with_reducible refine below_drewN ?_ _) | (with_reducible refine Below.drew ?_) | (with_reducible refine Below.setCell ?_ ?_ _) | (with_reducible refine Below.alloc ?_ ?_ _) | (with_reducible assumption) | (simp; done) | (simp; omega) | omega))⟩
      | false =>
        subst hl
        go_wp2_with (first
          | (at_builtin; (with_reducible refine wpList_append_any _ rfl (.tmp 65) (.tmp 67) 35 rfl w.heap.size 3 i0 (.int .i64 0) 1 8 Try.underlying35 hi hz0 hz1 hz2 rfl (by decide) (.slice Aw bs.length cw) bs.length _ (by simp [Act.eval, Act.put]) (World.ownsRow.alloc HS.out.wt _) _ (some ⟨wr.heap.size, 0, none⟩) 1 1 [.int .i64 h] (by simp [Act.eval, Act.put]) (reads_new rfl (by simp)) (by simp [Value.oneCell']) (by unfold maxLen; omega) (by omega) (by simp; omega) ?_); intro v9 w9 hown9 hg9 _; obtain ⟨hm9, hb9⟩ := HS.out.want HB.out hzr _ hown9 hg9; have HM9 := Lib.hid hm9; have HB9 := Lib.hid hb9; have hz9 := hb9.size; obtain ⟨A9, n9, hv9, hn91, hn92⟩ := own_slice hown9; subst hv9; clear hown9 hg9 hm9 hb9)
          | (at_builtin; (with_reducible refine wpList_append_any _ rfl (.tmp 70) (.tmp 72) 38 rfl w.heap.size 37 i2 _ 10 104 Try.underlying38 hi2 hy0 hy1 hy2 rfl (by decide) (.slice Ap bs.length cp) bs.length _ (by simp [Act.eval, Act.put]) (World.ownsRow.alloc HM9.out.p _) _ (some ⟨w9.heap.size, 0, none⟩) 1 1 [.int .i64 26, .int .i64 0, .int .i64 0, .int .i64 0, .int .i64 0, .string { data := #[] }, .bool false, .int .u64 0, .int .u64 0, .slice none 0 0] (by simp [Act.eval, Act.put]) (reads_new rfl (by simp)) (by simp [Value.oneCell']) (by unfold maxLen; omega) (by omega) (by simp; omega) ?_); intro v10 w10 hown10 hg10 _; have hb10 := (HB9.out.alloc hz9 _).grown hg10 (by simp; omega) (fun k hk => (World.ownsRow.lt HM9.out.p k hk).1); have HB10 := Lib.hid hb10; have hz10 := hb10.size; have HW10 := Lib.hid (World.ownsRow.kept (World.ownsRow.alloc HM9.out.wt _) hg10 (own_apart HM9.out.wt HM9.out.p (by decide))); obtain ⟨A10, n10, hv10, hn101, hn102⟩ := own_slice hown10; subst hv10; have HO10 := Lib.hid hown10; clear hown10 hg10 hb10)
          | (go_at_call 8; (with_reducible refine (rows_heights HO10.out rfl hb60 (res := some (wants 0 bs ++ [sumD bs])) (by rw [← HS.out.lo]; simp)).mono ?_); rintro e w11 ⟨b11, A5, n5, rfl, hn5, hr5⟩; rw [List.length_append, wants_len, List.length_singleton] at hn5 hr5 ⊢; have HR5 := Lib.hid hr5; have HW11 := Lib.hid (Reads.below (Reads.of_own (World.ownsRow.alloc HW10.out (.cells #[.slice A10 (bs.length + 1) n10] 38))) b11); have HB11 := Lib.hid ((HB10.out.alloc hz10 _).trans (b11.mono (by simp; omega))); have hz11 := b11.size; clear b11 hr5)
          | fail)
        clear HO10 HW10
        go_loopw [10] (fun i wr => ∃ k : Nat, i = .int .i64 (k : Int) ∧ k ≤ bs.length + 1 ∧ Hid (Below w11.heap.size w11 wr)) (fun i _ => bs.length + 1 - (intOf i).toNat)
        case atStart => exact ⟨0, rfl, Nat.zero_le _, Lib.hid (Below.refl _ _)⟩
        case round =>
          obtain ⟨k, rfl, hk, HBr⟩ := hrel
          by_cases hlt : k < bs.length + 1
          · have e : (wants 0 bs).map iv64 ++ [Value.int .i64 h] = (wants 0 bs ++ [sumD bs]).map iv64 := by rw [List.map_append, HM9.out.hi]; rfl
            obtain ⟨ad, q, v, rfl, hq, hqb, hv, hcell⟩ := vals_at (HR5.out.below HBr.out) hlt
            obtain ⟨ad2, q2, v2, rfl, hq2, hqb2, hv2, hcell2⟩ := vals_at ((HW11.out.more (by simpa using hz11)).below HBr.out) hlt
            rw [e, hv] at hv2
            injection hv2 with hv2
            subst hv2
            rw [List.getElem?_map, Option.map_eq_some_iff] at hv
            obtain ⟨z, _, rfl⟩ := hv
            unfold iv64 at hcell hcell2
            have hzz : (z != z) = false := by simp
            have hzw := HBr.out.size
            have hqz : q.block < wr.heap.size := by omega
            have hqz2 : q2.block < wr.heap.size := by omega
            clear e
            go_wp2
            go_region
            go_wp2
            go_roundw
            case rel => exact ⟨k + 1, by go_num, by omega, Lib.hid (HBr.out.trans (by (repeat' (first | (with_reducible exact Below.refl _ _) | (refine Below.trans ?_ (Below.mono (by with_reducible assumption) ?_)) | (with_reducible exact Below.refl _ _) | (with_reducible refine below_drewN ?_ _) | (with_reducible refine Below.drew ?_) | (with_reducible refine Below.setCell ?_ ?_ _) | (with_reducible refine Below.alloc ?_ ?_ _) | (with_reducible assumption) | (simp; done) | (simp; omega) | omega))))⟩
            case measure => simp [intOf]; omega
          · obtain rfl : k = bs.length + 1 := by omega
            go_wp2
            (try simp only [Exit.inBlock, Exit.then]); refine bodyPost_ret (by simp [results, Try.results4, go_sem, *]; try rfl) rfl ?_
            exact ⟨rfl, HB11.out.trans (Below.mono (by first | exact HBr.out | (repeat' (first | (with_reducible exact Below.refl _ _) | (refine Below.trans ?_ (Below.mono (by with_reducible assumption) ?_)) | (with_reducible exact Below.refl _ _) | (with_reducible refine below_drewN ?_ _) | (with_reducible refine Below.drew ?_) | (with_reducible refine Below.setCell ?_ ?_ _) | (with_reducible refine Below.alloc ?_ ?_ _) | (with_reducible assumption) | (simp; done) | (simp; omega) | omega))) HB11.out.size)⟩
end Go.Proofs.Ytanbplnagcmlcaa
