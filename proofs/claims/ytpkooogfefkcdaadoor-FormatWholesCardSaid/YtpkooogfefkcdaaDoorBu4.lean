/- Several texts put together: FmtD. -/
import Derived.Test.YtpkooogfefkcdaaDoorBu3
import Derived.WalkMore
/- Layer 8: format.read. -/
namespace Go.Proofs.YtpkooogfefkcdaaDoor
open Go.RowKit
theorem flags_45 (r : List Nat) (f : FlagsF) : flagsL (45 :: r) f = ((flagsL r { f with left := true }).1, (flagsL r { f with left := true }).2 + 1) := rfl
theorem flags_48 (r : List Nat) (f : FlagsF) : flagsL (48 :: r) f = ((flagsL r { f with zero := true }).1, (flagsL r { f with zero := true }).2 + 1) := rfl
theorem flags_43 (r : List Nat) (f : FlagsF) : flagsL (43 :: r) f = ((flagsL r { f with plus := true }).1, (flagsL r { f with plus := true }).2 + 1) := rfl
theorem flags_32 (r : List Nat) (f : FlagsF) : flagsL (32 :: r) f = ((flagsL r { f with blank := true }).1, (flagsL r { f with blank := true }).2 + 1) := rfl
theorem flags_no (c : Nat) (r : List Nat) (f : FlagsF) (h1 : c ≠ 45) (h2 : c ≠ 48) (h3 : c ≠ 43) (h4 : c ≠ 32) : flagsL (c :: r) f = (f, 0) := by
  unfold flagsL
  split
  · rename_i e; simp at e; omega
  · rename_i e; simp at e; omega
  · rename_i e; simp at e; omega
  · rename_i e; simp at e; omega
  · rfl
theorem flags_nil (f : FlagsF) : flagsL [] f = (f, 0) := rfl
/-- A spec's cells. -/
def specC (a : Nat) (f : FlagsF) (width : Int) (prec : Int) (sw sp : Bool) (verb next : Nat) : Array Value :=
  #[.int .i64 (a : Int), .bool f.left, .bool f.zero, .bool f.plus, .bool f.blank, .int .i64 width, .int .i64 prec, .bool sw, .bool sp, .int .u8 (verb : Int), .int .i64 (next : Int)]
def zeroC : Array Value := #[.int .i64 0, .bool false, .bool false, .bool false, .bool false, .int .i64 0, .int .i64 0, .bool false, .bool false, .int .u8 0, .int .i64 0]
theorem idx_verb : ∀ c, c < 256 → decide (0 ≤ Lib.indexByte [100, 105, 111, 120, 88, 102, 115, 99] (UInt8.ofNat c)) = isVerb c := by decide +kernel
theorem verb_any (c : Nat) (hc : c < 256) : ∃ v : Int, decide (0 ≤ v) = isVerb c ∧ ∀ W, Calls Tryd.prog 27 #[.string { data := #[100, 105, 111, 120, 88, 102, 115, 99] }, .int .u8 (c : Int)] W fun e w' => e = .returned (.int .i64 v) ∧ w' = W := by
  refine ⟨_, idx_verb c hc, fun W => ?_⟩
  have := Tryd.strings_IndexByte { data := #[100, 105, 111, 120, 88, 102, 115, 99] } (c : Int) W
  exact this
theorem store11 {w : World} {g : Nat} {t : TypeId} {b : Array Value} (h : Blk w g t b) (hb : b.size = 11) (v0 v1 v2 v3 v4 v5 v6 v7 v8 v9 v10 : Value) :
    Blk (((((((((((w.setCell ⟨g, 0, none⟩ v0).setCell ⟨g, 1, none⟩ v1).setCell ⟨g, 2, none⟩ v2).setCell ⟨g, 3, none⟩ v3).setCell ⟨g, 4, none⟩ v4).setCell ⟨g, 5, none⟩ v5).setCell ⟨g, 6, none⟩ v6).setCell ⟨g, 7, none⟩ v7).setCell ⟨g, 8, none⟩ v8).setCell ⟨g, 9, none⟩ v9).setCell ⟨g, 10, none⟩ v10) g t #[v0, v1, v2, v3, v4, v5, v6, v7, v8, v9, v10] := by
  obtain ⟨l⟩ := b
  match l, hb with
  | [a0, a1, a2, a3, a4, a5, a6, a7, a8, a9, a10], _ =>
    have := (((((((((((h.set_ 0 v0).set_ 1 v1).set_ 2 v2).set_ 3 v3).set_ 4 v4).set_ 5 v5).set_ 6 v6).set_ 7 v7).set_ 8 v8).set_ 9 v9).set_ 10 v10)
    simpa only [List.setIfInBounds_toArray, List.set_cons_zero, List.set_cons_succ] using this
theorem read_no {l : List Nat} {f : FlagsF} {j n k : Nat} {st : Bool} (hf : flagsL l ⟨false, false, false, false⟩ = (f, j)) (hs : sizeL (l.drop j) = (n, st, k)) (hd : ((l.drop j).drop k).head? ≠ some 46) :
    readL l = match (l.drop j).drop k with
      | c :: _ => if isVerb c then ⟨f, n, -1, st, false, c, 1 + j + k + 0 + 1⟩ else ⟨f, n, -1, st, false, 0, 0⟩
      | [] => ⟨f, n, -1, st, false, 0, 0⟩ := by
  unfold readL
  simp only [hf, hs]
  generalize (l.drop j).drop k = r at hd ⊢
  cases r with
  | nil => rfl
  | cons c r =>
    rw [precP_no c r (fun e => hd (by rw [e]; rfl))]
    rfl
theorem read_dot {l r3 : List Nat} {f : FlagsF} {j n k n2 k2 : Nat} {st st2 : Bool} (hf : flagsL l ⟨false, false, false, false⟩ = (f, j)) (hs : sizeL (l.drop j) = (n, st, k)) (hd : (l.drop j).drop k = 46 :: r3) (hs2 : sizeL r3 = (n2, st2, k2)) :
    readL l = match r3.drop k2 with
      | c :: _ => if isVerb c then ⟨f, n, (n2 : Int), st, st2, c, 1 + j + k + (k2 + 1) + 1⟩ else ⟨f, n, (n2 : Int), st, st2, 0, 0⟩
      | [] => ⟨f, n, (n2 : Int), st, st2, 0, 0⟩ := by
  unfold readL
  simp only [hf, hs, hd, precP_dot, hs2, List.drop_succ_cons]
  rfl
set_option maxRecDepth 100000 in
set_option maxHeartbeats 3200000 in
theorem read_any (L : List Nat) (hL : ∀ x ∈ L, x < 256) (hm : L.length ≤ 1000000) (a : Nat) (ha : a < L.length) (w : World) :
    Calls Tryd.prog 29 #[.string (strN L), .int .i64 (a : Int)] w fun e w' => e = .returned (.agg (specC a (readL (L.drop (a + 1))).fl (readL (L.drop (a + 1))).width (readL (L.drop (a + 1))).prec (readL (L.drop (a + 1))).sw (readL (L.drop (a + 1))).sp (readL (L.drop (a + 1))).verb (if (readL (L.drop (a + 1))).verb = 0 then 0 else a + (readL (L.drop (a + 1))).len))) ∧ Below w.heap.size w w' := by
  have hsz := strN_size L
  have hget := fun i h h' => get_at hL i h h'
  have HSI := Lib.hid (fun (q : Nat) (hq : q ≤ L.length) W => size_any L hL hm q hq W)
  generalize strN L = S at hsz hget HSI ⊢
  have HG := Lib.hid hget
  clear hget
  go_enter Tryd.func29, Tryd.ntmps29
  go_wp2
  go_step3
  go_wp2
  go_step3
  go_wp2
  generalize hW1 : (World.alloc _ _ : World) = W1
  have hb1 : Below w.heap.size w W1 := by rw [← hW1]; (repeat' (first | (with_reducible exact Below.refl _ _) | (refine Below.trans ?_ (Below.mono (by with_reducible assumption) ?_)) | (with_reducible exact Below.refl _ _) | (with_reducible refine below_drewN ?_ _) | (with_reducible refine Below.drew ?_) | (with_reducible refine Below.setCell ?_ ?_ _) | (with_reducible refine Below.alloc ?_ ?_ _) | (with_reducible assumption) | (simp; done) | (simp; omega) | omega))
  have hs1 : Blk W1 (w.heap.size + 1) 52 (specC a ⟨false, false, false, false⟩ 0 (-1) false false 0 0) := by
    rw [← hW1]
    have := Blk.new (w.alloc (.cells zeroC 52)) 52 (specC a ⟨false, false, false, false⟩ 0 (-1) false false 0 0)
    rw [World.size_alloc] at this
    exact this
  have hz1 : Blk W1 w.heap.size 52 zeroC := by rw [← hW1]; exact (Blk.new w 52 zeroC).alloc _
  have HB1 := Lib.hid hb1
  have HS1 := Lib.hid hs1
  have HZ1 := Lib.hid hz1
  clear hW1 hb1 hs1 hz1
  go_loopw [1] (fun x wr => ∃ (q : Nat) (f : FlagsF), x = .int .i64 (q : Int) ∧ a < q ∧ q ≤ L.length ∧ Hid (flagsL (L.drop (a + 1)) ⟨false, false, false, false⟩ = ((flagsL (L.drop q) f).1, (q - (a + 1)) + (flagsL (L.drop q) f).2)) ∧ Hid (Blk wr (w.heap.size + 1) 52 (specC a f 0 (-1) false false 0 0)) ∧ Hid (Blk wr w.heap.size 52 zeroC) ∧ Hid (Below w.heap.size w wr)) (fun x _ => L.length - (intOf x).toNat)
  case atStart => exact ⟨a + 1, _, by go_num, by omega, by omega, Lib.hid (by simp), HS1, HZ1, HB1⟩
  case round =>
    obtain ⟨q, f, rfl, hq1, hq2, HFr, HBr, HZr, HWr⟩ := hrel
    have c1 := HBr.out.cell 1
    have c2 := HBr.out.cell 2
    have c3 := HBr.out.cell 3
    have c4 := HBr.out.cell 4
    have f1 := HBr.out.frozen 1
    have f2 := HBr.out.frozen 2
    have f3 := HBr.out.frozen 3
    have f4 := HBr.out.frozen 4
    simp only [specC, List.getElem?_toArray, List.getElem?_cons_zero, List.getElem?_cons_succ] at c1 c2 c3 c4
    by_cases hlt : q < L.length
    · have hSq : q < S.size := by omega
      have gq := HG.out q hlt hSq
      have hdr : L.drop q = L[q] :: L.drop (q + 1) := List.drop_eq_getElem_cons hlt
      generalize L[q] = d at gq hdr
      by_cases h45 : d = 45
      · subst h45
        have HN := Lib.hid (HFr.out.trans (by rw [hdr, flags_45]))
        clear hdr
        go_wp2
        all_goals
          go_roundw
          case rel => exact ⟨q + 1, { f with left := true }, by go_num, by omega, by omega, Lib.hid (by rw [HN.out]; congr 1; omega), Lib.hid (HBr.out.set_ 1 (.bool true)), Lib.hid (HZr.out.far (by show w.heap.size ≠ w.heap.size + 1; omega) _), Lib.hid (HWr.out.setCell (by show w.heap.size ≤ w.heap.size + 1; omega) _)⟩
          case measure => simp [intOf]; omega
      by_cases h48 : d = 48
      · subst h48
        have HN := Lib.hid (HFr.out.trans (by rw [hdr, flags_48]))
        clear hdr
        go_wp2
        all_goals
          go_roundw
          case rel => exact ⟨q + 1, { f with zero := true }, by go_num, by omega, by omega, Lib.hid (by rw [HN.out]; congr 1; omega), Lib.hid (HBr.out.set_ 2 (.bool true)), Lib.hid (HZr.out.far (by show w.heap.size ≠ w.heap.size + 1; omega) _), Lib.hid (HWr.out.setCell (by show w.heap.size ≤ w.heap.size + 1; omega) _)⟩
          case measure => simp [intOf]; omega
      by_cases h43 : d = 43
      · subst h43
        have HN := Lib.hid (HFr.out.trans (by rw [hdr, flags_43]))
        clear hdr
        go_wp2
        all_goals
          go_roundw
          case rel => exact ⟨q + 1, { f with plus := true }, by go_num, by omega, by omega, Lib.hid (by rw [HN.out]; congr 1; omega), Lib.hid (HBr.out.set_ 3 (.bool true)), Lib.hid (HZr.out.far (by show w.heap.size ≠ w.heap.size + 1; omega) _), Lib.hid (HWr.out.setCell (by show w.heap.size ≤ w.heap.size + 1; omega) _)⟩
          case measure => simp [intOf]; omega
      by_cases h32 : d = 32
      · subst h32
        have HN := Lib.hid (HFr.out.trans (by rw [hdr, flags_32]))
        clear hdr
        go_wp2
        all_goals
          go_roundw
          case rel => exact ⟨q + 1, { f with blank := true }, by go_num, by omega, by omega, Lib.hid (by rw [HN.out]; congr 1; omega), Lib.hid (HBr.out.set_ 4 (.bool true)), Lib.hid (HZr.out.far (by show w.heap.size ≠ w.heap.size + 1; omega) _), Lib.hid (HWr.out.setCell (by show w.heap.size ≤ w.heap.size + 1; omega) _)⟩
          case measure => simp [intOf]; omega
      have HE : Hid (flagsL (L.drop (a + 1)) ⟨false, false, false, false⟩ = (f, q - (a + 1))) := Lib.hid (HFr.out.trans (by rw [hdr, flags_no d _ f h45 h48 h43 h32]; rfl))
      have e45 : ((d : Int) == 45) = false := beq_false_of_ne (by omega)
      have e48 : ((d : Int) == 48) = false := beq_false_of_ne (by omega)
      have e43 : ((d : Int) == 43) = false := beq_false_of_ne (by omega)
      have e32 : ((d : Int) == 32) = false := beq_false_of_ne (by omega)
      clear hdr h45 h48 h43 h32
      have HSZ := Lib.hid (HSI.out q hq2)
      have hkl := sizeL_len (L.drop q)
      rw [List.length_drop] at hkl
      obtain ⟨n1, st1, k1, hs1⟩ : ∃ n st k, sizeL (L.drop q) = (n, st, k) := ⟨_, _, _, rfl⟩
      rw [hs1] at HSZ hkl
      obtain ⟨q2, hq2e⟩ : ∃ q2, q2 = q + k1 := ⟨_, rfl⟩
      rw [← hq2e] at HSZ
      have hq2l : q2 ≤ L.length := by have := hkl.1; dsimp only at this; omega
      have hn1 : n1 < 1000 := hkl.2
      have HQ2 := Lib.hid hq2e
      clear hkl hq2e
      have c0 := HBr.out.cell 0
      have c5 := HBr.out.cell 5
      have c6 := HBr.out.cell 6
      have c7 := HBr.out.cell 7
      have c8 := HBr.out.cell 8
      have c9 := HBr.out.cell 9
      have c10 := HBr.out.cell 10
      have f5 := HBr.out.frozen 5
      have f6 := HBr.out.frozen 6
      have f7 := HBr.out.frozen 7
      have f8 := HBr.out.frozen 8
      have f9 := HBr.out.frozen 9
      have f10 := HBr.out.frozen 10
      simp only [specC, List.getElem?_toArray, List.getElem?_cons_zero, List.getElem?_cons_succ] at c0 c5 c6 c7 c8 c9 c10
      have z0 := HZr.out.cell 0
      have y0 := HZr.out.frozen 0
      have z1 := HZr.out.cell 1
      have y1 := HZr.out.frozen 1
      have z2 := HZr.out.cell 2
      have y2 := HZr.out.frozen 2
      have z3 := HZr.out.cell 3
      have y3 := HZr.out.frozen 3
      have z4 := HZr.out.cell 4
      have y4 := HZr.out.frozen 4
      have z5 := HZr.out.cell 5
      have y5 := HZr.out.frozen 5
      have z6 := HZr.out.cell 6
      have y6 := HZr.out.frozen 6
      have z7 := HZr.out.cell 7
      have y7 := HZr.out.frozen 7
      have z8 := HZr.out.cell 8
      have y8 := HZr.out.frozen 8
      have z9 := HZr.out.cell 9
      have y9 := HZr.out.frozen 9
      have z10 := HZr.out.cell 10
      have y10 := HZr.out.frozen 10
      simp only [zeroC, List.getElem?_toArray, List.getElem?_cons_zero, List.getElem?_cons_succ] at z0 z1 z2 z3 z4 z5 z6 z7 z8 z9 z10
      have hdd : (L.drop (a + 1)).drop (q - (a + 1)) = L.drop q := by rw [List.drop_drop]; congr 1; omega
      have hs1' : sizeL ((L.drop (a + 1)).drop (q - (a + 1))) = (n1, st1, k1) := by rw [hdd]; exact hs1
      have hd2 : ((L.drop (a + 1)).drop (q - (a + 1))).drop k1 = L.drop q2 := by rw [hdd, List.drop_drop, HQ2.out]
      clear hdd hs1
      rcases Nat.lt_or_ge q2 L.length with hl2 | hl2
      · have hS2 : q2 < S.size := by omega
        have g2 := HG.out q2 hl2 hS2
        have hdr2 : L.drop q2 = L[q2] :: L.drop (q2 + 1) := List.drop_eq_getElem_cons hl2
        have h256 := hL _ (List.getElem_mem hl2)
        generalize L[q2] = x2 at g2 hdr2 h256
        by_cases h46 : x2 = 46
        · subst h46
          have hkl2 := sizeL_len (L.drop (q2 + 1))
          rw [List.length_drop] at hkl2
          have HSZ20 := Lib.hid (fun W => show Calls Tryd.prog 42 #[.string S, .int .i64 ((q2 : Int) + 1)] W _ from HSI.out (q2 + 1) hl2 W)
          obtain ⟨n2, st2, k2, hs2⟩ : ∃ n st k, sizeL (L.drop (q2 + 1)) = (n, st, k) := ⟨_, _, _, rfl⟩
          rw [hs2] at HSZ20 hkl2
          obtain ⟨q4, hq4e⟩ : ∃ q4, q4 = q2 + 1 + k2 := ⟨_, rfl⟩
          rw [← hq4e] at HSZ20
          have HSZ2 := HSZ20
          have hq4l : q4 ≤ L.length := by have := hkl2.1; dsimp only at this; omega
          have hn2 : n2 < 1000 := hkl2.2
          have hd4 : (L.drop (q2 + 1)).drop k2 = L.drop q4 := by rw [List.drop_drop, hq4e]
          have hR := read_dot HE.out hs1' (hd2.trans hdr2) hs2
          rw [hd4] at hR
          have HQ4 := Lib.hid hq4e
          clear hkl2 hq4e hs2 hd4 hs1' hd2 hdr2 HSZ20
          rcases Nat.lt_or_ge q4 L.length with hl4 | hl4
          · have hS4 : q4 < S.size := by omega
            have g4 := HG.out q4 hl4 hS4
            have hdr4 : L.drop q4 = L[q4] :: L.drop (q4 + 1) := List.drop_eq_getElem_cons hl4
            have h2564 := hL _ (List.getElem_mem hl4)
            generalize L[q4] = x4 at g4 hdr4 h2564
            rw [hdr4] at hR
            dsimp only at hR
            obtain ⟨v, hv, hcv⟩ := verb_any x4 h2564
            have HCV := Lib.hid hcv
            cases hx : isVerb x4
            · rw [hx] at hR hv
              have HRR := Lib.hid (show readL (L.drop (a + 1)) = ⟨f, n1, (n2 : Int), st1, st2, 0, 0⟩ from hR)
              clear hdr4 hR hcv hx
              go_wp2_with (first
                  | (go_at_call 42; (with_reducible refine (HSZ.out _).mono ?_); rintro e w2 ⟨rfl, rfl⟩)
                  | (go_at_call 42; (with_reducible refine (HSZ2.out _).mono ?_); rintro e w3 ⟨rfl, rfl⟩)
                  | (go_at_call 27; (with_reducible refine (HCV.out _).mono ?_); rintro e w4 ⟨rfl, rfl⟩)
                  | fail)
              generalize hW9 : (World.setCell _ _ _ : World) = w9
              have hb9 : Below w.heap.size w w9 := by
                rw [← hW9]
                repeat (first | (with_reducible exact HWr.out) | (with_reducible refine Below.setCell ?_ (by first | exact Nat.le_refl _ | exact Nat.le_succ _) _))
              have hfin : Blk w9 w.heap.size 52 #[.int .i64 (a : Int), .bool f.left, .bool f.zero, .bool f.plus, .bool f.blank, .int .i64 (n1 : Int), .int .i64 (n2 : Int), .bool st1, .bool st2, .int .u8 0, .int .i64 0] := by
                rw [← hW9]
                with_reducible refine store11 (b := zeroC) ?_ rfl _ _ _ _ _ _ _ _ _ _ _
                repeat (first | (with_reducible exact HZr.out) | (with_reducible refine Blk.far ?_ (show w.heap.size ≠ w.heap.size + 1 by omega) _))
              have kk0 := hfin.cell 0
              have kk1 := hfin.cell 1
              have kk2 := hfin.cell 2
              have kk3 := hfin.cell 3
              have kk4 := hfin.cell 4
              have kk5 := hfin.cell 5
              have kk6 := hfin.cell 6
              have kk7 := hfin.cell 7
              have kk8 := hfin.cell 8
              have kk9 := hfin.cell 9
              have kk10 := hfin.cell 10
              simp only [List.getElem?_toArray, List.getElem?_cons_zero, List.getElem?_cons_succ] at kk0 kk1 kk2 kk3 kk4 kk5 kk6 kk7 kk8 kk9 kk10
              clear hW9 hfin
              clear c0 c1 c2 c3 c4 c5 c6 c7 c8 c9 c10 f1 f2 f3 f4 f5 f6 f7 f8 f9 f10 z0 z1 z2 z3 z4 z5 z6 z7 z8 z9 z10 y0 y1 y2 y3 y4 y5 y6 y7 y8 y9 y10
              (try rw [Exit.noGoto_ret])
              (try simp only [Exit.inBlock, Exit.then]); refine bodyPost_ret (by simp [results, Tryd.results29, go_sem, *]; try rfl) rfl ?_
              refine ⟨?_, hb9⟩
              rw [HRR.out]
              rfl
            · rw [hx] at hR hv
              have HRR := Lib.hid (show readL (L.drop (a + 1)) = ⟨f, n1, (n2 : Int), st1, st2, x4, 1 + (q - (a + 1)) + k1 + (k2 + 1) + 1⟩ from hR)
              have hx0 : x4 ≠ 0 := fun e => by subst e; cases hx
              clear hdr4 hR hcv hx
              go_wp2_with (first
                  | (go_at_call 42; (with_reducible refine (HSZ.out _).mono ?_); rintro e w2 ⟨rfl, rfl⟩)
                  | (go_at_call 42; (with_reducible refine (HSZ2.out _).mono ?_); rintro e w3 ⟨rfl, rfl⟩)
                  | (go_at_call 27; (with_reducible refine (HCV.out _).mono ?_); rintro e w4 ⟨rfl, rfl⟩)
                  | fail)
              generalize hW9 : (World.setCell _ _ _ : World) = w9
              have hb9 : Below w.heap.size w w9 := by
                rw [← hW9]
                repeat (first | (with_reducible exact HWr.out) | (with_reducible refine Below.setCell ?_ (by first | exact Nat.le_refl _ | exact Nat.le_succ _) _))
              have hfin : Blk w9 w.heap.size 52 #[.int .i64 (a : Int), .bool f.left, .bool f.zero, .bool f.plus, .bool f.blank, .int .i64 (n1 : Int), .int .i64 (n2 : Int), .bool st1, .bool st2, .int .u8 (x4 : Int), .int .i64 ((q4 : Int) + 1)] := by
                rw [← hW9]
                with_reducible refine store11 (b := zeroC) ?_ rfl _ _ _ _ _ _ _ _ _ _ _
                repeat (first | (with_reducible exact HZr.out) | (with_reducible refine Blk.far ?_ (show w.heap.size ≠ w.heap.size + 1 by omega) _))
              have kk0 := hfin.cell 0
              have kk1 := hfin.cell 1
              have kk2 := hfin.cell 2
              have kk3 := hfin.cell 3
              have kk4 := hfin.cell 4
              have kk5 := hfin.cell 5
              have kk6 := hfin.cell 6
              have kk7 := hfin.cell 7
              have kk8 := hfin.cell 8
              have kk9 := hfin.cell 9
              have kk10 := hfin.cell 10
              simp only [List.getElem?_toArray, List.getElem?_cons_zero, List.getElem?_cons_succ] at kk0 kk1 kk2 kk3 kk4 kk5 kk6 kk7 kk8 kk9 kk10
              clear hW9 hfin
              clear c0 c1 c2 c3 c4 c5 c6 c7 c8 c9 c10 f1 f2 f3 f4 f5 f6 f7 f8 f9 f10 z0 z1 z2 z3 z4 z5 z6 z7 z8 z9 z10 y0 y1 y2 y3 y4 y5 y6 y7 y8 y9 y10
              (try rw [Exit.noGoto_ret])
              (try simp only [Exit.inBlock, Exit.then]); refine bodyPost_ret (by simp [results, Tryd.results29, go_sem, *]; try rfl) rfl ?_
              refine ⟨?_, hb9⟩
              rw [HRR.out]
              have hh : ((q4 : Int) + 1) = ((a + (1 + (q - (a + 1)) + k1 + (k2 + 1) + 1) : Nat) : Int) := by have := HQ2.out; have := HQ4.out; omega
              rw [hh]
              simp only [specC]
              rw [if_neg hx0]
          · obtain rfl : q4 = L.length := by omega
            rw [List.drop_length] at hR
            have HRR := Lib.hid (show readL (L.drop (a + 1)) = ⟨f, n1, (n2 : Int), st1, st2, 0, 0⟩ from hR)
            clear hR
            go_wp2_with (first
                | (go_at_call 42; (with_reducible refine (HSZ.out _).mono ?_); rintro e w2 ⟨rfl, rfl⟩)
                | (go_at_call 42; (with_reducible refine (HSZ2.out _).mono ?_); rintro e w3 ⟨rfl, rfl⟩)
                | fail)
            generalize hW9 : (World.setCell _ _ _ : World) = w9
            have hb9 : Below w.heap.size w w9 := by
              rw [← hW9]
              repeat (first | (with_reducible exact HWr.out) | (with_reducible refine Below.setCell ?_ (by first | exact Nat.le_refl _ | exact Nat.le_succ _) _))
            have hfin : Blk w9 w.heap.size 52 #[.int .i64 (a : Int), .bool f.left, .bool f.zero, .bool f.plus, .bool f.blank, .int .i64 (n1 : Int), .int .i64 (n2 : Int), .bool st1, .bool st2, .int .u8 0, .int .i64 0] := by
              rw [← hW9]
              with_reducible refine store11 (b := zeroC) ?_ rfl _ _ _ _ _ _ _ _ _ _ _
              repeat (first | (with_reducible exact HZr.out) | (with_reducible refine Blk.far ?_ (show w.heap.size ≠ w.heap.size + 1 by omega) _))
            have kk0 := hfin.cell 0
            have kk1 := hfin.cell 1
            have kk2 := hfin.cell 2
            have kk3 := hfin.cell 3
            have kk4 := hfin.cell 4
            have kk5 := hfin.cell 5
            have kk6 := hfin.cell 6
            have kk7 := hfin.cell 7
            have kk8 := hfin.cell 8
            have kk9 := hfin.cell 9
            have kk10 := hfin.cell 10
            simp only [List.getElem?_toArray, List.getElem?_cons_zero, List.getElem?_cons_succ] at kk0 kk1 kk2 kk3 kk4 kk5 kk6 kk7 kk8 kk9 kk10
            clear hW9 hfin
            clear c0 c1 c2 c3 c4 c5 c6 c7 c8 c9 c10 f1 f2 f3 f4 f5 f6 f7 f8 f9 f10 z0 z1 z2 z3 z4 z5 z6 z7 z8 z9 z10 y0 y1 y2 y3 y4 y5 y6 y7 y8 y9 y10
            (try rw [Exit.noGoto_ret])
            (try simp only [Exit.inBlock, Exit.then]); refine bodyPost_ret (by simp [results, Tryd.results29, go_sem, *]; try rfl) rfl ?_
            refine ⟨?_, hb9⟩
            rw [HRR.out]
            rfl
        · have e46 : ((x2 : Int) == 46) = false := beq_false_of_ne (by omega)
          have hR := read_no HE.out hs1' (by rw [hd2, hdr2]; simp [h46])
          rw [hd2, hdr2] at hR
          dsimp only at hR
          obtain ⟨v, hv, hcv⟩ := verb_any x2 h256
          have HCV := Lib.hid hcv
          cases hx : isVerb x2
          · rw [hx] at hR hv
            have HRR := Lib.hid (show readL (L.drop (a + 1)) = ⟨f, n1, -1, st1, false, 0, 0⟩ from hR)
            clear hs1' hd2 hdr2 hR hcv hx h46
            go_wp2_with (first
                | (go_at_call 42; (with_reducible refine (HSZ.out _).mono ?_); rintro e w2 ⟨rfl, rfl⟩)
                | (go_at_call 27; (with_reducible refine (HCV.out _).mono ?_); rintro e w3 ⟨rfl, rfl⟩)
                | fail)
            generalize hW9 : (World.setCell _ _ _ : World) = w9
            have hb9 : Below w.heap.size w w9 := by
              rw [← hW9]
              repeat (first | (with_reducible exact HWr.out) | (with_reducible refine Below.setCell ?_ (by first | exact Nat.le_refl _ | exact Nat.le_succ _) _))
            have hfin : Blk w9 w.heap.size 52 #[.int .i64 (a : Int), .bool f.left, .bool f.zero, .bool f.plus, .bool f.blank, .int .i64 (n1 : Int), .int .i64 (-1), .bool st1, .bool false, .int .u8 0, .int .i64 0] := by
              rw [← hW9]
              with_reducible refine store11 (b := zeroC) ?_ rfl _ _ _ _ _ _ _ _ _ _ _
              repeat (first | (with_reducible exact HZr.out) | (with_reducible refine Blk.far ?_ (show w.heap.size ≠ w.heap.size + 1 by omega) _))
            have kk0 := hfin.cell 0
            have kk1 := hfin.cell 1
            have kk2 := hfin.cell 2
            have kk3 := hfin.cell 3
            have kk4 := hfin.cell 4
            have kk5 := hfin.cell 5
            have kk6 := hfin.cell 6
            have kk7 := hfin.cell 7
            have kk8 := hfin.cell 8
            have kk9 := hfin.cell 9
            have kk10 := hfin.cell 10
            simp only [List.getElem?_toArray, List.getElem?_cons_zero, List.getElem?_cons_succ] at kk0 kk1 kk2 kk3 kk4 kk5 kk6 kk7 kk8 kk9 kk10
            clear hW9 hfin
            clear c0 c1 c2 c3 c4 c5 c6 c7 c8 c9 c10 f1 f2 f3 f4 f5 f6 f7 f8 f9 f10 z0 z1 z2 z3 z4 z5 z6 z7 z8 z9 z10 y0 y1 y2 y3 y4 y5 y6 y7 y8 y9 y10
            (try rw [Exit.noGoto_ret])
            (try simp only [Exit.inBlock, Exit.then]); refine bodyPost_ret (by simp [results, Tryd.results29, go_sem, *]; try rfl) rfl ?_
            refine ⟨?_, hb9⟩
            rw [HRR.out]
            rfl
          · rw [hx] at hR hv
            have HRR := Lib.hid (show readL (L.drop (a + 1)) = ⟨f, n1, -1, st1, false, x2, 1 + (q - (a + 1)) + k1 + 0 + 1⟩ from hR)
            have hx0 : x2 ≠ 0 := fun e => by subst e; cases hx
            clear hs1' hd2 hdr2 hR hcv hx h46
            go_wp2_with (first
                | (go_at_call 42; (with_reducible refine (HSZ.out _).mono ?_); rintro e w2 ⟨rfl, rfl⟩)
                | (go_at_call 27; (with_reducible refine (HCV.out _).mono ?_); rintro e w3 ⟨rfl, rfl⟩)
                | fail)
            generalize hW9 : (World.setCell _ _ _ : World) = w9
            have hb9 : Below w.heap.size w w9 := by
              rw [← hW9]
              repeat (first | (with_reducible exact HWr.out) | (with_reducible refine Below.setCell ?_ (by first | exact Nat.le_refl _ | exact Nat.le_succ _) _))
            have hfin : Blk w9 w.heap.size 52 #[.int .i64 (a : Int), .bool f.left, .bool f.zero, .bool f.plus, .bool f.blank, .int .i64 (n1 : Int), .int .i64 (-1), .bool st1, .bool false, .int .u8 (x2 : Int), .int .i64 ((q2 : Int) + 1)] := by
              rw [← hW9]
              with_reducible refine store11 (b := zeroC) ?_ rfl _ _ _ _ _ _ _ _ _ _ _
              repeat (first | (with_reducible exact HZr.out) | (with_reducible refine Blk.far ?_ (show w.heap.size ≠ w.heap.size + 1 by omega) _))
            have kk0 := hfin.cell 0
            have kk1 := hfin.cell 1
            have kk2 := hfin.cell 2
            have kk3 := hfin.cell 3
            have kk4 := hfin.cell 4
            have kk5 := hfin.cell 5
            have kk6 := hfin.cell 6
            have kk7 := hfin.cell 7
            have kk8 := hfin.cell 8
            have kk9 := hfin.cell 9
            have kk10 := hfin.cell 10
            simp only [List.getElem?_toArray, List.getElem?_cons_zero, List.getElem?_cons_succ] at kk0 kk1 kk2 kk3 kk4 kk5 kk6 kk7 kk8 kk9 kk10
            clear hW9 hfin
            clear c0 c1 c2 c3 c4 c5 c6 c7 c8 c9 c10 f1 f2 f3 f4 f5 f6 f7 f8 f9 f10 z0 z1 z2 z3 z4 z5 z6 z7 z8 z9 z10 y0 y1 y2 y3 y4 y5 y6 y7 y8 y9 y10
            (try rw [Exit.noGoto_ret])
            (try simp only [Exit.inBlock, Exit.then]); refine bodyPost_ret (by simp [results, Tryd.results29, go_sem, *]; try rfl) rfl ?_
            refine ⟨?_, hb9⟩
            rw [HRR.out]
            have hh : ((q2 : Int) + 1) = ((a + (1 + (q - (a + 1)) + k1 + 0 + 1) : Nat) : Int) := by have := HQ2.out; omega
            rw [hh]
            simp only [specC]
            rw [if_neg hx0]
      · obtain rfl : q2 = L.length := by omega
        have hR := read_no HE.out hs1' (by rw [hd2, List.drop_length]; simp)
        rw [hd2, List.drop_length] at hR
        have HRR := Lib.hid (show readL (L.drop (a + 1)) = ⟨f, n1, -1, st1, false, 0, 0⟩ from hR)
        clear hs1' hd2 hR
        go_wp2_with (first
            | (go_at_call 42; (with_reducible refine (HSZ.out _).mono ?_); rintro e w2 ⟨rfl, rfl⟩)
            | fail)
        generalize hW9 : (World.setCell _ _ _ : World) = w9
        have hb9 : Below w.heap.size w w9 := by
          rw [← hW9]
          repeat (first | (with_reducible exact HWr.out) | (with_reducible refine Below.setCell ?_ (by first | exact Nat.le_refl _ | exact Nat.le_succ _) _))
        have hfin : Blk w9 w.heap.size 52 #[.int .i64 (a : Int), .bool f.left, .bool f.zero, .bool f.plus, .bool f.blank, .int .i64 (n1 : Int), .int .i64 (-1), .bool st1, .bool false, .int .u8 0, .int .i64 0] := by
          rw [← hW9]
          with_reducible refine store11 (b := zeroC) ?_ rfl _ _ _ _ _ _ _ _ _ _ _
          repeat (first | (with_reducible exact HZr.out) | (with_reducible refine Blk.far ?_ (show w.heap.size ≠ w.heap.size + 1 by omega) _))
        have kk0 := hfin.cell 0
        have kk1 := hfin.cell 1
        have kk2 := hfin.cell 2
        have kk3 := hfin.cell 3
        have kk4 := hfin.cell 4
        have kk5 := hfin.cell 5
        have kk6 := hfin.cell 6
        have kk7 := hfin.cell 7
        have kk8 := hfin.cell 8
        have kk9 := hfin.cell 9
        have kk10 := hfin.cell 10
        simp only [List.getElem?_toArray, List.getElem?_cons_zero, List.getElem?_cons_succ] at kk0 kk1 kk2 kk3 kk4 kk5 kk6 kk7 kk8 kk9 kk10
        clear hW9 hfin
        clear c0 c1 c2 c3 c4 c5 c6 c7 c8 c9 c10 f1 f2 f3 f4 f5 f6 f7 f8 f9 f10 z0 z1 z2 z3 z4 z5 z6 z7 z8 z9 z10 y0 y1 y2 y3 y4 y5 y6 y7 y8 y9 y10
        (try rw [Exit.noGoto_ret])
        (try simp only [Exit.inBlock, Exit.then]); refine bodyPost_ret (by simp [results, Tryd.results29, go_sem, *]; try rfl) rfl ?_
        refine ⟨?_, hb9⟩
        rw [HRR.out]
        rfl
    · obtain rfl : q = L.length := by omega
      have HE : Hid (flagsL (L.drop (a + 1)) ⟨false, false, false, false⟩ = (f, L.length - (a + 1))) := Lib.hid (HFr.out.trans (by rw [List.drop_length]; rfl))
      have HSZ := Lib.hid (HSI.out L.length hq2)
      have hkl := sizeL_len (L.drop L.length)
      rw [List.length_drop] at hkl
      obtain ⟨n1, st1, k1, hs1⟩ : ∃ n st k, sizeL (L.drop L.length) = (n, st, k) := ⟨_, _, _, rfl⟩
      rw [hs1] at HSZ hkl
      obtain ⟨q2, hq2e⟩ : ∃ q2, q2 = L.length + k1 := ⟨_, rfl⟩
      rw [← hq2e] at HSZ
      have hq2l : q2 ≤ L.length := by have := hkl.1; dsimp only at this; omega
      have hn1 : n1 < 1000 := hkl.2
      have HQ2 := Lib.hid hq2e
      clear hkl hq2e
      have c0 := HBr.out.cell 0
      have c5 := HBr.out.cell 5
      have c6 := HBr.out.cell 6
      have c7 := HBr.out.cell 7
      have c8 := HBr.out.cell 8
      have c9 := HBr.out.cell 9
      have c10 := HBr.out.cell 10
      have f5 := HBr.out.frozen 5
      have f6 := HBr.out.frozen 6
      have f7 := HBr.out.frozen 7
      have f8 := HBr.out.frozen 8
      have f9 := HBr.out.frozen 9
      have f10 := HBr.out.frozen 10
      simp only [specC, List.getElem?_toArray, List.getElem?_cons_zero, List.getElem?_cons_succ] at c0 c5 c6 c7 c8 c9 c10
      have z0 := HZr.out.cell 0
      have y0 := HZr.out.frozen 0
      have z1 := HZr.out.cell 1
      have y1 := HZr.out.frozen 1
      have z2 := HZr.out.cell 2
      have y2 := HZr.out.frozen 2
      have z3 := HZr.out.cell 3
      have y3 := HZr.out.frozen 3
      have z4 := HZr.out.cell 4
      have y4 := HZr.out.frozen 4
      have z5 := HZr.out.cell 5
      have y5 := HZr.out.frozen 5
      have z6 := HZr.out.cell 6
      have y6 := HZr.out.frozen 6
      have z7 := HZr.out.cell 7
      have y7 := HZr.out.frozen 7
      have z8 := HZr.out.cell 8
      have y8 := HZr.out.frozen 8
      have z9 := HZr.out.cell 9
      have y9 := HZr.out.frozen 9
      have z10 := HZr.out.cell 10
      have y10 := HZr.out.frozen 10
      simp only [zeroC, List.getElem?_toArray, List.getElem?_cons_zero, List.getElem?_cons_succ] at z0 z1 z2 z3 z4 z5 z6 z7 z8 z9 z10
      have hdd : (L.drop (a + 1)).drop (L.length - (a + 1)) = L.drop L.length := by rw [List.drop_drop]; congr 1; omega
      have hs1' : sizeL ((L.drop (a + 1)).drop (L.length - (a + 1))) = (n1, st1, k1) := by rw [hdd]; exact hs1
      have hd2 : ((L.drop (a + 1)).drop (L.length - (a + 1))).drop k1 = L.drop q2 := by rw [hdd, List.drop_drop, HQ2.out]
      clear hdd hs1
      rcases Nat.lt_or_ge q2 L.length with hl2 | hl2
      · exact absurd HQ2.out (by omega)
      · obtain rfl : q2 = L.length := by omega
        have hR := read_no HE.out hs1' (by rw [hd2, List.drop_length]; simp)
        rw [hd2, List.drop_length] at hR
        have HRR := Lib.hid (show readL (L.drop (a + 1)) = ⟨f, n1, -1, st1, false, 0, 0⟩ from hR)
        clear hs1' hd2 hR
        go_wp2_with (first
            | (go_at_call 42; (with_reducible refine (HSZ.out _).mono ?_); rintro e w2 ⟨rfl, rfl⟩)
            | fail)
        generalize hW9 : (World.setCell _ _ _ : World) = w9
        have hb9 : Below w.heap.size w w9 := by
          rw [← hW9]
          repeat (first | (with_reducible exact HWr.out) | (with_reducible refine Below.setCell ?_ (by first | exact Nat.le_refl _ | exact Nat.le_succ _) _))
        have hfin : Blk w9 w.heap.size 52 #[.int .i64 (a : Int), .bool f.left, .bool f.zero, .bool f.plus, .bool f.blank, .int .i64 (n1 : Int), .int .i64 (-1), .bool st1, .bool false, .int .u8 0, .int .i64 0] := by
          rw [← hW9]
          with_reducible refine store11 (b := zeroC) ?_ rfl _ _ _ _ _ _ _ _ _ _ _
          repeat (first | (with_reducible exact HZr.out) | (with_reducible refine Blk.far ?_ (show w.heap.size ≠ w.heap.size + 1 by omega) _))
        have kk0 := hfin.cell 0
        have kk1 := hfin.cell 1
        have kk2 := hfin.cell 2
        have kk3 := hfin.cell 3
        have kk4 := hfin.cell 4
        have kk5 := hfin.cell 5
        have kk6 := hfin.cell 6
        have kk7 := hfin.cell 7
        have kk8 := hfin.cell 8
        have kk9 := hfin.cell 9
        have kk10 := hfin.cell 10
        simp only [List.getElem?_toArray, List.getElem?_cons_zero, List.getElem?_cons_succ] at kk0 kk1 kk2 kk3 kk4 kk5 kk6 kk7 kk8 kk9 kk10
        clear hW9 hfin
        clear c0 c1 c2 c3 c4 c5 c6 c7 c8 c9 c10 f1 f2 f3 f4 f5 f6 f7 f8 f9 f10 z0 z1 z2 z3 z4 z5 z6 z7 z8 z9 z10 y0 y1 y2 y3 y4 y5 y6 y7 y8 y9 y10
        (try rw [Exit.noGoto_ret])
        (try simp only [Exit.inBlock, Exit.then]); refine bodyPost_ret (by simp [results, Tryd.results29, go_sem, *]; try rfl) rfl ?_
        refine ⟨?_, hb9⟩
        rw [HRR.out]
        rfl
end Go.Proofs.YtpkooogfefkcdaaDoor
