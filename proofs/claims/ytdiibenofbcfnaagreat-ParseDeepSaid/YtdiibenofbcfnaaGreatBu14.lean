/- Several texts put together: LexF, ParB, ParC, LexQ. -/
import Derived.Test.YtdiibenofbcfnaaGreatBu13
import Derived.Test.YtdiibenofbcfnaaGreatBu7
import Derived.Test.YtdiibenofbcfnaaGreatBu2
import Derived.Test.YtdiibenofbcfnaaGreatBu9
set_option linter.unusedSimpArgs false
set_option linter.unusedVariables false
namespace Go.Proofs.YtdiibenofbcfnaaGreat
open Go.RowKit
def tokC (t : TokF) : List Value := [.int .i64 (t.k : Int), .int .i64 (t.at' : Int), .string (strN t.s), .bool (zn t.z), .int .u64 (zh t.z), .int .u64 (zl t.z)]
theorem flatAtT {α : Type} (f : α → List Value) (k : Nat) (hf : ∀ y, (f y).length = k) : ∀ (l : List α) (i j : Nat) (hi : i < l.length), j < k → (l.flatMap f)[i * k + j]? = (f l[i])[j]?
  | a :: l, 0, j, hi, hj => by rw [List.flatMap_cons, Nat.zero_mul, Nat.zero_add, List.getElem?_append_left (by rw [hf]; exact hj)]; rfl
  | a :: l, i + 1, j, hi, hj => by
    rw [List.flatMap_cons, List.getElem?_append_right (by rw [hf, Nat.add_mul]; omega), hf, show (i + 1) * k + j - k = i * k + j by rw [Nat.add_mul]; omega]
    exact flatAtT f k hf l i j (by simpa using hi) hj
structure At6 (w : World) (B sb qo : Nat) (sp : Option Nat) (t : TokF) : Prop where
  z : sb < B
  c0 : w.cell? ⟨sb, qo, sp⟩ = some (.int .i64 (t.k : Int))
  c1 : w.cell? ⟨sb, qo + 1, none⟩ = some (.int .i64 (t.at' : Int))
  c2 : w.cell? ⟨sb, qo + 2, none⟩ = some (.string (strN t.s))
  c3 : w.cell? ⟨sb, qo + 3, none⟩ = some (.bool (zn t.z))
  c4 : w.cell? ⟨sb, qo + 4, none⟩ = some (.int .u64 (zh t.z))
  c5 : w.cell? ⟨sb, qo + 5, none⟩ = some (.int .u64 (zl t.z))
theorem add_atT (ad : Addr) (m j : Nat) : ad.add (m + (j + 1)) = ⟨(ad.add m).block, (ad.add m).off + (j + 1), none⟩ := by
  unfold Addr.add
  by_cases h : m = 0
  · subst h; simp
  · rw [if_neg (by omega), if_neg h]
    simp [Nat.add_assoc]
theorem tok_at {w : World} {B i : Nat} {A : Option Addr} {ts : List TokF} (h : Reads w B 6 A ts.length (ts.flatMap tokC)) (hi : i < ts.length) : ∃ ad sb qo sp, A = some ad ∧ ad.add (i * 6) = (⟨sb, qo, sp⟩ : Addr) ∧ At6 w B sb qo sp ts[i] := by
  obtain ⟨ad, e, hb, hc⟩ := h.2 (by omega)
  have hbl : (ad.add (i * 6)).block = ad.block := block_of_add ..
  have g0 := hc (i * 6 + 0) _ (flatAtT tokC 6 (fun _ => rfl) ts i 0 hi (by omega))
  have g : ∀ j, j + 1 < 6 → ∀ u, (tokC ts[i])[j + 1]? = some u → w.cell? ⟨(ad.add (i * 6)).block, (ad.add (i * 6)).off + (j + 1), none⟩ = some u := fun j hj u hu => by
    rw [← add_atT]
    exact hc _ u (by rw [flatAtT tokC 6 (fun _ => rfl) ts i (j + 1) hi hj]; exact hu)
  exact ⟨ad, (ad.add (i * 6)).block, (ad.add (i * 6)).off, (ad.add (i * 6)).spot, e, rfl, ⟨by rw [hbl]; exact hb, g0, g 0 (by omega) _ rfl, g 1 (by omega) _ rfl, g 2 (by omega) _ rfl, g 3 (by omega) _ rfl, g 4 (by omega) _ rfl⟩⟩
structure OpS (g B : Nat) (ad : Addr) (c n sb qo : Nat) (sp : Option Nat) (t : TokF) (w' : World) : Prop where
  c0 : w'.cell? ⟨g, 2, none⟩ = some (.slice (some ad) n c)
  z : g < w'.heap.size
  hB : B ≤ w'.heap.size
  t6 : At6 w' B sb qo sp t
theorem OpS.next {g B : Nat} {ad : Addr} {c n sb qo : Nat} {sp : Option Nat} {t : TokF} {w' w2 : World} (h : OpS g B ad c n sb qo sp t w') (q : Below w'.heap.size w' w2) : OpS g B ad c n sb qo sp t w2 := by
  have hz : sb < w'.heap.size := Nat.lt_of_lt_of_le h.t6.z h.hB
  exact ⟨(q.cell h.z).trans h.c0, Nat.lt_of_lt_of_le h.z q.size, Nat.le_trans h.hB q.size, ⟨h.t6.z, (q.cell hz).trans h.t6.c0, (q.cell hz).trans h.t6.c1, (q.cell hz).trans h.t6.c2, (q.cell hz).trans h.t6.c3, (q.cell hz).trans h.t6.c4, (q.cell hz).trans h.t6.c5⟩⟩
theorem list8 {l : List Nat} (hl : ∀ x ∈ l, x < 256) (m : List Nat) (hm : ∀ x ∈ m, x < 256) : (strN l).toList = m.map UInt8.ofNat ↔ l = m := by
  rw [strN_list]
  exact ⟨fun h => map8_inj hl hm h, fun h => by rw [h]⟩
theorem operandL_8 (t : TokF) (hs : ∀ x ∈ t.s, x < 256) : operandL (some t) = if ((t.k : Int) == 1) = true then true else if ((t.k : Int) == 7) = true then true else if ((t.k : Int) == 9) = true then
    (decide (¬(strN t.s).toList = [41]) && (decide (¬(strN t.s).toList = [93]) && (decide (¬(strN t.s).toList = [43, 43]) && decide (¬(strN t.s).toList = [45, 45])))) else false := by
  have h1 := list8 hs [41] (by decide)
  have h2 := list8 hs [93] (by decide)
  have h3 := list8 hs [43, 43] (by decide)
  have h4 := list8 hs [45, 45] (by decide)
  have e1 : ((t.k : Int) == 1) = decide (t.k = 1) := by rw [Bool.eq_iff_iff]; simp; omega
  have e2 : ((t.k : Int) == 7) = decide (t.k = 7) := by rw [Bool.eq_iff_iff]; simp; omega
  have e3 : ((t.k : Int) == 9) = decide (t.k = 9) := by rw [Bool.eq_iff_iff]; simp; omega
  simp only [List.map_cons, List.map_nil] at h1 h2 h3 h4
  have h1' : (strN t.s).toList = [41] ↔ t.s = [41] := h1
  have h2' : (strN t.s).toList = [93] ↔ t.s = [93] := h2
  have h3' : (strN t.s).toList = [43, 43] ↔ t.s = [43, 43] := h3
  have h4' : (strN t.s).toList = [45, 45] ↔ t.s = [45, 45] := h4
  rw [e1, e2, e3]
  unfold operandL
  simp only [h1', h2', h3', h4', decide_eq_true_eq]
  by_cases a1 : t.k = 1
  · simp [a1]
  · by_cases a7 : t.k = 7
    · simp [a7]
    · simp [a1, a7]
set_option maxRecDepth 100000 in
set_option maxHeartbeats 3200000 in
theorem operand_more {g B : Nat} {ts : List TokF} {A : Option Addr} {c : Nat} (w : World) (h2 : w.cell? ⟨g, 2, none⟩ = some (.slice A ts.length c)) (hg : g < w.heap.size) (hr : Reads w B 6 A ts.length (ts.flatMap tokC)) (hB : B ≤ w.heap.size) (hc : ts.length ≤ c) (n : Nat) (hn : ts.length = n + 1) (hm : n ≤ 1000000) (hts : ∀ t ∈ ts, ∀ x ∈ t.s, x < 256) :
    Calls Tryz.prog 23 #[.pointer (some ⟨g, 0, none⟩)] w fun e w' => e = .returned (.bool (operandL ts.getLast?)) ∧ Below w.heap.size w w' := by
  obtain ⟨ad, sb, qo, sp, rfl, hq, h6⟩ := tok_at hr (show n < ts.length by omega)
  have hl : ts.getLast? = some (ts[n]'(by omega)) := by
    have e : ts.length - 1 = n := by omega
    rw [List.getLast?_eq_getElem?, e]; exact List.getElem?_eq_getElem _
  rw [hl]
  rw [hn] at h2 hc
  have hop := operandL_8 (ts[n]'(by omega)) (hts _ (List.getElem_mem _))
  generalize ts[n]'(by omega) = t at h6 hop ⊢
  generalize operandL (some t) = R at hop ⊢
  have HOP := Lib.hid hop
  clear hop hts
  have HOS := Lib.hid (⟨h2, hg, hB, h6⟩ : OpS g B ad c (n + 1) sb qo sp t w)
  have hw : wrap64 ((n : Int) + 1 - 1) = (n : Int) := by rw [Int.add_sub_cancel]; exact IntWalk.wrap64_in _ (by omega)
  have hw4 : IntKind.i64.wrap (n : Int) = (n : Int) := IntWalk.i64_in _ (by omega)
  have hlt4 : (n : Int) < (n : Int) + 1 := by omega
  have hne : ((n : Int) + 1 == 0) = false := by rw [beq_eq_false_iff_ne]; omega
  have hsz : sb < w.heap.size := Nat.lt_of_lt_of_le h6.z hB
  clear hl hr h6
  go_enter Tryz.func23, Tryz.ntmps23
  go_upto_region 3 with fail
  clear h2
  refine wp_region_held_drew (S := (fun w' => OpS g B ad c (n + 1) sb qo sp t w')) (by kernel_rfl) ?_ (fun hHeld => ?_)
  · (try dsimp only)
    (first | (with_reducible assumption) | ((with_reducible refine OpS.next ?_ (Below.drew (Below.refl _ _))); with_reducible exact HOS.out) | ((with_reducible refine OpS.next HOS.out ?_); (repeat' (first | with_reducible exact Below.refl _ _ | with_reducible refine Below.drew ?_ | with_reducible refine Below.alloc ?_ ?_ _ | with_reducible refine Below.setCell ?_ ?_ _ | with_reducible exact Nat.le_refl _ | (simp; done))); done))
  refine h4_b [0, 1, 2, 3, 4, 5, 6, 7, 8, 9, 10, 11] ?_
  (repeat (refine h4_p rfl (by kernel_rfl) (fun _ _ _ h => h) (by rfl) hHeld (by intro wS hSw; have k0 := hSw.c0; have kz := hSw.z; obtain ⟨tz, k2, k3, k4, k5, k6, k7⟩ := hSw.t6; have kB := hSw.hB; go_simp; (try with_reducible rfl)) ?_; (try simp only [Act.put, List.setIfInBounds_toArray, List.set_cons_zero, List.set_cons_succ])))
  refine h4_e ?_
  refine wpAnyH_ready (rs := [12]) (by kernel_rfl) (by simp) ?_
  refine (h4_cons rfl (fun K hK => ?_) AllReadyH.nil)
  go_simp
  refine hK.out _ _ ?_ (fun hHeld1 => ?_)
  · (try dsimp only)
    (first | (with_reducible assumption) | ((with_reducible refine OpS.next ?_ (Below.drew (Below.refl _ _))); with_reducible exact HOS.out) | ((with_reducible refine OpS.next HOS.out ?_); (repeat' (first | with_reducible exact Below.refl _ _ | with_reducible refine Below.drew ?_ | with_reducible refine Below.alloc ?_ ?_ _ | with_reducible refine Below.setCell ?_ ?_ _ | with_reducible exact Nat.le_refl _ | (simp; done))); done))
  clear hK K hHeld
  try simp only [Act.put, List.setIfInBounds_toArray, List.set_cons_zero, List.set_cons_succ]
  refine wpAnyH_ready (rs := [13]) (by kernel_rfl) (by simp) ?_
  refine (h4_cons rfl (fun K hK => ?_) AllReadyH.nil)
  go_simp
  refine hK.out _ _ ?_ (fun hHeld2 => ?_)
  · (try dsimp only)
    (first | (with_reducible assumption) | ((with_reducible refine OpS.next ?_ (Below.drew (Below.refl _ _))); with_reducible exact HOS.out) | ((with_reducible refine OpS.next HOS.out ?_); (repeat' (first | with_reducible exact Below.refl _ _ | with_reducible refine Below.drew ?_ | with_reducible refine Below.alloc ?_ ?_ _ | with_reducible refine Below.setCell ?_ ?_ _ | with_reducible exact Nat.le_refl _ | (simp; done))); done))
  clear hK K hHeld1
  try simp only [Act.put, List.setIfInBounds_toArray, List.set_cons_zero, List.set_cons_succ]
  refine wpAnyH_done (by kernel_rfl) ?_ _
  go_wp2_with fail
  all_goals
    go_ret
    have hop := HOP.out
    simp only [if_true, if_false, Bool.false_eq_true, decide_true, decide_false, not_true, not_false_eq_true, Bool.false_and, Bool.true_and, Bool.and_true, *] at hop
    refine ⟨congrArg (fun b => Ending.returned (Value.bool b)) ?_, by (repeat' (first | (with_reducible exact Below.refl _ _) | (refine Below.trans ?_ (Below.mono (by with_reducible assumption) ?_)) | (with_reducible exact Below.refl _ _) | (with_reducible refine below_drewN ?_ _) | (with_reducible refine Below.drew ?_) | (with_reducible refine Below.setCell ?_ ?_ _) | (with_reducible refine Below.alloc ?_ ?_ _) | (with_reducible assumption) | (simp; done) | (simp; omega) | omega))⟩
    first | (rw [hop]; done) | (rw [hop]; rfl) | (rw [hop, Bool.eq_iff_iff]; simp; done) | (rw [hop, Bool.eq_iff_iff]; simp; intro _; exact ⟨⟨by assumption, by assumption⟩, by assumption⟩)
theorem operand_nil {g : Nat} {A : Option Addr} {c : Nat} (w : World) (h2 : w.cell? ⟨g, 2, none⟩ = some (.slice A 0 c)) :
    Calls Tryz.prog 23 #[.pointer (some ⟨g, 0, none⟩)] w fun e w' => e = .returned (.bool true) ∧ Below w.heap.size w w' := by
  go_enter Tryz.func23, Tryz.ntmps23
  go_wp2
  go_ret
  exact ⟨rfl, Below.refl _ _⟩
theorem operand_r {g B : Nat} {ts : List TokF} {A : Option Addr} {c : Nat} (w : World) (h2 : w.cell? ⟨g, 2, none⟩ = some (.slice A ts.length c)) (hg : g < w.heap.size) (hr : Reads w B 6 A ts.length (ts.flatMap tokC)) (hB : B ≤ w.heap.size) (hc : ts.length ≤ c) (hm : ts.length ≤ 1000000) (hts : ∀ t ∈ ts, ∀ x ∈ t.s, x < 256) :
    Calls Tryz.prog 23 #[.pointer (some ⟨g, 0, none⟩)] w fun e w' => e = .returned (.bool (operandL ts.getLast?)) ∧ Below w.heap.size w w' := by
  rcases Nat.eq_zero_or_pos ts.length with h | h
  · obtain rfl : ts = [] := List.length_eq_zero_iff.1 h
    exact operand_nil w h2
  · exact operand_more w h2 hg hr hB hc (ts.length - 1) (by omega) (by omega) hts
open Go.RowKit
structure TsOk (ts : List TokF) : Prop where
  len : ts.length ≤ 100000
  ends : ∀ i, i < ts.length → (tk ts i).k ≠ 0 → i + 1 < ts.length
  byte : ∀ t ∈ ts, ∀ x ∈ t.s, x < 256
  size : ∀ t ∈ ts, t.s.length ≤ 100000
structure PS (g : Nat) (ts : List TokF) (a d : Nat) (w : World) : Prop where
  box : ∃ A c, Blk w g 50 #[.slice A ts.length c, .int .i64 (a : Int), .int .i64 (d : Int)] ∧ Reads w g 6 A ts.length (ts.flatMap tokC) ∧ ts.length ≤ c
  ha : a < ts.length
  hd : d ≤ 64
  ok : TsOk ts
section
variable {g : Nat} {ts : List TokF} {a d : Nat} {w w' : World}
theorem PS.lt (h : PS g ts a d w) : g < w.heap.size := by obtain ⟨A, c, b, _⟩ := h.box; exact b.lt
theorem PS.loc {n : Nat} (hn : g < n) : Loc (PS g ts a d) n := by
  intro w w' hb hs h
  obtain ⟨A, c, b, r, hc⟩ := h.box
  refine ⟨⟨A, c, (hb g hn).trans b, r.keep fun p hp => World.cell?_of_block (hb p.block (by omega)), hc⟩, h.ha, h.hd, h.ok⟩
theorem PS.next (h : PS g ts a d w) (q : Below w.heap.size w w') : PS g ts a d w' := PS.loc h.lt w w' (fun b hb => q.block b hb) q.size h
theorem tk_eq (h : a < ts.length) : tk ts a = ts[a] := by unfold tk; rw [List.getD_eq_getElem?_getD, List.getElem?_eq_getElem h]; rfl
structure TkS (g B : Nat) (ad : Addr) (c n a sb qo : Nat) (sp : Option Nat) (t : TokF) (w' : World) : Prop where
  c0 : w'.cell? ⟨g, 0, none⟩ = some (.slice (some ad) n c)
  c1 : w'.cell? ⟨g, 1, none⟩ = some (.int .i64 (a : Int))
  z : g < w'.heap.size
  hB : B ≤ w'.heap.size
  t6 : At6 w' B sb qo sp t
theorem TkS.next {g B : Nat} {ad : Addr} {c n a sb qo : Nat} {sp : Option Nat} {t : TokF} {w' w2 : World} (h : TkS g B ad c n a sb qo sp t w') (q : Below w'.heap.size w' w2) : TkS g B ad c n a sb qo sp t w2 := by
  have hz : sb < w'.heap.size := Nat.lt_of_lt_of_le h.t6.z h.hB
  exact ⟨(q.cell h.z).trans h.c0, (q.cell h.z).trans h.c1, Nat.lt_of_lt_of_le h.z q.size, Nat.le_trans h.hB q.size, ⟨h.t6.z, (q.cell hz).trans h.t6.c0, (q.cell hz).trans h.t6.c1, (q.cell hz).trans h.t6.c2, (q.cell hz).trans h.t6.c3, (q.cell hz).trans h.t6.c4, (q.cell hz).trans h.t6.c5⟩⟩
theorem TkS.far {g B : Nat} {ad : Addr} {c n a sb qo : Nat} {sp : Option Nat} {t : TokF} {w' : World} (h : TkS g B ad c n a sb qo sp t w') {b : Nat} (hg : g < b) (hb : B ≤ b) (j : Nat) (u : Value) : TkS g B ad c n a sb qo sp t (w'.setCell ⟨b, j, none⟩ u) := by
  have q : Below b w' (w'.setCell ⟨b, j, none⟩ u) := (Below.refl b w').setCell (p := ⟨b, j, none⟩) (Nat.le_refl b) u
  have hz : sb < b := Nat.lt_of_lt_of_le h.t6.z hb
  exact ⟨(q.cell hg).trans h.c0, (q.cell hg).trans h.c1, Nat.lt_of_lt_of_le h.z q.size, Nat.le_trans h.hB q.size, ⟨h.t6.z, (q.cell hz).trans h.t6.c0, (q.cell hz).trans h.t6.c1, (q.cell hz).trans h.t6.c2, (q.cell hz).trans h.t6.c3, (q.cell hz).trans h.t6.c4, (q.cell hz).trans h.t6.c5⟩⟩
end
set_option maxRecDepth 100000 in
set_option maxHeartbeats 3200000 in
theorem ptok_any {g : Nat} {ts : List TokF} {a d : Nat} (w : World) (m : PS g ts a d w) : Calls Tryz.prog 15 #[.pointer (some ⟨g, 0, none⟩)] w fun e w' => e = .returned (tokV (tk ts a)) ∧ Below w.heap.size w w' := by
  have hlt := m.lt
  have ha := m.ha
  have hlen := m.ok.len
  obtain ⟨A, c, bx, r, hc⟩ := m.box
  have k0 := bx.cell 0
  have k1 := bx.cell 1
  simp only [List.getElem?_toArray, List.getElem?_cons_zero, List.getElem?_cons_succ] at k0 k1
  obtain ⟨ad, sb, qo, sp, rfl, hq, h6⟩ := tok_at r ha
  rw [← tk_eq ha] at h6
  generalize tk ts a = t at h6 ⊢
  generalize hn : ts.length = n at k0 hc ha hlen r
  have HOS := Lib.hid (⟨k0, k1, hlt, Nat.le_of_lt hlt, h6⟩ : TkS g g ad c n a sb qo sp t w)
  have hlt4 : (a : Int) < (n : Int) := by omega
  have hsz : sb < w.heap.size := Nat.lt_trans h6.z hlt
  clear hn r bx m h6
  go_enter Tryz.func15, Tryz.ntmps15
  go_upto_region 1 with fail
  clear k0 k1
  refine wp_region_held_drew (S := (fun w' => TkS g g ad c n a sb qo sp t w')) (by kernel_rfl) ?_ (fun hHeld => ?_)
  · (try dsimp only)
    (first | (with_reducible assumption) | ((repeat' (with_reducible refine TkS.far ?_ hlt (Nat.le_of_lt hlt) _ _)); (with_reducible refine TkS.next HOS.out ?_); (repeat' (first | with_reducible exact Below.refl _ _ | with_reducible refine Below.drew ?_ | with_reducible refine Below.alloc ?_ ?_ _ | with_reducible exact Nat.le_refl _ | (simp; done))); done))
  refine h4_b [0, 1, 2, 3, 4, 5, 6, 7, 8, 9] ?_
  (repeat (refine h4_p rfl (by kernel_rfl) (fun _ _ _ h => h) (by rfl) hHeld (by intro wS hSw; have k0 := hSw.c0; have k1 := hSw.c1; have kz := hSw.z; obtain ⟨tz, k2, k3, k4, k5, k6, k7⟩ := hSw.t6; have kB := hSw.hB; go_simp; (try with_reducible rfl)) ?_; (try simp only [Act.put, List.setIfInBounds_toArray, List.set_cons_zero, List.set_cons_succ])))
  refine h4_e ?_
  refine wpAnyH_ready (rs := [10]) (by kernel_rfl) (by simp) ?_
  refine (h4_cons rfl (fun K hK => ?_) AllReadyH.nil)
  go_simp
  refine hK.out _ _ ?_ (fun hHeld1 => ?_)
  · (try dsimp only)
    (first | (with_reducible assumption) | ((repeat' (with_reducible refine TkS.far ?_ hlt (Nat.le_of_lt hlt) _ _)); (with_reducible refine TkS.next HOS.out ?_); (repeat' (first | with_reducible exact Below.refl _ _ | with_reducible refine Below.drew ?_ | with_reducible refine Below.alloc ?_ ?_ _ | with_reducible exact Nat.le_refl _ | (simp; done))); done))
  clear hK K hHeld
  try simp only [Act.put, List.setIfInBounds_toArray, List.set_cons_zero, List.set_cons_succ]
  refine wpAnyH_done (by kernel_rfl) ?_ _
  go_wp2_with fail
  go_returns
  exact ⟨rfl, by (repeat' (first | (with_reducible exact Below.refl _ _) | (refine Below.trans ?_ (Below.mono (by with_reducible assumption) ?_)) | (with_reducible exact Below.refl _ _) | (with_reducible refine below_drewN ?_ _) | (with_reducible refine Below.drew ?_) | (with_reducible refine Below.setCell ?_ ?_ _) | (with_reducible refine Below.alloc ?_ ?_ _) | (with_reducible assumption) | (simp; done) | (simp; omega) | omega))⟩
open Go.RowKit
def nodeC (n : NodeT) (A : Option Addr) (c : Nat) : List Value := [.int .i64 (n.k : Int), .int .i64 (n.at' : Int), .string (strN n.s), .bool (zn n.z), .int .u64 (zh n.z), .int .u64 (zl n.z), .int .i64 (n.i : Int), .slice A n.l.length c]
mutual
def KidsN (w : World) (F : Nat → Prop) : NodeT → Option Addr → Prop
  | .mk _ _ _ _ _ l, A => KidsL w F l A 0
def KidsL (w : World) (F : Nat → Prop) : List NodeT → Option Addr → Nat → Prop
  | [], _, _ => True
  | n :: l, A, j => (∃ b o A' c', A = some ⟨b, o, none⟩ ∧ F b ∧ w.rangeAt b (o + 8 * j) (nodeC n A' c') ∧ n.l.length ≤ c' ∧ KidsN w F n A') ∧ KidsL w F l A (j + 1)
end
mutual
theorem KidsN.st {w w' : World} {F F' : Nat → Prop} (hF : ∀ b, F b → F' b ∧ w'.heap[b]? = w.heap[b]?) : ∀ (n : NodeT) (A : Option Addr), KidsN w F n A → KidsN w' F' n A
  | .mk _ _ _ _ _ l, A, h => by
    rw [KidsN] at h ⊢
    exact KidsL.st hF l A 0 h
theorem KidsL.st {w w' : World} {F F' : Nat → Prop} (hF : ∀ b, F b → F' b ∧ w'.heap[b]? = w.heap[b]?) : ∀ (l : List NodeT) (A : Option Addr) (j : Nat), KidsL w F l A j → KidsL w' F' l A j
  | [], _, _, _ => by rw [KidsL]; trivial
  | n :: l, A, j, h => by
    rw [KidsL] at h ⊢
    obtain ⟨⟨b, o, A', c', e, hb, hr, hc, hk⟩, h2⟩ := h
    exact ⟨⟨b, o, A', c', e, (hF b hb).1, fun i v hv => (World.cell?_of_block (hF b hb).2).trans (hr i v hv), hc, KidsN.st hF n A' hk⟩, KidsL.st hF l A (j + 1) h2⟩
end
theorem KidsN_eq (w : World) (F : Nat → Prop) (n : NodeT) (A : Option Addr) : KidsN w F n A = KidsL w F n.l A 0 := by cases n; rw [KidsN]; rfl
theorem kidsL_nil (w : World) (F : Nat → Prop) (A : Option Addr) (j : Nat) : KidsL w F [] A j := by rw [KidsL]; trivial
def Cold.kids (A : Option Addr) (l : List NodeT) : Cold := ⟨fun w F => KidsL w F l A 0, fun _ _ _ _ hF h => KidsL.st hF l A 0 h⟩
abbrev El : Type := NodeT × Option Addr × Nat
def flatE (els : List El) : List Value := els.flatMap fun e => nodeC e.1 e.2.1 e.2.2
def Cold.els (els : List El) : Cold := ⟨fun w F => ∀ e ∈ els, e.1.l.length ≤ e.2.2 ∧ KidsL w F e.1.l e.2.1 0, fun _ _ _ _ hF h e he => ⟨(h e he).1, KidsL.st hF _ _ 0 (h e he).2⟩⟩
theorem flatE_length (els : List El) : (flatE els).length = els.length * 8 := by
  induction els with
  | nil => rfl
  | cons e l ih => unfold flatE at ih ⊢; rw [List.flatMap_cons, List.length_append, ih, List.length_cons, Nat.add_mul]; simp [nodeC]; omega
theorem flatE_app (a b : List El) : flatE (a ++ b) = flatE a ++ flatE b := by unfold flatE; rw [List.flatMap_append]
theorem kids_of_cells {w : World} {F : Nat → Prop} {b : Nat} (hb : F b) : ∀ (els : List El) (pre : List El), (∀ e ∈ els, e.1.l.length ≤ e.2.2 ∧ KidsL w F e.1.l e.2.1 0) → (∀ j v, (flatE (pre ++ els))[j]? = some v → w.cell? ⟨b, j, none⟩ = some v) → KidsL w F (els.map (·.1)) (some ⟨b, 0, none⟩) pre.length
  | [], _, _, _ => by rw [List.map_nil, KidsL]; trivial
  | e :: els, pre, h1, h2 => by
    rw [List.map_cons, KidsL]
    refine ⟨⟨b, 0, e.2.1, e.2.2, rfl, hb, fun i v hv => ?_, (h1 e List.mem_cons_self).1, by rw [KidsN_eq]; exact (h1 e List.mem_cons_self).2⟩, ?_⟩
    · rw [show 0 + 8 * pre.length + i = pre.length * 8 + i by omega]
      refine h2 _ v ?_
      have hi : i < 8 := by
        rcases Nat.lt_or_ge i 8 with h | h
        · exact h
        · rw [List.getElem?_eq_none (by simpa [nodeC] using h)] at hv; cases hv
      rw [flatE_app, List.getElem?_append_right (by rw [flatE_length]; omega), flatE_length, show pre.length * 8 + i - pre.length * 8 = i by omega]
      unfold flatE
      rw [List.flatMap_cons, List.getElem?_append_left (by simpa [nodeC] using hi)]
      exact hv
    · have := kids_of_cells hb els (pre ++ [e]) (fun x hx => h1 x (List.mem_cons_of_mem _ hx)) (by rw [List.append_assoc]; exact h2)
      rw [List.length_append] at this
      exact this
section
variable {w0 w w' : World} {X : List Nat} {S S' : World → Prop} {bs bs' : List Bx} {rs rs' : List Rw} {F F' : List Cold}
theorem Own.freeze {v : Value} {els : List El} (h : Own w0 X S bs (⟨39, 8, v, els.length, flatE els⟩ :: rs) F w) (he : Cold.els els ∈ F) : ∃ A c, v = .slice A els.length c ∧ els.length ≤ c ∧ Own w0 X S bs rs (Cold.kids A (els.map (·.1)) :: F) w := by
  have hr : w.ownsRow w0.heap.size 39 8 v els.length (flatE els) := h.row _ List.mem_cons_self
  have hsub := h.sub (List.Sublist.refl bs) (List.sublist_cons_self _ rs) (fun c hc => hc)
  have hnd := h.nodup
  rcases hr.2 with ⟨rfl, h0⟩ | ⟨g, cap, cur, rfl, hg, hh, hn, _⟩
  · have h0' : els.length = 0 := h0
    obtain rfl : els = [] := List.length_eq_zero_iff.1 h0'
    exact ⟨none, 0, rfl, Nat.le_refl _, hsub.coldAll _ (by unfold Cold.kids; dsimp only; rw [List.map_nil]; exact kidsL_nil w _ none 0)⟩
  · refine ⟨some ⟨g, 0, none⟩, cap, rfl, hn, hsub.coldAll _ ?_⟩
    have hnot : g ∉ hot bs rs := by
      intro hm
      rcases List.mem_append.1 hm with hm | hm
      · exact (List.nodup_append.1 hnd).2.2 g hm g (List.mem_filterMap.2 ⟨_, List.mem_cons_self, rfl⟩) rfl
      · have hnd2 := (List.nodup_append.1 hnd).2.1
        rw [List.filterMap_cons] at hnd2
        exact (List.nodup_cons.1 hnd2).1 hm
    have hlt : g < w.heap.size := (hr.lt g rfl).2
    refine kids_of_cells (F := fun b => w0.heap.size ≤ b ∧ b < w.heap.size ∧ b ∉ hot bs rs) (b := g) ⟨hg, hlt, hnot⟩ els [] (fun e hel => hsub.cold _ he e hel) fun j u hj => ?_
    have := hr.cells (g := g) rfl j u hj
    rw [Addr.add_mid, Nat.zero_add] at this
    exact this
theorem Own.elsNil (h : Own w0 X S bs rs F w) : Own w0 X S bs rs (Cold.els [] :: F) w := h.coldAll _ (fun e he => by cases he)
theorem Own.callRow (h : Own w0 X S bs rs F w) (h' : Own w0 X S' bs rs F w') (hsz : w.heap.size ≤ w'.heap.size) (hblk : ∀ b, w0.heap.size ≤ b → b < w.heap.size → w'.heap[b]? = w.heap[b]?) (r : Rw) (hr : w'.ownsRow w.heap.size r.e r.size r.v r.n r.xs) (c : Cold) (hc : c.C w' (fun b => w.heap.size ≤ b ∧ b < w'.heap.size ∧ r.v.ownBlock ≠ some b)) : Own w0 X S' bs (r :: rs) (c :: F) w' := by
  have h2 := h'.addRow r w.heap.size h.kept.size hr (fun b hb hm => by have := (h.hot_lt b hm).2; omega) (fun d hd => d.st w w' _ _ (fun b hb => ⟨⟨⟨hb.1, Nat.lt_of_lt_of_le hb.2.1 hsz, hb.2.2⟩, hb.2.1⟩, hblk b hb.1 hb.2.1⟩) (h.cold d hd))
  refine h2.coldAll c (c.st w' w' _ _ (fun b hb => ⟨⟨Nat.le_trans h.kept.size hb.1, hb.2.1, fun hm => ?_⟩, rfl⟩) hc)
  rcases (mem_hot_row r b).1 hm with e | hm
  · exact hb.2.2 e
  · have := (h.hot_lt b hm).2; have := hb.1; omega
end
def FailV (w : World) (B : Nat) (v : Value) (pl : Nat) (k : Int) : Prop := ∃ b, v = .iface 47 (.agg #[.pointer (some ⟨b, 0, none⟩)]) ∧ B ≤ b ∧ Blk w b 70 #[.int .i64 (pl : Int), .iface 53 (.int .i64 k)]
theorem FailV.mono {w : World} {B B' : Nat} {v : Value} {pl : Nat} {k : Int} (h : FailV w B v pl k) (hB : B' ≤ B) : FailV w B' v pl k := by
  obtain ⟨b, e, hb, hk⟩ := h
  exact ⟨b, e, Nat.le_trans hB hb, hk⟩
def PPost (g : Nat) (ts : List TokF) (w : World) {α : Type} (a0 d0 : Nat) (r : PR α) (V : World → World → α → Value → Prop) (e : Ending) (w' : World) : Prop :=
  match r with
  | .ok x a d => ∃ v, e = .returned v ∧ V w w' x v ∧ PS g ts a d w' ∧ Kept [g] w w' ∧ a0 ≤ a ∧ d = d0
  | .err pl k => ∃ v, e = .panicked [{ v := v, recovered := false }] ∧ FailV w' w.heap.size v pl k ∧ Kept [g] w w'
def VU : World → World → Unit → Value → Prop := fun _ _ _ v => v = .tuple #[]
def VT : World → World → TokF → Value → Prop := fun _ _ t v => v = tokV t
def VN : World → World → NodeT → Value → Prop := fun w w' x v => ∃ A c, v = .agg #[.int .i64 ((NodeT.k x : Nat) : Int), .int .i64 ((NodeT.at' x : Nat) : Int), .string (strN (NodeT.s x)), .bool (zn (NodeT.z x)), .int .u64 (zh (NodeT.z x)), .int .u64 (zl (NodeT.z x)), .int .i64 ((NodeT.i x : Nat) : Int), .slice A (NodeT.l x).length c] ∧ x.l.length ≤ c ∧ KidsL w' (fun b => w.heap.size ≤ b ∧ b < w'.heap.size) x.l A 0
def VL : World → World → List NodeT → Value → Prop := fun w w' l v => ∃ els : List El, l = els.map (·.1) ∧ w'.ownsRow w.heap.size 39 8 v els.length (flatE els) ∧ (Cold.els els).C w' (fun b => w.heap.size ≤ b ∧ b < w'.heap.size ∧ v.ownBlock ≠ some b)
def FC {α : Type} (K : FuncId) (args : Array Value) (f : PP α) (V : World → World → α → Value → Prop) (g : Nat) (ts : List TokF) (n : Nat) : Prop := ∀ w a d, PS g ts a d w → 65 ≤ d + n → Calls Tryz.prog K args w (PPost g ts w a d (f a d) V)
section
variable {α β : Type} {K : FuncId} {args : Array Value} {f : PP α} {V : World → World → α → Value → Prop} {g : Nat} {ts : List TokF} {n a d : Nat} {k : α → PP β} {R : PR β} {w0 w W : World} {bs : List Bx} {rs : List Rw} {F : List Cold} {T : Ending → World → Prop}
theorem bind_ok {x : α} {a' d' : Nat} (h : f a d = .ok x a' d') (HF : (f >>= k) a d = R) : k x a' d' = R := by
  have e : (f >>= k) a d = k x a' d' := by show PP.bind f k a d = _; unfold PP.bind; rw [h]
  rw [← e]; exact HF
theorem bind_err {pl : Nat} {q : Int} (h : f a d = .err pl q) (HF : (f >>= k) a d = R) : R = .err pl q := by
  have e : (f >>= k) a d = .err pl q := by show PP.bind f k a d = _; unfold PP.bind; rw [h]
  rw [← e]; exact HF.symm
theorem Own.pcall {a' d' : Nat} (HO : Own w0 [g] (PS g ts a d) bs rs F w) (hg : g < w0.heap.size) (q : Kept [g] w W) (hs : PS g ts a' d' W) : Own w0 [g] (PS g ts a' d') bs rs F W :=
  HO.call (Y := [g]) (fun y hy => ⟨hy, by rw [List.mem_singleton.1 hy]; exact hg⟩) q hs (PS.loc hg)
theorem arm_fc (HC : Hid (FC K args f V g ts n)) (HO : Hid (Own w0 [g] (PS g ts a d) bs rs F w)) (HF : Hid ((f >>= k) a d = R)) (hg : g < w0.heap.size) (hn : 65 ≤ d + n)
    (hok : ∀ v x a' W, V w W x v → Kept [g] w W → Hid (Own w0 [g] (PS g ts a' d) bs rs F W) → a ≤ a' → Hid (k x a' d = R) → T (.returned v) W)
    (herr : ∀ v pl e W, Hid (FailV W w0.heap.size v pl e) → Hid (Kept [g] w0 W) → Hid (R = .err pl e) → T (.panicked [{ v := v, recovered := false }]) W) : Calls Tryz.prog K args w T := by
  refine (HC.out w a d HO.out.st hn).mono fun e W hp => ?_
  unfold PPost at hp
  cases hr : f a d with
  | ok x a' d' =>
    rw [hr] at hp
    obtain ⟨v, rfl, hv, hs, hk, ha, rfl⟩ := hp
    exact hok v x a' W hv hk (Lib.hid (HO.out.pcall hg hk hs)) ha (Lib.hid (bind_ok hr HF.out))
  | err pl q =>
    rw [hr] at hp
    obtain ⟨v, rfl, hv, hk⟩ := hp
    exact herr v pl q W (Lib.hid (hv.mono HO.out.kept.size)) (Lib.hid (HO.out.kept.trans hk (fun y hy => .inl hy))) (Lib.hid (bind_err hr HF.out))
theorem arm_node {f : PP NodeT} {k : NodeT → PP β} (HC : Hid (FC K args f VN g ts n)) (HO : Hid (Own w0 [g] (PS g ts a d) bs rs F w)) (HF : Hid ((f >>= k) a d = R)) (hg : g < w0.heap.size) (hn : 65 ≤ d + n)
    (hok : ∀ (x : NodeT) A c a' W, Hid (Own w0 [g] (PS g ts a' d) bs rs (Cold.kids A x.l :: F) W) → x.l.length ≤ c → a ≤ a' → Hid (k x a' d = R) → T (.returned (.agg #[.int .i64 ((NodeT.k x : Nat) : Int), .int .i64 ((NodeT.at' x : Nat) : Int), .string (strN (NodeT.s x)), .bool (zn (NodeT.z x)), .int .u64 (zh (NodeT.z x)), .int .u64 (zl (NodeT.z x)), .int .i64 ((NodeT.i x : Nat) : Int), .slice A (NodeT.l x).length c])) W)
    (herr : ∀ v pl e W, Hid (FailV W w0.heap.size v pl e) → Hid (Kept [g] w0 W) → Hid (R = .err pl e) → T (.panicked [{ v := v, recovered := false }]) W) : Calls Tryz.prog K args w T := by
  refine arm_fc HC HO HF hg hn (fun v x a' W hv hk HO' ha HF' => ?_) herr
  obtain ⟨A, c, rfl, hc, hkids⟩ := hv
  exact hok x A c a' W (Lib.hid (HO'.out.addCold (Cold.kids A x.l) w.heap.size HO.out.kept.size (fun b hb => (HO.out.hot_lt b hb).2) hkids)) hc ha HF'
theorem arm_list {f : PP (List NodeT)} {k : List NodeT → PP β} (HC : Hid (FC K args f VL g ts n)) (HO : Hid (Own w0 [g] (PS g ts a d) bs rs F w)) (HF : Hid ((f >>= k) a d = R)) (hg : g < w0.heap.size) (hn : 65 ≤ d + n)
    (hok : ∀ (els : List El) A c a' W, Hid (Own w0 [g] (PS g ts a' d) bs (⟨39, 8, .slice A els.length c, els.length, flatE els⟩ :: rs) (Cold.els els :: F) W) → els.length ≤ c → a ≤ a' → Hid (k (els.map (·.1)) a' d = R) → T (.returned (.slice A els.length c)) W)
    (herr : ∀ v pl e W, Hid (FailV W w0.heap.size v pl e) → Hid (Kept [g] w0 W) → Hid (R = .err pl e) → T (.panicked [{ v := v, recovered := false }]) W) : Calls Tryz.prog K args w T := by
  refine arm_fc HC HO HF hg hn (fun v x a' W hv hk HO' ha HF' => ?_) herr
  obtain ⟨els, rfl, hrow, hcold⟩ := hv
  have h2 := HO.out.callRow HO'.out hk.size (fun b h1 h2 => hk.block b h2 (by simp; omega)) ⟨39, 8, v, els.length, flatE els⟩ hrow (Cold.els els) hcold
  have hv2 := hrow.2
  rcases hv2 with ⟨rfl, h0⟩ | ⟨gg, cap, cur, rfl, _, _, hn2, _⟩
  · have h0' : els.length = 0 := h0
    have := hok els none 0 a' W (by rw [h0'] at h2 ⊢; exact Lib.hid h2) (by omega) ha HF'
    rw [h0'] at this
    exact this
  · exact hok els _ _ a' W (Lib.hid h2) hn2 ha HF'
theorem arm_unit {f : PP Unit} {k : Unit → PP β} (HC : Hid (FC K args f VU g ts n)) (HO : Hid (Own w0 [g] (PS g ts a d) bs rs F w)) (HF : Hid ((f >>= k) a d = R)) (hg : g < w0.heap.size) (hn : 65 ≤ d + n)
    (hok : ∀ a' W, Hid (Own w0 [g] (PS g ts a' d) bs rs F W) → a ≤ a' → Hid (k () a' d = R) → T (.returned (.tuple #[])) W)
    (herr : ∀ v pl e W, Hid (FailV W w0.heap.size v pl e) → Hid (Kept [g] w0 W) → Hid (R = .err pl e) → T (.panicked [{ v := v, recovered := false }]) W) : Calls Tryz.prog K args w T := by
  refine arm_fc HC HO HF hg hn (fun v x a' W hv hk HO' ha HF' => ?_) herr
  obtain rfl : v = .tuple #[] := hv
  exact hok a' W HO' ha HF'
theorem arm_tokn {f : PP TokF} {k : TokF → PP β} (HC : Hid (FC K args f VT g ts n)) (HO : Hid (Own w0 [g] (PS g ts a d) bs rs F w)) (HF : Hid ((f >>= k) a d = R)) (hg : g < w0.heap.size) (hn : 65 ≤ d + n)
    (hok : ∀ t a' W, Hid (Own w0 [g] (PS g ts a' d) bs rs F W) → a ≤ a' → Hid (k t a' d = R) → T (.returned (.agg #[.int .i64 ((TokF.k t : Nat) : Int), .int .i64 ((TokF.at' t : Nat) : Int), .string (strN (TokF.s t)), .bool (zn (TokF.z t)), .int .u64 (zh (TokF.z t)), .int .u64 (zl (TokF.z t))])) W)
    (herr : ∀ v pl e W, Hid (FailV W w0.heap.size v pl e) → Hid (Kept [g] w0 W) → Hid (R = .err pl e) → T (.panicked [{ v := v, recovered := false }]) W) : Calls Tryz.prog K args w T := by
  refine arm_fc HC HO HF hg hn (fun v x a' W hv hk HO' ha HF' => ?_) herr
  obtain rfl : v = tokV x := hv
  exact hok x a' W HO' ha HF'
theorem arm_quiet {r : Value} (HC : Hid (∀ w, PS g ts a d w → Calls Tryz.prog K args w fun e w' => e = .returned r ∧ Below w.heap.size w w')) (HO : Hid (Own w0 [g] (PS g ts a d) bs rs F w))
    (hok : ∀ W, Hid (Own w0 [g] (PS g ts a d) bs rs F W) → T (.returned r) W) : Calls Tryz.prog K args w T := by
  refine (HC.out w HO.out.st).mono fun e W hp => ?_
  obtain ⟨rfl, q⟩ := hp
  exact hok W (Lib.hid (HO.out.next q))
theorem bp_panic2 {V : World → World → β → Value → Prop} {v : Value} {pl : Nat} {e : Int} {act : Act} (hdef : act.defers = []) (h1 : Hid (FailV W w0.heap.size v pl e)) (h2 : Hid (Kept [g] w0 W)) (h3 : Hid (R = .err pl e)) : act.defers = [] ∧ PPost g ts w0 n d R V (.panicked [{ v := v, recovered := false }]) W := by
  refine ⟨hdef, ?_⟩
  rw [h3.out]
  exact ⟨v, rfl, h1.out, h2.out⟩
theorem bp_ok {V : World → World → β → Value → Prop} {x : β} {a0 a' d' : Nat} {v : Value} (HO : Hid (Own w0 [g] (PS g ts a' d) bs rs F W)) (HF : Hid ((pure x : PP β) a' d = R)) (ha : a0 ≤ a') (hd : d = d') (hV : V w0 W x v) : PPost g ts w0 a0 d' R V (.returned v) W := by
  have e : R = .ok x a' d := HF.out.symm
  rw [e]
  exact ⟨v, rfl, hV, HO.out.st, HO.out.kept, ha, hd⟩
theorem bp_kids {A : Option Addr} {l : List NodeT} {S : World → Prop} {X : List Nat} (HO : Hid (Own w0 X S bs rs F W)) (hm : Cold.kids A l ∈ F) : KidsL W (fun b => w0.heap.size ≤ b ∧ b < W.heap.size) l A 0 :=
  KidsL.st (fun b hb => ⟨⟨hb.1, hb.2.1⟩, rfl⟩) l A 0 (HO.out.cold _ hm)
end
open Go.RowKit
theorem quotS_lt (sign : Nat) : ∀ (l : List Nat) (e : Bool) (n : Nat), quotS sign e l = some n → n < l.length
  | [], e, n, h => by cases e <;> simp [quotS] at h
  | c :: r, e, n, h => by
    rw [quotS] at h
    split at h
    · cases h
    · cases e with
      | true =>
        simp only [if_true] at h
        cases hq : quotS sign false r with
        | none => rw [hq] at h; cases h
        | some m =>
          rw [hq] at h
          obtain rfl : m + 1 = n := Option.some.inj h
          have := quotS_lt sign r false m hq
          simp; omega
      | false =>
        simp only [Bool.false_eq_true, if_false] at h
        split at h
        · obtain rfl : 0 = n := Option.some.inj h
          simp
        · cases hq : quotS sign (decide (c = 92)) r with
          | none => rw [hq] at h; cases h
          | some m =>
            rw [hq] at h
            obtain rfl : m + 1 = n := Option.some.inj h
            have := quotS_lt sign r _ m hq
            simp; omega
theorem numL_le' (l : List Nat) : numL l ≤ l.length := by
  unfold numL
  have h1 : (l.takeWhile isDig).length ≤ l.length := (List.takeWhile_prefix _).length_le
  dsimp only
  split
  · rename_i r e
    have h2 : (r.takeWhile isDig).length ≤ r.length := (List.takeWhile_prefix _).length_le
    have h3 := congrArg List.length e
    rw [List.length_drop, List.length_cons] at h3
    omega
  · exact h1
theorem numL_pos {c : Nat} {r : List Nat} (h : isDig c = true ∨ (c = 46 ∧ isDig (r.getD 0 0) = true)) : 0 < numL (c :: r) := by
  unfold numL
  dsimp only
  rcases h with h | ⟨rfl, h⟩
  · rw [List.takeWhile_cons, if_pos h, List.length_cons]
    split <;> omega
  · have : isDig 46 = false := rfl
    rw [List.takeWhile_cons, this]
    simp
    omega
structure TkOk (t : TokF) (n m : Nat) : Prop where
  k0 : t.k ≠ 0
  byte : ∀ x ∈ t.s, x < 256
  size : t.s.length ≤ m
  pos : 0 < n
  le : n ≤ m
  k1 : t.k = 1 → t.s = [] ∧ t.z = 0
theorem unesc_len : ∀ (f : Nat) (l : List Nat), (unesc f l).length ≤ l.length
  | 0, l => by rw [unesc]; simp
  | f + 1, [] => by rw [unesc]; simp
  | f + 1, c :: r => by
    rw [unesc_step]
    split
    · split
      · cases r with
        | nil => simp
        | cons d r' => have := unesc_len f r'; simp; omega
      · have := unesc_len f (r.drop (octD 3 r 0).2)
        rw [List.length_drop] at this
        simp; omega
    · have := unesc_len f r; simp; omega
theorem unreg_len : ∀ (n : Nat) (l : List Nat), l.length ≤ n → (unreg l).length ≤ l.length
  | _, [], _ => by rw [unreg]; simp
  | _, [c], _ => by rw [unreg]; simp
  | 0, c :: d :: r, hn => by simp at hn
  | n + 1, c :: d :: r, hn => by
    simp only [List.length_cons] at hn
    rw [unreg]
    split
    · split
      · have := unreg_len n r (by omega); simp; omega
      · have := unreg_len n r (by omega); simp; omega
    · have := unreg_len n (d :: r) (by simp; omega); simp at this ⊢; omega
theorem nextL_ok {last : Option TokF} {a : Nat} {l : List Nat} {t : TokF} {n : Nat} (hb : ∀ x ∈ l, x < 256) (h : nextL last a l = .ok (t, n)) : TkOk t n l.length := by
  cases l with
  | nil => unfold nextL at h; cases h
  | cons c r =>
    unfold nextL at h
    dsimp only at h
    have hbr : ∀ x ∈ r, x < 256 := fun x hx => hb x (List.mem_cons_of_mem _ hx)
    by_cases h10 : c = 10
    · rw [if_pos h10] at h
      injection h with h; injection h with h1 h2; subst h1 h2
      exact ⟨by simp, by simp, by simp, by decide, by simp, fun _ => ⟨rfl, rfl⟩⟩
    · rw [if_neg h10] at h
      by_cases hd : isDig c = true ∨ (c = 46 ∧ isDig (r.getD 0 0) = true)
      · rw [if_pos hd] at h
        split at h
        · cases h
        · injection h with h; injection h with h1 h2; subst h1 h2
          exact ⟨by simp, by simp, by simp, numL_pos hd, numL_le' _, fun h => by cases h⟩
      · rw [if_neg hd] at h
        by_cases h34 : c = 34
        · rw [if_pos h34] at h
          cases hq : quotN 34 r with
          | none => rw [hq] at h; cases h
          | some m =>
            rw [hq] at h
            injection h with h; injection h with h1 h2; subst h1 h2
            have hm := quotS_lt 34 r false m hq
            have hl := unesc_len (m + 1) (r.take m)
            rw [List.length_take, Nat.min_eq_left (by omega)] at hl
            exact ⟨by simp, unesc_byte _ _ (fun x hx => hbr x (List.mem_of_mem_take hx)), by simp; omega, by omega, by simp; omega, fun h => by cases h⟩
        · rw [if_neg h34] at h
          by_cases h47 : c = 47 ∧ operandL last = true
          · rw [if_pos h47] at h
            cases hq : quotN 47 r with
            | none => rw [hq] at h; cases h
            | some m =>
              rw [hq] at h
              injection h with h; injection h with h1 h2; subst h1 h2
              have hm := quotS_lt 47 r false m hq
              have hl := unreg_len _ (r.take m) (Nat.le_refl _)
              rw [List.length_take, Nat.min_eq_left (by omega)] at hl
              exact ⟨by simp, fun x hx => hbr x (List.mem_of_mem_take (unreg_sub _ _ (Nat.le_refl _) x hx)), by simp; omega, by omega, by simp; omega, fun h => by cases h⟩
          · rw [if_neg h47] at h
            by_cases hl : isLet c = true
            · rw [if_pos hl] at h
              injection h with h; injection h with h1 h2; subst h1 h2
              have hk : nameK (c :: r) ≠ 0 ∧ nameK (c :: r) ≠ 1 := by unfold nameK; repeat (first | (split) | exact ⟨by decide, by decide⟩)
              have hn : nameN (c :: r) ≤ (c :: r).length := (List.takeWhile_prefix _).length_le
              have hp : 0 < nameN (c :: r) := by unfold nameN; rw [List.takeWhile_cons, if_pos (by rw [hl]; rfl)]; simp
              exact ⟨hk.1, fun x hx => hb x (List.mem_of_mem_take hx), by simp only [List.length_take]; omega, hp, hn, fun h => absurd h hk.2⟩
            · rw [if_neg hl] at h
              split at h
              · cases h
              · rename_i hs
                injection h with h; injection h with h1 h2; subst h1 h2
                have hn : signN (c :: r) ≤ (c :: r).length := by
                  unfold signN
                  split
                  · rename_i h2; exact h2.1
                  · split <;> simp
                exact ⟨by simp, fun x hx => hb x (List.mem_of_mem_take hx), by simp only [List.length_take]; omega, by omega, hn, fun h => by cases h⟩
theorem allF_ok : ∀ (f a : Nat) (l : List Nat) (ts us : List TokF) (N : Nat), (∀ x ∈ l, x < 256) → l.length ≤ N → (∀ t ∈ ts, TkOk t 1 N) → allF f a l ts = .ok us → ∃ vs e, us = ts ++ vs ++ [e] ∧ e.k = 0 ∧ e.s = [] ∧ e.z = 0 ∧ vs.length ≤ f ∧ vs.length ≤ l.length ∧ ∀ t ∈ vs, TkOk t 1 N
  | 0, a, l, ts, us, N, hb, hN, ht, h => by
    rw [allF] at h
    injection h with h
    exact ⟨[], ⟨0, a, [], 0⟩, by rw [← h]; simp, rfl, rfl, rfl, Nat.zero_le _, Nat.zero_le _, by simp⟩
  | f + 1, a, l, ts, us, N, hb, hN, ht, h => by
    rw [allF] at h
    cases hd : l.drop (passN l) with
    | nil =>
      rw [hd] at h
      injection h with h
      exact ⟨[], ⟨0, a + l.length, [], 0⟩, by rw [← h]; simp, rfl, rfl, rfl, Nat.zero_le _, Nat.zero_le _, by simp⟩
    | cons c r =>
      rw [hd] at h
      dsimp only at h
      have hb2 : ∀ x ∈ (c :: r), x < 256 := fun x hx => hb x (by rw [← hd] at hx; exact List.mem_of_mem_drop hx)
      have hl2 : (c :: r).length ≤ l.length := by rw [← hd, List.length_drop]; omega
      cases hn : nextL ts.getLast? (a + passN l) (c :: r) with
      | error e => rw [hn] at h; cases h
      | ok tn =>
        obtain ⟨t, n⟩ := tn
        rw [hn] at h
        dsimp only at h
        have hk := nextL_ok hb2 hn
        have hk1 : TkOk t 1 N := ⟨hk.k0, hk.byte, by have := hk.size; omega, by decide, by have := hk.le; have := hk.pos; omega, hk.k1⟩
        obtain ⟨vs, e, hu, e0, e1, e2, h3, h4, h5⟩ := allF_ok f _ ((c :: r).drop n) (ts ++ [t]) us N (fun x hx => hb2 x (List.mem_of_mem_drop hx)) (by rw [List.length_drop]; omega) (fun x hx => by
          rcases List.mem_append.1 hx with hx | hx
          · exact ht x hx
          · obtain rfl := List.mem_singleton.1 hx; exact hk1) h
        refine ⟨t :: vs, e, by rw [hu]; simp, e0, e1, e2, by simp; omega, by rw [List.length_drop] at h4; have := hk.pos; simp only [List.length_cons] at *; omega, fun x hx => ?_⟩
        rcases List.mem_cons.1 hx with rfl | hx
        · exact hk1
        · exact h5 x hx
def lexS (src : List Nat) : Except (Nat × Int) (List TokF) := if 16384 < src.length then .error (0, 5) else allF src.length 0 src []
theorem lexS_ok {src : List Nat} {ts : List TokF} (hb : ∀ x ∈ src, x < 256) (h : lexS src = .ok ts) : ∃ vs e, ts = vs ++ [e] ∧ e.k = 0 ∧ e.s = [] ∧ e.z = 0 ∧ vs.length ≤ 16384 ∧ ∀ t ∈ vs, TkOk t 1 16384 := by
  unfold lexS at h
  split at h
  · cases h
  · obtain ⟨vs, e, hu, e0, e1, e2, h3, h4, h5⟩ := allF_ok src.length 0 src [] ts 16384 hb (by omega) (by simp) h
    exact ⟨vs, e, by simpa using hu, e0, e1, e2, by omega, h5⟩
theorem TsOk.of {vs : List TokF} {e : TokF} (e0 : e.k = 0) (e1 : e.s = []) (hl : vs.length ≤ 16384) (h : ∀ t ∈ vs, TkOk t 1 16384) : TsOk (vs ++ [e]) := by
  refine ⟨by simp; omega, fun i hi hk => ?_, fun t ht x hx => ?_, fun t ht => ?_⟩
  · rw [List.length_append, List.length_singleton] at hi ⊢
    rcases Nat.lt_or_ge i vs.length with h1 | h1
    · omega
    · exfalso
      obtain rfl : i = vs.length := by omega
      apply hk
      rw [tk_eq (by simp)]
      simp [e0]
  · rcases List.mem_append.1 ht with ht | ht
    · exact (h t ht).byte x hx
    · obtain rfl := List.mem_singleton.1 ht
      rw [e1] at hx; cases hx
  · rcases List.mem_append.1 ht with ht | ht
    · have := (h t ht).size; omega
    · obtain rfl := List.mem_singleton.1 ht
      rw [e1]; simp
end Go.Proofs.YtdiibenofbcfnaaGreat
