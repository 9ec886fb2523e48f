/- Several texts put together: LexF, RtB, ParB, ParC, ParD, ParE, ParF, ParG, ParH, ParQ, ParU, SimA, OneA, RtC, RtD, RtE, ParI, PasC, ParJ, ParK, ParL, ParM, ParN, ParR, ParT, ParV, PasD, PasE, PasF, PasG, PasH, RtF, RtG, RtH. -/
import Derived.Test.YthipoccbeloceaaBu5
import Derived.Test.YthipoccbeloceaaBu3
import Derived.Test.YthipoccbeloceaaBu1
import Derived.Test.YthipoccbeloceaaBu4
import Derived.Test.YthipoccbeloceaaShelf
import Derived.Lib.SlicesS
import Derived.Deep.Quiet
set_option linter.unusedSimpArgs false
set_option linter.unusedVariables false
namespace Go.Proofs.Ythipoccbeloceaa
open Go.RowKit
def tokC (t : TokF) : List Value := [.int .i64 (t.k : Int), .int .i64 (t.at' : Int), .string (strN t.s), .bool (zn t.z), .int .u64 (zh t.z), .int .u64 (zl t.z)]
theorem flatAtT {α : Type} (f : α → List Value) (k : Nat) (hf : ∀ y, (f y).length = k) : ∀ (l : List α) (i j : Nat) (hi : i < l.length), j < k → (l.flatMap f)[i * k + j]? = (f l[i])[j]?
  | a :: l, 0, j, hi, hj => by rw [List.flatMap_cons, Nat.zero_mul, Nat.zero_add, List.getElem?_append_left (by rw [hf]; exact hj)]; rfl
  | a :: l, i + 1, j, hi, hj => by
    rw [List.flatMap_cons, List.getElem?_append_right (by rw [hf, Nat.add_mul]; omega), hf, show (i + 1) * k + j - k = i * k + j by rw [Nat.add_mul]; omega]
    exact flatAtT f k hf l i j (by simpa using hi) hj
structure At6 (w : World) (B sb qo : Nat) (sp : Option Nat) (t : TokF) : Prop where
  z : sb < B
  c0 : w.cell? ⟨sb, qo, sp⟩ = some (.int .i64 (t.k : Int))
  c1 : w.cell? ⟨sb, qo + 1, none⟩ = some (.int .i64 (t.at' : Int))
  c2 : w.cell? ⟨sb, qo + 2, none⟩ = some (.string (strN t.s))
  c3 : w.cell? ⟨sb, qo + 3, none⟩ = some (.bool (zn t.z))
  c4 : w.cell? ⟨sb, qo + 4, none⟩ = some (.int .u64 (zh t.z))
  c5 : w.cell? ⟨sb, qo + 5, none⟩ = some (.int .u64 (zl t.z))
theorem add_atT (ad : Addr) (m j : Nat) : ad.add (m + (j + 1)) = ⟨(ad.add m).block, (ad.add m).off + (j + 1), none⟩ := by
  unfold Addr.add
  by_cases h : m = 0
  · subst h; simp
  · rw [if_neg (by omega), if_neg h]
    simp [Nat.add_assoc]
theorem tok_at {w : World} {B i : Nat} {A : Option Addr} {ts : List TokF} (h : Reads w B 6 A ts.length (ts.flatMap tokC)) (hi : i < ts.length) : ∃ ad sb qo sp, A = some ad ∧ ad.add (i * 6) = (⟨sb, qo, sp⟩ : Addr) ∧ At6 w B sb qo sp ts[i] := by
  obtain ⟨ad, e, hb, hc⟩ := h.2 (by omega)
  have hbl : (ad.add (i * 6)).block = ad.block := block_of_add ..
  have g0 := hc (i * 6 + 0) _ (flatAtT tokC 6 (fun _ => rfl) ts i 0 hi (by omega))
  have g : ∀ j, j + 1 < 6 → ∀ u, (tokC ts[i])[j + 1]? = some u → w.cell? ⟨(ad.add (i * 6)).block, (ad.add (i * 6)).off + (j + 1), none⟩ = some u := fun j hj u hu => by
    rw [← add_atT]
    exact hc _ u (by rw [flatAtT tokC 6 (fun _ => rfl) ts i (j + 1) hi hj]; exact hu)
  exact ⟨ad, (ad.add (i * 6)).block, (ad.add (i * 6)).off, (ad.add (i * 6)).spot, e, rfl, ⟨by rw [hbl]; exact hb, g0, g 0 (by omega) _ rfl, g 1 (by omega) _ rfl, g 2 (by omega) _ rfl, g 3 (by omega) _ rfl, g 4 (by omega) _ rfl⟩⟩
structure OpS (g B : Nat) (ad : Addr) (c n sb qo : Nat) (sp : Option Nat) (t : TokF) (w' : World) : Prop where
  c0 : w'.cell? ⟨g, 2, none⟩ = some (.slice (some ad) n c)
  z : g < w'.heap.size
  hB : B ≤ w'.heap.size
  t6 : At6 w' B sb qo sp t
theorem OpS.next {g B : Nat} {ad : Addr} {c n sb qo : Nat} {sp : Option Nat} {t : TokF} {w' w2 : World} (h : OpS g B ad c n sb qo sp t w') (q : Below w'.heap.size w' w2) : OpS g B ad c n sb qo sp t w2 := by
  have hz : sb < w'.heap.size := Nat.lt_of_lt_of_le h.t6.z h.hB
  exact ⟨(q.cell h.z).trans h.c0, Nat.lt_of_lt_of_le h.z q.size, Nat.le_trans h.hB q.size, ⟨h.t6.z, (q.cell hz).trans h.t6.c0, (q.cell hz).trans h.t6.c1, (q.cell hz).trans h.t6.c2, (q.cell hz).trans h.t6.c3, (q.cell hz).trans h.t6.c4, (q.cell hz).trans h.t6.c5⟩⟩
theorem list8 {l : List Nat} (hl : ∀ x ∈ l, x < 256) (m : List Nat) (hm : ∀ x ∈ m, x < 256) : (strN l).toList = m.map UInt8.ofNat ↔ l = m := by
  rw [strN_list]
  exact ⟨fun h => map8_inj hl hm h, fun h => by rw [h]⟩
theorem operandL_8 (t : TokF) (hs : ∀ x ∈ t.s, x < 256) : operandL (some t) = if ((t.k : Int) == 1) = true then true else if ((t.k : Int) == 7) = true then true else if ((t.k : Int) == 9) = true then
    (decide (¬(strN t.s).toList = [41]) && (decide (¬(strN t.s).toList = [93]) && (decide (¬(strN t.s).toList = [43, 43]) && decide (¬(strN t.s).toList = [45, 45])))) else false := by
  have h1 := list8 hs [41] (by decide)
  have h2 := list8 hs [93] (by decide)
  have h3 := list8 hs [43, 43] (by decide)
  have h4 := list8 hs [45, 45] (by decide)
  have e1 : ((t.k : Int) == 1) = decide (t.k = 1) := by rw [Bool.eq_iff_iff]; simp; omega
  have e2 : ((t.k : Int) == 7) = decide (t.k = 7) := by rw [Bool.eq_iff_iff]; simp; omega
  have e3 : ((t.k : Int) == 9) = decide (t.k = 9) := by rw [Bool.eq_iff_iff]; simp; omega
  simp only [List.map_cons, List.map_nil] at h1 h2 h3 h4
  have h1' : (strN t.s).toList = [41] ↔ t.s = [41] := h1
  have h2' : (strN t.s).toList = [93] ↔ t.s = [93] := h2
  have h3' : (strN t.s).toList = [43, 43] ↔ t.s = [43, 43] := h3
  have h4' : (strN t.s).toList = [45, 45] ↔ t.s = [45, 45] := h4
  rw [e1, e2, e3]
  unfold operandL
  simp only [h1', h2', h3', h4', decide_eq_true_eq]
  by_cases a1 : t.k = 1
  · simp [a1]
  · by_cases a7 : t.k = 7
    · simp [a7]
    · simp [a1, a7]
set_option maxRecDepth 100000 in
set_option maxHeartbeats 3200000 in
theorem operand_more {g B : Nat} {ts : List TokF} {A : Option Addr} {c : Nat} (w : World) (h2 : w.cell? ⟨g, 2, none⟩ = some (.slice A ts.length c)) (hg : g < w.heap.size) (hr : Reads w B 6 A ts.length (ts.flatMap tokC)) (hB : B ≤ w.heap.size) (hc : ts.length ≤ c) (n : Nat) (hn : ts.length = n + 1) (hm : n ≤ 1000000) (hts : ∀ t ∈ ts, ∀ x ∈ t.s, x < 256) :
    Calls Try.prog 45 #[.pointer (some ⟨g, 0, none⟩)] w fun e w' => e = .returned (.bool (operandL ts.getLast?)) ∧ Below w.heap.size w w' := by
  obtain ⟨ad, sb, qo, sp, rfl, hq, h6⟩ := tok_at hr (show n < ts.length by omega)
  have hl : ts.getLast? = some (ts[n]'(by omega)) := by
    have e : ts.length - 1 = n := by omega
    rw [List.getLast?_eq_getElem?, e]; exact List.getElem?_eq_getElem _
  rw [hl]
  rw [hn] at h2 hc
  have hop := operandL_8 (ts[n]'(by omega)) (hts _ (List.getElem_mem _))
  generalize ts[n]'(by omega) = t at h6 hop ⊢
  generalize operandL (some t) = R at hop ⊢
  have HOP := Lib.hid hop
  clear hop hts
  have HOS := Lib.hid (⟨h2, hg, hB, h6⟩ : OpS g B ad c (n + 1) sb qo sp t w)
  have hw : wrap64 ((n : Int) + 1 - 1) = (n : Int) := by rw [Int.add_sub_cancel]; exact IntWalk.wrap64_in _ (by omega)
  have hw4 : IntKind.i64.wrap (n : Int) = (n : Int) := IntWalk.i64_in _ (by omega)
  have hlt4 : (n : Int) < (n : Int) + 1 := by omega
  have hne : ((n : Int) + 1 == 0) = false := by rw [beq_eq_false_iff_ne]; omega
  have hsz : sb < w.heap.size := Nat.lt_of_lt_of_le h6.z hB
  clear hl hr h6
  go_enter Try.func45, Try.ntmps45
  go_upto_region 3 with fail
  clear h2
  refine wp_region_held_drew (S := (fun w' => OpS g B ad c (n + 1) sb qo sp t w')) (by kernel_rfl) ?_ (fun hHeld => ?_)
  · (try dsimp only)
    (first | (with_reducible assumption) | ((with_reducible refine OpS.next ?_ (Below.drew (Below.refl _ _))); with_reducible exact HOS.out) | ((with_reducible refine OpS.next HOS.out ?_); (repeat' (first | with_reducible exact Below.refl _ _ | with_reducible refine Below.drew ?_ | with_reducible refine Below.alloc ?_ ?_ _ | with_reducible refine Below.setCell ?_ ?_ _ | with_reducible exact Nat.le_refl _ | (simp; done))); done))
  refine h4_b [0, 1, 2, 3, 4, 5, 6, 7, 8, 9, 10, 11] ?_
  (repeat (refine h4_p rfl (by kernel_rfl) (fun _ _ _ h => h) (by rfl) hHeld (by intro wS hSw; have k0 := hSw.c0; have kz := hSw.z; obtain ⟨tz, k2, k3, k4, k5, k6, k7⟩ := hSw.t6; have kB := hSw.hB; go_simp; (try with_reducible rfl)) ?_; (try simp only [Act.put, List.setIfInBounds_toArray, List.set_cons_zero, List.set_cons_succ])))
  refine h4_e ?_
  refine wpAnyH_ready (rs := [12]) (by kernel_rfl) (by simp) ?_
  refine (h4_cons rfl (fun K hK => ?_) AllReadyH.nil)
  go_simp
  refine hK.out _ _ ?_ (fun hHeld1 => ?_)
  · (try dsimp only)
    (first | (with_reducible assumption) | ((with_reducible refine OpS.next ?_ (Below.drew (Below.refl _ _))); with_reducible exact HOS.out) | ((with_reducible refine OpS.next HOS.out ?_); (repeat' (first | with_reducible exact Below.refl _ _ | with_reducible refine Below.drew ?_ | with_reducible refine Below.alloc ?_ ?_ _ | with_reducible refine Below.setCell ?_ ?_ _ | with_reducible exact Nat.le_refl _ | (simp; done))); done))
  clear hK K hHeld
  try simp only [Act.put, List.setIfInBounds_toArray, List.set_cons_zero, List.set_cons_succ]
  refine wpAnyH_ready (rs := [13]) (by kernel_rfl) (by simp) ?_
  refine (h4_cons rfl (fun K hK => ?_) AllReadyH.nil)
  go_simp
  refine hK.out _ _ ?_ (fun hHeld2 => ?_)
  · (try dsimp only)
    (first | (with_reducible assumption) | ((with_reducible refine OpS.next ?_ (Below.drew (Below.refl _ _))); with_reducible exact HOS.out) | ((with_reducible refine OpS.next HOS.out ?_); (repeat' (first | with_reducible exact Below.refl _ _ | with_reducible refine Below.drew ?_ | with_reducible refine Below.alloc ?_ ?_ _ | with_reducible refine Below.setCell ?_ ?_ _ | with_reducible exact Nat.le_refl _ | (simp; done))); done))
  clear hK K hHeld1
  try simp only [Act.put, List.setIfInBounds_toArray, List.set_cons_zero, List.set_cons_succ]
  refine wpAnyH_done (by kernel_rfl) ?_ _
  go_wp2_with fail
  all_goals
    go_ret
    have hop := HOP.out
    simp only [if_true, if_false, Bool.false_eq_true, decide_true, decide_false, not_true, not_false_eq_true, Bool.false_and, Bool.true_and, Bool.and_true, *] at hop
    refine ⟨congrArg (fun b => Ending.returned (Value.bool b)) ?_, by (repeat' (first | (with_reducible exact Below.refl _ _) | (refine Below.trans ?_ (Below.mono (by with_reducible assumption) ?_)) | (with_reducible exact Below.refl _ _) | (with_reducible refine below_drewN ?_ _) | (with_reducible refine Below.drew ?_) | (with_reducible refine Below.setCell ?_ ?_ _) | (with_reducible refine Below.alloc ?_ ?_ _) | (with_reducible assumption) | (simp; done) | (simp; omega) | omega))⟩
    first | (rw [hop]; done) | (rw [hop]; rfl) | (rw [hop, Bool.eq_iff_iff]; simp; done) | (rw [hop, Bool.eq_iff_iff]; simp; intro _; exact ⟨⟨by assumption, by assumption⟩, by assumption⟩)
theorem operand_nil {g : Nat} {A : Option Addr} {c : Nat} (w : World) (h2 : w.cell? ⟨g, 2, none⟩ = some (.slice A 0 c)) :
    Calls Try.prog 45 #[.pointer (some ⟨g, 0, none⟩)] w fun e w' => e = .returned (.bool true) ∧ Below w.heap.size w w' := by
  go_enter Try.func45, Try.ntmps45
  go_wp2
  go_ret
  exact ⟨rfl, Below.refl _ _⟩
theorem operand_r {g B : Nat} {ts : List TokF} {A : Option Addr} {c : Nat} (w : World) (h2 : w.cell? ⟨g, 2, none⟩ = some (.slice A ts.length c)) (hg : g < w.heap.size) (hr : Reads w B 6 A ts.length (ts.flatMap tokC)) (hB : B ≤ w.heap.size) (hc : ts.length ≤ c) (hm : ts.length ≤ 1000000) (hts : ∀ t ∈ ts, ∀ x ∈ t.s, x < 256) :
    Calls Try.prog 45 #[.pointer (some ⟨g, 0, none⟩)] w fun e w' => e = .returned (.bool (operandL ts.getLast?)) ∧ Below w.heap.size w w' := by
  rcases Nat.eq_zero_or_pos ts.length with h | h
  · obtain rfl : ts = [] := List.length_eq_zero_iff.1 h
    exact operand_nil w h2
  · exact operand_more w h2 hg hr hB hc (ts.length - 1) (by omega) (by omega) hts
open Go.RowKit
def strV (s : List Nat) : Value := .string (strN s)
def byteOk (s : List Nat) : Prop := ∀ x ∈ s, x < 256
def refV (r : Rf) : Value := .agg #[.int .i64 r.fn, .int .i64 (r.i : Int)]
theorem findNow_str {s : List Nat} (hs : byteOk s) : ∀ (l : List (List Nat × Value)) (i : Nat), (∀ x ∈ l, byteOk x.1) → Instr.findNow .string (strV s) (entsF (encK strV l) i) i = some (posK s l i)
  | [], i, _ => rfl
  | x :: l, i, h => by
    have hx : byteOk x.1 := h x List.mem_cons_self
    have e : (strN s == strN x.1) = decide (x.1 = s) := by
      by_cases hxs : x.1 = s
      · rw [hxs, decide_eq_true rfl]
        exact (beq_toListBytes _ _).trans (by rw [beq_iff_eq])
      · rw [decide_eq_false hxs, beq_toListBytes, strN_list, strN_list, beq_eq_false_iff_ne]
        intro e
        exact hxs ((list8 hs x.1 hx).1 (by rw [strN_list]; exact e)).symm
    show Instr.findNow .string (strV s) (⟨strV x.1, x.2, i⟩ :: entsF (encK strV l) (i + 1)) i = _
    unfold Instr.findNow
    have e2 : Instr.sameNow .string (strV s) (strV x.1) = some (decide (x.1 = s)) := congrArg some e
    rw [posK]
    dsimp only
    rw [e2]
    by_cases hxs : x.1 = s
    · rw [decide_eq_true hxs, if_pos hxs]
    · rw [decide_eq_false hxs, if_neg hxs]
      exact findNow_str hs l (i + 1) (fun y hy => h y (List.mem_cons_of_mem _ hy))
theorem keyStr : KeyOk 9 strV byteOk where
  chk e k w _ := MapKept.run_checkKey (k := strV k) Try.underlying9 (by simp [MapKept.IsKey, strV]) e 9999
  find k l w hk hl := MapKept.run_findKey Try.underlying9 (findNow_str hk l 0 hl)
  stay k w _ := MapKept.run_keyThatStays (d := .string) (by simp [MapKept.IsKey, strV])
theorem ref_fields : Try.prog.fieldsOf 107 = fsOf Try.underlying107 := by
  unfold Program.fieldsOf
  rw [Try.underlying107]
theorem ref_stood : Try.prog.stoodInHeld 107 = false := by kernel_rfl
theorem run_eq_ref (w : World) (r s : Rf) : (Op.equal 107 (refV r) (refV s)).run Try.prog w = .ok (decide (r = s)) w := by
  have h := run_equalIn_struct (P := Try.prog) w 9999 107 #[.int .i64 r.fn, .int .i64 (r.i : Int)] #[.int .i64 s.fn, .int .i64 (s.i : Int)] (by rw [ref_fields]; exact Try.underlying107) ref_stood
  refine (show _ = _ from h).trans ?_
  rw [ref_fields]
  show (Op.eqFields (9998 + 1) #[Value.int .i64 r.fn, .int .i64 (r.i : Int)] #[.int .i64 s.fn, .int .i64 (s.i : Int)] (fsOf Try.underlying107).toList).run Try.prog w = _
  simp [fsOf, go_sem]
  by_cases h1 : r.fn = s.fn
  · rw [if_pos h1]
    by_cases h2 : r.i = s.i
    · rw [if_pos (by rw [h2])]
      have : r = s := by cases r; cases s; simp_all
      rw [decide_eq_true this]
    · rw [if_neg (by omega)]
      rw [decide_eq_false (fun e => h2 (by rw [e]))]
  · rw [if_neg h1, decide_eq_false (fun e => h1 (by rw [e]))]
theorem ask_ref (s : Rf) (w : World) : ∀ (l : List (Rf × Value)) (i : Nat), (Instr.findAsking 107 (refV s) (entsF (encK refV l) i) i).run Try.prog w = .ok (posK s l i) w
  | [], i => rfl
  | x :: l, i => by
    show (Instr.findAsking 107 (refV s) (⟨refV x.1, x.2, i⟩ :: entsF (encK refV l) (i + 1)) i).run Try.prog w = _
    unfold Instr.findAsking
    rw [posK]
    simp only [Sem.run_bind, run_eq_ref, Result.andThen_ok]
    by_cases h : x.1 = s
    · rw [if_pos h, decide_eq_true h.symm, if_pos rfl]
      rfl
    · rw [if_neg h, decide_eq_false (fun e => h e.symm), if_neg (by decide)]
      exact ask_ref s w l (i + 1)
theorem keyRef : KeyOk 107 refV (fun _ => True) where
  chk e k w _ := by
    show (Instr.checkKey e (9998 + 1 + 1) 107 (refV k)).run Try.prog w = _
    unfold Instr.checkKey refV
    simp [run_underlying Try.underlying107, go_sem]
    have h : ∀ x : Int, (Instr.checkKey e 9999 3 (.int .i64 x)).run Try.prog w = .ok () w := fun x => MapKept.run_checkKey (k := .int .i64 x) Try.underlying3 (by simp [MapKept.IsKey]) e 9998
    rw [h, Result.andThen_ok, h]
  find k l w _ _ := by
    unfold Instr.findKey
    simp only [Sem.run_bind, run_underlying Try.underlying107, Result.andThen_ok]
    cases l with
    | nil => rfl
    | cons x l => exact ask_ref k w (x :: l) 0
  stay k w _ := by
    have h : ∀ n, Instr.sameBits (n + 2) (refV k) (refV k) = true := fun n => by simp [Instr.sameBits, refV]
    unfold Instr.keyThatStays
    rw [h 9998, if_pos rfl]
    rfl
open Go.RowKit
structure TsOk (ts : List TokF) : Prop where
  len : ts.length ≤ 100000
  ends : ∀ i, i < ts.length → (tk ts i).k ≠ 0 → i + 1 < ts.length
  byte : ∀ t ∈ ts, ∀ x ∈ t.s, x < 256
  size : ∀ t ∈ ts, t.s.length ≤ 100000
section
variable {g : Nat} {ts : List TokF} {a d : Nat} {w w' : World}
theorem tk_eq (h : a < ts.length) : tk ts a = ts[a] := by unfold tk; rw [List.getD_eq_getElem?_getD, List.getElem?_eq_getElem h]; rfl
end
open Go.RowKit
def nodeC (n : NodeT) (A : Option Addr) (c : Nat) : List Value := [.int .i64 (n.k : Int), .int .i64 (n.at' : Int), .string (strN n.s), .bool (zn n.z), .int .u64 (zh n.z), .int .u64 (zl n.z), .int .i64 (n.i : Int), .slice A n.l.length c]
mutual
def KidsN (w : World) (F : Nat → Prop) : NodeT → Option Addr → Prop
  | .mk _ _ _ _ _ l, A => KidsL w F l A 0
def KidsL (w : World) (F : Nat → Prop) : List NodeT → Option Addr → Nat → Prop
  | [], _, _ => True
  | n :: l, A, j => (∃ b o A' c', A = some ⟨b, o, none⟩ ∧ F b ∧ w.rangeAt b (o + 8 * j) (nodeC n A' c') ∧ n.l.length ≤ c' ∧ KidsN w F n A') ∧ KidsL w F l A (j + 1)
end
mutual
theorem KidsN.st {w w' : World} {F F' : Nat → Prop} (hF : ∀ b, F b → F' b ∧ w'.heap[b]? = w.heap[b]?) : ∀ (n : NodeT) (A : Option Addr), KidsN w F n A → KidsN w' F' n A
  | .mk _ _ _ _ _ l, A, h => by
    rw [KidsN] at h ⊢
    exact KidsL.st hF l A 0 h
theorem KidsL.st {w w' : World} {F F' : Nat → Prop} (hF : ∀ b, F b → F' b ∧ w'.heap[b]? = w.heap[b]?) : ∀ (l : List NodeT) (A : Option Addr) (j : Nat), KidsL w F l A j → KidsL w' F' l A j
  | [], _, _, _ => by rw [KidsL]; trivial
  | n :: l, A, j, h => by
    rw [KidsL] at h ⊢
    obtain ⟨⟨b, o, A', c', e, hb, hr, hc, hk⟩, h2⟩ := h
    exact ⟨⟨b, o, A', c', e, (hF b hb).1, fun i v hv => (World.cell?_of_block (hF b hb).2).trans (hr i v hv), hc, KidsN.st hF n A' hk⟩, KidsL.st hF l A (j + 1) h2⟩
end
theorem KidsN_eq (w : World) (F : Nat → Prop) (n : NodeT) (A : Option Addr) : KidsN w F n A = KidsL w F n.l A 0 := by cases n; rw [KidsN]; rfl
theorem kidsL_nil (w : World) (F : Nat → Prop) (A : Option Addr) (j : Nat) : KidsL w F [] A j := by rw [KidsL]; trivial
def Cold.kids (A : Option Addr) (l : List NodeT) : Cold := ⟨fun w F => KidsL w F l A 0, fun _ _ _ _ hF h => KidsL.st hF l A 0 h⟩
abbrev El : Type := NodeT × Option Addr × Nat
def flatE (els : List El) : List Value := els.flatMap fun e => nodeC e.1 e.2.1 e.2.2
def Cold.els (els : List El) : Cold := ⟨fun w F => ∀ e ∈ els, e.1.l.length ≤ e.2.2 ∧ KidsL w F e.1.l e.2.1 0, fun _ _ _ _ hF h e he => ⟨(h e he).1, KidsL.st hF _ _ 0 (h e he).2⟩⟩
theorem flatE_length (els : List El) : (flatE els).length = els.length * 8 := by
  induction els with
  | nil => rfl
  | cons e l ih => unfold flatE at ih ⊢; rw [List.flatMap_cons, List.length_append, ih, List.length_cons, Nat.add_mul]; simp [nodeC]; omega
theorem flatE_app (a b : List El) : flatE (a ++ b) = flatE a ++ flatE b := by unfold flatE; rw [List.flatMap_append]
theorem kids_of_cells {w : World} {F : Nat → Prop} {b : Nat} (hb : F b) : ∀ (els : List El) (pre : List El), (∀ e ∈ els, e.1.l.length ≤ e.2.2 ∧ KidsL w F e.1.l e.2.1 0) → (∀ j v, (flatE (pre ++ els))[j]? = some v → w.cell? ⟨b, j, none⟩ = some v) → KidsL w F (els.map (·.1)) (some ⟨b, 0, none⟩) pre.length
  | [], _, _, _ => by rw [List.map_nil, KidsL]; trivial
  | e :: els, pre, h1, h2 => by
    rw [List.map_cons, KidsL]
    refine ⟨⟨b, 0, e.2.1, e.2.2, rfl, hb, fun i v hv => ?_, (h1 e List.mem_cons_self).1, by rw [KidsN_eq]; exact (h1 e List.mem_cons_self).2⟩, ?_⟩
    · rw [show 0 + 8 * pre.length + i = pre.length * 8 + i by omega]
      refine h2 _ v ?_
      have hi : i < 8 := by
        rcases Nat.lt_or_ge i 8 with h | h
        · exact h
        · rw [List.getElem?_eq_none (by simpa [nodeC] using h)] at hv; cases hv
      rw [flatE_app, List.getElem?_append_right (by rw [flatE_length]; omega), flatE_length, show pre.length * 8 + i - pre.length * 8 = i by omega]
      unfold flatE
      rw [List.flatMap_cons, List.getElem?_append_left (by simpa [nodeC] using hi)]
      exact hv
    · have := kids_of_cells hb els (pre ++ [e]) (fun x hx => h1 x (List.mem_cons_of_mem _ hx)) (by rw [List.append_assoc]; exact h2)
      rw [List.length_append] at this
      exact this
section
variable {w0 w w' : World} {X : List Nat} {S S' : World → Prop} {bs bs' : List Bx} {rs rs' : List Rw} {F F' : List Cold}
theorem Own.freeze {v : Value} {els : List El} (h : Own w0 X S bs (⟨45, 8, v, els.length, flatE els⟩ :: rs) F w) (he : Cold.els els ∈ F) : ∃ A c, v = .slice A els.length c ∧ els.length ≤ c ∧ Own w0 X S bs rs (Cold.kids A (els.map (·.1)) :: F) w := by
  have hr : w.ownsRow w0.heap.size 45 8 v els.length (flatE els) := h.row _ List.mem_cons_self
  have hsub := h.sub (List.Sublist.refl bs) (List.sublist_cons_self _ rs) (fun c hc => hc)
  have hnd := h.nodup
  rcases hr.2 with ⟨rfl, h0⟩ | ⟨g, cap, cur, rfl, hg, hh, hn, _⟩
  · have h0' : els.length = 0 := h0
    obtain rfl : els = [] := List.length_eq_zero_iff.1 h0'
    exact ⟨none, 0, rfl, Nat.le_refl _, hsub.coldAll _ (by unfold Cold.kids; dsimp only; rw [List.map_nil]; exact kidsL_nil w _ none 0)⟩
  · refine ⟨some ⟨g, 0, none⟩, cap, rfl, hn, hsub.coldAll _ ?_⟩
    have hnot : g ∉ hot bs rs := by
      intro hm
      rcases List.mem_append.1 hm with hm | hm
      · exact (List.nodup_append.1 hnd).2.2 g hm g (List.mem_filterMap.2 ⟨_, List.mem_cons_self, rfl⟩) rfl
      · have hnd2 := (List.nodup_append.1 hnd).2.1
        rw [List.filterMap_cons] at hnd2
        exact (List.nodup_cons.1 hnd2).1 hm
    have hlt : g < w.heap.size := (hr.lt g rfl).2
    refine kids_of_cells (F := fun b => w0.heap.size ≤ b ∧ b < w.heap.size ∧ b ∉ hot bs rs) (b := g) ⟨hg, hlt, hnot⟩ els [] (fun e hel => hsub.cold _ he e hel) fun j u hj => ?_
    have := hr.cells (g := g) rfl j u hj
    rw [Addr.add_mid, Nat.zero_add] at this
    exact this
theorem Own.elsNil (h : Own w0 X S bs rs F w) : Own w0 X S bs rs (Cold.els [] :: F) w := h.coldAll _ (fun e he => by cases he)
end
section
variable {α β : Type} {K : FuncId} {args : Array Value} {f : PP α} {V : World → World → α → Value → Prop} {g : Nat} {ts : List TokF} {n a d : Nat} {k : α → PP β} {R : PR β} {w0 w W : World} {bs : List Bx} {rs : List Rw} {F : List Cold} {T : Ending → World → Prop}
end
open Go.RowKit
section
variable {g : Nat} {ts : List TokF} {a d : Nat} {w w' w0 W : World} {bs : List Bx} {rs : List Rw} {F : List Cold} {K : Act → World → Prop} {act : Act}
theorem kept_set (w : World) (g j : Nat) (u : Value) : Kept [g] w (w.setCell ⟨g, j, none⟩ u) := by
  have q : w.heap.size = (w.setCell ⟨g, j, none⟩ u).heap.size := by simp
  exact ⟨rfl, rfl, rfl, Nat.le_of_eq q, fun k _ hk => Below.heap_setCell w _ u k (fun e => hk (by rw [e]; simp))⟩
variable {P : Program} {o : Oper} {Q : Exit → Act → World → Prop}
end
section
variable {g : Nat} {ts : List TokF} {a d : Nat} {w w' w0 W : World} {bs : List Bx} {rs : List Rw} {F : List Cold} {T : Ending → World → Prop}
end
section
variable {g : Nat} {ts : List TokF} {a d n : Nat} {w w' w0 W : World} {bs : List Bx} {rs : List Rw} {F : List Cold} {T : Ending → World → Prop}
end
open Go.RowKit
section
variable {β : Type} {g : Nat} {ts : List TokF} {a d n : Nat} {w w' w0 W : World} {X : List Nat} {bs : List Bx} {rs : List Rw} {F : List Cold} {T : Ending → World → Prop} {K : FuncId} {args : Array Value} {R : PR β}
end
section
variable {β : Type} {g : Nat} {ts : List TokF} {a d n : Nat} {w w' w0 W : World} {X : List Nat} {bs : List Bx} {rs : List Rw} {F : List Cold} {T : Ending → World → Prop} {K : FuncId} {args : Array Value} {R : PR β}
end
section
variable {β : Type} {g : Nat} {ts : List TokF} {a d n : Nat} {w w' w0 W : World} {X : List Nat} {bs : List Bx} {rs : List Rw} {F : List Cold} {T : Ending → World → Prop} {K : FuncId} {args : Array Value} {R : PR β}
end
open Go.RowKit
theorem nv0 (k a : Nat) (s : List Nat) (i : Nat) (l : List NodeT) (A : Option Addr) (c : Nat) : (.agg #[.int .i64 ((NodeT.k (NodeT.mk k a s 0 i l) : Nat) : Int), .int .i64 ((NodeT.at' (NodeT.mk k a s 0 i l) : Nat) : Int), .string (strN (NodeT.s (NodeT.mk k a s 0 i l))), .bool (zn (NodeT.z (NodeT.mk k a s 0 i l))), .int .u64 (zh (NodeT.z (NodeT.mk k a s 0 i l))), .int .u64 (zl (NodeT.z (NodeT.mk k a s 0 i l))), .int .i64 ((NodeT.i (NodeT.mk k a s 0 i l) : Nat) : Int), .slice A (NodeT.l (NodeT.mk k a s 0 i l)).length c] : Value) = .agg #[.int .i64 (k : Int), .int .i64 (a : Int), .string (strN s), .bool false, .int .u64 0, .int .u64 0, .int .i64 (i : Int), .slice A l.length c] := by
  have h1 : zn (NodeT.z (NodeT.mk k a s 0 i l)) = false := by show zn 0 = false; decide
  have h2 : zh (NodeT.z (NodeT.mk k a s 0 i l)) = 0 := by show zh 0 = 0; decide
  have h3 : zl (NodeT.z (NodeT.mk k a s 0 i l)) = 0 := by show zl 0 = 0; decide
  rw [h1, h2, h3]
  rfl
theorem row_kids {w : World} {B r n cap : Nat} {xs : List Value} {els : List El} {F : Nat → Prop} (hrow : w.ownsRow B 45 8 (.slice (some ⟨r, 0, none⟩) n cap) n xs) (hxs : xs = flatE els) (hF : F r) (hel : ∀ e ∈ els, e.1.l.length ≤ e.2.2 ∧ KidsL w F e.1.l e.2.1 0) : KidsL w F (els.map (·.1)) (some ⟨r, 0, none⟩) 0 := by
  subst hxs
  refine kids_of_cells hF els [] hel (fun j v hv => ?_)
  have := hrow.cells (g := r) rfl j v hv
  rw [Addr.add_mid, Nat.zero_add] at this
  exact this
theorem own0 (w : World) : Hid (Own w [] (fun _ => True) [] [] [] w) := Lib.hid (Own.init trivial (fun _ _ _ _ h => h))
section
variable {β : Type} {g : Nat} {ts : List TokF} {a d n : Nat} {w w' w0 W : World} {X : List Nat} {S : World → Prop} {bs : List Bx} {rs : List Rw} {F : List Cold} {T : Ending → World → Prop} {K : FuncId} {args : Array Value} {R : PR β}
end
open Go.RowKit
section
variable {β : Type} {g : Nat} {ts : List TokF} {a d n : Nat} {w w' w0 W : World} {X : List Nat} {S : World → Prop} {bs : List Bx} {rs : List Rw} {F : List Cold} {T : Ending → World → Prop} {K : Act → World → Prop} {act : Act} {R : PR β}
theorem Own.litNodes (h : Own w0 X S bs rs F w) (els : List El) (hel : ∀ e ∈ els, e.1.l.length ≤ e.2.2 ∧ Cold.kids e.2.1 e.1.l ∈ F) : Own w0 X S bs rs (Cold.kids (some ⟨w.heap.size, 0, none⟩) (els.map (·.1)) :: F) (w.alloc (.cells (flatE els).toArray 45)) := by
  have h1 := h.junk (.cells (flatE els).toArray 45)
  have hb : Blk (w.alloc (.cells (flatE els).toArray 45)) w.heap.size 45 (flatE els).toArray := Blk.new _ _ _
  refine h1.coldAll _ (kids_of_cells (F := fun b => w0.heap.size ≤ b ∧ b < (w.alloc (.cells (flatE els).toArray 45)).heap.size ∧ b ∉ hot bs rs) (b := w.heap.size) ⟨h.kept.size, hb.lt, fun hm => by have := (h.hot_lt _ hm).2; omega⟩ els [] (fun e he => ⟨(hel e he).1, h1.cold _ (hel e he).2⟩) fun j v hv => ?_)
  rw [hb.cell]
  simpa using hv
theorem ab_nodes (HO : Hid (Own w0 X S bs rs F w)) (els : List El) (hel : ∀ e ∈ els, e.1.l.length ≤ e.2.2 ∧ Cold.kids e.2.1 e.1.l ∈ F) (h : ∀ W, Hid (Own w0 X S bs rs (Cold.kids (some ⟨w.heap.size, 0, none⟩) (els.map (·.1)) :: F) W) → K act W) : K act (w.alloc (.cells (flatE els).toArray 45)) := h _ (Lib.hid (HO.out.litNodes els hel))
theorem ab_nodes1 (HO : Hid (Own w0 X S bs rs F w)) {x : NodeT} {A : Option Addr} {c : Nat} (hx : Cold.kids A x.l ∈ F) (hc : x.l.length ≤ c) (h : ∀ W, Hid (Own w0 X S bs rs (Cold.kids (some ⟨w.heap.size, 0, none⟩) [x] :: F) W) → K act W) :
    K act (w.alloc (.cells #[.int .i64 ((NodeT.k x : Nat) : Int), .int .i64 ((NodeT.at' x : Nat) : Int), .string (strN (NodeT.s x)), .bool (zn (NodeT.z x)), .int .u64 (zh (NodeT.z x)), .int .u64 (zl (NodeT.z x)), .int .i64 ((NodeT.i x : Nat) : Int), .slice A (NodeT.l x).length c] 45)) :=
  ab_nodes HO [(x, A, c)] (by simp [hx, hc]) h
theorem ab_nodes2 (HO : Hid (Own w0 X S bs rs F w)) {x y : NodeT} {A B : Option Addr} {c e : Nat} (hx : Cold.kids A x.l ∈ F) (hc : x.l.length ≤ c) (hy : Cold.kids B y.l ∈ F) (he : y.l.length ≤ e) (h : ∀ W, Hid (Own w0 X S bs rs (Cold.kids (some ⟨w.heap.size, 0, none⟩) [x, y] :: F) W) → K act W) :
    K act (w.alloc (.cells #[.int .i64 ((NodeT.k x : Nat) : Int), .int .i64 ((NodeT.at' x : Nat) : Int), .string (strN (NodeT.s x)), .bool (zn (NodeT.z x)), .int .u64 (zh (NodeT.z x)), .int .u64 (zl (NodeT.z x)), .int .i64 ((NodeT.i x : Nat) : Int), .slice A (NodeT.l x).length c, .int .i64 ((NodeT.k y : Nat) : Int), .int .i64 ((NodeT.at' y : Nat) : Int), .string (strN (NodeT.s y)), .bool (zn (NodeT.z y)), .int .u64 (zh (NodeT.z y)), .int .u64 (zl (NodeT.z y)), .int .i64 ((NodeT.i y : Nat) : Int), .slice B (NodeT.l y).length e] 45)) :=
  ab_nodes HO [(x, A, c), (y, B, e)] (by simp [hx, hc, hy, he]) h
theorem ab_nodes3 (HO : Hid (Own w0 X S bs rs F w)) {x y z : NodeT} {A B C : Option Addr} {c e f : Nat} (hx : Cold.kids A x.l ∈ F) (hc : x.l.length ≤ c) (hy : Cold.kids B y.l ∈ F) (he : y.l.length ≤ e) (hz : Cold.kids C z.l ∈ F) (hf : z.l.length ≤ f) (h : ∀ W, Hid (Own w0 X S bs rs (Cold.kids (some ⟨w.heap.size, 0, none⟩) [x, y, z] :: F) W) → K act W) :
    K act (w.alloc (.cells #[.int .i64 ((NodeT.k x : Nat) : Int), .int .i64 ((NodeT.at' x : Nat) : Int), .string (strN (NodeT.s x)), .bool (zn (NodeT.z x)), .int .u64 (zh (NodeT.z x)), .int .u64 (zl (NodeT.z x)), .int .i64 ((NodeT.i x : Nat) : Int), .slice A (NodeT.l x).length c, .int .i64 ((NodeT.k y : Nat) : Int), .int .i64 ((NodeT.at' y : Nat) : Int), .string (strN (NodeT.s y)), .bool (zn (NodeT.z y)), .int .u64 (zh (NodeT.z y)), .int .u64 (zl (NodeT.z y)), .int .i64 ((NodeT.i y : Nat) : Int), .slice B (NodeT.l y).length e, .int .i64 ((NodeT.k z : Nat) : Int), .int .i64 ((NodeT.at' z : Nat) : Int), .string (strN (NodeT.s z)), .bool (zn (NodeT.z z)), .int .u64 (zh (NodeT.z z)), .int .u64 (zl (NodeT.z z)), .int .i64 ((NodeT.i z : Nat) : Int), .slice C (NodeT.l z).length f] 45)) :=
  ab_nodes HO [(x, A, c), (y, B, e), (z, C, f)] (by simp [hx, hc, hy, he, hz, hf]) h
theorem ab_nodes4 (HO : Hid (Own w0 X S bs rs F w)) {x y z u : NodeT} {A B C D : Option Addr} {c e f i : Nat} (hx : Cold.kids A x.l ∈ F) (hc : x.l.length ≤ c) (hy : Cold.kids B y.l ∈ F) (he : y.l.length ≤ e) (hz : Cold.kids C z.l ∈ F) (hf : z.l.length ≤ f) (hu : Cold.kids D u.l ∈ F) (hi : u.l.length ≤ i) (h : ∀ W, Hid (Own w0 X S bs rs (Cold.kids (some ⟨w.heap.size, 0, none⟩) [x, y, z, u] :: F) W) → K act W) :
    K act (w.alloc (.cells #[.int .i64 ((NodeT.k x : Nat) : Int), .int .i64 ((NodeT.at' x : Nat) : Int), .string (strN (NodeT.s x)), .bool (zn (NodeT.z x)), .int .u64 (zh (NodeT.z x)), .int .u64 (zl (NodeT.z x)), .int .i64 ((NodeT.i x : Nat) : Int), .slice A (NodeT.l x).length c, .int .i64 ((NodeT.k y : Nat) : Int), .int .i64 ((NodeT.at' y : Nat) : Int), .string (strN (NodeT.s y)), .bool (zn (NodeT.z y)), .int .u64 (zh (NodeT.z y)), .int .u64 (zl (NodeT.z y)), .int .i64 ((NodeT.i y : Nat) : Int), .slice B (NodeT.l y).length e, .int .i64 ((NodeT.k z : Nat) : Int), .int .i64 ((NodeT.at' z : Nat) : Int), .string (strN (NodeT.s z)), .bool (zn (NodeT.z z)), .int .u64 (zh (NodeT.z z)), .int .u64 (zl (NodeT.z z)), .int .i64 ((NodeT.i z : Nat) : Int), .slice C (NodeT.l z).length f, .int .i64 ((NodeT.k u : Nat) : Int), .int .i64 ((NodeT.at' u : Nat) : Int), .string (strN (NodeT.s u)), .bool (zn (NodeT.z u)), .int .u64 (zh (NodeT.z u)), .int .u64 (zl (NodeT.z u)), .int .i64 ((NodeT.i u : Nat) : Int), .slice D (NodeT.l u).length i] 45)) :=
  ab_nodes HO [(x, A, c), (y, B, e), (z, C, f), (u, D, i)] (by simp [hx, hc, hy, he, hz, hf, hu, hi]) h
theorem nd1 (HO : Hid (Own w0 X S bs rs F w)) {x : NodeT} {A : Option Addr} {c : Nat} [mx : Ci F (Cold.kids A x.l)] (hc : x.l.length ≤ c) (h : ∀ W, Hid (Own w0 X S bs rs (Cold.kids (some ⟨w.heap.size, 0, none⟩) [x] :: F) W) → K act W) :
    K act (w.alloc (.cells #[.int .i64 ((NodeT.k x : Nat) : Int), .int .i64 ((NodeT.at' x : Nat) : Int), .string (strN (NodeT.s x)), .bool (zn (NodeT.z x)), .int .u64 (zh (NodeT.z x)), .int .u64 (zl (NodeT.z x)), .int .i64 ((NodeT.i x : Nat) : Int), .slice A (NodeT.l x).length c] 45)) := ab_nodes1 HO mx.m hc h
theorem nd2 (HO : Hid (Own w0 X S bs rs F w)) {x y : NodeT} {A B : Option Addr} {c e : Nat} [mx : Ci F (Cold.kids A x.l)] [my : Ci F (Cold.kids B y.l)] (hc : x.l.length ≤ c ∧ y.l.length ≤ e) (h : ∀ W, Hid (Own w0 X S bs rs (Cold.kids (some ⟨w.heap.size, 0, none⟩) [x, y] :: F) W) → K act W) :
    K act (w.alloc (.cells #[.int .i64 ((NodeT.k x : Nat) : Int), .int .i64 ((NodeT.at' x : Nat) : Int), .string (strN (NodeT.s x)), .bool (zn (NodeT.z x)), .int .u64 (zh (NodeT.z x)), .int .u64 (zl (NodeT.z x)), .int .i64 ((NodeT.i x : Nat) : Int), .slice A (NodeT.l x).length c, .int .i64 ((NodeT.k y : Nat) : Int), .int .i64 ((NodeT.at' y : Nat) : Int), .string (strN (NodeT.s y)), .bool (zn (NodeT.z y)), .int .u64 (zh (NodeT.z y)), .int .u64 (zl (NodeT.z y)), .int .i64 ((NodeT.i y : Nat) : Int), .slice B (NodeT.l y).length e] 45)) := ab_nodes2 HO mx.m hc.1 my.m hc.2 h
theorem nd3 (HO : Hid (Own w0 X S bs rs F w)) {x y z : NodeT} {A B C : Option Addr} {c e f : Nat} [mx : Ci F (Cold.kids A x.l)] [my : Ci F (Cold.kids B y.l)] [mz : Ci F (Cold.kids C z.l)] (hc : x.l.length ≤ c ∧ y.l.length ≤ e ∧ z.l.length ≤ f) (h : ∀ W, Hid (Own w0 X S bs rs (Cold.kids (some ⟨w.heap.size, 0, none⟩) [x, y, z] :: F) W) → K act W) :
    K act (w.alloc (.cells #[.int .i64 ((NodeT.k x : Nat) : Int), .int .i64 ((NodeT.at' x : Nat) : Int), .string (strN (NodeT.s x)), .bool (zn (NodeT.z x)), .int .u64 (zh (NodeT.z x)), .int .u64 (zl (NodeT.z x)), .int .i64 ((NodeT.i x : Nat) : Int), .slice A (NodeT.l x).length c, .int .i64 ((NodeT.k y : Nat) : Int), .int .i64 ((NodeT.at' y : Nat) : Int), .string (strN (NodeT.s y)), .bool (zn (NodeT.z y)), .int .u64 (zh (NodeT.z y)), .int .u64 (zl (NodeT.z y)), .int .i64 ((NodeT.i y : Nat) : Int), .slice B (NodeT.l y).length e, .int .i64 ((NodeT.k z : Nat) : Int), .int .i64 ((NodeT.at' z : Nat) : Int), .string (strN (NodeT.s z)), .bool (zn (NodeT.z z)), .int .u64 (zh (NodeT.z z)), .int .u64 (zl (NodeT.z z)), .int .i64 ((NodeT.i z : Nat) : Int), .slice C (NodeT.l z).length f] 45)) := ab_nodes3 HO mx.m hc.1 my.m hc.2.1 mz.m hc.2.2 h
theorem nd4 (HO : Hid (Own w0 X S bs rs F w)) {x y z u : NodeT} {A B C D : Option Addr} {c e f i : Nat} [mx : Ci F (Cold.kids A x.l)] [my : Ci F (Cold.kids B y.l)] [mz : Ci F (Cold.kids C z.l)] [mu : Ci F (Cold.kids D u.l)] (hc : x.l.length ≤ c ∧ y.l.length ≤ e ∧ z.l.length ≤ f ∧ u.l.length ≤ i) (h : ∀ W, Hid (Own w0 X S bs rs (Cold.kids (some ⟨w.heap.size, 0, none⟩) [x, y, z, u] :: F) W) → K act W) :
    K act (w.alloc (.cells #[.int .i64 ((NodeT.k x : Nat) : Int), .int .i64 ((NodeT.at' x : Nat) : Int), .string (strN (NodeT.s x)), .bool (zn (NodeT.z x)), .int .u64 (zh (NodeT.z x)), .int .u64 (zl (NodeT.z x)), .int .i64 ((NodeT.i x : Nat) : Int), .slice A (NodeT.l x).length c, .int .i64 ((NodeT.k y : Nat) : Int), .int .i64 ((NodeT.at' y : Nat) : Int), .string (strN (NodeT.s y)), .bool (zn (NodeT.z y)), .int .u64 (zh (NodeT.z y)), .int .u64 (zl (NodeT.z y)), .int .i64 ((NodeT.i y : Nat) : Int), .slice B (NodeT.l y).length e, .int .i64 ((NodeT.k z : Nat) : Int), .int .i64 ((NodeT.at' z : Nat) : Int), .string (strN (NodeT.s z)), .bool (zn (NodeT.z z)), .int .u64 (zh (NodeT.z z)), .int .u64 (zl (NodeT.z z)), .int .i64 ((NodeT.i z : Nat) : Int), .slice C (NodeT.l z).length f, .int .i64 ((NodeT.k u : Nat) : Int), .int .i64 ((NodeT.at' u : Nat) : Int), .string (strN (NodeT.s u)), .bool (zn (NodeT.z u)), .int .u64 (zh (NodeT.z u)), .int .u64 (zl (NodeT.z u)), .int .i64 ((NodeT.i u : Nat) : Int), .slice D (NodeT.l u).length i] 45)) := ab_nodes4 HO mx.m hc.1 my.m hc.2.1 mz.m hc.2.2.1 mu.m hc.2.2.2 h
end
theorem oWn {G G' : Prop} (h' : G') (h : Hid G' → G := by
    intro h
    (first | with_reducible refine nd1 HO ?_ h.out | with_reducible refine nd2 HO ?_ h.out | with_reducible refine nd3 HO ?_ h.out | with_reducible refine nd4 HO ?_ h.out | fail)
    (and_intros <;> (first | assumption | exact Nat.le_refl _ | fail))) : Unit → G := fun _ => h (Lib.hid h')
open Go.RowKit
theorem mem2 {c x y : Cold} {l : List Cold} (h : c ∈ [x, y]) (hx : x ∈ l) (hy : y ∈ l) : c ∈ l := by
  rcases List.mem_cons.1 h with rfl | h
  · exact hx
  · rcases List.mem_cons.1 h with rfl | h
    · exact hy
    · cases h
open Go.RowKit
section
variable {α β : Type} {m : PP α} {f : α → PP β} {ts : List TokF} {a : Nat} {ss : List (List Nat)}
end
section
variable {ts : List TokF} {p : Par}
end
section
variable {ts : List TokF} {p : Par}
end
open Go.RowKit
mutual
def er : NodeT → NodeT
  | .mk k _ s z i l => .mk k 0 s z i (erL l)
def erL : List NodeT → List NodeT
  | [] => []
  | n :: l => er n :: erL l
end
structure Cx where
  fs : List TokF
  gs : List TokF
  rel : Nat → Nat → Prop
  lim : Nat → Prop
section
variable {C : Cx} {e : Bool} {α β : Type} {R : α → α → Prop} {R' : β → β → Prop} {b a : Nat} {ss : List (List Nat)}
end
open Go.RowKit
theorem kidsL_get {w : World} {F : Nat → Prop} {A : Option Addr} : ∀ (l : List NodeT) (i j : Nat) (h : j < l.length), KidsL w F l A i → ∃ b o A' c', A = some ⟨b, o, none⟩ ∧ F b ∧ w.rangeAt b (o + 8 * (i + j)) (nodeC l[j] A' c') ∧ l[j].l.length ≤ c' ∧ KidsN w F l[j] A'
  | [], i, j, h, _ => absurd h (by simp)
  | n :: l, i, 0, h, hk => by
    rw [KidsL] at hk
    exact hk.1
  | n :: l, i, j + 1, h, hk => by
    rw [KidsL] at hk
    have := kidsL_get l (i + 1) j (by simpa using h) hk.2
    rw [show i + 1 + j = i + (j + 1) by omega] at this
    exact this
section
variable {w0 w w1 W : World} {X : List Nat} {S : World → Prop} {bs : List Bx} {rs : List Rw} {F : List Cold} {K : Act → World → Prop} {act : Act} {P : Program} {o : Oper} {Q : Exit → Act → World → Prop} {T : Ending → World → Prop}
end
open Go.RowKit
structure SX (xs : List Bx) (ms : List (Nat × List (Value × Value))) (X : List Nat) (n : Nat) (w : World) : Prop where
  box : ∀ x ∈ xs, Blk w x.b x.t x.cs.toArray
  map : ∀ m ∈ ms, w.heap[m.1]? = some (mapO m.2)
  nd : (xs.map (·.b) ++ ms.map (·.1)).Nodup
  lt : ∀ b ∈ xs.map (·.b) ++ ms.map (·.1), b < n ∧ b ∈ X
  xl : ∀ y ∈ X, y < n
section
variable {w0 w w' : World} {X : List Nat} {xs xs' : List Bx} {ms ms' : List (Nat × List (Value × Value))} {bs : List Bx} {rs : List Rw} {F : List Cold} {n : Nat} {S : World → Prop}
theorem SX.loc : Loc (SX xs ms X n) n := fun w w' hb hs h =>
  ⟨fun x hx => (hb x.b (h.lt x.b (List.mem_append_left _ (List.mem_map_of_mem hx))).1).trans (h.box x hx), fun m hm => (hb m.1 (h.lt m.1 (List.mem_append_right _ (List.mem_map_of_mem hm))).1).trans (h.map m hm), h.nd, h.lt, h.xl⟩
theorem SX.setBox (h : SX xs ms X n w) {b : Nat} {t : TypeId} {cs cs' : List Value} (hc : Chg xs ⟨b, t, cs⟩ ⟨b, t, cs'⟩ xs') (hb : Blk w' b t cs'.toArray) (hk : ∀ k, k ≠ b → w'.heap[k]? = w.heap[k]?) : SX xs' ms X n w' := by
  have e : xs'.map (·.b) = xs.map (·.b) := hc.map (·.b) rfl
  have hnd : (xs.map (·.b)).Nodup := (List.nodup_append.1 h.nd).1
  refine ⟨fun x hx => ?_, fun m hm => ?_, by rw [e]; exact h.nd, by rw [e]; exact h.lt, h.xl⟩
  · rcases hc.others hnd x hx with rfl | ⟨h1, h2⟩
    · exact hb
    · exact (hk x.b h2).trans (h.box x h1)
  · refine (hk m.1 (fun e => ?_)).trans (h.map m hm)
    exact (List.nodup_append.1 h.nd).2.2 b (List.mem_map_of_mem (f := (·.b)) hc.mem.1) m.1 (List.mem_map_of_mem (f := (·.1)) hm) e.symm
theorem SX.setMap (h : SX xs ms X n w) {m : Nat} {l l' : List (Value × Value)} (hc : Chg ms (m, l) (m, l') ms') (hb : w'.heap[m]? = some (mapO l')) (hk : ∀ k, k ≠ m → w'.heap[k]? = w.heap[k]?) : SX xs ms' X n w' := by
  have e : ms'.map (·.1) = ms.map (·.1) := hc.map (·.1) rfl
  have hnd : (ms.map (·.1)).Nodup := (List.nodup_append.1 h.nd).2.1
  have oth : ∀ z ∈ ms', z = (m, l') ∨ (z ∈ ms ∧ z.1 ≠ m) := by
    clear hb hk e h
    generalize hx : (m, l) = x at hc
    generalize hy : (m, l') = y at hc
    induction hc with
    | head l2 x y =>
      subst hx hy
      intro z hz
      rcases List.mem_cons.1 hz with h | h
      · exact .inl h
      · right
        rw [List.map_cons, List.nodup_cons] at hnd
        exact ⟨List.mem_cons_of_mem _ h, fun e => hnd.1 (e ▸ List.mem_map_of_mem (f := (·.1)) h)⟩
    | tail u hh ih =>
      intro z hz
      rw [List.map_cons, List.nodup_cons] at hnd
      rcases List.mem_cons.1 hz with rfl | hz
      · refine .inr ⟨List.mem_cons_self, fun e => hnd.1 ?_⟩
        rw [e]
        have := List.mem_map_of_mem (f := (·.1)) hh.mem.1
        rw [← hx] at this
        exact this
      · rcases ih hnd.2 hx hy z hz with h | h
        · exact .inl h
        · exact .inr ⟨List.mem_cons_of_mem _ h.1, h.2⟩
  refine ⟨fun x hx => ?_, fun z hz => ?_, by rw [e]; exact h.nd, by rw [e]; exact h.lt, h.xl⟩
  · refine (hk x.b (fun e => ?_)).trans (h.box x hx)
    exact (List.nodup_append.1 h.nd).2.2 x.b (List.mem_map_of_mem (f := (·.b)) hx) m (List.mem_map_of_mem (f := (·.1)) hc.mem.1) e
  · rcases oth z hz with rfl | ⟨h1, h2⟩
    · exact hb
    · exact (hk z.1 h2).trans (h.map z h1)
theorem SX.base {m : Nat} (h : SX xs ms X n w) (h' : SX xs' ms' X m w') (e1 : xs'.map (·.b) = xs.map (·.b)) (e2 : ms'.map (·.1) = ms.map (·.1)) : SX xs' ms' X n w' := ⟨h'.box, h'.map, h'.nd, by rw [e1, e2]; exact h.lt, h.xl⟩
theorem Own.setXB (h : Own w0 X (SX xs ms X w0.heap.size) bs rs F w) {b : Nat} {t : TypeId} {cs cs' : List Value} (hc : Chg xs ⟨b, t, cs⟩ ⟨b, t, cs'⟩ xs') (hb : Blk w' b t cs'.toArray) (hs : w'.heap.size = w.heap.size) (ho : w'.os = w.os ∧ w'.tape = w.tape ∧ w'.output = w.output) (hk : ∀ k, k ≠ b → w'.heap[k]? = w.heap[k]?) : Own w0 X (SX xs' ms X w0.heap.size) bs rs F w' := by
  have hl := h.st.lt b (List.mem_append_left _ (List.mem_map_of_mem (f := (·.b)) hc.mem.1))
  exact h.call (Y := [b]) (fun y hy => by rw [List.mem_singleton.1 hy]; exact ⟨hl.2, hl.1⟩) ⟨ho.1, ho.2.1, ho.2.2, by omega, fun k _ hk2 => hk k (fun e => hk2 (by rw [e]; exact List.mem_singleton.2 rfl))⟩ (h.st.setBox hc hb hk) SX.loc
theorem Own.setXM (h : Own w0 X (SX xs ms X w0.heap.size) bs rs F w) {m : Nat} {l l' : List (Value × Value)} (hc : Chg ms (m, l) (m, l') ms') : Own w0 X (SX xs ms' X w0.heap.size) bs rs F (World.putM w m (mapO l')) := by
  have hl := h.st.lt m (List.mem_append_right _ (List.mem_map_of_mem (f := (·.1)) hc.mem.1))
  have hm : m < w.heap.size := Nat.lt_of_lt_of_le hl.1 h.kept.size
  exact h.call (Y := [m]) (fun y hy => by rw [List.mem_singleton.1 hy]; exact ⟨hl.2, hl.1⟩) putM_kept (h.st.setMap hc (putM_self hm) (fun k hk => putM_other hk)) SX.loc
theorem Own.elder (h : Own w0 X S bs rs F w) {b k : Nat} {v : Value} (hb : b < w0.heap.size) (hX : b ∉ X) (hv : w0.cell? ⟨b, k, none⟩ = some v) : w.cell? ⟨b, k, none⟩ = some v := (World.cell?_of_block (h.kept.block b hb hX)).trans hv
theorem Own.xcells (h : Own w0 X (SX xs ms X n) bs rs F w) {b : Nat} {t : TypeId} {cs : List Value} (hm : ⟨b, t, cs⟩ ∈ xs) (o : Nat) : w.rangeAt b o (cs.drop o) := fun j v hv => by
  have hb : Blk w b t cs.toArray := h.st.box _ hm
  rw [hb.cell]
  simpa [List.getElem?_drop] using hv
end
class Mi (ms : List (Nat × List (Value × Value))) (g : Nat) (l : outParam (List (Value × Value))) : Prop where
  m : (g, l) ∈ ms
instance (priority := low) {ms : List (Nat × List (Value × Value))} {m : Nat} {l : List (Value × Value)} {x : Nat × List (Value × Value)} [h : Mi ms m l] : Mi (x :: ms) m l := ⟨List.mem_cons_of_mem _ h.m⟩
instance {ms : List (Nat × List (Value × Value))} {m : Nat} {l : List (Value × Value)} : Mi ((m, l) :: ms) m l := ⟨List.mem_cons_self⟩
class Mu (ms : List (Nat × List (Value × Value))) (g : Nat) (l : outParam (List (Value × Value))) (f : outParam (List (Value × Value) → List (Nat × List (Value × Value)))) : Prop where
  m : (g, l) ∈ ms
  c : ∀ l', Chg ms (g, l) (g, l') (f l')
instance (priority := low) {ms : List (Nat × List (Value × Value))} {m : Nat} {l : List (Value × Value)} {x : Nat × List (Value × Value)} {f : List (Value × Value) → List (Nat × List (Value × Value))} [h : Mu ms m l f] : Mu (x :: ms) m l (fun c => x :: f c) := ⟨List.mem_cons_of_mem _ h.m, fun c => .tail _ (h.c c)⟩
instance {ms : List (Nat × List (Value × Value))} {m : Nat} {l : List (Value × Value)} : Mu ((m, l) :: ms) m l (fun c => (m, c) :: ms) := ⟨List.mem_cons_self, fun _ => .head _ _ _⟩
structure NdAt (w : World) (P : Nat → Prop) (b o : Nat) (n : NodeT) (A : Option Addr) (c : Nat) : Prop where
  hb : P b
  cells : w.rangeAt b o (nodeC n A c)
  hc : n.l.length ≤ c
  kids : KidsL w P n.l A 0
abbrev Eld (w : World) (X : List Nat) : Nat → Prop := fun b => b < w.heap.size ∧ b ∉ X
theorem NdAt.kid {w : World} {P : Nat → Prop} {b o : Nat} {n : NodeT} {A : Option Addr} {c : Nat} (h : NdAt w P b o n A c) (i : Nat) (hi : i < n.l.length) : ∃ b' o' A' c', A = some ⟨b', o', none⟩ ∧ NdAt w P b' (o' + i * 8) n.l[i] A' c' := by
  obtain ⟨b', o', A', c', h1, h2, h3, h4, h5⟩ := kidsL_get n.l 0 i hi h.kids
  rw [Nat.zero_add, Nat.mul_comm] at h3
  exact ⟨b', o', A', c', h1, h2, h3, h4, by rw [KidsN_eq] at h5; exact h5⟩
section
variable {o : Oper} {a : Act} {w0 w : World} {X : List Nat} {S : World → Prop} {xs : List Bx} {ms : List (Nat × List (Value × Value))} {bs : List Bx} {rs : List Rw} {F : List Cold} {K : Act → World → Prop} {Q : Exit → Act → World → Prop}
theorem oY1 (HO : Hid (Own w0 X (SX xs ms X w0.heap.size) bs rs F w)) {ty : TypeId} {x : Operand} (ho : o.op = .load ty x) {b k : Nat} (hx : a.eval x = .pointer (some ⟨b, k, none⟩)) {t : TypeId} {cs : List Value} {v : Value} [T : T1 ty] [m : Bi xs b t cs] [g : Gt cs k v] (h : K (a.put o.dst v) w) : WOp Try.prog o a w K Q := by
  have hl : w.cell? ⟨b, k, none⟩ = some v := by
    have := HO.out.xcells m.m k 0 v (by rw [List.getElem?_drop]; exact g.g)
    exact this
  have hd := T.a
  unfold WOp Oper.wp execOp
  simp only [ho, hx, Instr.loadAt, Instr.sureAddr, Sem.run_bind, Sem.run_pure, Result.andThen_ok, loadVar, hd w, Bool.false_eq_true, if_false, run_load, hl]
  exact h
theorem oY3 (HO : Hid (Own w0 X (SX xs ms X w0.heap.size) bs rs F w)) {ty : TypeId} {x : Operand} (ho : o.op = .load ty x) {b k : Nat} (hx : a.eval x = .pointer (some ⟨b, k, none⟩)) {t : TypeId} {cs : List Value} {n : Nat} [T : TN ty n] [m : Bi xs b t cs] {sub : List Value} [l : Sb cs k n sub] (h : K (a.put o.dst (.agg sub.toArray)) w) : WOp Try.prog o a w K Q := by
  have hl : (loadCells ⟨b, k, none⟩ n).run Try.prog w = .ok sub.toArray w := by
    rw [← l.n]
    refine run_loadCells_list (P := Try.prog) w ⟨b, k, none⟩ sub (fun j v hv => ?_)
    rw [Addr.add_mid]
    refine HO.out.xcells m.m k j v ?_
    rw [← l.t, List.getElem?_take] at hv
    split at hv
    · exact hv
    · cases hv
  have hd := T.a
  have hs := T.s
  unfold WOp Oper.wp execOp
  simp only [ho, hx, Instr.loadAt, Instr.sureAddr, Sem.run_bind, Sem.run_pure, Result.andThen_ok, loadVar, hd w, if_true, hs w, hl]
  exact h
theorem oYt (HO : Hid (Own w0 X (SX xs ms X w0.heap.size) bs rs F w)) {ty : TypeId} {x y : Operand} {v : Value} (ho : o.op = .store ty x y) (hdst : o.dst = none) {b k : Nat} (hx : a.eval x = .pointer (some ⟨b, k, none⟩)) (hy : a.eval y = v) {t : TypeId} {cs cs' : List Value} {f : List Value → List Bx} [T : T1 ty] [m : Bu xs b t cs f] [p : Pt cs k v cs'] [O : Oc v] (h : ∀ W, Hid (Own w0 X (SX (f cs') ms X w0.heap.size) bs rs F W) → K a W) : WOp Try.prog o a w K Q := by
  have hs := T.s
  have hb : Blk w b t cs.toArray := HO.out.st.box _ m.m
  have hl := p.l
  have hr := run_storeCells_at (P := Try.prog) b k t [v] 0 cs.toArray w hb (by simp only [List.length_cons, List.length_nil, List.size_toArray]; omega) (by simpa using O.o)
  have e : cs.toArray.toList.take (k + 0) ++ [v] ++ cs.toArray.toList.drop (k + 0 + [v].length) = cs' := by
    rw [← p.s, List.set_eq_take_append_cons_drop, if_pos hl]; simp
  rw [e] at hr
  have hO := HO.out.setXB (m.c cs') (setRow_heap w b cs.toArray cs'.toArray t (0, 0) hb) (setRow_size _ _ _) ⟨rfl, rfl, rfl⟩ (fun k hk => setRow_other _ _ _ _ hk)
  unfold WOp Oper.wp execOp
  simp only [ho, hx, hy, Instr.storeAt, Instr.sureAddr, Sem.run_bind, Sem.run_pure, Result.andThen_ok, storeVar, hs w, one_cells O.o, List.size_toArray, List.length_cons, List.length_nil, Nat.zero_add, ne_eq, not_true, if_false, hr]
  have := h _ (Lib.hid hO)
  simpa [Oper.upon, hdst, Act.put] using this
theorem oNj (HO : Hid (Own w0 X S bs rs F w)) {ty : TypeId} {x : Operand} (ho : o.op = .load ty x) {b q : Nat} (hx : a.eval x = .pointer (some ⟨b, q, none⟩)) {oo j : Nat} {n : NodeT} {A : Option Addr} {c : Nat} (HN : Hid (NdAt w0 (Eld w0 X) b oo n A c)) [T : T1 ty] (hq : q = oo + j) {v : Value} (hv : (nodeC n A c)[j]? = some v) (h : K (a.put o.dst v) w) : WOp Try.prog o a w K Q := by
  subst hq
  have hl : w.cell? ⟨b, oo + j, none⟩ = some v := HO.out.elder HN.out.hb.1 HN.out.hb.2 (HN.out.cells j v hv)
  have hd := T.a
  unfold WOp Oper.wp execOp
  simp only [ho, hx, Instr.loadAt, Instr.sureAddr, Sem.run_bind, Sem.run_pure, Result.andThen_ok, loadVar, hd w, Bool.false_eq_true, if_false, run_load, hl]
  exact h
theorem oN0 (HO : Hid (Own w0 X S bs rs F w)) {ty : TypeId} {x : Operand} (ho : o.op = .load ty x) {b oo : Nat} (hx : a.eval x = .pointer (some ⟨b, oo, none⟩)) {n : NodeT} {A : Option Addr} {c : Nat} (HN : Hid (NdAt w0 (Eld w0 X) b oo n A c)) [T : T1 ty] (h : K (a.put o.dst (.int .i64 (n.k : Int))) w) : WOp Try.prog o a w K Q := oNj (j := 0) HO ho hx HN rfl rfl h
theorem to_lookup {P : Program} {d : Option Tmp} {ty T : TypeId} {x y : Operand} {b : Bool} {ps : String} {af : Array Edge} {gd : Option (Nat × Bool)} (h : WOp P ⟨d, .lookup ty x y b, T, ps, af, gd⟩ a w K Q) : Oper.wp P ⟨d, .lookup ty x y b, T, ps, af, gd⟩ a w K Q := h
theorem to_mapUpdate {P : Program} {d : Option Tmp} {ty T : TypeId} {x y z : Operand} {ps : String} {af : Array Edge} {gd : Option (Nat × Bool)} (h : WOp P ⟨d, .mapUpdate ty x y z, T, ps, af, gd⟩ a w K Q) : Oper.wp P ⟨d, .mapUpdate ty x y z, T, ps, af, gd⟩ a w K Q := h
theorem wo_updW {κ : Type} [DecidableEq κ] {kt et ty : TypeId} {enc : κ → Value} {ok : κ → Prop} (M : KeyOk kt enc ok) (hm : Try.prog.underlying ty = some (.map kt et)) (HO : Hid (Own w0 X (SX xs ms X w0.heap.size) bs rs F w)) {x y z : Operand} (ho : o.op = .mapUpdate ty x y z) (hdst : o.dst = none) {m : Nat} (hx : a.eval x = .map (some m)) {k : κ} (hy : a.eval y = enc k) {v : Value} (hz : a.eval z = v) {l : List (κ × Value)} {f : List (Value × Value) → List (Nat × List (Value × Value))} [U : Mu ms m (encK enc l) f] (hl : ∀ x ∈ l, ok x.1) (hk : ok k)
    (h : ∀ W, Hid (Own w0 X (SX xs (f (encK enc (updK k v l))) X w0.heap.size) bs rs F W) → K a W) : WOp Try.prog o a w K Q := by
  have hb := HO.out.st.map _ U.m
  have hr := run_updM M hm hb hl hk v
  unfold WOp Oper.wp execOp
  simp only [ho, hx, hy, hz, Sem.run_bind, hr, Result.andThen_ok, Sem.run_pure]
  have := h _ (Lib.hid (HO.out.setXM (U.c _)))
  simpa [Oper.upon, hdst, Act.put] using this
end
open Go.RowKit
instance iT1PtapiNode : T1 99 := ⟨Try.isAgg99, Try.sizeOf99⟩
instance iT1mapstringint : T1 62 := ⟨Try.isAgg62, Try.sizeOf62⟩
instance iT1mapresolverefint : T1 63 := ⟨Try.isAgg63, Try.sizeOf63⟩
instance iT1mapresolverefSlresolveref : T1 64 := ⟨Try.isAgg64, Try.sizeOf64⟩
instance iT1Slmapstringint : T1 65 := ⟨Try.isAgg65, Try.sizeOf65⟩
instance iT1Slresolveref : T1 66 := ⟨Try.isAgg66, Try.sizeOf66⟩
instance iT1SlapiVar : T1 30 := ⟨Try.isAgg30, Try.sizeOf30⟩
instance iT1SlSlapiVar : T1 31 := ⟨Try.isAgg31, Try.sizeOf31⟩
instance iT1funcresolveplacebool : T1 72 := ⟨Try.isAgg72, Try.sizeOf72⟩
instance iTNresolveplace : TN 101 6 := ⟨Try.isAgg101, Try.sizeOf101⟩
instance iTZresolveplace : TZ 101 [.pointer none, .pointer none, .int .i64 0, .int .i64 0, .int .i64 0, .bool false] := ⟨Try.zeroValue101⟩
instance iTFresolveplace : TF 101 (fsOf Try.underlying101) := ⟨Try.underlying101⟩
instance iTNresolveref : TN 107 2 := ⟨Try.isAgg107, Try.sizeOf107⟩
instance iTZresolveref : TZ 107 [.int .i64 0, .int .i64 0] := ⟨Try.zeroValue107⟩
instance iTFresolveref : TF 107 (fsOf Try.underlying107) := ⟨Try.underlying107⟩
instance iTNapiVar : TN 52 2 := ⟨Try.isAgg52, Try.sizeOf52⟩
instance iTZapiVar : TZ 52 [.string { data := #[] }, .bool false] := ⟨Try.zeroValue52⟩
instance iTFapiVar : TF 52 (fsOf Try.underlying52) := ⟨Try.underlying52⟩
instance iTNapiNames : TN 33 2 := ⟨Try.isAgg33, Try.sizeOf33⟩
instance iTZapiNames : TZ 33 [.slice none 0 0, .slice none 0 0] := ⟨Try.zeroValue33⟩
instance iTFapiNames : TF 33 (fsOf Try.underlying33) := ⟨Try.underlying33⟩
instance iTNresolveresolver : TN 68 9 := ⟨Try.isAgg68, Try.sizeOf68⟩
instance iTFresolveresolver : TF 68 (fsOf Try.underlying68) := ⟨Try.underlying68⟩
instance iOcMap {m : Option Nat} : Oc (.map m) := ⟨rfl⟩
theorem NdAt.st {w w' : World} {P P' : Nat → Prop} {b o : Nat} {n : NodeT} {A : Option Addr} {c : Nat} (hF : ∀ b, P b → P' b ∧ w'.heap[b]? = w.heap[b]?) (h : NdAt w P b o n A c) : NdAt w' P' b o n A c :=
  ⟨(hF b h.hb).1, fun j v hv => (World.cell?_of_block (hF b h.hb).2).trans (h.cells j v hv), h.hc, KidsL.st hF _ _ _ h.kids⟩
theorem Own.eld {w0 w : World} {X : List Nat} {S : World → Prop} {bs : List Bx} {rs : List Rw} {F : List Cold} (h : Own w0 X S bs rs F w) {Y : List Nat} (hY : ∀ y ∈ Y, y ∈ X) : ∀ b, Eld w0 X b → Eld w Y b ∧ w.heap[b]? = w0.heap[b]? := fun b hb => ⟨⟨Nat.lt_of_lt_of_le hb.1 h.kept.size, fun hm => hb.2 (hY b hm)⟩, h.kept.block b hb.1 hb.2⟩
def UpAt (w : World) (P : Nat → Prop) (up : Option NodeT) (v : Value) : Prop := match up with
  | none => v = .pointer none
  | some u => ∃ b o A c, v = .pointer (some ⟨b, o, none⟩) ∧ NdAt w P b o u A c
theorem UpAt.st {w w' : World} {P P' : Nat → Prop} {up : Option NodeT} {v : Value} (hF : ∀ b, P b → P' b ∧ w'.heap[b]? = w.heap[b]?) (h : UpAt w P up v) : UpAt w' P' up v := by
  cases up with
  | none => exact h
  | some u => obtain ⟨b, o, A, c, e, hn⟩ := h; exact ⟨b, o, A, c, e, hn.st hF⟩
def PlAt (w : World) (P : Nat → Prop) (p : Pl) (v : Value) : Prop :=
  ∃ b o A c u, v = .agg #[.pointer (some ⟨b, o, none⟩), u, .int .i64 (p.i : Int), .int .i64 p.fn, .int .i64 (p.kd : Int), .bool p.lp] ∧ NdAt w P b o p.n A c ∧ UpAt w P p.up u
theorem PlAt.st {w w' : World} {P P' : Nat → Prop} {p : Pl} {v : Value} (hF : ∀ b, P b → P' b ∧ w'.heap[b]? = w.heap[b]?) (h : PlAt w P p v) : PlAt w' P' p v := by
  obtain ⟨b, o, A, c, u, e, hn, hu⟩ := h
  exact ⟨b, o, A, c, u, e, hn.st hF, hu.st hF⟩
set_option maxRecDepth 100000 in
set_option maxHeartbeats 3200000 in
theorem named_any {b o : Nat} {n : NodeT} {A : Option Addr} {c : Nat} (w : World) (hn : NdAt w (Eld w []) b o n A c) : Calls Try.prog 35 #[.pointer (some ⟨b, o, none⟩)] w fun e w' => e = .returned (.bool (namedB n)) ∧ Below w.heap.size w w' := by
  have HO := own0 w
  have HN := Lib.hid hn
  clear hn
  go_enter Try.func35, Try.ntmps35
  (repeat' (first | ((with_reducible refine zG ?_); first | refine oWx ?_ | (refine oWs ?_; clear HO; intro _ HO)) | ((with_reducible refine to_load ?_); (first | first | refine oN0 HO rfl rfl HN ?_ | refine oNj HO rfl rfl HN rfl rfl ?_); (try simp only [Act.put, pS])) | go_values | go_skip | go_guarded | go_step | go_upon | (go_ite <;> go_prune <;> (try go_simp))))
  all_goals
    refine bp_tmp (t := 2) rfl rfl rfl ?_
    exact ⟨by unfold namedB; simp [*], HO.out.kept.below⟩
set_option maxRecDepth 100000 in
set_option maxHeartbeats 3200000 in
theorem lvalueR_any {b o : Nat} {n : NodeT} {A : Option Addr} {c : Nat} (w : World) (hn : NdAt w (Eld w []) b o n A c) : Calls Try.prog 54 #[.pointer (some ⟨b, o, none⟩)] w fun e w' => e = .returned (.bool (lval n)) ∧ Below w.heap.size w w' := by
  have HO := own0 w
  have HN := Lib.hid hn
  clear hn
  unfold lval
  cases h4 : ((n.k : Int) == 4) <;> cases h5 : ((n.k : Int) == 5) <;> cases h6 : ((n.k : Int) == 6)
  all_goals
    go_enter Try.func54, Try.ntmps54
    (repeat' (first | ((with_reducible refine zG ?_); first | refine oWx ?_ | (refine oWs ?_; clear HO; intro _ HO)) | ((with_reducible refine to_load ?_); (first | first | refine oN0 HO rfl rfl HN ?_ | refine oNj HO rfl rfl HN rfl rfl ?_); (try simp only [Act.put, pS])) | go_values | go_skip | go_guarded | go_step | go_upon | (go_ite <;> go_prune <;> (try go_simp))))
    refine bp_tmp (t := 2) rfl rfl rfl ?_
    exact ⟨by simp, HO.out.kept.below⟩
set_option maxRecDepth 100000 in
set_option maxHeartbeats 3200000 in
theorem target_any {b o : Nat} {n : NodeT} {A : Option Addr} {c : Nat} (i : Int) (hi : -1 ≤ i) (hi2 : i ≤ 1000000) (hl : n.l.length ≤ 1000000) (w : World) (hn : NdAt w (Eld w []) b o n A c) : Calls Try.prog 36 #[.pointer (some ⟨b, o, none⟩), .int .i64 i] w fun e w' => e = .returned (.bool (targetB n i)) ∧ Below w.heap.size w w' := by
  have HO := own0 w
  have HN := Lib.hid hn
  unfold targetB
  by_cases h0 : 0 ≤ i
  · obtain ⟨j, rfl⟩ : ∃ j : Nat, i = (j : Int) := ⟨i.toNat, by omega⟩
    rcases Nat.lt_or_ge j n.l.length with hj | hj
    · have hjI : (j : Int) < (n.l.length : Int) := by omega
      obtain ⟨b', o', A', c', rfl, hk⟩ := hn.kid j hj
      have HK := Lib.hid hk
      clear hn hk
      go_enter Try.func36, Try.ntmps36
      (repeat' (first | ((with_reducible refine zG ?_); first | refine oWx ?_ | (refine oWs ?_; clear HO; intro _ HO)) | ((with_reducible refine to_load ?_); (first | first | refine oN0 HO rfl rfl HN ?_ | refine oNj HO rfl rfl HN rfl rfl ?_); (try simp only [Act.put, pS])) | ((go_big_may; first | (go_at_call 54; refine (lvalueR_any _ (HK.out.st (HO.out.eld (fun _ h => h)))).mono ?_; rintro e W ⟨rfl, q⟩; replace HO := Lib.hid (HO.out.next q); clear q)) <;> (try dsimp only)) | go_values | go_skip | go_guarded | go_step | go_upon | (go_ite <;> go_prune <;> (try go_simp))))
      refine bp_tmp (t := 4) rfl rfl rfl ?_
      refine ⟨?_, HO.out.kept.below⟩
      rw [Int.toNat_natCast, List.getElem?_eq_getElem hj, decide_eq_true h0, decide_eq_true hjI]
      rfl
    · have hjI : ¬ (j : Int) < (n.l.length : Int) := by omega
      clear hn
      go_enter Try.func36, Try.ntmps36
      (repeat' (first | ((with_reducible refine zG ?_); first | refine oWx ?_ | (refine oWs ?_; clear HO; intro _ HO)) | ((with_reducible refine to_load ?_); (first | first | refine oN0 HO rfl rfl HN ?_ | refine oNj HO rfl rfl HN rfl rfl ?_); (try simp only [Act.put, pS])) | go_values | go_skip | go_guarded | go_step | go_upon | (go_ite <;> go_prune <;> (try go_simp))))
      refine bp_tmp (t := 4) rfl rfl rfl ?_
      exact ⟨by rw [decide_eq_true h0, decide_eq_false hjI]; rfl, HO.out.kept.below⟩
  · clear hn
    go_enter Try.func36, Try.ntmps36
    (repeat' (first | ((with_reducible refine zG ?_); first | refine oWx ?_ | (refine oWs ?_; clear HO; intro _ HO)) | ((with_reducible refine to_load ?_); (first | first | refine oN0 HO rfl rfl HN ?_ | refine oNj HO rfl rfl HN rfl rfl ?_); (try simp only [Act.put, pS])) | go_values | go_skip | go_guarded | go_step | go_upon | (go_ite <;> go_prune <;> (try go_simp))))
    refine bp_tmp (t := 4) rfl rfl rfl ?_
    exact ⟨by rw [decide_eq_false h0]; rfl, HO.out.kept.below⟩
open Go.RowKit
def WQ (w0 : World) (X : List Nat) (S : World → Prop) (bs : List Bx) (rs : List Rw) (F : List Cold) (ops : Array Oper) (Q : Exit → Act → World → Prop) (l : List Oper) (a : Act) : Prop :=
  wpQuiet Try.prog ops (fun w => Hid (Own w0 X S bs rs F w)) (fun a' => ∀ w', Hid (Own w0 X S bs rs F w') → Q .normal a' w') l a
section
variable {w0 w : World} {X : List Nat} {S : World → Prop} {bs : List Bx} {rs : List Rw} {F : List Cold} {ops : Array Oper} {Q : Exit → Act → World → Prop} {a : Act} {o : Oper} {rest l : List Oper} {xs : List Bx} {ms : List (Nat × List (Value × Value))}
theorem qBe {id : Nat} (HO : Hid (Own w0 X S bs rs F w)) (hB : Region.lexB .any l.toArray = true) (h : WQ w0 X S bs rs F l.toArray Q l a) : (Code.region id l.toArray true).wp Try.prog Q a w :=
  wp_region_quiet (C := fun w => Hid (Own w0 X S bs rs F w)) mixed hB (Lib.hid HO.out.drew) h
theorem qSt (h : WQ w0 X S bs rs F ops Q (o :: rest) a) : WQ w0 X S bs rs F ops Q (o :: rest) a := h
theorem qLd {d : Option Tmp} {ty T : TypeId} {x : Operand} {ps : String} {af : Array Edge} {gd : Option (Nat × Bool)} (h : WQ w0 X S bs rs F ops Q (⟨d, .load ty x, T, ps, af, gd⟩ :: rest) a) : WQ w0 X S bs rs F ops Q (⟨d, .load ty x, T, ps, af, gd⟩ :: rest) a := h
theorem qLk {d : Option Tmp} {ty T : TypeId} {x y : Operand} {b : Bool} {ps : String} {af : Array Edge} {gd : Option (Nat × Bool)} (h : WQ w0 X S bs rs F ops Q (⟨d, .lookup ty x y b, T, ps, af, gd⟩ :: rest) a) : WQ w0 X S bs rs F ops Q (⟨d, .lookup ty x y b, T, ps, af, gd⟩ :: rest) a := h
theorem qFd {d : Option Tmp} {ty T : TypeId} {x : Operand} {k : Nat} {ps : String} {af : Array Edge} {gd : Option (Nat × Bool)} (h : WQ w0 X S bs rs F ops Q (⟨d, .field ty x k, T, ps, af, gd⟩ :: rest) a) : WQ w0 X S bs rs F ops Q (⟨d, .field ty x k, T, ps, af, gd⟩ :: rest) a := h
theorem qCl {d : Option Tmp} {f : Operand} {ag : Array Operand} {tt : Array TypeId} {T : TypeId} {ps : String} {af : Array Edge} {gd : Option (Nat × Bool)} (h : WQ w0 X S bs rs F ops Q (⟨d, .call ⟨.value f, ag, tt⟩, T, ps, af, gd⟩ :: rest) a) : WQ w0 X S bs rs F ops Q (⟨d, .call ⟨.value f, ag, tt⟩, T, ps, af, gd⟩ :: rest) a := h
theorem qGd {d : Option Tmp} {op : Op} {T : TypeId} {ps : String} {af : Array Edge} {gd : Nat × Bool} (h : WQ w0 X S bs rs F ops Q (⟨d, op, T, ps, af, some gd⟩ :: rest) a) : WQ w0 X S bs rs F ops Q (⟨d, op, T, ps, af, some gd⟩ :: rest) a := h
theorem qNi (h : ∀ w', Hid (Own w0 X S bs rs F w') → Q .normal a w') : WQ w0 X S bs rs F ops Q [] a := h
theorem qSk (hw : Region.wanted o (yielded ops a.tmps) = false) (h : WQ w0 X S bs rs F ops Q rest (a.put o.dst undef)) : WQ w0 X S bs rs F ops Q (o :: rest) a :=
  wpQuiet_step fun K hK => by rw [if_neg (by rw [hw]; decide)]; exact hK _ h
theorem qVa {v : Value} (hw : Region.wanted o (yielded ops a.tmps) = true) (hr : ∀ w, Hid (Own w0 X S bs rs F w) → (execOp a.eval o).run Try.prog w = .ok (.value v) w) (h : WQ w0 X S bs rs F ops Q rest (a.put o.dst v)) : WQ w0 X S bs rs F ops Q (o :: rest) a :=
  wpQuiet_step fun K hK => by
    rw [if_pos hw]
    exact ⟨v, fun w hO => by unfold Oper.quietAt; rw [hr w hO]; exact ⟨rfl, rfl⟩, hK _ h⟩
theorem qCa {v : Value} {f : FuncId} {args : Array Value} (hw : Region.wanted o (yielded ops a.tmps) = true) (hr : ∀ w, Hid (Own w0 X S bs rs F w) → (execOp a.eval o).run Try.prog w = .ok (.enter f args) w) (hc : ∀ w, Hid (Own w0 X S bs rs F w) → Calls Try.prog f args w fun e w' => e = .returned v ∧ Hid (Own w0 X S bs rs F w')) (h : WQ w0 X S bs rs F ops Q rest (a.put o.dst v)) : WQ w0 X S bs rs F ops Q (o :: rest) a :=
  wpQuiet_step fun K hK => by
    rw [if_pos hw]
    exact ⟨v, fun w hO => by unfold Oper.quietAt; rw [hr w hO]; exact ⟨rfl, hc w hO⟩, hK _ h⟩
theorem run_cell {ty : TypeId} {x : Operand} (ho : o.op = .load ty x) {p : Addr} (hx : a.eval x = .pointer (some p)) {v : Value} [T : T1 ty] (hl : w.cell? p = some v) : (execOp a.eval o).run Try.prog w = .ok (.value v) w := by
  have hd := T.a
  unfold execOp
  simp only [ho, hx, Instr.loadAt, Instr.sureAddr, Sem.run_bind, Sem.run_pure, Result.andThen_ok, loadVar, hd w, Bool.false_eq_true, if_false, run_load, hl]
theorem run_cells {ty : TypeId} {x : Operand} (ho : o.op = .load ty x) {b k n : Nat} (hx : a.eval x = .pointer (some ⟨b, k, none⟩)) {sub : List Value} [T : TN ty n] (hn : sub.length = n) (hc : w.rangeAt b k sub) : (execOp a.eval o).run Try.prog w = .ok (.value (.agg sub.toArray)) w := by
  have hl : (loadCells ⟨b, k, none⟩ n).run Try.prog w = .ok sub.toArray w := by
    rw [← hn]
    exact run_loadCells_list (P := Try.prog) w ⟨b, k, none⟩ sub (fun j v hv => by rw [Addr.add_mid]; exact hc j v hv)
  have hd := T.a
  have hs := T.s
  unfold execOp
  simp only [ho, hx, Instr.loadAt, Instr.sureAddr, Sem.run_bind, Sem.run_pure, Result.andThen_ok, loadVar, hd w, if_true, hs w, hl]
theorem rl1 {ty : TypeId} {x : Operand} (ho : o.op = .load ty x) {b k : Nat} (hx : a.eval x = .pointer (some ⟨b, k, none⟩)) {t : TypeId} {cs : List Value} {v : Value} [T : T1 ty] [m : Bi bs b t cs] [g : Gt cs k v] : ∀ w, Hid (Own w0 X S bs rs F w) → (execOp a.eval o).run Try.prog w = .ok (.value v) w := fun w HO =>
  run_cell ho hx (HO.out.cells m.m k 0 v (by rw [List.getElem?_drop]; exact g.g))
theorem sub_cells {cs sub : List Value} {b k n : Nat} (h : w.rangeAt b k (cs.drop k)) [l : Sb cs k n sub] : w.rangeAt b k sub := fun j v hv => h j v (by
  rw [← l.t, List.getElem?_take] at hv
  split at hv
  · exact hv
  · cases hv)
theorem rl3 {ty : TypeId} {x : Operand} (ho : o.op = .load ty x) {b k : Nat} (hx : a.eval x = .pointer (some ⟨b, k, none⟩)) {t : TypeId} {cs : List Value} {n : Nat} [T : TN ty n] [m : Bi bs b t cs] {sub : List Value} [l : Sb cs k n sub] : ∀ w, Hid (Own w0 X S bs rs F w) → (execOp a.eval o).run Try.prog w = .ok (.value (.agg sub.toArray)) w := fun w HO =>
  run_cells ho hx l.n (sub_cells (HO.out.cells m.m k) (l := l))
theorem ry1 {ty : TypeId} {x : Operand} (ho : o.op = .load ty x) {b k : Nat} (hx : a.eval x = .pointer (some ⟨b, k, none⟩)) {t : TypeId} {cs : List Value} {v : Value} [T : T1 ty] [m : Bi xs b t cs] [g : Gt cs k v] : ∀ w, Hid (Own w0 X (SX xs ms X w0.heap.size) bs rs F w) → (execOp a.eval o).run Try.prog w = .ok (.value v) w := fun w HO =>
  run_cell ho hx (HO.out.xcells m.m k 0 v (by rw [List.getElem?_drop]; exact g.g))
theorem rnj {ty : TypeId} {x : Operand} (ho : o.op = .load ty x) {b q : Nat} (hx : a.eval x = .pointer (some ⟨b, q, none⟩)) {oo j : Nat} {n : NodeT} {A : Option Addr} {c : Nat} (HN : Hid (NdAt w0 (Eld w0 X) b oo n A c)) [T : T1 ty] (hq : q = oo + j) {v : Value} (hv : (nodeC n A c)[j]? = some v) : ∀ w, Hid (Own w0 X S bs rs F w) → (execOp a.eval o).run Try.prog w = .ok (.value v) w := fun w HO => by
  subst hq
  exact run_cell ho hx (HO.out.elder HN.out.hb.1 HN.out.hb.2 (HN.out.cells j v hv))
theorem rn0 {ty : TypeId} {x : Operand} (ho : o.op = .load ty x) {b oo : Nat} (hx : a.eval x = .pointer (some ⟨b, oo, none⟩)) {n : NodeT} {A : Option Addr} {c : Nat} (HN : Hid (NdAt w0 (Eld w0 X) b oo n A c)) [T : T1 ty] : ∀ w, Hid (Own w0 X S bs rs F w) → (execOp a.eval o).run Try.prog w = .ok (.value (.int .i64 (n.k : Int))) w := rnj (j := 0) ho hx HN rfl rfl
theorem re1 {ty : TypeId} {x : Operand} (ho : o.op = .load ty x) {b k : Nat} (hx : a.eval x = .pointer (some ⟨b, k, none⟩)) {v : Value} [T : T1 ty] (hb : Eld w0 X b) (hc : w0.cell? ⟨b, k, none⟩ = some v) : ∀ w, Hid (Own w0 X S bs rs F w) → (execOp a.eval o).run Try.prog w = .ok (.value v) w := fun w HO =>
  run_cell ho hx (HO.out.elder hb.1 hb.2 hc)
theorem rFi {cs : List Value} {ty : TypeId} {x : Operand} {k : Nat} (ho : o.op = .field ty x k) (hx : a.eval x = .agg cs.toArray) {fs : Array Field} [U : TF ty fs] {v : Value} (h : ∃ nm ft off em tg u1 u2, fs[k]? = some ⟨nm, ft, off, em, tg, u1, u2⟩ ∧ cs[off]? = some v ∧ T1 ft) : ∀ w, Hid (Own w0 X S bs rs F w) → (execOp a.eval o).run Try.prog w = .ok (.value v) w := fun w _ => eFi ho hx h w
theorem qL1 (hw : Region.wanted o (yielded ops a.tmps) = true) {ty : TypeId} {x : Operand} (ho : o.op = .load ty x) {b k : Nat} (hx : a.eval x = .pointer (some ⟨b, k, none⟩)) {t : TypeId} {cs : List Value} {v : Value} [T : T1 ty] [m : Bi bs b t cs] [g : Gt cs k v] (h : WQ w0 X S bs rs F ops Q rest (a.put o.dst v)) : WQ w0 X S bs rs F ops Q (o :: rest) a := qVa hw (rl1 (T := T) (m := m) (g := g) ho hx) h
theorem qL3 (hw : Region.wanted o (yielded ops a.tmps) = true) {ty : TypeId} {x : Operand} (ho : o.op = .load ty x) {b k : Nat} (hx : a.eval x = .pointer (some ⟨b, k, none⟩)) {t : TypeId} {cs : List Value} {n : Nat} [T : TN ty n] [m : Bi bs b t cs] {sub : List Value} [l : Sb cs k n sub] (h : WQ w0 X S bs rs F ops Q rest (a.put o.dst (.agg sub.toArray))) : WQ w0 X S bs rs F ops Q (o :: rest) a := qVa hw (rl3 (T := T) (m := m) (l := l) ho hx) h
theorem qY1 (hw : Region.wanted o (yielded ops a.tmps) = true) {ty : TypeId} {x : Operand} (ho : o.op = .load ty x) {b k : Nat} (hx : a.eval x = .pointer (some ⟨b, k, none⟩)) {t : TypeId} {cs : List Value} {v : Value} [T : T1 ty] [m : Bi xs b t cs] [g : Gt cs k v] (h : WQ w0 X (SX xs ms X w0.heap.size) bs rs F ops Q rest (a.put o.dst v)) : WQ w0 X (SX xs ms X w0.heap.size) bs rs F ops Q (o :: rest) a := qVa hw (ry1 (T := T) (m := m) (g := g) ho hx) h
theorem qN0 {b oo : Nat} {n : NodeT} {A : Option Addr} {c : Nat} (HN : Hid (NdAt w0 (Eld w0 X) b oo n A c)) (hw : Region.wanted o (yielded ops a.tmps) = true) {ty : TypeId} {x : Operand} (ho : o.op = .load ty x) (hx : a.eval x = .pointer (some ⟨b, oo, none⟩)) [T : T1 ty] (h : WQ w0 X S bs rs F ops Q rest (a.put o.dst (.int .i64 (n.k : Int)))) : WQ w0 X S bs rs F ops Q (o :: rest) a := qVa hw (rn0 (T := T) ho hx HN) h
theorem qNj {b oo : Nat} {n : NodeT} {A : Option Addr} {c : Nat} (HN : Hid (NdAt w0 (Eld w0 X) b oo n A c)) (hw : Region.wanted o (yielded ops a.tmps) = true) {ty : TypeId} {x : Operand} (ho : o.op = .load ty x) {q j : Nat} (hx : a.eval x = .pointer (some ⟨b, q, none⟩)) [T : T1 ty] (hq : q = oo + j) {v : Value} (hv : (nodeC n A c)[j]? = some v) (h : WQ w0 X S bs rs F ops Q rest (a.put o.dst v)) : WQ w0 X S bs rs F ops Q (o :: rest) a := qVa hw (rnj (T := T) ho hx HN hq hv) h
theorem qE1 {b k : Nat} {v : Value} (hb : Eld w0 X b) (hc : w0.cell? ⟨b, k, none⟩ = some v) (hw : Region.wanted o (yielded ops a.tmps) = true) {ty : TypeId} {x : Operand} (ho : o.op = .load ty x) (hx : a.eval x = .pointer (some ⟨b, k, none⟩)) [T : T1 ty] (h : WQ w0 X S bs rs F ops Q rest (a.put o.dst v)) : WQ w0 X S bs rs F ops Q (o :: rest) a := qVa hw (re1 (T := T) ho hx hb hc) h
theorem run_lookO {κ : Type} [DecidableEq κ] {kt et ty : TypeId} {enc : κ → Value} {ok : κ → Prop} (M : KeyOk kt enc ok) (hm : Try.prog.underlying ty = some (.map kt et)) {z : Value} (hz : ∀ w, (zeroValue et).run Try.prog w = .ok z w) {x y : Operand} {cm : Bool} (ho : o.op = .lookup ty x y cm) {m : Nat} (hx : a.eval x = .map (some m)) {k : κ} (hy : a.eval y = enc k) {l : List (κ × Value)} (hb : w.heap[m]? = some (mapO (encK enc l))) (hl : ∀ x ∈ l, ok x.1) (hk : ok k) {v : Value} (hv : (if cm then .tuple #[(lookK k l).getD z, .bool (lookK k l).isSome] else (lookK k l).getD z) = v) : (execOp a.eval o).run Try.prog w = .ok (.value v) w := by
  have hr := run_lookM M hm hz hb hl hk cm
  rw [hv] at hr
  unfold execOp
  simp only [ho, hx, hy, Sem.run_bind, hr, Result.andThen_ok, Sem.run_pure]
theorem rke {κ : Type} [DecidableEq κ] {kt et ty : TypeId} {enc : κ → Value} {ok : κ → Prop} (M : KeyOk kt enc ok) (hm : Try.prog.underlying ty = some (.map kt et)) {z : Value} (hz : ∀ w, (zeroValue et).run Try.prog w = .ok z w) {x y : Operand} {cm : Bool} (ho : o.op = .lookup ty x y cm) {m : Nat} (hx : a.eval x = .map (some m)) {k : κ} (hy : a.eval y = enc k) {l : List (κ × Value)} (hb : Eld w0 X m ∧ w0.heap[m]? = some (mapO (encK enc l))) (hl : ∀ x ∈ l, ok x.1) (hk : ok k) {v : Value} (hv : (if cm then .tuple #[(lookK k l).getD z, .bool (lookK k l).isSome] else (lookK k l).getD z) = v) : ∀ w, Hid (Own w0 X S bs rs F w) → (execOp a.eval o).run Try.prog w = .ok (.value v) w := fun w HO =>
  run_lookO M hm hz ho hx hy ((HO.out.kept.block m hb.1.1 hb.1.2).trans hb.2) hl hk hv
theorem rkx {κ : Type} [DecidableEq κ] {kt et ty : TypeId} {enc : κ → Value} {ok : κ → Prop} (M : KeyOk kt enc ok) (hm : Try.prog.underlying ty = some (.map kt et)) {z : Value} (hz : ∀ w, (zeroValue et).run Try.prog w = .ok z w) {x y : Operand} {cm : Bool} (ho : o.op = .lookup ty x y cm) {m : Nat} (hx : a.eval x = .map (some m)) {k : κ} (hy : a.eval y = enc k) {l : List (κ × Value)} [I : Mi ms m (encK enc l)] (hl : ∀ x ∈ l, ok x.1) (hk : ok k) {v : Value} (hv : (if cm then .tuple #[(lookK k l).getD z, .bool (lookK k l).isSome] else (lookK k l).getD z) = v) : ∀ w, Hid (Own w0 X (SX xs ms X w0.heap.size) bs rs F w) → (execOp a.eval o).run Try.prog w = .ok (.value v) w := fun w HO =>
  run_lookO M hm hz ho hx hy (HO.out.st.map _ I.m) hl hk hv
end
open Go.RowKit
theorem info_node : (Try.prog.info? 45).map (fun i => (i.zero, i.size, i.bytes)) = some (some (.agg #[.int .i64 0, .int .i64 0, .string { data := #[] }, .bool false, .int .u64 0, .int .u64 0, .int .i64 0, .slice none 0 0]), 8, 88) := by kernel_rfl
section
variable {α β : Type} {K : FuncId} {args : Array Value} {f : PP α} {V : World → World → α → Value → Prop} {g : Nat} {ts : List TokF} {n a d : Nat} {k : α → PP β} {R : PR β} {w0 w W : World} {X : List Nat} {S : World → Prop} {bs : List Bx} {rs : List Rw} {F : List Cold} {T : Ending → World → Prop}
variable {o : Oper} {act : Act} {KK : Act → World → Prop} {Q : Exit → Act → World → Prop}
theorem oneC (els : List El) : ∀ u ∈ flatE els, u.oneCell' = true := by
  intro u hu
  obtain ⟨e, _, h⟩ := List.mem_flatMap.1 hu
  simp only [nodeC, List.mem_cons, List.not_mem_nil, or_false] at h
  rcases h with rfl | rfl | rfl | rfl | rfl | rfl | rfl | rfl <;> rfl
theorem wo_appN {v : Value} {els : List El} (HO : Hid (Own w0 X S bs (⟨45, 8, v, els.length, flatE els⟩ :: rs) F w)) (he : Cold.els els ∈ F) {s x : Operand}
    (ho : o.op = .call { callee := .builtin .append, args := #[s, x], argTypes := #[43, 43] }) (hs : act.eval s = v) {r c : Nat} (hx : act.eval x = .slice (some ⟨r, 0, none⟩) 1 c) {y : NodeT} (hk : Cold.kids (some ⟨r, 0, none⟩) [y] ∈ F) (hm : els.length ≤ 1000000)
    (h : ∀ (els' : List El) A' c' W, els'.map (·.1) = els.map (·.1) ++ [y] → els'.length = els.length + 1 → els'.length ≤ c' → Hid (Own w0 X S bs (⟨45, 8, .slice A' els'.length c', els'.length, flatE els'⟩ :: rs) (Cold.els els' :: F) W) → KK (act.put o.dst (.slice A' els'.length c')) W) : WOp Try.prog o act w KK Q := by
  obtain ⟨i0, hi, hz0, hz1, hz2⟩ := info_parts info_node
  have hrow := HO.out.row _ List.mem_cons_self
  have hcy := HO.out.cold _ hk
  unfold Cold.kids at hcy
  dsimp only at hcy
  rw [KidsL] at hcy
  obtain ⟨⟨b, q, A', c', e, hF, hr, hc', hkn⟩, _⟩ := hcy
  injection e with e
  injection e with e1 e2 _
  subst e1 e2
  rw [KidsN_eq] at hkn
  have hrd : Reads w w.heap.size 8 (some ⟨r, 0, none⟩) 1 (nodeC y A' c') := ⟨rfl, fun _ => ⟨_, rfl, hF.2.1, fun j u hu => by
    have := hr j u hu
    rw [Addr.add_mid]
    simpa using this⟩⟩
  unfold WOp
  refine wp_append_any w s x 43 ho w0.heap.size 45 i0 _ 8 88 Try.underlying43 hi hz0 hz1 hz2 rfl (by decide) v els.length (flatE els) hs hrow w.heap.size _ 1 c (nodeC y A' c') hx hrd (by have := oneC [(y, A', c')]; simpa [flatE] using this) (by unfold maxLen; omega) (by omega) HO.out.kept.size (fun v' w' h1 h2 h3 => ?_)
  have hfl : flatE els ++ nodeC y A' c' = flatE (els ++ [(y, A', c')]) := by rw [flatE_app]; simp [flatE]
  have hln : els.length + 1 = (els ++ [(y, A', c')]).length := by simp
  rw [hfl, hln] at h1
  have hO2 := HO.out.grow ⟨45, 8, v', (els ++ [(y, A', c')]).length, flatE (els ++ [(y, A', c')])⟩ h1 h2 (by
    rcases h3 with h3 | h3
    · exact .inl h3
    · exact .inr fun k hk => by rw [h3] at hk; injection hk with hk; omega)
  have hels := hO2.cold _ he
  have hkn2 : KidsL w' (fun b => w0.heap.size ≤ b ∧ b < w'.heap.size ∧ b ∉ hot bs (⟨45, 8, v', (els ++ [(y, A', c')]).length, flatE (els ++ [(y, A', c')])⟩ :: rs)) y.l A' 0 := by
    have := HO.out.coldAll (Cold.kids A' y.l) hkn
    have h4 := this.grow ⟨45, 8, v', (els ++ [(y, A', c')]).length, flatE (els ++ [(y, A', c')])⟩ h1 h2 (by
      rcases h3 with h3 | h3
      · exact .inl h3
      · exact .inr fun k hk => by rw [h3] at hk; injection hk with hk; omega)
    exact h4.cold _ List.mem_cons_self
  have hO3 := hO2.coldAll (Cold.els (els ++ [(y, A', c')])) (fun e hm => by
    rcases List.mem_append.1 hm with hm | hm
    · exact hels e hm
    · obtain rfl : e = (y, A', c') := by simpa using hm
      exact ⟨hc', hkn2⟩)
  have h1b := h1.2
  rcases h1b with ⟨_, h0⟩ | ⟨gg, cap, cur, rfl, _, _, hn2, _⟩
  · rw [← hln] at h0; omega
  · exact h _ _ _ w' (by rw [List.map_append]; rfl) (by rw [← hln]) hn2 (Lib.hid hO3)
theorem ab_rowE2 (HO : Hid (Own w0 X S bs rs F w)) {x y : NodeT} {A B : Option Addr} {c e : Nat} (hx : Cold.kids A x.l ∈ F) (hc : x.l.length ≤ c) (hy : Cold.kids B y.l ∈ F) (he : y.l.length ≤ e) (h : ∀ W, Hid (Own w0 X S bs (⟨45, 8, .slice (some ⟨w.heap.size, 0, none⟩) 2 2, 2, flatE [(x, A, c), (y, B, e)]⟩ :: rs) (Cold.els [(x, A, c), (y, B, e)] :: F) W) → KK act W) :
    KK act (w.alloc (.cells #[.int .i64 ((NodeT.k x : Nat) : Int), .int .i64 ((NodeT.at' x : Nat) : Int), .string (strN (NodeT.s x)), .bool (zn (NodeT.z x)), .int .u64 (zh (NodeT.z x)), .int .u64 (zl (NodeT.z x)), .int .i64 ((NodeT.i x : Nat) : Int), .slice A (NodeT.l x).length c, .int .i64 ((NodeT.k y : Nat) : Int), .int .i64 ((NodeT.at' y : Nat) : Int), .string (strN (NodeT.s y)), .bool (zn (NodeT.z y)), .int .u64 (zh (NodeT.z y)), .int .u64 (zl (NodeT.z y)), .int .i64 ((NodeT.i y : Nat) : Int), .slice B (NodeT.l y).length e] 45)) := by
  refine h _ (Lib.hid ?_)
  have h1 := HO.out.litRow 45 8 2 (flatE [(x, A, c), (y, B, e)]) rfl (by decide)
  exact h1.coldAll (Cold.els [(x, A, c), (y, B, e)]) (fun el hel => by
    rcases List.mem_cons.1 hel with rfl | hel
    · exact ⟨hc, h1.cold _ hx⟩
    · obtain rfl := List.mem_singleton.1 hel
      exact ⟨he, h1.cold _ hy⟩)
theorem nE2 (HO : Hid (Own w0 X S bs rs F w)) {x y : NodeT} {A B : Option Addr} {c e : Nat} [mx : Ci F (Cold.kids A x.l)] [my : Ci F (Cold.kids B y.l)] (hc : x.l.length ≤ c ∧ y.l.length ≤ e) (h : ∀ W, Hid (Own w0 X S bs (⟨45, 8, .slice (some ⟨w.heap.size, 0, none⟩) 2 2, 2, flatE [(x, A, c), (y, B, e)]⟩ :: rs) (Cold.els [(x, A, c), (y, B, e)] :: F) W) → KK act W) :
    KK act (w.alloc (.cells #[.int .i64 ((NodeT.k x : Nat) : Int), .int .i64 ((NodeT.at' x : Nat) : Int), .string (strN (NodeT.s x)), .bool (zn (NodeT.z x)), .int .u64 (zh (NodeT.z x)), .int .u64 (zl (NodeT.z x)), .int .i64 ((NodeT.i x : Nat) : Int), .slice A (NodeT.l x).length c, .int .i64 ((NodeT.k y : Nat) : Int), .int .i64 ((NodeT.at' y : Nat) : Int), .string (strN (NodeT.s y)), .bool (zn (NodeT.z y)), .int .u64 (zh (NodeT.z y)), .int .u64 (zl (NodeT.z y)), .int .i64 ((NodeT.i y : Nat) : Int), .slice B (NodeT.l y).length e] 45)) := ab_rowE2 HO mx.m hc.1 my.m hc.2 h
theorem to_append {P : Program} {w : World} {dd : Option Tmp} {T : TypeId} {s x : Operand} {tt : Array TypeId} {ps : String} {af : Array Edge} {gd : Option (Nat × Bool)} (h : WOp P ⟨dd, .call { callee := .builtin .append, args := #[s, x], argTypes := tt }, T, ps, af, gd⟩ act w KK Q) : Oper.wp P ⟨dd, .call { callee := .builtin .append, args := #[s, x], argTypes := tt }, T, ps, af, gd⟩ act w KK Q := h
end
open Go.RowKit
abbrev ElR : Type := RuleT × Option Addr × Nat × Option Addr × Nat
abbrev ElF : Type := FuncT × Option Addr × Nat × Option Addr × Nat
def ruleC (r : RuleT) (A : Option Addr) (c : Nat) (B : Option Addr) (e : Nat) : List Value := [.int .i64 ((r.k : Nat) : Int), .int .i64 ((r.at' : Nat) : Int), .slice A r.l.length c, .int .i64 ((NodeT.k r.body : Nat) : Int), .int .i64 ((NodeT.at' r.body : Nat) : Int), .string (strN (NodeT.s r.body)), .bool (zn (NodeT.z r.body)), .int .u64 (zh (NodeT.z r.body)), .int .u64 (zl (NodeT.z r.body)), .int .i64 ((NodeT.i r.body : Nat) : Int), .slice B (NodeT.l r.body).length e, .bool r.bare]
def funcC (f : FuncT) (A : Option Addr) (c : Nat) (B : Option Addr) (e : Nat) : List Value := [.string (strN f.name), .slice A f.params.length c, .int .i64 ((NodeT.k f.body : Nat) : Int), .int .i64 ((NodeT.at' f.body : Nat) : Int), .string (strN (NodeT.s f.body)), .bool (zn (NodeT.z f.body)), .int .u64 (zh (NodeT.z f.body)), .int .u64 (zl (NodeT.z f.body)), .int .i64 ((NodeT.i f.body : Nat) : Int), .slice B (NodeT.l f.body).length e, .int .i64 ((f.at' : Nat) : Int)]
def flatR (els : List ElR) : List Value := els.flatMap fun x => ruleC x.1 x.2.1 x.2.2.1 x.2.2.2.1 x.2.2.2.2
def flatF (els : List ElF) : List Value := els.flatMap fun x => funcC x.1 x.2.1 x.2.2.1 x.2.2.2.1 x.2.2.2.2
def strVs (l : List (List Nat)) : List Value := l.map fun s => .string (strN s)
def RowAt (w : World) (F : Nat → Prop) (A : Option Addr) (xs : List Value) : Prop := xs ≠ [] → ∃ b, A = some ⟨b, 0, none⟩ ∧ F b ∧ ∀ (j : Nat) u, xs[j]? = some u → w.cell? ⟨b, j, none⟩ = some u
theorem RowAt.st {w w' : World} {F F' : Nat → Prop} {A : Option Addr} {xs : List Value} (hF : ∀ b, F b → F' b ∧ w'.heap[b]? = w.heap[b]?) (h : RowAt w F A xs) : RowAt w' F' A xs := fun hx => by
  obtain ⟨b, e, hb, hc⟩ := h hx
  exact ⟨b, e, (hF b hb).1, fun j u hu => (World.cell?_of_block (hF b hb).2).trans (hc j u hu)⟩
def Cold.row (A : Option Addr) (xs : List Value) : Cold := ⟨fun w F => RowAt w F A xs, fun _ _ _ _ hF h => h.st hF⟩
def ElR.ok (w : World) (F : Nat → Prop) (x : ElR) : Prop := x.1.l.length ≤ x.2.2.1 ∧ x.1.body.l.length ≤ x.2.2.2.2 ∧ KidsL w F x.1.l x.2.1 0 ∧ KidsL w F x.1.body.l x.2.2.2.1 0
def ElF.ok (w : World) (F : Nat → Prop) (x : ElF) : Prop := x.1.params.length ≤ x.2.2.1 ∧ x.1.body.l.length ≤ x.2.2.2.2 ∧ RowAt w F x.2.1 (strVs x.1.params) ∧ KidsL w F x.1.body.l x.2.2.2.1 0
theorem ElR.ok.st {w w' : World} {F F' : Nat → Prop} {x : ElR} (hF : ∀ b, F b → F' b ∧ w'.heap[b]? = w.heap[b]?) (h : ElR.ok w F x) : ElR.ok w' F' x := ⟨h.1, h.2.1, h.2.2.1.st hF, h.2.2.2.st hF⟩
theorem ElF.ok.st {w w' : World} {F F' : Nat → Prop} {x : ElF} (hF : ∀ b, F b → F' b ∧ w'.heap[b]? = w.heap[b]?) (h : ElF.ok w F x) : ElF.ok w' F' x := ⟨h.1, h.2.1, h.2.2.1.st hF, h.2.2.2.st hF⟩
section
variable {w0 w w' W : World} {X : List Nat} {S : World → Prop} {bs : List Bx} {rs : List Rw} {F : List Cold} {g a d n : Nat} {ts : List TokF} {β : Type} {R : PR β} {T : Ending → World → Prop} {K : FuncId} {args : Array Value}
theorem Own.freezeG {r : Rw} (h : Own w0 X S bs (r :: rs) F w) (h0 : r.n = 0 → r.xs = []) : ∃ A c, r.v = .slice A r.n c ∧ r.n ≤ c ∧ Own w0 X S bs rs (Cold.row A r.xs :: F) w := by
  have hr : w.ownsRow w0.heap.size r.e r.size r.v r.n r.xs := h.row _ List.mem_cons_self
  have hsub := h.sub (List.Sublist.refl bs) (List.sublist_cons_self _ rs) (fun c hc => hc)
  have hnd := h.nodup
  rcases hr.2 with ⟨hv, h0'⟩ | ⟨k, cap, cur, hv, hk, hh, hn, _⟩
  · exact ⟨none, 0, by rw [hv, h0'], by omega, hsub.coldAll _ (fun hx => absurd (h0 h0') hx)⟩
  · refine ⟨some ⟨k, 0, none⟩, cap, hv, hn, hsub.coldAll _ (fun _ => ?_)⟩
    have ho : r.v.ownBlock = some k := by rw [hv]; rfl
    have hnot : k ∉ hot bs rs := by
      intro hm
      rcases List.mem_append.1 hm with hm | hm
      · exact (List.nodup_append.1 hnd).2.2 k hm k (List.mem_filterMap.2 ⟨_, List.mem_cons_self, ho⟩) rfl
      · have hnd2 := (List.nodup_append.1 hnd).2.1
        rw [List.filterMap_cons, ho] at hnd2
        exact (List.nodup_cons.1 hnd2).1 hm
    refine ⟨k, rfl, ⟨hk, (hr.lt k ho).2, hnot⟩, fun j u hj => ?_⟩
    have := hr.cells (g := k) ho j u hj
    rw [Addr.add_mid, Nat.zero_add] at this
    exact this
theorem Own.swapR {r1 r2 : Rw} (h : Own w0 X S bs (r1 :: r2 :: rs) F w) : Own w0 X S bs (r2 :: r1 :: rs) F w := by
  have hp : (hot bs (r1 :: r2 :: rs)).Perm (hot bs (r2 :: r1 :: rs)) := (List.Perm.refl _).append ((List.Perm.swap r2 r1 rs).filterMap _)
  refine ⟨h.kept, h.loc, h.st, h.box, h.base, fun r hr => h.row r ?_, (hp.nodup_iff).1 h.nodup, fun c hc => c.st w w _ _ (fun b hb => ⟨⟨hb.1, hb.2.1, fun hm => hb.2.2 (hp.mem_iff.2 hm)⟩, rfl⟩) (h.cold c hc)⟩
  rcases List.mem_cons.1 hr with rfl | hr
  · exact List.mem_cons_of_mem _ List.mem_cons_self
  · rcases List.mem_cons.1 hr with rfl | hr
    · exact List.mem_cons_self
    · exact List.mem_cons_of_mem _ (List.mem_cons_of_mem _ hr)
variable {o : Oper} {act : Act} {KK : Act → World → Prop} {Q : Exit → Act → World → Prop}
theorem wo_appG {v : Value} {e : TypeId} {sz n' : Nat} {xs : List Value} (HO : Hid (Own w0 X S bs (⟨e, sz, v, n', xs⟩ :: rs) F w)) {s x : Operand} {T' : TypeId}
    (ho : o.op = .call { callee := .builtin .append, args := #[s, x], argTypes := #[T', T'] }) (hs : act.eval s = v) {r c : Nat} (hx : act.eval x = .slice (some ⟨r, 0, none⟩) 1 c) {ys : List Value} (HB : Hid (Blk w r e ys.toArray))
    (ht : Try.prog.underlying T' = some (.slice e)) {z : Value} {bytes : Nat} (hinfo : (Try.prog.info? e).map (fun i => (i.zero, i.size, i.bytes)) = some (some z, sz, bytes)) (hzs : z.cells.size = sz) (hsz : 0 < sz) (hys : ys.length = sz) (h1 : ∀ u ∈ ys, u.oneCell' = true) (hm : n' ≤ 1000000) (hby : bytes ≤ 1000)
    (h : ∀ A' c' W, n' + 1 ≤ c' → Hid (Own w0 X S bs (⟨e, sz, .slice A' (n' + 1) c', n' + 1, xs ++ ys⟩ :: rs) F W) → KK (act.put o.dst (.slice A' (n' + 1) c')) W) : WOp Try.prog o act w KK Q := by
  obtain ⟨i0, hi, hz0, hz1, hz2⟩ := info_parts hinfo
  have hrow := HO.out.row _ List.mem_cons_self
  have hrd : Reads w w.heap.size sz (some ⟨r, 0, none⟩) 1 ys := ⟨by omega, fun _ => ⟨_, rfl, HB.out.lt, fun j u hu => by
    rw [Addr.add_mid, Nat.zero_add, HB.out.cell]
    simpa using hu⟩⟩
  have hb2 : (n' + 1) * bytes ≤ 140737488355328 := by
    have : (n' + 1) * bytes ≤ 1000001 * 1000 := Nat.mul_le_mul (by omega) hby
    omega
  unfold WOp
  refine wp_append_any w s x T' ho w0.heap.size e i0 z sz bytes ht hi hz0 hz1 hz2 hzs hsz v n' xs hs hrow w.heap.size _ 1 c ys hx hrd h1 (by unfold maxLen; omega) hb2 HO.out.kept.size (fun v' w' g1 g2 g3 => ?_)
  have hO2 := HO.out.grow ⟨e, sz, v', n' + 1, xs ++ ys⟩ g1 g2 (by
    rcases g3 with g3 | g3
    · exact .inl g3
    · exact .inr fun k hk => by
        have hk' : v'.ownBlock = some k := hk
        rw [g3] at hk'; injection hk' with hk'; omega)
  have g4 := g1.2
  rcases g4 with ⟨_, h0⟩ | ⟨gg, cap, cur, rfl, _, _, hn2, _⟩
  · omega
  · exact h _ _ w' hn2 (Lib.hid hO2)
theorem info_str : (Try.prog.info? 9).map (fun i => (i.zero, i.size, i.bytes)) = some (some (.string { data := #[] }), 1, 16) := by kernel_rfl
theorem info_rule : (Try.prog.info? 83).map (fun i => (i.zero, i.size, i.bytes)) = some (some (.agg #[.int .i64 0, .int .i64 0, .slice none 0 0, .int .i64 0, .int .i64 0, .string { data := #[] }, .bool false, .int .u64 0, .int .u64 0, .int .i64 0, .slice none 0 0, .bool false]), 12, 136) := by kernel_rfl
theorem info_func : (Try.prog.info? 81).map (fun i => (i.zero, i.size, i.bytes)) = some (some (.agg #[.string { data := #[] }, .slice none 0 0, .int .i64 0, .int .i64 0, .string { data := #[] }, .bool false, .int .u64 0, .int .u64 0, .int .i64 0, .slice none 0 0, .int .i64 0]), 11, 136) := by kernel_rfl
theorem wo_appS {v : Value} {l : List (List Nat)} (HO : Hid (Own w0 X S bs (⟨9, 1, v, l.length, strVs l⟩ :: rs) F w)) {s x : Operand}
    (ho : o.op = .call { callee := .builtin .append, args := #[s, x], argTypes := #[79, 79] }) (hs : act.eval s = v) {r c : Nat} (hx : act.eval x = .slice (some ⟨r, 0, none⟩) 1 c) {y : List Nat} (HB : Hid (Blk w r 9 #[.string (strN y)])) (hm : l.length ≤ 1000000)
    (h : ∀ A' c' W, (l ++ [y]).length ≤ c' → Hid (Own w0 X S bs (⟨9, 1, .slice A' (l ++ [y]).length c', (l ++ [y]).length, strVs (l ++ [y])⟩ :: rs) F W) → KK (act.put o.dst (.slice A' (l ++ [y]).length c')) W) : WOp Try.prog o act w KK Q := by
  refine wo_appG HO ho hs hx (ys := [.string (strN y)]) HB Try.underlying79 info_str rfl (by decide) rfl (by simp [Value.oneCell']) hm (by decide) (fun A' c' W h1 h2 => ?_)
  have e1 : l.length + 1 = (l ++ [y]).length := by simp
  have e2 : strVs l ++ [.string (strN y)] = strVs (l ++ [y]) := by simp [strVs]
  rw [e2, e1] at h2
  rw [e1] at h1 ⊢
  exact h A' c' W h1 h2
end
section
variable {P : Program} {md : Region.Mode} {ops : Array Oper} {Q : Exit → Act → World → Prop} {S : World → Prop} {late : List Nat}
end
open Go.RowKit
section
variable {β : Type} {g : Nat} {ts : List TokF} {a d n : Nat} {w w' w0 W : World} {X : List Nat} {bs : List Bx} {rs : List Rw} {F : List Cold} {T : Ending → World → Prop} {K : FuncId} {args : Array Value} {R : PR β}
end
open Go.RowKit
section
variable {β : Type} {g : Nat} {ts : List TokF} {a d n : Nat} {w w' w0 W : World} {X : List Nat} {S : World → Prop} {bs : List Bx} {rs : List Rw} {F : List Cold} {T : Ending → World → Prop} {K : FuncId} {args : Array Value} {R : PR β}
def Cold.cells (b o : Nat) (cs : List Value) : Cold := ⟨fun w F => F b ∧ w.rangeAt b o cs, fun _ _ _ _ hF h => ⟨(hF b h.1).1, fun j v hv => (World.cell?_of_block (hF b h.1).2).trans (h.2 j v hv)⟩⟩
end
open Go.RowKit
section
variable {w0 w W : World} {bs : List Bx} {rs : List Rw} {F : List Cold} {g d : Nat} {ts : List TokF}
end
section
variable {w0 w : World} {X : List Nat} {S : World → Prop} {bs : List Bx} {rs : List Rw} {F : List Cold} {KK : Act → World → Prop} {act : Act} {o : Oper} {Q : Exit → Act → World → Prop}
end
open Go.RowKit
section
variable {w0 w W : World} {bs : List Bx} {rs : List Rw} {F : List Cold} {g d : Nat} {ts : List TokF}
end
open Go.RowKit
section
variable {ts : List TokF} {p : Par}
end
structure TreeAt (w : World) (F : Nat → Prop) (A : Option Addr) (B : Option Addr) (fe : List ElF) (re : List ElR) : Prop where
  rf : RowAt w F A (flatF fe)
  rr : RowAt w F B (flatR re)
  ef : ∀ x ∈ fe, ElF.ok w F x
  er : ∀ x ∈ re, ElR.ok w F x
theorem TreeAt.st {w w' : World} {F F' : Nat → Prop} {A B : Option Addr} {fe : List ElF} {re : List ElR} (hF : ∀ b, F b → F' b ∧ w'.heap[b]? = w.heap[b]?) (h : TreeAt w F A B fe re) : TreeAt w' F' A B fe re := ⟨h.rf.st hF, h.rr.st hF, fun x hx => (h.ef x hx).st hF, fun x hx => (h.er x hx).st hF⟩
section
variable {w0 w W : World} {g h a d n : Nat} {ts : List TokF} {p : Par} {β : Type} {R : PR β} {T : Ending → World → Prop} {k : TreeT → PP β} {bs : List Bx} {fe : List ElF} {re : List ElR} {vF vR : Value}
end
open Go.RowKit
def enumF : List (List Nat) → Nat → List (List Nat × Value)
  | [], _ => []
  | s :: l, i => (s, .int .i64 (i : Int)) :: enumF l (i + 1)
theorem posK_enum (s : List Nat) : ∀ (l : List (List Nat)) (i j : Nat), (posK s (enumF l i) j).map (·.2) = (posF s l i).map fun k => Value.int .i64 ((k : Nat) : Int)
  | [], _, _ => rfl
  | x :: l, i, j => by
    rw [enumF, posK, posF]
    dsimp only
    split
    · rfl
    · exact posK_enum s l (i + 1) (j + 1)
theorem look_enum (s : List Nat) (l : List (List Nat)) (i : Nat) : lookK s (enumF l i) = (posF s l i).map fun k => Value.int .i64 ((k : Nat) : Int) := posK_enum s l i 0
theorem enum_ok {ok : List Nat → Prop} : ∀ (l : List (List Nat)) (i : Nat), (∀ s ∈ l, ok s) → ∀ x ∈ enumF l i, ok x.1
  | [], _, _, x, hx => by cases hx
  | s :: l, i, h, x, hx => by
    rw [enumF] at hx
    rcases List.mem_cons.1 hx with rfl | hx
    · exact h s List.mem_cons_self
    · exact enum_ok l (i + 1) (fun y hy => h y (List.mem_cons_of_mem _ hy)) x hx
section
variable {w0 w : World} {X : List Nat} {S : World → Prop} {bs : List Bx} {rs : List Rw} {F : List Cold} {a : Act} {o : Oper} {xs : List Bx} {ms : List (Nat × List (Value × Value))}
variable {κ : Type} [DecidableEq κ] {kt et ty : TypeId} {enc : κ → Value} {ok : κ → Prop}
theorem rke1 (M : KeyOk kt enc ok) (hm : Try.prog.underlying ty = some (.map kt et)) {z : Value} (hz : ∀ w, (zeroValue et).run Try.prog w = .ok z w) {x y : Operand} (ho : o.op = .lookup ty x y true) {m : Nat} (hx : a.eval x = .map (some m)) {k : κ} (hy : a.eval y = enc k) {l : List (κ × Value)} (hb : Eld w0 X m ∧ w0.heap[m]? = some (mapO (encK enc l))) (hl : ∀ x ∈ l, ok x.1) (hk : ok k) {u : Value} (hu : lookK k l = some u) : ∀ w, Hid (Own w0 X S bs rs F w) → (execOp a.eval o).run Try.prog w = .ok (.value (.tuple #[u, .bool true])) w := rke M hm hz ho hx hy hb hl hk (by rw [hu]; rfl)
theorem rke2 (M : KeyOk kt enc ok) (hm : Try.prog.underlying ty = some (.map kt et)) {z : Value} (hz : ∀ w, (zeroValue et).run Try.prog w = .ok z w) {x y : Operand} (ho : o.op = .lookup ty x y true) {m : Nat} (hx : a.eval x = .map (some m)) {k : κ} (hy : a.eval y = enc k) {l : List (κ × Value)} (hb : Eld w0 X m ∧ w0.heap[m]? = some (mapO (encK enc l))) (hl : ∀ x ∈ l, ok x.1) (hk : ok k) (hu : lookK k l = none) : ∀ w, Hid (Own w0 X S bs rs F w) → (execOp a.eval o).run Try.prog w = .ok (.value (.tuple #[z, .bool false])) w := rke M hm hz ho hx hy hb hl hk (by rw [hu]; rfl)
theorem rke3 (M : KeyOk kt enc ok) (hm : Try.prog.underlying ty = some (.map kt et)) {z : Value} (hz : ∀ w, (zeroValue et).run Try.prog w = .ok z w) {x y : Operand} (ho : o.op = .lookup ty x y false) {m : Nat} (hx : a.eval x = .map (some m)) {k : κ} (hy : a.eval y = enc k) {l : List (κ × Value)} (hb : Eld w0 X m ∧ w0.heap[m]? = some (mapO (encK enc l))) (hl : ∀ x ∈ l, ok x.1) (hk : ok k) {u : Value} (hu : (lookK k l).getD z = u) : ∀ w, Hid (Own w0 X S bs rs F w) → (execOp a.eval o).run Try.prog w = .ok (.value u) w := rke M hm hz ho hx hy hb hl hk (by rw [← hu]; rfl)
theorem rkx1 (M : KeyOk kt enc ok) (hm : Try.prog.underlying ty = some (.map kt et)) {z : Value} (hz : ∀ w, (zeroValue et).run Try.prog w = .ok z w) {x y : Operand} (ho : o.op = .lookup ty x y true) {m : Nat} (hx : a.eval x = .map (some m)) {k : κ} (hy : a.eval y = enc k) {l : List (κ × Value)} [I : Mi ms m (encK enc l)] (hl : ∀ x ∈ l, ok x.1) (hk : ok k) {u : Value} (hu : lookK k l = some u) : ∀ w, Hid (Own w0 X (SX xs ms X w0.heap.size) bs rs F w) → (execOp a.eval o).run Try.prog w = .ok (.value (.tuple #[u, .bool true])) w := rkx M hm hz ho hx hy hl hk (by rw [hu]; rfl)
theorem rkx2 (M : KeyOk kt enc ok) (hm : Try.prog.underlying ty = some (.map kt et)) {z : Value} (hz : ∀ w, (zeroValue et).run Try.prog w = .ok z w) {x y : Operand} (ho : o.op = .lookup ty x y true) {m : Nat} (hx : a.eval x = .map (some m)) {k : κ} (hy : a.eval y = enc k) {l : List (κ × Value)} [I : Mi ms m (encK enc l)] (hl : ∀ x ∈ l, ok x.1) (hk : ok k) (hu : lookK k l = none) : ∀ w, Hid (Own w0 X (SX xs ms X w0.heap.size) bs rs F w) → (execOp a.eval o).run Try.prog w = .ok (.value (.tuple #[z, .bool false])) w := rkx M hm hz ho hx hy hl hk (by rw [hu]; rfl)
theorem rkx3 (M : KeyOk kt enc ok) (hm : Try.prog.underlying ty = some (.map kt et)) {z : Value} (hz : ∀ w, (zeroValue et).run Try.prog w = .ok z w) {x y : Operand} (ho : o.op = .lookup ty x y false) {m : Nat} (hx : a.eval x = .map (some m)) {k : κ} (hy : a.eval y = enc k) {l : List (κ × Value)} [I : Mi ms m (encK enc l)] (hl : ∀ x ∈ l, ok x.1) (hk : ok k) {u : Value} (hu : (lookK k l).getD z = u) : ∀ w, Hid (Own w0 X (SX xs ms X w0.heap.size) bs rs F w) → (execOp a.eval o).run Try.prog w = .ok (.value u) w := rkx M hm hz ho hx hy hl hk (by rw [← hu]; rfl)
end
theorem zInt : ∀ w, (zeroValue 3).run Try.prog w = .ok (.int .i64 0) w := Try.zeroValue3
def RdV (X : List Nat) (S : World → Prop) (v : Value) (w : World) (e : Ending) (w' : World) : Prop := e = .returned v ∧ Kept X w w' ∧ S w'
theorem SX.own {xs : List Bx} {ms : List (Nat × List (Value × Value))} {X : List Nat} {w : World} (h : SX xs ms X w.heap.size w) : Hid (Own w X (SX xs ms X w.heap.size) [] [] [] w) := Lib.hid (Own.init h SX.loc)
structure FmAt (w : World) (P : Nat → Prop) (mf : Nat) (t : TreeT) : Prop where
  hb : P mf ∧ w.heap[mf]? = some (mapO (encK strV (enumF (t.funcs.map (·.name)) 0)))
  ok : ∀ x ∈ enumF (t.funcs.map (·.name)) 0, byteOk x.1
theorem FmAt.look {w : World} {P : Nat → Prop} {mf : Nat} {t : TreeT} (_ : FmAt w P mf t) (s : List Nat) : lookK s (enumF (t.funcs.map (·.name)) 0) = (fnOf t s).map fun k => Value.int .i64 ((k : Nat) : Int) := look_enum _ _ _
set_option maxRecDepth 100000 in
set_option maxHeartbeats 3200000 in
theorem unknown_any {g nF cF nR cR cP mf mg ma mh : Nat} {AF AR AP : Option Addr} {vL vQ : Value} {xt : List Bx} {ms : List (Nat × List (Value × Value))} {X : List Nat} {t : TreeT} {p : Pl} {v : Value} (w : World) (hs : SX (⟨g, 68, [.slice AF nF cF, .slice AR nR cR, .map (some mf), .slice AP nF cP, .map (some mg), vL, .map (some ma), .map (some mh), vQ]⟩ :: xt) ms X w.heap.size w) (hp : PlAt w (Eld w X) p v) (hf : FmAt w (Eld w X) mf t) (hby : byteOk p.n.s) :
    Calls Try.prog 16 #[.pointer (some ⟨g, 0, none⟩), v] w (RdV X (SX (⟨g, 68, [.slice AF nF cF, .slice AR nR cR, .map (some mf), .slice AP nF cP, .map (some mg), vL, .map (some ma), .map (some mh), vQ]⟩ :: xt) ms X w.heap.size) (.bool (unknownB t p)) w) := by
  have HO := hs.own
  obtain ⟨b, o, A, c, u, rfl, hn, hu⟩ := hp
  have HN := Lib.hid hn
  have HM := Lib.hid hf
  have HB := Lib.hid hby
  clear hs hn hu hf hby
  have hlk := HM.out.look p.n.s
  unfold unknownB
  cases hfn : fnOf t p.n.s
  case' none => rw [hfn] at hlk; replace hlk : lookK p.n.s (enumF (t.funcs.map (·.name)) 0) = none := hlk
  case' some j => rw [hfn] at hlk; replace hlk : lookK p.n.s (enumF (t.funcs.map (·.name)) 0) = some (.int .i64 (j : Int)) := hlk
  all_goals
    cases hk : ((p.n.k : Int) == 18)
    all_goals
      go_enter Try.func16, Try.ntmps16
      (repeat' (first | ((with_reducible refine zG ?_); first | refine oWx ?_ | (refine oWs ?_; clear HO; intro _ HO)) | go_values | go_skip | go_guarded | go_step | go_upon | (go_ite <;> go_prune <;> (try go_simp))))
      (refine qBe HO (by kernel_rfl) ?_); (repeat' (first | ((with_reducible refine qNi ?_); (clear HO; intro _ HO)) | ((with_reducible refine qSt ?_); first | ((first | ((with_reducible refine qLd ?_); first | ((with_reducible refine qGd ?_); (with_reducible refine qSk ?_ ?_); focus rfl) | refine qL1 (by rfl) rfl rfl ?_ | refine qL3 (by rfl) rfl rfl ?_ | refine qY1 (by rfl) rfl rfl ?_ | refine qN0 HN (by rfl) rfl rfl ?_ | refine qNj HN (by rfl) rfl rfl rfl rfl ?_) | ((with_reducible refine qLk ?_); first | ((with_reducible refine qGd ?_); (with_reducible refine qSk ?_ ?_); focus rfl) | refine qVa (by rfl) (rke1 keyStr Try.underlying62 zInt rfl rfl rfl HM.out.hb HM.out.ok HB.out hlk) ?_ | refine qVa (by rfl) (rke2 keyStr Try.underlying62 zInt rfl rfl rfl HM.out.hb HM.out.ok HB.out hlk) ?_) | ((with_reducible refine qFd ?_); first | ((with_reducible refine qGd ?_); (with_reducible refine qSk ?_ ?_); focus rfl) | refine qVa (by rfl) (rFi rfl rfl ⟨_, _, _, _, _, _, _, rfl, rfl, inferInstance⟩) ?_) | ((with_reducible refine qCl ?_); first | ((with_reducible refine qGd ?_); (with_reducible refine qSk ?_ ?_); focus rfl)) | ((fail_if_success (with_reducible refine qLd ?_)); (fail_if_success (with_reducible refine qLk ?_)); (fail_if_success (with_reducible refine qCl ?_)); first | ((with_reducible refine qGd ?_); (with_reducible refine qSk ?_ ?_); focus rfl) | refine qVa (by rfl) (by intro _ _; go_simp; (try with_reducible rfl)) ?_)); (try simp only [Act.put, pS])))))
      (repeat' (first | ((with_reducible refine zG ?_); first | refine oWx ?_ | (refine oWs ?_; clear HO; intro _ HO)) | ((with_reducible refine to_load ?_); (first | first | refine oN0 HO rfl rfl HN ?_ | refine oNj HO rfl rfl HN rfl rfl ?_ | refine oY1 HO rfl rfl ?_ | refine oY3 HO rfl rfl ?_); (try simp only [Act.put, pS])) | go_values | go_skip | go_guarded | go_step | go_upon | (go_ite <;> go_prune <;> (try go_simp))))
      refine bp_tmp (t := 4) rfl rfl rfl ?_
      exact ⟨by simp, HO.out.kept, HO.out.st⟩
open Go.RowKit
def arrE (l : List Rf) : List (Rf × Value) := l.map fun v => (v, .int .i64 1)
theorem posK_arr (v : Rf) : ∀ (l : List Rf) (j : Nat), (posK v (arrE l) j).map (·.2) = if v ∈ l then some (.int .i64 1) else none
  | [], _ => rfl
  | x :: l, j => by
    unfold arrE
    rw [List.map_cons, posK]
    dsimp only
    by_cases h : x = v
    · rw [if_pos h, if_pos (by rw [h]; exact List.mem_cons_self)]; rfl
    · rw [if_neg h]
      have := posK_arr v l (j + 1)
      unfold arrE at this
      rw [this]
      by_cases hm : v ∈ l
      · rw [if_pos hm, if_pos (List.mem_cons_of_mem _ hm)]
      · rw [if_neg hm, if_neg (fun hc => by rcases List.mem_cons.1 hc with e | e; exact h e.symm; exact hm e)]
theorem look_arr (v : Rf) (l : List Rf) : lookK v (arrE l) = if v ∈ l then some (.int .i64 1) else none := posK_arr v l 0
theorem arr_ok {l : List Rf} : ∀ x ∈ arrE l, True := fun _ _ => trivial
section
variable {w0 w : World} {X : List Nat} {S : World → Prop} {bs : List Bx} {rs : List Rw} {F : List Cold} {a : Act} {o : Oper} {K : Act → World → Prop} {Q : Exit → Act → World → Prop}
theorem wo_run {v : Value} (HO : Hid (Own w0 X S bs rs F w)) (hr : ∀ w, Hid (Own w0 X S bs rs F w) → (execOp a.eval o).run Try.prog w = .ok (.value v) w) (h : K (a.put o.dst v) w) : WOp Try.prog o a w K Q := by
  unfold WOp Oper.wp
  rw [hr w HO]
  exact h
theorem arm_rdv {v : Value} {K : FuncId} {args : Array Value} {T : Ending → World → Prop} {xs : List Bx} {ms : List (Nat × List (Value × Value))} (HC : ∀ w, Hid (Own w0 X (SX xs ms X w0.heap.size) bs rs F w) → Calls Try.prog K args w (RdV X (SX xs ms X w.heap.size) v w)) (HO : Hid (Own w0 X (SX xs ms X w0.heap.size) bs rs F w))
    (h : ∀ W, Hid (Own w0 X (SX xs ms X w0.heap.size) bs rs F W) → T (.returned v) W) : Calls Try.prog K args w T := by
  refine (HC w HO).mono fun e W hp => ?_
  obtain ⟨rfl, hk, hs⟩ := hp
  exact h W (Lib.hid (HO.out.call (fun y hy => ⟨hy, HO.out.st.xl y hy⟩) hk (HO.out.st.base hs rfl rfl) SX.loc))
end
theorem rdv_at {w0 w : World} {xs : List Bx} {ms : List (Nat × List (Value × Value))} {X : List Nat} {bs : List Bx} {rs : List Rw} {F : List Cold} (HO : Hid (Own w0 X (SX xs ms X w0.heap.size) bs rs F w)) : SX xs ms X w.heap.size w :=
  ⟨HO.out.st.box, HO.out.st.map, HO.out.st.nd, fun b hb => ⟨Nat.lt_of_lt_of_le (HO.out.st.lt b hb).1 HO.out.kept.size, (HO.out.st.lt b hb).2⟩, fun y hy => Nat.lt_of_lt_of_le (HO.out.st.xl y hy) HO.out.kept.size⟩
set_option maxRecDepth 100000 in
set_option maxHeartbeats 3200000 in
theorem isArray_any {g nF cF nR cR cP mf mg ma mh : Nat} {AF AR AP : Option Addr} {vL vQ : Value} {xt : List Bx} {X : List Nat} {L : List (List Nat)} {arr : List Rf} {hl : List (Value × Value)} (v : Rf) (w : World) (hs : SX (⟨g, 68, [.slice AF nF cF, .slice AR nR cR, .map (some mf), .slice AP nF cP, .map (some mg), vL, .map (some ma), .map (some mh), vQ]⟩ :: xt) [(mg, encK strV (enumF L 0)), (ma, encK refV (arrE arr)), (mh, hl)] X w.heap.size w) :
    Calls Try.prog 40 #[.pointer (some ⟨g, 0, none⟩), .agg #[.int .i64 v.fn, .int .i64 (v.i : Int)]] w (RdV X (SX (⟨g, 68, [.slice AF nF cF, .slice AR nR cR, .map (some mf), .slice AP nF cP, .map (some mg), vL, .map (some ma), .map (some mh), vQ]⟩ :: xt) [(mg, encK strV (enumF L 0)), (ma, encK refV (arrE arr)), (mh, hl)] X w.heap.size) (.bool (decide (v ∈ arr))) w) := by
  have HO := hs.own
  clear hs
  have hlk := look_arr v arr
  by_cases hm : v ∈ arr
  case' pos => rw [if_pos hm] at hlk; rw [decide_eq_true hm]
  case' neg => rw [if_neg hm] at hlk; rw [decide_eq_false hm]
  all_goals
    go_enter Try.func40, Try.ntmps40
    (repeat' (first | ((with_reducible refine zG ?_); first | refine oWx ?_ | (refine oWs ?_; clear HO; intro _ HO)) | go_values | go_skip | go_guarded | go_step | go_upon | (go_ite <;> go_prune <;> (try go_simp))))
    (refine qBe HO (by kernel_rfl) ?_); (repeat' (first | ((with_reducible refine qNi ?_); (clear HO; intro _ HO)) | ((with_reducible refine qSt ?_); first | ((first | ((with_reducible refine qLd ?_); first | ((with_reducible refine qGd ?_); (with_reducible refine qSk ?_ ?_); focus rfl) | refine qL1 (by rfl) rfl rfl ?_ | refine qL3 (by rfl) rfl rfl ?_ | refine qY1 (by rfl) rfl rfl ?_) | ((with_reducible refine qLk ?_); first | ((with_reducible refine qGd ?_); (with_reducible refine qSk ?_ ?_); focus rfl) | refine qVa (by rfl) (rkx1 (k := v) keyRef Try.underlying63 zInt rfl rfl rfl arr_ok trivial hlk) ?_ | refine qVa (by rfl) (rkx2 (k := v) keyRef Try.underlying63 zInt rfl rfl rfl arr_ok trivial hlk) ?_) | ((with_reducible refine qFd ?_); first | ((with_reducible refine qGd ?_); (with_reducible refine qSk ?_ ?_); focus rfl) | refine qVa (by rfl) (rFi rfl rfl ⟨_, _, _, _, _, _, _, rfl, rfl, inferInstance⟩) ?_) | ((with_reducible refine qCl ?_); first | ((with_reducible refine qGd ?_); (with_reducible refine qSk ?_ ?_); focus rfl)) | ((fail_if_success (with_reducible refine qLd ?_)); (fail_if_success (with_reducible refine qLk ?_)); (fail_if_success (with_reducible refine qCl ?_)); first | ((with_reducible refine qGd ?_); (with_reducible refine qSk ?_ ?_); focus rfl) | refine qVa (by rfl) (by intro _ _; go_simp; (try with_reducible rfl)) ?_)); (try simp only [Act.put, pS])))))
    (repeat' (first | ((with_reducible refine zG ?_); first | refine oWx ?_ | (refine oWs ?_; clear HO; intro _ HO)) | go_values | go_skip | go_guarded | go_step | go_upon | (go_ite <;> go_prune <;> (try go_simp))))
    refine bp_tmp (t := 4) rfl rfl rfl ?_
    exact ⟨rfl, HO.out.kept, HO.out.st⟩
set_option maxRecDepth 100000 in
set_option maxHeartbeats 3200000 in
theorem functionR_any {g nF cF nR cR cP mf mg ma mh : Nat} {AF AR AP : Option Addr} {vL vQ : Value} {xt : List Bx} {ms : List (Nat × List (Value × Value))} {X : List Nat} {t : TreeT} {p : Pl} {v : Value} (w : World) (hs : SX (⟨g, 68, [.slice AF nF cF, .slice AR nR cR, .map (some mf), .slice AP nF cP, .map (some mg), vL, .map (some ma), .map (some mh), vQ]⟩ :: xt) ms X w.heap.size w) (hp : PlAt w (Eld w X) p v) (hf : FmAt w (Eld w X) mf t) (hby : byteOk p.n.s) :
    Calls Try.prog 18 #[.pointer (some ⟨g, 0, none⟩), v] w (RdV X (SX (⟨g, 68, [.slice AF nF cF, .slice AR nR cR, .map (some mf), .slice AP nF cP, .map (some mg), vL, .map (some ma), .map (some mh), vQ]⟩ :: xt) ms X w.heap.size) (.bool (functionB t p)) w) := by
  have HO := hs.own
  obtain ⟨b, o, A, c, u, rfl, hn, hu⟩ := hp
  have HN := Lib.hid hn
  have HM := Lib.hid hf
  have HB := Lib.hid hby
  clear hs hn hu hf hby
  have hlk := HM.out.look p.n.s
  unfold functionB
  cases hfn : fnOf t p.n.s
  case' none => rw [hfn] at hlk; replace hlk : lookK p.n.s (enumF (t.funcs.map (·.name)) 0) = none := hlk
  case' some j => rw [hfn] at hlk; replace hlk : lookK p.n.s (enumF (t.funcs.map (·.name)) 0) = some (.int .i64 (j : Int)) := hlk
  all_goals
    cases hk : namedB p.n
    all_goals
      go_enter Try.func18, Try.ntmps18
      (repeat' (first | ((with_reducible refine zG ?_); first | refine oWx ?_ | (refine oWs ?_; clear HO; intro _ HO)) | go_values | go_skip | go_guarded | go_step | go_upon | (go_ite <;> go_prune <;> (try go_simp))))
      (refine qBe HO (by kernel_rfl) ?_); (repeat' (first | ((with_reducible refine qNi ?_); (clear HO; intro _ HO)) | ((with_reducible refine qSt ?_); first | ((first | ((with_reducible refine qLd ?_); first | ((with_reducible refine qGd ?_); (with_reducible refine qSk ?_ ?_); focus rfl) | refine qL1 (by rfl) rfl rfl ?_ | refine qL3 (by rfl) rfl rfl ?_ | refine qY1 (by rfl) rfl rfl ?_ | refine qN0 HN (by rfl) rfl rfl ?_ | refine qNj HN (by rfl) rfl rfl rfl rfl ?_) | ((with_reducible refine qLk ?_); first | ((with_reducible refine qGd ?_); (with_reducible refine qSk ?_ ?_); focus rfl) | refine qVa (by rfl) (rke1 keyStr Try.underlying62 zInt rfl rfl rfl HM.out.hb HM.out.ok HB.out hlk) ?_ | refine qVa (by rfl) (rke2 keyStr Try.underlying62 zInt rfl rfl rfl HM.out.hb HM.out.ok HB.out hlk) ?_) | ((with_reducible refine qFd ?_); first | ((with_reducible refine qGd ?_); (with_reducible refine qSk ?_ ?_); focus rfl) | refine qVa (by rfl) (rFi rfl rfl ⟨_, _, _, _, _, _, _, rfl, rfl, inferInstance⟩) ?_) | ((with_reducible refine qCl ?_); first | ((with_reducible refine qGd ?_); (with_reducible refine qSk ?_ ?_); focus rfl)) | ((fail_if_success (with_reducible refine qLd ?_)); (fail_if_success (with_reducible refine qLk ?_)); (fail_if_success (with_reducible refine qCl ?_)); first | ((with_reducible refine qGd ?_); (with_reducible refine qSk ?_ ?_); focus rfl) | refine qVa (by rfl) (by intro _ _; go_simp; (try with_reducible rfl)) ?_)); (try simp only [Act.put, pS])))))
      (repeat' (first | ((with_reducible refine zG ?_); first | refine oWx ?_ | (refine oWs ?_; clear HO; intro _ HO)) | ((with_reducible refine to_load ?_); (first | first | refine oN0 HO rfl rfl HN ?_ | refine oNj HO rfl rfl HN rfl rfl ?_ | refine oY1 HO rfl rfl ?_ | refine oY3 HO rfl rfl ?_); (try simp only [Act.put, pS])) | ((go_big_may; first | (go_at_call 35; refine (named_any _ (HN.out.st (HO.out.eld (fun _ h => by cases h)))).mono ?_; rintro e W ⟨rfl, q⟩; replace HO := Lib.hid (HO.out.next q); clear q; rw [hk])) <;> (try dsimp only)) | go_values | go_skip | go_guarded | go_step | go_upon | (go_ite <;> go_prune <;> (try go_simp))))
      refine bp_tmp (t := 4) rfl rfl rfl ?_
      exact ⟨by simp, HO.out.kept, HO.out.st⟩
open Go.RowKit
structure PmAt (w : World) (P : Nat → Prop) (AP : Option Addr) (nF : Nat) (t : TreeT) : Prop where
  n : nF = t.funcs.length
  get : ∀ (i : Nat) (f : FuncT), t.funcs[i]? = some f → ∃ b m, AP = some ⟨b, 0, none⟩ ∧ P b ∧ w.cell? ⟨b, i, none⟩ = some (.map (some m)) ∧ (P m ∧ w.heap[m]? = some (mapO (encK strV (enumF f.params 0)))) ∧ (∀ x ∈ enumF f.params 0, byteOk x.1)
set_option maxRecDepth 100000 in
set_option maxHeartbeats 3200000 in
theorem ref_any {g nF cF nR cR cP mf mg ma mh : Nat} {AF AR AP : Option Addr} {vL vQ : Value} {xt : List Bx} {X : List Nat} {L : List (List Nat)} {arr : List Rf} {hl : List (Value × Value)} {t : TreeT} (fn : Int) (hfn : fn < (t.funcs.length : Int)) (hf1 : -1 ≤ fn) (hn2 : nF ≤ 1000000) (s : List Nat) (hby : byteOk s) (hLo : ∀ x ∈ enumF L 0, byteOk x.1) (w : World) (hs : SX (⟨g, 68, [.slice AF nF cF, .slice AR nR cR, .map (some mf), .slice AP nF cP, .map (some mg), vL, .map (some ma), .map (some mh), vQ]⟩ :: xt) [(mg, encK strV (enumF L 0)), (ma, encK refV (arrE arr)), (mh, hl)] X w.heap.size w) (hp : PmAt w (Eld w X) AP nF t) :
    Calls Try.prog 38 #[.pointer (some ⟨g, 0, none⟩), .int .i64 fn, .string (strN s)] w (RdV X (SX (⟨g, 68, [.slice AF nF cF, .slice AR nR cR, .map (some mf), .slice AP nF cP, .map (some mg), vL, .map (some ma), .map (some mh), vQ]⟩ :: xt) [(mg, encK strV (enumF L 0)), (ma, encK refV (arrE arr)), (mh, hl)] X w.heap.size) (.agg #[.int .i64 (refS t L fn s).fn, .int .i64 ((refS t L fn s).i : Int)]) w) := by
  have HO := hs.own
  have HB := Lib.hid hby
  have HL := Lib.hid hLo
  clear hs hby hLo
  have hlg : (lookK s (enumF L 0)).getD (.int .i64 0) = .int .i64 (((posF s L 0).getD 0 : Nat) : Int) := by
    rw [look_enum]
    cases posF s L 0 <;> rfl
  by_cases h0 : 0 ≤ fn
  · obtain ⟨j, rfl⟩ : ∃ j : Nat, fn = (j : Int) := ⟨fn.toNat, by omega⟩
    have hjl : j < t.funcs.length := by omega
    obtain ⟨b, m, rfl, hb, hc, hm, hok⟩ := hp.get j _ (List.getElem?_eq_getElem hjl)
    have hjn : (j : Int) < (nF : Int) := by have := hp.n; omega
    have hlk := look_enum s (t.funcs[j]).params 0
    have hps : parsOf t j = (t.funcs[j]).params := by unfold parsOf; rw [List.getElem?_eq_getElem hjl]
    generalize (t.funcs[j]).params = ps at hm hok hlk hps
    have HBk := Lib.hid hb
    have HMk := Lib.hid hm
    have HOk := Lib.hid hok
    clear hp hb hm hok hjl hfn hf1
    cases hpos : posF s ps 0
    · rw [hpos] at hlk
      replace hlk : lookK s (enumF ps 0) = none := hlk
      have hr : refS t L (j : Int) s = ⟨-1, (posF s L 0).getD 0⟩ := by unfold refS; rw [if_pos h0, Int.toNat_natCast, hps, hpos]
      rw [hr]
      clear hr hps hpos
      generalize (posF s L 0).getD 0 = q at hlg ⊢
      go_enter Try.func38, Try.ntmps38
      (repeat' (first | ((with_reducible refine zG ?_); first | refine oWx ?_ | (refine oWs ?_; clear HO; intro _ HO)) | ((with_reducible refine to_load ?_); (first | first | refine oY1 HO rfl rfl ?_ | refine wo_run HO (re1 rfl rfl HBk.out hc) ?_); (try simp only [Act.put, pS])) | ((with_reducible refine to_lookup ?_); (first | refine wo_run HO (rke2 keyStr Try.underlying62 zInt rfl rfl rfl HMk.out HOk.out HB.out hlk) ?_ | refine wo_run HO (rkx3 keyStr Try.underlying62 zInt rfl rfl rfl HL.out HB.out hlg) ?_); (try simp only [Act.put, pS])) | go_values | go_skip | go_guarded | go_step | go_upon | (go_ite <;> go_prune <;> (try go_simp))))
      refine oBc HO (t := 6) (ty := 107) rfl rfl rfl ?_
      exact ⟨rfl, HO.out.kept, HO.out.st⟩
    · rename_i i
      rw [hpos] at hlk
      replace hlk : lookK s (enumF ps 0) = some (.int .i64 (i : Int)) := hlk
      have hr : refS t L (j : Int) s = ⟨(j : Int), i⟩ := by unfold refS; rw [if_pos h0, Int.toNat_natCast, hps, hpos]
      rw [hr]
      clear hr hps hpos
      go_enter Try.func38, Try.ntmps38
      (repeat' (first | ((with_reducible refine zG ?_); first | refine oWx ?_ | (refine oWs ?_; clear HO; intro _ HO)) | ((with_reducible refine to_load ?_); (first | first | refine oY1 HO rfl rfl ?_ | refine wo_run HO (re1 rfl rfl HBk.out hc) ?_); (try simp only [Act.put, pS])) | ((with_reducible refine to_lookup ?_); (first | refine wo_run HO (rke1 keyStr Try.underlying62 zInt rfl rfl rfl HMk.out HOk.out HB.out hlk) ?_ | refine wo_run HO (rkx3 keyStr Try.underlying62 zInt rfl rfl rfl HL.out HB.out hlg) ?_); (try simp only [Act.put, pS])) | go_values | go_skip | go_guarded | go_step | go_upon | (go_ite <;> go_prune <;> (try go_simp))))
      refine oBc HO (t := 6) (ty := 107) rfl rfl rfl ?_
      exact ⟨rfl, HO.out.kept, HO.out.st⟩
  · have hr : refS t L fn s = ⟨-1, (posF s L 0).getD 0⟩ := by unfold refS; rw [if_neg h0]
    rw [hr]
    clear hr hp hfn
    generalize (posF s L 0).getD 0 = q at hlg ⊢
    go_enter Try.func38, Try.ntmps38
    (repeat' (first | ((with_reducible refine zG ?_); first | refine oWx ?_ | (refine oWs ?_; clear HO; intro _ HO)) | ((with_reducible refine to_load ?_); (first | first | refine oY1 HO rfl rfl ?_); (try simp only [Act.put, pS])) | ((with_reducible refine to_lookup ?_); (refine wo_run HO (rkx3 keyStr Try.underlying62 zInt rfl rfl rfl HL.out HB.out hlg) ?_); (try simp only [Act.put, pS])) | go_values | go_skip | go_guarded | go_step | go_upon | (go_ite <;> go_prune <;> (try go_simp))))
    refine oBc HO (t := 6) (ty := 107) rfl rfl rfl ?_
    exact ⟨rfl, HO.out.kept, HO.out.st⟩
end Go.Proofs.Ythipoccbeloceaa
