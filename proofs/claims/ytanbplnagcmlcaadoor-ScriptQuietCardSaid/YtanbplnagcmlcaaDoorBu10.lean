/- Several texts put together: FrameH, RegH, RngG. -/
import Derived.Test.YtanbplnagcmlcaaDoorBu3
import Derived.Test.YtanbplnagcmlcaaDoorBu9
import Derived.Test.YtanbplnagcmlcaaDoorBu1
import Derived.Deep.RegionHeld3
import Derived.Test.YtanbplnagcmlcaaDoorBu8
/- How a slice of events that came in as an argument is opened. -/
namespace Go.Proofs.YtanbplnagcmlcaaDoor
open Go.ChangeShapes Go.WideShapes Go.ChangeAt Go.RowKit Go.Joins Go.Deep
/-- A slice of n elements of k cells each, that read as xs, below block B. -/
def SlE (w : World) (B k : Nat) (v : Value) (n : Nat) (xs : List Value) : Prop :=
  ∃ (A : Option Addr) (c : Nat), v = .slice A n c ∧ n ≤ c ∧ c ≤ maxLen ∧ (A = none → n = 0 ∧ c = 0) ∧ Reads w B k A n xs
theorem SlE.nil {w : World} {B k : Nat} : SlE w B k (.slice none 0 0) 0 [] := ⟨none, 0, rfl, by omega, by omega, fun _ => ⟨rfl, rfl⟩, by simp [Reads]⟩
section
variable {H : Type} {enc : TypeId × Value → H} {P : Program} {w : World} {base : Nat} {spare : Nat → Bool} {held : Bool}
theorem cellsGetE {a : Addr} {k : Nat} {cs : List Value} (h : w.cells? base a k = some cs) : cs.length = k ∧ ∀ j u, cs[j]? = some u → w.cell? (a.add j) = some u := by
  unfold World.cells? at h
  split at h
  · refine ⟨by simpa using mapM_some_length h, fun j u hu => ?_⟩
    have hj : j < k := by
      have := mapM_some_length h
      have h2 := (List.getElem?_eq_some_iff.1 hu).1
      simp at this; omega
    have := mapM_some_get h j j (by simp [hj])
    rw [this]; exact hu
  · cases h
theorem pickListE {α : Type} (Q : Nat → α → Prop) : ∀ (n : Nat), (∀ i, i < n → ∃ y, Q i y) → ∃ ys : List α, ys.length = n ∧ ∀ i y, ys[i]? = some y → Q i y
  | 0, _ => ⟨[], rfl, fun i y h => by simp at h⟩
  | n + 1, h => by
    obtain ⟨ys, hl, hy⟩ := pickListE Q n (fun i hi => h i (by omega))
    obtain ⟨y, hq⟩ := h n (by omega)
    refine ⟨ys ++ [y], by simp [hl], fun i z hz => ?_⟩
    rcases Nat.lt_or_ge i ys.length with hi | hi
    · rw [List.getElem?_append_left hi] at hz; exact hy i z hz
    · rw [List.getElem?_append_right hi] at hz
      have : i - ys.length = 0 := by
        have := (List.getElem?_eq_some_iff.1 hz).1
        simp at this; omega
      rw [this] at hz
      simp at hz
      subst hz
      have : i = n := by omega
      subst this
      exact hq
theorem sliceFormE {α : Type} {k : Nat} (hk : 0 < k) (f : α → List Value) (hf : ∀ y, (f y).length = k) (good : α → Prop) {t e : TypeId} (ht : P.underlying t = some (.slice e)) (hc : P.cellsOf e = k)
    (hel : ∀ n cs x, DataW.trod enc P w base spare held n e cs = some x → ∃ y : α, cs = f y ∧ good y) {fuel : Nat} {cs : List Value} {x : DataW H × List MemPlace} (h : DataW.trod enc P w base spare held fuel t cs = some x) :
    ∃ (v : Value) (ys : List α), cs = [v] ∧ SlE w w.heap.size k v ys.length (ys.flatMap f) ∧ ∀ y ∈ ys, good y := by
  rcases DataW.trod_slice ht h with ⟨hcs, _⟩ | ⟨a, len, cap, elems, rest, n, _, hcs, _, _, hl, hm, hlen, hE, _⟩
  · exact ⟨_, [], hcs, SlE.nil, fun y hy => by cases hy⟩
  · rw [hc] at hE
    obtain ⟨ys, hyl, hy⟩ := pickListE (fun i y => w.cells? base (a.add (i * k)) k = some (f y) ∧ good y) len (fun i hi => by
      have h1 := hE i hi
      rw [List.getElem?_eq_getElem (by omega)] at h1
      rw [Option.bind_eq_some_iff] at h1
      obtain ⟨c1, hc1, h2⟩ := h1
      obtain ⟨y, rfl, hg⟩ := hel _ _ _ h2
      exact ⟨y, hc1, hg⟩)
    have hcell : ∀ i (hi : i < ys.length) j u, (f ys[i])[j]? = some u → w.cell? (a.add (i * k + j)) = some u := by
      intro i hi j u hu
      have := (cellsGetE (hy i ys[i] (List.getElem?_eq_getElem hi)).1).2 j u hu
      rw [add_of_add] at this
      exact this
    refine ⟨_, ys, hcs, ⟨some a, cap, by rw [hyl], by omega, hm, (fun e => by cases e), ?_, ?_⟩, fun y hy' => ?_⟩
    · rw [flatLen f k hf, hyl]
    · intro h0
      have hk0 : 0 < (f ys[0]).length := by rw [hf]; exact hk
      refine ⟨a, rfl, ?_, ?_⟩
      · have := World.block_lt_of_cell? w _ (hcell 0 h0 0 _ (List.getElem?_eq_getElem hk0))
        rw [block_of_add] at this; exact this
      · intro j u hu
        have hj : j < ys.length * k := by
          have := (List.getElem?_eq_some_iff.1 hu).1
          rw [flatLen f k hf] at this; exact this
        have hi : j / k < ys.length := (Nat.div_lt_iff_lt_mul hk).2 hj
        have hjk := Nat.div_add_mod' j k
        have := hcell (j / k) hi (j % k) u (by
          rw [← flatAt f k hf ys (j / k) (j % k) hi (Nat.mod_lt _ hk), hjk]; exact hu)
        rw [hjk] at this
        exact this
    · obtain ⟨i, hi, rfl⟩ := List.getElem_of_mem hy'
      exact (hy i _ (List.getElem?_eq_getElem hi)).2
end

theorem cellsEvent : Tryd.prog.cellsOf 29 = 4 := by kernel_rfl
theorem cellsByteE : Tryd.prog.cellsOf 5 = 1 := by kernel_rfl
theorem cellsBytesE : Tryd.prog.cellsOf 27 = 1 := by kernel_rfl
theorem cellsIntE : Tryd.prog.cellsOf 3 = 1 := by kernel_rfl
section
variable {H : Type} {enc : TypeId × Value → H} {w : World} {base : Nat} {spare : Nat → Bool} {held : Bool}
theorem intOneE {n : Nat} {cs : List Value} {x : DataW H × List MemPlace} (h : DataW.trod enc Tryd.prog w base spare held n 3 cs = some x) : ∃ i : Int, cs = [.int .i64 i] ∧ I64s i := by
  obtain ⟨k, e, _, wk⟩ := DataW.trod_int Tryd.underlying3 h
  exact ⟨k, e, int64_range wk⟩
theorem flatByE (l : List Nat) : l.flatMap (fun y : Nat => [Value.int .u8 (y : Int)]) = l.map fun y : Nat => Value.int .u8 (y : Int) := by
  induction l with
  | nil => rfl
  | cons x l ih => rw [List.flatMap_cons, ih]; rfl
theorem bytesFormE {n : Nat} {cs : List Value} {x : DataW H × List MemPlace} (h : DataW.trod enc Tryd.prog w base spare held n 27 cs = some x) :
    ∃ (A : Option Addr) (c : Nat) (l : List Nat), cs = [.slice A l.length c] ∧ RB w w.heap.size A l ∧ l.length ≤ c ∧ l.length ≤ maxLen ∧ (A = none → l = []) := by
  obtain ⟨v, ys, e, hs, hg⟩ := sliceFormE (P := Tryd.prog) (k := 1) (by omega) (fun i : Nat => [.int .u8 (i : Int)]) (fun _ => rfl) (fun i => i < 256) Tryd.underlying27 cellsByteE (fun n cs x hx => by
    obtain ⟨k, e, _, wk⟩ := DataW.trod_int Tryd.underlying5 hx
    have hk := byte_range wk
    refine ⟨k.toNat, ?_, by omega⟩
    rw [Int.toNat_of_nonneg hk.1]
    exact e) h
  obtain ⟨A, c, rfl, h1, h2, h3, h4⟩ := hs
  rw [flatByE] at h4
  refine ⟨A, c, ys, e, ⟨hg, fun hp => ?_⟩, h1, by omega, fun ha => List.length_eq_zero_iff.1 (h3 ha).1⟩
  obtain ⟨ad, ea, hb, hc⟩ := h4.2 hp
  exact ⟨ad, ea, hb, fun j hj => hc j _ (by simp [hj])⟩
set_option maxRecDepth 100000 in
/-- A slice of events. -/
theorem events_form {r : Reach} {b0 : Nat} {v : Value} {d : DataW H} {p : List MemPlace} (hv : Value.okWide Tryd.prog w r b0 35 v) (h0 : DataW.Trod enc Tryd.prog w base spare held 35 v d p) :
    ∃ (rs : List RawE) (A : Option Addr) (c : Nat), v = .slice A rs.length c ∧ Reads w w.heap.size 4 A rs.length (rs.flatMap rawC) ∧ (∀ r ∈ rs, r.ok w w.heap.size) ∧ rs.length ≤ c := by
  obtain ⟨a1, len, cap, rfl⟩ := okWide_slice Tryd.underlying35 hv
  obtain ⟨fuel, h⟩ := h0
  obtain ⟨v', ys, e, hs, hg⟩ := sliceFormE (P := Tryd.prog) (k := 4) (by omega) rawC (fun _ => rfl) (fun r => r.ok w w.heap.size) Tryd.underlying35 cellsEvent (fun n cs x hx => by
    obtain ⟨xs, m, _, _, hl, hlen, hf⟩ := DataW.trod_struct Tryd.underlying29 hx
    rw [cellsEvent] at hl
    match cs, hl, xs, hlen with
    | [c0, c1, c2, c3], _, [y0, y1, y2, y3], _ =>
      have g0 : DataW.trod enc Tryd.prog w base spare held m 3 [c0] = some y0 := by simpa [cellsIntE] using hf 0 _ rfl
      have g1 : DataW.trod enc Tryd.prog w base spare held m 3 [c1] = some y1 := by simpa [cellsIntE] using hf 1 _ rfl
      have g2 : DataW.trod enc Tryd.prog w base spare held m 3 [c2] = some y2 := by simpa [cellsIntE] using hf 2 _ rfl
      have g3 : DataW.trod enc Tryd.prog w base spare held m 27 [c3] = some y3 := by simpa [cellsBytesE] using hf 3 _ rfl
      obtain ⟨i0, e0, w0⟩ := intOneE g0
      obtain ⟨i1, e1, w1⟩ := intOneE g1
      obtain ⟨i2, e2, w2⟩ := intOneE g2
      obtain ⟨A, c, l, e3, hr, hc, hm, hn⟩ := bytesFormE g3
      simp at e0 e1 e2 e3
      subst e0 e1 e2 e3
      exact ⟨⟨i0, i1, i2, A, c, l⟩, rfl, w0, w1, w2, hr, hc, hm, hn⟩) h
  obtain ⟨A, c, rfl, h1, h2, h3, h4⟩ := hs
  simp [Value.cells] at e
  obtain ⟨rfl, rfl, rfl⟩ := e
  exact ⟨ys, _, _, rfl, h4, hg, h1⟩
end
end Go.Proofs.YtanbplnagcmlcaaDoor

/- The moves of a walk through a region that draws its order, the operations by their literal text. -/
namespace Go.Proofs.YtanbplnagcmlcaaDoor
section
variable {P : Program} {ops : Array Oper} {Q : Exit → Act → World → Prop} {md : Region.Mode} {S : World → Prop}
theorem lit_at {i : Nat} {oi : Oper} (h : (ops.toList.drop i).head? = some oi) : ops[i]? = some oi := by
  rw [List.head?_drop] at h
  simpa using h
theorem h4_take {i : Nat} {oi : Oper} {v : Value} {fuel : Nat} {listed : Array Bool} {a : Act} {w : World} (hi : (ops.toList.drop i).head? = some oi)
    (hs : Region.noSelect ops = true) (hf : Region.free md ops listed i = true) (hr : (Region.ready md ops listed).contains i = true)
    (hQ : ∀ c a w, Q (.panic c) (a.put oi.dst v) w → Q (.panic c) a w) (hw : Region.wanted oi (yielded ops a.tmps) = true) (hy : ∀ w, S w → (execOp a.eval oi).run P w = .ok (.value v) w) (hS : S w)
    (h : wpAnyH P md ops Q S fuel (listed.setIfInBounds i true) (a.put oi.dst v) w) : wpAnyH P md ops Q S (fuel + 1) listed a w :=
  wpAnyH_take (lit_at hi) hs hf hr hQ (.inl ⟨hw, hy⟩) hS h
theorem h4_skip {i : Nat} {oi : Oper} {fuel : Nat} {listed : Array Bool} {a : Act} {w : World} (hi : (ops.toList.drop i).head? = some oi)
    (hs : Region.noSelect ops = true) (hf : Region.free md ops listed i = true) (hr : (Region.ready md ops listed).contains i = true)
    (hQ : ∀ c a w, Q (.panic c) (a.put oi.dst undef) w → Q (.panic c) a w) (hw : Region.wanted oi (yielded ops a.tmps) = false) (hS : S w)
    (h : wpAnyH P md ops Q S fuel (listed.setIfInBounds i true) (a.put oi.dst undef) w) : wpAnyH P md ops Q S (fuel + 1) listed a w :=
  wpAnyH_take (lit_at hi) hs hf hr hQ (.inr ⟨hw, rfl⟩) hS h
theorem h4_cons {fuel : Nat} {listed : Array Bool} {a : Act} {w : World} {i : Nat} {o : Oper} {rs : List Nat} (ho : (ops.toList.drop i).head? = some o)
    (h : ∀ K' : Act → World → Prop, Shut (∀ a w, S w → (S w → wpAnyH P md ops Q S fuel (listed.setIfInBounds i true) a w) → K' a w) → if Region.wanted o (yielded ops a.tmps) = true then Oper.wp P o a w K' Q else K' (a.put o.dst undef) w)
    (hs : AllReadyH P md ops Q S fuel listed a w rs) : AllReadyH P md ops Q S fuel listed a w (i :: rs) :=
  AllReadyH.cons (lit_at ho) h hs
end
end Go.Proofs.YtanbplnagcmlcaaDoor

/- fieldfarelaw24.ScriptBack: the walk. -/
namespace Go.Proofs.YtanbplnagcmlcaaDoor
open Go.RowKit
def itB (r : RawE) : List Item := [.ev r.ev, .skip [35, 32, 109, 111, 114, 101], .skip []]
def txtB (l : List RawE) : List Nat := joinT (textI (l.flatMap itB))
theorem txtB_snoc (l : List RawE) (r : RawE) : txtB (l ++ [r]) = txtB l ++ (lineL r.ev ++ [10, 35, 32, 109, 111, 114, 101, 10, 10]) := by
  unfold txtB joinT textI
  rw [List.flatMap_append, List.map_append, List.flatMap_append]
  simp [itB, Item.line]
def GoodL (w : World) (l : List RawE) : Prop := ∀ r ∈ l, r.good ∧ r.bs.length ≤ 60 ∧ r.ok w w.heap.size
theorem txtB_len {w : World} : ∀ (l : List RawE), GoodL w l → (txtB l).length ≤ 320 * l.length
  | [], _ => by simp [txtB, joinT, textI]
  | r :: l, h => by
    have h0 := h r (List.mem_cons_self ..)
    have h1 := txtB_len l fun x hx => h x (List.mem_cons_of_mem _ hx)
    have h2 := line_len r.ev (h0.1.ev h0.2.2).1 h0.2.1
    have e : txtB (r :: l) = (lineL r.ev ++ [10, 35, 32, 109, 111, 114, 101, 10, 10]) ++ txtB l := by
      unfold txtB joinT textI
      rw [List.flatMap_cons, List.map_append, List.flatMap_append]
      simp [itB, Item.line]
    rw [e]
    simp
    omega
theorem itB_ok {w : World} (l : List RawE) (h : GoodL w l) (hl : l.length ≤ 20) : ItemsOk (l.flatMap itB) := by
  refine ⟨fun x hx => ?_, ?_, ?_⟩
  · obtain ⟨r, hr, hx⟩ := List.mem_flatMap.1 hx
    have h0 := h r hr
    simp only [itB, List.mem_cons, List.not_mem_nil, or_false] at hx
    rcases hx with rfl | rfl | rfl
    · exact ⟨(h0.1.ev h0.2.2).1, h0.2.1⟩
    · exact ⟨by decide, by decide, .inr rfl⟩
    · exact ⟨by decide, by decide, .inl rfl⟩
  · have : ∀ l : List RawE, (l.flatMap itB).length = 3 * l.length := fun l => by
      induction l with
      | nil => rfl
      | cons x l ih => rw [List.flatMap_cons, List.length_append, ih]; simp [itB]; omega
    rw [this]; omega
  · have := txtB_len l h
    unfold txtB at this
    omega
theorem itB_evs : ∀ l : List RawE, evsI (l.flatMap itB) = l.map RawE.ev
  | [] => rfl
  | r :: l => by rw [List.flatMap_cons, evsI_app, itB_evs l]; rfl
theorem itB_nobad (l : List RawE) (k : Nat) : (l.flatMap itB)[k]? ≠ some .bad := by
  intro h
  have := List.mem_of_getElem? h
  obtain ⟨r, _, hx⟩ := List.mem_flatMap.1 this
  simp [itB] at hx
set_option maxRecDepth 100000 in
set_option maxHeartbeats 3200000 in
theorem back_law (rs : List RawE) (A : Option Addr) (cap : Nat) (w : World) (hr : Reads w w.heap.size 4 A rs.length (rs.flatMap rawC)) (hg : ∀ r ∈ rs, r.ok w w.heap.size) (hcap : rs.length ≤ cap) (hT : TabOk w) :
    Calls Tryd.prog 4 #[.slice A rs.length cap] w fun e w' => e = .returned (.bool true) ∧ Below w.heap.size w w' := by
  have HT := Lib.hid hT
  have HR := Lib.hid hr
  have HG := Lib.hid hg
  clear hT hr hg
  by_cases h20 : 20 < rs.length
  · have d20 : decide (20 < (rs.length : Int)) = true := by simp; omega
    clear h20
    go_enter Tryd.func4, Tryd.ntmps4
    go_wp2_with (first
      | (go_at_call 6; (with_reducible refine (awake24_any w HT.out).mono ?_); rintro e w1 ⟨rfl, b1⟩; have HB1 := Lib.hid b1; clear b1)
      | fail)
    go_ret
    exact ⟨rfl, HB1.out⟩
  · have d20 : decide (20 < (rs.length : Int)) = false := by simp; omega
    have h20' : rs.length ≤ 20 := by omega
    clear h20
    go_enter Tryd.func4, Tryd.ntmps4
    go_wp2_with (first
      | (go_at_call 6; (with_reducible refine (awake24_any w HT.out).mono ?_); rintro e w1 ⟨rfl, b1⟩; have HB1 := Lib.hid b1; clear b1)
      | fail)
    go_loopw [3, 4] (fun s i wr => ∃ j : Nat, s = .string (strN (txtB (rs.take j))) ∧ i = .int .i64 (j : Int) ∧ j ≤ rs.length ∧ Hid (GoodL w (rs.take j)) ∧ Hid (Below w.heap.size w wr)) (fun _ i _ => rs.length - (intOf i).toNat)
    case atStart => exact ⟨0, rfl, rfl, Nat.zero_le _, Lib.hid (fun r hr => by simp at hr), HB1⟩
    case round =>
      obtain ⟨j, rfl, rfl, hj, HGr, HBr⟩ := hrel
      have hzr := HBr.out.size
      by_cases hlt : j < rs.length
      · obtain ⟨ad, sb, qo, sp, eA, hq, h4⟩ := raw_at HR.out hlt
        have hok := HG.out _ (List.getElem_mem hlt)
        have htk : rs.take (j + 1) = rs.take j ++ [rs[j]] := by rw [List.take_add_one, List.getElem?_eq_getElem hlt]; rfl
        have htl : (rs.take j).length = j := by rw [List.length_take]; omega
        have hts := txtB_snoc (rs.take j) rs[j]
        rw [← htk] at hts
        have hgd : ∀ h : rs[j].good ∧ rs[j].bs.length ≤ 60, GoodL w (rs.take (j + 1)) := fun h r hr => by
          rw [htk] at hr
          rcases List.mem_append.1 hr with hr | hr
          · exact HGr.out r hr
          · obtain rfl : r = rs[j] := by simpa using hr
            exact ⟨h.1, h.2, hok⟩
        have htz := txtB_len _ HGr.out
        rw [htl] at htz
        have hSz : (strN (txtB (rs.take j))).size ≤ 6400 := by rw [strN_size]; omega
        generalize rs[j] = r at h4 hok hts hgd
        have H4 := Lib.hid h4
        have hc := h4.below HBr.out
        obtain ⟨hz4, c0, c1, c2, c3⟩ := hc
        have hok' := hok.below HBr.out
        have HOK := Lib.hid hok
        subst eA
        clear h4 hok htk htz htl
        have HTS := Lib.hid hts
        have HGD := Lib.hid hgd
        clear hts hgd
        by_cases h60 : 60 < r.bs.length
        · have d60 : decide (60 < (r.bs.length : Int)) = true := by simp; omega
          clear h60 hok'
          go_wp2_with fail
          (try simp only [Exit.inBlock, Exit.then]); refine bodyPost_ret (by simp [results, Tryd.results4, go_sem, *]; try rfl) rfl ?_
          exact ⟨rfl, HBr.out⟩
        · have d60 : decide (60 < (r.bs.length : Int)) = false := by simp; omega
          have h60' : r.bs.length ≤ 60 := by omega
          clear h60
          by_cases hgood : r.good
          · obtain ⟨hev, e1, e2, e3⟩ := hgood.ev hok'
            have hok := HOK.out
            have hl : ∀ W, TabOk W → Below w.heap.size w W → Calls Tryd.prog 7 #[.agg #[.int .i64 r.k, .int .i64 r.c, .int .i64 r.n, .slice r.A r.bs.length r.cap]] W fun x w' => x = .returned (.tuple #[.string (strN (lineL r.ev)), .nilIface]) ∧ Below W.heap.size W w' := fun W h q => by
              have := line_ok r.ev hev r.A r.cap hok.cap W h q.size (hok.rb.below q)
              rw [e1, e2, e3] at this
              exact this
            have hrd : ∀ W, Calls Tryd.prog 9 #[.string (strN (lineL r.ev))] W fun x w' => (∃ v, x = .returned (.tuple #[.agg #[.int .i64 r.k, .int .i64 r.c, .int .i64 r.n, v], .nilIface]) ∧ OB w' W.heap.size v r.bs) ∧ Below W.heap.size W w' := fun W => by
              have := read_ok r.ev hev W
              rw [e1, e2, e3] at this
              exact this
            have hsm : ∀ W V A1 c1, RB V V.heap.size A1 r.bs → (A1 = none → r.bs = [] ∧ c1 = 0) → Below w.heap.size w V → Below V.heap.size V W → Calls Tryd.prog 11 #[.agg #[.int .i64 r.k, .int .i64 r.c, .int .i64 r.n, .slice A1 r.bs.length c1], .agg #[.int .i64 r.k, .int .i64 r.c, .int .i64 r.n, .slice r.A r.bs.length r.cap]] W fun e w' => e = .returned (.bool true) ∧ Below W.heap.size W w' := fun W V A1 c1 h1 h2 q q2 =>
              same24_yes r.k r.c r.n r.bs A1 r.A c1 r.cap W (Nat.le_refl _) (RB.more (h1.below q2) q2.size) (RB.more (hok.rb.below (below_step q q2)) (below_step q q2).size) (fun e => (h2 e).1) hok.nil
            have hLz : (strN (lineL r.ev)).size ≤ 300 := by rw [strN_size]; exact line_len r.ev hev h60'
            have hap : strN (txtB (rs.take j)) ++ strN (lineL r.ev) ++ ({ data := #[10, 35, 32, 109, 111, 114, 101, 10, 10] } : ByteArray) = strN (txtB (rs.take (j + 1))) := by
              rw [HTS.out, strN_app]
              show _ ++ strN [10, 35, 32, 109, 111, 114, 101, 10, 10] = _
              rw [strN_app, List.append_assoc]
            have hgd := HGD.out ⟨hgood, h60'⟩
            have HL := Lib.hid hl
            have HRD := Lib.hid hrd
            have HSM := Lib.hid hsm
            have HGD' := Lib.hid hgd
            generalize strN (lineL r.ev) = L at HL HRD hap hLz
            generalize strN (txtB (rs.take j)) = X at hap hSz ⊢
            clear hl hrd hsm hgd hev e1 e2 e3 hok hok' hgood HTS HGD
            go_wp2_with (first
              | (go_at_call 7; (with_reducible refine (HL.out _ (HT.out.below HBr.out) HBr.out).mono ?_); rintro e w2 ⟨rfl, b2⟩; have HB2 := Lib.hid (below_step HBr.out b2); clear b2)
              | (go_at_call 9; (with_reducible refine (HRD.out _).mono ?_); rintro e w3 ⟨⟨v, rfl, ho⟩, b3⟩; obtain ⟨A1, cA, rfl, _, hrb1, hnil1⟩ := ho.slice; clear ho; have HB3 := Lib.hid (below_step HB2.out b3); obtain ⟨hz43, c03, c13, c23, c33⟩ := H4.out.below HB3.out; have hz3 := HB3.out.size; have hzs : sb < w3.heap.size := (by omega); have HRB1 := Lib.hid hrb1; have HNI1 := Lib.hid hnil1; have b4x_3 := Lib.hid (Box4.make w3 (.int .i64 r.k) (.int .i64 r.c) (.int .i64 r.n) (.slice A1 r.bs.length cA) 29 rfl); have b4x_30 := b4x_3.out.c0; have b4x_31 := b4x_3.out.c1; have b4x_32 := b4x_3.out.c2; have b4x_33 := b4x_3.out.c3; have b4x_3f0 := b4x_3.out.f0; have b4x_3f1 := b4x_3.out.f1; have b4x_3f2 := b4x_3.out.f2; have b4x_3f3 := b4x_3.out.f3; have b4x_3z := b4x_3.out.z; clear b3 hrb1 hnil1)
              | fail)
            refine wp_region_held_drew (S := (fun w' => (w'.cell? ⟨w3.heap.size, 0, none⟩ = some (.int .i64 r.k) ∧ w'.cell? ⟨w3.heap.size, 1, none⟩ = some (.int .i64 r.c) ∧ w'.cell? ⟨w3.heap.size, 2, none⟩ = some (.int .i64 r.n) ∧ w'.cell? ⟨w3.heap.size, 3, none⟩ = some (.slice A1 r.bs.length cA) ∧ w'.cell? ⟨sb, qo, sp⟩ = some (.int .i64 r.k) ∧ w'.cell? ⟨sb, qo + 1, none⟩ = some (.int .i64 r.c) ∧ w'.cell? ⟨sb, qo + 2, none⟩ = some (.int .i64 r.n) ∧ w'.cell? ⟨sb, qo + 3, none⟩ = some (.slice r.A r.bs.length r.cap)))) (by kernel_rfl) ?_ (fun hHeld => ?_)
            · (try dsimp only)
              ((and_intros <;> (first | (with_reducible assumption) | (go_simp; done) | (simp (maxDischargeDepth := 12) [go_sem]; done) | (simp (maxDischargeDepth := 12) [go_sem, *]; done) | exact (Below.cell (by with_reducible assumption) (by first | (simp; done) | (simp; omega) | omega)).trans (by simp (maxDischargeDepth := 12) [go_sem]))))
            refine h4_take (i := 0) (v := ?v0) rfl (by kernel_rfl) (by kernel_rfl) (by kernel_rfl) (fun _ _ _ h => h) (by rfl) ?y0 hHeld ?r0
            case y0 => (intro wS hSw; (try dsimp only at hSw); go_simp; (try with_reducible rfl))
            try simp only [Act.put, List.setIfInBounds_toArray, List.set_cons_zero, List.set_cons_succ]
            refine h4_take (i := 1) (v := ?v1) rfl (by kernel_rfl) (by kernel_rfl) (by kernel_rfl) (fun _ _ _ h => h) (by rfl) ?y1 hHeld ?r1
            case y1 => (intro wS hSw; (try dsimp only at hSw); go_simp; (try with_reducible rfl))
            try simp only [Act.put, List.setIfInBounds_toArray, List.set_cons_zero, List.set_cons_succ]
            refine h4_take (i := 2) (v := ?v2) rfl (by kernel_rfl) (by kernel_rfl) (by kernel_rfl) (fun _ _ _ h => h) (by rfl) ?y2 hHeld ?r2
            case y2 => (intro wS hSw; (try dsimp only at hSw); go_simp; (try with_reducible rfl))
            try simp only [Act.put, List.setIfInBounds_toArray, List.set_cons_zero, List.set_cons_succ]
            refine h4_take (i := 3) (v := ?v3) rfl (by kernel_rfl) (by kernel_rfl) (by kernel_rfl) (fun _ _ _ h => h) (by rfl) ?y3 hHeld ?r3
            case y3 => (intro wS hSw; (try dsimp only at hSw); go_simp; (try with_reducible rfl))
            try simp only [Act.put, List.setIfInBounds_toArray, List.set_cons_zero, List.set_cons_succ]
            refine h4_take (i := 4) (v := ?v4) rfl (by kernel_rfl) (by kernel_rfl) (by kernel_rfl) (fun _ _ _ h => h) (by rfl) ?y4 hHeld ?r4
            case y4 => (intro wS hSw; (try dsimp only at hSw); go_simp; (try with_reducible rfl))
            try simp only [Act.put, List.setIfInBounds_toArray, List.set_cons_zero, List.set_cons_succ]
            refine h4_take (i := 5) (v := ?v5) rfl (by kernel_rfl) (by kernel_rfl) (by kernel_rfl) (fun _ _ _ h => h) (by rfl) ?y5 hHeld ?r5
            case y5 => (intro wS hSw; (try dsimp only at hSw); go_simp; (try with_reducible rfl))
            try simp only [Act.put, List.setIfInBounds_toArray, List.set_cons_zero, List.set_cons_succ]
            refine h4_take (i := 6) (v := ?v6) rfl (by kernel_rfl) (by kernel_rfl) (by kernel_rfl) (fun _ _ _ h => h) (by rfl) ?y6 hHeld ?r6
            case y6 => (intro wS hSw; (try dsimp only at hSw); go_simp; (try with_reducible rfl))
            try simp only [Act.put, List.setIfInBounds_toArray, List.set_cons_zero, List.set_cons_succ]
            refine h4_take (i := 7) (v := ?v7) rfl (by kernel_rfl) (by kernel_rfl) (by kernel_rfl) (fun _ _ _ h => h) (by rfl) ?y7 hHeld ?r7
            case y7 => (intro wS hSw; (try dsimp only at hSw); go_simp; (try with_reducible rfl))
            try simp only [Act.put, List.setIfInBounds_toArray, List.set_cons_zero, List.set_cons_succ]
            refine wpAnyH_ready (rs := [8]) (by kernel_rfl) (by simp) ?_
            refine (h4_cons rfl (fun K hK => ?_) AllReadyH.nil)
            go_simp
            ((go_at_call 11; (with_reducible refine (HSM.out _ w3 A1 cA HRB1.out HNI1.out HB3.out (by repeat' (first | (with_reducible exact Below.refl _ _) | (with_reducible assumption) | (with_reducible refine Below.drew ?_) | (with_reducible refine below_drewN ?_ _) | (with_reducible refine Below.alloc ?_ ?_ _) | (with_reducible exact Nat.le_refl _) | (simp; done) | (simp; omega)))).mono ?_); rintro e w4 ⟨rfl, b4⟩; have b5 : Below (w3.alloc (.cells #[.int .i64 r.k, .int .i64 r.c, .int .i64 r.n, .slice A1 r.bs.length cA] 29)).heap.size (w3.alloc (.cells #[.int .i64 r.k, .int .i64 r.c, .int .i64 r.n, .slice A1 r.bs.length cA] 29)) w4 := below_step ((Below.refl _ _).drew) b4; clear b4; have b4x_4 := Lib.hid (Box4.below b4x_3.out b5); have b4x_40 := b4x_4.out.c0; have b4x_41 := b4x_4.out.c1; have b4x_42 := b4x_4.out.c2; have b4x_43 := b4x_4.out.c3; have b4x_4f0 := b4x_4.out.f0; have b4x_4f1 := b4x_4.out.f1; have b4x_4f2 := b4x_4.out.f2; have b4x_4f3 := b4x_4.out.f3; have b4x_4z := b4x_4.out.z; have HB4 := Lib.hid ((HB3.out.alloc HB3.out.size (.cells #[.int .i64 r.k, .int .i64 r.c, .int .i64 r.n, .slice A1 r.bs.length cA] 29)).trans (b5.mono (by have := HB3.out.size; simp; omega))); obtain ⟨hz44, c04, c14, c24, c34⟩ := H4.out.below HB4.out; clear b5))
            (try go_wp2_with fail)
            refine hK.out _ _ ?_ (fun hHeld9 => ?_)
            · (try dsimp only)
              ((and_intros <;> (first | (with_reducible assumption) | (go_simp; done) | (simp (maxDischargeDepth := 12) [go_sem]; done) | (simp (maxDischargeDepth := 12) [go_sem, *]; done) | exact (Below.cell (by with_reducible assumption) (by first | (simp; done) | (simp; omega) | omega)).trans (by simp (maxDischargeDepth := 12) [go_sem]))))
            clear hK K hHeld
            try simp only [Act.put, List.setIfInBounds_toArray, List.set_cons_zero, List.set_cons_succ]
            refine h4_take (i := 9) (v := ?v9) rfl (by kernel_rfl) (by kernel_rfl) (by kernel_rfl) (fun _ _ _ h => h) (by rfl) ?y9 hHeld9 ?r9
            case y9 => (intro wS hSw; (try dsimp only at hSw); go_simp; (try with_reducible rfl))
            try simp only [Act.put, List.setIfInBounds_toArray, List.set_cons_zero, List.set_cons_succ]
            refine h4_take (i := 10) (v := ?v10) rfl (by kernel_rfl) (by kernel_rfl) (by kernel_rfl) (fun _ _ _ h => h) (by rfl) ?y10 hHeld9 ?r10
            case y10 => (intro wS hSw; (try dsimp only at hSw); go_simp; (try with_reducible rfl))
            try simp only [Act.put, List.setIfInBounds_toArray, List.set_cons_zero, List.set_cons_succ]
            refine wpAnyH_done (by kernel_rfl) ?_ _
            go_wp2_with fail
            go_roundw
            case rel => exact ⟨j + 1, rfl, by go_num, by omega, HGD', HB4⟩
            case measure => simp [intOf]; omega
          · have HL := Lib.hid (fun W => line_no r.k r.c r.n hok'.k hok'.c hok'.n r.A r.bs.length r.cap hok'.len hgood W)
            clear hok' hgood
            go_wp2_with (first
              | (go_at_call 7; (with_reducible refine (HL.out _).mono ?_); rintro e w2 ⟨rfl, b2⟩; have HB2 := Lib.hid (below_step HBr.out b2); clear b2)
              | fail)
            (try simp only [Exit.inBlock, Exit.then]); refine bodyPost_ret (by simp [results, Tryd.results4, go_sem, *]; try rfl) rfl ?_
            exact ⟨rfl, HB2.out⟩
      · obtain rfl : j = rs.length := by omega
        have hgl := HGr.out
        rw [List.take_length] at hgl
        have hp : ∀ W, Calls Tryd.prog 12 #[.string (strN (txtB rs))] W fun e w' => (∃ A5 c5 xs, e = .returned (.tuple #[.slice A5 rs.length c5, .int .i64 0, .nilIface]) ∧ xs.map (·.1) = rs.map RawE.ev ∧ EvS w' W.heap.size (.slice A5 rs.length c5) xs) ∧ Below W.heap.size W w' := fun W => by
          refine (parse_any (rs.flatMap itB) (itB_ok rs hgl h20') W).mono ?_
          rintro e w' ⟨hb, (⟨v, xs, rfl, hm, hs, _⟩ | ⟨k, hk, _⟩)⟩
          · rw [itB_evs] at hm
            have hl : xs.length = rs.length := by have := congrArg List.length hm; simpa using this
            obtain ⟨A5, c5, rfl, _, _⟩ := ownSlice hs.own
            rw [hl] at hs ⊢
            exact ⟨⟨A5, c5, xs, rfl, hm, hs⟩, hb⟩
          · exact absurd hk (itB_nobad rs k)
        rw [List.take_length]
        have HP := Lib.hid hp
        have HGL := Lib.hid hgl
        clear hp hgl
        generalize strN (txtB rs) = X at HP ⊢
        go_wp2_with (first
          | (go_at_call 12; (with_reducible refine (HP.out _).mono ?_); rintro e w5 ⟨⟨A5, c5, xs, rfl, hm, hs⟩, b5⟩; have HB5 := Lib.hid (below_step HBr.out b5); have HM := Lib.hid hm; have HS5 := Lib.hid (hs.mono hzr); clear b5 hm hs)
          | fail)
        go_loopw [12] (fun i wq => ∃ j : Nat, i = .int .i64 (j : Int) ∧ j ≤ rs.length ∧ Hid (EvS wq w.heap.size (.slice A5 rs.length c5) xs) ∧ Hid (Below w.heap.size w wq)) (fun i _ => rs.length - (intOf i).toNat)
        case atStart => exact ⟨0, rfl, Nat.zero_le _, HS5, HB5⟩
        case round =>
          obtain ⟨i, rfl, hi, HSq, HBq⟩ := hrel
          have hzq := HBq.out.size
          by_cases hlt2 : i < rs.length
          · have hxl : xs.length = rs.length := by have := congrArg List.length HM.out; simpa using this
            have hs' : EvS wr w.heap.size (.slice A5 xs.length c5) xs := by rw [hxl]; exact HSq.out
            obtain ⟨ad5, sb5, qo5, sp5, eA5, hq5, h5⟩ := hs'.at_ (show i < xs.length by omega)
            have hob := hs'.obs _ (List.getElem_mem (show i < xs.length by omega))
            have hxe : xs[i].1 = rs[i].ev := by
              have h1 : (xs.map (·.1))[i]? = (rs.map RawE.ev)[i]? := by rw [HM.out]
              simpa [hlt2, show i < xs.length by omega] using h1
            obtain ⟨ad, sb, qo, sp, eA, hq, h4⟩ := raw_at HR.out hlt2
            obtain ⟨hgd, hg60, hok⟩ := HGL.out _ (List.getElem_mem hlt2)
            rw [hxe] at h5 hob
            obtain ⟨hev, e1, e2, e3⟩ := hgd.ev hok
            rw [e1, e2, e3] at h5
            generalize xs[i].2 = v6 at h5 hob
            generalize rs[i] = r at h5 hob h4 hok hgd hg60 hev e1 e2 e3 hxe
            obtain ⟨A6, c6, rfl, _, hrb6, hnil6⟩ := hob.slice
            subst eA eA5
            have hsm : ∀ W, Below wr.heap.size wr W → Calls Tryd.prog 11 #[.agg #[.int .i64 r.k, .int .i64 r.c, .int .i64 r.n, .slice A6 r.bs.length c6], .agg #[.int .i64 r.k, .int .i64 r.c, .int .i64 r.n, .slice r.A r.bs.length r.cap]] W fun e w' => e = .returned (.bool true) ∧ Below W.heap.size W w' := fun W q2 =>
              same24_yes r.k r.c r.n r.bs A6 r.A c6 r.cap W (Nat.le_refl _) (RB.more (hrb6.below q2) q2.size) (RB.more (hok.rb.below (below_step HBq.out q2)) (below_step HBq.out q2).size) (fun e => (hnil6 e).1) hok.nil
            have HSM := Lib.hid hsm
            have H4 := Lib.hid (h4.below HBq.out)
            have h5 : At4 wr wr.heap.size sb5 qo5 sp5 (.int .i64 r.k) (.int .i64 r.c) (.int .i64 r.n) (.slice A6 r.bs.length c6) := h5
            have H5 := Lib.hid h5
            obtain ⟨hzA, c0, c1, c2, c3⟩ := h4.below HBq.out
            obtain ⟨hzB, d0, d1, d2, d3⟩ := h5
            clear hs' hob hxe h4 hgd hg60 hok hev e1 e2 e3 hsm hrb6 hnil6
            go_wp2_with fail
            refine wp_region_held_drew (S := (fun w' => (w'.cell? ⟨sb5, qo5, sp5⟩ = some (.int .i64 r.k) ∧ w'.cell? ⟨sb5, qo5 + 1, none⟩ = some (.int .i64 r.c) ∧ w'.cell? ⟨sb5, qo5 + 2, none⟩ = some (.int .i64 r.n) ∧ w'.cell? ⟨sb5, qo5 + 3, none⟩ = some (.slice A6 r.bs.length c6) ∧ w'.cell? ⟨sb, qo, sp⟩ = some (.int .i64 r.k) ∧ w'.cell? ⟨sb, qo + 1, none⟩ = some (.int .i64 r.c) ∧ w'.cell? ⟨sb, qo + 2, none⟩ = some (.int .i64 r.n) ∧ w'.cell? ⟨sb, qo + 3, none⟩ = some (.slice r.A r.bs.length r.cap)))) (by kernel_rfl) ?_ (fun hHeld => ?_)
            · (try dsimp only)
              ((and_intros <;> (first | (with_reducible assumption) | (go_simp; done) | (simp (maxDischargeDepth := 12) [go_sem]; done) | (simp (maxDischargeDepth := 12) [go_sem, *]; done) | exact (Below.cell (by with_reducible assumption) (by first | (simp; done) | (simp; omega) | omega)).trans (by simp (maxDischargeDepth := 12) [go_sem]))))
            refine h4_take (i := 0) (v := ?v11) rfl (by kernel_rfl) (by kernel_rfl) (by kernel_rfl) (fun _ _ _ h => h) (by rfl) ?y11 hHeld ?r11
            case y11 => (intro wS hSw; (try dsimp only at hSw); go_simp; (try with_reducible rfl))
            try simp only [Act.put, List.setIfInBounds_toArray, List.set_cons_zero, List.set_cons_succ]
            refine h4_take (i := 1) (v := ?v12) rfl (by kernel_rfl) (by kernel_rfl) (by kernel_rfl) (fun _ _ _ h => h) (by rfl) ?y12 hHeld ?r12
            case y12 => (intro wS hSw; (try dsimp only at hSw); go_simp; (try with_reducible rfl))
            try simp only [Act.put, List.setIfInBounds_toArray, List.set_cons_zero, List.set_cons_succ]
            refine h4_take (i := 2) (v := ?v13) rfl (by kernel_rfl) (by kernel_rfl) (by kernel_rfl) (fun _ _ _ h => h) (by rfl) ?y13 hHeld ?r13
            case y13 => (intro wS hSw; (try dsimp only at hSw); go_simp; (try with_reducible rfl))
            try simp only [Act.put, List.setIfInBounds_toArray, List.set_cons_zero, List.set_cons_succ]
            refine h4_take (i := 3) (v := ?v14) rfl (by kernel_rfl) (by kernel_rfl) (by kernel_rfl) (fun _ _ _ h => h) (by rfl) ?y14 hHeld ?r14
            case y14 => (intro wS hSw; (try dsimp only at hSw); go_simp; (try with_reducible rfl))
            try simp only [Act.put, List.setIfInBounds_toArray, List.set_cons_zero, List.set_cons_succ]
            refine h4_take (i := 4) (v := ?v15) rfl (by kernel_rfl) (by kernel_rfl) (by kernel_rfl) (fun _ _ _ h => h) (by rfl) ?y15 hHeld ?r15
            case y15 => (intro wS hSw; (try dsimp only at hSw); go_simp; (try with_reducible rfl))
            try simp only [Act.put, List.setIfInBounds_toArray, List.set_cons_zero, List.set_cons_succ]
            refine h4_take (i := 5) (v := ?v16) rfl (by kernel_rfl) (by kernel_rfl) (by kernel_rfl) (fun _ _ _ h => h) (by rfl) ?y16 hHeld ?r16
            case y16 => (intro wS hSw; (try dsimp only at hSw); go_simp; (try with_reducible rfl))
            try simp only [Act.put, List.setIfInBounds_toArray, List.set_cons_zero, List.set_cons_succ]
            refine h4_take (i := 6) (v := ?v17) rfl (by kernel_rfl) (by kernel_rfl) (by kernel_rfl) (fun _ _ _ h => h) (by rfl) ?y17 hHeld ?r17
            case y17 => (intro wS hSw; (try dsimp only at hSw); go_simp; (try with_reducible rfl))
            try simp only [Act.put, List.setIfInBounds_toArray, List.set_cons_zero, List.set_cons_succ]
            refine h4_take (i := 7) (v := ?v18) rfl (by kernel_rfl) (by kernel_rfl) (by kernel_rfl) (fun _ _ _ h => h) (by rfl) ?y18 hHeld ?r18
            case y18 => (intro wS hSw; (try dsimp only at hSw); go_simp; (try with_reducible rfl))
            try simp only [Act.put, List.setIfInBounds_toArray, List.set_cons_zero, List.set_cons_succ]
            refine wpAnyH_ready (rs := [8]) (by kernel_rfl) (by simp) ?_
            refine (h4_cons rfl (fun K hK => ?_) AllReadyH.nil)
            go_simp
            ((go_at_call 11; (with_reducible refine (HSM.out _ (by repeat' (first | (with_reducible exact Below.refl _ _) | (with_reducible assumption) | (with_reducible refine Below.drew ?_) | (with_reducible refine below_drewN ?_ _) | (with_reducible refine Below.alloc ?_ ?_ _) | (with_reducible exact Nat.le_refl _) | (simp; done) | (simp; omega)))).mono ?_); rintro e w6 ⟨rfl, b6⟩; have b7 : Below wr.heap.size wr w6 := below_step ((Below.refl _ _).drew) b6; clear b6; have HB6 := Lib.hid (below_step HBq.out b7); have HS6 := Lib.hid (HSq.out.next b7); obtain ⟨hzA6, c06, c16, c26, c36⟩ := H4.out.below (b7.mono hzq); obtain ⟨hzB6, d06, d16, d26, d36⟩ := H5.out.below b7; clear b7))
            (try go_wp2_with fail)
            refine hK.out _ _ ?_ (fun hHeld20 => ?_)
            · (try dsimp only)
              ((and_intros <;> (first | (with_reducible assumption) | (go_simp; done) | (simp (maxDischargeDepth := 12) [go_sem]; done) | (simp (maxDischargeDepth := 12) [go_sem, *]; done) | exact (Below.cell (by with_reducible assumption) (by first | (simp; done) | (simp; omega) | omega)).trans (by simp (maxDischargeDepth := 12) [go_sem]))))
            clear hK K hHeld
            try simp only [Act.put, List.setIfInBounds_toArray, List.set_cons_zero, List.set_cons_succ]
            refine h4_take (i := 9) (v := ?v20) rfl (by kernel_rfl) (by kernel_rfl) (by kernel_rfl) (fun _ _ _ h => h) (by rfl) ?y20 hHeld20 ?r20
            case y20 => (intro wS hSw; (try dsimp only at hSw); go_simp; (try with_reducible rfl))
            try simp only [Act.put, List.setIfInBounds_toArray, List.set_cons_zero, List.set_cons_succ]
            refine wpAnyH_done (by kernel_rfl) ?_ _
            go_wp2_with fail
            go_roundw
            case rel => exact ⟨i + 1, by go_num, by omega, HS6, HB6⟩
            case measure => simp [intOf]; omega
          · obtain rfl : i = rs.length := by omega
            go_wp2
            (try simp only [Exit.inBlock, Exit.then]); refine bodyPost_ret (by simp [results, Tryd.results4, go_sem, *]; try rfl) rfl ?_
            exact ⟨rfl, HBq.out⟩
end Go.Proofs.YtanbplnagcmlcaaDoor
