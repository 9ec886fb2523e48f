/- Several texts put together: CodX, CodV, CodY. -/
import Derived.Test.YtanbplnagcmlcaaBu14
/- fieldfarelaw15.few: code is few and short. -/
namespace Go.Proofs.Ytanbplnagcmlcaa
open Go.RowKit
def FewPost (C : CodeV) (w : World) (e : Ending) (w' : World) : Prop :=
  ∃ b : Bool, e = .returned (.bool b) ∧ (b = true → C.pr.length ≤ 8 ∧ ∀ r ∈ C.pr, r.2.length ≤ 60) ∧ Below w.heap.size w w'
theorem few_no {C : CodeV} {w w' : World} {e : Ending} (he : e = .returned (.bool false)) (h : Below w.heap.size w w') : FewPost C w e w' := ⟨false, he, nofun, h⟩
def PreF (C : CodeV) (j : Nat) : Prop := ∀ r ∈ C.pr.take j, r.2.length ≤ 60
theorem PreF.next {C : CodeV} {j : Nat} {r : Value × List InsV} (h : PreF C j) (hr : C.pr[j]? = some r) (h60 : r.2.length ≤ 60) : PreF C (j + 1) := by
  intro x hx
  rw [List.take_add_one, hr, List.mem_append] at hx
  rcases hx with hx | hx
  · exact h x hx
  · simp at hx; subst hx; exact h60
set_option maxRecDepth 100000 in
set_option maxHeartbeats 1600000 in
theorem few_any {w : World} {B : Nat} {C : CodeV} {G L P J : Value} (H : C.ok w B G L P J) (hB : B ≤ w.heap.size) :
    Calls Try.prog 6 #[.agg #[G, L, P, J]] w (FewPost C w) := by
  obtain ⟨A0, c0, e0, hc0, hm0, _, _⟩ := H.g
  obtain ⟨A1, c1, e1, hc1, hm1, _, _⟩ := H.l
  obtain ⟨A2, c2, e2, hc2, hm2, _, hr2⟩ := H.p
  obtain ⟨A3, c3, e3, hc3, hm3, _, hr3⟩ := H.j
  unfold maxLen at hm0 hm1 hm2 hm3
  subst e0 e1 e2 e3
  have HH := Lib.hid H
  have H2 := Lib.hid hr2
  have H3 := Lib.hid hr3
  clear H hr2 hr3
  by_cases f1 : 8 < C.pr.length
  · go_enter Try.func6, Try.ntmps6
    go_wp2
    (try simp only [Exit.inBlock, Exit.then]); refine bodyPost_ret (by simp [results, Try.results6, go_sem, *]; try rfl) rfl ?_
    exact few_no rfl (by (repeat' (first | (with_reducible exact Below.refl _ _) | (refine Below.trans ?_ (Below.mono (by with_reducible assumption) ?_)) | (with_reducible exact Below.refl _ _) | (with_reducible refine below_drewN ?_ _) | (with_reducible refine Below.drew ?_) | (with_reducible refine Below.setCell ?_ ?_ _) | (with_reducible refine Below.alloc ?_ ?_ _) | (with_reducible assumption) | (simp; done) | (simp; omega) | omega)))
  have g1 : decide (8 < C.pr.length) = false := by simpa using f1
  by_cases f2 : 8 < C.jb.length
  · go_enter Try.func6, Try.ntmps6
    go_wp2
    (try simp only [Exit.inBlock, Exit.then]); refine bodyPost_ret (by simp [results, Try.results6, go_sem, *]; try rfl) rfl ?_
    exact few_no rfl (by (repeat' (first | (with_reducible exact Below.refl _ _) | (refine Below.trans ?_ (Below.mono (by with_reducible assumption) ?_)) | (with_reducible exact Below.refl _ _) | (with_reducible refine below_drewN ?_ _) | (with_reducible refine Below.drew ?_) | (with_reducible refine Below.setCell ?_ ?_ _) | (with_reducible refine Below.alloc ?_ ?_ _) | (with_reducible assumption) | (simp; done) | (simp; omega) | omega)))
  have g2 : decide (8 < C.jb.length) = false := by simpa using f2
  by_cases f3 : 300 < C.gl.length
  · go_enter Try.func6, Try.ntmps6
    go_wp2
    (try simp only [Exit.inBlock, Exit.then]); refine bodyPost_ret (by simp [results, Try.results6, go_sem, *]; try rfl) rfl ?_
    exact few_no rfl (by (repeat' (first | (with_reducible exact Below.refl _ _) | (refine Below.trans ?_ (Below.mono (by with_reducible assumption) ?_)) | (with_reducible exact Below.refl _ _) | (with_reducible refine below_drewN ?_ _) | (with_reducible refine Below.drew ?_) | (with_reducible refine Below.setCell ?_ ?_ _) | (with_reducible refine Below.alloc ?_ ?_ _) | (with_reducible assumption) | (simp; done) | (simp; omega) | omega)))
  have g3 : decide (300 < C.gl.length) = false := by simpa using f3
  by_cases f4 : 8 < C.lo.length
  · go_enter Try.func6, Try.ntmps6
    go_wp2
    (try simp only [Exit.inBlock, Exit.then]); refine bodyPost_ret (by simp [results, Try.results6, go_sem, *]; try rfl) rfl ?_
    exact few_no rfl (by (repeat' (first | (with_reducible exact Below.refl _ _) | (refine Below.trans ?_ (Below.mono (by with_reducible assumption) ?_)) | (with_reducible exact Below.refl _ _) | (with_reducible refine below_drewN ?_ _) | (with_reducible refine Below.drew ?_) | (with_reducible refine Below.setCell ?_ ?_ _) | (with_reducible refine Below.alloc ?_ ?_ _) | (with_reducible assumption) | (simp; done) | (simp; omega) | omega)))
  have g4 : decide (8 < C.lo.length) = false := by simpa using f4
  go_enter Try.func6, Try.ntmps6
  go_wp2
  generalize hW : (World.alloc _ _ : World) = W9
  have hb9 : Box4 W9 w.heap.size (.slice A0 C.gl.length c0) (.slice A1 C.lo.length c1) (.slice A2 C.pr.length c2) (.slice A3 C.jb.length c3) := by rw [← hW]; exact Box4.make _ _ _ _ _ _ rfl
  have hW9 : Below w.heap.size w W9 := by rw [← hW]; (repeat' (first | (with_reducible exact Below.refl _ _) | (refine Below.trans ?_ (Below.mono (by with_reducible assumption) ?_)) | (with_reducible exact Below.refl _ _) | (with_reducible refine below_drewN ?_ _) | (with_reducible refine Below.drew ?_) | (with_reducible refine Below.setCell ?_ ?_ _) | (with_reducible refine Below.alloc ?_ ?_ _) | (with_reducible assumption) | (simp; done) | (simp; omega) | omega))
  clear hW f1 f2 f3 f4 g1 g2 g3 g4
  have b4c_1 := Lib.hid (hb9); have b4c_10 := b4c_1.out.c0; have b4c_11 := b4c_1.out.c1; have b4c_12 := b4c_1.out.c2; have b4c_13 := b4c_1.out.c3; have b4c_1f0 := b4c_1.out.f0; have b4c_1f1 := b4c_1.out.f1; have b4c_1f2 := b4c_1.out.f2; have b4c_1f3 := b4c_1.out.f3; have b4c_1z := b4c_1.out.z
  have HW9 := Lib.hid hW9
  have hzw := hW9.size
  clear hb9 hW9
  go_loopw [3] (fun i wr => ∃ j : Nat, i = .int .i64 (j : Int) ∧ j ≤ C.pr.length ∧ Hid (PreF C j) ∧ wr = W9) (fun i _ => C.pr.length - (intOf i).toNat)
  case atStart => exact ⟨0, rfl, Nat.zero_le _, Lib.hid (fun r hr => by simp at hr), rfl⟩
  case round =>
    obtain ⟨j, rfl, hj, HF, rfl⟩ := hrel
    by_cases hlt : j < C.pr.length
    · obtain ⟨ad, q, v, rfl, hq, hqb, hv, hcell⟩ := vals_at (H2.out.below (HW9.out.mono hB)) hlt
      have hrok := HH.out.pp _ (List.getElem_mem hlt)
      rw [List.getElem?_map, List.getElem?_eq_getElem hlt] at hv
      injection hv with hv
      have hel := List.getElem?_eq_getElem hlt
      generalize C.pr[j] = rv at hrok hv hel
      obtain ⟨⟨A4, c4, e4, hd4, hm4, _, hr4⟩, hins⟩ := hrok
      unfold maxLen at hm4
      obtain ⟨rvv, rx⟩ := rv
      dsimp only at hv hd4 hm4 hr4 hins e4
      subst hv
      subst e4
      have hqw : q.block < wr.heap.size := by omega
      have HEL := Lib.hid hel
      have HR4 := Lib.hid (hr4.below (HW9.out.mono hB))
      have HINS := Lib.hid hins
      clear hel hqb hr4 hins
      by_cases h6 : 60 < rx.length
      · go_wp2
        (try simp only [Exit.inBlock, Exit.then]); refine bodyPost_ret (by simp [results, Try.results6, go_sem, *]; try rfl) rfl ?_
        exact few_no rfl HW9.out
      · go_wp2
        go_loopw [4] (fun i wr' => ∃ k : Nat, i = .int .i64 (k : Int) ∧ k ≤ rx.length ∧ wr' = wr) (fun i _ => rx.length - (intOf i).toNat)
        case atStart => exact ⟨0, rfl, Nat.zero_le _, rfl⟩
        case round =>
          obtain ⟨k, rfl, hk, rfl⟩ := hrel
          by_cases hlk : k < rx.length
          · obtain ⟨ad4, q5, x, rfl, hq5, hqb5, hx, hcell5⟩ := ins_at rfl HR4.out hlk
            have hxok := HINS.out x (List.mem_of_getElem? hx)
            obtain ⟨op, xa, xb, xc, xat, xs, xn, xh, xl, xL, xls⟩ := x
            obtain ⟨_, _, _, _, _, A6, c6, e6, _, hm6, _, _⟩ := hxok
            dsimp only at e6
            subst e6
            have k9 : wr.cell? ⟨q5.block, q5.off + 9, none⟩ = some (.slice A6 xls.length c6) := hcell5 9 _ rfl
            have k5 : wr.cell? ⟨q5.block, q5.off + 5, none⟩ = some (.string xs) := hcell5 5 _ rfl
            have hq5w : q5.block < wr.heap.size := by omega
            unfold maxLen at hm6
            clear hcell5 hx hqb5
            by_cases h20 : 20 < xls.length
            · have d20 : decide (20 < xls.length) = true := by simpa using h20
              go_wp2
              (try simp only [Exit.inBlock, Exit.then]); refine bodyPost_ret (by simp [results, Try.results6, go_sem, *]; try rfl) rfl ?_
              exact few_no rfl HW9.out
            · have d20 : decide (20 < xls.length) = false := by simpa using h20
              by_cases h60 : 60 < xs.size
              · have d60 : decide (60 < xs.size) = true := by simpa using h60
                go_wp2
                (try simp only [Exit.inBlock, Exit.then]); refine bodyPost_ret (by simp [results, Try.results6, go_sem, *]; try rfl) rfl ?_
                exact few_no rfl HW9.out
              · have d60 : decide (60 < xs.size) = false := by simpa using h60
                go_wp2
                go_roundw
                case rel => exact ⟨k + 1, by go_num, by omega, trivial⟩
                case measure => simp [intOf]; omega
          · obtain rfl : k = rx.length := by omega
            go_wp2
            go_roundw
            case rel => exact ⟨j + 1, by go_num, by omega, Lib.hid (HF.out.next HEL.out (by dsimp only; omega)), trivial⟩
            case measure => simp [intOf]; omega
    · obtain rfl : j = C.pr.length := by omega
      have hF : ∀ r ∈ C.pr, r.2.length ≤ 60 := by have := HF.out; unfold PreF at this; rwa [List.take_length] at this
      have HF2 := Lib.hid hF
      clear hF HF
      go_wp2
      go_loopw [5] (fun i wr' => ∃ k : Nat, i = .int .i64 (k : Int) ∧ k ≤ C.jb.length ∧ wr' = wr) (fun i _ => C.jb.length - (intOf i).toNat)
      case atStart => exact ⟨0, rfl, Nat.zero_le _, rfl⟩
      case round =>
        obtain ⟨k, rfl, hk, rfl⟩ := hrel
        by_cases hlk : k < C.jb.length
        · obtain ⟨ad, q, ⟨kind, P', ps, body, bare⟩, rfl, hq, hqb, hx, q0, q1, q2, q3⟩ := jobs_at rfl (H3.out.below (HW9.out.mono hB)) hlk
          obtain ⟨_, _, _, A6, c6, e6, _, hm6, _, _⟩ := HH.out.jj _ (List.mem_of_getElem? hx)
          dsimp only at e6 q0 q1 q2 q3
          subst e6
          unfold maxLen at hm6
          have hqw : q.block < wr.heap.size := by omega
          clear hx hqb
          by_cases h4 : 4 < ps.length
          · have d4 : decide (4 < ps.length) = true := by simpa using h4
            go_wp2
            (try simp only [Exit.inBlock, Exit.then]); refine bodyPost_ret (by simp [results, Try.results6, go_sem, *]; try rfl) rfl ?_
            exact few_no rfl HW9.out
          · have d4 : decide (4 < ps.length) = false := by simpa using h4
            go_wp2
            go_roundw
            case rel => exact ⟨k + 1, by go_num, by omega, trivial⟩
            case measure => simp [intOf]; omega
        · obtain rfl : k = C.jb.length := by omega
          go_wp2
          (try simp only [Exit.inBlock, Exit.then]); refine bodyPost_ret (by simp [results, Try.results6, go_sem, *]; try rfl) rfl ?_
          exact ⟨true, rfl, fun _ => ⟨by omega, HF2.out⟩, HW9.out⟩
end Go.Proofs.Ytanbplnagcmlcaa

/- Layer 15: CodeRows' rows, plain, and how they lie in memory. -/
namespace Go.Proofs.Ytanbplnagcmlcaa
open Go.RowKit
def sumD : List Nat → Int
  | [] => 0
  | b :: l => deltaOf b + sumD l
def wants (h : Int) : List Nat → List Int
  | [] => []
  | b :: l => h :: wants (h + deltaOf b) l
theorem sumD_snoc (l : List Nat) (b : Nat) : sumD (l ++ [b]) = sumD l + deltaOf b := by
  induction l with
  | nil => simp [sumD]
  | cons c l ih => simp only [List.cons_append, sumD, ih]; omega
theorem wants_snoc : ∀ (l : List Nat) (h : Int) (b : Nat), wants h (l ++ [b]) = wants h l ++ [h + sumD l]
  | [], h, b => by simp [wants, sumD]
  | c :: l, h, b => by
    simp only [List.cons_append, wants, sumD, wants_snoc l (h + deltaOf c) b]
    rw [show h + deltaOf c + sumD l = h + (deltaOf c + sumD l) by omega]
theorem wants_len : ∀ (l : List Nat) (h : Int), (wants h l).length = l.length
  | [], h => rfl
  | c :: l, h => by simp [wants, wants_len l]
theorem low_snoc : ∀ (l : List Nat) (h : Int) (b : Nat), lowFrom h (l ++ [b]) = (lowFrom h l || decide (h + sumD l < needOf b))
  | [], h, b => by simp [lowFrom, sumD]
  | c :: l, h, b => by
    rw [Bool.eq_iff_iff]
    simp only [List.cons_append, lowFrom, sumD, low_snoc l (h + deltaOf c) b, Bool.or_eq_true, decide_eq_true_eq, Int.add_assoc, or_assoc]
    exact or_congr Iff.rfl (or_congr Iff.rfl (Iff.symm (decide_eq_true_iff (p := h + (deltaOf c + sumD l) < needOf b))))
theorem hs_wants : ∀ (l : List Nat) (h : Int), (hsFrom h l).map (·.1) = wants h l ++ [h + sumD l]
  | [], h => by simp [hsFrom, wants, sumD]
  | c :: l, h => by
    simp only [hsFrom, wants, sumD, List.map_cons, List.cons_append, hs_wants l (h + deltaOf c)]
    rw [show h + deltaOf c + sumD l = h + (deltaOf c + sumD l) by omega]
theorem low_ge : ∀ (l : List Nat) (h : Int), 0 ≤ h → lowFrom h l = false → 0 ≤ h + sumD l
  | [], h, h0, _ => by simpa [sumD] using h0
  | c :: l, h, h0, hl => by
    simp only [lowFrom, Bool.or_eq_false_iff, decide_eq_false_iff_not] at hl
    have : 0 ≤ h + deltaOf c := by
      have := hl.1
      unfold needOf at this; unfold deltaOf; split <;> (try split at this) <;> omega
    have := low_ge l (h + deltaOf c) this hl.2
    simp only [sumD]; omega
theorem sumD_abs : ∀ (l : List Nat), -(l.length : Int) ≤ sumD l ∧ sumD l ≤ l.length
  | [] => by simp [sumD]
  | c :: l => by
    have := sumD_abs l
    simp only [sumD, List.length_cons]
    unfold deltaOf; split <;> omega
/-- What stands for a byte. -/
def insVOf (b : Nat) : InsV := if b % 3 = 0 then zi 1 { data := #[] } else if b % 3 = 1 then zi 3 { data := #[] } else zi 15 { data := #[43] }
def nextV : InsV := zi 26 { data := #[] }
theorem empty_list : ({ data := #[] } : ByteArray).toList = [] := by rw [ByteArray.toList_eq]
theorem plus_list : ({ data := #[43] } : ByteArray).toList = [43] := by rw [ByteArray.toList_eq]
theorem p_ins (b : Nat) : pIns (insVOf b) = insOf b := by
  unfold insVOf insOf
  split
  · unfold pIns zi; rw [empty_list]
  · split
    · unfold pIns zi; rw [empty_list]
    · unfold pIns zi; rw [plus_list]
theorem p_next : pIns nextV = nextI := by unfold pIns nextV zi nextI; rw [empty_list]
theorem insVOf_ok (w : World) (B : Nat) (b : Nat) : (insVOf b).ok w B := by
  unfold insVOf; split
  · exact zi_ok _ _ _ _ (by unfold I64; omega)
  · split <;> exact zi_ok _ _ _ _ (by unfold I64; omega)
/-- A procedure of such instructions. -/
def rowC (v : Value) (bs : List Nat) : CodeV := ⟨[], [], [(v, bs.map insVOf ++ [nextV])], []⟩
theorem rowC_res (v : Value) (bs : List Nat) (hl : bs.length ≤ 1000) : hRes (rowC v bs) 0 = if lowFrom 0 bs then none else some (wants 0 bs ++ [sumD bs]) := by
  have h := heights_row (pNms (rowC v bs)) bs hl
  have e : (bs.map insVOf ++ [nextV]).map pIns = bs.map insOf ++ [nextI] := by
    rw [List.map_append, List.map_map, List.map_singleton, p_next]
    congr 1
    exact List.map_congr_left fun b _ => p_ins b
  show heightsOf (pNms (rowC v bs)) [] ((bs.map insVOf ++ [nextV]).map pIns) = _
  rw [e, h, hs_wants, Int.zero_add]
theorem Sl.of_own {w : World} {base k n : Nat} {e : TypeId} {v : Value} {xs : List Value} (h : w.ownsRow base e k v n xs) : Sl w w.heap.size k v n xs := by
  have h2 := Reads.of_own (A := match v with | .slice A _ _ => A | _ => none) (c := match v with | .slice _ _ c => c | _ => 0) (n := n) (size := k) (xs := xs) (e := e) (base := base) (w := w)
  rcases h.2 with ⟨rfl, rfl⟩ | ⟨g, cap, cur, rfl, _, _, hn, hm, _⟩
  · exact ⟨none, 0, rfl, Nat.le_refl _, by unfold maxLen; omega, fun _ => ⟨rfl, rfl⟩, Reads.of_own h⟩
  · exact ⟨_, cap, rfl, hn, hm, (fun e => by cases e), Reads.of_own h⟩
theorem rowC_ok {w : World} {base g : Nat} {v : Value} {bs : List Nat} {t : TypeId} {n : Nat} (h : w.ownsRow base 37 10 v n ((bs.map insVOf ++ [nextV]).flatMap insC)) (hn : n = bs.length + 1) (hg : Blk w g t #[v]) :
    (rowC v bs).ok w w.heap.size (.slice none 0 0) (.slice none 0 0) (.slice (some ⟨g, 0, none⟩) 1 1) (.slice none 0 0) := by
  refine ⟨Sl.nil, Sl.nil, (fun x hx => nomatch hx), ?_, ?_, Sl.nil, (fun x hx => nomatch hx)⟩
  · exact Sl.of_blk hg hg.lt rfl (by unfold maxLen; omega)
  · intro x hx
    simp only [rowC, List.mem_singleton] at hx
    subst hx
    refine ⟨?_, fun i hi => ?_⟩
    · have := Sl.of_own h
      rw [hn] at this
      simpa using this
    · rcases List.mem_append.1 hi with hi | hi
      · obtain ⟨b, _, rfl⟩ := List.mem_map.1 hi
        exact insVOf_ok _ _ _
      · rw [List.mem_singleton] at hi
        subst hi
        exact zi_ok _ _ _ _ (by unfold I64; omega)
theorem own_apart {w : World} {b1 b2 s1 s2 n1 n2 : Nat} {e1 e2 : TypeId} {v1 v2 : Value} {x1 x2 : List Value} (h1 : w.ownsRow b1 e1 s1 v1 n1 x1) (h2 : w.ownsRow b2 e2 s2 v2 n2 x2) (hne : e1 ≠ e2) : v1.ownBlock = none ∨ v1.ownBlock ≠ v2.ownBlock := by
  rcases h2.2 with ⟨rfl, _⟩ | ⟨g', cap, cur, rfl, _, hh, _⟩
  · cases e : v1.ownBlock
    · exact .inl rfl
    · exact .inr (by simp [Value.ownBlock])
  · exact .inr (own_blk_ne (t := e2) h1 hh hne)
theorem info_inst : (Try.prog.info? 37).map (fun i => (i.zero, i.size, i.bytes)) = some (some (.agg #[.int .i64 0, .int .i64 0, .int .i64 0, .int .i64 0, .int .i64 0, .string { data := #[] }, .bool false, .int .u64 0, .int .u64 0, .slice none 0 0]), 10, 104) := by kernel_rfl
end Go.Proofs.Ytanbplnagcmlcaa

/- fieldfarelaw15.CodeMore: the walk. -/
namespace Go.Proofs.Ytanbplnagcmlcaa
open Go.RowKit
theorem info_insts : (Try.prog.info? 38).map (fun i => (i.zero, i.size, i.bytes)) = some (some (.slice none 0 0), 1, 24) := by kernel_rfl
/-- Code with 'tick; next' behind. -/
def moreC (C : CodeV) (v : Value) : CodeV := ⟨C.gl, C.lo, C.pr ++ [(v, [zi 0 { data := #[] }, zi 26 { data := #[] }])], C.jb⟩
/-- Code with one rule less. -/
def lessC (C : CodeV) (j : JobV) (l : List JobV) : CodeV := ⟨C.gl, C.lo, C.pr, l⟩
theorem moreC_valid {C : CodeV} (v : Value) (h : pValid C = true) : pValid (moreC C v) = true := by
  have e : pProcs (moreC C v) = pProcs C ++ [tickNext] := by
    unfold pProcs moreC
    rw [List.map_append]
    congr 1
    show [[pIns (zi 0 { data := #[] }), pIns (zi 26 { data := #[] })]] = _
    unfold pIns zi tickNext
    rw [empty_list]
  show validB (pNms C) (pProcs (moreC C v)) (C.jb.map pJob) = true
  rw [e]
  exact valid_more h
theorem tailC_valid {C : CodeV} {x : JobV} {l : List JobV} (e : C.jb = x :: l) (h : pValid C = true) : pValid ⟨C.gl, C.lo, C.pr, l⟩ = true := by
  unfold pValid at h
  rw [e] at h
  exact valid_less h
theorem moreC_ok {w V : World} {B base g : Nat} {C : CodeV} {G L P J v : Value} {t : TypeId} (H : C.ok w B G L P J) (q : Below B w V) (hB : B ≤ V.heap.size) {n : Nat} (hn : n = C.pr.length + 1) (hown : V.ownsRow base 38 1 v n (C.pr.map (·.1) ++ [.slice (some ⟨g, 0, none⟩) 2 2]))
    (hg : Blk V g t (insC (zi 0 { data := #[] }) ++ insC (zi 26 { data := #[] })).toArray) : (moreC C (.slice (some ⟨g, 0, none⟩) 2 2)).ok V V.heap.size G L v J := by
  have H2 := (H.below q).more hB
  refine ⟨H2.g, H2.l, H2.ll, ?_, ?_, H2.j, H2.jj⟩
  · have := Sl.of_own hown
    subst hn
    unfold moreC
    simpa using this
  · intro x hx
    rcases List.mem_append.1 hx with hx | hx
    · exact H2.pp x hx
    · rw [List.mem_singleton] at hx
      subst hx
      refine ⟨Sl.of_blk hg hg.lt rfl (by unfold maxLen; omega), fun i hi => ?_⟩
      simp only [List.mem_cons, List.not_mem_nil, or_false] at hi
      rcases hi with rfl | rfl <;> exact zi_ok _ _ _ _ (by unfold I64; omega)
theorem moreC_len {C : CodeV} (v : Value) (h : ∀ r ∈ C.pr, r.2.length ≤ 60) : ∀ r ∈ (moreC C v).pr, r.2.length < 900000 := by
  intro x hx
  rcases List.mem_append.1 hx with hx | hx
  · have := h x hx; omega
  · rw [List.mem_singleton] at hx; subst hx; simp
theorem own_lit0 (w : World) (o : Obj) : ((w.alloc o).alloc (.cells #[] 38)).ownsRow w.heap.size 38 1 (.slice (some ⟨w.heap.size + 1, 0, none⟩) 0 0) 0 [] := by
  have := World.ownsRow_lit (e := 38) (size := 1) (w.alloc o) #[] 0 (base := w.heap.size) (by simp) (by omega) rfl
  simpa using this
theorem more_b (w : World) (o : Obj) : Below w.heap.size w ((w.alloc o).alloc (.cells #[] 38)) := ((Below.refl _ _).alloc (Nat.le_refl _) _).alloc (by simp) _
theorem more_one {w : World} {B : Nat} {l : List (Value × List InsV)} (h : ∀ x ∈ l, rowOk w B x) : ∀ u ∈ l.map (·.1), u.oneCell' = true := by
  intro u hu
  obtain ⟨x, hx, rfl⟩ := List.mem_map.1 hu
  obtain ⟨⟨A, c, e, _⟩, _⟩ := h x hx
  rw [e]; rfl
theorem more_1 {w w5 : World} {o : Obj} (hg : ((w.alloc o).alloc (.cells #[] 38)).grownBy w5 (Value.slice (some ⟨w.heap.size + 1, 0, none⟩) 0 0).ownBlock) : Below w.heap.size w w5 :=
  (more_b w o).grown hg (by simp; omega) (fun k hk => by have : k = w.heap.size + 1 := by simpa [Value.ownBlock] using hk.symm
                                                         omega)
theorem more_k {w w5 : World} {cs : Array Value} {t : TypeId} (hg : ((w.alloc (.cells cs t)).alloc (.cells #[] 38)).grownBy w5 (Value.slice (some ⟨w.heap.size + 1, 0, none⟩) 0 0).ownBlock) : Blk w5 w.heap.size t cs :=
  ((Blk.new w t cs).alloc _).grown hg (by simp [Value.ownBlock])
theorem more_2 (ht : 38 ≠ 29) {w w5 w6 : World} {v5 : Value} {n : Nat} {xs : List Value} {ti : TypeId} {cs ci : Array Value} {o : Obj} (hown : w5.ownsRow w.heap.size 38 1 v5 n xs) (hb : Below w.heap.size w w5) (hk : Blk w5 w.heap.size 29 cs) (hg : ((w5.alloc (.cells ci ti)).alloc o).grownBy w6 v5.ownBlock) :
    Below w.heap.size w w6 ∧ Blk w6 w.heap.size 29 cs ∧ Blk w6 w5.heap.size ti ci := by
  have hl := World.ownsRow.lt hown
  have h5 := hb.size
  refine ⟨((hb.alloc h5 _).alloc (by simp; omega) _).grown hg (by simp; omega) (fun k hk => (hl k hk).1), ((hk.alloc _).alloc _).grown hg (fun e => ?_), ((Blk.new w5 ti ci).alloc _).grown hg (fun e => ?_)⟩
  · exact own_blk_ne hown hk ht e.symm
  · have := hl _ e.symm; omega
theorem more_ok {w w3 w6 w7 : World} {C : CodeV} {G L P J v6 : Value} {g m : Nat} (H : C.ok w w.heap.size G L P J) (h3 : Below w.heap.size w w3) (hz : w.heap.size ≤ w3.heap.size) (h6 : Below w3.heap.size w3 w6) (hk : Blk w6 w3.heap.size 29 #[G, L, P, J]) (hi : Blk w6 g 37 (insC (zi 0 { data := #[] }) ++ insC (zi 26 { data := #[] })).toArray)
    (ho : w6.ownsRow w3.heap.size 38 1 v6 m (C.pr.map (·.1) ++ [.slice (some ⟨g, 0, none⟩) 2 2])) (hm : m = C.pr.length + 1) (hW : w6.setCell ⟨w3.heap.size, 2, none⟩ v6 = w7) :
    (moreC C (.slice (some ⟨g, 0, none⟩) 2 2)).ok w7 w7.heap.size G L v6 J ∧ Blk w7 w3.heap.size 29 #[G, L, v6, J] ∧ Below w3.heap.size w3 w7 ∧ Blk w7 g 37 (insC (zi 0 { data := #[] }) ++ insC (zi 26 { data := #[] })).toArray ∧ w7.ownsRow w3.heap.size 38 1 v6 m (C.pr.map (·.1) ++ [.slice (some ⟨g, 0, none⟩) 2 2]) := by
  subst hW
  have h7 : Below w3.heap.size w3 (w6.setCell ⟨w3.heap.size, 2, none⟩ v6) := h6.setCell (Nat.le_refl _) _
  have hb : Blk (w6.setCell ⟨w3.heap.size, 2, none⟩ v6) w3.heap.size 29 #[G, L, v6, J] := by have := hk.set_ 2 v6; simpa using this
  have ho7 := ownsRow_setCell_other ho (own_blk_ne ho hk (by decide)) (a := ⟨w3.heap.size, 2, none⟩) v6
  have hi7 : Blk (w6.setCell ⟨w3.heap.size, 2, none⟩ v6) g 37 (insC (zi 0 { data := #[] }) ++ insC (zi 26 { data := #[] })).toArray := hi.far (fun e => by
    have e2 : g = w3.heap.size := e
    subst e2
    exact Blk.ne_ hk hi (by decide) rfl) _
  exact ⟨moreC_ok H (h3.trans (h7.mono hz)) (Nat.le_trans hz h7.size) hm ho7 hi7, hb, h7, hi7, ho7⟩
theorem less_ok {w w3 w6 w7 : World} {C : CodeV} {G L P J J' v6 : Value} {g m : Nat} {l : List JobV} (H : C.ok w w.heap.size G L P J) (h3 : Below w.heap.size w w3) (hz : w.heap.size ≤ w3.heap.size) (h6 : Below w3.heap.size w3 w6) (hk : Blk w6 w3.heap.size 29 #[G, L, v6, J]) (hi : Blk w6 g 37 (insC (zi 0 { data := #[] }) ++ insC (zi 26 { data := #[] })).toArray)
    (ho : w6.ownsRow w3.heap.size 38 1 v6 m (C.pr.map (·.1) ++ [.slice (some ⟨g, 0, none⟩) 2 2])) (hm : m = C.pr.length + 1) (hl : ∀ x ∈ l, x ∈ C.jb) (hs : Sl w w.heap.size 4 J' l.length (l.flatMap jobC)) (hW : w6.setCell ⟨w3.heap.size, 3, none⟩ J' = w7) :
    (moreC ⟨C.gl, C.lo, C.pr, l⟩ (.slice (some ⟨g, 0, none⟩) 2 2)).ok w7 w7.heap.size G L v6 J' ∧ Below w3.heap.size w3 w7 := by
  subst hW
  have h7 : Below w3.heap.size w3 (w6.setCell ⟨w3.heap.size, 3, none⟩ J') := h6.setCell (Nat.le_refl _) _
  have ho7 := ownsRow_setCell_other ho (own_blk_ne ho hk (by decide)) (a := ⟨w3.heap.size, 3, none⟩) J'
  have hi7 : Blk (w6.setCell ⟨w3.heap.size, 3, none⟩ J') g 37 (insC (zi 0 { data := #[] }) ++ insC (zi 26 { data := #[] })).toArray := hi.far (fun e => by
    have e2 : g = w3.heap.size := e
    subst e2
    exact Blk.ne_ hk hi (by decide) rfl) _
  have H' : CodeV.ok w w.heap.size ⟨C.gl, C.lo, C.pr, l⟩ G L P J' := ⟨H.g, H.l, H.ll, H.p, H.pp, hs, fun x hx => H.jj x (hl x hx)⟩
  exact ⟨moreC_ok H' (h3.trans (h7.mono hz)) (Nat.le_trans hz h7.size) hm ho7 hi7, h7⟩
theorem tail_sl {w : World} {B c : Nat} {ad : Addr} {jb l : List JobV} {x : JobV} (hr : Reads w B 4 (some ad) jb.length (jb.flatMap jobC)) (hjb : jb = x :: l) (hc : jb.length ≤ c) (hm : c ≤ maxLen) :
    (c = 1 → Sl w B 4 (.slice (some ad) (jb.length - 1) 0) l.length (l.flatMap jobC)) ∧ (¬ c = 1 → Sl w B 4 (.slice (some ⟨ad.block, ad.off + 4, none⟩) (jb.length - 1) (c - 1)) l.length (l.flatMap jobC)) := by
  subst hjb
  refine ⟨fun h1 => ?_, fun h1 => ?_⟩
  · subst h1
    have : l = [] := List.eq_nil_of_length_eq_zero (by simp at hc; simpa using hc)
    subst this
    exact ⟨_, _, rfl, by simp, by unfold maxLen; omega, nofun, by simp [Reads]⟩
  · have h := Reads.cut (k := 1) (cap := c) hr (by simp) hc
    rw [if_neg h1] at h
    have e : (some ad).map (·.add (1 * 4)) = some ⟨ad.block, ad.off + 4, none⟩ := by simp [Addr.add]
    rw [e] at h
    have e2 : ((x :: l).flatMap jobC).drop (1 * 4) = l.flatMap jobC := by rw [List.flatMap_cons]; rfl
    rw [e2] at h
    exact ⟨_, _, rfl, by simp at hc ⊢; omega, by omega, nofun, by simpa using h⟩
theorem Box4.of_blk {w : World} {g : Nat} {t : TypeId} {v0 v1 v2 v3 : Value} (h : Blk w g t #[v0, v1, v2, v3]) : Box4 w g v0 v1 v2 v3 :=
  ⟨by have := h.cell 0; simpa using this, by have := h.cell 1; simpa using this, by have := h.cell 2; simpa using this, by have := h.cell 3; simpa using this, h.frozen 0, h.frozen 1, h.frozen 2, h.frozen 3, h.lt⟩
set_option maxRecDepth 100000 in
set_option maxHeartbeats 3200000 in
theorem cmore_law {w : World} {C : CodeV} {G L P J : Value} (H : C.ok w w.heap.size G L P J) :
    Calls Try.prog 3 #[.agg #[G, L, P, J]] w fun e w' => e = .returned (.bool true) ∧ Below w.heap.size w w' := by
  obtain ⟨A0, c0, e0, _, _, _, _⟩ := H.g
  obtain ⟨A1, c1, e1, _, _, _, _⟩ := H.l
  obtain ⟨A2, c2, e2, hc2, hm2, _, hr2⟩ := H.p
  obtain ⟨A3, c3, e3, hc3, hm3, hn3, hr3⟩ := H.j
  unfold maxLen at hm2 hm3
  subst e0 e1 e2 e3
  have HH := Lib.hid H
  have H2 := Lib.hid hr2
  have H3 := Lib.hid hr3
  obtain ⟨i2, hi2, hy0, hy1, hy2⟩ := info_parts info_insts
  clear H hr2 hr3
  go_enter Try.func3, Try.ntmps3
  go_wp2_with (first
    | (go_at_call 5; refine (awake15_any _).mono ?_; rintro e w1 ⟨rfl, b1⟩; have b4c_1 := Lib.hid ((Box4.make w (.slice A0 C.gl.length c0) (.slice A1 C.lo.length c1) (.slice A2 C.pr.length c2) (.slice A3 C.jb.length c3) 29 rfl).below b1); have b4c_10 := b4c_1.out.c0; have b4c_11 := b4c_1.out.c1; have b4c_12 := b4c_1.out.c2; have b4c_13 := b4c_1.out.c3; have b4c_1f0 := b4c_1.out.f0; have b4c_1f1 := b4c_1.out.f1; have b4c_1f2 := b4c_1.out.f2; have b4c_1f3 := b4c_1.out.f3; have b4c_1z := b4c_1.out.z; have p1 : Below w.heap.size w w1 := Below.trans ((Below.refl _ _).alloc (Nat.le_refl _) (.cells #[.slice A0 C.gl.length c0, .slice A1 C.lo.length c1, .slice A2 C.pr.length c2, .slice A3 C.jb.length c3] 29)) (b1.mono (by simp)); have HB1 := Lib.hid p1; have z1 := p1.size; clear b1 p1)
    | (go_at_call 6; (with_reducible refine (few_any (HH.out.below HB1.out) z1).mono ?_); rintro e w2 ⟨fb, rfl, hfew, b2⟩; have p2 : Below w1.heap.size w1 w2 := Below.trans (by repeat' (first | (with_reducible assumption) | (with_reducible exact Below.refl _ _) | (with_reducible refine Below.drew ?_) | (with_reducible refine below_drewN ?_ _) | (with_reducible refine Below.alloc ?_ ?_ _) | (with_reducible exact Nat.le_refl _) | (simp; done) | (simp; omega) | omega)) (Below.mono b2 (by first | omega | (simp; done) | (simp; omega))); have b4c_2 := Lib.hid (Box4.below b4c_1.out p2); have b4c_20 := b4c_2.out.c0; have b4c_21 := b4c_2.out.c1; have b4c_22 := b4c_2.out.c2; have b4c_23 := b4c_2.out.c3; have b4c_2f0 := b4c_2.out.f0; have b4c_2f1 := b4c_2.out.f1; have b4c_2f2 := b4c_2.out.f2; have b4c_2f3 := b4c_2.out.f3; have b4c_2z := b4c_2.out.z; have HB2 := Lib.hid (HB1.out.trans (p2.mono z1)); have HF := Lib.hid hfew; clear hfew; cases fb)
    | fail)
  · (try simp only [Exit.inBlock, Exit.then]); refine bodyPost_ret (by simp [results, Try.results3, go_sem, *]; try rfl) rfl ?_
    exact ⟨rfl, HB2.out⟩
  generalize hpv : pValid C = pv
  have HP := Lib.hid hpv
  clear hpv
  have hF := (HF.out trivial).2
  have hp8 := (HF.out trivial).1
  have HF2 := Lib.hid hF
  have hz2 := HB2.out.size
  clear hF HF
  cases pv with
  | false =>
    go_wp2_with (first
      | (go_at_call 7; (with_reducible refine (valid_is (HH.out.below HB2.out) hz2 (fun r hr => Nat.lt_of_le_of_lt (HF2.out r hr) (by omega)) HP.out).mono ?_); rintro e w3 ⟨rfl, b3⟩; have p3 : Below w2.heap.size w2 w3 := Below.trans (by repeat' (first | (with_reducible assumption) | (with_reducible exact Below.refl _ _) | (with_reducible refine Below.drew ?_) | (with_reducible refine below_drewN ?_ _) | (with_reducible refine Below.alloc ?_ ?_ _) | (with_reducible exact Nat.le_refl _) | (simp; done) | (simp; omega) | omega)) (Below.mono b3 (by first | omega | (simp; done) | (simp; omega))); have b4c_3 := Lib.hid (Box4.below b4c_2.out p3); have b4c_30 := b4c_3.out.c0; have b4c_31 := b4c_3.out.c1; have b4c_32 := b4c_3.out.c2; have b4c_33 := b4c_3.out.c3; have b4c_3f0 := b4c_3.out.f0; have b4c_3f1 := b4c_3.out.f1; have b4c_3f2 := b4c_3.out.f2; have b4c_3f3 := b4c_3.out.f3; have b4c_3z := b4c_3.out.z)
      | fail)
    (try simp only [Exit.inBlock, Exit.then]); refine bodyPost_ret (by simp [results, Try.results3, go_sem, *]; try rfl) rfl ?_
    exact ⟨rfl, ((below_step HB2.out p3))⟩
  | true =>
    go_wp2_with (first
      | (go_at_call 7; (with_reducible refine (valid_is (HH.out.below HB2.out) hz2 (fun r hr => Nat.lt_of_le_of_lt (HF2.out r hr) (by omega)) HP.out).mono ?_); rintro e w3 ⟨rfl, b3⟩; have p3 : Below w2.heap.size w2 w3 := Below.trans (by repeat' (first | (with_reducible assumption) | (with_reducible exact Below.refl _ _) | (with_reducible refine Below.drew ?_) | (with_reducible refine below_drewN ?_ _) | (with_reducible refine Below.alloc ?_ ?_ _) | (with_reducible exact Nat.le_refl _) | (simp; done) | (simp; omega) | omega)) (Below.mono b3 (by first | omega | (simp; done) | (simp; omega))); have b4c_3 := Lib.hid (Box4.below b4c_2.out p3); have b4c_30 := b4c_3.out.c0; have b4c_31 := b4c_3.out.c1; have b4c_32 := b4c_3.out.c2; have b4c_33 := b4c_3.out.c3; have b4c_3f0 := b4c_3.out.f0; have b4c_3f1 := b4c_3.out.f1; have b4c_3f2 := b4c_3.out.f2; have b4c_3f3 := b4c_3.out.f3; have b4c_3z := b4c_3.out.z; have HB3 := Lib.hid (HB2.out.trans (p3.mono hz2)); have hz3 := p3.size; have hz33 : w.heap.size ≤ w3.heap.size := Nat.le_trans hz2 hz3)
      | (at_builtin; (with_reducible refine wpList_append_any _ rfl (.tmp 15) (.tmp 17) 26 rfl w3.heap.size 38 i2 (.slice none 0 0) 1 24 Try.underlying26 hi2 hy0 hy1 hy2 rfl (by decide) (.slice (some ⟨w3.heap.size + 1, 0, none⟩) 0 0) 0 [] (by simp [Act.eval, Act.put]) (own_lit0 _ (.cells #[.slice A0 C.gl.length c0, .slice A1 C.lo.length c1, .slice A2 C.pr.length c2, .slice A3 C.jb.length c3] 29)) w.heap.size A2 C.pr.length c2 (C.pr.map (·.1)) (by simp [Act.eval, Act.put]) (H2.out.below (HB3.out.trans (Below.mono (more_b w3 (.cells #[.slice A0 C.gl.length c0, .slice A1 C.lo.length c1, .slice A2 C.pr.length c2, .slice A3 C.jb.length c3] 29)) hz33))) (more_one HH.out.pp) (by unfold maxLen; omega) (by omega) (by simp; omega) ?_); intro v5 w5 hown5 hg5 _; have HB5 := Lib.hid (more_1 hg5); have HK5 := Lib.hid (more_k hg5); have hz5 := HB5.out.size; rw [Nat.zero_add, List.nil_append] at hown5; have HO5 := Lib.hid hown5; obtain ⟨A5, c5, hv5, hn51, hn52⟩ := own_slice hown5; subst hv5; clear hown5 hg5)
      | (at_builtin; (with_reducible refine wpList_append_any _ rfl (.tmp 18) (.tmp 22) 26 rfl w3.heap.size 38 i2 (.slice none 0 0) 1 24 Try.underlying26 hi2 hy0 hy1 hy2 rfl (by decide) (.slice A5 C.pr.length c5) C.pr.length _ (by simp [Act.eval, Act.put]) (World.ownsRow.alloc (World.ownsRow.alloc HO5.out _) _) _ (some ⟨w5.heap.size + 1, 0, none⟩) 1 1 [.slice (some ⟨w5.heap.size, 0, none⟩) 2 2] (by simp [Act.eval, Act.put]) (reads_new rfl (by simp)) (by simp [Value.oneCell']) (by unfold maxLen; omega) (by omega) (by simp; omega) ?_); intro v6 w6 hown6 hg6 _; have HF6 := Lib.hid (more_2 (by decide) HO5.out HB5.out HK5.out (show (w5.alloc (.cells (insC (zi 0 { data := #[] }) ++ insC (zi 26 { data := #[] })).toArray 37)).alloc _ |>.grownBy w6 _ from hg6)); have k0 := HF6.out.2.1.cell 0; have k1 := HF6.out.2.1.cell 1; have k2 := HF6.out.2.1.cell 2; have k3 := HF6.out.2.1.cell 3; have q6 := HF6.out.1; have b4c_6 := Lib.hid (Box4.below b4c_3.out q6); have b4c_60 := b4c_6.out.c0; have b4c_61 := b4c_6.out.c1; have b4c_62 := b4c_6.out.c2; have b4c_63 := b4c_6.out.c3; have b4c_6f0 := b4c_6.out.f0; have b4c_6f1 := b4c_6.out.f1; have b4c_6f2 := b4c_6.out.f2; have b4c_6f3 := b4c_6.out.f3; have b4c_6z := b4c_6.out.z; have f2 := HF6.out.2.1.frozen 2; simp only [List.getElem?_toArray, List.getElem?_cons_succ, List.getElem?_cons_zero] at k0 k1 k2 k3; have z6 := HF6.out.2.1.lt; have HO6 := Lib.hid hown6; clear q6; obtain ⟨A6, c6, hv6, hn61, hn62⟩ := own_slice hown6; subst hv6; clear hown6 hg6)
      | fail)
    clear k0 k1 k2 k3
    generalize hW : (World.setCell w6 _ _ : World) = w7
    have HM7 := Lib.hid (more_ok HH.out (HB3.out) hz33 HF6.out.1 HF6.out.2.1 HF6.out.2.2 HO6.out rfl hW)
    have q7 := HM7.out.2.2.1
    have b4c_7 := Lib.hid (Box4.below b4c_3.out q7); have b4c_70 := b4c_7.out.c0; have b4c_71 := b4c_7.out.c1; have b4c_72 := b4c_7.out.c2; have b4c_73 := b4c_7.out.c3; have b4c_7f0 := b4c_7.out.f0; have b4c_7f1 := b4c_7.out.f1; have b4c_7f2 := b4c_7.out.f2; have b4c_7f3 := b4c_7.out.f3; have b4c_7z := b4c_7.out.z
    have b4m_7 := Lib.hid (Box4.of_blk HM7.out.2.1); have b4m_70 := b4m_7.out.c0; have b4m_71 := b4m_7.out.c1; have b4m_72 := b4m_7.out.c2; have b4m_73 := b4m_7.out.c3; have b4m_7f0 := b4m_7.out.f0; have b4m_7f1 := b4m_7.out.f1; have b4m_7f2 := b4m_7.out.f2; have b4m_7f3 := b4m_7.out.f3; have b4m_7z := b4m_7.out.z
    have HB7 := Lib.hid (HB3.out.trans (q7.mono hz33))
    have hz7 := q7.size
    clear b4c_1 b4c_1z b4c_10 b4c_11 b4c_12 b4c_13 b4c_1f0 b4c_1f1 b4c_1f2 b4c_1f3 b4c_2 b4c_2z b4c_20 b4c_21 b4c_22 b4c_23 b4c_2f0 b4c_2f1 b4c_2f2 b4c_2f3 b4c_3 b4c_3z b4c_30 b4c_31 b4c_32 b4c_33 b4c_3f0 b4c_3f1 b4c_3f2 b4c_3f3 b4c_6 b4c_6z b4c_60 b4c_61 b4c_62 b4c_63 b4c_6f0 b4c_6f1 b4c_6f2 b4c_6f3
    have HB33 := HB3
    clear q7 hW HB5 HK5 HF6 HO6 f2 z6 p2 p3 HB2 HB3
    by_cases hj0 : C.jb.length = 0
    · have d0 : decide (0 < C.jb.length) = false := by simpa using hj0
      clear hj0
      go_wp2_with (first
        | (go_at_call 7; (with_reducible refine (valid_is HM7.out.1 (Nat.le_refl _) (moreC_len _ HF2.out) (moreC_valid _ HP.out)).mono ?_); rintro e w8 ⟨rfl, b8⟩; have p8 : Below w7.heap.size w7 w8 := Below.trans (by repeat' (first | (with_reducible assumption) | (with_reducible exact Below.refl _ _) | (with_reducible refine Below.drew ?_) | (with_reducible refine below_drewN ?_ _) | (with_reducible refine Below.alloc ?_ ?_ _) | (with_reducible exact Nat.le_refl _) | (simp; done) | (simp; omega) | omega)) (Below.mono b8 (by first | omega | (simp; done) | (simp; omega))); have b4c_8 := Lib.hid (Box4.below b4c_7.out p8); have b4c_80 := b4c_8.out.c0; have b4c_81 := b4c_8.out.c1; have b4c_82 := b4c_8.out.c2; have b4c_83 := b4c_8.out.c3; have b4c_8f0 := b4c_8.out.f0; have b4c_8f1 := b4c_8.out.f1; have b4c_8f2 := b4c_8.out.f2; have b4c_8f3 := b4c_8.out.f3; have b4c_8z := b4c_8.out.z; have b4m_8 := Lib.hid (Box4.below b4m_7.out p8); have b4m_80 := b4m_8.out.c0; have b4m_81 := b4m_8.out.c1; have b4m_82 := b4m_8.out.c2; have b4m_83 := b4m_8.out.c3; have b4m_8f0 := b4m_8.out.f0; have b4m_8f1 := b4m_8.out.f1; have b4m_8f2 := b4m_8.out.f2; have b4m_8f3 := b4m_8.out.f3; have b4m_8z := b4m_8.out.z)
        | (go_at_call 7; (with_reducible refine (valid_is (HM7.out.1.below p8) p8.size (moreC_len _ HF2.out) (moreC_valid _ HP.out)).mono ?_); rintro e w9 ⟨rfl, b9⟩; have p9 : Below w8.heap.size w8 w9 := Below.trans (by repeat' (first | (with_reducible assumption) | (with_reducible exact Below.refl _ _) | (with_reducible refine Below.drew ?_) | (with_reducible refine below_drewN ?_ _) | (with_reducible refine Below.alloc ?_ ?_ _) | (with_reducible exact Nat.le_refl _) | (simp; done) | (simp; omega) | omega)) (Below.mono b9 (by first | omega | (simp; done) | (simp; omega))); have b4c_9 := Lib.hid (Box4.below b4c_8.out p9); have b4c_90 := b4c_9.out.c0; have b4c_91 := b4c_9.out.c1; have b4c_92 := b4c_9.out.c2; have b4c_93 := b4c_9.out.c3; have b4c_9f0 := b4c_9.out.f0; have b4c_9f1 := b4c_9.out.f1; have b4c_9f2 := b4c_9.out.f2; have b4c_9f3 := b4c_9.out.f3; have b4c_9z := b4c_9.out.z; have b4m_9 := Lib.hid (Box4.below b4m_8.out p9); have b4m_90 := b4m_9.out.c0; have b4m_91 := b4m_9.out.c1; have b4m_92 := b4m_9.out.c2; have b4m_93 := b4m_9.out.c3; have b4m_9f0 := b4m_9.out.f0; have b4m_9f1 := b4m_9.out.f1; have b4m_9f2 := b4m_9.out.f2; have b4m_9f3 := b4m_9.out.f3; have b4m_9z := b4m_9.out.z)
        | fail)
      (try simp only [Exit.inBlock, Exit.then]); refine bodyPost_ret (by simp [results, Try.results3, go_sem, *]; try rfl) rfl ?_
      exact ⟨rfl, ((below_step (below_step HB7.out p8) p9))⟩
    · have d0 : decide (0 < C.jb.length) = true := by simp; omega
      obtain ⟨ad3, rfl, hb3, _⟩ := H3.out.2 (by omega)
      go_wp2_with (first
        | (go_at_call 7; (with_reducible refine (valid_is HM7.out.1 (Nat.le_refl _) (moreC_len _ HF2.out) (moreC_valid _ HP.out)).mono ?_); rintro e w8 ⟨rfl, b8⟩; have p8 : Below w7.heap.size w7 w8 := Below.trans (by repeat' (first | (with_reducible assumption) | (with_reducible exact Below.refl _ _) | (with_reducible refine Below.drew ?_) | (with_reducible refine below_drewN ?_ _) | (with_reducible refine Below.alloc ?_ ?_ _) | (with_reducible exact Nat.le_refl _) | (simp; done) | (simp; omega) | omega)) (Below.mono b8 (by first | omega | (simp; done) | (simp; omega))); have b4c_8 := Lib.hid (Box4.below b4c_7.out p8); have b4c_80 := b4c_8.out.c0; have b4c_81 := b4c_8.out.c1; have b4c_82 := b4c_8.out.c2; have b4c_83 := b4c_8.out.c3; have b4c_8f0 := b4c_8.out.f0; have b4c_8f1 := b4c_8.out.f1; have b4c_8f2 := b4c_8.out.f2; have b4c_8f3 := b4c_8.out.f3; have b4c_8z := b4c_8.out.z; have b4m_8 := Lib.hid (Box4.below b4m_7.out p8); have b4m_80 := b4m_8.out.c0; have b4m_81 := b4m_8.out.c1; have b4m_82 := b4m_8.out.c2; have b4m_83 := b4m_8.out.c3; have b4m_8f0 := b4m_8.out.f0; have b4m_8f1 := b4m_8.out.f1; have b4m_8f2 := b4m_8.out.f2; have b4m_8f3 := b4m_8.out.f3; have b4m_8z := b4m_8.out.z)
        | fail)
      all_goals
        generalize hW9 : (World.setCell w8 _ _ : World) = w9
        obtain ⟨x, l, hjb⟩ : ∃ x l, C.jb = x :: l := by
          cases e : C.jb with
          | nil => rw [e] at hj0; exact absurd rfl hj0
          | cons x l => exact ⟨x, l, rfl⟩
        have hts := tail_sl H3.out hjb hc3 (by unfold maxLen; omega)
        have hlm : ∀ y ∈ l, y ∈ C.jb := fun y hy => by rw [hjb]; exact List.mem_cons_of_mem _ hy
        obtain ⟨hok, q9⟩ := less_ok HH.out (w6 := w8) HB33.out hz33 (HM7.out.2.2.1.trans (p8.mono hz7)) (HM7.out.2.1.below p8 HM7.out.2.1.lt) (HM7.out.2.2.2.1.below p8 HM7.out.2.2.2.1.lt) (ownsRow_below HM7.out.2.2.2.2 p8) rfl hlm (by first | exact hts.1 (by assumption) | exact hts.2 (by assumption)) hW9
        have hz9 := q9.size
        have hv9 := moreC_valid (C := ⟨C.gl, C.lo, C.pr, l⟩) (.slice (some ⟨w5.heap.size, 0, none⟩) 2 2) (tailC_valid hjb HP.out)
        go_wp2_with (first
          | (go_at_call 7; (with_reducible refine (valid_is hok (Nat.le_refl _) (moreC_len (C := ⟨C.gl, C.lo, C.pr, l⟩) _ HF2.out) hv9).mono ?_); rintro e w10 ⟨rfl, b10⟩; have z10 := Below.size b10; (try simp at z10))
          | fail)
        (try simp only [Exit.inBlock, Exit.then]); refine bodyPost_ret (by simp [results, Try.results3, go_sem, *]; try rfl) rfl ?_
        exact ⟨rfl, (HB33.out.trans (q9.mono hz33)).trans (b10.mono (by omega))⟩
end Go.Proofs.Ytanbplnagcmlcaa
