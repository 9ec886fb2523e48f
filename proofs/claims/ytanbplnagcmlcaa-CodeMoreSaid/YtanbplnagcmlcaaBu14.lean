/- Several texts put together: CodT, CodU. -/
import Derived.Test.YtanbplnagcmlcaaBu13
/- Layer 15: whether code may be run. -/
namespace Go.Proofs.Ytanbplnagcmlcaa
open Go.RowKit
theorem jobB_eq (lo pr : Nat) (kind body : Int) (ps : List Int) (bare : Bool) (n : Nat) (h1 : 1 ≤ kind ∧ kind ≤ 7) (h2 : (if kind = 7 then (2 : Int) else if kind = 6 then 1 else 0) = n) : jobB lo pr ⟨kind, ps, body, bare⟩ = (decide (ps.length = n) && (bare || ownB lo pr body) && ps.all (ownB lo pr)) := by
  unfold jobB
  dsimp only
  rw [h2, decide_eq_true h1, Bool.true_and]
  congr 3
  exact propext ⟨fun h => by omega, fun h => by omega⟩
theorem job_any {w : World} {B : Nat} {C : CodeV} {G L P J : Value} (H : C.ok w B G L P J) (hB : B ≤ w.heap.size) (x : JobV) (hx : x.ok w B) :
    Calls Try.prog 9 #[.agg #[G, L, P, J], .agg #[.int .i64 x.kind, x.P, .int .i64 x.body, .bool x.bare]] w (BoolPost w (jobB C.lo.length C.pr.length (pJob x))) := by
  obtain ⟨A1, c1, e1, _, hc1, _, _⟩ := H.l
  obtain ⟨A2, c2, e2, _, hc2, _, _⟩ := H.p
  obtain ⟨hk, hb, hi, A3, c3, e3, hd1, hd2, _, hr⟩ := hx
  obtain ⟨kind, P', ps, body, bare⟩ := x
  dsimp only at *
  subst e1 e2 e3
  have hlo := Sl.len H.l
  have hpr := Sl.len H.p
  show Calls _ _ _ w (BoolPost w (jobB C.lo.length C.pr.length ⟨kind, ps, body, bare⟩))
  by_cases hk7 : 1 ≤ kind ∧ kind ≤ 7
  · have hkk : kind = 7 ∨ kind = 6 ∨ kind = 1 ∨ kind = 2 ∨ kind = 3 ∨ kind = 4 ∨ kind = 5 := by omega
    rcases hkk with rfl | rfl | rfl | rfl | rfl | rfl | rfl
    · rw [jobB_eq _ _ _ _ _ _ 2 (by omega) rfl]; exact job_7 hlo hpr hr hB hi hd1 hd2 body hb bare
    · rw [jobB_eq _ _ _ _ _ _ 1 (by omega) rfl]; exact job_6 hlo hpr hr hB hi hd1 hd2 body hb bare
    · rw [jobB_eq _ _ _ _ _ _ 0 (by omega) rfl]; exact job_1 hlo hpr hr hB hi hd1 hd2 body hb bare
    · rw [jobB_eq _ _ _ _ _ _ 0 (by omega) rfl]; exact job_2 hlo hpr hr hB hi hd1 hd2 body hb bare
    · rw [jobB_eq _ _ _ _ _ _ 0 (by omega) rfl]; exact job_3 hlo hpr hr hB hi hd1 hd2 body hb bare
    · rw [jobB_eq _ _ _ _ _ _ 0 (by omega) rfl]; exact job_4 hlo hpr hr hB hi hd1 hd2 body hb bare
    · rw [jobB_eq _ _ _ _ _ _ 0 (by omega) rfl]; exact job_5 hlo hpr hr hB hi hd1 hd2 body hb bare
  · rw [show jobB C.lo.length C.pr.length ⟨kind, ps, body, bare⟩ = false from by unfold jobB; dsimp only; rw [decide_eq_false hk7]; rfl]
    exact job_bad kind body bare hk7
theorem jobs_at {w : World} {B j n : Nat} {A : Option Addr} {l : List JobV} (hl : l.length = n) (h : Reads w B 4 A n (l.flatMap jobC)) (hj : j < n) :
    ∃ ad q x, A = some ad ∧ ad.add (j * 4) = q ∧ q.block < B ∧ l[j]? = some x ∧ w.cell? q = some (.int .i64 x.kind) ∧ w.cell? ⟨q.block, q.off + 1, none⟩ = some x.P ∧ w.cell? ⟨q.block, q.off + 2, none⟩ = some (.int .i64 x.body) ∧ w.cell? ⟨q.block, q.off + 3, none⟩ = some (.bool x.bare) := by
  obtain ⟨ad, e, hb, hc⟩ := reads_at h hj
  have hcell : ∀ i v, (jobC l[j])[i]? = some v → w.cell? ((ad.add (j * 4)).add i) = some v := by
    intro i v hi
    have hi4 : i < 4 := by
      have := (List.getElem?_eq_some_iff.1 hi).1
      simpa [jobC] using this
    obtain ⟨u, h0, c0⟩ := hc i hi4
    rw [flat_at jobC 4 (fun _ => rfl) l j _ (by omega) (by omega), hi] at h0
    injection h0 with h0
    subst h0
    rw [add_of_add]
    exact c0
  exact ⟨ad, _, l[j], e, rfl, by rw [block_of_add]; exact hb, List.getElem?_eq_getElem (by omega), hcell 0 _ rfl, hcell 1 _ rfl, hcell 2 _ rfl, hcell 3 _ rfl⟩
theorem procs_iff (g : Nms) : ∀ (l : List (List Ins)) (i : Nat), procsB g i l = true ↔ ∀ k p, l[k]? = some p → (heightsOf g (mineOf g (i + k)) p).isSome = true
  | [], i => by simp [procsB]
  | q :: l, i => by
    rw [procsB, Bool.and_eq_true, procs_iff g l (i + 1)]
    constructor
    · rintro ⟨h1, h2⟩ k p hp
      cases k with
      | zero => injection hp with hp; subst hp; exact h1
      | succ k => have := h2 k p hp; rwa [show i + 1 + k = i + (k + 1) by omega] at this
    · intro h
      refine ⟨h 0 q rfl, fun k p hp => ?_⟩
      have := h (k + 1) p hp
      rwa [show i + (k + 1) = i + 1 + k by omega] at this
theorem hRes_at {C : CodeV} {k : Nat} {row : Value × List InsV} (h : C.pr[k]? = some row) : hRes C (k : Int) = heightsOf (pNms C) (mineOf (pNms C) k) (row.2.map pIns) := by
  unfold hRes
  rw [atI_nat, h, Int.toNat_natCast]
theorem procs_yes {C : CodeV} (h : ∀ k, k < C.pr.length → (hRes C (k : Int)).isSome = true) : procsB (pNms C) 0 (pProcs C) = true := by
  rw [procs_iff]
  intro k p hp
  unfold pProcs at hp
  rw [List.getElem?_map] at hp
  cases e : C.pr[k]? with
  | none => rw [e] at hp; cases hp
  | some row =>
    rw [e] at hp
    injection hp with hp
    subst hp
    have := h k (List.getElem?_eq_some_iff.1 e).1
    rw [hRes_at e] at this
    rw [Nat.zero_add]; exact this
theorem procs_no {C : CodeV} {k : Nat} (hk : k < C.pr.length) (h : hRes C (k : Int) = none) : procsB (pNms C) 0 (pProcs C) = false := by
  rw [← Bool.not_eq_true, procs_iff]
  intro hall
  have e := List.getElem?_eq_getElem hk
  have := hall k (C.pr[k].2.map pIns) (by unfold pProcs; rw [List.getElem?_map, e]; rfl)
  rw [Nat.zero_add, ← hRes_at e, h] at this
  cases this
theorem pValid_eq (C : CodeV) : pValid C = (decide (C.lo.length ≤ C.pr.length) && C.lo.all (fun x => decide (x.2.length ≤ 16)) && procsB (pNms C) 0 (pProcs C) && C.jb.all (fun x => jobB C.lo.length C.pr.length (pJob x))) := by
  unfold pValid validB
  have e1 : (pNms C).lo.length = C.lo.length := by unfold pNms; simp
  have e2 : (pProcs C).length = C.pr.length := by unfold pProcs; simp
  have e3 : (pNms C).lo.all (fun l => decide (l.length ≤ 16)) = C.lo.all (fun x => decide (x.2.length ≤ 16)) := by
    unfold pNms; rw [List.all_map]; congr 1; funext x; simp
  have e4 : (C.jb.map pJob).all (jobB C.lo.length C.pr.length) = C.jb.all (fun x => jobB C.lo.length C.pr.length (pJob x)) := by
    rw [List.all_map]; rfl
  rw [e1, e2, e3, e4]
def PreL (C : CodeV) (j : Nat) : Prop := (C.lo.take j).all (fun x => decide (x.2.length ≤ 16)) = true
def PreP (C : CodeV) (j : Nat) : Prop := ∀ k, k < j → (hRes C (k : Int)).isSome = true
def PreJ (C : CodeV) (j : Nat) : Prop := (C.jb.take j).all (fun x => jobB C.lo.length C.pr.length (pJob x)) = true
theorem all_notG {α : Type} {l : List α} {f : α → Bool} {j : Nat} {v : α} (h : l[j]? = some v) (hf : f v = false) : l.all f = false := by
  rw [← Bool.not_eq_true, List.all_eq_true]
  intro hall
  have := hall v (List.mem_of_getElem? h)
  rw [hf] at this; cases this
theorem all_nextG {α : Type} {l : List α} {f : α → Bool} {j : Nat} {v : α} (ha : (l.take j).all f = true) (h : l[j]? = some v) (hf : f v = true) : (l.take (j + 1)).all f = true := by
  rw [List.take_add_one, h, List.all_append, ha]
  simp [hf]
set_option maxRecDepth 100000 in
set_option maxHeartbeats 1600000 in
theorem valid_any {w : World} {B : Nat} {C : CodeV} {G L P J : Value} (H : C.ok w B G L P J) (hB : B ≤ w.heap.size) (hlen : ∀ r ∈ C.pr, r.2.length < 900000) :
    Calls Try.prog 7 #[.agg #[G, L, P, J]] w (BoolPost w (pValid C)) := by
  rw [pValid_eq]
  obtain ⟨A1, c1, e1, hc1, hm1, _, hr1⟩ := H.l
  obtain ⟨A2, c2, e2, hc2, hm2, _, hr2⟩ := H.p
  obtain ⟨A3, c3, e3, hc3, hm3, _, hr3⟩ := H.j
  unfold maxLen at hm1 hm2 hm3
  subst e1 e2 e3
  have HH := Lib.hid H
  have H1 := Lib.hid hr1
  have H3 := Lib.hid hr3
  have HLEN := Lib.hid hlen
  clear H hr1 hr2 hr3 hlen
  by_cases h0 : C.lo.length ≤ C.pr.length
  · rw [decide_eq_true h0, Bool.true_and]
    have h0d : decide (C.pr.length < C.lo.length) = false := by simpa using h0
    go_enter Try.func7, Try.ntmps7
    go_wp2
    generalize hW : (World.alloc _ _ : World) = W9
    have hb9 : Blk W9 w.heap.size 29 #[G, .slice A1 C.lo.length c1, .slice A2 C.pr.length c2, .slice A3 C.jb.length c3] := by rw [← hW]; exact Blk.new _ _ _
    have HB9 := Lib.hid hb9
    have HW9 : Hid (Below w.heap.size w W9) := Lib.hid (by rw [← hW]; (repeat' (first | (with_reducible exact Below.refl _ _) | (refine Below.trans ?_ (Below.mono (by with_reducible assumption) ?_)) | (with_reducible exact Below.refl _ _) | (with_reducible refine below_drewN ?_ _) | (with_reducible refine Below.drew ?_) | (with_reducible refine Below.setCell ?_ ?_ _) | (with_reducible refine Below.alloc ?_ ?_ _) | (with_reducible assumption) | (simp; done) | (simp; omega) | omega)))
    clear hW hb9
    go_loopw [22] (fun i wr => ∃ j : Nat, i = .int .i64 (j : Int) ∧ j ≤ C.lo.length ∧ Hid (PreL C j) ∧ Hid (Blk wr w.heap.size 29 #[G, .slice A1 C.lo.length c1, .slice A2 C.pr.length c2, .slice A3 C.jb.length c3]) ∧ Hid (Below w.heap.size w wr)) (fun i _ => C.lo.length - (intOf i).toNat)
    case atStart => exact ⟨0, rfl, Nat.zero_le _, Lib.hid rfl, HB9, HW9⟩
    case round =>
      obtain ⟨j, rfl, hj, HA, HBr, HWr⟩ := hrel
      by_cases hlt : j < C.lo.length
      · obtain ⟨ad, q, v, rfl, hq, hqb, hv, hcell⟩ := vals_at (H1.out.below (HWr.out.mono hB)) hlt
        have hlok := HH.out.ll _ (List.getElem_mem hlt)
        rw [List.getElem?_map, List.getElem?_eq_getElem hlt] at hv
        injection hv with hv
        have hqw : q.block < wr.heap.size := by have := HWr.out.size; omega
        have hel := List.getElem?_eq_getElem hlt
        generalize C.lo[j] = lv at hlok hv hel
        obtain ⟨A4, c4, e4, hd4, hm4, _, _⟩ := hlok
        have hl4 := hm4
        unfold maxLen at hl4
        dsimp only at hv
        rw [e4] at hv
        subst hv
        have HEL := Lib.hid hel
        clear hel hqb e4
        by_cases h16 : lv.2.length ≤ 16
        · have h16d : decide (16 < lv.2.length) = false := by simpa using h16
          go_wp2
          go_roundw
          case rel => exact ⟨j + 1, by go_num, by omega, Lib.hid (all_nextG HA.out HEL.out (decide_eq_true h16)), HBr, HWr⟩
          case measure => simp [intOf]; omega
        · have h16d : decide (16 < lv.2.length) = true := by simp; omega
          go_wp2
          (try simp only [Exit.inBlock, Exit.then]); refine bodyPost_ret (by simp [results, Try.results7, go_sem, *]; try rfl) rfl ?_
          exact ⟨by rw [all_notG HEL.out (decide_eq_false h16)]; rfl, by first | exact HWr.out | (repeat' (first | (with_reducible exact Below.refl _ _) | (refine Below.trans ?_ (Below.mono (by with_reducible assumption) ?_)) | (with_reducible exact Below.refl _ _) | (with_reducible refine below_drewN ?_ _) | (with_reducible refine Below.drew ?_) | (with_reducible refine Below.setCell ?_ ?_ _) | (with_reducible refine Below.alloc ?_ ?_ _) | (with_reducible assumption) | (simp; done) | (simp; omega) | omega))⟩
      · obtain rfl : j = C.lo.length := by omega
        have hA : (C.lo.take C.lo.length).all (fun x => decide (x.2.length ≤ 16)) = true := HA.out
        rw [List.take_length] at hA
        have HL := Lib.hid hA
        have k1 := HBr.out.cell 1
        have k2 := HBr.out.cell 2
        have k3 := HBr.out.cell 3
        have kz := HBr.out.lt
        simp only [List.getElem?_toArray, List.getElem?_cons_succ, List.getElem?_cons_zero] at k1 k2 k3
        clear hA HA
        go_wp2
        clear k1 k2 k3 kz
        go_loopw [33] (fun i wr => ∃ j : Nat, i = .int .i64 (j : Int) ∧ j ≤ C.pr.length ∧ Hid (PreP C j) ∧ Hid (Blk wr w.heap.size 29 #[G, .slice A1 C.lo.length c1, .slice A2 C.pr.length c2, .slice A3 C.jb.length c3]) ∧ Hid (Below w.heap.size w wr)) (fun i _ => C.pr.length - (intOf i).toNat)
        case atStart => exact ⟨0, rfl, Nat.zero_le _, Lib.hid (fun k hk => absurd hk (Nat.not_lt_zero k)), HBr, HWr⟩
        case round =>
          clear HBr HWr
          obtain ⟨j, rfl, hj, HP, HBr, HWr⟩ := hrel
          have k0 := HBr.out.cell 0
          have k1 := HBr.out.cell 1
          have k2 := HBr.out.cell 2
          have k3 := HBr.out.cell 3
          have kz := HBr.out.lt
          simp only [List.getElem?_toArray, List.getElem?_cons_succ, List.getElem?_cons_zero] at k0 k1 k2 k3
          by_cases hlt : j < C.pr.length
          · have hbw := HWr.out.size
            have hj64 : I64 (j : Int) := by unfold I64; omega
            generalize hq : hRes C (j : Int) = hr
            have HQ := Lib.hid hq
            clear hq
            cases hr with
            | none =>
              go_wp2_with (go_at_call 8; (with_reducible refine (heights_any (HH.out.below (by first | exact HWr.out.mono hB | exact (HWr.out.trans (by (repeat' (first | (with_reducible exact Below.refl _ _) | (refine Below.trans ?_ (Below.mono (by with_reducible assumption) ?_)) | (with_reducible exact Below.refl _ _) | (with_reducible refine below_drewN ?_ _) | (with_reducible refine Below.drew ?_) | (with_reducible refine Below.setCell ?_ ?_ _) | (with_reducible refine Below.alloc ?_ ?_ _) | (with_reducible assumption) | (simp; done) | (simp; omega) | omega)))).mono hB)) (by first | omega | (simp; omega)) (j : Int) hj64 HLEN.out).mono ?_); rw [HQ.out]; rintro e w5 ⟨b5, rfl⟩)
              (try simp only [Exit.inBlock, Exit.then]); refine bodyPost_ret (by simp [results, Try.results7, go_sem, *]; try rfl) rfl ?_
              exact ⟨by rw [HL.out, procs_no hlt HQ.out]; rfl, HWr.out.trans (b5.mono (by first | omega | (simp; omega)))⟩
            | some l =>
              go_wp2_with (go_at_call 8; (with_reducible refine (heights_any (HH.out.below (by first | exact HWr.out.mono hB | exact (HWr.out.trans (by (repeat' (first | (with_reducible exact Below.refl _ _) | (refine Below.trans ?_ (Below.mono (by with_reducible assumption) ?_)) | (with_reducible exact Below.refl _ _) | (with_reducible refine below_drewN ?_ _) | (with_reducible refine Below.drew ?_) | (with_reducible refine Below.setCell ?_ ?_ _) | (with_reducible refine Below.alloc ?_ ?_ _) | (with_reducible assumption) | (simp; done) | (simp; omega) | omega)))).mono hB)) (by first | omega | (simp; omega)) (j : Int) hj64 HLEN.out).mono ?_); rw [HQ.out]; rintro e w5 ⟨b5, A5, n5, rfl, _, _⟩; have HB5 := Lib.hid (HBr.out.below (show Below wr.heap.size wr w5 from b5) HBr.out.lt); have HW5 := Lib.hid (HWr.out.trans ((show Below wr.heap.size wr w5 from b5).mono (by omega))); clear b5)
              go_roundw
              case rel => exact ⟨j + 1, by go_num, by omega, Lib.hid (fun k hk => by
                rcases Nat.lt_or_ge k j with h | h
                · exact HP.out k h
                · rw [show k = j by omega, HQ.out]; rfl), HB5, HW5⟩
              case measure => simp [intOf]; omega
          · obtain rfl : j = C.pr.length := by omega
            have HP2 := Lib.hid (procs_yes HP.out)
            clear HP
            go_wp2
            clear k0 k1 k2 k3 kz
            go_loopw [48] (fun i wr => ∃ j : Nat, i = .int .i64 (j : Int) ∧ j ≤ C.jb.length ∧ Hid (PreJ C j) ∧ Hid (Blk wr w.heap.size 29 #[G, .slice A1 C.lo.length c1, .slice A2 C.pr.length c2, .slice A3 C.jb.length c3]) ∧ Hid (Below w.heap.size w wr)) (fun i _ => C.jb.length - (intOf i).toNat)
            case atStart => exact ⟨0, rfl, Nat.zero_le _, Lib.hid rfl, HBr, HWr⟩
            case round =>
              clear HBr HWr
              obtain ⟨j, rfl, hj, HJ, HBr, HWr⟩ := hrel
              have k0 := HBr.out.cell 0
              have k1 := HBr.out.cell 1
              have k2 := HBr.out.cell 2
              have k3 := HBr.out.cell 3
              have kz := HBr.out.lt
              simp only [List.getElem?_toArray, List.getElem?_cons_succ, List.getElem?_cons_zero] at k0 k1 k2 k3
              by_cases hlt : j < C.jb.length
              · have hbw := HWr.out.size
                obtain ⟨ad, q, ⟨kind, P', ps, body, bare⟩, rfl, hq, hqb, hx, q0, q1, q2, q3⟩ := jobs_at rfl (H3.out.below (HWr.out.mono hB)) hlt
                have hjok := HH.out.jj _ (List.mem_of_getElem? hx)
                have HJO := Lib.hid hjok
                obtain ⟨_, _, _, A6, c6, e6, _, _, _, _⟩ := hjok
                dsimp only at e6 q0 q1 q2 q3
                subst e6
                have hqw : q.block < wr.heap.size := by omega
                have HX := Lib.hid hx
                clear hx hqb
                generalize hv : jobB C.lo.length C.pr.length (pJob ⟨kind, .slice A6 ps.length c6, ps, body, bare⟩) = qv
                have HV := Lib.hid hv
                clear hv
                cases qv
                · go_wp2_with (go_at_call 9; (with_reducible refine (job_any (HH.out.below (by first | exact HWr.out.mono hB | exact (HWr.out.trans (Below.mono (show Below wr.heap.size wr _ from by (repeat' (first | (with_reducible exact Below.refl _ _) | (refine Below.trans ?_ (Below.mono (by with_reducible assumption) ?_)) | (with_reducible exact Below.refl _ _) | (with_reducible refine below_drewN ?_ _) | (with_reducible refine Below.drew ?_) | (with_reducible refine Below.setCell ?_ ?_ _) | (with_reducible refine Below.alloc ?_ ?_ _) | (with_reducible assumption) | (simp; done) | (simp; omega) | omega))) (by omega))).mono hB)) (by first | omega | (simp; omega)) ⟨kind, .slice A6 ps.length c6, ps, body, bare⟩ (HJO.out.below (by first | exact HWr.out.mono hB | exact (HWr.out.trans (Below.mono (show Below wr.heap.size wr _ from by (repeat' (first | (with_reducible exact Below.refl _ _) | (refine Below.trans ?_ (Below.mono (by with_reducible assumption) ?_)) | (with_reducible exact Below.refl _ _) | (with_reducible refine below_drewN ?_ _) | (with_reducible refine Below.drew ?_) | (with_reducible refine Below.setCell ?_ ?_ _) | (with_reducible refine Below.alloc ?_ ?_ _) | (with_reducible assumption) | (simp; done) | (simp; omega) | omega))) (by omega))).mono hB))).mono ?_); rw [HV.out]; rintro e w5 ⟨rfl, b5⟩)
                  (try simp only [Exit.inBlock, Exit.then]); refine bodyPost_ret (by simp [results, Try.results7, go_sem, *]; try rfl) rfl ?_
                  exact ⟨by rw [HL.out, HP2.out, all_notG HX.out HV.out]; rfl, HWr.out.trans (Below.mono (show Below wr.heap.size wr w5 from by (repeat' (first | (with_reducible exact Below.refl _ _) | (refine Below.trans ?_ (Below.mono (by with_reducible assumption) ?_)) | (with_reducible exact Below.refl _ _) | (with_reducible refine below_drewN ?_ _) | (with_reducible refine Below.drew ?_) | (with_reducible refine Below.setCell ?_ ?_ _) | (with_reducible refine Below.alloc ?_ ?_ _) | (with_reducible assumption) | (simp; done) | (simp; omega) | omega))) (by omega))⟩
                · go_wp2_with (go_at_call 9; (with_reducible refine (job_any (HH.out.below (by first | exact HWr.out.mono hB | exact (HWr.out.trans (Below.mono (show Below wr.heap.size wr _ from by (repeat' (first | (with_reducible exact Below.refl _ _) | (refine Below.trans ?_ (Below.mono (by with_reducible assumption) ?_)) | (with_reducible exact Below.refl _ _) | (with_reducible refine below_drewN ?_ _) | (with_reducible refine Below.drew ?_) | (with_reducible refine Below.setCell ?_ ?_ _) | (with_reducible refine Below.alloc ?_ ?_ _) | (with_reducible assumption) | (simp; done) | (simp; omega) | omega))) (by omega))).mono hB)) (by first | omega | (simp; omega)) ⟨kind, .slice A6 ps.length c6, ps, body, bare⟩ (HJO.out.below (by first | exact HWr.out.mono hB | exact (HWr.out.trans (Below.mono (show Below wr.heap.size wr _ from by (repeat' (first | (with_reducible exact Below.refl _ _) | (refine Below.trans ?_ (Below.mono (by with_reducible assumption) ?_)) | (with_reducible exact Below.refl _ _) | (with_reducible refine below_drewN ?_ _) | (with_reducible refine Below.drew ?_) | (with_reducible refine Below.setCell ?_ ?_ _) | (with_reducible refine Below.alloc ?_ ?_ _) | (with_reducible assumption) | (simp; done) | (simp; omega) | omega))) (by omega))).mono hB))).mono ?_); rw [HV.out]; rintro e w5 ⟨rfl, b5⟩; have B5 := Lib.hid (show Below wr.heap.size wr w5 from by (repeat' (first | (with_reducible exact Below.refl _ _) | (refine Below.trans ?_ (Below.mono (by with_reducible assumption) ?_)) | (with_reducible exact Below.refl _ _) | (with_reducible refine below_drewN ?_ _) | (with_reducible refine Below.drew ?_) | (with_reducible refine Below.setCell ?_ ?_ _) | (with_reducible refine Below.alloc ?_ ?_ _) | (with_reducible assumption) | (simp; done) | (simp; omega) | omega))); clear b5)
                  go_roundw
                  case rel => exact ⟨j + 1, by go_num, by omega, Lib.hid (all_nextG HJ.out HX.out HV.out), Lib.hid (HBr.out.below B5.out HBr.out.lt), Lib.hid (HWr.out.trans (B5.out.mono (by omega)))⟩
                  case measure => simp [intOf]; omega
              · obtain rfl : j = C.jb.length := by omega
                have hJ : (C.jb.take C.jb.length).all (fun x => jobB C.lo.length C.pr.length (pJob x)) = true := HJ.out
                rw [List.take_length] at hJ
                have HJ2 := Lib.hid hJ
                clear hJ HJ
                go_wp2
                (try simp only [Exit.inBlock, Exit.then]); refine bodyPost_ret (by simp [results, Try.results7, go_sem, *]; try rfl) rfl ?_
                exact ⟨by rw [HL.out, HP2.out, HJ2.out]; rfl, by first | exact HWr.out | (repeat' (first | (with_reducible exact Below.refl _ _) | (refine Below.trans ?_ (Below.mono (by with_reducible assumption) ?_)) | (with_reducible exact Below.refl _ _) | (with_reducible refine below_drewN ?_ _) | (with_reducible refine Below.drew ?_) | (with_reducible refine Below.setCell ?_ ?_ _) | (with_reducible refine Below.alloc ?_ ?_ _) | (with_reducible assumption) | (simp; done) | (simp; omega) | omega))⟩
  · rw [decide_eq_false h0]
    have h0d : decide (C.pr.length < C.lo.length) = true := by simp; omega
    clear h0
    go_enter Try.func7, Try.ntmps7
    go_wp2
    (try simp only [Exit.inBlock, Exit.then]); refine bodyPost_ret (by simp [results, Try.results7, go_sem, *]; try rfl) rfl ?_
    exact ⟨rfl, by (repeat' (first | (with_reducible exact Below.refl _ _) | (refine Below.trans ?_ (Below.mono (by with_reducible assumption) ?_)) | (with_reducible exact Below.refl _ _) | (with_reducible refine below_drewN ?_ _) | (with_reducible refine Below.drew ?_) | (with_reducible refine Below.setCell ?_ ?_ _) | (with_reducible refine Below.alloc ?_ ?_ _) | (with_reducible assumption) | (simp; done) | (simp; omega) | omega))⟩
end Go.Proofs.Ytanbplnagcmlcaa

/- Layer 15: what the laws take for granted (awake). -/
namespace Go.Proofs.Ytanbplnagcmlcaa
open Go.RowKit
/-- An instruction without parts. -/
def zi (op : Int) (s : ByteArray) : InsV := ⟨op, 0, 0, 0, 0, s, false, 0, 0, .slice none 0 0, []⟩
theorem zi_ok (w : World) (B : Nat) (op : Int) (s : ByteArray) (h : I64 op) : (zi op s).ok w B :=
  ⟨h, (by unfold I64 zi; dsimp only; omega), (by unfold I64 zi; dsimp only; omega), (by unfold I64 zi; dsimp only; omega), (fun i hi => nomatch hi), Sl.nil⟩
theorem Sl.of_blk {w : World} {B g k n : Nat} {t : TypeId} {cs : Array Value} (h : Blk w g t cs) (hB : g < B) (hn : cs.size = n * k) (hm : n ≤ maxLen) : Sl w B k (.slice (some ⟨g, 0, none⟩) n n) n cs.toList :=
  ⟨_, _, rfl, Nat.le_refl _, hm, (fun e => by cases e), by simpa using hn, fun _ => ⟨_, rfl, hB, fun j u hu => by
    have := h.cell j
    rw [← Array.getElem?_toList, hu] at this
    unfold Addr.add
    by_cases h0 : j = 0
    · subst h0; simpa using this
    · simpa [h0] using this⟩⟩
theorem heights_yes {w : World} {B : Nat} {C : CodeV} {G L P J : Value} (H : C.ok w B G L P J) (hB : B ≤ w.heap.size) (proc : Int) (hp : I64 proc) (hlen : ∀ r ∈ C.pr, r.2.length < 900000) {l : List Int} (hl : hRes C proc = some l) :
    Calls Try.prog 8 #[.agg #[G, L, P, J], .int .i64 proc] w (fun e w' => (∃ A c, e = .returned (.tuple #[.slice A l.length c, .bool true]) ∧ l.length ≤ c ∧ Reads w' w'.heap.size 1 A l.length (l.map iv64)) ∧ Below w.heap.size w w') :=
  (heights_any H hB proc hp hlen).mono fun e w' h => by
    unfold HPost at h
    rw [hl] at h
    exact ⟨h.2, h.1⟩
theorem heights_no {w : World} {B : Nat} {C : CodeV} {G L P J : Value} (H : C.ok w B G L P J) (hB : B ≤ w.heap.size) (proc : Int) (hp : I64 proc) (hlen : ∀ r ∈ C.pr, r.2.length < 900000) (hl : hRes C proc = none) :
    Calls Try.prog 8 #[.agg #[G, L, P, J], .int .i64 proc] w (fun e w' => e = .returned (.tuple #[.slice none 0 0, .bool false]) ∧ Below w.heap.size w w') :=
  (heights_any H hB proc hp hlen).mono fun e w' h => by
    unfold HPost at h
    rw [hl] at h
    exact ⟨h.2, h.1⟩
theorem valid_is {w : World} {B : Nat} {C : CodeV} {G L P J : Value} (H : C.ok w B G L P J) (hB : B ≤ w.heap.size) (hlen : ∀ r ∈ C.pr, r.2.length < 900000) {b : Bool} (hb : pValid C = b) :
    Calls Try.prog 7 #[.agg #[G, L, P, J]] w (fun e w' => e = .returned (.bool b) ∧ Below w.heap.size w w') :=
  (valid_any H hB hlen).mono fun e w' h => by rw [hb] at h; exact h
/-- awake's code. -/
def C15 (g0 g1 : Nat) : CodeV := ⟨[], [], [(.slice (some ⟨g0, 0, none⟩) 3 3, [zi 1 { data := #[] }, zi 3 { data := #[] }, zi 26 { data := #[] }]), (.slice (some ⟨g1, 0, none⟩) 1 1, [zi 3 { data := #[] }])], []⟩
def C0 : CodeV := ⟨[], [], [], []⟩
theorem c15_h0 (g0 g1 : Nat) : hRes (C15 g0 g1) 0 = some [0, 1, 0] := rfl
theorem c15_h1 (g0 g1 : Nat) : hRes (C15 g0 g1) 1 = none := rfl
theorem c15_v (g0 g1 : Nat) : pValid (C15 g0 g1) = false := rfl
theorem c0_v : pValid C0 = true := rfl
theorem c0_ok (w : World) (B : Nat) : C0.ok w B (.slice none 0 0) (.slice none 0 0) (.slice none 0 0) (.slice none 0 0) :=
  ⟨Sl.nil, Sl.nil, (fun x hx => nomatch hx), Sl.nil, (fun x hx => nomatch hx), Sl.nil, (fun x hx => nomatch hx)⟩
theorem c15_ok {w : World} {B g0 g1 g2 : Nat} {t0 t1 t2 : TypeId} (h0 : Blk w g0 t0 ((insC (zi 1 { data := #[] }) ++ insC (zi 3 { data := #[] }) ++ insC (zi 26 { data := #[] })).toArray)) (h1 : Blk w g1 t1 (insC (zi 3 { data := #[] })).toArray)
    (h2 : Blk w g2 t2 #[.slice (some ⟨g0, 0, none⟩) 3 3, .slice (some ⟨g1, 0, none⟩) 1 1]) (b0 : g0 < B) (b1 : g1 < B) (b2 : g2 < B) :
    (C15 g0 g1).ok w B (.slice none 0 0) (.slice none 0 0) (.slice (some ⟨g2, 0, none⟩) 2 2) (.slice none 0 0) := by
  refine ⟨Sl.nil, Sl.nil, (fun x hx => nomatch hx), ?_, ?_, Sl.nil, (fun x hx => nomatch hx)⟩
  · exact Sl.of_blk h2 b2 rfl (by unfold maxLen; omega)
  · intro x hx
    simp only [C15, List.mem_cons, List.not_mem_nil, or_false] at hx
    rcases hx with rfl | rfl
    · refine ⟨Sl.of_blk h0 b0 rfl (by unfold maxLen; omega), ?_⟩
      intro i hi
      simp only [List.mem_cons, List.not_mem_nil, or_false] at hi
      rcases hi with rfl | rfl | rfl <;> exact zi_ok _ _ _ _ (by unfold I64; omega)
    · refine ⟨Sl.of_blk h1 b1 rfl (by unfold maxLen; omega), ?_⟩
      intro i hi
      simp only [List.mem_cons, List.not_mem_nil, or_false] at hi
      rcases hi with rfl
      exact zi_ok _ _ _ _ (by unfold I64; omega)
theorem c15_len (g0 g1 : Nat) : ∀ r ∈ (C15 g0 g1).pr, r.2.length < 900000 := by
  intro x hx
  simp only [C15, List.mem_cons, List.not_mem_nil, or_false] at hx
  rcases hx with rfl | rfl <;> (simp)
theorem c0_len : ∀ r ∈ C0.pr, r.2.length < 900000 := fun r hr => nomatch hr
theorem reads3 {w : World} {B : Nat} {A : Option Addr} {a b c : Value} (h : Reads w B 1 A 3 [a, b, c]) : ∃ ad, A = some ad ∧ ad.block < B ∧ w.cell? ad = some a ∧ w.cell? ⟨ad.block, ad.off + 1, none⟩ = some b ∧ w.cell? ⟨ad.block, ad.off + 2, none⟩ = some c := by
  obtain ⟨ad, e, hb, hc⟩ := h.2 (by omega)
  refine ⟨ad, e, hb, by have := hc 0 a rfl; unfold Addr.add at this; simpa using this, ?_, ?_⟩
  · have := hc 1 b rfl; simpa [Addr.add] using this
  · have := hc 2 c rfl; simpa [Addr.add] using this
theorem blk_new1 (w : World) (t : TypeId) (cs : Array Value) {g : Nat} (h : g = w.heap.size) : Blk (w.alloc (.cells cs t)) g t cs := by subst h; exact Blk.new _ _ _
set_option maxRecDepth 100000 in
set_option maxHeartbeats 1600000 in
theorem awake15_any (w : World) : Calls Try.prog 5 #[] w (BoolPost w true) := by
  go_enter Try.func5, Try.ntmps5
  go_wp2_with fail
  generalize hW : (World.alloc _ _ : World) = w1
  have hz : w1.heap.size = w.heap.size + 4 := by rw [← hW]; simp
  have q1 : Below w.heap.size w w1 := by rw [← hW]; (repeat' (first | (with_reducible exact Below.refl _ _) | (refine Below.trans ?_ (Below.mono (by with_reducible assumption) ?_)) | (with_reducible exact Below.refl _ _) | (with_reducible refine below_drewN ?_ _) | (with_reducible refine Below.drew ?_) | (with_reducible refine Below.setCell ?_ ?_ _) | (with_reducible refine Below.alloc ?_ ?_ _) | (with_reducible assumption) | (simp; done) | (simp; omega) | omega))
  have h0 : Blk w1 w.heap.size 37 ((insC (zi 1 { data := #[] }) ++ insC (zi 3 { data := #[] }) ++ insC (zi 26 { data := #[] })).toArray) := by rw [← hW]; exact (((Blk.new _ _ _).alloc _).alloc _).alloc _
  have h1 : Blk w1 (w.heap.size + 1) 37 (insC (zi 3 { data := #[] })).toArray := by rw [← hW]; exact ((blk_new1 _ _ _ (by simp)).alloc _).alloc _
  have h2 : Blk w1 (w.heap.size + 1 + 1) 38 #[.slice (some ⟨w.heap.size, 0, none⟩) 3 3, .slice (some ⟨w.heap.size + 1, 0, none⟩) 1 1] := by rw [← hW]; exact (blk_new1 _ _ _ (by simp)).alloc _
  have h3 : Box4 w1 (w.heap.size + 1 + 1 + 1) (.slice none 0 0) (.slice none 0 0) (.slice (some ⟨w.heap.size + 1 + 1, 0, none⟩) 2 2) (.slice none 0 0) := by rw [← hW]; exact Box4.make _ _ _ _ _ _ (by simp)
  clear hW
  have HC := Lib.hid (c15_ok h0 h1 h2 (show _ < w1.heap.size by omega) (by omega) (by omega))
  have Q1 := Lib.hid q1
  have b4c_1 := Lib.hid (h3); have b4c_10 := b4c_1.out.c0; have b4c_11 := b4c_1.out.c1; have b4c_12 := b4c_1.out.c2; have b4c_13 := b4c_1.out.c3; have b4c_1f0 := b4c_1.out.f0; have b4c_1f1 := b4c_1.out.f1; have b4c_1f2 := b4c_1.out.f2; have b4c_1f3 := b4c_1.out.f3; have b4c_1z := b4c_1.out.z
  clear h0 h1 h2 h3 q1
  go_wp2_with (first
    | (go_at_call 8; (with_reducible refine (heights_yes HC.out (Nat.le_refl _) 0 (by unfold I64; omega) (c15_len _ _) (c15_h0 _ _)).mono ?_); rintro e w2 ⟨⟨A5, n5, rfl, hn5, hr5⟩, b2⟩; have p2 : Below w1.heap.size w1 w2 := Below.trans (by repeat' (first | (with_reducible assumption) | (with_reducible exact Below.refl _ _) | (with_reducible refine Below.drew ?_) | (with_reducible refine below_drewN ?_ _) | (with_reducible refine Below.alloc ?_ ?_ _) | (with_reducible exact Nat.le_refl _) | (simp; done) | (simp; omega) | omega)) (Below.mono b2 (by first | omega | (simp; done) | (simp; omega))); have b4c_2 := Lib.hid (Box4.below b4c_1.out p2); have b4c_20 := b4c_2.out.c0; have b4c_21 := b4c_2.out.c1; have b4c_22 := b4c_2.out.c2; have b4c_23 := b4c_2.out.c3; have b4c_2f0 := b4c_2.out.f0; have b4c_2f1 := b4c_2.out.f1; have b4c_2f2 := b4c_2.out.f2; have b4c_2f3 := b4c_2.out.f3; have b4c_2z := b4c_2.out.z; obtain ⟨ad, hA, hab, e0, e1, e2⟩ := reads3 hr5; subst hA; clear hr5)
    | (go_at_call 8; (with_reducible refine (heights_no (HC.out.below p2) p2.size 1 (by unfold I64; omega) (c15_len _ _) (c15_h1 _ _)).mono ?_); rintro e w3 ⟨rfl, b3⟩; have p3 : Below w2.heap.size w2 w3 := Below.trans (by repeat' (first | (with_reducible assumption) | (with_reducible exact Below.refl _ _) | (with_reducible refine Below.drew ?_) | (with_reducible refine below_drewN ?_ _) | (with_reducible refine Below.alloc ?_ ?_ _) | (with_reducible exact Nat.le_refl _) | (simp; done) | (simp; omega) | omega)) (Below.mono b3 (by first | omega | (simp; done) | (simp; omega))); have b4c_3 := Lib.hid (Box4.below b4c_2.out p3); have b4c_30 := b4c_3.out.c0; have b4c_31 := b4c_3.out.c1; have b4c_32 := b4c_3.out.c2; have b4c_33 := b4c_3.out.c3; have b4c_3f0 := b4c_3.out.f0; have b4c_3f1 := b4c_3.out.f1; have b4c_3f2 := b4c_3.out.f2; have b4c_3f3 := b4c_3.out.f3; have b4c_3z := b4c_3.out.z; have f0 : w3.cell? ad = some (.int .i64 0) := (p3.cell hab).trans e0; have f1 : w3.cell? ⟨ad.block, ad.off + 1, none⟩ = some (.int .i64 1) := Eq.trans (p3.cell hab) e1; have f2 : w3.cell? ⟨ad.block, ad.off + 2, none⟩ = some (.int .i64 0) := Eq.trans (p3.cell hab) e2; clear e0 e1 e2; have hab3 : ad.block < w3.heap.size := Nat.lt_of_lt_of_le hab p3.size)
    | (go_at_call 7; (with_reducible refine (valid_is (HC.out.below (p2.trans (p3.mono p2.size))) (Nat.le_trans p2.size p3.size) (c15_len _ _) (c15_v _ _)).mono ?_); rintro e w4 ⟨rfl, b4⟩; have p4 : Below w3.heap.size w3 w4 := Below.trans (by repeat' (first | (with_reducible assumption) | (with_reducible exact Below.refl _ _) | (with_reducible refine Below.drew ?_) | (with_reducible refine below_drewN ?_ _) | (with_reducible refine Below.alloc ?_ ?_ _) | (with_reducible exact Nat.le_refl _) | (simp; done) | (simp; omega) | omega)) (Below.mono b4 (by first | omega | (simp; done) | (simp; omega))); have b4c_4 := Lib.hid (Box4.below b4c_3.out p4); have b4c_40 := b4c_4.out.c0; have b4c_41 := b4c_4.out.c1; have b4c_42 := b4c_4.out.c2; have b4c_43 := b4c_4.out.c3; have b4c_4f0 := b4c_4.out.f0; have b4c_4f1 := b4c_4.out.f1; have b4c_4f2 := b4c_4.out.f2; have b4c_4f3 := b4c_4.out.f3; have b4c_4z := b4c_4.out.z)
    | (go_at_call 7; (with_reducible refine (valid_is (c0_ok _ 0) (Nat.zero_le _) c0_len c0_v).mono ?_); rintro e w5 ⟨rfl, b5⟩; have p5 : Below w4.heap.size w4 w5 := Below.trans (by repeat' (first | (with_reducible assumption) | (with_reducible exact Below.refl _ _) | (with_reducible refine Below.drew ?_) | (with_reducible refine below_drewN ?_ _) | (with_reducible refine Below.alloc ?_ ?_ _) | (with_reducible exact Nat.le_refl _) | (simp; done) | (simp; omega) | omega)) (Below.mono b5 (by first | omega | (simp; done) | (simp; omega))); have b4c_5 := Lib.hid (Box4.below b4c_4.out p5); have b4c_50 := b4c_5.out.c0; have b4c_51 := b4c_5.out.c1; have b4c_52 := b4c_5.out.c2; have b4c_53 := b4c_5.out.c3; have b4c_5f0 := b4c_5.out.f0; have b4c_5f1 := b4c_5.out.f1; have b4c_5f2 := b4c_5.out.f2; have b4c_5f3 := b4c_5.out.f3; have b4c_5z := b4c_5.out.z)
    | fail)
  (try simp only [Exit.inBlock, Exit.then]); refine bodyPost_ret (by simp [results, Try.results5, go_sem, *]; try rfl) rfl ?_
  exact ⟨rfl, ((below_step (below_step (below_step (below_step Q1.out p2) p3) p4) p5))⟩
end Go.Proofs.Ytanbplnagcmlcaa
