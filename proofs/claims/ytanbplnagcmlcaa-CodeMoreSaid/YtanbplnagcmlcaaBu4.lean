/- Several texts put together: CodI, RegH. -/
import Derived.Test.YtanbplnagcmlcaaBu3
import Derived.BigQuiet
import Derived.Deep.QuietTactic
import Derived.Test.YtanbplnagcmlcaaBu1
import Derived.Deep.RegionHeld3
/- Layer 15: a call's parts. -/
namespace Go.Proofs.Ytanbplnagcmlcaa
open Go.RowKit
def clT (C : CodeV) (loc : Value × List VarV) (x : Ins) : Int := (callAt (pNms C) (mineV loc) x).1
def clB (C : CodeV) (loc : Value × List VarV) (x : Ins) : Bool := (callAt (pNms C) (mineV loc) x).2
theorem call_out {C : CodeV} {loc : Value × List VarV} {x : InsV} (h : ¬ (0 ≤ x.b ∧ x.b < C.lo.length)) : clT C loc (pIns x) = 0 ∧ clB C loc (pIns x) = false := by
  unfold clT clB callAt
  rw [show atI (pNms C).lo (pIns x).b = none from atI_out _ _ (by show ¬ (0 ≤ x.b ∧ x.b < ((C.lo.map fun x => x.2.map (·.2)).length : Nat)); rw [List.length_map]; exact h)]
  exact ⟨rfl, rfl⟩
theorem call_in {C : CodeV} {loc : Value × List VarV} {x : InsV} {k : Nat} (hb : x.b = (k : Int)) (hk : k < C.lo.length) :
    callAt (pNms C) (mineV loc) (pIns x) = if C.lo[k].2.length < x.ls.length then (0, false) else callOf (pNms C) (mineV loc) x.ls (C.lo[k].2.map (·.2)) 0 := by
  unfold callAt
  rw [show atI (pNms C).lo (pIns x).b = some (C.lo[k].2.map (·.2)) from by show atI (C.lo.map fun x => x.2.map (·.2)) x.b = _; rw [hb, atI_nat, List.getElem?_map, List.getElem?_eq_getElem hk]; rfl]
  show (if (C.lo[k].2.map (·.2)).length < x.ls.length then _ else _) = _
  rw [List.length_map]; rfl
theorem callOf_step {C : CodeV} {loc : Value × List VarV} {ls : List Int} {ps : List Bool} {k : Nat} {m v : Int} {p : Bool} (hv : ls[k]? = some v) (hp : ps[k]? = some p) :
    callOf (pNms C) (mineV loc) (ls.drop k) (ps.drop k) m = if v = -1 then (if p then (0, false) else callOf (pNms C) (mineV loc) (ls.drop (k + 1)) (ps.drop (k + 1)) (m + 1))
    else if v < -1 ∨ p = false then (0, false)
    else if 1000 ≤ v then (if arrB C loc 1 (v - 1000) then callOf (pNms C) (mineV loc) (ls.drop (k + 1)) (ps.drop (k + 1)) m else (0, false))
    else if arrB C loc 0 v then callOf (pNms C) (mineV loc) (ls.drop (k + 1)) (ps.drop (k + 1)) m else (0, false) := by
  obtain ⟨h1, rfl⟩ := List.getElem?_eq_some_iff.1 hv
  obtain ⟨h2, rfl⟩ := List.getElem?_eq_some_iff.1 hp
  rw [List.drop_eq_getElem_cons h1, List.drop_eq_getElem_cons h2]
  rfl
theorem callOf_done {C : CodeV} {loc : Value × List VarV} {ls : List Int} {ps : List Bool} {k : Nat} {m : Int} (hk : ls.length ≤ k) : callOf (pNms C) (mineV loc) (ls.drop k) (ps.drop k) m = (m, true) := by
  rw [List.drop_of_length_le hk]; rfl
theorem ints_at {w : World} {B j : Nat} {A : Option Addr} {l : List Int} (h : Reads w B 1 A l.length (l.map iv64)) (hj : j < l.length) :
    ∃ ad q v, A = some ad ∧ ad.add j = q ∧ q.block < B ∧ l[j]? = some v ∧ w.cell? q = some (.int .i64 v) := by
  obtain ⟨ad, e, hb, hc⟩ := reads_at h hj
  obtain ⟨u0, h0, c0⟩ := hc 0 (by omega)
  rw [List.getElem?_map, Nat.mul_one, Nat.add_zero, List.getElem?_eq_getElem hj] at h0
  simp [iv64] at h0
  subst h0
  exact ⟨ad, _, _, e, rfl, by rw [block_of_add]; exact hb, List.getElem?_eq_getElem hj, by simpa using c0⟩
theorem vals_at {w : World} {B j n : Nat} {A : Option Addr} {l : List Value} (h : Reads w B 1 A n l) (hj : j < n) :
    ∃ ad q v, A = some ad ∧ ad.add j = q ∧ q.block < B ∧ l[j]? = some v ∧ w.cell? q = some v := by
  obtain ⟨ad, e, hb, hc⟩ := reads_at h hj
  obtain ⟨u0, h0, c0⟩ := hc 0 (by omega)
  exact ⟨ad, _, u0, e, rfl, by rw [block_of_add]; exact hb, by simpa using h0, by simpa using c0⟩
set_option maxHeartbeats 800000 in
theorem call_any {w : World} {B g : Nat} {C : CodeV} {G L P J : Value} {row : Value × List InsV} {loc : Value × List VarV} (H : Gs w B g C G L P J row loc) (x : InsV) (hx : x.ok w B) :
    Calls Try.prog 22 #[.pointer (some ⟨g, 0, none⟩), .agg #[.int .i64 x.op, .int .i64 x.a, .int .i64 x.b, .int .i64 x.c, .int .i64 x.at', .string x.s, .bool x.n, .int .u64 x.h, .int .u64 x.l, x.L]] w (IntBool w (clT C loc (pIns x)) (clB C loc (pIns x))) := by
  have h1 := H.c1
  have hg := H.hg
  have hB := H.hB
  have HH := Lib.hid H
  obtain ⟨A, c, e1, hc1, hc2, hn, hr⟩ := H.ok.l
  rw [e1] at h1
  have hxb := hx.b
  have hxls := hx.ls
  obtain ⟨A2, c2, e2, hd1, hd2, hn2, hr2⟩ := hx.L
  have f0 := call_out (C := C) (loc := loc) (x := x)
  have f1 := fun k => call_in (C := C) (loc := loc) (x := x) (k := k)
  unfold I64 at hxb
  unfold maxLen at hc2 hd2
  clear H hx e1 hn hn2
  obtain ⟨op, a, b, c', at', s, n, h, l, Lv, ls⟩ := x
  dsimp only at *
  subst e2
  have HX := Lib.hid hxls
  clear hxls
  by_cases hin : 0 ≤ b ∧ b < C.lo.length
  · obtain ⟨k, rfl⟩ : ∃ k : Nat, b = (k : Int) := ⟨b.toNat, by omega⟩
    have hk : k < C.lo.length := by omega
    have e0 := f1 k rfl hk
    have hmem := HH.out.ok.ll _ (List.getElem_mem hk)
    obtain ⟨adL, qL, vL, rfl, hqL, hbL, hvL, hcL⟩ := vals_at hr hk
    rw [List.getElem?_map, List.getElem?_eq_getElem hk] at hvL
    simp only [Option.map_some, Option.some.injEq] at hvL
    have hbLw2 : qL.block < w.heap.size + 1 := by omega
    obtain ⟨A3, c3, e3, hp1, hp2, hn3, hr3⟩ := hmem
    rw [e3] at hvL
    subst hvL
    unfold clT clB
    generalize C.lo[k] = pv at *
    have hbLw : qL.block < w.heap.size := by omega
    have hkd : decide (C.lo.length ≤ k) = false := by simpa using hk
    have hk0 : decide ((k : Int) < 0) = false := by simp
    unfold maxLen at hp2
    by_cases hlen : pv.2.length < ls.length
    · rw [if_pos hlen] at e0
      rw [e0]
      clear f0 f1 e0 hin hr hn3 hr3 hr2
      go_enter Try.func22, Try.ntmps22
      go_wp2
      go_quiet (fail)
      go_wp2
      go_quiet (fail)
      go_wp2
      go_ret2
      exact ⟨rfl, by (repeat' (first | (with_reducible exact Below.refl _ _) | (refine Below.trans ?_ (Below.mono (by with_reducible assumption) ?_)) | (with_reducible exact Below.refl _ _) | (with_reducible refine below_drewN ?_ _) | (with_reducible refine Below.drew ?_) | (with_reducible refine Below.setCell ?_ ?_ _) | (with_reducible refine Below.alloc ?_ ?_ _) | (with_reducible assumption) | (simp; done) | (simp; omega) | omega))⟩
    · rw [if_neg hlen] at e0
      rw [e0]
      have hlen' : ls.length ≤ pv.2.length := by omega
      have hld : decide (pv.2.length < ls.length) = false := by simpa using hlen
      generalize hres : callOf (pNms C) (mineV loc) ls (pv.2.map (·.2)) 0 = res
      have HR := Lib.hid hres
      have H2 := Lib.hid hr2
      have H3 := Lib.hid hr3
      have HL := Lib.hid hlen
      clear f0 f1 e0 hin hr hn3 hr3 hr2 hres hlen e3
      go_enter Try.func22, Try.ntmps22
      go_wp2
      go_quiet (fail)
      go_wp2
      go_quiet (fail)
      go_wp2
      go_loopw [7, 44] (fun n i wr => ∃ (j : Nat) (m : Int), i = .int .i64 (j : Int) ∧ j ≤ ls.length ∧ n = .int .i64 m ∧ 0 ≤ m ∧ m ≤ j ∧ Hid (callOf (pNms C) (mineV loc) (ls.drop j) ((pv.2.map (·.2)).drop j) m = res) ∧ Hid (Below w.heap.size w wr) ∧ w.heap.size < wr.heap.size) (fun _ i _ => ls.length - (intOf i).toNat)
      case atStart => exact ⟨0, 0, rfl, Nat.zero_le _, rfl, by omega, by omega, Lib.hid (by simpa using HR.out), Lib.hid (by (repeat' (first | (with_reducible exact Below.refl _ _) | (refine Below.trans ?_ (Below.mono (by with_reducible assumption) ?_)) | (with_reducible exact Below.refl _ _) | (with_reducible refine below_drewN ?_ _) | (with_reducible refine Below.drew ?_) | (with_reducible refine Below.setCell ?_ ?_ _) | (with_reducible refine Below.alloc ?_ ?_ _) | (with_reducible assumption) | (simp; done) | (simp; omega) | omega))), by simp⟩
      case round =>
        obtain ⟨j, m, rfl, hj, rfl, hm0, hmj, hrun, hbel, hwz⟩ := hrel
        by_cases hlt : j < ls.length
        · have hbw := hbel.out
          have hbB := hbw.mono hB
          obtain ⟨adI, qI, v, rfl, hqI, hbI, hvI, hcI⟩ := ints_at (H2.out.below hbB) hlt
          obtain ⟨adP, qP, sP, p, rfl, hqP, hbP, hvP, hcP0, hcP⟩ := vars_at rfl (H3.out.below hbB) (j := j) (by omega)
          have hv64 := HX.out v (List.mem_of_getElem? hvI)
          have hstep := (callOf_step (C := C) (loc := loc) (m := m) hvI hvP).symm.trans hrun.out
          have HS := Lib.hid hstep
          have hbI' : qI.block < wr.heap.size := by omega
          have hbP' : qP.block < wr.heap.size := by omega
          have hjp : j < pv.2.length := by omega
          unfold I64 at hv64
          clear hstep hvI hvP hbB hrun hbI hbP
          by_cases v1 : v = -1
          · subst v1
            cases p
            · have hn := HS.out
              rw [if_pos rfl] at hn
              have HN := Lib.hid (show callOf (pNms C) (mineV loc) (ls.drop (j + 1)) ((pv.2.map (·.2)).drop (j + 1)) (m + 1) = res from hn)
              clear hn
              go_wp2
              go_roundw
              case rel => exact ⟨j + 1, m + 1, by go_num, by omega, rfl, by omega, by omega, HN, Lib.hid (by (repeat' (first | (with_reducible exact Below.refl _ _) | (refine Below.trans ?_ (Below.mono (by with_reducible assumption) ?_)) | (with_reducible exact Below.refl _ _) | (with_reducible refine below_drewN ?_ _) | (with_reducible refine Below.drew ?_) | (with_reducible refine Below.setCell ?_ ?_ _) | (with_reducible refine Below.alloc ?_ ?_ _) | (with_reducible assumption) | (simp; done) | (simp; omega) | omega))), by (first | assumption | (simp; omega))⟩
              case measure => simp [intOf]; omega
            · obtain rfl : res = (0, false) := by rw [← HS.out]; rfl
              go_wp2
              go_ret2
              exact ⟨rfl, by (repeat' (first | (with_reducible exact Below.refl _ _) | (refine Below.trans ?_ (Below.mono (by with_reducible assumption) ?_)) | (with_reducible exact Below.refl _ _) | (with_reducible refine below_drewN ?_ _) | (with_reducible refine Below.drew ?_) | (with_reducible refine Below.setCell ?_ ?_ _) | (with_reducible refine Below.alloc ?_ ?_ _) | (with_reducible assumption) | (simp; done) | (simp; omega) | omega))⟩
          · have v1b : (v == -1) = false := by simpa using v1
            by_cases v2 : v < -1
            · have v2d : decide (v < -1) = true := by simpa using v2
              obtain rfl : res = (0, false) := by rw [← HS.out, if_neg v1, if_pos (Or.inl v2)]
              go_wp2
              go_ret2
              exact ⟨rfl, by (repeat' (first | (with_reducible exact Below.refl _ _) | (refine Below.trans ?_ (Below.mono (by with_reducible assumption) ?_)) | (with_reducible exact Below.refl _ _) | (with_reducible refine below_drewN ?_ _) | (with_reducible refine Below.drew ?_) | (with_reducible refine Below.setCell ?_ ?_ _) | (with_reducible refine Below.alloc ?_ ?_ _) | (with_reducible assumption) | (simp; done) | (simp; omega) | omega))⟩
            · have v2d : decide (v < -1) = false := by simpa using v2
              cases p
              · obtain rfl : res = (0, false) := by rw [← HS.out, if_neg v1, if_pos (Or.inr rfl)]
                go_wp2
                go_ret2
                exact ⟨rfl, by (repeat' (first | (with_reducible exact Below.refl _ _) | (refine Below.trans ?_ (Below.mono (by with_reducible assumption) ?_)) | (with_reducible exact Below.refl _ _) | (with_reducible refine below_drewN ?_ _) | (with_reducible refine Below.drew ?_) | (with_reducible refine Below.setCell ?_ ?_ _) | (with_reducible refine Below.alloc ?_ ?_ _) | (with_reducible assumption) | (simp; done) | (simp; omega) | omega))⟩
              · have hn := HS.out
                rw [if_neg v1, if_neg (by simp; omega)] at hn
                by_cases v3 : 1000 ≤ v
                · have v3d : decide (1000 ≤ v) = true := by simpa using v3
                  rw [if_pos v3] at hn
                  have hs64 : I64 (v - 1000) := by unfold I64; omega
                  generalize hq : arrB C loc 1 (v - 1000) = q at hn
                  have HQ := Lib.hid hq
                  clear hq
                  cases q
                  · obtain rfl : res = (0, false) := by rw [← hn]; rfl
                    clear hn
                    go_wp2_with (go_at_call 16; (with_reducible refine (array_any (HH.out.below (by repeat' (first | (with_reducible exact Below.refl _ _) | (with_reducible assumption) | (with_reducible refine Below.drew ?_) | (with_reducible refine below_drewN ?_ _) | (with_reducible refine Below.alloc ?_ ?_ _) | (with_reducible exact Nat.le_refl _) | (simp; done) | (simp; omega)))) 1 (v - 1000) hs64).mono ?_); rw [HQ.out]; rintro e w1 ⟨rfl, b1⟩; have z1 := b1.size)
                    go_ret2
                    exact ⟨rfl, by (repeat' (first | (with_reducible exact Below.refl _ _) | (refine Below.trans ?_ (Below.mono (by with_reducible assumption) ?_)) | (with_reducible exact Below.refl _ _) | (with_reducible refine below_drewN ?_ _) | (with_reducible refine Below.drew ?_) | (with_reducible refine Below.setCell ?_ ?_ _) | (with_reducible refine Below.alloc ?_ ?_ _) | (with_reducible assumption) | (simp; done) | (simp; omega) | omega))⟩
                  · have HN := Lib.hid (show callOf (pNms C) (mineV loc) (ls.drop (j + 1)) ((pv.2.map (·.2)).drop (j + 1)) m = res from hn)
                    clear hn
                    go_wp2_with (go_at_call 16; (with_reducible refine (array_any (HH.out.below (by repeat' (first | (with_reducible exact Below.refl _ _) | (with_reducible assumption) | (with_reducible refine Below.drew ?_) | (with_reducible refine below_drewN ?_ _) | (with_reducible refine Below.alloc ?_ ?_ _) | (with_reducible exact Nat.le_refl _) | (simp; done) | (simp; omega)))) 1 (v - 1000) hs64).mono ?_); rw [HQ.out]; rintro e w1 ⟨rfl, b1⟩; have z1 := b1.size)
                    go_roundw
                    case rel => exact ⟨j + 1, m, by go_num, by omega, rfl, by omega, by omega, HN, Lib.hid (by (repeat' (first | (with_reducible exact Below.refl _ _) | (refine Below.trans ?_ (Below.mono (by with_reducible assumption) ?_)) | (with_reducible exact Below.refl _ _) | (with_reducible refine below_drewN ?_ _) | (with_reducible refine Below.drew ?_) | (with_reducible refine Below.setCell ?_ ?_ _) | (with_reducible refine Below.alloc ?_ ?_ _) | (with_reducible assumption) | (simp; done) | (simp; omega) | omega))), by (first | omega | (simp; omega))⟩
                    case measure => simp [intOf]; omega
                · have v3d : decide (1000 ≤ v) = false := by simpa using v3
                  rw [if_neg v3] at hn
                  have hs64 : I64 v := by unfold I64; omega
                  generalize hq : arrB C loc 0 v = q at hn
                  have HQ := Lib.hid hq
                  clear hq
                  cases q
                  · obtain rfl : res = (0, false) := by rw [← hn]; rfl
                    clear hn
                    go_wp2_with (go_at_call 16; (with_reducible refine (array_any (HH.out.below (by repeat' (first | (with_reducible exact Below.refl _ _) | (with_reducible assumption) | (with_reducible refine Below.drew ?_) | (with_reducible refine below_drewN ?_ _) | (with_reducible refine Below.alloc ?_ ?_ _) | (with_reducible exact Nat.le_refl _) | (simp; done) | (simp; omega)))) 0 v hs64).mono ?_); rw [HQ.out]; rintro e w1 ⟨rfl, b1⟩; have z1 := b1.size)
                    go_ret2
                    exact ⟨rfl, by (repeat' (first | (with_reducible exact Below.refl _ _) | (refine Below.trans ?_ (Below.mono (by with_reducible assumption) ?_)) | (with_reducible exact Below.refl _ _) | (with_reducible refine below_drewN ?_ _) | (with_reducible refine Below.drew ?_) | (with_reducible refine Below.setCell ?_ ?_ _) | (with_reducible refine Below.alloc ?_ ?_ _) | (with_reducible assumption) | (simp; done) | (simp; omega) | omega))⟩
                  · have HN := Lib.hid (show callOf (pNms C) (mineV loc) (ls.drop (j + 1)) ((pv.2.map (·.2)).drop (j + 1)) m = res from hn)
                    clear hn
                    go_wp2_with (go_at_call 16; (with_reducible refine (array_any (HH.out.below (by repeat' (first | (with_reducible exact Below.refl _ _) | (with_reducible assumption) | (with_reducible refine Below.drew ?_) | (with_reducible refine below_drewN ?_ _) | (with_reducible refine Below.alloc ?_ ?_ _) | (with_reducible exact Nat.le_refl _) | (simp; done) | (simp; omega)))) 0 v hs64).mono ?_); rw [HQ.out]; rintro e w1 ⟨rfl, b1⟩; have z1 := b1.size)
                    go_roundw
                    case rel => exact ⟨j + 1, m, by go_num, by omega, rfl, by omega, by omega, HN, Lib.hid (by (repeat' (first | (with_reducible exact Below.refl _ _) | (refine Below.trans ?_ (Below.mono (by with_reducible assumption) ?_)) | (with_reducible exact Below.refl _ _) | (with_reducible refine below_drewN ?_ _) | (with_reducible refine Below.drew ?_) | (with_reducible refine Below.setCell ?_ ?_ _) | (with_reducible refine Below.alloc ?_ ?_ _) | (with_reducible assumption) | (simp; done) | (simp; omega) | omega))), by (first | omega | (simp; omega))⟩
                    case measure => simp [intOf]; omega
        · obtain rfl : j = ls.length := by omega
          have hd := hrun.out
          rw [callOf_done (Nat.le_refl _)] at hd
          subst hd
          have hbw := hbel.out
          go_wp2
          go_ret2
          exact ⟨rfl, by (repeat' (first | (with_reducible exact Below.refl _ _) | (refine Below.trans ?_ (Below.mono (by with_reducible assumption) ?_)) | (with_reducible exact Below.refl _ _) | (with_reducible refine below_drewN ?_ _) | (with_reducible refine Below.drew ?_) | (with_reducible refine Below.setCell ?_ ?_ _) | (with_reducible refine Below.alloc ?_ ?_ _) | (with_reducible assumption) | (simp; done) | (simp; omega) | omega))⟩
  · obtain ⟨q1, q2⟩ := f0 hin
    rw [q1, q2]
    clear q1 q2 f0 f1
    by_cases h0 : 0 ≤ b
    · obtain ⟨k, rfl⟩ : ∃ k : Nat, b = (k : Int) := ⟨b.toNat, by omega⟩
      have hk : C.lo.length ≤ k := by omega
      have hkd : decide ((C.lo.length : Int) ≤ (k : Int)) = true := by simpa using hk
      have hk0 : ((k : Int) < 0) = False := by simp
      clear hin
      go_enter Try.func22, Try.ntmps22
      go_wp2
      go_quiet (fail)
      go_wp2
      go_ret2
      exact ⟨rfl, by (repeat' (first | (with_reducible exact Below.refl _ _) | (refine Below.trans ?_ (Below.mono (by with_reducible assumption) ?_)) | (with_reducible exact Below.refl _ _) | (with_reducible refine below_drewN ?_ _) | (with_reducible refine Below.drew ?_) | (with_reducible refine Below.setCell ?_ ?_ _) | (with_reducible refine Below.alloc ?_ ?_ _) | (with_reducible assumption) | (simp; done) | (simp; omega) | omega))⟩
    · have hb0 : b < 0 := by omega
      have hb0d : decide (b < 0) = true := by simpa using hb0
      clear hin
      go_enter Try.func22, Try.ntmps22
      go_wp2
      go_quiet (fail)
      go_wp2
      go_ret2
      exact ⟨rfl, by (repeat' (first | (with_reducible exact Below.refl _ _) | (refine Below.trans ?_ (Below.mono (by with_reducible assumption) ?_)) | (with_reducible exact Below.refl _ _) | (with_reducible refine below_drewN ?_ _) | (with_reducible refine Below.drew ?_) | (with_reducible refine Below.setCell ?_ ?_ _) | (with_reducible refine Below.alloc ?_ ?_ _) | (with_reducible assumption) | (simp; done) | (simp; omega) | omega))⟩
end Go.Proofs.Ytanbplnagcmlcaa

/- The moves of a walk through a region that draws its order, the operations by their literal text. -/
namespace Go.Proofs.Ytanbplnagcmlcaa
section
variable {P : Program} {ops : Array Oper} {Q : Exit → Act → World → Prop} {md : Region.Mode} {S : World → Prop}
theorem lit_at {i : Nat} {oi : Oper} (h : (ops.toList.drop i).head? = some oi) : ops[i]? = some oi := by
  rw [List.head?_drop] at h
  simpa using h
theorem h4_take {i : Nat} {oi : Oper} {v : Value} {fuel : Nat} {listed : Array Bool} {a : Act} {w : World} (hi : (ops.toList.drop i).head? = some oi)
    (hs : Region.noSelect ops = true) (hf : Region.free md ops listed i = true) (hr : (Region.ready md ops listed).contains i = true)
    (hQ : ∀ c a w, Q (.panic c) (a.put oi.dst v) w → Q (.panic c) a w) (hw : Region.wanted oi (yielded ops a.tmps) = true) (hy : ∀ w, S w → (execOp a.eval oi).run P w = .ok (.value v) w) (hS : S w)
    (h : wpAnyH P md ops Q S fuel (listed.setIfInBounds i true) (a.put oi.dst v) w) : wpAnyH P md ops Q S (fuel + 1) listed a w :=
  wpAnyH_take (lit_at hi) hs hf hr hQ (.inl ⟨hw, hy⟩) hS h
theorem h4_skip {i : Nat} {oi : Oper} {fuel : Nat} {listed : Array Bool} {a : Act} {w : World} (hi : (ops.toList.drop i).head? = some oi)
    (hs : Region.noSelect ops = true) (hf : Region.free md ops listed i = true) (hr : (Region.ready md ops listed).contains i = true)
    (hQ : ∀ c a w, Q (.panic c) (a.put oi.dst undef) w → Q (.panic c) a w) (hw : Region.wanted oi (yielded ops a.tmps) = false) (hS : S w)
    (h : wpAnyH P md ops Q S fuel (listed.setIfInBounds i true) (a.put oi.dst undef) w) : wpAnyH P md ops Q S (fuel + 1) listed a w :=
  wpAnyH_take (lit_at hi) hs hf hr hQ (.inr ⟨hw, rfl⟩) hS h
theorem h4_cons {fuel : Nat} {listed : Array Bool} {a : Act} {w : World} {i : Nat} {o : Oper} {rs : List Nat} (ho : (ops.toList.drop i).head? = some o)
    (h : ∀ K' : Act → World → Prop, Shut (∀ a w, S w → (S w → wpAnyH P md ops Q S fuel (listed.setIfInBounds i true) a w) → K' a w) → if Region.wanted o (yielded ops a.tmps) = true then Oper.wp P o a w K' Q else K' (a.put o.dst undef) w)
    (hs : AllReadyH P md ops Q S fuel listed a w rs) : AllReadyH P md ops Q S fuel listed a w (i :: rs) :=
  AllReadyH.cons (lit_at ho) h hs
end
end Go.Proofs.Ytanbplnagcmlcaa
