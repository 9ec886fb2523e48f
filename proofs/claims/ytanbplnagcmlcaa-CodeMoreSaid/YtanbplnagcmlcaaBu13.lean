/- Several texts put together: CodS. -/
import Derived.Test.YtanbplnagcmlcaaBu12
/- Layer 15: whether a rule's code is right. -/
namespace Go.Proofs.Ytanbplnagcmlcaa
open Go.RowKit
theorem heights_any {w : World} {B : Nat} {C : CodeV} {G L P J : Value} (H : C.ok w B G L P J) (hB : B ≤ w.heap.size) (proc : Int) (hp : I64 proc) (hlen : ∀ r ∈ C.pr, r.2.length < 900000) :
    Calls Try.prog 8 #[.agg #[G, L, P, J], .int .i64 proc] w (HPost (hRes C proc) w) := by
  by_cases h : 0 ≤ proc ∧ proc < C.pr.length
  · obtain ⟨k, rfl⟩ : ∃ k : Nat, proc = (k : Int) := ⟨proc.toNat, by omega⟩
    have hk : k < C.pr.length := by omega
    exact heights_in H hB (List.getElem?_eq_getElem hk) (hlen _ (List.getElem_mem hk))
  · exact heights_out H hB proc hp h
def Pre (lo pr : Nat) (l : List Int) (j : Nat) : Prop := (l.take j).all (ownB lo pr) = true
theorem all_not {l : List Int} {f : Int → Bool} {j : Nat} {v : Int} (h : l[j]? = some v) (hf : f v = false) : l.all f = false := by
  rw [← Bool.not_eq_true, List.all_eq_true]
  intro hall
  have := hall v (List.mem_of_getElem? h)
  rw [hf] at this; cases this
theorem all_next {l : List Int} {f : Int → Bool} {j : Nat} {v : Int} (ha : (l.take j).all f = true) (h : l[j]? = some v) (hf : f v = true) : (l.take (j + 1)).all f = true := by
  rw [List.take_add_one, h, List.all_append, ha]
  simp [hf]
set_option maxRecDepth 100000 in
set_option maxHeartbeats 1600000 in
theorem job_bad {w : World} {G L P J PV : Value} (kind body : Int) (bare : Bool) (h : ¬ (1 ≤ kind ∧ kind ≤ 7)) :
    Calls Try.prog 9 #[.agg #[G, L, P, J], .agg #[.int .i64 kind, PV, .int .i64 body, .bool bare]] w (BoolPost w false) := by
  have e7 : (kind == 7) = false := by simp; omega
  have e6 : (kind == 6) = false := by simp; omega
  have e1 : (kind == 1) = false := by simp; omega
  have e2 : (kind == 2) = false := by simp; omega
  have e3 : (kind == 3) = false := by simp; omega
  have e4 : (kind == 4) = false := by simp; omega
  have e5 : (kind == 5) = false := by simp; omega
  clear h
  go_enter Try.func9, Try.ntmps9
  repeat' (first | (with_reducible refine then_exit ?_) | (with_reducible refine then_ret ?_) | (with_reducible refine then_normal ?_) | (with_reducible refine inBlock_hit ?_) | ((with_reducible refine inBlock_miss ?_ ?_); (exact rfl)) | (with_reducible refine inBlock_ret ?_) | (with_reducible refine inBlock_normal ?_) | go_values | go_skip | go_guarded | go_step | go_upon | go_in | go_back | (simp only [Int.not_lt, Int.not_le] at *; go_simp) | (go_values <;> (try go_simp)) | (go_ite <;> go_prune <;> (try go_simp)) | (split <;> (first | (rename_i hx; exact (hx _ rfl).elim) | go_prune)))
  (try simp only [Exit.inBlock, Exit.then]); refine bodyPost_ret (by simp [results, Try.results9, go_sem, *]; try rfl) rfl ?_
  exact ⟨rfl, by (repeat' (first | (with_reducible exact Below.refl _ _) | (refine Below.trans ?_ (Below.mono (by with_reducible assumption) ?_)) | (with_reducible exact Below.refl _ _) | (with_reducible refine below_drewN ?_ _) | (with_reducible refine Below.drew ?_) | (with_reducible refine Below.setCell ?_ ?_ _) | (with_reducible refine Below.alloc ?_ ?_ _) | (with_reducible assumption) | (simp; done) | (simp; omega) | omega))⟩
theorem own_any {w : World} {g : Nat} {A1 A2 : Option Addr} {lo pr c1 c2 : Nat} (hlo : lo ≤ maxLen) (hpr : pr ≤ maxLen) (k1 : w.cell? ⟨g, 1, none⟩ = some (.slice A1 lo c1)) (k2 : w.cell? ⟨g, 2, none⟩ = some (.slice A2 pr c2)) (hg : g < w.heap.size) (p : Int) (hp : I64 p) :
    Calls Try.prog 11 #[.int .i64 p, .pointer (some ⟨g, 0, none⟩)] w (fun e w' => e = .returned (.bool (ownB lo pr p)) ∧ w' = w) := by
  unfold maxLen at hlo hpr
  unfold I64 at hp
  unfold ownB
  by_cases h1 : (lo : Int) ≤ p
  · by_cases h2 : p < (pr : Int)
    · rw [decide_eq_true h1, decide_eq_true h2]
      go_enter Try.func11, Try.ntmps11
      go_wp2
      (try simp only [Exit.inBlock, Exit.then]); refine bodyPost_ret (by simp [results, Try.results11, go_sem, *]; try rfl) rfl ?_
      exact ⟨rfl, rfl⟩
    · rw [decide_eq_true h1, decide_eq_false h2]
      go_enter Try.func11, Try.ntmps11
      go_wp2
      (try simp only [Exit.inBlock, Exit.then]); refine bodyPost_ret (by simp [results, Try.results11, go_sem, *]; try rfl) rfl ?_
      exact ⟨rfl, rfl⟩
  · rw [decide_eq_false h1]
    go_enter Try.func11, Try.ntmps11
    go_wp2
    (try simp only [Exit.inBlock, Exit.then]); refine bodyPost_ret (by simp [results, Try.results11, go_sem, *]; try rfl) rfl ?_
    exact ⟨rfl, rfl⟩
set_option maxRecDepth 100000 in
set_option maxHeartbeats 1600000 in
theorem job_7 {w : World} {B : Nat} {G J : Value} {A1 A2 A3 : Option Addr} {lo pr c1 c2 c3 : Nat} {ps : List Int} (hlo : lo ≤ maxLen) (hpr : pr ≤ maxLen) (hps : Reads w B 1 A3 ps.length (ps.map iv64)) (hB : B ≤ w.heap.size) (hi : ∀ i ∈ ps, I64 i) (hc3 : ps.length ≤ c3) (hm3 : c3 ≤ maxLen) (body : Int) (hb : I64 body) (bare : Bool) :
    Calls Try.prog 9 #[.agg #[G, .slice A1 lo c1, .slice A2 pr c2, J], .agg #[.int .i64 7, .slice A3 ps.length c3, .int .i64 body, .bool bare]] w (BoolPost w (decide (ps.length = 2) && (bare || ownB lo pr body) && ps.all (ownB lo pr))) := by
  unfold maxLen at hm3
  have HP := Lib.hid hps
  have HI := Lib.hid hi
  clear hps hi
  by_cases hl : ps.length = 2
  · rw [decide_eq_true hl, Bool.true_and]
    have hl' : ((ps.length : Int) != 2) = false := by simpa using (by omega : (ps.length : Int) = 2)
    clear hl
    cases bare
    · rw [Bool.false_or]
      generalize hq : ownB lo pr body = q
      have HQ := Lib.hid hq
      clear hq
      cases q
      · go_enter Try.func9, Try.ntmps9
        repeat' (first | (with_reducible refine then_exit ?_) | (with_reducible refine then_ret ?_) | (with_reducible refine then_normal ?_) | (with_reducible refine inBlock_hit ?_) | ((with_reducible refine inBlock_miss ?_ ?_); (exact rfl)) | (with_reducible refine inBlock_ret ?_) | (with_reducible refine inBlock_normal ?_) | (go_big_may; (go_at_call 11; (with_reducible refine (own_any (A1 := A1) (A2 := A2) (c1 := c1) (c2 := c2) hlo hpr (by simp (maxDischargeDepth := 12) [go_sem]) (by simp (maxDischargeDepth := 12) [go_sem]) (by simp; omega) body hb).mono ?_); rw [HQ.out]; rintro e w1 ⟨rfl, rfl⟩)) | go_values | go_skip | go_guarded | go_step | go_upon | go_back | (simp only [Int.not_lt, Int.not_le] at *; go_simp) | (go_values <;> (try go_simp)) | (go_ite <;> go_prune <;> (try go_simp)) | (split <;> (first | (rename_i hx; exact (hx _ rfl).elim) | go_prune)))
        (try simp only [Exit.inBlock, Exit.then]); refine bodyPost_ret (by simp [results, Try.results9, go_sem, *]; try rfl) rfl ?_
        exact ⟨rfl, by (repeat' (first | (with_reducible exact Below.refl _ _) | (refine Below.trans ?_ (Below.mono (by with_reducible assumption) ?_)) | (with_reducible exact Below.refl _ _) | (with_reducible refine below_drewN ?_ _) | (with_reducible refine Below.drew ?_) | (with_reducible refine Below.setCell ?_ ?_ _) | (with_reducible refine Below.alloc ?_ ?_ _) | (with_reducible assumption) | (simp; done) | (simp; omega) | omega))⟩
      · rw [Bool.true_and]
        go_enter Try.func9, Try.ntmps9
        repeat' (first | (with_reducible refine then_exit ?_) | (with_reducible refine then_ret ?_) | (with_reducible refine then_normal ?_) | (with_reducible refine inBlock_hit ?_) | ((with_reducible refine inBlock_miss ?_ ?_); (exact rfl)) | (with_reducible refine inBlock_ret ?_) | (with_reducible refine inBlock_normal ?_) | (go_big_may; (go_at_call 11; (with_reducible refine (own_any (A1 := A1) (A2 := A2) (c1 := c1) (c2 := c2) hlo hpr (by simp (maxDischargeDepth := 12) [go_sem]) (by simp (maxDischargeDepth := 12) [go_sem]) (by simp; omega) body hb).mono ?_); rw [HQ.out]; rintro e w1 ⟨rfl, rfl⟩)) | go_values | go_skip | go_guarded | go_step | go_upon | go_back | (simp only [Int.not_lt, Int.not_le] at *; go_simp) | (go_values <;> (try go_simp)) | (go_ite <;> go_prune <;> (try go_simp)) | (split <;> (first | (rename_i hx; exact (hx _ rfl).elim) | go_prune)))
        generalize hW : (World.alloc _ _ : World) = W9
        have k1 : W9.cell? ⟨w.heap.size, 1, none⟩ = some (.slice A1 lo c1) := by rw [← hW]; simp (maxDischargeDepth := 12) [go_sem]
        have k2 : W9.cell? ⟨w.heap.size, 2, none⟩ = some (.slice A2 pr c2) := by rw [← hW]; simp (maxDischargeDepth := 12) [go_sem]
        have kz : w.heap.size < W9.heap.size := by rw [← hW]; simp; omega
        have HW9 : Hid (Below w.heap.size w W9) := Lib.hid (by rw [← hW]; (repeat' (first | (with_reducible exact Below.refl _ _) | (refine Below.trans ?_ (Below.mono (by with_reducible assumption) ?_)) | (with_reducible exact Below.refl _ _) | (with_reducible refine below_drewN ?_ _) | (with_reducible refine Below.drew ?_) | (with_reducible refine Below.setCell ?_ ?_ _) | (with_reducible refine Below.alloc ?_ ?_ _) | (with_reducible assumption) | (simp; done) | (simp; omega) | omega)))
        clear hW
        go_loopw [46] (fun i wr => ∃ j : Nat, i = .int .i64 (j : Int) ∧ j ≤ ps.length ∧ Hid (Pre lo pr ps j) ∧ wr = W9) (fun i _ => ps.length - (intOf i).toNat)
        case atStart => exact ⟨0, rfl, Nat.zero_le _, Lib.hid rfl, rfl⟩
        case round =>
          obtain ⟨j, rfl, hj, HA, hwr⟩ := hrel
          subst hwr
          by_cases hlt : j < ps.length
          · obtain ⟨adI, qI, v, rfl, hqI, hbI, hvI, hcI⟩ := ints_at (HP.out.below (HW9.out.mono hB)) hlt
            have hv64 := HI.out v (List.mem_of_getElem? hvI)
            have hbI' : qI.block < wr.heap.size := by have := HW9.out.size; omega
            have HVI := Lib.hid hvI
            clear hvI hbI
            generalize hv : ownB lo pr v = qv
            have HV := Lib.hid hv
            clear hv
            cases qv
            · go_wp2_with (go_at_call 11; (with_reducible refine (own_any (A1 := A1) (A2 := A2) (c1 := c1) (c2 := c2) hlo hpr k1 k2 kz v hv64).mono ?_); rw [HV.out]; rintro e w1 ⟨rfl, rfl⟩)
              (try simp only [Exit.inBlock, Exit.then]); refine bodyPost_ret (by simp [results, Try.results9, go_sem, *]; try rfl) rfl ?_
              exact ⟨by rw [all_not HVI.out HV.out], by first | exact HW9.out | (repeat' (first | (with_reducible exact Below.refl _ _) | (refine Below.trans ?_ (Below.mono (by with_reducible assumption) ?_)) | (with_reducible exact Below.refl _ _) | (with_reducible refine below_drewN ?_ _) | (with_reducible refine Below.drew ?_) | (with_reducible refine Below.setCell ?_ ?_ _) | (with_reducible refine Below.alloc ?_ ?_ _) | (with_reducible assumption) | (simp; done) | (simp; omega) | omega))⟩
            · go_wp2_with (go_at_call 11; (with_reducible refine (own_any (A1 := A1) (A2 := A2) (c1 := c1) (c2 := c2) hlo hpr k1 k2 kz v hv64).mono ?_); rw [HV.out]; rintro e w1 ⟨rfl, rfl⟩)
              go_roundw
              case rel => exact ⟨j + 1, by go_num, by omega, Lib.hid (all_next HA.out HVI.out HV.out), by first | rfl | trivial⟩
              case measure => simp [intOf]; omega
          · obtain rfl : j = ps.length := by omega
            have hA : (ps.take ps.length).all (ownB lo pr) = true := HA.out
            rw [List.take_length] at hA
            have HA2 := Lib.hid hA
            clear hA HA
            repeat' (first | (with_reducible refine then_exit ?_) | (with_reducible refine then_ret ?_) | (with_reducible refine then_normal ?_) | (with_reducible refine inBlock_hit ?_) | ((with_reducible refine inBlock_miss ?_ ?_); (exact rfl)) | (with_reducible refine inBlock_ret ?_) | (with_reducible refine inBlock_normal ?_) | go_values | go_skip | go_guarded | go_step | go_upon | go_in | go_back | (simp only [Int.not_lt, Int.not_le] at *; go_simp) | (go_values <;> (try go_simp)) | (go_ite <;> go_prune <;> (try go_simp)) | (split <;> (first | (rename_i hx; exact (hx _ rfl).elim) | go_prune)))
            (try simp only [Exit.inBlock, Exit.then]); refine bodyPost_ret (by simp [results, Try.results9, go_sem, *]; try rfl) rfl ?_
            exact ⟨by rw [HA2.out], by first | exact HW9.out | (repeat' (first | (with_reducible exact Below.refl _ _) | (refine Below.trans ?_ (Below.mono (by with_reducible assumption) ?_)) | (with_reducible exact Below.refl _ _) | (with_reducible refine below_drewN ?_ _) | (with_reducible refine Below.drew ?_) | (with_reducible refine Below.setCell ?_ ?_ _) | (with_reducible refine Below.alloc ?_ ?_ _) | (with_reducible assumption) | (simp; done) | (simp; omega) | omega))⟩
    · rw [Bool.true_or, Bool.true_and]
      go_enter Try.func9, Try.ntmps9
      repeat' (first | (with_reducible refine then_exit ?_) | (with_reducible refine then_ret ?_) | (with_reducible refine then_normal ?_) | (with_reducible refine inBlock_hit ?_) | ((with_reducible refine inBlock_miss ?_ ?_); (exact rfl)) | (with_reducible refine inBlock_ret ?_) | (with_reducible refine inBlock_normal ?_) | go_values | go_skip | go_guarded | go_step | go_upon | go_in | go_back | (simp only [Int.not_lt, Int.not_le] at *; go_simp) | (go_values <;> (try go_simp)) | (go_ite <;> go_prune <;> (try go_simp)) | (split <;> (first | (rename_i hx; exact (hx _ rfl).elim) | go_prune)))
      generalize hW : (World.alloc _ _ : World) = W9
      have k1 : W9.cell? ⟨w.heap.size, 1, none⟩ = some (.slice A1 lo c1) := by rw [← hW]; simp (maxDischargeDepth := 12) [go_sem]
      have k2 : W9.cell? ⟨w.heap.size, 2, none⟩ = some (.slice A2 pr c2) := by rw [← hW]; simp (maxDischargeDepth := 12) [go_sem]
      have kz : w.heap.size < W9.heap.size := by rw [← hW]; simp; omega
      have HW9 : Hid (Below w.heap.size w W9) := Lib.hid (by rw [← hW]; (repeat' (first | (with_reducible exact Below.refl _ _) | (refine Below.trans ?_ (Below.mono (by with_reducible assumption) ?_)) | (with_reducible exact Below.refl _ _) | (with_reducible refine below_drewN ?_ _) | (with_reducible refine Below.drew ?_) | (with_reducible refine Below.setCell ?_ ?_ _) | (with_reducible refine Below.alloc ?_ ?_ _) | (with_reducible assumption) | (simp; done) | (simp; omega) | omega)))
      clear hW
      go_loopw [46] (fun i wr => ∃ j : Nat, i = .int .i64 (j : Int) ∧ j ≤ ps.length ∧ Hid (Pre lo pr ps j) ∧ wr = W9) (fun i _ => ps.length - (intOf i).toNat)
      case atStart => exact ⟨0, rfl, Nat.zero_le _, Lib.hid rfl, rfl⟩
      case round =>
        obtain ⟨j, rfl, hj, HA, hwr⟩ := hrel
        subst hwr
        by_cases hlt : j < ps.length
        · obtain ⟨adI, qI, v, rfl, hqI, hbI, hvI, hcI⟩ := ints_at (HP.out.below (HW9.out.mono hB)) hlt
          have hv64 := HI.out v (List.mem_of_getElem? hvI)
          have hbI' : qI.block < wr.heap.size := by have := HW9.out.size; omega
          have HVI := Lib.hid hvI
          clear hvI hbI
          generalize hv : ownB lo pr v = qv
          have HV := Lib.hid hv
          clear hv
          cases qv
          · go_wp2_with (go_at_call 11; (with_reducible refine (own_any (A1 := A1) (A2 := A2) (c1 := c1) (c2 := c2) hlo hpr k1 k2 kz v hv64).mono ?_); rw [HV.out]; rintro e w1 ⟨rfl, rfl⟩)
            (try simp only [Exit.inBlock, Exit.then]); refine bodyPost_ret (by simp [results, Try.results9, go_sem, *]; try rfl) rfl ?_
            exact ⟨by rw [all_not HVI.out HV.out], by first | exact HW9.out | (repeat' (first | (with_reducible exact Below.refl _ _) | (refine Below.trans ?_ (Below.mono (by with_reducible assumption) ?_)) | (with_reducible exact Below.refl _ _) | (with_reducible refine below_drewN ?_ _) | (with_reducible refine Below.drew ?_) | (with_reducible refine Below.setCell ?_ ?_ _) | (with_reducible refine Below.alloc ?_ ?_ _) | (with_reducible assumption) | (simp; done) | (simp; omega) | omega))⟩
          · go_wp2_with (go_at_call 11; (with_reducible refine (own_any (A1 := A1) (A2 := A2) (c1 := c1) (c2 := c2) hlo hpr k1 k2 kz v hv64).mono ?_); rw [HV.out]; rintro e w1 ⟨rfl, rfl⟩)
            go_roundw
            case rel => exact ⟨j + 1, by go_num, by omega, Lib.hid (all_next HA.out HVI.out HV.out), by first | rfl | trivial⟩
            case measure => simp [intOf]; omega
        · obtain rfl : j = ps.length := by omega
          have hA : (ps.take ps.length).all (ownB lo pr) = true := HA.out
          rw [List.take_length] at hA
          have HA2 := Lib.hid hA
          clear hA HA
          repeat' (first | (with_reducible refine then_exit ?_) | (with_reducible refine then_ret ?_) | (with_reducible refine then_normal ?_) | (with_reducible refine inBlock_hit ?_) | ((with_reducible refine inBlock_miss ?_ ?_); (exact rfl)) | (with_reducible refine inBlock_ret ?_) | (with_reducible refine inBlock_normal ?_) | go_values | go_skip | go_guarded | go_step | go_upon | go_in | go_back | (simp only [Int.not_lt, Int.not_le] at *; go_simp) | (go_values <;> (try go_simp)) | (go_ite <;> go_prune <;> (try go_simp)) | (split <;> (first | (rename_i hx; exact (hx _ rfl).elim) | go_prune)))
          (try simp only [Exit.inBlock, Exit.then]); refine bodyPost_ret (by simp [results, Try.results9, go_sem, *]; try rfl) rfl ?_
          exact ⟨by rw [HA2.out], by first | exact HW9.out | (repeat' (first | (with_reducible exact Below.refl _ _) | (refine Below.trans ?_ (Below.mono (by with_reducible assumption) ?_)) | (with_reducible exact Below.refl _ _) | (with_reducible refine below_drewN ?_ _) | (with_reducible refine Below.drew ?_) | (with_reducible refine Below.setCell ?_ ?_ _) | (with_reducible refine Below.alloc ?_ ?_ _) | (with_reducible assumption) | (simp; done) | (simp; omega) | omega))⟩
  · rw [decide_eq_false hl, Bool.false_and]
    have hl' : ((ps.length : Int) == 2) = false := by simpa using (by omega : ¬ (ps.length : Int) = 2)
    go_enter Try.func9, Try.ntmps9
    repeat' (first | (with_reducible refine then_exit ?_) | (with_reducible refine then_ret ?_) | (with_reducible refine then_normal ?_) | (with_reducible refine inBlock_hit ?_) | ((with_reducible refine inBlock_miss ?_ ?_); (exact rfl)) | (with_reducible refine inBlock_ret ?_) | (with_reducible refine inBlock_normal ?_) | go_values | go_skip | go_guarded | go_step | go_upon | go_in | go_back | (simp only [Int.not_lt, Int.not_le] at *; go_simp) | (go_values <;> (try go_simp)) | (go_ite <;> go_prune <;> (try go_simp)) | (split <;> (first | (rename_i hx; exact (hx _ rfl).elim) | go_prune)))
    (try simp only [Exit.inBlock, Exit.then]); refine bodyPost_ret (by simp [results, Try.results9, go_sem, *]; try rfl) rfl ?_
    exact ⟨rfl, by (repeat' (first | (with_reducible exact Below.refl _ _) | (refine Below.trans ?_ (Below.mono (by with_reducible assumption) ?_)) | (with_reducible exact Below.refl _ _) | (with_reducible refine below_drewN ?_ _) | (with_reducible refine Below.drew ?_) | (with_reducible refine Below.setCell ?_ ?_ _) | (with_reducible refine Below.alloc ?_ ?_ _) | (with_reducible assumption) | (simp; done) | (simp; omega) | omega))⟩
set_option maxRecDepth 100000 in
set_option maxHeartbeats 1600000 in
theorem job_6 {w : World} {B : Nat} {G J : Value} {A1 A2 A3 : Option Addr} {lo pr c1 c2 c3 : Nat} {ps : List Int} (hlo : lo ≤ maxLen) (hpr : pr ≤ maxLen) (hps : Reads w B 1 A3 ps.length (ps.map iv64)) (hB : B ≤ w.heap.size) (hi : ∀ i ∈ ps, I64 i) (hc3 : ps.length ≤ c3) (hm3 : c3 ≤ maxLen) (body : Int) (hb : I64 body) (bare : Bool) :
    Calls Try.prog 9 #[.agg #[G, .slice A1 lo c1, .slice A2 pr c2, J], .agg #[.int .i64 6, .slice A3 ps.length c3, .int .i64 body, .bool bare]] w (BoolPost w (decide (ps.length = 1) && (bare || ownB lo pr body) && ps.all (ownB lo pr))) := by
  unfold maxLen at hm3
  have HP := Lib.hid hps
  have HI := Lib.hid hi
  clear hps hi
  by_cases hl : ps.length = 1
  · rw [decide_eq_true hl, Bool.true_and]
    have hl' : ((ps.length : Int) != 1) = false := by simpa using (by omega : (ps.length : Int) = 1)
    clear hl
    cases bare
    · rw [Bool.false_or]
      generalize hq : ownB lo pr body = q
      have HQ := Lib.hid hq
      clear hq
      cases q
      · go_enter Try.func9, Try.ntmps9
        repeat' (first | (with_reducible refine then_exit ?_) | (with_reducible refine then_ret ?_) | (with_reducible refine then_normal ?_) | (with_reducible refine inBlock_hit ?_) | ((with_reducible refine inBlock_miss ?_ ?_); (exact rfl)) | (with_reducible refine inBlock_ret ?_) | (with_reducible refine inBlock_normal ?_) | (go_big_may; (go_at_call 11; (with_reducible refine (own_any (A1 := A1) (A2 := A2) (c1 := c1) (c2 := c2) hlo hpr (by simp (maxDischargeDepth := 12) [go_sem]) (by simp (maxDischargeDepth := 12) [go_sem]) (by simp; omega) body hb).mono ?_); rw [HQ.out]; rintro e w1 ⟨rfl, rfl⟩)) | go_values | go_skip | go_guarded | go_step | go_upon | go_back | (simp only [Int.not_lt, Int.not_le] at *; go_simp) | (go_values <;> (try go_simp)) | (go_ite <;> go_prune <;> (try go_simp)) | (split <;> (first | (rename_i hx; exact (hx _ rfl).elim) | go_prune)))
        (try simp only [Exit.inBlock, Exit.then]); refine bodyPost_ret (by simp [results, Try.results9, go_sem, *]; try rfl) rfl ?_
        exact ⟨rfl, by (repeat' (first | (with_reducible exact Below.refl _ _) | (refine Below.trans ?_ (Below.mono (by with_reducible assumption) ?_)) | (with_reducible exact Below.refl _ _) | (with_reducible refine below_drewN ?_ _) | (with_reducible refine Below.drew ?_) | (with_reducible refine Below.setCell ?_ ?_ _) | (with_reducible refine Below.alloc ?_ ?_ _) | (with_reducible assumption) | (simp; done) | (simp; omega) | omega))⟩
      · rw [Bool.true_and]
        go_enter Try.func9, Try.ntmps9
        repeat' (first | (with_reducible refine then_exit ?_) | (with_reducible refine then_ret ?_) | (with_reducible refine then_normal ?_) | (with_reducible refine inBlock_hit ?_) | ((with_reducible refine inBlock_miss ?_ ?_); (exact rfl)) | (with_reducible refine inBlock_ret ?_) | (with_reducible refine inBlock_normal ?_) | (go_big_may; (go_at_call 11; (with_reducible refine (own_any (A1 := A1) (A2 := A2) (c1 := c1) (c2 := c2) hlo hpr (by simp (maxDischargeDepth := 12) [go_sem]) (by simp (maxDischargeDepth := 12) [go_sem]) (by simp; omega) body hb).mono ?_); rw [HQ.out]; rintro e w1 ⟨rfl, rfl⟩)) | go_values | go_skip | go_guarded | go_step | go_upon | go_back | (simp only [Int.not_lt, Int.not_le] at *; go_simp) | (go_values <;> (try go_simp)) | (go_ite <;> go_prune <;> (try go_simp)) | (split <;> (first | (rename_i hx; exact (hx _ rfl).elim) | go_prune)))
        generalize hW : (World.alloc _ _ : World) = W9
        have k1 : W9.cell? ⟨w.heap.size, 1, none⟩ = some (.slice A1 lo c1) := by rw [← hW]; simp (maxDischargeDepth := 12) [go_sem]
        have k2 : W9.cell? ⟨w.heap.size, 2, none⟩ = some (.slice A2 pr c2) := by rw [← hW]; simp (maxDischargeDepth := 12) [go_sem]
        have kz : w.heap.size < W9.heap.size := by rw [← hW]; simp; omega
        have HW9 : Hid (Below w.heap.size w W9) := Lib.hid (by rw [← hW]; (repeat' (first | (with_reducible exact Below.refl _ _) | (refine Below.trans ?_ (Below.mono (by with_reducible assumption) ?_)) | (with_reducible exact Below.refl _ _) | (with_reducible refine below_drewN ?_ _) | (with_reducible refine Below.drew ?_) | (with_reducible refine Below.setCell ?_ ?_ _) | (with_reducible refine Below.alloc ?_ ?_ _) | (with_reducible assumption) | (simp; done) | (simp; omega) | omega)))
        clear hW
        go_loopw [46] (fun i wr => ∃ j : Nat, i = .int .i64 (j : Int) ∧ j ≤ ps.length ∧ Hid (Pre lo pr ps j) ∧ wr = W9) (fun i _ => ps.length - (intOf i).toNat)
        case atStart => exact ⟨0, rfl, Nat.zero_le _, Lib.hid rfl, rfl⟩
        case round =>
          obtain ⟨j, rfl, hj, HA, hwr⟩ := hrel
          subst hwr
          by_cases hlt : j < ps.length
          · obtain ⟨adI, qI, v, rfl, hqI, hbI, hvI, hcI⟩ := ints_at (HP.out.below (HW9.out.mono hB)) hlt
            have hv64 := HI.out v (List.mem_of_getElem? hvI)
            have hbI' : qI.block < wr.heap.size := by have := HW9.out.size; omega
            have HVI := Lib.hid hvI
            clear hvI hbI
            generalize hv : ownB lo pr v = qv
            have HV := Lib.hid hv
            clear hv
            cases qv
            · go_wp2_with (go_at_call 11; (with_reducible refine (own_any (A1 := A1) (A2 := A2) (c1 := c1) (c2 := c2) hlo hpr k1 k2 kz v hv64).mono ?_); rw [HV.out]; rintro e w1 ⟨rfl, rfl⟩)
              (try simp only [Exit.inBlock, Exit.then]); refine bodyPost_ret (by simp [results, Try.results9, go_sem, *]; try rfl) rfl ?_
              exact ⟨by rw [all_not HVI.out HV.out], by first | exact HW9.out | (repeat' (first | (with_reducible exact Below.refl _ _) | (refine Below.trans ?_ (Below.mono (by with_reducible assumption) ?_)) | (with_reducible exact Below.refl _ _) | (with_reducible refine below_drewN ?_ _) | (with_reducible refine Below.drew ?_) | (with_reducible refine Below.setCell ?_ ?_ _) | (with_reducible refine Below.alloc ?_ ?_ _) | (with_reducible assumption) | (simp; done) | (simp; omega) | omega))⟩
            · go_wp2_with (go_at_call 11; (with_reducible refine (own_any (A1 := A1) (A2 := A2) (c1 := c1) (c2 := c2) hlo hpr k1 k2 kz v hv64).mono ?_); rw [HV.out]; rintro e w1 ⟨rfl, rfl⟩)
              go_roundw
              case rel => exact ⟨j + 1, by go_num, by omega, Lib.hid (all_next HA.out HVI.out HV.out), by first | rfl | trivial⟩
              case measure => simp [intOf]; omega
          · obtain rfl : j = ps.length := by omega
            have hA : (ps.take ps.length).all (ownB lo pr) = true := HA.out
            rw [List.take_length] at hA
            have HA2 := Lib.hid hA
            clear hA HA
            repeat' (first | (with_reducible refine then_exit ?_) | (with_reducible refine then_ret ?_) | (with_reducible refine then_normal ?_) | (with_reducible refine inBlock_hit ?_) | ((with_reducible refine inBlock_miss ?_ ?_); (exact rfl)) | (with_reducible refine inBlock_ret ?_) | (with_reducible refine inBlock_normal ?_) | go_values | go_skip | go_guarded | go_step | go_upon | go_in | go_back | (simp only [Int.not_lt, Int.not_le] at *; go_simp) | (go_values <;> (try go_simp)) | (go_ite <;> go_prune <;> (try go_simp)) | (split <;> (first | (rename_i hx; exact (hx _ rfl).elim) | go_prune)))
            (try simp only [Exit.inBlock, Exit.then]); refine bodyPost_ret (by simp [results, Try.results9, go_sem, *]; try rfl) rfl ?_
            exact ⟨by rw [HA2.out], by first | exact HW9.out | (repeat' (first | (with_reducible exact Below.refl _ _) | (refine Below.trans ?_ (Below.mono (by with_reducible assumption) ?_)) | (with_reducible exact Below.refl _ _) | (with_reducible refine below_drewN ?_ _) | (with_reducible refine Below.drew ?_) | (with_reducible refine Below.setCell ?_ ?_ _) | (with_reducible refine Below.alloc ?_ ?_ _) | (with_reducible assumption) | (simp; done) | (simp; omega) | omega))⟩
    · rw [Bool.true_or, Bool.true_and]
      go_enter Try.func9, Try.ntmps9
      repeat' (first | (with_reducible refine then_exit ?_) | (with_reducible refine then_ret ?_) | (with_reducible refine then_normal ?_) | (with_reducible refine inBlock_hit ?_) | ((with_reducible refine inBlock_miss ?_ ?_); (exact rfl)) | (with_reducible refine inBlock_ret ?_) | (with_reducible refine inBlock_normal ?_) | go_values | go_skip | go_guarded | go_step | go_upon | go_in | go_back | (simp only [Int.not_lt, Int.not_le] at *; go_simp) | (go_values <;> (try go_simp)) | (go_ite <;> go_prune <;> (try go_simp)) | (split <;> (first | (rename_i hx; exact (hx _ rfl).elim) | go_prune)))
      generalize hW : (World.alloc _ _ : World) = W9
      have k1 : W9.cell? ⟨w.heap.size, 1, none⟩ = some (.slice A1 lo c1) := by rw [← hW]; simp (maxDischargeDepth := 12) [go_sem]
      have k2 : W9.cell? ⟨w.heap.size, 2, none⟩ = some (.slice A2 pr c2) := by rw [← hW]; simp (maxDischargeDepth := 12) [go_sem]
      have kz : w.heap.size < W9.heap.size := by rw [← hW]; simp; omega
      have HW9 : Hid (Below w.heap.size w W9) := Lib.hid (by rw [← hW]; (repeat' (first | (with_reducible exact Below.refl _ _) | (refine Below.trans ?_ (Below.mono (by with_reducible assumption) ?_)) | (with_reducible exact Below.refl _ _) | (with_reducible refine below_drewN ?_ _) | (with_reducible refine Below.drew ?_) | (with_reducible refine Below.setCell ?_ ?_ _) | (with_reducible refine Below.alloc ?_ ?_ _) | (with_reducible assumption) | (simp; done) | (simp; omega) | omega)))
      clear hW
      go_loopw [46] (fun i wr => ∃ j : Nat, i = .int .i64 (j : Int) ∧ j ≤ ps.length ∧ Hid (Pre lo pr ps j) ∧ wr = W9) (fun i _ => ps.length - (intOf i).toNat)
      case atStart => exact ⟨0, rfl, Nat.zero_le _, Lib.hid rfl, rfl⟩
      case round =>
        obtain ⟨j, rfl, hj, HA, hwr⟩ := hrel
        subst hwr
        by_cases hlt : j < ps.length
        · obtain ⟨adI, qI, v, rfl, hqI, hbI, hvI, hcI⟩ := ints_at (HP.out.below (HW9.out.mono hB)) hlt
          have hv64 := HI.out v (List.mem_of_getElem? hvI)
          have hbI' : qI.block < wr.heap.size := by have := HW9.out.size; omega
          have HVI := Lib.hid hvI
          clear hvI hbI
          generalize hv : ownB lo pr v = qv
          have HV := Lib.hid hv
          clear hv
          cases qv
          · go_wp2_with (go_at_call 11; (with_reducible refine (own_any (A1 := A1) (A2 := A2) (c1 := c1) (c2 := c2) hlo hpr k1 k2 kz v hv64).mono ?_); rw [HV.out]; rintro e w1 ⟨rfl, rfl⟩)
            (try simp only [Exit.inBlock, Exit.then]); refine bodyPost_ret (by simp [results, Try.results9, go_sem, *]; try rfl) rfl ?_
            exact ⟨by rw [all_not HVI.out HV.out], by first | exact HW9.out | (repeat' (first | (with_reducible exact Below.refl _ _) | (refine Below.trans ?_ (Below.mono (by with_reducible assumption) ?_)) | (with_reducible exact Below.refl _ _) | (with_reducible refine below_drewN ?_ _) | (with_reducible refine Below.drew ?_) | (with_reducible refine Below.setCell ?_ ?_ _) | (with_reducible refine Below.alloc ?_ ?_ _) | (with_reducible assumption) | (simp; done) | (simp; omega) | omega))⟩
          · go_wp2_with (go_at_call 11; (with_reducible refine (own_any (A1 := A1) (A2 := A2) (c1 := c1) (c2 := c2) hlo hpr k1 k2 kz v hv64).mono ?_); rw [HV.out]; rintro e w1 ⟨rfl, rfl⟩)
            go_roundw
            case rel => exact ⟨j + 1, by go_num, by omega, Lib.hid (all_next HA.out HVI.out HV.out), by first | rfl | trivial⟩
            case measure => simp [intOf]; omega
        · obtain rfl : j = ps.length := by omega
          have hA : (ps.take ps.length).all (ownB lo pr) = true := HA.out
          rw [List.take_length] at hA
          have HA2 := Lib.hid hA
          clear hA HA
          repeat' (first | (with_reducible refine then_exit ?_) | (with_reducible refine then_ret ?_) | (with_reducible refine then_normal ?_) | (with_reducible refine inBlock_hit ?_) | ((with_reducible refine inBlock_miss ?_ ?_); (exact rfl)) | (with_reducible refine inBlock_ret ?_) | (with_reducible refine inBlock_normal ?_) | go_values | go_skip | go_guarded | go_step | go_upon | go_in | go_back | (simp only [Int.not_lt, Int.not_le] at *; go_simp) | (go_values <;> (try go_simp)) | (go_ite <;> go_prune <;> (try go_simp)) | (split <;> (first | (rename_i hx; exact (hx _ rfl).elim) | go_prune)))
          (try simp only [Exit.inBlock, Exit.then]); refine bodyPost_ret (by simp [results, Try.results9, go_sem, *]; try rfl) rfl ?_
          exact ⟨by rw [HA2.out], by first | exact HW9.out | (repeat' (first | (with_reducible exact Below.refl _ _) | (refine Below.trans ?_ (Below.mono (by with_reducible assumption) ?_)) | (with_reducible exact Below.refl _ _) | (with_reducible refine below_drewN ?_ _) | (with_reducible refine Below.drew ?_) | (with_reducible refine Below.setCell ?_ ?_ _) | (with_reducible refine Below.alloc ?_ ?_ _) | (with_reducible assumption) | (simp; done) | (simp; omega) | omega))⟩
  · rw [decide_eq_false hl, Bool.false_and]
    have hl' : ((ps.length : Int) == 1) = false := by simpa using (by omega : ¬ (ps.length : Int) = 1)
    go_enter Try.func9, Try.ntmps9
    repeat' (first | (with_reducible refine then_exit ?_) | (with_reducible refine then_ret ?_) | (with_reducible refine then_normal ?_) | (with_reducible refine inBlock_hit ?_) | ((with_reducible refine inBlock_miss ?_ ?_); (exact rfl)) | (with_reducible refine inBlock_ret ?_) | (with_reducible refine inBlock_normal ?_) | go_values | go_skip | go_guarded | go_step | go_upon | go_in | go_back | (simp only [Int.not_lt, Int.not_le] at *; go_simp) | (go_values <;> (try go_simp)) | (go_ite <;> go_prune <;> (try go_simp)) | (split <;> (first | (rename_i hx; exact (hx _ rfl).elim) | go_prune)))
    (try simp only [Exit.inBlock, Exit.then]); refine bodyPost_ret (by simp [results, Try.results9, go_sem, *]; try rfl) rfl ?_
    exact ⟨rfl, by (repeat' (first | (with_reducible exact Below.refl _ _) | (refine Below.trans ?_ (Below.mono (by with_reducible assumption) ?_)) | (with_reducible exact Below.refl _ _) | (with_reducible refine below_drewN ?_ _) | (with_reducible refine Below.drew ?_) | (with_reducible refine Below.setCell ?_ ?_ _) | (with_reducible refine Below.alloc ?_ ?_ _) | (with_reducible assumption) | (simp; done) | (simp; omega) | omega))⟩
set_option maxRecDepth 100000 in
set_option maxHeartbeats 1600000 in
theorem job_1 {w : World} {B : Nat} {G J : Value} {A1 A2 A3 : Option Addr} {lo pr c1 c2 c3 : Nat} {ps : List Int} (hlo : lo ≤ maxLen) (hpr : pr ≤ maxLen) (hps : Reads w B 1 A3 ps.length (ps.map iv64)) (hB : B ≤ w.heap.size) (hi : ∀ i ∈ ps, I64 i) (hc3 : ps.length ≤ c3) (hm3 : c3 ≤ maxLen) (body : Int) (hb : I64 body) (bare : Bool) :
    Calls Try.prog 9 #[.agg #[G, .slice A1 lo c1, .slice A2 pr c2, J], .agg #[.int .i64 1, .slice A3 ps.length c3, .int .i64 body, .bool bare]] w (BoolPost w (decide (ps.length = 0) && (bare || ownB lo pr body) && ps.all (ownB lo pr))) := by
  unfold maxLen at hm3
  have HP := Lib.hid hps
  have HI := Lib.hid hi
  clear hps hi
  by_cases hl : ps.length = 0
  · rw [decide_eq_true hl, Bool.true_and]
    have hl' : ((ps.length : Int) != 0) = false := by simpa using (by omega : (ps.length : Int) = 0)
    clear hl
    cases bare
    · rw [Bool.false_or]
      generalize hq : ownB lo pr body = q
      have HQ := Lib.hid hq
      clear hq
      cases q
      · go_enter Try.func9, Try.ntmps9
        repeat' (first | (with_reducible refine then_exit ?_) | (with_reducible refine then_ret ?_) | (with_reducible refine then_normal ?_) | (with_reducible refine inBlock_hit ?_) | ((with_reducible refine inBlock_miss ?_ ?_); (exact rfl)) | (with_reducible refine inBlock_ret ?_) | (with_reducible refine inBlock_normal ?_) | (go_big_may; (go_at_call 11; (with_reducible refine (own_any (A1 := A1) (A2 := A2) (c1 := c1) (c2 := c2) hlo hpr (by simp (maxDischargeDepth := 12) [go_sem]) (by simp (maxDischargeDepth := 12) [go_sem]) (by simp; omega) body hb).mono ?_); rw [HQ.out]; rintro e w1 ⟨rfl, rfl⟩)) | go_values | go_skip | go_guarded | go_step | go_upon | go_back | (simp only [Int.not_lt, Int.not_le] at *; go_simp) | (go_values <;> (try go_simp)) | (go_ite <;> go_prune <;> (try go_simp)) | (split <;> (first | (rename_i hx; exact (hx _ rfl).elim) | go_prune)))
        (try simp only [Exit.inBlock, Exit.then]); refine bodyPost_ret (by simp [results, Try.results9, go_sem, *]; try rfl) rfl ?_
        exact ⟨rfl, by (repeat' (first | (with_reducible exact Below.refl _ _) | (refine Below.trans ?_ (Below.mono (by with_reducible assumption) ?_)) | (with_reducible exact Below.refl _ _) | (with_reducible refine below_drewN ?_ _) | (with_reducible refine Below.drew ?_) | (with_reducible refine Below.setCell ?_ ?_ _) | (with_reducible refine Below.alloc ?_ ?_ _) | (with_reducible assumption) | (simp; done) | (simp; omega) | omega))⟩
      · rw [Bool.true_and]
        go_enter Try.func9, Try.ntmps9
        repeat' (first | (with_reducible refine then_exit ?_) | (with_reducible refine then_ret ?_) | (with_reducible refine then_normal ?_) | (with_reducible refine inBlock_hit ?_) | ((with_reducible refine inBlock_miss ?_ ?_); (exact rfl)) | (with_reducible refine inBlock_ret ?_) | (with_reducible refine inBlock_normal ?_) | (go_big_may; (go_at_call 11; (with_reducible refine (own_any (A1 := A1) (A2 := A2) (c1 := c1) (c2 := c2) hlo hpr (by simp (maxDischargeDepth := 12) [go_sem]) (by simp (maxDischargeDepth := 12) [go_sem]) (by simp; omega) body hb).mono ?_); rw [HQ.out]; rintro e w1 ⟨rfl, rfl⟩)) | go_values | go_skip | go_guarded | go_step | go_upon | go_back | (simp only [Int.not_lt, Int.not_le] at *; go_simp) | (go_values <;> (try go_simp)) | (go_ite <;> go_prune <;> (try go_simp)) | (split <;> (first | (rename_i hx; exact (hx _ rfl).elim) | go_prune)))
        generalize hW : (World.alloc _ _ : World) = W9
        have k1 : W9.cell? ⟨w.heap.size, 1, none⟩ = some (.slice A1 lo c1) := by rw [← hW]; simp (maxDischargeDepth := 12) [go_sem]
        have k2 : W9.cell? ⟨w.heap.size, 2, none⟩ = some (.slice A2 pr c2) := by rw [← hW]; simp (maxDischargeDepth := 12) [go_sem]
        have kz : w.heap.size < W9.heap.size := by rw [← hW]; simp; omega
        have HW9 : Hid (Below w.heap.size w W9) := Lib.hid (by rw [← hW]; (repeat' (first | (with_reducible exact Below.refl _ _) | (refine Below.trans ?_ (Below.mono (by with_reducible assumption) ?_)) | (with_reducible exact Below.refl _ _) | (with_reducible refine below_drewN ?_ _) | (with_reducible refine Below.drew ?_) | (with_reducible refine Below.setCell ?_ ?_ _) | (with_reducible refine Below.alloc ?_ ?_ _) | (with_reducible assumption) | (simp; done) | (simp; omega) | omega)))
        clear hW
        go_loopw [46] (fun i wr => ∃ j : Nat, i = .int .i64 (j : Int) ∧ j ≤ ps.length ∧ Hid (Pre lo pr ps j) ∧ wr = W9) (fun i _ => ps.length - (intOf i).toNat)
        case atStart => exact ⟨0, rfl, Nat.zero_le _, Lib.hid rfl, rfl⟩
        case round =>
          obtain ⟨j, rfl, hj, HA, hwr⟩ := hrel
          subst hwr
          by_cases hlt : j < ps.length
          · obtain ⟨adI, qI, v, rfl, hqI, hbI, hvI, hcI⟩ := ints_at (HP.out.below (HW9.out.mono hB)) hlt
            have hv64 := HI.out v (List.mem_of_getElem? hvI)
            have hbI' : qI.block < wr.heap.size := by have := HW9.out.size; omega
            have HVI := Lib.hid hvI
            clear hvI hbI
            generalize hv : ownB lo pr v = qv
            have HV := Lib.hid hv
            clear hv
            cases qv
            · go_wp2_with (go_at_call 11; (with_reducible refine (own_any (A1 := A1) (A2 := A2) (c1 := c1) (c2 := c2) hlo hpr k1 k2 kz v hv64).mono ?_); rw [HV.out]; rintro e w1 ⟨rfl, rfl⟩)
              (try simp only [Exit.inBlock, Exit.then]); refine bodyPost_ret (by simp [results, Try.results9, go_sem, *]; try rfl) rfl ?_
              exact ⟨by rw [all_not HVI.out HV.out], by first | exact HW9.out | (repeat' (first | (with_reducible exact Below.refl _ _) | (refine Below.trans ?_ (Below.mono (by with_reducible assumption) ?_)) | (with_reducible exact Below.refl _ _) | (with_reducible refine below_drewN ?_ _) | (with_reducible refine Below.drew ?_) | (with_reducible refine Below.setCell ?_ ?_ _) | (with_reducible refine Below.alloc ?_ ?_ _) | (with_reducible assumption) | (simp; done) | (simp; omega) | omega))⟩
            · go_wp2_with (go_at_call 11; (with_reducible refine (own_any (A1 := A1) (A2 := A2) (c1 := c1) (c2 := c2) hlo hpr k1 k2 kz v hv64).mono ?_); rw [HV.out]; rintro e w1 ⟨rfl, rfl⟩)
              go_roundw
              case rel => exact ⟨j + 1, by go_num, by omega, Lib.hid (all_next HA.out HVI.out HV.out), by first | rfl | trivial⟩
              case measure => simp [intOf]; omega
          · obtain rfl : j = ps.length := by omega
            have hA : (ps.take ps.length).all (ownB lo pr) = true := HA.out
            rw [List.take_length] at hA
            have HA2 := Lib.hid hA
            clear hA HA
            repeat' (first | (with_reducible refine then_exit ?_) | (with_reducible refine then_ret ?_) | (with_reducible refine then_normal ?_) | (with_reducible refine inBlock_hit ?_) | ((with_reducible refine inBlock_miss ?_ ?_); (exact rfl)) | (with_reducible refine inBlock_ret ?_) | (with_reducible refine inBlock_normal ?_) | go_values | go_skip | go_guarded | go_step | go_upon | go_in | go_back | (simp only [Int.not_lt, Int.not_le] at *; go_simp) | (go_values <;> (try go_simp)) | (go_ite <;> go_prune <;> (try go_simp)) | (split <;> (first | (rename_i hx; exact (hx _ rfl).elim) | go_prune)))
            (try simp only [Exit.inBlock, Exit.then]); refine bodyPost_ret (by simp [results, Try.results9, go_sem, *]; try rfl) rfl ?_
            exact ⟨by rw [HA2.out], by first | exact HW9.out | (repeat' (first | (with_reducible exact Below.refl _ _) | (refine Below.trans ?_ (Below.mono (by with_reducible assumption) ?_)) | (with_reducible exact Below.refl _ _) | (with_reducible refine below_drewN ?_ _) | (with_reducible refine Below.drew ?_) | (with_reducible refine Below.setCell ?_ ?_ _) | (with_reducible refine Below.alloc ?_ ?_ _) | (with_reducible assumption) | (simp; done) | (simp; omega) | omega))⟩
    · rw [Bool.true_or, Bool.true_and]
      go_enter Try.func9, Try.ntmps9
      repeat' (first | (with_reducible refine then_exit ?_) | (with_reducible refine then_ret ?_) | (with_reducible refine then_normal ?_) | (with_reducible refine inBlock_hit ?_) | ((with_reducible refine inBlock_miss ?_ ?_); (exact rfl)) | (with_reducible refine inBlock_ret ?_) | (with_reducible refine inBlock_normal ?_) | go_values | go_skip | go_guarded | go_step | go_upon | go_in | go_back | (simp only [Int.not_lt, Int.not_le] at *; go_simp) | (go_values <;> (try go_simp)) | (go_ite <;> go_prune <;> (try go_simp)) | (split <;> (first | (rename_i hx; exact (hx _ rfl).elim) | go_prune)))
      generalize hW : (World.alloc _ _ : World) = W9
      have k1 : W9.cell? ⟨w.heap.size, 1, none⟩ = some (.slice A1 lo c1) := by rw [← hW]; simp (maxDischargeDepth := 12) [go_sem]
      have k2 : W9.cell? ⟨w.heap.size, 2, none⟩ = some (.slice A2 pr c2) := by rw [← hW]; simp (maxDischargeDepth := 12) [go_sem]
      have kz : w.heap.size < W9.heap.size := by rw [← hW]; simp; omega
      have HW9 : Hid (Below w.heap.size w W9) := Lib.hid (by rw [← hW]; (repeat' (first | (with_reducible exact Below.refl _ _) | (refine Below.trans ?_ (Below.mono (by with_reducible assumption) ?_)) | (with_reducible exact Below.refl _ _) | (with_reducible refine below_drewN ?_ _) | (with_reducible refine Below.drew ?_) | (with_reducible refine Below.setCell ?_ ?_ _) | (with_reducible refine Below.alloc ?_ ?_ _) | (with_reducible assumption) | (simp; done) | (simp; omega) | omega)))
      clear hW
      go_loopw [46] (fun i wr => ∃ j : Nat, i = .int .i64 (j : Int) ∧ j ≤ ps.length ∧ Hid (Pre lo pr ps j) ∧ wr = W9) (fun i _ => ps.length - (intOf i).toNat)
      case atStart => exact ⟨0, rfl, Nat.zero_le _, Lib.hid rfl, rfl⟩
      case round =>
        obtain ⟨j, rfl, hj, HA, hwr⟩ := hrel
        subst hwr
        by_cases hlt : j < ps.length
        · obtain ⟨adI, qI, v, rfl, hqI, hbI, hvI, hcI⟩ := ints_at (HP.out.below (HW9.out.mono hB)) hlt
          have hv64 := HI.out v (List.mem_of_getElem? hvI)
          have hbI' : qI.block < wr.heap.size := by have := HW9.out.size; omega
          have HVI := Lib.hid hvI
          clear hvI hbI
          generalize hv : ownB lo pr v = qv
          have HV := Lib.hid hv
          clear hv
          cases qv
          · go_wp2_with (go_at_call 11; (with_reducible refine (own_any (A1 := A1) (A2 := A2) (c1 := c1) (c2 := c2) hlo hpr k1 k2 kz v hv64).mono ?_); rw [HV.out]; rintro e w1 ⟨rfl, rfl⟩)
            (try simp only [Exit.inBlock, Exit.then]); refine bodyPost_ret (by simp [results, Try.results9, go_sem, *]; try rfl) rfl ?_
            exact ⟨by rw [all_not HVI.out HV.out], by first | exact HW9.out | (repeat' (first | (with_reducible exact Below.refl _ _) | (refine Below.trans ?_ (Below.mono (by with_reducible assumption) ?_)) | (with_reducible exact Below.refl _ _) | (with_reducible refine below_drewN ?_ _) | (with_reducible refine Below.drew ?_) | (with_reducible refine Below.setCell ?_ ?_ _) | (with_reducible refine Below.alloc ?_ ?_ _) | (with_reducible assumption) | (simp; done) | (simp; omega) | omega))⟩
          · go_wp2_with (go_at_call 11; (with_reducible refine (own_any (A1 := A1) (A2 := A2) (c1 := c1) (c2 := c2) hlo hpr k1 k2 kz v hv64).mono ?_); rw [HV.out]; rintro e w1 ⟨rfl, rfl⟩)
            go_roundw
            case rel => exact ⟨j + 1, by go_num, by omega, Lib.hid (all_next HA.out HVI.out HV.out), by first | rfl | trivial⟩
            case measure => simp [intOf]; omega
        · obtain rfl : j = ps.length := by omega
          have hA : (ps.take ps.length).all (ownB lo pr) = true := HA.out
          rw [List.take_length] at hA
          have HA2 := Lib.hid hA
          clear hA HA
          repeat' (first | (with_reducible refine then_exit ?_) | (with_reducible refine then_ret ?_) | (with_reducible refine then_normal ?_) | (with_reducible refine inBlock_hit ?_) | ((with_reducible refine inBlock_miss ?_ ?_); (exact rfl)) | (with_reducible refine inBlock_ret ?_) | (with_reducible refine inBlock_normal ?_) | go_values | go_skip | go_guarded | go_step | go_upon | go_in | go_back | (simp only [Int.not_lt, Int.not_le] at *; go_simp) | (go_values <;> (try go_simp)) | (go_ite <;> go_prune <;> (try go_simp)) | (split <;> (first | (rename_i hx; exact (hx _ rfl).elim) | go_prune)))
          (try simp only [Exit.inBlock, Exit.then]); refine bodyPost_ret (by simp [results, Try.results9, go_sem, *]; try rfl) rfl ?_
          exact ⟨by rw [HA2.out], by first | exact HW9.out | (repeat' (first | (with_reducible exact Below.refl _ _) | (refine Below.trans ?_ (Below.mono (by with_reducible assumption) ?_)) | (with_reducible exact Below.refl _ _) | (with_reducible refine below_drewN ?_ _) | (with_reducible refine Below.drew ?_) | (with_reducible refine Below.setCell ?_ ?_ _) | (with_reducible refine Below.alloc ?_ ?_ _) | (with_reducible assumption) | (simp; done) | (simp; omega) | omega))⟩
  · rw [decide_eq_false hl, Bool.false_and]
    have hl' : ((ps.length : Int) == 0) = false := by simpa using (by omega : ¬ (ps.length : Int) = 0)
    go_enter Try.func9, Try.ntmps9
    repeat' (first | (with_reducible refine then_exit ?_) | (with_reducible refine then_ret ?_) | (with_reducible refine then_normal ?_) | (with_reducible refine inBlock_hit ?_) | ((with_reducible refine inBlock_miss ?_ ?_); (exact rfl)) | (with_reducible refine inBlock_ret ?_) | (with_reducible refine inBlock_normal ?_) | go_values | go_skip | go_guarded | go_step | go_upon | go_in | go_back | (simp only [Int.not_lt, Int.not_le] at *; go_simp) | (go_values <;> (try go_simp)) | (go_ite <;> go_prune <;> (try go_simp)) | (split <;> (first | (rename_i hx; exact (hx _ rfl).elim) | go_prune)))
    (try simp only [Exit.inBlock, Exit.then]); refine bodyPost_ret (by simp [results, Try.results9, go_sem, *]; try rfl) rfl ?_
    exact ⟨rfl, by (repeat' (first | (with_reducible exact Below.refl _ _) | (refine Below.trans ?_ (Below.mono (by with_reducible assumption) ?_)) | (with_reducible exact Below.refl _ _) | (with_reducible refine below_drewN ?_ _) | (with_reducible refine Below.drew ?_) | (with_reducible refine Below.setCell ?_ ?_ _) | (with_reducible refine Below.alloc ?_ ?_ _) | (with_reducible assumption) | (simp; done) | (simp; omega) | omega))⟩
set_option maxRecDepth 100000 in
set_option maxHeartbeats 1600000 in
theorem job_2 {w : World} {B : Nat} {G J : Value} {A1 A2 A3 : Option Addr} {lo pr c1 c2 c3 : Nat} {ps : List Int} (hlo : lo ≤ maxLen) (hpr : pr ≤ maxLen) (hps : Reads w B 1 A3 ps.length (ps.map iv64)) (hB : B ≤ w.heap.size) (hi : ∀ i ∈ ps, I64 i) (hc3 : ps.length ≤ c3) (hm3 : c3 ≤ maxLen) (body : Int) (hb : I64 body) (bare : Bool) :
    Calls Try.prog 9 #[.agg #[G, .slice A1 lo c1, .slice A2 pr c2, J], .agg #[.int .i64 2, .slice A3 ps.length c3, .int .i64 body, .bool bare]] w (BoolPost w (decide (ps.length = 0) && (bare || ownB lo pr body) && ps.all (ownB lo pr))) := by
  unfold maxLen at hm3
  have HP := Lib.hid hps
  have HI := Lib.hid hi
  clear hps hi
  by_cases hl : ps.length = 0
  · rw [decide_eq_true hl, Bool.true_and]
    have hl' : ((ps.length : Int) != 0) = false := by simpa using (by omega : (ps.length : Int) = 0)
    clear hl
    cases bare
    · rw [Bool.false_or]
      generalize hq : ownB lo pr body = q
      have HQ := Lib.hid hq
      clear hq
      cases q
      · go_enter Try.func9, Try.ntmps9
        repeat' (first | (with_reducible refine then_exit ?_) | (with_reducible refine then_ret ?_) | (with_reducible refine then_normal ?_) | (with_reducible refine inBlock_hit ?_) | ((with_reducible refine inBlock_miss ?_ ?_); (exact rfl)) | (with_reducible refine inBlock_ret ?_) | (with_reducible refine inBlock_normal ?_) | (go_big_may; (go_at_call 11; (with_reducible refine (own_any (A1 := A1) (A2 := A2) (c1 := c1) (c2 := c2) hlo hpr (by simp (maxDischargeDepth := 12) [go_sem]) (by simp (maxDischargeDepth := 12) [go_sem]) (by simp; omega) body hb).mono ?_); rw [HQ.out]; rintro e w1 ⟨rfl, rfl⟩)) | go_values | go_skip | go_guarded | go_step | go_upon | go_back | (simp only [Int.not_lt, Int.not_le] at *; go_simp) | (go_values <;> (try go_simp)) | (go_ite <;> go_prune <;> (try go_simp)) | (split <;> (first | (rename_i hx; exact (hx _ rfl).elim) | go_prune)))
        (try simp only [Exit.inBlock, Exit.then]); refine bodyPost_ret (by simp [results, Try.results9, go_sem, *]; try rfl) rfl ?_
        exact ⟨rfl, by (repeat' (first | (with_reducible exact Below.refl _ _) | (refine Below.trans ?_ (Below.mono (by with_reducible assumption) ?_)) | (with_reducible exact Below.refl _ _) | (with_reducible refine below_drewN ?_ _) | (with_reducible refine Below.drew ?_) | (with_reducible refine Below.setCell ?_ ?_ _) | (with_reducible refine Below.alloc ?_ ?_ _) | (with_reducible assumption) | (simp; done) | (simp; omega) | omega))⟩
      · rw [Bool.true_and]
        go_enter Try.func9, Try.ntmps9
        repeat' (first | (with_reducible refine then_exit ?_) | (with_reducible refine then_ret ?_) | (with_reducible refine then_normal ?_) | (with_reducible refine inBlock_hit ?_) | ((with_reducible refine inBlock_miss ?_ ?_); (exact rfl)) | (with_reducible refine inBlock_ret ?_) | (with_reducible refine inBlock_normal ?_) | (go_big_may; (go_at_call 11; (with_reducible refine (own_any (A1 := A1) (A2 := A2) (c1 := c1) (c2 := c2) hlo hpr (by simp (maxDischargeDepth := 12) [go_sem]) (by simp (maxDischargeDepth := 12) [go_sem]) (by simp; omega) body hb).mono ?_); rw [HQ.out]; rintro e w1 ⟨rfl, rfl⟩)) | go_values | go_skip | go_guarded | go_step | go_upon | go_back | (simp only [Int.not_lt, Int.not_le] at *; go_simp) | (go_values <;> (try go_simp)) | (go_ite <;> go_prune <;> (try go_simp)) | (split <;> (first | (rename_i hx; exact (hx _ rfl).elim) | go_prune)))
        generalize hW : (World.alloc _ _ : World) = W9
        have k1 : W9.cell? ⟨w.heap.size, 1, none⟩ = some (.slice A1 lo c1) := by rw [← hW]; simp (maxDischargeDepth := 12) [go_sem]
        have k2 : W9.cell? ⟨w.heap.size, 2, none⟩ = some (.slice A2 pr c2) := by rw [← hW]; simp (maxDischargeDepth := 12) [go_sem]
        have kz : w.heap.size < W9.heap.size := by rw [← hW]; simp; omega
        have HW9 : Hid (Below w.heap.size w W9) := Lib.hid (by rw [← hW]; (repeat' (first | (with_reducible exact Below.refl _ _) | (refine Below.trans ?_ (Below.mono (by with_reducible assumption) ?_)) | (with_reducible exact Below.refl _ _) | (with_reducible refine below_drewN ?_ _) | (with_reducible refine Below.drew ?_) | (with_reducible refine Below.setCell ?_ ?_ _) | (with_reducible refine Below.alloc ?_ ?_ _) | (with_reducible assumption) | (simp; done) | (simp; omega) | omega)))
        clear hW
        go_loopw [46] (fun i wr => ∃ j : Nat, i = .int .i64 (j : Int) ∧ j ≤ ps.length ∧ Hid (Pre lo pr ps j) ∧ wr = W9) (fun i _ => ps.length - (intOf i).toNat)
        case atStart => exact ⟨0, rfl, Nat.zero_le _, Lib.hid rfl, rfl⟩
        case round =>
          obtain ⟨j, rfl, hj, HA, hwr⟩ := hrel
          subst hwr
          by_cases hlt : j < ps.length
          · obtain ⟨adI, qI, v, rfl, hqI, hbI, hvI, hcI⟩ := ints_at (HP.out.below (HW9.out.mono hB)) hlt
            have hv64 := HI.out v (List.mem_of_getElem? hvI)
            have hbI' : qI.block < wr.heap.size := by have := HW9.out.size; omega
            have HVI := Lib.hid hvI
            clear hvI hbI
            generalize hv : ownB lo pr v = qv
            have HV := Lib.hid hv
            clear hv
            cases qv
            · go_wp2_with (go_at_call 11; (with_reducible refine (own_any (A1 := A1) (A2 := A2) (c1 := c1) (c2 := c2) hlo hpr k1 k2 kz v hv64).mono ?_); rw [HV.out]; rintro e w1 ⟨rfl, rfl⟩)
              (try simp only [Exit.inBlock, Exit.then]); refine bodyPost_ret (by simp [results, Try.results9, go_sem, *]; try rfl) rfl ?_
              exact ⟨by rw [all_not HVI.out HV.out], by first | exact HW9.out | (repeat' (first | (with_reducible exact Below.refl _ _) | (refine Below.trans ?_ (Below.mono (by with_reducible assumption) ?_)) | (with_reducible exact Below.refl _ _) | (with_reducible refine below_drewN ?_ _) | (with_reducible refine Below.drew ?_) | (with_reducible refine Below.setCell ?_ ?_ _) | (with_reducible refine Below.alloc ?_ ?_ _) | (with_reducible assumption) | (simp; done) | (simp; omega) | omega))⟩
            · go_wp2_with (go_at_call 11; (with_reducible refine (own_any (A1 := A1) (A2 := A2) (c1 := c1) (c2 := c2) hlo hpr k1 k2 kz v hv64).mono ?_); rw [HV.out]; rintro e w1 ⟨rfl, rfl⟩)
              go_roundw
              case rel => exact ⟨j + 1, by go_num, by omega, Lib.hid (all_next HA.out HVI.out HV.out), by first | rfl | trivial⟩
              case measure => simp [intOf]; omega
          · obtain rfl : j = ps.length := by omega
            have hA : (ps.take ps.length).all (ownB lo pr) = true := HA.out
            rw [List.take_length] at hA
            have HA2 := Lib.hid hA
            clear hA HA
            repeat' (first | (with_reducible refine then_exit ?_) | (with_reducible refine then_ret ?_) | (with_reducible refine then_normal ?_) | (with_reducible refine inBlock_hit ?_) | ((with_reducible refine inBlock_miss ?_ ?_); (exact rfl)) | (with_reducible refine inBlock_ret ?_) | (with_reducible refine inBlock_normal ?_) | go_values | go_skip | go_guarded | go_step | go_upon | go_in | go_back | (simp only [Int.not_lt, Int.not_le] at *; go_simp) | (go_values <;> (try go_simp)) | (go_ite <;> go_prune <;> (try go_simp)) | (split <;> (first | (rename_i hx; exact (hx _ rfl).elim) | go_prune)))
            (try simp only [Exit.inBlock, Exit.then]); refine bodyPost_ret (by simp [results, Try.results9, go_sem, *]; try rfl) rfl ?_
            exact ⟨by rw [HA2.out], by first | exact HW9.out | (repeat' (first | (with_reducible exact Below.refl _ _) | (refine Below.trans ?_ (Below.mono (by with_reducible assumption) ?_)) | (with_reducible exact Below.refl _ _) | (with_reducible refine below_drewN ?_ _) | (with_reducible refine Below.drew ?_) | (with_reducible refine Below.setCell ?_ ?_ _) | (with_reducible refine Below.alloc ?_ ?_ _) | (with_reducible assumption) | (simp; done) | (simp; omega) | omega))⟩
    · rw [Bool.true_or, Bool.true_and]
      go_enter Try.func9, Try.ntmps9
      repeat' (first | (with_reducible refine then_exit ?_) | (with_reducible refine then_ret ?_) | (with_reducible refine then_normal ?_) | (with_reducible refine inBlock_hit ?_) | ((with_reducible refine inBlock_miss ?_ ?_); (exact rfl)) | (with_reducible refine inBlock_ret ?_) | (with_reducible refine inBlock_normal ?_) | go_values | go_skip | go_guarded | go_step | go_upon | go_in | go_back | (simp only [Int.not_lt, Int.not_le] at *; go_simp) | (go_values <;> (try go_simp)) | (go_ite <;> go_prune <;> (try go_simp)) | (split <;> (first | (rename_i hx; exact (hx _ rfl).elim) | go_prune)))
      generalize hW : (World.alloc _ _ : World) = W9
      have k1 : W9.cell? ⟨w.heap.size, 1, none⟩ = some (.slice A1 lo c1) := by rw [← hW]; simp (maxDischargeDepth := 12) [go_sem]
      have k2 : W9.cell? ⟨w.heap.size, 2, none⟩ = some (.slice A2 pr c2) := by rw [← hW]; simp (maxDischargeDepth := 12) [go_sem]
      have kz : w.heap.size < W9.heap.size := by rw [← hW]; simp; omega
      have HW9 : Hid (Below w.heap.size w W9) := Lib.hid (by rw [← hW]; (repeat' (first | (with_reducible exact Below.refl _ _) | (refine Below.trans ?_ (Below.mono (by with_reducible assumption) ?_)) | (with_reducible exact Below.refl _ _) | (with_reducible refine below_drewN ?_ _) | (with_reducible refine Below.drew ?_) | (with_reducible refine Below.setCell ?_ ?_ _) | (with_reducible refine Below.alloc ?_ ?_ _) | (with_reducible assumption) | (simp; done) | (simp; omega) | omega)))
      clear hW
      go_loopw [46] (fun i wr => ∃ j : Nat, i = .int .i64 (j : Int) ∧ j ≤ ps.length ∧ Hid (Pre lo pr ps j) ∧ wr = W9) (fun i _ => ps.length - (intOf i).toNat)
      case atStart => exact ⟨0, rfl, Nat.zero_le _, Lib.hid rfl, rfl⟩
      case round =>
        obtain ⟨j, rfl, hj, HA, hwr⟩ := hrel
        subst hwr
        by_cases hlt : j < ps.length
        · obtain ⟨adI, qI, v, rfl, hqI, hbI, hvI, hcI⟩ := ints_at (HP.out.below (HW9.out.mono hB)) hlt
          have hv64 := HI.out v (List.mem_of_getElem? hvI)
          have hbI' : qI.block < wr.heap.size := by have := HW9.out.size; omega
          have HVI := Lib.hid hvI
          clear hvI hbI
          generalize hv : ownB lo pr v = qv
          have HV := Lib.hid hv
          clear hv
          cases qv
          · go_wp2_with (go_at_call 11; (with_reducible refine (own_any (A1 := A1) (A2 := A2) (c1 := c1) (c2 := c2) hlo hpr k1 k2 kz v hv64).mono ?_); rw [HV.out]; rintro e w1 ⟨rfl, rfl⟩)
            (try simp only [Exit.inBlock, Exit.then]); refine bodyPost_ret (by simp [results, Try.results9, go_sem, *]; try rfl) rfl ?_
            exact ⟨by rw [all_not HVI.out HV.out], by first | exact HW9.out | (repeat' (first | (with_reducible exact Below.refl _ _) | (refine Below.trans ?_ (Below.mono (by with_reducible assumption) ?_)) | (with_reducible exact Below.refl _ _) | (with_reducible refine below_drewN ?_ _) | (with_reducible refine Below.drew ?_) | (with_reducible refine Below.setCell ?_ ?_ _) | (with_reducible refine Below.alloc ?_ ?_ _) | (with_reducible assumption) | (simp; done) | (simp; omega) | omega))⟩
          · go_wp2_with (go_at_call 11; (with_reducible refine (own_any (A1 := A1) (A2 := A2) (c1 := c1) (c2 := c2) hlo hpr k1 k2 kz v hv64).mono ?_); rw [HV.out]; rintro e w1 ⟨rfl, rfl⟩)
            go_roundw
            case rel => exact ⟨j + 1, by go_num, by omega, Lib.hid (all_next HA.out HVI.out HV.out), by first | rfl | trivial⟩
            case measure => simp [intOf]; omega
        · obtain rfl : j = ps.length := by omega
          have hA : (ps.take ps.length).all (ownB lo pr) = true := HA.out
          rw [List.take_length] at hA
          have HA2 := Lib.hid hA
          clear hA HA
          repeat' (first | (with_reducible refine then_exit ?_) | (with_reducible refine then_ret ?_) | (with_reducible refine then_normal ?_) | (with_reducible refine inBlock_hit ?_) | ((with_reducible refine inBlock_miss ?_ ?_); (exact rfl)) | (with_reducible refine inBlock_ret ?_) | (with_reducible refine inBlock_normal ?_) | go_values | go_skip | go_guarded | go_step | go_upon | go_in | go_back | (simp only [Int.not_lt, Int.not_le] at *; go_simp) | (go_values <;> (try go_simp)) | (go_ite <;> go_prune <;> (try go_simp)) | (split <;> (first | (rename_i hx; exact (hx _ rfl).elim) | go_prune)))
          (try simp only [Exit.inBlock, Exit.then]); refine bodyPost_ret (by simp [results, Try.results9, go_sem, *]; try rfl) rfl ?_
          exact ⟨by rw [HA2.out], by first | exact HW9.out | (repeat' (first | (with_reducible exact Below.refl _ _) | (refine Below.trans ?_ (Below.mono (by with_reducible assumption) ?_)) | (with_reducible exact Below.refl _ _) | (with_reducible refine below_drewN ?_ _) | (with_reducible refine Below.drew ?_) | (with_reducible refine Below.setCell ?_ ?_ _) | (with_reducible refine Below.alloc ?_ ?_ _) | (with_reducible assumption) | (simp; done) | (simp; omega) | omega))⟩
  · rw [decide_eq_false hl, Bool.false_and]
    have hl' : ((ps.length : Int) == 0) = false := by simpa using (by omega : ¬ (ps.length : Int) = 0)
    go_enter Try.func9, Try.ntmps9
    repeat' (first | (with_reducible refine then_exit ?_) | (with_reducible refine then_ret ?_) | (with_reducible refine then_normal ?_) | (with_reducible refine inBlock_hit ?_) | ((with_reducible refine inBlock_miss ?_ ?_); (exact rfl)) | (with_reducible refine inBlock_ret ?_) | (with_reducible refine inBlock_normal ?_) | go_values | go_skip | go_guarded | go_step | go_upon | go_in | go_back | (simp only [Int.not_lt, Int.not_le] at *; go_simp) | (go_values <;> (try go_simp)) | (go_ite <;> go_prune <;> (try go_simp)) | (split <;> (first | (rename_i hx; exact (hx _ rfl).elim) | go_prune)))
    (try simp only [Exit.inBlock, Exit.then]); refine bodyPost_ret (by simp [results, Try.results9, go_sem, *]; try rfl) rfl ?_
    exact ⟨rfl, by (repeat' (first | (with_reducible exact Below.refl _ _) | (refine Below.trans ?_ (Below.mono (by with_reducible assumption) ?_)) | (with_reducible exact Below.refl _ _) | (with_reducible refine below_drewN ?_ _) | (with_reducible refine Below.drew ?_) | (with_reducible refine Below.setCell ?_ ?_ _) | (with_reducible refine Below.alloc ?_ ?_ _) | (with_reducible assumption) | (simp; done) | (simp; omega) | omega))⟩
set_option maxRecDepth 100000 in
set_option maxHeartbeats 1600000 in
theorem job_3 {w : World} {B : Nat} {G J : Value} {A1 A2 A3 : Option Addr} {lo pr c1 c2 c3 : Nat} {ps : List Int} (hlo : lo ≤ maxLen) (hpr : pr ≤ maxLen) (hps : Reads w B 1 A3 ps.length (ps.map iv64)) (hB : B ≤ w.heap.size) (hi : ∀ i ∈ ps, I64 i) (hc3 : ps.length ≤ c3) (hm3 : c3 ≤ maxLen) (body : Int) (hb : I64 body) (bare : Bool) :
    Calls Try.prog 9 #[.agg #[G, .slice A1 lo c1, .slice A2 pr c2, J], .agg #[.int .i64 3, .slice A3 ps.length c3, .int .i64 body, .bool bare]] w (BoolPost w (decide (ps.length = 0) && (bare || ownB lo pr body) && ps.all (ownB lo pr))) := by
  unfold maxLen at hm3
  have HP := Lib.hid hps
  have HI := Lib.hid hi
  clear hps hi
  by_cases hl : ps.length = 0
  · rw [decide_eq_true hl, Bool.true_and]
    have hl' : ((ps.length : Int) != 0) = false := by simpa using (by omega : (ps.length : Int) = 0)
    clear hl
    cases bare
    · rw [Bool.false_or]
      generalize hq : ownB lo pr body = q
      have HQ := Lib.hid hq
      clear hq
      cases q
      · go_enter Try.func9, Try.ntmps9
        repeat' (first | (with_reducible refine then_exit ?_) | (with_reducible refine then_ret ?_) | (with_reducible refine then_normal ?_) | (with_reducible refine inBlock_hit ?_) | ((with_reducible refine inBlock_miss ?_ ?_); (exact rfl)) | (with_reducible refine inBlock_ret ?_) | (with_reducible refine inBlock_normal ?_) | (go_big_may; (go_at_call 11; (with_reducible refine (own_any (A1 := A1) (A2 := A2) (c1 := c1) (c2 := c2) hlo hpr (by simp (maxDischargeDepth := 12) [go_sem]) (by simp (maxDischargeDepth := 12) [go_sem]) (by simp; omega) body hb).mono ?_); rw [HQ.out]; rintro e w1 ⟨rfl, rfl⟩)) | go_values | go_skip | go_guarded | go_step | go_upon | go_back | (simp only [Int.not_lt, Int.not_le] at *; go_simp) | (go_values <;> (try go_simp)) | (go_ite <;> go_prune <;> (try go_simp)) | (split <;> (first | (rename_i hx; exact (hx _ rfl).elim) | go_prune)))
        (try simp only [Exit.inBlock, Exit.then]); refine bodyPost_ret (by simp [results, Try.results9, go_sem, *]; try rfl) rfl ?_
        exact ⟨rfl, by (repeat' (first | (with_reducible exact Below.refl _ _) | (refine Below.trans ?_ (Below.mono (by with_reducible assumption) ?_)) | (with_reducible exact Below.refl _ _) | (with_reducible refine below_drewN ?_ _) | (with_reducible refine Below.drew ?_) | (with_reducible refine Below.setCell ?_ ?_ _) | (with_reducible refine Below.alloc ?_ ?_ _) | (with_reducible assumption) | (simp; done) | (simp; omega) | omega))⟩
      · rw [Bool.true_and]
        go_enter Try.func9, Try.ntmps9
        repeat' (first | (with_reducible refine then_exit ?_) | (with_reducible refine then_ret ?_) | (with_reducible refine then_normal ?_) | (with_reducible refine inBlock_hit ?_) | ((with_reducible refine inBlock_miss ?_ ?_); (exact rfl)) | (with_reducible refine inBlock_ret ?_) | (with_reducible refine inBlock_normal ?_) | (go_big_may; (go_at_call 11; (with_reducible refine (own_any (A1 := A1) (A2 := A2) (c1 := c1) (c2 := c2) hlo hpr (by simp (maxDischargeDepth := 12) [go_sem]) (by simp (maxDischargeDepth := 12) [go_sem]) (by simp; omega) body hb).mono ?_); rw [HQ.out]; rintro e w1 ⟨rfl, rfl⟩)) | go_values | go_skip | go_guarded | go_step | go_upon | go_back | (simp only [Int.not_lt, Int.not_le] at *; go_simp) | (go_values <;> (try go_simp)) | (go_ite <;> go_prune <;> (try go_simp)) | (split <;> (first | (rename_i hx; exact (hx _ rfl).elim) | go_prune)))
        generalize hW : (World.alloc _ _ : World) = W9
        have k1 : W9.cell? ⟨w.heap.size, 1, none⟩ = some (.slice A1 lo c1) := by rw [← hW]; simp (maxDischargeDepth := 12) [go_sem]
        have k2 : W9.cell? ⟨w.heap.size, 2, none⟩ = some (.slice A2 pr c2) := by rw [← hW]; simp (maxDischargeDepth := 12) [go_sem]
        have kz : w.heap.size < W9.heap.size := by rw [← hW]; simp; omega
        have HW9 : Hid (Below w.heap.size w W9) := Lib.hid (by rw [← hW]; (repeat' (first | (with_reducible exact Below.refl _ _) | (refine Below.trans ?_ (Below.mono (by with_reducible assumption) ?_)) | (with_reducible exact Below.refl _ _) | (with_reducible refine below_drewN ?_ _) | (with_reducible refine Below.drew ?_) | (with_reducible refine Below.setCell ?_ ?_ _) | (with_reducible refine Below.alloc ?_ ?_ _) | (with_reducible assumption) | (simp; done) | (simp; omega) | omega)))
        clear hW
        go_loopw [46] (fun i wr => ∃ j : Nat, i = .int .i64 (j : Int) ∧ j ≤ ps.length ∧ Hid (Pre lo pr ps j) ∧ wr = W9) (fun i _ => ps.length - (intOf i).toNat)
        case atStart => exact ⟨0, rfl, Nat.zero_le _, Lib.hid rfl, rfl⟩
        case round =>
          obtain ⟨j, rfl, hj, HA, hwr⟩ := hrel
          subst hwr
          by_cases hlt : j < ps.length
          · obtain ⟨adI, qI, v, rfl, hqI, hbI, hvI, hcI⟩ := ints_at (HP.out.below (HW9.out.mono hB)) hlt
            have hv64 := HI.out v (List.mem_of_getElem? hvI)
            have hbI' : qI.block < wr.heap.size := by have := HW9.out.size; omega
            have HVI := Lib.hid hvI
            clear hvI hbI
            generalize hv : ownB lo pr v = qv
            have HV := Lib.hid hv
            clear hv
            cases qv
            · go_wp2_with (go_at_call 11; (with_reducible refine (own_any (A1 := A1) (A2 := A2) (c1 := c1) (c2 := c2) hlo hpr k1 k2 kz v hv64).mono ?_); rw [HV.out]; rintro e w1 ⟨rfl, rfl⟩)
              (try simp only [Exit.inBlock, Exit.then]); refine bodyPost_ret (by simp [results, Try.results9, go_sem, *]; try rfl) rfl ?_
              exact ⟨by rw [all_not HVI.out HV.out], by first | exact HW9.out | (repeat' (first | (with_reducible exact Below.refl _ _) | (refine Below.trans ?_ (Below.mono (by with_reducible assumption) ?_)) | (with_reducible exact Below.refl _ _) | (with_reducible refine below_drewN ?_ _) | (with_reducible refine Below.drew ?_) | (with_reducible refine Below.setCell ?_ ?_ _) | (with_reducible refine Below.alloc ?_ ?_ _) | (with_reducible assumption) | (simp; done) | (simp; omega) | omega))⟩
            · go_wp2_with (go_at_call 11; (with_reducible refine (own_any (A1 := A1) (A2 := A2) (c1 := c1) (c2 := c2) hlo hpr k1 k2 kz v hv64).mono ?_); rw [HV.out]; rintro e w1 ⟨rfl, rfl⟩)
              go_roundw
              case rel => exact ⟨j + 1, by go_num, by omega, Lib.hid (all_next HA.out HVI.out HV.out), by first | rfl | trivial⟩
              case measure => simp [intOf]; omega
          · obtain rfl : j = ps.length := by omega
            have hA : (ps.take ps.length).all (ownB lo pr) = true := HA.out
            rw [List.take_length] at hA
            have HA2 := Lib.hid hA
            clear hA HA
            repeat' (first | (with_reducible refine then_exit ?_) | (with_reducible refine then_ret ?_) | (with_reducible refine then_normal ?_) | (with_reducible refine inBlock_hit ?_) | ((with_reducible refine inBlock_miss ?_ ?_); (exact rfl)) | (with_reducible refine inBlock_ret ?_) | (with_reducible refine inBlock_normal ?_) | go_values | go_skip | go_guarded | go_step | go_upon | go_in | go_back | (simp only [Int.not_lt, Int.not_le] at *; go_simp) | (go_values <;> (try go_simp)) | (go_ite <;> go_prune <;> (try go_simp)) | (split <;> (first | (rename_i hx; exact (hx _ rfl).elim) | go_prune)))
            (try simp only [Exit.inBlock, Exit.then]); refine bodyPost_ret (by simp [results, Try.results9, go_sem, *]; try rfl) rfl ?_
            exact ⟨by rw [HA2.out], by first | exact HW9.out | (repeat' (first | (with_reducible exact Below.refl _ _) | (refine Below.trans ?_ (Below.mono (by with_reducible assumption) ?_)) | (with_reducible exact Below.refl _ _) | (with_reducible refine below_drewN ?_ _) | (with_reducible refine Below.drew ?_) | (with_reducible refine Below.setCell ?_ ?_ _) | (with_reducible refine Below.alloc ?_ ?_ _) | (with_reducible assumption) | (simp; done) | (simp; omega) | omega))⟩
    · rw [Bool.true_or, Bool.true_and]
      go_enter Try.func9, Try.ntmps9
      repeat' (first | (with_reducible refine then_exit ?_) | (with_reducible refine then_ret ?_) | (with_reducible refine then_normal ?_) | (with_reducible refine inBlock_hit ?_) | ((with_reducible refine inBlock_miss ?_ ?_); (exact rfl)) | (with_reducible refine inBlock_ret ?_) | (with_reducible refine inBlock_normal ?_) | go_values | go_skip | go_guarded | go_step | go_upon | go_in | go_back | (simp only [Int.not_lt, Int.not_le] at *; go_simp) | (go_values <;> (try go_simp)) | (go_ite <;> go_prune <;> (try go_simp)) | (split <;> (first | (rename_i hx; exact (hx _ rfl).elim) | go_prune)))
      generalize hW : (World.alloc _ _ : World) = W9
      have k1 : W9.cell? ⟨w.heap.size, 1, none⟩ = some (.slice A1 lo c1) := by rw [← hW]; simp (maxDischargeDepth := 12) [go_sem]
      have k2 : W9.cell? ⟨w.heap.size, 2, none⟩ = some (.slice A2 pr c2) := by rw [← hW]; simp (maxDischargeDepth := 12) [go_sem]
      have kz : w.heap.size < W9.heap.size := by rw [← hW]; simp; omega
      have HW9 : Hid (Below w.heap.size w W9) := Lib.hid (by rw [← hW]; (repeat' (first | (with_reducible exact Below.refl _ _) | (refine Below.trans ?_ (Below.mono (by with_reducible assumption) ?_)) | (with_reducible exact Below.refl _ _) | (with_reducible refine below_drewN ?_ _) | (with_reducible refine Below.drew ?_) | (with_reducible refine Below.setCell ?_ ?_ _) | (with_reducible refine Below.alloc ?_ ?_ _) | (with_reducible assumption) | (simp; done) | (simp; omega) | omega)))
      clear hW
      go_loopw [46] (fun i wr => ∃ j : Nat, i = .int .i64 (j : Int) ∧ j ≤ ps.length ∧ Hid (Pre lo pr ps j) ∧ wr = W9) (fun i _ => ps.length - (intOf i).toNat)
      case atStart => exact ⟨0, rfl, Nat.zero_le _, Lib.hid rfl, rfl⟩
      case round =>
        obtain ⟨j, rfl, hj, HA, hwr⟩ := hrel
        subst hwr
        by_cases hlt : j < ps.length
        · obtain ⟨adI, qI, v, rfl, hqI, hbI, hvI, hcI⟩ := ints_at (HP.out.below (HW9.out.mono hB)) hlt
          have hv64 := HI.out v (List.mem_of_getElem? hvI)
          have hbI' : qI.block < wr.heap.size := by have := HW9.out.size; omega
          have HVI := Lib.hid hvI
          clear hvI hbI
          generalize hv : ownB lo pr v = qv
          have HV := Lib.hid hv
          clear hv
          cases qv
          · go_wp2_with (go_at_call 11; (with_reducible refine (own_any (A1 := A1) (A2 := A2) (c1 := c1) (c2 := c2) hlo hpr k1 k2 kz v hv64).mono ?_); rw [HV.out]; rintro e w1 ⟨rfl, rfl⟩)
            (try simp only [Exit.inBlock, Exit.then]); refine bodyPost_ret (by simp [results, Try.results9, go_sem, *]; try rfl) rfl ?_
            exact ⟨by rw [all_not HVI.out HV.out], by first | exact HW9.out | (repeat' (first | (with_reducible exact Below.refl _ _) | (refine Below.trans ?_ (Below.mono (by with_reducible assumption) ?_)) | (with_reducible exact Below.refl _ _) | (with_reducible refine below_drewN ?_ _) | (with_reducible refine Below.drew ?_) | (with_reducible refine Below.setCell ?_ ?_ _) | (with_reducible refine Below.alloc ?_ ?_ _) | (with_reducible assumption) | (simp; done) | (simp; omega) | omega))⟩
          · go_wp2_with (go_at_call 11; (with_reducible refine (own_any (A1 := A1) (A2 := A2) (c1 := c1) (c2 := c2) hlo hpr k1 k2 kz v hv64).mono ?_); rw [HV.out]; rintro e w1 ⟨rfl, rfl⟩)
            go_roundw
            case rel => exact ⟨j + 1, by go_num, by omega, Lib.hid (all_next HA.out HVI.out HV.out), by first | rfl | trivial⟩
            case measure => simp [intOf]; omega
        · obtain rfl : j = ps.length := by omega
          have hA : (ps.take ps.length).all (ownB lo pr) = true := HA.out
          rw [List.take_length] at hA
          have HA2 := Lib.hid hA
          clear hA HA
          repeat' (first | (with_reducible refine then_exit ?_) | (with_reducible refine then_ret ?_) | (with_reducible refine then_normal ?_) | (with_reducible refine inBlock_hit ?_) | ((with_reducible refine inBlock_miss ?_ ?_); (exact rfl)) | (with_reducible refine inBlock_ret ?_) | (with_reducible refine inBlock_normal ?_) | go_values | go_skip | go_guarded | go_step | go_upon | go_in | go_back | (simp only [Int.not_lt, Int.not_le] at *; go_simp) | (go_values <;> (try go_simp)) | (go_ite <;> go_prune <;> (try go_simp)) | (split <;> (first | (rename_i hx; exact (hx _ rfl).elim) | go_prune)))
          (try simp only [Exit.inBlock, Exit.then]); refine bodyPost_ret (by simp [results, Try.results9, go_sem, *]; try rfl) rfl ?_
          exact ⟨by rw [HA2.out], by first | exact HW9.out | (repeat' (first | (with_reducible exact Below.refl _ _) | (refine Below.trans ?_ (Below.mono (by with_reducible assumption) ?_)) | (with_reducible exact Below.refl _ _) | (with_reducible refine below_drewN ?_ _) | (with_reducible refine Below.drew ?_) | (with_reducible refine Below.setCell ?_ ?_ _) | (with_reducible refine Below.alloc ?_ ?_ _) | (with_reducible assumption) | (simp; done) | (simp; omega) | omega))⟩
  · rw [decide_eq_false hl, Bool.false_and]
    have hl' : ((ps.length : Int) == 0) = false := by simpa using (by omega : ¬ (ps.length : Int) = 0)
    go_enter Try.func9, Try.ntmps9
    repeat' (first | (with_reducible refine then_exit ?_) | (with_reducible refine then_ret ?_) | (with_reducible refine then_normal ?_) | (with_reducible refine inBlock_hit ?_) | ((with_reducible refine inBlock_miss ?_ ?_); (exact rfl)) | (with_reducible refine inBlock_ret ?_) | (with_reducible refine inBlock_normal ?_) | go_values | go_skip | go_guarded | go_step | go_upon | go_in | go_back | (simp only [Int.not_lt, Int.not_le] at *; go_simp) | (go_values <;> (try go_simp)) | (go_ite <;> go_prune <;> (try go_simp)) | (split <;> (first | (rename_i hx; exact (hx _ rfl).elim) | go_prune)))
    (try simp only [Exit.inBlock, Exit.then]); refine bodyPost_ret (by simp [results, Try.results9, go_sem, *]; try rfl) rfl ?_
    exact ⟨rfl, by (repeat' (first | (with_reducible exact Below.refl _ _) | (refine Below.trans ?_ (Below.mono (by with_reducible assumption) ?_)) | (with_reducible exact Below.refl _ _) | (with_reducible refine below_drewN ?_ _) | (with_reducible refine Below.drew ?_) | (with_reducible refine Below.setCell ?_ ?_ _) | (with_reducible refine Below.alloc ?_ ?_ _) | (with_reducible assumption) | (simp; done) | (simp; omega) | omega))⟩
set_option maxRecDepth 100000 in
set_option maxHeartbeats 1600000 in
theorem job_4 {w : World} {B : Nat} {G J : Value} {A1 A2 A3 : Option Addr} {lo pr c1 c2 c3 : Nat} {ps : List Int} (hlo : lo ≤ maxLen) (hpr : pr ≤ maxLen) (hps : Reads w B 1 A3 ps.length (ps.map iv64)) (hB : B ≤ w.heap.size) (hi : ∀ i ∈ ps, I64 i) (hc3 : ps.length ≤ c3) (hm3 : c3 ≤ maxLen) (body : Int) (hb : I64 body) (bare : Bool) :
    Calls Try.prog 9 #[.agg #[G, .slice A1 lo c1, .slice A2 pr c2, J], .agg #[.int .i64 4, .slice A3 ps.length c3, .int .i64 body, .bool bare]] w (BoolPost w (decide (ps.length = 0) && (bare || ownB lo pr body) && ps.all (ownB lo pr))) := by
  unfold maxLen at hm3
  have HP := Lib.hid hps
  have HI := Lib.hid hi
  clear hps hi
  by_cases hl : ps.length = 0
  · rw [decide_eq_true hl, Bool.true_and]
    have hl' : ((ps.length : Int) != 0) = false := by simpa using (by omega : (ps.length : Int) = 0)
    clear hl
    cases bare
    · rw [Bool.false_or]
      generalize hq : ownB lo pr body = q
      have HQ := Lib.hid hq
      clear hq
      cases q
      · go_enter Try.func9, Try.ntmps9
        repeat' (first | (with_reducible refine then_exit ?_) | (with_reducible refine then_ret ?_) | (with_reducible refine then_normal ?_) | (with_reducible refine inBlock_hit ?_) | ((with_reducible refine inBlock_miss ?_ ?_); (exact rfl)) | (with_reducible refine inBlock_ret ?_) | (with_reducible refine inBlock_normal ?_) | (go_big_may; (go_at_call 11; (with_reducible refine (own_any (A1 := A1) (A2 := A2) (c1 := c1) (c2 := c2) hlo hpr (by simp (maxDischargeDepth := 12) [go_sem]) (by simp (maxDischargeDepth := 12) [go_sem]) (by simp; omega) body hb).mono ?_); rw [HQ.out]; rintro e w1 ⟨rfl, rfl⟩)) | go_values | go_skip | go_guarded | go_step | go_upon | go_back | (simp only [Int.not_lt, Int.not_le] at *; go_simp) | (go_values <;> (try go_simp)) | (go_ite <;> go_prune <;> (try go_simp)) | (split <;> (first | (rename_i hx; exact (hx _ rfl).elim) | go_prune)))
        (try simp only [Exit.inBlock, Exit.then]); refine bodyPost_ret (by simp [results, Try.results9, go_sem, *]; try rfl) rfl ?_
        exact ⟨rfl, by (repeat' (first | (with_reducible exact Below.refl _ _) | (refine Below.trans ?_ (Below.mono (by with_reducible assumption) ?_)) | (with_reducible exact Below.refl _ _) | (with_reducible refine below_drewN ?_ _) | (with_reducible refine Below.drew ?_) | (with_reducible refine Below.setCell ?_ ?_ _) | (with_reducible refine Below.alloc ?_ ?_ _) | (with_reducible assumption) | (simp; done) | (simp; omega) | omega))⟩
      · rw [Bool.true_and]
        go_enter Try.func9, Try.ntmps9
        repeat' (first | (with_reducible refine then_exit ?_) | (with_reducible refine then_ret ?_) | (with_reducible refine then_normal ?_) | (with_reducible refine inBlock_hit ?_) | ((with_reducible refine inBlock_miss ?_ ?_); (exact rfl)) | (with_reducible refine inBlock_ret ?_) | (with_reducible refine inBlock_normal ?_) | (go_big_may; (go_at_call 11; (with_reducible refine (own_any (A1 := A1) (A2 := A2) (c1 := c1) (c2 := c2) hlo hpr (by simp (maxDischargeDepth := 12) [go_sem]) (by simp (maxDischargeDepth := 12) [go_sem]) (by simp; omega) body hb).mono ?_); rw [HQ.out]; rintro e w1 ⟨rfl, rfl⟩)) | go_values | go_skip | go_guarded | go_step | go_upon | go_back | (simp only [Int.not_lt, Int.not_le] at *; go_simp) | (go_values <;> (try go_simp)) | (go_ite <;> go_prune <;> (try go_simp)) | (split <;> (first | (rename_i hx; exact (hx _ rfl).elim) | go_prune)))
        generalize hW : (World.alloc _ _ : World) = W9
        have k1 : W9.cell? ⟨w.heap.size, 1, none⟩ = some (.slice A1 lo c1) := by rw [← hW]; simp (maxDischargeDepth := 12) [go_sem]
        have k2 : W9.cell? ⟨w.heap.size, 2, none⟩ = some (.slice A2 pr c2) := by rw [← hW]; simp (maxDischargeDepth := 12) [go_sem]
        have kz : w.heap.size < W9.heap.size := by rw [← hW]; simp; omega
        have HW9 : Hid (Below w.heap.size w W9) := Lib.hid (by rw [← hW]; (repeat' (first | (with_reducible exact Below.refl _ _) | (refine Below.trans ?_ (Below.mono (by with_reducible assumption) ?_)) | (with_reducible exact Below.refl _ _) | (with_reducible refine below_drewN ?_ _) | (with_reducible refine Below.drew ?_) | (with_reducible refine Below.setCell ?_ ?_ _) | (with_reducible refine Below.alloc ?_ ?_ _) | (with_reducible assumption) | (simp; done) | (simp; omega) | omega)))
        clear hW
        go_loopw [46] (fun i wr => ∃ j : Nat, i = .int .i64 (j : Int) ∧ j ≤ ps.length ∧ Hid (Pre lo pr ps j) ∧ wr = W9) (fun i _ => ps.length - (intOf i).toNat)
        case atStart => exact ⟨0, rfl, Nat.zero_le _, Lib.hid rfl, rfl⟩
        case round =>
          obtain ⟨j, rfl, hj, HA, hwr⟩ := hrel
          subst hwr
          by_cases hlt : j < ps.length
          · obtain ⟨adI, qI, v, rfl, hqI, hbI, hvI, hcI⟩ := ints_at (HP.out.below (HW9.out.mono hB)) hlt
            have hv64 := HI.out v (List.mem_of_getElem? hvI)
            have hbI' : qI.block < wr.heap.size := by have := HW9.out.size; omega
            have HVI := Lib.hid hvI
            clear hvI hbI
            generalize hv : ownB lo pr v = qv
            have HV := Lib.hid hv
            clear hv
            cases qv
            · go_wp2_with (go_at_call 11; (with_reducible refine (own_any (A1 := A1) (A2 := A2) (c1 := c1) (c2 := c2) hlo hpr k1 k2 kz v hv64).mono ?_); rw [HV.out]; rintro e w1 ⟨rfl, rfl⟩)
              (try simp only [Exit.inBlock, Exit.then]); refine bodyPost_ret (by simp [results, Try.results9, go_sem, *]; try rfl) rfl ?_
              exact ⟨by rw [all_not HVI.out HV.out], by first | exact HW9.out | (repeat' (first | (with_reducible exact Below.refl _ _) | (refine Below.trans ?_ (Below.mono (by with_reducible assumption) ?_)) | (with_reducible exact Below.refl _ _) | (with_reducible refine below_drewN ?_ _) | (with_reducible refine Below.drew ?_) | (with_reducible refine Below.setCell ?_ ?_ _) | (with_reducible refine Below.alloc ?_ ?_ _) | (with_reducible assumption) | (simp; done) | (simp; omega) | omega))⟩
            · go_wp2_with (go_at_call 11; (with_reducible refine (own_any (A1 := A1) (A2 := A2) (c1 := c1) (c2 := c2) hlo hpr k1 k2 kz v hv64).mono ?_); rw [HV.out]; rintro e w1 ⟨rfl, rfl⟩)
              go_roundw
              case rel => exact ⟨j + 1, by go_num, by omega, Lib.hid (all_next HA.out HVI.out HV.out), by first | rfl | trivial⟩
              case measure => simp [intOf]; omega
          · obtain rfl : j = ps.length := by omega
            have hA : (ps.take ps.length).all (ownB lo pr) = true := HA.out
            rw [List.take_length] at hA
            have HA2 := Lib.hid hA
            clear hA HA
            repeat' (first | (with_reducible refine then_exit ?_) | (with_reducible refine then_ret ?_) | (with_reducible refine then_normal ?_) | (with_reducible refine inBlock_hit ?_) | ((with_reducible refine inBlock_miss ?_ ?_); (exact rfl)) | (with_reducible refine inBlock_ret ?_) | (with_reducible refine inBlock_normal ?_) | go_values | go_skip | go_guarded | go_step | go_upon | go_in | go_back | (simp only [Int.not_lt, Int.not_le] at *; go_simp) | (go_values <;> (try go_simp)) | (go_ite <;> go_prune <;> (try go_simp)) | (split <;> (first | (rename_i hx; exact (hx _ rfl).elim) | go_prune)))
            (try simp only [Exit.inBlock, Exit.then]); refine bodyPost_ret (by simp [results, Try.results9, go_sem, *]; try rfl) rfl ?_
            exact ⟨by rw [HA2.out], by first | exact HW9.out | (repeat' (first | (with_reducible exact Below.refl _ _) | (refine Below.trans ?_ (Below.mono (by with_reducible assumption) ?_)) | (with_reducible exact Below.refl _ _) | (with_reducible refine below_drewN ?_ _) | (with_reducible refine Below.drew ?_) | (with_reducible refine Below.setCell ?_ ?_ _) | (with_reducible refine Below.alloc ?_ ?_ _) | (with_reducible assumption) | (simp; done) | (simp; omega) | omega))⟩
    · rw [Bool.true_or, Bool.true_and]
      go_enter Try.func9, Try.ntmps9
      repeat' (first | (with_reducible refine then_exit ?_) | (with_reducible refine then_ret ?_) | (with_reducible refine then_normal ?_) | (with_reducible refine inBlock_hit ?_) | ((with_reducible refine inBlock_miss ?_ ?_); (exact rfl)) | (with_reducible refine inBlock_ret ?_) | (with_reducible refine inBlock_normal ?_) | go_values | go_skip | go_guarded | go_step | go_upon | go_in | go_back | (simp only [Int.not_lt, Int.not_le] at *; go_simp) | (go_values <;> (try go_simp)) | (go_ite <;> go_prune <;> (try go_simp)) | (split <;> (first | (rename_i hx; exact (hx _ rfl).elim) | go_prune)))
      generalize hW : (World.alloc _ _ : World) = W9
      have k1 : W9.cell? ⟨w.heap.size, 1, none⟩ = some (.slice A1 lo c1) := by rw [← hW]; simp (maxDischargeDepth := 12) [go_sem]
      have k2 : W9.cell? ⟨w.heap.size, 2, none⟩ = some (.slice A2 pr c2) := by rw [← hW]; simp (maxDischargeDepth := 12) [go_sem]
      have kz : w.heap.size < W9.heap.size := by rw [← hW]; simp; omega
      have HW9 : Hid (Below w.heap.size w W9) := Lib.hid (by rw [← hW]; (repeat' (first | (with_reducible exact Below.refl _ _) | (refine Below.trans ?_ (Below.mono (by with_reducible assumption) ?_)) | (with_reducible exact Below.refl _ _) | (with_reducible refine below_drewN ?_ _) | (with_reducible refine Below.drew ?_) | (with_reducible refine Below.setCell ?_ ?_ _) | (with_reducible refine Below.alloc ?_ ?_ _) | (with_reducible assumption) | (simp; done) | (simp; omega) | omega)))
      clear hW
      go_loopw [46] (fun i wr => ∃ j : Nat, i = .int .i64 (j : Int) ∧ j ≤ ps.length ∧ Hid (Pre lo pr ps j) ∧ wr = W9) (fun i _ => ps.length - (intOf i).toNat)
      case atStart => exact ⟨0, rfl, Nat.zero_le _, Lib.hid rfl, rfl⟩
      case round =>
        obtain ⟨j, rfl, hj, HA, hwr⟩ := hrel
        subst hwr
        by_cases hlt : j < ps.length
        · obtain ⟨adI, qI, v, rfl, hqI, hbI, hvI, hcI⟩ := ints_at (HP.out.below (HW9.out.mono hB)) hlt
          have hv64 := HI.out v (List.mem_of_getElem? hvI)
          have hbI' : qI.block < wr.heap.size := by have := HW9.out.size; omega
          have HVI := Lib.hid hvI
          clear hvI hbI
          generalize hv : ownB lo pr v = qv
          have HV := Lib.hid hv
          clear hv
          cases qv
          · go_wp2_with (go_at_call 11; (with_reducible refine (own_any (A1 := A1) (A2 := A2) (c1 := c1) (c2 := c2) hlo hpr k1 k2 kz v hv64).mono ?_); rw [HV.out]; rintro e w1 ⟨rfl, rfl⟩)
            (try simp only [Exit.inBlock, Exit.then]); refine bodyPost_ret (by simp [results, Try.results9, go_sem, *]; try rfl) rfl ?_
            exact ⟨by rw [all_not HVI.out HV.out], by first | exact HW9.out | (repeat' (first | (with_reducible exact Below.refl _ _) | (refine Below.trans ?_ (Below.mono (by with_reducible assumption) ?_)) | (with_reducible exact Below.refl _ _) | (with_reducible refine below_drewN ?_ _) | (with_reducible refine Below.drew ?_) | (with_reducible refine Below.setCell ?_ ?_ _) | (with_reducible refine Below.alloc ?_ ?_ _) | (with_reducible assumption) | (simp; done) | (simp; omega) | omega))⟩
          · go_wp2_with (go_at_call 11; (with_reducible refine (own_any (A1 := A1) (A2 := A2) (c1 := c1) (c2 := c2) hlo hpr k1 k2 kz v hv64).mono ?_); rw [HV.out]; rintro e w1 ⟨rfl, rfl⟩)
            go_roundw
            case rel => exact ⟨j + 1, by go_num, by omega, Lib.hid (all_next HA.out HVI.out HV.out), by first | rfl | trivial⟩
            case measure => simp [intOf]; omega
        · obtain rfl : j = ps.length := by omega
          have hA : (ps.take ps.length).all (ownB lo pr) = true := HA.out
          rw [List.take_length] at hA
          have HA2 := Lib.hid hA
          clear hA HA
          repeat' (first | (with_reducible refine then_exit ?_) | (with_reducible refine then_ret ?_) | (with_reducible refine then_normal ?_) | (with_reducible refine inBlock_hit ?_) | ((with_reducible refine inBlock_miss ?_ ?_); (exact rfl)) | (with_reducible refine inBlock_ret ?_) | (with_reducible refine inBlock_normal ?_) | go_values | go_skip | go_guarded | go_step | go_upon | go_in | go_back | (simp only [Int.not_lt, Int.not_le] at *; go_simp) | (go_values <;> (try go_simp)) | (go_ite <;> go_prune <;> (try go_simp)) | (split <;> (first | (rename_i hx; exact (hx _ rfl).elim) | go_prune)))
          (try simp only [Exit.inBlock, Exit.then]); refine bodyPost_ret (by simp [results, Try.results9, go_sem, *]; try rfl) rfl ?_
          exact ⟨by rw [HA2.out], by first | exact HW9.out | (repeat' (first | (with_reducible exact Below.refl _ _) | (refine Below.trans ?_ (Below.mono (by with_reducible assumption) ?_)) | (with_reducible exact Below.refl _ _) | (with_reducible refine below_drewN ?_ _) | (with_reducible refine Below.drew ?_) | (with_reducible refine Below.setCell ?_ ?_ _) | (with_reducible refine Below.alloc ?_ ?_ _) | (with_reducible assumption) | (simp; done) | (simp; omega) | omega))⟩
  · rw [decide_eq_false hl, Bool.false_and]
    have hl' : ((ps.length : Int) == 0) = false := by simpa using (by omega : ¬ (ps.length : Int) = 0)
    go_enter Try.func9, Try.ntmps9
    repeat' (first | (with_reducible refine then_exit ?_) | (with_reducible refine then_ret ?_) | (with_reducible refine then_normal ?_) | (with_reducible refine inBlock_hit ?_) | ((with_reducible refine inBlock_miss ?_ ?_); (exact rfl)) | (with_reducible refine inBlock_ret ?_) | (with_reducible refine inBlock_normal ?_) | go_values | go_skip | go_guarded | go_step | go_upon | go_in | go_back | (simp only [Int.not_lt, Int.not_le] at *; go_simp) | (go_values <;> (try go_simp)) | (go_ite <;> go_prune <;> (try go_simp)) | (split <;> (first | (rename_i hx; exact (hx _ rfl).elim) | go_prune)))
    (try simp only [Exit.inBlock, Exit.then]); refine bodyPost_ret (by simp [results, Try.results9, go_sem, *]; try rfl) rfl ?_
    exact ⟨rfl, by (repeat' (first | (with_reducible exact Below.refl _ _) | (refine Below.trans ?_ (Below.mono (by with_reducible assumption) ?_)) | (with_reducible exact Below.refl _ _) | (with_reducible refine below_drewN ?_ _) | (with_reducible refine Below.drew ?_) | (with_reducible refine Below.setCell ?_ ?_ _) | (with_reducible refine Below.alloc ?_ ?_ _) | (with_reducible assumption) | (simp; done) | (simp; omega) | omega))⟩
set_option maxRecDepth 100000 in
set_option maxHeartbeats 1600000 in
theorem job_5 {w : World} {B : Nat} {G J : Value} {A1 A2 A3 : Option Addr} {lo pr c1 c2 c3 : Nat} {ps : List Int} (hlo : lo ≤ maxLen) (hpr : pr ≤ maxLen) (hps : Reads w B 1 A3 ps.length (ps.map iv64)) (hB : B ≤ w.heap.size) (hi : ∀ i ∈ ps, I64 i) (hc3 : ps.length ≤ c3) (hm3 : c3 ≤ maxLen) (body : Int) (hb : I64 body) (bare : Bool) :
    Calls Try.prog 9 #[.agg #[G, .slice A1 lo c1, .slice A2 pr c2, J], .agg #[.int .i64 5, .slice A3 ps.length c3, .int .i64 body, .bool bare]] w (BoolPost w (decide (ps.length = 0) && (bare || ownB lo pr body) && ps.all (ownB lo pr))) := by
  unfold maxLen at hm3
  have HP := Lib.hid hps
  have HI := Lib.hid hi
  clear hps hi
  by_cases hl : ps.length = 0
  · rw [decide_eq_true hl, Bool.true_and]
    have hl' : ((ps.length : Int) != 0) = false := by simpa using (by omega : (ps.length : Int) = 0)
    clear hl
    cases bare
    · rw [Bool.false_or]
      generalize hq : ownB lo pr body = q
      have HQ := Lib.hid hq
      clear hq
      cases q
      · go_enter Try.func9, Try.ntmps9
        repeat' (first | (with_reducible refine then_exit ?_) | (with_reducible refine then_ret ?_) | (with_reducible refine then_normal ?_) | (with_reducible refine inBlock_hit ?_) | ((with_reducible refine inBlock_miss ?_ ?_); (exact rfl)) | (with_reducible refine inBlock_ret ?_) | (with_reducible refine inBlock_normal ?_) | (go_big_may; (go_at_call 11; (with_reducible refine (own_any (A1 := A1) (A2 := A2) (c1 := c1) (c2 := c2) hlo hpr (by simp (maxDischargeDepth := 12) [go_sem]) (by simp (maxDischargeDepth := 12) [go_sem]) (by simp; omega) body hb).mono ?_); rw [HQ.out]; rintro e w1 ⟨rfl, rfl⟩)) | go_values | go_skip | go_guarded | go_step | go_upon | go_back | (simp only [Int.not_lt, Int.not_le] at *; go_simp) | (go_values <;> (try go_simp)) | (go_ite <;> go_prune <;> (try go_simp)) | (split <;> (first | (rename_i hx; exact (hx _ rfl).elim) | go_prune)))
        (try simp only [Exit.inBlock, Exit.then]); refine bodyPost_ret (by simp [results, Try.results9, go_sem, *]; try rfl) rfl ?_
        exact ⟨rfl, by (repeat' (first | (with_reducible exact Below.refl _ _) | (refine Below.trans ?_ (Below.mono (by with_reducible assumption) ?_)) | (with_reducible exact Below.refl _ _) | (with_reducible refine below_drewN ?_ _) | (with_reducible refine Below.drew ?_) | (with_reducible refine Below.setCell ?_ ?_ _) | (with_reducible refine Below.alloc ?_ ?_ _) | (with_reducible assumption) | (simp; done) | (simp; omega) | omega))⟩
      · rw [Bool.true_and]
        go_enter Try.func9, Try.ntmps9
        repeat' (first | (with_reducible refine then_exit ?_) | (with_reducible refine then_ret ?_) | (with_reducible refine then_normal ?_) | (with_reducible refine inBlock_hit ?_) | ((with_reducible refine inBlock_miss ?_ ?_); (exact rfl)) | (with_reducible refine inBlock_ret ?_) | (with_reducible refine inBlock_normal ?_) | (go_big_may; (go_at_call 11; (with_reducible refine (own_any (A1 := A1) (A2 := A2) (c1 := c1) (c2 := c2) hlo hpr (by simp (maxDischargeDepth := 12) [go_sem]) (by simp (maxDischargeDepth := 12) [go_sem]) (by simp; omega) body hb).mono ?_); rw [HQ.out]; rintro e w1 ⟨rfl, rfl⟩)) | go_values | go_skip | go_guarded | go_step | go_upon | go_back | (simp only [Int.not_lt, Int.not_le] at *; go_simp) | (go_values <;> (try go_simp)) | (go_ite <;> go_prune <;> (try go_simp)) | (split <;> (first | (rename_i hx; exact (hx _ rfl).elim) | go_prune)))
        generalize hW : (World.alloc _ _ : World) = W9
        have k1 : W9.cell? ⟨w.heap.size, 1, none⟩ = some (.slice A1 lo c1) := by rw [← hW]; simp (maxDischargeDepth := 12) [go_sem]
        have k2 : W9.cell? ⟨w.heap.size, 2, none⟩ = some (.slice A2 pr c2) := by rw [← hW]; simp (maxDischargeDepth := 12) [go_sem]
        have kz : w.heap.size < W9.heap.size := by rw [← hW]; simp; omega
        have HW9 : Hid (Below w.heap.size w W9) := Lib.hid (by rw [← hW]; (repeat' (first | (with_reducible exact Below.refl _ _) | (refine Below.trans ?_ (Below.mono (by with_reducible assumption) ?_)) | (with_reducible exact Below.refl _ _) | (with_reducible refine below_drewN ?_ _) | (with_reducible refine Below.drew ?_) | (with_reducible refine Below.setCell ?_ ?_ _) | (with_reducible refine Below.alloc ?_ ?_ _) | (with_reducible assumption) | (simp; done) | (simp; omega) | omega)))
        clear hW
        go_loopw [46] (fun i wr => ∃ j : Nat, i = .int .i64 (j : Int) ∧ j ≤ ps.length ∧ Hid (Pre lo pr ps j) ∧ wr = W9) (fun i _ => ps.length - (intOf i).toNat)
        case atStart => exact ⟨0, rfl, Nat.zero_le _, Lib.hid rfl, rfl⟩
        case round =>
          obtain ⟨j, rfl, hj, HA, hwr⟩ := hrel
          subst hwr
          by_cases hlt : j < ps.length
          · obtain ⟨adI, qI, v, rfl, hqI, hbI, hvI, hcI⟩ := ints_at (HP.out.below (HW9.out.mono hB)) hlt
            have hv64 := HI.out v (List.mem_of_getElem? hvI)
            have hbI' : qI.block < wr.heap.size := by have := HW9.out.size; omega
            have HVI := Lib.hid hvI
            clear hvI hbI
            generalize hv : ownB lo pr v = qv
            have HV := Lib.hid hv
            clear hv
            cases qv
            · go_wp2_with (go_at_call 11; (with_reducible refine (own_any (A1 := A1) (A2 := A2) (c1 := c1) (c2 := c2) hlo hpr k1 k2 kz v hv64).mono ?_); rw [HV.out]; rintro e w1 ⟨rfl, rfl⟩)
              (try simp only [Exit.inBlock, Exit.then]); refine bodyPost_ret (by simp [results, Try.results9, go_sem, *]; try rfl) rfl ?_
              exact ⟨by rw [all_not HVI.out HV.out], by first | exact HW9.out | (repeat' (first | (with_reducible exact Below.refl _ _) | (refine Below.trans ?_ (Below.mono (by with_reducible assumption) ?_)) | (with_reducible exact Below.refl _ _) | (with_reducible refine below_drewN ?_ _) | (with_reducible refine Below.drew ?_) | (with_reducible refine Below.setCell ?_ ?_ _) | (with_reducible refine Below.alloc ?_ ?_ _) | (with_reducible assumption) | (simp; done) | (simp; omega) | omega))⟩
            · go_wp2_with (go_at_call 11; (with_reducible refine (own_any (A1 := A1) (A2 := A2) (c1 := c1) (c2 := c2) hlo hpr k1 k2 kz v hv64).mono ?_); rw [HV.out]; rintro e w1 ⟨rfl, rfl⟩)
              go_roundw
              case rel => exact ⟨j + 1, by go_num, by omega, Lib.hid (all_next HA.out HVI.out HV.out), by first | rfl | trivial⟩
              case measure => simp [intOf]; omega
          · obtain rfl : j = ps.length := by omega
            have hA : (ps.take ps.length).all (ownB lo pr) = true := HA.out
            rw [List.take_length] at hA
            have HA2 := Lib.hid hA
            clear hA HA
            repeat' (first | (with_reducible refine then_exit ?_) | (with_reducible refine then_ret ?_) | (with_reducible refine then_normal ?_) | (with_reducible refine inBlock_hit ?_) | ((with_reducible refine inBlock_miss ?_ ?_); (exact rfl)) | (with_reducible refine inBlock_ret ?_) | (with_reducible refine inBlock_normal ?_) | go_values | go_skip | go_guarded | go_step | go_upon | go_in | go_back | (simp only [Int.not_lt, Int.not_le] at *; go_simp) | (go_values <;> (try go_simp)) | (go_ite <;> go_prune <;> (try go_simp)) | (split <;> (first | (rename_i hx; exact (hx _ rfl).elim) | go_prune)))
            (try simp only [Exit.inBlock, Exit.then]); refine bodyPost_ret (by simp [results, Try.results9, go_sem, *]; try rfl) rfl ?_
            exact ⟨by rw [HA2.out], by first | exact HW9.out | (repeat' (first | (with_reducible exact Below.refl _ _) | (refine Below.trans ?_ (Below.mono (by with_reducible assumption) ?_)) | (with_reducible exact Below.refl _ _) | (with_reducible refine below_drewN ?_ _) | (with_reducible refine Below.drew ?_) | (with_reducible refine Below.setCell ?_ ?_ _) | (with_reducible refine Below.alloc ?_ ?_ _) | (with_reducible assumption) | (simp; done) | (simp; omega) | omega))⟩
    · rw [Bool.true_or, Bool.true_and]
      go_enter Try.func9, Try.ntmps9
      repeat' (first | (with_reducible refine then_exit ?_) | (with_reducible refine then_ret ?_) | (with_reducible refine then_normal ?_) | (with_reducible refine inBlock_hit ?_) | ((with_reducible refine inBlock_miss ?_ ?_); (exact rfl)) | (with_reducible refine inBlock_ret ?_) | (with_reducible refine inBlock_normal ?_) | go_values | go_skip | go_guarded | go_step | go_upon | go_in | go_back | (simp only [Int.not_lt, Int.not_le] at *; go_simp) | (go_values <;> (try go_simp)) | (go_ite <;> go_prune <;> (try go_simp)) | (split <;> (first | (rename_i hx; exact (hx _ rfl).elim) | go_prune)))
      generalize hW : (World.alloc _ _ : World) = W9
      have k1 : W9.cell? ⟨w.heap.size, 1, none⟩ = some (.slice A1 lo c1) := by rw [← hW]; simp (maxDischargeDepth := 12) [go_sem]
      have k2 : W9.cell? ⟨w.heap.size, 2, none⟩ = some (.slice A2 pr c2) := by rw [← hW]; simp (maxDischargeDepth := 12) [go_sem]
      have kz : w.heap.size < W9.heap.size := by rw [← hW]; simp; omega
      have HW9 : Hid (Below w.heap.size w W9) := Lib.hid (by rw [← hW]; (repeat' (first | (with_reducible exact Below.refl _ _) | (refine Below.trans ?_ (Below.mono (by with_reducible assumption) ?_)) | (with_reducible exact Below.refl _ _) | (with_reducible refine below_drewN ?_ _) | (with_reducible refine Below.drew ?_) | (with_reducible refine Below.setCell ?_ ?_ _) | (with_reducible refine Below.alloc ?_ ?_ _) | (with_reducible assumption) | (simp; done) | (simp; omega) | omega)))
      clear hW
      go_loopw [46] (fun i wr => ∃ j : Nat, i = .int .i64 (j : Int) ∧ j ≤ ps.length ∧ Hid (Pre lo pr ps j) ∧ wr = W9) (fun i _ => ps.length - (intOf i).toNat)
      case atStart => exact ⟨0, rfl, Nat.zero_le _, Lib.hid rfl, rfl⟩
      case round =>
        obtain ⟨j, rfl, hj, HA, hwr⟩ := hrel
        subst hwr
        by_cases hlt : j < ps.length
        · obtain ⟨adI, qI, v, rfl, hqI, hbI, hvI, hcI⟩ := ints_at (HP.out.below (HW9.out.mono hB)) hlt
          have hv64 := HI.out v (List.mem_of_getElem? hvI)
          have hbI' : qI.block < wr.heap.size := by have := HW9.out.size; omega
          have HVI := Lib.hid hvI
          clear hvI hbI
          generalize hv : ownB lo pr v = qv
          have HV := Lib.hid hv
          clear hv
          cases qv
          · go_wp2_with (go_at_call 11; (with_reducible refine (own_any (A1 := A1) (A2 := A2) (c1 := c1) (c2 := c2) hlo hpr k1 k2 kz v hv64).mono ?_); rw [HV.out]; rintro e w1 ⟨rfl, rfl⟩)
            (try simp only [Exit.inBlock, Exit.then]); refine bodyPost_ret (by simp [results, Try.results9, go_sem, *]; try rfl) rfl ?_
            exact ⟨by rw [all_not HVI.out HV.out], by first | exact HW9.out | (repeat' (first | (with_reducible exact Below.refl _ _) | (refine Below.trans ?_ (Below.mono (by with_reducible assumption) ?_)) | (with_reducible exact Below.refl _ _) | (with_reducible refine below_drewN ?_ _) | (with_reducible refine Below.drew ?_) | (with_reducible refine Below.setCell ?_ ?_ _) | (with_reducible refine Below.alloc ?_ ?_ _) | (with_reducible assumption) | (simp; done) | (simp; omega) | omega))⟩
          · go_wp2_with (go_at_call 11; (with_reducible refine (own_any (A1 := A1) (A2 := A2) (c1 := c1) (c2 := c2) hlo hpr k1 k2 kz v hv64).mono ?_); rw [HV.out]; rintro e w1 ⟨rfl, rfl⟩)
            go_roundw
            case rel => exact ⟨j + 1, by go_num, by omega, Lib.hid (all_next HA.out HVI.out HV.out), by first | rfl | trivial⟩
            case measure => simp [intOf]; omega
        · obtain rfl : j = ps.length := by omega
          have hA : (ps.take ps.length).all (ownB lo pr) = true := HA.out
          rw [List.take_length] at hA
          have HA2 := Lib.hid hA
          clear hA HA
          repeat' (first | (with_reducible refine then_exit ?_) | (with_reducible refine then_ret ?_) | (with_reducible refine then_normal ?_) | (with_reducible refine inBlock_hit ?_) | ((with_reducible refine inBlock_miss ?_ ?_); (exact rfl)) | (with_reducible refine inBlock_ret ?_) | (with_reducible refine inBlock_normal ?_) | go_values | go_skip | go_guarded | go_step | go_upon | go_in | go_back | (simp only [Int.not_lt, Int.not_le] at *; go_simp) | (go_values <;> (try go_simp)) | (go_ite <;> go_prune <;> (try go_simp)) | (split <;> (first | (rename_i hx; exact (hx _ rfl).elim) | go_prune)))
          (try simp only [Exit.inBlock, Exit.then]); refine bodyPost_ret (by simp [results, Try.results9, go_sem, *]; try rfl) rfl ?_
          exact ⟨by rw [HA2.out], by first | exact HW9.out | (repeat' (first | (with_reducible exact Below.refl _ _) | (refine Below.trans ?_ (Below.mono (by with_reducible assumption) ?_)) | (with_reducible exact Below.refl _ _) | (with_reducible refine below_drewN ?_ _) | (with_reducible refine Below.drew ?_) | (with_reducible refine Below.setCell ?_ ?_ _) | (with_reducible refine Below.alloc ?_ ?_ _) | (with_reducible assumption) | (simp; done) | (simp; omega) | omega))⟩
  · rw [decide_eq_false hl, Bool.false_and]
    have hl' : ((ps.length : Int) == 0) = false := by simpa using (by omega : ¬ (ps.length : Int) = 0)
    go_enter Try.func9, Try.ntmps9
    repeat' (first | (with_reducible refine then_exit ?_) | (with_reducible refine then_ret ?_) | (with_reducible refine then_normal ?_) | (with_reducible refine inBlock_hit ?_) | ((with_reducible refine inBlock_miss ?_ ?_); (exact rfl)) | (with_reducible refine inBlock_ret ?_) | (with_reducible refine inBlock_normal ?_) | go_values | go_skip | go_guarded | go_step | go_upon | go_in | go_back | (simp only [Int.not_lt, Int.not_le] at *; go_simp) | (go_values <;> (try go_simp)) | (go_ite <;> go_prune <;> (try go_simp)) | (split <;> (first | (rename_i hx; exact (hx _ rfl).elim) | go_prune)))
    (try simp only [Exit.inBlock, Exit.then]); refine bodyPost_ret (by simp [results, Try.results9, go_sem, *]; try rfl) rfl ?_
    exact ⟨rfl, by (repeat' (first | (with_reducible exact Below.refl _ _) | (refine Below.trans ?_ (Below.mono (by with_reducible assumption) ?_)) | (with_reducible exact Below.refl _ _) | (with_reducible refine below_drewN ?_ _) | (with_reducible refine Below.drew ?_) | (with_reducible refine Below.setCell ?_ ?_ _) | (with_reducible refine Below.alloc ?_ ?_ _) | (with_reducible assumption) | (simp; done) | (simp; omega) | omega))⟩
end Go.Proofs.Ytanbplnagcmlcaa
