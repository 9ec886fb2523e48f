/- numeral.Looks. -/
import Derived.Test.YtdmifldjeiabdaaNumC
namespace Go.Proofs.Ytdmifldjeiabdaa
open Go.RowKit
/-- Are the bytes a numeral, and blanks, alone? -/
def looksB (bs : List Nat) : Bool := decide (0 < nW bs + nB bs) && decide (span blankB (bs.drop (nI3 bs)) = (bs.drop (nI3 bs)).length)
theorem nI3_le (bs : List Nat) : nI3 bs ≤ bs.length := by
  have h := nB_le bs
  unfold nI3
  split
  · rename_i hd
    have hlt : nI2 bs < bs.length := by
      rcases Nat.lt_or_ge (nI2 bs) bs.length with h | h
      · exact h
      · unfold nDot at hd; rw [head_none h] at hd; cases hd
    have h4 := span_le digB (bs.drop (nI2 bs + 1))
    rw [List.length_drop] at h4
    unfold nB; rw [if_pos hd]; omega
  · omega
theorem nI3_pos' {bs : List Nat} (h : 0 < nW bs + nB bs) : 0 < nI3 bs := by
  unfold nI3; split
  · omega
  · rename_i hd
    have : nB bs = 0 := by unfold nB; rw [if_neg hd]
    unfold nI2; omega
theorem field_n (a b : Value) (d c : Value) (w : World) : (Instr.field 70 (.agg #[a, b, c, d]) 3).run Try.prog w = .ok d w := by
  simp [Instr.field, run_underlying Try.underlying70, asAgg, go_sem]
set_option maxRecDepth 100000 in
set_option maxHeartbeats 800000 in
theorem looks_any (A : Option Addr) (c : Nat) (bs : List Nat) (w : World) (B0 : Nat) (hB0 : B0 ≤ w.heap.size) (hr : RB w B0 A bs) (hc : bs.length ≤ c) (hm : bs.length ≤ 140737488351232) :
    Calls Try.prog 23 #[.slice A bs.length c] w fun e w' => e = .returned (.bool (looksB bs)) ∧ Below w.heap.size w w' := by
  by_cases hz : nW bs + nB bs = 0
  · have hl : looksB bs = false := by unfold looksB; rw [hz]; rfl
    rw [hl]; clear hl
    have HR := Lib.hid ((scan_any A c bs w B0 hB0 hr hc hm).mono (R' := fun e w' => e = .returned (.agg #[.bool false, .slice none 0 0, .slice none 0 0, .int .i64 0]) ∧ Below w.heap.size w w') fun _ _ ⟨h, hb⟩ => ⟨by rcases h with ⟨_, he⟩ | ⟨h0, _⟩; exact he; omega, hb⟩)
    clear hr hz
    have hfi := field_n
    go_enter Try.func23, Try.ntmps23
    go_wp2_with (go_at_call 55; refine (HR.out).mono ?_; rintro e w1 ⟨rfl, b1⟩; have hs_b1 := Below.size b1; (try simp at hs_b1))
    go_returns
    exact ⟨rfl, by (repeat' (first | (with_reducible exact Below.refl _ _) | (refine Below.trans ?_ (Below.mono (by with_reducible assumption) ?_)) | (with_reducible exact Below.refl _ _) | (with_reducible refine below_drewN ?_ _) | (with_reducible refine Below.drew ?_) | (with_reducible refine Below.setCell ?_ ?_ _) | (with_reducible refine Below.alloc ?_ ?_ _) | (with_reducible assumption) | (simp; done) | (simp; omega) | omega))⟩
  · have HR := Lib.hid ((scan_any A c bs w B0 hB0 hr hc hm).mono (R' := fun e w' => ∃ (A1 Ab : Option Addr) (c1 cb : Nat), e = .returned (.agg #[.bool (sneg bs), .slice A1 (nW bs) c1, .slice Ab (nB bs) cb, .int .i64 ((nI3 bs : Nat) : Int)]) ∧ Below w.heap.size w w') fun _ _ ⟨h, hb⟩ => by
      rcases h with ⟨h0, _⟩ | ⟨_, Ab, cb, he, _, _⟩
      · omega
      · exact ⟨_, Ab, _, cb, he, hb⟩)
    have hn3 : (((nI3 bs : Nat) : Int) == 0) = false := by rw [beq_eq_false_iff_ne]; have := nI3_pos' (bs := bs) (by omega); omega
    have hle := nI3_le bs
    have hlook : looksB bs = decide (span blankB (bs.drop (nI3 bs)) = (bs.drop (nI3 bs)).length) := by unfold looksB; rw [decide_eq_true (by omega)]; rfl
    have HL := Lib.hid hlook; clear hlook hz
    have hsl := fun W => cut_run A bs.length c (nI3 bs) hle W
    have hH := Lib.hid (hr.cutA (k := nI3 bs) hc)
    have hdl : (bs.drop (nI3 bs)).length = bs.length - nI3 bs := by simp
    obtain ⟨l, hl⟩ : ∃ l, l = bs.drop (nI3 bs) := ⟨_, rfl⟩
    rw [← hl] at hH HL hdl
    rw [← hdl] at hsl
    have hlm : l.length ≤ 140737488351232 := by omega
    clear hr hl hdl
    have hfi := field_n
    go_enter Try.func23, Try.ntmps23
    go_wp2_with (go_at_call 55; refine (HR.out).mono ?_; rintro e w1 ⟨A1, Ab, c1, cb, rfl, b1⟩; have hs_b1 := Below.size b1; (try simp at hs_b1))
    have hL := Lib.hid (hH.out.below (b1.mono hB0))
    clear hsl hfi
    have hB1 : B0 ≤ w1.heap.size := by omega
    go_loop [15] (fun n => ∃ k : Nat, k ≤ l.length ∧ n = .int .i64 k ∧ Hid (∀ j (hj : j < l.length), j < k → blankB l[j] = true)) (fun n => l.length - (intOf n).toNat)
    case atStart => exact ⟨0, Nat.zero_le _, rfl, Lib.hid (fun _ _ h => absurd h (by omega))⟩
    case round =>
      obtain ⟨k, hk, rfl, hall⟩ := hrel
      by_cases hlt : k < l.length
      · obtain ⟨ad, eA, hb, hcell⟩ := hL.out.2 (by omega)
        rw [eA]
        have hcl := hcell k hlt
        obtain ⟨x, hxe⟩ : ∃ x, x = l[k] := ⟨_, rfl⟩
        rw [← hxe] at hcl
        have HX := Lib.hid hxe; clear hxe hcell hb eA
        cases hbx : blankB x
        · have he : looksB bs = false := by
            have hs : span blankB l = k := span_eq _ _ _ hk (fun j hj hjk => hall.out j hj hjk) (fun hj => by rw [← HX.out]; exact hbx)
            rw [HL.out, hs, decide_eq_false_iff_not]; omega
          have HE := Lib.hid he; clear he
          go_wp2_with (go_at_call 57; refine (blank_any _ _).mono ?_; rintro e w' ⟨rfl, rfl⟩)
          go_returns
          exact ⟨by rw [HE.out]; rfl, by (repeat' (first | (with_reducible exact Below.refl _ _) | (refine Below.trans ?_ (Below.mono (by with_reducible assumption) ?_)) | (with_reducible exact Below.refl _ _) | (with_reducible refine below_drewN ?_ _) | (with_reducible refine Below.drew ?_) | (with_reducible refine Below.setCell ?_ ?_ _) | (with_reducible refine Below.alloc ?_ ?_ _) | (with_reducible assumption) | (simp; done) | (simp; omega) | omega))⟩
        · go_wp2_with (go_at_call 57; refine (blank_any _ _).mono ?_; rintro e w' ⟨rfl, rfl⟩)
          go_round
          case rel => exact ⟨k + 1, by omega, by go_num, Lib.hid (fun j hj hjk => by
            by_cases e : j = k
            · subst e; rw [← HX.out]; exact hbx
            · exact hall.out j hj (by omega))⟩
          case measure => simp [intOf]; omega
      · have he : looksB bs = true := by
          have hs : span blankB l = k := span_eq _ _ _ hk (fun j hj hjk => hall.out j hj hjk) (fun hj => by omega)
          rw [HL.out, hs, decide_eq_true_eq]; omega
        have HE := Lib.hid he; clear he
        go_wp2_with fail
        go_returns
        exact ⟨by rw [HE.out]; rfl, by (repeat' (first | (with_reducible exact Below.refl _ _) | (refine Below.trans ?_ (Below.mono (by with_reducible assumption) ?_)) | (with_reducible exact Below.refl _ _) | (with_reducible refine below_drewN ?_ _) | (with_reducible refine Below.drew ?_) | (with_reducible refine Below.setCell ?_ ?_ _) | (with_reducible refine Below.alloc ?_ ?_ _) | (with_reducible assumption) | (simp; done) | (simp; omega) | omega))⟩
end Go.Proofs.Ytdmifldjeiabdaa
