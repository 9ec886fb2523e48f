/- fieldfareref02: Looks. -/
import Derived.Test.YtdmifldjeiabdaaRefE
import Derived.Test.YtdmifldjeiabdaaNumK
namespace Go.Proofs.Ytdmifldjeiabdaa
open Go.RowKit
theorem rprefix_n (bs : List Nat) (w : World) (hb : ∀ x ∈ bs, x < 256) (hl : bs.length ≤ 100000) :
    Calls Try.prog 27 #[.string (strN bs)] w fun e w' => ∃ (p : Bool) (A : Option Addr) (n c : Nat) (k : Int), e = .returned (.agg #[.bool p, .slice A n c, .int .i64 ((nP bs : Nat) : Int), .int .i64 k]) ∧ Below w.heap.size w w' := by
  refine (rprefix_any bs w hb hl).mono fun e w' ⟨h, hB⟩ => ?_
  rcases h with ⟨hz, rfl⟩ | ⟨hz, _, rfl⟩ | ⟨hz, _, A, c, rfl, _, _⟩
  · exact ⟨_, _, _, _, _, by unfold nP; rw [if_pos hz]; rfl, hB⟩
  · exact ⟨_, _, _, _, _, by unfold nP; rw [if_neg (by omega)], hB⟩
  · exact ⟨_, _, _, _, _, by unfold nP; rw [if_neg (by omega)], hB⟩
theorem looks_iff (bs : List Nat) : looksB bs = (decide (0 < nP bs) && decide (span blankB (bs.drop (nP bs)) = (bs.drop (nP bs)).length)) := by
  unfold looksB nP
  by_cases h : nW bs + nB bs = 0
  · rw [if_pos h, h]; rfl
  · rw [if_neg h]
    have := nI3_pos' (bs := bs) (by omega)
    rw [decide_eq_true (show 0 < nW bs + nB bs by omega), decide_eq_true this]
set_option maxRecDepth 100000 in
set_option maxHeartbeats 800000 in
theorem rlooks_any (bs : List Nat) (w : World) (hb : ∀ x ∈ bs, x < 256) (hl : bs.length ≤ 100000) :
    Calls Try.prog 29 #[.string (strN bs)] w fun e w' => e = .returned (.bool (looksB bs)) ∧ Below w.heap.size w w' := by
  have hlk := looks_iff bs
  have hn := nP_le bs
  have pr := fun W => rprefix_n bs W hb hl
  obtain ⟨n, hnn⟩ : ∃ n, n = nP bs := ⟨_, rfl⟩
  rw [← hnn] at hlk hn pr
  obtain ⟨S, hS⟩ : ∃ S, S = strN bs := ⟨_, rfl⟩
  have hSl : S.size = bs.length := by rw [hS]; exact strN_size bs
  have hSg : ∀ k (hk : k < bs.length) (hk' : k < S.size), S[k].toNat = bs[k] := by
    intro k hk hk'
    subst hS
    have := strN_get hb k hk hk'
    omega
  rw [← hS] at pr
  have PR := Lib.hid pr
  rw [← hS]
  have HSG := Lib.hid hSg; have HLK := Lib.hid hlk
  clear hS hSg hb hlk hnn pr
  by_cases h0 : n = 0
  · subst h0
    have hfin : looksB bs = false := by rw [HLK.out]; rfl
    have HF := Lib.hid hfin; clear hfin
    go_enter Try.func29, Try.ntmps29
    go_wp2_with (go_at_call 27; refine (PR.out _).mono ?_; rintro e w1 ⟨p, A, m, c, k, rfl, b1⟩; have hs_b1 := Below.size b1; (try simp at hs_b1))
    go_ret
    exact ⟨by rw [HF.out]; rfl, by (repeat' (first | (with_reducible exact Below.refl _ _) | (refine Below.trans ?_ (Below.mono (by with_reducible assumption) ?_)) | (with_reducible exact Below.refl _ _) | (with_reducible refine below_drewN ?_ _) | (with_reducible refine Below.drew ?_) | (with_reducible refine Below.setCell ?_ ?_ _) | (with_reducible refine Below.alloc ?_ ?_ _) | (with_reducible assumption) | (simp; done) | (simp; omega) | omega))⟩
  · have hn0 : ((n : Int) == 0) = false := by rw [beq_eq_false_iff_ne]; omega
    obtain ⟨l, hll⟩ : ∃ l, l = bs.drop n := ⟨_, rfl⟩
    have hlen : l.length = bs.length - n := by rw [hll, List.length_drop]
    have hel : ∀ j (h : j < l.length), ∃ h' : n + j < bs.length, l[j] = bs[n + j] := by
      intro j h; subst hll; exact ⟨by rw [List.length_drop] at h; omega, List.getElem_drop⟩
    have hlk2 : looksB bs = decide (span blankB l = l.length) := by rw [HLK.out, decide_eq_true (by omega), hll]; rfl
    have HLN := Lib.hid hlen; have HEL := Lib.hid hel; have HL2 := Lib.hid hlk2; have H0 := Lib.hid h0
    clear hll hlen hel hlk2 h0
    go_enter Try.func29, Try.ntmps29
    go_wp2_with (go_at_call 27; refine (PR.out _).mono ?_; rintro e w1 ⟨p, A, m, c, k, rfl, b1⟩; have hs_b1 := Below.size b1; (try simp at hs_b1))
    have HB1 := Lib.hid b1
    clear b1
    go_loop [4] (fun i => ∃ k : Nat, n + k ≤ bs.length ∧ i = .int .i64 ((n + k : Nat) : Int) ∧ Hid (∀ j (hj : j < l.length), j < k → blankB l[j] = true)) (fun i => bs.length - (intOf i).toNat)
    case atStart => exact ⟨0, by omega, rfl, Lib.hid (fun _ _ h => absurd h (by omega))⟩
    case round =>
      obtain ⟨k, hk, rfl, hall⟩ := hrel
      obtain ⟨m, hm⟩ : ∃ m, m = n + k := ⟨_, rfl⟩
      rw [← hm] at hk
      rw [← hm]
      have HM := Lib.hid hm; clear hm
      by_cases hlt : m < bs.length
      · have hmS : m < S.size := by omega
        have hx := HSG.out m hlt hmS
        have hkl : k < l.length := by have := HLN.out; have := HM.out; omega
        obtain ⟨_, he⟩ := HEL.out k hkl
        have hlm : l[k] = bs[m] := by rw [he]; congr 1; exact HM.out.symm
        cases hbx : blankB bs[m]
        · have hfin : looksB bs = false := by
            have hs : span blankB l = k := span_eq _ _ _ (by omega) (fun j hj hjk => hall.out j hj hjk) (fun hj => by rw [hlm]; exact hbx)
            rw [HL2.out, hs, decide_eq_false_iff_not]; omega
          have HF := Lib.hid hfin
          rw [← hx] at hbx
          clear hfin hx hlm he hkl
          go_wp2_with (go_at_call 24; refine (rblank_any _ _).mono ?_; rintro e w' ⟨rfl, rfl⟩)
          go_ret
          exact ⟨by rw [HF.out]; rfl, by refine Below.trans HB1.out ?_; (repeat' (first | (with_reducible exact Below.refl _ _) | (refine Below.trans ?_ (Below.mono (by with_reducible assumption) ?_)) | (with_reducible exact Below.refl _ _) | (with_reducible refine below_drewN ?_ _) | (with_reducible refine Below.drew ?_) | (with_reducible refine Below.setCell ?_ ?_ _) | (with_reducible refine Below.alloc ?_ ?_ _) | (with_reducible assumption) | (simp; done) | (simp; omega) | omega))⟩
        · have hall2 : ∀ j (hj : j < l.length), j < k + 1 → blankB l[j] = true := by
            intro j hj hjk
            by_cases e : j = k
            · subst e; rw [hlm]; exact hbx
            · exact hall.out j hj (by omega)
          have HA2 := Lib.hid hall2
          rw [← hx] at hbx
          clear hall2 hx hlm he hkl hall
          go_wp2_with (go_at_call 24; refine (rblank_any _ _).mono ?_; rintro e w' ⟨rfl, rfl⟩)
          refine ⟨⟨k + 1, by have := HM.out; omega, congrArg (Value.int .i64) (by have := HM.out; omega), HA2⟩, by simp [intOf]; omega⟩
      · have hfin : looksB bs = true := by
          have hkl : k = l.length := by have := HLN.out; have := HM.out; omega
          have hs : span blankB l = k := span_eq _ _ _ (by omega) (fun j hj hjk => hall.out j hj hjk) (fun hj => by omega)
          rw [HL2.out, hs, decide_eq_true_eq]; exact hkl
        have HF := Lib.hid hfin
        clear hfin
        go_wp2_with fail
        go_ret
        exact ⟨by rw [HF.out]; rfl, by refine Below.trans HB1.out ?_; (repeat' (first | (with_reducible exact Below.refl _ _) | (refine Below.trans ?_ (Below.mono (by with_reducible assumption) ?_)) | (with_reducible exact Below.refl _ _) | (with_reducible refine below_drewN ?_ _) | (with_reducible refine Below.drew ?_) | (with_reducible refine Below.setCell ?_ ?_ _) | (with_reducible refine Below.alloc ?_ ?_ _) | (with_reducible assumption) | (simp; done) | (simp; omega) | omega))⟩
end Go.Proofs.Ytdmifldjeiabdaa
