/- fieldfarelaw02.NumeralLooks: the walk. -/
import Derived.Test.YtdmifldjeiabdaaNumJ
import Derived.Test.YtdmifldjeiabdaaNumK
namespace Go.Proofs.Ytdmifldjeiabdaa
open Go.RowKit
theorem prefix_n (A : Option Addr) (c : Nat) (bs : List Nat) (w : World) (B0 : Nat) (hB0 : B0 ≤ w.heap.size) (hr : RB w B0 A bs) (hc : bs.length ≤ c) (hm : bs.length ≤ 140737488351232) :
    Calls Try.prog 22 #[.slice A bs.length c] w fun e w' => ∃ (p : Bool) (q r : Int) (v : Value), e = .returned (.tuple #[.agg #[.bool p, .int .u64 q, .int .u64 r], .int .i64 ((nP bs : Nat) : Int), v]) ∧ Below w.heap.size w w' := by
  refine (prefix_any A c bs w B0 hB0 hr hc hm).mono fun e w' ⟨h, hb⟩ => ?_
  rcases h with ⟨hz, rfl⟩ | ⟨hz, _, rfl⟩ | ⟨hz, _, rfl⟩
  · exact ⟨_, _, _, _, by unfold nP; rw [if_pos hz]; rfl, hb⟩
  · exact ⟨_, _, _, _, by unfold nP; rw [if_neg (by omega)], hb⟩
  · exact ⟨_, _, _, _, by unfold nP; rw [if_neg (by omega)], hb⟩
set_option maxRecDepth 100000 in
set_option maxHeartbeats 800000 in
theorem looks_law (A : Option Addr) (c : Nat) (bs : List Nat) (w : World) (hr : RB w w.heap.size A bs) (hc : bs.length ≤ c) (hA : A = none → bs = [] ∧ c = 0) :
    Calls Try.prog 4 #[.slice A bs.length c] w fun e w' => e = .returned (.bool true) ∧ Below w.heap.size w w' := by
  by_cases h200 : 200 < bs.length
  · clear hr hA
    go_enter Try.func4, Try.ntmps4
    go_wp2_with (go_at_call 18; refine (awake2_any _).mono ?_; rintro e w1 ⟨rfl, b1⟩)
    go_ret
    exact ⟨rfl, by (repeat' (first | (with_reducible exact Below.refl _ _) | (refine Below.trans ?_ (Below.mono (by with_reducible assumption) ?_)) | (with_reducible exact Below.refl _ _) | (with_reducible refine below_drewN ?_ _) | (with_reducible refine Below.drew ?_) | (with_reducible refine Below.setCell ?_ ?_ _) | (with_reducible refine Below.alloc ?_ ?_ _) | (with_reducible assumption) | (simp; done) | (simp; omega) | omega))⟩
  · have hm : bs.length ≤ 140737488351232 := by omega
    have hn := nP_le bs
    have HR := Lib.hid hr
    have HA := Lib.hid hA
    obtain ⟨n, hnn⟩ : ∃ n, n = nP bs := ⟨_, rfl⟩
    have PN := fun W B0 (hB : B0 ≤ W.heap.size) h => prefix_n A c bs W B0 hB h hc hm
    rw [← hnn] at PN hn
    have PN := Lib.hid PN
    have HN := Lib.hid hnn
    clear hr hnn hA
    go_enter Try.func4, Try.ntmps4
    go_upto_region 5 with (go_at_call 18; refine (awake2_any _).mono ?_; rintro e w1 ⟨rfl, b1⟩; have hs_b1 := Below.size b1; (try simp at hs_b1))
    have HR1 := Lib.hid (HR.out.below b1)
    go_upto_region 8 with (go_at_call 22; refine (PN.out _ _ hs_b1 HR1.out).mono ?_; rintro e w2 ⟨p, q, r, v, rfl, b2⟩; have hs_b2 := Below.size b2; (try simp at hs_b2))
    have HR2 := Lib.hid (HR1.out.below (b2.mono hs_b1))
    have hw2 : w.heap.size ≤ w2.heap.size := by omega
    have hW3 : w.heap.size ≤ (w2.alloc (.cells #[.bool p, .int .u64 q, .int .u64 r] 24)).heap.size := by simp; omega
    have HR3 := Lib.hid (HR2.out.below (w' := (w2.alloc (.cells #[.bool p, .int .u64 q, .int .u64 r] 24))) (by (repeat' (first | (with_reducible exact Below.refl _ _) | (refine Below.trans ?_ (Below.mono (by with_reducible assumption) ?_)) | (with_reducible exact Below.refl _ _) | (with_reducible refine below_drewN ?_ _) | (with_reducible refine Below.drew ?_) | (with_reducible refine Below.setCell ?_ ?_ _) | (with_reducible refine Below.alloc ?_ ?_ _) | (with_reducible assumption) | (simp; done) | (simp; omega) | omega))))
    have HB2 : Below w.heap.size w w2 := by (repeat' (first | (with_reducible exact Below.refl _ _) | (refine Below.trans ?_ (Below.mono (by with_reducible assumption) ?_)) | (with_reducible exact Below.refl _ _) | (with_reducible refine below_drewN ?_ _) | (with_reducible refine Below.drew ?_) | (with_reducible refine Below.setCell ?_ ?_ _) | (with_reducible refine Below.alloc ?_ ?_ _) | (with_reducible assumption) | (simp; done) | (simp; omega) | omega))
    have HB2 := Lib.hid HB2
    have LB := Lib.hid (fun W B0 (hB : B0 ≤ W.heap.size) h => looks_any A c bs W B0 hB h hc hm)
    go_upto_if 32 with (go_at_call 23; refine (LB.out _ _ hW3 HR3.out).mono ?_; rintro e w3 ⟨rfl, b3⟩; have hs_b3 := Below.size b3; (try simp at hs_b3))
    clear hW3
    have hw3 : w.heap.size ≤ w3.heap.size := by omega
    have HB3 : Below w.heap.size w w3 := HB2.out.trans (by (repeat' (first | (with_reducible exact Below.refl _ _) | (refine Below.trans ?_ (Below.mono (by with_reducible assumption) ?_)) | (with_reducible exact Below.refl _ _) | (with_reducible refine below_drewN ?_ _) | (with_reducible refine Below.drew ?_) | (with_reducible refine Below.setCell ?_ ?_ _) | (with_reducible refine Below.alloc ?_ ?_ _) | (with_reducible assumption) | (simp; done) | (simp; omega) | omega)))
    have HR4 := Lib.hid (HR.out.below HB3)
    have HB3 := Lib.hid HB3
    clear b1 b2 b3 HR1 HR2 HR3 HB2 LB PN
    go_cut [6] (fun _ wx => w3 = wx)
    case first =>
      cases hl : looksB bs
      · have HL := Lib.hid hl; clear hl
        go_wp2_with fail
        go_meet
        exact rfl
      · obtain ⟨h1, h2⟩ := looks_all hl
        rw [← HN.out] at h1 h2
        have HL := Lib.hid hl; have H2 := Lib.hid h2; clear hl h2
        go_wp2_with fail
        go_loop [6] (fun i => ∃ k : Nat, n ≤ k ∧ k ≤ bs.length ∧ i = .int .i64 k) (fun i => bs.length - (intOf i).toNat)
        case atStart => exact ⟨n, Nat.le_refl _, hn, rfl⟩
        case round =>
          obtain ⟨k, hnk, hk, rfl⟩ := hrel
          by_cases hlt : k < bs.length
          · obtain ⟨ad, eA, hb, hcell⟩ := HR4.out.2 (by omega)
            have hcl := hcell k hlt
            have hbx := H2.out k hlt hnk
            obtain ⟨x, hxe⟩ : ∃ x, x = bs[k] := ⟨_, rfl⟩
            rw [← hxe] at hcl hbx
            rw [eA]
            clear hxe hcell hb eA
            go_wp2_with (go_at_call 24; refine (rblank_any _ _).mono ?_; rintro e w' ⟨rfl, rfl⟩)
            go_round
            case rel => exact ⟨k + 1, by omega, by omega, by go_num⟩
            case measure => simp [intOf]; omega
          · obtain rfl : k = bs.length := by omega
            go_wp2_with fail
            go_meet
            exact rfl
    case rest =>
      cases hcut
      clear HN hn PN
      have hb3 : Below w.heap.size w (w3.alloc (.cells (nums [120]) 5)) := by refine HB3.out.trans ?_; (repeat' (first | (with_reducible exact Below.refl _ _) | (refine Below.trans ?_ (Below.mono (by with_reducible assumption) ?_)) | (with_reducible exact Below.refl _ _) | (with_reducible refine below_drewN ?_ _) | (with_reducible refine Below.drew ?_) | (with_reducible refine Below.setCell ?_ ?_ _) | (with_reducible refine Below.alloc ?_ ?_ _) | (with_reducible assumption) | (simp; done) | (simp; omega) | omega))
      have hr5 := HR.out.below hb3
      have ho5 := OB.lit w3 [120] (base := w.heap.size) (by decide) hw3 (by decide)
      have HO5 := Lib.hid ho5; have HR5 := Lib.hid hr5; have HB5 := Lib.hid hb3
      clear hb3 hr5 ho5
      go_upto_region 17 with (at_builtin; refine wpList_appB rfl (.tmp 48) (.tmp 49) rfl w.heap.size (by simp; omega) _ [120] rfl HO5.out A bs.length c bs _ rfl rfl HA.out HR5.out (by simp; omega) ?_; intro v1 w4 ho4 hg4; have HB4 := Lib.hid (HO5.out.below hg4 HB5.out (Nat.le_refl _) (by simp; omega)); have hz4 : w.heap.size ≤ w4.heap.size := Nat.le_trans (by simp; omega) hg4.size; have HO4 := Lib.hid ho4; clear ho4 hg4)
      clear HO5 HR5 HB5
      have hb6 : Below w.heap.size w (w4.alloc (.cells (nums []) 5)) := by refine HB4.out.trans ?_; (repeat' (first | (with_reducible exact Below.refl _ _) | (refine Below.trans ?_ (Below.mono (by with_reducible assumption) ?_)) | (with_reducible exact Below.refl _ _) | (with_reducible refine below_drewN ?_ _) | (with_reducible refine Below.drew ?_) | (with_reducible refine Below.setCell ?_ ?_ _) | (with_reducible refine Below.alloc ?_ ?_ _) | (with_reducible assumption) | (simp; done) | (simp; omega) | omega))
      have hr6 := HR.out.below hb6
      have ho6 := OB.lit w4 [] (base := w4.heap.size) (by decide) (Nat.le_refl _) (by decide)
      have hx6 := (HO4.out.alloc (.cells (nums []) 5))
      have hv6 := HO4.out.apart ho6 (Nat.le_refl _)
      have HO6 := Lib.hid ho6; have HR6 := Lib.hid hr6; have HB6 := Lib.hid hb6; have HX6 := Lib.hid hx6; have HV6 := Lib.hid hv6
      clear hb6 hr6 ho6 hx6 hv6
      go_upto_region 18 with (first
        | (at_builtin; refine wpList_appB rfl (.tmp 51) (.tmp 52) rfl w4.heap.size (by simp) _ [] rfl HO6.out A bs.length c bs _ rfl rfl HA.out HR6.out (by simp; omega) ?_; intro v2 w5 ho5 hg5; have HB5 := Lib.hid (HO6.out.below hg5 HB6.out hz4 (by simp; omega)); have hz5 : w4.heap.size + 1 ≤ w5.heap.size := Nat.le_trans (by simp) hg5.size; have HO5 := Lib.hid ho5; have HX5 := Lib.hid (HX6.out.kept hg5 HV6.out); have HB5' : Below w.heap.size w (w5.alloc (.cells (nums [120]) 5)) := (by refine HB5.out.trans ?_; (repeat' (first | (with_reducible exact Below.refl _ _) | (refine Below.trans ?_ (Below.mono (by with_reducible assumption) ?_)) | (with_reducible exact Below.refl _ _) | (with_reducible refine below_drewN ?_ _) | (with_reducible refine Below.drew ?_) | (with_reducible refine Below.setCell ?_ ?_ _) | (with_reducible refine Below.alloc ?_ ?_ _) | (with_reducible assumption) | (simp; done) | (simp; omega) | omega))); have HB5' := Lib.hid HB5'; have HV5 := Lib.hid (HO4.out.apart ho5 (Nat.le_refl _)); clear ho5 hg5)
        | (at_builtin; refine wpList_appB rfl (.tmp 53) (.tmp 54) rfl w4.heap.size (by simp; omega) v2 ([] ++ bs) rfl (HO5.out.alloc _) (some ⟨w5.heap.size, 0, none⟩) 1 1 [120] _ rfl rfl (by intro e; cases e) (rb_row w5 [120] (by decide) _ _) (by simp; omega) ?_; intro v3 w6 ho7 hg7; have HB7 := Lib.hid ((HO5.out.alloc (.cells (nums [120]) 5)).below hg7 HB5'.out hz4 (by simp; omega)); have hz7 : w5.heap.size + 1 ≤ w6.heap.size := Nat.le_trans (by simp) hg7.size; have HO7 := Lib.hid ho7; have HX7 := Lib.hid ((HX5.out.alloc (.cells (nums [120]) 5)).kept hg7 HV5.out); clear ho7 hg7))
      have hX7 := HX7.out
      have hO7 := HO7.out
      obtain ⟨A1, c1, rfl, hc1, hr1, _⟩ := hX7.slice
      obtain ⟨A2, c2, rfl, hc2, hr2, _⟩ := hO7.slice
      have e1 : ([120] ++ bs).length = bs.length + 1 := by simp
      have e2 : ([] ++ bs ++ [120]).length = bs.length + 1 := by simp
      rw [e1] at hc1
      rw [e2] at hc2
      rw [e1, e2]
      have hm7 : bs.length + 1 ≤ 140737488351232 := by omega
      have P1 := fun W hB h => prefix_n A1 c1 ([120] ++ bs) W w6.heap.size hB h (by rw [e1]; exact hc1) (by rw [e1]; exact hm7)
      have L1 := fun W hB h => looks_any A1 c1 ([120] ++ bs) W w6.heap.size hB h (by rw [e1]; exact hc1) (by rw [e1]; exact hm7)
      have L2 := fun W hB h => looks_any A2 c2 ([] ++ bs ++ [120]) W w6.heap.size hB h (by rw [e2]; exact hc2) (by rw [e2]; exact hm7)
      have z1 : nP ([120] ++ bs) = 0 := by unfold nP; exact if_pos (x_ahead bs)
      rw [e1, z1] at P1
      rw [e1, show looksB ([120] ++ bs) = false from looks_ahead bs] at L1
      rw [e2, show looksB ([] ++ bs ++ [120]) = false by rw [List.nil_append]; exact looks_behind bs] at L2
      have P1 := Lib.hid P1; have L1 := Lib.hid L1; have L2 := Lib.hid L2
      have HR1 := Lib.hid hr1; have HR2 := Lib.hid hr2
      clear hX7 hO7 hr1 hr2 e1 e2 z1 hm7 HX7 HO7 HX5 HO5 HV5 HB5 HB5' HO6 HX6 HV6 HB6 HR6 HO4 HB4 HR HR4 HB3
      go_upto_region 19 with (go_at_call 22; refine (P1.out _ (Nat.le_refl _) HR1.out).mono ?_; rintro e w7 ⟨p7, q7, r7, v7, rfl, b7⟩; have hs_b7 := Below.size b7; (try simp at hs_b7))
      have hb8 : Below w6.heap.size w6 (w7.alloc (.cells #[.bool p7, .int .u64 q7, .int .u64 r7] 24)) := by (repeat' (first | (with_reducible exact Below.refl _ _) | (refine Below.trans ?_ (Below.mono (by with_reducible assumption) ?_)) | (with_reducible exact Below.refl _ _) | (with_reducible refine below_drewN ?_ _) | (with_reducible refine Below.drew ?_) | (with_reducible refine Below.setCell ?_ ?_ _) | (with_reducible refine Below.alloc ?_ ?_ _) | (with_reducible assumption) | (simp; done) | (simp; omega) | omega))
      have HR1' := Lib.hid (HR1.out.below hb8)
      have HR2' := Lib.hid (HR2.out.below hb8)
      have HB8 := Lib.hid hb8
      clear hb8
      go_wp2_with (first
        | (go_at_call 23; (with_reducible refine (L1.out _ (by simp; omega) HR1'.out).mono ?_); rintro e w8 ⟨rfl, b8⟩; have hs_b8 := Below.size b8; (try simp at hs_b8); have hb9 := Lib.hid (HB8.out.trans (b8.mono (by simp; omega))); have HR2'' := Lib.hid (HR2.out.below hb9.out))
        | (go_at_call 23; (with_reducible refine (L2.out _ (by omega) HR2''.out).mono ?_); rintro e w9 ⟨rfl, b9⟩; have hs_b9 := Below.size b9; (try simp at hs_b9)))
      go_returns
      exact ⟨rfl, (HB7.out.trans (hb9.out.mono (by omega))).trans (b9.mono (by omega))⟩
end Go.Proofs.Ytdmifldjeiabdaa
