/- fieldfarelaw02.NumeralInts: the walk. -/
import Derived.Test.YtdmifldjeiabdaaNumJ
import Derived.Test.YtdmifldjeiabdaaNumM
import Derived.Test.YtdmifldjeiabdaaDecF
import Derived.Laws.BytesArg
namespace Go.Proofs.Ytdmifldjeiabdaa
open Go.RowKit
theorem conv_one (W : World) (x : Nat) (v : Int) (hv : v = (x : Int)) : (convert 32 9 (.slice (some ⟨W.heap.size, 0, none⟩) 1 1)).run Try.prog (W.alloc (.cells #[.int .u8 v] 5)) = .ok (.string (strN [x])) (W.alloc (.cells #[.int .u8 v] 5)) := by
  subst hv
  have := run_convert_bytes_arg (P := Try.prog) (W.alloc (.cells #[.int .u8 (x : Int)] 5)) 32 5 Try.underlying32 Try.underlying5 W.heap.size 0 1 1 [(x : Int)] rfl (fun i hi => by
    obtain rfl : i = 0 := by omega
    simp) 9 Try.underlying9
  rw [this]; rfl
theorem textL_int (n : Int) : textL (n * 1000000) = (if n < 0 then [45] else []) ++ digs 31 n.natAbs [] := by
  unfold textL
  have e1 : (n * 1000000).natAbs / 1000000 = n.natAbs := by omega
  have e2 : (n * 1000000).natAbs % 1000000 = 0 := by omega
  have e3 : frP 0 = [] := rfl
  rw [e1, e2, e3]
  have : n * 1000000 < 0 ↔ n < 0 := by omega
  simp only [this]
set_option maxRecDepth 100000 in
set_option maxHeartbeats 800000 in
theorem ints_law (n : Int) (w : World) (hn : -9223372036854775808 ≤ n ∧ n < 9223372036854775808) :
    Calls Try.prog 6 #[.int .i64 n] w fun e w' => e = .returned (.bool true) ∧ Below w.heap.size w w' := by
  obtain ⟨hn0, hn1⟩ := hn
  have hlim : (n * 1000000).natAbs < LIM := by unfold LIM; omega
  have ia := IsD.of hlim
  have IN := Lib.hid (fun W => int_any n hn0 hn1 W)
  have TX := Lib.hid (fun W => text_ok _ _ _ _ ia W)
  have WH := Lib.hid (fun W => whole_any _ _ _ _ ia W)
  obtain ⟨P, hP⟩ : ∃ P, P = zn (n * 1000000) := ⟨_, rfl⟩
  obtain ⟨X, hX⟩ : ∃ X, X = zh (n * 1000000) := ⟨_, rfl⟩
  obtain ⟨Y, hY⟩ : ∃ Y, Y = zl (n * 1000000) := ⟨_, rfl⟩
  have HP := Lib.hid hP; have HX := Lib.hid hX; have HY := Lib.hid hY
  have HLIM := Lib.hid hlim
  rw [← hP, ← hX, ← hY] at IN TX WH
  clear hP hX hY ia hlim
  have htl := textL_int n
  have hread := text_read (n * 1000000) [] (by intro x hx; simp at hx) (by simp) HLIM.out
  rw [List.append_nil] at hread
  obtain ⟨L, hL⟩ : ∃ L, L = textL (n * 1000000) := ⟨_, rfl⟩
  have hLb := textL_bytes (n * 1000000)
  have hLl := textL_len (n * 1000000)
  rw [← hL] at hLb hLl htl hread TX
  have HTL := Lib.hid htl; have HLB := Lib.hid hLb; have HRD := Lib.hid hread
  have hLs : (strN L).size = L.length := strN_size L
  obtain ⟨S, hS⟩ : ∃ S, S = strN L := ⟨_, rfl⟩
  rw [← hS] at TX hLs
  have HS := Lib.hid hS; have HLS := Lib.hid hLs
  obtain ⟨U, hU⟩ : ∃ U, U = n.natAbs := ⟨_, rfl⟩
  have hUl : U ≤ 9223372036854775808 := by omega
  have hUn : (n < 0 ∧ n = -(U : Int)) ∨ (0 ≤ n ∧ n = (U : Int)) := by omega
  have HU := Lib.hid hU
  clear hL hLb htl hS hread hLs hU HLIM
  have HCO := Lib.hid conv_one
  go_enter Try.func6, Try.ntmps6
  go_upto_region 4 with (first
    | (go_at_call 18; refine (awake2_any _).mono ?_; rintro e w1 ⟨rfl, b1⟩; have hs_b1 := Below.size b1; (try simp at hs_b1))
    | (go_at_call 25; refine (IN.out _).mono ?_; rintro e w2 ⟨rfl, b2⟩; have hs_b2 := Below.size b2; (try simp at hs_b2))
    | (go_at_call 19; refine (TX.out _).mono ?_; rintro e w3 ⟨rfl, b3⟩; have hs_b3 := Below.size b3; (try simp at hs_b3)))
  have HB3 : Below w.heap.size w w3 := by (repeat' (first | (with_reducible exact Below.refl _ _) | (refine Below.trans ?_ (Below.mono (by with_reducible assumption) ?_)) | (with_reducible exact Below.refl _ _) | (with_reducible refine below_drewN ?_ _) | (with_reducible refine Below.drew ?_) | (with_reducible refine Below.setCell ?_ ?_ _) | (with_reducible refine Below.alloc ?_ ?_ _) | (with_reducible assumption) | (simp; done) | (simp; omega) | omega))
  have hw3 : w.heap.size ≤ w3.heap.size := by omega
  have HB3 := Lib.hid HB3
  clear b1 b2 b3 hs_b1 hs_b2 hs_b3 IN TX
  go_upto_if 19 with fail
  go_cut [4] (fun u wx => u = .int .u64 (U : Int) ∧ w3 = wx)
  case first =>
    rcases hUn with ⟨h1, h2⟩ | ⟨h1, h2⟩
    · have ew := wrap_neg_u64 n h1 hn0
      have h3 : -n = (U : Int) := by omega
      have hd : decide (n < 0) = true := by simpa using h1
      have H3 := Lib.hid h3; clear h2 h3 hn0 hn1 hUl
      go_wp2_with fail
      go_meet
      exact ⟨by rw [H3.out], rfl⟩
    · have ew := wrap_i64_u64 n h1 hn1
      have hd : decide (n < 0) = false := by simpa using h1
      have H2 := Lib.hid h2; clear h2 hn0 hn1 hUl
      go_wp2_with fail
      go_meet
      exact ⟨by rw [← H2.out, ew], rfl⟩
  case rest =>
    obtain ⟨rfl, rfl⟩ := hcut
    have HUN := Lib.hid hUn
    clear hUn
    have hfull : ∃ k, U < 10 ^ (k + 1) ∧ digs (k + 1) U [] = digs 31 U [] ∧ k ≤ 30 := ⟨30, by omega, rfl, by omega⟩
    obtain ⟨K, hK1, hK2, hK3⟩ := hfull
    obtain ⟨D, hD⟩ : ∃ D, D = digs 31 U [] := ⟨_, rfl⟩
    rw [← hD] at hK2
    have HD := Lib.hid hD; have HK2 := Lib.hid hK2
    have HK1 := Lib.hid hK1
    obtain ⟨d0, hd0⟩ : ∃ d, d = U % 10 := ⟨_, rfl⟩
    have hm0 : (U : Int) % 10 = (d0 : Int) := by omega
    have hd9 : d0 < 10 := by omega
    have hc0 := fun W => conv_one W (48 + d0) (48 + (d0 : Int)) (by omega)
    have HD0 := Lib.hid hd0
    clear hD hK2 hd0 hK1
    go_upto_block 0 with fail
    clear hc0 hm0
    have HN := Lib.hid (And.intro hn0 hn1)
    have HUL := Lib.hid hUl
    clear hn0 hn1 hUl
    go_cut [5] (fun s wx => s = .string (strN D) ∧ w3.heap.size ≤ wx.heap.size ∧ Hid (Below w.heap.size w wx))
    case first =>
      go_wp2_with fail
      go_loopg [4, 5] K (fun k u s wr => ∃ (V : Nat) (T : List Nat), u = .int .u64 (V : Int) ∧ Hid (V ≤ 9223372036854775808) ∧ Hid (V < 10 ^ (k + 1)) ∧ s = .string (strN ((48 + V % 10) :: T)) ∧ Hid (digs (k + 1) V T = D) ∧ T.length + k ≤ 30 ∧ w3.heap.size ≤ wr.heap.size ∧ Hid (Below w.heap.size w wr))
      case atStart => exact ⟨U, [], rfl, HUL.out, HK1.out, by rw [HD0.out], HK2.out, by simpa using hK3, by simp, (by refine HB3.out.trans ?_; (repeat' (first | (with_reducible exact Below.refl _ _) | (refine Below.trans ?_ (Below.mono (by with_reducible assumption) ?_)) | (with_reducible exact Below.refl _ _) | (with_reducible refine below_drewN ?_ _) | (with_reducible refine Below.drew ?_) | (with_reducible refine Below.setCell ?_ ?_ _) | (with_reducible refine Below.alloc ?_ ?_ _) | (with_reducible assumption) | (simp; done) | (simp; omega) | omega)))⟩
      case round =>
        obtain ⟨V, T, rfl, hV, hVk, rfl, hVd, hTk, hwr, hB⟩ := hrel
        obtain ⟨Z, hZ⟩ : ∃ Z, Z = strN ((48 + V % 10) :: T) := ⟨_, rfl⟩
        rw [← hZ]
        have hZs : Z.size ≤ 100 := by rw [hZ, strN_size]; simp; omega
        have HZ := Lib.hid hZ; clear hZ
        obtain ⟨V', hV'⟩ : ∃ V', V' = V / 10 := ⟨_, rfl⟩
        obtain ⟨d, hd⟩ : ∃ d, d = V' % 10 := ⟨_, rfl⟩
        have hq : (V : Int) / 10 = (V' : Int) := by omega
        have hm : (V' : Int) % 10 = (d : Int) := by omega
        have hd9' : d < 10 := by omega
        have hc := fun W => conv_one W (48 + d) (48 + (d : Int)) (by omega)
        have hz1 : (strN [48 + d]).size ≤ 1 := by rw [strN_size]; simp
        by_cases hlt : 9 < V
        · have hV2 : V' ≤ 9223372036854775808 := by have := hV.out; omega
          have hV2 := Lib.hid hV2
          have hk1 : 1 ≤ gk := by
            rcases Nat.eq_zero_or_pos gk with h | h
            · subst h; have := hVk.out; omega
            · exact h
          obtain ⟨k, rfl⟩ : ∃ k, gk = k + 1 := ⟨gk - 1, by omega⟩
          have h1 : V' < 10 ^ (k + 1) := by have := hVk.out; rw [Nat.pow_succ] at this; omega
          have h2 : digs (k + 1) V' ((48 + V % 10) :: T) = D := by
            rw [← hVd.out, digs_succ (k + 1) V T, if_neg (by omega), hV']
          have H1 := Lib.hid h1; have H2 := Lib.hid h2; have HV' := Lib.hid hV'; have HD1 := Lib.hid hd
          clear h1 h2 hV' hd
          go_wp2_with fail
          go_roundg k
          case measure => omega
          case rel => exact ⟨V', (48 + V % 10) :: T, rfl, hV2.out, H1.out, by rw [HZ.out, ← HD1.out, show (48 + d) :: (48 + V % 10) :: T = [48 + d] ++ ((48 + V % 10) :: T) from rfl, ← strN_app [48 + d]], H2.out, by simp; omega, by simp; omega, (by refine hB.out.trans ?_; (repeat' (first | (with_reducible exact Below.refl _ _) | (refine Below.trans ?_ (Below.mono (by with_reducible assumption) ?_)) | (with_reducible exact Below.refl _ _) | (with_reducible refine below_drewN ?_ _) | (with_reducible refine Below.drew ?_) | (with_reducible refine Below.setCell ?_ ?_ _) | (with_reducible refine Below.alloc ?_ ?_ _) | (with_reducible assumption) | (simp; done) | (simp; omega) | omega)))⟩
        · have hfin : (48 + V % 10) :: T = D := by rw [← hVd.out, digs_succ gk V T, if_pos (by omega)]
          have HF := Lib.hid hfin; clear hfin hV' hd hq hm hc
          go_wp2_with fail
          go_meet
          exact ⟨by rw [HZ.out, HF.out], hwr, hB⟩
    case rest =>
      obtain ⟨w4, rfl⟩ : ∃ w4, w4 = wc := ⟨_, rfl⟩
      obtain ⟨rfl, hwc, HB⟩ := hcut
      clear HK1 HK2 HUL
      have hDl : D.length ≤ 31 := by rw [HD.out]; simpa using digs_len 31 U []
      obtain ⟨Z, hZ⟩ : ∃ Z, Z = strN D := ⟨_, rfl⟩
      rw [← hZ]
      have hZs : Z.size ≤ 100 := by rw [hZ, strN_size]; omega
      have hcas : (n < 0 ∧ S = ⟨#[45]⟩ ++ Z) ∨ (¬ n < 0 ∧ S = Z) := by
        by_cases h : n < 0
        · left; refine ⟨h, ?_⟩
          rw [HS.out, HTL.out, if_pos h, hZ, HD.out, HU.out, ← strN_app]; rfl
        · right; refine ⟨h, ?_⟩
          rw [HS.out, HTL.out, if_neg h, hZ, HD.out, HU.out]; rfl
      have HZ := Lib.hid hZ; have HC := Lib.hid hcas
      clear hZ hcas
      go_upto_if 41 with fail
      go_cut [5] (fun s wx => s = .string S ∧ w4 = wx)
      case first =>
        rcases HC.out with ⟨h1, h2⟩ | ⟨h1, h2⟩
        · have hd : decide (n < 0) = true := by simpa using h1
          have H2 := Lib.hid h2; clear h2
          go_wp2_with fail
          go_meet
          exact ⟨by rw [H2.out], rfl⟩
        · have hd : decide (n < 0) = false := by simpa using h1
          have H2 := Lib.hid h2; clear h2
          go_wp2_with fail
          go_meet
          exact ⟨by rw [H2.out], rfl⟩
      case rest =>
        obtain ⟨rfl, rfl⟩ := hcut
        have hrun := conv_run w4 L HLB.out
        rw [← HS.out] at hrun
        obtain ⟨c, C, fr, hrun, hcc, hrb⟩ := hrun
        have hp : Calls Try.prog 22 #[.slice (some ⟨w4.heap.size, 0, none⟩) L.length c] ((w4.alloc (.cells C 5 fr)).drew) fun e w' => e = .returned (.tuple #[.agg #[.bool P, .int .u64 X, .int .u64 Y], .int .i64 (L.length : Int), .nilIface]) ∧ Below (w4.heap.size + 1) ((w4.alloc (.cells C 5 fr)).drew) w' := by
          refine (prefix_any _ c L _ _ (by simp) hrb hcc (by omega)).mono fun e w' ⟨h, hb⟩ => ⟨?_, hb.mono (by simp)⟩
          obtain ⟨r1, r2, r3, r4⟩ := HRD.out
          rcases h with ⟨h, _⟩ | ⟨_, h, _⟩ | ⟨_, _, h⟩
          · omega
          · omega
          · rw [h, r1, r2, HP.out, HX.out, HY.out]
        have hwh : ∀ W, Calls Try.prog 26 #[.agg #[.bool P, .int .u64 X, .int .u64 Y]] W fun e w' => e = .returned (.tuple #[.int .i64 n, .bool true]) ∧ Below W.heap.size W w' := by
          intro W
          refine (WH.out W).mono fun e w' ⟨⟨k, ok, he, hk⟩, hb⟩ => ⟨?_, hb⟩
          have ht : (n * 1000000).tdiv 1000000 = n := Int.mul_tdiv_cancel n (by decide)
          rw [ht, if_pos HN.out] at hk
          rw [he, hk.1, hk.2]
        have HPF := Lib.hid hp; have HWH := Lib.hid hwh
        clear hp hrb hwh hcc WH HP HX HY HTL HLB HRD HC HZ HN HCO
        have hls : S.size = L.length := HLS.out
        go_upto_region 14 with (go_at_call 22; refine (HPF.out).mono ?_; rintro e w5 ⟨rfl, b5⟩; have hs_b5 := Below.size b5; (try simp at hs_b5); have hb5 : Below w4.heap.size w4 w5 := (by refine Below.trans ?_ (b5.mono (by omega)); exact ((Below.refl _ _).alloc (Nat.le_refl _) _).drew))
        clear hrun
        go_wp2_with (go_at_call 26; refine (HWH.out _).mono ?_; rintro e w6 ⟨rfl, b6⟩; have hs_b6 := Below.size b6; (try simp at hs_b6))
        go_returns
        exact ⟨rfl, HB.out.trans (by refine Below.trans (hb5.mono (by omega)) ?_; (repeat' (first | (with_reducible exact Below.refl _ _) | (refine Below.trans ?_ (Below.mono (by with_reducible assumption) ?_)) | (with_reducible exact Below.refl _ _) | (with_reducible refine below_drewN ?_ _) | (with_reducible refine Below.drew ?_) | (with_reducible refine Below.setCell ?_ ?_ _) | (with_reducible refine Below.alloc ?_ ?_ _) | (with_reducible assumption) | (simp; done) | (simp; omega) | omega)))⟩
end Go.Proofs.Ytdmifldjeiabdaa
