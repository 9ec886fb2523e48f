/- fieldfareref01: plus, minus. -/
import Derived.Test.YtkhhjibpppmekaaRefA
import Derived.Test.YtkhhjibpppmekaaDigB
namespace Go.Proofs.Ytkhhjibpppmekaa
open Go.RowKit
set_option maxRecDepth 100000 in
set_option maxHeartbeats 1600000 in
theorem plus_any (A A' : Option Addr) (c c' : Nat) (xs ys : List Nat) (n : Nat) (w : World) (B0 : Nat) (hB0 : B0 ≤ w.heap.size) (hr : RI w B0 A xs) (hr' : RI w B0 A' ys) (hc : xs.length ≤ c) (hc' : ys.length ≤ c') (hd : Dig10 xs) (hd' : Dig10 ys) (hn : xs.length ≤ n) (hn' : ys.length ≤ n) (hm : n ≤ 100000) :
    Calls Try.prog 98 #[.slice A xs.length c, .slice A' ys.length c'] w fun e w' => (∃ v, e = .returned v ∧ OI w' w.heap.size v (dg (val xs + val ys))) ∧ Below w.heap.size w w' := by
  have HR := Lib.hid hr
  have HR' := Lib.hid hr'
  have HD := Lib.hid hd
  have HD' := Lib.hid hd'
  have HBB := Lib.hid hB0
  obtain ⟨S, hS⟩ : ∃ S, S = val xs + val ys := ⟨_, rfl⟩
  rw [← hS]
  have HS := Lib.hid hS
  clear hr hr' hd hd' hS hB0
  go_enter Try.func98, Try.ntmps98
  go_upto_block 0 with fail
  go_cut [5] (fun v wx => ∃ (L : List Nat), Hid (OI wx w.heap.size v L) ∧ Hid (Dig10 L ∧ val L = S) ∧ L.length ≤ n + 1 ∧ w.heap.size ≤ wx.heap.size ∧ Hid (Below w.heap.size w wx))
  case first =>
    go_wp2_with fail
    go_loopw [5, 6, 7] (fun v x i wr => ∃ (k q : Nat) (L : List Nat), i = .int .i64 (k : Int) ∧ k ≤ n + 1 ∧ x = .int .i64 (q : Int) ∧ q ≤ 1 ∧ Hid (OI wr w.heap.size v L) ∧ Hid (L.length = k ∧ Dig10 L ∧ val L + 10 ^ L.length * (q + (val (xs.drop k) + val (ys.drop k))) = S ∧ (k = n + 1 → q = 0)) ∧ w.heap.size ≤ wr.heap.size ∧ Hid (Below w.heap.size w wr)) (fun _ _ i _ => n + 1 - (intOf i).toNat)
    case atStart => exact ⟨0, 0, [], rfl, Nat.zero_le _, rfl, Nat.zero_le _, Lib.hid (OI.nil _ _), Lib.hid ⟨rfl, Dig10.nil, by simp [val, HS.out], fun _ => rfl⟩, Nat.le_refl _, Lib.hid (Below.refl _ _)⟩
    case round =>
      obtain ⟨k, q, L, rfl, hk, rfl, hq, hO, hL, hwr, hB⟩ := hrel
      obtain ⟨x, hx⟩ : ∃ x, x = xs.getD k 0 := ⟨_, rfl⟩
      obtain ⟨y, hy⟩ : ∃ y, y = ys.getD k 0 := ⟨_, rfl⟩
      have hx9 : x < 10 := by rw [hx]; exact getD_lt HD.out k
      have hy9 : y < 10 := by rw [hy]; exact getD_lt HD'.out k
      obtain ⟨r, hr⟩ : ∃ r, r = (q + x + y) % 10 := ⟨_, rfl⟩
      obtain ⟨q', hq'⟩ : ∃ q', q' = (q + x + y) / 10 := ⟨_, rfl⟩
      have hq2 : q' ≤ 1 := by omega
      have hr2 : r < 10 := by omega
      have hx0 : xs.length ≤ k → x = 0 := fun h => by rw [hx]; exact getD_no h
      have hy0 : ys.length ≤ k → y = 0 := fun h => by rw [hy]; exact getD_no h
      have hxc : ∀ h : k < xs.length, x = xs[k] := fun h => by rw [hx]; exact getD_at h
      have hyc : ∀ h : k < ys.length, y = ys[k] := fun h => by rw [hy]; exact getD_at h
      have hnew : (L ++ [r]).length = k + 1 ∧ Dig10 (L ++ [r]) ∧ val (L ++ [r]) + 10 ^ (L ++ [r]).length * (q' + (val (xs.drop (k + 1)) + val (ys.drop (k + 1)))) = S ∧ (k + 1 = n + 1 → q' = 0) := by
        obtain ⟨l1, l2, l3, l4⟩ := hL.out
        refine ⟨by simp [l1], l2.app (Dig10.one hr2), step_gen l3 ?_, fun h => ?_⟩
        · rw [val_drop_step xs k, val_drop_step ys k, ← hx, ← hy]; omega
        · have := hx0 (by omega); have := hy0 (by omega); omega
      have HN := Lib.hid hnew
      have hb1 : Below w.heap.size w (wr.alloc (.cells (inums [r]) 3)) := by refine hB.out.trans ?_; (repeat' (first | (with_reducible exact Below.refl _ _) | (refine Below.trans ?_ (Below.mono (by with_reducible assumption) ?_)) | (with_reducible exact Below.refl _ _) | (with_reducible refine below_drewN ?_ _) | (with_reducible refine Below.drew ?_) | (with_reducible refine Below.setCell ?_ ?_ _) | (with_reducible refine Below.alloc ?_ ?_ _) | (with_reducible assumption) | (simp; done) | (simp; omega) | omega))
      have HB1 := Lib.hid hb1
      have HO1 := Lib.hid (hO.out.alloc (.cells (inums [r]) 3))
      have hRr := HR.out.below (hB.out.mono HBB.out)
      have hRr' := HR'.out.below (hB.out.mono HBB.out)
      have hln := hL.out.1
      have hend := hL.out.2.2.2
      have HLN := Lib.hid hln
      clear hnew hb1 hx hy hln
      by_cases h1 : k < xs.length
      · obtain ⟨ad, rfl, hbk, hcell⟩ := hRr (by omega)
        have hcl := hcell k h1
        rw [← hxc h1] at hcl
        by_cases h2 : k < ys.length
        · obtain ⟨ad', rfl, hbk', hcell'⟩ := hRr' (by omega)
          have hcl' := hcell' k h2
          rw [← hyc h2] at hcl'
          have hr1 : ((q : Int) + (x : Int) + (y : Int)) % 10 = (r : Int) := by omega
          have hq1 : ((q : Int) + (x : Int) + (y : Int)) / 10 = (q' : Int) := by omega
          have hk1 : k + 1 ≤ n + 1 := by omega
          clear hr hq' hcell hbk hRr hcell' hbk' hRr' hx0 hy0 hxc hyc hend
          go_wp2_with (at_builtin; refine wpList_appI rfl (.tmp 44) (.tmp 47) rfl w.heap.size (by simp; omega) _ L rfl HO1.out (some ⟨wr.heap.size, 0, none⟩) 1 1 [r] _ rfl rfl (by intro e; cases e) (ri_row wr [r] _ _) (by have := HLN.out; simp; omega) ?_; intro v2 w5 ho5 hg5; have HB5 := Lib.hid (HO1.out.below hg5 HB1.out (Nat.le_refl _) (by simp; omega)); have hz5 : w.heap.size ≤ w5.heap.size := Nat.le_trans (by simp; omega) hg5.size; have HO5 := Lib.hid ho5; clear ho5 hg5)
          go_roundw
          case rel => exact ⟨k + 1, q', L ++ [r], by go_num, hk1, (by first | rfl | exact congrArg (Value.int .i64) (by omega)), hq2, HO5, HN, hz5, HB5⟩
          case measure => simp [intOf]; omega
        · have hy1 := hy0 (by omega)
          have hr1 : ((q : Int) + (x : Int)) % 10 = (r : Int) := by omega
          have hq1 : ((q : Int) + (x : Int)) / 10 = (q' : Int) := by omega
          have hk1 : k + 1 ≤ n + 1 := by omega
          clear hr hq' hcell hbk hRr hRr' hx0 hy0 hxc hyc hy1 hend
          go_wp2_with (at_builtin; refine wpList_appI rfl (.tmp 44) (.tmp 47) rfl w.heap.size (by simp; omega) _ L rfl HO1.out (some ⟨wr.heap.size, 0, none⟩) 1 1 [r] _ rfl rfl (by intro e; cases e) (ri_row wr [r] _ _) (by have := HLN.out; simp; omega) ?_; intro v2 w5 ho5 hg5; have HB5 := Lib.hid (HO1.out.below hg5 HB1.out (Nat.le_refl _) (by simp; omega)); have hz5 : w.heap.size ≤ w5.heap.size := Nat.le_trans (by simp; omega) hg5.size; have HO5 := Lib.hid ho5; clear ho5 hg5)
          go_roundw
          case rel => exact ⟨k + 1, q', L ++ [r], by go_num, hk1, (by first | rfl | exact congrArg (Value.int .i64) (by omega)), hq2, HO5, HN, hz5, HB5⟩
          case measure => simp [intOf]; omega
      · have hx1 := hx0 (by omega)
        by_cases h2 : k < ys.length
        · obtain ⟨ad', rfl, hbk', hcell'⟩ := hRr' (by omega)
          have hcl' := hcell' k h2
          rw [← hyc h2] at hcl'
          have hr1 : ((q : Int) + (y : Int)) % 10 = (r : Int) := by omega
          have hq1 : ((q : Int) + (y : Int)) / 10 = (q' : Int) := by omega
          have hk1 : k + 1 ≤ n + 1 := by omega
          clear hr hq' hRr hcell' hbk' hRr' hx0 hy0 hxc hyc hx1 hend
          go_wp2_with (at_builtin; refine wpList_appI rfl (.tmp 44) (.tmp 47) rfl w.heap.size (by simp; omega) _ L rfl HO1.out (some ⟨wr.heap.size, 0, none⟩) 1 1 [r] _ rfl rfl (by intro e; cases e) (ri_row wr [r] _ _) (by have := HLN.out; simp; omega) ?_; intro v2 w5 ho5 hg5; have HB5 := Lib.hid (HO1.out.below hg5 HB1.out (Nat.le_refl _) (by simp; omega)); have hz5 : w.heap.size ≤ w5.heap.size := Nat.le_trans (by simp; omega) hg5.size; have HO5 := Lib.hid ho5; clear ho5 hg5)
          go_roundw
          case rel => exact ⟨k + 1, q', L ++ [r], by go_num, hk1, (by first | rfl | exact congrArg (Value.int .i64) (by omega)), hq2, HO5, HN, hz5, HB5⟩
          case measure => simp [intOf]; omega
        · have hy1 := hy0 (by omega)
          by_cases hq0 : q = 0
          · subst hq0
            have hdone : val L = S := by
              obtain ⟨l1, l2, l3, l4⟩ := hL.out
              rw [List.drop_eq_nil_of_le (by omega), List.drop_eq_nil_of_le (by omega)] at l3
              simpa [val] using l3
            have HDN := Lib.hid hdone
            have hll : L.length ≤ n + 1 := by have := HLN.out; omega
            have HLL := Lib.hid hll
            clear hr hq' hRr hRr' hx0 hy0 hxc hyc hx1 hy1 hend hdone hll
            go_wp2_with fail
            go_meet
            exact ⟨L, hO, Lib.hid ⟨hL.out.2.1, HDN.out⟩, HLL.out, hwr, hB⟩
          · have hq3 : (0 : Int) < (q : Int) := by omega
            have hr1 : (q : Int) % 10 = (r : Int) := by omega
            have hq1 : (q : Int) / 10 = (q' : Int) := by omega
            have hk1 : k + 1 ≤ n + 1 := by
              rcases Nat.lt_or_ge n k with h | h
              · exact absurd (hend (by omega)) hq0
              · omega
            clear hr hq' hRr hRr' hx0 hy0 hxc hyc hx1 hy1 hend hq0
            go_wp2_with (at_builtin; refine wpList_appI rfl (.tmp 44) (.tmp 47) rfl w.heap.size (by simp; omega) _ L rfl HO1.out (some ⟨wr.heap.size, 0, none⟩) 1 1 [r] _ rfl rfl (by intro e; cases e) (ri_row wr [r] _ _) (by have := HLN.out; simp; omega) ?_; intro v2 w5 ho5 hg5; have HB5 := Lib.hid (HO1.out.below hg5 HB1.out (Nat.le_refl _) (by simp; omega)); have hz5 : w.heap.size ≤ w5.heap.size := Nat.le_trans (by simp; omega) hg5.size; have HO5 := Lib.hid ho5; clear ho5 hg5)
            go_roundw
            case rel => exact ⟨k + 1, q', L ++ [r], by go_num, hk1, (by first | rfl | exact congrArg (Value.int .i64) (by omega)), hq2, HO5, HN, hz5, HB5⟩
            case measure => simp [intOf]; omega
  case rest =>
    obtain ⟨L, hO, hL, hll, hwr, hB⟩ := hcut
    obtain ⟨A2, c2, rfl, hc2, hri, han⟩ := hO.out.slice
    have CU := rcut_any A2 c2 L wc wc.heap.size (Nat.le_refl _) hri hc2 han hL.out.1 (by omega)
    rw [hL.out.2] at CU
    have HCU := Lib.hid CU
    clear CU hri han
    go_wp2_with (go_at_call 58; refine (HCU.out).mono ?_; rintro e w2 ⟨⟨v2, rfl, ho2⟩, b2⟩; have HO2 := Lib.hid ho2; have HB2 := Lib.hid b2; clear ho2 b2)
    go_ret
    exact ⟨⟨v2, rfl, HO2.out.mono hwr⟩, hB.out.trans (HB2.out.mono hwr)⟩

set_option maxRecDepth 100000 in
set_option maxHeartbeats 1600000 in
theorem minus_any (A A' : Option Addr) (c c' : Nat) (xs ys : List Nat) (w : World) (B0 : Nat) (hB0 : B0 ≤ w.heap.size) (hr : RI w B0 A xs) (hr' : RI w B0 A' ys) (hc : xs.length ≤ c) (hc' : ys.length ≤ c') (hd : Dig10 xs) (hd' : Dig10 ys) (hle : val ys ≤ val xs) (hll : ys.length ≤ xs.length) (hm : xs.length ≤ 100000) :
    Calls Try.prog 99 #[.slice A xs.length c, .slice A' ys.length c'] w fun e w' => (∃ v, e = .returned v ∧ OI w' w.heap.size v (dg (val xs - val ys))) ∧ Below w.heap.size w w' := by
  have HR := Lib.hid hr
  have HR' := Lib.hid hr'
  have HD := Lib.hid hd
  have HD' := Lib.hid hd'
  have HBB := Lib.hid hB0
  have HLE := Lib.hid hle
  clear hr hr' hd hd' hB0 hle
  go_enter Try.func99, Try.ntmps99
  go_upto_block 0 with fail
  go_cut [5] (fun v wx => ∃ (L : List Nat), Hid (OI wx w.heap.size v L) ∧ Hid (Dig10 L ∧ val L = val xs - val ys) ∧ L.length ≤ xs.length ∧ w.heap.size ≤ wx.heap.size ∧ Hid (Below w.heap.size w wx))
  case first =>
    go_wp2_with fail
    go_loopw [5, 6, 7] (fun v x i wr => ∃ (k q : Nat) (L : List Nat), i = .int .i64 (k : Int) ∧ k ≤ xs.length ∧ x = .int .i64 (q : Int) ∧ q ≤ 1 ∧ Hid (OI wr w.heap.size v L) ∧ Hid (L.length = k ∧ Dig10 L ∧ val L + 10 ^ L.length * val (xs.drop k) + val ys = val xs + 10 ^ L.length * (q + val (ys.drop k))) ∧ w.heap.size ≤ wr.heap.size ∧ Hid (Below w.heap.size w wr)) (fun _ _ i _ => xs.length - (intOf i).toNat)
    case atStart => exact ⟨0, 0, [], rfl, Nat.zero_le _, rfl, Nat.zero_le _, Lib.hid (OI.nil _ _), Lib.hid ⟨rfl, Dig10.nil, by simp [val]⟩, Nat.le_refl _, Lib.hid (Below.refl _ _)⟩
    case round =>
      obtain ⟨k, q, L, rfl, hk, rfl, hq, hO, hL, hwr, hB⟩ := hrel
      by_cases h1 : k < xs.length
      · obtain ⟨x, hx⟩ : ∃ x, x = xs.getD k 0 := ⟨_, rfl⟩
        obtain ⟨y, hy⟩ : ∃ y, y = ys.getD k 0 := ⟨_, rfl⟩
        have hx9 : x < 10 := by rw [hx]; exact getD_lt HD.out k
        have hy9 : y < 10 := by rw [hy]; exact getD_lt HD'.out k
        obtain ⟨r, q', hr2, hq2, hrq⟩ : ∃ r q' : Nat, r < 10 ∧ q' ≤ 1 ∧ x + 10 * q' = r + q + y := by
          by_cases h : x < q + y
          · exact ⟨x + 10 - q - y, 1, by omega, by omega, by omega⟩
          · exact ⟨x - q - y, 0, by omega, by omega, by omega⟩
        have hy0 : ys.length ≤ k → y = 0 := fun h => by rw [hy]; exact getD_no h
        have hyc : ∀ h : k < ys.length, y = ys[k] := fun h => by rw [hy]; exact getD_at h
        have hnew : (L ++ [r]).length = k + 1 ∧ Dig10 (L ++ [r]) ∧ val (L ++ [r]) + 10 ^ (L ++ [r]).length * val (xs.drop (k + 1)) + val ys = val xs + 10 ^ (L ++ [r]).length * (q' + val (ys.drop (k + 1))) := by
          obtain ⟨l1, l2, l3⟩ := hL.out
          refine ⟨by simp [l1], l2.app (Dig10.one hr2), ?_⟩
          rw [val_drop_step ys k, ← hy] at l3
          exact step_sub l3 (by rw [val_drop_step xs k, ← hx]) hrq
        have HN := Lib.hid hnew
        have hb1 : Below w.heap.size w (wr.alloc (.cells (inums [r]) 3)) := by refine hB.out.trans ?_; (repeat' (first | (with_reducible exact Below.refl _ _) | (refine Below.trans ?_ (Below.mono (by with_reducible assumption) ?_)) | (with_reducible exact Below.refl _ _) | (with_reducible refine below_drewN ?_ _) | (with_reducible refine Below.drew ?_) | (with_reducible refine Below.setCell ?_ ?_ _) | (with_reducible refine Below.alloc ?_ ?_ _) | (with_reducible assumption) | (simp; done) | (simp; omega) | omega))
        have HB1 := Lib.hid hb1
        have HO1 := Lib.hid (hO.out.alloc (.cells (inums [r]) 3))
        have hRr := HR.out.below (hB.out.mono HBB.out)
        have hRr' := HR'.out.below (hB.out.mono HBB.out)
        have HLN := Lib.hid hL.out.1
        obtain ⟨ad, rfl, hbk, hcell⟩ := hRr (by omega)
        have hcl := hcell k h1
        rw [← getD_at h1, ← hx] at hcl
        clear hnew hb1 hx hy hbk hcell hRr
        by_cases h2 : k < ys.length
        · obtain ⟨ad', rfl, hbk', hcell'⟩ := hRr' (by omega)
          have hcl' := hcell' k h2
          rw [← hyc h2] at hcl'
          clear hcell' hbk' hRr' hy0 hyc
          by_cases h3 : x < q + y
          · have hn1 : (x : Int) - (q : Int) - (y : Int) < 0 := by omega
            have hr1 : (x : Int) - (q : Int) - (y : Int) + 10 = (r : Int) := by omega
            have hq1 : q' = 1 := by omega
            clear hrq h3
            go_wp2_with (at_builtin; refine wpList_appI rfl (.tmp 35) (.tmp 37) rfl w.heap.size (by simp; omega) _ L rfl HO1.out (some ⟨wr.heap.size, 0, none⟩) 1 1 [r] _ rfl rfl (by intro e; cases e) (ri_row wr [r] _ _) (by have := HLN.out; simp; omega) ?_; intro v2 w5 ho5 hg5; have HB5 := Lib.hid (HO1.out.below hg5 HB1.out (Nat.le_refl _) (by simp; omega)); have hz5 : w.heap.size ≤ w5.heap.size := Nat.le_trans (by simp; omega) hg5.size; have HO5 := Lib.hid ho5; clear ho5 hg5)
            go_roundw
            case rel => exact ⟨k + 1, q', L ++ [r], by go_num, h1, (by subst hq1; rfl), hq2, HO5, HN, hz5, HB5⟩
            case measure => simp [intOf]; omega
          · have hn1 : ¬ (x : Int) - (q : Int) - (y : Int) < 0 := by omega
            have hr1 : (x : Int) - (q : Int) - (y : Int) = (r : Int) := by omega
            have hq1 : q' = 0 := by omega
            clear hrq h3
            go_wp2_with (at_builtin; refine wpList_appI rfl (.tmp 35) (.tmp 37) rfl w.heap.size (by simp; omega) _ L rfl HO1.out (some ⟨wr.heap.size, 0, none⟩) 1 1 [r] _ rfl rfl (by intro e; cases e) (ri_row wr [r] _ _) (by have := HLN.out; simp; omega) ?_; intro v2 w5 ho5 hg5; have HB5 := Lib.hid (HO1.out.below hg5 HB1.out (Nat.le_refl _) (by simp; omega)); have hz5 : w.heap.size ≤ w5.heap.size := Nat.le_trans (by simp; omega) hg5.size; have HO5 := Lib.hid ho5; clear ho5 hg5)
            go_roundw
            case rel => exact ⟨k + 1, q', L ++ [r], by go_num, h1, (by subst hq1; rfl), hq2, HO5, HN, hz5, HB5⟩
            case measure => simp [intOf]; omega
        · have hy1 := hy0 (by omega)
          clear hRr' hy0 hyc
          by_cases h3 : x < q
          · have hn1 : (x : Int) - (q : Int) < 0 := by omega
            have hr1 : (x : Int) - (q : Int) + 10 = (r : Int) := by omega
            have hq1 : q' = 1 := by omega
            clear hrq h3 hy1
            go_wp2_with (at_builtin; refine wpList_appI rfl (.tmp 35) (.tmp 37) rfl w.heap.size (by simp; omega) _ L rfl HO1.out (some ⟨wr.heap.size, 0, none⟩) 1 1 [r] _ rfl rfl (by intro e; cases e) (ri_row wr [r] _ _) (by have := HLN.out; simp; omega) ?_; intro v2 w5 ho5 hg5; have HB5 := Lib.hid (HO1.out.below hg5 HB1.out (Nat.le_refl _) (by simp; omega)); have hz5 : w.heap.size ≤ w5.heap.size := Nat.le_trans (by simp; omega) hg5.size; have HO5 := Lib.hid ho5; clear ho5 hg5)
            go_roundw
            case rel => exact ⟨k + 1, q', L ++ [r], by go_num, h1, (by subst hq1; rfl), hq2, HO5, HN, hz5, HB5⟩
            case measure => simp [intOf]; omega
          · have hn1 : ¬ (x : Int) - (q : Int) < 0 := by omega
            have hr1 : (x : Int) - (q : Int) = (r : Int) := by omega
            have hq1 : q' = 0 := by omega
            clear hrq h3 hy1
            go_wp2_with (at_builtin; refine wpList_appI rfl (.tmp 35) (.tmp 37) rfl w.heap.size (by simp; omega) _ L rfl HO1.out (some ⟨wr.heap.size, 0, none⟩) 1 1 [r] _ rfl rfl (by intro e; cases e) (ri_row wr [r] _ _) (by have := HLN.out; simp; omega) ?_; intro v2 w5 ho5 hg5; have HB5 := Lib.hid (HO1.out.below hg5 HB1.out (Nat.le_refl _) (by simp; omega)); have hz5 : w.heap.size ≤ w5.heap.size := Nat.le_trans (by simp; omega) hg5.size; have HO5 := Lib.hid ho5; clear ho5 hg5)
            go_roundw
            case rel => exact ⟨k + 1, q', L ++ [r], by go_num, h1, (by subst hq1; rfl), hq2, HO5, HN, hz5, HB5⟩
            case measure => simp [intOf]; omega
      · obtain rfl : k = xs.length := by omega
        have hdone : val L = val xs - val ys := by
          obtain ⟨l1, l2, l3⟩ := hL.out
          rw [List.drop_eq_nil_of_le (Nat.le_refl _), List.drop_eq_nil_of_le hll] at l3
          simp only [val, Nat.mul_zero, Nat.add_zero] at l3
          exact (sub_end l2 l3 HLE.out hq).2
        have HDN := Lib.hid hdone
        have HLN := Lib.hid hL.out.1
        clear hdone
        go_wp2_with fail
        go_meet
        exact ⟨L, hO, Lib.hid ⟨hL.out.2.1, HDN.out⟩, Nat.le_of_eq HLN.out, hwr, hB⟩
  case rest =>
    obtain ⟨L, hO, hL, hl1, hwr, hB⟩ := hcut
    obtain ⟨A2, c2, rfl, hc2, hri, han⟩ := hO.out.slice
    have CU := rcut_any A2 c2 L wc wc.heap.size (Nat.le_refl _) hri hc2 han hL.out.1 (by omega)
    rw [hL.out.2] at CU
    have HCU := Lib.hid CU
    clear CU hri han
    go_wp2_with (go_at_call 58; refine (HCU.out).mono ?_; rintro e w2 ⟨⟨v2, rfl, ho2⟩, b2⟩; have HO2 := Lib.hid ho2; have HB2 := Lib.hid b2; clear ho2 b2)
    go_ret
    exact ⟨⟨v2, rfl, HO2.out.mono hwr⟩, hB.out.trans (HB2.out.mono hwr)⟩
end Go.Proofs.Ytkhhjibpppmekaa
