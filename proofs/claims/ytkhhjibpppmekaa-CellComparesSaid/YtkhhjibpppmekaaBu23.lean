/- Several texts put together: DigB, RefI, RefJ. -/
import Derived.Test.YtkhhjibpppmekaaBu4
import Derived.Test.YtkhhjibpppmekaaBu5
/- Plain: sums, differences, products, quotients of digits. -/
namespace Go.Proofs.Ytkhhjibpppmekaa
theorem val_drop_step (l : List Nat) (k : Nat) : val (l.drop k) = l.getD k 0 + 10 * val (l.drop (k + 1)) := by
  rcases Nat.lt_or_ge k l.length with h | h
  · rw [List.drop_eq_getElem_cons h, List.getD_eq_getElem?_getD, List.getElem?_eq_getElem h]
    simp [val]
  · rw [List.drop_eq_nil_of_le h, List.drop_eq_nil_of_le (by omega), List.getD_eq_getElem?_getD, List.getElem?_eq_none h]
    simp [val]
theorem getD_lt {l : List Nat} (h : Dig10 l) (k : Nat) : l.getD k 0 < 10 := by
  rw [List.getD_eq_getElem?_getD]
  rcases Nat.lt_or_ge k l.length with hk | hk
  · rw [List.getElem?_eq_getElem hk]; exact h _ (List.getElem_mem hk)
  · rw [List.getElem?_eq_none hk]; decide
theorem getD_at {l : List Nat} {k : Nat} (h : k < l.length) : l.getD k 0 = l[k] := by
  rw [List.getD_eq_getElem?_getD, List.getElem?_eq_getElem h]; rfl
theorem getD_no {l : List Nat} {k : Nat} (h : l.length ≤ k) : l.getD k 0 = 0 := by
  rw [List.getD_eq_getElem?_getD, List.getElem?_eq_none h]; rfl
/-- One digit more. -/
theorem step_gen {L : List Nat} {r T T' S : Nat} (h : val L + 10 ^ L.length * T = S) (e : T = r + 10 * T') : val (L ++ [r]) + 10 ^ (L ++ [r]).length * T' = S := by
  rw [val_app, List.length_append, List.length_singleton, Nat.pow_succ, ← h, e]
  simp only [val]
  generalize 10 ^ L.length = P
  rw [Nat.mul_zero, Nat.add_zero, Nat.mul_add, Nat.mul_assoc, Nat.add_assoc]
theorem step_sub {L : List Nat} {x y c c' r va vb A A' B' : Nat} (h : val L + 10 ^ L.length * A + vb = va + 10 ^ L.length * (c + (y + 10 * B'))) (ha : A = x + 10 * A') (e : x + 10 * c' = r + c + y) :
    val (L ++ [r]) + 10 ^ (L ++ [r]).length * A' + vb = va + 10 ^ (L ++ [r]).length * (c' + B') := by
  rw [val_app, List.length_append, List.length_singleton, Nat.pow_succ]
  rw [ha] at h
  simp only [val]
  generalize 10 ^ L.length = P at h ⊢
  have h2 : P * (x + 10 * c') = P * (r + c + y) := by rw [e]
  simp only [Nat.mul_add, Nat.mul_assoc, Nat.add_mul, Nat.mul_left_comm P 10] at h h2 ⊢
  omega
theorem sub_end {L : List Nat} {va vb c : Nat} (hd : Dig10 L) (h : val L + vb = va + 10 ^ L.length * c) (hle : vb ≤ va) (hc : c ≤ 1) : c = 0 ∧ val L = va - vb := by
  have h1 := val_lt hd
  rcases (show c = 0 ∨ c = 1 by omega) with rfl | rfl
  · simp at h; omega
  · simp at h; omega
theorem val_zeros (n : Nat) : val (List.replicate n 0) = 0 := by
  induction n with
  | zero => rfl
  | succ n ih => rw [List.replicate_succ]; simp only [val]; omega
theorem Dig10.zeros (n : Nat) : Dig10 (List.replicate n 0) := fun x hx => by
  have := List.eq_of_mem_replicate hx; omega
theorem val_take_step (l : List Nat) (k : Nat) : val (l.take (k + 1)) = val (l.take k) + 10 ^ k * l.getD k 0 := by
  rcases Nat.lt_or_ge k l.length with h | h
  · rw [List.take_succ_eq_append_getElem h, val_app, getD_at h, List.length_take, Nat.min_eq_left (by omega)]
    simp [val]
  · rw [List.take_of_length_le (by omega), List.take_of_length_le h, getD_no h, Nat.mul_zero, Nat.add_zero]
theorem dg_lower (N k : Nat) : ((dg N).drop k) = dg (N / 10 ^ k) := by
  induction k generalizing N with
  | zero => simp
  | succ k ih =>
    by_cases h : N = 0
    · subst h; simp [dg_zero]
    · rw [dg_succ h, List.drop_succ_cons, ih, Nat.pow_succ, Nat.div_div_eq_div_mul, Nat.mul_comm]
theorem dg_len_mono {a b : Nat} (h : a ≤ b) : (dg a).length ≤ (dg b).length := by
  rcases Nat.lt_or_ge (dg b).length (dg a).length with h1 | h1
  · have := less_len h1; omega
  · exact h1
theorem dg_len_bound {N k : Nat} (h : N < 10 ^ k) : (dg N).length ≤ k := by
  rcases Nat.lt_or_ge k (dg N).length with hlt | hge
  · have hM : N ≠ 0 := by rintro rfl; simp [dg_zero] at hlt
    have h1 := dg_ge N hM
    have h2 : 10 ^ k ≤ 10 ^ ((dg N).length - 1) := Nat.pow_le_pow_right (by decide) (by omega)
    omega
  · exact hge
theorem dg_len_lt {N k : Nat} (h : (dg N).length ≤ k) : N < 10 ^ k := Nat.lt_of_lt_of_le (dg_lt N) (Nat.pow_le_pow_right (by decide) h)
theorem dg_len_iff36 (N : Nat) : (dg N).length ≤ 36 ↔ N < 1000000000000000000000000000000000000 :=
  ⟨fun h => dg_len_lt h, fun h => dg_len_bound (k := 36) h⟩
end Go.Proofs.Ytkhhjibpppmekaa

/- fieldfareref01: plus, minus. -/
namespace Go.Proofs.Ytkhhjibpppmekaa
open Go.RowKit
set_option maxRecDepth 100000 in
set_option maxHeartbeats 1600000 in
theorem plus_any (A A' : Option Addr) (c c' : Nat) (xs ys : List Nat) (n : Nat) (w : World) (B0 : Nat) (hB0 : B0 ≤ w.heap.size) (hr : RI w B0 A xs) (hr' : RI w B0 A' ys) (hc : xs.length ≤ c) (hc' : ys.length ≤ c') (hd : Dig10 xs) (hd' : Dig10 ys) (hn : xs.length ≤ n) (hn' : ys.length ≤ n) (hm : n ≤ 100000) :
    Calls Try.prog 98 #[.slice A xs.length c, .slice A' ys.length c'] w fun e w' => (∃ v, e = .returned v ∧ OI w' w.heap.size v (dg (val xs + val ys))) ∧ Below w.heap.size w w' := by
  have HR := Lib.hid hr
  have HR' := Lib.hid hr'
  have HD := Lib.hid hd
  have HD' := Lib.hid hd'
  have HBB := Lib.hid hB0
  obtain ⟨S, hS⟩ : ∃ S, S = val xs + val ys := ⟨_, rfl⟩
  rw [← hS]
  have HS := Lib.hid hS
  clear hr hr' hd hd' hS hB0
  go_enter Try.func98, Try.ntmps98
  go_upto_block 0 with fail
  go_cut [5] (fun v wx => ∃ (L : List Nat), Hid (OI wx w.heap.size v L) ∧ Hid (Dig10 L ∧ val L = S) ∧ L.length ≤ n + 1 ∧ w.heap.size ≤ wx.heap.size ∧ Hid (Below w.heap.size w wx))
  case first =>
    go_wp2_with fail
    go_loopw [5, 6, 7] (fun v x i wr => ∃ (k q : Nat) (L : List Nat), i = .int .i64 (k : Int) ∧ k ≤ n + 1 ∧ x = .int .i64 (q : Int) ∧ q ≤ 1 ∧ Hid (OI wr w.heap.size v L) ∧ Hid (L.length = k ∧ Dig10 L ∧ val L + 10 ^ L.length * (q + (val (xs.drop k) + val (ys.drop k))) = S ∧ (k = n + 1 → q = 0)) ∧ w.heap.size ≤ wr.heap.size ∧ Hid (Below w.heap.size w wr)) (fun _ _ i _ => n + 1 - (intOf i).toNat)
    case atStart => exact ⟨0, 0, [], rfl, Nat.zero_le _, rfl, Nat.zero_le _, Lib.hid (OI.nil _ _), Lib.hid ⟨rfl, Dig10.nil, by simp [val, HS.out], fun _ => rfl⟩, Nat.le_refl _, Lib.hid (Below.refl _ _)⟩
    case round =>
      obtain ⟨k, q, L, rfl, hk, rfl, hq, hO, hL, hwr, hB⟩ := hrel
      obtain ⟨x, hx⟩ : ∃ x, x = xs.getD k 0 := ⟨_, rfl⟩
      obtain ⟨y, hy⟩ : ∃ y, y = ys.getD k 0 := ⟨_, rfl⟩
      have hx9 : x < 10 := by rw [hx]; exact getD_lt HD.out k
      have hy9 : y < 10 := by rw [hy]; exact getD_lt HD'.out k
      obtain ⟨r, hr⟩ : ∃ r, r = (q + x + y) % 10 := ⟨_, rfl⟩
      obtain ⟨q', hq'⟩ : ∃ q', q' = (q + x + y) / 10 := ⟨_, rfl⟩
      have hq2 : q' ≤ 1 := by omega
      have hr2 : r < 10 := by omega
      have hx0 : xs.length ≤ k → x = 0 := fun h => by rw [hx]; exact getD_no h
      have hy0 : ys.length ≤ k → y = 0 := fun h => by rw [hy]; exact getD_no h
      have hxc : ∀ h : k < xs.length, x = xs[k] := fun h => by rw [hx]; exact getD_at h
      have hyc : ∀ h : k < ys.length, y = ys[k] := fun h => by rw [hy]; exact getD_at h
      have hnew : (L ++ [r]).length = k + 1 ∧ Dig10 (L ++ [r]) ∧ val (L ++ [r]) + 10 ^ (L ++ [r]).length * (q' + (val (xs.drop (k + 1)) + val (ys.drop (k + 1)))) = S ∧ (k + 1 = n + 1 → q' = 0) := by
        obtain ⟨l1, l2, l3, l4⟩ := hL.out
        refine ⟨by simp [l1], l2.app (Dig10.one hr2), step_gen l3 ?_, fun h => ?_⟩
        · rw [val_drop_step xs k, val_drop_step ys k, ← hx, ← hy]; omega
        · have := hx0 (by omega); have := hy0 (by omega); omega
      have HN := Lib.hid hnew
      have hb1 : Below w.heap.size w (wr.alloc (.cells (inums [r]) 3)) := by refine hB.out.trans ?_; (repeat' (first | (with_reducible exact Below.refl _ _) | (refine Below.trans ?_ (Below.mono (by with_reducible assumption) ?_)) | (with_reducible exact Below.refl _ _) | (with_reducible refine below_drewN ?_ _) | (with_reducible refine Below.drew ?_) | (with_reducible refine Below.setCell ?_ ?_ _) | (with_reducible refine Below.alloc ?_ ?_ _) | (with_reducible assumption) | (simp; done) | (simp; omega) | omega))
      have HB1 := Lib.hid hb1
      have HO1 := Lib.hid (hO.out.alloc (.cells (inums [r]) 3))
      have hRr := HR.out.below (hB.out.mono HBB.out)
      have hRr' := HR'.out.below (hB.out.mono HBB.out)
      have hln := hL.out.1
      have hend := hL.out.2.2.2
      have HLN := Lib.hid hln
      clear hnew hb1 hx hy hln
      by_cases h1 : k < xs.length
      · obtain ⟨ad, rfl, hbk, hcell⟩ := hRr (by omega)
        have hcl := hcell k h1
        rw [← hxc h1] at hcl
        by_cases h2 : k < ys.length
        · obtain ⟨ad', rfl, hbk', hcell'⟩ := hRr' (by omega)
          have hcl' := hcell' k h2
          rw [← hyc h2] at hcl'
          have hr1 : ((q : Int) + (x : Int) + (y : Int)) % 10 = (r : Int) := by omega
          have hq1 : ((q : Int) + (x : Int) + (y : Int)) / 10 = (q' : Int) := by omega
          have hk1 : k + 1 ≤ n + 1 := by omega
          clear hr hq' hcell hbk hRr hcell' hbk' hRr' hx0 hy0 hxc hyc hend
          go_wp2_with (at_builtin; refine wpList_appI rfl (.tmp 44) (.tmp 47) rfl w.heap.size (by simp; omega) _ L rfl HO1.out (some ⟨wr.heap.size, 0, none⟩) 1 1 [r] _ rfl rfl (by intro e; cases e) (ri_row wr [r] _ _) (by have := HLN.out; simp; omega) ?_; intro v2 w5 ho5 hg5; have HB5 := Lib.hid (HO1.out.below hg5 HB1.out (Nat.le_refl _) (by simp; omega)); have hz5 : w.heap.size ≤ w5.heap.size := Nat.le_trans (by simp; omega) hg5.size; have HO5 := Lib.hid ho5; clear ho5 hg5)
          go_roundw
          case rel => exact ⟨k + 1, q', L ++ [r], by go_num, hk1, (by first | rfl | exact congrArg (Value.int .i64) (by omega)), hq2, HO5, HN, hz5, HB5⟩
          case measure => simp [intOf]; omega
        · have hy1 := hy0 (by omega)
          have hr1 : ((q : Int) + (x : Int)) % 10 = (r : Int) := by omega
          have hq1 : ((q : Int) + (x : Int)) / 10 = (q' : Int) := by omega
          have hk1 : k + 1 ≤ n + 1 := by omega
          clear hr hq' hcell hbk hRr hRr' hx0 hy0 hxc hyc hy1 hend
          go_wp2_with (at_builtin; refine wpList_appI rfl (.tmp 44) (.tmp 47) rfl w.heap.size (by simp; omega) _ L rfl HO1.out (some ⟨wr.heap.size, 0, none⟩) 1 1 [r] _ rfl rfl (by intro e; cases e) (ri_row wr [r] _ _) (by have := HLN.out; simp; omega) ?_; intro v2 w5 ho5 hg5; have HB5 := Lib.hid (HO1.out.below hg5 HB1.out (Nat.le_refl _) (by simp; omega)); have hz5 : w.heap.size ≤ w5.heap.size := Nat.le_trans (by simp; omega) hg5.size; have HO5 := Lib.hid ho5; clear ho5 hg5)
          go_roundw
          case rel => exact ⟨k + 1, q', L ++ [r], by go_num, hk1, (by first | rfl | exact congrArg (Value.int .i64) (by omega)), hq2, HO5, HN, hz5, HB5⟩
          case measure => simp [intOf]; omega
      · have hx1 := hx0 (by omega)
        by_cases h2 : k < ys.length
        · obtain ⟨ad', rfl, hbk', hcell'⟩ := hRr' (by omega)
          have hcl' := hcell' k h2
          rw [← hyc h2] at hcl'
          have hr1 : ((q : Int) + (y : Int)) % 10 = (r : Int) := by omega
          have hq1 : ((q : Int) + (y : Int)) / 10 = (q' : Int) := by omega
          have hk1 : k + 1 ≤ n + 1 := by omega
          clear hr hq' hRr hcell' hbk' hRr' hx0 hy0 hxc hyc hx1 hend
          go_wp2_with (at_builtin; refine wpList_appI rfl (.tmp 44) (.tmp 47) rfl w.heap.size (by simp; omega) _ L rfl HO1.out (some ⟨wr.heap.size, 0, none⟩) 1 1 [r] _ rfl rfl (by intro e; cases e) (ri_row wr [r] _ _) (by have := HLN.out; simp; omega) ?_; intro v2 w5 ho5 hg5; have HB5 := Lib.hid (HO1.out.below hg5 HB1.out (Nat.le_refl _) (by simp; omega)); have hz5 : w.heap.size ≤ w5.heap.size := Nat.le_trans (by simp; omega) hg5.size; have HO5 := Lib.hid ho5; clear ho5 hg5)
          go_roundw
          case rel => exact ⟨k + 1, q', L ++ [r], by go_num, hk1, (by first | rfl | exact congrArg (Value.int .i64) (by omega)), hq2, HO5, HN, hz5, HB5⟩
          case measure => simp [intOf]; omega
        · have hy1 := hy0 (by omega)
          by_cases hq0 : q = 0
          · subst hq0
            have hdone : val L = S := by
              obtain ⟨l1, l2, l3, l4⟩ := hL.out
              rw [List.drop_eq_nil_of_le (by omega), List.drop_eq_nil_of_le (by omega)] at l3
              simpa [val] using l3
            have HDN := Lib.hid hdone
            have hll : L.length ≤ n + 1 := by have := HLN.out; omega
            have HLL := Lib.hid hll
            clear hr hq' hRr hRr' hx0 hy0 hxc hyc hx1 hy1 hend hdone hll
            go_wp2_with fail
            go_meet
            exact ⟨L, hO, Lib.hid ⟨hL.out.2.1, HDN.out⟩, HLL.out, hwr, hB⟩
          · have hq3 : (0 : Int) < (q : Int) := by omega
            have hr1 : (q : Int) % 10 = (r : Int) := by omega
            have hq1 : (q : Int) / 10 = (q' : Int) := by omega
            have hk1 : k + 1 ≤ n + 1 := by
              rcases Nat.lt_or_ge n k with h | h
              · exact absurd (hend (by omega)) hq0
              · omega
            clear hr hq' hRr hRr' hx0 hy0 hxc hyc hx1 hy1 hend hq0
            go_wp2_with (at_builtin; refine wpList_appI rfl (.tmp 44) (.tmp 47) rfl w.heap.size (by simp; omega) _ L rfl HO1.out (some ⟨wr.heap.size, 0, none⟩) 1 1 [r] _ rfl rfl (by intro e; cases e) (ri_row wr [r] _ _) (by have := HLN.out; simp; omega) ?_; intro v2 w5 ho5 hg5; have HB5 := Lib.hid (HO1.out.below hg5 HB1.out (Nat.le_refl _) (by simp; omega)); have hz5 : w.heap.size ≤ w5.heap.size := Nat.le_trans (by simp; omega) hg5.size; have HO5 := Lib.hid ho5; clear ho5 hg5)
            go_roundw
            case rel => exact ⟨k + 1, q', L ++ [r], by go_num, hk1, (by first | rfl | exact congrArg (Value.int .i64) (by omega)), hq2, HO5, HN, hz5, HB5⟩
            case measure => simp [intOf]; omega
  case rest =>
    obtain ⟨L, hO, hL, hll, hwr, hB⟩ := hcut
    obtain ⟨A2, c2, rfl, hc2, hri, han⟩ := hO.out.slice
    have CU := rcut_any A2 c2 L wc wc.heap.size (Nat.le_refl _) hri hc2 han hL.out.1 (by omega)
    rw [hL.out.2] at CU
    have HCU := Lib.hid CU
    clear CU hri han
    go_wp2_with (go_at_call 58; refine (HCU.out).mono ?_; rintro e w2 ⟨⟨v2, rfl, ho2⟩, b2⟩; have HO2 := Lib.hid ho2; have HB2 := Lib.hid b2; clear ho2 b2)
    go_ret
    exact ⟨⟨v2, rfl, HO2.out.mono hwr⟩, hB.out.trans (HB2.out.mono hwr)⟩

set_option maxRecDepth 100000 in
set_option maxHeartbeats 1600000 in
theorem minus_any (A A' : Option Addr) (c c' : Nat) (xs ys : List Nat) (w : World) (B0 : Nat) (hB0 : B0 ≤ w.heap.size) (hr : RI w B0 A xs) (hr' : RI w B0 A' ys) (hc : xs.length ≤ c) (hc' : ys.length ≤ c') (hd : Dig10 xs) (hd' : Dig10 ys) (hle : val ys ≤ val xs) (hll : ys.length ≤ xs.length) (hm : xs.length ≤ 100000) :
    Calls Try.prog 99 #[.slice A xs.length c, .slice A' ys.length c'] w fun e w' => (∃ v, e = .returned v ∧ OI w' w.heap.size v (dg (val xs - val ys))) ∧ Below w.heap.size w w' := by
  have HR := Lib.hid hr
  have HR' := Lib.hid hr'
  have HD := Lib.hid hd
  have HD' := Lib.hid hd'
  have HBB := Lib.hid hB0
  have HLE := Lib.hid hle
  clear hr hr' hd hd' hB0 hle
  go_enter Try.func99, Try.ntmps99
  go_upto_block 0 with fail
  go_cut [5] (fun v wx => ∃ (L : List Nat), Hid (OI wx w.heap.size v L) ∧ Hid (Dig10 L ∧ val L = val xs - val ys) ∧ L.length ≤ xs.length ∧ w.heap.size ≤ wx.heap.size ∧ Hid (Below w.heap.size w wx))
  case first =>
    go_wp2_with fail
    go_loopw [5, 6, 7] (fun v x i wr => ∃ (k q : Nat) (L : List Nat), i = .int .i64 (k : Int) ∧ k ≤ xs.length ∧ x = .int .i64 (q : Int) ∧ q ≤ 1 ∧ Hid (OI wr w.heap.size v L) ∧ Hid (L.length = k ∧ Dig10 L ∧ val L + 10 ^ L.length * val (xs.drop k) + val ys = val xs + 10 ^ L.length * (q + val (ys.drop k))) ∧ w.heap.size ≤ wr.heap.size ∧ Hid (Below w.heap.size w wr)) (fun _ _ i _ => xs.length - (intOf i).toNat)
    case atStart => exact ⟨0, 0, [], rfl, Nat.zero_le _, rfl, Nat.zero_le _, Lib.hid (OI.nil _ _), Lib.hid ⟨rfl, Dig10.nil, by simp [val]⟩, Nat.le_refl _, Lib.hid (Below.refl _ _)⟩
    case round =>
      obtain ⟨k, q, L, rfl, hk, rfl, hq, hO, hL, hwr, hB⟩ := hrel
      by_cases h1 : k < xs.length
      · obtain ⟨x, hx⟩ : ∃ x, x = xs.getD k 0 := ⟨_, rfl⟩
        obtain ⟨y, hy⟩ : ∃ y, y = ys.getD k 0 := ⟨_, rfl⟩
        have hx9 : x < 10 := by rw [hx]; exact getD_lt HD.out k
        have hy9 : y < 10 := by rw [hy]; exact getD_lt HD'.out k
        obtain ⟨r, q', hr2, hq2, hrq⟩ : ∃ r q' : Nat, r < 10 ∧ q' ≤ 1 ∧ x + 10 * q' = r + q + y := by
          by_cases h : x < q + y
          · exact ⟨x + 10 - q - y, 1, by omega, by omega, by omega⟩
          · exact ⟨x - q - y, 0, by omega, by omega, by omega⟩
        have hy0 : ys.length ≤ k → y = 0 := fun h => by rw [hy]; exact getD_no h
        have hyc : ∀ h : k < ys.length, y = ys[k] := fun h => by rw [hy]; exact getD_at h
        have hnew : (L ++ [r]).length = k + 1 ∧ Dig10 (L ++ [r]) ∧ val (L ++ [r]) + 10 ^ (L ++ [r]).length * val (xs.drop (k + 1)) + val ys = val xs + 10 ^ (L ++ [r]).length * (q' + val (ys.drop (k + 1))) := by
          obtain ⟨l1, l2, l3⟩ := hL.out
          refine ⟨by simp [l1], l2.app (Dig10.one hr2), ?_⟩
          rw [val_drop_step ys k, ← hy] at l3
          exact step_sub l3 (by rw [val_drop_step xs k, ← hx]) hrq
        have HN := Lib.hid hnew
        have hb1 : Below w.heap.size w (wr.alloc (.cells (inums [r]) 3)) := by refine hB.out.trans ?_; (repeat' (first | (with_reducible exact Below.refl _ _) | (refine Below.trans ?_ (Below.mono (by with_reducible assumption) ?_)) | (with_reducible exact Below.refl _ _) | (with_reducible refine below_drewN ?_ _) | (with_reducible refine Below.drew ?_) | (with_reducible refine Below.setCell ?_ ?_ _) | (with_reducible refine Below.alloc ?_ ?_ _) | (with_reducible assumption) | (simp; done) | (simp; omega) | omega))
        have HB1 := Lib.hid hb1
        have HO1 := Lib.hid (hO.out.alloc (.cells (inums [r]) 3))
        have hRr := HR.out.below (hB.out.mono HBB.out)
        have hRr' := HR'.out.below (hB.out.mono HBB.out)
        have HLN := Lib.hid hL.out.1
        obtain ⟨ad, rfl, hbk, hcell⟩ := hRr (by omega)
        have hcl := hcell k h1
        rw [← getD_at h1, ← hx] at hcl
        clear hnew hb1 hx hy hbk hcell hRr
        by_cases h2 : k < ys.length
        · obtain ⟨ad', rfl, hbk', hcell'⟩ := hRr' (by omega)
          have hcl' := hcell' k h2
          rw [← hyc h2] at hcl'
          clear hcell' hbk' hRr' hy0 hyc
          by_cases h3 : x < q + y
          · have hn1 : (x : Int) - (q : Int) - (y : Int) < 0 := by omega
            have hr1 : (x : Int) - (q : Int) - (y : Int) + 10 = (r : Int) := by omega
            have hq1 : q' = 1 := by omega
            clear hrq h3
            go_wp2_with (at_builtin; refine wpList_appI rfl (.tmp 35) (.tmp 37) rfl w.heap.size (by simp; omega) _ L rfl HO1.out (some ⟨wr.heap.size, 0, none⟩) 1 1 [r] _ rfl rfl (by intro e; cases e) (ri_row wr [r] _ _) (by have := HLN.out; simp; omega) ?_; intro v2 w5 ho5 hg5; have HB5 := Lib.hid (HO1.out.below hg5 HB1.out (Nat.le_refl _) (by simp; omega)); have hz5 : w.heap.size ≤ w5.heap.size := Nat.le_trans (by simp; omega) hg5.size; have HO5 := Lib.hid ho5; clear ho5 hg5)
            go_roundw
            case rel => exact ⟨k + 1, q', L ++ [r], by go_num, h1, (by subst hq1; rfl), hq2, HO5, HN, hz5, HB5⟩
            case measure => simp [intOf]; omega
          · have hn1 : ¬ (x : Int) - (q : Int) - (y : Int) < 0 := by omega
            have hr1 : (x : Int) - (q : Int) - (y : Int) = (r : Int) := by omega
            have hq1 : q' = 0 := by omega
            clear hrq h3
            go_wp2_with (at_builtin; refine wpList_appI rfl (.tmp 35) (.tmp 37) rfl w.heap.size (by simp; omega) _ L rfl HO1.out (some ⟨wr.heap.size, 0, none⟩) 1 1 [r] _ rfl rfl (by intro e; cases e) (ri_row wr [r] _ _) (by have := HLN.out; simp; omega) ?_; intro v2 w5 ho5 hg5; have HB5 := Lib.hid (HO1.out.below hg5 HB1.out (Nat.le_refl _) (by simp; omega)); have hz5 : w.heap.size ≤ w5.heap.size := Nat.le_trans (by simp; omega) hg5.size; have HO5 := Lib.hid ho5; clear ho5 hg5)
            go_roundw
            case rel => exact ⟨k + 1, q', L ++ [r], by go_num, h1, (by subst hq1; rfl), hq2, HO5, HN, hz5, HB5⟩
            case measure => simp [intOf]; omega
        · have hy1 := hy0 (by omega)
          clear hRr' hy0 hyc
          by_cases h3 : x < q
          · have hn1 : (x : Int) - (q : Int) < 0 := by omega
            have hr1 : (x : Int) - (q : Int) + 10 = (r : Int) := by omega
            have hq1 : q' = 1 := by omega
            clear hrq h3 hy1
            go_wp2_with (at_builtin; refine wpList_appI rfl (.tmp 35) (.tmp 37) rfl w.heap.size (by simp; omega) _ L rfl HO1.out (some ⟨wr.heap.size, 0, none⟩) 1 1 [r] _ rfl rfl (by intro e; cases e) (ri_row wr [r] _ _) (by have := HLN.out; simp; omega) ?_; intro v2 w5 ho5 hg5; have HB5 := Lib.hid (HO1.out.below hg5 HB1.out (Nat.le_refl _) (by simp; omega)); have hz5 : w.heap.size ≤ w5.heap.size := Nat.le_trans (by simp; omega) hg5.size; have HO5 := Lib.hid ho5; clear ho5 hg5)
            go_roundw
            case rel => exact ⟨k + 1, q', L ++ [r], by go_num, h1, (by subst hq1; rfl), hq2, HO5, HN, hz5, HB5⟩
            case measure => simp [intOf]; omega
          · have hn1 : ¬ (x : Int) - (q : Int) < 0 := by omega
            have hr1 : (x : Int) - (q : Int) = (r : Int) := by omega
            have hq1 : q' = 0 := by omega
            clear hrq h3 hy1
            go_wp2_with (at_builtin; refine wpList_appI rfl (.tmp 35) (.tmp 37) rfl w.heap.size (by simp; omega) _ L rfl HO1.out (some ⟨wr.heap.size, 0, none⟩) 1 1 [r] _ rfl rfl (by intro e; cases e) (ri_row wr [r] _ _) (by have := HLN.out; simp; omega) ?_; intro v2 w5 ho5 hg5; have HB5 := Lib.hid (HO1.out.below hg5 HB1.out (Nat.le_refl _) (by simp; omega)); have hz5 : w.heap.size ≤ w5.heap.size := Nat.le_trans (by simp; omega) hg5.size; have HO5 := Lib.hid ho5; clear ho5 hg5)
            go_roundw
            case rel => exact ⟨k + 1, q', L ++ [r], by go_num, h1, (by subst hq1; rfl), hq2, HO5, HN, hz5, HB5⟩
            case measure => simp [intOf]; omega
      · obtain rfl : k = xs.length := by omega
        have hdone : val L = val xs - val ys := by
          obtain ⟨l1, l2, l3⟩ := hL.out
          rw [List.drop_eq_nil_of_le (Nat.le_refl _), List.drop_eq_nil_of_le hll] at l3
          simp only [val, Nat.mul_zero, Nat.add_zero] at l3
          exact (sub_end l2 l3 HLE.out hq).2
        have HDN := Lib.hid hdone
        have HLN := Lib.hid hL.out.1
        clear hdone
        go_wp2_with fail
        go_meet
        exact ⟨L, hO, Lib.hid ⟨hL.out.2.1, HDN.out⟩, Nat.le_of_eq HLN.out, hwr, hB⟩
  case rest =>
    obtain ⟨L, hO, hL, hl1, hwr, hB⟩ := hcut
    obtain ⟨A2, c2, rfl, hc2, hri, han⟩ := hO.out.slice
    have CU := rcut_any A2 c2 L wc wc.heap.size (Nat.le_refl _) hri hc2 han hL.out.1 (by omega)
    rw [hL.out.2] at CU
    have HCU := Lib.hid CU
    clear CU hri han
    go_wp2_with (go_at_call 58; refine (HCU.out).mono ?_; rintro e w2 ⟨⟨v2, rfl, ho2⟩, b2⟩; have HO2 := Lib.hid ho2; have HB2 := Lib.hid b2; clear ho2 b2)
    go_ret
    exact ⟨⟨v2, rfl, HO2.out.mono hwr⟩, hB.out.trans (HB2.out.mono hwr)⟩
end Go.Proofs.Ytkhhjibpppmekaa

/- fieldfareref01: times. -/
namespace Go.Proofs.Ytkhhjibpppmekaa
open Go.RowKit
theorem OI.next {w w' : World} {base : Nat} {v : Value} {bs : List Nat} (h : OI w base v bs) (q : Below w.heap.size w w') : OI w' base v bs :=
  h.kept (row := none) ⟨q.os, q.tape, q.output, q.size, fun k hk _ => q.block k hk⟩ (by cases v.ownBlock <;> simp)
theorem times_len {xs zs : List Nat} (h : Dig10 xs) (h' : Dig10 zs) {m : Nat} (hm : zs.length ≤ m) : (dg (val xs * val zs)).length ≤ xs.length + m := by
  refine dg_len_bound ?_
  rw [Nat.pow_add]
  have h1 := val_lt h
  have h2 := Nat.lt_of_lt_of_le (val_lt h') (Nat.pow_le_pow_right (show 0 < 10 by decide) hm)
  exact Nat.mul_lt_mul'' h1 h2
theorem row_len {xs : List Nat} (h : Dig10 xs) {k y m : Nat} (hy : y < 10) (hk : k < m) : (dg (10 ^ k * (y * val xs))).length ≤ xs.length + m := by
  refine dg_len_bound ?_
  have h1 := val_lt h
  have h2 : y * val xs < 10 * 10 ^ xs.length := Nat.mul_lt_mul'' hy h1
  have h3 : 10 ^ k * (y * val xs) < 10 ^ k * (10 * 10 ^ xs.length) := Nat.mul_lt_mul_of_pos_left h2 (Nat.pow_pos (by decide))
  have h4 : 10 ^ k * (10 * 10 ^ xs.length) = 10 ^ (xs.length + (k + 1)) := by
    rw [Nat.pow_add 10 xs.length, Nat.pow_succ, ← Nat.mul_assoc, Nat.mul_comm (10 ^ k * 10)]
  have h5 : 10 ^ (xs.length + (k + 1)) ≤ 10 ^ (xs.length + m) := Nat.pow_le_pow_right (by decide) (by omega)
  omega
theorem times_step (X V P y : Nat) : X * V + P * (y * X) = X * (V + P * y) := by
  rw [Nat.mul_add, Nat.mul_left_comm P, Nat.mul_left_comm X, Nat.mul_comm X y, Nat.mul_left_comm P]
set_option maxRecDepth 100000 in
set_option maxHeartbeats 6400000 in
theorem times_any (A A' : Option Addr) (c c' : Nat) (xs ys : List Nat) (w : World) (B0 : Nat) (hB0 : B0 ≤ w.heap.size) (hr : RI w B0 A xs) (hr' : RI w B0 A' ys) (hc : xs.length ≤ c) (hc' : ys.length ≤ c') (hd : Dig10 xs) (hd' : Dig10 ys) (hm : xs.length ≤ 1000) (hm' : ys.length ≤ 1000) :
    Calls Try.prog 85 #[.slice A xs.length c, .slice A' ys.length c'] w fun e w' => (∃ v, e = .returned v ∧ OI w' w.heap.size v (dg (val xs * val ys))) ∧ Below w.heap.size w w' := by
  have HR := Lib.hid hr
  have HR' := Lib.hid hr'
  have HD := Lib.hid hd
  have HD' := Lib.hid hd'
  have HBB := Lib.hid hB0
  clear hr hr' hd hd' hB0
  go_enter Try.func85, Try.ntmps85
  go_upto_block 0 with fail
  go_cut [5, 6, 7, 8, 9, 10] (fun v _ _ _ _ _ wx => Hid (OI wx w.heap.size v (dg (val xs * val ys))) ∧ w.heap.size ≤ wx.heap.size ∧ Hid (Below w.heap.size w wx))
  case first =>
    go_wp2_with fail
    go_loopw [5, 6] (fun v i wr => ∃ (k : Nat), i = .int .i64 (k : Int) ∧ k ≤ ys.length ∧ Hid (OI wr w.heap.size v (dg (val xs * val (ys.take k)))) ∧ w.heap.size ≤ wr.heap.size ∧ Hid (Below w.heap.size w wr)) (fun _ i _ => ys.length - (intOf i).toNat)
    case atStart => exact ⟨0, rfl, Nat.zero_le _, Lib.hid (by simpa [val, dg_zero] using OI.nil _ _), Nat.le_refl _, Lib.hid (Below.refl _ _)⟩
    case round =>
      obtain ⟨k, rfl, hk, hO, hwr, hB⟩ := hrel
      obtain ⟨w1, rfl⟩ : ∃ w1, w1 = wr := ⟨_, rfl⟩
      by_cases h1 : k < ys.length
      · have hR'1 := HR'.out.below (hB.out.mono HBB.out)
        have hR1 := HR.out.below (hB.out.mono HBB.out)
        have HR1 := Lib.hid hR1
        obtain ⟨ad', rfl, hbk', hcell'⟩ := hR'1 (by omega)
        have hcl' := hcell' k h1
        obtain ⟨y, hy⟩ : ∃ y, y = ys.getD k 0 := ⟨_, rfl⟩
        have hy9 : y < 10 := by rw [hy]; exact getD_lt HD'.out k
        rw [← getD_at h1, ← hy] at hcl'
        have HY := Lib.hid hy
        have hbw : (ad'.add k).block < w1.heap.size := by rw [block_of_add]; exact Nat.lt_of_lt_of_le hbk' (Nat.le_trans HBB.out hwr)
        have HBW := Lib.hid hbw
        have HCL := Lib.hid hcl'
        clear hy hR'1 hR1 hcell' hbk' hbw hcl'
        go_upto_block 2 with fail
        go_cut [7, 8] from 11 to 60 (fun v2 _ wx => Hid (OI wx w1.heap.size v2 (List.replicate k 0)) ∧ w1.heap.size ≤ wx.heap.size ∧ Hid (Below w1.heap.size w1 wx))
        case first =>
          go_wp2_with fail
          go_loopw [7, 8] (fun v2 i wr => ∃ j : Nat, i = .int .i64 (j : Int) ∧ j ≤ k ∧ Hid (OI wr w1.heap.size v2 (List.replicate j 0)) ∧ w1.heap.size ≤ wr.heap.size ∧ Hid (Below w1.heap.size w1 wr)) (fun _ i _ => k - (intOf i).toNat)
          case atStart => exact ⟨0, rfl, Nat.zero_le _, Lib.hid (OI.nil _ _), Nat.le_refl _, Lib.hid (Below.refl _ _)⟩
          case round =>
            obtain ⟨j, rfl, hj, hO2, hwr2, hB2⟩ := hrel
            by_cases h2 : j < k
            · have hb1 : Below w1.heap.size w1 (wr.alloc (.cells (inums [0]) 3)) := by refine hB2.out.trans ?_; (repeat' (first | (with_reducible exact Below.refl _ _) | (refine Below.trans ?_ (Below.mono (by with_reducible assumption) ?_)) | (with_reducible exact Below.refl _ _) | (with_reducible refine below_drewN ?_ _) | (with_reducible refine Below.drew ?_) | (with_reducible refine Below.setCell ?_ ?_ _) | (with_reducible refine Below.alloc ?_ ?_ _) | (with_reducible assumption) | (simp; done) | (simp; omega) | omega))
              have HB1 := Lib.hid hb1
              have HO1 := Lib.hid (hO2.out.alloc (.cells (inums [0]) 3))
              clear hb1
              go_wp2_with (at_builtin; refine wpList_appI rfl (.tmp 22) (.tmp 23) rfl w1.heap.size (by simp; omega) _ (List.replicate j 0) rfl HO1.out (some ⟨wr.heap.size, 0, none⟩) 1 1 [0] _ rfl rfl (by intro e; cases e) (ri_row wr [0] _ _) (by simp; omega) ?_; intro v3 w5 ho5 hg5; have HB5 := Lib.hid (HO1.out.below hg5 HB1.out (Nat.le_refl _) (by simp; omega)); have hz5 : w1.heap.size ≤ w5.heap.size := Nat.le_trans (by simp; omega) hg5.size; have HO5 := Lib.hid ho5; clear ho5 hg5)
              go_roundw
              case rel => exact ⟨j + 1, by go_num, by omega, Lib.hid (by rw [List.replicate_succ']; exact HO5.out), hz5, HB5⟩
              case measure => simp [intOf]; omega
            · obtain rfl : j = k := by omega
              go_wp2_with fail
              go_meet
              exact ⟨hO2, hwr2, hB2⟩
        case rest =>
        obtain ⟨w2, rfl⟩ : ∃ w2, w2 = wc := ⟨_, rfl⟩
        obtain ⟨hO2, hw2, hB2⟩ := hcut
        go_upto_block 4 with fail
        go_cut [7, 9, 10] from 11 to 60 (fun v2 _ _ wx => ∃ R : List Nat, Hid (OI wx w1.heap.size v2 R) ∧ Hid (Dig10 R ∧ val R = 10 ^ k * (y * val xs)) ∧ R.length ≤ k + xs.length + 1 ∧ w1.heap.size ≤ wx.heap.size ∧ Hid (Below w1.heap.size w1 wx))
        case first =>
          go_wp2_with fail
          go_loopw [7, 9, 10] (fun v2 x i wr => ∃ (j q : Nat) (R : List Nat), i = .int .i64 (j : Int) ∧ j ≤ xs.length + 1 ∧ x = .int .i64 (q : Int) ∧ q ≤ 8 ∧ Hid (OI wr w1.heap.size v2 R) ∧ Hid (R.length = k + j ∧ Dig10 R ∧ val R + 10 ^ R.length * (q + y * val (xs.drop j)) = 10 ^ k * (y * val xs) ∧ (j = xs.length + 1 → q = 0)) ∧ w1.heap.size ≤ wr.heap.size ∧ Hid (Below w1.heap.size w1 wr)) (fun _ _ i _ => xs.length + 1 - (intOf i).toNat)
          case atStart => exact ⟨0, 0, _, rfl, Nat.zero_le _, rfl, Nat.zero_le _, hO2, Lib.hid ⟨by simp, Dig10.zeros k, by simp [val_zeros], fun _ => rfl⟩, hw2, hB2⟩
          case round =>
            obtain ⟨j, q, R, rfl, hj, rfl, hq, hO3, hR, hwr3, hB3⟩ := hrel
            have hcl2 := (Below.cell hB3.out HBW.out).trans HCL.out
            have hR1 := HR1.out.below (hB3.out.mono (Nat.le_trans HBB.out hwr))
            obtain ⟨x, hx⟩ : ∃ x, x = xs.getD j 0 := ⟨_, rfl⟩
            have hx9 : x < 10 := by rw [hx]; exact getD_lt HD.out j
            have hx0 : xs.length ≤ j → x = 0 := fun h => by rw [hx]; exact getD_no h
            obtain ⟨p, hp⟩ : ∃ p, p = x * y := ⟨_, rfl⟩
            have hp81 : p ≤ 81 := by
              have := Nat.mul_le_mul (show x ≤ 9 by omega) (show y ≤ 9 by omega)
              omega
            have hpi : (x : Int) * (y : Int) = (p : Int) := by rw [hp, Int.natCast_mul]
            have hp0 : xs.length ≤ j → p = 0 := fun h => by rw [hp, hx0 h, Nat.zero_mul]
            obtain ⟨r, hr⟩ : ∃ r, r = (q + p) % 10 := ⟨_, rfl⟩
            obtain ⟨q', hq'⟩ : ∃ q', q' = (q + p) / 10 := ⟨_, rfl⟩
            have hr2 : r < 10 := by omega
            have hq2 : q' ≤ 8 := by omega
            have hnew : (R ++ [r]).length = k + (j + 1) ∧ Dig10 (R ++ [r]) ∧ val (R ++ [r]) + 10 ^ (R ++ [r]).length * (q' + y * val (xs.drop (j + 1))) = 10 ^ k * (y * val xs) ∧ (j + 1 = xs.length + 1 → q' = 0) := by
              obtain ⟨l1, l2, l3, l4⟩ := hR.out
              refine ⟨by simp [l1]; omega, l2.app (Dig10.one hr2), step_gen l3 ?_, fun h => ?_⟩
              · rw [val_drop_step xs j, ← hx, Nat.mul_add, Nat.mul_left_comm y 10, Nat.mul_comm y x, ← hp, Nat.mul_add]; omega
              · have := hp0 (by omega); omega
            have HN := Lib.hid hnew
            have HRL := Lib.hid hR.out.1
            have hend := hR.out.2.2.2
            by_cases h3 : j < xs.length
            · obtain ⟨ad, rfl, hbk, hcell⟩ := hR1 (by omega)
              have hcl := hcell j h3
              rw [← getD_at h3, ← hx] at hcl
              have hr1 : ((q : Int) + (p : Int)) % 10 = (r : Int) := by omega
              have hq1 : ((q : Int) + (p : Int)) / 10 = (q' : Int) := by omega
              clear hr hq' hcell hbk hR1 hx0 hp0 hp hx hend hnew
              go_upto_region 15 with fail
              go_cut [9] from 25 to 56 (fun z wx => z = .int .i64 ((q : Int) + (p : Int)) ∧ wr.heap.size ≤ wx.heap.size ∧ Hid (Below wr.heap.size wr wx))
              case first =>
                go_quiet (fail)
                go_wp2_with fail
                go_meet
                exact ⟨rfl, by simp, Lib.hid (below_drewN (Below.refl _ _) _)⟩
              case rest =>
              obtain ⟨w3, rfl⟩ : ∃ w3, w3 = wc := ⟨_, rfl⟩
              obtain ⟨rfl, hz3, hB4⟩ := hcut
              have hb1 : Below w1.heap.size w1 (w3.alloc (.cells (inums [r]) 3)) := by refine hB3.out.trans ((hB4.out.mono hwr3).trans ?_); (repeat' (first | (with_reducible exact Below.refl _ _) | (refine Below.trans ?_ (Below.mono (by with_reducible assumption) ?_)) | (with_reducible exact Below.refl _ _) | (with_reducible refine below_drewN ?_ _) | (with_reducible refine Below.drew ?_) | (with_reducible refine Below.setCell ?_ ?_ _) | (with_reducible refine Below.alloc ?_ ?_ _) | (with_reducible assumption) | (simp; done) | (simp; omega) | omega))
              have HB1 := Lib.hid hb1
              have HO1 := Lib.hid ((hO3.out.next hB4.out).alloc (.cells (inums [r]) 3))
              clear hb1 hcl hcl2
              go_wp2_with (at_builtin; refine wpList_appI rfl (.tmp 50) (.tmp 53) rfl w1.heap.size (by simp; omega) _ R rfl HO1.out (some ⟨w3.heap.size, 0, none⟩) 1 1 [r] _ rfl rfl (by intro e; cases e) (ri_row w3 [r] _ _) (by have := HRL.out; simp; omega) ?_; intro v3 w5 ho5 hg5; have HB5 := Lib.hid (HO1.out.below hg5 HB1.out (Nat.le_refl _) (by simp; omega)); have hz5 : w1.heap.size ≤ w5.heap.size := Nat.le_trans (by simp; omega) hg5.size; have HO5 := Lib.hid ho5; clear ho5 hg5)
              go_roundw
              case rel => exact ⟨j + 1, q', R ++ [r], by go_num, by omega, (by first | rfl | exact congrArg (Value.int .i64) (by omega)), hq2, HO5, HN, hz5, HB5⟩
              case measure => simp [intOf]; omega
            · have hp1 := hp0 (by omega)
              by_cases hq0 : q = 0
              · subst hq0
                have hdone : val R = 10 ^ k * (y * val xs) := by
                  obtain ⟨l1, l2, l3, l4⟩ := hR.out
                  rw [List.drop_eq_nil_of_le (by omega)] at l3
                  simpa [val] using l3
                have HDN := Lib.hid hdone
                have HLL := Lib.hid (show R.length ≤ k + xs.length + 1 by have := HRL.out; omega)
                clear hr hq' hR1 hx0 hp0 hp hx hend hp1 hdone hnew hpi hcl2
                go_wp2_with fail
                go_meet
                exact ⟨R, hO3, Lib.hid ⟨hR.out.2.1, HDN.out⟩, HLL.out, hwr3, hB3⟩
              · have hq3 : (0 : Int) < (q : Int) := by omega
                have hr1 : (q : Int) % 10 = (r : Int) := by omega
                have hq1 : (q : Int) / 10 = (q' : Int) := by omega
                have hk1 : j + 1 ≤ xs.length + 1 := by
                  rcases Nat.lt_or_ge xs.length j with h | h
                  · exact absurd (hend (by omega)) hq0
                  · omega
                have hb1 : Below w1.heap.size w1 (wr.alloc (.cells (inums [r]) 3)) := by refine hB3.out.trans ?_; (repeat' (first | (with_reducible exact Below.refl _ _) | (refine Below.trans ?_ (Below.mono (by with_reducible assumption) ?_)) | (with_reducible exact Below.refl _ _) | (with_reducible refine below_drewN ?_ _) | (with_reducible refine Below.drew ?_) | (with_reducible refine Below.setCell ?_ ?_ _) | (with_reducible refine Below.alloc ?_ ?_ _) | (with_reducible assumption) | (simp; done) | (simp; omega) | omega))
                have HB1 := Lib.hid hb1
                have HO1 := Lib.hid (hO3.out.alloc (.cells (inums [r]) 3))
                clear hr hq' hR1 hx0 hp0 hp hx hend hp1 hq0 hb1 hnew hpi hcl2
                go_wp2_with (at_builtin; refine wpList_appI rfl (.tmp 50) (.tmp 53) rfl w1.heap.size (by simp; omega) _ R rfl HO1.out (some ⟨wr.heap.size, 0, none⟩) 1 1 [r] _ rfl rfl (by intro e; cases e) (ri_row wr [r] _ _) (by have := HRL.out; simp; omega) ?_; intro v3 w5 ho5 hg5; have HB5 := Lib.hid (HO1.out.below hg5 HB1.out (Nat.le_refl _) (by simp; omega)); have hz5 : w1.heap.size ≤ w5.heap.size := Nat.le_trans (by simp; omega) hg5.size; have HO5 := Lib.hid ho5; clear ho5 hg5)
                go_roundw
                case rel => exact ⟨j + 1, q', R ++ [r], by go_num, hk1, (by first | rfl | exact congrArg (Value.int .i64) (by omega)), hq2, HO5, HN, hz5, HB5⟩
                case measure => simp [intOf]; omega
        case rest =>
        obtain ⟨w3, rfl⟩ : ∃ w3, w3 = wc := ⟨_, rfl⟩
        obtain ⟨R, hO3, hR, hRl, hw3, hB3⟩ := hcut
        clear hO2 hw2 hB2
        obtain ⟨A3, c3, rfl, hc3, hri3, han3⟩ := hO3.out.slice
        have CU := rcut_any A3 c3 R w3 w3.heap.size (Nat.le_refl _) hri3 hc3 han3 hR.out.1 (by omega)
        rw [hR.out.2] at CU
        have HCU := Lib.hid CU
        obtain ⟨Ao, co, rfl, hco, hrio, hano⟩ := hO.out.slice
        have HRO := Lib.hid hrio
        have hln1 : (dg (val xs * val (ys.take k))).length ≤ xs.length + ys.length := times_len HD.out (HD'.out.take k) (by rw [List.length_take]; omega)
        have hln2 : (dg (10 ^ k * (y * val xs))).length ≤ xs.length + ys.length := row_len HD.out hy9 h1
        have hPL : ∀ W A2 c2, w1.heap.size ≤ W.heap.size → RI W W.heap.size Ao (dg (val xs * val (ys.take k))) → RI W W.heap.size A2 (dg (10 ^ k * (y * val xs))) → (dg (10 ^ k * (y * val xs))).length ≤ c2 →
            Calls Try.prog 98 #[.slice Ao (dg (val xs * val (ys.take k))).length co, .slice A2 (dg (10 ^ k * (y * val xs))).length c2] W fun e w' => (∃ v, e = .returned v ∧ OI w' W.heap.size v (dg (val xs * val (ys.take (k + 1))))) ∧ Below W.heap.size W w' := by
          intro W A2 c2 hW h1' h2' h3'
          have := plus_any Ao A2 co c2 _ _ (xs.length + ys.length) W W.heap.size (Nat.le_refl _) h1' h2' hco h3' (dg_dig _) (dg_dig _) hln1 hln2 (by omega)
          rw [val_dg, val_dg, show val xs * val (ys.take k) + 10 ^ k * (y * val xs) = val xs * val (ys.take (k + 1)) by rw [times_step, val_take_step, ← HY.out]] at this
          exact this
        have HPL := Lib.hid hPL
        obtain ⟨n1, hn1⟩ : ∃ n1, n1 = (dg (val xs * val (ys.take k))).length := ⟨_, rfl⟩
        rw [← hn1] at HPL ⊢
        have HO := hO
        clear CU hri3 han3 hrio hano hln1 hln2 hPL hn1 HCL HBW
        go_wp2_with (first
          | (go_at_call 58; refine (HCU.out).mono ?_; rintro e w4 ⟨⟨v4, rfl, ho4⟩, b4⟩; obtain ⟨A4, c4, rfl, hc4, hri4, han4⟩ := ho4.slice; have HB4 := Lib.hid (hB3.out.trans (b4.mono hw3)); have HR4 := Lib.hid hri4; have HC4 := Lib.hid hc4; have hz4 : w1.heap.size ≤ w4.heap.size := (by have := b4.size; omega); clear ho4 hri4 han4 b4 hc4)
          | (go_at_call 98; refine (HPL.out _ _ _ hz4 ((HRO.out.below HB4.out).more hz4) HR4.out HC4.out).mono ?_; rintro e w5 ⟨⟨v5, rfl, ho5⟩, b5⟩; have HO5 := Lib.hid (ho5.mono (Nat.le_trans hwr hz4)); have hz5 : w1.heap.size ≤ w5.heap.size := (by have := b5.size; omega); have HB5 := Lib.hid (HB4.out.trans (b5.mono hz4)); clear ho5 b5))
        go_roundw
        case rel => exact ⟨k + 1, by go_num, by omega, HO5, by omega, Lib.hid (hB.out.trans (HB5.out.mono hwr))⟩
        case measure => simp [intOf]; omega
      · obtain rfl : k = ys.length := by omega
        go_wp2_with fail
        go_meet
        exact ⟨Lib.hid (by have := hO.out; rwa [List.take_length] at this), hwr, hB⟩
  case rest =>
    obtain ⟨hO, hwr, hB⟩ := hcut
    obtain ⟨A2, c2, rfl, hc2, hri, han⟩ := hO.out.slice
    have hln1 : (dg (val xs * val ys)).length ≤ xs.length + ys.length := times_len HD.out HD'.out (Nat.le_refl _)
    have CU := rcut_any A2 c2 _ wc wc.heap.size (Nat.le_refl _) hri hc2 han (dg_dig _) (by omega)
    rw [val_dg] at CU
    have HCU := Lib.hid CU
    clear CU hri han hln1
    go_wp2_with (go_at_call 58; refine (HCU.out).mono ?_; rintro e w2 ⟨⟨v2, rfl, ho2⟩, b2⟩; have HO2 := Lib.hid ho2; have HB2 := Lib.hid b2; clear ho2 b2)
    go_ret
    exact ⟨⟨v2, rfl, HO2.out.mono hwr⟩, hB.out.trans (HB2.out.mono hwr)⟩
end Go.Proofs.Ytkhhjibpppmekaa
