/- fieldfarelaw02.NumeralBlanks: the walk. -/
import Derived.Test.YtdmifldjeiabdaaNumT
import Derived.Test.YtdmifldjeiabdaaNumR
import Derived.Laws.OwnMore
namespace Go.Proofs.Ytdmifldjeiabdaa
open Go.RowKit
theorem make_bytes (W : World) (n : Nat) (hn : n ≤ 100000) : ∃ w', (Instr.makeSlice 32 (.int .i64 (n : Int)) (.int .i64 (n : Int))).run Try.prog W = .ok (.slice (some ⟨W.heap.size, 0, none⟩) n n) w' ∧
    OB w' W.heap.size (.slice (some ⟨W.heap.size, 0, none⟩) n n) (List.replicate n 0) ∧ W.grownBy w' none := by
  obtain ⟨i0, hi, hz0, hz1, hz2⟩ := info_parts info_u8
  obtain ⟨w', h1, h2, h3⟩ := run_make_full (P := Try.prog) W W.heap.size 32 5 i0 (.int .u8 0) 1 Try.underlying32 hi hz0 hz1 .i64 .i64 n (by rw [hz2]; omega) (by unfold maxLen; omega) (Nat.le_refl _)
  refine ⟨w', h1, ⟨fun x hx => by rw [(List.mem_replicate.1 hx).2]; decide, ?_⟩, h3⟩
  have e : (madeCells (Value.int .u8 0).cells (n * 1)).toList = (List.replicate n 0).map bv := by
    rw [Nat.mul_one, List.map_replicate]
    exact toList_madeCells_one (.int .u8 0) n
  rw [e] at h2
  rw [List.length_replicate]; exact h2
theorem OB.stored {w : World} {base g n c : Nat} {bs : List Nat} (h : OB w base (.slice (some ⟨g, 0, none⟩) n c) bs) (hn : bs.length = n) (j x : Nat) (hx : x < 256) :
    OB (w.setCell ⟨g, j, none⟩ (.int .u8 (x : Int))) base (.slice (some ⟨g, 0, none⟩) n c) (bs.set j x) := by
  subst hn
  refine ⟨fun y hy => ?_, ?_⟩
  · rcases List.mem_or_eq_of_mem_set hy with hy | rfl
    · exact h.1 y hy
    · exact hx
  · have := (World.ownsRow.stored h.2 j (.int .u8 (x : Int))).1
    rw [List.length_set, List.map_set]; exact this
theorem set_step (k n : Nat) (h : k < n) : (List.replicate k 32 ++ List.replicate (n - k) 0).set k 32 = List.replicate (k + 1) 32 ++ List.replicate (n - (k + 1)) 0 := by
  rw [List.set_append_right _ _ (by simp)]
  obtain ⟨m, hm⟩ : ∃ m, n - k = m + 1 := ⟨n - k - 1, by omega⟩
  rw [hm, show n - (k + 1) = m by omega, List.replicate_succ, List.replicate_succ']
  simp
set_option maxRecDepth 100000 in
set_option maxHeartbeats 2000000 in
theorem blanks_law (A : Option Addr) (c : Nat) (bs : List Nat) (n : Int) (w : World) (hr : RB w w.heap.size A bs) (hc : bs.length ≤ c) (hA : A = none → bs = [] ∧ c = 0) (hn : 0 ≤ n ∧ n < 256) :
    Calls Try.prog 8 #[.slice A bs.length c, .int .u8 n] w fun e w' => e = .returned (.bool true) ∧ Below w.heap.size w w' := by
  obtain ⟨n, rfl⟩ := Int.eq_ofNat_of_zero_le hn.1
  have hn6 : n < 256 := by omega
  clear hn
  by_cases h200 : 200 < bs.length
  · clear hr hA
    go_enter Try.func8, Try.ntmps8
    go_wp2_with (go_at_call 18; refine (awake2_any _).mono ?_; rintro e w1 ⟨rfl, b1⟩)
    go_ret
    exact ⟨rfl, by (repeat' (first | (with_reducible exact Below.refl _ _) | (refine Below.trans ?_ (Below.mono (by with_reducible assumption) ?_)) | (with_reducible exact Below.refl _ _) | (with_reducible refine below_drewN ?_ _) | (with_reducible refine Below.drew ?_) | (with_reducible refine Below.setCell ?_ ?_ _) | (with_reducible refine Below.alloc ?_ ?_ _) | (with_reducible assumption) | (simp; done) | (simp; omega) | omega))⟩
  by_cases h50 : 50 < n
  · clear hr hA
    go_enter Try.func8, Try.ntmps8
    go_wp2_with (go_at_call 18; refine (awake2_any _).mono ?_; rintro e w1 ⟨rfl, b1⟩)
    go_ret
    exact ⟨rfl, by (repeat' (first | (with_reducible exact Below.refl _ _) | (refine Below.trans ?_ (Below.mono (by with_reducible assumption) ?_)) | (with_reducible exact Below.refl _ _) | (with_reducible refine below_drewN ?_ _) | (with_reducible refine Below.drew ?_) | (with_reducible refine Below.setCell ?_ ?_ _) | (with_reducible refine Below.alloc ?_ ?_ _) | (with_reducible assumption) | (simp; done) | (simp; omega) | omega))⟩
  have hm : bs.length ≤ 140737488351232 := by omega
  have HR := Lib.hid hr
  have HA := Lib.hid hA
  have pq := fun W B0 (hB : B0 ≤ W.heap.size) h => prefix_q A c bs W B0 hB h hc hm
  have px := fun W B0 A' c' (hB : B0 ≤ W.heap.size) h hc' => prefix_q A' c' (sp n ++ bs) W B0 hB h hc' (by simp [sp]; omega)
  have hsh := (shift_sp n bs).q
  have LK := Lib.hid (fun W B0 (hB : B0 ≤ W.heap.size) h => looks_any A c bs W B0 hB h hc hm)
  have ly := fun W B0 A' c' (hB : B0 ≤ W.heap.size) h hc' => looks_any A' c' ([] ++ bs ++ [32]) W B0 hB h hc' (by simp; omega)
  rw [List.nil_append, looks_snoc] at ly
  rw [hsh.1, hsh.2.1, hsh.2.2.1, hsh.2.2.2] at px
  have e1 : (sp n ++ bs).length = n + bs.length := by simp [sp]
  have e2 : (bs ++ [32]).length = bs.length + 1 := by simp
  rw [e1] at px
  rw [e2] at ly
  obtain ⟨P, hP⟩ : ∃ P, P = pP bs := ⟨_, rfl⟩
  obtain ⟨X, hX⟩ : ∃ X, X = mh (pM bs) := ⟨_, rfl⟩
  obtain ⟨Y, hY⟩ : ∃ Y, Y = ml (pM bs) := ⟨_, rfl⟩
  obtain ⟨k, hk⟩ : ∃ k, k = nP bs := ⟨_, rfl⟩
  have hkl := nP_le bs
  obtain ⟨o, ho⟩ : ∃ o, o = pOver bs := ⟨_, rfl⟩
  obtain ⟨Lb, hL⟩ : ∃ Lb, Lb = looksB bs := ⟨_, rfl⟩
  rw [← hP, ← hX, ← hY, ← hk, ← ho] at pq px
  rw [← hL] at LK ly
  rw [← hk] at hkl
  have co := fun W => code_errV o W
  obtain ⟨E, hE⟩ : ∃ E : Int, E = if o then 2 else 0 := ⟨_, rfl⟩
  obtain ⟨V, hV⟩ : ∃ V, V = errV o := ⟨_, rfl⟩
  rw [← hE, ← hV] at co
  rw [← hV] at pq px
  have CO := Lib.hid co; have PQ := Lib.hid pq; have PX := Lib.hid px; have LY := Lib.hid ly
  clear hP hX hY hk ho hL hE hV co hsh e1 e2 hr hA pq px ly
  go_enter Try.func8, Try.ntmps8
  go_upto_region 5 with (go_at_call 18; refine (awake2_any _).mono ?_; rintro e w1 ⟨rfl, b1⟩; have hs_b1 := Below.size b1; (try simp at hs_b1))
  obtain ⟨w2, hmk, ho2, hg2⟩ := make_bytes w1 n (by omega)
  have HB2 := Lib.hid (b1.grown hg2 hs_b1 (fun k hk => by cases hk))
  have HO2 := Lib.hid ho2
  obtain ⟨g, hgg⟩ : ∃ g, g = w1.heap.size := ⟨_, rfl⟩
  rw [← hgg] at hmk ho2 HO2 hs_b1
  have hz2 := (ho2.block g rfl).2
  clear ho2 hg2 b1 hgg
  go_upto_block 0 with fail
  clear hmk
  go_cut [6] from 25 to 33 (fun _ wx => OB wx g (.slice (some ⟨g, 0, none⟩) n n) (sp n) ∧ Below w.heap.size w wx)
  case first =>
    go_wp2_with fail
    go_loopw [6] (fun i wr => ∃ j : Nat, j ≤ n ∧ i = .int .i64 (j : Int) ∧ Hid (OB wr g (.slice (some ⟨g, 0, none⟩) n n) (List.replicate j 32 ++ List.replicate (n - j) 0)) ∧ Hid (Below w.heap.size w wr)) (fun i _ => n - (intOf i).toNat)
    case atStart => exact ⟨0, by omega, rfl, by simpa using HO2, HB2⟩
    case round =>
      obtain ⟨j, hj, rfl, hO, hB⟩ := hrel
      by_cases hlt : j < n
      · have hst := hO.out.stored (by simp; omega) j 32 (by decide)
        rw [set_step j n hlt] at hst
        have hob := hO.out.2
        have hln : (List.replicate j 32 ++ List.replicate (n - j) 0 : List Nat).length = n := by simp; omega
        rw [hln] at hob
        have hcl := hob.cellAt j (by omega)
        have hfr := hob.frozenAt j
        rw [List.getElem?_map, List.getElem?_append_right (by simp), List.length_replicate, Nat.sub_self, List.getElem?_replicate, if_pos (by omega)] at hcl
        simp only [Option.map_some] at hcl
        have hzr := (hO.out.block g rfl).2
        have HST := Lib.hid hst
        clear hst hob hln
        go_wp2_with fail
        go_roundw
        case rel => exact ⟨j + 1, by omega, by go_num, HST, Lib.hid (hB.out.setCell (by simp; omega) _)⟩
        case measure => simp [intOf]; omega
      · obtain rfl : j = n := by omega
        go_wp2_with fail
        go_meet
        exact ⟨by have := hO.out; simpa [sp] using this, hB.out⟩
  case rest =>
  obtain ⟨hO, hB⟩ := hcut
  have HO := Lib.hid hO; have HB := Lib.hid hB
  have hzc := (hO.block g rfl).2
  have HR3 := Lib.hid (HR.out.below hB)
  have hzw : w.heap.size ≤ wc.heap.size := by omega
  clear hO hB HO2 HB2 hz2
  go_upto_region 11 with (go_at_call 22; refine (PQ.out _ _ hzw HR3.out).mono ?_; rintro e w4 ⟨rfl, b4⟩; have hs_b4 := Below.size b4; (try simp at hs_b4))
  have hq5 : Below wc.heap.size wc (w4.alloc (.cells #[.bool P, .int .u64 X, .int .u64 Y] 24)) := by (repeat' (first | (with_reducible exact Below.refl _ _) | (refine Below.trans ?_ (Below.mono (by with_reducible assumption) ?_)) | (with_reducible exact Below.refl _ _) | (with_reducible refine below_drewN ?_ _) | (with_reducible refine Below.drew ?_) | (with_reducible refine Below.setCell ?_ ?_ _) | (with_reducible refine Below.alloc ?_ ?_ _) | (with_reducible assumption) | (simp; done) | (simp; omega) | omega))
  have ho5 := HO.out.next hq5
  have hb5 := HB.out.trans (hq5.mono hzw)
  obtain ⟨W5, hW5⟩ : ∃ W5, W5 = w4.alloc (.cells #[.bool P, .int .u64 X, .int .u64 Y] 24) := ⟨_, rfl⟩
  obtain ⟨ga, hga⟩ : ∃ ga, ga = w4.heap.size := ⟨_, rfl⟩
  have p0 : W5.cell? ⟨ga, 0, none⟩ = some (.bool P) := by rw [hW5, hga]; simp
  have p1 : W5.cell? ⟨ga, 1, none⟩ = some (.int .u64 X) := by rw [hW5, hga]; simp
  have p2 : W5.cell? ⟨ga, 2, none⟩ = some (.int .u64 Y) := by rw [hW5, hga]; simp
  have pz : ga < W5.heap.size := by rw [hW5, hga]; simp
  have pw : w.heap.size ≤ W5.heap.size := by rw [hW5]; simp; omega
  have pg : g < ga := by omega
  rw [← hW5] at ho5 hb5
  rw [← hW5, ← hga]
  have HO5 := Lib.hid ho5; have HB5 := Lib.hid hb5; have HR5 := Lib.hid (HR.out.below hb5)
  clear hW5 hga ho5 hb5 hq5 b4 hs_b4 HO HB HR3
  have hspl : (sp n).length = n := by simp [sp]
  have HSPL := Lib.hid hspl; clear hspl
  have hne : some (⟨ga, 0, none⟩ : Addr).block ≠ (Value.slice (some ⟨g, 0, none⟩) n n).ownBlock := by
    show some ga ≠ some g
    intro e; cases e; omega
  have HNE := Lib.hid hne; clear hne
  go_upto_region 12 with (first
    | (at_builtin; refine wpList_appB rfl (.tmp 41) (.tmp 42) rfl g (by omega) _ (sp n) rfl HO5.out A bs.length c bs w.heap.size rfl rfl HA.out HR5.out (by have := HSPL.out; omega) ?_; intro v6 w6 ho6 hg6; have HB6 := Lib.hid (HO5.out.below hg6 HB5.out (by omega) pw); have hz6 : W5.heap.size ≤ w6.heap.size := hg6.size; have q0 := hg6.cell p0 HNE.out; have q1 := hg6.cell p1 HNE.out; have q2 := hg6.cell p2 HNE.out; obtain ⟨A6, c6, rfl, hc6, hr6, hn6⟩ := ho6.slice; have HR6 := Lib.hid hr6; clear ho6 hg6 hr6 hn6; rw [List.length_append, HSPL.out] at hc6; rw [List.length_append, HSPL.out])
    | (go_at_call 22; refine (PX.out w6 w6.heap.size A6 c6 (Nat.le_refl _) HR6.out hc6).mono ?_; rintro e w7 ⟨rfl, b7⟩; have HB7 := Lib.hid b7; have hs7 := b7.size; have r0 := (b7.cell (p := ⟨ga, 0, none⟩) (by simp; omega)).trans q0; have r1 := (b7.cell (p := ⟨ga, 1, none⟩) (by simp; omega)).trans q1; have r2 := (b7.cell (p := ⟨ga, 2, none⟩) (by simp; omega)).trans q2; clear b7))
  have hq8 : Below w6.heap.size w6 (w7.alloc (.cells #[.bool P, .int .u64 X, .int .u64 Y] 24)) := HB7.out.alloc hs7 _
  have hb8 := HB6.out.trans (hq8.mono (by omega))
  obtain ⟨W8, hW8⟩ : ∃ W8, W8 = w7.alloc (.cells #[.bool P, .int .u64 X, .int .u64 Y] 24) := ⟨_, rfl⟩
  obtain ⟨gb, hgb⟩ : ∃ gb, gb = w7.heap.size := ⟨_, rfl⟩
  have s0 : W8.cell? ⟨ga, 0, none⟩ = some (.bool P) := by rw [hW8, World.cell?_alloc_lt _ _ _ (by simp; omega)]; exact r0
  have s1 : W8.cell? ⟨ga, 1, none⟩ = some (.int .u64 X) := by rw [hW8, World.cell?_alloc_lt _ _ _ (by simp; omega)]; exact r1
  have s2 : W8.cell? ⟨ga, 2, none⟩ = some (.int .u64 Y) := by rw [hW8, World.cell?_alloc_lt _ _ _ (by simp; omega)]; exact r2
  have t0 : W8.cell? ⟨gb, 0, none⟩ = some (.bool P) := by rw [hW8, hgb]; simp
  have t1 : W8.cell? ⟨gb, 1, none⟩ = some (.int .u64 X) := by rw [hW8, hgb]; simp
  have t2 : W8.cell? ⟨gb, 2, none⟩ = some (.int .u64 Y) := by rw [hW8, hgb]; simp
  have zw8 : w.heap.size ≤ W8.heap.size := by rw [hW8]; simp; omega
  rw [← hW8] at hb8
  rw [← hW8, ← hgb]
  have HB8 := Lib.hid hb8; have HR8 := Lib.hid (HR.out.below hb8)
  clear hW8 hgb hq8 hb8 r0 r1 r2 q0 q1 q2 p0 p1 p2 pz pw pg hs7 hz6 HB7 HB6 HR6 hc6 HO5 HB5 HR5 HNE HSPL PX PQ
  obtain ⟨m, hm2⟩ : ∃ m, m = (if k = 0 then 0 else k + n) := ⟨_, rfl⟩
  rw [← hm2]
  have hmm : (k = 0 ∧ m = 0) ∨ (1 ≤ k ∧ m = k + n) := by
    rw [hm2]; split
    · left; omega
    · right; omega
  clear hm2
  rcases hmm with ⟨rfl, rfl⟩ | ⟨hk1, rfl⟩
  all_goals
    (try have hk0 : ((k : Int) == 0) = false := by rw [beq_eq_false_iff_ne]; omega)
    go_wp2_with (first
      | (go_at_call 28; refine (CO.out _).mono ?_; rintro e w' ⟨rfl, rfl⟩)
      | (go_at_call 23; (with_reducible refine (LK.out W8 _ zw8 HR8.out).mono ?_); rintro e w9 ⟨rfl, b9⟩; have hs9 := b9.size; have hb9 := HB8.out.trans (b9.mono zw8); have hb10 : Below w.heap.size w (w9.alloc (.cells (nums []) 5)) := (hb9.alloc (by omega) _); have HB10 := Lib.hid hb10; have HR10 := Lib.hid (HR.out.below hb10); have HO10 := Lib.hid (OB.lit w9 [] (base := w9.heap.size) (by decide) (Nat.le_refl _) (by decide)); clear b9 hb9 hb10)
      | (at_builtin; refine wpList_appBw (by simp [Region.wanted, yielded]) (.tmp 81) (.tmp 82) rfl w9.heap.size (by simp) _ [] rfl HO10.out A bs.length c bs w.heap.size rfl rfl HA.out HR10.out (by simp; omega) ?_; intro v11 w11 ho11 hg11; have hz11 : w9.heap.size + 1 ≤ w11.heap.size := Nat.le_trans (by simp) hg11.size; have HB11 := Lib.hid (HO10.out.below hg11 HB10.out (by omega) (by simp; omega)); have HO11 := Lib.hid ho11; have hb12 : Below w.heap.size w (w11.alloc (.cells (nums [32]) 5)) := (HB11.out.alloc (by omega) _); have HB12 := Lib.hid hb12; clear ho11 hg11 hb12)
      | (at_builtin; refine wpList_appBw (by simp [Region.wanted, yielded]) (.tmp 83) (.tmp 84) rfl w9.heap.size (by simp; omega) v11 ([] ++ bs) rfl (HO11.out.alloc _) (some ⟨w11.heap.size, 0, none⟩) 1 1 [32] (w11.heap.size + 1) rfl rfl (by intro e; cases e) (rb_row w11 [32] (by decide) _ _) (by simp; omega) ?_; intro v13 w13 ho13 hg13; have HB13 := Lib.hid ((HO11.out.alloc (.cells (nums [32]) 5)).below hg13 HB12.out (by omega) (by simp; omega)); obtain ⟨A13, c13, rfl, hc13, hr13, hn13⟩ := ho13.slice; have HR13 := Lib.hid (show RB w13 w13.heap.size A13 (bs ++ [32]) from hr13); clear ho13 hg13 hr13 hn13; rw [List.nil_append, List.length_append, List.length_singleton] at hc13; rw [List.nil_append, List.length_append, List.length_singleton])
      | (go_at_call 23; (with_reducible refine (LY.out w13 w13.heap.size A13 c13 (Nat.le_refl _) (by exact HR13.out) hc13).mono ?_); rintro e w14 ⟨rfl, b14⟩; have HB14 := Lib.hid b14; clear b14))
    go_ret
    exact ⟨by simp, HB13.out.trans (HB14.out.mono HB13.out.size)⟩
end Go.Proofs.Ytdmifldjeiabdaa
