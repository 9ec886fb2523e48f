/- Several texts put together: FwhD. -/
import Derived.Test.YtpkooogfefkcdaaDoorBu19
import Derived.Test.YtpkooogfefkcdaaDoorBu21
/- fieldfarelaw08.FormatWholes: the walk. -/
namespace Go.Proofs.YtpkooogfefkcdaaDoor
open Go.RowKit
/-- Five texts in a row, and what is elder. -/
structure Sl5 (w0 w : World) (g : Nat) (s0 s1 s2 s3 s4 : List Nat) : Prop where
  c0 : w.cell? ⟨g, 0, none⟩ = some (.string (strN s0))
  c1 : w.cell? ⟨g, 1, none⟩ = some (.string (strN s1))
  c2 : w.cell? ⟨g, 2, none⟩ = some (.string (strN s2))
  c3 : w.cell? ⟨g, 3, none⟩ = some (.string (strN s3))
  c4 : w.cell? ⟨g, 4, none⟩ = some (.string (strN s4))
  z : g < w.heap.size
  bl : Below w0.heap.size w0 w
theorem Sl5.next {w0 w w' : World} {g : Nat} {s0 s1 s2 s3 s4 : List Nat} (h : Sl5 w0 w g s0 s1 s2 s3 s4) (q : Below w.heap.size w w') : Sl5 w0 w' g s0 s1 s2 s3 s4 :=
  ⟨(q.cell h.z).trans h.c0, (q.cell h.z).trans h.c1, (q.cell h.z).trans h.c2, (q.cell h.z).trans h.c3, (q.cell h.z).trans h.c4, Nat.lt_of_lt_of_le h.z q.size, h.bl.trans (q.mono h.bl.size)⟩
theorem ot5 {w0 w : World} {base : Nat} {v : Value} {a b c d e : List Nat} (h : OT w base v [a, b, c, d, e]) (q : Below w0.heap.size w0 w) : ∃ g cap, v = .slice (some ⟨g, 0, none⟩) 5 cap ∧ 5 ≤ cap ∧ Sl5 w0 w g a b c d e := by
  obtain ⟨hl, h | ⟨g, cap, cur, hv, hg, hh, hn, hm, hs, ht⟩⟩ := h
  · obtain ⟨_, h0⟩ := h; simp at h0
  · have hlt : g < w.heap.size := by
      rcases Nat.lt_or_ge g w.heap.size with h | h
      · exact h
      · rw [Array.getElem?_eq_none h] at hh; cases hh
    have key : ∀ j, j < 5 → w.cell? ⟨g, j, none⟩ = ([a, b, c, d, e].map sv)[j]? := fun j hj => by
      rw [cell_of_row w g j cur 9 (0, 0) hh]
      have : (cur.toList.take ([a, b, c, d, e].length * 1))[j]? = ([a, b, c, d, e].map sv)[j]? := by rw [ht]
      rw [List.getElem?_take, if_pos (by simp; omega)] at this
      rw [← this]; simp
    exact ⟨g, cap, hv, hn, key 0 (by omega), key 1 (by omega), key 2 (by omega), key 3 (by omega), key 4 (by omega), hlt, q⟩
theorem blk_new' (X : World) (t : TypeId) (cs : Array Value) (g : Nat) (hg : g = X.heap.size) : Blk (X.alloc (.cells cs t)) g t cs := by subst hg; exact Blk.new _ _ _
set_option maxRecDepth 100000 in
set_option maxHeartbeats 6400000 in
theorem wholes_law (n : Int) (w : World) (hn : -9223372036854775808 ≤ n ∧ n < 9223372036854775808) (ht : TzOk w) :
    Calls Tryd.prog 5 #[.int .i64 n] w fun e w' => e = .returned (.bool true) ∧ Below w.heap.size w w' := by
  obtain ⟨hn0, hn1⟩ := hn
  have HI := Lib.hid (fun W => int_any n hn0 hn1 W)
  have hlim : (n * 1000000).natAbs < LIM := by unfold LIM; omega
  have hmk := wh_make (a := numA (n * 1000000) true) (z := n * 1000000) (n := n) rfl (Int.mul_tdiv_cancel _ (by decide)) (whole_mill n ⟨hn0, hn1⟩)
  have HM := Lib.hid (fun (g : Nat) (W : World) (hb : Blk W g 37 #[.string { data := #[] }, .bool (zn (n * 1000000)), .int .u64 (zh (n * 1000000)), .int .u64 (zl (n * 1000000)), .bool true, .string { data := #[] }, .bool (zn (n * 1000000)), .int .u64 (zh (n * 1000000)), .int .u64 (zl (n * 1000000)), .bool true, .string { data := #[] }, .bool (zn (n * 1000000)), .int .u64 (zh (n * 1000000)), .int .u64 (zl (n * 1000000)), .bool true, .string { data := #[] }, .bool (zn (n * 1000000)), .int .u64 (zh (n * 1000000)), .int .u64 (zl (n * 1000000)), .bool true, .string { data := #[] }, .bool (zn (n * 1000000)), .int .u64 (zh (n * 1000000)), .int .u64 (zl (n * 1000000)), .bool true]) (h : TzOk W) => make_blk (P := whP) (by decide) (by decide) (args := [numA (n * 1000000) true, numA (n * 1000000) true, numA (n * 1000000) true, numA (n * 1000000) true, numA (n * 1000000) true]) (by
      intro a ha
      simp only [List.mem_cons, List.not_mem_nil, or_false, or_self] at ha
      subst ha
      exact numA_ok hlim _) hmk (S := { data := #[37, 100, 32, 37, 105, 32, 37, 120, 32, 37, 111, 32, 37, 88] }) (by decide) rfl (by rfl) (n := 5) rfl g W hb h)
  have HPT := Lib.hid (fun W => parts_any (whT n) (whT_byte n) (by have := whT_len n; omega) W)
  rw [whT_parts] at HPT
  have HV16 := Lib.hid (fun (up : Bool) (W : World) => value_any 16 (by decide) (by decide) (whX up n) (whX_val up n).2 (by have := baseF_len up 16 16 (u64F n); unfold whX; omega) (by rw [(whX_val up n).1]; exact u64F_lt n) W)
  have HV8 := Lib.hid (fun (W : World) => value_any 8 (by decide) (by decide) (whO n) (whO_val n).2 (by have := baseF_len false 8 22 (u64F n); unfold whO; omega) (by rw [(whO_val n).1]; exact u64F_lt n) W)
  have e16 : ∀ up, natV 16 (whX up n) = u64F n := fun up => (whX_val up n).1
  have e8 : natV 8 (whO n) = u64F n := (whO_val n).1
  simp only [e16] at HV16
  rw [e8] at HV8
  have huw := u64F_eq n
  have HHX := Lib.hid (And.intro hn0 hn1)
  have HT := Lib.hid ht
  have HD := Lib.hid (rfl : whD n = whD n)
  clear hlim hmk e16 e8 ht HD
  have HVX : Hid (∀ W, Calls Tryd.prog 13 #[.string (strN (whX false n)), .int .u64 16] W fun e w' => e = .returned (.int .u64 (u64F n : Int)) ∧ w' = W) := Lib.hid (HV16.out false)
  have HVU : Hid (∀ W, Calls Tryd.prog 13 #[.string (strN (whX true n)), .int .u64 16] W fun e w' => e = .returned (.int .u64 (u64F n : Int)) ∧ w' = W) := Lib.hid (HV16.out true)
  have HV8 : Hid (∀ W, Calls Tryd.prog 13 #[.string (strN (whO n)), .int .u64 8] W fun e w' => e = .returned (.int .u64 (u64F n : Int)) ∧ w' = W) := HV8
  have hTl := whT_len n
  have hTs := strN_size (whT n)
  clear HV16
  generalize whT n = T at *
  generalize whX false n = X1 at *
  generalize whX true n = X2 at *
  generalize whO n = O1 at *
  go_enter Tryd.func5, Tryd.ntmps5
  go_upto_region 8 with (first
    | (go_at_call 7; (with_reducible refine (awake8_any _ HT.out).mono ?_); rintro e w1 ⟨rfl, b1⟩; have HT1 := Lib.hid (HT.out.below b1); have HB1 := Lib.hid b1; clear b1)
    | (go_at_call 11; (with_reducible refine (HI.out _).mono ?_); rintro e w2 ⟨rfl, b2⟩; have HT2 := Lib.hid (HT1.out.below b2); have HB2 := Lib.hid (below_step HB1.out b2); clear b2)
    | (go_at_call 10; (with_reducible refine (HM.out _ _ (blk_new' _ _ _ _ (by simp)) (HT2.out.below (((Below.refl _ _).alloc (Nat.le_refl _) _).alloc (by simp) _))).mono ?_); rintro e w3 ⟨rfl, b3⟩; have HB3 := Lib.hid (((HB2.out.alloc (by have := HB2.out.size; omega) _).alloc (by have := HB2.out.size; simp; omega) _).trans (b3.mono (by have := HB2.out.size; simp; omega))); clear b3)
    | (go_at_call 12; (with_reducible refine (HPT.out _).mono ?_); rintro e w4 ⟨⟨v, rfl, ho⟩, b4⟩; have HB4 := Lib.hid (below_step HB3.out b4); obtain ⟨g, cap, rfl, hcap, hs5⟩ := ot5 ho HB4.out; have HS5 := Lib.hid hs5; clear ho b4 hs5)
    | fail)
  have HVE : Hid (∀ W, Calls Tryd.prog 13 #[.string (strN (digs 31 n.natAbs [])), .int .u64 10] W fun e w' => e = .returned (.int .u64 (n.natAbs : Int)) ∧ w' = W) := Lib.hid fun W => by
    have hv := digs_natV n.natAbs (by omega)
    have h := value_any 10 (by decide) (by decide) (digs 31 n.natAbs []) (fun x hx => .inl (digits_dig 31 n.natAbs x hx)) (by have := digs_len 31 n.natAbs []; simp only [List.length_nil] at this; omega) (by rw [hv]; omega) W
    rw [hv] at h
    exact h
  have hEp : 0 < (digs 31 n.natAbs []).length := digs_pos 30 _ _
  have HD := Lib.hid (whD_no n)
  have hDl := whD_len n
  have HDE := Lib.hid (show whD n = (if n < 0 then [45] else []) ++ digs 31 n.natAbs [] from rfl)
  have hDs := strN_size (whD n)
  clear HM HPT HI HT HT1 HT2 HB1 HB2 HB3
  generalize whD n = D at *
  generalize hN : u64F n = N at huw HVX HV8 HVU
  refine wp_region_held_drew (S := (fun w' => Sl5 w w' g D D X1 O1 X2)) (by kernel_rfl) ?_ (fun hHeld => ?_)
  · (try dsimp only)
    (first | exact HS5.out.next (Below.refl _ _).drew | (with_reducible assumption) | (refine Sl5.next (by with_reducible assumption) ?_; repeat' (first | with_reducible exact Below.refl _ _ | with_reducible refine Below.drew ?_ | with_reducible refine below_drewN ?_ _)))
  refine h4_take (i := 0) (v := ?v0) rfl (by kernel_rfl) (by kernel_rfl) (by kernel_rfl) (fun _ _ _ h => h) (by rfl) ?y0 hHeld ?r0
  case y0 => (intro wS hSw; obtain ⟨k0, k1, k2, k3, k4, kz, _⟩ := hSw; go_simp; (try with_reducible rfl))
  try simp only [Act.put, List.setIfInBounds_toArray, List.set_cons_zero, List.set_cons_succ]
  refine h4_take (i := 1) (v := ?v1) rfl (by kernel_rfl) (by kernel_rfl) (by kernel_rfl) (fun _ _ _ h => h) (by rfl) ?y1 hHeld ?r1
  case y1 => (intro wS hSw; obtain ⟨k0, k1, k2, k3, k4, kz, _⟩ := hSw; go_simp; (try with_reducible rfl))
  try simp only [Act.put, List.setIfInBounds_toArray, List.set_cons_zero, List.set_cons_succ]
  refine h4_take (i := 2) (v := ?v2) rfl (by kernel_rfl) (by kernel_rfl) (by kernel_rfl) (fun _ _ _ h => h) (by rfl) ?y2 hHeld ?r2
  case y2 => (intro wS hSw; obtain ⟨k0, k1, k2, k3, k4, kz, _⟩ := hSw; go_simp; (try with_reducible rfl))
  try simp only [Act.put, List.setIfInBounds_toArray, List.set_cons_zero, List.set_cons_succ]
  refine h4_take (i := 3) (v := ?v3) rfl (by kernel_rfl) (by kernel_rfl) (by kernel_rfl) (fun _ _ _ h => h) (by rfl) ?y3 hHeld ?r3
  case y3 => (intro wS hSw; obtain ⟨k0, k1, k2, k3, k4, kz, _⟩ := hSw; go_simp; (try with_reducible rfl))
  try simp only [Act.put, List.setIfInBounds_toArray, List.set_cons_zero, List.set_cons_succ]
  refine h4_take (i := 4) (v := ?v4) rfl (by kernel_rfl) (by kernel_rfl) (by kernel_rfl) (fun _ _ _ h => h) (by rfl) ?y4 hHeld ?r4
  case y4 => (intro wS hSw; obtain ⟨k0, k1, k2, k3, k4, kz, _⟩ := hSw; go_simp; (try with_reducible rfl))
  try simp only [Act.put, List.setIfInBounds_toArray, List.set_cons_zero, List.set_cons_succ]
  refine h4_take (i := 5) (v := ?v5) rfl (by kernel_rfl) (by kernel_rfl) (by kernel_rfl) (fun _ _ _ h => h) (by rfl) ?y5 hHeld ?r5
  case y5 => (intro wS hSw; obtain ⟨k0, k1, k2, k3, k4, kz, _⟩ := hSw; go_simp; (try with_reducible rfl))
  try simp only [Act.put, List.setIfInBounds_toArray, List.set_cons_zero, List.set_cons_succ]
  refine h4_take (i := 6) (v := ?v6) rfl (by kernel_rfl) (by kernel_rfl) (by kernel_rfl) (fun _ _ _ h => h) (by rfl) ?y6 hHeld ?r6
  case y6 => (intro wS hSw; obtain ⟨k0, k1, k2, k3, k4, kz, _⟩ := hSw; go_simp; (try with_reducible rfl))
  try simp only [Act.put, List.setIfInBounds_toArray, List.set_cons_zero, List.set_cons_succ]
  refine h4_take (i := 7) (v := ?v7) rfl (by kernel_rfl) (by kernel_rfl) (by kernel_rfl) (fun _ _ _ h => h) (by rfl) ?y7 hHeld ?r7
  case y7 => (intro wS hSw; obtain ⟨k0, k1, k2, k3, k4, kz, _⟩ := hSw; go_simp; (try with_reducible rfl))
  try simp only [Act.put, List.setIfInBounds_toArray, List.set_cons_zero, List.set_cons_succ]
  refine h4_take (i := 8) (v := ?v8) rfl (by kernel_rfl) (by kernel_rfl) (by kernel_rfl) (fun _ _ _ h => h) (by rfl) ?y8 hHeld ?r8
  case y8 => (intro wS hSw; obtain ⟨k0, k1, k2, k3, k4, kz, _⟩ := hSw; go_simp; (try with_reducible rfl))
  try simp only [Act.put, List.setIfInBounds_toArray, List.set_cons_zero, List.set_cons_succ]
  refine h4_take (i := 9) (v := ?v9) rfl (by kernel_rfl) (by kernel_rfl) (by kernel_rfl) (fun _ _ _ h => h) (by rfl) ?y9 hHeld ?r9
  case y9 => (intro wS hSw; obtain ⟨k0, k1, k2, k3, k4, kz, _⟩ := hSw; go_simp; (try with_reducible rfl))
  try simp only [Act.put, List.setIfInBounds_toArray, List.set_cons_zero, List.set_cons_succ]
  refine h4_take (i := 10) (v := ?v10) rfl (by kernel_rfl) (by kernel_rfl) (by kernel_rfl) (fun _ _ _ h => h) (by rfl) ?y10 hHeld ?r10
  case y10 => (intro wS hSw; obtain ⟨k0, k1, k2, k3, k4, kz, _⟩ := hSw; go_simp; (try with_reducible rfl))
  try simp only [Act.put, List.setIfInBounds_toArray, List.set_cons_zero, List.set_cons_succ]
  refine h4_take (i := 11) (v := ?v11) rfl (by kernel_rfl) (by kernel_rfl) (by kernel_rfl) (fun _ _ _ h => h) (by rfl) ?y11 hHeld ?r11
  case y11 => (intro wS hSw; obtain ⟨k0, k1, k2, k3, k4, kz, _⟩ := hSw; go_simp; (try with_reducible rfl))
  try simp only [Act.put, List.setIfInBounds_toArray, List.set_cons_zero, List.set_cons_succ]
  refine h4_take (i := 12) (v := ?v12) rfl (by kernel_rfl) (by kernel_rfl) (by kernel_rfl) (fun _ _ _ h => h) (by rfl) ?y12 hHeld ?r12
  case y12 => (intro wS hSw; obtain ⟨k0, k1, k2, k3, k4, kz, _⟩ := hSw; go_simp; (try with_reducible rfl))
  try simp only [Act.put, List.setIfInBounds_toArray, List.set_cons_zero, List.set_cons_succ]
  refine h4_take (i := 13) (v := ?v13) rfl (by kernel_rfl) (by kernel_rfl) (by kernel_rfl) (fun _ _ _ h => h) (by rfl) ?y13 hHeld ?r13
  case y13 => (intro wS hSw; obtain ⟨k0, k1, k2, k3, k4, kz, _⟩ := hSw; go_simp; (try with_reducible rfl))
  try simp only [Act.put, List.setIfInBounds_toArray, List.set_cons_zero, List.set_cons_succ]
  refine h4_take (i := 14) (v := ?v14) rfl (by kernel_rfl) (by kernel_rfl) (by kernel_rfl) (fun _ _ _ h => h) (by rfl) ?y14 hHeld ?r14
  case y14 => (intro wS hSw; obtain ⟨k0, k1, k2, k3, k4, kz, _⟩ := hSw; go_simp; (try with_reducible rfl))
  try simp only [Act.put, List.setIfInBounds_toArray, List.set_cons_zero, List.set_cons_succ]
  refine h4_take (i := 15) (v := ?v15) rfl (by kernel_rfl) (by kernel_rfl) (by kernel_rfl) (fun _ _ _ h => h) (by rfl) ?y15 hHeld ?r15
  case y15 => (intro wS hSw; obtain ⟨k0, k1, k2, k3, k4, kz, _⟩ := hSw; go_simp; (try with_reducible rfl))
  try simp only [Act.put, List.setIfInBounds_toArray, List.set_cons_zero, List.set_cons_succ]
  refine h4_take (i := 17) (v := ?v16) rfl (by kernel_rfl) (by kernel_rfl) (by kernel_rfl) (fun _ _ _ h => h) (by rfl) ?y16 hHeld ?r16
  case y16 => (intro wS hSw; obtain ⟨k0, k1, k2, k3, k4, kz, _⟩ := hSw; go_simp; (try with_reducible rfl))
  try simp only [Act.put, List.setIfInBounds_toArray, List.set_cons_zero, List.set_cons_succ]
  refine h4_take (i := 18) (v := ?v17) rfl (by kernel_rfl) (by kernel_rfl) (by kernel_rfl) (fun _ _ _ h => h) (by rfl) ?y17 hHeld ?r17
  case y17 => (intro wS hSw; obtain ⟨k0, k1, k2, k3, k4, kz, _⟩ := hSw; go_simp; (try with_reducible rfl))
  try simp only [Act.put, List.setIfInBounds_toArray, List.set_cons_zero, List.set_cons_succ]
  refine wpAnyH_ready (rs := [16]) (by kernel_rfl) (by simp) ?_
  refine (h4_cons rfl (fun K hK => ?_) AllReadyH.nil)
  go_simp
  ((go_at_call 13; (with_reducible refine (HVX.out _).mono ?_); rintro e w5 ⟨rfl, rfl⟩))
  (try go_wp2_with fail)
  refine hK.out _ _ ?_ (fun hHeld19 => ?_)
  · (try dsimp only)
    (first | exact HS5.out.next (Below.refl _ _).drew | (with_reducible assumption) | (refine Sl5.next (by with_reducible assumption) ?_; repeat' (first | with_reducible exact Below.refl _ _ | with_reducible refine Below.drew ?_ | with_reducible refine below_drewN ?_ _)))
  clear hK K hHeld
  try simp only [Act.put, List.setIfInBounds_toArray, List.set_cons_zero, List.set_cons_succ]
  refine h4_take (i := 19) (v := ?v19) rfl (by kernel_rfl) (by kernel_rfl) (by kernel_rfl) (fun _ _ _ h => h) (by rfl) ?y19 hHeld19 ?r19
  case y19 => (intro wS hSw; obtain ⟨k0, k1, k2, k3, k4, kz, _⟩ := hSw; go_simp; (try with_reducible rfl))
  try simp only [Act.put, List.setIfInBounds_toArray, List.set_cons_zero, List.set_cons_succ]
  refine h4_take (i := 20) (v := ?v20) rfl (by kernel_rfl) (by kernel_rfl) (by kernel_rfl) (fun _ _ _ h => h) (by rfl) ?y20 hHeld19 ?r20
  case y20 => (intro wS hSw; obtain ⟨k0, k1, k2, k3, k4, kz, _⟩ := hSw; go_simp; (try with_reducible rfl))
  try simp only [Act.put, List.setIfInBounds_toArray, List.set_cons_zero, List.set_cons_succ]
  refine h4_take (i := 21) (v := ?v21) rfl (by kernel_rfl) (by kernel_rfl) (by kernel_rfl) (fun _ _ _ h => h) (by rfl) ?y21 hHeld19 ?r21
  case y21 => (intro wS hSw; obtain ⟨k0, k1, k2, k3, k4, kz, _⟩ := hSw; go_simp; (try with_reducible rfl))
  try simp only [Act.put, List.setIfInBounds_toArray, List.set_cons_zero, List.set_cons_succ]
  refine h4_take (i := 22) (v := ?v22) rfl (by kernel_rfl) (by kernel_rfl) (by kernel_rfl) (fun _ _ _ h => h) (by rfl) ?y22 hHeld19 ?r22
  case y22 => (intro wS hSw; obtain ⟨k0, k1, k2, k3, k4, kz, _⟩ := hSw; go_simp; (try with_reducible rfl))
  try simp only [Act.put, List.setIfInBounds_toArray, List.set_cons_zero, List.set_cons_succ]
  refine h4_take (i := 23) (v := ?v23) rfl (by kernel_rfl) (by kernel_rfl) (by kernel_rfl) (fun _ _ _ h => h) (by rfl) ?y23 hHeld19 ?r23
  case y23 => (intro wS hSw; obtain ⟨k0, k1, k2, k3, k4, kz, _⟩ := hSw; go_simp; (try with_reducible rfl))
  try simp only [Act.put, List.setIfInBounds_toArray, List.set_cons_zero, List.set_cons_succ]
  refine h4_take (i := 24) (v := ?v24) rfl (by kernel_rfl) (by kernel_rfl) (by kernel_rfl) (fun _ _ _ h => h) (by rfl) ?y24 hHeld19 ?r24
  case y24 => (intro wS hSw; obtain ⟨k0, k1, k2, k3, k4, kz, _⟩ := hSw; go_simp; (try with_reducible rfl))
  try simp only [Act.put, List.setIfInBounds_toArray, List.set_cons_zero, List.set_cons_succ]
  refine h4_take (i := 26) (v := ?v25) rfl (by kernel_rfl) (by kernel_rfl) (by kernel_rfl) (fun _ _ _ h => h) (by rfl) ?y25 hHeld19 ?r25
  case y25 => (intro wS hSw; obtain ⟨k0, k1, k2, k3, k4, kz, _⟩ := hSw; go_simp; (try with_reducible rfl))
  try simp only [Act.put, List.setIfInBounds_toArray, List.set_cons_zero, List.set_cons_succ]
  refine h4_take (i := 27) (v := ?v26) rfl (by kernel_rfl) (by kernel_rfl) (by kernel_rfl) (fun _ _ _ h => h) (by rfl) ?y26 hHeld19 ?r26
  case y26 => (intro wS hSw; obtain ⟨k0, k1, k2, k3, k4, kz, _⟩ := hSw; go_simp; (try with_reducible rfl))
  try simp only [Act.put, List.setIfInBounds_toArray, List.set_cons_zero, List.set_cons_succ]
  refine wpAnyH_ready (rs := [25]) (by kernel_rfl) (by simp) ?_
  refine (h4_cons rfl (fun K hK => ?_) AllReadyH.nil)
  go_simp
  ((go_at_call 13; (with_reducible refine (HV8.out _).mono ?_); rintro e w5 ⟨rfl, rfl⟩))
  (try go_wp2_with fail)
  refine hK.out _ _ ?_ (fun hHeld28 => ?_)
  · (try dsimp only)
    (first | exact HS5.out.next (Below.refl _ _).drew | (with_reducible assumption) | (refine Sl5.next (by with_reducible assumption) ?_; repeat' (first | with_reducible exact Below.refl _ _ | with_reducible refine Below.drew ?_ | with_reducible refine below_drewN ?_ _)))
  clear hK K hHeld19
  try simp only [Act.put, List.setIfInBounds_toArray, List.set_cons_zero, List.set_cons_succ]
  refine h4_take (i := 28) (v := ?v28) rfl (by kernel_rfl) (by kernel_rfl) (by kernel_rfl) (fun _ _ _ h => h) (by rfl) ?y28 hHeld28 ?r28
  case y28 => (intro wS hSw; obtain ⟨k0, k1, k2, k3, k4, kz, _⟩ := hSw; go_simp; (try with_reducible rfl))
  try simp only [Act.put, List.setIfInBounds_toArray, List.set_cons_zero, List.set_cons_succ]
  refine h4_take (i := 29) (v := ?v29) rfl (by kernel_rfl) (by kernel_rfl) (by kernel_rfl) (fun _ _ _ h => h) (by rfl) ?y29 hHeld28 ?r29
  case y29 => (intro wS hSw; obtain ⟨k0, k1, k2, k3, k4, kz, _⟩ := hSw; go_simp; (try with_reducible rfl))
  try simp only [Act.put, List.setIfInBounds_toArray, List.set_cons_zero, List.set_cons_succ]
  refine h4_take (i := 30) (v := ?v30) rfl (by kernel_rfl) (by kernel_rfl) (by kernel_rfl) (fun _ _ _ h => h) (by rfl) ?y30 hHeld28 ?r30
  case y30 => (intro wS hSw; obtain ⟨k0, k1, k2, k3, k4, kz, _⟩ := hSw; go_simp; (try with_reducible rfl))
  try simp only [Act.put, List.setIfInBounds_toArray, List.set_cons_zero, List.set_cons_succ]
  refine h4_take (i := 31) (v := ?v31) rfl (by kernel_rfl) (by kernel_rfl) (by kernel_rfl) (fun _ _ _ h => h) (by rfl) ?y31 hHeld28 ?r31
  case y31 => (intro wS hSw; obtain ⟨k0, k1, k2, k3, k4, kz, _⟩ := hSw; go_simp; (try with_reducible rfl))
  try simp only [Act.put, List.setIfInBounds_toArray, List.set_cons_zero, List.set_cons_succ]
  refine h4_take (i := 32) (v := ?v32) rfl (by kernel_rfl) (by kernel_rfl) (by kernel_rfl) (fun _ _ _ h => h) (by rfl) ?y32 hHeld28 ?r32
  case y32 => (intro wS hSw; obtain ⟨k0, k1, k2, k3, k4, kz, _⟩ := hSw; go_simp; (try with_reducible rfl))
  try simp only [Act.put, List.setIfInBounds_toArray, List.set_cons_zero, List.set_cons_succ]
  refine h4_take (i := 33) (v := ?v33) rfl (by kernel_rfl) (by kernel_rfl) (by kernel_rfl) (fun _ _ _ h => h) (by rfl) ?y33 hHeld28 ?r33
  case y33 => (intro wS hSw; obtain ⟨k0, k1, k2, k3, k4, kz, _⟩ := hSw; go_simp; (try with_reducible rfl))
  try simp only [Act.put, List.setIfInBounds_toArray, List.set_cons_zero, List.set_cons_succ]
  refine h4_take (i := 35) (v := ?v34) rfl (by kernel_rfl) (by kernel_rfl) (by kernel_rfl) (fun _ _ _ h => h) (by rfl) ?y34 hHeld28 ?r34
  case y34 => (intro wS hSw; obtain ⟨k0, k1, k2, k3, k4, kz, _⟩ := hSw; go_simp; (try with_reducible rfl))
  try simp only [Act.put, List.setIfInBounds_toArray, List.set_cons_zero, List.set_cons_succ]
  refine h4_take (i := 36) (v := ?v35) rfl (by kernel_rfl) (by kernel_rfl) (by kernel_rfl) (fun _ _ _ h => h) (by rfl) ?y35 hHeld28 ?r35
  case y35 => (intro wS hSw; obtain ⟨k0, k1, k2, k3, k4, kz, _⟩ := hSw; go_simp; (try with_reducible rfl))
  try simp only [Act.put, List.setIfInBounds_toArray, List.set_cons_zero, List.set_cons_succ]
  refine wpAnyH_ready (rs := [34]) (by kernel_rfl) (by simp) ?_
  refine (h4_cons rfl (fun K hK => ?_) AllReadyH.nil)
  go_simp
  ((go_at_call 13; (with_reducible refine (HVU.out _).mono ?_); rintro e w5 ⟨rfl, rfl⟩))
  (try go_wp2_with fail)
  refine hK.out _ _ ?_ (fun hHeld37 => ?_)
  · (try dsimp only)
    (first | exact HS5.out.next (Below.refl _ _).drew | (with_reducible assumption) | (refine Sl5.next (by with_reducible assumption) ?_; repeat' (first | with_reducible exact Below.refl _ _ | with_reducible refine Below.drew ?_ | with_reducible refine below_drewN ?_ _)))
  clear hK K hHeld28
  try simp only [Act.put, List.setIfInBounds_toArray, List.set_cons_zero, List.set_cons_succ]
  refine h4_take (i := 37) (v := ?v37) rfl (by kernel_rfl) (by kernel_rfl) (by kernel_rfl) (fun _ _ _ h => h) (by rfl) ?y37 hHeld37 ?r37
  case y37 => (intro wS hSw; obtain ⟨k0, k1, k2, k3, k4, kz, _⟩ := hSw; go_simp; (try with_reducible rfl))
  try simp only [Act.put, List.setIfInBounds_toArray, List.set_cons_zero, List.set_cons_succ]
  refine h4_take (i := 38) (v := ?v38) rfl (by kernel_rfl) (by kernel_rfl) (by kernel_rfl) (fun _ _ _ h => h) (by rfl) ?y38 hHeld37 ?r38
  case y38 => (intro wS hSw; obtain ⟨k0, k1, k2, k3, k4, kz, _⟩ := hSw; go_simp; (try with_reducible rfl))
  try simp only [Act.put, List.setIfInBounds_toArray, List.set_cons_zero, List.set_cons_succ]
  refine wpAnyH_done (by kernel_rfl) ?_ _
  have HS6 := Lib.hid ‹Sl5 w _ g D D X1 O1 X2›
  have hDE := HDE.out
  have k0 := HS6.out.c0
  have kz := HS6.out.z
  by_cases hneg : n < 0
  · have hVN : -(n.natAbs : Int) = n := by omega
    have hVN2 : 0 - (n.natAbs : Int) = n := by omega
    rw [if_pos hneg] at hDE
    have dn : decide (n < 0) = true := decide_eq_true hneg
    have hD1 : 1 < D.length := by rw [hDE]; simp; omega
    have d1 : decide ((1 : Int) < (D.length : Int)) = true := decide_eq_true (by omega)
    have d1' : decide (1 < D.length) = true := decide_eq_true hD1
    have hq := get_at (fun x hx => (HD.out x hx).2) 0 (by omega : 0 < D.length) (by rw [hDs]; omega)
    have hq2 : D[0]'(by omega) = 45 := by subst hDE; rfl
    rw [hq2] at hq
    have hsl : (strN D).extract 1 D.length = strN (digs 31 n.natAbs []) := by
      rw [strN_extract, List.take_length, hDE]; rfl
    clear hDE hq2
    go_wp2_with (first
      | (go_at_call 13; (with_reducible refine (HVE.out _).mono ?_); rintro e w6 ⟨rfl, rfl⟩)
      | fail)
    go_ret
    exact ⟨rfl, HS6.out.bl⟩
  · rw [if_neg hneg, List.nil_append] at hDE
    have hVN : (n.natAbs : Int) = n := by omega
    have dn : decide (n < 0) = false := decide_eq_false hneg
    rw [← hDE] at HVE
    have hNn : (N : Int) = n := by rw [← huw, IntKind.wrap_u64]; omega
    rw [hVN] at HVE
    clear hDE
    go_wp2_with (first
      | (go_at_call 13; (with_reducible refine (HVE.out _).mono ?_); rintro e w6 ⟨rfl, rfl⟩)
      | fail)
    go_ret
    exact ⟨rfl, HS6.out.bl⟩
end Go.Proofs.YtpkooogfefkcdaaDoor
