/- Several texts put together: ScrK, ScrL, ScrM. -/
import Derived.Test.YtanbplnagcmlcaaDoorBu7
import Derived.Lib.SlBytesConst
/- Layer 24: a line's event, at any kind; when two events are one; digits as the document has them. -/
namespace Go.Proofs.YtanbplnagcmlcaaDoor
open Go.RowKit
theorem lineL_eq (e : Ev) (he : e.ok) : lineL e = match e.k with
    | 0 => wordL 0 ++ 32 :: decN e.n | 1 => wordL 1 ++ 32 :: (decN e.c ++ 32 :: quoteL e.bs) | 2 => wordL 2 ++ 32 :: decN e.c | 3 => wordL 3 ++ 32 :: decN e.c
    | 4 => wordL 4 ++ 32 :: (decN e.c ++ 32 :: decN e.n) | 5 => wordL 5 ++ 32 :: (decN e.c ++ 32 :: decN e.n) | 6 => wordL 6 ++ 32 :: decN e.c | _ => wordL 7 ++ 32 :: decN e.n := by
  obtain ⟨k, c, n, bs⟩ := e
  have hk := he.k
  dsimp only at hk ⊢
  rcases kinds hk with rfl | rfl | rfl | rfl | rfl | rfl | rfl | rfl <;> simp [lineL, line2, line1, hasC, hasN, hasT]
/-- Read of an event's line. -/
theorem read_ok (e : Ev) (he : e.ok) (w : World) :
    Calls Tryd.prog 9 #[.string (strN (lineL e))] w fun x w' => (∃ v, x = .returned (.tuple #[.agg #[.int .i64 (e.k : Int), .int .i64 (e.c : Int), .int .i64 (e.n : Int), v], .nilIface]) ∧ OB w' w.heap.size v e.bs) ∧ Below w.heap.size w w' := by
  rw [lineL_eq e he]
  obtain ⟨k, c, n, bs⟩ := e
  obtain ⟨hk, hc, hn, hb, ht, hlt⟩ := he
  dsimp only at *
  have hc' := right_le hc
  have hn' := right_le hn
  have hl := fun W => lk_shapes2 hk W
  have hL := word_len k
  have h32 := word_no32 k
  have hLt := wordL_lt k
  have c0 : hasC k = false → c = 0 := fun h => by rw [h] at hc; simpa [rightB] using hc
  have n0 : hasN k = false → n = 0 := fun h => by rw [h] at hn; simpa [rightB] using hn
  have b0 : hasT k = false → bs = [] := fun h => by
    rcases ht with h1 | h1
    · rw [h] at h1; cases h1
    · exact h1
  have nil : ∀ (P : World → Ending → Prop) (x : Ending) (w' : World), True := fun _ _ _ => trivial
  rcases kinds hk with rfl | rfl | rfl | rfl | rfl | rfl | rfl | rfl
  · obtain rfl := c0 rfl; obtain rfl := b0 rfl
    exact (read_n hL h32 hLt hl n hn' w).mono fun x w' h => ⟨⟨_, h.1, OB.nil _ _⟩, h.2⟩
  · obtain rfl := n0 rfl
    exact read_ct hL h32 hLt hl c hc' bs hlt hb w
  · obtain rfl := n0 rfl; obtain rfl := b0 rfl
    exact (read_c hL h32 hLt hl c hc' w).mono fun x w' h => ⟨⟨_, h.1, OB.nil _ _⟩, h.2⟩
  · obtain rfl := n0 rfl; obtain rfl := b0 rfl
    exact (read_c hL h32 hLt hl c hc' w).mono fun x w' h => ⟨⟨_, h.1, OB.nil _ _⟩, h.2⟩
  · obtain rfl := b0 rfl
    exact (read_cn hL h32 hLt hl c hc' n hn' w).mono fun x w' h => ⟨⟨_, h.1, OB.nil _ _⟩, h.2⟩
  · obtain rfl := b0 rfl
    exact (read_cn hL h32 hLt hl c hc' n hn' w).mono fun x w' h => ⟨⟨_, h.1, OB.nil _ _⟩, h.2⟩
  · obtain rfl := n0 rfl; obtain rfl := b0 rfl
    exact (read_c hL h32 hLt hl c hc' w).mono fun x w' h => ⟨⟨_, h.1, OB.nil _ _⟩, h.2⟩
  · obtain rfl := c0 rfl; obtain rfl := b0 rfl
    exact (read_n hL h32 hLt hl n hn' w).mono fun x w' h => ⟨⟨_, h.1, OB.nil _ _⟩, h.2⟩
theorem str_of_rb {W : World} {B : Nat} {A : Option Addr} {L : List Nat} {c : Nat} (h : RB W B A L) (hA : A = none → L = []) :
    (convert 27 9 (.slice A L.length c)).run Tryd.prog W = .ok (.string (strN L)) W := by
  cases A with
  | none =>
    obtain rfl := hA rfl
    exact run_convert_bytes_nil (P := Tryd.prog) W 27 5 Tryd.underlying27 Tryd.underlying5 0 c 9 Tryd.underlying9
  | some ad =>
    have := run_convert_bytes_back (P := Tryd.prog) W 27 9 5 ad c (L.map UInt8.ofNat) Tryd.underlying27 Tryd.underlying5 Tryd.underlying9 (fun j hj => by
      rw [List.length_map] at hj
      obtain ⟨ad', e, _, hc⟩ := h.2 (by omega)
      simp only [Option.some.injEq] at e
      subst e
      rw [hc j hj, List.getElem_map, UInt8.toNat_ofNat', Nat.mod_eq_of_lt (show L[j] < 2 ^ 8 from h.1 _ (List.getElem_mem hj))])
    rw [List.length_map] at this
    exact this
set_option maxRecDepth 100000 in
set_option maxHeartbeats 1600000 in
theorem same24_yes (k c n : Int) (bs : List Nat) (A1 A2 : Option Addr) (c1 c2 : Nat) (w : World) {B : Nat} (hB : B ≤ w.heap.size) (h1 : RB w B A1 bs) (h2 : RB w B A2 bs) (n1 : A1 = none → bs = []) (n2 : A2 = none → bs = []) :
    Calls Tryd.prog 11 #[.agg #[.int .i64 k, .int .i64 c, .int .i64 n, .slice A1 bs.length c1], .agg #[.int .i64 k, .int .i64 c, .int .i64 n, .slice A2 bs.length c2]] w fun e w' => e = .returned (.bool true) ∧ Below w.heap.size w w' := by
  have q : Below w.heap.size w ((w.alloc (.cells #[.int .i64 k, .int .i64 c, .int .i64 n, .slice A1 bs.length c1] 29)).alloc (.cells #[.int .i64 k, .int .i64 c, .int .i64 n, .slice A2 bs.length c2] 29)) := ((Below.refl _ _).alloc (Nat.le_refl _) _).alloc (by simp) _
  have r1 := str_of_rb (c := c1) (h1.below (q.mono hB)) n1
  have r2 := str_of_rb (c := c2) (h2.below (q.mono hB)) n2
  have e1 : (k == k) = true := by simp
  have e2 : (c == c) = true := by simp
  have e3 : (n == n) = true := by simp
  clear q h1 h2 n1 n2
  go_enter Tryd.func11, Tryd.ntmps11
  go_wp2
  go_ret
  exact ⟨rfl, by (repeat' (first | (with_reducible exact Below.refl _ _) | (refine Below.trans ?_ (Below.mono (by with_reducible assumption) ?_)) | (with_reducible exact Below.refl _ _) | (with_reducible refine below_drewN ?_ _) | (with_reducible refine Below.drew ?_) | (with_reducible refine Below.setCell ?_ ?_ _) | (with_reducible refine Below.alloc ?_ ?_ _) | (with_reducible assumption) | (simp; done) | (simp; omega) | omega))⟩
def dclN (m : Nat) : List Nat := if m < 10 then [] else decN (m / 10)
theorem decN_dcl (m : Nat) : decN m = dclN m ++ [48 + m % 10] := by
  unfold dclN
  by_cases h : m < 10
  · rw [decN_small h, if_pos h, Nat.mod_eq_of_lt h]; rfl
  · rw [decN_step h, if_neg h]
theorem one_str (W : World) (d : Nat) (hd : d < 256) : (convert 27 9 (.slice (some ⟨W.heap.size, 0, none⟩) 1 1)).run Tryd.prog (W.alloc (.cells #[.int .u8 (d : Int)] 5)) = .ok (.string (strN [d])) (W.alloc (.cells #[.int .u8 (d : Int)] 5)) :=
  str_of_rb (L := [d]) (rb_one W d hd) (fun e => by cases e)
set_option maxRecDepth 100000 in
set_option maxHeartbeats 1600000 in
theorem decimal_any (n0 : Nat) (hn : n0 ≤ 1099511627776) (w : World) :
    Calls Tryd.prog 10 #[.int .i64 (n0 : Int)] w fun e w' => e = .returned (.string (strN (decN n0))) ∧ Below w.heap.size w w' := by
  have hcv := one_str w (48 + n0 % 10) (by omega)
  rw [show ((48 + n0 % 10 : Nat) : Int) = 48 + (n0 : Int) % 10 by omega] at hcv
  have h13 := dec13 hn
  go_enter Tryd.func10, Tryd.ntmps10
  go_wp2
  clear hcv
  generalize hW : (World.alloc _ _ : World) = W1
  have hb1 : Below w.heap.size w W1 := by rw [← hW]; (repeat' (first | (with_reducible exact Below.refl _ _) | (refine Below.trans ?_ (Below.mono (by with_reducible assumption) ?_)) | (with_reducible exact Below.refl _ _) | (with_reducible refine below_drewN ?_ _) | (with_reducible refine Below.drew ?_) | (with_reducible refine Below.setCell ?_ ?_ _) | (with_reducible refine Below.alloc ?_ ?_ _) | (with_reducible assumption) | (simp; done) | (simp; omega) | omega))
  have HB1 := Lib.hid hb1
  clear hb1 hW
  go_loopw [0, 3] (fun v s wr => ∃ (m : Nat) (L : List Nat), v = .int .i64 (m : Int) ∧ s = .string (strN ((48 + m % 10) :: L)) ∧ m ≤ 1099511627776 ∧ Hid (decN n0 = dclN m ++ (48 + m % 10) :: L) ∧ Hid (Below w.heap.size w wr)) (fun v _ _ => (intOf v).toNat)
  case atStart => exact ⟨n0, [], rfl, rfl, hn, Lib.hid (decN_dcl n0), HB1⟩
  case round =>
    obtain ⟨m, L, rfl, rfl, hm, HD, HBr⟩ := hrel
    have hll : L.length ≤ 13 := by have := congrArg List.length HD.out; simp at this; omega
    by_cases h10 : m < 10
    · have hd : decN n0 = (48 + m % 10) :: L := by have := HD.out; unfold dclN at this; rw [if_pos h10] at this; exact this
      have HDD := Lib.hid hd
      clear hd
      go_wp2
      (try simp only [Exit.inBlock, Exit.then]); refine bodyPost_ret (by simp [results, Tryd.results10, go_sem, *]; try rfl) rfl ?_
      exact ⟨by rw [HDD.out], HBr.out⟩
    · have hcv := one_str wr (48 + m / 10 % 10) (by omega)
      rw [show ((48 + m / 10 % 10 : Nat) : Int) = 48 + (m : Int) / 10 % 10 by omega] at hcv
      have hs1 : (strN [48 + m / 10 % 10]).size ≤ 1 := by rw [strN_size]; simp
      have hs2 : (strN ((48 + m % 10) :: L)).size ≤ 14 := by rw [strN_size]; simp; omega
      have HAP := Lib.hid (strN_app [48 + m / 10 % 10] ((48 + m % 10) :: L))
      generalize strN [48 + m / 10 % 10] = S1 at hcv hs1 HAP
      generalize strN ((48 + m % 10) :: L) = S2 at hs2 HAP ⊢
      go_wp2
      refine ⟨⟨m / 10, (48 + m % 10) :: L, by congr 1, by rw [HAP.out]; rfl, by omega, Lib.hid ?_, Lib.hid (HBr.out.alloc HBr.out.size _)⟩, by simp [intOf]; omega⟩
      have h := HD.out
      unfold dclN at h
      rw [if_neg h10, decN_dcl (m / 10), List.append_assoc] at h
      exact h
end Go.Proofs.YtanbplnagcmlcaaDoor

/- Layer 24: what the laws take for granted (awake); ScriptNumbers' walk. -/
namespace Go.Proofs.YtanbplnagcmlcaaDoor
open Go.RowKit
def ev1 : Ev := ⟨1, 2, 0, [97, 10]⟩
def ev2 : Ev := ⟨4, 1, 50, []⟩
theorem ev1_ok : ev1.ok := ⟨by decide, by decide, by decide, by decide, .inl rfl, by decide⟩
theorem ev2_ok : ev2.ok := ⟨by decide, by decide, by decide, by decide, .inr rfl, by decide⟩
theorem ev1_line : lineL ev1 = [100, 97, 116, 97, 32, 50, 32, 34, 97, 92, 48, 49, 50, 34] := by
  rw [lineL_eq ev1 ev1_ok]
  show wordL 1 ++ 32 :: (decN 2 ++ 32 :: quoteL [97, 10]) = _
  rw [decN_small (by omega)]
  decide
theorem ev2_line : lineL ev2 = [119, 105, 110, 100, 111, 119, 32, 49, 32, 53, 48] := by
  rw [lineL_eq ev2 ev2_ok]
  show wordL 4 ++ 32 :: (decN 1 ++ 32 :: decN 50) = _
  rw [decN_small (by omega), decN_step (n := 50) (by omega), decN_small (n := 50 / 10) (by omega)]
  decide
theorem rb_lit (W : World) (l : List Nat) (hl : ∀ x ∈ l, x < 256) (a : Array Value) (ha : a = nums l) : RB (W.alloc (.cells a 5)) (W.heap.size + 1) (some ⟨W.heap.size, 0, none⟩) l := by
  subst ha; exact rb_row W l hl 5 (0, 0)
theorem rb_nil (W : World) (B : Nat) (A : Option Addr) : RB W B A [] := ⟨by simp, by simp⟩
theorem same24_nil (k c n : Int) (A1 A2 : Option Addr) (c1 c2 : Nat) (w : World) :
    Calls Tryd.prog 11 #[.agg #[.int .i64 k, .int .i64 c, .int .i64 n, .slice A1 0 c1], .agg #[.int .i64 k, .int .i64 c, .int .i64 n, .slice A2 0 c2]] w fun e w' => e = .returned (.bool true) ∧ Below w.heap.size w w' :=
  same24_yes k c n [] A1 A2 c1 c2 w (Nat.zero_le _) (rb_nil _ 0 _) (rb_nil _ 0 _) (fun _ => rfl) (fun _ => rfl)
theorem line_ev1 (w : World) (hT : TabOk w) (f : Nat × Nat) : Calls Tryd.prog 7 #[.agg #[.int .i64 1, .int .i64 2, .int .i64 0, .slice (some ⟨w.heap.size, 0, none⟩) 2 2]] (w.alloc (.cells #[.int .u8 97, .int .u8 10] 5 f)) (fun e w' => e = .returned (.tuple #[.string { data := #[100, 97, 116, 97, 32, 50, 32, 34, 97, 92, 48, 49, 50, 34] }, .nilIface]) ∧ Below w.heap.size w w') := by
  have q1 : Below w.heap.size w (w.alloc (.cells #[.int .u8 97, .int .u8 10] 5 f)) := (Below.refl _ _).alloc (Nat.le_refl _) _
  have h1 := line_ok ev1 ev1_ok (some ⟨w.heap.size, 0, none⟩) 2 (by decide) _ (hT.below q1) (B := w.heap.size + 1) (by simp) (rb_row w [97, 10] (by decide) 5 f)
  rw [ev1_line] at h1
  exact h1.mono fun e w' h => ⟨h.1, q1.trans (h.2.mono (by simp))⟩
set_option maxRecDepth 100000 in
set_option maxHeartbeats 1600000 in
theorem awake24_any (w : World) (hT : TabOk w) : Calls Tryd.prog 6 #[] w fun e w' => e = .returned (.bool true) ∧ Below w.heap.size w w' := by
  have kc := fun (w : World) (C : Array Value) (n c : Nat) => Lib.run_convert_bytes_const (P := Tryd.prog) w 27 5 C n c Tryd.underlying27 Tryd.underlying5
  have h2 : ∀ W, Calls Tryd.prog 9 #[.string { data := #[119, 105, 110, 100, 111, 119, 32, 49, 32, 53, 48] }] W (fun x w' => (∃ v, x = .returned (.tuple #[.agg #[.int .i64 4, .int .i64 1, .int .i64 50, v], .nilIface]) ∧ OB w' W.heap.size v []) ∧ Below W.heap.size W w') := fun W => by
    have := read_ok ev2 ev2_ok W
    rw [ev2_line] at this
    exact this
  have HT := Lib.hid hT
  have H2 := Lib.hid h2
  clear h2 hT
  go_enter Tryd.func6, Tryd.ntmps6
  go_wp2_with (first
    | (go_at_call 7; (with_reducible refine (line_ev1 w HT.out _).mono ?_); rintro e w1 ⟨rfl, b1⟩; have z1 := b1.size)
    | (go_at_call 9; (with_reducible refine (H2.out _).mono ?_); rintro e w2 ⟨⟨v, rfl, ho⟩, b2⟩; obtain ⟨A, c, rfl, hc, hr, hn⟩ := ho.slice; clear ho hr hn; have z2 := b2.size)
    | (go_at_call 11; (with_reducible refine (same24_nil 4 1 50 A none c 0 _).mono ?_); rintro e w3 ⟨rfl, b3⟩)
    | fail)
  go_ret
  exact ⟨rfl, by (repeat' (first | (with_reducible exact Below.refl _ _) | (refine Below.trans ?_ (Below.mono (by with_reducible assumption) ?_)) | (with_reducible exact Below.refl _ _) | (with_reducible refine below_drewN ?_ _) | (with_reducible refine Below.drew ?_) | (with_reducible refine Below.setCell ?_ ?_ _) | (with_reducible refine Below.alloc ?_ ?_ _) | (with_reducible assumption) | (simp; done) | (simp; omega) | omega))⟩
end Go.Proofs.YtanbplnagcmlcaaDoor

/- fieldfarelaw24.ScriptNumbers: the walk. -/
namespace Go.Proofs.YtanbplnagcmlcaaDoor
open Go.RowKit
def evT (n : Nat) : Ev := ⟨7, 0, n, []⟩
theorem evT_ok {n : Nat} (hn : n ≤ 1099511627776) : (evT n).ok := ⟨(by show 7 < 8; omega), rfl, decide_eq_true (by show (0 : Int) ≤ (n : Int) ∧ (n : Int) ≤ 1099511627776; omega), Nat.zero_le _, .inr rfl, fun x hx => by cases hx⟩
set_option maxRecDepth 100000 in
set_option maxHeartbeats 1600000 in
theorem snumbers_law (n : Int) (w : World) (hn : -9223372036854775808 ≤ n ∧ n < 9223372036854775808) (hT : TabOk w) :
    Calls Tryd.prog 3 #[.int .i64 n] w fun e w' => e = .returned (.bool true) ∧ Below w.heap.size w w' := by
  have HT := Lib.hid hT
  clear hT
  by_cases hr : 0 ≤ n ∧ n ≤ 1099511627776
  · obtain ⟨m, rfl⟩ : ∃ m : Nat, n = (m : Int) := ⟨n.toNat, by omega⟩
    have hm : m ≤ 1099511627776 := by omega
    have hl : ∀ W, TabOk W → Calls Tryd.prog 7 #[.agg #[.int .i64 7, .int .i64 0, .int .i64 (m : Int), .slice none 0 0]] W fun x w' => x = .returned (.tuple #[.string (strN (lineL (evT m))), .nilIface]) ∧ Below W.heap.size W w' := fun W h =>
      line_ok (evT m) (evT_ok hm) none 0 (Nat.le_refl _) W h (Nat.zero_le _) (rb_nil W 0 none)
    have hrd : ∀ W, Calls Tryd.prog 9 #[.string (strN (lineL (evT m)))] W fun x w' => (∃ v, x = .returned (.tuple #[.agg #[.int .i64 7, .int .i64 0, .int .i64 (m : Int), v], .nilIface]) ∧ OB w' W.heap.size v []) ∧ Below W.heap.size W w' := fun W => read_ok (evT m) (evT_ok hm) W
    have hap : ({ data := #[116, 105, 99, 107, 32] } : ByteArray) ++ strN (decN m) = strN (lineL (evT m)) := by
      rw [lineL_eq _ (evT_ok hm)]
      show strN [116, 105, 99, 107, 32] ++ strN (decN m) = strN (wordL 7 ++ 32 :: decN m)
      rw [strN_app]; rfl
    have hs : (strN (decN m)).size ≤ 13 := by rw [strN_size]; exact dec13 hm
    have hdc := fun W => decimal_any m hm W
    have HL := Lib.hid hl
    have HR := Lib.hid hrd
    have HD := Lib.hid hdc
    generalize strN (lineL (evT m)) = S at HL HR hap
    generalize strN (decN m) = D at HD hap hs
    have e2 : ((m : Int) == m) = true := by simp
    clear hl hrd hdc hr hn
    go_enter Tryd.func3, Tryd.ntmps3
    go_wp2_with (first
      | (go_at_call 6; (with_reducible refine (awake24_any w HT.out).mono ?_); rintro e w1 ⟨rfl, b1⟩; have HT1 := Lib.hid (HT.out.below b1); have HB1 := Lib.hid b1; clear b1)
      | (go_at_call 7; (with_reducible refine (HL.out _ HT1.out).mono ?_); rintro e w2 ⟨rfl, b2⟩; have HB2 := Lib.hid (below_step HB1.out b2); clear b2)
      | (go_at_call 9; (with_reducible refine (HR.out _).mono ?_); rintro e w3 ⟨⟨v, rfl, ho⟩, b3⟩; obtain ⟨A, c, rfl, _, _, _⟩ := ho.slice; clear ho; have HB3 := Lib.hid (below_step HB2.out b3); have b4x_3 := Lib.hid (Box4.make w3 (.int .i64 7) (.int .i64 0) (.int .i64 (m : Int)) (.slice A 0 c) 29 rfl); have b4x_30 := b4x_3.out.c0; have b4x_31 := b4x_3.out.c1; have b4x_32 := b4x_3.out.c2; have b4x_33 := b4x_3.out.c3; have b4x_3f0 := b4x_3.out.f0; have b4x_3f1 := b4x_3.out.f1; have b4x_3f2 := b4x_3.out.f2; have b4x_3f3 := b4x_3.out.f3; have b4x_3z := b4x_3.out.z; clear b3)
      | (go_at_call 10; (with_reducible refine (HD.out _).mono ?_); rintro e w4 ⟨rfl, b4⟩; have b4x_4 := Lib.hid (Box4.below b4x_3.out b4); have b4x_40 := b4x_4.out.c0; have b4x_41 := b4x_4.out.c1; have b4x_42 := b4x_4.out.c2; have b4x_43 := b4x_4.out.c3; have b4x_4f0 := b4x_4.out.f0; have b4x_4f1 := b4x_4.out.f1; have b4x_4f2 := b4x_4.out.f2; have b4x_4f3 := b4x_4.out.f3; have b4x_4z := b4x_4.out.z; have HB4 := Lib.hid ((HB3.out.alloc HB3.out.size (.cells #[.int .i64 7, .int .i64 0, .int .i64 (m : Int), .slice A 0 c] 29)).trans (b4.mono (by have := HB3.out.size; simp; omega))); clear b4)
      | fail)
    go_ret
    exact ⟨rfl, HB4.out⟩
  · have hl : ∀ W, Calls Tryd.prog 7 #[.agg #[.int .i64 7, .int .i64 0, .int .i64 n, .slice none 0 0]] W fun x w' => x = .returned (.tuple #[.string { data := #[] }, .iface 43 (.int .i64 4)]) ∧ Below W.heap.size W w' := fun W =>
      line_no 7 0 n (by unfold I64s; omega) (by unfold I64s; omega) hn none 0 0 (Nat.zero_le _) (by
        rintro ⟨_, _, _, h, _⟩
        have h2 : rightB n true = true := h
        unfold rightB at h2
        simp at h2
        omega) W
    have HL := Lib.hid hl
    clear hl
    by_cases h0 : n < 0
    case' pos => have d0 : decide (n < 0) = true := decide_eq_true h0
    case' neg => (have d0 : decide (n < 0) = false := decide_eq_false h0); have d1 : decide (1099511627776 < n) = true := decide_eq_true (by omega)
    all_goals
      clear h0 hr
      go_enter Tryd.func3, Tryd.ntmps3
      go_wp2_with (first
        | (go_at_call 6; (with_reducible refine (awake24_any w HT.out).mono ?_); rintro e w1 ⟨rfl, b1⟩; have HB1 := Lib.hid b1; clear b1)
        | (go_at_call 7; (with_reducible refine (HL.out _).mono ?_); rintro e w2 ⟨rfl, b2⟩; have HB2 := Lib.hid (below_step HB1.out b2); clear b2)
        | (go_at_call 8; (with_reducible refine (code_errno 4 (by omega) (by omega) _).mono ?_); rintro e w3 ⟨rfl, rfl⟩)
        | fail)
      go_ret
      exact ⟨rfl, HB2.out⟩
end Go.Proofs.YtanbplnagcmlcaaDoor
