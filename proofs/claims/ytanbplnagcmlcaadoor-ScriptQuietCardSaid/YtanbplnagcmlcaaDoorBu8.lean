/- Several texts put together: ScrK, ScrL, ScrM, Rd, RngB, RngC. -/
import Derived.Test.YtanbplnagcmlcaaDoorBu7
import Derived.Lib.SlBytesConst
import Derived.Test.YtanbplnagcmlcaaDoorBu1
import Derived.Below
import Derived.Laws.OwnMore
import Derived.Laws.Rows
import Derived.Deep.AppendLies
import Derived.Deep.Draws
import Derived.Maps.AppendAt
import Derived.RegionTactic
import Derived.OwnWalk
import Derived.Laws.AppendOwnNone
import Derived.Test.YtanbplnagcmlcaaDoorBu3
import Derived.Shelf.RegionOpen
/- Layer 24: a line's event, at any kind; when two events are one; digits as the document has them. -/
namespace Go.Proofs.YtanbplnagcmlcaaDoor
open Go.RowKit
theorem lineL_eq (e : Ev) (he : e.ok) : lineL e = match e.k with
    | 0 => wordL 0 ++ 32 :: decN e.n | 1 => wordL 1 ++ 32 :: (decN e.c ++ 32 :: quoteL e.bs) | 2 => wordL 2 ++ 32 :: decN e.c | 3 => wordL 3 ++ 32 :: decN e.c
    | 4 => wordL 4 ++ 32 :: (decN e.c ++ 32 :: decN e.n) | 5 => wordL 5 ++ 32 :: (decN e.c ++ 32 :: decN e.n) | 6 => wordL 6 ++ 32 :: decN e.c | _ => wordL 7 ++ 32 :: decN e.n := by
  obtain ⟨k, c, n, bs⟩ := e
  have hk := he.k
  dsimp only at hk ⊢
  rcases kinds hk with rfl | rfl | rfl | rfl | rfl | rfl | rfl | rfl <;> simp [lineL, line2, line1, hasC, hasN, hasT]
/-- Read of an event's line. -/
theorem read_ok (e : Ev) (he : e.ok) (w : World) :
    Calls Tryd.prog 9 #[.string (strN (lineL e))] w fun x w' => (∃ v, x = .returned (.tuple #[.agg #[.int .i64 (e.k : Int), .int .i64 (e.c : Int), .int .i64 (e.n : Int), v], .nilIface]) ∧ OB w' w.heap.size v e.bs) ∧ Below w.heap.size w w' := by
  rw [lineL_eq e he]
  obtain ⟨k, c, n, bs⟩ := e
  obtain ⟨hk, hc, hn, hb, ht, hlt⟩ := he
  dsimp only at *
  have hc' := right_le hc
  have hn' := right_le hn
  have hl := fun W => lk_shapes2 hk W
  have hL := word_len k
  have h32 := word_no32 k
  have hLt := wordL_lt k
  have c0 : hasC k = false → c = 0 := fun h => by rw [h] at hc; simpa [rightB] using hc
  have n0 : hasN k = false → n = 0 := fun h => by rw [h] at hn; simpa [rightB] using hn
  have b0 : hasT k = false → bs = [] := fun h => by
    rcases ht with h1 | h1
    · rw [h] at h1; cases h1
    · exact h1
  have nil : ∀ (P : World → Ending → Prop) (x : Ending) (w' : World), True := fun _ _ _ => trivial
  rcases kinds hk with rfl | rfl | rfl | rfl | rfl | rfl | rfl | rfl
  · obtain rfl := c0 rfl; obtain rfl := b0 rfl
    exact (read_n hL h32 hLt hl n hn' w).mono fun x w' h => ⟨⟨_, h.1, OB.nil _ _⟩, h.2⟩
  · obtain rfl := n0 rfl
    exact read_ct hL h32 hLt hl c hc' bs hlt hb w
  · obtain rfl := n0 rfl; obtain rfl := b0 rfl
    exact (read_c hL h32 hLt hl c hc' w).mono fun x w' h => ⟨⟨_, h.1, OB.nil _ _⟩, h.2⟩
  · obtain rfl := n0 rfl; obtain rfl := b0 rfl
    exact (read_c hL h32 hLt hl c hc' w).mono fun x w' h => ⟨⟨_, h.1, OB.nil _ _⟩, h.2⟩
  · obtain rfl := b0 rfl
    exact (read_cn hL h32 hLt hl c hc' n hn' w).mono fun x w' h => ⟨⟨_, h.1, OB.nil _ _⟩, h.2⟩
  · obtain rfl := b0 rfl
    exact (read_cn hL h32 hLt hl c hc' n hn' w).mono fun x w' h => ⟨⟨_, h.1, OB.nil _ _⟩, h.2⟩
  · obtain rfl := n0 rfl; obtain rfl := b0 rfl
    exact (read_c hL h32 hLt hl c hc' w).mono fun x w' h => ⟨⟨_, h.1, OB.nil _ _⟩, h.2⟩
  · obtain rfl := c0 rfl; obtain rfl := b0 rfl
    exact (read_n hL h32 hLt hl n hn' w).mono fun x w' h => ⟨⟨_, h.1, OB.nil _ _⟩, h.2⟩
theorem str_of_rb {W : World} {B : Nat} {A : Option Addr} {L : List Nat} {c : Nat} (h : RB W B A L) (hA : A = none → L = []) :
    (convert 27 9 (.slice A L.length c)).run Tryd.prog W = .ok (.string (strN L)) W := by
  cases A with
  | none =>
    obtain rfl := hA rfl
    exact run_convert_bytes_nil (P := Tryd.prog) W 27 5 Tryd.underlying27 Tryd.underlying5 0 c 9 Tryd.underlying9
  | some ad =>
    have := run_convert_bytes_back (P := Tryd.prog) W 27 9 5 ad c (L.map UInt8.ofNat) Tryd.underlying27 Tryd.underlying5 Tryd.underlying9 (fun j hj => by
      rw [List.length_map] at hj
      obtain ⟨ad', e, _, hc⟩ := h.2 (by omega)
      simp only [Option.some.injEq] at e
      subst e
      rw [hc j hj, List.getElem_map, UInt8.toNat_ofNat', Nat.mod_eq_of_lt (show L[j] < 2 ^ 8 from h.1 _ (List.getElem_mem hj))])
    rw [List.length_map] at this
    exact this
set_option maxRecDepth 100000 in
set_option maxHeartbeats 1600000 in
theorem same24_yes (k c n : Int) (bs : List Nat) (A1 A2 : Option Addr) (c1 c2 : Nat) (w : World) {B : Nat} (hB : B ≤ w.heap.size) (h1 : RB w B A1 bs) (h2 : RB w B A2 bs) (n1 : A1 = none → bs = []) (n2 : A2 = none → bs = []) :
    Calls Tryd.prog 11 #[.agg #[.int .i64 k, .int .i64 c, .int .i64 n, .slice A1 bs.length c1], .agg #[.int .i64 k, .int .i64 c, .int .i64 n, .slice A2 bs.length c2]] w fun e w' => e = .returned (.bool true) ∧ Below w.heap.size w w' := by
  have q : Below w.heap.size w ((w.alloc (.cells #[.int .i64 k, .int .i64 c, .int .i64 n, .slice A1 bs.length c1] 29)).alloc (.cells #[.int .i64 k, .int .i64 c, .int .i64 n, .slice A2 bs.length c2] 29)) := ((Below.refl _ _).alloc (Nat.le_refl _) _).alloc (by simp) _
  have r1 := str_of_rb (c := c1) (h1.below (q.mono hB)) n1
  have r2 := str_of_rb (c := c2) (h2.below (q.mono hB)) n2
  have e1 : (k == k) = true := by simp
  have e2 : (c == c) = true := by simp
  have e3 : (n == n) = true := by simp
  clear q h1 h2 n1 n2
  go_enter Tryd.func11, Tryd.ntmps11
  go_wp2
  go_ret
  exact ⟨rfl, by (repeat' (first | (with_reducible exact Below.refl _ _) | (refine Below.trans ?_ (Below.mono (by with_reducible assumption) ?_)) | (with_reducible exact Below.refl _ _) | (with_reducible refine below_drewN ?_ _) | (with_reducible refine Below.drew ?_) | (with_reducible refine Below.setCell ?_ ?_ _) | (with_reducible refine Below.alloc ?_ ?_ _) | (with_reducible assumption) | (simp; done) | (simp; omega) | omega))⟩
def dclN (m : Nat) : List Nat := if m < 10 then [] else decN (m / 10)
theorem decN_dcl (m : Nat) : decN m = dclN m ++ [48 + m % 10] := by
  unfold dclN
  by_cases h : m < 10
  · rw [decN_small h, if_pos h, Nat.mod_eq_of_lt h]; rfl
  · rw [decN_step h, if_neg h]
theorem one_str (W : World) (d : Nat) (hd : d < 256) : (convert 27 9 (.slice (some ⟨W.heap.size, 0, none⟩) 1 1)).run Tryd.prog (W.alloc (.cells #[.int .u8 (d : Int)] 5)) = .ok (.string (strN [d])) (W.alloc (.cells #[.int .u8 (d : Int)] 5)) :=
  str_of_rb (L := [d]) (rb_one W d hd) (fun e => by cases e)
set_option maxRecDepth 100000 in
set_option maxHeartbeats 1600000 in
theorem decimal_any (n0 : Nat) (hn : n0 ≤ 1099511627776) (w : World) :
    Calls Tryd.prog 10 #[.int .i64 (n0 : Int)] w fun e w' => e = .returned (.string (strN (decN n0))) ∧ Below w.heap.size w w' := by
  have hcv := one_str w (48 + n0 % 10) (by omega)
  rw [show ((48 + n0 % 10 : Nat) : Int) = 48 + (n0 : Int) % 10 by omega] at hcv
  have h13 := dec13 hn
  go_enter Tryd.func10, Tryd.ntmps10
  go_wp2
  clear hcv
  generalize hW : (World.alloc _ _ : World) = W1
  have hb1 : Below w.heap.size w W1 := by rw [← hW]; (repeat' (first | (with_reducible exact Below.refl _ _) | (refine Below.trans ?_ (Below.mono (by with_reducible assumption) ?_)) | (with_reducible exact Below.refl _ _) | (with_reducible refine below_drewN ?_ _) | (with_reducible refine Below.drew ?_) | (with_reducible refine Below.setCell ?_ ?_ _) | (with_reducible refine Below.alloc ?_ ?_ _) | (with_reducible assumption) | (simp; done) | (simp; omega) | omega))
  have HB1 := Lib.hid hb1
  clear hb1 hW
  go_loopw [0, 3] (fun v s wr => ∃ (m : Nat) (L : List Nat), v = .int .i64 (m : Int) ∧ s = .string (strN ((48 + m % 10) :: L)) ∧ m ≤ 1099511627776 ∧ Hid (decN n0 = dclN m ++ (48 + m % 10) :: L) ∧ Hid (Below w.heap.size w wr)) (fun v _ _ => (intOf v).toNat)
  case atStart => exact ⟨n0, [], rfl, rfl, hn, Lib.hid (decN_dcl n0), HB1⟩
  case round =>
    obtain ⟨m, L, rfl, rfl, hm, HD, HBr⟩ := hrel
    have hll : L.length ≤ 13 := by have := congrArg List.length HD.out; simp at this; omega
    by_cases h10 : m < 10
    · have hd : decN n0 = (48 + m % 10) :: L := by have := HD.out; unfold dclN at this; rw [if_pos h10] at this; exact this
      have HDD := Lib.hid hd
      clear hd
      go_wp2
      (try simp only [Exit.inBlock, Exit.then]); refine bodyPost_ret (by simp [results, Tryd.results10, go_sem, *]; try rfl) rfl ?_
      exact ⟨by rw [HDD.out], HBr.out⟩
    · have hcv := one_str wr (48 + m / 10 % 10) (by omega)
      rw [show ((48 + m / 10 % 10 : Nat) : Int) = 48 + (m : Int) / 10 % 10 by omega] at hcv
      have hs1 : (strN [48 + m / 10 % 10]).size ≤ 1 := by rw [strN_size]; simp
      have hs2 : (strN ((48 + m % 10) :: L)).size ≤ 14 := by rw [strN_size]; simp; omega
      have HAP := Lib.hid (strN_app [48 + m / 10 % 10] ((48 + m % 10) :: L))
      generalize strN [48 + m / 10 % 10] = S1 at hcv hs1 HAP
      generalize strN ((48 + m % 10) :: L) = S2 at hs2 HAP ⊢
      go_wp2
      refine ⟨⟨m / 10, (48 + m % 10) :: L, by congr 1, by rw [HAP.out]; rfl, by omega, Lib.hid ?_, Lib.hid (HBr.out.alloc HBr.out.size _)⟩, by simp [intOf]; omega⟩
      have h := HD.out
      unfold dclN at h
      rw [if_neg h10, decN_dcl (m / 10), List.append_assoc] at h
      exact h
end Go.Proofs.YtanbplnagcmlcaaDoor

/- Layer 24: what the laws take for granted (awake); ScriptNumbers' walk. -/
namespace Go.Proofs.YtanbplnagcmlcaaDoor
open Go.RowKit
def ev1 : Ev := ⟨1, 2, 0, [97, 10]⟩
def ev2 : Ev := ⟨4, 1, 50, []⟩
theorem ev1_ok : ev1.ok := ⟨by decide, by decide, by decide, by decide, .inl rfl, by decide⟩
theorem ev2_ok : ev2.ok := ⟨by decide, by decide, by decide, by decide, .inr rfl, by decide⟩
theorem ev1_line : lineL ev1 = [100, 97, 116, 97, 32, 50, 32, 34, 97, 92, 48, 49, 50, 34] := by
  rw [lineL_eq ev1 ev1_ok]
  show wordL 1 ++ 32 :: (decN 2 ++ 32 :: quoteL [97, 10]) = _
  rw [decN_small (by omega)]
  decide
theorem ev2_line : lineL ev2 = [119, 105, 110, 100, 111, 119, 32, 49, 32, 53, 48] := by
  rw [lineL_eq ev2 ev2_ok]
  show wordL 4 ++ 32 :: (decN 1 ++ 32 :: decN 50) = _
  rw [decN_small (by omega), decN_step (n := 50) (by omega), decN_small (n := 50 / 10) (by omega)]
  decide
theorem rb_lit (W : World) (l : List Nat) (hl : ∀ x ∈ l, x < 256) (a : Array Value) (ha : a = nums l) : RB (W.alloc (.cells a 5)) (W.heap.size + 1) (some ⟨W.heap.size, 0, none⟩) l := by
  subst ha; exact rb_row W l hl 5 (0, 0)
theorem rb_nil (W : World) (B : Nat) (A : Option Addr) : RB W B A [] := ⟨by simp, by simp⟩
theorem same24_nil (k c n : Int) (A1 A2 : Option Addr) (c1 c2 : Nat) (w : World) :
    Calls Tryd.prog 11 #[.agg #[.int .i64 k, .int .i64 c, .int .i64 n, .slice A1 0 c1], .agg #[.int .i64 k, .int .i64 c, .int .i64 n, .slice A2 0 c2]] w fun e w' => e = .returned (.bool true) ∧ Below w.heap.size w w' :=
  same24_yes k c n [] A1 A2 c1 c2 w (Nat.zero_le _) (rb_nil _ 0 _) (rb_nil _ 0 _) (fun _ => rfl) (fun _ => rfl)
theorem line_ev1 (w : World) (hT : TabOk w) (f : Nat × Nat) : Calls Tryd.prog 7 #[.agg #[.int .i64 1, .int .i64 2, .int .i64 0, .slice (some ⟨w.heap.size, 0, none⟩) 2 2]] (w.alloc (.cells #[.int .u8 97, .int .u8 10] 5 f)) (fun e w' => e = .returned (.tuple #[.string { data := #[100, 97, 116, 97, 32, 50, 32, 34, 97, 92, 48, 49, 50, 34] }, .nilIface]) ∧ Below w.heap.size w w') := by
  have q1 : Below w.heap.size w (w.alloc (.cells #[.int .u8 97, .int .u8 10] 5 f)) := (Below.refl _ _).alloc (Nat.le_refl _) _
  have h1 := line_ok ev1 ev1_ok (some ⟨w.heap.size, 0, none⟩) 2 (by decide) _ (hT.below q1) (B := w.heap.size + 1) (by simp) (rb_row w [97, 10] (by decide) 5 f)
  rw [ev1_line] at h1
  exact h1.mono fun e w' h => ⟨h.1, q1.trans (h.2.mono (by simp))⟩
set_option maxRecDepth 100000 in
set_option maxHeartbeats 1600000 in
theorem awake24_any (w : World) (hT : TabOk w) : Calls Tryd.prog 6 #[] w fun e w' => e = .returned (.bool true) ∧ Below w.heap.size w w' := by
  have kc := fun (w : World) (C : Array Value) (n c : Nat) => Lib.run_convert_bytes_const (P := Tryd.prog) w 27 5 C n c Tryd.underlying27 Tryd.underlying5
  have h2 : ∀ W, Calls Tryd.prog 9 #[.string { data := #[119, 105, 110, 100, 111, 119, 32, 49, 32, 53, 48] }] W (fun x w' => (∃ v, x = .returned (.tuple #[.agg #[.int .i64 4, .int .i64 1, .int .i64 50, v], .nilIface]) ∧ OB w' W.heap.size v []) ∧ Below W.heap.size W w') := fun W => by
    have := read_ok ev2 ev2_ok W
    rw [ev2_line] at this
    exact this
  have HT := Lib.hid hT
  have H2 := Lib.hid h2
  clear h2 hT
  go_enter Tryd.func6, Tryd.ntmps6
  go_wp2_with (first
    | (go_at_call 7; (with_reducible refine (line_ev1 w HT.out _).mono ?_); rintro e w1 ⟨rfl, b1⟩; have z1 := b1.size)
    | (go_at_call 9; (with_reducible refine (H2.out _).mono ?_); rintro e w2 ⟨⟨v, rfl, ho⟩, b2⟩; obtain ⟨A, c, rfl, hc, hr, hn⟩ := ho.slice; clear ho hr hn; have z2 := b2.size)
    | (go_at_call 11; (with_reducible refine (same24_nil 4 1 50 A none c 0 _).mono ?_); rintro e w3 ⟨rfl, b3⟩)
    | fail)
  go_ret
  exact ⟨rfl, by (repeat' (first | (with_reducible exact Below.refl _ _) | (refine Below.trans ?_ (Below.mono (by with_reducible assumption) ?_)) | (with_reducible exact Below.refl _ _) | (with_reducible refine below_drewN ?_ _) | (with_reducible refine Below.drew ?_) | (with_reducible refine Below.setCell ?_ ?_ _) | (with_reducible refine Below.alloc ?_ ?_ _) | (with_reducible assumption) | (simp; done) | (simp; omega) | omega))⟩
end Go.Proofs.YtanbplnagcmlcaaDoor

/- fieldfarelaw24.ScriptNumbers: the walk. -/
namespace Go.Proofs.YtanbplnagcmlcaaDoor
open Go.RowKit
def evT (n : Nat) : Ev := ⟨7, 0, n, []⟩
theorem evT_ok {n : Nat} (hn : n ≤ 1099511627776) : (evT n).ok := ⟨(by show 7 < 8; omega), rfl, decide_eq_true (by show (0 : Int) ≤ (n : Int) ∧ (n : Int) ≤ 1099511627776; omega), Nat.zero_le _, .inr rfl, fun x hx => by cases hx⟩
set_option maxRecDepth 100000 in
set_option maxHeartbeats 1600000 in
theorem snumbers_law (n : Int) (w : World) (hn : -9223372036854775808 ≤ n ∧ n < 9223372036854775808) (hT : TabOk w) :
    Calls Tryd.prog 3 #[.int .i64 n] w fun e w' => e = .returned (.bool true) ∧ Below w.heap.size w w' := by
  have HT := Lib.hid hT
  clear hT
  by_cases hr : 0 ≤ n ∧ n ≤ 1099511627776
  · obtain ⟨m, rfl⟩ : ∃ m : Nat, n = (m : Int) := ⟨n.toNat, by omega⟩
    have hm : m ≤ 1099511627776 := by omega
    have hl : ∀ W, TabOk W → Calls Tryd.prog 7 #[.agg #[.int .i64 7, .int .i64 0, .int .i64 (m : Int), .slice none 0 0]] W fun x w' => x = .returned (.tuple #[.string (strN (lineL (evT m))), .nilIface]) ∧ Below W.heap.size W w' := fun W h =>
      line_ok (evT m) (evT_ok hm) none 0 (Nat.le_refl _) W h (Nat.zero_le _) (rb_nil W 0 none)
    have hrd : ∀ W, Calls Tryd.prog 9 #[.string (strN (lineL (evT m)))] W fun x w' => (∃ v, x = .returned (.tuple #[.agg #[.int .i64 7, .int .i64 0, .int .i64 (m : Int), v], .nilIface]) ∧ OB w' W.heap.size v []) ∧ Below W.heap.size W w' := fun W => read_ok (evT m) (evT_ok hm) W
    have hap : ({ data := #[116, 105, 99, 107, 32] } : ByteArray) ++ strN (decN m) = strN (lineL (evT m)) := by
      rw [lineL_eq _ (evT_ok hm)]
      show strN [116, 105, 99, 107, 32] ++ strN (decN m) = strN (wordL 7 ++ 32 :: decN m)
      rw [strN_app]; rfl
    have hs : (strN (decN m)).size ≤ 13 := by rw [strN_size]; exact dec13 hm
    have hdc := fun W => decimal_any m hm W
    have HL := Lib.hid hl
    have HR := Lib.hid hrd
    have HD := Lib.hid hdc
    generalize strN (lineL (evT m)) = S at HL HR hap
    generalize strN (decN m) = D at HD hap hs
    have e2 : ((m : Int) == m) = true := by simp
    clear hl hrd hdc hr hn
    go_enter Tryd.func3, Tryd.ntmps3
    go_wp2_with (first
      | (go_at_call 6; (with_reducible refine (awake24_any w HT.out).mono ?_); rintro e w1 ⟨rfl, b1⟩; have HT1 := Lib.hid (HT.out.below b1); have HB1 := Lib.hid b1; clear b1)
      | (go_at_call 7; (with_reducible refine (HL.out _ HT1.out).mono ?_); rintro e w2 ⟨rfl, b2⟩; have HB2 := Lib.hid (below_step HB1.out b2); clear b2)
      | (go_at_call 9; (with_reducible refine (HR.out _).mono ?_); rintro e w3 ⟨⟨v, rfl, ho⟩, b3⟩; obtain ⟨A, c, rfl, _, _, _⟩ := ho.slice; clear ho; have HB3 := Lib.hid (below_step HB2.out b3); have b4x_3 := Lib.hid (Box4.make w3 (.int .i64 7) (.int .i64 0) (.int .i64 (m : Int)) (.slice A 0 c) 29 rfl); have b4x_30 := b4x_3.out.c0; have b4x_31 := b4x_3.out.c1; have b4x_32 := b4x_3.out.c2; have b4x_33 := b4x_3.out.c3; have b4x_3f0 := b4x_3.out.f0; have b4x_3f1 := b4x_3.out.f1; have b4x_3f2 := b4x_3.out.f2; have b4x_3f3 := b4x_3.out.f3; have b4x_3z := b4x_3.out.z; clear b3)
      | (go_at_call 10; (with_reducible refine (HD.out _).mono ?_); rintro e w4 ⟨rfl, b4⟩; have b4x_4 := Lib.hid (Box4.below b4x_3.out b4); have b4x_40 := b4x_4.out.c0; have b4x_41 := b4x_4.out.c1; have b4x_42 := b4x_4.out.c2; have b4x_43 := b4x_4.out.c3; have b4x_4f0 := b4x_4.out.f0; have b4x_4f1 := b4x_4.out.f1; have b4x_4f2 := b4x_4.out.f2; have b4x_4f3 := b4x_4.out.f3; have b4x_4z := b4x_4.out.z; have HB4 := Lib.hid ((HB3.out.alloc HB3.out.size (.cells #[.int .i64 7, .int .i64 0, .int .i64 (m : Int), .slice A 0 c] 29)).trans (b4.mono (by have := HB3.out.size; simp; omega))); clear b4)
      | fail)
    go_ret
    exact ⟨rfl, HB4.out⟩
  · have hl : ∀ W, Calls Tryd.prog 7 #[.agg #[.int .i64 7, .int .i64 0, .int .i64 n, .slice none 0 0]] W fun x w' => x = .returned (.tuple #[.string { data := #[] }, .iface 43 (.int .i64 4)]) ∧ Below W.heap.size W w' := fun W =>
      line_no 7 0 n (by unfold I64s; omega) (by unfold I64s; omega) hn none 0 0 (Nat.zero_le _) (by
        rintro ⟨_, _, _, h, _⟩
        have h2 : rightB n true = true := h
        unfold rightB at h2
        simp at h2
        omega) W
    have HL := Lib.hid hl
    clear hl
    by_cases h0 : n < 0
    case' pos => have d0 : decide (n < 0) = true := decide_eq_true h0
    case' neg => (have d0 : decide (n < 0) = false := decide_eq_false h0); have d1 : decide (1099511627776 < n) = true := decide_eq_true (by omega)
    all_goals
      clear h0 hr
      go_enter Tryd.func3, Tryd.ntmps3
      go_wp2_with (first
        | (go_at_call 6; (with_reducible refine (awake24_any w HT.out).mono ?_); rintro e w1 ⟨rfl, b1⟩; have HB1 := Lib.hid b1; clear b1)
        | (go_at_call 7; (with_reducible refine (HL.out _).mono ?_); rintro e w2 ⟨rfl, b2⟩; have HB2 := Lib.hid (below_step HB1.out b2); clear b2)
        | (go_at_call 8; (with_reducible refine (code_errno 4 (by omega) (by omega) _).mono ?_); rintro e w3 ⟨rfl, rfl⟩)
        | fail)
      go_ret
      exact ⟨rfl, HB2.out⟩
end Go.Proofs.YtanbplnagcmlcaaDoor

/- Slices as lists of cells; blocks known whole; appending to rows that a call owns. -/
namespace Go.Proofs.YtanbplnagcmlcaaDoor
open Go.RowKit
def Reads (w : World) (B size : Nat) (A : Option Addr) (n : Nat) (xs : List Value) : Prop :=
  xs.length = n * size ∧ (0 < n → ∃ ad, A = some ad ∧ ad.block < B ∧ ∀ j u, xs[j]? = some u → w.cell? (ad.add j) = some u)

section
variable {w w' : World} {B B' size n : Nat} {A : Option Addr} {xs : List Value}
theorem Reads.none_ : Reads w B size A 0 [] := ⟨by simp, fun h => absurd h (by omega)⟩
theorem Reads.at_ {k : Nat} (h : Reads w B 1 A n xs) (hk : k < n) : ∃ ad u, A = some ad ∧ ad.block < B ∧ xs[k]? = some u ∧ w.cell? (ad.add k) = some u := by
  obtain ⟨ad, e, hb, hc⟩ := h.2 (by omega)
  have hl : k < xs.length := by have := h.1; omega
  exact ⟨ad, xs[k], e, hb, List.getElem?_eq_getElem hl, hc k _ (List.getElem?_eq_getElem hl)⟩
theorem Reads.keep (h : Reads w B size A n xs) (hk : ∀ p : Addr, p.block < B → w'.cell? p = w.cell? p) : Reads w' B size A n xs :=
  ⟨h.1, fun hn => by
    obtain ⟨ad, e, hb, hc⟩ := h.2 hn
    exact ⟨ad, e, hb, fun j u hu => (hk _ (by rw [block_of_add]; exact hb)).trans (hc j u hu)⟩⟩
theorem Reads.more (h : Reads w B size A n xs) (hB : B ≤ B') : Reads w B' size A n xs :=
  ⟨h.1, fun hn => by
    obtain ⟨ad, e, hb, hc⟩ := h.2 hn
    exact ⟨ad, e, by omega, hc⟩⟩
theorem Reads.below (h : Reads w B size A n xs) (hb : Below B w w') : Reads w' B size A n xs := h.keep fun _ hp => hb.cell hp
theorem Reads.drew (h : Reads w B size A n xs) : Reads w.drew B size A n xs := h
theorem Reads.drewN (h : Reads w B size A n xs) (k : Nat) : Reads (w.drewN k) B size A n xs := h
theorem Reads.alloc (h : Reads w B size A n xs) (hB : B ≤ w.heap.size) (o : Obj) : Reads (w.alloc o) B size A n xs := h.keep fun p hp => World.cell?_alloc_lt w o p (by omega)
theorem Reads.setCell (h : Reads w B size A n xs) {p : Addr} (hB : B ≤ p.block) (u : Value) : Reads (w.setCell p u) B size A n xs :=
  h.keep fun q hq => World.cell?_setCell_other w p q u (fun e => by subst e; omega)
theorem Reads.grown (h : Reads w B size A n xs) {row : Option Nat} (hg : w.grownBy w' row) (hB : B ≤ w.heap.size) (hr : ∀ g, row = some g → B ≤ g) : Reads w' B size A n xs :=
  h.keep fun p hp => World.cell?_of_block (hg.block p.block (by omega) (fun e => by have := hr _ e.symm; omega))
theorem Reads.cut (h : Reads w B size A n xs) {k cap : Nat} (hk : k ≤ n) (hc : n ≤ cap) :
    Reads w B size (if cap = k then A else A.map (·.add (k * size))) (n - k) (xs.drop (k * size)) := by
  refine ⟨by rw [List.length_drop, h.1, Nat.sub_mul], fun hn => ?_⟩
  obtain ⟨ad, rfl, hb, hcell⟩ := h.2 (by omega)
  rw [if_neg (by omega)]
  refine ⟨ad.add (k * size), rfl, by rw [block_of_add]; exact hb, fun j u hu => ?_⟩
  rw [add_of_add]
  exact hcell _ u (by rw [← hu, List.getElem?_drop])
theorem Reads.of_own {base : Nat} {e : TypeId} {c : Nat} (h : w.ownsRow base e size (.slice A n c) n xs) : Reads w w.heap.size size A n xs := by
  refine ⟨h.1, fun hn => ?_⟩
  obtain ⟨g, cap, hv, _, hlt⟩ := h.form hn
  have hA : A = some ⟨g, 0, none⟩ := by injection hv
  subst hA
  exact ⟨_, rfl, hlt, h.cells (g := g) rfl⟩
end
def Blk (w : World) (g : Nat) (t : TypeId) (cs : Array Value) : Prop := w.heap[g]? = some (.cells cs t (0, 0))

section
variable {w w' : World} {g : Nat} {t : TypeId} {cs : Array Value}
theorem Blk.lt (h : Blk w g t cs) : g < w.heap.size := by
  rcases Nat.lt_or_ge g w.heap.size with hlt | hge
  · exact hlt
  · unfold Blk at h; rw [Array.getElem?_eq_none hge] at h; cases h
theorem Blk.cell (h : Blk w g t cs) (i : Nat) : w.cell? ⟨g, i, none⟩ = cs[i]? := cell_of_row w g i cs t (0, 0) h
theorem Blk.frozen (h : Blk w g t cs) (i : Nat) : w.frozen? ⟨g, i, none⟩ = false := by
  unfold Blk at h
  simp [World.frozen?, h]
theorem Blk.new (w : World) (t : TypeId) (cs : Array Value) : Blk (w.alloc (.cells cs t)) w.heap.size t cs := heap_alloc_new w _
theorem Blk.drew (h : Blk w g t cs) : Blk w.drew g t cs := h
theorem Blk.drewN (h : Blk w g t cs) (n : Nat) : Blk (w.drewN n) g t cs := h
theorem Blk.alloc (h : Blk w g t cs) (o : Obj) : Blk (w.alloc o) g t cs := (Below.heap_alloc w o g h.lt).trans h
theorem Blk.set_ (h : Blk w g t cs) (i : Nat) (u : Value) : Blk (w.setCell ⟨g, i, none⟩ u) g t (cs.setIfInBounds i u) := by
  unfold Blk at h ⊢
  simp [World.setCell, Array.getElem?_modify, h]
theorem Blk.far (h : Blk w g t cs) {p : Addr} (hp : g ≠ p.block) (u : Value) : Blk (w.setCell p u) g t cs := (Below.heap_setCell w p u g hp).trans h
theorem Blk.below {B : Nat} (h : Blk w g t cs) (hb : Below B w w') (hg : g < B) : Blk w' g t cs := (hb.block g hg).trans h
theorem Blk.grown {row : Option Nat} (h : Blk w g t cs) (hb : w.grownBy w' row) (hg : some g ≠ row) : Blk w' g t cs := (hb.block g h.lt hg).trans h
theorem Blk.ne_ {g' : Nat} {t' : TypeId} {cs' : Array Value} (h : Blk w g t cs) (h' : Blk w g' t' cs') (hne : t ≠ t') : g ≠ g' := by
  rintro rfl
  unfold Blk at h h'
  rw [h] at h'
  injection h' with h'
  injection h' with _ ht
  exact hne ht
theorem own_blk_ne {base : Nat} {e : TypeId} {size n : Nat} {v : Value} {xs : List Value} (h : w.ownsRow base e size v n xs) (hg : Blk w g t cs) (hne : e ≠ t) : v.ownBlock ≠ some g := by
  rcases h.2 with ⟨rfl, _⟩ | ⟨g', cap, cur, rfl, _, hh, _⟩
  · simp [Value.ownBlock]
  · intro he
    have : g' = g := by simpa [Value.ownBlock] using he
    subst this
    exact Blk.ne_ (t := e) hh hg hne rfl
end
section
variable {P : Program} (w : World)

theorem run_append_of_nil (base : Nat) (t ty e : TypeId) (i : TypeInfo) (size : Nat) (ht : P.underlying t = some (.slice e)) (hi : P.info? e = some i)
    (v : Value) (n : Nat) (xs : List Value) (hown : w.ownsRow base e size v n xs) (c : Nat) : (Builtin.append_ #[t, t] ty #[v, .slice none 0 c]).run P w = .ok v w := by
  rcases hown.2 with ⟨rfl, rfl⟩ | ⟨g, cap, cur, rfl, _, _, hnc, _⟩
  · simp [Builtin.append_, run_underlying ht, sizeOf, typeInfo, hi, Builtin.lenOf, Builtin.firstCells]
  · simp [Builtin.append_, run_underlying ht, sizeOf, typeInfo, hi, Builtin.lenOf, Builtin.firstCells, hnc, storeCells]

theorem run_append_any (base : Nat) (t ty e : TypeId) (i : TypeInfo) (z : Value) (size bytes : Nat) (ht : P.underlying t = some (.slice e)) (hi : P.info? e = some i) (hz : i.zero = some z)
    (hsize : i.size = size) (hby : i.bytes = bytes) (hzs : z.cells.size = size) (hsz : 0 < size)
    (v : Value) (n : Nat) (xs : List Value) (hown : w.ownsRow base e size v n xs)
    (B : Nat) (A : Option Addr) (m c : Nat) (news : List Value) (hr : Reads w B size A m news) (h1 : ∀ u ∈ news, u.oneCell' = true)
    (h63 : n + m ≤ maxLen) (hbytes : (n + m) * bytes ≤ 140737488355328) (hbase : base ≤ w.heap.size) :
    ∃ v' w', (Builtin.append_ #[t, t] ty #[v, .slice A m c]).run P w = .ok v' w' ∧ w'.ownsRow base e size v' (n + m) (xs ++ news) ∧ w.grownBy w' v.ownBlock ∧
      (v'.ownBlock = v.ownBlock ∨ v'.ownBlock = some w.heap.size) := by
  rcases A with _ | ad
  · have hm : m = 0 := by
      rcases Nat.eq_zero_or_pos m with h0 | h0
      · exact h0
      · obtain ⟨ad, h, _⟩ := hr.2 h0
        cases h
    subst hm
    have hn : news = [] := List.eq_nil_of_length_eq_zero (by simpa using hr.1)
    subst hn
    exact ⟨v, w, run_append_of_nil w base t ty e i size ht hi v n xs hown c, by simpa using hown, World.grownBy.refl w _, .inl rfl⟩
  · have hcells : ∀ j u, news[j]? = some u → w.cell? (ad.add j) = some u := by
      intro j u hu
      rcases Nat.eq_zero_or_pos m with h0 | h0
      · subst h0
        have hn : news = [] := List.eq_nil_of_length_eq_zero (by simpa using hr.1)
        subst hn
        simp at hu
      · obtain ⟨ad', h, _, hc⟩ := hr.2 h0
        injection h with h
        subst h
        exact hc j u hu
    obtain ⟨v', w', hrun, h2, h3, _, h5⟩ := run_append_own_at (P := P) w base t ty e i z size bytes ht hi hz hsize hby hzs hsz v n xs hown ad m c news hr.1 hcells h1 h63 hbytes hbase
    exact ⟨v', w', hrun, h2, h3, h5⟩

theorem wp_append_any {o : Oper} {a : Act} {K : Act → World → Prop} {Q : Exit → Act → World → Prop} (s x : Operand) (t : TypeId)
    (ho : o.op = .call { callee := .builtin .append, args := #[s, x], argTypes := #[t, t] })
    (base : Nat) (e : TypeId) (i : TypeInfo) (z : Value) (size bytes : Nat) (ht : P.underlying t = some (.slice e)) (hi : P.info? e = some i) (hz : i.zero = some z)
    (hsize : i.size = size) (hby : i.bytes = bytes) (hzs : z.cells.size = size) (hsz : 0 < size)
    (v : Value) (n : Nat) (xs : List Value) (hs : a.eval s = v) (hown : w.ownsRow base e size v n xs)
    (B : Nat) (A : Option Addr) (m c : Nat) (news : List Value) (hx : a.eval x = .slice A m c) (hr : Reads w B size A m news) (h1 : ∀ u ∈ news, u.oneCell' = true)
    (h63 : n + m ≤ maxLen) (hbytes : (n + m) * bytes ≤ 140737488355328) (hbase : base ≤ w.heap.size)
    (h : ∀ v' w', w'.ownsRow base e size v' (n + m) (xs ++ news) → w.grownBy w' v.ownBlock → (v'.ownBlock = v.ownBlock ∨ v'.ownBlock = some w.heap.size) → K (a.put o.dst v') w') : o.wp P a w K Q := by
  obtain ⟨v', w', hrun, h2, h3, h4⟩ := run_append_any (P := P) w base t o.type e i z size bytes ht hi hz hsize hby hzs hsz v n xs hown B A m c news hr h1 h63 hbytes hbase
  unfold Oper.wp execOp
  simp only [ho, resolve, invoke, builtin, Sem.run_bind, Sem.run_pure, Result.andThen_ok, List.map_toArray, List.map_cons, List.map_nil, hs, hx, hrun]
  exact h v' w' h2 h3 h4

theorem wpList_append_any {ops : Array Oper} {rest : List Oper} {o : Oper} {a : Act} {Q : Exit → Act → World → Prop} (hgd : o.guard = none) (s x : Operand) (t : TypeId)
    (ho : o.op = .call { callee := .builtin .append, args := #[s, x], argTypes := #[t, t] })
    (base : Nat) (e : TypeId) (i : TypeInfo) (z : Value) (size bytes : Nat) (ht : P.underlying t = some (.slice e)) (hi : P.info? e = some i) (hz : i.zero = some z)
    (hsize : i.size = size) (hby : i.bytes = bytes) (hzs : z.cells.size = size) (hsz : 0 < size)
    (v : Value) (n : Nat) (xs : List Value) (hs : a.eval s = v) (hown : w.ownsRow base e size v n xs)
    (B : Nat) (A : Option Addr) (m c : Nat) (news : List Value) (hx : a.eval x = .slice A m c) (hr : Reads w B size A m news) (h1 : ∀ u ∈ news, u.oneCell' = true)
    (h63 : n + m ≤ maxLen) (hbytes : (n + m) * bytes ≤ 140737488355328) (hbase : base ≤ w.heap.size)
    (h : ∀ v' w', w'.ownsRow base e size v' (n + m) (xs ++ news) → w.grownBy w' v.ownBlock → (v'.ownBlock = v.ownBlock ∨ v'.ownBlock = some w.heap.size) → wpList P ops Q rest (a.put o.dst v') w') : wpList P ops Q (o :: rest) a w :=
  wpList_plain hgd fun _ hK => wp_append_any w s x t ho base e i z size bytes ht hi hz hsize hby hzs hsz v n xs hs hown B A m c news hx hr h1 h63 hbytes hbase fun v' w' h2 h3 h4 => hK _ _ (h v' w' h2 h3 h4)

theorem step_append_any {ops : Array Oper} {o : Oper} {a : Act} {K : Act → World → Prop} {Q : Exit → Act → World → Prop} {E : Prop} (hgd : o.guard = none) (s x : Operand) (t : TypeId)
    (ho : o.op = .call { callee := .builtin .append, args := #[s, x], argTypes := #[t, t] })
    (base : Nat) (e : TypeId) (i : TypeInfo) (z : Value) (size bytes : Nat) (ht : P.underlying t = some (.slice e)) (hi : P.info? e = some i) (hz : i.zero = some z)
    (hsize : i.size = size) (hby : i.bytes = bytes) (hzs : z.cells.size = size) (hsz : 0 < size)
    (v : Value) (n : Nat) (xs : List Value) (hs : a.eval s = v) (hown : w.ownsRow base e size v n xs)
    (B : Nat) (A : Option Addr) (m c : Nat) (news : List Value) (hx : a.eval x = .slice A m c) (hr : Reads w B size A m news) (h1 : ∀ u ∈ news, u.oneCell' = true)
    (h63 : n + m ≤ maxLen) (hbytes : (n + m) * bytes ≤ 140737488355328) (hbase : base ≤ w.heap.size)
    (h : ∀ v' w', w'.ownsRow base e size v' (n + m) (xs ++ news) → w.grownBy w' v.ownBlock → (v'.ownBlock = v.ownBlock ∨ v'.ownBlock = some w.heap.size) → K (a.put o.dst v') w') :
    if Region.wanted o (yielded ops a.tmps) = true then Oper.wp P o a w K Q else E := by
  have hw : Region.wanted o (yielded ops a.tmps) = true := by simp [Region.wanted, hgd]
  rw [if_pos hw]
  exact wp_append_any w s x t ho base e i z size bytes ht hi hz hsize hby hzs hsz v n xs hs hown B A m c news hx hr h1 h63 hbytes hbase h
end
end Go.Proofs.YtanbplnagcmlcaaDoor

/- Layer 24: the lines of a text, one by one. -/
namespace Go.Proofs.YtanbplnagcmlcaaDoor
open Go.RowKit Go.Shelf
attribute [local go_sem] Oper.semAt_some
/-- Lines, each with a newline behind. -/
def joinT (l : List (List Nat)) : List Nat := l.flatMap fun x => x ++ [10]
theorem joinT_cons (x : List Nat) (l : List (List Nat)) : joinT (x :: l) = x ++ 10 :: joinT l := by unfold joinT; simp
structure LinesOk (l : List (List Nat)) : Prop where
  no : ∀ x ∈ l, 10 ∉ x
  lt : ∀ x ∈ l, ∀ y ∈ x, y < 256
  len : (joinT l).length ≤ 1000000
theorem LinesOk.drop {l : List (List Nat)} (h : LinesOk l) (k : Nat) : LinesOk (l.drop k) := by
  refine ⟨fun x hx => h.no x (List.mem_of_mem_drop hx), fun x hx => h.lt x (List.mem_of_mem_drop hx), ?_⟩
  have e : joinT l = joinT (l.take k) ++ joinT (l.drop k) := by
    conv => lhs; rw [← List.take_append_drop k l]
    unfold joinT; rw [List.flatMap_append]
  have := h.len
  rw [e, List.length_append] at this
  omega
theorem joinT_lt {l : List (List Nat)} (h : LinesOk l) : ∀ x ∈ joinT l, x < 256 := by
  intro x hx
  obtain ⟨y, hy, hx⟩ := List.mem_flatMap.1 hx
  rcases List.mem_append.1 hx with hx | hx
  · exact h.lt y hy x hx
  · rw [List.mem_singleton] at hx; omega
theorem cut10 (x : List Nat) (l : List (List Nat)) (h : LinesOk (x :: l)) (W : World) :
    Calls Tryd.prog 20 #[.string (strN (joinT (x :: l))), .string { data := #[10] }] W fun e w' => e = .returned (.tuple #[.string (strN x), .string (strN (joinT l)), .bool true]) ∧ Below W.heap.size W w' := by
  have hc := cut_any (joinT (x :: l)) (joinT_lt h) (by have := h.len; omega) 10 (by decide) W
  rw [joinT_cons, cut_app 10 x (joinT l) (h.no x (List.mem_cons_self ..))] at hc
  rw [joinT_cons]
  exact hc
theorem lines_any (S : ByteArray) (w : World) : Calls Tryd.prog 24 #[.string S] w fun e w' => e = .returned (.func (.func 34) #[] #[.pointer (some ⟨w.heap.size, 0, none⟩)]) ∧ w' = w.alloc (.cells #[.string S] 9) := by
  go_enter Tryd.func24, Tryd.ntmps24
  go_wp2
  go_ret
  exact ⟨rfl, rfl⟩
def encL (l : List (List Nat)) (k : Nat) : Array Value := #[.int .i64 ((k : Int) + 1), .string (strN (l.getD k []))]
theorem stab_below {Bt : Nat} {J : World → Prop} (h : Stab Bt J) {W W' : World} (q : Below W.heap.size W W') (hj : J W) : J W' :=
  h.grow W W' hj ⟨q.os, q.tape, q.output, q.size, fun k hk _ => q.block k hk⟩
set_option maxRecDepth 100000 in
set_option maxHeartbeats 1600000 in
theorem lines1_seq (l : List (List Nat)) (h : LinesOk l) (hlen : l.length ≤ 100000) (n : Nat) (hn : 1 ≤ n) (Bt : Nat) (w : World) (hb : Blk w Bt 9 #[.string (strN (joinT l))]) :
    Seq Fence.wide n Tryd.prog 34 #[.pointer (some ⟨Bt, 0, none⟩)] (encL l) Bt l.length w := by
  intro lp J Jx W hW hS hY h0
  have hbW := hb.below hW hb.lt
  refine callsIn_of_wp Tryd.func34 rfl trivial ?_
  simp only [Tryd.ntmps34, List.size_toArray, List.length_cons, List.length_nil, Nat.reduceAdd, Nat.reduceSub, Array.replicate_succ, Array.replicate_zero, List.push_toArray, List.append_toArray, List.nil_append, List.cons_append]
  gi_wp2
  have HY := Lib.hid hY
  have HS := Lib.hid hS
  have HB := Lib.hid hbW
  have HOK := Lib.hid h
  clear hY hS hbW h hb hW
  gi_loopw [3] (fun i wr => ∃ k : Nat, i = .int .i64 ((k : Int) + 1) ∧ k ≤ l.length ∧ Hid (Blk wr Bt 9 #[.string (strN (joinT (l.drop k)))]) ∧ Hid (J k wr)) (fun i _ => l.length + 1 - (intOf i).toNat)
  case atStart => exact ⟨0, rfl, Nat.zero_le _, HB, Lib.hid h0⟩
  case round =>
    obtain ⟨k, rfl, hk, HBr, HJ⟩ := hrel
    have c0 := HBr.out.cell 0
    have f0 := HBr.out.frozen 0
    have z0 := HBr.out.lt
    simp only [List.getElem?_toArray, List.getElem?_cons_zero] at c0
    by_cases hlt : k < l.length
    · have hdr : l.drop k = l[k] :: l.drop (k + 1) := List.drop_eq_getElem_cons hlt
      have hok := HOK.out.drop k
      have hy := HY.out k
      have hek : encL l k = #[.int .i64 ((k : Int) + 1), .string (strN l[k])] := by unfold encL; simp [List.getD, hlt]
      rw [hek] at hy
      rw [hdr] at hok c0
      generalize l[k] = x at hdr hok hy c0
      have hne : (strN (joinT (x :: l.drop (k + 1)))).toList.isEmpty = false := strN_full _ (by rw [joinT_cons]; simp; omega)
      have hcut := fun W => cut10 x (l.drop (k + 1)) hok W
      have HC := Lib.hid hcut
      have HYk := Lib.hid hy
      generalize strN (joinT (x :: l.drop (k + 1))) = S at c0 hne HC
      clear hcut hy hek hdr hok
      gi_wp2_with (refine ⟨trivial, ?_⟩; gi_at_call 20; refine (callsIn_wide.2 (HC.out _)).mono ?_; rintro e w1 ⟨rfl, b1⟩; have hb1 := HBr.out.below b1 HBr.out.lt; have c1 := hb1.cell 0; have f1 := hb1.frozen 0; have z1 := hb1.lt; simp only [List.getElem?_toArray, List.getElem?_cons_zero] at c1; have HB2 := Lib.hid (hb1.set_ 0 (.string (strN (joinT (l.drop (k + 1)))))); obtain ⟨fn, tmps, assign, body, hy, hR⟩ := HYk.out _ ((HS.out k).put _ (.string (strN (joinT (l.drop (k + 1))))) (stab_below (HS.out k) b1 HJ.out)) hlt; clear b1 hb1)
      refine hR.mono ?_
      rintro e W3 (⟨rfl, hJ3, hk3⟩ | ⟨rfl, hJx3⟩)
      · have HB3 : Hid (Blk W3 Bt 9 #[.string (strN (joinT (l.drop (k + 1))))]) := Lib.hid (hk3.trans HB2.out)
        have HJ3 := Lib.hid hJ3
        clear hJ3 hk3 hR hy
        gi_wp2
        go_roundw
        case rel => exact ⟨k + 1, by go_num, by omega, HB3, HJ3⟩
        case measure => simp [intOf]; omega
      · clear hR hy
        gi_wp2
        refine bodyPost_ret (results_none rfl _ _ _) rfl ?_
        exact ⟨⟨_, rfl⟩, .inr hJx3⟩
    · obtain rfl : k = l.length := by omega
      rw [List.drop_length] at c0
      have c0' : wr.cell? ⟨Bt, 0, none⟩ = some (.string { data := #[] }) := c0
      clear c0
      gi_wp2
      go_end0
      exact ⟨⟨_, rfl⟩, .inl HJ.out⟩
end Go.Proofs.YtanbplnagcmlcaaDoor

/- Layer 24: a script's events. -/
namespace Go.Proofs.YtanbplnagcmlcaaDoor
open Go.RowKit Go.Shelf
attribute [local go_sem] Oper.semAt_some
/-- What stands on a line: an event; nothing, or a remark; 'none', which is no line. -/
inductive Item where
  | ev (e : Ev)
  | skip (b : List Nat)
  | bad
def Item.line : Item → List Nat
  | .ev e => lineL e
  | .skip b => b
  | .bad => [110, 111, 110, 101]
def Item.ok : Item → Prop
  | .ev e => e.ok ∧ e.bs.length ≤ 60
  | .skip b => (∀ x ∈ b, x < 256) ∧ 10 ∉ b ∧ (b = [] ∨ b[0]? = some 35)
  | .bad => True
def textI (l : List Item) : List (List Nat) := l.map Item.line
theorem line_len (e : Ev) (he : e.ok) (hb : e.bs.length ≤ 60) : (lineL e).length ≤ 300 := by
  have h1 := word_len e.k
  have h2 := dec13 (right_le he.c)
  have h3 := dec13 (right_le he.n)
  have h4 := quote_len e.bs
  unfold lineL line2 line1
  split <;> split <;> split <;> (try simp) <;> omega
theorem quote_no10 (bs : List Nat) : 10 ∉ quoteL bs := by
  intro h
  unfold quoteL at h
  rcases List.mem_cons.1 h with h | h
  · omega
  · rcases List.mem_append.1 h with h | h
    · obtain ⟨c, _, h⟩ := List.mem_flatMap.1 h
      unfold escL at h
      split at h
      · rename_i hp
        rw [List.mem_singleton] at h
        subst h
        exact absurd hp (by decide)
      · simp at h; omega
    · rw [List.mem_singleton] at h; omega
theorem dec_no10 (n : Nat) : 10 ∉ decN n := fun h => by have := decN_dig n 10 h; omega
theorem word_no10 (k : Nat) : 10 ∉ wordL k := by unfold wordL; split <;> decide
theorem line_no10 (e : Ev) : 10 ∉ lineL e := by
  unfold lineL line2 line1
  have h1 := word_no10 e.k
  have h2 := dec_no10 e.c
  have h3 := dec_no10 e.n
  have h4 := quote_no10 e.bs
  split <;> split <;> split <;> simp [h1, h2, h3, h4]
theorem line_lt (e : Ev) (hb : ∀ x ∈ e.bs, x < 256) : ∀ x ∈ lineL e, x < 256 := by
  have h1 := wordL_lt e.k
  have h2 := decN_lt e.c
  have h3 := decN_lt e.n
  have h4 := quoteL_lt hb
  unfold lineL line2 line1
  intro x hx
  split at hx <;> split at hx <;> split at hx <;> (try simp at hx) <;> (first | (rcases hx with hx | rfl | hx | rfl | hx | rfl | hx) | (rcases hx with hx | rfl | hx | rfl | hx) | (rcases hx with hx | rfl | hx) | skip) <;> (first | exact h1 x hx | exact h2 x hx | exact h3 x hx | exact h4 x hx | omega)
theorem line_head (e : Ev) : ∃ c r, lineL e = c :: r ∧ c ≠ 35 ∧ c < 256 := by
  have hw : ∃ c r, wordL e.k = c :: r ∧ c ≠ 35 ∧ c < 256 := by
    unfold wordL; split <;> exact ⟨_, _, rfl, by omega, by omega⟩
  obtain ⟨c, r, e1, h1, h2⟩ := hw
  unfold lineL line2 line1
  rw [e1]
  split <;> split <;> split <;> exact ⟨c, _, rfl, h1, h2⟩
/-- The events among the items. -/
def evsI : List Item → List Ev
  | [] => []
  | .ev e :: l => e :: evsI l
  | _ :: l => evsI l
theorem evsI_app : ∀ (a b : List Item), evsI (a ++ b) = evsI a ++ evsI b
  | [], b => rfl
  | .ev e :: a, b => by simp only [List.cons_append, evsI, evsI_app a b]
  | .skip x :: a, b => by simp only [List.cons_append, evsI, evsI_app a b]
  | .bad :: a, b => by simp only [List.cons_append, evsI, evsI_app a b]
theorem evsI_take (l : List Item) (k : Nat) (hk : k < l.length) : evsI (l.take (k + 1)) = evsI (l.take k) ++ evsI [l[k]] := by
  rw [List.take_add_one, List.getElem?_eq_getElem hk, evsI_app]; rfl
theorem Item.lt {x : Item} (h : x.ok) : ∀ y ∈ x.line, y < 256 := by
  cases x with
  | ev e => exact line_lt e h.1.lt
  | skip b => exact h.1
  | bad => intro y hy; simp [Item.line] at hy; omega
theorem Item.no10 {x : Item} (h : x.ok) : 10 ∉ x.line := by
  cases x with
  | ev e => exact line_no10 e
  | skip b => exact h.2.1
  | bad => simp [Item.line]
/-- Items that a script may hold. -/
structure ItemsOk (l : List Item) : Prop where
  ok : ∀ x ∈ l, x.ok
  n : l.length ≤ 200
  len : (joinT (textI l)).length ≤ 1000000
theorem ItemsOk.lines {l : List Item} (h : ItemsOk l) : LinesOk (textI l) := by
  refine ⟨fun x hx => ?_, fun x hx => ?_, h.len⟩
  · obtain ⟨y, hy, rfl⟩ := List.mem_map.1 hx
    exact Item.no10 (h.ok y hy)
  · obtain ⟨y, hy, rfl⟩ := List.mem_map.1 hx
    exact Item.lt (h.ok y hy)
theorem count_zero (x : List Nat) (h : 10 ∉ x) (hx : ∀ y ∈ x, y < 256) : List.count (10 : UInt8) (x.map fun y => UInt8.ofNat y) = 0 := by
  rw [List.count_eq_zero]
  intro hm
  obtain ⟨y, hy, e⟩ := List.mem_map.1 hm
  have e2 := congrArg UInt8.toNat e
  rw [UInt8.toNat_ofNat', Nat.mod_eq_of_lt (show y < 2 ^ 8 from hx y hy)] at e2
  exact h (by rw [show y = 10 from e2] at hy; exact hy)
theorem count_join : ∀ (l : List (List Nat)), (∀ x ∈ l, 10 ∉ x) → (∀ x ∈ l, ∀ y ∈ x, y < 256) → List.count (10 : UInt8) ((joinT l).map fun y => UInt8.ofNat y) = l.length
  | [], _, _ => rfl
  | x :: l, h1, h2 => by
    rw [joinT_cons, List.map_append, List.count_append, count_zero x (h1 x (List.mem_cons_self ..)) (h2 x (List.mem_cons_self ..)), List.map_cons]
    rw [show UInt8.ofNat 10 = (10 : UInt8) from rfl, List.count_cons_self, count_join l (fun y hy => h1 y (List.mem_cons_of_mem _ hy)) (fun y hy => h2 y (List.mem_cons_of_mem _ hy))]
    simp
theorem count_text (l : List (List Nat)) (h : LinesOk l) (w : World) : Calls Tryd.prog 23 #[.string (strN (joinT l)), .string { data := #[10] }] w fun e w' => e = .returned (.int .i64 (l.length : Int)) ∧ w' = w := by
  refine (Tryd.strings_Count_one (strN (joinT l)) 10 w).mono fun e w' he => ⟨?_, he.2⟩
  rw [he.1]
  have : Lib.countByte (strN (joinT l)).data.toList 10 = l.length := by
    unfold Lib.countByte
    rw [strN_data]
    exact count_join l h.no h.lt
  rw [this]
theorem join_last (l : List (List Nat)) (h : l ≠ []) : ∃ p, joinT l = p ++ [10] := by
  obtain ⟨a, x, rfl⟩ := List.eq_nil_or_concat l |>.resolve_left h
  exact ⟨joinT a ++ x, by unfold joinT; simp⟩
end Go.Proofs.YtanbplnagcmlcaaDoor
