/- Several texts put together: ScrF, ScrG. -/
import Derived.Test.YtanbplnagcmlcaaDoorBu3
/- Layer 24: bytes as a text. -/
namespace Go.Proofs.YtanbplnagcmlcaaDoor
open Go.RowKit
def escL (c : Nat) : List Nat := if plainB c then [c] else [92, 48 + c / 64, 48 + c / 8 % 8, 48 + c % 8]
def bodyL (bs : List Nat) : List Nat := bs.flatMap escL
def quoteL (bs : List Nat) : List Nat := 34 :: (bodyL bs ++ [34])
theorem escL_lt {c : Nat} (hc : c < 256) : ∀ x ∈ escL c, x < 256 := by
  unfold escL
  intro x hx
  split at hx
  · rw [List.mem_singleton] at hx; omega
  · simp at hx; omega
theorem bodyL_lt {bs : List Nat} (h : ∀ x ∈ bs, x < 256) : ∀ x ∈ bodyL bs, x < 256 := by
  intro x hx
  obtain ⟨c, hc, hx⟩ := List.mem_flatMap.1 hx
  exact escL_lt (h c hc) x hx
theorem quoteL_lt {bs : List Nat} (h : ∀ x ∈ bs, x < 256) : ∀ x ∈ quoteL bs, x < 256 := by
  intro x hx
  unfold quoteL at hx
  rcases List.mem_cons.1 hx with rfl | hx
  · omega
  · rcases List.mem_append.1 hx with hx | hx
    · exact bodyL_lt h x hx
    · rw [List.mem_singleton] at hx; omega
theorem escL_len (c : Nat) : 1 ≤ (escL c).length ∧ (escL c).length ≤ 4 := by unfold escL; split <;> simp
theorem bodyL_len (bs : List Nat) : (bodyL bs).length ≤ 4 * bs.length := by
  induction bs with
  | nil => simp [bodyL]
  | cons c l ih =>
    unfold bodyL at ih ⊢
    rw [List.flatMap_cons, List.length_append, List.length_cons]
    have := (escL_len c).2
    omega
theorem bodyL_snoc (l : List Nat) (c : Nat) : bodyL (l ++ [c]) = bodyL l ++ escL c := by unfold bodyL; simp
theorem scr_nums (L : List Nat) : strOfNums (L.map Int.ofNat) = strN L := by
  unfold strOfNums strN
  rw [List.map_map]; rfl
theorem str_of_ob {W : World} {base : Nat} {v : Value} {L : List Nat} (h : OB W base v L) (h0 : 0 < L.length) :
    (convert 27 9 v).run Tryd.prog W = .ok (.string (strN L)) W := by
  obtain ⟨A, c, hv, hc, hr, hA⟩ := h.slice
  obtain ⟨hb, hl, h' | ⟨g, cap, cur, hv', hg, hh, hn, hm, hs, ht⟩⟩ := h
  · exact absurd h'.2 (by omega)
  · rw [hv'] at hv
    simp only [Value.slice.injEq] at hv
    obtain ⟨e1, _, e3⟩ := hv
    subst e1
    subst e3
    obtain ⟨ad, e, hab, hcell⟩ := hr.2 h0
    simp only [Option.some.injEq] at e
    subst e
    rw [hv', ← scr_nums]
    refine run_convert_bytes_arg (P := Tryd.prog) W 27 5 Tryd.underlying27 Tryd.underlying5 g 0 L.length cap (L.map Int.ofNat) (by rw [List.length_map]) (fun i hi => ?_) 9 Tryd.underlying9
    have := hcell i hi
    rw [add0] at this
    rw [Nat.zero_add, this]
    simp [List.getD_eq_getElem?_getD, List.getElem?_eq_getElem hi]
theorem rb_esc (W : World) (x : Nat) (hx : x < 256) : RB (W.alloc (.cells #[.int .u8 92, .int .u8 (48 + (x : Int) / 64), .int .u8 (48 + (x : Int) / 8 % 8), .int .u8 (48 + (x : Int) % 8)] 5)) (W.heap.size + 1) (some ⟨W.heap.size, 0, none⟩) [92, 48 + x / 64, 48 + x / 8 % 8, 48 + x % 8] := by
  have h := rb_row W [92, 48 + x / 64, 48 + x / 8 % 8, 48 + x % 8] (by simp; omega) 5 (0, 0)
  have e : nums [92, 48 + x / 64, 48 + x / 8 % 8, 48 + x % 8] = #[.int .u8 92, .int .u8 (48 + (x : Int) / 64), .int .u8 (48 + (x : Int) / 8 % 8), .int .u8 (48 + (x : Int) % 8)] := by simp [nums]
  rw [e] at h
  exact h
theorem rb_one (W : World) (x : Nat) (hx : x < 256) : RB (W.alloc (.cells #[.int .u8 (x : Int)] 5)) (W.heap.size + 1) (some ⟨W.heap.size, 0, none⟩) [x] := rb_row W [x] (by simpa using hx) 5 (0, 0)
set_option maxRecDepth 100000 in
set_option maxHeartbeats 1600000 in
theorem quoted_any (A : Option Addr) (c : Nat) (bs : List Nat) (hc : bs.length ≤ c) (hm : bs.length ≤ 100000) (w : World) (B : Nat) (hB : B ≤ w.heap.size) (hr : RB w B A bs) :
    Calls Tryd.prog 18 #[.slice A bs.length c] w fun e w' => e = .returned (.string (strN (quoteL bs))) ∧ Below w.heap.size w w' := by
  have HR := Lib.hid hr
  clear hr
  go_enter Tryd.func18, Tryd.ntmps18
  go_wp2
  have ho := OB.lit w [34] (base := w.heap.size) (by decide) (Nat.le_refl _) (by unfold maxLen; simp)
  generalize hW : (World.alloc _ _ : World) = W1
  have hW' : w.alloc (.cells (nums [34]) 5) = W1 := hW
  rw [hW'] at ho
  have hb1 : Below w.heap.size w W1 := by rw [← hW]; (repeat' (first | (with_reducible exact Below.refl _ _) | (refine Below.trans ?_ (Below.mono (by with_reducible assumption) ?_)) | (with_reducible exact Below.refl _ _) | (with_reducible refine below_drewN ?_ _) | (with_reducible refine Below.drew ?_) | (with_reducible refine Below.setCell ?_ ?_ _) | (with_reducible refine Below.alloc ?_ ?_ _) | (with_reducible assumption) | (simp; done) | (simp; omega) | omega))
  have HO := Lib.hid ho
  have HB := Lib.hid hb1
  clear ho hb1 hW hW'
  go_loopw [3, 5, 9] (fun v _ i wr => ∃ j : Nat, i = .int .i64 (j : Int) ∧ j ≤ bs.length ∧ Hid (OB wr w.heap.size v (34 :: bodyL (bs.take j))) ∧ Hid (Below w.heap.size w wr)) (fun _ _ i _ => bs.length - (intOf i).toNat)
  case atStart => exact ⟨0, rfl, Nat.zero_le _, HO, HB⟩
  case round =>
    obtain ⟨j, rfl, hj, HOr, HBr⟩ := hrel
    have hzr := HBr.out.size
    obtain ⟨Av, cv, rfl, hcv, _, _⟩ := HOr.out.slice
    by_cases hlt : j < bs.length
    · obtain ⟨ad, q, rfl, hq, hqb, hcell⟩ := rb_at' (HR.out.below (HBr.out.mono hB)) hlt
      have hqw : q.block < wr.heap.size := by omega
      have hc256 : bs[j] < 256 := HR.out.1 _ (List.getElem_mem hlt)
      have hsn : bs.take (j + 1) = bs.take j ++ [bs[j]] := by rw [List.take_add_one, List.getElem?_eq_getElem hlt]; rfl
      generalize bs[j] = x at hcell hc256 hsn
      have HSN := Lib.hid hsn
      have hlen := bodyL_len (bs.take j)
      rw [List.length_take] at hlen
      clear hsn
      have hpl := fun W => plain_any x hc256 W
      cases hp : plainB x
      · rw [hp] at hpl
        have HPL := Lib.hid hpl
        have HP := Lib.hid hp
        clear hp hpl
        go_wp2_with (first
          | (go_at_call 27; (with_reducible refine (HPL.out _).mono ?_); rintro e w5 ⟨rfl, rfl⟩)
          | (at_builtin; (with_reducible refine wpList_appB rfl (.tmp 19) (.tmp 30) rfl w.heap.size (by simp; omega) (.slice Av (34 :: bodyL (bs.take j)).length cv) _ (by simp [Act.eval, Act.put]) (HOr.out.alloc _) (some ⟨w5.heap.size, 0, none⟩) 4 4 [92, 48 + x / 64, 48 + x / 8 % 8, 48 + x % 8] _ (by simp [Act.eval, Act.put]) rfl (by intro e; cases e) (rb_esc w5 x hc256) (by simp; omega) ?_); intro v9 w9 ho9 hg9; have HB9 := Lib.hid (OB.below (HOr.out.alloc _) hg9 (show Below w.heap.size w _ from HBr.out.alloc hzr _) (Nat.le_refl _) (by simp; omega)); have HO9 := Lib.hid ho9; obtain ⟨A9, c9, hv9, hc9, _, _⟩ := ho9.slice; subst hv9; clear ho9 hg9)
          | fail)
        go_roundw
        case rel => exact ⟨j + 1, by go_num, by omega, Lib.hid (by rw [HSN.out, bodyL_snoc, show escL x = [92, 48 + x / 64, 48 + x / 8 % 8, 48 + x % 8] from by unfold escL; rw [HP.out]; rfl]; have h9 := HO9.out; simp only [List.length_cons, List.length_append, List.length_nil, List.cons_append] at h9 ⊢; exact h9), HB9⟩
        case measure => simp [intOf]; omega
      · rw [hp] at hpl
        have HPL := Lib.hid hpl
        have HP := Lib.hid hp
        clear hp hpl
        go_wp2_with (first
          | (go_at_call 27; (with_reducible refine (HPL.out _).mono ?_); rintro e w5 ⟨rfl, rfl⟩)
          | (at_builtin; (with_reducible refine wpList_appB rfl (.tmp 15) (.tmp 17) rfl w.heap.size (by simp; omega) (.slice Av (34 :: bodyL (bs.take j)).length cv) _ (by simp [Act.eval, Act.put]) (HOr.out.alloc _) (some ⟨w5.heap.size, 0, none⟩) 1 1 [x] _ (by simp [Act.eval, Act.put]) rfl (by intro e; cases e) (rb_one w5 x hc256) (by simp; omega) ?_); intro v9 w9 ho9 hg9; have HB9 := Lib.hid (OB.below (HOr.out.alloc _) hg9 (show Below w.heap.size w _ from HBr.out.alloc hzr _) (Nat.le_refl _) (by simp; omega)); have HO9 := Lib.hid ho9; obtain ⟨A9, c9, hv9, hc9, _, _⟩ := ho9.slice; subst hv9; clear ho9 hg9)
          | fail)
        go_roundw
        case rel => exact ⟨j + 1, by go_num, by omega, Lib.hid (by rw [HSN.out, bodyL_snoc, show escL x = [x] from by unfold escL; rw [HP.out]; rfl]; have h9 := HO9.out; simp only [List.length_cons, List.length_append, List.length_nil, List.cons_append] at h9 ⊢; exact h9), HB9⟩
        case measure => simp [intOf]; omega
    · obtain rfl : j = bs.length := by omega
      rw [List.take_length] at HOr
      have hlen := bodyL_len bs
      go_wp2_with (first
        | (at_builtin; (with_reducible refine wpList_appB rfl (.tmp 33) (.tmp 34) rfl w.heap.size (by simp; omega) (.slice Av (34 :: bodyL bs).length cv) _ (by simp [Act.eval, Act.put]) (HOr.out.alloc _) (some ⟨wr.heap.size, 0, none⟩) 1 1 [34] _ (by simp [Act.eval, Act.put]) rfl (by intro e; cases e) (rb_one wr 34 (by decide)) (by simp; omega) ?_); intro v9 w9 ho9 hg9; have HB9 := Lib.hid (OB.below (HOr.out.alloc _) hg9 (show Below w.heap.size w _ from HBr.out.alloc hzr _) (Nat.le_refl _) (by simp; omega)); have HO9 := Lib.hid ho9; obtain ⟨A9, c9, hv9, hc9, _, _⟩ := ho9.slice; subst hv9; have hcv : (convert 27 9 (.slice A9 ((bodyL bs).length + 1 + 1) c9)).run Tryd.prog w9 = .ok (.string (strN (quoteL bs))) w9 := (by have h8 := str_of_ob HO9.out (by simp); simp only [List.length_cons, List.length_append, List.length_nil, List.cons_append] at h8; exact h8); clear ho9 hg9)
        | fail)
      (try simp only [Exit.inBlock, Exit.then]); refine bodyPost_ret (by simp [results, Tryd.results18, go_sem, *]; try rfl) rfl ?_
      exact ⟨rfl, HB9.out⟩
end Go.Proofs.YtanbplnagcmlcaaDoor

/- Layer 24: the bytes of a text. -/
namespace Go.Proofs.YtanbplnagcmlcaaDoor
open Go.RowKit
theorem body_at (bs : List Nat) (j : Nat) (hj : j < bs.length) : bodyL bs = bodyL (bs.take j) ++ (escL bs[j] ++ bodyL (bs.drop (j + 1))) := by
  have e : bs = bs.take j ++ bs[j] :: bs.drop (j + 1) := by simp
  conv => lhs; rw [e]
  unfold bodyL
  rw [List.flatMap_append, List.flatMap_cons]
theorem body_take (bs : List Nat) (j : Nat) (hj : j < bs.length) : bodyL (bs.take (j + 1)) = bodyL (bs.take j) ++ escL bs[j] := by
  rw [List.take_add_one, List.getElem?_eq_getElem hj]; exact bodyL_snoc _ _
theorem esc_plain {x : Nat} (h : plainB x = true) : escL x = [x] := by unfold escL; rw [h]; rfl
theorem esc_not {x : Nat} (h : plainB x = false) : escL x = [92, 48 + x / 64, 48 + x / 8 % 8, 48 + x % 8] := by unfold escL; rw [h]; rfl
theorem getT {T : List Nat} (hT : ∀ x ∈ T, x < 256) {a b : List Nat} {y : Nat} (e : T = a ++ y :: b) (h : a.length < (strN T).size) : (((strN T)[a.length]'h).toNat : Int) = (y : Int) := by
  subst e
  rw [strN_get hT a.length (by simp) h]
  simp
/-- What the first digits of a byte tell. -/
def nk (k x : Nat) : Nat := if k = 0 then 0 else if k = 1 then x / 64 else if k = 2 then x / 8 else x
set_option maxRecDepth 100000 in
set_option maxHeartbeats 3200000 in
theorem unquoted_any (bs : List Nat) (hb : ∀ x ∈ bs, x < 256) (hm : bs.length ≤ 4096) (w : World) :
    Calls Tryd.prog 22 #[.string (strN (quoteL bs))] w fun e w' => (∃ v, e = .returned (.tuple #[v, .bool true]) ∧ OB w' w.heap.size v bs) ∧ Below w.heap.size w w' := by
  have hq := quoteL_lt hb
  have hT := bodyL_lt hb
  have hlen := bodyL_len bs
  have hsz : (strN (quoteL bs)).size = (bodyL bs).length + 2 := by rw [strN_size]; simp [quoteL]
  have hs0 : 0 < (strN (quoteL bs)).size := by omega
  have hs1 : (bodyL bs).length + 1 < (strN (quoteL bs)).size := by omega
  have g0 : (((strN (quoteL bs))[0]'hs0).toNat : Int) = 34 := by rw [strN_get hq 0 (by simp [quoteL]) hs0]; rfl
  have g1 : (((strN (quoteL bs))[(bodyL bs).length + 1]'hs1).toNat : Int) = 34 := by rw [strN_get hq _ (by simp [quoteL]) hs1]; simp [quoteL]
  have r1 : (strN (quoteL bs)).extract 1 ((bodyL bs).length + 1) = strN (bodyL bs) := by
    rw [strN_extract]
    simp [quoteL]
  have hszT := strN_size (bodyL bs)
  generalize hS : strN (quoteL bs) = S at hsz hs0 hs1 g0 g1 r1 ⊢
  have HB := Lib.hid hb
  have HT := Lib.hid hT
  obtain ⟨T, hTe⟩ : ∃ T, T = strN (bodyL bs) := ⟨_, rfl⟩
  rw [← hTe] at r1 hszT
  have HTE := Lib.hid hTe
  obtain ⟨m, hme⟩ : ∃ m, m = (bodyL bs).length := ⟨_, rfl⟩
  rw [← hme] at hlen hsz r1 hszT
  have hs1' : m + 1 < S.size := by omega
  have g1' : ((S[m + 1]'hs1').toNat : Int) = 34 := by subst hme; exact g1
  have HME := Lib.hid hme
  have R1 := Lib.hid r1
  clear r1
  clear hS hq hT hb hTe hme g1 hs1
  go_enter Tryd.func22, Tryd.ntmps22
  go_wp2
  rw [show S.extract 1 (m + 2 - 1) = T from R1.out]
  go_loopw [4, 5] (fun v i wr => ∃ j : Nat, i = .int .i64 ((bodyL (bs.take j)).length : Int) ∧ j ≤ bs.length ∧ Hid (OB wr w.heap.size v (bs.take j)) ∧ Hid (Below w.heap.size w wr)) (fun _ i _ => m - (intOf i).toNat)
  case atStart => exact ⟨0, rfl, Nat.zero_le _, Lib.hid (OB.nil _ _), Lib.hid (Below.refl _ _)⟩
  case round =>
    obtain ⟨j, rfl, hj, HOr, HBr⟩ := hrel
    have hzr := HBr.out.size
    obtain ⟨Av, cv, rfl, hcv, hrv, hnv⟩ := HOr.out.slice
    by_cases hlt : j < bs.length
    · have hx : bs[j] < 256 := HB.out _ (List.getElem_mem hlt)
      have hba := body_at bs j hlt
      have htk := body_take bs j hlt
      have htl : (bs.take j).length = j := by rw [List.length_take]; omega
      have htl1 : (bs.take (j + 1)).length = j + 1 := by rw [List.length_take]; omega
      have hsn : bs.take (j + 1) = bs.take j ++ [bs[j]] := by rw [List.take_add_one, List.getElem?_eq_getElem hlt]; rfl
      rw [htl] at HOr hcv
      have hel := escL_len bs[j]
      have hml : m = (bodyL (bs.take j)).length + ((escL bs[j]).length + (bodyL (bs.drop (j + 1))).length) := by rw [HME.out, hba, List.length_append, List.length_append]
      have hp1 : (bodyL (bs.take (j + 1))).length = (bodyL (bs.take j)).length + (escL bs[j]).length := by rw [htk, List.length_append]
      generalize bs[j] = x at hx hba htk hsn hel hml hp1
      have HSN := Lib.hid hsn
      have HBA := Lib.hid hba
      have hpl := fun W => plain_any x hx W
      clear hsn htk hrv hnv
      cases hp : plainB x
      · rw [hp] at hpl
        have hes := esc_not hp
        rw [hes] at hml hp1 hba
        have hpT : (bodyL (bs.take j)).length < (strN (bodyL bs)).size := by rw [strN_size, ← HME.out]; simp at hml; omega
        have gx := getT HT.out (a := bodyL (bs.take j)) (b := [48 + x / 64, 48 + x / 8 % 8, 48 + x % 8] ++ bodyL (bs.drop (j + 1))) (y := 92) hba hpT
        have hex : (strN (bodyL bs)).extract ((bodyL (bs.take j)).length + 1) ((bodyL (bs.take j)).length + 4) = strN [48 + x / 64, 48 + x / 8 % 8, 48 + x % 8] := by
          rw [strN_extract, hba]
          congr 1
          rw [List.take_append, List.drop_append]
          simp
        have hd3 : ∀ y ∈ [48 + x / 64, 48 + x / 8 % 8, 48 + x % 8], y < 256 := by
          intro y hy; simp at hy; omega
        obtain ⟨c3, C3, f3, hrun3, hc3, hrb3⟩ := conv_run wr _ hd3
        obtain ⟨X, hXe⟩ : ∃ X, X = strN [48 + x / 64, 48 + x / 8 % 8, 48 + x % 8] := ⟨_, rfl⟩
        rw [← hXe] at hex hrun3
        obtain ⟨q, hqe⟩ : ∃ q, q = (bodyL (bs.take j)).length := ⟨_, rfl⟩
        obtain ⟨q1, hqe1⟩ : ∃ q, q = (bodyL (bs.take (j + 1))).length := ⟨_, rfl⟩
        rw [← hqe1, ← hqe] at hp1
        rw [← hqe] at hml hex ⊢
        rw [← HTE.out] at hex
        have hpT' : q < T.size := by rw [HTE.out, hqe]; exact hpT
        have gx' : ((T[q]'hpT').toNat : Int) = 92 := by
          have := HTE.out
          subst this
          subst hqe
          exact gx
        have HQ1 := Lib.hid hqe1
        have HPL := Lib.hid hpl
        have HPL9 := Lib.hid (fun W => show Calls Tryd.prog 27 #[.int .u8 92] W (fun e w' => e = .returned (.bool false) ∧ w' = W) from plain_any 92 (by decide) W)
        have HRB3 := Lib.hid hrb3
        simp only [List.length_cons, List.length_nil] at hml hp1
        have hqm : q + 4 ≤ m := by omega
        have HP1 := Lib.hid hp1
        have hx255 : decide (255 < (x : Int)) = false := by simp; omega
        clear hp1 hml hrb3 hd3 hXe
        clear hp hpl hes hpT gx hba hqe hqe1 hel
        go_wp2_with (first
          | (go_at_call 27; (with_reducible refine (HPL9.out _).mono ?_); rintro e w5 ⟨rfl, rfl⟩)
          | fail)
        generalize hW : (World.drew _ : World) = W3 at HRB3
        have q3 : Below w5.heap.size w5 W3 := by rw [← hW]; (repeat' (first | (with_reducible exact Below.refl _ _) | (refine Below.trans ?_ (Below.mono (by with_reducible assumption) ?_)) | (with_reducible exact Below.refl _ _) | (with_reducible refine below_drewN ?_ _) | (with_reducible refine Below.drew ?_) | (with_reducible refine Below.setCell ?_ ?_ _) | (with_reducible refine Below.alloc ?_ ?_ _) | (with_reducible assumption) | (simp; done) | (simp; omega) | omega))
        have hz3' : W3.heap.size = w5.heap.size + 1 := by rw [← hW]; simp
        have HO3 := Lib.hid (HOr.out.next q3)
        have HW3 := Lib.hid (HBr.out.trans (q3.mono hzr))
        have hz3 : w.heap.size ≤ W3.heap.size := by omega
        clear hW hrun3 q3
        go_loopw [6, 8, 65] (fun n _ i wr2 => ∃ k : Nat, n = .int .i64 (nk k x : Int) ∧ i = .int .i64 (k : Int) ∧ k ≤ 3 ∧ wr2 = W3) (fun _ _ i _ => 3 - (intOf i).toNat)
        case atStart => exact ⟨0, rfl, rfl, by omega, rfl⟩
        case round =>
          obtain ⟨k, rfl, rfl, hk, rfl⟩ := hrel
          by_cases hlk : k < 3
          · obtain ⟨ad, qq, e0, hqq, hqb, hcell⟩ := rb_at' HRB3.out (j := k) hlk
            simp only [Option.some.injEq] at e0
            subst e0
            rw [add0] at hqq
            subst hqq
            have hqw : w5.heap.size < wr.heap.size := by omega
            rcases (by omega : k = 0 ∨ k = 1 ∨ k = 2) with rfl | rfl | rfl
            · have hcell : wr.cell? ⟨w5.heap.size, 0, none⟩ = some (.int .u8 (48 + (x : Int) / 64)) := by simpa using hcell
              have hnk : ((nk 0 x : Nat) : Int) = 0 := by unfold nk; simp
              rw [hnk]
              clear hnk
              go_wp2
              go_roundw
              case rel =>
                refine ⟨_, _, _, _, _, ?_, rfl, rfl, rfl, rfl, rfl⟩
                exact ⟨1, by unfold nk; simp; omega, rfl, by omega⟩
              case measure => simp [intOf]
            · have hcell : wr.cell? ⟨w5.heap.size, 1, none⟩ = some (.int .u8 (48 + (x : Int) / 8 % 8)) := by simpa using hcell
              have hnk : ((nk 1 x : Nat) : Int) = (x : Int) / 64 := by unfold nk; simp
              rw [hnk]
              clear hnk
              go_wp2
              go_roundw
              case rel =>
                refine ⟨_, _, _, _, _, ?_, rfl, rfl, rfl, rfl, rfl⟩
                exact ⟨2, by unfold nk; simp; omega, rfl, by omega⟩
              case measure => simp [intOf]
            · have hcell : wr.cell? ⟨w5.heap.size, 2, none⟩ = some (.int .u8 (48 + (x : Int) % 8)) := by simpa using hcell
              have hnk : ((nk 2 x : Nat) : Int) = (x : Int) / 8 := by unfold nk; simp
              rw [hnk]
              clear hnk
              go_wp2
              go_roundw
              case rel =>
                refine ⟨_, _, _, _, _, ?_, rfl, rfl, rfl, rfl, rfl⟩
                exact ⟨3, by unfold nk; simp; omega, rfl, by omega⟩
              case measure => simp [intOf]
          · obtain rfl : k = 3 := by omega
            rw [show nk 3 x = x from rfl]
            go_wp2_with (first
              | (go_at_call 27; (with_reducible refine (HPL.out _).mono ?_); rintro e w6 ⟨rfl, rfl⟩)
              | (at_builtin; (with_reducible refine wpList_appB rfl (.tmp 89) (.tmp 92) rfl w.heap.size (by simp; omega) (.slice Av j cv) _ (by simp [Act.eval, Act.put]) (HO3.out.alloc _) (some ⟨w6.heap.size, 0, none⟩) 1 1 [x] _ (by simp [Act.eval, Act.put]) rfl (by intro e; cases e) (rb_one w6 x hx) (by rw [htl]; simp; omega) ?_); intro v9 w9 ho9 hg9; have HB9 := Lib.hid (OB.below (HO3.out.alloc _) hg9 (show Below w.heap.size w _ from HW3.out.alloc hz3 _) (Nat.le_refl _) (by simp; omega)); rw [← HSN.out] at ho9; have HO9 := Lib.hid ho9; obtain ⟨A9, c9, hv9, hc9, _, _⟩ := ho9.slice; rw [htl1] at hv9; subst hv9; clear ho9 hg9)
              | fail)
            go_roundw
            case rel => exact ⟨j + 1, by rw [← HQ1.out, HP1.out]; go_num, by omega, HO9, HB9⟩
            case measure => simp [intOf]; omega
      · rw [hp] at hpl
        have hes := esc_plain hp
        rw [hes] at hml hp1 hba
        have hpT : (bodyL (bs.take j)).length < (strN (bodyL bs)).size := by rw [strN_size, ← HME.out]; simp at hml; omega
        have gx := getT HT.out (a := bodyL (bs.take j)) (b := bodyL (bs.drop (j + 1))) (y := x) hba hpT
        obtain ⟨q, hqe⟩ : ∃ q, q = (bodyL (bs.take j)).length := ⟨_, rfl⟩
        obtain ⟨q1, hqe1⟩ : ∃ q, q = (bodyL (bs.take (j + 1))).length := ⟨_, rfl⟩
        rw [← hqe1, ← hqe] at hp1
        rw [← hqe] at hml ⊢
        have hpT' : q < T.size := by rw [HTE.out, hqe]; exact hpT
        have gx' : ((T[q]'hpT').toNat : Int) = (x : Int) := by
          have := HTE.out
          subst this
          subst hqe
          exact gx
        have HQ := Lib.hid hqe
        have HQ1 := Lib.hid hqe1
        have HPL := Lib.hid hpl
        simp only [List.length_cons, List.length_nil] at hml hp1
        have hqm : q < m := by omega
        have HP1 := Lib.hid hp1
        clear hp1 hml
        clear hp hpl hes hpT gx hba hqe hqe1 hel
        go_wp2_with (first
          | (go_at_call 27; (with_reducible refine (HPL.out _).mono ?_); rintro e w5 ⟨rfl, rfl⟩)
          | (at_builtin; (with_reducible refine wpList_appB rfl (.tmp 40) (.tmp 44) rfl w.heap.size (by simp; omega) (.slice Av j cv) _ (by simp [Act.eval, Act.put]) (HOr.out.alloc _) (some ⟨w5.heap.size, 0, none⟩) 1 1 [x] _ (by simp [Act.eval, Act.put]) rfl (by intro e; cases e) (rb_one w5 x hx) (by rw [htl]; simp; omega) ?_); intro v9 w9 ho9 hg9; have HB9 := Lib.hid (OB.below (HOr.out.alloc _) hg9 (show Below w.heap.size w _ from HBr.out.alloc hzr _) (Nat.le_refl _) (by simp; omega)); rw [← HSN.out] at ho9; have HO9 := Lib.hid ho9; obtain ⟨A9, c9, hv9, hc9, _, _⟩ := ho9.slice; rw [htl1] at hv9; subst hv9; clear ho9 hg9)
          | fail)
        go_roundw
        case rel => exact ⟨j + 1, by rw [← HQ1.out, HP1.out]; go_num, by omega, HO9, HB9⟩
        case measure => simp [intOf]; omega
    · obtain rfl : j = bs.length := by omega
      rw [List.take_length, ← HME.out] at *
      go_wp2
      (try simp only [Exit.inBlock, Exit.then]); refine bodyPost_ret (by simp [results, Tryd.results22, go_sem, *]; try rfl) rfl ?_
      exact ⟨⟨.slice Av bs.length cv, by simp; omega, HOr.out⟩, HBr.out⟩
end Go.Proofs.YtanbplnagcmlcaaDoor
