/- Several texts put together: RngH, RngI. -/
import Derived.Test.YtanbplnagcmlcaaDoorBu10
/- fieldfarelaw24.ScriptQuiet: the walk. -/
namespace Go.Proofs.YtanbplnagcmlcaaDoor
open Go.RowKit
def tI (l : List Item) : List Nat := joinT (textI l)
theorem tI_app (a b : List Item) : tI (a ++ b) = tI a ++ tI b := by unfold tI joinT textI; simp
def Small (x : Item) : Prop := x.ok ∧ x.line.length ≤ 300
theorem tI_len : ∀ (l : List Item), (∀ x ∈ l, Small x) → (tI l).length ≤ 301 * l.length
  | [], _ => by simp [tI, joinT, textI]
  | x :: l, h => by
    have h0 := (h x (List.mem_cons_self ..)).2
    have h1 := tI_len l fun y hy => h y (List.mem_cons_of_mem _ hy)
    have e : tI (x :: l) = (x.line ++ [10]) ++ tI l := by unfold tI joinT textI; simp
    rw [e]
    simp
    omega
theorem small_ok (l : List Item) (h : ∀ x ∈ l, Small x) (hl : l.length ≤ 100) : ItemsOk l :=
  ⟨fun x hx => (h x hx).1, by omega, by have := tI_len l h; unfold tI at this; omega⟩
def itP (r : RawE) : List Item := [.ev r.ev]
def itL (r : RawE) : List Item := [.skip [35], .skip [], .ev r.ev]
def badI (a : Nat) : Nat → List RawE → List Item
  | _, [] => []
  | i, r :: l => (if i = a then [.bad] else []) ++ (.ev r.ev :: badI a (i + 1) l)
theorem badI_snoc (a : Nat) : ∀ (l : List RawE) (i : Nat) (r : RawE), badI a i (l ++ [r]) = badI a i l ++ ((if i + l.length = a then [.bad] else []) ++ [.ev r.ev])
  | [], i, r => by simp [badI]
  | x :: l, i, r => by
    simp only [List.cons_append, badI, badI_snoc a l (i + 1) r, List.length_cons, List.append_assoc]
    rw [show i + 1 + l.length = i + (l.length + 1) by omega]
theorem badI_evs (a : Nat) : ∀ (l : List RawE) (i : Nat), evsI (badI a i l) = l.map RawE.ev
  | [], i => rfl
  | x :: l, i => by
    simp only [badI, evsI_app, evsI, badI_evs a l (i + 1), List.map_cons]
    split <;> rfl
theorem badI_at (a : Nat) : ∀ (l : List RawE) (i k : Nat), (badI a i l)[k]? = some .bad → i ≤ a ∧ k = a - i ∧ a < i + l.length
  | [], i, k, h => by simp [badI] at h
  | x :: l, i, k, h => by
    simp only [badI] at h
    by_cases e : i = a
    · rw [if_pos e] at h
      match k, h with
      | 0, _ => exact ⟨by omega, by omega, by simp; omega⟩
      | 1, h => simp at h
      | k + 2, h =>
        have h' : (badI a (i + 1) l)[k]? = some .bad := by simpa using h
        have := badI_at a l (i + 1) k h'
        omega
    · rw [if_neg e] at h
      match k, h with
      | 0, h => simp at h
      | k + 1, h =>
        have h' : (badI a (i + 1) l)[k]? = some .bad := by simpa using h
        have := badI_at a l (i + 1) k h'
        simp only [List.length_cons]
        omega
theorem badI_mem (a : Nat) : ∀ (l : List RawE) (i : Nat), i ≤ a → a < i + l.length → Item.bad ∈ badI a i l
  | [], i, h1, h2 => by simp at h2; omega
  | x :: l, i, h1, h2 => by
    simp only [badI]
    by_cases e : i = a
    · rw [if_pos e]; simp
    · simp only [List.length_cons] at h2
      exact List.mem_append.2 (.inr (List.mem_cons_of_mem _ (badI_mem a l (i + 1) (by omega) (by omega))))
theorem badI_small {w : World} (a : Nat) : ∀ (l : List RawE) (i : Nat), GoodL w l → (∀ x ∈ badI a i l, Small x) ∧ (badI a i l).length ≤ 2 * l.length
  | [], i, _ => by simp [badI]
  | r :: l, i, h => by
    have h0 := h r (List.mem_cons_self ..)
    have h1 := badI_small a l (i + 1) fun x hx => h x (List.mem_cons_of_mem _ hx)
    have hev := (h0.1.ev h0.2.2).1
    refine ⟨fun x hx => ?_, ?_⟩
    · simp only [badI] at hx
      rcases List.mem_append.1 hx with hx | hx
      · split at hx
        · rw [List.mem_singleton] at hx; subst hx; exact ⟨trivial, by decide⟩
        · cases hx
      · rcases List.mem_cons.1 hx with rfl | hx
        · exact ⟨⟨hev, h0.2.1⟩, line_len r.ev hev h0.2.1⟩
        · exact h1.1 x hx
    · have := h1.2
      simp only [badI, List.length_append, List.length_cons]
      split <;> simp <;> omega
theorem itP_small {w : World} : ∀ (l : List RawE), GoodL w l → (∀ x ∈ l.flatMap itP, Small x) ∧ (l.flatMap itP).length = l.length
  | [], _ => by simp
  | r :: l, h => by
    have h0 := h r (List.mem_cons_self ..)
    have h1 := itP_small l fun x hx => h x (List.mem_cons_of_mem _ hx)
    have hev := (h0.1.ev h0.2.2).1
    refine ⟨fun x hx => ?_, by rw [List.flatMap_cons, List.length_append, h1.2]; simp [itP]; omega⟩
    rw [List.flatMap_cons] at hx
    rcases List.mem_append.1 hx with hx | hx
    · simp only [itP, List.mem_singleton] at hx; subst hx; exact ⟨⟨hev, h0.2.1⟩, line_len r.ev hev h0.2.1⟩
    · exact h1.1 x hx
theorem itL_small {w : World} : ∀ (l : List RawE), GoodL w l → (∀ x ∈ l.flatMap itL, Small x) ∧ (l.flatMap itL).length = 3 * l.length
  | [], _ => by simp
  | r :: l, h => by
    have h0 := h r (List.mem_cons_self ..)
    have h1 := itL_small l fun x hx => h x (List.mem_cons_of_mem _ hx)
    have hev := (h0.1.ev h0.2.2).1
    refine ⟨fun x hx => ?_, by rw [List.flatMap_cons, List.length_append, h1.2]; simp [itL]; omega⟩
    rw [List.flatMap_cons] at hx
    rcases List.mem_append.1 hx with hx | hx
    · simp only [itL, List.mem_cons, List.not_mem_nil, or_false] at hx
      rcases hx with rfl | rfl | rfl
      · exact ⟨⟨by decide, by decide, .inr rfl⟩, by decide⟩
      · exact ⟨⟨by decide, by decide, .inl rfl⟩, by decide⟩
      · exact ⟨⟨hev, h0.2.1⟩, line_len r.ev hev h0.2.1⟩
    · exact h1.1 x hx
theorem itP_evs : ∀ l : List RawE, evsI (l.flatMap itP) = l.map RawE.ev
  | [] => rfl
  | r :: l => by rw [List.flatMap_cons, evsI_app, itP_evs l]; rfl
theorem itL_evs : ∀ l : List RawE, evsI (l.flatMap itL) = l.map RawE.ev
  | [] => rfl
  | r :: l => by rw [List.flatMap_cons, evsI_app, itL_evs l]; rfl
/-- Parse of a text without a line that is none. -/
theorem parse_good (rs : List RawE) (l : List Item) (h : ∀ x ∈ l, Small x) (hl : l.length ≤ 100) (hev : evsI l = rs.map RawE.ev) (hno : ∀ k : Nat, l[k]? ≠ some .bad) (w : World) :
    Calls Tryd.prog 12 #[.string (strN (tI l))] w fun e w' => (∃ A c, e = .returned (.tuple #[.slice A rs.length c, .int .i64 0, .nilIface])) ∧ Below w.heap.size w w' := by
  refine (parse_any l (small_ok l h hl) w).mono ?_
  rintro e w' ⟨hb, (⟨v, xs, rfl, hm, hs, _⟩ | ⟨k, hk, _⟩)⟩
  · rw [hev] at hm
    have hl : xs.length = rs.length := by have := congrArg List.length hm; simpa using this
    obtain ⟨A5, c5, rfl, _, _⟩ := ownSlice hs.own
    rw [hl]
    exact ⟨⟨A5, c5, rfl⟩, hb⟩
  · exact absurd hk (hno k)
theorem parse_bad (rs : List RawE) (a : Nat) (ha : a < rs.length) (h : ∀ x ∈ badI a 0 rs, Small x) (hl : (badI a 0 rs).length ≤ 100) (w : World) :
    Calls Tryd.prog 12 #[.string (strN (tI (badI a 0 rs)))] w fun e w' => e = .returned (.tuple #[.slice none 0 0, .int .i64 ((a : Int) + 1), .iface 43 (.int .i64 24)]) ∧ Below w.heap.size w w' := by
  refine (parse_any _ (small_ok _ h hl) w).mono ?_
  rintro e w' ⟨hb, (⟨v, xs, rfl, hm, hs, hn⟩ | ⟨k, hk, rfl⟩)⟩
  · exact absurd rfl (hn _ (badI_mem a rs 0 (Nat.zero_le _) (by omega)))
  · obtain ⟨_, rfl, _⟩ := badI_at a rs 0 k hk
    exact ⟨rfl, hb⟩
end Go.Proofs.YtanbplnagcmlcaaDoor

/- fieldfarelaw24.ScriptQuiet: the walk. -/
namespace Go.Proofs.YtanbplnagcmlcaaDoor
open Go.RowKit
set_option maxRecDepth 100000 in
set_option maxHeartbeats 6400000 in
theorem quiet_law (rs : List RawE) (A : Option Addr) (cap : Nat) (b0 : Int) (w : World) (hr : Reads w w.heap.size 4 A rs.length (rs.flatMap rawC)) (hg : ∀ r ∈ rs, r.ok w w.heap.size) (hcap : rs.length ≤ cap) (hb0 : 0 ≤ b0 ∧ b0 < 256) (hT : TabOk w) :
    Calls Tryd.prog 5 #[.slice A rs.length cap, .int .u8 b0] w fun e w' => e = .returned (.bool true) ∧ Below w.heap.size w w' := by
  obtain ⟨b, rfl⟩ : ∃ b : Nat, b0 = (b : Int) := ⟨b0.toNat, by omega⟩
  have HT := Lib.hid hT
  have HR := Lib.hid hr
  have HG := Lib.hid hg
  clear hT hr hg
  by_cases h20 : 20 < rs.length
  · have d20 : decide (20 < (rs.length : Int)) = true := by simp; omega
    clear h20
    go_enter Tryd.func5, Tryd.ntmps5
    go_wp2_with (first
      | (go_at_call 6; (with_reducible refine (awake24_any w HT.out).mono ?_); rintro e w1 ⟨rfl, b1⟩; have HB1 := Lib.hid b1; clear b1)
      | fail)
    go_ret
    exact ⟨rfl, HB1.out⟩
  · have d20 : decide (20 < (rs.length : Int)) = false := by simp; omega
    have h20' : rs.length ≤ 20 := by omega
    clear h20
    go_enter Tryd.func5, Tryd.ntmps5
    go_wp2_with (first
      | (go_at_call 6; (with_reducible refine (awake24_any w HT.out).mono ?_); rintro e w1 ⟨rfl, b1⟩; have HB1 := Lib.hid b1; clear b1)
      | fail)
    go_loopw [5, 6, 7, 8] (fun s t u i wr => ∃ j : Nat, s = .string (strN (tI ((rs.take j).flatMap itP))) ∧ t = .string (strN (tI ((rs.take j).flatMap itL))) ∧ u = .string (strN (tI (badI (b % 20) 0 (rs.take j)))) ∧ i = .int .i64 (j : Int) ∧ j ≤ rs.length ∧ Hid (GoodL w (rs.take j)) ∧ Hid (Below w.heap.size w wr)) (fun _ _ _ i _ => rs.length - (intOf i).toNat)
    case atStart => exact ⟨0, rfl, rfl, rfl, rfl, Nat.zero_le _, Lib.hid (fun r hr => by simp at hr), HB1⟩
    case round =>
      obtain ⟨j, rfl, rfl, rfl, rfl, hj, HGr, HBr⟩ := hrel
      have hzr := HBr.out.size
      by_cases hlt : j < rs.length
      · obtain ⟨ad, sb, qo, sp, eA, hq, h4⟩ := raw_at HR.out hlt
        have hok := HG.out _ (List.getElem_mem hlt)
        have htk : rs.take (j + 1) = rs.take j ++ [rs[j]] := by rw [List.take_add_one, List.getElem?_eq_getElem hlt]; rfl
        have htl : (rs.take j).length = j := by rw [List.length_take]; omega
        have hgd : ∀ h : rs[j].good ∧ rs[j].bs.length ≤ 60, GoodL w (rs.take (j + 1)) := fun h r hr => by
          rw [htk] at hr
          rcases List.mem_append.1 hr with hr | hr
          · exact HGr.out r hr
          · obtain rfl : r = rs[j] := by simpa using hr
            exact ⟨h.1, h.2, hok⟩
        have zP : (strN (tI ((rs.take j).flatMap itP))).size ≤ 20000 := by
          rw [strN_size]
          have h1 := itP_small _ HGr.out
          have := tI_len _ h1.1
          rw [h1.2, htl] at this
          omega
        have zL : (strN (tI ((rs.take j).flatMap itL))).size ≤ 20000 := by
          rw [strN_size]
          have h1 := itL_small _ HGr.out
          have := tI_len _ h1.1
          rw [h1.2, htl] at this
          omega
        have zX : (strN (tI (badI (b % 20) 0 (rs.take j)))).size ≤ 20000 := by
          rw [strN_size]
          have h1 := badI_small (b % 20) _ 0 HGr.out
          have := tI_len _ h1.1
          have := h1.2
          rw [htl] at this
          omega
        have nP : strN (tI ((rs.take (j + 1)).flatMap itP)) = strN (tI ((rs.take j).flatMap itP)) ++ strN (lineL rs[j].ev) ++ ({ data := #[10] } : ByteArray) := by
          rw [htk, List.flatMap_append, tI_app, strN_app]
          show _ = _ ++ strN [10]
          rw [strN_app, List.append_assoc]
          simp [itP, tI, joinT, textI, Item.line]
        have nL : strN (tI ((rs.take (j + 1)).flatMap itL)) = strN (tI ((rs.take j).flatMap itL)) ++ ({ data := #[35, 10, 10] } : ByteArray) ++ strN (lineL rs[j].ev) ++ ({ data := #[10] } : ByteArray) := by
          rw [htk, List.flatMap_append, tI_app]
          show _ = _ ++ strN [35, 10, 10] ++ _ ++ strN [10]
          rw [strN_app, strN_app, strN_app]
          simp [itL, tI, joinT, textI, Item.line]
        have nX : j = b % 20 → strN (tI (badI (b % 20) 0 (rs.take (j + 1)))) = strN (tI (badI (b % 20) 0 (rs.take j))) ++ ({ data := #[110, 111, 110, 101, 10] } : ByteArray) ++ strN (lineL rs[j].ev) ++ ({ data := #[10] } : ByteArray) := fun e => by
          rw [htk, badI_snoc, htl, if_pos (by omega), tI_app]
          show _ = _ ++ strN [110, 111, 110, 101, 10] ++ _ ++ strN [10]
          rw [strN_app, strN_app, strN_app]
          simp [tI, joinT, textI, Item.line]
        have nY : j ≠ b % 20 → strN (tI (badI (b % 20) 0 (rs.take (j + 1)))) = strN (tI (badI (b % 20) 0 (rs.take j))) ++ strN (lineL rs[j].ev) ++ ({ data := #[10] } : ByteArray) := fun e => by
          rw [htk, badI_snoc, htl, if_neg (by omega), tI_app]
          show _ = _ ++ _ ++ strN [10]
          rw [strN_app, strN_app]
          simp [tI, joinT, textI, Item.line]
        generalize rs[j] = r at h4 hok hgd nP nL nX nY
        have H4 := Lib.hid h4
        obtain ⟨hz4, c0, c1, c2, c3⟩ := h4.below HBr.out
        have hok' := hok.below HBr.out
        have HOK := Lib.hid hok
        subst eA
        clear h4 hok htk htl
        have HGD := Lib.hid hgd
        clear hgd
        by_cases hgood : r.good
        · obtain ⟨hev, e1, e2, e3⟩ := hgood.ev hok'
          have hok := HOK.out
          have hl : ∀ W, TabOk W → Below w.heap.size w W → Calls Tryd.prog 7 #[.agg #[.int .i64 r.k, .int .i64 r.c, .int .i64 r.n, .slice r.A r.bs.length r.cap]] W fun x w' => x = .returned (.tuple #[.string (strN (lineL r.ev)), .nilIface]) ∧ Below W.heap.size W w' := fun W h q => by
            have := line_ok r.ev hev r.A r.cap hok.cap W h q.size (hok.rb.below q)
            rw [e1, e2, e3] at this
            exact this
          have HL := Lib.hid hl
          have hLz : r.bs.length ≤ 60 → (strN (lineL r.ev)).size ≤ 300 := fun h60 => by rw [strN_size]; exact line_len r.ev hev h60
          generalize strN (lineL r.ev) = L at HL hLz nP nL nX nY
          clear hl hev e1 e2 e3 hok hok'
          by_cases h60 : 60 < r.bs.length
          · have d60 : decide (60 < (r.bs.length : Int)) = true := by simp; omega
            clear h60 hLz nP nL nX nY
            go_wp2_with (first
              | (go_at_call 7; (with_reducible refine (HL.out _ (HT.out.below HBr.out) HBr.out).mono ?_); rintro e w2 ⟨rfl, b2⟩; have HB2 := Lib.hid (below_step HBr.out b2); obtain ⟨hz42, c02, c12, c22, c32⟩ := H4.out.below HB2.out; clear b2)
              | fail)
            (try simp only [Exit.inBlock, Exit.then]); refine bodyPost_ret (by simp [results, Tryd.results5, go_sem, *]; try rfl) rfl ?_
            exact ⟨rfl, HB2.out⟩
          · have d60 : decide (60 < (r.bs.length : Int)) = false := by simp; omega
            have h60' : r.bs.length ≤ 60 := by omega
            have hLz' := hLz h60'
            have HGD' := Lib.hid (HGD.out ⟨hgood, h60'⟩)
            clear h60 hLz HGD hgood
            have aP := nP.symm
            have aL := nL.symm
            generalize strN (tI ((rs.take j).flatMap itP)) = P at aP zP ⊢
            generalize strN (tI ((rs.take j).flatMap itL)) = Q at aL zL ⊢
            clear nP nL
            by_cases hje : j = b % 20
            case' pos => (have aX := (nX hje).symm); have dje : ((j : Int) == (b : Int) % 20) = true := (by simp; omega)
            case' neg => (have aX := (nY hje).symm); have dje : ((j : Int) == (b : Int) % 20) = false := (by simp; omega)
            all_goals
              generalize strN (tI (badI (b % 20) 0 (rs.take j))) = X at aX zX ⊢
              clear nX nY hje
              go_wp2_with (first
                | (go_at_call 7; (with_reducible refine (HL.out _ (HT.out.below HBr.out) HBr.out).mono ?_); rintro e w2 ⟨rfl, b2⟩; have HB2 := Lib.hid (below_step HBr.out b2); obtain ⟨hz42, c02, c12, c22, c32⟩ := H4.out.below HB2.out; clear b2)
                | fail)
              go_roundw
              case rel => exact ⟨j + 1, rfl, rfl, rfl, by go_num, by omega, HGD', HB2⟩
              case measure => simp [intOf]; omega
        · have HL := Lib.hid (fun W => line_no r.k r.c r.n hok'.k hok'.c hok'.n r.A r.bs.length r.cap hok'.len hgood W)
          clear hok' hgood nP nL nX nY
          go_wp2_with (first
            | (go_at_call 7; (with_reducible refine (HL.out _).mono ?_); rintro e w2 ⟨rfl, b2⟩; have HB2 := Lib.hid (below_step HBr.out b2); clear b2)
            | fail)
          (try simp only [Exit.inBlock, Exit.then]); refine bodyPost_ret (by simp [results, Tryd.results5, go_sem, *]; try rfl) rfl ?_
          exact ⟨rfl, HB2.out⟩
      · obtain rfl : j = rs.length := by omega
        have hgl := HGr.out
        rw [List.take_length] at hgl ⊢
        have hnoP : ∀ k : Nat, (rs.flatMap itP)[k]? ≠ some .bad := fun k h => by
          obtain ⟨r, _, hx⟩ := List.mem_flatMap.1 (List.mem_of_getElem? h)
          simp [itP] at hx
        have hnoL : ∀ k : Nat, (rs.flatMap itL)[k]? ≠ some .bad := fun k h => by
          obtain ⟨r, _, hx⟩ := List.mem_flatMap.1 (List.mem_of_getElem? h)
          simp [itL] at hx
        have HPP := Lib.hid (fun W => parse_good rs (rs.flatMap itP) (itP_small rs hgl).1 (by rw [(itP_small rs hgl).2]; omega) (itP_evs rs) hnoP W)
        have HPL := Lib.hid (fun W => parse_good rs (rs.flatMap itL) (itL_small rs hgl).1 (by rw [(itL_small rs hgl).2]; omega) (itL_evs rs) hnoL W)
        have hbs := badI_small (b % 20) rs 0 hgl
        have hbl : (badI (b % 20) 0 rs).length ≤ 100 := by have := hbs.2; omega
        by_cases hab : b % 20 < rs.length
        · have HPX := Lib.hid (fun W => parse_bad rs (b % 20) hab hbs.1 hbl W)
          have dab : decide ((rs.length : Int) ≤ (b : Int) % 20) = false := by simp; omega
          have hcast : ((b % 20 : Nat) : Int) = (b : Int) % 20 := by omega
          clear hbs hbl hab hnoP hnoL hgl
          generalize strN (tI (rs.flatMap itP)) = P at HPP ⊢
          generalize strN (tI (rs.flatMap itL)) = Q at HPL ⊢
          generalize strN (tI (badI (b % 20) 0 rs)) = X at HPX ⊢
          go_wp2_with (first
            | (go_at_call 12; (with_reducible refine (HPP.out _).mono ?_); rintro e w5 ⟨⟨A5, c5, rfl⟩, b5⟩; have HB5 := Lib.hid (below_step HBr.out b5); clear b5)
            | (go_at_call 12; (with_reducible refine (HPL.out _).mono ?_); rintro e w6 ⟨⟨A6, c6, rfl⟩, b6⟩; have HB6 := Lib.hid (below_step HB5.out b6); clear b6)
            | (go_at_call 12; (with_reducible refine (HPX.out _).mono ?_); rintro e w7 ⟨rfl, b7⟩; have HB7 := Lib.hid (below_step HB6.out b7); clear b7)
            | (go_at_call 8; (with_reducible refine (code_errno 24 (by omega) (by omega) _).mono ?_); rintro e w8 ⟨rfl, rfl⟩)
            | fail)
          (try simp only [Exit.inBlock, Exit.then]); refine bodyPost_ret (by simp [results, Tryd.results5, go_sem, *]; try rfl) rfl ?_
          exact ⟨rfl, HB7.out⟩
        · have hnoX : ∀ k : Nat, (badI (b % 20) 0 rs)[k]? ≠ some .bad := fun k h => by
            have := badI_at (b % 20) rs 0 k h
            omega
          have HPX := Lib.hid (fun W => parse_good rs (badI (b % 20) 0 rs) hbs.1 hbl (badI_evs _ rs 0) hnoX W)
          have dab : decide ((rs.length : Int) ≤ (b : Int) % 20) = true := by simp; omega
          clear hbs hbl hab hnoP hnoL hgl hnoX
          generalize strN (tI (rs.flatMap itP)) = P at HPP ⊢
          generalize strN (tI (rs.flatMap itL)) = Q at HPL ⊢
          generalize strN (tI (badI (b % 20) 0 rs)) = X at HPX ⊢
          go_wp2_with (first
            | (go_at_call 12; (with_reducible refine (HPP.out _).mono ?_); rintro e w5 ⟨⟨A5, c5, rfl⟩, b5⟩; have HB5 := Lib.hid (below_step HBr.out b5); clear b5)
            | (go_at_call 12; (with_reducible refine (HPL.out _).mono ?_); rintro e w6 ⟨⟨A6, c6, rfl⟩, b6⟩; have HB6 := Lib.hid (below_step HB5.out b6); clear b6)
            | (go_at_call 12; (with_reducible refine (HPX.out _).mono ?_); rintro e w7 ⟨⟨A7, c7, rfl⟩, b7⟩; have HB7 := Lib.hid (below_step HB6.out b7); clear b7)
            | (go_at_call 8; (with_reducible refine (code_errno 24 (by omega) (by omega) _).mono ?_); rintro e w8 ⟨rfl, rfl⟩)
            | fail)
          (try simp only [Exit.inBlock, Exit.then]); refine bodyPost_ret (by simp [results, Tryd.results5, go_sem, *]; try rfl) rfl ?_
          exact ⟨rfl, HB7.out⟩
end Go.Proofs.YtanbplnagcmlcaaDoor
