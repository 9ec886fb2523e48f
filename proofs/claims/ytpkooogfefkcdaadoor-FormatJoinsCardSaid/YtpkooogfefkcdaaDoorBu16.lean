/- Several texts put together: FjoB. -/
import Derived.Test.YtpkooogfefkcdaaDoorBu15
/- fieldfarelaw08.FormatJoins: the walk. -/
namespace Go.Proofs.YtpkooogfefkcdaaDoor
open Go.RowKit
def cutA5 (A : Option Addr) (c k : Nat) : Option Addr := if c = k then A else A.map (·.add (k * 5))
theorem cut_args (A : Option Addr) (n c i : Nat) (h : i ≤ n) (W : World) : (Instr.slice 22 (.slice A n c) (some (.int .i64 (i : Int))) none none).run Tryd.prog W = .ok (.slice (cutA5 A c i) (n - i) (c - i)) W := by
  rw [run_slice_l W 22 A n c (by kernel_rfl) .i64 i (by omega) (by omega)]
  simp [go_sem, cutA5]
theorem Reads.cut5 {w : World} {B : Nat} {A : Option Addr} {args : List ArgF} (h : Reads w B 5 A args.length (args.flatMap argC)) {k c : Nat} (hk : k ≤ args.length) (hc : args.length ≤ c) : Reads w B 5 (cutA5 A c k) (args.drop k).length ((args.drop k).flatMap argC) := by
  have h1 := h.cut hk hc
  have e : (args.flatMap argC).drop (k * 5) = (args.drop k).flatMap argC := by
    clear h h1 hc hk
    induction k generalizing args with
    | zero => rw [Nat.zero_mul]; rfl
    | succ k ih =>
      cases args with
      | nil => simp
      | cons a r =>
        rw [List.flatMap_cons, List.drop_succ_cons, ← ih, Nat.add_mul, Nat.one_mul, Nat.add_comm, ← List.drop_drop]
        rfl
  rw [e] at h1
  rw [List.length_drop]
  exact h1
set_option maxRecDepth 100000 in
set_option maxHeartbeats 6400000 in
theorem joins_law (Sp Sq : ByteArray) (args : List ArgF) (A : Option Addr) (c : Nat) (w : World) (_ : Sp.size ≤ maxLen) (_ : Sq.size ≤ maxLen) (hr : Reads w w.heap.size 5 A args.length (args.flatMap argC)) (hg : ∀ a ∈ args, a.ok0) (hc : args.length ≤ c) (ht : TzOk w) :
    Calls Tryd.prog 3 #[.string Sp, .string Sq, .slice A args.length c] w fun e w' => e = .returned (.bool true) ∧ Below w.heap.size w w' := by
  have HT := Lib.hid ht
  have HR := Lib.hid hr
  have HF := Lib.hid (fun (W : World) (q : Below w.heap.size w W) => few_any w W hr hc q)
  clear ht hr
  by_cases hsz : Sp.size ≤ 100 ∧ Sq.size ≤ 100
  · obtain ⟨hp, hq⟩ := hsz
    have hpb := numsS_lt Sp
    have hpl := numsS_len Sp
    have hpS := strN_numsS Sp
    have hqb := numsS_lt Sq
    have hql := numsS_len Sq
    have hqS := strN_numsS Sq
    generalize numsS Sp = p at *
    generalize numsS Sq = q at *
    subst hpS hqS
    have sp := strN_size p
    have sq := strN_size q
    have hp' : p.length ≤ 100 := by omega
    have hq' : q.length ≤ 100 := by omega
    clear hpl hql hp hq
    have d1 : decide ((100 : Int) < (p.length : Int)) = false := by simp; omega
    have d2 : decide ((100 : Int) < (q.length : Int)) = false := by simp; omega
    have d1' : (p.length : Int) ≤ 100 := by omega
    have d2' : (q.length : Int) ≤ 100 := by omega
    by_cases hfew : args.length ≤ 12 ∧ ∀ a ∈ args, a.s.length ≤ 100
    · have hd : decide (args.length ≤ 12 ∧ ∀ a ∈ args, a.s.length ≤ 100) = true := decide_eq_true hfew
      rw [hd] at HF
      have hok : ∀ a ∈ args, a.ok := fun a ha => (hg a ha).ok (by have := hfew.2 a ha; omega)
      have hal : args.length ≤ 12 := hfew.1
      have HA := Lib.hid (fun W => args_any p hpb (by omega) W)
      clear hfew hd hg
      cases ha : argsF (p.length + 1) p with
      | none =>
        rw [ha] at HA
        have HA' : Hid (∀ W, Calls Tryd.prog 9 #[.string (strN p)] W fun e w' => (∃ T u, e = .returned (.tuple #[.int .i64 0, .iface T u])) ∧ Below W.heap.size W w') := Lib.hid fun W => (HA.out W).mono fun e w' h => by
          obtain ⟨⟨_, h⟩ | ⟨n, h, _⟩, hb⟩ := h
          · exact ⟨h, hb⟩
          · cases h
        clear HA
        go_enter Tryd.func3, Tryd.ntmps3
        go_wp2_with (first
          | (go_at_call 7; (with_reducible refine (awake8_any w HT.out).mono ?_); rintro e w1 ⟨rfl, b1⟩; have HB1 := Lib.hid b1; clear b1)
          | (go_at_call 8; (with_reducible refine (HF.out _ HB1.out).mono ?_); rintro e w2 ⟨rfl, b2⟩; have HB2 := Lib.hid (below_step HB1.out b2); clear b2)
          | (go_at_call 9; (with_reducible refine (HA'.out _).mono ?_); rintro e w3 ⟨⟨T, u, rfl⟩, b3⟩; have HB3 := Lib.hid (below_step HB2.out b3); clear b3)
          | fail)
        go_ret
        exact ⟨rfl, HB3.out⟩
      | some n =>
        rw [ha] at HA
        have HA' : Hid (∀ W, Calls Tryd.prog 9 #[.string (strN p)] W fun e w' => e = .returned (.tuple #[.int .i64 (n : Int), .nilIface]) ∧ Below W.heap.size W w') := Lib.hid fun W => (HA.out W).mono fun e w' h => by
          obtain ⟨⟨h, _⟩ | ⟨n', h, he⟩, hb⟩ := h
          · cases h
          · injection h with h; subst h; exact ⟨he, hb⟩
        clear HA
        have dn : decide ((n : Int) < 0) = false := by simp
        by_cases hn : n ≤ args.length
        · have dl : decide ((args.length : Int) < (n : Int)) = false := by simp; omega
          have dl' : decide (args.length < n) = false := by simp; omega
          have hcut := fun W => cut_args A args.length c n hn W
          have hR2 := HR.out.cut5 hn hc
          have hok2 : ∀ a ∈ args.drop n, a.ok := fun a ha => hok a (List.mem_of_mem_drop ha)
          have hc2 : (args.drop n).length ≤ c - n := by rw [List.length_drop]; omega
          have hpqb : ∀ x ∈ p ++ q, x < 256 := fun x hx => by
            rcases List.mem_append.1 hx with hx | hx
            · exact hpb x hx
            · exact hqb x hx
          have hpql : (p ++ q).length ≤ 1000000 := by rw [List.length_append]; omega
          have hld : (args.drop n).length = args.length - n := List.length_drop ..
          rcases joins_plain p q args n ha with ⟨e1, e2, m1, m3⟩ | ⟨s, m1, ls, ⟨e1, e2, m2, m3⟩ | ⟨t, m2, lt, ⟨big, e3, m3⟩ | m3⟩⟩
          · skip
            have M1 := Lib.hid (fun (W : World) (b : Below w.heap.size w W) (t : TzOk W) => make_no hpb (by omega) hok hc HR.out m1 b t)
            have M2 := Lib.hid (fun (W : World) (b : Below w.heap.size w W) (t : TzOk W) => make_any q hqb (by omega) (args.drop n) (cutA5 A c n) (c - n) w.heap.size hok2 hc2 W (hR2.below b) b.size t)
            rw [hld] at M2
            have M3 := Lib.hid (fun (W : World) (b : Below w.heap.size w W) (t : TzOk W) => make_no hpqb hpql hok hc HR.out m3 b t)
            rw [← strN_app] at M3
            clear hR2 hok hok2 hpqb m1 m3 hal hc2 hld hpql
            go_enter Tryd.func3, Tryd.ntmps3
            go_wp2_with (first
              | (go_at_call 7; (with_reducible refine (awake8_any w HT.out).mono ?_); rintro e w1 ⟨rfl, b1⟩; have HB1 := Lib.hid b1; have HT1 := Lib.hid (HT.out.below b1); clear b1)
              | (go_at_call 8; (with_reducible refine (HF.out _ HB1.out).mono ?_); rintro e w2 ⟨rfl, b2⟩; have HB2 := Lib.hid (below_step HB1.out b2); have HT2 := Lib.hid (HT1.out.below b2); clear b2)
              | (go_at_call 9; (with_reducible refine (HA'.out _).mono ?_); rintro e w3 ⟨rfl, b3⟩; have HB3 := Lib.hid (below_step HB2.out b3); have HT3 := Lib.hid (HT2.out.below b3); clear b3)
              | (go_at_call 10; (with_reducible refine (M1.out _ HB3.out HT3.out).mono ?_); rintro e w4 ⟨⟨T4, u4, rfl⟩, b4⟩; have HB4 := Lib.hid (below_step HB3.out b4); have HT4 := Lib.hid (HT3.out.below b4); clear b4)
              | (go_at_call 10; (with_reducible refine (M2.out _ HB4.out HT4.out).mono ?_); rintro e w5 ⟨hor, b5⟩; have HB5 := Lib.hid (below_step HB4.out b5); have HT5 := Lib.hid (HT4.out.below b5); clear b5; obtain ⟨v5, v6, rfl⟩ : ∃ v5 v6, e = .returned (.tuple #[.string v5, v6]) := (by rcases hor with ⟨_, T, u, rfl⟩ | ⟨b, _, rfl⟩ <;> exact ⟨_, _, rfl⟩); clear hor)
              | (go_at_call 10; (with_reducible refine (M3.out _ HB5.out HT5.out).mono ?_); rintro e w6 ⟨⟨T6, u6, rfl⟩, b6⟩; have HB6 := Lib.hid (below_step HB5.out b6); have HT6 := Lib.hid (HT5.out.below b6); clear b6)
              | fail)
            go_ret
            exact ⟨rfl, HB6.out⟩
          · skip
            have M1 := Lib.hid (fun (W : World) (b : Below w.heap.size w W) (t : TzOk W) => make_yes hpb (by omega) hok hc HR.out m1 b t)
            have M2 := Lib.hid (fun (W : World) (b : Below w.heap.size w W) (t : TzOk W) => make_no hqb (by omega) hok2 hc2 hR2 m2 b t)
            rw [hld] at M2
            have M3 := Lib.hid (fun (W : World) (b : Below w.heap.size w W) (t : TzOk W) => make_no hpqb hpql hok hc HR.out m3 b t)
            rw [← strN_app] at M3
            clear hR2 hok hok2 hpqb m1 m3 hal hc2 hld hpql
            go_enter Tryd.func3, Tryd.ntmps3
            go_wp2_with (first
              | (go_at_call 7; (with_reducible refine (awake8_any w HT.out).mono ?_); rintro e w1 ⟨rfl, b1⟩; have HB1 := Lib.hid b1; have HT1 := Lib.hid (HT.out.below b1); clear b1)
              | (go_at_call 8; (with_reducible refine (HF.out _ HB1.out).mono ?_); rintro e w2 ⟨rfl, b2⟩; have HB2 := Lib.hid (below_step HB1.out b2); have HT2 := Lib.hid (HT1.out.below b2); clear b2)
              | (go_at_call 9; (with_reducible refine (HA'.out _).mono ?_); rintro e w3 ⟨rfl, b3⟩; have HB3 := Lib.hid (below_step HB2.out b3); have HT3 := Lib.hid (HT2.out.below b3); clear b3)
              | (go_at_call 10; (with_reducible refine (M1.out _ HB3.out HT3.out).mono ?_); rintro e w4 ⟨rfl, b4⟩; have HB4 := Lib.hid (below_step HB3.out b4); have HT4 := Lib.hid (HT3.out.below b4); clear b4)
              | (go_at_call 10; (with_reducible refine (M2.out _ HB4.out HT4.out).mono ?_); rintro e w5 ⟨⟨T5, u5, rfl⟩, b5⟩; have HB5 := Lib.hid (below_step HB4.out b5); have HT5 := Lib.hid (HT4.out.below b5); clear b5)
              | (go_at_call 10; (with_reducible refine (M3.out _ HB5.out HT5.out).mono ?_); rintro e w6 ⟨⟨T6, u6, rfl⟩, b6⟩; have HB6 := Lib.hid (below_step HB5.out b6); have HT6 := Lib.hid (HT5.out.below b6); clear b6)
              | fail)
            go_ret
            exact ⟨rfl, HB6.out⟩
          · have big' : ((s.length : Int) + (t.length : Int)) > 65536 := by omega
            have ss := strN_size s
            have st := strN_size t
            have db : decide ((65536 : Int) < (s.length : Int) + (t.length : Int)) = true := decide_eq_true big'
            have M1 := Lib.hid (fun (W : World) (b : Below w.heap.size w W) (t : TzOk W) => make_yes hpb (by omega) hok hc HR.out m1 b t)
            have M2 := Lib.hid (fun (W : World) (b : Below w.heap.size w W) (t : TzOk W) => make_yes hqb (by omega) hok2 hc2 hR2 m2 b t)
            rw [hld] at M2
            have M3 := Lib.hid (fun (W : World) (b : Below w.heap.size w W) (t : TzOk W) => make_no hpqb hpql hok hc HR.out m3 b t)
            rw [← strN_app] at M3
            clear hR2 hok hok2 hpqb m1 m3 hal hc2 hld hpql
            go_enter Tryd.func3, Tryd.ntmps3
            go_wp2_with (first
              | (go_at_call 7; (with_reducible refine (awake8_any w HT.out).mono ?_); rintro e w1 ⟨rfl, b1⟩; have HB1 := Lib.hid b1; have HT1 := Lib.hid (HT.out.below b1); clear b1)
              | (go_at_call 8; (with_reducible refine (HF.out _ HB1.out).mono ?_); rintro e w2 ⟨rfl, b2⟩; have HB2 := Lib.hid (below_step HB1.out b2); have HT2 := Lib.hid (HT1.out.below b2); clear b2)
              | (go_at_call 9; (with_reducible refine (HA'.out _).mono ?_); rintro e w3 ⟨rfl, b3⟩; have HB3 := Lib.hid (below_step HB2.out b3); have HT3 := Lib.hid (HT2.out.below b3); clear b3)
              | (go_at_call 10; (with_reducible refine (M1.out _ HB3.out HT3.out).mono ?_); rintro e w4 ⟨rfl, b4⟩; have HB4 := Lib.hid (below_step HB3.out b4); have HT4 := Lib.hid (HT3.out.below b4); clear b4)
              | (go_at_call 10; (with_reducible refine (M2.out _ HB4.out HT4.out).mono ?_); rintro e w5 ⟨rfl, b5⟩; have HB5 := Lib.hid (below_step HB4.out b5); have HT5 := Lib.hid (HT4.out.below b5); clear b5)
              | (go_at_call 10; (with_reducible refine (M3.out _ HB5.out HT5.out).mono ?_); rintro e w6 ⟨⟨T6, u6, rfl⟩, b6⟩; have HB6 := Lib.hid (below_step HB5.out b6); have HT6 := Lib.hid (HT5.out.below b6); clear b6)
              | fail)
            go_ret
            exact ⟨rfl, HB6.out⟩
          · have ss := strN_size s
            have st := strN_size t
            have M1 := Lib.hid (fun (W : World) (b : Below w.heap.size w W) (t : TzOk W) => make_yes hpb (by omega) hok hc HR.out m1 b t)
            have M2 := Lib.hid (fun (W : World) (b : Below w.heap.size w W) (t : TzOk W) => make_yes hqb (by omega) hok2 hc2 hR2 m2 b t)
            rw [hld] at M2
            have M3 := Lib.hid (fun (W : World) (b : Below w.heap.size w W) (t : TzOk W) => make_yes hpqb hpql hok hc HR.out m3 b t)
            rw [← strN_app, ← strN_app] at M3
            clear hR2 hok hok2 hpqb m1 m3 hal hc2 hld hpql
            go_enter Tryd.func3, Tryd.ntmps3
            go_wp2_with (first
              | (go_at_call 7; (with_reducible refine (awake8_any w HT.out).mono ?_); rintro e w1 ⟨rfl, b1⟩; have HB1 := Lib.hid b1; have HT1 := Lib.hid (HT.out.below b1); clear b1)
              | (go_at_call 8; (with_reducible refine (HF.out _ HB1.out).mono ?_); rintro e w2 ⟨rfl, b2⟩; have HB2 := Lib.hid (below_step HB1.out b2); have HT2 := Lib.hid (HT1.out.below b2); clear b2)
              | (go_at_call 9; (with_reducible refine (HA'.out _).mono ?_); rintro e w3 ⟨rfl, b3⟩; have HB3 := Lib.hid (below_step HB2.out b3); have HT3 := Lib.hid (HT2.out.below b3); clear b3)
              | (go_at_call 10; (with_reducible refine (M1.out _ HB3.out HT3.out).mono ?_); rintro e w4 ⟨rfl, b4⟩; have HB4 := Lib.hid (below_step HB3.out b4); have HT4 := Lib.hid (HT3.out.below b4); clear b4)
              | (go_at_call 10; (with_reducible refine (M2.out _ HB4.out HT4.out).mono ?_); rintro e w5 ⟨rfl, b5⟩; have HB5 := Lib.hid (below_step HB4.out b5); have HT5 := Lib.hid (HT4.out.below b5); clear b5)
              | (go_at_call 10; (with_reducible refine (M3.out _ HB5.out HT5.out).mono ?_); rintro e w6 ⟨rfl, b6⟩; have HB6 := Lib.hid (below_step HB5.out b6); have HT6 := Lib.hid (HT5.out.below b6); clear b6)
              | fail)
            go_ret
            exact ⟨rfl, HB6.out⟩
        · have dl : decide ((args.length : Int) < (n : Int)) = true := by simp; omega
          have dl' : decide (args.length < n) = true := by simp; omega
          go_enter Tryd.func3, Tryd.ntmps3
          go_wp2_with (first
            | (go_at_call 7; (with_reducible refine (awake8_any w HT.out).mono ?_); rintro e w1 ⟨rfl, b1⟩; have HB1 := Lib.hid b1; clear b1)
            | (go_at_call 8; (with_reducible refine (HF.out _ HB1.out).mono ?_); rintro e w2 ⟨rfl, b2⟩; have HB2 := Lib.hid (below_step HB1.out b2); clear b2)
            | (go_at_call 9; (with_reducible refine (HA'.out _).mono ?_); rintro e w3 ⟨rfl, b3⟩; have HB3 := Lib.hid (below_step HB2.out b3); clear b3)
            | fail)
          go_ret
          exact ⟨rfl, HB3.out⟩
    · rw [decide_eq_false hfew] at HF
      go_enter Tryd.func3, Tryd.ntmps3
      go_wp2_with (first
        | (go_at_call 7; (with_reducible refine (awake8_any w HT.out).mono ?_); rintro e w1 ⟨rfl, b1⟩; have HB1 := Lib.hid b1; clear b1)
        | (go_at_call 8; (with_reducible refine (HF.out _ HB1.out).mono ?_); rintro e w2 ⟨rfl, b2⟩; have HB2 := Lib.hid (below_step HB1.out b2); clear b2)
        | fail)
      go_ret
      exact ⟨rfl, HB2.out⟩
  · by_cases hp : Sp.size ≤ 100
    case' pos => (have d1 : (Sp.size : Int) ≤ 100 := by omega); (have d2 : ¬(Sq.size : Int) ≤ 100 := by omega); have d3 : decide ((100 : Int) < (Sq.size : Int)) = true := by simp; omega
    case' neg => (have d1 : ¬(Sp.size : Int) ≤ 100 := by omega); have d3 : decide ((100 : Int) < (Sp.size : Int)) = true := by simp; omega
    all_goals
      clear hsz hp
      go_enter Tryd.func3, Tryd.ntmps3
      go_wp2_with (first
        | (go_at_call 7; (with_reducible refine (awake8_any w HT.out).mono ?_); rintro e w1 ⟨rfl, b1⟩; have HB1 := Lib.hid b1; clear b1)
        | (go_at_call 8; (with_reducible refine (HF.out _ HB1.out).mono ?_); rintro e w2 ⟨rfl, b2⟩; have HB2 := Lib.hid (below_step HB1.out b2); clear b2)
        | fail)
      go_ret
      exact ⟨rfl, HB1.out⟩
end Go.Proofs.YtpkooogfefkcdaaDoor
