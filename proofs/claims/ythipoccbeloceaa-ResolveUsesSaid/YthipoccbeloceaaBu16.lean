/- Several texts put together: RtN, RtO. -/
import Derived.Test.YthipoccbeloceaaBu7
import Derived.Test.YthipoccbeloceaaBu12
set_option linter.unusedSimpArgs false
set_option linter.unusedVariables false
namespace Go.Proofs.Ythipoccbeloceaa
open Go.RowKit
theorem info_place : (Try.prog.info? 101).map (fun i => (i.zero, i.size, i.bytes)) = some (some (.agg #[.pointer none, .pointer none, .int .i64 0, .int .i64 0, .int .i64 0, .bool false]), 6, 48) := by kernel_rfl
def remPl (ys : List (Pl × List Value)) : List Pl := (ys.map (·.1)).reverse.flatMap prePl
theorem remPl_nil : remPl [] = [] := rfl
theorem remPl_app (ys : List (Pl × List Value)) (y : Pl × List Value) : remPl (ys ++ [y]) = prePl y.1 ++ remPl ys := by
  unfold remPl
  rw [List.map_append, List.reverse_append, List.flatMap_append]
  congr 1
  simp
theorem remPl_ge : ∀ ys : List (Pl × List Value), ys.length ≤ (remPl ys).length
  | [] => Nat.zero_le _
  | y :: ys => by
    have ih := remPl_ge ys
    unfold remPl at ih ⊢
    rw [List.map_cons, List.reverse_cons, List.flatMap_append, List.length_append, List.flatMap_singleton, prePl_eq, List.length_cons, List.length_cons]
    omega
structure StkOk (w1 : World) (X : List Nat) (G : Pl → Prop) (ys : List (Pl × List Value)) : Prop where
  at_ : ∀ y ∈ ys, PlAt w1 (Eld w1 X) y.1 (.agg y.2.toArray)
  g : ∀ y ∈ ys, ∀ p ∈ prePl y.1, G p
theorem PlAt.len {w : World} {P : Nat → Prop} {p : Pl} {l : List Value} (h : PlAt w P p (.agg l.toArray)) : l.length = 6 := by
  obtain ⟨b, o, A, c, u, e, _⟩ := h
  injection e with e
  rw [← List.size_toArray, e]
  rfl
theorem flat_pre_ge : ∀ l : List Pl, l.length ≤ (l.flatMap prePl).length
  | [] => Nat.zero_le _
  | p :: l => by
    have := flat_pre_ge l
    rw [List.flatMap_cons, List.length_append, prePl_eq, List.length_cons, List.length_cons]
    omega
theorem UpAt.ptr {w : World} {P : Nat → Prop} {up : Option NodeT} {v : Value} (h : UpAt w P up v) : ∃ a, v = .pointer a := by
  cases up with
  | none => exact ⟨_, h⟩
  | some u => obtain ⟨b, o, A, c, e, _⟩ := h; exact ⟨_, e⟩
theorem StkOk.app {w1 : World} {X : List Nat} {G : Pl → Prop} {ys : List (Pl × List Value)} (h : StkOk w1 X G ys) {y : Pl × List Value} (h1 : PlAt w1 (Eld w1 X) y.1 (.agg y.2.toArray)) (h2 : ∀ p ∈ prePl y.1, G p) : StkOk w1 X G (ys ++ [y]) :=
  ⟨fun z hz => by
    rcases List.mem_append.1 hz with hz | hz
    · exact h.at_ z hz
    · rw [List.mem_singleton.1 hz]; exact h1, fun z hz => by
    rcases List.mem_append.1 hz with hz | hz
    · exact h.g z hz
    · rw [List.mem_singleton.1 hz]; exact h2⟩
theorem loop_c (A B C D : Bool) : A = true ∨ (A = false ∧ B = true) ∨ (A = false ∧ B = false ∧ C = true) ∨ (A = false ∧ B = false ∧ C = false ∧ D = true) ∨ (A = false ∧ B = false ∧ C = false ∧ D = false) := by cases A <;> cases B <;> cases C <;> cases D <;> simp
section
variable {α : Type} {w1 : World} {X : List Nat} {F : List Cold} {KF : FuncId} {first cap : Array Value} {I : α → Vst → Prop} {G : Pl → Prop} {cont : α → Pl → Bool} {step : α → Pl → α} {sz : α → Nat} {B : Nat}
def UndJ (w1 : World) (X : List Nat) (F : List Cold) (I : α → Vst → Prop) (G : Pl → Prop) (cont : α → Pl → Bool) (step : α → Pl → α) (sz : α → Nat) (B : Nat) (R : α × Bool) (bs : List Bx) (rs : List Rw) (n : Nat) (a : Value × World) : Prop :=
  ∃ (ys : List (Pl × List Value)) (A : Option Addr) (c m : Nat) (x : α) (V : Vst), a.1 = .slice A m c ∧ ys.length = m ∧ n = (remPl ys).length ∧ n ≤ 1000000 ∧ sz x + n ≤ B ∧ StkOk w1 X G ys ∧ I x V ∧ runV cont step x (remPl ys) = R ∧ Hid (Own w1 X V.S (bs ++ V.bx) (⟨101, 6, .slice A m c, m, ys.flatMap (·.2)⟩ :: (rs ++ V.rw)) F a.2)
set_option maxRecDepth 100000 in
set_option maxHeartbeats 6400000 in
theorem under_any (HV : Hid (VisOK w1 X F KF first cap I G cont step sz B)) {x : α} {V : Vst} {p : Pl} {v : Value} {bs : List Bx} {rs : List Rw} {w : World} (hI : I x V) (hG : ∀ q ∈ prePl p, G q) (hp : PlAt w1 (Eld w1 X) p v) (hsz : (prePl p).length ≤ 1000000) (hB : sz x + (prePl p).length ≤ B) (HO : Hid (Own w1 X V.S (bs ++ V.bx) (rs ++ V.rw) F w)) :
    Calls Try.prog 37 #[v, .func (.func KF) first cap] w fun e w' => e = .returned (.bool (runV cont step x (prePl p)).2) ∧ ∃ V', I (runV cont step x (prePl p)).1 V' ∧ Own w1 X V'.S (bs ++ V'.bx) (rs ++ V'.rw) F w' := by
  obtain ⟨R, hR⟩ : ∃ R, runV cont step x (prePl p) = R := ⟨_, rfl⟩
  rw [hR]
  obtain ⟨b, o, A, c, u, hv, hnu⟩ := id hp
  subst hv
  clear hnu
  have HI := Lib.hid hI
  have HG := Lib.hid hG
  have HP := Lib.hid hp
  have HR := Lib.hid hR
  clear hI hG hp hR
  go_enter Try.func37, Try.ntmps37
  (repeat' (first | ((with_reducible refine zG ?_); first | refine oWx ?_ | (refine oWs ?_; clear HO; intro _ HO) | (refine oWj ?_; clear HO; intro _ HO HB)) | ((with_reducible refine ab_row HO 101 6 1 ?_ ?_ ?_); (rfl); (decide); clear HO; intro _ HO) | go_values | go_skip | go_guarded | go_step | go_upon | (go_ite <;> go_prune <;> (try go_simp))))
  have HJ : Hid (UndJ w1 X F I G cont step sz B R (⟨w.heap.size, 101, [.pointer (some ⟨b, o, none⟩), u, .int .i64 (p.i : Int), .int .i64 p.fn, .int .i64 (p.kd : Int), .bool p.lp]⟩ :: bs) rs (prePl p).length (_, _)) := Lib.hid ⟨[(p, [.pointer (some ⟨b, o, none⟩), u, .int .i64 (p.i : Int), .int .i64 p.fn, .int .i64 (p.kd : Int), .bool p.lp])], _, _, _, x, V, rfl, rfl, by simp [remPl], hsz, hB, ⟨fun y hy => by rw [List.mem_singleton.1 hy]; exact HP.out, fun y hy => by rw [List.mem_singleton.1 hy]; exact HG.out⟩, HI.out, by simpa [remPl] using HR.out, HO⟩
  have hsub := List.sublist_cons_self (⟨w.heap.size, 101, [.pointer (some ⟨b, o, none⟩), u, .int .i64 (p.i : Int), .int .i64 p.fn, .int .i64 (p.kd : Int), .bool p.lp]⟩ : Bx) bs
  generalize (⟨w.heap.size, 101, [.pointer (some ⟨b, o, none⟩), u, .int .i64 (p.i : Int), .int .i64 p.fn, .int .i64 (p.kd : Int), .bool p.lp]⟩ : Bx) :: bs = bs1 at HJ hsub
  have HSB := Lib.hid hsub
  clear hsub
  clear HO
  obtain ⟨μ, hμ⟩ := least_fn (UndJ w1 X F I G cont step sz B R bs1 rs)
  have Hμ := Lib.hid hμ
  clear hμ
  go_loopw [5] (fun v W => ∃ n, UndJ w1 X F I G cont step sz B R bs1 rs n (v, W)) (fun v W => μ (v, W))
  case atStart => exact ⟨_, HJ.out⟩
  case round =>
    clear HJ HR HI HG HP
    obtain ⟨hj, hmin⟩ := Hμ.out _ hrel
    clear hrel
    generalize hN : μ _ = N at hj
    have HN9 := Lib.hid hN
    clear hN
    obtain ⟨ys, A2, c2, m, x2, V2, e1, hm, hn, hN6, hNB, hS, hI2, hR2, HO⟩ := hj
    dsimp only at e1 HO
    subst e1
    have HI := Lib.hid hI2
    have HR := Lib.hid hR2
    have HS := Lib.hid hS
    have HM := Lib.hid hn
    clear hI2 hR2 hS hn hmin
    rcases List.eq_nil_or_concat ys with rfl | ⟨ys', y, hyy⟩
    · obtain rfl : m = 0 := hm.symm
      have hr := HR.out
      rw [remPl_nil, runV] at hr
      subst hr
      (repeat' (first | ((with_reducible refine zG ?_); first | refine oWx ?_ | (refine oWs ?_; clear HO; intro _ HO) | (refine oWj ?_; clear HO; intro _ HO HB)) | go_values | go_skip | go_guarded | go_step | go_upon | (go_ite <;> go_prune <;> (try go_simp))))
      refine bp_tmp (t := 4) rfl rfl rfl ?_
      exact ⟨rfl, V2, HI.out, HO.out.sub (HSB.out.append (List.Sublist.refl _)) (List.sublist_cons_self _ _) (fun _ h => h)⟩
    · rw [List.concat_eq_append] at hyy
      subst hyy
      obtain ⟨q, cs⟩ := y
      have hpq := HS.out.at_ (q, cs) (by simp)
      have hgq := HS.out.g (q, cs) (by simp)
      obtain ⟨b3, o3, A3, c3, u4, ey, hn3, hu3⟩ := id hpq
      obtain ⟨u3, rfl⟩ := hu3.ptr
      dsimp only at hpq hgq ey
      injection ey with ey
      have ey2 := congrArg Array.toList ey
      dsimp only at ey2
      subst ey2
      clear ey
      have hlen : ∀ z ∈ ys' ++ [(q, [.pointer (some ⟨b3, o3, none⟩), .pointer u3, .int .i64 (q.i : Int), .int .i64 q.fn, .int .i64 (q.kd : Int), .bool q.lp])], z.2.length = 6 := fun z hz => (HS.out.at_ z hz).len
      obtain ⟨k, hk⟩ : ∃ k, ys'.length = k := ⟨_, rfl⟩
      obtain rfl : m = k + 1 := by rw [← hm]; simp [hk]
      have hel : ∀ j v, [Value.pointer (some ⟨b3, o3, none⟩), .pointer u3, .int .i64 (q.i : Int), .int .i64 q.fn, .int .i64 (q.kd : Int), .bool q.lp][j]? = some v → ((ys' ++ [(q, [Value.pointer (some ⟨b3, o3, none⟩), .pointer u3, .int .i64 (q.i : Int), .int .i64 q.fn, .int .i64 (q.kd : Int), .bool q.lp])]).flatMap (·.2))[k * 6 + j]? = some v := fun j v hv => flat_get _ 6 _ k j _ v hlen (by rw [← hk, List.getElem?_append_right (Nat.le_refl _), Nat.sub_self]; rfl) hv
      have htk : ((ys' ++ [(q, [Value.pointer (some ⟨b3, o3, none⟩), .pointer u3, .int .i64 (q.i : Int), .int .i64 q.fn, .int .i64 (q.kd : Int), .bool q.lp])]).flatMap (·.2)).take (k * 6) = ys'.flatMap (·.2) := by
        have hl := flat_len (β := Pl × List Value) (·.2) 6 ys' (fun z hz => hlen z (List.mem_append_left _ hz))
        rw [List.flatMap_append, List.take_append_of_le_length (Nat.le_of_eq (by rw [hl, hk])), List.take_of_length_le (Nat.le_of_eq (by rw [hl, hk]))]
      have hr := HR.out
      have hmm := HM.out
      rw [remPl_app, prePl_eq, List.cons_append] at hr hmm
      dsimp only at hr hmm
      rw [runV] at hr
      rw [List.length_cons] at hmm
      obtain ⟨b2, rfl, hc2, _⟩ := row_ptr (HO.out.row _ List.mem_cons_self) (Nat.succ_pos k)
      have hkc : (k : Int) ≤ (c2 : Int) := by omega
      have hkb : k + 1 ≤ 1000000 := by
        have := remPl_ge (ys' ++ [(q, [Value.pointer (some ⟨b3, o3, none⟩), .pointer u3, .int .i64 (q.i : Int), .int .i64 q.fn, .int .i64 (q.kd : Int), .bool q.lp])])
        have h2 := HM.out
        rw [List.length_append, hk] at this
        simp only [List.length_cons, List.length_nil] at this
        omega
      have hlb : q.n.l.length + k + 1 ≤ N := by
        have h1 := flat_pre_ge (kidsFrom q 0 q.n.l)
        have h2 := remPl_ge ys'
        rw [kidsFrom_len] at h1
        rw [List.length_append] at hmm
        omega
      have HS2 : Hid (StkOk w1 X G ys') := Lib.hid ⟨fun z hz => HS.out.at_ z (List.mem_append_left _ hz), fun z hz => HS.out.g z (List.mem_append_left _ hz)⟩
      have hlt9 : sz x2 < B := by omega
      have HEL := Lib.hid hel
      have HPQ := Lib.hid hpq
      have HGQ := Lib.hid hgq
      have HK := Lib.hid hk
      have HMM := Lib.hid hmm
      have HN := Lib.hid hn3
      have HTK := Lib.hid htk
      clear hel hpq hgq HS HR HM hlen hk hmm hn3 hu3 hm htk
      cases hc : cont x2 q
      · rw [hc, if_neg (by decide)] at hr
        subst hr
        (repeat' (first | ((with_reducible refine zG ?_); first | refine oWx ?_ | (refine oWs ?_; clear HO; intro _ HO) | (refine oWj ?_; clear HO; intro _ HO HB)) | ((with_reducible refine to_load ?_); (first | (refine oRw HO rfl rfl List.mem_cons_self HEL.out ?_)); (try simp only [Act.put, pS])) | ((with_reducible refine to_call ?_); refine wo_vis rfl rfl rfl HV.out.run ?_; have HO2 := HO.out.cutRow (k := k) (Nat.le_succ k); rw [HTK.out] at HO2; refine (HV.out.call x2 V2 q _ (_ :: bs1) (_ :: rs) _ HI.out hlt9 (HGQ.out q (by rw [prePl_eq]; exact List.mem_cons_self)) HPQ.out HO2).mono ?_; rintro e W ⟨rfl, V3, hI3, hO3⟩; refine ⟨_, rfl, ?_⟩; rw [hc]; clear HO HO2; have HO : Hid (Own w1 X V3.S (_ :: (bs1 ++ V3.bx)) (_ :: (rs ++ V3.rw)) F W) := Lib.hid hO3; have HI3 := Lib.hid hI3; clear hO3 hI3) | go_values | go_skip | go_guarded | go_step | go_upon | (go_ite <;> go_prune <;> (try go_simp))))
        refine bp_tmp (t := 4) rfl rfl rfl ?_
        exact ⟨rfl, V3, HI3.out, HO.out.sub ((HSB.out.trans (List.sublist_cons_self _ _)).append (List.Sublist.refl _)) (List.sublist_cons_self _ _) (fun _ h => h)⟩
      · rw [hc, if_pos rfl] at hr
        have HR := Lib.hid hr
        clear hr
        obtain ⟨lp, hlp⟩ : ∃ z, (q.lp || isLoop q.n) = z := ⟨_, rfl⟩
        have hcs := loop_c ((q.n.k : Int) == 43) ((q.n.k : Int) == 44) ((q.n.k : Int) == 45) ((q.n.k : Int) == 46)
        rcases hcs with h1 | ⟨h1, h2⟩ | ⟨h1, h2, h3⟩ | ⟨h1, h2, h3, h4⟩ | ⟨h1, h2, h3, h4⟩
        all_goals
          (repeat' (first | ((with_reducible refine zG ?_); first | refine oWx ?_ | (refine oWs ?_; clear HO; intro _ HO) | (refine oWj ?_; clear HO; intro _ HO HB)) | ((with_reducible refine to_load ?_); (first | first | refine oRw HO rfl rfl List.mem_cons_self HEL.out ?_ | refine oN0 HO rfl rfl HN ?_ | refine oNj HO rfl rfl HN rfl rfl ?_); (try simp only [Act.put, pS])) | ((with_reducible refine to_call ?_); refine wo_vis rfl rfl rfl HV.out.run ?_; have HO2 := HO.out.cutRow (k := k) (Nat.le_succ k); rw [HTK.out] at HO2; refine (HV.out.call x2 V2 q _ (_ :: bs1) (_ :: rs) _ HI.out hlt9 (HGQ.out q (by rw [prePl_eq]; exact List.mem_cons_self)) HPQ.out HO2).mono ?_; rintro e W ⟨rfl, V3, hI3, hO3⟩; refine ⟨_, rfl, ?_⟩; rw [hc]; clear HO HO2; have HO : Hid (Own w1 X V3.S (_ :: (bs1 ++ V3.bx)) (_ :: (rs ++ V3.rw)) F W) := Lib.hid hO3; have HI3 := Lib.hid hI3; clear hO3 hI3) | go_values | go_skip | go_guarded | go_step | go_upon | (go_ite <;> go_prune <;> (try go_simp))))
          first
          | have hlp : (q.lp || isLoop q.n) = true := by unfold isLoop; simp [*]
          | have hlp : (q.lp || isLoop q.n) = q.lp := by unfold isLoop; simp [*]
          clear hc
          go_loopw [5, 8] (fun sv iv W => ∃ (j m : Nat) (els : List (Pl × List Value)) (A c : _) (z : Int), sv = .slice A m c ∧ iv = .int .i64 z ∧ z = (j : Int) - 1 ∧ j ≤ q.n.l.length ∧ els.length = m ∧ Hid (els.map (·.1) = ys'.map (·.1) ++ ((kidsFrom q 0 q.n.l).drop j).reverse) ∧ Hid (StkOk w1 X G els) ∧ Hid (Own w1 X V3.S (⟨wr.heap.size, 101, [.pointer (some ⟨b3, o3, none⟩), .pointer u3, .int .i64 (q.i : Int), .int .i64 q.fn, .int .i64 (q.kd : Int), .bool q.lp]⟩ :: (bs1 ++ V3.bx)) (⟨101, 6, .slice A m c, m, els.flatMap (·.2)⟩ :: (rs ++ V3.rw)) F W)) (fun _ iv _ => ((intOf iv) + 1).toNat)
          case atStart => exact ⟨q.n.l.length, _, ys', _, _, _, rfl, rfl, rfl, Nat.le_refl _, HK.out, Lib.hid (by rw [List.drop_of_length_le (Nat.le_of_eq (kidsFrom_len q 0 q.n.l))]; simp), HS2, HO⟩
          case round =>
            clear HO
            obtain ⟨j, m, els, A5, c5, z, rfl, rfl, hz, hj, hm, HE, HS3, HO⟩ := hrel
            rcases j with _ | j
            · obtain rfl : z = -1 := by omega
              clear hz hj
              (repeat' (first | ((with_reducible refine zG ?_); first | refine oWx ?_ | (refine oWs ?_; clear HO; intro _ HO) | (refine oWj ?_; clear HO; intro _ HO HB)) | go_values | go_skip | go_guarded | go_step | go_upon | (go_ite <;> go_prune <;> (try go_simp))))
              have hre : remPl els = (kidsFrom q 0 q.n.l).flatMap prePl ++ remPl ys' := by
                unfold remPl
                rw [HE.out, List.drop_zero, List.reverse_append, List.reverse_reverse, List.flatMap_append]
              have hJ : UndJ w1 X F I G cont step sz B R bs1 rs (remPl els).length (Value.slice A5 m c5, _) := ⟨els, A5, c5, m, step x2 q, V3, rfl, hm, rfl, by have h1 := HMM.out; rw [hre]; omega, by have h1 := HMM.out; have h2 := HV.out.up x2 q; rw [hre]; omega, HS3.out, HI3.out, by rw [hre]; exact HR.out, Lib.hid (HO.out.sub (List.sublist_cons_self _ _) (List.Sublist.refl _) (fun _ h => h))⟩
              exact ⟨⟨_, hJ⟩, Nat.lt_of_le_of_lt ((Hμ.out _ ⟨_, hJ⟩).2 _ hJ) (by rw [HN9.out]; have h1 := HMM.out; rw [hre]; omega)⟩
            · obtain rfl : z = (j : Int) := by omega
              obtain ⟨b6, o6, A6, c6, rfl, hkid⟩ := HN.out.kid j hj
              have HKID := Lib.hid hkid
              have hjI : (j : Int) < (q.n.l.length : Int) := by omega
              clear hkid hz
              have hml : m + (j + 1) = k + q.n.l.length := by
                have h1 := congrArg List.length HE.out
                rw [List.length_map, List.length_append, List.length_map, List.length_reverse, List.length_drop, kidsFrom_len] at h1
                have h2 := HK.out
                omega
              (repeat' (first | ((with_reducible refine zG ?_); first | refine oWx ?_ | (refine oWs ?_; clear HO; intro _ HO) | (refine oWj ?_; clear HO; intro _ HO HB)) | go_values | go_skip | go_guarded | go_step | go_upon | (go_ite <;> go_prune <;> (try go_simp))))
              ((refine tBg HO [] (.pu 0 (.pu 1 (.pu 6 (.pu 8 (.pu 10 (.pu 11 (.pu 13 (.pu 15 (.ld 2 (.pu 3 (.pu 4 (.ld 5 (.pu 7 (.ld 9 (.ld 12 (.ld 14 (.pu 16 (.ef 17 (.ef 18 (.pu 19 (.nil))))))))))))))))))))) ?_); (clear HO; intro _ HO); (repeat' (first | ((with_reducible refine tGo ?_); first | ((first | refine tL1 (OwnT.of HO) rfl rfl rfl (by kernel_rfl) (fun _ _ _ h => h) (by rfl) ?_ | refine tL3 (OwnT.of HO) rfl rfl rfl (by kernel_rfl) (fun _ _ _ h => h) (by rfl) ?_ | refine tY1 (OwnT.of HO) rfl rfl rfl (by kernel_rfl) (fun _ _ _ h => h) (by rfl) ?_ | refine tNj HN (OwnT.of HO) rfl rfl rfl rfl rfl (by kernel_rfl) (fun _ _ _ h => h) (by rfl) ?_); (try simp only [Act.put, pS])) | ((first | refine tPu (OwnT.of HO) rfl (by kernel_rfl) (fun _ _ _ h => h) (by rfl) (by intro _; go_simp; (try with_reducible rfl)) ?_); (try simp only [Act.put, pS])) | refine tEf rfl (by kernel_rfl) (by rfl) (fun K hK => ?_) | refine tLt rfl (by kernel_rfl) (by rfl) (fun K hK => ?_) | refine tDo (by kernel_rfl) ?_) | ((with_reducible refine uGo ?_); first | ((refine uPu rfl (by kernel_rfl) (fun _ _ _ h => h) (by rfl) (by intro _; go_simp; (try with_reducible rfl)) ?_); (try simp only [Act.put, pS])) | refine uEf rfl (by kernel_rfl) (by rfl) (fun K hK => ?_) | refine uDo (by kernel_rfl) ?_) | ((with_reducible show K _ _); (first | refine hK.out _ _ (OwnT.of HO) ?_ | with_reducible refine hK.out _ _ ?_); clear hK K; (try simp only [Act.put, pS])) | ((first | ((with_reducible refine to_append ?_); refine wo_appG HO rfl rfl rfl HB Try.underlying118 info_place rfl (by decide) rfl (by simp [Value.oneCell']) (by omega) (by decide) ?_; clear HO HB; intro _ _ _ hcap HO; (try simp only [Act.put, pS]))) <;> (try dsimp only)) | ((with_reducible refine ab_junk HO _ ?_); clear HO; intro _ HO HB) | ((with_reducible refine eOp ?_); go_simp))))
              (repeat' (first | ((with_reducible refine zG ?_); first | refine oWx ?_ | (refine oWs ?_; clear HO; intro _ HO) | (refine oWj ?_; clear HO; intro _ HO HB)) | go_values | go_skip | go_guarded | go_step | go_upon | (go_ite <;> go_prune <;> (try go_simp))))
              obtain ⟨kd, hkd⟩ : ∃ y : Pl, y = ⟨q.n.l[j], some q.n, j, q.fn, q.kd, q.lp || isLoop q.n⟩ := ⟨_, rfl⟩
              have hkg : (kidsFrom q 0 q.n.l)[j]? = some kd := by
                have h1 := kidsFrom_get q 0 q.n.l j _ (List.getElem?_eq_getElem hj)
                rw [Nat.zero_add] at h1
                rw [h1, hkd]
              have hkm : kd ∈ kidsFrom q 0 q.n.l := List.mem_of_getElem? hkg
              have hkl : j < (kidsFrom q 0 q.n.l).length := by rw [kidsFrom_len]; exact hj
              have hdr : ((kidsFrom q 0 q.n.l).drop j).reverse = ((kidsFrom q 0 q.n.l).drop (j + 1)).reverse ++ [kd] := by
                rw [List.drop_eq_getElem_cons hkl, List.reverse_cons]
                rw [List.getElem?_eq_getElem hkl] at hkg
                injection hkg with hkg
                rw [hkg]
              have e2 : ∀ cs, els.flatMap (·.2) ++ cs = (els ++ [(kd, cs)]).flatMap (·.2) := fun cs => by simp
              rw [e2] at HO
              refine ⟨⟨j, m + 1, _, _, _, _, rfl, rfl, ?_, Nat.le_of_lt hj, ?_, Lib.hid ?_, Lib.hid ?_, HO⟩, ?_⟩
              · rfl
              · rw [List.length_append, hm]; rfl
              · rw [List.map_append, HE.out, hdr, List.append_assoc]; rfl
              · refine HS3.out.app ?_ ?_
                · dsimp only
                  rw [hkd]
                  exact ⟨b6, _, A6, c6, _, by rw [hlp], HKID.out, ⟨b3, o3, _, c3, rfl, HN.out⟩⟩
                · exact fun z hz => HGQ.out z (by rw [prePl_eq]; exact List.mem_cons_of_mem _ (List.mem_flatMap.2 ⟨kd, hkm, hz⟩))
              · show (((j : Int) - 1) + 1).toNat < ((j : Int) + 1).toNat
                omega
end
open Go.RowKit
theorem kidsL_nd {w : World} {P : Nat → Prop} {l : List NodeT} {A : Option Addr} (h : KidsL w P l A 0) (i : Nat) (hi : i < l.length) : ∃ b' o' A' c', A = some ⟨b', o', none⟩ ∧ NdAt w P b' (o' + i * 8) l[i] A' c' := by
  obtain ⟨b', o', A', c', h1, h2, h3, h4, h5⟩ := kidsL_get l 0 i hi h
  rw [Nat.zero_add, Nat.mul_comm] at h3
  exact ⟨b', o', A', c', h1, h2, h3, h4, by rw [KidsN_eq] at h5; exact h5⟩
theorem TrAt.body {w : World} {P : Nat → Prop} {AF AR : Option Addr} {nF nR : Nat} {t : TreeT} (h : TrAt w P AF AR nF nR t) {i : Nat} {f : FuncT} (hf : t.funcs[i]? = some f) : nF = t.funcs.length ∧ ∃ b B e, AF = some ⟨b, 0, none⟩ ∧ NdAt w P b (i * 11 + 2) f.body B e := by
  obtain ⟨hn, b, A, c, B, e, hA, hb, hc, hok⟩ := h.func hf
  refine ⟨hn, b, B, e, hA, hb, fun j v hv => ?_, hok.2.1, hok.2.2.2⟩
  have hj : j < 8 := by
    rcases Nat.lt_or_ge j 8 with h | h
    · exact h
    · rw [List.getElem?_eq_none (by simpa [nodeC] using h)] at hv; cases hv
  rw [Nat.add_assoc]
  refine hc (2 + j) v ?_
  rw [← hv]
  match j, hj with
  | 0, _ => rfl
  | 1, _ => rfl
  | 2, _ => rfl
  | 3, _ => rfl
  | 4, _ => rfl
  | 5, _ => rfl
  | 6, _ => rfl
  | 7, _ => rfl
theorem flatR_get : ∀ (re : List ElR) (i j : Nat) (x : ElR), re[i]? = some x → j < 12 → (flatR re)[i * 12 + j]? = (ruleC x.1 x.2.1 x.2.2.1 x.2.2.2.1 x.2.2.2.2)[j]?
  | [], i, j, x, h, _ => by simp at h
  | y :: re, 0, j, x, h, hj => by
    simp at h
    subst h
    unfold flatR
    rw [List.flatMap_cons, Nat.zero_mul, Nat.zero_add, List.getElem?_append_left (by simpa [ruleC] using hj)]
  | y :: re, i + 1, j, x, h, hj => by
    have ih := flatR_get re i j x (by simpa using h) hj
    unfold flatR at ih ⊢
    rw [List.flatMap_cons, List.getElem?_append_right (by simp [ruleC]; omega)]
    rw [← ih]
    congr 1
    simp [ruleC]
    omega
theorem TrAt.rule {w : World} {P : Nat → Prop} {AF AR : Option Addr} {nF nR : Nat} {t : TreeT} (h : TrAt w P AF AR nF nR t) {i : Nat} {r : RuleT} (hf : t.rules[i]? = some r) : nR = t.rules.length ∧ ∃ b A c B e, AR = some ⟨b, 0, none⟩ ∧ P b ∧ w.cell? ⟨b, i * 12, none⟩ = some (.int .i64 (r.k : Int)) ∧ w.cell? ⟨b, i * 12 + 2, none⟩ = some (.slice A r.l.length c) ∧ KidsL w P r.l A 0 ∧ NdAt w P b (i * 12 + 3) r.body B e := by
  obtain ⟨fe, re, rfl, _, hn, hT⟩ := h
  have hx : (re.map (·.1))[i]? = some r := hf
  rw [List.getElem?_map] at hx
  obtain ⟨⟨r', A, c, B, e⟩, hy, rfl⟩ := Option.map_eq_some_iff.1 hx
  have hne : flatR re ≠ [] := by
    intro h0
    have := flatR_get re i 0 _ hy (by decide)
    rw [h0] at this
    simp [ruleC] at this
  obtain ⟨b, hA, hb, hc⟩ := hT.rr hne
  have hok := hT.er _ (List.mem_of_getElem? hy)
  have hcl : ∀ j u, (ruleC r' A c B e)[j]? = some u → w.cell? ⟨b, i * 12 + j, none⟩ = some u := fun j u hu => by
    have hj : j < 12 := by
      rcases Nat.lt_or_ge j 12 with h | h
      · exact h
      · rw [List.getElem?_eq_none (by simpa [ruleC] using h)] at hu; cases hu
    exact hc _ u (by rw [flatR_get re i j _ hy hj]; exact hu)
  refine ⟨by rw [hn]; simp, b, A, c, B, e, hA, hb, hcl 0 _ rfl, hcl 2 _ rfl, hok.2.2.1, hb, fun j v hv => ?_, hok.2.1, hok.2.2.2⟩
  have hj : j < 8 := by
    rcases Nat.lt_or_ge j 8 with h | h
    · exact h
    · rw [List.getElem?_eq_none (by simpa [nodeC] using h)] at hv; cases hv
  rw [Nat.add_assoc]
  refine hcl (3 + j) v ?_
  rw [← hv]
  match j, hj with
  | 0, _ => rfl
  | 1, _ => rfl
  | 2, _ => rfl
  | 3, _ => rfl
  | 4, _ => rfl
  | 5, _ => rfl
  | 6, _ => rfl
  | 7, _ => rfl
def plF (i : Nat) (f : FuncT) : Pl := ⟨f.body, none, 0, (i : Int), 0, false⟩
def plR (r : RuleT) (n : NodeT) : Pl := ⟨n, none, 0, -1, r.k, false⟩
def restF (t : TreeT) (i : Nat) : List Pl := plFuncs i (t.funcs.drop i) ++ t.rules.flatMap plRule
def restR (t : TreeT) (i : Nat) : List Pl := (t.rules.drop i).flatMap plRule
def restL (t : TreeT) (i : Nat) (r : RuleT) (j : Nat) : List Pl := (r.l.drop j).flatMap (fun n => prePl (plR r n)) ++ (prePl (plR r r.body) ++ restR t (i + 1))
theorem restF_step {t : TreeT} {i : Nat} {f : FuncT} (h : t.funcs[i]? = some f) : restF t i = prePl (plF i f) ++ restF t (i + 1) := by
  obtain ⟨hi, e⟩ := List.getElem?_eq_some_iff.1 h
  unfold restF
  rw [List.drop_eq_getElem_cons hi, e, plFuncs, List.append_assoc]
  rfl
theorem restF_end {t : TreeT} {i : Nat} (h : t.funcs.length ≤ i) : restF t i = restR t 0 := by
  unfold restF restR
  rw [List.drop_eq_nil_of_le h, plFuncs]
  rfl
theorem restR_step {t : TreeT} {i : Nat} {r : RuleT} (h : t.rules[i]? = some r) : restR t i = restL t i r 0 := by
  obtain ⟨hi, e⟩ := List.getElem?_eq_some_iff.1 h
  unfold restR restL
  rw [List.drop_eq_getElem_cons hi, e, List.flatMap_cons]
  unfold plRule restR
  rw [List.append_assoc]
  rfl
theorem restR_end {t : TreeT} {i : Nat} (h : t.rules.length ≤ i) : restR t i = [] := by
  unfold restR
  rw [List.drop_eq_nil_of_le h]
  rfl
theorem restL_step {t : TreeT} {i j : Nat} {r : RuleT} (h : j < r.l.length) : restL t i r j = prePl (plR r r.l[j]) ++ restL t i r (j + 1) := by
  unfold restL
  rw [List.drop_eq_getElem_cons h, List.flatMap_cons, List.append_assoc]
theorem restL_end {t : TreeT} {i j : Nat} {r : RuleT} (h : r.l.length ≤ j) : restL t i r j = prePl (plR r r.body) ++ restR t (i + 1) := by
  unfold restL
  rw [List.drop_eq_nil_of_le h]
  rfl
theorem runV_true {α : Type} {cont : α → Pl → Bool} {step : α → Pl → α} {x : α} {l m : List Pl} {R : α × Bool} (h : runV cont step x (l ++ m) = R) (h2 : (runV cont step x l).2 = true) : runV cont step (runV cont step x l).1 m = R := by
  rw [runV_app, if_pos h2] at h
  exact h
theorem runV_false {α : Type} {cont : α → Pl → Bool} {step : α → Pl → α} {x : α} {l m : List Pl} {R : α × Bool} (h : runV cont step x (l ++ m) = R) (h2 : (runV cont step x l).2 = false) : runV cont step x l = R := by
  rw [runV_app, if_neg (by rw [h2]; decide)] at h
  exact h
section
variable {o : Oper} {a : Act} {w0 w : World} {X : List Nat} {S : World → Prop} {bs : List Bx} {rs : List Rw} {F : List Cold} {K : Act → World → Prop} {Q : Exit → Act → World → Prop}
theorem oHT (HO : Hid (Own w0 X S bs rs F w)) {ty : TypeId} {x : Operand} (ho : o.op = .load ty x) {p : Addr} (hx : a.eval x = .pointer (some p)) [T : T1 ty] {v : Value} (hl : ∀ w, Hid (Own w0 X S bs rs F w) → w.cell? p = some v) (h : K (a.put o.dst v) w) : WOp Try.prog o a w K Q := wo_run HO (fun w h => run_cell ho hx (hl w h)) h
end
section
variable {α : Type} {w1 : World} {X : List Nat} {F : List Cold} {KF : FuncId} {first cap : Array Value} {I : α → Vst → Prop} {G : Pl → Prop} {cont : α → Pl → Bool} {step : α → Pl → α} {sz : α → Nat} {B : Nat}
def WlkJ (w1 : World) (X : List Nat) (F : List Cold) (I : α → Vst → Prop) (G : Pl → Prop) (cont : α → Pl → Bool) (step : α → Pl → α) (sz : α → Nat) (B : Nat) (R : α × Bool) (bs : List Bx) (rs : List Rw) (l : List Pl) (W : World) : Prop :=
  ∃ (x : α) (V : Vst), l.length ≤ 1000000 ∧ sz x + l.length ≤ B ∧ I x V ∧ (∀ p ∈ l, G p) ∧ runV cont step x l = R ∧ Own w1 X V.S (bs ++ V.bx) (rs ++ V.rw) F W
set_option maxRecDepth 100000 in
set_option maxHeartbeats 6400000 in
theorem walk_any (HV : Hid (VisOK w1 X F KF first cap I G cont step sz B)) {t : TreeT} {g nF cF nR cR : Nat} {AF AR : Option Addr} (HT : Hid (TrAt w1 (Eld w1 X) AF AR nF nR t)) (HC : Hid (∀ x V bs rs w, I x V → Own w1 X V.S bs rs F w → w.cell? ⟨g, 0, none⟩ = some (.slice AF nF cF) ∧ w.cell? ⟨g, 1, none⟩ = some (.slice AR nR cR))) (hnF : Hid (nF = t.funcs.length)) (hnR : Hid (nR = t.rules.length)) (hn1 : nF ≤ 1000000) (hn2 : nR ≤ 1000000) (hrl : ∀ r ∈ t.rules, r.l.length ≤ 1000000) {R : α × Bool} {bs : List Bx} {rs : List Rw} {w : World} (HJ : Hid (WlkJ w1 X F I G cont step sz B R bs rs (places t) w)) :
    Calls Try.prog 20 #[.pointer (some ⟨g, 0, none⟩), .func (.func KF) first cap] w fun e w' => e = .returned (.tuple #[]) ∧ ∃ V', I R.1 V' ∧ Own w1 X V'.S (bs ++ V'.bx) (rs ++ V'.rw) F w' := by
  obtain ⟨x, V, h1, h2, h3, h4, h5, h6⟩ := HJ.out
  have HO := Lib.hid h6
  have HI := Lib.hid h3
  clear h1 h2 h3 h4 h5 h6
  go_enter Try.func20, Try.ntmps20
  (repeat' (first | ((with_reducible refine zG ?_); first | refine oWx ?_ | (refine oWs ?_; clear HO; intro _ HO)) | ((with_reducible refine to_load ?_); (first | (refine oHT HO rfl rfl (fun w h => (HC.out _ _ _ _ w HI.out h.out).1) ?_)); (try simp only [Act.put, pS])) | go_values | go_skip | go_guarded | go_step | go_upon | (go_ite <;> go_prune <;> (try go_simp))))
  clear HO HI
  go_loopw [14] (fun iv W => ∃ i : Nat, iv = .int .i64 (i : Int) ∧ i ≤ nF ∧ Hid (WlkJ w1 X F I G cont step sz B R bs rs (restF t i) W)) (fun iv _ => nF - (intOf iv).toNat)
  case atStart => exact ⟨0, rfl, Nat.zero_le _, HJ⟩
  case round =>
    clear HJ
    obtain ⟨i, rfl, hi, HJ⟩ := hrel
    rcases Nat.lt_or_ge i nF with hlt | hge
    · have hf := List.getElem?_eq_getElem (Nat.lt_of_lt_of_eq hlt hnF.out)
      generalize t.funcs[i] = f at hf
      obtain ⟨-, b2, B2, e2, rfl, hnd⟩ := HT.out.body hf
      have HP : Hid (PlAt w1 (Eld w1 X) (plF i f) (.agg #[.pointer (some ⟨b2, i * 11 + 2, none⟩), .pointer none, .int .i64 0, .int .i64 (i : Int), .int .i64 0, .bool false])) := Lib.hid ⟨b2, _, B2, e2, .pointer none, rfl, hnd, rfl⟩
      have hiI : (i : Int) < (nF : Int) := by omega
      clear hnd
      obtain ⟨x2, V2, h1, h2, h3, h4, h5, h6⟩ := HJ.out
      have HO := Lib.hid h6
      have HI := Lib.hid h3
      rw [restF_step hf] at h1 h2 h4 h5
      rw [List.length_append] at h1 h2
      have HG : Hid (∀ z ∈ prePl (plF i f), G z) := Lib.hid fun z hz => h4 z (List.mem_append_left _ hz)
      have hs1 : (prePl (plF i f)).length ≤ 1000000 := by omega
      have hs2 : sz x2 + (prePl (plF i f)).length ≤ B := by omega
      have H1 := Lib.hid h1
      have H2 := Lib.hid h2
      have H4 := Lib.hid h4
      have H5 := Lib.hid h5
      clear h1 h2 h3 h4 h5 h6 HJ
      cases hc : (runV cont step x2 (prePl (plF i f))).2
      ·
        (repeat' (first | ((with_reducible refine zG ?_); first | refine oWx ?_ | (refine oWs ?_; clear HO; intro _ HO)) | ((with_reducible refine to_load ?_); (first | (refine oHT HO rfl rfl (fun w h => (HC.out _ _ _ _ w HI.out h.out).1) ?_)); (try simp only [Act.put, pS])) | ((go_big_may; first | (go_at_call 37; refine (under_any HV HI.out HG.out HP.out hs1 hs2 HO).mono ?_; rintro e W ⟨rfl, V3, hI3, hO3⟩; rw [hc]; clear HO; have HO := Lib.hid hO3; have HI3 := Lib.hid hI3; clear hO3 hI3)) <;> (try dsimp only)) | go_values | go_skip | go_guarded | go_step | go_upon | (go_ite <;> go_prune <;> (try go_simp))))
        refine bp_none rfl rfl ?_
        exact ⟨rfl, V3, by rw [← runV_false H5.out hc]; exact HI3.out, HO.out⟩
      ·
        (repeat' (first | ((with_reducible refine zG ?_); first | refine oWx ?_ | (refine oWs ?_; clear HO; intro _ HO)) | ((with_reducible refine to_load ?_); (first | (refine oHT HO rfl rfl (fun w h => (HC.out _ _ _ _ w HI.out h.out).1) ?_)); (try simp only [Act.put, pS])) | ((go_big_may; first | (go_at_call 37; refine (under_any HV HI.out HG.out HP.out hs1 hs2 HO).mono ?_; rintro e W ⟨rfl, V3, hI3, hO3⟩; rw [hc]; clear HO; have HO := Lib.hid hO3; have HI3 := Lib.hid hI3; clear hO3 hI3)) <;> (try dsimp only)) | go_values | go_skip | go_guarded | go_step | go_upon | (go_ite <;> go_prune <;> (try go_simp))))
        refine ⟨⟨i + 1, rfl, hlt, Lib.hid ⟨_, V3, by have h1 := H1.out; omega, by have h2 := H2.out; have h3 := runV_sz (cont := cont) HV.out.up (prePl (plF i f)) x2; omega, HI3.out, fun z hz => H4.out z (List.mem_append_right _ hz), runV_true H5.out hc, HO.out⟩⟩, ?_⟩
        exact meas2 rfl (Nat.le_refl _) hlt
    · obtain rfl : i = nF := by omega
      rw [restF_end (Nat.le_of_eq hnF.out.symm)] at HJ
      obtain ⟨x2, V2, h1, h2, h3, h4, h5, h6⟩ := HJ.out
      have HO := Lib.hid h6
      have HI := Lib.hid h3
      clear h1 h2 h3 h4 h5 h6
      (repeat' (first | ((with_reducible refine zG ?_); first | refine oWx ?_ | (refine oWs ?_; clear HO; intro _ HO)) | ((with_reducible refine to_load ?_); (first | (refine oHT HO rfl rfl (fun w h => (HC.out _ _ _ _ w HI.out h.out).2) ?_)); (try simp only [Act.put, pS])) | go_values | go_skip | go_guarded | go_step | go_upon | (go_ite <;> go_prune <;> (try go_simp))))
      clear HO HI
      go_loopw [37] (fun iv W => ∃ i : Nat, iv = .int .i64 (i : Int) ∧ i ≤ nR ∧ Hid (WlkJ w1 X F I G cont step sz B R bs rs (restR t i) W)) (fun iv _ => nR - (intOf iv).toNat)
      case atStart => exact ⟨0, rfl, Nat.zero_le _, HJ⟩
      case round =>
        clear HJ
        obtain ⟨i, rfl, hi, HJ⟩ := hrel
        rcases Nat.lt_or_ge i nR with hlt | hge
        · have hf := List.getElem?_eq_getElem (Nat.lt_of_lt_of_eq hlt hnR.out)
          generalize t.rules[i] = r at hf
          have hrl2 := hrl r (List.mem_of_getElem? hf)
          obtain ⟨-, b2, A2, c2, B2, e2, rfl, hbe, hc0, hc2, hkl, hnd⟩ := HT.out.rule hf
          have HBE := Lib.hid hbe
          have HKL := Lib.hid hkl
          have HND := Lib.hid hnd
          have hiI : (i : Int) < (nR : Int) := by omega
          rw [restR_step hf] at HJ
          clear hnd hkl hbe
          obtain ⟨x2, V2, h1, h2, h3, h4, h5, h6⟩ := HJ.out
          have HO := Lib.hid h6
          have HI := Lib.hid h3
          clear h1 h2 h3 h4 h5 h6
          (repeat' (first | ((with_reducible refine zG ?_); first | refine oWx ?_ | (refine oWs ?_; clear HO; intro _ HO)) | ((with_reducible refine to_load ?_); (first | first | refine oHT HO rfl rfl (fun w h => (HC.out _ _ _ _ w HI.out h.out).2) ?_ | refine wo_run HO (re1 rfl rfl HBE.out hc2) ?_); (try simp only [Act.put, pS])) | go_values | go_skip | go_guarded | go_step | go_upon | (go_ite <;> go_prune <;> (try go_simp))))
          clear HO HI
          go_loopw [52] (fun jv W => ∃ j : Nat, jv = .int .i64 (j : Int) ∧ j ≤ r.l.length ∧ Hid (WlkJ w1 X F I G cont step sz B R bs rs (restL t i r j) W)) (fun jv _ => r.l.length - (intOf jv).toNat)
          case atStart => exact ⟨0, rfl, Nat.zero_le _, HJ⟩
          case round =>
            clear HJ
            obtain ⟨j, rfl, hj, HJ⟩ := hrel
            rcases Nat.lt_or_ge j r.l.length with hlj | hgj
            · obtain ⟨b4, o4, A4, c4, rfl, hnk⟩ := kidsL_nd HKL.out j hlj
              have HP : Hid (PlAt w1 (Eld w1 X) (plR r r.l[j]) (.agg #[.pointer (some ⟨b4, o4 + j * 8, none⟩), .pointer none, .int .i64 0, .int .i64 (-1), .int .i64 (r.k : Int), .bool false])) := Lib.hid ⟨b4, _, A4, c4, .pointer none, rfl, hnk, rfl⟩
              have hjI : (j : Int) < (r.l.length : Int) := by omega
              clear hnk
              obtain ⟨x2, V2, h1, h2, h3, h4, h5, h6⟩ := HJ.out
              have HO := Lib.hid h6
              have HI := Lib.hid h3
              rw [restL_step hlj] at h1 h2 h4 h5
              rw [List.length_append] at h1 h2
              have HG : Hid (∀ z ∈ prePl (plR r r.l[j]), G z) := Lib.hid fun z hz => h4 z (List.mem_append_left _ hz)
              have hs1 : (prePl (plR r r.l[j])).length ≤ 1000000 := by omega
              have hs2 : sz x2 + (prePl (plR r r.l[j])).length ≤ B := by omega
              have H1 := Lib.hid h1
              have H2 := Lib.hid h2
              have H4 := Lib.hid h4
              have H5 := Lib.hid h5
              clear h1 h2 h3 h4 h5 h6 HJ
              cases hc : (runV cont step x2 (prePl (plR r r.l[j]))).2
              all_goals
                (repeat' (first | ((with_reducible refine zG ?_); first | refine oWx ?_ | (refine oWs ?_; clear HO; intro _ HO)) | go_values | go_skip | go_guarded | go_step | go_upon | (go_ite <;> go_prune <;> (try go_simp))))
                ((refine tB0 HO [] (.pu 0 (.pu 1 (.pu 2 (.pu 4 (.pu 6 (.pu 7 (.pu 8 (.pu 11 (.ld 3 (.pu 5 (.ld 9 (.pu 10 (.ef 12 (.pu 13 (.nil))))))))))))))) ?_); (clear HO; intro _ HO); (repeat' (first | ((with_reducible refine tGo ?_); first | ((first | refine tL1 (OwnT.of HO) rfl rfl rfl (by kernel_rfl) (fun _ _ _ h => h) (by rfl) ?_ | refine tL3 (OwnT.of HO) rfl rfl rfl (by kernel_rfl) (fun _ _ _ h => h) (by rfl) ?_ | refine tY1 (OwnT.of HO) rfl rfl rfl (by kernel_rfl) (fun _ _ _ h => h) (by rfl) ?_ | refine tE1 HBE.out hc0 (OwnT.of HO) rfl rfl rfl (by kernel_rfl) (fun _ _ _ h => h) (by rfl) ?_ | refine tE1 HBE.out hc2 (OwnT.of HO) rfl rfl rfl (by kernel_rfl) (fun _ _ _ h => h) (by rfl) ?_); (try simp only [Act.put, pS])) | ((first | refine tPu (OwnT.of HO) rfl (by kernel_rfl) (fun _ _ _ h => h) (by rfl) (by intro _; go_simp; (try with_reducible rfl)) ?_); (try simp only [Act.put, pS])) | refine tEf rfl (by kernel_rfl) (by rfl) (fun K hK => ?_) | refine tLt rfl (by kernel_rfl) (by rfl) (fun K hK => ?_) | refine tDo (by kernel_rfl) ?_) | ((with_reducible refine uGo ?_); first | ((refine uPu rfl (by kernel_rfl) (fun _ _ _ h => h) (by rfl) (by intro _; go_simp; (try with_reducible rfl)) ?_); (try simp only [Act.put, pS])) | refine uEf rfl (by kernel_rfl) (by rfl) (fun K hK => ?_) | refine uDo (by kernel_rfl) ?_) | ((with_reducible show K _ _); (first | refine hK.out _ _ (OwnT.of HO) ?_ | with_reducible refine hK.out _ _ ?_); clear hK K; (try simp only [Act.put, pS])) | ((first | (go_at_call 37; refine (under_any HV HI.out HG.out HP.out hs1 hs2 HO).mono ?_; rintro e W ⟨rfl, V3, hI3, hO3⟩; rw [hc]; clear HO; have HO := Lib.hid hO3; have HI3 := Lib.hid hI3; clear hO3 hI3)) <;> (try dsimp only)) | ((with_reducible refine eOp ?_); go_simp))))
                (repeat' (first | ((with_reducible refine zG ?_); first | refine oWx ?_ | (refine oWs ?_; clear HO; intro _ HO)) | go_values | go_skip | go_guarded | go_step | go_upon | (go_ite <;> go_prune <;> (try go_simp))))
              · refine bp_none rfl rfl ?_
                exact ⟨rfl, V3, by rw [← runV_false H5.out hc]; exact HI3.out, HO.out⟩
              · refine ⟨⟨j + 1, rfl, hlj, Lib.hid ⟨_, V3, by have h1 := H1.out; omega, by have h2 := H2.out; have h3 := runV_sz (cont := cont) HV.out.up (prePl (plR r r.l[j])) x2; omega, HI3.out, fun z hz => H4.out z (List.mem_append_right _ hz), runV_true H5.out hc, HO.out⟩⟩, ?_⟩
                exact meas2 rfl (Nat.le_refl _) hlj
            · obtain rfl : j = r.l.length := by omega
              have HP : Hid (PlAt w1 (Eld w1 X) (plR r r.body) (.agg #[.pointer (some ⟨b2, i * 12 + 3, none⟩), .pointer none, .int .i64 0, .int .i64 (-1), .int .i64 (r.k : Int), .bool false])) := Lib.hid ⟨b2, _, B2, e2, .pointer none, rfl, HND.out, rfl⟩
              obtain ⟨x2, V2, h1, h2, h3, h4, h5, h6⟩ := HJ.out
              have HO := Lib.hid h6
              have HI := Lib.hid h3
              rw [restL_end (Nat.le_refl _)] at h1 h2 h4 h5
              rw [List.length_append] at h1 h2
              have HG : Hid (∀ z ∈ prePl (plR r r.body), G z) := Lib.hid fun z hz => h4 z (List.mem_append_left _ hz)
              have hs1 : (prePl (plR r r.body)).length ≤ 1000000 := by omega
              have hs2 : sz x2 + (prePl (plR r r.body)).length ≤ B := by omega
              have H1 := Lib.hid h1
              have H2 := Lib.hid h2
              have H4 := Lib.hid h4
              have H5 := Lib.hid h5
              clear h1 h2 h3 h4 h5 h6 HJ
              cases hc : (runV cont step x2 (prePl (plR r r.body))).2
              all_goals
                (repeat' (first | ((with_reducible refine zG ?_); first | refine oWx ?_ | (refine oWs ?_; clear HO; intro _ HO)) | go_values | go_skip | go_guarded | go_step | go_upon | (go_ite <;> go_prune <;> (try go_simp))))
                ((refine tB0 HO [] (.pu 0 (.pu 1 (.pu 2 (.pu 3 (.pu 4 (.pu 5 (.pu 8 (.ld 6 (.pu 7 (.ef 9 (.pu 10 (.nil)))))))))))) ?_); (clear HO; intro _ HO); (repeat' (first | ((with_reducible refine tGo ?_); first | ((first | refine tL1 (OwnT.of HO) rfl rfl rfl (by kernel_rfl) (fun _ _ _ h => h) (by rfl) ?_ | refine tL3 (OwnT.of HO) rfl rfl rfl (by kernel_rfl) (fun _ _ _ h => h) (by rfl) ?_ | refine tY1 (OwnT.of HO) rfl rfl rfl (by kernel_rfl) (fun _ _ _ h => h) (by rfl) ?_ | refine tE1 HBE.out hc0 (OwnT.of HO) rfl rfl rfl (by kernel_rfl) (fun _ _ _ h => h) (by rfl) ?_); (try simp only [Act.put, pS])) | ((first | refine tPu (OwnT.of HO) rfl (by kernel_rfl) (fun _ _ _ h => h) (by rfl) (by intro _; go_simp; (try with_reducible rfl)) ?_); (try simp only [Act.put, pS])) | refine tEf rfl (by kernel_rfl) (by rfl) (fun K hK => ?_) | refine tLt rfl (by kernel_rfl) (by rfl) (fun K hK => ?_) | refine tDo (by kernel_rfl) ?_) | ((with_reducible refine uGo ?_); first | ((refine uPu rfl (by kernel_rfl) (fun _ _ _ h => h) (by rfl) (by intro _; go_simp; (try with_reducible rfl)) ?_); (try simp only [Act.put, pS])) | refine uEf rfl (by kernel_rfl) (by rfl) (fun K hK => ?_) | refine uDo (by kernel_rfl) ?_) | ((with_reducible show K _ _); (first | refine hK.out _ _ (OwnT.of HO) ?_ | with_reducible refine hK.out _ _ ?_); clear hK K; (try simp only [Act.put, pS])) | ((first | (go_at_call 37; refine (under_any HV HI.out HG.out HP.out hs1 hs2 HO).mono ?_; rintro e W ⟨rfl, V3, hI3, hO3⟩; rw [hc]; clear HO; have HO := Lib.hid hO3; have HI3 := Lib.hid hI3; clear hO3 hI3)) <;> (try dsimp only)) | ((with_reducible refine eOp ?_); go_simp))))
                (repeat' (first | ((with_reducible refine zG ?_); first | refine oWx ?_ | (refine oWs ?_; clear HO; intro _ HO)) | go_values | go_skip | go_guarded | go_step | go_upon | (go_ite <;> go_prune <;> (try go_simp))))
              · refine bp_none rfl rfl ?_
                exact ⟨rfl, V3, by rw [← runV_false H5.out hc]; exact HI3.out, HO.out⟩
              · refine ⟨⟨i + 1, rfl, hlt, Lib.hid ⟨_, V3, by have h1 := H1.out; omega, by have h2 := H2.out; have h3 := runV_sz (cont := cont) HV.out.up (prePl (plR r r.body)) x2; omega, HI3.out, fun z hz => H4.out z (List.mem_append_right _ hz), runV_true H5.out hc, HO.out⟩⟩, ?_⟩
                exact meas2 rfl (Nat.le_refl _) hlt
        · obtain rfl : i = nR := by omega
          rw [restR_end (Nat.le_of_eq hnR.out.symm)] at HJ
          obtain ⟨x2, V2, h1, h2, h3, h4, h5, h6⟩ := HJ.out
          rw [runV] at h5
          subst h5
          (repeat' (first | ((with_reducible refine zG ?_); first | refine oWx ?_ | (refine oWs ?_; clear HO; intro _ HO)) | go_values | go_skip | go_guarded | go_step | go_upon | (go_ite <;> go_prune <;> (try go_simp))))
          first
          | (refine bp_noneN rfl rfl ?_; exact ⟨rfl, V2, h3, h6⟩)
          | (refine bp_none rfl rfl ?_; exact ⟨rfl, V2, h3, h6⟩)
end
end Go.Proofs.Ythipoccbeloceaa
