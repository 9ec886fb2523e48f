/- Several texts put together: RwA. -/
import Derived.Test.YthipoccbeloceaaBu7
import Derived.Test.YthipoccbeloceaaBu3
import Derived.Test.YthipoccbeloceaaBu45
set_option linter.unusedSimpArgs false
set_option linter.unusedVariables false
namespace Go.Proofs.Ythipoccbeloceaa
open Go.RowKit
instance iT1SlSpot : T1 38 := ⟨Try.isAgg38, Try.sizeOf38⟩
instance iTNSpot : TN 47 15 := ⟨Try.isAgg47, Try.sizeOf47⟩
instance iTZSpot : TZ 47 [.int .i64 0, .int .i64 0, .string { data := #[] }, .bool false, .int .u64 0, .int .u64 0, .int .i64 0, .slice none 0 0, .int .i64 0, .int .i64 0, .int .i64 0, .string { data := #[] }, .int .i64 0, .bool false, .bool false] := ⟨Try.zeroValue47⟩
instance iTFSpot : TF 47 (fsOf Try.underlying47) := ⟨Try.underlying47⟩
theorem info_spot : (Try.prog.info? 47).map (fun i => (i.zero, i.size, i.bytes)) = some (some (.agg #[.int .i64 0, .int .i64 0, .string { data := #[] }, .bool false, .int .u64 0, .int .u64 0, .int .i64 0, .slice none 0 0, .int .i64 0, .int .i64 0, .int .i64 0, .string { data := #[] }, .int .i64 0, .bool false, .bool false]), 15, 144) := by kernel_rfl
abbrev ElS := Spt × Option Addr × Nat
def spC (n : NodeT) (A : Option Addr) (c : Nat) (fn : Int) (kd deep : Nat) (call : List Nat) (arg : Nat) (split called : Bool) : List Value := [.int .i64 ((NodeT.k n : Nat) : Int), .int .i64 ((NodeT.at' n : Nat) : Int), .string (strN (NodeT.s n)), .bool (zn (NodeT.z n)), .int .u64 (zh (NodeT.z n)), .int .u64 (zl (NodeT.z n)), .int .i64 ((NodeT.i n : Nat) : Int), .slice A (NodeT.l n).length c, .int .i64 fn, .int .i64 (kd : Int), .int .i64 (deep : Int), .string (strN call), .int .i64 (arg : Int), .bool split, .bool called]
def elS (e : ElS) : List Value := spC e.1.n e.2.1 e.2.2 e.1.fn e.1.kd e.1.deep e.1.call e.1.arg e.1.split e.1.called
structure SpOK (w : World) (P : Nat → Prop) (e : ElS) : Prop where
  hc : e.1.n.l.length ≤ e.2.2
  kids : KidsL w P e.1.n.l e.2.1 0
theorem len_elS (l : List ElS) : (l.flatMap elS).length = l.length * 15 := by
  induction l with
  | nil => rfl
  | cons x l ih => rw [List.flatMap_cons, List.length_append, ih, List.length_cons, Nat.succ_mul, Nat.add_comm]; rfl
theorem one_elS (l : List ElS) : ∀ u ∈ l.flatMap elS, u.oneCell' = true := fun u hu => by
  obtain ⟨x, _, hx⟩ := List.mem_flatMap.1 hu
  unfold elS spC at hx
  simp only [List.mem_cons, List.not_mem_nil, or_false] at hx
  rcases hx with rfl | rfl | rfl | rfl | rfl | rfl | rfl | rfl | rfl | rfl | rfl | rfl | rfl | rfl | rfl <;> rfl
mutual
theorem spN_len (fn : Int) (kd deep : Nat) (call : List Nat) (arg : Nat) (split called : Bool) : ∀ n : NodeT, (spN fn kd deep call arg split called n).length = nsz n
  | .mk k a s z v l => by rw [spN, nsz, List.length_cons, spL_len]
theorem spL_len (up : NodeT) (fn : Int) (kd deep i : Nat) : ∀ l : List NodeT, (spL up fn kd deep i l).length = nszL l
  | [] => by rw [spL, nszL]; rfl
  | n :: l => by rw [spL, nszL, List.length_append, spN_len, spL_len up fn kd deep (i + 1) l]
end
theorem nszL_get : ∀ (l : List NodeT) (i : Nat) (x : NodeT), l[i]? = some x → nsz x ≤ nszL l
  | [], i, x, h => by simp at h
  | y :: l, 0, x, h => by simp at h; subst h; rw [nszL]; omega
  | y :: l, i + 1, x, h => by have := nszL_get l i x (by simpa using h); rw [nszL]; omega
theorem nsz_l (n : NodeT) : nsz n = nszL n.l + 1 := by cases n; rw [nsz]; rfl
theorem spN_eq (fn : Int) (kd deep : Nat) (call : List Nat) (arg : Nat) (split called : Bool) (n : NodeT) : spN fn kd deep call arg split called n = ⟨n, fn, kd, deep, call, arg, split, called⟩ :: spL n fn kd (if isLoop n then deep + 1 else deep) 0 n.l := by cases n; rw [spN]; rfl
section
variable {w0 w : World} {X : List Nat} {S : World → Prop} {xs : (World → Prop) → Prop} {bs : List Bx} {rs : List Rw} {F : List Cold} {a : Act} {oi : Oper}
theorem rdE3 {ty : TypeId} {x : Operand} (ho : oi.op = .load ty x) {b k : Nat} (hx : a.eval x = .pointer (some ⟨b, k, none⟩)) {n : Nat} [T : TN ty n] (hb : Eld w0 X b) {sub : List Value} (hn : sub.length = n) (hc : w0.rangeAt b k sub) : RdT w0 X xs bs rs a oi (.agg sub.toArray) := fun _ _ _ _ _ _ HO _ _ =>
  run_cells ho hx hn (fun j v hv => HO.out.elder hb.1 hb.2 (hc j v hv))
end
section
variable {o : Oper} {act : Act} {w0 w : World} {X : List Nat} {S : World → Prop} {bs : List Bx} {rs : List Rw} {F : List Cold} {KK : Act → World → Prop} {Q : Exit → Act → World → Prop}
theorem wo_appSp {v : Value} {els ys : List ElS} {A : Option Addr} {c : Nat} (HO : Hid (Own w0 X S bs (⟨47, 15, v, els.length, els.flatMap elS⟩ :: rs) (Cold.row A (ys.flatMap elS) :: F) w)) {s x : Operand}
    (ho : o.op = .call { callee := .builtin .append, args := #[s, x], argTypes := #[38, 38] }) (hs : act.eval s = v) (hx : act.eval x = .slice A ys.length c) (hm : els.length + ys.length ≤ 1000000)
    (h : ∀ A' c' W, Hid ((els ++ ys).length ≤ c') → Hid (Own w0 X S bs (⟨47, 15, .slice A' (els ++ ys).length c', (els ++ ys).length, (els ++ ys).flatMap elS⟩ :: rs) (Cold.row A (ys.flatMap elS) :: F) W) → KK (act.put o.dst (.slice A' (els ++ ys).length c')) W) : WOp Try.prog o act w KK Q := by
  have hT := HO.out.cold _ List.mem_cons_self
  refine wo_appK HO ho hs hx (reads_row hT (len_elS ys) (fun b hb => hb.2.1) (by decide)) Try.underlying38 info_spot rfl (by decide) (one_elS ys) hm (by decide) (fun A' c' W h1 h2 => ?_)
  have e1 : els.length + ys.length = (els ++ ys).length := by simp
  have e2 : els.flatMap elS ++ ys.flatMap elS = (els ++ ys).flatMap elS := by simp
  rw [e2, e1] at h2
  rw [e1] at h1 ⊢
  exact h A' c' W (Lib.hid h1) h2
end
def BelJ {w1 w : World} {X : List Nat} {S : World → Prop} {bs : List Bx} {r0 : Rw} {rs : List Rw} {F : List Cold} (_ : Hid (Own w1 X S bs (r0 :: rs) F w)) (n : NodeT) (fn : Int) (kd D : Nat) (R : List Spt) (sv iv : Value) (W : World) : Prop :=
  ∃ (i : Nat) (A : Option Addr) (c : Nat) (els : List ElS), iv = .int .i64 (i : Int) ∧ sv = .slice A els.length c ∧ i ≤ n.l.length ∧ Hid (els.length ≤ c) ∧ Hid (els.map (·.1) ++ spL n fn kd D i (n.l.drop i) = R) ∧ Hid (∀ e ∈ els, SpOK w1 (Eld w1 X) e) ∧ Hid (Own w1 X S bs (⟨47, 15, .slice A els.length c, els.length, els.flatMap elS⟩ :: rs) F W)
theorem spL_step {up : NodeT} {fn : Int} {kd D : Nat} {l : List NodeT} {i : Nat} {x : NodeT} (h : l[i]? = some x) : spL up fn kd D i (l.drop i) = spN fn kd D (if isCall up then up.s else []) (if isCall up then i else 0) (isSplitN up i) (isCall up) x ++ spL up fn kd D (i + 1) (l.drop (i + 1)) := by
  obtain ⟨hi, e⟩ := List.getElem?_eq_some_iff.1 h
  rw [List.drop_eq_getElem_cons hi, e, spL]
theorem bel_start {w1 w : World} {X : List Nat} {S : World → Prop} {bs : List Bx} {rs : List Rw} {F : List Cold} {b : Addr} {n : NodeT} {A : Option Addr} {c : Nat} {fn : Int} {kd deep D : Nat} {call : List Nat} {arg : Nat} {split called : Bool} {R : List Spt} (HO : Hid (Own w1 X S bs (⟨47, 15, .slice (some b) 1 1, 1, spC n A c fn kd deep call arg split called⟩ :: rs) F w)) (HR : Hid (⟨n, fn, kd, deep, call, arg, split, called⟩ :: spL n fn kd D 0 n.l = R)) (hc : n.l.length ≤ c) (hk : KidsL w1 (Eld w1 X) n.l A 0) : BelJ HO n fn kd D R (.slice (some b) 1 1) (.int .i64 0) w :=
  ⟨0, some b, 1, [(⟨n, fn, kd, deep, call, arg, split, called⟩, A, c)], rfl, rfl, Nat.zero_le _, Lib.hid (Nat.le_refl _), HR, Lib.hid (fun e he => by rw [List.mem_singleton.1 he]; exact ⟨hc, hk⟩), HO⟩
theorem bel_len {ys : List ElS} {fn : Int} {kd deep : Nat} {call : List Nat} {arg : Nat} {split called : Bool} {n : NodeT} {k : Nat} (h : k + nsz n ≤ 1000000) (hm : ys.map (·.1) = spN fn kd deep call arg split called n) : k + ys.length ≤ 1000000 := by
  have := congrArg List.length hm
  rw [List.length_map, spN_len] at this
  omega
theorem bel_next {w1 w w' : World} {X : List Nat} {S : World → Prop} {bs : List Bx} {r0 : Rw} {rs : List Rw} {F : List Cold} {bx : Bx} {cd : Cold} {n : NodeT} {fn : Int} {kd D : Nat} {R l : List Spt} {i c : Nat} {A : Option Addr} {els els2 : List ElS} (HO0 : Hid (Own w1 X S bs (r0 :: rs) F w)) (hlt : i < n.l.length) (hc : Hid ((els ++ els2).length ≤ c)) (hm : Hid (els2.map (·.1) = l)) (hr : Hid (els.map (·.1) ++ (l ++ spL n fn kd D (i + 1) (n.l.drop (i + 1))) = R)) (h1 : Hid (∀ e ∈ els, SpOK w1 (Eld w1 X) e)) (h2 : Hid (∀ e ∈ els2, SpOK w1 (Eld w1 X) e)) (HO : Hid (Own w1 X S (bx :: bs) (⟨47, 15, .slice A (els ++ els2).length c, (els ++ els2).length, (els ++ els2).flatMap elS⟩ :: rs) (cd :: F) w')) : BelJ HO0 n fn kd D R (.slice A (els ++ els2).length c) (.int .i64 ((i : Int) + 1)) w' :=
  ⟨i + 1, A, c, els ++ els2, rfl, rfl, hlt, hc, Lib.hid (by rw [List.map_append, hm.out, List.append_assoc, hr.out]), Lib.hid (fun e he => (List.mem_append.1 he).elim (h1.out e) (h2.out e)), Lib.hid (HO.out.sub (List.sublist_cons_self _ _) (List.Sublist.refl _) (fun _ h => List.mem_cons_of_mem _ h))⟩
theorem bel_end {w1 w : World} {X : List Nat} {S : World → Prop} {bs : List Bx} {rs : List Rw} {F : List Cold} {R : List Spt} {c : Nat} {A : Option Addr} {els : List ElS} (hr : Hid (els.map (·.1) = R)) (hc : Hid (els.length ≤ c)) (h1 : Hid (∀ e ∈ els, SpOK w1 (Eld w1 X) e)) (h : Own w1 X S bs (⟨47, 15, .slice A els.length c, els.length, els.flatMap elS⟩ :: rs) F w) : ∃ (AR : Option Addr) (cR : Nat) (els' : List ElS), Ending.returned (.slice A els.length c) = .returned (.slice AR els'.length cR) ∧ els'.length ≤ cR ∧ els'.map (·.1) = R ∧ (∀ e ∈ els', SpOK w1 (Eld w1 X) e) ∧ Own w1 X S bs rs (Cold.row AR (els'.flatMap elS) :: F) w := by
  obtain ⟨A7, c7, e7, hc7, hO⟩ := h.freezeG (by intro h; dsimp only at h ⊢; rw [List.length_eq_zero_iff] at h; rw [h]; rfl)
  injection e7 with x1 x2 x3
  subst x1 x3
  exact ⟨A, c, els, rfl, hc.out, hr.out, h1.out, hO⟩
theorem bel_cases (n : NodeT) (i : Nat) : (((n.k : Int) == 18) = true ∧ ((n.k : Int) == 19) = false) ∨ (((n.k : Int) == 18) = false ∧ ((n.k : Int) == 19) = false) ∨ (((n.k : Int) == 18) = false ∧ ((n.k : Int) == 19) = true ∧ decide (n.s = [115, 112, 108, 105, 116]) = false) ∨ (((n.k : Int) == 18) = false ∧ ((n.k : Int) == 19) = true ∧ decide (n.s = [115, 112, 108, 105, 116]) = true ∧ ((i : Int) == 1) = false) ∨ (((n.k : Int) == 18) = false ∧ ((n.k : Int) == 19) = true ∧ decide (n.s = [115, 112, 108, 105, 116]) = true ∧ ((i : Int) == 1) = true) := by
  cases h18 : ((n.k : Int) == 18)
  · cases h19 : ((n.k : Int) == 19)
    · exact .inr (.inl ⟨rfl, rfl⟩)
    · cases decide (n.s = [115, 112, 108, 105, 116])
      · exact .inr (.inr (.inl ⟨rfl, rfl, rfl⟩))
      · cases ((i : Int) == 1)
        · exact .inr (.inr (.inr (.inl ⟨rfl, rfl, rfl, rfl⟩)))
        · exact .inr (.inr (.inr (.inr ⟨rfl, rfl, rfl, rfl⟩)))
  · refine .inl ⟨rfl, ?_⟩
    have := beq_iff_eq.1 h18
    rw [this]
    rfl
set_option maxRecDepth 100000 in
set_option maxHeartbeats 6400000 in
theorem below_any {w1 : World} {X : List Nat} {S : World → Prop} (m : Nat) : ∀ (n : NodeT) (fn : Int) (kd deep : Nat) (call : List Nat) (arg : Nat) (split called : Bool) (A : Option Addr) (c : Nat) (bs : List Bx) (rs : List Rw) (F : List Cold) (w : World), nsz n ≤ m → deep + nsz n ≤ 1000000 → n.l.length ≤ c → KidsL w1 (Eld w1 X) n.l A 0 → (∀ x ∈ spN fn kd deep call arg split called n, byteOk x.n.s) → Own w1 X S bs rs F w →
    Calls Try.prog 26 #[.agg #[.int .i64 ((NodeT.k n : Nat) : Int), .int .i64 ((NodeT.at' n : Nat) : Int), .string (strN (NodeT.s n)), .bool (zn (NodeT.z n)), .int .u64 (zh (NodeT.z n)), .int .u64 (zl (NodeT.z n)), .int .i64 ((NodeT.i n : Nat) : Int), .slice A (NodeT.l n).length c, .int .i64 fn, .int .i64 (kd : Int), .int .i64 (deep : Int), .string (strN call), .int .i64 (arg : Int), .bool split, .bool called]] w fun e w' => ∃ (AR : Option Addr) (cR : Nat) (els : List ElS), e = .returned (.slice AR els.length cR) ∧ els.length ≤ cR ∧ els.map (·.1) = spN fn kd deep call arg split called n ∧ (∀ e ∈ els, SpOK w1 (Eld w1 X) e) ∧ Own w1 X S bs rs (Cold.row AR (els.flatMap elS) :: F) w' := by
  induction m with
  | zero => intro n fn kd deep call arg split called A c bs rs F w hm; have := nsz_pos n; omega
  | succ m ih =>
    intro n fn kd deep call arg split called A c bs rs F w hm hd hc hk hb hO
    obtain ⟨R, hR⟩ : ∃ R, spN fn kd deep call arg split called n = R := ⟨_, rfl⟩
    have hRl : R.length = nsz n := by rw [← hR, spN_len]
    rw [hR] at hb ⊢
    rw [spN_eq] at hR
    have hbn : Hid (byteOk n.s) := Lib.hid (hb _ (by rw [← hR]; exact List.mem_cons_self))
    have HRL := Lib.hid hRl
    have HR := Lib.hid hR
    have HB := Lib.hid hb
    have HK := Lib.hid hk
    have HM := Lib.hid hm
    have HI := Lib.hid ih
    have HO := Lib.hid hO
    have hln : n.l.length ≤ 1000000 := by have h1 := nszL_len n.l; have h2 := nsz_l n; omega
    have hdd : deep ≤ 1000000 := by omega
    clear hRl hR hb hk hm ih hO
    obtain ⟨D, hD⟩ : ∃ D : Nat, (if isLoop n then deep + 1 else deep) = D := ⟨_, rfl⟩
    have HD : Hid (D + nszL n.l ≤ 1000000 ∧ nsz n ≤ 1000000) := Lib.hid (by have := nsz_l n; rw [← hD]; split <;> omega)
    rw [hD] at HR
    replace hD := Lib.hid hD
    clear hd
    have hw1 : IntKind.wrap .i64 ((deep : Int) + 1) = (deep : Int) + 1 := IntWalk.i64_in _ (by omega)
    go_enter Try.func26, Try.ntmps26
    (repeat' (go_not_at_region 3; first | ((with_reducible refine zG ?_); first | refine oWx ?_ | (refine oWs ?_; clear HO; intro _ HO) | (refine oWj ?_; clear HO; intro _ HO HB)) | ((with_reducible refine ab_row HO 47 15 1 ?_ ?_ ?_); (rfl); (decide); clear HO; intro _ HO) | go_values | go_skip | go_guarded | go_step | go_upon | (go_ite <;> go_prune <;> (try go_simp))))
    have HO1 := HO
    go_cut [32] from 9 to 32 (fun v W => v = .bool (isLoop n) ∧ SameO HO1 W)
    case first =>
      cases h1 : ((n.k : Int) == 43) <;> cases h2 : ((n.k : Int) == 44) <;> cases h3 : ((n.k : Int) == 45) <;> cases h4 : ((n.k : Int) == 46)
      all_goals
        (repeat' (first | ((with_reducible refine zG ?_); first | refine oWx ?_ | (refine oWs ?_; clear HO; intro _ HO) | (refine oWj ?_; clear HO; intro _ HO HB)) | go_values | go_skip | go_guarded | go_step | go_upon | (go_ite <;> go_prune <;> (try go_simp))))
        go_meet
        exact ⟨congrArg Value.bool (by unfold isLoop; rw [h1, h2, h3, h4]; rfl), HO⟩
    clear HO
    obtain ⟨rfl, HO⟩ := hcut
    replace HO := Lib.hid HO.out
    clear HO1
    (repeat' (go_not_at_if 32; first | ((with_reducible refine zG ?_); first | refine oWx ?_ | (refine oWs ?_; clear HO; intro _ HO) | (refine oWj ?_; clear HO; intro _ HO HB)) | go_values | go_skip | go_guarded | go_step | go_upon | (go_ite <;> go_prune <;> (try go_simp))))
    have HO1 := HO
    go_cut [4] from 32 to 34 (fun v W => v = .int .i64 (D : Int) ∧ SameO HO1 W)
    case first =>
      have hD2 := hD.out
      cases hlp : isLoop n
      all_goals
        simp only [hlp, Bool.false_eq_true, ↓reduceIte] at hD2
        (repeat' (first | ((with_reducible refine zG ?_); first | refine oWx ?_ | (refine oWs ?_; clear HO; intro _ HO) | (refine oWj ?_; clear HO; intro _ HO HB)) | go_values | go_skip | go_guarded | go_step | go_upon | (go_ite <;> go_prune <;> (try go_simp))))
        go_meet
        refine ⟨congrArg (Value.int .i64) (by omega), HO⟩
    clear HO
    obtain ⟨rfl, HO⟩ := hcut
    replace HO := Lib.hid HO.out
    clear HO1
    (repeat' (first | ((with_reducible refine zG ?_); first | refine oWx ?_ | (refine oWs ?_; clear HO; intro _ HO) | (refine oWj ?_; clear HO; intro _ HO HB)) | go_values | go_skip | go_guarded | go_step | go_upon | (go_ite <;> go_prune <;> (try go_simp))))
    have HO0 := HO
    go_loopw [3, 5] (fun sv iv W => BelJ HO0 n fn kd D R sv iv W) (fun _ iv _ => n.l.length - (intOf iv).toNat)
    case atStart => exact bel_start HO HR hc HK.out
    case round =>
      clear HR
      obtain ⟨i, A2, c2, els, rfl, rfl, hi, HCP, HR, HOK, HO1⟩ := hrel
      clear HO
      have HO := HO1
      clear HO1
      rcases Nat.lt_or_ge i n.l.length with hlt | hge
      · obtain ⟨b2, o2, A3, c3, eA, hF2, hc2, hl2, hk2⟩ := kidsL_get n.l 0 i hlt HK.out
        obtain ⟨x, hx⟩ : ∃ x, n.l[i]? = some x := ⟨_, List.getElem?_eq_getElem hlt⟩
        have ex : n.l[i] = x := (List.getElem?_eq_some_iff.1 hx).2
        rw [ex] at hc2 hl2 hk2
        rw [KidsN_eq] at hk2
        rw [Nat.zero_add, Nat.mul_comm] at hc2
        subst eA
        have hiI : (i : Int) < (n.l.length : Int) := by omega
        have hr2 := HR.out
        rw [spL_step hx] at hr2
        have hsz := nszL_get n.l i x hx
        have hnl := nsz_l n
        have hxm : nsz x ≤ m := by have := HM.out; omega
        have hxd : D + nsz x ≤ 1000000 := by have := HD.out.1; omega
        have hle : els.length + nsz x ≤ 1000000 := by
          have h1 := congrArg List.length hr2
          rw [List.length_append, List.length_append, List.length_map, spN_len, HRL.out] at h1
          have := HD.out.2
          omega
        have hby : ∀ y ∈ spN fn kd D (if isCall n then n.s else []) (if isCall n then i else 0) (isSplitN n i) (isCall n) x, byteOk y.n.s := fun y hy => HB.out y (by rw [← hr2]; exact List.mem_append_right _ (List.mem_append_left _ hy))
        have hns : byteOk n.s := hbn.out
        unfold nodeC at hc2
        have HCB2 := Lib.hid hc2
        have HF2 := Lib.hid hF2
        have HL2 := Lib.hid hl2
        have HK2 := Lib.hid hk2
        have HXM := Lib.hid hxm
        have HXD := Lib.hid hxd
        have HLE := Lib.hid hle
        have HBY := Lib.hid hby
        have HR2 := Lib.hid hr2
        clear hc2 hF2 hl2 hk2 hxm hxd hle hby hr2 HR hsz hnl hx ex
        (repeat' (first | ((with_reducible refine zG ?_); first | refine oWx ?_ | (refine oWs ?_; clear HO; intro _ HO) | (refine oWj ?_; clear HO; intro _ HO HB)) | go_values | go_skip | go_guarded | go_step | go_upon | (go_ite <;> go_prune <;> (try go_simp))))
        ((refine tBg HO [13] (.pu 0 (.pu 1 (.pu 3 (.pu 6 (.pu 8 (.pu 10 (.ld 2 (.pu 4 (.ld 5 (.ld 7 (.ld 9 (.pu 11 (.ef 12 (.lt 13 (.nil))))))))))))))) ?_); (clear HO; intro _ HO); (repeat' (first | ((with_reducible refine tGo ?_); first | ((first | refine tL1 (OwnT.of HO) rfl rfl rfl (by kernel_rfl) (fun _ _ _ h => h) (by rfl) ?_ | refine tL3 (OwnT.of HO) rfl rfl rfl (by kernel_rfl) (fun _ _ _ h => h) (by rfl) ?_ | refine tY1 (OwnT.of HO) rfl rfl rfl (by kernel_rfl) (fun _ _ _ h => h) (by rfl) ?_ | refine tRd (OwnT.of HO) rfl (by kernel_rfl) (fun _ _ _ h => h) (by rfl) (rdE3 rfl rfl HF2.out rfl HCB2.out) ?_); (try simp only [Act.put, pS])) | ((first | refine tPu (OwnT.of HO) rfl (by kernel_rfl) (fun _ _ _ h => h) (by rfl) (by intro _; go_simp; (try with_reducible rfl)) ?_); (try simp only [Act.put, pS])) | refine tEf rfl (by kernel_rfl) (by rfl) (fun K hK => ?_) | refine tLt rfl (by kernel_rfl) (by rfl) (fun K hK => ?_) | refine tDo (by kernel_rfl) ?_) | ((with_reducible refine uGo ?_); first | ((refine uPu rfl (by kernel_rfl) (fun _ _ _ h => h) (by rfl) (by intro _; go_simp; (try with_reducible rfl)) ?_); (try simp only [Act.put, pS])) | refine uEf rfl (by kernel_rfl) (by rfl) (fun K hK => ?_) | refine uDo (by kernel_rfl) ?_) | ((with_reducible show K _ _); (first | refine hK.out _ _ (OwnT.of HO) ?_ | with_reducible refine hK.out _ _ ?_); clear hK K; (try simp only [Act.put, pS])) | ((with_reducible refine oAl HO ?_); clear HO; intro _ HO) | ((with_reducible refine to_store ?_); first | (refine oYs HO rfl rfl rfl (by rfl) ?_; clear HO; intro _ HO) | ((first | refine oT1 HO rfl rfl rfl ?_ | refine oT2 HO rfl rfl rfl (by rfl) ?_ | refine oT3 HO rfl rfl rfl rfl ?_); clear HO; intro _ HO)))))
        have hwd : ((strN n.s).toList == ([115, 112, 108, 105, 116] : List UInt8)) = decide (n.s = [115, 112, 108, 105, 116]) := wd_eqK hns (y := [115, 112, 108, 105, 116]) (by decide)
        rcases bel_cases n i with ⟨h18, h19⟩ | ⟨h18, h19⟩ | ⟨h18, h19, hsp⟩ | ⟨h18, h19, hsp, hi1⟩ | ⟨h18, h19, hsp, hi1⟩
        · have hic : isCall n = true := h18
          have his : isSplitN n i = false := by unfold isSplitN; rw [h19, Bool.false_and]
          have hby := HBY.out
          have hr2 := HR2.out
          simp only [hic, his, Bool.false_eq_true, ↓reduceIte] at hby hr2
          replace HBY := Lib.hid hby
          replace HR2 := Lib.hid hr2
          clear hic his hby hr2
          clear hwd
          (repeat' (first | ((with_reducible refine zG ?_); first | refine oWx ?_ | (refine oWs ?_; clear HO; intro _ HO) | (refine oWj ?_; clear HO; intro _ HO HB)) | ((with_reducible refine to_append ?_); refine wo_appSp HO rfl rfl rfl (bel_len HLE.out HMP.out) ?_; clear HO HCP; intro _ _ _ HCP HO; (try simp only [Act.put, pS])) | ((go_big_may; first | (refine (HI.out x fn kd D n.s i false true A3 c3 _ _ _ _ HXM.out HXD.out HL2.out HK2.out HBY.out HO.out).mono ?_; rintro e W9 ⟨AR, cR, els2, rfl, hcR, hmap, hok, hO⟩; clear HO; have HO := Lib.hid hO; clear hO; have HMP := Lib.hid hmap; replace hok := Lib.hid hok; clear hmap)) <;> (try dsimp only)) | go_values | go_skip | go_guarded | go_step | go_upon | (go_ite <;> go_prune <;> (try go_simp))))
          refine ⟨bel_next HO0 hlt HCP HMP HR2 HOK hok HO, ?_⟩
          exact meas2 rfl (Nat.le_refl _) hlt
        · have hic : isCall n = false := h18
          have his : isSplitN n i = false := by unfold isSplitN; rw [h19, Bool.false_and]
          have hby := HBY.out
          have hr2 := HR2.out
          simp only [hic, his, Bool.false_eq_true, ↓reduceIte] at hby hr2
          replace HBY := Lib.hid hby
          replace HR2 := Lib.hid hr2
          clear hic his hby hr2
          clear hwd
          (repeat' (first | ((with_reducible refine zG ?_); first | refine oWx ?_ | (refine oWs ?_; clear HO; intro _ HO) | (refine oWj ?_; clear HO; intro _ HO HB)) | ((with_reducible refine to_append ?_); refine wo_appSp HO rfl rfl rfl (bel_len HLE.out HMP.out) ?_; clear HO HCP; intro _ _ _ HCP HO; (try simp only [Act.put, pS])) | ((go_big_may; first | (refine (HI.out x fn kd D [] 0 false false A3 c3 _ _ _ _ HXM.out HXD.out HL2.out HK2.out HBY.out HO.out).mono ?_; rintro e W9 ⟨AR, cR, els2, rfl, hcR, hmap, hok, hO⟩; clear HO; have HO := Lib.hid hO; clear hO; have HMP := Lib.hid hmap; replace hok := Lib.hid hok; clear hmap)) <;> (try dsimp only)) | go_values | go_skip | go_guarded | go_step | go_upon | (go_ite <;> go_prune <;> (try go_simp))))
          refine ⟨bel_next HO0 hlt HCP HMP HR2 HOK hok HO, ?_⟩
          exact meas2 rfl (Nat.le_refl _) hlt
        · have hic : isCall n = false := h18
          have his : isSplitN n i = false := by unfold isSplitN; rw [hsp, Bool.false_and, Bool.and_false]
          have hby := HBY.out
          have hr2 := HR2.out
          simp only [hic, his, Bool.false_eq_true, ↓reduceIte] at hby hr2
          replace HBY := Lib.hid hby
          replace HR2 := Lib.hid hr2
          clear hic his hby hr2
          rw [hsp] at hwd
          (repeat' (first | ((with_reducible refine zG ?_); first | refine oWx ?_ | (refine oWs ?_; clear HO; intro _ HO) | (refine oWj ?_; clear HO; intro _ HO HB)) | ((with_reducible refine to_append ?_); refine wo_appSp HO rfl rfl rfl (bel_len HLE.out HMP.out) ?_; clear HO HCP; intro _ _ _ HCP HO; (try simp only [Act.put, pS])) | ((go_big_may; first | (refine (HI.out x fn kd D [] 0 false false A3 c3 _ _ _ _ HXM.out HXD.out HL2.out HK2.out HBY.out HO.out).mono ?_; rintro e W9 ⟨AR, cR, els2, rfl, hcR, hmap, hok, hO⟩; clear HO; have HO := Lib.hid hO; clear hO; have HMP := Lib.hid hmap; replace hok := Lib.hid hok; clear hmap)) <;> (try dsimp only)) | go_values | go_skip | go_guarded | go_step | go_upon | (go_ite <;> go_prune <;> (try go_simp))))
          refine ⟨bel_next HO0 hlt HCP HMP HR2 HOK hok HO, ?_⟩
          exact meas2 rfl (Nat.le_refl _) hlt
        · have hic : isCall n = false := h18
          have his : isSplitN n i = false := by unfold isSplitN; rw [hi1, Bool.and_false, Bool.and_false]
          have hby := HBY.out
          have hr2 := HR2.out
          simp only [hic, his, Bool.false_eq_true, ↓reduceIte] at hby hr2
          replace HBY := Lib.hid hby
          replace HR2 := Lib.hid hr2
          clear hic his hby hr2
          rw [hsp] at hwd
          (repeat' (first | ((with_reducible refine zG ?_); first | refine oWx ?_ | (refine oWs ?_; clear HO; intro _ HO) | (refine oWj ?_; clear HO; intro _ HO HB)) | ((with_reducible refine to_append ?_); refine wo_appSp HO rfl rfl rfl (bel_len HLE.out HMP.out) ?_; clear HO HCP; intro _ _ _ HCP HO; (try simp only [Act.put, pS])) | ((go_big_may; first | (refine (HI.out x fn kd D [] 0 false false A3 c3 _ _ _ _ HXM.out HXD.out HL2.out HK2.out HBY.out HO.out).mono ?_; rintro e W9 ⟨AR, cR, els2, rfl, hcR, hmap, hok, hO⟩; clear HO; have HO := Lib.hid hO; clear hO; have HMP := Lib.hid hmap; replace hok := Lib.hid hok; clear hmap)) <;> (try dsimp only)) | go_values | go_skip | go_guarded | go_step | go_upon | (go_ite <;> go_prune <;> (try go_simp))))
          refine ⟨bel_next HO0 hlt HCP HMP HR2 HOK hok HO, ?_⟩
          exact meas2 rfl (Nat.le_refl _) hlt
        · have hic : isCall n = false := h18
          have his : isSplitN n i = true := by unfold isSplitN; rw [h19, hsp, hi1]; rfl
          have hby := HBY.out
          have hr2 := HR2.out
          simp only [hic, his, Bool.false_eq_true, ↓reduceIte] at hby hr2
          replace HBY := Lib.hid hby
          replace HR2 := Lib.hid hr2
          clear hic his hby hr2
          rw [hsp] at hwd
          (repeat' (first | ((with_reducible refine zG ?_); first | refine oWx ?_ | (refine oWs ?_; clear HO; intro _ HO) | (refine oWj ?_; clear HO; intro _ HO HB)) | ((with_reducible refine to_append ?_); refine wo_appSp HO rfl rfl rfl (bel_len HLE.out HMP.out) ?_; clear HO HCP; intro _ _ _ HCP HO; (try simp only [Act.put, pS])) | ((go_big_may; first | (refine (HI.out x fn kd D [] 0 true false A3 c3 _ _ _ _ HXM.out HXD.out HL2.out HK2.out HBY.out HO.out).mono ?_; rintro e W9 ⟨AR, cR, els2, rfl, hcR, hmap, hok, hO⟩; clear HO; have HO := Lib.hid hO; clear hO; have HMP := Lib.hid hmap; replace hok := Lib.hid hok; clear hmap)) <;> (try dsimp only)) | go_values | go_skip | go_guarded | go_step | go_upon | (go_ite <;> go_prune <;> (try go_simp))))
          refine ⟨bel_next HO0 hlt HCP HMP HR2 HOK hok HO, ?_⟩
          exact meas2 rfl (Nat.le_refl _) hlt
      · obtain rfl : i = n.l.length := by omega
        have hr2 := HR.out
        rw [List.drop_length, spL, List.append_nil] at hr2
        have hngi : ¬ (n.l.length : Int) < (n.l.length : Int) := by omega
        replace HR := Lib.hid hr2
        clear hr2
        (repeat' (first | ((with_reducible refine zG ?_); first | refine oWx ?_ | (refine oWs ?_; clear HO; intro _ HO) | (refine oWj ?_; clear HO; intro _ HO HB)) | go_values | go_skip | go_guarded | go_step | go_upon | (go_ite <;> go_prune <;> (try go_simp))))
        refine bp_tmp (t := 2) rfl rfl rfl ?_
        exact bel_end HR HCP HOK (HO.out.sub (List.sublist_cons_self _ _) (List.Sublist.refl _) (fun _ h => h))
end Go.Proofs.Ythipoccbeloceaa
