/- Several texts put together: RtT. -/
import Derived.Test.YthipoccbeloceaaBu21
import Derived.Test.YthipoccbeloceaaBu13
set_option linter.unusedSimpArgs false
set_option linter.unusedVariables false
namespace Go.Proofs.Ythipoccbeloceaa
open Go.RowKit
theorem ref_glob {t : TreeT} {L : List (List Nat)} {fn : Int} {s : List Nat} (h : (refS t L fn s).fn < 0) (L' : List (List Nat)) : refS t L' fn s = ⟨-1, (posF s L' 0).getD 0⟩ := by
  unfold refS at h ⊢
  split
  · rename_i h0
    rw [if_pos h0] at h
    split
    · rename_i j hj
      rw [hj] at h
      dsimp only at h
      omega
    · rfl
  · rfl
theorem known_eq (t : TreeT) (p : Pl) (L : List (List Nat)) (arr q : List Rf) (hd : List (Rf × Rf)) : knownS t p ⟨L, arr, q, hd⟩ = ⟨(knownS t p ⟨L, arr, q, hd⟩).L, arr, q, hd⟩ := by
  unfold knownS
  split <;> rfl
theorem array_eq (v : Rf) (L : List (List Nat)) (arr q : List Rf) (hd : List (Rf × Rf)) : arrayS v ⟨L, arr, q, hd⟩ = ⟨L, (arrN v arr q).1, (arrN v arr q).2, hd⟩ := by
  unfold arrayS arrN
  dsimp only
  split <;> rfl
theorem arrN_len (v : Rf) (arr q : List Rf) : (arrN v arr q).2.length ≤ q.length + 1 := by
  unfold arrN
  split
  · exact Nat.le_succ _
  · simp
theorem zSl : ∀ w, (zeroValue 66).run Try.prog w = .ok (.slice none 0 0) w := Try.zeroValue66
def CutRt {w0 w : World} {X : List Nat} {S : World → Prop} {bs : List Bx} {rs : List Rw} {F : List Cold} (_ : Hid (Own w0 X S bs rs F w)) (r : Rf) (v : Value) (W : World) : Prop := ∃ b9, v = .pointer (some ⟨b9, 0, none⟩) ∧ Hid (Own w0 X S (⟨b9, 107, [.int .i64 r.fn, .int .i64 (r.i : Int)]⟩ :: bs) rs F W)
theorem nt_c (N S I H : Bool) : (N = true ∧ S = true ∧ I = true) ∨ (N = false ∧ H = true) ∨ (N = false ∧ H = false) ∨ (N = true ∧ S = false) ∨ (N = true ∧ S = true ∧ I = false) := by cases N <;> cases S <;> cases I <;> cases H <;> simp
theorem by18 {k : Nat} (h : ((k : Int) == 19) = true) : ((k : Int) == 18) = false := by rw [beq_eq_false_iff_ne]; have := beq_iff_eq.1 h; omega
theorem hand_row {w0 w : World} {X : List Nat} {S : World → Prop} {bs : List Bx} {rs : List Rw} {F : List Cold} {hs : List HEnt} {hd : List (Rf × Rf)} {r1 r2 : Rw} (hH : HdOk hs hd) (v : Rf) (HO : Hid (Own w0 X S bs (r1 :: r2 :: (hs.map rowH ++ rs)) F w)) :
    ∃ (l : List Rf) (A3 : Option Addr) (c3 : Nat), l = handS v hd ∧ (lookK v (hs.map handV)).getD (.slice none 0 0) = .slice A3 l.length c3 ∧ Hid (Own w0 X S bs (⟨107, 2, .slice A3 l.length c3, l.length, l.flatMap refC⟩ :: r1 :: r2 :: ((restH v hs).map rowH ++ rs)) F w) := by
  have hl := hH v
  unfold lookHs at hl
  rw [getH_look]
  cases hg : getH v hs with
  | none =>
    rw [hg] at hl
    refine ⟨[], none, 0, hl, rfl, Lib.hid ?_⟩
    rw [getH_none hg]
    exact HO.out.nilRow _ _
  | some e =>
    rw [hg] at hl
    refine ⟨e.l, e.A, e.c, hl, rfl, Lib.hid ?_⟩
    refine HO.out.perm (List.Perm.refl _) ?_
    have h1 : (hs.map rowH ++ rs).Perm (rowH e :: ((restH v hs).map rowH ++ rs)) := (getH_rows hg).append_right rs
    exact ((h1.cons _).cons _).trans (((List.Perm.swap _ _ _).cons _).trans (List.Perm.swap _ _ _))
theorem CutRt.mk {w0 w W : World} {X : List Nat} {S : World → Prop} {bs : List Bx} {rs : List Rw} {F : List Cold} (HO0 : Hid (Own w0 X S bs rs F w)) {r : Rf} {b9 : Nat} (HO : Hid (Own w0 X S (⟨b9, 107, [.int .i64 r.fn, .int .i64 (r.i : Int)]⟩ :: bs) rs F W)) : CutRt HO0 r (.pointer (some ⟨b9, 0, none⟩)) W := ⟨b9, rfl, HO⟩
attribute [local irreducible] WQ
set_option maxRecDepth 100000 in
set_option maxHeartbeats 12800000 in
theorem note_call {w1 : World} {X : List Nat} {F : List Cold} {g nF cF nR cR cP mf mg ma mh : Nat} {AF AR AP : Option Addr} {t : TreeT} (HM : Hid (FmAt w1 (Eld w1 X) mf t)) (HP : Hid (PmAt w1 (Eld w1 X) AP nF t)) (hn2 : nF ≤ 1000000) {st : NSt} {n : Nat} {V : Vst} {p : Pl} {v : Value} {bs : List Bx} {rs : List Rw} {w : World} (hI : NoteI w1 X g nF cF nR cR cP mf mg ma mh AF AR AP (st, n) V) (hn : n < 1000000) (HG : Hid (PlG t p)) (hp : PlAt w1 (Eld w1 X) p v) (hO : Own w1 X V.S (bs ++ V.bx) (rs ++ V.rw) F w) :
    Calls Try.prog 21 #[.pointer (some ⟨g, 0, none⟩), v] w fun e w' => e = .returned (.bool true) ∧ ∃ V', NoteI w1 X g nF cF nR cR cP mf mg ma mh AF AR AP (noteS t p st, n + 1) V' ∧ Own w1 X V'.S (bs ++ V'.bx) (rs ++ V'.rw) F w' := by
  obtain ⟨AL, cL, AQ, cQ, hs, rfl, hHd, hLb, hL1, hq1, hd1⟩ := hI
  obtain ⟨L, arr, q, hd⟩ := st
  obtain ⟨b, o, A, c, u, rfl, hn1, hu⟩ := hp
  dsimp only at hO hHd hLb hL1 hq1 hd1
  have HO : Hid (Own w1 X _ bs (_ :: _ :: (hs.map rowH ++ rs)) F w) := Lib.hid (hO.perm (by rw [List.append_nil]) (List.perm_append_comm (l₂ := _ :: _ :: hs.map rowH)))
  have HN := Lib.hid hn1
  have HH := Lib.hid hHd
  have HLB := Lib.hid hLb
  have HU := Lib.hid hu
  clear hO hn1 hHd hLb hu
  have hbk : ∀ (L' : List (List Nat)) (AL' : Option Addr) (cL' : Nat) (arr' q' : List Rf) (AQ' : Option Addr) (cQ' : Nat) (hs' : List HEnt) (bs' : List Bx) (rs' : List Rw) (hd' : List (Rf × Rf)) (W : World), noteS t p ⟨L, arr, q, hd⟩ = ⟨L', arr', q', hd'⟩ → HdOk hs' hd' → (∀ s ∈ L', byteOk s) → L'.length ≤ n + 1 → q'.length ≤ n + 1 → hd'.length ≤ n + 1 → Own w1 X (SX (⟨g, 68, [.slice AF nF cF, .slice AR nR cR, .map (some mf), .slice AP nF cP, .map (some mg), .slice AL' L'.length cL', .map (some ma), .map (some mh), .slice AQ' q'.length cQ']⟩ :: []) [(mg, encK strV (enumF L' 0)), (ma, encK refV (arrE arr')), (mh, encK refV (hs'.map handV))] X w1.heap.size) bs' rs' F W → bs.Sublist bs' → rs'.Perm (⟨52, 2, .slice AL' L'.length cL', L'.length, L'.flatMap varC⟩ :: ⟨107, 2, .slice AQ' q'.length cQ', q'.length, q'.flatMap refC⟩ :: (hs'.map rowH ++ rs)) →
      ∃ V', NoteI w1 X g nF cF nR cR cP mf mg ma mh AF AR AP (noteS t p ⟨L, arr, q, hd⟩, n + 1) V' ∧ Own w1 X V'.S (bs ++ V'.bx) (rs ++ V'.rw) F W := by
    intro L' AL' cL' arr' q' AQ' cQ' hs' bs' rs' hd' W e h1 h2 h3 h4 h5 hO hb hr
    rw [e]
    refine ⟨_, ⟨AL', cL', AQ', cQ', hs', rfl, h1, h2, h3, h4, h5⟩, ?_⟩
    exact (hO.sub hb (List.Sublist.refl _) (fun _ h => h)).perm (by rw [List.append_nil]) (hr.trans (List.perm_append_comm (l₁ := _ :: _ :: hs'.map rowH)))
  have HBK := Lib.hid hbk
  clear hbk
  cases h4 : namedB p.n
  · go_enter Try.func21, Try.ntmps21
    (repeat' (first | ((with_reducible refine zG ?_); first | refine oWx ?_ | (refine oWs ?_; clear HO; intro _ HO) | (refine oWj ?_; clear HO; intro _ HO HB)) | ((with_reducible refine to_load ?_); (first | first | refine oN0 HO rfl rfl HN ?_ | refine oNj HO rfl rfl HN rfl rfl ?_ | refine oY1 HO rfl rfl ?_ | refine oY3 HO rfl rfl ?_); (try simp only [Act.put, pS])) | ((go_big_may; first | (go_at_call 35; refine (named_any _ (HN.out.st (HO.out.eld (fun _ h => by cases h)))).mono ?_; rintro e W ⟨rfl, q⟩; replace HO := Lib.hid (HO.out.next q); clear q; rw [h4])) <;> (try dsimp only)) | go_values | go_skip | go_guarded | go_step | go_upon | (go_ite <;> go_prune <;> (try go_simp))))
    refine bp_tmp (t := 4) rfl rfl rfl ?_
    exact ⟨rfl, HBK.out L AL cL arr q AQ cQ hs _ _ hd _ (by unfold noteS; rw [h4, if_neg (by simp)]) HH.out HLB.out (by omega) (by omega) (by omega) HO.out (List.sublist_cons_self _ _) (List.Perm.refl _)⟩
  · have HL : Hid (∀ x ∈ enumF L 0, byteOk x.1) := Lib.hid (enum_ok L 0 HLB.out)
    go_enter Try.func21, Try.ntmps21
    (repeat' (first | ((with_reducible refine zG ?_); first | refine oWx ?_ | (refine oWs ?_; clear HO; intro _ HO) | (refine oWj ?_; clear HO; intro _ HO HB)) | ((with_reducible refine to_load ?_); (first | first | refine oN0 HO rfl rfl HN ?_ | refine oNj HO rfl rfl HN rfl rfl ?_ | refine oY1 HO rfl rfl ?_ | refine oY3 HO rfl rfl ?_); (try simp only [Act.put, pS])) | ((go_big_may; first | (go_at_call 35; refine (named_any _ (HN.out.st (HO.out.eld (fun _ h => by cases h)))).mono ?_; rintro e W ⟨rfl, q⟩; replace HO := Lib.hid (HO.out.next q); clear q; rw [h4])) <;> (try dsimp only)) | go_values | go_skip | go_guarded | go_step | go_upon | (go_ite <;> go_prune <;> (try go_simp))))
    obtain ⟨r0, hr0⟩ : ∃ z, refS t L p.fn p.n.s = z := ⟨_, rfl⟩
    have HR0 := Lib.hid hr0
    clear hr0
    have HO0 := HO
    go_cut [5] from 13 to 21 (fun v W => CutRt HO0 r0 v W)
    case first =>
      ((refine tBe HO [10] (.pu 0 (.pu 1 (.pu 3 (.ld 2 (.ld 4 (.pu 5 (.pu 6 (.ld 7 (.bo 8 9 (.ef 9 (.lt 10 (.nil))) (.ef 8 (.lt 10 (.nil)))))))))))) ?_); (clear HO; intro _ HO); (repeat' (first | ((with_reducible refine tGo ?_); first | ((first | refine tL1 (OwnT.of HO) rfl rfl rfl (by kernel_rfl) (fun _ _ _ h => h) (by rfl) ?_ | refine tL3 (OwnT.of HO) rfl rfl rfl (by kernel_rfl) (fun _ _ _ h => h) (by rfl) ?_ | refine tY1 (OwnT.of HO) rfl rfl rfl (by kernel_rfl) (fun _ _ _ h => h) (by rfl) ?_ | refine tN0 HN (OwnT.of HO) rfl rfl rfl (by kernel_rfl) (fun _ _ _ h => h) (by rfl) ?_ | refine tNj HN (OwnT.of HO) rfl rfl rfl rfl rfl (by kernel_rfl) (fun _ _ _ h => h) (by rfl) ?_); (try simp only [Act.put, pS])) | ((first | refine tPu (OwnT.of HO) rfl (by kernel_rfl) (fun _ _ _ h => h) (by rfl) (by intro _; go_simp; (try with_reducible rfl)) ?_); (try simp only [Act.put, pS])) | refine tEf rfl (by kernel_rfl) (by rfl) (fun K hK => ?_) | refine tLt rfl (by kernel_rfl) (by rfl) (fun K hK => ?_) | refine tDo (by kernel_rfl) ?_ | refine tBo rfl rfl (by kernel_rfl) (by rfl) (by rfl) (fun K hK => ?_) (fun K hK => ?_)) | ((with_reducible refine uGo ?_); first | ((refine uPu rfl (by kernel_rfl) (fun _ _ _ h => h) (by rfl) (by intro _; go_simp; (try with_reducible rfl)) ?_); (try simp only [Act.put, pS])) | refine uEf rfl (by kernel_rfl) (by rfl) (fun K hK => ?_) | refine uDo (by kernel_rfl) ?_) | ((with_reducible show K _ _); (first | refine hK.out _ _ (OwnT.of HO) ?_ | with_reducible refine hK.out _ _ ?_); clear hK K; (try simp only [Act.put, pS])) | ((with_reducible refine oAl HO ?_); clear HO; intro _ HO) | ((with_reducible refine to_store ?_); first | (refine oYs HO rfl rfl rfl (by rfl) ?_; clear HO; intro _ HO) | ((first | refine oT1 HO rfl rfl rfl ?_ | refine oT2 HO rfl rfl rfl (by rfl) ?_ | refine oT3 HO rfl rfl rfl rfl ?_); clear HO; intro _ HO)) | ((first | (go_at_call 38; refine arm_rdv (fun w h => ref_any p.fn HG.out.fn1 HG.out.fn2 hn2 p.n.s HG.out.by_ HL.out w (rdv_at h) (HP.out.st (h.out.eld (fun _ h => h)))) HO ?_; clear HO; intro _ HO; rw [HR0.out])) <;> (try dsimp only)) | ((with_reducible refine eOp ?_); go_simp))))
      all_goals (((repeat' (first | ((with_reducible refine zG ?_); first | refine oWx ?_ | (refine oWs ?_; clear HO; intro _ HO) | (refine oWj ?_; clear HO; intro _ HO HB)) | go_values | go_skip | go_guarded | go_step | go_upon | (go_ite <;> go_prune <;> (try go_simp))))); go_meet; exact CutRt.mk HO0 HO)
    case' rest =>
      clear HO
      obtain ⟨b9, rfl, HO⟩ := hcut
      clear HO0
      (repeat' (go_not_at_if 24; first | ((with_reducible refine zG ?_); first | refine oWx ?_ | (refine oWs ?_; clear HO; intro _ HO) | (refine oWj ?_; clear HO; intro _ HO HB)) | ((with_reducible refine to_load ?_); (first | first | refine oN0 HO rfl rfl HN ?_ | refine oNj HO rfl rfl HN rfl rfl ?_ | refine oY1 HO rfl rfl ?_ | refine oY3 HO rfl rfl ?_); (try simp only [Act.put, pS])) | go_values | go_skip | go_guarded | go_step | go_upon | (go_ite <;> go_prune <;> (try go_simp))))
      obtain ⟨L', hL'⟩ : ∃ z, (knownS t p ⟨L, arr, q, hd⟩).L = z := ⟨_, rfl⟩
      obtain ⟨v', hv'⟩ : ∃ z, refS t L' p.fn p.n.s = z := ⟨_, rfl⟩
      have hke := known_eq t p L arr q hd
      rw [hL'] at hke
      have hcs : (¬ r0.fn < 0 ∧ L' = L ∧ v' = r0) ∨ (r0.fn < 0 ∧ L' = L ∧ v' = r0 ∧ ∃ i, posF p.n.s L 0 = some i ∧ r0.i = i) ∨ (r0.fn < 0 ∧ L' = L ++ [p.n.s] ∧ r0.fn = v'.fn ∧ v'.i = L.length ∧ posF p.n.s L 0 = none) := by
        have h0 := HR0.out
        have hk : knownS t p ⟨L, arr, q, hd⟩ = if decide ((refS t L p.fn p.n.s).fn < 0) && !(posF p.n.s L 0).isSome then ⟨L ++ [p.n.s], arr, q, hd⟩ else ⟨L, arr, q, hd⟩ := rfl
        rw [h0] at hk
        by_cases h1 : r0.fn < 0
        · have hg := fun L' => ref_glob (h0.symm ▸ h1) L'
          rw [decide_eq_true h1, Bool.true_and] at hk
          cases hp : posF p.n.s L 0 with
          | some i =>
            rw [hp] at hk
            have e : L' = L := by rw [← hL', hk]; rfl
            have hgl := hg L
            rw [h0, hp] at hgl
            exact .inr (.inl ⟨h1, e, by rw [← hv', e, h0], i, rfl, by rw [hgl]; rfl⟩)
          | none =>
            rw [hp] at hk
            have e : L' = L ++ [p.n.s] := by rw [← hL', hk]; rfl
            have hgl := hg L
            have hg2 := hg L'
            rw [h0] at hgl
            rw [hv', e, posF_none p.n.s L 0 hp] at hg2
            exact .inr (.inr ⟨h1, e, by rw [hgl, hg2], by rw [hg2]; simp, rfl⟩)
        · rw [decide_eq_false h1, Bool.false_and, if_neg (by decide)] at hk
          have e : L' = L := by rw [← hL', hk]
          exact .inl ⟨h1, e, by rw [← hv', e, h0]⟩
      have hLb' : ∀ s ∈ L', byteOk s := by
        rcases hcs with ⟨_, e, _⟩ | ⟨_, e, _⟩ | ⟨_, e, _⟩
        · rw [e]; exact HLB.out
        · rw [e]; exact HLB.out
        · rw [e]; intro s hs
          rcases List.mem_append.1 hs with h | h
          · exact HLB.out s h
          · rw [List.mem_singleton.1 h]; exact HG.out.by_
      have hLn : L'.length ≤ n + 1 := by
        rcases hcs with ⟨_, e, _⟩ | ⟨_, e, _⟩ | ⟨_, e, _⟩
        · rw [e]; omega
        · rw [e]; omega
        · rw [e, List.length_append]; simp; exact hL1
      have HKE := Lib.hid hke
      have HV' := Lib.hid hv'
      have HLB' := Lib.hid hLb'
      clear hke hL' hv' hLb'
      go_cut [] from 6 to 71 (fun W => ∃ (AL' : Option Addr) (cL' : Nat), Hid (Own w1 X (SX (⟨g, 68, [.slice AF nF cF, .slice AR nR cR, .map (some mf), .slice AP nF cP, .map (some mg), .slice AL' L'.length cL', .map (some ma), .map (some mh), .slice AQ q.length cQ]⟩ :: []) [(mg, encK strV (enumF L' 0)), (ma, encK refV (arrE arr)), (mh, encK refV (hs.map handV))] X w1.heap.size) (⟨b9, 107, [.int .i64 v'.fn, .int .i64 (v'.i : Int)]⟩ :: ⟨w.heap.size, 101, [.pointer (some ⟨b, o, none⟩), u, .int .i64 (p.i : Int), .int .i64 p.fn, .int .i64 (p.kd : Int), .bool p.lp]⟩ :: bs) (⟨52, 2, .slice AL' L'.length cL', L'.length, L'.flatMap varC⟩ :: ⟨107, 2, .slice AQ q.length cQ, q.length, q.flatMap refC⟩ :: (hs.map rowH ++ rs)) F W))
      case first =>
        rcases hcs with ⟨h1, rfl, rfl⟩ | ⟨h1, rfl, rfl, i, hpi, hri⟩ | ⟨h1, rfl, hvf, hvi, hpn⟩
        · (repeat' (first | ((with_reducible refine zG ?_); first | refine oWx ?_ | (refine oWs ?_; clear HO; intro _ HO) | (refine oWj ?_; clear HO; intro _ HO HB)) | ((with_reducible refine to_load ?_); (first | first | refine oN0 HO rfl rfl HN ?_ | refine oNj HO rfl rfl HN rfl rfl ?_ | refine oY1 HO rfl rfl ?_ | refine oY3 HO rfl rfl ?_); (try simp only [Act.put, pS])) | go_values | go_skip | go_guarded | go_step | go_upon | (go_ite <;> go_prune <;> (try go_simp))))
          go_meet
          exact ⟨_, _, HO⟩
        · have hlk : lookK p.n.s (enumF L' 0) = some (.int .i64 (i : Int)) := by rw [look_enum, hpi]; rfl
          (repeat' (first | ((with_reducible refine zG ?_); first | refine oWx ?_ | (refine oWs ?_; clear HO; intro _ HO) | (refine oWj ?_; clear HO; intro _ HO HB)) | ((with_reducible refine to_load ?_); (first | first | refine oN0 HO rfl rfl HN ?_ | refine oNj HO rfl rfl HN rfl rfl ?_ | refine oY1 HO rfl rfl ?_ | refine oY3 HO rfl rfl ?_); (try simp only [Act.put, pS])) | go_values | go_skip | go_guarded | go_step | go_upon | (go_ite <;> go_prune <;> (try go_simp))))
          (refine qBe HO (by kernel_rfl) ?_); (repeat' (first | ((with_reducible refine qNi ?_); (clear HO; intro _ HO)) | ((with_reducible refine qSt ?_); first | ((first | ((with_reducible refine qLd ?_); first | ((with_reducible refine qGd ?_); (with_reducible refine qSk ?_ ?_); focus rfl) | refine qL1 (by rfl) rfl rfl ?_ | refine qL3 (by rfl) rfl rfl ?_ | refine qY1 (by rfl) rfl rfl ?_ | refine qN0 HN (by rfl) rfl rfl ?_ | refine qNj HN (by rfl) rfl rfl rfl rfl ?_) | ((with_reducible refine qLk ?_); first | ((with_reducible refine qGd ?_); (with_reducible refine qSk ?_ ?_); focus rfl) | refine qVa (by rfl) (rkx1 keyStr Try.underlying62 zInt rfl rfl rfl HL.out HG.out.by_ hlk) ?_) | ((with_reducible refine qFd ?_); first | ((with_reducible refine qGd ?_); (with_reducible refine qSk ?_ ?_); focus rfl) | refine qVa (by rfl) (rFi rfl rfl ⟨_, _, _, _, _, _, _, rfl, rfl, inferInstance⟩) ?_) | ((with_reducible refine qCl ?_); first | ((with_reducible refine qGd ?_); (with_reducible refine qSk ?_ ?_); focus rfl)) | ((fail_if_success (with_reducible refine qLd ?_)); (fail_if_success (with_reducible refine qLk ?_)); (fail_if_success (with_reducible refine qCl ?_)); first | ((with_reducible refine qGd ?_); (with_reducible refine qSk ?_ ?_); focus rfl) | refine qVa (by rfl) (by intro _ _; go_simp; (try with_reducible rfl)) ?_)); (try simp only [Act.put, pS])))))
          (repeat' (first | ((with_reducible refine zG ?_); first | refine oWx ?_ | (refine oWs ?_; clear HO; intro _ HO) | (refine oWj ?_; clear HO; intro _ HO HB)) | ((with_reducible refine to_load ?_); (first | first | refine oN0 HO rfl rfl HN ?_ | refine oNj HO rfl rfl HN rfl rfl ?_ | refine oY1 HO rfl rfl ?_ | refine oY3 HO rfl rfl ?_); (try simp only [Act.put, pS])) | go_values | go_skip | go_guarded | go_step | go_upon | (go_ite <;> go_prune <;> (try go_simp))))
          go_meet
          rw [← hri] at HO
          exact ⟨_, _, HO⟩
        · have hlk : lookK p.n.s (enumF L 0) = none := by rw [look_enum, hpn]; rfl
          have hue := upd_enum hpn
          have HUE := Lib.hid hue
          have HVI := Lib.hid hvi
          have HVF := Lib.hid hvf
          have HPN := Lib.hid hpn
          clear hue hvi hvf hpn
          (repeat' (first | ((with_reducible refine zG ?_); first | refine oWx ?_ | (refine oWs ?_; clear HO; intro _ HO) | (refine oWj ?_; clear HO; intro _ HO HB)) | ((with_reducible refine to_load ?_); (first | first | refine oN0 HO rfl rfl HN ?_ | refine oNj HO rfl rfl HN rfl rfl ?_ | refine oY1 HO rfl rfl ?_ | refine oY3 HO rfl rfl ?_); (try simp only [Act.put, pS])) | go_values | go_skip | go_guarded | go_step | go_upon | (go_ite <;> go_prune <;> (try go_simp))))
          (refine qBe HO (by kernel_rfl) ?_); (repeat' (first | ((with_reducible refine qNi ?_); (clear HO; intro _ HO)) | ((with_reducible refine qSt ?_); first | ((first | ((with_reducible refine qLd ?_); first | ((with_reducible refine qGd ?_); (with_reducible refine qSk ?_ ?_); focus rfl) | refine qL1 (by rfl) rfl rfl ?_ | refine qL3 (by rfl) rfl rfl ?_ | refine qY1 (by rfl) rfl rfl ?_ | refine qN0 HN (by rfl) rfl rfl ?_ | refine qNj HN (by rfl) rfl rfl rfl rfl ?_) | ((with_reducible refine qLk ?_); first | ((with_reducible refine qGd ?_); (with_reducible refine qSk ?_ ?_); focus rfl) | refine qVa (by rfl) (rkx2 keyStr Try.underlying62 zInt rfl rfl rfl HL.out HG.out.by_ hlk) ?_) | ((with_reducible refine qFd ?_); first | ((with_reducible refine qGd ?_); (with_reducible refine qSk ?_ ?_); focus rfl) | refine qVa (by rfl) (rFi rfl rfl ⟨_, _, _, _, _, _, _, rfl, rfl, inferInstance⟩) ?_) | ((with_reducible refine qCl ?_); first | ((with_reducible refine qGd ?_); (with_reducible refine qSk ?_ ?_); focus rfl)) | ((fail_if_success (with_reducible refine qLd ?_)); (fail_if_success (with_reducible refine qLk ?_)); (fail_if_success (with_reducible refine qCl ?_)); first | ((with_reducible refine qGd ?_); (with_reducible refine qSk ?_ ?_); focus rfl) | refine qVa (by rfl) (by intro _ _; go_simp; (try with_reducible rfl)) ?_)); (try simp only [Act.put, pS])))))
          (repeat' (first | ((with_reducible refine zG ?_); first | refine oWx ?_ | (refine oWs ?_; clear HO; intro _ HO) | (refine oWj ?_; clear HO; intro _ HO HB)) | ((with_reducible refine to_load ?_); (first | first | refine oN0 HO rfl rfl HN ?_ | refine oNj HO rfl rfl HN rfl rfl ?_ | refine oY1 HO rfl rfl ?_ | refine oY3 HO rfl rfl ?_); (try simp only [Act.put, pS])) | go_values | go_skip | go_guarded | go_step | go_upon | (go_ite <;> go_prune <;> (try go_simp))))
          ((refine tBe HO [] (.pu 0 (.pu 1 (.pu 2 (.pu 4 (.pu 9 (.ld 3 (.ld 5 (.pu 6 (.pu 7 (.ld 8 (.ef 10 (.nil)))))))))))) ?_); (clear HO; intro _ HO); (repeat' (first | ((with_reducible refine tGo ?_); first | ((first | refine tL1 (OwnT.of HO) rfl rfl rfl (by kernel_rfl) (fun _ _ _ h => h) (by rfl) ?_ | refine tL3 (OwnT.of HO) rfl rfl rfl (by kernel_rfl) (fun _ _ _ h => h) (by rfl) ?_ | refine tY1 (OwnT.of HO) rfl rfl rfl (by kernel_rfl) (fun _ _ _ h => h) (by rfl) ?_ | refine tN0 HN (OwnT.of HO) rfl rfl rfl (by kernel_rfl) (fun _ _ _ h => h) (by rfl) ?_ | refine tNj HN (OwnT.of HO) rfl rfl rfl rfl rfl (by kernel_rfl) (fun _ _ _ h => h) (by rfl) ?_); (try simp only [Act.put, pS])) | ((first | refine tPu (OwnT.of HO) rfl (by kernel_rfl) (fun _ _ _ h => h) (by rfl) (by intro _; go_simp; (try with_reducible rfl)) ?_); (try simp only [Act.put, pS])) | refine tEf rfl (by kernel_rfl) (by rfl) (fun K hK => ?_) | refine tLt rfl (by kernel_rfl) (by rfl) (fun K hK => ?_) | refine tDo (by kernel_rfl) ?_) | ((with_reducible refine uGo ?_); first | ((refine uPu rfl (by kernel_rfl) (fun _ _ _ h => h) (by rfl) (by intro _; go_simp; (try with_reducible rfl)) ?_); (try simp only [Act.put, pS])) | refine uEf rfl (by kernel_rfl) (by rfl) (fun K hK => ?_) | refine uDo (by kernel_rfl) ?_) | ((with_reducible show K _ _); (first | refine hK.out _ _ (OwnT.of HO) ?_ | with_reducible refine hK.out _ _ ?_); clear hK K; (try simp only [Act.put, pS])) | ((first | ((with_reducible refine to_mapUpdate ?_); refine wo_updW (k := p.n.s) (v := .int .i64 (L.length : Int)) keyStr Try.underlying62 HO rfl rfl rfl rfl rfl HL.out HG.out.by_ ?_; clear HO; intro _ HO; rw [HUE.out] at HO)) <;> (try dsimp only)))))
          (repeat' (first | ((with_reducible refine zG ?_); first | refine oWx ?_ | (refine oWs ?_; clear HO; intro _ HO) | (refine oWj ?_; clear HO; intro _ HO HB)) | ((with_reducible refine to_load ?_); (first | first | refine oN0 HO rfl rfl HN ?_ | refine oNj HO rfl rfl HN rfl rfl ?_ | refine oY1 HO rfl rfl ?_ | refine oY3 HO rfl rfl ?_); (try simp only [Act.put, pS])) | go_values | go_skip | go_guarded | go_step | go_upon | (go_ite <;> go_prune <;> (try go_simp))))
          ((refine tBe HO [15] (.pu 0 (.pu 1 (.pu 2 (.pu 3 (.pu 5 (.ld 4 (.ld 6 (.pu 7 (.pu 8 (.ld 9 (.pu 10 (.ef 11 (.ef 12 (.pu 13 (.pu 14 (.lt 15 (.nil))))))))))))))))) ?_); (clear HO; intro _ HO); (repeat' (first | ((with_reducible refine tGo ?_); first | ((first | refine tL1 (OwnT.of HO) rfl rfl rfl (by kernel_rfl) (fun _ _ _ h => h) (by rfl) ?_ | refine tL3 (OwnT.of HO) rfl rfl rfl (by kernel_rfl) (fun _ _ _ h => h) (by rfl) ?_ | refine tY1 (OwnT.of HO) rfl rfl rfl (by kernel_rfl) (fun _ _ _ h => h) (by rfl) ?_ | refine tN0 HN (OwnT.of HO) rfl rfl rfl (by kernel_rfl) (fun _ _ _ h => h) (by rfl) ?_ | refine tNj HN (OwnT.of HO) rfl rfl rfl rfl rfl (by kernel_rfl) (fun _ _ _ h => h) (by rfl) ?_); (try simp only [Act.put, pS])) | ((first | refine tPu (OwnT.of HO) rfl (by kernel_rfl) (fun _ _ _ h => h) (by rfl) (by intro _; go_simp; (try with_reducible rfl)) ?_); (try simp only [Act.put, pS])) | refine tEf rfl (by kernel_rfl) (by rfl) (fun K hK => ?_) | refine tLt rfl (by kernel_rfl) (by rfl) (fun K hK => ?_) | refine tDo (by kernel_rfl) ?_) | ((with_reducible refine uGo ?_); first | ((refine uPu rfl (by kernel_rfl) (fun _ _ _ h => h) (by rfl) (by intro _; go_simp; (try with_reducible rfl)) ?_); (try simp only [Act.put, pS])) | refine uEf rfl (by kernel_rfl) (by rfl) (fun K hK => ?_) | refine uDo (by kernel_rfl) ?_) | ((with_reducible show K _ _); (first | refine hK.out _ _ (OwnT.of HO) ?_ | with_reducible refine hK.out _ _ ?_); clear hK K; (try simp only [Act.put, pS])) | ((with_reducible refine to_store ?_); first | (refine oYs HO rfl rfl rfl (by rfl) ?_; clear HO; intro _ HO) | ((first | refine oT1 HO rfl rfl rfl ?_ | refine oT2 HO rfl rfl rfl (by rfl) ?_ | refine oT3 HO rfl rfl rfl rfl ?_); clear HO; intro _ HO)) | ((first | ((with_reducible refine to_append ?_); refine wo_appG HO rfl rfl rfl HB Try.underlying30 info_var rfl (by decide) rfl (by simp [Value.oneCell']) (by omega) (by decide) ?_; clear HO HB; intro _ _ _ hcap HO; (try simp only [Act.put, pS]))) <;> (try dsimp only)) | ((with_reducible refine ab_junk HO _ ?_); clear HO; intro _ HO HB) | ((with_reducible refine eOp ?_); go_simp))))
          (repeat' (first | ((with_reducible refine zG ?_); first | refine oWx ?_ | (refine oWs ?_; clear HO; intro _ HO) | (refine oWj ?_; clear HO; intro _ HO HB)) | ((with_reducible refine to_load ?_); (first | first | refine oN0 HO rfl rfl HN ?_ | refine oNj HO rfl rfl HN rfl rfl ?_ | refine oY1 HO rfl rfl ?_ | refine oY3 HO rfl rfl ?_); (try simp only [Act.put, pS])) | go_values | go_skip | go_guarded | go_step | go_upon | (go_ite <;> go_prune <;> (try go_simp))))
          go_meet
          have e1 : L.length + 1 = (L ++ [p.n.s]).length := by simp
          have e2 : L.flatMap varC ++ [.string (strN p.n.s), .bool false] = (L ++ [p.n.s]).flatMap varC := by simp [varC]
          rw [e2, e1] at HO
          rw [← HVI.out, HVF.out] at HO
          exact ⟨_, _, HO⟩
      case' rest =>
        clear HO HL hcs
        obtain ⟨AL', cL', HO⟩ := hcut
        have hns : noteS t p ⟨L, arr, q, hd⟩ = if !((p.n.k : Int) == 4) then arrayS v' ⟨L', arr, q, hd⟩ else if isSplit p then arrayS v' ⟨L', arr, q, hd⟩ else if isHanded p then ⟨L', arr, q, hd ++ [(paramOf t p, v')]⟩ else ⟨L', arr, q, hd⟩ := by
          unfold noteS
          rw [h4, if_pos rfl, HKE.out]
          dsimp only
          rw [HV'.out]
        have HNS := Lib.hid hns
        clear hns
        have hq9 : q.length ≤ 1000000 := by omega
        cases hk4 : ((p.n.k : Int) == 4)
        · have hk4n : ((p.n.k : Int) != 4) = true := by rw [bne, hk4]; rfl
          (repeat' (first | ((with_reducible refine zG ?_); first | refine oWx ?_ | (refine oWs ?_; clear HO; intro _ HO) | (refine oWj ?_; clear HO; intro _ HO HB)) | ((with_reducible refine to_load ?_); (first | first | refine oN0 HO rfl rfl HN ?_ | refine oNj HO rfl rfl HN rfl rfl ?_ | refine oY1 HO rfl rfl ?_ | refine oY3 HO rfl rfl ?_); (try simp only [Act.put, pS])) | ((go_big_may; first | (go_at_call 39; refine (array_any (xt := []) (vQ := .nilIface) v' hq9 (Lib.hid HO.out.swapR)).mono ?_; rintro e W ⟨rfl, AQ9, cQ9, hO9⟩; clear HO; have HO := Lib.hid hO9; clear hO9)) <;> (try dsimp only)) | go_values | go_skip | go_guarded | go_step | go_upon | (go_ite <;> go_prune <;> (try go_simp))))
          refine bp_tmp (t := 4) rfl rfl rfl ?_
          exact ⟨rfl, HBK.out L' AL' cL' (arrN v' arr q).1 (arrN v' arr q).2 AQ9 cQ9 hs _ _ hd _ (by rw [HNS.out, hk4, if_pos (by simp)]; exact array_eq _ _ _ _ _) HH.out HLB'.out hLn (by have := arrN_len v' arr q; omega) (by omega) HO.out ((List.sublist_cons_self _ _).trans (List.sublist_cons_self _ _)) (List.Perm.swap _ _ _)⟩
        have hk4n : ((p.n.k : Int) != 4) = false := by rw [bne, hk4]; rfl
        cases hup : p.up with
        | none =>
          have hh : isHanded p = false := by unfold isHanded; rw [hup]
          have hsp : isSplit p = false := by unfold isSplit; rw [hup]
          have hu2 := HU.out
          rw [hup] at hu2
          obtain rfl : u = .pointer none := hu2
          (repeat' (first | ((with_reducible refine zG ?_); first | refine oWx ?_ | (refine oWs ?_; clear HO; intro _ HO) | (refine oWj ?_; clear HO; intro _ HO HB)) | ((with_reducible refine to_load ?_); (first | first | refine oN0 HO rfl rfl HN ?_ | refine oNj HO rfl rfl HN rfl rfl ?_ | refine oY1 HO rfl rfl ?_ | refine oY3 HO rfl rfl ?_); (try simp only [Act.put, pS])) | go_values | go_skip | go_guarded | go_step | go_upon | (go_ite <;> go_prune <;> (try go_simp))))
          refine bp_tmp (t := 4) rfl rfl rfl ?_
          exact ⟨rfl, HBK.out L' AL' cL' arr q AQ cQ hs _ _ hd _ (by rw [HNS.out, hk4, if_neg (by decide), hsp, if_neg (by simp), hh, if_neg (by simp)]) HH.out HLB'.out hLn (by omega) (by omega) HO.out ((List.sublist_cons_self _ _).trans (List.sublist_cons_self _ _)) (List.Perm.refl _)⟩
        | some n2 =>
          have hbu2 := Lib.hid (HG.out.up n2 hup)
          have hu2 := HU.out
          rw [hup] at hu2
          obtain ⟨b2, o2, A2, c2, rfl, hn3⟩ := hu2
          have HU2 := Lib.hid hn3
          have hlk : (lookK n2.s (enumF (t.funcs.map (·.name)) 0)).getD (.int .i64 0) = .int .i64 (((fnOf t n2.s).getD 0 : Nat) : Int) := by rw [HM.out.look]; cases fnOf t n2.s <;> rfl
          have hh : isHanded p = ((n2.k : Int) == 18) := by unfold isHanded; rw [hup]
          have hsp : isSplit p = (((n2.k : Int) == 19) && (decide (n2.s = [115, 112, 108, 105, 116]) && ((p.i : Int) == 1))) := by unfold isSplit; rw [hup]
          have hpo : paramOf t p = ⟨((fnOf t n2.s).getD 0 : Nat), p.i⟩ := by unfold paramOf; rw [hup]
          have hwn : ((strN n2.s).toList == ([115, 112, 108, 105, 116] : List UInt8)) = decide (n2.s = [115, 112, 108, 105, 116]) := wd_eqK hbu2.out (y := [115, 112, 108, 105, 116]) (by decide)
          have HPO := Lib.hid hpo
          clear hn3 hpo
          rcases nt_c ((n2.k : Int) == 19) (decide (n2.s = [115, 112, 108, 105, 116])) ((p.i : Int) == 1) ((n2.k : Int) == 18) with ⟨h19, hsd, hi1⟩ | ⟨h19, h18⟩ | ⟨h19, h18⟩ | ⟨h19, hsd⟩ | ⟨h19, hsd, hi1⟩
          · rw [hsd] at hwn
            rw [h19, hsd, hi1] at hsp
            (repeat' (first | ((with_reducible refine zG ?_); first | refine oWx ?_ | (refine oWs ?_; clear HO; intro _ HO) | (refine oWj ?_; clear HO; intro _ HO HB)) | ((with_reducible refine to_load ?_); (first | first | refine oN0 HO rfl rfl HN ?_ | refine oNj HO rfl rfl HN rfl rfl ?_ | refine oY1 HO rfl rfl ?_ | refine oY3 HO rfl rfl ?_ | refine oN0 HO rfl rfl HU2 ?_ | refine oNj HO rfl rfl HU2 rfl rfl ?_); (try simp only [Act.put, pS])) | ((go_big_may; first | (go_at_call 39; refine (array_any (xt := []) (vQ := .nilIface) v' hq9 (Lib.hid HO.out.swapR)).mono ?_; rintro e W ⟨rfl, AQ9, cQ9, hO9⟩; clear HO; have HO := Lib.hid hO9; clear hO9)) <;> (try dsimp only)) | go_values | go_skip | go_guarded | go_step | go_upon | (go_ite <;> go_prune <;> (try go_simp))))
            refine bp_tmp (t := 4) rfl rfl rfl ?_
            exact ⟨rfl, HBK.out L' AL' cL' (arrN v' arr q).1 (arrN v' arr q).2 AQ9 cQ9 hs _ _ hd _ (by rw [HNS.out, hk4, if_neg (by decide), hsp, if_pos (by simp)]; exact array_eq _ _ _ _ _) HH.out HLB'.out hLn (by have := arrN_len v' arr q; omega) (by omega) HO.out ((List.sublist_cons_self _ _).trans (List.sublist_cons_self _ _)) (List.Perm.swap _ _ _)⟩
          · rw [h19] at hsp
            rw [h18] at hh
            (repeat' (first | ((with_reducible refine zG ?_); first | refine oWx ?_ | (refine oWs ?_; clear HO; intro _ HO) | (refine oWj ?_; clear HO; intro _ HO HB)) | ((with_reducible refine to_load ?_); (first | first | refine oN0 HO rfl rfl HN ?_ | refine oNj HO rfl rfl HN rfl rfl ?_ | refine oY1 HO rfl rfl ?_ | refine oY3 HO rfl rfl ?_ | refine oN0 HO rfl rfl HU2 ?_ | refine oNj HO rfl rfl HU2 rfl rfl ?_); (try simp only [Act.put, pS])) | go_values | go_skip | go_guarded | go_step | go_upon | (go_ite <;> go_prune <;> (try go_simp))))
            ((refine tBe HO [14] (.pu 0 (.pu 1 (.pu 2 (.pu 4 (.pu 10 (.ld 3 (.ld 5 (.pu 6 (.pu 7 (.ld 8 (.ld 11 (.lk 9 (.pu 12 (.ef 13 (.lt 14 (.nil)))))))))))))))) ?_); (clear HO; intro _ HO); (repeat' (first | ((with_reducible refine tGo ?_); first | ((first | refine tL1 (OwnT.of HO) rfl rfl rfl (by kernel_rfl) (fun _ _ _ h => h) (by rfl) ?_ | refine tL3 (OwnT.of HO) rfl rfl rfl (by kernel_rfl) (fun _ _ _ h => h) (by rfl) ?_ | refine tY1 (OwnT.of HO) rfl rfl rfl (by kernel_rfl) (fun _ _ _ h => h) (by rfl) ?_ | refine tN0 HU2 (OwnT.of HO) rfl rfl rfl (by kernel_rfl) (fun _ _ _ h => h) (by rfl) ?_ | refine tNj HU2 (OwnT.of HO) rfl rfl rfl rfl rfl (by kernel_rfl) (fun _ _ _ h => h) (by rfl) ?_); (try simp only [Act.put, pS])) | ((first | refine tPu (OwnT.of HO) rfl (by kernel_rfl) (fun _ _ _ h => h) (by rfl) (by intro _; go_simp; (try with_reducible rfl)) ?_); (try simp only [Act.put, pS])) | ((first | refine tRk (OwnT.of HO) rfl (by kernel_rfl) (fun _ _ _ h => h) (by rfl) ((fun _ _ _ _ w h => rke3 keyStr Try.underlying62 zInt rfl rfl rfl HM.out.hb HM.out.ok hbu2.out hlk w h)) ?_); (try simp only [Act.put, pS])) | refine tEf rfl (by kernel_rfl) (by rfl) (fun K hK => ?_) | refine tLt rfl (by kernel_rfl) (by rfl) (fun K hK => ?_) | refine tDo (by kernel_rfl) ?_) | ((with_reducible refine uGo ?_); first | ((refine uPu rfl (by kernel_rfl) (fun _ _ _ h => h) (by rfl) (by intro _; go_simp; (try with_reducible rfl)) ?_); (try simp only [Act.put, pS])) | refine uEf rfl (by kernel_rfl) (by rfl) (fun K hK => ?_) | refine uDo (by kernel_rfl) ?_) | ((with_reducible show K _ _); (first | refine hK.out _ _ (OwnT.of HO) ?_ | with_reducible refine hK.out _ _ ?_); clear hK K; (try simp only [Act.put, pS])) | ((with_reducible refine oAl HO ?_); clear HO; intro _ HO) | ((with_reducible refine to_store ?_); first | (refine oYs HO rfl rfl rfl (by rfl) ?_; clear HO; intro _ HO) | ((first | refine oT1 HO rfl rfl rfl ?_ | refine oT2 HO rfl rfl rfl (by rfl) ?_ | refine oT3 HO rfl rfl rfl rfl ?_); clear HO; intro _ HO)))))
            (repeat' (first | ((with_reducible refine zG ?_); first | refine oWx ?_ | (refine oWs ?_; clear HO; intro _ HO) | (refine oWj ?_; clear HO; intro _ HO HB)) | go_values | go_skip | go_guarded | go_step | go_upon | (go_ite <;> go_prune <;> (try go_simp))))
            obtain ⟨l, A3, c3, hl, hlook, hO9⟩ := hand_row HH.out (⟨((fnOf t n2.s).getD 0 : Nat), p.i⟩ : Rf) HO
            clear HO
            have HO := hO9
            clear hO9
            have hll : l.length ≤ 1000000 := by rw [hl]; have := handS_len (⟨((fnOf t n2.s).getD 0 : Nat), p.i⟩ : Rf) hd; omega
            have HLS := Lib.hid hl
            have HLK := Lib.hid hlook
            clear hl hlook
            ((refine tBe HO [] (.pu 0 (.pu 1 (.pu 2 (.ld 3 (.ld 4 (.ld 5 (.ef 6 (.ef 7 (.pu 8 (.pu 10 (.ef 9 (.ef 11 (.nil))))))))))))) ?_); (clear HO; intro _ HO); (repeat' (first | ((with_reducible refine tGo ?_); first | ((first | refine tL1 (OwnT.of HO) rfl rfl rfl (by kernel_rfl) (fun _ _ _ h => h) (by rfl) ?_ | refine tL3 (OwnT.of HO) rfl rfl rfl (by kernel_rfl) (fun _ _ _ h => h) (by rfl) ?_ | refine tY1 (OwnT.of HO) rfl rfl rfl (by kernel_rfl) (fun _ _ _ h => h) (by rfl) ?_); (try simp only [Act.put, pS])) | ((first | refine tPu (OwnT.of HO) rfl (by kernel_rfl) (fun _ _ _ h => h) (by rfl) (by intro _; go_simp; (try with_reducible rfl)) ?_); (try simp only [Act.put, pS])) | refine tEf rfl (by kernel_rfl) (by rfl) (fun K hK => ?_) | refine tLt rfl (by kernel_rfl) (by rfl) (fun K hK => ?_) | refine tDo (by kernel_rfl) ?_) | ((with_reducible refine uGo ?_); first | ((refine uPu rfl (by kernel_rfl) (fun _ _ _ h => h) (by rfl) (by intro _; go_simp; (try with_reducible rfl)) ?_); (try simp only [Act.put, pS])) | refine uEf rfl (by kernel_rfl) (by rfl) (fun K hK => ?_) | refine uDo (by kernel_rfl) ?_) | ((with_reducible show K _ _); (first | refine hK.out _ _ (OwnT.of HO) ?_ | with_reducible refine hK.out _ _ ?_); clear hK K; (try simp only [Act.put, pS])) | ((first | ((with_reducible refine to_mapEntry ?_); refine wo_entW (k := (⟨((fnOf t n2.s).getD 0 : Nat), p.i⟩ : Rf)) keyRef Try.underlying64 zSl HO rfl rfl rfl (fun _ _ => trivial) trivial ?_; clear HO; intro jj _ HJ1 HJ2 HO HKB; rw [HLK.out]; replace HB := Lib.hid (HKB.out _ _ _ HZ HB.out)) | ((with_reducible refine ab_junk HO 107 ?_); have HZ := HO.out.kept.size; clear HO; intro _ HO HB) | ((with_reducible refine to_entryStore ?_); refine wo_enS (k := (⟨((fnOf t n2.s).getD 0 : Nat), p.i⟩ : Rf)) (v := .slice A7 (l.length + 1) c7) HO rfl rfl rfl rfl rfl HJ1.out ?_; clear HO; intro _ HO; rw [← HJ2.out] at HO) | ((with_reducible refine to_append ?_); refine wo_appG HO rfl rfl rfl HB Try.underlying66 info_ref rfl (by decide) rfl (by simp [Value.oneCell']) hll (by decide) ?_; clear HO HB; intro A7 c7 _ hcap HO; (try simp only [Act.put, pS]))) <;> (try dsimp only)) | ((with_reducible refine ab_junk HO _ ?_); clear HO; intro _ HO HB) | ((with_reducible refine eOp ?_); go_simp))))
            all_goals ((repeat' (first | ((with_reducible refine zG ?_); first | refine oWx ?_ | (refine oWs ?_; clear HO; intro _ HO) | (refine oWj ?_; clear HO; intro _ HO HB)) | ((with_reducible refine to_load ?_); (first | first | refine oN0 HO rfl rfl HN ?_ | refine oNj HO rfl rfl HN rfl rfl ?_ | refine oY1 HO rfl rfl ?_ | refine oY3 HO rfl rfl ?_); (try simp only [Act.put, pS])) | go_values | go_skip | go_guarded | go_step | go_upon | (go_ite <;> go_prune <;> (try go_simp)))))
            refine bp_tmp (t := 4) rfl rfl rfl ?_
            have e1 : l.length + 1 = (l ++ [v']).length := by simp
            have e2 : l.flatMap refC ++ [.int .i64 v'.fn, .int .i64 (v'.i : Int)] = (l ++ [v']).flatMap refC := by simp [refC]
            rw [e2, e1, ← putH_map] at HO
            have hq8 : (rowH ⟨(⟨((fnOf t n2.s).getD 0 : Nat), p.i⟩ : Rf), l ++ [v'], A7, c7⟩ :: ((restH (⟨((fnOf t n2.s).getD 0 : Nat), p.i⟩ : Rf) hs).map rowH ++ rs)).Perm ((putH (⟨((fnOf t n2.s).getD 0 : Nat), p.i⟩ : Rf) (l ++ [v']) A7 c7 hs).map rowH ++ rs) := (putH_rows _ _ _ _ hs).append_right rs
            exact ⟨rfl, HBK.out L' AL' cL' arr q AQ cQ (putH (⟨((fnOf t n2.s).getD 0 : Nat), p.i⟩ : Rf) (l ++ [v']) A7 c7 hs) _ _ (hd ++ [((⟨((fnOf t n2.s).getD 0 : Nat), p.i⟩ : Rf), v')]) _ (by rw [HNS.out, hk4, if_neg (by decide), hsp, if_neg (by simp), hh, if_pos (by simp), HPO.out]) (by rw [HLS.out]; exact HdOk.put HH.out _ _ _ _) HLB'.out hLn (by omega) (by rw [List.length_append]; simp; omega) HO.out ((List.sublist_cons_self _ _).trans ((List.sublist_cons_self _ _).trans (List.sublist_cons_self _ _))) ((List.Perm.swap _ _ _).trans (((List.Perm.swap _ _ _).cons _).trans ((hq8.cons _).cons _)))⟩
          · rw [h19] at hsp
            rw [h18] at hh
            (repeat' (first | ((with_reducible refine zG ?_); first | refine oWx ?_ | (refine oWs ?_; clear HO; intro _ HO) | (refine oWj ?_; clear HO; intro _ HO HB)) | ((with_reducible refine to_load ?_); (first | first | refine oN0 HO rfl rfl HN ?_ | refine oNj HO rfl rfl HN rfl rfl ?_ | refine oY1 HO rfl rfl ?_ | refine oY3 HO rfl rfl ?_ | refine oN0 HO rfl rfl HU2 ?_ | refine oNj HO rfl rfl HU2 rfl rfl ?_); (try simp only [Act.put, pS])) | go_values | go_skip | go_guarded | go_step | go_upon | (go_ite <;> go_prune <;> (try go_simp))))
            refine bp_tmp (t := 4) rfl rfl rfl ?_
            exact ⟨rfl, HBK.out L' AL' cL' arr q AQ cQ hs _ _ hd _ (by rw [HNS.out, hk4, if_neg (by decide), hsp, if_neg (by simp), hh, if_neg (by simp)]) HH.out HLB'.out hLn (by omega) (by omega) HO.out ((List.sublist_cons_self _ _).trans (List.sublist_cons_self _ _)) (List.Perm.refl _)⟩
          · have h18 := by18 h19
            rw [h19, hsd] at hsp
            rw [h18] at hh
            rw [hsd] at hwn
            (repeat' (first | ((with_reducible refine zG ?_); first | refine oWx ?_ | (refine oWs ?_; clear HO; intro _ HO) | (refine oWj ?_; clear HO; intro _ HO HB)) | ((with_reducible refine to_load ?_); (first | first | refine oN0 HO rfl rfl HN ?_ | refine oNj HO rfl rfl HN rfl rfl ?_ | refine oY1 HO rfl rfl ?_ | refine oY3 HO rfl rfl ?_ | refine oN0 HO rfl rfl HU2 ?_ | refine oNj HO rfl rfl HU2 rfl rfl ?_); (try simp only [Act.put, pS])) | go_values | go_skip | go_guarded | go_step | go_upon | (go_ite <;> go_prune <;> (try go_simp))))
            refine bp_tmp (t := 4) rfl rfl rfl ?_
            exact ⟨rfl, HBK.out L' AL' cL' arr q AQ cQ hs _ _ hd _ (by rw [HNS.out, hk4, if_neg (by decide), hsp, if_neg (by simp), hh, if_neg (by simp)]) HH.out HLB'.out hLn (by omega) (by omega) HO.out ((List.sublist_cons_self _ _).trans (List.sublist_cons_self _ _)) (List.Perm.refl _)⟩
          · have h18 := by18 h19
            rw [h19, hsd, hi1] at hsp
            rw [h18] at hh
            rw [hsd] at hwn
            (repeat' (first | ((with_reducible refine zG ?_); first | refine oWx ?_ | (refine oWs ?_; clear HO; intro _ HO) | (refine oWj ?_; clear HO; intro _ HO HB)) | ((with_reducible refine to_load ?_); (first | first | refine oN0 HO rfl rfl HN ?_ | refine oNj HO rfl rfl HN rfl rfl ?_ | refine oY1 HO rfl rfl ?_ | refine oY3 HO rfl rfl ?_ | refine oN0 HO rfl rfl HU2 ?_ | refine oNj HO rfl rfl HU2 rfl rfl ?_); (try simp only [Act.put, pS])) | go_values | go_skip | go_guarded | go_step | go_upon | (go_ite <;> go_prune <;> (try go_simp))))
            refine bp_tmp (t := 4) rfl rfl rfl ?_
            exact ⟨rfl, HBK.out L' AL' cL' arr q AQ cQ hs _ _ hd _ (by rw [HNS.out, hk4, if_neg (by decide), hsp, if_neg (by simp), hh, if_neg (by simp)]) HH.out HLB'.out hLn (by omega) (by omega) HO.out ((List.sublist_cons_self _ _).trans (List.sublist_cons_self _ _)) (List.Perm.refl _)⟩
end Go.Proofs.Ythipoccbeloceaa
