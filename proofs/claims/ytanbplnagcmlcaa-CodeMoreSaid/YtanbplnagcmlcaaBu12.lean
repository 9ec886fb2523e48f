/- Several texts put together: CodR. -/
import Derived.Test.YtanbplnagcmlcaaBu11
/- Layer 15: the heights of a procedure. -/
namespace Go.Proofs.Ytanbplnagcmlcaa
open Go.RowKit
section
variable {w V w9 : World} {B B0 g : Nat} {C : CodeV} {G L P J : Value} {row : Value × List InsV} {loc : Value × List VarV} {vs vt v9 : Value} {l : List (Int × Int)} {t : List Nat} {x : Int × Int}
theorem St.seen (H : St w B B0 g C G L P J row loc vs vt (l, t)) (q : Below w.heap.size w V) (hown : w9.ownsRow B0 51 2 v9 (l.length + 1) (l.flatMap sh ++ [.int .i64 x.1, .int .i64 x.2])) (hg : V.grownBy w9 vs.ownBlock) :
    St (w9.setCell ⟨g, 6, none⟩ v9) B B0 g C G L P J row loc v9 vt (l ++ [x], t) ∧ Below B0 V (w9.setCell ⟨g, 6, none⟩ v9) := by
  have H2 := H.below q
  have hne : vs.ownBlock ≠ some g := own_blk_ne H2.sn H2.blk (by decide)
  have g9 := H2.blk.grown hg (fun e => hne e.symm)
  have hb : Below B0 V (w9.setCell ⟨g, 6, none⟩ v9) := ((Below.refl B0 V).grown hg H2.B0 (fun k hk => (World.ownsRow.lt H2.sn k hk).1)).setCell H2.hg _
  have hvt : vt.ownBlock = none ∨ vt.ownBlock ≠ vs.ownBlock := by
    rcases H2.sn.2 with ⟨rfl, _⟩ | ⟨g', cap, cur, rfl, _, hh, _⟩
    · cases e : vt.ownBlock
      · exact .inl rfl
      · exact .inr (by simp [Value.ownBlock])
    · exact .inr (own_blk_ne (t := 51) H2.td hh (by decide))
  have hbB := hb.mono H2.hB
  refine ⟨⟨H2.ok.below hbB, H2.rok.below hbB, H2.lok.below hbB, ?_, ?_, ?_, H2.hB, H2.hg⟩, hb⟩
  · have := g9.set_ 6 v9
    simpa using this
  · have h : w9.ownsRow B0 51 2 v9 (l ++ [x]).length ((l ++ [x]).flatMap sh) := by
      rw [List.length_append, List.flatMap_append]; exact hown
    exact ownsRow_setCell_other h (own_blk_ne h g9 (by decide)) _
  · have h := OI.kept H2.td hg hvt
    exact ownsRow_setCell_other h (own_blk_ne h g9 (by decide)) _
end
theorem St.seen_blk {w V w9 : World} {B B0 g : Nat} {C : CodeV} {G L P J : Value} {row : Value × List InsV} {loc : Value × List VarV} {vs vt : Value} {st : Sn} (H : St w B B0 g C G L P J row loc vs vt st) (q : Below w.heap.size w V) (hg : V.grownBy w9 vs.ownBlock) : w9.cell? ⟨g, 6, none⟩ = some vs ∧ w9.frozen? ⟨g, 6, none⟩ = false ∧ g < w9.heap.size := by
  have H2 := H.below q
  have hne : vs.ownBlock ≠ some g := own_blk_ne H2.sn H2.blk (by decide)
  have g9 := H2.blk.grown hg (fun e => hne e.symm)
  exact ⟨g9.cell 6, g9.frozen 6, g9.lt⟩
theorem lead_len {st st' : Sn} {x : Int × Int × Int} (h : leadOf st x = some st') : st'.1.length = st.1.length := by
  unfold leadOf at h
  split at h
  · cases h
  · split at h
    · cases h
    · split at h
      · cases h
      · split at h
        · split at h
          · injection h with h; subst h; rfl
          · cases h
        · injection h with h; subst h; simp
theorem leads_len : ∀ (l : List (Int × Int × Int)) {st st' : Sn}, leadsOf st l = some st' → st'.1.length = st.1.length
  | [], st, st', h => by injection h with h; subst h; rfl
  | x :: l, st, st', h => by
    rw [leadsOf] at h
    cases e : leadOf st x with
    | none => rw [e] at h; cases h
    | some s1 => rw [e] at h; rw [leads_len l h, lead_len e]
theorem all_len (g : Nms) (mine : List Bool) (row : List Ins) : ∀ (f : Nat) {st : Sn} {l : List (Int × Int)}, allOf g mine row f st = some l → l.length = st.1.length
  | 0, st, l, h => by
    rw [allOf] at h
    split at h
    · injection h with h; subst h; rfl
    · cases h
  | f + 1, (a, []), l, h => by
    simp only [allOf] at h
    injection h with h; subst h; rfl
  | f + 1, (a, k :: todo), l, h => by
    rw [allOf] at h
    dsimp only at h
    split at h
    · split at h
      · cases h
      · split at h
        · cases h
        · rename_i st' e
          rw [all_len g mine row f h, leads_len _ e]
    · cases h
theorem goOn_len {C : CodeV} {loc : Value × List VarV} {row : Value × List InsV} {f : Nat} {l : List (Int × Int)} (h : goOn C loc row f (leadOf (row.2.map fun _ => (-1, -1), []) (0, 0, 0)) = some l) : l.length = row.2.length := by
  cases e : leadOf (row.2.map fun _ => (-1, -1), []) (0, 0, 0) with
  | none => rw [e] at h; cases h
  | some st =>
    rw [e] at h
    have := all_len _ _ _ _ h
    rw [this, lead_len e, List.length_map]
theorem make_ints (W : World) (n : Nat) (hn : n ≤ 1000000) : ∃ w', (Instr.makeSlice 35 (.int .i64 0) (.int .i64 (n : Int))).run Try.prog W = .ok (.slice (some ⟨W.heap.size, 0, none⟩) 0 n) w' ∧
    w'.ownsRow W.heap.size 3 1 (.slice (some ⟨W.heap.size, 0, none⟩) 0 n) 0 [] ∧ W.grownBy w' none := by
  obtain ⟨i0, hi, hz0, hz1, hz2⟩ := info_parts info_int
  exact run_make_own (P := Try.prog) W W.heap.size 35 3 i0 (.int .i64 0) 1 Try.underlying35 hi hz0 hz1 .i64 .i64 n (by rw [hz2]; omega) (by unfold maxLen; omega) (Nat.le_refl _)
theorem own_slice {w : World} {base : Nat} {e : TypeId} {size n : Nat} {v : Value} {xs : List Value} (h : w.ownsRow base e size v n xs) : ∃ A c, v = .slice A n c ∧ n ≤ c ∧ c ≤ maxLen := by
  rcases h.2 with ⟨rfl, rfl⟩ | ⟨g, cap, cur, rfl, _, _, hn, hm, _⟩
  · exact ⟨none, 0, rfl, Nat.le_refl _, by unfold maxLen; omega⟩
  · exact ⟨_, _, rfl, hn, hm⟩
theorem info_height : (Try.prog.info? 51).map (fun i => (i.zero, i.size, i.bytes)) = some (some (.agg #[.int .i64 0, .int .i64 0]), 2, 16) := by kernel_rfl
/-- What is asked of a procedure's heights. -/
def hRes (C : CodeV) (proc : Int) : Option (List Int) :=
  match atI C.pr proc with
  | none => none
  | some row => heightsOf (pNms C) (mineOf (pNms C) proc.toNat) (row.2.map pIns)
def HPost (res : Option (List Int)) (w : World) (e : Ending) (w' : World) : Prop :=
  Below w.heap.size w w' ∧ (match res with
    | none => e = .returned (.tuple #[.slice none 0 0, .bool false])
    | some l => ∃ A c, e = .returned (.tuple #[.slice A l.length c, .bool true]) ∧ l.length ≤ c ∧ Reads w' w'.heap.size 1 A l.length (l.map iv64))
/-- The parameters of a procedure as they lie in memory. -/
def locV (C : CodeV) (k : Nat) : Value × List VarV := (C.lo[k]?).getD (.slice none 0 0, [])
theorem loc_mine (C : CodeV) (k : Nat) : mineV (locV C k) = mineOf (pNms C) k := by
  unfold mineV locV mineOf pNms
  rw [List.getElem?_map]
  cases C.lo[k]? <;> rfl
theorem hRes_in {C : CodeV} {k : Nat} {row : Value × List InsV} (h : C.pr[k]? = some row) : hRes C (k : Int) = (goOn C (locV C k) row (row.2.length + 1) (leadOf (row.2.map fun _ => (-1, -1), []) (0, 0, 0))).map (fun l => l.map (·.1)) := by
  unfold hRes
  rw [atI_nat, h]
  dsimp only
  unfold heightsOf
  rw [List.map_map, show ((fun _ => ((-1, -1) : Int × Int)) ∘ pIns) = fun _ => (-1, -1) from rfl, List.length_map, Int.toNat_natCast, ← loc_mine]
  cases leadOf (row.2.map fun _ => (-1, -1), []) (0, 0, 0) <;> rfl
theorem hRes_out {C : CodeV} {proc : Int} (h : ¬ (0 ≤ proc ∧ proc < C.pr.length)) : hRes C proc = none := by
  unfold hRes
  rw [atI_out _ _ h]
set_option maxRecDepth 100000 in
set_option maxHeartbeats 1600000 in
theorem heights_out {w : World} {B : Nat} {C : CodeV} {G L P J : Value} (H : C.ok w B G L P J) (hB : B ≤ w.heap.size) (proc : Int) (hp : I64 proc) (ho : ¬ (0 ≤ proc ∧ proc < C.pr.length)) :
    Calls Try.prog 8 #[.agg #[G, L, P, J], .int .i64 proc] w (HPost (hRes C proc) w) := by
  rw [hRes_out ho]
  obtain ⟨A, c, e1, hc1, hc2, _, _⟩ := H.p
  subst e1
  unfold I64 at hp
  unfold maxLen at hc2
  clear H
  by_cases h0 : proc < 0
  · have d0 : decide (proc < 0) = true := by simpa using h0
    clear ho
    go_enter Try.func8, Try.ntmps8
    go_wp2
    (try simp only [Exit.inBlock, Exit.then]); refine bodyPost_ret (by simp [results, Try.results8, go_sem, *]; try rfl) rfl ?_
    exact ⟨by (repeat' (first | (with_reducible exact Below.refl _ _) | (refine Below.trans ?_ (Below.mono (by with_reducible assumption) ?_)) | (with_reducible exact Below.refl _ _) | (with_reducible refine below_drewN ?_ _) | (with_reducible refine Below.drew ?_) | (with_reducible refine Below.setCell ?_ ?_ _) | (with_reducible refine Below.alloc ?_ ?_ _) | (with_reducible assumption) | (simp; done) | (simp; omega) | omega)), rfl⟩
  · obtain ⟨k, rfl⟩ : ∃ k : Nat, proc = (k : Int) := ⟨proc.toNat, by omega⟩
    have hk : C.pr.length ≤ k := by omega
    have hkd : decide (C.pr.length ≤ k) = true := by simpa using hk
    have d0 : decide ((k : Int) < 0) = false := by simp
    clear ho h0
    go_enter Try.func8, Try.ntmps8
    go_wp2
    (try simp only [Exit.inBlock, Exit.then]); refine bodyPost_ret (by simp [results, Try.results8, go_sem, *]; try rfl) rfl ?_
    exact ⟨by (repeat' (first | (with_reducible exact Below.refl _ _) | (refine Below.trans ?_ (Below.mono (by with_reducible assumption) ?_)) | (with_reducible exact Below.refl _ _) | (with_reducible refine below_drewN ?_ _) | (with_reducible refine Below.drew ?_) | (with_reducible refine Below.setCell ?_ ?_ _) | (with_reducible refine Below.alloc ?_ ?_ _) | (with_reducible assumption) | (simp; done) | (simp; omega) | omega)), rfl⟩
theorem st_new {w V : World} {B g : Nat} {C : CodeV} {G L P J : Value} {row : Value × List InsV} {loc : Value × List VarV} (H : C.ok w B G L P J) (hB : B ≤ w.heap.size) (hr : rowOk w B row) (hl : varsOk w B loc) (q : Below w.heap.size w V) (hb : Blk V g 49 #[G, L, P, J, row.1, loc.1, .slice none 0 0, .slice none 0 0]) (hg : w.heap.size ≤ g) :
    St V B w.heap.size g C G L P J row loc (.slice none 0 0) (.slice none 0 0) ([], []) :=
  have q' := q.mono hB
  ⟨H.below q', hr.below q', hl.below q', hb, World.ownsRow_nil _ _ _ _, OI.nil _ _, hB, hg⟩
set_option maxRecDepth 100000 in
set_option maxHeartbeats 1600000 in
theorem heights_in {w : World} {B : Nat} {C : CodeV} {G L P J : Value} (H : C.ok w B G L P J) (hB : B ≤ w.heap.size) {k : Nat} {row : Value × List InsV} (hrow : C.pr[k]? = some row) (hlen : row.2.length < 900000) :
    Calls Try.prog 8 #[.agg #[G, L, P, J], .int .i64 (k : Int)] w (HPost (hRes C k) w) := by
  rw [hRes_in hrow]
  generalize hres : goOn C (locV C k) row (row.2.length + 1) (leadOf (row.2.map fun _ => (-1, -1), []) (0, 0, 0)) = res
  have HR := Lib.hid hres
  clear hres
  obtain ⟨A, c, e1, hc1, hc2, _, hr1⟩ := H.p
  obtain ⟨A2, c2, e2, hd1, hd2, _, hr2⟩ := H.l
  obtain ⟨hk, hrow'⟩ := List.getElem?_eq_some_iff.1 hrow
  obtain ⟨ad, q, v, rfl, hq, hb, hv, hcell⟩ := vals_at hr1 hk
  rw [List.getElem?_map, hrow] at hv
  injection hv with hv
  subst hv
  have hrok : rowOk w B row := by have := H.pp _ (List.getElem_mem hk); rw [hrow'] at this; exact this
  have hqb : q.block < w.heap.size := by omega
  have HH := Lib.hid H
  have HRO := Lib.hid hrok
  obtain ⟨A3, c3, e3, hf1, hf2, _, _⟩ := hrok.1
  unfold maxLen at hc2 hd2 hf2
  subst e1 e2
  obtain ⟨rv, rx⟩ := row
  dsimp only at *
  subst e3
  have hkd : decide (C.pr.length ≤ k) = false := by simpa using hk
  have d0 : decide ((k : Int) < 0) = false := by simp
  have HQ := Lib.hid hr2
  clear H hr1 hr2 hrow hrow' hb hrok
  go_enter Try.func8, Try.ntmps8
  go_wp2
  go_region
  generalize hW : (World.drew _ : World) = W3
  have HB3 : Blk W3 (w.heap.size + 1) 49 #[G, .slice A2 C.lo.length c2, .slice (some ad) C.pr.length c, J, .slice A3 rx.length c3, .slice none 0 0, .slice none 0 0, .slice none 0 0] := by
    rw [← hW]
    have := (Blk.new (w.alloc (.cells #[G, .slice A2 C.lo.length c2, .slice (some ad) C.pr.length c, J] 29)) 49 #[G, .slice A2 C.lo.length c2, .slice (some ad) C.pr.length c, J, .slice A3 rx.length c3, .slice none 0 0, .slice none 0 0, .slice none 0 0]).drew
    simpa using this
  have HBc : Blk W3 w.heap.size 29 #[G, .slice A2 C.lo.length c2, .slice (some ad) C.pr.length c, J] := by
    rw [← hW]
    exact ((Blk.new w 29 #[G, .slice A2 C.lo.length c2, .slice (some ad) C.pr.length c, J]).alloc _).drew
  have b3 : Below w.heap.size w W3 := by rw [← hW]; (repeat' (first | (with_reducible exact Below.refl _ _) | (refine Below.trans ?_ (Below.mono (by with_reducible assumption) ?_)) | (with_reducible exact Below.refl _ _) | (with_reducible refine below_drewN ?_ _) | (with_reducible refine Below.drew ?_) | (with_reducible refine Below.setCell ?_ ?_ _) | (with_reducible refine Below.alloc ?_ ?_ _) | (with_reducible assumption) | (simp; done) | (simp; omega) | omega))
  have c1 := HBc.cell 1
  have f5 := HB3.frozen 5
  have c4 := HB3.cell 4
  have c5 := HB3.cell 5
  simp only [List.getElem?_toArray, List.getElem?_cons_succ, List.getElem?_cons_zero] at c1 c4 c5
  have z3 := HB3.lt
  have zc := HBc.lt
  have H3 := Lib.hid HB3
  have B3 := Lib.hid b3
  clear hW HB3 HBc b3 hqb hcell hq hkd d0 hc1 hc2 hf1 hf2
  by_cases hlo : k < C.lo.length
  case' pos =>
    have hld : decide (k < C.lo.length) = true := by simpa using hlo
    obtain ⟨ad2, q2, v2, rfl, hq2, hb2, hv2, hcell2⟩ := vals_at HQ.out hlo
    rw [List.getElem?_map, List.getElem?_eq_getElem hlo] at hv2
    injection hv2 with hv2
    have hlok := HH.out.ll _ (List.getElem_mem hlo)
    have hloc : locV C k = C.lo[k] := by unfold locV; rw [List.getElem?_eq_getElem hlo]; rfl
    rw [← hloc] at hlok hv2
    have cq := (Below.cell B3.out (p := q2) (by omega)).trans hcell2
    have zq : q2.block < W3.heap.size := by have := B3.out.size; omega
    obtain ⟨A4, c4', e4, _, _, _, _⟩ := hlok
    have HLO := Lib.hid (show varsOk w B (locV C k) from ⟨A4, c4', e4, by assumption, by assumption, by assumption, by assumption⟩)
    dsimp only [Option.map_some] at hv2
    rw [e4] at hv2
    subst hv2
    have HV := Lib.hid e4
    clear e4 hcell2 hloc hb2
    go_wp2
    generalize hW : (World.setCell _ _ _ : World) = W4
    have HS4 : ∃ LL PP, Hid (St W4 B w.heap.size (w.heap.size + 1) C G LL PP J (.slice A3 rx.length c3, rx) (locV C k) (.slice none 0 0) (.slice none 0 0) ([], [])) := ⟨_, _, Lib.hid (by
      rw [← hW]
      refine st_new HH.out hB HRO.out HLO.out (B3.out.setCell (by show w.heap.size ≤ w.heap.size + 1; omega) _) ?_ (by omega)
      have := H3.out.set_ 5 (locV C k).1
      rw [HV.out] at this ⊢
      simpa using this)⟩
    have HB4 : Hid (Below w.heap.size w W4) := Lib.hid (by rw [← hW]; exact B3.out.setCell (by show w.heap.size ≤ w.heap.size + 1; omega) _)
    clear hW
  case' neg =>
    have hld : decide (k < C.lo.length) = false := by simpa using hlo
    have hloc : locV C k = (.slice none 0 0, []) := by unfold locV; rw [List.getElem?_eq_none (by omega)]; rfl
    obtain ⟨W4, hW4⟩ : ∃ W4, W4 = W3 := ⟨_, rfl⟩
    subst hW4
    go_wp2
    have HS4 : ∃ LL PP, Hid (St W4 B w.heap.size (w.heap.size + 1) C G LL PP J (.slice A3 rx.length c3, rx) (locV C k) (.slice none 0 0) (.slice none 0 0) ([], [])) := ⟨_, _, Lib.hid (by
      rw [hloc]
      exact st_new HH.out hB HRO.out Sl.nil B3.out H3.out (by omega))⟩
    have HB4 := B3
  all_goals
    obtain ⟨LL, PP, HS4⟩ := HS4
    obtain ⟨i2, hi2, hy0, hy1, hy2⟩ := info_parts info_height
    clear c1 c4 c5 f5 hld H3 HQ
    go_loopw [47] (fun i wr => ∃ (j : Nat) (vs : Value), i = .int .i64 (j : Int) ∧ j ≤ rx.length ∧ Hid (St wr B w.heap.size (w.heap.size + 1) C G LL PP J (.slice A3 rx.length c3, rx) (locV C k) vs (.slice none 0 0) (List.replicate j (-1, -1), [])) ∧ Hid (Below w.heap.size w wr)) (fun i _ => rx.length - (intOf i).toNat)
    case atStart => exact ⟨0, _, rfl, Nat.zero_le _, HS4, HB4⟩
    case round =>
      obtain ⟨j, vs, rfl, hj, HS, HB⟩ := hrel
      have c6 := HS.out.blk.cell 6
      have f6 := HS.out.blk.frozen 6
      simp only [List.getElem?_toArray, List.getElem?_cons_succ, List.getElem?_cons_zero] at c6
      have hgr := HS.out.blk.lt
      by_cases hlt : j < rx.length
      · obtain ⟨Av, cv, hvs, hcv1, hcv2⟩ := own_slice HS.out.sn
        subst hvs
        dsimp only at *
        go_wp2_with (at_builtin; (with_reducible refine wpList_append_any _ rfl (.tmp 53) (.tmp 55) 47 rfl w.heap.size 51 i2 (.agg #[.int .i64 0, .int .i64 0]) 2 16 Try.underlying47 hi2 hy0 hy1 hy2 rfl (by decide) (.slice Av (List.replicate j ((-1, -1) : Int × Int)).length cv) (List.replicate j ((-1, -1) : Int × Int)).length _ (by simp [Act.eval, Act.put]) (ownsRow_below HS.out.sn (by (repeat' (first | (with_reducible exact Below.refl _ _) | (refine Below.trans ?_ (Below.mono (by with_reducible assumption) ?_)) | (with_reducible exact Below.refl _ _) | (with_reducible refine below_drewN ?_ _) | (with_reducible refine Below.drew ?_) | (with_reducible refine Below.setCell ?_ ?_ _) | (with_reducible refine Below.alloc ?_ ?_ _) | (with_reducible assumption) | (simp; done) | (simp; omega) | omega)))) _ (some ⟨wr.heap.size, 0, none⟩) 1 1 [.int .i64 (-1), .int .i64 (-1)] (by simp [Act.eval, Act.put]) (reads_new rfl (by simp)) (by simp [Value.oneCell']) (by simp; unfold maxLen; omega) (by simp; omega) (by simp; omega) ?_); intro v9 w9 hown9 hg9 _; have HF := Lib.hid (HS.out.seen (x := (-1, -1)) (by (repeat' (first | (with_reducible exact Below.refl _ _) | (refine Below.trans ?_ (Below.mono (by with_reducible assumption) ?_)) | (with_reducible exact Below.refl _ _) | (with_reducible refine below_drewN ?_ _) | (with_reducible refine Below.drew ?_) | (with_reducible refine Below.setCell ?_ ?_ _) | (with_reducible refine Below.alloc ?_ ?_ _) | (with_reducible assumption) | (simp; done) | (simp; omega) | omega))) hown9 hg9); obtain ⟨c69, f69, z9⟩ := HS.out.seen_blk (by (repeat' (first | (with_reducible exact Below.refl _ _) | (refine Below.trans ?_ (Below.mono (by with_reducible assumption) ?_)) | (with_reducible exact Below.refl _ _) | (with_reducible refine below_drewN ?_ _) | (with_reducible refine Below.drew ?_) | (with_reducible refine Below.setCell ?_ ?_ _) | (with_reducible refine Below.alloc ?_ ?_ _) | (with_reducible assumption) | (simp; done) | (simp; omega) | omega))) hg9; have HB9 := Lib.hid (HB.out.trans ((show Below w.heap.size wr _ from by (repeat' (first | (with_reducible exact Below.refl _ _) | (refine Below.trans ?_ (Below.mono (by with_reducible assumption) ?_)) | (with_reducible exact Below.refl _ _) | (with_reducible refine below_drewN ?_ _) | (with_reducible refine Below.drew ?_) | (with_reducible refine Below.setCell ?_ ?_ _) | (with_reducible refine Below.alloc ?_ ?_ _) | (with_reducible assumption) | (simp; done) | (simp; omega) | omega))).trans HF.out.2)); obtain ⟨A9, n9, hv9, _, _⟩ := own_slice hown9; subst hv9; clear hown9 hg9)
        go_roundw
        case rel =>
          have hB9 := HB9.out
          rw [List.length_replicate] at hB9
          refine ⟨j + 1, .slice A9 (j + 1) n9, by go_num, by omega, Lib.hid ?_, Lib.hid hB9⟩
          have h := HF.out.1
          rw [show List.replicate j ((-1, -1) : Int × Int) ++ [(-1, -1)] = List.replicate (j + 1) (-1, -1) from List.replicate_succ'.symm] at h
          simpa using h
        case measure => simp [intOf]; omega
      · obtain rfl : j = rx.length := by omega
        have hmap : List.replicate rx.length ((-1, -1) : Int × Int) = rx.map (fun _ => (-1, -1)) := (List.map_const' ..).symm
        rw [hmap] at HS
        clear hmap c6 f6
        cases res with
        | none =>
          go_wp2_with (go_at_call 10; (with_reducible refine (all_any (HS.out.below (by repeat' (first | (with_reducible exact Below.refl _ _) | (with_reducible assumption) | (with_reducible refine Below.drew ?_) | (with_reducible refine below_drewN ?_ _) | (with_reducible refine Below.alloc ?_ ?_ _) | (with_reducible exact Nat.le_refl _) | (simp; done) | (simp; omega)))) hlen none HR.out).mono ?_); rintro e w5 ⟨b5, rfl⟩)
          (try simp only [Exit.inBlock, Exit.then]); refine bodyPost_ret (by simp [results, Try.results8, go_sem, *]; try rfl) rfl ?_
          exact ⟨(HB.out.trans (Below.mono (by (repeat' (first | (with_reducible exact Below.refl _ _) | (refine Below.trans ?_ (Below.mono (by with_reducible assumption) ?_)) | (with_reducible exact Below.refl _ _) | (with_reducible refine below_drewN ?_ _) | (with_reducible refine Below.drew ?_) | (with_reducible refine Below.setCell ?_ ?_ _) | (with_reducible refine Below.alloc ?_ ?_ _) | (with_reducible assumption) | (simp; done) | (simp; omega) | omega))) HS.out.B0)).trans b5, rfl⟩
        | some l =>
          go_wp2_with (go_at_call 10; (with_reducible refine (all_any (HS.out.below (by repeat' (first | (with_reducible exact Below.refl _ _) | (with_reducible assumption) | (with_reducible refine Below.drew ?_) | (with_reducible refine below_drewN ?_ _) | (with_reducible refine Below.alloc ?_ ?_ _) | (with_reducible exact Nat.le_refl _) | (simp; done) | (simp; omega)))) hlen (some l) HR.out).mono ?_); rintro e w5 ⟨b5, rfl, vs5, vt5, hs5⟩; have HS5 := Lib.hid hs5; have HB5 := Lib.hid ((HB.out.trans (Below.mono (show Below wr.heap.size wr _ from by (repeat' (first | (with_reducible exact Below.refl _ _) | (refine Below.trans ?_ (Below.mono (by with_reducible assumption) ?_)) | (with_reducible exact Below.refl _ _) | (with_reducible refine below_drewN ?_ _) | (with_reducible refine Below.drew ?_) | (with_reducible refine Below.setCell ?_ ?_ _) | (with_reducible refine Below.alloc ?_ ?_ _) | (with_reducible assumption) | (simp; done) | (simp; omega) | omega))) HS.out.B0)).trans b5); clear b5; have c65 := hs5.blk.cell 6; simp only [List.getElem?_toArray, List.getElem?_cons_succ, List.getElem?_cons_zero] at c65; have z5 := hs5.blk.lt; obtain ⟨A5, n5, hv5, hn5, hm5⟩ := own_slice hs5.sn; subst hv5; clear hs5; try dsimp only at c65 hn5; have hl6 : l.length < 1000000 := (by have : l.length = rx.length := goOn_len HR.out; omega); obtain ⟨w6, hrun6, hown6, hg6⟩ := make_ints w5 l.length (by omega); have HO6 := Lib.hid hown6; have HB6 := Lib.hid (show Below w5.heap.size w5 w6 from (Below.refl _ _).grown hg6 (Nat.le_refl _) (fun k hk => by cases hk)); have z6 := hg6.size; have c66 := (Below.cell HB6.out (p := ⟨w.heap.size + 1, 6, none⟩) z5).trans c65; clear hown6 hg6)
          obtain ⟨i0, hi, hz0, hz1, hz2⟩ := info_parts info_int
          unfold maxLen at hm5
          clear hrun6 c65 c66
          go_loopw [7, 74] (fun v i wr => ∃ j : Nat, i = .int .i64 (j : Int) ∧ j ≤ l.length ∧ Hid (wr.ownsRow w5.heap.size 3 1 v j ((l.take j).map fun h => iv64 h.1)) ∧ Hid (Below w5.heap.size w5 wr)) (fun _ i _ => l.length - (intOf i).toNat)
          case atStart => exact ⟨0, rfl, Nat.zero_le _, HO6, HB6⟩
          case round =>
            obtain ⟨j, rfl, hj, HO, HBr⟩ := hrel
            by_cases hlt : j < l.length
            · obtain ⟨ad5, cap, sb, qo, u0, u1, ev, _, _, hq5, _, _, hqz5, h0, h1, s0, s1, _, _, _, _⟩ := ownsRow_two (ownsRow_below HS5.out.sn HBr.out) hlt rfl
              obtain ⟨rfl, rfl⟩ := sh_at hlt h0 h1
              injection ev with ev1 ev2 ev3
              subst ev1 ev3
              obtain ⟨Av, cv, hvs, hcv1, hcv2⟩ := own_slice HO.out
              subst hvs
              generalize hlj : l[j] = lj at s0 s1
              have HLJ := Lib.hid hlj
              clear hlj h0 h1 ev2
              go_wp2_with (at_builtin; (with_reducible refine wpList_append_any _ rfl (.tmp 78) (.tmp 81) 35 rfl w5.heap.size 3 i0 (.int .i64 0) 1 8 Try.underlying35 hi hz0 hz1 hz2 rfl (by decide) (.slice Av j cv) j _ (by simp [Act.eval, Act.put]) (ownsRow_below HO.out (by (repeat' (first | (with_reducible exact Below.refl _ _) | (refine Below.trans ?_ (Below.mono (by with_reducible assumption) ?_)) | (with_reducible exact Below.refl _ _) | (with_reducible refine below_drewN ?_ _) | (with_reducible refine Below.drew ?_) | (with_reducible refine Below.setCell ?_ ?_ _) | (with_reducible refine Below.alloc ?_ ?_ _) | (with_reducible assumption) | (simp; done) | (simp; omega) | omega)))) _ (some ⟨wr.heap.size + 1, 0, none⟩) 1 1 [.int .i64 lj.1] (by simp [Act.eval, Act.put]) (reads_new rfl (by simp)) (by simp [Value.oneCell']) (by unfold maxLen; omega) (by omega) (by have := HBr.out.size; simp; omega) ?_); intro v9 w9 hown9 hg9 _; have HB9 := Lib.hid (show Below w5.heap.size w5 w9 from (HBr.out.trans (Below.mono (show Below wr.heap.size wr _ from by (repeat' (first | (with_reducible exact Below.refl _ _) | (refine Below.trans ?_ (Below.mono (by with_reducible assumption) ?_)) | (with_reducible exact Below.refl _ _) | (with_reducible refine below_drewN ?_ _) | (with_reducible refine Below.drew ?_) | (with_reducible refine Below.setCell ?_ ?_ _) | (with_reducible refine Below.alloc ?_ ?_ _) | (with_reducible assumption) | (simp; done) | (simp; omega) | omega))) HBr.out.size)).grown hg9 (by have := HBr.out.size; simp; omega) (fun k hk => (World.ownsRow.lt HO.out k hk).1)); have HO9 := Lib.hid hown9; obtain ⟨A9, n9, hv9, _, _⟩ := own_slice hown9; subst hv9; clear hown9 hg9)
              go_roundw
              case rel =>
                refine ⟨j + 1, by go_num, by omega, Lib.hid ?_, HB9⟩
                have h := HO9.out
                have e : (l.take (j + 1)).map (fun h => iv64 h.1) = (l.take j).map (fun h => iv64 h.1) ++ [.int .i64 lj.1] := by
                  rw [List.take_add_one, List.getElem?_eq_getElem hlt, HLJ.out, List.map_append]; rfl
                rw [e]
                exact h
              case measure => simp [intOf]; omega
            · obtain rfl : j = l.length := by omega
              obtain ⟨Av, cv, hvs, hcv1, hcv2⟩ := own_slice HO.out
              subst hvs
              go_wp2
              (try simp only [Exit.inBlock, Exit.then]); refine bodyPost_ret (by simp [results, Try.results8, go_sem, *]; try rfl) rfl ?_
              have hO := HO.out
              rw [List.take_length] at hO
              refine ⟨HB5.out.trans (HBr.out.mono (Nat.le_of_lt (by omega))), Av, cv, by simp, by simpa using hcv1, ?_⟩
              have := Reads.of_own hO
              simpa [List.map_map, Function.comp_def] using this
end Go.Proofs.Ytanbplnagcmlcaa
