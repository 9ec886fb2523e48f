/- fieldfarelaw02.NumeralReads: the walk. -/
import Derived.Test.YtdmifldjeiabdaaNumQ
namespace Go.Proofs.Ytdmifldjeiabdaa
open Go.RowKit
theorem bytes_str (A : Option Addr) (c : Nat) (bs : List Nat) (W : World) (B : Nat) (hr : RB W B A bs) (hA : A = none → bs = [] ∧ c = 0) :
    (convert 32 9 (.slice A bs.length c)).run Try.prog W = .ok (.string (strN bs)) W := by
  have e : strOfNums (bs.map Int.ofNat) = strN bs := by unfold strOfNums strN; rw [List.map_map]; rfl
  cases A with
  | none =>
    obtain ⟨rfl, rfl⟩ := hA rfl
    exact run_convert_bytes_nil (P := Try.prog) W 32 5 Try.underlying32 Try.underlying5 0 0 9 Try.underlying9
  | some ad =>
    have h := run_convert_bytes_string (P := Try.prog) W 32 9 5 (some ad) bs.length c Try.underlying32 Try.underlying5 Try.underlying9
    rw [h]
    have hl := run_loadCells_list (P := Try.prog) W ad ((bs.map Int.ofNat).map (Value.int .u8)) (fun j v hj => by
      have hj' : j < bs.length := by
        have := (List.getElem?_eq_some_iff.1 hj).1
        simpa using this
      obtain ⟨ad', ee, _, hcell⟩ := hr.2 (by omega)
      cases ee
      rw [hcell j hj']
      simp [List.getElem?_eq_getElem hj'] at hj
      rw [← hj])
    simp only [List.length_map] at hl
    rw [run_bytesToString W ad bs.length c _ hl, foldl_push_bytes, ← e]
    simp [strOfNums, ByteArray.empty, ByteArray.emptyWithCapacity]
    rfl
/-- Memory behind the two answers: their boxes, and the reference's digits. -/
structure RdW (w : World) (ga gg : Nat) (P : Bool) (X Y n : Nat) (E : Int) (M : Nat) (A : Option Addr) (c : Nat) (wr : World) : Prop where
  a0 : wr.cell? ⟨ga, 0, none⟩ = some (.bool P)
  a1 : wr.cell? ⟨ga, 1, none⟩ = some (.int .u64 (X : Int))
  a2 : wr.cell? ⟨ga, 2, none⟩ = some (.int .u64 (Y : Int))
  g0 : wr.cell? ⟨gg, 0, none⟩ = some (.bool P)
  g1 : wr.cell? ⟨gg, 1, none⟩ = some (.slice A (dg M).length c)
  g2 : wr.cell? ⟨gg, 2, none⟩ = some (.int .i64 (n : Int))
  g3 : wr.cell? ⟨gg, 3, none⟩ = some (.int .i64 E)
  ri : RI wr gg A (dg M)
  bel : Below w.heap.size w wr
  za : ga < wr.heap.size
  zg : gg < wr.heap.size
  zw : w.heap.size ≤ wr.heap.size
theorem RdW.below {w : World} {ga gg : Nat} {P : Bool} {X Y n : Nat} {E : Int} {M : Nat} {A : Option Addr} {c : Nat} {wr w2 : World} (h : RdW w ga gg P X Y n E M A c wr) (q : Below wr.heap.size wr w2) : RdW w ga gg P X Y n E M A c w2 := by
  have za := h.za; have zg := h.zg; have zw := h.zw
  have hs := q.size
  exact ⟨(q.cell za).trans h.a0, (q.cell za).trans h.a1, (q.cell za).trans h.a2, (q.cell zg).trans h.g0, (q.cell zg).trans h.g1, (q.cell zg).trans h.g2, (q.cell zg).trans h.g3,
    h.ri.below (q.mono (Nat.le_of_lt zg)), h.bel.trans (q.mono zw), by omega, by omega, by omega⟩
theorem RdW.drew {w : World} {ga gg : Nat} {P : Bool} {X Y n : Nat} {E : Int} {M : Nat} {A : Option Addr} {c : Nat} {wr : World} (h : RdW w ga gg P X Y n E M A c wr) : RdW w ga gg P X Y n E M A c wr.drew :=
  h.below (Below.refl _ _).drew
theorem RdW.drewN {w : World} {ga gg : Nat} {P : Bool} {X Y n : Nat} {E : Int} {M : Nat} {A : Option Addr} {c : Nat} {wr : World} (h : RdW w ga gg P X Y n E M A c wr) (k : Nat) : RdW w ga gg P X Y n E M A c (wr.drewN k) :=
  h.below (below_drewN (Below.refl _ _) k)
theorem RB.drewN {w : World} {B : Nat} {A : Option Addr} {bs : List Nat} (h : RB w B A bs) (n : Nat) : RB (w.drewN n) B A bs := h.keep fun _ _ => by simp
set_option maxRecDepth 100000 in
set_option maxHeartbeats 1600000 in
theorem reads_law (A : Option Addr) (c : Nat) (bs : List Nat) (w : World) (hr : RB w w.heap.size A bs) (hc : bs.length ≤ c) (hA : A = none → bs = [] ∧ c = 0) :
    Calls Try.prog 7 #[.slice A bs.length c] w fun e w' => e = .returned (.bool true) ∧ Below w.heap.size w w' := by
  by_cases h200 : 200 < bs.length
  · clear hr hA
    go_enter Try.func7, Try.ntmps7
    go_wp2_with (go_at_call 18; refine (awake2_any _).mono ?_; rintro e w1 ⟨rfl, b1⟩)
    go_ret
    exact ⟨rfl, by (repeat' (first | (with_reducible exact Below.refl _ _) | (refine Below.trans ?_ (Below.mono (by with_reducible assumption) ?_)) | (with_reducible exact Below.refl _ _) | (with_reducible refine below_drewN ?_ _) | (with_reducible refine Below.drew ?_) | (with_reducible refine Below.setCell ?_ ?_ _) | (with_reducible refine Below.alloc ?_ ?_ _) | (with_reducible assumption) | (simp; done) | (simp; omega) | omega))⟩
  · have hm : bs.length ≤ 140737488351232 := by omega
    have hbb := hr.1
    have HR := Lib.hid hr
    have HA := Lib.hid hA
    have PQ := Lib.hid (fun W B0 (hB : B0 ≤ W.heap.size) h => prefix_q A c bs W B0 hB h hc hm)
    have LK := Lib.hid (fun W B0 (hB : B0 ≤ W.heap.size) h => looks_any A c bs W B0 hB h hc hm)
    have RP := Lib.hid (fun W => rprefix_q bs W hbb (by omega))
    have RL := Lib.hid (fun W => rlooks_any bs W hbb (by omega))
    have GP := good_pq bs
    obtain ⟨P, hP⟩ : ∃ P, P = pP bs := ⟨_, rfl⟩
    obtain ⟨X, hX⟩ : ∃ X, X = pM bs / 18446744073709551616 := ⟨_, rfl⟩
    obtain ⟨Y, hY⟩ : ∃ Y, Y = pM bs % 18446744073709551616 := ⟨_, rfl⟩
    have e1 : mh (pM bs) = (X : Int) := by unfold mh; rw [hX]
    have e2 : ml (pM bs) = (Y : Int) := by unfold ml; rw [hY]
    have hMl := pM_lt bs
    have hM : pM bs = X * 18446744073709551616 + Y := by omega
    have OF := Lib.hid (fun W => of_any P X Y W (by omega) (by omega))
    obtain ⟨n, hn⟩ : ∃ n, n = nP bs := ⟨_, rfl⟩
    obtain ⟨o, ho⟩ : ∃ o, o = pOver bs := ⟨_, rfl⟩
    obtain ⟨L, hL⟩ : ∃ L, L = looksB bs := ⟨_, rfl⟩
    obtain ⟨M, hMM⟩ : ∃ M, M = pM bs := ⟨_, rfl⟩
    rw [e1, e2, ← hP, ← hn, ← ho] at PQ
    rw [← hP, ← hn, ← ho, ← hMM] at RP
    rw [← hL] at LK RL
    rw [← hMM] at hM hMl
    rw [← hM] at OF
    rw [e1, e2, ← hP] at GP
    have hDl : (dg M).length ≤ 1000000 := Nat.le_trans (dg_len_le (k := 36) (by omega)) (by decide)
    have HDL := Lib.hid hDl
    have gd := fun W => good_any P (X : Int) (Y : Int) W
    rw [GP] at gd
    have GD := Lib.hid gd
    have co := fun W => code_errV o W
    obtain ⟨E, hE⟩ : ∃ E : Int, E = if o then 2 else 0 := ⟨_, rfl⟩
    obtain ⟨V, hV⟩ : ∃ V, V = errV o := ⟨_, rfl⟩
    rw [← hE, ← hV] at co
    rw [← hV] at PQ
    rw [← hE] at RP
    have CO := Lib.hid co
    clear hE hV co
    clear hP hX hY e1 e2 hMl hM hn ho hL hMM hDl GP hr hA hbb gd
    go_enter Try.func7, Try.ntmps7
    go_upto_region 5 with (go_at_call 18; refine (awake2_any _).mono ?_; rintro e w1 ⟨rfl, b1⟩; have hs_b1 := Below.size b1; (try simp at hs_b1))
    have HR1 := Lib.hid (HR.out.below b1)
    go_upto_region 6 with (go_at_call 22; refine (PQ.out _ _ hs_b1 HR1.out).mono ?_; rintro e w2 ⟨rfl, b2⟩; have hs_b2 := Below.size b2; (try simp at hs_b2))
    have HB2 := Lib.hid (b1.trans (b2.mono hs_b1))
    have hw2 : w.heap.size ≤ w2.heap.size := by omega
    have hst := fun h => bytes_str A c bs (w2.alloc (.cells #[.bool P, .int .u64 (X : Int), .int .u64 (Y : Int)] 24)) w.heap.size h HA.out
    have hst := hst (HR.out.below (HB2.out.trans (by (repeat' (first | (with_reducible exact Below.refl _ _) | (refine Below.trans ?_ (Below.mono (by with_reducible assumption) ?_)) | (with_reducible exact Below.refl _ _) | (with_reducible refine below_drewN ?_ _) | (with_reducible refine Below.drew ?_) | (with_reducible refine Below.setCell ?_ ?_ _) | (with_reducible refine Below.alloc ?_ ?_ _) | (with_reducible assumption) | (simp; done) | (simp; omega) | omega)))))
    clear b1 b2
    go_upto_region 7 with (go_at_call 27; refine (RP.out _).mono ?_; rintro e w3 ⟨⟨A3, c3, rfl, hri, hc3⟩, b3⟩; have hs_b3 := Below.size b3; (try simp at hs_b3))
    have hrd : RdW w w2.heap.size w3.heap.size P X Y n E M A3 c3 (w3.alloc (.cells #[.bool P, .slice A3 (dg M).length c3, .int .i64 (n : Int), .int .i64 E] 45)) := by
      refine ⟨?_, ?_, ?_, ?_, ?_, ?_, ?_, ?_, ?_, ?_, ?_, ?_⟩
      · rw [World.cell?_alloc_lt _ _ _ (by simp; omega)]; exact (b3.cell (by simp)).trans (by simp)
      · rw [World.cell?_alloc_lt _ _ _ (by simp; omega)]; exact (b3.cell (by simp)).trans (by simp)
      · rw [World.cell?_alloc_lt _ _ _ (by simp; omega)]; exact (b3.cell (by simp)).trans (by simp)
      · simp
      · simp
      · simp
      · simp
      · exact hri.below ((Below.refl _ _).alloc (Nat.le_refl _) _)
      · exact (HB2.out.trans (Below.trans (by (repeat' (first | (with_reducible exact Below.refl _ _) | (refine Below.trans ?_ (Below.mono (by with_reducible assumption) ?_)) | (with_reducible exact Below.refl _ _) | (with_reducible refine below_drewN ?_ _) | (with_reducible refine Below.drew ?_) | (with_reducible refine Below.setCell ?_ ?_ _) | (with_reducible refine Below.alloc ?_ ?_ _) | (with_reducible assumption) | (simp; done) | (simp; omega) | omega))) (b3.mono (by simp; omega)))).alloc (by omega) _
      · simp; omega
      · simp
      · simp; omega
    have HRD := Lib.hid hrd
    have HRB := Lib.hid (fun W (h : Below w.heap.size w W) => HR.out.below h)
    have HST := Lib.hid (fun W h => bytes_str A c bs W w.heap.size h HA.out)
    clear hri b3 hst
    obtain ⟨ga, hga⟩ : ∃ ga, ga = w2.heap.size := ⟨_, rfl⟩
    rw [← hga] at HRD
    rw [← hga]
    obtain ⟨gg, hgg⟩ : ∃ gg, gg = w3.heap.size := ⟨_, rfl⟩
    rw [← hgg] at HRD
    rw [← hgg]
    obtain ⟨W, hW⟩ : ∃ W, W = w3.alloc (.cells #[.bool P, .slice A3 (dg M).length c3, .int .i64 (n : Int), .int .i64 E] 45) := ⟨_, rfl⟩
    rw [← hW] at HRD
    rw [← hW]
    clear hga hgg hW hw2 hrd hs_b1 hs_b2 hs_b3
    go_cut [39] (fun x wx => x = .bool false ∧ RdW w ga gg P X Y n E M A3 c3 wx)
    case first =>
      have k2 := HRD.out.g2; have k3 := HRD.out.g3; have zz := HRD.out.zw
      have ks := HST.out W (HRB.out _ HRD.out.bel)
      go_region_held3 (fun w' => w'.cell? ⟨gg, 2, none⟩ = some (.int .i64 (n : Int)) ∧ w'.cell? ⟨gg, 3, none⟩ = some (.int .i64 E) ∧ (convert 32 9 (.slice A bs.length c)).run Try.prog w' = .ok (.string (strN bs)) w')
        (refine ⟨?_, ?_, ?_⟩ <;> (first | assumption | (go_simp; done) | (simp (maxDischargeDepth := 12) [go_sem]; done) | exact HST.out _ (HRB.out _ HRD.out.bel.drew) | exact HST.out _ (HRB.out _ HR8.out.bel) | exact HST.out _ (HRB.out _ HR9.out.bel)))
        (first | (go_at_call 28; refine (CO.out _).mono ?_; rintro e w' ⟨rfl, rfl⟩)
               | (go_at_call 23; refine (LK.out _ w.heap.size (by simpa using zz) (by exact HRB.out _ HRD.out.bel.drew)).mono ?_; rintro e w8 ⟨rfl, b8⟩; have HR8 := Lib.hid (HRD.out.drew.below b8); have q2 := HR8.out.g2; have q3 := HR8.out.g3; have qs := HST.out w8 (HRB.out _ HR8.out.bel))
               | (go_at_call 29; refine (RL.out _).mono ?_; rintro e w9 ⟨rfl, b9⟩; have HR9 := Lib.hid (HR8.out.below b9); have p2 := HR9.out.g2; have p3 := HR9.out.g3; have ps := HST.out w9 (HRB.out _ HR9.out.bel)))
      go_wp2_with fail
      go_meet
      exact ⟨rfl, HR9.out⟩
    case rest =>
    obtain ⟨rfl, hrd⟩ := hcut
    have HRC := Lib.hid hrd
    have a0 := hrd.a0; have a1 := hrd.a1; have a2 := hrd.a2; have g0 := hrd.g0; have g1 := hrd.g1; have za := hrd.za; have zg := hrd.zg; have zw := hrd.zw
    have hsm := same_any P P
    have HSM := Lib.hid hsm
    clear hrd hsm HRD HST
    go_upto_region 9 with fail
    go_cut [2] (fun x wx => x = .bool true ∧ Below w.heap.size w wx)
    case first =>
      go_region_held3 (fun w' => w'.cell? ⟨ga, 0, none⟩ = some (.bool P) ∧ w'.cell? ⟨ga, 1, none⟩ = some (.int .u64 (X:Int)) ∧ w'.cell? ⟨ga, 2, none⟩ = some (.int .u64 (Y:Int)) ∧ w'.cell? ⟨gg, 0, none⟩ = some (.bool P) ∧ w'.cell? ⟨gg, 1, none⟩ = some (.slice A3 (dg M).length c3))
        (refine ⟨?_, ?_, ?_, ?_, ?_⟩ <;> (first | assumption | (go_simp; done) | (simp (maxDischargeDepth := 12) [go_sem]; done) | (simp (maxDischargeDepth := 12) [go_sem, *]; done)))
        (first | (go_at_call 21; refine (GD.out _).mono ?_; rintro e w1 ⟨rfl, rfl⟩)
               | (go_at_call 31; refine (OF.out _).mono ?_; rintro e w10 ⟨⟨v, rfl, ho⟩, b10⟩; obtain ⟨A4, c4, rfl, hc4, hri4, hn4⟩ := ho.slice; have HR10 := Lib.hid (RdW.below (by exact (HRC.out.below (by (repeat' (first | (with_reducible exact Below.refl _ _) | (refine Below.trans ?_ (Below.mono (by with_reducible assumption) ?_)) | (with_reducible exact Below.refl _ _) | (with_reducible refine below_drewN ?_ _) | (with_reducible refine Below.drew ?_) | (with_reducible refine Below.setCell ?_ ?_ _) | (with_reducible refine Below.alloc ?_ ?_ _) | (with_reducible assumption) | (simp; done) | (simp; omega) | omega))))) b10); have HI4 := Lib.hid hri4; clear hri4 ho hn4; have t0 := HR10.out.a0; have t1 := HR10.out.a1; have t2 := HR10.out.a2; have t3 := HR10.out.g0; have t4 := HR10.out.g1; have zz := HR10.out.zg; have zz2 := HR10.out.za)
               | (go_at_call 30; refine (HSM.out A4 A3 c4 c3 M M _ w10.heap.size (Nat.le_refl _) HI4.out (HR10.out.ri.more (Nat.le_of_lt HR10.out.zg)) HDL.out HDL.out).mono ?_; rintro e w11 ⟨rfl, b11⟩; have HR11 := Lib.hid (HR10.out.below b11); have s0 := HR11.out.a0; have s1 := HR11.out.a1; have s2 := HR11.out.a2; have s3 := HR11.out.g0; have s4 := HR11.out.g1))
      go_wp2_with fail
      go_meet
      exact ⟨by simp, HR11.out.bel⟩
    case rest =>
    obtain ⟨rfl, hB⟩ := hcut
    go_wp2
    go_ret
    exact ⟨rfl, hB⟩
end Go.Proofs.Ytdmifldjeiabdaa
