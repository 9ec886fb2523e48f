/- The power of layer 1 and the reference's side by side. -/
import Derived.Test.YtkhhjibpppmekaaLawK
import Derived.Test.YtkhhjibpppmekaaRefT
namespace Go.Proofs.Ytkhhjibpppmekaa
open Go.RowKit
theorem powS_lim {a : Int} : ∀ {k : Nat} {p : Int}, powS a k = some p → ((p.natAbs : Nat) : Int) < LIM
  | 0, p, h => by
    obtain rfl : (1000000 : Int) = p := by simpa [powS] using h
    decide
  | k + 1, p, h => by
    simp only [powS] at h
    cases hk : powS a k with
    | none => rw [hk] at h; cases h
    | some q =>
      rw [hk] at h
      simp only at h
      by_cases hl : (((mulZ q a).natAbs : Nat) : Int) < LIM
      · rw [if_pos hl] at h
        obtain rfl : mulZ q a = p := by simpa using h
        exact hl
      · rw [if_neg hl] at h; cases h
theorem pair_err {n m : Bool} {ha la hb lb za zb q : Int} (k : Int) (h1 : 1 ≤ k) (h2 : k ≤ 25)
    (hd : ∀ W, Calls Try.prog 14 #[.agg #[.bool n, .int .u64 ha, .int .u64 la], .agg #[.bool m, .int .u64 hb, .int .u64 lb]] W fun e w' => e = .returned (.tuple #[.agg #[.bool false, .int .u64 0, .int .u64 0], .iface 83 (.int .i64 k)]) ∧ Below W.heap.size W w')
    (hr : ∀ A A' c c' W1 W, DS1 W1 A c za.natAbs → DS1 W1 A' c' zb.natAbs → Below W1.heap.size W1 W → Calls Try.prog 17 #[.agg #[.bool n, .slice A (dg za.natAbs).length c], .agg #[.bool m, .slice A' (dg zb.natAbs).length c']] W fun e w' => PowE q k w' e ∧ Below W.heap.size W w') :
    Pair 14 17 n m n m ha la hb lb za zb :=
  ⟨false, 0, 0, .iface 83 (.int .i64 k), zn q, (dg q.natAbs).length, k, fun w A c => DS1 w A c q.natAbs, hd, fun A A' c c' W1 W d d' b => (hr A A' c c' W1 W d d' b).mono fun e w' h => h,
    fun A2 c2 W1 W _ _ => heldl_err k h1 h2 _ _ _ _ W, stays_ds _⟩
theorem pair_ok {n m : Bool} {ha la hb lb za zb z : Int} (hl : ((z.natAbs : Nat) : Int) < LIM)
    (hd : ∀ W, Calls Try.prog 14 #[.agg #[.bool n, .int .u64 ha, .int .u64 la], .agg #[.bool m, .int .u64 hb, .int .u64 lb]] W fun e w' => e = .returned (.tuple #[.agg #[.bool (zn (z)), .int .u64 (zh (z)), .int .u64 (zl (z))], .nilIface]) ∧ Below W.heap.size W w')
    (hr : ∀ A A' c c' W1 W, DS1 W1 A c za.natAbs → DS1 W1 A' c' zb.natAbs → Below W1.heap.size W1 W → Calls Try.prog 17 #[.agg #[.bool n, .slice A (dg za.natAbs).length c], .agg #[.bool m, .slice A' (dg zb.natAbs).length c']] W fun e w' => PowE z 0 w' e ∧ Below W.heap.size W w') :
    Pair 14 17 n m n m ha la hb lb za zb :=
  ⟨zn z, zh z, zl z, .nilIface, zn z, (dg z.natAbs).length, 0, fun w A c => DS1 w A c z.natAbs, hd, fun A A' c c' W1 W d d' b => (hr A A' c c' W1 W d d' b).mono fun e w' h => h,
    fun A2 c2 W1 W d q => heldl_ok (IsD.of hl) W1 W d q, stays_ds _⟩
theorem pow_pair {n m : Bool} {ha la hb lb za zb : Int} (ia : IsD n ha la za) (ib : IsD m hb lb zb) : Pair 14 17 n m n m ha la hb lb za zb := by
  have hla := len36 ia.2.2.2.2
  have hlb := len36 ib.2.2.2.2
  by_cases ht : truncZ zb = zb
  · by_cases hA : za ≠ 0 ∨ 0 ≤ zb
    · have D := fun W => pow_core n m ha la hb lb za zb ia ib ht hA W
      have R := fun A A' c c' W1 W (d : DS1 W1 A c za.natAbs) (d' : DS1 W1 A' c' zb.natAbs) b => rpow_core (n := n) (m := m) ia.2.2.2.1 ib.2.2.2.1 W1 W d d' hla hlb ht hA b
      unfold PowPost at D
      unfold PowQ at R
      by_cases hr : -1000 ≤ zb.tdiv 1000000 ∧ zb.tdiv 1000000 ≤ 1000
      · simp only [if_pos hr] at D R
        cases hp : powS za (zb.tdiv 1000000).natAbs with
        | none => simp only [hp] at D R; exact pair_err 2 (by decide) (by decide) D R
        | some p =>
          simp only [hp] at D R
          by_cases hz : zb < 0
          · simp only [if_pos hz] at D R
            by_cases hp0 : p = 0
            · simp only [if_pos hp0] at D R; exact pair_err 3 (by decide) (by decide) D R
            · simp only [if_neg hp0] at D R
              by_cases hq : (((divZ 1000000 p).natAbs : Nat) : Int) < LIM
              · rw [show heldZ (divZ 1000000 p) = divZ 1000000 p by unfold heldZ; rw [if_pos hq], show heldC (divZ 1000000 p) = 0 by unfold heldC; rw [if_pos hq]] at R
                simp only [if_pos hq] at D
                exact pair_ok hq D R
              · rw [show heldC (divZ 1000000 p) = 2 by unfold heldC; rw [if_neg hq]] at R
                simp only [if_neg hq] at D
                exact pair_err 2 (by decide) (by decide) D R
          · simp only [if_neg hz] at D R
            exact pair_ok (powS_lim hp) D R
      · simp only [if_neg hr] at D R; exact pair_err 2 (by decide) (by decide) D R
    · have hz0 : za = 0 := by omega
      have hz1 : zb < 0 := by omega
      subst hz0
      obtain ⟨rfl, rfl, rfl⟩ := ia.eq
      have hm : m = true := ib.2.2.2.1.trans (decide_eq_true hz1)
      subst hm
      refine pair_err (q := 0) 3 (by decide) (by decide) (fun W => pow_zero hb lb zb ib ht W) (fun A A' c c' W1 W _ d' b => ?_)
      exact rpow_zero (n := zn 0) (A := A) (c := c) ib.2.2.2.1 W1 W d' hlb ht b
  · refine pair_err (q := 0) 1 (by decide) (by decide) (fun W => pow_part n m ha la hb lb zb (good_of ia) ib ht W) (fun A A' c c' W1 W _ d' b => ?_)
    exact rpow_part ib.2.2.2.1 W1 W d' hlb ht b
end Go.Proofs.Ytkhhjibpppmekaa
