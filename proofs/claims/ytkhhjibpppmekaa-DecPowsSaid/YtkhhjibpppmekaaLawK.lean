/- The arithmetic of layer 1 and the reference's side by side: what each answers, and that fieldfarelaw01.held holds of the two answers. -/
import Derived.Test.YtkhhjibpppmekaaLawI
import Derived.Test.YtkhhjibpppmekaaRefS
namespace Go.Proofs.Ytkhhjibpppmekaa
open Go.RowKit
theorem held_gen {z : Int} {rn : Bool} {rh rl : Int} {er : Value} (hz : OkV z rn rh rl er) {A : Option Addr} {c : Nat} (w0 w : World) (h : DS1 w0 A c (heldZ z).natAbs) (q : Below w0.heap.size w0 w) :
    Calls Try.prog 19 #[.agg #[.bool rn, .int .u64 rh, .int .u64 rl], er, .agg #[.bool (zn (heldZ z)), .slice A (dg (heldZ z).natAbs).length c], .int .i64 (heldC z)] w fun e w' => e = .returned (.bool true) ∧ Below w.heap.size w w' := by
  rcases hz with ⟨rfl, i⟩ | ⟨rfl, rfl, rfl, rfl, hl⟩
  · have h1 : heldZ z = z := by unfold heldZ; rw [if_pos i.2.2.2.2]
    have h2 : heldC z = 0 := by unfold heldC; rw [if_pos i.2.2.2.2]
    rw [h1] at h
    rw [h1, h2]
    have := heldl_ok i w0 w h q
    rw [i.eq.1] at this ⊢
    exact this
  · have h2 : heldC z = 2 := by unfold heldC; rw [if_neg (by omega)]
    rw [h2]
    exact heldl_err 2 (by decide) (by decide) _ _ _ _ w
/-- What is told of digits stays as memory grows and boxes are written. -/
def Stays (G : World → Option Addr → Nat → Prop) : Prop :=
  (∀ w w' A c, G w A c → Below w.heap.size w w' → G w' A c) ∧ (∀ w A c g n A' l' c' n' u, G w A c → BoxN w g n (.slice A' l' c') → G ((w.setCell ⟨g, 0, none⟩ (.bool n')).setCell ⟨g, 1, none⟩ u) A c)
theorem stays_ds (K : Nat) : Stays (fun w A c => DS1 w A c K) := ⟨fun _ _ _ _ h q => h.below q, fun _ _ _ _ _ _ _ _ _ _ h b => h.box b⟩
theorem stays_true : Stays (fun _ _ _ => True) := ⟨fun _ _ _ _ _ _ => trivial, fun _ _ _ _ _ _ _ _ _ _ _ _ => trivial⟩
/-- What 'v, h := G(x, F(y))' leaves. -/
def TwoN (W : World) (s : Bool) (l : Nat) (C : Int) (G : World → Option Addr → Nat → Prop) (q f : Value) (wx : World) : Prop :=
  ∃ (g : Nat) (A : Option Addr) (c : Nat), q = .pointer (some ⟨g, 0, none⟩) ∧ f = .int .i64 C ∧ BoxN wx g s (.slice A l c) ∧ G wx A c ∧ Below W.heap.size W wx
theorem twoN_set {W X : World} {s : Bool} {l : Nat} {C : Int} {G : World → Option Addr → Nat → Prop} {g : Nat} {A : Option Addr} {c : Nat} (hs : Stays G) (b : BoxN X g false (.slice none 0 0)) (h : G X A c) (q : Below W.heap.size W X) (hg : W.heap.size ≤ g) :
    TwoN W s l C G (.pointer (some ⟨g, 0, none⟩)) (.int .i64 C) ((X.setCell ⟨g, 0, none⟩ (.bool s)).setCell ⟨g, 1, none⟩ (.slice A l c)) :=
  ⟨g, A, c, rfl, rfl, b.set2, hs.2 _ _ _ _ _ _ _ _ _ _ h b, (q.setCell hg _).setCell hg _⟩
theorem twoN_new {W X : World} {s : Bool} {l : Nat} {C : Int} {G : World → Option Addr → Nat → Prop} {A : Option Addr} {c : Nat} (hs : Stays G) (h : G X A c) (q : Below W.heap.size W X) :
    TwoN W s l C G (.pointer (some ⟨X.heap.size, 0, none⟩)) (.int .i64 C) (X.alloc (.cells #[.bool s, .slice A l c] 34)) :=
  ⟨X.heap.size, A, c, rfl, rfl, BoxN.make _ _ _ rfl, hs.1 _ _ _ _ h ((Below.refl _ _).alloc (Nat.le_refl _) _), q.alloc q.size _⟩
/-- dec's function f and the reference's g answer alike. -/
def Pair (f g : FuncId) (n m n' m' : Bool) (ha la hb lb za zb : Int) : Prop :=
  ∃ (rn : Bool) (rh rl : Int) (er : Value) (s : Bool) (l : Nat) (C : Int) (G : World → Option Addr → Nat → Prop),
    (∀ W, Calls Try.prog f #[.agg #[.bool n, .int .u64 ha, .int .u64 la], .agg #[.bool m, .int .u64 hb, .int .u64 lb]] W fun e w' => e = .returned (.tuple #[.agg #[.bool rn, .int .u64 rh, .int .u64 rl], er]) ∧ Below W.heap.size W w') ∧
    (∀ A A' c c' W1 W, DS1 W1 A c za.natAbs → DS1 W1 A' c' zb.natAbs → Below W1.heap.size W1 W → Calls Try.prog g #[.agg #[.bool n', .slice A (dg za.natAbs).length c], .agg #[.bool m', .slice A' (dg zb.natAbs).length c']] W fun e w' => (∃ A2 c2, e = .returned (.tuple #[.agg #[.bool s, .slice A2 l c2], .int .i64 C]) ∧ G w' A2 c2) ∧ Below W.heap.size W w') ∧
    (∀ A2 c2 W1 W, G W1 A2 c2 → Below W1.heap.size W1 W → Calls Try.prog 19 #[.agg #[.bool rn, .int .u64 rh, .int .u64 rl], er, .agg #[.bool s, .slice A2 l c2], .int .i64 C] W fun e w' => e = .returned (.bool true) ∧ Below W.heap.size W w') ∧
    Stays G
theorem mul_pair {n m : Bool} {ha la hb lb za zb : Int} (ia : IsD n ha la za) (ib : IsD m hb lb zb) : Pair 51 55 n m n m ha la hb lb za zb := by
  obtain ⟨rn, rh, rl, er, h1, h2⟩ := mul_gen ia ib
  exact ⟨rn, rh, rl, er, _, _, _, fun w A c => DS1 w A c (heldZ (mulZ za zb)).natAbs, h1,
    fun A A' c c' W1 W d d' q => rmul_d ia.2.2.2.1 ib.2.2.2.1 W1 W d d' (len36 ia.2.2.2.2) (len36 ib.2.2.2.2) q,
    fun A2 c2 W1 W d q => held_gen h2 W1 W d q, stays_ds _⟩
theorem div_pair {n m : Bool} {ha la hb lb za zb : Int} (ia : IsD n ha la za) (ib : IsD m hb lb zb) : Pair 45 56 n m n m ha la hb lb za zb := by
  by_cases hz : zb = 0
  · subst hz
    have e := ib.eq
    have e1 : m = false := e.1.trans (by decide)
    have e2 : hb = 0 := e.2.1.trans (by decide)
    have e3 : lb = 0 := e.2.2.trans (by decide)
    subst e1 e2 e3
    refine ⟨_, _, _, _, false, 0, 3, fun _ _ _ => True, fun W => div_zero n ha la (good_of ia) W, fun A A' c c' W1 W d d' q => ?_, fun A2 c2 W1 W _ _ => heldl_err 3 (by decide) (by decide) _ _ _ _ W, stays_true⟩
    exact (rdiv_zero n false A A' _ c c' W).mono fun e w' ⟨he, hb⟩ => ⟨⟨none, 0, he, trivial⟩, hb⟩
  · obtain ⟨rn, rh, rl, er, h1, h2⟩ := div_gen ia ib hz
    exact ⟨rn, rh, rl, er, _, _, _, fun w A c => DS1 w A c (heldZ (divZ za zb)).natAbs, h1,
      fun A A' c c' W1 W d d' q => rdiv_d ia.2.2.2.1 ib.2.2.2.1 hz W1 W d d' (len36 ia.2.2.2.2) (len36 ib.2.2.2.2) q,
      fun A2 c2 W1 W d q => held_gen h2 W1 W d q, stays_ds _⟩
end Go.Proofs.Ytkhhjibpppmekaa
