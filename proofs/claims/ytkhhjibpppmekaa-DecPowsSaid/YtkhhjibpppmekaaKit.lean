/- What all texts of this seat import: the walk's tactics and laws. -/
import Derived.Test.YtkhhjibpppmekaaProg
import Derived.WalkKit
import Derived.WalkSpells
import Derived.WalkLawsBesides
import Derived.BigQuiet
import Derived.Deep.QuietTactic
import Derived.StillTailTactics
import Derived.Deep.RegionHeld3
import Derived.Deep.RegionWith
import Derived.Deep.DeepCutAuto
import Derived.Deep.DeepFit
import Derived.Deep.CutBlock
import Derived.Deep.LoopGhost
import Derived.Lib.Hide
import Derived.Handy
import Derived.RowKit3
namespace Go.Proofs.Ytkhhjibpppmekaa
open Go.RowKit

theorem below_drewN {B : Nat} {a w : World} (h : Below B a w) (n : Nat) : Below B a (w.drewN n) := ⟨h.os, h.tape, h.output, h.size, h.block⟩
theorem bcell {W w1 : World} (hb : Below W.heap.size W w1) : (∀ b o, b < W.heap.size → w1.cell? ⟨b, o, none⟩ = W.cell? ⟨b, o, none⟩) ∧ (∀ b o, b < W.heap.size → w1.frozen? ⟨b, o, none⟩ = W.frozen? ⟨b, o, none⟩) :=
  ⟨fun b o h => hb.cell (p := ⟨b, o, none⟩) h, fun b o h => hb.frozen (p := ⟨b, o, none⟩) h⟩
/-- A word. -/
def Wd (x : Int) : Prop := 0 ≤ x ∧ x < 18446744073709551616
theorem Wd.zero : Wd 0 := ⟨by decide, by decide⟩
/-- A whole number of four limbs. -/
def lim4 (a b c d : Int) : Int := a + b * 18446744073709551616 + c * 340282366920938463463374607431768211456 + d * 6277101735386680763835789423207666416102355444464034512896
/-- No magnitude is this or more. -/
def LIM : Int := 1000000000000000000000000000000000000
/-- The sign and the words of a number of millionths. -/
def zn (z : Int) : Bool := decide (z < 0)
def zh (z : Int) : Int := (z.natAbs : Int) / 18446744073709551616
def zl (z : Int) : Int := (z.natAbs : Int) % 18446744073709551616
/-- A right number's sign and words, and what it is in millionths. -/
def IsD (n : Bool) (h l z : Int) : Prop := Wd h ∧ Wd l ∧ h * 18446744073709551616 + l = z.natAbs ∧ n = decide (z < 0) ∧ z.natAbs < LIM
theorem IsD.of {z : Int} (h : z.natAbs < LIM) : IsD (zn z) (zh z) (zl z) z := by
  unfold LIM at h
  refine ⟨⟨?_, ?_⟩, ⟨?_, ?_⟩, ?_, rfl, h⟩ <;> (try unfold zh) <;> (try unfold zl) <;> omega
theorem IsD.eq {n : Bool} {h l z : Int} (i : IsD n h l z) : n = zn z ∧ h = zh z ∧ l = zl z := by
  obtain ⟨⟨a, b⟩, ⟨c, d⟩, e, f, g⟩ := i
  refine ⟨f, ?_, ?_⟩
  · unfold zh; omega
  · unfold zl; omega
end Go.Proofs.Ytkhhjibpppmekaa
