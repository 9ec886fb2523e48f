/-
  DERIVED. GIVEN WITH THE SEED: THE CARDS: each row of YtanbplnagcmlcaaDoorRows.lean that lists a variable, with what it lists TIED to the program's text (the seventh form; the later family's looks); each row that meets fmt, with fmt's text TOLD by the authors' own Lean function (tested against real Go, not proved from fmt's source: count such statements apart). THE CARD IS WHAT COUNTS. Prove the row's statement (the work); the ties are given (YtanbplnagcmlcaaDoorTie.lean); close each card by the builder's one call (the guide's Derived/Test/ToyasCard.lean, 'card_holds'). Laid BY PROGRAM, IN A SANDBOX (cutbox-door.mjs). By AI agents, Wed Nov 11 2026. No macro, syntax, notation, axiom, sorry.
-/
import Derived.Test.YtanbplnagcmlcaaDoorRows
import GoSem.ClaimSeven
namespace Go.Proofs.YtanbplnagcmlcaaDoor
namespace Rows

/-- THE TIED CARD OF 'fieldfarelaw24.ScriptNumbers'. -/
def scriptNumbersCard : Claim7 := { stood := { row := scriptNumbersRow, standIns := [], harness := (true, "b9ee34afcca2b2be671ffced5ae4ac840452676153445592933ef84c494a34e9"), looks := true }, kinds := [], alts := [], laidByText := true, laidKinds := [.data, .data, .data], laidTests := true, laidLooks := .later }
def ScriptNumbersCardSaid : Prop := Claim7.holds Tryd.pinned (.plain (OpenSpec.ofChange scriptNumbersSpec)) scriptNumbersCard

/-- THE TIED CARD OF 'fieldfarelaw24.ScriptBack'. -/
def scriptBackCard : Claim7 := { stood := { row := scriptBackRow, standIns := [], harness := (true, "b9ee34afcca2b2be671ffced5ae4ac840452676153445592933ef84c494a34e9"), looks := true }, kinds := [], alts := [], laidByText := true, laidKinds := [.data, .data, .data], laidTests := true, laidLooks := .later }
def ScriptBackCardSaid : Prop := Claim7.holds Tryd.pinned (.plain (OpenSpec.ofChange scriptBackSpec)) scriptBackCard

/-- THE TIED CARD OF 'fieldfarelaw24.ScriptQuiet'. -/
def scriptQuietCard : Claim7 := { stood := { row := scriptQuietRow, standIns := [], harness := (true, "b9ee34afcca2b2be671ffced5ae4ac840452676153445592933ef84c494a34e9"), looks := true }, kinds := [], alts := [], laidByText := true, laidKinds := [.data, .data, .data], laidTests := true, laidLooks := .later }
def ScriptQuietCardSaid : Prop := Claim7.holds Tryd.pinned (.plain (OpenSpec.ofChange scriptQuietSpec)) scriptQuietCard

/-- THE SECOND FORM's CARD OF 'fieldfarelaw24.ScriptNumbers'. -/
def scriptNumbersUptoCard : Claim7 := { stood := { row := scriptNumbersUptoRow, standIns := [], harness := (true, "b9ee34afcca2b2be671ffced5ae4ac840452676153445592933ef84c494a34e9"), looks := true }, kinds := [], alts := [], laidByText := true, laidKinds := [.data, .data, .data], laidTests := true, laidLooks := .later }
def ScriptNumbersUptoCardSaid : Prop := Claim7.holds Tryd.pinned (.plain (OpenSpec.upto scriptNumbersSpec)) scriptNumbersUptoCard

/-- THE SECOND FORM's CARD OF 'fieldfarelaw24.ScriptBack'. -/
def scriptBackUptoCard : Claim7 := { stood := { row := scriptBackUptoRow, standIns := [], harness := (true, "b9ee34afcca2b2be671ffced5ae4ac840452676153445592933ef84c494a34e9"), looks := true }, kinds := [], alts := [], laidByText := true, laidKinds := [.data, .data, .data], laidTests := true, laidLooks := .later }
def ScriptBackUptoCardSaid : Prop := Claim7.holds Tryd.pinned (.plain (OpenSpec.upto scriptBackSpec)) scriptBackUptoCard

/-- THE SECOND FORM's CARD OF 'fieldfarelaw24.ScriptQuiet'. -/
def scriptQuietUptoCard : Claim7 := { stood := { row := scriptQuietUptoRow, standIns := [], harness := (true, "b9ee34afcca2b2be671ffced5ae4ac840452676153445592933ef84c494a34e9"), looks := true }, kinds := [], alts := [], laidByText := true, laidKinds := [.data, .data, .data], laidTests := true, laidLooks := .later }
def ScriptQuietUptoCardSaid : Prop := Claim7.holds Tryd.pinned (.plain (OpenSpec.upto scriptQuietSpec)) scriptQuietUptoCard
end Rows
end Go.Proofs.YtanbplnagcmlcaaDoor
