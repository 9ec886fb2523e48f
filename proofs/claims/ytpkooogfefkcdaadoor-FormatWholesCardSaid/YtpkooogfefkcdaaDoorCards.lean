/-
  DERIVED. GIVEN WITH THE SEED: THE CARDS: each row of YtpkooogfefkcdaaDoorRows.lean that lists a variable, with what it lists TIED to the program's text (the seventh form; the later family's looks); each row that meets fmt, with fmt's text TOLD by the authors' own Lean function (tested against real Go, not proved from fmt's source: count such statements apart). THE CARD IS WHAT COUNTS. Prove the row's statement (the work); the ties are given (YtpkooogfefkcdaaDoorTie.lean); close each card by the builder's one call (the guide's Derived/Test/ToyasCard.lean, 'card_holds'). Laid BY PROGRAM, IN A SANDBOX (cutbox-door.mjs). By AI agents, Wed Nov 11 2026. No macro, syntax, notation, axiom, sorry.
-/
import Derived.Test.YtpkooogfefkcdaaDoorRows
import GoSem.ClaimSeven
namespace Go.Proofs.YtpkooogfefkcdaaDoor
namespace Rows

/-- THE TIED CARD OF 'fieldfarelaw08.FormatJoins'. -/
def formatJoinsCard : Claim7 := { stood := { row := formatJoinsRow, standIns := [], harness := (true, "fa405ca213bfe82d48de771d7064d8ec93d465ccf5cbdbb0266fde671006900e"), looks := false }, kinds := [], alts := [], laidByText := true, laidKinds := [.data, .data, .data, .data, .pinned, .pinned], laidTests := true, laidLooks := .later }
def FormatJoinsCardSaid : Prop := Claim7.holds Tryd.pinned (.plain (OpenSpec.ofChange formatJoinsSpec)) formatJoinsCard

/-- THE TIED CARD OF 'fieldfarelaw08.FormatWide'. -/
def formatWideCard : Claim7 := { stood := { row := formatWideRow, standIns := [], harness := (true, "fa405ca213bfe82d48de771d7064d8ec93d465ccf5cbdbb0266fde671006900e"), looks := false }, kinds := [], alts := [], laidByText := true, laidKinds := [.data, .data, .data, .data, .pinned, .pinned], laidTests := true, laidLooks := .later }
def FormatWideCardSaid : Prop := Claim7.holds Tryd.pinned (.plain (OpenSpec.ofChange formatWideSpec)) formatWideCard

/-- THE TIED CARD OF 'fieldfarelaw08.FormatWholes'. -/
def formatWholesCard : Claim7 := { stood := { row := formatWholesRow, standIns := [], harness := (true, "fa405ca213bfe82d48de771d7064d8ec93d465ccf5cbdbb0266fde671006900e"), looks := false }, kinds := [], alts := [], laidByText := true, laidKinds := [.data, .data, .data, .data, .pinned, .pinned], laidTests := true, laidLooks := .later }
def FormatWholesCardSaid : Prop := Claim7.holds Tryd.pinned (.plain (OpenSpec.ofChange formatWholesSpec)) formatWholesCard

/-- THE TIED CARD OF 'fieldfarelaw08.FormatFixed'. -/
def formatFixedCard : Claim7 := { stood := { row := formatFixedRow, standIns := [], harness := (true, "fa405ca213bfe82d48de771d7064d8ec93d465ccf5cbdbb0266fde671006900e"), looks := false }, kinds := [], alts := [], laidByText := true, laidKinds := [.data, .data, .data, .data, .pinned, .pinned], laidTests := true, laidLooks := .later }
def FormatFixedCardSaid : Prop := Claim7.holds Tryd.pinned (.plain (OpenSpec.ofChange formatFixedSpec)) formatFixedCard

/-- THE SECOND FORM's CARD OF 'fieldfarelaw08.FormatJoins'. -/
def formatJoinsUptoCard : Claim7 := { stood := { row := formatJoinsUptoRow, standIns := [], harness := (true, "fa405ca213bfe82d48de771d7064d8ec93d465ccf5cbdbb0266fde671006900e"), looks := false }, kinds := [], alts := [], laidByText := true, laidKinds := [.data, .data, .data, .data, .pinned, .pinned], laidTests := true, laidLooks := .later }
def FormatJoinsUptoCardSaid : Prop := Claim7.holds Tryd.pinned (.plain (OpenSpec.upto formatJoinsSpec)) formatJoinsUptoCard

/-- THE SECOND FORM's CARD OF 'fieldfarelaw08.FormatWide'. -/
def formatWideUptoCard : Claim7 := { stood := { row := formatWideUptoRow, standIns := [], harness := (true, "fa405ca213bfe82d48de771d7064d8ec93d465ccf5cbdbb0266fde671006900e"), looks := false }, kinds := [], alts := [], laidByText := true, laidKinds := [.data, .data, .data, .data, .pinned, .pinned], laidTests := true, laidLooks := .later }
def FormatWideUptoCardSaid : Prop := Claim7.holds Tryd.pinned (.plain (OpenSpec.upto formatWideSpec)) formatWideUptoCard

/-- THE SECOND FORM's CARD OF 'fieldfarelaw08.FormatWholes'. -/
def formatWholesUptoCard : Claim7 := { stood := { row := formatWholesUptoRow, standIns := [], harness := (true, "fa405ca213bfe82d48de771d7064d8ec93d465ccf5cbdbb0266fde671006900e"), looks := false }, kinds := [], alts := [], laidByText := true, laidKinds := [.data, .data, .data, .data, .pinned, .pinned], laidTests := true, laidLooks := .later }
def FormatWholesUptoCardSaid : Prop := Claim7.holds Tryd.pinned (.plain (OpenSpec.upto formatWholesSpec)) formatWholesUptoCard

/-- THE SECOND FORM's CARD OF 'fieldfarelaw08.FormatFixed'. -/
def formatFixedUptoCard : Claim7 := { stood := { row := formatFixedUptoRow, standIns := [], harness := (true, "fa405ca213bfe82d48de771d7064d8ec93d465ccf5cbdbb0266fde671006900e"), looks := false }, kinds := [], alts := [], laidByText := true, laidKinds := [.data, .data, .data, .data, .pinned, .pinned], laidTests := true, laidLooks := .later }
def FormatFixedUptoCardSaid : Prop := Claim7.holds Tryd.pinned (.plain (OpenSpec.upto formatFixedSpec)) formatFixedUptoCard
end Rows
end Go.Proofs.YtpkooogfefkcdaaDoor
