/-
  No cell of these rows narrows 'for every input' (looked for: loops, veiled, ifaces, maps, wideKeys, modest, calm, conditions, laid).
  DERIVED. THE GIVEN ROWS OF THIS SEAT. 15 by the template 'for every input the law returns true; each argument reads behind the call as it read before'; 0 by the template 'total and deterministic' (their statements: YtdmifldjeiabdaaTotals.lean).
  GIVEN WITH THE SEED: the statements are not yours to turn. If you find one false, say at which input.
  Laid BY PROGRAM, IN A SANDBOX (cutbox-rows.mjs): the forced cells as the released guide's own fill.sh prints them over the translation 636cb84eab0f116e… (all of the seat's roots in one cut). By AI agents, Wed Nov 11 2026. No macro, syntax, notation, axiom, sorry.
-/
import Derived.Test.YtdmifldjeiabdaaChecked
import GoSem.Claim
import GoSem.ClaimJoined
import GoSem.ClaimMapViews
import Derived.JoinedTies
import Derived.KernelRfl
namespace Go.Proofs.Ytdmifldjeiabdaa
/- THE CELL 'sum', in the pinned program and in every row, IS THE sha256 OF THE DUMP (.gsa) THAT YtdmifldjeiabdaaProg.lean LOADS. Nothing in Lean hashes anything: it is a label: what it is worth is what the hold of that sum in a sandbox is worth. -/
noncomputable def Try.pinned : Pinned := { name := "ytdmifldjeiabdaa", sum := "636cb84eab0f116eef0fb0dfac479c540131174677a92472c8630fb6866aa0ec", checked := Try.checked }
namespace Rows
def none {H : Type} : Left H := { results := [], args := [] }

/-- 'fieldfarelaw02.NumeralTexts': WHATEVER THE INPUT: true; the input reads as it did. -/
def numeralTextsSpec : ChangeSpec := { name := "numeralTexts", fn := fun _ => fun
  | [d1, d2] => { results := [.lit (.bool true)], args := [d1, d2] }
  | _ => none }
def numeralTextsRow : OpenClaim := { program := "ytdmifldjeiabdaa", sum := "636cb84eab0f116eef0fb0dfac479c540131174677a92472c8630fb6866aa0ec", func := "fieldfare/fieldfarelaw02.NumeralTexts", spec := "numeralTexts", inPlace := ["math/bits.Add64"], named := ["math/bits.divideError", "math/bits.overflowError"], apart := false }
def NumeralTextsSaid : Prop := numeralTextsRow.holds Try.pinned (OpenSpec.ofChange numeralTextsSpec)

/-- ITS FALSE NEIGHBOUR: 'it returns false'. Refute it at one input. -/
def numeralTextsWrong : ChangeSpec := { name := "numeralTexts", fn := fun _ => fun
  | [d1, d2] => { results := [.lit (.bool false)], args := [d1, d2] }
  | _ => none }
def NumeralTextsWrongFalsely : Prop := numeralTextsRow.holds Try.pinned (OpenSpec.ofChange numeralTextsWrong)

/-- 'fieldfarelaw02.NumeralLooks': WHATEVER THE INPUT: true; the input reads as it did. -/
def numeralLooksSpec : ChangeSpec := { name := "numeralLooks", fn := fun _ => fun
  | [d] => { results := [.lit (.bool true)], args := [d] }
  | _ => none }
def numeralLooksRow : OpenClaim := { program := "ytdmifldjeiabdaa", sum := "636cb84eab0f116eef0fb0dfac479c540131174677a92472c8630fb6866aa0ec", func := "fieldfare/fieldfarelaw02.NumeralLooks", spec := "numeralLooks", inPlace := ["math/bits.Add64"], named := ["math/bits.divideError", "math/bits.overflowError"], apart := false }
def NumeralLooksSaid : Prop := numeralLooksRow.holds Try.pinned (OpenSpec.ofChange numeralLooksSpec)

/-- ITS FALSE NEIGHBOUR: 'it returns false'. Refute it at one input. -/
def numeralLooksWrong : ChangeSpec := { name := "numeralLooks", fn := fun _ => fun
  | [d] => { results := [.lit (.bool false)], args := [d] }
  | _ => none }
def NumeralLooksWrongFalsely : Prop := numeralLooksRow.holds Try.pinned (OpenSpec.ofChange numeralLooksWrong)

/-- 'fieldfarelaw02.NumeralSums': WHATEVER THE INPUT: true; the input reads as it did. -/
def numeralSumsSpec : ChangeSpec := { name := "numeralSums", fn := fun _ => fun
  | [d1, d2, d3] => { results := [.lit (.bool true)], args := [d1, d2, d3] }
  | _ => none }
def numeralSumsRow : OpenClaim := { program := "ytdmifldjeiabdaa", sum := "636cb84eab0f116eef0fb0dfac479c540131174677a92472c8630fb6866aa0ec", func := "fieldfare/fieldfarelaw02.NumeralSums", spec := "numeralSums", inPlace := ["math/bits.Add64"], named := ["math/bits.divideError", "math/bits.overflowError"], apart := false }
def NumeralSumsSaid : Prop := numeralSumsRow.holds Try.pinned (OpenSpec.ofChange numeralSumsSpec)

/-- ITS FALSE NEIGHBOUR: 'it returns false'. Refute it at one input. -/
def numeralSumsWrong : ChangeSpec := { name := "numeralSums", fn := fun _ => fun
  | [d1, d2, d3] => { results := [.lit (.bool false)], args := [d1, d2, d3] }
  | _ => none }
def NumeralSumsWrongFalsely : Prop := numeralSumsRow.holds Try.pinned (OpenSpec.ofChange numeralSumsWrong)

/-- 'fieldfarelaw02.NumeralInts': WHATEVER THE INPUT: true; the input reads as it did. -/
def numeralIntsSpec : ChangeSpec := { name := "numeralInts", fn := fun _ => fun
  | [d] => { results := [.lit (.bool true)], args := [d] }
  | _ => none }
def numeralIntsRow : OpenClaim := { program := "ytdmifldjeiabdaa", sum := "636cb84eab0f116eef0fb0dfac479c540131174677a92472c8630fb6866aa0ec", func := "fieldfare/fieldfarelaw02.NumeralInts", spec := "numeralInts", inPlace := ["math/bits.Add64"], named := ["math/bits.divideError", "math/bits.overflowError"], apart := false }
def NumeralIntsSaid : Prop := numeralIntsRow.holds Try.pinned (OpenSpec.ofChange numeralIntsSpec)

/-- ITS FALSE NEIGHBOUR: 'it returns false'. Refute it at one input. -/
def numeralIntsWrong : ChangeSpec := { name := "numeralInts", fn := fun _ => fun
  | [d] => { results := [.lit (.bool false)], args := [d] }
  | _ => none }
def NumeralIntsWrongFalsely : Prop := numeralIntsRow.holds Try.pinned (OpenSpec.ofChange numeralIntsWrong)

/-- 'fieldfarelaw02.NumeralReads': WHATEVER THE INPUT: true; the input reads as it did. -/
def numeralReadsSpec : ChangeSpec := { name := "numeralReads", fn := fun _ => fun
  | [d] => { results := [.lit (.bool true)], args := [d] }
  | _ => none }
def numeralReadsRow : OpenClaim := { program := "ytdmifldjeiabdaa", sum := "636cb84eab0f116eef0fb0dfac479c540131174677a92472c8630fb6866aa0ec", func := "fieldfare/fieldfarelaw02.NumeralReads", spec := "numeralReads", inPlace := ["math/bits.Add64", "internal/reflectlite.TypeOf"], unfollowed := true, recurses := true, named := ["math/bits.divideError", "math/bits.overflowError"], apart := false }
def NumeralReadsSaid : Prop := numeralReadsRow.holds Try.pinned (OpenSpec.ofChange numeralReadsSpec)

/-- ITS FALSE NEIGHBOUR: 'it returns false'. Refute it at one input. -/
def numeralReadsWrong : ChangeSpec := { name := "numeralReads", fn := fun _ => fun
  | [d] => { results := [.lit (.bool false)], args := [d] }
  | _ => none }
def NumeralReadsWrongFalsely : Prop := numeralReadsRow.holds Try.pinned (OpenSpec.ofChange numeralReadsWrong)

/-- 'fieldfarelaw02.NumeralBlanks': WHATEVER THE INPUT: true; the input reads as it did. -/
def numeralBlanksSpec : ChangeSpec := { name := "numeralBlanks", fn := fun _ => fun
  | [d1, d2] => { results := [.lit (.bool true)], args := [d1, d2] }
  | _ => none }
def numeralBlanksRow : OpenClaim := { program := "ytdmifldjeiabdaa", sum := "636cb84eab0f116eef0fb0dfac479c540131174677a92472c8630fb6866aa0ec", func := "fieldfare/fieldfarelaw02.NumeralBlanks", spec := "numeralBlanks", inPlace := ["math/bits.Add64", "internal/reflectlite.TypeOf"], unfollowed := true, recurses := true, named := ["math/bits.divideError", "math/bits.overflowError"], apart := false }
def NumeralBlanksSaid : Prop := numeralBlanksRow.holds Try.pinned (OpenSpec.ofChange numeralBlanksSpec)

/-- ITS FALSE NEIGHBOUR: 'it returns false'. Refute it at one input. -/
def numeralBlanksWrong : ChangeSpec := { name := "numeralBlanks", fn := fun _ => fun
  | [d1, d2] => { results := [.lit (.bool false)], args := [d1, d2] }
  | _ => none }
def NumeralBlanksWrongFalsely : Prop := numeralBlanksRow.holds Try.pinned (OpenSpec.ofChange numeralBlanksWrong)

/-- 'fieldfarelaw01.DecWholes': WHATEVER THE INPUT: true; the input reads as it did. -/
def decWholesSpec : ChangeSpec := { name := "decWholes", fn := fun _ => fun
  | [d1, d2] => { results := [.lit (.bool true)], args := [d1, d2] }
  | _ => none }
def decWholesRow : OpenClaim := { program := "ytdmifldjeiabdaa", sum := "636cb84eab0f116eef0fb0dfac479c540131174677a92472c8630fb6866aa0ec", func := "fieldfare/fieldfarelaw01.DecWholes", spec := "decWholes", inPlace := ["math/bits.Add64", "math/bits.Sub64"], named := ["math/bits.divideError", "math/bits.overflowError"], apart := false }
def DecWholesSaid : Prop := decWholesRow.holds Try.pinned (OpenSpec.ofChange decWholesSpec)

/-- ITS FALSE NEIGHBOUR: 'it returns false'. Refute it at one input. -/
def decWholesWrong : ChangeSpec := { name := "decWholes", fn := fun _ => fun
  | [d1, d2] => { results := [.lit (.bool false)], args := [d1, d2] }
  | _ => none }
def DecWholesWrongFalsely : Prop := decWholesRow.holds Try.pinned (OpenSpec.ofChange decWholesWrong)

/-- 'fieldfarelaw01.DecMoves': WHATEVER THE INPUT: true; the input reads as it did. -/
def decMovesSpec : ChangeSpec := { name := "decMoves", fn := fun _ => fun
  | [d1, d2, d3] => { results := [.lit (.bool true)], args := [d1, d2, d3] }
  | _ => none }
def decMovesRow : OpenClaim := { program := "ytdmifldjeiabdaa", sum := "636cb84eab0f116eef0fb0dfac479c540131174677a92472c8630fb6866aa0ec", func := "fieldfare/fieldfarelaw01.DecMoves", spec := "decMoves", inPlace := ["math/bits.Add64", "math/bits.Sub64"], named := ["math/bits.divideError", "math/bits.overflowError"], apart := false }
def DecMovesSaid : Prop := decMovesRow.holds Try.pinned (OpenSpec.ofChange decMovesSpec)

/-- ITS FALSE NEIGHBOUR: 'it returns false'. Refute it at one input. -/
def decMovesWrong : ChangeSpec := { name := "decMoves", fn := fun _ => fun
  | [d1, d2, d3] => { results := [.lit (.bool false)], args := [d1, d2, d3] }
  | _ => none }
def DecMovesWrongFalsely : Prop := decMovesRow.holds Try.pinned (OpenSpec.ofChange decMovesWrong)

/-- 'fieldfarelaw01.DecTruncs': WHATEVER THE INPUT: true; the input reads as it did. -/
def decTruncsSpec : ChangeSpec := { name := "decTruncs", fn := fun _ => fun
  | [d] => { results := [.lit (.bool true)], args := [d] }
  | _ => none }
def decTruncsRow : OpenClaim := { program := "ytdmifldjeiabdaa", sum := "636cb84eab0f116eef0fb0dfac479c540131174677a92472c8630fb6866aa0ec", func := "fieldfare/fieldfarelaw01.DecTruncs", spec := "decTruncs", inPlace := ["math/bits.Add64", "math/bits.Sub64"], named := ["math/bits.divideError", "math/bits.overflowError"], apart := false }
def DecTruncsSaid : Prop := decTruncsRow.holds Try.pinned (OpenSpec.ofChange decTruncsSpec)

/-- ITS FALSE NEIGHBOUR: 'it returns false'. Refute it at one input. -/
def decTruncsWrong : ChangeSpec := { name := "decTruncs", fn := fun _ => fun
  | [d] => { results := [.lit (.bool false)], args := [d] }
  | _ => none }
def DecTruncsWrongFalsely : Prop := decTruncsRow.holds Try.pinned (OpenSpec.ofChange decTruncsWrong)

/-- 'fieldfarelaw01.DecMuls': WHATEVER THE INPUT: true; the input reads as it did. -/
def decMulsSpec : ChangeSpec := { name := "decMuls", fn := fun _ => fun
  | [d1, d2] => { results := [.lit (.bool true)], args := [d1, d2] }
  | _ => none }
def decMulsRow : OpenClaim := { program := "ytdmifldjeiabdaa", sum := "636cb84eab0f116eef0fb0dfac479c540131174677a92472c8630fb6866aa0ec", func := "fieldfare/fieldfarelaw01.DecMuls", spec := "decMuls", inPlace := ["math/bits.Add64", "math/bits.Sub64", "internal/reflectlite.TypeOf"], unfollowed := true, recurses := true, named := ["math/bits.divideError", "math/bits.overflowError"], apart := false }
def DecMulsSaid : Prop := decMulsRow.holds Try.pinned (OpenSpec.ofChange decMulsSpec)

/-- ITS FALSE NEIGHBOUR: 'it returns false'. Refute it at one input. -/
def decMulsWrong : ChangeSpec := { name := "decMuls", fn := fun _ => fun
  | [d1, d2] => { results := [.lit (.bool false)], args := [d1, d2] }
  | _ => none }
def DecMulsWrongFalsely : Prop := decMulsRow.holds Try.pinned (OpenSpec.ofChange decMulsWrong)

/-- 'fieldfarelaw01.DecPows': WHATEVER THE INPUT: true; the input reads as it did. -/
def decPowsSpec : ChangeSpec := { name := "decPows", fn := fun _ => fun
  | [d1, d2] => { results := [.lit (.bool true)], args := [d1, d2] }
  | _ => none }
def decPowsRow : OpenClaim := { program := "ytdmifldjeiabdaa", sum := "636cb84eab0f116eef0fb0dfac479c540131174677a92472c8630fb6866aa0ec", func := "fieldfare/fieldfarelaw01.DecPows", spec := "decPows", inPlace := ["math/bits.Add64", "math/bits.Sub64", "internal/reflectlite.TypeOf"], unfollowed := true, recurses := true, named := ["math/bits.divideError", "math/bits.overflowError"], apart := false }
def DecPowsSaid : Prop := decPowsRow.holds Try.pinned (OpenSpec.ofChange decPowsSpec)

/-- ITS FALSE NEIGHBOUR: 'it returns false'. Refute it at one input. -/
def decPowsWrong : ChangeSpec := { name := "decPows", fn := fun _ => fun
  | [d1, d2] => { results := [.lit (.bool false)], args := [d1, d2] }
  | _ => none }
def DecPowsWrongFalsely : Prop := decPowsRow.holds Try.pinned (OpenSpec.ofChange decPowsWrong)

/-- 'fieldfarelaw01.DecUnits': WHATEVER THE INPUT: true; the input reads as it did. -/
def decUnitsSpec : ChangeSpec := { name := "decUnits", fn := fun _ => fun
  | [d] => { results := [.lit (.bool true)], args := [d] }
  | _ => none }
def decUnitsRow : OpenClaim := { program := "ytdmifldjeiabdaa", sum := "636cb84eab0f116eef0fb0dfac479c540131174677a92472c8630fb6866aa0ec", func := "fieldfare/fieldfarelaw01.DecUnits", spec := "decUnits", inPlace := ["math/bits.Add64", "math/bits.Sub64", "internal/reflectlite.TypeOf"], unfollowed := true, recurses := true, named := ["math/bits.divideError", "math/bits.overflowError"], apart := false }
def DecUnitsSaid : Prop := decUnitsRow.holds Try.pinned (OpenSpec.ofChange decUnitsSpec)

/-- ITS FALSE NEIGHBOUR: 'it returns false'. Refute it at one input. -/
def decUnitsWrong : ChangeSpec := { name := "decUnits", fn := fun _ => fun
  | [d] => { results := [.lit (.bool false)], args := [d] }
  | _ => none }
def DecUnitsWrongFalsely : Prop := decUnitsRow.holds Try.pinned (OpenSpec.ofChange decUnitsWrong)

/-- 'fieldfarelaw01.DecSigns': WHATEVER THE INPUT: true; the input reads as it did. -/
def decSignsSpec : ChangeSpec := { name := "decSigns", fn := fun _ => fun
  | [d1, d2] => { results := [.lit (.bool true)], args := [d1, d2] }
  | _ => none }
def decSignsRow : OpenClaim := { program := "ytdmifldjeiabdaa", sum := "636cb84eab0f116eef0fb0dfac479c540131174677a92472c8630fb6866aa0ec", func := "fieldfare/fieldfarelaw01.DecSigns", spec := "decSigns", inPlace := ["math/bits.Add64", "math/bits.Sub64", "internal/reflectlite.TypeOf"], unfollowed := true, recurses := true, named := ["math/bits.divideError", "math/bits.overflowError"], apart := false }
def DecSignsSaid : Prop := decSignsRow.holds Try.pinned (OpenSpec.ofChange decSignsSpec)

/-- ITS FALSE NEIGHBOUR: 'it returns false'. Refute it at one input. -/
def decSignsWrong : ChangeSpec := { name := "decSigns", fn := fun _ => fun
  | [d1, d2] => { results := [.lit (.bool false)], args := [d1, d2] }
  | _ => none }
def DecSignsWrongFalsely : Prop := decSignsRow.holds Try.pinned (OpenSpec.ofChange decSignsWrong)

/-- 'fieldfarelaw01.DecSums': WHATEVER THE INPUT: true; the input reads as it did. -/
def decSumsSpec : ChangeSpec := { name := "decSums", fn := fun _ => fun
  | [d1, d2] => { results := [.lit (.bool true)], args := [d1, d2] }
  | _ => none }
def decSumsRow : OpenClaim := { program := "ytdmifldjeiabdaa", sum := "636cb84eab0f116eef0fb0dfac479c540131174677a92472c8630fb6866aa0ec", func := "fieldfare/fieldfarelaw01.DecSums", spec := "decSums", inPlace := ["math/bits.Add64", "math/bits.Sub64", "internal/reflectlite.TypeOf"], unfollowed := true, recurses := true, named := ["math/bits.divideError", "math/bits.overflowError"], apart := false }
def DecSumsSaid : Prop := decSumsRow.holds Try.pinned (OpenSpec.ofChange decSumsSpec)

/-- ITS FALSE NEIGHBOUR: 'it returns false'. Refute it at one input. -/
def decSumsWrong : ChangeSpec := { name := "decSums", fn := fun _ => fun
  | [d1, d2] => { results := [.lit (.bool false)], args := [d1, d2] }
  | _ => none }
def DecSumsWrongFalsely : Prop := decSumsRow.holds Try.pinned (OpenSpec.ofChange decSumsWrong)

/-- 'fieldfarelaw01.DecOrders': WHATEVER THE INPUT: true; the input reads as it did. -/
def decOrdersSpec : ChangeSpec := { name := "decOrders", fn := fun _ => fun
  | [d1, d2] => { results := [.lit (.bool true)], args := [d1, d2] }
  | _ => none }
def decOrdersRow : OpenClaim := { program := "ytdmifldjeiabdaa", sum := "636cb84eab0f116eef0fb0dfac479c540131174677a92472c8630fb6866aa0ec", func := "fieldfare/fieldfarelaw01.DecOrders", spec := "decOrders", inPlace := ["math/bits.Add64", "math/bits.Sub64", "internal/reflectlite.TypeOf"], unfollowed := true, recurses := true, named := ["math/bits.divideError", "math/bits.overflowError"], apart := false }
def DecOrdersSaid : Prop := decOrdersRow.holds Try.pinned (OpenSpec.ofChange decOrdersSpec)

/-- ITS FALSE NEIGHBOUR: 'it returns false'. Refute it at one input. -/
def decOrdersWrong : ChangeSpec := { name := "decOrders", fn := fun _ => fun
  | [d1, d2] => { results := [.lit (.bool false)], args := [d1, d2] }
  | _ => none }
def DecOrdersWrongFalsely : Prop := decOrdersRow.holds Try.pinned (OpenSpec.ofChange decOrdersWrong)

/- THE SECOND FORM. 'bulk': how many values and letters a reading holds, each counted each time it is reached (what is shared counts as often as it is met; a slice's spare places count too). A statement '..UptoSaid' is the law's where the arguments, and the package variables that the reading takes, are together of bulk at most 1048576: NARROWER than '..Said'. Prove '..Said' where nothing that the law and all that it calls make is longer than what came in: it says more and counts as full. Else prove '..UptoSaid'. A law counts once. -/
mutual
def uptoBulk {H : Type} : DataW H → Nat
  | .lit (.string bytes) => bytes.length + 1
  | .lit _ => 1
  | .nil => 1
  | .ptr d => uptoBulk d + 1
  | .slice elems spare => uptoBulkAll elems + uptoBulkAll spare + 1
  | .agg parts => uptoBulkAll parts + 1
  | .iface _ d => uptoBulk d + 1
  | .map entries => uptoBulkEntries entries + 1
  | .held _ => 1
def uptoBulkAll {H : Type} : List (DataW H) → Nat
  | [] => 0
  | d :: r => uptoBulk d + uptoBulkAll r
def uptoBulkEntries {H : Type} : List (Lit × DataW H) → Nat
  | [] => 0
  | x :: r => uptoBulkEntry x + uptoBulkEntries r
def uptoBulkEntry {H : Type} : Lit × DataW H → Nat
  | (.string bytes, d) => bytes.length + uptoBulk d + 1
  | (_, d) => uptoBulk d + 1
 end
def uptoSmall : (H : Type) → List (DataW H) → Bool := fun _ ds => decide (uptoBulkAll ds ≤ 1048576)
def OpenSpec.upto (s : _root_.Go.ChangeSpec) : _root_.Go.OpenSpec := { _root_.Go.OpenSpec.ofChange s with cond := some uptoSmall }

/-- 'fieldfarelaw02.NumeralTexts', WHERE WHAT IT READS IS OF BULK AT MOST 1048576: true; the input reads as it did. -/
def numeralTextsUptoRow : OpenClaim := { program := "ytdmifldjeiabdaa", sum := "636cb84eab0f116eef0fb0dfac479c540131174677a92472c8630fb6866aa0ec", func := "fieldfare/fieldfarelaw02.NumeralTexts", spec := "numeralTexts", inPlace := ["math/bits.Add64"], named := ["math/bits.divideError", "math/bits.overflowError"], apart := false, narrowed := true }
def NumeralTextsUptoSaid : Prop := numeralTextsUptoRow.holds Try.pinned (OpenSpec.upto numeralTextsSpec)

/-- 'fieldfarelaw02.NumeralLooks', WHERE WHAT IT READS IS OF BULK AT MOST 1048576: true; the input reads as it did. -/
def numeralLooksUptoRow : OpenClaim := { program := "ytdmifldjeiabdaa", sum := "636cb84eab0f116eef0fb0dfac479c540131174677a92472c8630fb6866aa0ec", func := "fieldfare/fieldfarelaw02.NumeralLooks", spec := "numeralLooks", inPlace := ["math/bits.Add64"], named := ["math/bits.divideError", "math/bits.overflowError"], apart := false, narrowed := true }
def NumeralLooksUptoSaid : Prop := numeralLooksUptoRow.holds Try.pinned (OpenSpec.upto numeralLooksSpec)

/-- 'fieldfarelaw02.NumeralSums', WHERE WHAT IT READS IS OF BULK AT MOST 1048576: true; the input reads as it did. -/
def numeralSumsUptoRow : OpenClaim := { program := "ytdmifldjeiabdaa", sum := "636cb84eab0f116eef0fb0dfac479c540131174677a92472c8630fb6866aa0ec", func := "fieldfare/fieldfarelaw02.NumeralSums", spec := "numeralSums", inPlace := ["math/bits.Add64"], named := ["math/bits.divideError", "math/bits.overflowError"], apart := false, narrowed := true }
def NumeralSumsUptoSaid : Prop := numeralSumsUptoRow.holds Try.pinned (OpenSpec.upto numeralSumsSpec)

/-- 'fieldfarelaw02.NumeralInts', WHERE WHAT IT READS IS OF BULK AT MOST 1048576: true; the input reads as it did. -/
def numeralIntsUptoRow : OpenClaim := { program := "ytdmifldjeiabdaa", sum := "636cb84eab0f116eef0fb0dfac479c540131174677a92472c8630fb6866aa0ec", func := "fieldfare/fieldfarelaw02.NumeralInts", spec := "numeralInts", inPlace := ["math/bits.Add64"], named := ["math/bits.divideError", "math/bits.overflowError"], apart := false, narrowed := true }
def NumeralIntsUptoSaid : Prop := numeralIntsUptoRow.holds Try.pinned (OpenSpec.upto numeralIntsSpec)

/-- 'fieldfarelaw02.NumeralReads', WHERE WHAT IT READS IS OF BULK AT MOST 1048576: true; the input reads as it did. -/
def numeralReadsUptoRow : OpenClaim := { program := "ytdmifldjeiabdaa", sum := "636cb84eab0f116eef0fb0dfac479c540131174677a92472c8630fb6866aa0ec", func := "fieldfare/fieldfarelaw02.NumeralReads", spec := "numeralReads", inPlace := ["math/bits.Add64", "internal/reflectlite.TypeOf"], unfollowed := true, recurses := true, named := ["math/bits.divideError", "math/bits.overflowError"], apart := false, narrowed := true }
def NumeralReadsUptoSaid : Prop := numeralReadsUptoRow.holds Try.pinned (OpenSpec.upto numeralReadsSpec)

/-- 'fieldfarelaw02.NumeralBlanks', WHERE WHAT IT READS IS OF BULK AT MOST 1048576: true; the input reads as it did. -/
def numeralBlanksUptoRow : OpenClaim := { program := "ytdmifldjeiabdaa", sum := "636cb84eab0f116eef0fb0dfac479c540131174677a92472c8630fb6866aa0ec", func := "fieldfare/fieldfarelaw02.NumeralBlanks", spec := "numeralBlanks", inPlace := ["math/bits.Add64", "internal/reflectlite.TypeOf"], unfollowed := true, recurses := true, named := ["math/bits.divideError", "math/bits.overflowError"], apart := false, narrowed := true }
def NumeralBlanksUptoSaid : Prop := numeralBlanksUptoRow.holds Try.pinned (OpenSpec.upto numeralBlanksSpec)

/-- 'fieldfarelaw01.DecWholes', WHERE WHAT IT READS IS OF BULK AT MOST 1048576: true; the input reads as it did. -/
def decWholesUptoRow : OpenClaim := { program := "ytdmifldjeiabdaa", sum := "636cb84eab0f116eef0fb0dfac479c540131174677a92472c8630fb6866aa0ec", func := "fieldfare/fieldfarelaw01.DecWholes", spec := "decWholes", inPlace := ["math/bits.Add64", "math/bits.Sub64"], named := ["math/bits.divideError", "math/bits.overflowError"], apart := false, narrowed := true }
def DecWholesUptoSaid : Prop := decWholesUptoRow.holds Try.pinned (OpenSpec.upto decWholesSpec)

/-- 'fieldfarelaw01.DecMoves', WHERE WHAT IT READS IS OF BULK AT MOST 1048576: true; the input reads as it did. -/
def decMovesUptoRow : OpenClaim := { program := "ytdmifldjeiabdaa", sum := "636cb84eab0f116eef0fb0dfac479c540131174677a92472c8630fb6866aa0ec", func := "fieldfare/fieldfarelaw01.DecMoves", spec := "decMoves", inPlace := ["math/bits.Add64", "math/bits.Sub64"], named := ["math/bits.divideError", "math/bits.overflowError"], apart := false, narrowed := true }
def DecMovesUptoSaid : Prop := decMovesUptoRow.holds Try.pinned (OpenSpec.upto decMovesSpec)

/-- 'fieldfarelaw01.DecTruncs', WHERE WHAT IT READS IS OF BULK AT MOST 1048576: true; the input reads as it did. -/
def decTruncsUptoRow : OpenClaim := { program := "ytdmifldjeiabdaa", sum := "636cb84eab0f116eef0fb0dfac479c540131174677a92472c8630fb6866aa0ec", func := "fieldfare/fieldfarelaw01.DecTruncs", spec := "decTruncs", inPlace := ["math/bits.Add64", "math/bits.Sub64"], named := ["math/bits.divideError", "math/bits.overflowError"], apart := false, narrowed := true }
def DecTruncsUptoSaid : Prop := decTruncsUptoRow.holds Try.pinned (OpenSpec.upto decTruncsSpec)

/-- 'fieldfarelaw01.DecMuls', WHERE WHAT IT READS IS OF BULK AT MOST 1048576: true; the input reads as it did. -/
def decMulsUptoRow : OpenClaim := { program := "ytdmifldjeiabdaa", sum := "636cb84eab0f116eef0fb0dfac479c540131174677a92472c8630fb6866aa0ec", func := "fieldfare/fieldfarelaw01.DecMuls", spec := "decMuls", inPlace := ["math/bits.Add64", "math/bits.Sub64", "internal/reflectlite.TypeOf"], unfollowed := true, recurses := true, named := ["math/bits.divideError", "math/bits.overflowError"], apart := false, narrowed := true }
def DecMulsUptoSaid : Prop := decMulsUptoRow.holds Try.pinned (OpenSpec.upto decMulsSpec)

/-- 'fieldfarelaw01.DecPows', WHERE WHAT IT READS IS OF BULK AT MOST 1048576: true; the input reads as it did. -/
def decPowsUptoRow : OpenClaim := { program := "ytdmifldjeiabdaa", sum := "636cb84eab0f116eef0fb0dfac479c540131174677a92472c8630fb6866aa0ec", func := "fieldfare/fieldfarelaw01.DecPows", spec := "decPows", inPlace := ["math/bits.Add64", "math/bits.Sub64", "internal/reflectlite.TypeOf"], unfollowed := true, recurses := true, named := ["math/bits.divideError", "math/bits.overflowError"], apart := false, narrowed := true }
def DecPowsUptoSaid : Prop := decPowsUptoRow.holds Try.pinned (OpenSpec.upto decPowsSpec)

/-- 'fieldfarelaw01.DecUnits', WHERE WHAT IT READS IS OF BULK AT MOST 1048576: true; the input reads as it did. -/
def decUnitsUptoRow : OpenClaim := { program := "ytdmifldjeiabdaa", sum := "636cb84eab0f116eef0fb0dfac479c540131174677a92472c8630fb6866aa0ec", func := "fieldfare/fieldfarelaw01.DecUnits", spec := "decUnits", inPlace := ["math/bits.Add64", "math/bits.Sub64", "internal/reflectlite.TypeOf"], unfollowed := true, recurses := true, named := ["math/bits.divideError", "math/bits.overflowError"], apart := false, narrowed := true }
def DecUnitsUptoSaid : Prop := decUnitsUptoRow.holds Try.pinned (OpenSpec.upto decUnitsSpec)

/-- 'fieldfarelaw01.DecSigns', WHERE WHAT IT READS IS OF BULK AT MOST 1048576: true; the input reads as it did. -/
def decSignsUptoRow : OpenClaim := { program := "ytdmifldjeiabdaa", sum := "636cb84eab0f116eef0fb0dfac479c540131174677a92472c8630fb6866aa0ec", func := "fieldfare/fieldfarelaw01.DecSigns", spec := "decSigns", inPlace := ["math/bits.Add64", "math/bits.Sub64", "internal/reflectlite.TypeOf"], unfollowed := true, recurses := true, named := ["math/bits.divideError", "math/bits.overflowError"], apart := false, narrowed := true }
def DecSignsUptoSaid : Prop := decSignsUptoRow.holds Try.pinned (OpenSpec.upto decSignsSpec)

/-- 'fieldfarelaw01.DecSums', WHERE WHAT IT READS IS OF BULK AT MOST 1048576: true; the input reads as it did. -/
def decSumsUptoRow : OpenClaim := { program := "ytdmifldjeiabdaa", sum := "636cb84eab0f116eef0fb0dfac479c540131174677a92472c8630fb6866aa0ec", func := "fieldfare/fieldfarelaw01.DecSums", spec := "decSums", inPlace := ["math/bits.Add64", "math/bits.Sub64", "internal/reflectlite.TypeOf"], unfollowed := true, recurses := true, named := ["math/bits.divideError", "math/bits.overflowError"], apart := false, narrowed := true }
def DecSumsUptoSaid : Prop := decSumsUptoRow.holds Try.pinned (OpenSpec.upto decSumsSpec)

/-- 'fieldfarelaw01.DecOrders', WHERE WHAT IT READS IS OF BULK AT MOST 1048576: true; the input reads as it did. -/
def decOrdersUptoRow : OpenClaim := { program := "ytdmifldjeiabdaa", sum := "636cb84eab0f116eef0fb0dfac479c540131174677a92472c8630fb6866aa0ec", func := "fieldfare/fieldfarelaw01.DecOrders", spec := "decOrders", inPlace := ["math/bits.Add64", "math/bits.Sub64", "internal/reflectlite.TypeOf"], unfollowed := true, recurses := true, named := ["math/bits.divideError", "math/bits.overflowError"], apart := false, narrowed := true }
def DecOrdersUptoSaid : Prop := decOrdersUptoRow.holds Try.pinned (OpenSpec.upto decOrdersSpec)

end Rows
end Go.Proofs.Ytdmifldjeiabdaa
