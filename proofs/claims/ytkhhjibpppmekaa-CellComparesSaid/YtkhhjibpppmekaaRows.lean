/-
  No cell of these rows narrows 'for every input' (looked for: loops, veiled, ifaces, maps, wideKeys, modest, calm, conditions, laid).
  DERIVED. THE GIVEN ROWS OF THIS SEAT. 10 by the template 'for every input the law returns true; each argument reads behind the call as it read before'; 0 by the template 'total and deterministic' (their statements: YtkhhjibpppmekaaTotals.lean).
  GIVEN WITH THE SEED: the statements are not yours to turn. If you find one false, say at which input.
  Laid BY PROGRAM, IN A SANDBOX (cutbox-rows.mjs): the forced cells as the released guide's own fill.sh prints them over the translation 06e146b5b97bd12a… (all of the seat's roots in one cut). By AI agents, Wed Nov 11 2026. No macro, syntax, notation, axiom, sorry.
-/
import Derived.Test.YtkhhjibpppmekaaChecked
import GoSem.Claim
import GoSem.ClaimJoined
import GoSem.ClaimMapViews
import Derived.JoinedTies
import Derived.KernelRfl
namespace Go.Proofs.Ytkhhjibpppmekaa
/- THE CELL 'sum', in the pinned program and in every row, IS THE sha256 OF THE DUMP (.gsa) THAT YtkhhjibpppmekaaProg.lean LOADS. Nothing in Lean hashes anything: it is a label: what it is worth is what the hold of that sum in a sandbox is worth. -/
noncomputable def Try.pinned : Pinned := { name := "ytkhhjibpppmekaa", sum := "06e146b5b97bd12ab67b776f4e828c2fe6c7d891699ea76626d2e03a2eb4ac28", checked := Try.checked }
namespace Rows
def none {H : Type} : Left H := { results := [], args := [] }

/-- 'fieldfarelaw01.DecPows': WHATEVER THE INPUT: true; the input reads as it did. -/
def decPowsSpec : ChangeSpec := { name := "decPows", fn := fun _ => fun
  | [d1, d2] => { results := [.lit (.bool true)], args := [d1, d2] }
  | _ => none }
def decPowsRow : OpenClaim := { program := "ytkhhjibpppmekaa", sum := "06e146b5b97bd12ab67b776f4e828c2fe6c7d891699ea76626d2e03a2eb4ac28", func := "fieldfare/fieldfarelaw01.DecPows", spec := "decPows", inPlace := ["math/bits.Add64", "math/bits.Sub64", "internal/reflectlite.TypeOf"], unfollowed := true, recurses := true, named := ["math/bits.divideError", "math/bits.overflowError"], apart := false }
def DecPowsSaid : Prop := decPowsRow.holds Try.pinned (OpenSpec.ofChange decPowsSpec)

/-- ITS FALSE NEIGHBOUR: 'it returns false'. Refute it at one input. -/
def decPowsWrong : ChangeSpec := { name := "decPows", fn := fun _ => fun
  | [d1, d2] => { results := [.lit (.bool false)], args := [d1, d2] }
  | _ => none }
def DecPowsWrongFalsely : Prop := decPowsRow.holds Try.pinned (OpenSpec.ofChange decPowsWrong)

/-- 'fieldfarelaw09.CellMakes': WHATEVER THE INPUT: true; the input reads as it did. -/
def cellMakesSpec : ChangeSpec := { name := "cellMakes", fn := fun _ => fun
  | [d1, d2] => { results := [.lit (.bool true)], args := [d1, d2] }
  | _ => none }
def cellMakesRow : OpenClaim := { program := "ytkhhjibpppmekaa", sum := "06e146b5b97bd12ab67b776f4e828c2fe6c7d891699ea76626d2e03a2eb4ac28", func := "fieldfare/fieldfarelaw09.CellMakes", spec := "cellMakes", inPlace := ["math/bits.Add64"], named := ["math/bits.divideError", "math/bits.overflowError"], apart := false }
def CellMakesSaid : Prop := cellMakesRow.holds Try.pinned (OpenSpec.ofChange cellMakesSpec)

/-- ITS FALSE NEIGHBOUR: 'it returns false'. Refute it at one input. -/
def cellMakesWrong : ChangeSpec := { name := "cellMakes", fn := fun _ => fun
  | [d1, d2] => { results := [.lit (.bool false)], args := [d1, d2] }
  | _ => none }
def CellMakesWrongFalsely : Prop := cellMakesRow.holds Try.pinned (OpenSpec.ofChange cellMakesWrong)

/-- 'fieldfarelaw09.CellCompares': WHATEVER THE INPUT: true; the input reads as it did. -/
def cellComparesSpec : ChangeSpec := { name := "cellCompares", fn := fun _ => fun
  | [d1, d2] => { results := [.lit (.bool true)], args := [d1, d2] }
  | _ => none }
def cellComparesRow : OpenClaim := { program := "ytkhhjibpppmekaa", sum := "06e146b5b97bd12ab67b776f4e828c2fe6c7d891699ea76626d2e03a2eb4ac28", func := "fieldfare/fieldfarelaw09.CellCompares", spec := "cellCompares", inPlace := ["math/bits.Add64"], named := ["math/bits.divideError", "math/bits.overflowError"], apart := false }
def CellComparesSaid : Prop := cellComparesRow.holds Try.pinned (OpenSpec.ofChange cellComparesSpec)

/-- ITS FALSE NEIGHBOUR: 'it returns false'. Refute it at one input. -/
def cellComparesWrong : ChangeSpec := { name := "cellCompares", fn := fun _ => fun
  | [d1, d2] => { results := [.lit (.bool false)], args := [d1, d2] }
  | _ => none }
def CellComparesWrongFalsely : Prop := cellComparesRow.holds Try.pinned (OpenSpec.ofChange cellComparesWrong)

/-- 'fieldfarelaw09.CellOrders': WHATEVER THE INPUT: true; the input reads as it did. -/
def cellOrdersSpec : ChangeSpec := { name := "cellOrders", fn := fun _ => fun
  | [d1, d2, d3] => { results := [.lit (.bool true)], args := [d1, d2, d3] }
  | _ => none }
def cellOrdersRow : OpenClaim := { program := "ytkhhjibpppmekaa", sum := "06e146b5b97bd12ab67b776f4e828c2fe6c7d891699ea76626d2e03a2eb4ac28", func := "fieldfare/fieldfarelaw09.CellOrders", spec := "cellOrders", inPlace := ["math/bits.Add64"], named := ["math/bits.divideError", "math/bits.overflowError"], apart := false }
def CellOrdersSaid : Prop := cellOrdersRow.holds Try.pinned (OpenSpec.ofChange cellOrdersSpec)

/-- ITS FALSE NEIGHBOUR: 'it returns false'. Refute it at one input. -/
def cellOrdersWrong : ChangeSpec := { name := "cellOrders", fn := fun _ => fun
  | [d1, d2, d3] => { results := [.lit (.bool false)], args := [d1, d2, d3] }
  | _ => none }
def CellOrdersWrongFalsely : Prop := cellOrdersRow.holds Try.pinned (OpenSpec.ofChange cellOrdersWrong)

/-- 'fieldfarelaw09.CellTexts': WHATEVER THE INPUT: true; the input reads as it did. -/
def cellTextsSpec : ChangeSpec := { name := "cellTexts", fn := fun _ => fun
  | [d1, d2, d3] => { results := [.lit (.bool true)], args := [d1, d2, d3] }
  | _ => none }
def cellTextsRow : OpenClaim := { program := "ytkhhjibpppmekaa", sum := "06e146b5b97bd12ab67b776f4e828c2fe6c7d891699ea76626d2e03a2eb4ac28", func := "fieldfare/fieldfarelaw09.CellTexts", spec := "cellTexts", inPlace := ["math/bits.Add64"], named := ["math/bits.divideError", "math/bits.overflowError"], apart := false }
def CellTextsSaid : Prop := cellTextsRow.holds Try.pinned (OpenSpec.ofChange cellTextsSpec)

/-- ITS FALSE NEIGHBOUR: 'it returns false'. Refute it at one input. -/
def cellTextsWrong : ChangeSpec := { name := "cellTexts", fn := fun _ => fun
  | [d1, d2, d3] => { results := [.lit (.bool false)], args := [d1, d2, d3] }
  | _ => none }
def CellTextsWrongFalsely : Prop := cellTextsRow.holds Try.pinned (OpenSpec.ofChange cellTextsWrong)

/-- 'fieldfarelaw09.CellSizes': WHATEVER THE INPUT: true; the input reads as it did. -/
def cellSizesSpec : ChangeSpec := { name := "cellSizes", fn := fun _ => fun
  | [d1, d2] => { results := [.lit (.bool true)], args := [d1, d2] }
  | _ => none }
def cellSizesRow : OpenClaim := { program := "ytkhhjibpppmekaa", sum := "06e146b5b97bd12ab67b776f4e828c2fe6c7d891699ea76626d2e03a2eb4ac28", func := "fieldfare/fieldfarelaw09.CellSizes", spec := "cellSizes", inPlace := ["math/bits.Add64"], named := ["math/bits.divideError", "math/bits.overflowError"], apart := false }
def CellSizesSaid : Prop := cellSizesRow.holds Try.pinned (OpenSpec.ofChange cellSizesSpec)

/-- ITS FALSE NEIGHBOUR: 'it returns false'. Refute it at one input. -/
def cellSizesWrong : ChangeSpec := { name := "cellSizes", fn := fun _ => fun
  | [d1, d2] => { results := [.lit (.bool false)], args := [d1, d2] }
  | _ => none }
def CellSizesWrongFalsely : Prop := cellSizesRow.holds Try.pinned (OpenSpec.ofChange cellSizesWrong)

/-- 'fieldfarelaw09.CellInputs': WHATEVER THE INPUT: true; the input reads as it did. -/
def cellInputsSpec : ChangeSpec := { name := "cellInputs", fn := fun _ => fun
  | [d] => { results := [.lit (.bool true)], args := [d] }
  | _ => none }
def cellInputsRow : OpenClaim := { program := "ytkhhjibpppmekaa", sum := "06e146b5b97bd12ab67b776f4e828c2fe6c7d891699ea76626d2e03a2eb4ac28", func := "fieldfare/fieldfarelaw09.CellInputs", spec := "cellInputs", inPlace := ["math/bits.Add64", "internal/reflectlite.TypeOf"], unfollowed := true, recurses := true, named := ["math/bits.divideError", "math/bits.overflowError"], apart := false }
def CellInputsSaid : Prop := cellInputsRow.holds Try.pinned (OpenSpec.ofChange cellInputsSpec)

/-- ITS FALSE NEIGHBOUR: 'it returns false'. Refute it at one input. -/
def cellInputsWrong : ChangeSpec := { name := "cellInputs", fn := fun _ => fun
  | [d] => { results := [.lit (.bool false)], args := [d] }
  | _ => none }
def CellInputsWrongFalsely : Prop := cellInputsRow.holds Try.pinned (OpenSpec.ofChange cellInputsWrong)

/-- 'fieldfarelaw09.CellTells': WHATEVER THE INPUT: true; the input reads as it did. -/
def cellTellsSpec : ChangeSpec := { name := "cellTells", fn := fun _ => fun
  | [d] => { results := [.lit (.bool true)], args := [d] }
  | _ => none }
def cellTellsRow : OpenClaim := { program := "ytkhhjibpppmekaa", sum := "06e146b5b97bd12ab67b776f4e828c2fe6c7d891699ea76626d2e03a2eb4ac28", func := "fieldfare/fieldfarelaw09.CellTells", spec := "cellTells", inPlace := ["math/bits.Add64", "internal/reflectlite.TypeOf"], unfollowed := true, recurses := true, named := ["math/bits.divideError", "math/bits.overflowError"], apart := false }
def CellTellsSaid : Prop := cellTellsRow.holds Try.pinned (OpenSpec.ofChange cellTellsSpec)

/-- ITS FALSE NEIGHBOUR: 'it returns false'. Refute it at one input. -/
def cellTellsWrong : ChangeSpec := { name := "cellTells", fn := fun _ => fun
  | [d] => { results := [.lit (.bool false)], args := [d] }
  | _ => none }
def CellTellsWrongFalsely : Prop := cellTellsRow.holds Try.pinned (OpenSpec.ofChange cellTellsWrong)

/-- 'fieldfarelaw15.CodeMore': WHATEVER THE INPUT: true; the input reads as it did. -/
def codeMoreSpec : ChangeSpec := { name := "codeMore", fn := fun _ => fun
  | [d] => { results := [.lit (.bool true)], args := [d] }
  | _ => none }
def codeMoreRow : OpenClaim := { program := "ytkhhjibpppmekaa", sum := "06e146b5b97bd12ab67b776f4e828c2fe6c7d891699ea76626d2e03a2eb4ac28", func := "fieldfare/fieldfarelaw15.CodeMore", spec := "codeMore", unfollowed := true, recurses := true, apart := false }
def CodeMoreSaid : Prop := codeMoreRow.holds Try.pinned (OpenSpec.ofChange codeMoreSpec)

/-- ITS FALSE NEIGHBOUR: 'it returns false'. Refute it at one input. -/
def codeMoreWrong : ChangeSpec := { name := "codeMore", fn := fun _ => fun
  | [d] => { results := [.lit (.bool false)], args := [d] }
  | _ => none }
def CodeMoreWrongFalsely : Prop := codeMoreRow.holds Try.pinned (OpenSpec.ofChange codeMoreWrong)

/-- 'fieldfarelaw15.CodeRows': WHATEVER THE INPUT: true; the input reads as it did. -/
def codeRowsSpec : ChangeSpec := { name := "codeRows", fn := fun _ => fun
  | [d] => { results := [.lit (.bool true)], args := [d] }
  | _ => none }
def codeRowsRow : OpenClaim := { program := "ytkhhjibpppmekaa", sum := "06e146b5b97bd12ab67b776f4e828c2fe6c7d891699ea76626d2e03a2eb4ac28", func := "fieldfare/fieldfarelaw15.CodeRows", spec := "codeRows", unfollowed := true, recurses := true, apart := false }
def CodeRowsSaid : Prop := codeRowsRow.holds Try.pinned (OpenSpec.ofChange codeRowsSpec)

/-- ITS FALSE NEIGHBOUR: 'it returns false'. Refute it at one input. -/
def codeRowsWrong : ChangeSpec := { name := "codeRows", fn := fun _ => fun
  | [d] => { results := [.lit (.bool false)], args := [d] }
  | _ => none }
def CodeRowsWrongFalsely : Prop := codeRowsRow.holds Try.pinned (OpenSpec.ofChange codeRowsWrong)

/- THE SECOND FORM. 'bulk': how many values and letters a reading holds, each counted each time it is reached (what is shared counts as often as it is met; a slice's spare places count too). A statement '..UptoSaid' is the law's where the arguments, and the package variables that the reading takes, are together of bulk at most 1048576: NARROWER than '..Said'. Prove '..Said' where nothing that the law and all that it calls make is longer than what came in: it says more and counts as full. Else prove '..UptoSaid'. A law counts once. -/
mutual
def uptoBulk {H : Type} : DataW H → Nat
  | .lit (.string bytes) => bytes.length + 1
  | .lit _ => 1
  | .nil => 1
  | .ptr d => uptoBulk d + 1
  | .slice elems spare => uptoBulkAll elems + uptoBulkAll spare + 1
  | .agg parts => uptoBulkAll parts + 1
  | .iface _ d => uptoBulk d + 1
  | .map entries => uptoBulkEntries entries + 1
  | .held _ => 1
def uptoBulkAll {H : Type} : List (DataW H) → Nat
  | [] => 0
  | d :: r => uptoBulk d + uptoBulkAll r
def uptoBulkEntries {H : Type} : List (Lit × DataW H) → Nat
  | [] => 0
  | x :: r => uptoBulkEntry x + uptoBulkEntries r
def uptoBulkEntry {H : Type} : Lit × DataW H → Nat
  | (.string bytes, d) => bytes.length + uptoBulk d + 1
  | (_, d) => uptoBulk d + 1
 end
def uptoSmall : (H : Type) → List (DataW H) → Bool := fun _ ds => decide (uptoBulkAll ds ≤ 1048576)
def OpenSpec.upto (s : _root_.Go.ChangeSpec) : _root_.Go.OpenSpec := { _root_.Go.OpenSpec.ofChange s with cond := some uptoSmall }

/-- 'fieldfarelaw01.DecPows', WHERE WHAT IT READS IS OF BULK AT MOST 1048576: true; the input reads as it did. -/
def decPowsUptoRow : OpenClaim := { program := "ytkhhjibpppmekaa", sum := "06e146b5b97bd12ab67b776f4e828c2fe6c7d891699ea76626d2e03a2eb4ac28", func := "fieldfare/fieldfarelaw01.DecPows", spec := "decPows", inPlace := ["math/bits.Add64", "math/bits.Sub64", "internal/reflectlite.TypeOf"], unfollowed := true, recurses := true, named := ["math/bits.divideError", "math/bits.overflowError"], apart := false, narrowed := true }
def DecPowsUptoSaid : Prop := decPowsUptoRow.holds Try.pinned (OpenSpec.upto decPowsSpec)

/-- 'fieldfarelaw09.CellMakes', WHERE WHAT IT READS IS OF BULK AT MOST 1048576: true; the input reads as it did. -/
def cellMakesUptoRow : OpenClaim := { program := "ytkhhjibpppmekaa", sum := "06e146b5b97bd12ab67b776f4e828c2fe6c7d891699ea76626d2e03a2eb4ac28", func := "fieldfare/fieldfarelaw09.CellMakes", spec := "cellMakes", inPlace := ["math/bits.Add64"], named := ["math/bits.divideError", "math/bits.overflowError"], apart := false, narrowed := true }
def CellMakesUptoSaid : Prop := cellMakesUptoRow.holds Try.pinned (OpenSpec.upto cellMakesSpec)

/-- 'fieldfarelaw09.CellCompares', WHERE WHAT IT READS IS OF BULK AT MOST 1048576: true; the input reads as it did. -/
def cellComparesUptoRow : OpenClaim := { program := "ytkhhjibpppmekaa", sum := "06e146b5b97bd12ab67b776f4e828c2fe6c7d891699ea76626d2e03a2eb4ac28", func := "fieldfare/fieldfarelaw09.CellCompares", spec := "cellCompares", inPlace := ["math/bits.Add64"], named := ["math/bits.divideError", "math/bits.overflowError"], apart := false, narrowed := true }
def CellComparesUptoSaid : Prop := cellComparesUptoRow.holds Try.pinned (OpenSpec.upto cellComparesSpec)

/-- 'fieldfarelaw09.CellOrders', WHERE WHAT IT READS IS OF BULK AT MOST 1048576: true; the input reads as it did. -/
def cellOrdersUptoRow : OpenClaim := { program := "ytkhhjibpppmekaa", sum := "06e146b5b97bd12ab67b776f4e828c2fe6c7d891699ea76626d2e03a2eb4ac28", func := "fieldfare/fieldfarelaw09.CellOrders", spec := "cellOrders", inPlace := ["math/bits.Add64"], named := ["math/bits.divideError", "math/bits.overflowError"], apart := false, narrowed := true }
def CellOrdersUptoSaid : Prop := cellOrdersUptoRow.holds Try.pinned (OpenSpec.upto cellOrdersSpec)

/-- 'fieldfarelaw09.CellTexts', WHERE WHAT IT READS IS OF BULK AT MOST 1048576: true; the input reads as it did. -/
def cellTextsUptoRow : OpenClaim := { program := "ytkhhjibpppmekaa", sum := "06e146b5b97bd12ab67b776f4e828c2fe6c7d891699ea76626d2e03a2eb4ac28", func := "fieldfare/fieldfarelaw09.CellTexts", spec := "cellTexts", inPlace := ["math/bits.Add64"], named := ["math/bits.divideError", "math/bits.overflowError"], apart := false, narrowed := true }
def CellTextsUptoSaid : Prop := cellTextsUptoRow.holds Try.pinned (OpenSpec.upto cellTextsSpec)

/-- 'fieldfarelaw09.CellSizes', WHERE WHAT IT READS IS OF BULK AT MOST 1048576: true; the input reads as it did. -/
def cellSizesUptoRow : OpenClaim := { program := "ytkhhjibpppmekaa", sum := "06e146b5b97bd12ab67b776f4e828c2fe6c7d891699ea76626d2e03a2eb4ac28", func := "fieldfare/fieldfarelaw09.CellSizes", spec := "cellSizes", inPlace := ["math/bits.Add64"], named := ["math/bits.divideError", "math/bits.overflowError"], apart := false, narrowed := true }
def CellSizesUptoSaid : Prop := cellSizesUptoRow.holds Try.pinned (OpenSpec.upto cellSizesSpec)

/-- 'fieldfarelaw09.CellInputs', WHERE WHAT IT READS IS OF BULK AT MOST 1048576: true; the input reads as it did. -/
def cellInputsUptoRow : OpenClaim := { program := "ytkhhjibpppmekaa", sum := "06e146b5b97bd12ab67b776f4e828c2fe6c7d891699ea76626d2e03a2eb4ac28", func := "fieldfare/fieldfarelaw09.CellInputs", spec := "cellInputs", inPlace := ["math/bits.Add64", "internal/reflectlite.TypeOf"], unfollowed := true, recurses := true, named := ["math/bits.divideError", "math/bits.overflowError"], apart := false, narrowed := true }
def CellInputsUptoSaid : Prop := cellInputsUptoRow.holds Try.pinned (OpenSpec.upto cellInputsSpec)

/-- 'fieldfarelaw09.CellTells', WHERE WHAT IT READS IS OF BULK AT MOST 1048576: true; the input reads as it did. -/
def cellTellsUptoRow : OpenClaim := { program := "ytkhhjibpppmekaa", sum := "06e146b5b97bd12ab67b776f4e828c2fe6c7d891699ea76626d2e03a2eb4ac28", func := "fieldfare/fieldfarelaw09.CellTells", spec := "cellTells", inPlace := ["math/bits.Add64", "internal/reflectlite.TypeOf"], unfollowed := true, recurses := true, named := ["math/bits.divideError", "math/bits.overflowError"], apart := false, narrowed := true }
def CellTellsUptoSaid : Prop := cellTellsUptoRow.holds Try.pinned (OpenSpec.upto cellTellsSpec)

/-- 'fieldfarelaw15.CodeMore', WHERE WHAT IT READS IS OF BULK AT MOST 1048576: true; the input reads as it did. -/
def codeMoreUptoRow : OpenClaim := { program := "ytkhhjibpppmekaa", sum := "06e146b5b97bd12ab67b776f4e828c2fe6c7d891699ea76626d2e03a2eb4ac28", func := "fieldfare/fieldfarelaw15.CodeMore", spec := "codeMore", unfollowed := true, recurses := true, apart := false, narrowed := true }
def CodeMoreUptoSaid : Prop := codeMoreUptoRow.holds Try.pinned (OpenSpec.upto codeMoreSpec)

/-- 'fieldfarelaw15.CodeRows', WHERE WHAT IT READS IS OF BULK AT MOST 1048576: true; the input reads as it did. -/
def codeRowsUptoRow : OpenClaim := { program := "ytkhhjibpppmekaa", sum := "06e146b5b97bd12ab67b776f4e828c2fe6c7d891699ea76626d2e03a2eb4ac28", func := "fieldfare/fieldfarelaw15.CodeRows", spec := "codeRows", unfollowed := true, recurses := true, apart := false, narrowed := true }
def CodeRowsUptoSaid : Prop := codeRowsUptoRow.holds Try.pinned (OpenSpec.upto codeRowsSpec)

end Rows
end Go.Proofs.Ytkhhjibpppmekaa
