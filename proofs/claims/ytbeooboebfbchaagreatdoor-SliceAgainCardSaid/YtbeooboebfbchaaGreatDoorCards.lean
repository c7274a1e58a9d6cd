/-
  DERIVED. GIVEN WITH THE SEED: THE CARDS: each row of YtbeooboebfbchaaGreatDoorRows.lean that lists a variable, with what it lists TIED to the program's text (the seventh form; the later family's looks); each row that meets fmt, with fmt's text TOLD by the authors' own Lean function (tested against real Go, not proved from fmt's source: count such statements apart). THE CARD IS WHAT COUNTS. Prove the row's statement (the work); the ties are given (YtbeooboebfbchaaGreatDoorTie.lean); close each card by the builder's one call (the guide's Derived/Test/ToyasCard.lean, 'card_holds'). Laid BY PROGRAM, IN A SANDBOX (cutbox-door.mjs). By AI agents, Wed Nov 11 2026. No macro, syntax, notation, axiom, sorry.
-/
import Derived.Test.YtbeooboebfbchaaGreatDoorRows
import GoSem.ClaimSeven
namespace Go.Proofs.YtbeooboebfbchaaGreatDoor
namespace Rows

/-- THE TIED CARD OF 'chcsolverlaw22.MergeFind'. -/
def mergeFindCard : Claim7 := { stood := { row := mergeFindRow, standIns := [], harness := (true, "750cae9d8de4113112b96ab4b198e251421f08ddd0f3f8982f10f22fe9d4e369"), looks := true }, kinds := [], alts := [], laidByText := true, laidKinds := [.data, .data, .data, .sentinel, .sentinel], laidTests := true, laidLooks := .later }
def MergeFindCardSaid : Prop := Claim7.holds Tryz.pinned (.plain (OpenSpec.ofChange mergeFindSpec)) mergeFindCard

/-- THE TIED CARD OF 'chcsolverlaw22.MergeApply'. -/
def mergeApplyCard : Claim7 := { stood := { row := mergeApplyRow, standIns := [], harness := (true, "750cae9d8de4113112b96ab4b198e251421f08ddd0f3f8982f10f22fe9d4e369"), looks := true }, kinds := [], alts := [], laidByText := true, laidKinds := [.data, .data, .data, .sentinel, .sentinel], laidTests := true, laidLooks := .later }
def MergeApplyCardSaid : Prop := Claim7.holds Tryz.pinned (.plain (OpenSpec.ofChange mergeApplySpec)) mergeApplyCard

/-- THE TIED CARD OF 'chcsolverlaw18.SliceFind'. -/
def sliceFindCard : Claim7 := { stood := { row := sliceFindRow, standIns := [], harness := (true, "750cae9d8de4113112b96ab4b198e251421f08ddd0f3f8982f10f22fe9d4e369"), looks := true }, kinds := [], alts := [], laidByText := true, laidKinds := [.data, .data, .data, .sentinel, .sentinel], laidTests := true, laidLooks := .later }
def SliceFindCardSaid : Prop := Claim7.holds Tryz.pinned (.plain (OpenSpec.ofChange sliceFindSpec)) sliceFindCard

/-- THE TIED CARD OF 'chcsolverlaw18.SliceApply'. -/
def sliceApplyCard : Claim7 := { stood := { row := sliceApplyRow, standIns := [], harness := (true, "750cae9d8de4113112b96ab4b198e251421f08ddd0f3f8982f10f22fe9d4e369"), looks := true }, kinds := [], alts := [], laidByText := true, laidKinds := [.data, .data, .data, .sentinel, .sentinel], laidTests := true, laidLooks := .later }
def SliceApplyCardSaid : Prop := Claim7.holds Tryz.pinned (.plain (OpenSpec.ofChange sliceApplySpec)) sliceApplyCard

/-- THE TIED CARD OF 'chcsolverlaw18.SliceAgain'. -/
def sliceAgainCard : Claim7 := { stood := { row := sliceAgainRow, standIns := [], harness := (true, "750cae9d8de4113112b96ab4b198e251421f08ddd0f3f8982f10f22fe9d4e369"), looks := true }, kinds := [], alts := [], laidByText := true, laidKinds := [.data, .data, .data, .sentinel, .sentinel], laidTests := true, laidLooks := .later }
def SliceAgainCardSaid : Prop := Claim7.holds Tryz.pinned (.plain (OpenSpec.ofChange sliceAgainSpec)) sliceAgainCard

/-- THE SECOND FORM's CARD OF 'chcsolverlaw22.MergeFind'. -/
def mergeFindUptoCard : Claim7 := { stood := { row := mergeFindUptoRow, standIns := [], harness := (true, "750cae9d8de4113112b96ab4b198e251421f08ddd0f3f8982f10f22fe9d4e369"), looks := true }, kinds := [], alts := [], laidByText := true, laidKinds := [.data, .data, .data, .sentinel, .sentinel], laidTests := true, laidLooks := .later }
def MergeFindUptoCardSaid : Prop := Claim7.holds Tryz.pinned (.plain (OpenSpec.upto mergeFindSpec)) mergeFindUptoCard

/-- THE SECOND FORM's CARD OF 'chcsolverlaw22.MergeApply'. -/
def mergeApplyUptoCard : Claim7 := { stood := { row := mergeApplyUptoRow, standIns := [], harness := (true, "750cae9d8de4113112b96ab4b198e251421f08ddd0f3f8982f10f22fe9d4e369"), looks := true }, kinds := [], alts := [], laidByText := true, laidKinds := [.data, .data, .data, .sentinel, .sentinel], laidTests := true, laidLooks := .later }
def MergeApplyUptoCardSaid : Prop := Claim7.holds Tryz.pinned (.plain (OpenSpec.upto mergeApplySpec)) mergeApplyUptoCard

/-- THE SECOND FORM's CARD OF 'chcsolverlaw18.SliceFind'. -/
def sliceFindUptoCard : Claim7 := { stood := { row := sliceFindUptoRow, standIns := [], harness := (true, "750cae9d8de4113112b96ab4b198e251421f08ddd0f3f8982f10f22fe9d4e369"), looks := true }, kinds := [], alts := [], laidByText := true, laidKinds := [.data, .data, .data, .sentinel, .sentinel], laidTests := true, laidLooks := .later }
def SliceFindUptoCardSaid : Prop := Claim7.holds Tryz.pinned (.plain (OpenSpec.upto sliceFindSpec)) sliceFindUptoCard

/-- THE SECOND FORM's CARD OF 'chcsolverlaw18.SliceApply'. -/
def sliceApplyUptoCard : Claim7 := { stood := { row := sliceApplyUptoRow, standIns := [], harness := (true, "750cae9d8de4113112b96ab4b198e251421f08ddd0f3f8982f10f22fe9d4e369"), looks := true }, kinds := [], alts := [], laidByText := true, laidKinds := [.data, .data, .data, .sentinel, .sentinel], laidTests := true, laidLooks := .later }
def SliceApplyUptoCardSaid : Prop := Claim7.holds Tryz.pinned (.plain (OpenSpec.upto sliceApplySpec)) sliceApplyUptoCard

/-- THE SECOND FORM's CARD OF 'chcsolverlaw18.SliceAgain'. -/
def sliceAgainUptoCard : Claim7 := { stood := { row := sliceAgainUptoRow, standIns := [], harness := (true, "750cae9d8de4113112b96ab4b198e251421f08ddd0f3f8982f10f22fe9d4e369"), looks := true }, kinds := [], alts := [], laidByText := true, laidKinds := [.data, .data, .data, .sentinel, .sentinel], laidTests := true, laidLooks := .later }
def SliceAgainUptoCardSaid : Prop := Claim7.holds Tryz.pinned (.plain (OpenSpec.upto sliceAgainSpec)) sliceAgainUptoCard
end Rows
end Go.Proofs.YtbeooboebfbchaaGreatDoor
