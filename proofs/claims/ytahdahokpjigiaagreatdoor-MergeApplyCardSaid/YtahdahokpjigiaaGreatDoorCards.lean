/-
  DERIVED. GIVEN WITH THE SEED: THE CARDS: each row of YtahdahokpjigiaaGreatDoorRows.lean that lists a variable, with what it lists TIED to the program's text (the seventh form; the later family's looks); each row that meets fmt, with fmt's text TOLD by the authors' own Lean function (tested against real Go, not proved from fmt's source: count such statements apart). THE CARD IS WHAT COUNTS. Prove the row's statement (the work); the ties are given (YtahdahokpjigiaaGreatDoorTie.lean); close each card by the builder's one call (the guide's Derived/Test/ToyasCard.lean, 'card_holds'). Laid BY PROGRAM, IN A SANDBOX (cutbox-door.mjs). By AI agents, Wed Nov 11 2026. No macro, syntax, notation, axiom, sorry.
-/
import Derived.Test.YtahdahokpjigiaaGreatDoorRows
import GoSem.ClaimSeven
namespace Go.Proofs.YtahdahokpjigiaaGreatDoor
namespace Rows

/-- THE TIED CARD OF 'chcsolverlaw22.MergeApply'. -/
def mergeApplyCard : Claim7 := { stood := { row := mergeApplyRow, standIns := [], harness := (true, "b6d4f45799a22efb8d1662f9a510ad2c89ae450a1aea55383dd2e4e8b9230d82"), looks := true }, kinds := [], alts := [], laidByText := true, laidKinds := [.data, .data, .data, .sentinel, .sentinel], laidTests := true, laidLooks := .later }
def MergeApplyCardSaid : Prop := Claim7.holds Tryz.pinned (.plain (OpenSpec.ofChange mergeApplySpec)) mergeApplyCard

/-- THE TIED CARD OF 'chcsolverlaw18.SliceClauses'. -/
def sliceClausesCard : Claim7 := { stood := { row := sliceClausesRow, standIns := [], harness := (true, "b6d4f45799a22efb8d1662f9a510ad2c89ae450a1aea55383dd2e4e8b9230d82"), looks := true }, kinds := [], alts := [], laidByText := true, laidKinds := [.data, .data, .data, .sentinel, .sentinel], laidTests := true, laidLooks := .later }
def SliceClausesCardSaid : Prop := Claim7.holds Tryz.pinned (.plain (OpenSpec.ofChange sliceClausesSpec)) sliceClausesCard

/-- THE TIED CARD OF 'chcsolverlaw18.SliceModels'. -/
def sliceModelsCard : Claim7 := { stood := { row := sliceModelsRow, standIns := [], harness := (true, "b6d4f45799a22efb8d1662f9a510ad2c89ae450a1aea55383dd2e4e8b9230d82"), looks := true }, kinds := [], alts := [], laidByText := true, laidKinds := [.data, .data, .data, .sentinel, .sentinel], laidTests := true, laidLooks := .later }
def SliceModelsCardSaid : Prop := Claim7.holds Tryz.pinned (.plain (OpenSpec.ofChange sliceModelsSpec)) sliceModelsCard

/-- THE TIED CARD OF 'chcsolverlaw22.MergeClauses'. -/
def mergeClausesCard : Claim7 := { stood := { row := mergeClausesRow, standIns := [], harness := (true, "b6d4f45799a22efb8d1662f9a510ad2c89ae450a1aea55383dd2e4e8b9230d82"), looks := true }, kinds := [], alts := [], laidByText := true, laidKinds := [.data, .data, .data, .sentinel, .sentinel], laidTests := true, laidLooks := .later }
def MergeClausesCardSaid : Prop := Claim7.holds Tryz.pinned (.plain (OpenSpec.ofChange mergeClausesSpec)) mergeClausesCard

/-- THE TIED CARD OF 'chcsolverlaw22.MergeModels'. -/
def mergeModelsCard : Claim7 := { stood := { row := mergeModelsRow, standIns := [], harness := (true, "b6d4f45799a22efb8d1662f9a510ad2c89ae450a1aea55383dd2e4e8b9230d82"), looks := true }, kinds := [], alts := [], laidByText := true, laidKinds := [.data, .data, .data, .sentinel, .sentinel], laidTests := true, laidLooks := .later }
def MergeModelsCardSaid : Prop := Claim7.holds Tryz.pinned (.plain (OpenSpec.ofChange mergeModelsSpec)) mergeModelsCard

/-- THE SECOND FORM's CARD OF 'chcsolverlaw22.MergeApply'. -/
def mergeApplyUptoCard : Claim7 := { stood := { row := mergeApplyUptoRow, standIns := [], harness := (true, "b6d4f45799a22efb8d1662f9a510ad2c89ae450a1aea55383dd2e4e8b9230d82"), looks := true }, kinds := [], alts := [], laidByText := true, laidKinds := [.data, .data, .data, .sentinel, .sentinel], laidTests := true, laidLooks := .later }
def MergeApplyUptoCardSaid : Prop := Claim7.holds Tryz.pinned (.plain (OpenSpec.upto mergeApplySpec)) mergeApplyUptoCard

/-- THE SECOND FORM's CARD OF 'chcsolverlaw18.SliceClauses'. -/
def sliceClausesUptoCard : Claim7 := { stood := { row := sliceClausesUptoRow, standIns := [], harness := (true, "b6d4f45799a22efb8d1662f9a510ad2c89ae450a1aea55383dd2e4e8b9230d82"), looks := true }, kinds := [], alts := [], laidByText := true, laidKinds := [.data, .data, .data, .sentinel, .sentinel], laidTests := true, laidLooks := .later }
def SliceClausesUptoCardSaid : Prop := Claim7.holds Tryz.pinned (.plain (OpenSpec.upto sliceClausesSpec)) sliceClausesUptoCard

/-- THE SECOND FORM's CARD OF 'chcsolverlaw18.SliceModels'. -/
def sliceModelsUptoCard : Claim7 := { stood := { row := sliceModelsUptoRow, standIns := [], harness := (true, "b6d4f45799a22efb8d1662f9a510ad2c89ae450a1aea55383dd2e4e8b9230d82"), looks := true }, kinds := [], alts := [], laidByText := true, laidKinds := [.data, .data, .data, .sentinel, .sentinel], laidTests := true, laidLooks := .later }
def SliceModelsUptoCardSaid : Prop := Claim7.holds Tryz.pinned (.plain (OpenSpec.upto sliceModelsSpec)) sliceModelsUptoCard

/-- THE SECOND FORM's CARD OF 'chcsolverlaw22.MergeClauses'. -/
def mergeClausesUptoCard : Claim7 := { stood := { row := mergeClausesUptoRow, standIns := [], harness := (true, "b6d4f45799a22efb8d1662f9a510ad2c89ae450a1aea55383dd2e4e8b9230d82"), looks := true }, kinds := [], alts := [], laidByText := true, laidKinds := [.data, .data, .data, .sentinel, .sentinel], laidTests := true, laidLooks := .later }
def MergeClausesUptoCardSaid : Prop := Claim7.holds Tryz.pinned (.plain (OpenSpec.upto mergeClausesSpec)) mergeClausesUptoCard

/-- THE SECOND FORM's CARD OF 'chcsolverlaw22.MergeModels'. -/
def mergeModelsUptoCard : Claim7 := { stood := { row := mergeModelsUptoRow, standIns := [], harness := (true, "b6d4f45799a22efb8d1662f9a510ad2c89ae450a1aea55383dd2e4e8b9230d82"), looks := true }, kinds := [], alts := [], laidByText := true, laidKinds := [.data, .data, .data, .sentinel, .sentinel], laidTests := true, laidLooks := .later }
def MergeModelsUptoCardSaid : Prop := Claim7.holds Tryz.pinned (.plain (OpenSpec.upto mergeModelsSpec)) mergeModelsUptoCard
end Rows
end Go.Proofs.YtahdahokpjigiaaGreatDoor
