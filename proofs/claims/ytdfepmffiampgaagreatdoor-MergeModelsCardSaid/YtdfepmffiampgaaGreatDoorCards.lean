/-
  DERIVED. GIVEN WITH THE SEED: THE CARDS: each row of YtdfepmffiampgaaGreatDoorRows.lean that lists a variable, with what it lists TIED to the program's text (the seventh form; the later family's looks); each row that meets fmt, with fmt's text TOLD by the authors' own Lean function (tested against real Go, not proved from fmt's source: count such statements apart). THE CARD IS WHAT COUNTS. Prove the row's statement (the work); the ties are given (YtdfepmffiampgaaGreatDoorTie.lean); close each card by the builder's one call (the guide's Derived/Test/ToyasCard.lean, 'card_holds'). Laid BY PROGRAM, IN A SANDBOX (cutbox-door.mjs). By AI agents, Wed Nov 11 2026. No macro, syntax, notation, axiom, sorry.
-/
import Derived.Test.YtdfepmffiampgaaGreatDoorRows
import GoSem.ClaimSeven
namespace Go.Proofs.YtdfepmffiampgaaGreatDoor
namespace Rows

/-- THE TIED CARD OF 'chcsolverlaw22.MergeModels'. -/
def mergeModelsCard : Claim7 := { stood := { row := mergeModelsRow, standIns := [], harness := (true, "1569b06f24bd59db176f71b2adcf9790a36d35c3bcafc63496122a553bd91819"), looks := true }, kinds := [], alts := [], laidByText := true, laidKinds := [.data, .data, .data, .sentinel, .sentinel], laidTests := true, laidLooks := .later }
def MergeModelsCardSaid : Prop := Claim7.holds Tryz.pinned (.plain (OpenSpec.ofChange mergeModelsSpec)) mergeModelsCard

/-- THE SECOND FORM's CARD OF 'chcsolverlaw22.MergeModels'. -/
def mergeModelsUptoCard : Claim7 := { stood := { row := mergeModelsUptoRow, standIns := [], harness := (true, "1569b06f24bd59db176f71b2adcf9790a36d35c3bcafc63496122a553bd91819"), looks := true }, kinds := [], alts := [], laidByText := true, laidKinds := [.data, .data, .data, .sentinel, .sentinel], laidTests := true, laidLooks := .later }
def MergeModelsUptoCardSaid : Prop := Claim7.holds Tryz.pinned (.plain (OpenSpec.upto mergeModelsSpec)) mergeModelsUptoCard
end Rows
end Go.Proofs.YtdfepmffiampgaaGreatDoor
