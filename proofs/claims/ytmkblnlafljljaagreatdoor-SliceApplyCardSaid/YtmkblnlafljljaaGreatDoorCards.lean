/-
  DERIVED. GIVEN WITH THE SEED: THE CARDS: each row of YtmkblnlafljljaaGreatDoorRows.lean that lists a variable, with what it lists TIED to the program's text (the seventh form; the later family's looks); each row that meets fmt, with fmt's text TOLD by the authors' own Lean function (tested against real Go, not proved from fmt's source: count such statements apart). THE CARD IS WHAT COUNTS. Prove the row's statement (the work); the ties are given (YtmkblnlafljljaaGreatDoorTie.lean); close each card by the builder's one call (the guide's Derived/Test/ToyasCard.lean, 'card_holds'). Laid BY PROGRAM, IN A SANDBOX (cutbox-door.mjs). By AI agents, Wed Nov 11 2026. No macro, syntax, notation, axiom, sorry.
-/
import Derived.Test.YtmkblnlafljljaaGreatDoorRows
import GoSem.ClaimSeven
namespace Go.Proofs.YtmkblnlafljljaaGreatDoor
namespace Rows

/-- THE TIED CARD OF 'chcsolverlaw18.SliceFind'. -/
def sliceFindCard : Claim7 := { stood := { row := sliceFindRow, standIns := [], harness := (true, "47de9e450e79e12c979d11280c3ed2a4a3d32b6943609ec30d9a72a3f6a54498"), looks := true }, kinds := [], alts := [], laidByText := true, laidKinds := [.data, .data, .data, .sentinel, .sentinel], laidTests := true, laidLooks := .later }
def SliceFindCardSaid : Prop := Claim7.holds Tryz.pinned (.plain (OpenSpec.ofChange sliceFindSpec)) sliceFindCard

/-- THE TIED CARD OF 'chcsolverlaw18.SliceApply'. -/
def sliceApplyCard : Claim7 := { stood := { row := sliceApplyRow, standIns := [], harness := (true, "47de9e450e79e12c979d11280c3ed2a4a3d32b6943609ec30d9a72a3f6a54498"), looks := true }, kinds := [], alts := [], laidByText := true, laidKinds := [.data, .data, .data, .sentinel, .sentinel], laidTests := true, laidLooks := .later }
def SliceApplyCardSaid : Prop := Claim7.holds Tryz.pinned (.plain (OpenSpec.ofChange sliceApplySpec)) sliceApplyCard

/-- THE SECOND FORM's CARD OF 'chcsolverlaw18.SliceFind'. -/
def sliceFindUptoCard : Claim7 := { stood := { row := sliceFindUptoRow, standIns := [], harness := (true, "47de9e450e79e12c979d11280c3ed2a4a3d32b6943609ec30d9a72a3f6a54498"), looks := true }, kinds := [], alts := [], laidByText := true, laidKinds := [.data, .data, .data, .sentinel, .sentinel], laidTests := true, laidLooks := .later }
def SliceFindUptoCardSaid : Prop := Claim7.holds Tryz.pinned (.plain (OpenSpec.upto sliceFindSpec)) sliceFindUptoCard

/-- THE SECOND FORM's CARD OF 'chcsolverlaw18.SliceApply'. -/
def sliceApplyUptoCard : Claim7 := { stood := { row := sliceApplyUptoRow, standIns := [], harness := (true, "47de9e450e79e12c979d11280c3ed2a4a3d32b6943609ec30d9a72a3f6a54498"), looks := true }, kinds := [], alts := [], laidByText := true, laidKinds := [.data, .data, .data, .sentinel, .sentinel], laidTests := true, laidLooks := .later }
def SliceApplyUptoCardSaid : Prop := Claim7.holds Tryz.pinned (.plain (OpenSpec.upto sliceApplySpec)) sliceApplyUptoCard
end Rows
end Go.Proofs.YtmkblnlafljljaaGreatDoor
