/-
  DERIVED. GIVEN WITH THE SEED: THE CARDS: each row of YtkollgjffkdliaaGreatDoorRows.lean that lists a variable, with what it lists TIED to the program's text (the seventh form; the later family's looks); each row that meets fmt, with fmt's text TOLD by the authors' own Lean function (tested against real Go, not proved from fmt's source: count such statements apart). THE CARD IS WHAT COUNTS. Prove the row's statement (the work); the ties are given (YtkollgjffkdliaaGreatDoorTie.lean); close each card by the builder's one call (the guide's Derived/Test/ToyasCard.lean, 'card_holds'). Laid BY PROGRAM, IN A SANDBOX (cutbox-door.mjs). By AI agents, Wed Nov 11 2026. No macro, syntax, notation, axiom, sorry.
-/
import Derived.Test.YtkollgjffkdliaaGreatDoorRows
import GoSem.ClaimSeven
namespace Go.Proofs.YtkollgjffkdliaaGreatDoor
namespace Rows

/-- THE TIED CARD OF 'chcsolverlaw18.SliceDerived'. -/
def sliceDerivedCard : Claim7 := { stood := { row := sliceDerivedRow, standIns := [], harness := (true, "1b44d324ce07000bfc55d17c2629adbe6c09617589f4b2efa31a9ad3bcc648cf"), looks := true }, kinds := [], alts := [], laidByText := true, laidKinds := [.data, .data, .data, .sentinel, .sentinel], laidTests := true, laidLooks := .later }
def SliceDerivedCardSaid : Prop := Claim7.holds Tryz.pinned (.plain (OpenSpec.ofChange sliceDerivedSpec)) sliceDerivedCard

/-- THE TIED CARD OF 'chcsolverlaw18.SliceClauses'. -/
def sliceClausesCard : Claim7 := { stood := { row := sliceClausesRow, standIns := [], harness := (true, "1b44d324ce07000bfc55d17c2629adbe6c09617589f4b2efa31a9ad3bcc648cf"), looks := true }, kinds := [], alts := [], laidByText := true, laidKinds := [.data, .data, .data, .sentinel, .sentinel], laidTests := true, laidLooks := .later }
def SliceClausesCardSaid : Prop := Claim7.holds Tryz.pinned (.plain (OpenSpec.ofChange sliceClausesSpec)) sliceClausesCard

/-- THE TIED CARD OF 'chcsolverlaw22.MergeClauses'. -/
def mergeClausesCard : Claim7 := { stood := { row := mergeClausesRow, standIns := [], harness := (true, "1b44d324ce07000bfc55d17c2629adbe6c09617589f4b2efa31a9ad3bcc648cf"), looks := true }, kinds := [], alts := [], laidByText := true, laidKinds := [.data, .data, .data, .sentinel, .sentinel], laidTests := true, laidLooks := .later }
def MergeClausesCardSaid : Prop := Claim7.holds Tryz.pinned (.plain (OpenSpec.ofChange mergeClausesSpec)) mergeClausesCard

/-- THE SECOND FORM's CARD OF 'chcsolverlaw18.SliceDerived'. -/
def sliceDerivedUptoCard : Claim7 := { stood := { row := sliceDerivedUptoRow, standIns := [], harness := (true, "1b44d324ce07000bfc55d17c2629adbe6c09617589f4b2efa31a9ad3bcc648cf"), looks := true }, kinds := [], alts := [], laidByText := true, laidKinds := [.data, .data, .data, .sentinel, .sentinel], laidTests := true, laidLooks := .later }
def SliceDerivedUptoCardSaid : Prop := Claim7.holds Tryz.pinned (.plain (OpenSpec.upto sliceDerivedSpec)) sliceDerivedUptoCard

/-- THE SECOND FORM's CARD OF 'chcsolverlaw18.SliceClauses'. -/
def sliceClausesUptoCard : Claim7 := { stood := { row := sliceClausesUptoRow, standIns := [], harness := (true, "1b44d324ce07000bfc55d17c2629adbe6c09617589f4b2efa31a9ad3bcc648cf"), looks := true }, kinds := [], alts := [], laidByText := true, laidKinds := [.data, .data, .data, .sentinel, .sentinel], laidTests := true, laidLooks := .later }
def SliceClausesUptoCardSaid : Prop := Claim7.holds Tryz.pinned (.plain (OpenSpec.upto sliceClausesSpec)) sliceClausesUptoCard

/-- THE SECOND FORM's CARD OF 'chcsolverlaw22.MergeClauses'. -/
def mergeClausesUptoCard : Claim7 := { stood := { row := mergeClausesUptoRow, standIns := [], harness := (true, "1b44d324ce07000bfc55d17c2629adbe6c09617589f4b2efa31a9ad3bcc648cf"), looks := true }, kinds := [], alts := [], laidByText := true, laidKinds := [.data, .data, .data, .sentinel, .sentinel], laidTests := true, laidLooks := .later }
def MergeClausesUptoCardSaid : Prop := Claim7.holds Tryz.pinned (.plain (OpenSpec.upto mergeClausesSpec)) mergeClausesUptoCard
end Rows
end Go.Proofs.YtkollgjffkdliaaGreatDoor
