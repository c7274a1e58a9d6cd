/- Closed facts of SliceClauses -/
import Derived.Test.YtkollgjffkdliaaGreatDoorM40
set_option linter.all false
namespace Go.Proofs.YtkollgjffkdliaaGreatDoor.Am
open Go Go.ChangeShapes Go.WideShapes Go.ChangeAt Go.RowKit
set_option maxHeartbeats 0 in
set_option maxRecDepth 100000 in
theorem j4p:joinedFacts Tryz.prog 4 Tryz.f4 (OpenSpec.ofChange Rows.sliceClausesSpec).bare Rows.sliceClausesRow=true:=by
 unfold joinedFacts
 repeat' (with_reducible refine Bool.and_eq_true_iff.2 ⟨?_, ?_⟩)
 all_goals (as_aux_lemma=>kernel_rfl)
end Go.Proofs.YtkollgjffkdliaaGreatDoor.Am
