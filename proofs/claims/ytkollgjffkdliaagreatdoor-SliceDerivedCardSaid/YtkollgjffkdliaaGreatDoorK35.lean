/- Closed facts of SliceDerived -/
import Derived.Test.YtkollgjffkdliaaGreatDoorK33
set_option linter.all false
namespace Go.Proofs.YtkollgjffkdliaaGreatDoor.Am
open Go Go.ChangeShapes Go.WideShapes Go.ChangeAt Go.RowKit
set_option maxHeartbeats 0 in
set_option maxRecDepth 100000 in
theorem j2k:joinedFacts Tryz.prog 3 Tryz.f3 (OpenSpec.ofChange Rows.sliceDerivedSpec).bare Rows.sliceDerivedRow=true:=by
 unfold joinedFacts
 repeat' (with_reducible refine Bool.and_eq_true_iff.2 ⟨?_, ?_⟩)
 all_goals (as_aux_lemma=>kernel_rfl)
end Go.Proofs.YtkollgjffkdliaaGreatDoor.Am
