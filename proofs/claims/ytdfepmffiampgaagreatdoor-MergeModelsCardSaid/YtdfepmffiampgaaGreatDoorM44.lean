/- Closed facts of MergeModels -/
import Derived.Test.YtdfepmffiampgaaGreatDoorM42
set_option linter.all false
namespace Go.Proofs.YtdfepmffiampgaaGreatDoor.Am
open Go Go.ChangeShapes Go.WideShapes Go.ChangeAt Go.RowKit
set_option maxHeartbeats 0 in
set_option maxRecDepth 100000 in
theorem j3b:joinedFacts Tryz.prog 3 Tryz.f3 (OpenSpec.ofChange Rows.mergeModelsSpec).bare Rows.mergeModelsRow=true:=by
 unfold joinedFacts
 repeat' (with_reducible refine Bool.and_eq_true_iff.2 ⟨?_, ?_⟩)
 all_goals (as_aux_lemma=>kernel_rfl)
end Go.Proofs.YtdfepmffiampgaaGreatDoor.Am
