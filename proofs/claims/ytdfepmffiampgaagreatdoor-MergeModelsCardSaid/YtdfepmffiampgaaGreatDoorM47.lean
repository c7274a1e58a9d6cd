/- The y7z of MergeModels out of the abstract machine's answer -/
import Derived.Test.YtdfepmffiampgaaGreatDoorM45
import Derived.Test.YtdfepmffiampgaaGreatDoorM46
set_option linter.all false
namespace Go.Proofs.YtdfepmffiampgaaGreatDoor.Am
open Go Go.ChangeShapes Go.WideShapes Go.ChangeAt Go.RowKit
theorem y7z (hA:x1q):Rows.MergeModelsCardSaid:=
 Claim7.holds_tied_plain_at .later [] _ _ _ _ (u9p hA) (fun _ h=>by cases h) u5v (fun _ h=>by cases h) mergeModels_row_tie rfl ⟨rfl,rfl⟩ (by kernel_rfl) rfl k5k u5w
end Go.Proofs.YtdfepmffiampgaaGreatDoor.Am
