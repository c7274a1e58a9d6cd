/- The y1n of MergeApply out of the abstract machine's answer -/
import Derived.Test.YtahdahokpjigiaaGreatDoorM43
import Derived.Test.YtahdahokpjigiaaGreatDoorM44
set_option linter.all false
namespace Go.Proofs.YtahdahokpjigiaaGreatDoor.Am
open Go Go.ChangeShapes Go.WideShapes Go.ChangeAt Go.RowKit
theorem y1n (hA:x0w):Rows.MergeApplyCardSaid:=
 Claim7.holds_tied_plain_at .later [] _ _ _ _ (u2r hA) (fun _ h=>by cases h) y8y (fun _ h=>by cases h) mergeApply_row_tie rfl ⟨rfl,rfl⟩ (by kernel_rfl) rfl k3k y8z
end Go.Proofs.YtahdahokpjigiaaGreatDoor.Am
