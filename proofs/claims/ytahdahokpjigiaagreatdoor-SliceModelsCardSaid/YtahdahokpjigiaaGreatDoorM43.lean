/- The y1n of SliceModels out of the abstract machine's answer -/
import Derived.Test.YtahdahokpjigiaaGreatDoorM41
import Derived.Test.YtahdahokpjigiaaGreatDoorM42
set_option linter.all false
namespace Go.Proofs.YtahdahokpjigiaaGreatDoor.Am
open Go Go.ChangeShapes Go.WideShapes Go.ChangeAt Go.RowKit
theorem y1n (hA:x0w):Rows.SliceModelsCardSaid:=
 Claim7.holds_tied_plain_at .later [] _ _ _ _ (u2r hA) (fun _ h=>by cases h) y8y (fun _ h=>by cases h) sliceModels_row_tie rfl ⟨rfl,rfl⟩ (by kernel_rfl) rfl k3k y8z
end Go.Proofs.YtahdahokpjigiaaGreatDoor.Am
