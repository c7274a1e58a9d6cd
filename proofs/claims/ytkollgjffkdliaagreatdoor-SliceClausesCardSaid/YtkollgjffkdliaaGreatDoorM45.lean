/- The y8v of SliceClauses out of the abstract machine's answer -/
import Derived.Test.YtkollgjffkdliaaGreatDoorM43
import Derived.Test.YtkollgjffkdliaaGreatDoorM44
set_option linter.all false
namespace Go.Proofs.YtkollgjffkdliaaGreatDoor.Am
open Go Go.ChangeShapes Go.WideShapes Go.ChangeAt Go.RowKit
theorem y8v (hA:x2q):Rows.SliceClausesCardSaid:=
 Claim7.holds_tied_plain_at .later [] _ _ _ _ (g0a hA) (fun _ h=>by cases h) u6n (fun _ h=>by cases h) sliceClauses_row_tie rfl ⟨rfl,rfl⟩ (by kernel_rfl) rfl k7m u6o
end Go.Proofs.YtkollgjffkdliaaGreatDoor.Am
