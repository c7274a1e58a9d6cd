/- The y4d of SliceDerived out of the abstract machine's answer -/
import Derived.Test.YtkollgjffkdliaaGreatDoorK36
import Derived.Test.YtkollgjffkdliaaGreatDoorK37
set_option linter.all false
namespace Go.Proofs.YtkollgjffkdliaaGreatDoor.Am
open Go Go.ChangeShapes Go.WideShapes Go.ChangeAt Go.RowKit
theorem y4d (hA:x1k):Rows.SliceDerivedCardSaid:=
 Claim7.holds_tied_plain_at .later [] _ _ _ _ (u4d hA) (fun _ h=>by cases h) u1f (fun _ h=>by cases h) sliceDerived_row_tie rfl ⟨rfl,rfl⟩ (by kernel_rfl) rfl k4j u1g
end Go.Proofs.YtkollgjffkdliaaGreatDoor.Am
