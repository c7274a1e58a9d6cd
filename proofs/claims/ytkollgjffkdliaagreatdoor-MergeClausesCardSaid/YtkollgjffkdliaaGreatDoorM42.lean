/- The u1b of MergeClauses out of the abstract machine's answer -/
import Derived.Test.YtkollgjffkdliaaGreatDoorM40
import Derived.Test.YtkollgjffkdliaaGreatDoorM41
set_option linter.all false
namespace Go.Proofs.YtkollgjffkdliaaGreatDoor.Am
open Go Go.ChangeShapes Go.WideShapes Go.ChangeAt Go.RowKit
theorem u1b (hA:x2l):Rows.MergeClausesCardSaid:=
 Claim7.holds_tied_plain_at .later [] _ _ _ _ (g2b hA) (fun _ h=>by cases h) u8r (fun _ h=>by cases h) mergeClauses_row_tie rfl ⟨rfl,rfl⟩ (by kernel_rfl) rfl k6z u8s
end Go.Proofs.YtkollgjffkdliaaGreatDoor.Am
