/- Proved: SliceClauses of chcsolverlaw18 returns true for every argument, as the y8v Rows.SliceClausesCardSaid states it; there is no condition beyond the y8v. -/
import Derived.Test.YtkollgjffkdliaaGreatDoorM41
import Derived.Test.YtkollgjffkdliaaGreatDoorM45
set_option linter.all false
namespace Go.Proofs.YtkollgjffkdliaaGreatDoor.Am
theorem sliceClausesCard:Rows.SliceClausesCardSaid:=y8v w6f
end Go.Proofs.YtkollgjffkdliaaGreatDoor.Am
