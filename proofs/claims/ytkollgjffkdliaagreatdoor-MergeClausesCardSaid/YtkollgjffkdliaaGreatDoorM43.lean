/- Proved: MergeClauses of chcsolverlaw22 returns true for every argument, as the u1b Rows.MergeClausesCardSaid states it; there is no condition beyond the u1b. -/
import Derived.Test.YtkollgjffkdliaaGreatDoorM38
import Derived.Test.YtkollgjffkdliaaGreatDoorM42
set_option linter.all false
namespace Go.Proofs.YtkollgjffkdliaaGreatDoor.Am
theorem mergeClausesCard:Rows.MergeClausesCardSaid:=u1b w6v
end Go.Proofs.YtkollgjffkdliaaGreatDoor.Am
