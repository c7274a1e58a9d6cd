/- Proved: MergeApply of chcsolverlaw22 returns true for every argument, as the y1n Rows.MergeApplyCardSaid states it; there is no condition beyond the y1n. -/
import Derived.Test.YtahdahokpjigiaaGreatDoorM41
import Derived.Test.YtahdahokpjigiaaGreatDoorM45
set_option linter.all false
namespace Go.Proofs.YtahdahokpjigiaaGreatDoor.Am
theorem mergeApplyCard:Rows.MergeApplyCardSaid:=y1n v9v
end Go.Proofs.YtahdahokpjigiaaGreatDoor.Am
