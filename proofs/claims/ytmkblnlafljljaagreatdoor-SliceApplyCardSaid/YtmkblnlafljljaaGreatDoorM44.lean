/- Proved: SliceApply of chcsolverlaw18 returns true for every argument, as the w6n Rows.SliceApplyCardSaid states it; there is no condition beyond the w6n. -/
import Derived.Test.YtmkblnlafljljaaGreatDoorM42
import Derived.Test.YtmkblnlafljljaaGreatDoorM43
set_option linter.all false
namespace Go.Proofs.YtmkblnlafljljaaGreatDoor.Am
theorem sliceApplyCard:Rows.SliceApplyCardSaid:=w6n v4x
end Go.Proofs.YtmkblnlafljljaaGreatDoor.Am
