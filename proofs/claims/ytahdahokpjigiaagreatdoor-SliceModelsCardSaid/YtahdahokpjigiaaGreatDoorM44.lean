/- Proved: SliceModels of chcsolverlaw18 returns true for every argument, as the y1n Rows.SliceModelsCardSaid states it; there is no condition beyond the y1n. -/
import Derived.Test.YtahdahokpjigiaaGreatDoorM39
import Derived.Test.YtahdahokpjigiaaGreatDoorM43
set_option linter.all false
namespace Go.Proofs.YtahdahokpjigiaaGreatDoor.Am
theorem sliceModelsCard:Rows.SliceModelsCardSaid:=y1n v9v
end Go.Proofs.YtahdahokpjigiaaGreatDoor.Am
