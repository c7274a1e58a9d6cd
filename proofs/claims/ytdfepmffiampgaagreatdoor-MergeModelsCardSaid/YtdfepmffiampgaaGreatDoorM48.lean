/- Proved: MergeModels of chcsolverlaw22 returns true for every argument, as the y7z Rows.MergeModelsCardSaid states it; there is no condition beyond the y7z. -/
import Derived.Test.YtdfepmffiampgaaGreatDoorM43
import Derived.Test.YtdfepmffiampgaaGreatDoorM47
set_option linter.all false
namespace Go.Proofs.YtdfepmffiampgaaGreatDoor.Am
theorem mergeModelsCard:Rows.MergeModelsCardSaid:=y7z w4c
end Go.Proofs.YtdfepmffiampgaaGreatDoor.Am
