/- Proved: SliceAgain of chcsolverlaw18 returns true for every argument, as the card Rows.SliceAgainCardSaid states it; there is no condition beyond the card. -/
import Derived.Test.YtbeooboebfbchaaGreatDoorM50
import Derived.Test.YtbeooboebfbchaaGreatDoorM51
set_option linter.unusedVariables false
set_option linter.unusedSimpArgs false
namespace Go.Proofs.YtbeooboebfbchaaGreatDoor.Am
theorem sliceAgainCard : Rows.SliceAgainCardSaid := card answers
end Go.Proofs.YtbeooboebfbchaaGreatDoor.Am
