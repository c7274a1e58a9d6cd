/- The entries of the tables of awake, 5 (printed by genL.py). -/
import Derived.Test.YtbeooboebfbchaaGreatDoorM17
set_option linter.unusedVariables false
set_option linter.unusedSimpArgs false
namespace Go.Proofs.YtbeooboebfbchaaGreatDoor.Am
open Go
set_option maxRecDepth 100000
section
open Tw
theorem k19 : chk (GamT tw3) 1000 19 ([], .bool true) = true := by kernel_rfl
end
end Go.Proofs.YtbeooboebfbchaaGreatDoor.Am
