/- The entries of the tables of awake, 4 (printed by genL.py). -/
import Derived.Test.YtbeooboebfbchaaGreatDoorM17
set_option linter.unusedVariables false
set_option linter.unusedSimpArgs false
namespace Go.Proofs.YtbeooboebfbchaaGreatDoor.Am
open Go
set_option maxRecDepth 100000
section
open Tw
theorem k110_0 : chk (GamT tw2) 1000 110 r110_0 = true := by kernel_rfl
theorem k110_1 : chk (GamT tw2) 1000 110 r110_1 = true := by kernel_rfl
theorem k110_2 : chk (GamT tw2) 1000 110 r110_2 = true := by kernel_rfl
end
end Go.Proofs.YtbeooboebfbchaaGreatDoor.Am
