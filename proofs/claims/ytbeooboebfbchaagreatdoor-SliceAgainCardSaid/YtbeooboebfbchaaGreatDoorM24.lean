/- The table of 73, in pieces (printed by genL.py). -/
import Derived.Test.YtbeooboebfbchaaGreatDoorM23
set_option linter.unusedVariables false
set_option linter.unusedSimpArgs false
namespace Go.Proofs.YtbeooboebfbchaaGreatDoor.Am
open Go
set_option maxRecDepth 100000
theorem k73_0 : ((tab73.drop (1 * 0)).take 1).all (chk (GamT []) 1000 73) = true := by kernel_rfl
theorem k73_1 : ((tab73.drop (1 * 1)).take 1).all (chk (GamT []) 1000 73) = true := by kernel_rfl
theorem k73_2 : ((tab73.drop (1 * 2)).take 1).all (chk (GamT []) 1000 73) = true := by kernel_rfl
theorem k73_3 : ((tab73.drop (1 * 3)).take 1).all (chk (GamT []) 1000 73) = true := by kernel_rfl
theorem k73_4 : ((tab73.drop (1 * 4)).take 1).all (chk (GamT []) 1000 73) = true := by kernel_rfl
theorem k73_5 : ((tab73.drop (1 * 5)).take 1).all (chk (GamT []) 1000 73) = true := by kernel_rfl
theorem k73_6 : ((tab73.drop (1 * 6)).take 1).all (chk (GamT []) 1000 73) = true := by kernel_rfl
theorem k73_7 : ((tab73.drop (1 * 7)).take 1).all (chk (GamT []) 1000 73) = true := by kernel_rfl
theorem k73_8 : ((tab73.drop (1 * 8)).take 1).all (chk (GamT []) 1000 73) = true := by kernel_rfl
end Go.Proofs.YtbeooboebfbchaaGreatDoor.Am
