/- The table of 73, in pieces (printed by genL.py). -/
import Derived.Test.YtbeooboebfbchaaGreatDoorM23
set_option linter.unusedVariables false
set_option linter.unusedSimpArgs false
namespace Go.Proofs.YtbeooboebfbchaaGreatDoor.Am
open Go
set_option maxRecDepth 100000
theorem k73_9 : ((tab73.drop (1 * 9)).take 1).all (chk (GamT []) 1000 73) = true := by kernel_rfl
theorem k73_10 : ((tab73.drop (1 * 10)).take 1).all (chk (GamT []) 1000 73) = true := by kernel_rfl
theorem k73_11 : ((tab73.drop (1 * 11)).take 1).all (chk (GamT []) 1000 73) = true := by kernel_rfl
theorem k73_12 : ((tab73.drop (1 * 12)).take 1).all (chk (GamT []) 1000 73) = true := by kernel_rfl
theorem k73_13 : ((tab73.drop (1 * 13)).take 1).all (chk (GamT []) 1000 73) = true := by kernel_rfl
theorem k73_14 : ((tab73.drop (1 * 14)).take 1).all (chk (GamT []) 1000 73) = true := by kernel_rfl
theorem k73_15 : ((tab73.drop (1 * 15)).take 1).all (chk (GamT []) 1000 73) = true := by kernel_rfl
theorem k73_16 : ((tab73.drop (1 * 16)).take 1).all (chk (GamT []) 1000 73) = true := by kernel_rfl
theorem k73_17 : ((tab73.drop (1 * 17)).take 1).all (chk (GamT []) 1000 73) = true := by kernel_rfl
end Go.Proofs.YtbeooboebfbchaaGreatDoor.Am
