/- The table of 73, in pieces (printed by genL.py). -/
import Derived.Test.YtbeooboebfbchaaGreatDoorM23
set_option linter.unusedVariables false
set_option linter.unusedSimpArgs false
namespace Go.Proofs.YtbeooboebfbchaaGreatDoor.Am
open Go
set_option maxRecDepth 100000
theorem k73_18 : ((tab73.drop (1 * 18)).take 1).all (chk (GamT []) 1000 73) = true := by kernel_rfl
theorem k73_19 : ((tab73.drop (1 * 19)).take 1).all (chk (GamT []) 1000 73) = true := by kernel_rfl
theorem k73_20 : ((tab73.drop (1 * 20)).take 1).all (chk (GamT []) 1000 73) = true := by kernel_rfl
theorem k73_21 : ((tab73.drop (1 * 21)).take 1).all (chk (GamT []) 1000 73) = true := by kernel_rfl
theorem k73_22 : ((tab73.drop (1 * 22)).take 1).all (chk (GamT []) 1000 73) = true := by kernel_rfl
theorem k73_23 : ((tab73.drop (1 * 23)).take 1).all (chk (GamT []) 1000 73) = true := by kernel_rfl
theorem k73_24 : ((tab73.drop (1 * 24)).take 1).all (chk (GamT []) 1000 73) = true := by kernel_rfl
theorem k73_25 : ((tab73.drop (1 * 25)).take 1).all (chk (GamT []) 1000 73) = true := by kernel_rfl
theorem k73_26 : ((tab73.drop (1 * 26)).take 1).all (chk (GamT []) 1000 73) = true := by kernel_rfl
end Go.Proofs.YtbeooboebfbchaaGreatDoor.Am
