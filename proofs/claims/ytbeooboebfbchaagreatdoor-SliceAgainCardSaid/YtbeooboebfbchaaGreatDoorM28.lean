/- The table of 188, in pieces (printed by genL.py). -/
import Derived.Test.YtbeooboebfbchaaGreatDoorM23
set_option linter.unusedVariables false
set_option linter.unusedSimpArgs false
namespace Go.Proofs.YtbeooboebfbchaaGreatDoor.Am
open Go
set_option maxRecDepth 100000
theorem k188_12 : ((tab188.drop (1 * 12)).take 1).all (chk (GamT []) 1000 188) = true := by kernel_rfl
theorem k188_13 : ((tab188.drop (1 * 13)).take 1).all (chk (GamT []) 1000 188) = true := by kernel_rfl
theorem k188_14 : ((tab188.drop (1 * 14)).take 1).all (chk (GamT []) 1000 188) = true := by kernel_rfl
theorem k188_15 : ((tab188.drop (1 * 15)).take 1).all (chk (GamT []) 1000 188) = true := by kernel_rfl
theorem k188_16 : ((tab188.drop (1 * 16)).take 1).all (chk (GamT []) 1000 188) = true := by kernel_rfl
theorem k188_17 : ((tab188.drop (1 * 17)).take 1).all (chk (GamT []) 1000 188) = true := by kernel_rfl
theorem k188_18 : ((tab188.drop (1 * 18)).take 1).all (chk (GamT []) 1000 188) = true := by kernel_rfl
theorem k188_19 : ((tab188.drop (1 * 19)).take 1).all (chk (GamT []) 1000 188) = true := by kernel_rfl
theorem k188_20 : ((tab188.drop (1 * 20)).take 1).all (chk (GamT []) 1000 188) = true := by kernel_rfl
theorem k188_21 : ((tab188.drop (1 * 21)).take 1).all (chk (GamT []) 1000 188) = true := by kernel_rfl
theorem k188_22 : ((tab188.drop (1 * 22)).take 1).all (chk (GamT []) 1000 188) = true := by kernel_rfl
theorem k188_23 : ((tab188.drop (1 * 23)).take 1).all (chk (GamT []) 1000 188) = true := by kernel_rfl
end Go.Proofs.YtbeooboebfbchaaGreatDoor.Am
