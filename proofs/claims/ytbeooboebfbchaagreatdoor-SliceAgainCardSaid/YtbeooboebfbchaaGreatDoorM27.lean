/- The table of 188, in pieces (printed by genL.py). -/
import Derived.Test.YtbeooboebfbchaaGreatDoorM23
set_option linter.unusedVariables false
set_option linter.unusedSimpArgs false
namespace Go.Proofs.YtbeooboebfbchaaGreatDoor.Am
open Go
set_option maxRecDepth 100000
theorem k188_0 : ((tab188.drop (1 * 0)).take 1).all (chk (GamT []) 1000 188) = true := by kernel_rfl
theorem k188_1 : ((tab188.drop (1 * 1)).take 1).all (chk (GamT []) 1000 188) = true := by kernel_rfl
theorem k188_2 : ((tab188.drop (1 * 2)).take 1).all (chk (GamT []) 1000 188) = true := by kernel_rfl
theorem k188_3 : ((tab188.drop (1 * 3)).take 1).all (chk (GamT []) 1000 188) = true := by kernel_rfl
theorem k188_4 : ((tab188.drop (1 * 4)).take 1).all (chk (GamT []) 1000 188) = true := by kernel_rfl
theorem k188_5 : ((tab188.drop (1 * 5)).take 1).all (chk (GamT []) 1000 188) = true := by kernel_rfl
theorem k188_6 : ((tab188.drop (1 * 6)).take 1).all (chk (GamT []) 1000 188) = true := by kernel_rfl
theorem k188_7 : ((tab188.drop (1 * 7)).take 1).all (chk (GamT []) 1000 188) = true := by kernel_rfl
theorem k188_8 : ((tab188.drop (1 * 8)).take 1).all (chk (GamT []) 1000 188) = true := by kernel_rfl
theorem k188_9 : ((tab188.drop (1 * 9)).take 1).all (chk (GamT []) 1000 188) = true := by kernel_rfl
theorem k188_10 : ((tab188.drop (1 * 10)).take 1).all (chk (GamT []) 1000 188) = true := by kernel_rfl
theorem k188_11 : ((tab188.drop (1 * 11)).take 1).all (chk (GamT []) 1000 188) = true := by kernel_rfl
end Go.Proofs.YtbeooboebfbchaaGreatDoor.Am
