/- The table of 188, in pieces (printed by genL.py). -/
import Derived.Test.YtbeooboebfbchaaGreatDoorM23
set_option linter.unusedVariables false
set_option linter.unusedSimpArgs false
namespace Go.Proofs.YtbeooboebfbchaaGreatDoor.Am
open Go
set_option maxRecDepth 100000
theorem k188_24 : ((tab188.drop (1 * 24)).take 1).all (chk (GamT []) 1000 188) = true := by kernel_rfl
theorem k188_25 : ((tab188.drop (1 * 25)).take 1).all (chk (GamT []) 1000 188) = true := by kernel_rfl
theorem k188_26 : ((tab188.drop (1 * 26)).take 1).all (chk (GamT []) 1000 188) = true := by kernel_rfl
theorem k188_27 : ((tab188.drop (1 * 27)).take 1).all (chk (GamT []) 1000 188) = true := by kernel_rfl
theorem k188_28 : ((tab188.drop (1 * 28)).take 1).all (chk (GamT []) 1000 188) = true := by kernel_rfl
theorem k188_29 : ((tab188.drop (1 * 29)).take 1).all (chk (GamT []) 1000 188) = true := by kernel_rfl
theorem k188_30 : ((tab188.drop (1 * 30)).take 1).all (chk (GamT []) 1000 188) = true := by kernel_rfl
theorem k188_31 : ((tab188.drop (1 * 31)).take 1).all (chk (GamT []) 1000 188) = true := by kernel_rfl
theorem k188_32 : ((tab188.drop (1 * 32)).take 1).all (chk (GamT []) 1000 188) = true := by kernel_rfl
theorem k188_33 : ((tab188.drop (1 * 33)).take 1).all (chk (GamT []) 1000 188) = true := by kernel_rfl
theorem k188_34 : ((tab188.drop (1 * 34)).take 1).all (chk (GamT []) 1000 188) = true := by kernel_rfl
end Go.Proofs.YtbeooboebfbchaaGreatDoor.Am
