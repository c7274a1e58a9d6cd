/- The entries of the tables of awake, 1 (printed by genL.py). -/
import Derived.Test.YtbeooboebfbchaaGreatDoorM17
set_option linter.unusedVariables false
set_option linter.unusedSimpArgs false
namespace Go.Proofs.YtbeooboebfbchaaGreatDoor.Am
open Go
set_option maxRecDepth 100000
section
open Tw
theorem k54_0 : chk (GamT []) 1000 54 r54_0 = true := by kernel_rfl
theorem k55_0 : chk (GamT []) 1000 55 r55_0 = true := by kernel_rfl
theorem k56_0 : chk (GamT []) 1000 56 r56_0 = true := by kernel_rfl
theorem k56_1 : chk (GamT []) 1000 56 r56_1 = true := by kernel_rfl
theorem k56_2 : chk (GamT []) 1000 56 r56_2 = true := by kernel_rfl
theorem k56_3 : chk (GamT []) 1000 56 r56_3 = true := by kernel_rfl
theorem k56_4 : chk (GamT []) 1000 56 r56_4 = true := by kernel_rfl
theorem k56_5 : chk (GamT []) 1000 56 r56_5 = true := by kernel_rfl
theorem k56_6 : chk (GamT []) 1000 56 r56_6 = true := by kernel_rfl
theorem k56_7 : chk (GamT []) 1000 56 r56_7 = true := by kernel_rfl
theorem k56_8 : chk (GamT []) 1000 56 r56_8 = true := by kernel_rfl
theorem k56_9 : chk (GamT []) 1000 56 r56_9 = true := by kernel_rfl
theorem k56_10 : chk (GamT []) 1000 56 r56_10 = true := by kernel_rfl
theorem k56_11 : chk (GamT []) 1000 56 r56_11 = true := by kernel_rfl
theorem k56_12 : chk (GamT []) 1000 56 r56_12 = true := by kernel_rfl
end
end Go.Proofs.YtbeooboebfbchaaGreatDoor.Am
