/- The entries of the tables of awake, 2 (printed by genL.py). -/
import Derived.Test.YtbeooboebfbchaaGreatDoorM17
set_option linter.unusedVariables false
set_option linter.unusedSimpArgs false
namespace Go.Proofs.YtbeooboebfbchaaGreatDoor.Am
open Go
set_option maxRecDepth 100000
section
open Tw
theorem k56_13 : chk (GamT []) 1000 56 r56_13 = true := by kernel_rfl
theorem k56_14 : chk (GamT []) 1000 56 r56_14 = true := by kernel_rfl
theorem k56_15 : chk (GamT []) 1000 56 r56_15 = true := by kernel_rfl
theorem k56_16 : chk (GamT []) 1000 56 r56_16 = true := by kernel_rfl
theorem k56_17 : chk (GamT []) 1000 56 r56_17 = true := by kernel_rfl
theorem k56_18 : chk (GamT []) 1000 56 r56_18 = true := by kernel_rfl
theorem k56_19 : chk (GamT []) 1000 56 r56_19 = true := by kernel_rfl
theorem k56_20 : chk (GamT []) 1000 56 r56_20 = true := by kernel_rfl
theorem k111_0 : chk (GamT []) 1000 111 r111_0 = true := by kernel_rfl
theorem k111_1 : chk (GamT []) 1000 111 r111_1 = true := by kernel_rfl
theorem k111_2 : chk (GamT []) 1000 111 r111_2 = true := by kernel_rfl
theorem k111_3 : chk (GamT []) 1000 111 r111_3 = true := by kernel_rfl
theorem k111_4 : chk (GamT []) 1000 111 r111_4 = true := by kernel_rfl
theorem k111_5 : chk (GamT []) 1000 111 r111_5 = true := by kernel_rfl
theorem k111_6 : chk (GamT []) 1000 111 r111_6 = true := by kernel_rfl
theorem k111_7 : chk (GamT []) 1000 111 r111_7 = true := by kernel_rfl
theorem k111_8 : chk (GamT []) 1000 111 r111_8 = true := by kernel_rfl
theorem k111_9 : chk (GamT []) 1000 111 r111_9 = true := by kernel_rfl
theorem k111_10 : chk (GamT []) 1000 111 r111_10 = true := by kernel_rfl
theorem k21_0 : chk (GamT []) 1000 21 r21_0 = true := by kernel_rfl
end
end Go.Proofs.YtbeooboebfbchaaGreatDoor.Am
