/- The entries of the tables of awake, 3 (printed by genL.py). -/
import Derived.Test.YtbeooboebfbchaaGreatDoorM17
set_option linter.unusedVariables false
set_option linter.unusedSimpArgs false
namespace Go.Proofs.YtbeooboebfbchaaGreatDoor.Am
open Go
set_option maxRecDepth 100000
section
open Tw
theorem k24_0 : chk (GamT []) 1000 24 r24_0 = true := by kernel_rfl
theorem k223_0 : chk (GamT tw1) 1000 223 r223_0 = true := by kernel_rfl
theorem k223_1 : chk (GamT tw1) 1000 223 r223_1 = true := by kernel_rfl
theorem k223_2 : chk (GamT tw1) 1000 223 r223_2 = true := by kernel_rfl
theorem k223_3 : chk (GamT tw1) 1000 223 r223_3 = true := by kernel_rfl
theorem k223_4 : chk (GamT tw1) 1000 223 r223_4 = true := by kernel_rfl
theorem k223_5 : chk (GamT tw1) 1000 223 r223_5 = true := by kernel_rfl
theorem k223_6 : chk (GamT tw1) 1000 223 r223_6 = true := by kernel_rfl
theorem k108_0 : chk (GamT tw1) 1000 108 r108_0 = true := by kernel_rfl
theorem k108_1 : chk (GamT tw1) 1000 108 r108_1 = true := by kernel_rfl
theorem k28_0 : chk (GamT tw1) 1000 28 r28_0 = true := by kernel_rfl
theorem k28_1 : chk (GamT tw1) 1000 28 r28_1 = true := by kernel_rfl
theorem k28_2 : chk (GamT tw1) 1000 28 r28_2 = true := by kernel_rfl
theorem k28_3 : chk (GamT tw1) 1000 28 r28_3 = true := by kernel_rfl
end
end Go.Proofs.YtbeooboebfbchaaGreatDoor.Am
