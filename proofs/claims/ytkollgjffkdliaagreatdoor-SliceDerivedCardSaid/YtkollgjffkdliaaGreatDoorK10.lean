/- The entries of the tables of awake, 2 -/
import Derived.Test.YtkollgjffkdliaaGreatDoorK08
set_option linter.all false
namespace Go.Proofs.YtkollgjffkdliaaGreatDoor.Am
open Go
set_option maxRecDepth 100000
section
open Tw
theorem w4w:chk (z2j []) 1000 79 v1m=true:=by kernel_rfl
theorem w4x:chk (z2j []) 1000 79 v1n=true:=by kernel_rfl
theorem w4y:chk (z2j []) 1000 79 v1o=true:=by kernel_rfl
theorem w4z:chk (z2j []) 1000 79 v1p=true:=by kernel_rfl
theorem w5a:chk (z2j []) 1000 79 v1q=true:=by kernel_rfl
theorem w5b:chk (z2j []) 1000 79 v1r=true:=by kernel_rfl
theorem w5c:chk (z2j []) 1000 79 v1s=true:=by kernel_rfl
theorem w5d:chk (z2j []) 1000 79 v1t=true:=by kernel_rfl
theorem w5e:chk (z2j []) 1000 144 v1u=true:=by kernel_rfl
theorem w5f:chk (z2j []) 1000 144 v1v=true:=by kernel_rfl
theorem w5g:chk (z2j []) 1000 144 v1w=true:=by kernel_rfl
theorem w5h:chk (z2j []) 1000 144 v1x=true:=by kernel_rfl
theorem w5i:chk (z2j []) 1000 144 v1y=true:=by kernel_rfl
theorem w5j:chk (z2j []) 1000 144 v1z=true:=by kernel_rfl
theorem w5k:chk (z2j []) 1000 144 v2a=true:=by kernel_rfl
theorem w5l:chk (z2j []) 1000 144 v2b=true:=by kernel_rfl
theorem w5m:chk (z2j []) 1000 144 v2c=true:=by kernel_rfl
theorem w5n:chk (z2j []) 1000 144 v2d=true:=by kernel_rfl
theorem v6j:chk (z2j []) 1000 144 k0r=true:=by kernel_rfl
theorem y5z:chk (z2j []) 1000 7 w4n=true:=by kernel_rfl
end
end Go.Proofs.YtkollgjffkdliaaGreatDoor.Am
