/- The entries of the tables of awake, 1 -/
import Derived.Test.YtkollgjffkdliaaGreatDoorK08
set_option linter.all false
namespace Go.Proofs.YtkollgjffkdliaaGreatDoor.Am
open Go
set_option maxRecDepth 100000
section
open Tw
theorem y5n:chk (z2j []) 1000 77 w4b=true:=by kernel_rfl
theorem y5o:chk (z2j []) 1000 78 w4c=true:=by kernel_rfl
theorem y5p:chk (z2j []) 1000 79 w4d=true:=by kernel_rfl
theorem y5q:chk (z2j []) 1000 79 w4e=true:=by kernel_rfl
theorem y5r:chk (z2j []) 1000 79 w4f=true:=by kernel_rfl
theorem y5s:chk (z2j []) 1000 79 w4g=true:=by kernel_rfl
theorem y5t:chk (z2j []) 1000 79 w4h=true:=by kernel_rfl
theorem y5u:chk (z2j []) 1000 79 w4i=true:=by kernel_rfl
theorem y5v:chk (z2j []) 1000 79 w4j=true:=by kernel_rfl
theorem y5w:chk (z2j []) 1000 79 w4k=true:=by kernel_rfl
theorem y5x:chk (z2j []) 1000 79 w4l=true:=by kernel_rfl
theorem y5y:chk (z2j []) 1000 79 w4m=true:=by kernel_rfl
theorem w4t:chk (z2j []) 1000 79 v1j=true:=by kernel_rfl
theorem w4u:chk (z2j []) 1000 79 v1k=true:=by kernel_rfl
theorem w4v:chk (z2j []) 1000 79 v1l=true:=by kernel_rfl
end
end Go.Proofs.YtkollgjffkdliaaGreatDoor.Am
