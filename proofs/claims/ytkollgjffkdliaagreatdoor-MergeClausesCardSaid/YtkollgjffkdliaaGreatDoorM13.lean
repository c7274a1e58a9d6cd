/- The entries of the tables of awake, 5 -/
import Derived.Test.YtkollgjffkdliaaGreatDoorM08
set_option linter.all false
namespace Go.Proofs.YtkollgjffkdliaaGreatDoor.Am
open Go
set_option maxRecDepth 100000
section
open Tw
theorem u3f:chk (z2j []) 1000 22 w9j=true:=by kernel_rfl
theorem y0o:chk (z2j tw1) 1000 297 v5r=true:=by kernel_rfl
theorem y0p:chk (z2j tw1) 1000 297 v5s=true:=by kernel_rfl
theorem y0q:chk (z2j tw1) 1000 297 v5t=true:=by kernel_rfl
theorem y0r:chk (z2j tw1) 1000 297 v5u=true:=by kernel_rfl
theorem y0s:chk (z2j tw1) 1000 297 v5v=true:=by kernel_rfl
theorem y0t:chk (z2j tw1) 1000 297 v5w=true:=by kernel_rfl
theorem y0u:chk (z2j tw1) 1000 297 v5x=true:=by kernel_rfl
theorem y0v:chk (z2j tw1) 1000 141 v5y=true:=by kernel_rfl
theorem y0w:chk (z2j tw1) 1000 141 v5z=true:=by kernel_rfl
end
end Go.Proofs.YtkollgjffkdliaaGreatDoor.Am
