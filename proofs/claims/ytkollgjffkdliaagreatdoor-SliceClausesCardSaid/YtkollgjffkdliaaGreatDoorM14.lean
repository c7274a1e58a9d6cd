/- The entries of the tables of awake, 3 -/
import Derived.Test.YtkollgjffkdliaaGreatDoorM11
set_option linter.all false
namespace Go.Proofs.YtkollgjffkdliaaGreatDoor.Am
open Go
set_option maxRecDepth 100000
section
open Tw
theorem u0v:chk (z2o []) 1000 12 w8v=true:=by kernel_rfl
theorem w9v:chk (z2o tw1) 1000 297 v5v=true:=by kernel_rfl
theorem w9w:chk (z2o tw1) 1000 297 v5w=true:=by kernel_rfl
theorem w9x:chk (z2o tw1) 1000 297 v5x=true:=by kernel_rfl
theorem w9y:chk (z2o tw1) 1000 297 v5y=true:=by kernel_rfl
theorem w9z:chk (z2o tw1) 1000 297 v5z=true:=by kernel_rfl
theorem y0a:chk (z2o tw1) 1000 297 v6a=true:=by kernel_rfl
theorem y0b:chk (z2o tw1) 1000 297 v6b=true:=by kernel_rfl
theorem y0c:chk (z2o tw1) 1000 141 v6c=true:=by kernel_rfl
theorem y0d:chk (z2o tw1) 1000 141 v6d=true:=by kernel_rfl
theorem u0w:chk (z2o tw1) 1000 35 w8w=true:=by kernel_rfl
theorem u0x:chk (z2o tw1) 1000 35 w8x=true:=by kernel_rfl
theorem u0y:chk (z2o tw1) 1000 35 w8y=true:=by kernel_rfl
theorem u0z:chk (z2o tw1) 1000 35 w8z=true:=by kernel_rfl
end
end Go.Proofs.YtkollgjffkdliaaGreatDoor.Am
