/- The entries of the tables of awake, 4 -/
import Derived.Test.YtkollgjffkdliaaGreatDoorM11
set_option linter.all false
namespace Go.Proofs.YtkollgjffkdliaaGreatDoor.Am
open Go
set_option maxRecDepth 100000
section
open Tw
theorem y0e:chk (z2o tw2) 1000 143 v6e=true:=by kernel_rfl
theorem y0f:chk (z2o tw2) 1000 143 v6f=true:=by kernel_rfl
theorem y0g:chk (z2o tw2) 1000 143 v6g=true:=by kernel_rfl
end
end Go.Proofs.YtkollgjffkdliaaGreatDoor.Am
