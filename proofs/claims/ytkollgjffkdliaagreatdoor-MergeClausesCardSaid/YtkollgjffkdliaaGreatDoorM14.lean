/- The entries of the tables of awake, 6 -/
import Derived.Test.YtkollgjffkdliaaGreatDoorM08
set_option linter.all false
namespace Go.Proofs.YtkollgjffkdliaaGreatDoor.Am
open Go
set_option maxRecDepth 100000
section
open Tw
theorem y0x:chk (z2j tw1) 1000 141 v6a=true:=by kernel_rfl
theorem u3g:chk (z2j tw1) 1000 35 w9k=true:=by kernel_rfl
theorem u3h:chk (z2j tw1) 1000 35 w9l=true:=by kernel_rfl
theorem u3i:chk (z2j tw1) 1000 35 w9m=true:=by kernel_rfl
theorem u3j:chk (z2j tw1) 1000 35 w9n=true:=by kernel_rfl
theorem y0y:chk (z2j tw2) 1000 143 v6b=true:=by kernel_rfl
end
end Go.Proofs.YtkollgjffkdliaaGreatDoor.Am
