/- The entries of the tables of awake, 7 -/
import Derived.Test.YtkollgjffkdliaaGreatDoorM08
set_option linter.all false
namespace Go.Proofs.YtkollgjffkdliaaGreatDoor.Am
open Go
set_option maxRecDepth 100000
section
open Tw
theorem y0z:chk (z2j tw2) 1000 143 v6c=true:=by kernel_rfl
theorem y1a:chk (z2j tw2) 1000 143 v6d=true:=by kernel_rfl
end
end Go.Proofs.YtkollgjffkdliaaGreatDoor.Am
