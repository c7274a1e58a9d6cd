/- The entries of the tables of awake, 4 -/
import Derived.Test.YtkollgjffkdliaaGreatDoorK08
set_option linter.all false
namespace Go.Proofs.YtkollgjffkdliaaGreatDoor.Am
open Go
set_option maxRecDepth 100000
section
open Tw
theorem w5x:chk (z2j tw2) 1000 143 v2n=true:=by kernel_rfl
theorem w5y:chk (z2j tw2) 1000 143 v2o=true:=by kernel_rfl
theorem w5z:chk (z2j tw2) 1000 143 v2p=true:=by kernel_rfl
end
end Go.Proofs.YtkollgjffkdliaaGreatDoor.Am
