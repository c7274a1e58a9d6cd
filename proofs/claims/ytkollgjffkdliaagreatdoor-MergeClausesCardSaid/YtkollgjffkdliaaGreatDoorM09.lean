/- The entries of the tables of awake, 1 -/
import Derived.Test.YtkollgjffkdliaaGreatDoorM08
set_option linter.all false
namespace Go.Proofs.YtkollgjffkdliaaGreatDoor.Am
open Go
set_option maxRecDepth 100000
section
open Tw
theorem u2s:chk (z2j []) 1000 77 w8w=true:=by kernel_rfl
end
end Go.Proofs.YtkollgjffkdliaaGreatDoor.Am
