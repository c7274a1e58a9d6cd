/- The entries of the tables of awake, 4 -/
import Derived.Test.YtkollgjffkdliaaGreatDoorM08
set_option linter.all false
namespace Go.Proofs.YtkollgjffkdliaaGreatDoor.Am
open Go
set_option maxRecDepth 100000
section
open Tw
theorem y0n:chk (z2j []) 1000 144 v5q=true:=by kernel_rfl
theorem w0w:chk (z2j []) 1000 144 k3a=true:=by kernel_rfl
theorem u3e:chk (z2j []) 1000 20 w9i=true:=by kernel_rfl
end
end Go.Proofs.YtkollgjffkdliaaGreatDoor.Am
