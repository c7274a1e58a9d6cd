/- The entries of the tables of awake, 5 -/
import Derived.Test.YtkollgjffkdliaaGreatDoorK08
set_option linter.all false
namespace Go.Proofs.YtkollgjffkdliaaGreatDoor.Am
open Go
set_option maxRecDepth 100000
section
open Tw
theorem k19:chk (z2j tw3) 1000 10 ([], .bool true)=true:=by kernel_rfl
end
end Go.Proofs.YtkollgjffkdliaaGreatDoor.Am
