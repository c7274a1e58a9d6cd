/- The entries of the tables of awake, 8 -/
import Derived.Test.YtkollgjffkdliaaGreatDoorM08
set_option linter.all false
namespace Go.Proofs.YtkollgjffkdliaaGreatDoor.Am
open Go
set_option maxRecDepth 100000
section
open Tw
theorem k9:chk (z2j tw3) 1000 21 ([], .bool true)=true:=by kernel_rfl
end
end Go.Proofs.YtkollgjffkdliaaGreatDoor.Am
