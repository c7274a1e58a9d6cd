/- The entries of the tables of awake, 5 -/
import Derived.Test.YtmkblnlafljljaaGreatDoorM10
set_option linter.all false
namespace Go.Proofs.YtmkblnlafljljaaGreatDoor.Am
open Go
set_option maxRecDepth 100000
section
open Tw
theorem k19:chk (z2g tw3) 1000 6 ([], .bool true)=true:=by kernel_rfl
end
end Go.Proofs.YtmkblnlafljljaaGreatDoor.Am
