/- The entries of the tables of awake, 4 -/
import Derived.Test.YtmkblnlafljljaaGreatDoorM10
set_option linter.all false
namespace Go.Proofs.YtmkblnlafljljaaGreatDoor.Am
open Go
set_option maxRecDepth 100000
section
open Tw
theorem v8q:chk (z2g tw2) 1000 80 k5w=true:=by kernel_rfl
theorem v8r:chk (z2g tw2) 1000 80 k5x=true:=by kernel_rfl
theorem v8s:chk (z2g tw2) 1000 80 k5y=true:=by kernel_rfl
end
end Go.Proofs.YtmkblnlafljljaaGreatDoor.Am
