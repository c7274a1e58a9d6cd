/- The entries of the tables of awake, 7 -/
import Derived.Test.YtdfepmffiampgaaGreatDoorM10
set_option linter.all false
namespace Go.Proofs.YtdfepmffiampgaaGreatDoor.Am
open Go
set_option maxRecDepth 100000
section
open Tw
theorem w8g:chk (z2n tw2) 1000 147 v3v=true:=by kernel_rfl
theorem w8h:chk (z2n tw2) 1000 147 v3w=true:=by kernel_rfl
end
end Go.Proofs.YtdfepmffiampgaaGreatDoor.Am
