/- The entries of the tables of awake, 4 -/
import Derived.Test.YtdfepmffiampgaaGreatDoorM10
set_option linter.all false
namespace Go.Proofs.YtdfepmffiampgaaGreatDoor.Am
open Go
set_option maxRecDepth 100000
section
open Tw
theorem w7u:chk (z2n []) 1000 129 v3j=true:=by kernel_rfl
theorem v8j:chk (z2n []) 1000 129 k1n=true:=by kernel_rfl
theorem u0f:chk (z2n []) 1000 43 w6p=true:=by kernel_rfl
end
end Go.Proofs.YtdfepmffiampgaaGreatDoor.Am
