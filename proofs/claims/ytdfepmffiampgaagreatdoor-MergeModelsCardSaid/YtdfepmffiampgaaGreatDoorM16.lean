/- The entries of the tables of awake, 6 -/
import Derived.Test.YtdfepmffiampgaaGreatDoorM10
set_option linter.all false
namespace Go.Proofs.YtdfepmffiampgaaGreatDoor.Am
open Go
set_option maxRecDepth 100000
section
open Tw
theorem w8e:chk (z2n tw1) 1000 145 v3t=true:=by kernel_rfl
theorem u0h:chk (z2n tw1) 1000 44 w6r=true:=by kernel_rfl
theorem u0i:chk (z2n tw1) 1000 44 w6s=true:=by kernel_rfl
theorem u0j:chk (z2n tw1) 1000 44 w6t=true:=by kernel_rfl
theorem u0k:chk (z2n tw1) 1000 44 w6u=true:=by kernel_rfl
theorem w8f:chk (z2n tw2) 1000 147 v3u=true:=by kernel_rfl
end
end Go.Proofs.YtdfepmffiampgaaGreatDoor.Am
