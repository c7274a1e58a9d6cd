/- The entries of the tables of awake, 2 -/
import Derived.Test.YtdfepmffiampgaaGreatDoorM10
set_option linter.all false
namespace Go.Proofs.YtdfepmffiampgaaGreatDoor.Am
open Go
set_option maxRecDepth 100000
section
open Tw
theorem y9u:chk (z2n []) 1000 83 w6e=true:=by kernel_rfl
theorem y9v:chk (z2n []) 1000 84 w6f=true:=by kernel_rfl
theorem y9w:chk (z2n []) 1000 84 w6g=true:=by kernel_rfl
theorem y9x:chk (z2n []) 1000 84 w6h=true:=by kernel_rfl
theorem y9y:chk (z2n []) 1000 84 w6i=true:=by kernel_rfl
theorem y9z:chk (z2n []) 1000 84 w6j=true:=by kernel_rfl
theorem u0a:chk (z2n []) 1000 84 w6k=true:=by kernel_rfl
theorem u0b:chk (z2n []) 1000 84 w6l=true:=by kernel_rfl
theorem u0c:chk (z2n []) 1000 84 w6m=true:=by kernel_rfl
theorem u0d:chk (z2n []) 1000 84 w6n=true:=by kernel_rfl
theorem u0e:chk (z2n []) 1000 84 w6o=true:=by kernel_rfl
theorem w6v:chk (z2n []) 1000 84 v2k=true:=by kernel_rfl
end
end Go.Proofs.YtdfepmffiampgaaGreatDoor.Am
