/- The entries of the tables of awake, 3 -/
import Derived.Test.YtdfepmffiampgaaGreatDoorM10
set_option linter.all false
namespace Go.Proofs.YtdfepmffiampgaaGreatDoor.Am
open Go
set_option maxRecDepth 100000
section
open Tw
theorem w6w:chk (z2n []) 1000 84 v2l=true:=by kernel_rfl
theorem w6x:chk (z2n []) 1000 84 v2m=true:=by kernel_rfl
theorem w6y:chk (z2n []) 1000 84 v2n=true:=by kernel_rfl
theorem w6z:chk (z2n []) 1000 84 v2o=true:=by kernel_rfl
theorem w7a:chk (z2n []) 1000 84 v2p=true:=by kernel_rfl
theorem w7b:chk (z2n []) 1000 84 v2q=true:=by kernel_rfl
theorem w7c:chk (z2n []) 1000 84 v2r=true:=by kernel_rfl
theorem w7d:chk (z2n []) 1000 84 v2s=true:=by kernel_rfl
theorem w7e:chk (z2n []) 1000 84 v2t=true:=by kernel_rfl
theorem w7f:chk (z2n []) 1000 84 v2u=true:=by kernel_rfl
theorem w7g:chk (z2n []) 1000 84 v2v=true:=by kernel_rfl
theorem w7h:chk (z2n []) 1000 84 v2w=true:=by kernel_rfl
theorem w7i:chk (z2n []) 1000 84 v2x=true:=by kernel_rfl
theorem w7j:chk (z2n []) 1000 84 v2y=true:=by kernel_rfl
theorem w7k:chk (z2n []) 1000 84 v2z=true:=by kernel_rfl
theorem w7l:chk (z2n []) 1000 129 v3a=true:=by kernel_rfl
theorem w7m:chk (z2n []) 1000 129 v3b=true:=by kernel_rfl
theorem w7n:chk (z2n []) 1000 129 v3c=true:=by kernel_rfl
theorem w7o:chk (z2n []) 1000 129 v3d=true:=by kernel_rfl
theorem w7p:chk (z2n []) 1000 129 v3e=true:=by kernel_rfl
theorem w7q:chk (z2n []) 1000 129 v3f=true:=by kernel_rfl
theorem w7r:chk (z2n []) 1000 129 v3g=true:=by kernel_rfl
theorem w7s:chk (z2n []) 1000 129 v3h=true:=by kernel_rfl
theorem w7t:chk (z2n []) 1000 129 v3i=true:=by kernel_rfl
end
end Go.Proofs.YtdfepmffiampgaaGreatDoor.Am
