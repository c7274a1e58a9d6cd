/- The entries of the tables of awake, 1 -/
import Derived.Test.YtmkblnlafljljaaGreatDoorM10
set_option linter.all false
namespace Go.Proofs.YtmkblnlafljljaaGreatDoor.Am
open Go
set_option maxRecDepth 100000
section
open Tw
theorem w7n:chk (z2g []) 1000 35 v6u=true:=by kernel_rfl
theorem w7o:chk (z2g []) 1000 36 v6v=true:=by kernel_rfl
theorem w7p:chk (z2g []) 1000 37 v6w=true:=by kernel_rfl
theorem w7q:chk (z2g []) 1000 37 v6x=true:=by kernel_rfl
theorem w7r:chk (z2g []) 1000 37 v6y=true:=by kernel_rfl
theorem w7s:chk (z2g []) 1000 37 v6z=true:=by kernel_rfl
theorem w7t:chk (z2g []) 1000 37 v7a=true:=by kernel_rfl
theorem w7u:chk (z2g []) 1000 37 v7b=true:=by kernel_rfl
theorem w7v:chk (z2g []) 1000 37 v7c=true:=by kernel_rfl
theorem w7w:chk (z2g []) 1000 37 v7d=true:=by kernel_rfl
theorem w7x:chk (z2g []) 1000 37 v7e=true:=by kernel_rfl
theorem w7y:chk (z2g []) 1000 37 v7f=true:=by kernel_rfl
theorem v7m:chk (z2g []) 1000 37 k4s=true:=by kernel_rfl
theorem v7n:chk (z2g []) 1000 37 k4t=true:=by kernel_rfl
theorem v7o:chk (z2g []) 1000 37 k4u=true:=by kernel_rfl
end
end Go.Proofs.YtmkblnlafljljaaGreatDoor.Am
