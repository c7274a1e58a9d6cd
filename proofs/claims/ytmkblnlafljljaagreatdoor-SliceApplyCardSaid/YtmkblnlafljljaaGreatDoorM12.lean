/- The entries of the tables of awake, 2 -/
import Derived.Test.YtmkblnlafljljaaGreatDoorM10
set_option linter.all false
namespace Go.Proofs.YtmkblnlafljljaaGreatDoor.Am
open Go
set_option maxRecDepth 100000
section
open Tw
theorem v7p:chk (z2g []) 1000 37 k4v=true:=by kernel_rfl
theorem v7q:chk (z2g []) 1000 37 k4w=true:=by kernel_rfl
theorem v7r:chk (z2g []) 1000 37 k4x=true:=by kernel_rfl
theorem v7s:chk (z2g []) 1000 37 k4y=true:=by kernel_rfl
theorem v7t:chk (z2g []) 1000 37 k4z=true:=by kernel_rfl
theorem v7u:chk (z2g []) 1000 37 k5a=true:=by kernel_rfl
theorem v7v:chk (z2g []) 1000 37 k5b=true:=by kernel_rfl
theorem v7w:chk (z2g []) 1000 37 k5c=true:=by kernel_rfl
theorem v7x:chk (z2g []) 1000 81 k5d=true:=by kernel_rfl
theorem v7y:chk (z2g []) 1000 81 k5e=true:=by kernel_rfl
theorem v7z:chk (z2g []) 1000 81 k5f=true:=by kernel_rfl
theorem v8a:chk (z2g []) 1000 81 k5g=true:=by kernel_rfl
theorem v8b:chk (z2g []) 1000 81 k5h=true:=by kernel_rfl
theorem v8c:chk (z2g []) 1000 81 k5i=true:=by kernel_rfl
theorem v8d:chk (z2g []) 1000 81 k5j=true:=by kernel_rfl
theorem v8e:chk (z2g []) 1000 81 k5k=true:=by kernel_rfl
theorem v8f:chk (z2g []) 1000 81 k5l=true:=by kernel_rfl
theorem v8g:chk (z2g []) 1000 81 k5m=true:=by kernel_rfl
theorem k8v:chk (z2g []) 1000 81 j5l=true:=by kernel_rfl
theorem w7z:chk (z2g []) 1000 8 v7g=true:=by kernel_rfl
end
end Go.Proofs.YtmkblnlafljljaaGreatDoor.Am
