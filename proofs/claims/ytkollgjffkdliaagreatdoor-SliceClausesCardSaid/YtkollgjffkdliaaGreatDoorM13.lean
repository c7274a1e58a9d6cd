/- The entries of the tables of awake, 2 -/
import Derived.Test.YtkollgjffkdliaaGreatDoorM11
set_option linter.all false
namespace Go.Proofs.YtkollgjffkdliaaGreatDoor.Am
open Go
set_option maxRecDepth 100000
section
open Tw
theorem w9d:chk (z2o []) 1000 79 v5d=true:=by kernel_rfl
theorem w9e:chk (z2o []) 1000 79 v5e=true:=by kernel_rfl
theorem w9f:chk (z2o []) 1000 79 v5f=true:=by kernel_rfl
theorem w9g:chk (z2o []) 1000 79 v5g=true:=by kernel_rfl
theorem w9h:chk (z2o []) 1000 79 v5h=true:=by kernel_rfl
theorem w9i:chk (z2o []) 1000 79 v5i=true:=by kernel_rfl
theorem w9j:chk (z2o []) 1000 79 v5j=true:=by kernel_rfl
theorem w9k:chk (z2o []) 1000 79 v5k=true:=by kernel_rfl
theorem w9l:chk (z2o []) 1000 144 v5l=true:=by kernel_rfl
theorem w9m:chk (z2o []) 1000 144 v5m=true:=by kernel_rfl
theorem w9n:chk (z2o []) 1000 144 v5n=true:=by kernel_rfl
theorem w9o:chk (z2o []) 1000 144 v5o=true:=by kernel_rfl
theorem w9p:chk (z2o []) 1000 144 v5p=true:=by kernel_rfl
theorem w9q:chk (z2o []) 1000 144 v5q=true:=by kernel_rfl
theorem w9r:chk (z2o []) 1000 144 v5r=true:=by kernel_rfl
theorem w9s:chk (z2o []) 1000 144 v5s=true:=by kernel_rfl
theorem w9t:chk (z2o []) 1000 144 v5t=true:=by kernel_rfl
theorem w9u:chk (z2o []) 1000 144 v5u=true:=by kernel_rfl
theorem w0i:chk (z2o []) 1000 144 k3d=true:=by kernel_rfl
theorem u0u:chk (z2o []) 1000 7 w8u=true:=by kernel_rfl
end
end Go.Proofs.YtkollgjffkdliaaGreatDoor.Am
