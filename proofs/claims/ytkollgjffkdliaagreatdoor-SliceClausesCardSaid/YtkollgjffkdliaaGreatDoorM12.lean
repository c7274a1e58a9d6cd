/- The entries of the tables of awake, 1 -/
import Derived.Test.YtkollgjffkdliaaGreatDoorM11
set_option linter.all false
namespace Go.Proofs.YtkollgjffkdliaaGreatDoor.Am
open Go
set_option maxRecDepth 100000
section
open Tw
theorem u0i:chk (z2o []) 1000 77 w8i=true:=by kernel_rfl
theorem u0j:chk (z2o []) 1000 78 w8j=true:=by kernel_rfl
theorem u0k:chk (z2o []) 1000 79 w8k=true:=by kernel_rfl
theorem u0l:chk (z2o []) 1000 79 w8l=true:=by kernel_rfl
theorem u0m:chk (z2o []) 1000 79 w8m=true:=by kernel_rfl
theorem u0n:chk (z2o []) 1000 79 w8n=true:=by kernel_rfl
theorem u0o:chk (z2o []) 1000 79 w8o=true:=by kernel_rfl
theorem u0p:chk (z2o []) 1000 79 w8p=true:=by kernel_rfl
theorem u0q:chk (z2o []) 1000 79 w8q=true:=by kernel_rfl
theorem u0r:chk (z2o []) 1000 79 w8r=true:=by kernel_rfl
theorem u0s:chk (z2o []) 1000 79 w8s=true:=by kernel_rfl
theorem u0t:chk (z2o []) 1000 79 w8t=true:=by kernel_rfl
theorem w9a:chk (z2o []) 1000 79 v5a=true:=by kernel_rfl
theorem w9b:chk (z2o []) 1000 79 v5b=true:=by kernel_rfl
theorem w9c:chk (z2o []) 1000 79 v5c=true:=by kernel_rfl
end
end Go.Proofs.YtkollgjffkdliaaGreatDoor.Am
