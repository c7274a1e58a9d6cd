/- The entries of the tables of awake, 3 -/
import Derived.Test.YtmkblnlafljljaaGreatDoorM10
set_option linter.all false
namespace Go.Proofs.YtmkblnlafljljaaGreatDoor.Am
open Go
set_option maxRecDepth 100000
section
open Tw
theorem w8a:chk (z2g []) 1000 12 v7h=true:=by kernel_rfl
theorem v8h:chk (z2g tw1) 1000 188 k5n=true:=by kernel_rfl
theorem v8i:chk (z2g tw1) 1000 188 k5o=true:=by kernel_rfl
theorem v8j:chk (z2g tw1) 1000 188 k5p=true:=by kernel_rfl
theorem v8k:chk (z2g tw1) 1000 188 k5q=true:=by kernel_rfl
theorem v8l:chk (z2g tw1) 1000 188 k5r=true:=by kernel_rfl
theorem v8m:chk (z2g tw1) 1000 188 k5s=true:=by kernel_rfl
theorem v8n:chk (z2g tw1) 1000 188 k5t=true:=by kernel_rfl
theorem v8o:chk (z2g tw1) 1000 78 k5u=true:=by kernel_rfl
theorem v8p:chk (z2g tw1) 1000 78 k5v=true:=by kernel_rfl
theorem w8b:chk (z2g tw1) 1000 16 v7i=true:=by kernel_rfl
theorem w8c:chk (z2g tw1) 1000 16 v7j=true:=by kernel_rfl
theorem w8d:chk (z2g tw1) 1000 16 v7k=true:=by kernel_rfl
theorem w8e:chk (z2g tw1) 1000 16 v7l=true:=by kernel_rfl
end
end Go.Proofs.YtmkblnlafljljaaGreatDoor.Am
