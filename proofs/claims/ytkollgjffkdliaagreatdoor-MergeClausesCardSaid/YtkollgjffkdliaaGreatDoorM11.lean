/- The entries of the tables of awake, 3 -/
import Derived.Test.YtkollgjffkdliaaGreatDoorM08
set_option linter.all false
namespace Go.Proofs.YtkollgjffkdliaaGreatDoor.Am
open Go
set_option maxRecDepth 100000
section
open Tw
theorem w9p:chk (z2j []) 1000 79 v4s=true:=by kernel_rfl
theorem w9q:chk (z2j []) 1000 79 v4t=true:=by kernel_rfl
theorem w9r:chk (z2j []) 1000 79 v4u=true:=by kernel_rfl
theorem w9s:chk (z2j []) 1000 79 v4v=true:=by kernel_rfl
theorem w9t:chk (z2j []) 1000 79 v4w=true:=by kernel_rfl
theorem w9u:chk (z2j []) 1000 79 v4x=true:=by kernel_rfl
theorem w9v:chk (z2j []) 1000 79 v4y=true:=by kernel_rfl
theorem w9w:chk (z2j []) 1000 79 v4z=true:=by kernel_rfl
theorem w9x:chk (z2j []) 1000 79 v5a=true:=by kernel_rfl
theorem w9y:chk (z2j []) 1000 79 v5b=true:=by kernel_rfl
theorem w9z:chk (z2j []) 1000 79 v5c=true:=by kernel_rfl
theorem y0a:chk (z2j []) 1000 79 v5d=true:=by kernel_rfl
theorem y0b:chk (z2j []) 1000 79 v5e=true:=by kernel_rfl
theorem y0c:chk (z2j []) 1000 79 v5f=true:=by kernel_rfl
theorem y0d:chk (z2j []) 1000 79 v5g=true:=by kernel_rfl
theorem y0e:chk (z2j []) 1000 144 v5h=true:=by kernel_rfl
theorem y0f:chk (z2j []) 1000 144 v5i=true:=by kernel_rfl
theorem y0g:chk (z2j []) 1000 144 v5j=true:=by kernel_rfl
theorem y0h:chk (z2j []) 1000 144 v5k=true:=by kernel_rfl
theorem y0i:chk (z2j []) 1000 144 v5l=true:=by kernel_rfl
theorem y0j:chk (z2j []) 1000 144 v5m=true:=by kernel_rfl
theorem y0k:chk (z2j []) 1000 144 v5n=true:=by kernel_rfl
theorem y0l:chk (z2j []) 1000 144 v5o=true:=by kernel_rfl
theorem y0m:chk (z2j []) 1000 144 v5p=true:=by kernel_rfl
end
end Go.Proofs.YtkollgjffkdliaaGreatDoor.Am
