/- The entries of the tables of awake, 2 -/
import Derived.Test.YtkollgjffkdliaaGreatDoorM08
set_option linter.all false
namespace Go.Proofs.YtkollgjffkdliaaGreatDoor.Am
open Go
set_option maxRecDepth 100000
section
open Tw
theorem u2t:chk (z2j []) 1000 78 w8x=true:=by kernel_rfl
theorem u2u:chk (z2j []) 1000 79 w8y=true:=by kernel_rfl
theorem u2v:chk (z2j []) 1000 79 w8z=true:=by kernel_rfl
theorem u2w:chk (z2j []) 1000 79 w9a=true:=by kernel_rfl
theorem u2x:chk (z2j []) 1000 79 w9b=true:=by kernel_rfl
theorem u2y:chk (z2j []) 1000 79 w9c=true:=by kernel_rfl
theorem u2z:chk (z2j []) 1000 79 w9d=true:=by kernel_rfl
theorem u3a:chk (z2j []) 1000 79 w9e=true:=by kernel_rfl
theorem u3b:chk (z2j []) 1000 79 w9f=true:=by kernel_rfl
theorem u3c:chk (z2j []) 1000 79 w9g=true:=by kernel_rfl
theorem u3d:chk (z2j []) 1000 79 w9h=true:=by kernel_rfl
theorem w9o:chk (z2j []) 1000 79 v4r=true:=by kernel_rfl
end
end Go.Proofs.YtkollgjffkdliaaGreatDoor.Am
