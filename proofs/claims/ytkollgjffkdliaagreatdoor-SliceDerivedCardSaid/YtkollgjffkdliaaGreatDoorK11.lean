/- The entries of the tables of awake, 3 -/
import Derived.Test.YtkollgjffkdliaaGreatDoorK08
set_option linter.all false
namespace Go.Proofs.YtkollgjffkdliaaGreatDoor.Am
open Go
set_option maxRecDepth 100000
section
open Tw
theorem y6a:chk (z2j []) 1000 12 w4o=true:=by kernel_rfl
theorem w5o:chk (z2j tw1) 1000 297 v2e=true:=by kernel_rfl
theorem w5p:chk (z2j tw1) 1000 297 v2f=true:=by kernel_rfl
theorem w5q:chk (z2j tw1) 1000 297 v2g=true:=by kernel_rfl
theorem w5r:chk (z2j tw1) 1000 297 v2h=true:=by kernel_rfl
theorem w5s:chk (z2j tw1) 1000 297 v2i=true:=by kernel_rfl
theorem w5t:chk (z2j tw1) 1000 297 v2j=true:=by kernel_rfl
theorem w5u:chk (z2j tw1) 1000 297 v2k=true:=by kernel_rfl
theorem w5v:chk (z2j tw1) 1000 141 v2l=true:=by kernel_rfl
theorem w5w:chk (z2j tw1) 1000 141 v2m=true:=by kernel_rfl
theorem y6b:chk (z2j tw1) 1000 35 w4p=true:=by kernel_rfl
theorem y6c:chk (z2j tw1) 1000 35 w4q=true:=by kernel_rfl
theorem y6d:chk (z2j tw1) 1000 35 w4r=true:=by kernel_rfl
theorem y6e:chk (z2j tw1) 1000 35 w4s=true:=by kernel_rfl
end
end Go.Proofs.YtkollgjffkdliaaGreatDoor.Am
