/- The entries of the tables of awake, 5 -/
import Derived.Test.YtdfepmffiampgaaGreatDoorM10
set_option linter.all false
namespace Go.Proofs.YtdfepmffiampgaaGreatDoor.Am
open Go
set_option maxRecDepth 100000
section
open Tw
theorem u0g:chk (z2n []) 1000 23 w6q=true:=by kernel_rfl
theorem w7v:chk (z2n tw1) 1000 268 v3k=true:=by kernel_rfl
theorem w7w:chk (z2n tw1) 1000 268 v3l=true:=by kernel_rfl
theorem w7x:chk (z2n tw1) 1000 268 v3m=true:=by kernel_rfl
theorem w7y:chk (z2n tw1) 1000 268 v3n=true:=by kernel_rfl
theorem w7z:chk (z2n tw1) 1000 268 v3o=true:=by kernel_rfl
theorem w8a:chk (z2n tw1) 1000 268 v3p=true:=by kernel_rfl
theorem w8b:chk (z2n tw1) 1000 268 v3q=true:=by kernel_rfl
theorem w8c:chk (z2n tw1) 1000 145 v3r=true:=by kernel_rfl
theorem w8d:chk (z2n tw1) 1000 145 v3s=true:=by kernel_rfl
end
end Go.Proofs.YtdfepmffiampgaaGreatDoor.Am
