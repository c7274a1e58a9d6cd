/- The entries of the tables of awake, 5 -/
import Derived.Test.YtahdahokpjigiaaGreatDoorM10
set_option linter.all false
namespace Go.Proofs.YtahdahokpjigiaaGreatDoor.Am
open Go
set_option maxRecDepth 100000
section
open Tw
theorem g3l:chk (z2p []) 1000 10 g2c=true:=by kernel_rfl
theorem w3h:chk (z2p tw1) 1000 328 v0k=true:=by kernel_rfl
theorem w3i:chk (z2p tw1) 1000 328 v0l=true:=by kernel_rfl
theorem w3j:chk (z2p tw1) 1000 328 v0m=true:=by kernel_rfl
theorem w3k:chk (z2p tw1) 1000 328 v0n=true:=by kernel_rfl
theorem w3l:chk (z2p tw1) 1000 328 v0o=true:=by kernel_rfl
theorem w3m:chk (z2p tw1) 1000 328 v0p=true:=by kernel_rfl
theorem w3n:chk (z2p tw1) 1000 328 v0q=true:=by kernel_rfl
theorem w3o:chk (z2p tw1) 1000 162 v0r=true:=by kernel_rfl
theorem w3p:chk (z2p tw1) 1000 162 v0s=true:=by kernel_rfl
end
end Go.Proofs.YtahdahokpjigiaaGreatDoor.Am
