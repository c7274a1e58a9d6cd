/- The entries of the tables of awake, 6 -/
import Derived.Test.YtahdahokpjigiaaGreatDoorM10
set_option linter.all false
namespace Go.Proofs.YtahdahokpjigiaaGreatDoor.Am
open Go
set_option maxRecDepth 100000
section
open Tw
theorem g2i:chk (z2p tw1) 1000 162 g0w=true:=by kernel_rfl
theorem y3o:chk (z2p tw1) 1000 44 w2i=true:=by kernel_rfl
theorem y3p:chk (z2p tw1) 1000 44 w2j=true:=by kernel_rfl
theorem y3q:chk (z2p tw1) 1000 44 w2k=true:=by kernel_rfl
theorem y3r:chk (z2p tw1) 1000 44 w2l=true:=by kernel_rfl
theorem w3q:chk (z2p tw2) 1000 164 v0t=true:=by kernel_rfl
end
end Go.Proofs.YtahdahokpjigiaaGreatDoor.Am
