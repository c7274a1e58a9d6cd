/- The entries of the tables of awake, 4 -/
import Derived.Test.YtahdahokpjigiaaGreatDoorM10
set_option linter.all false
namespace Go.Proofs.YtahdahokpjigiaaGreatDoor.Am
open Go
set_option maxRecDepth 100000
section
open Tw
theorem w3g:chk (z2p []) 1000 165 v0j=true:=by kernel_rfl
theorem v4f:chk (z2p []) 1000 165 j9s=true:=by kernel_rfl
theorem g3k:chk (z2p []) 1000 30 g2b=true:=by kernel_rfl
end
end Go.Proofs.YtahdahokpjigiaaGreatDoor.Am
