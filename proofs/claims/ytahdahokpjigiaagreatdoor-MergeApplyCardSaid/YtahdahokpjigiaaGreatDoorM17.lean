/- The entries of the tables of awake, 7 -/
import Derived.Test.YtahdahokpjigiaaGreatDoorM10
set_option linter.all false
namespace Go.Proofs.YtahdahokpjigiaaGreatDoor.Am
open Go
set_option maxRecDepth 100000
section
open Tw
theorem w3r:chk (z2p tw2) 1000 164 v0u=true:=by kernel_rfl
theorem w3s:chk (z2p tw2) 1000 164 v0v=true:=by kernel_rfl
end
end Go.Proofs.YtahdahokpjigiaaGreatDoor.Am
