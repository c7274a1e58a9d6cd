/- The entries of the tables of awake, 1 -/
import Derived.Test.YtahdahokpjigiaaGreatDoorM10
set_option linter.all false
namespace Go.Proofs.YtahdahokpjigiaaGreatDoor.Am
open Go
set_option maxRecDepth 100000
section
open Tw
theorem y3a:chk (z2p []) 1000 100 w1u=true:=by kernel_rfl
end
end Go.Proofs.YtahdahokpjigiaaGreatDoor.Am
