/- The entries of the tables of awake, 5 -/
import Derived.Test.YtahdahokpjigiaaGreatDoorM10
set_option linter.all false
namespace Go.Proofs.YtahdahokpjigiaaGreatDoor.Am
open Go
set_option maxRecDepth 100000
section
open Tw
theorem k19:chk (z2p tw3) 1000 17 ([], .bool true)=true:=by kernel_rfl
end
end Go.Proofs.YtahdahokpjigiaaGreatDoor.Am
