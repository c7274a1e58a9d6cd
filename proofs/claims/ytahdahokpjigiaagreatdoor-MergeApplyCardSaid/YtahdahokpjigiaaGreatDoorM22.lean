/- The table of 73, in pieces -/
import Derived.Test.YtahdahokpjigiaaGreatDoorM19
set_option linter.all false
namespace Go.Proofs.YtahdahokpjigiaaGreatDoor.Am
open Go
set_option maxRecDepth 100000
theorem w4b:((z6i.drop (1 * 18)).take 1).all (chk (z2p []) 1000 60)=true:=by kernel_rfl
theorem w4c:((z6i.drop (1 * 19)).take 1).all (chk (z2p []) 1000 60)=true:=by kernel_rfl
theorem w4d:((z6i.drop (1 * 20)).take 1).all (chk (z2p []) 1000 60)=true:=by kernel_rfl
theorem w4e:((z6i.drop (1 * 21)).take 1).all (chk (z2p []) 1000 60)=true:=by kernel_rfl
theorem w4f:((z6i.drop (1 * 22)).take 1).all (chk (z2p []) 1000 60)=true:=by kernel_rfl
theorem w4g:((z6i.drop (1 * 23)).take 1).all (chk (z2p []) 1000 60)=true:=by kernel_rfl
theorem w4h:((z6i.drop (1 * 24)).take 1).all (chk (z2p []) 1000 60)=true:=by kernel_rfl
theorem w4i:((z6i.drop (1 * 25)).take 1).all (chk (z2p []) 1000 60)=true:=by kernel_rfl
theorem w4j:((z6i.drop (1 * 26)).take 1).all (chk (z2p []) 1000 60)=true:=by kernel_rfl
end Go.Proofs.YtahdahokpjigiaaGreatDoor.Am
