/- The table of 73, in pieces -/
import Derived.Test.YtahdahokpjigiaaGreatDoorM19
set_option linter.all false
namespace Go.Proofs.YtahdahokpjigiaaGreatDoor.Am
open Go
set_option maxRecDepth 100000
theorem y3x:((z6i.drop (1 * 0)).take 1).all (chk (z2p []) 1000 60)=true:=by kernel_rfl
theorem y3y:((z6i.drop (1 * 1)).take 1).all (chk (z2p []) 1000 60)=true:=by kernel_rfl
theorem y3z:((z6i.drop (1 * 2)).take 1).all (chk (z2p []) 1000 60)=true:=by kernel_rfl
theorem y4a:((z6i.drop (1 * 3)).take 1).all (chk (z2p []) 1000 60)=true:=by kernel_rfl
theorem y4b:((z6i.drop (1 * 4)).take 1).all (chk (z2p []) 1000 60)=true:=by kernel_rfl
theorem y4c:((z6i.drop (1 * 5)).take 1).all (chk (z2p []) 1000 60)=true:=by kernel_rfl
theorem y4d:((z6i.drop (1 * 6)).take 1).all (chk (z2p []) 1000 60)=true:=by kernel_rfl
theorem y4e:((z6i.drop (1 * 7)).take 1).all (chk (z2p []) 1000 60)=true:=by kernel_rfl
theorem y4f:((z6i.drop (1 * 8)).take 1).all (chk (z2p []) 1000 60)=true:=by kernel_rfl
end Go.Proofs.YtahdahokpjigiaaGreatDoor.Am
