/- The table of 73, in pieces -/
import Derived.Test.YtahdahokpjigiaaGreatDoorM19
set_option linter.all false
namespace Go.Proofs.YtahdahokpjigiaaGreatDoor.Am
open Go
set_option maxRecDepth 100000
theorem y4g:((z6i.drop (1 * 9)).take 1).all (chk (z2p []) 1000 60)=true:=by kernel_rfl
theorem w3t:((z6i.drop (1 * 10)).take 1).all (chk (z2p []) 1000 60)=true:=by kernel_rfl
theorem w3u:((z6i.drop (1 * 11)).take 1).all (chk (z2p []) 1000 60)=true:=by kernel_rfl
theorem w3v:((z6i.drop (1 * 12)).take 1).all (chk (z2p []) 1000 60)=true:=by kernel_rfl
theorem w3w:((z6i.drop (1 * 13)).take 1).all (chk (z2p []) 1000 60)=true:=by kernel_rfl
theorem w3x:((z6i.drop (1 * 14)).take 1).all (chk (z2p []) 1000 60)=true:=by kernel_rfl
theorem w3y:((z6i.drop (1 * 15)).take 1).all (chk (z2p []) 1000 60)=true:=by kernel_rfl
theorem w3z:((z6i.drop (1 * 16)).take 1).all (chk (z2p []) 1000 60)=true:=by kernel_rfl
theorem w4a:((z6i.drop (1 * 17)).take 1).all (chk (z2p []) 1000 60)=true:=by kernel_rfl
end Go.Proofs.YtahdahokpjigiaaGreatDoor.Am
