/- The table of 188, in pieces -/
import Derived.Test.YtahdahokpjigiaaGreatDoorM19
set_option linter.all false
namespace Go.Proofs.YtahdahokpjigiaaGreatDoor.Am
open Go
set_option maxRecDepth 100000
theorem w4k:((z2r.drop (1 * 0)).take 1).all (chk (z2p []) 1000 244)=true:=by kernel_rfl
theorem w4l:((z2r.drop (1 * 1)).take 1).all (chk (z2p []) 1000 244)=true:=by kernel_rfl
theorem w4m:((z2r.drop (1 * 2)).take 1).all (chk (z2p []) 1000 244)=true:=by kernel_rfl
theorem w4n:((z2r.drop (1 * 3)).take 1).all (chk (z2p []) 1000 244)=true:=by kernel_rfl
theorem w4o:((z2r.drop (1 * 4)).take 1).all (chk (z2p []) 1000 244)=true:=by kernel_rfl
theorem w4p:((z2r.drop (1 * 5)).take 1).all (chk (z2p []) 1000 244)=true:=by kernel_rfl
theorem w4q:((z2r.drop (1 * 6)).take 1).all (chk (z2p []) 1000 244)=true:=by kernel_rfl
theorem w4r:((z2r.drop (1 * 7)).take 1).all (chk (z2p []) 1000 244)=true:=by kernel_rfl
theorem w4s:((z2r.drop (1 * 8)).take 1).all (chk (z2p []) 1000 244)=true:=by kernel_rfl
theorem w4t:((z2r.drop (1 * 9)).take 1).all (chk (z2p []) 1000 244)=true:=by kernel_rfl
theorem v4g:((z2r.drop (1 * 10)).take 1).all (chk (z2p []) 1000 244)=true:=by kernel_rfl
theorem v4h:((z2r.drop (1 * 11)).take 1).all (chk (z2p []) 1000 244)=true:=by kernel_rfl
end Go.Proofs.YtahdahokpjigiaaGreatDoor.Am
