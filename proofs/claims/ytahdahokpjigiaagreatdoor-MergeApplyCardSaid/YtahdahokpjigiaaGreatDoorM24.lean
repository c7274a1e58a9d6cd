/- The table of 188, in pieces -/
import Derived.Test.YtahdahokpjigiaaGreatDoorM19
set_option linter.all false
namespace Go.Proofs.YtahdahokpjigiaaGreatDoor.Am
open Go
set_option maxRecDepth 100000
theorem v4i:((z2r.drop (1 * 12)).take 1).all (chk (z2p []) 1000 244)=true:=by kernel_rfl
theorem v4j:((z2r.drop (1 * 13)).take 1).all (chk (z2p []) 1000 244)=true:=by kernel_rfl
theorem v4k:((z2r.drop (1 * 14)).take 1).all (chk (z2p []) 1000 244)=true:=by kernel_rfl
theorem v4l:((z2r.drop (1 * 15)).take 1).all (chk (z2p []) 1000 244)=true:=by kernel_rfl
theorem v4m:((z2r.drop (1 * 16)).take 1).all (chk (z2p []) 1000 244)=true:=by kernel_rfl
theorem v4n:((z2r.drop (1 * 17)).take 1).all (chk (z2p []) 1000 244)=true:=by kernel_rfl
theorem v4o:((z2r.drop (1 * 18)).take 1).all (chk (z2p []) 1000 244)=true:=by kernel_rfl
theorem v4p:((z2r.drop (1 * 19)).take 1).all (chk (z2p []) 1000 244)=true:=by kernel_rfl
theorem v4q:((z2r.drop (1 * 20)).take 1).all (chk (z2p []) 1000 244)=true:=by kernel_rfl
theorem v4r:((z2r.drop (1 * 21)).take 1).all (chk (z2p []) 1000 244)=true:=by kernel_rfl
theorem v4s:((z2r.drop (1 * 22)).take 1).all (chk (z2p []) 1000 244)=true:=by kernel_rfl
theorem v4t:((z2r.drop (1 * 23)).take 1).all (chk (z2p []) 1000 244)=true:=by kernel_rfl
end Go.Proofs.YtahdahokpjigiaaGreatDoor.Am
