/- The table of 188, in pieces -/
import Derived.Test.YtahdahokpjigiaaGreatDoorM19
set_option linter.all false
namespace Go.Proofs.YtahdahokpjigiaaGreatDoor.Am
open Go
set_option maxRecDepth 100000
theorem v4u:((z2r.drop (1 * 24)).take 1).all (chk (z2p []) 1000 244)=true:=by kernel_rfl
theorem v4v:((z2r.drop (1 * 25)).take 1).all (chk (z2p []) 1000 244)=true:=by kernel_rfl
theorem v4w:((z2r.drop (1 * 26)).take 1).all (chk (z2p []) 1000 244)=true:=by kernel_rfl
theorem v4x:((z2r.drop (1 * 27)).take 1).all (chk (z2p []) 1000 244)=true:=by kernel_rfl
theorem v4y:((z2r.drop (1 * 28)).take 1).all (chk (z2p []) 1000 244)=true:=by kernel_rfl
theorem v4z:((z2r.drop (1 * 29)).take 1).all (chk (z2p []) 1000 244)=true:=by kernel_rfl
theorem v5a:((z2r.drop (1 * 30)).take 1).all (chk (z2p []) 1000 244)=true:=by kernel_rfl
theorem v5b:((z2r.drop (1 * 31)).take 1).all (chk (z2p []) 1000 244)=true:=by kernel_rfl
theorem v5c:((z2r.drop (1 * 32)).take 1).all (chk (z2p []) 1000 244)=true:=by kernel_rfl
theorem v5d:((z2r.drop (1 * 33)).take 1).all (chk (z2p []) 1000 244)=true:=by kernel_rfl
theorem v5e:((z2r.drop (1 * 34)).take 1).all (chk (z2p []) 1000 244)=true:=by kernel_rfl
end Go.Proofs.YtahdahokpjigiaaGreatDoor.Am
