/- The table of 188, in pieces -/
import Derived.Test.YtkollgjffkdliaaGreatDoorM17
set_option linter.all false
namespace Go.Proofs.YtkollgjffkdliaaGreatDoor.Am
open Go
set_option maxRecDepth 100000
theorem y0y:((z2p.drop (1 * 0)).take 1).all (chk (z2o []) 1000 195)=true:=by kernel_rfl
theorem y0z:((z2p.drop (1 * 1)).take 1).all (chk (z2o []) 1000 195)=true:=by kernel_rfl
theorem y1a:((z2p.drop (1 * 2)).take 1).all (chk (z2o []) 1000 195)=true:=by kernel_rfl
theorem y1b:((z2p.drop (1 * 3)).take 1).all (chk (z2o []) 1000 195)=true:=by kernel_rfl
theorem y1c:((z2p.drop (1 * 4)).take 1).all (chk (z2o []) 1000 195)=true:=by kernel_rfl
theorem y1d:((z2p.drop (1 * 5)).take 1).all (chk (z2o []) 1000 195)=true:=by kernel_rfl
theorem y1e:((z2p.drop (1 * 6)).take 1).all (chk (z2o []) 1000 195)=true:=by kernel_rfl
theorem y1f:((z2p.drop (1 * 7)).take 1).all (chk (z2o []) 1000 195)=true:=by kernel_rfl
theorem y1g:((z2p.drop (1 * 8)).take 1).all (chk (z2o []) 1000 195)=true:=by kernel_rfl
theorem y1h:((z2p.drop (1 * 9)).take 1).all (chk (z2o []) 1000 195)=true:=by kernel_rfl
theorem w0j:((z2p.drop (1 * 10)).take 1).all (chk (z2o []) 1000 195)=true:=by kernel_rfl
theorem w0k:((z2p.drop (1 * 11)).take 1).all (chk (z2o []) 1000 195)=true:=by kernel_rfl
end Go.Proofs.YtkollgjffkdliaaGreatDoor.Am
