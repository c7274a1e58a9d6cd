/- The table of 188, in pieces -/
import Derived.Test.YtkollgjffkdliaaGreatDoorM17
set_option linter.all false
namespace Go.Proofs.YtkollgjffkdliaaGreatDoor.Am
open Go
set_option maxRecDepth 100000
theorem w0x:((z2p.drop (1 * 24)).take 1).all (chk (z2o []) 1000 195)=true:=by kernel_rfl
theorem w0y:((z2p.drop (1 * 25)).take 1).all (chk (z2o []) 1000 195)=true:=by kernel_rfl
theorem w0z:((z2p.drop (1 * 26)).take 1).all (chk (z2o []) 1000 195)=true:=by kernel_rfl
theorem w1a:((z2p.drop (1 * 27)).take 1).all (chk (z2o []) 1000 195)=true:=by kernel_rfl
theorem w1b:((z2p.drop (1 * 28)).take 1).all (chk (z2o []) 1000 195)=true:=by kernel_rfl
theorem w1c:((z2p.drop (1 * 29)).take 1).all (chk (z2o []) 1000 195)=true:=by kernel_rfl
theorem w1d:((z2p.drop (1 * 30)).take 1).all (chk (z2o []) 1000 195)=true:=by kernel_rfl
theorem w1e:((z2p.drop (1 * 31)).take 1).all (chk (z2o []) 1000 195)=true:=by kernel_rfl
theorem w1f:((z2p.drop (1 * 32)).take 1).all (chk (z2o []) 1000 195)=true:=by kernel_rfl
theorem w1g:((z2p.drop (1 * 33)).take 1).all (chk (z2o []) 1000 195)=true:=by kernel_rfl
theorem w1h:((z2p.drop (1 * 34)).take 1).all (chk (z2o []) 1000 195)=true:=by kernel_rfl
end Go.Proofs.YtkollgjffkdliaaGreatDoor.Am
