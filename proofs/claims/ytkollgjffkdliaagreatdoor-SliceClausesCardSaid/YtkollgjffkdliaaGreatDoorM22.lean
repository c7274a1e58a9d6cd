/- The table of 188, in pieces -/
import Derived.Test.YtkollgjffkdliaaGreatDoorM17
set_option linter.all false
namespace Go.Proofs.YtkollgjffkdliaaGreatDoor.Am
open Go
set_option maxRecDepth 100000
theorem w0l:((z2p.drop (1 * 12)).take 1).all (chk (z2o []) 1000 195)=true:=by kernel_rfl
theorem w0m:((z2p.drop (1 * 13)).take 1).all (chk (z2o []) 1000 195)=true:=by kernel_rfl
theorem w0n:((z2p.drop (1 * 14)).take 1).all (chk (z2o []) 1000 195)=true:=by kernel_rfl
theorem w0o:((z2p.drop (1 * 15)).take 1).all (chk (z2o []) 1000 195)=true:=by kernel_rfl
theorem w0p:((z2p.drop (1 * 16)).take 1).all (chk (z2o []) 1000 195)=true:=by kernel_rfl
theorem w0q:((z2p.drop (1 * 17)).take 1).all (chk (z2o []) 1000 195)=true:=by kernel_rfl
theorem w0r:((z2p.drop (1 * 18)).take 1).all (chk (z2o []) 1000 195)=true:=by kernel_rfl
theorem w0s:((z2p.drop (1 * 19)).take 1).all (chk (z2o []) 1000 195)=true:=by kernel_rfl
theorem w0t:((z2p.drop (1 * 20)).take 1).all (chk (z2o []) 1000 195)=true:=by kernel_rfl
theorem w0u:((z2p.drop (1 * 21)).take 1).all (chk (z2o []) 1000 195)=true:=by kernel_rfl
theorem w0v:((z2p.drop (1 * 22)).take 1).all (chk (z2o []) 1000 195)=true:=by kernel_rfl
theorem w0w:((z2p.drop (1 * 23)).take 1).all (chk (z2o []) 1000 195)=true:=by kernel_rfl
end Go.Proofs.YtkollgjffkdliaaGreatDoor.Am
