/- The table of 73, in pieces -/
import Derived.Test.YtkollgjffkdliaaGreatDoorM17
set_option linter.all false
namespace Go.Proofs.YtkollgjffkdliaaGreatDoor.Am
open Go
set_option maxRecDepth 100000
theorem u1f:((z6f.drop (1 * 0)).take 1).all (chk (z2o []) 1000 49)=true:=by kernel_rfl
theorem u1g:((z6f.drop (1 * 1)).take 1).all (chk (z2o []) 1000 49)=true:=by kernel_rfl
theorem u1h:((z6f.drop (1 * 2)).take 1).all (chk (z2o []) 1000 49)=true:=by kernel_rfl
theorem u1i:((z6f.drop (1 * 3)).take 1).all (chk (z2o []) 1000 49)=true:=by kernel_rfl
theorem u1j:((z6f.drop (1 * 4)).take 1).all (chk (z2o []) 1000 49)=true:=by kernel_rfl
theorem u1k:((z6f.drop (1 * 5)).take 1).all (chk (z2o []) 1000 49)=true:=by kernel_rfl
theorem u1l:((z6f.drop (1 * 6)).take 1).all (chk (z2o []) 1000 49)=true:=by kernel_rfl
theorem u1m:((z6f.drop (1 * 7)).take 1).all (chk (z2o []) 1000 49)=true:=by kernel_rfl
theorem u1n:((z6f.drop (1 * 8)).take 1).all (chk (z2o []) 1000 49)=true:=by kernel_rfl
end Go.Proofs.YtkollgjffkdliaaGreatDoor.Am
