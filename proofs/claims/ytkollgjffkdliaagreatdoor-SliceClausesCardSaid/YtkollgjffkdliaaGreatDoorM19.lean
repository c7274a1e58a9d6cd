/- The table of 73, in pieces -/
import Derived.Test.YtkollgjffkdliaaGreatDoorM17
set_option linter.all false
namespace Go.Proofs.YtkollgjffkdliaaGreatDoor.Am
open Go
set_option maxRecDepth 100000
theorem u1o:((z6f.drop (1 * 9)).take 1).all (chk (z2o []) 1000 49)=true:=by kernel_rfl
theorem y0h:((z6f.drop (1 * 10)).take 1).all (chk (z2o []) 1000 49)=true:=by kernel_rfl
theorem y0i:((z6f.drop (1 * 11)).take 1).all (chk (z2o []) 1000 49)=true:=by kernel_rfl
theorem y0j:((z6f.drop (1 * 12)).take 1).all (chk (z2o []) 1000 49)=true:=by kernel_rfl
theorem y0k:((z6f.drop (1 * 13)).take 1).all (chk (z2o []) 1000 49)=true:=by kernel_rfl
theorem y0l:((z6f.drop (1 * 14)).take 1).all (chk (z2o []) 1000 49)=true:=by kernel_rfl
theorem y0m:((z6f.drop (1 * 15)).take 1).all (chk (z2o []) 1000 49)=true:=by kernel_rfl
theorem y0n:((z6f.drop (1 * 16)).take 1).all (chk (z2o []) 1000 49)=true:=by kernel_rfl
theorem y0o:((z6f.drop (1 * 17)).take 1).all (chk (z2o []) 1000 49)=true:=by kernel_rfl
end Go.Proofs.YtkollgjffkdliaaGreatDoor.Am
