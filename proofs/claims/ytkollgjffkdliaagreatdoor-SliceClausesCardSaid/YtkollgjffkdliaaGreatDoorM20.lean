/- The table of 73, in pieces -/
import Derived.Test.YtkollgjffkdliaaGreatDoorM17
set_option linter.all false
namespace Go.Proofs.YtkollgjffkdliaaGreatDoor.Am
open Go
set_option maxRecDepth 100000
theorem y0p:((z6f.drop (1 * 18)).take 1).all (chk (z2o []) 1000 49)=true:=by kernel_rfl
theorem y0q:((z6f.drop (1 * 19)).take 1).all (chk (z2o []) 1000 49)=true:=by kernel_rfl
theorem y0r:((z6f.drop (1 * 20)).take 1).all (chk (z2o []) 1000 49)=true:=by kernel_rfl
theorem y0s:((z6f.drop (1 * 21)).take 1).all (chk (z2o []) 1000 49)=true:=by kernel_rfl
theorem y0t:((z6f.drop (1 * 22)).take 1).all (chk (z2o []) 1000 49)=true:=by kernel_rfl
theorem y0u:((z6f.drop (1 * 23)).take 1).all (chk (z2o []) 1000 49)=true:=by kernel_rfl
theorem y0v:((z6f.drop (1 * 24)).take 1).all (chk (z2o []) 1000 49)=true:=by kernel_rfl
theorem y0w:((z6f.drop (1 * 25)).take 1).all (chk (z2o []) 1000 49)=true:=by kernel_rfl
theorem y0x:((z6f.drop (1 * 26)).take 1).all (chk (z2o []) 1000 49)=true:=by kernel_rfl
end Go.Proofs.YtkollgjffkdliaaGreatDoor.Am
