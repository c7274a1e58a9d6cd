/- The table of 73, in pieces -/
import Derived.Test.YtkollgjffkdliaaGreatDoorK14
set_option linter.all false
namespace Go.Proofs.YtkollgjffkdliaaGreatDoor.Am
open Go
set_option maxRecDepth 100000
theorem y6k:((z5p.drop (1 * 0)).take 1).all (chk (z2j []) 1000 49)=true:=by kernel_rfl
theorem y6l:((z5p.drop (1 * 1)).take 1).all (chk (z2j []) 1000 49)=true:=by kernel_rfl
theorem y6m:((z5p.drop (1 * 2)).take 1).all (chk (z2j []) 1000 49)=true:=by kernel_rfl
theorem y6n:((z5p.drop (1 * 3)).take 1).all (chk (z2j []) 1000 49)=true:=by kernel_rfl
theorem y6o:((z5p.drop (1 * 4)).take 1).all (chk (z2j []) 1000 49)=true:=by kernel_rfl
theorem y6p:((z5p.drop (1 * 5)).take 1).all (chk (z2j []) 1000 49)=true:=by kernel_rfl
theorem y6q:((z5p.drop (1 * 6)).take 1).all (chk (z2j []) 1000 49)=true:=by kernel_rfl
theorem y6r:((z5p.drop (1 * 7)).take 1).all (chk (z2j []) 1000 49)=true:=by kernel_rfl
theorem y6s:((z5p.drop (1 * 8)).take 1).all (chk (z2j []) 1000 49)=true:=by kernel_rfl
end Go.Proofs.YtkollgjffkdliaaGreatDoor.Am
