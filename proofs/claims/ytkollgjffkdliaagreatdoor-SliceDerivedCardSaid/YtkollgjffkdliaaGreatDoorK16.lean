/- The table of 73, in pieces -/
import Derived.Test.YtkollgjffkdliaaGreatDoorK14
set_option linter.all false
namespace Go.Proofs.YtkollgjffkdliaaGreatDoor.Am
open Go
set_option maxRecDepth 100000
theorem y6t:((z5p.drop (1 * 9)).take 1).all (chk (z2j []) 1000 49)=true:=by kernel_rfl
theorem w6a:((z5p.drop (1 * 10)).take 1).all (chk (z2j []) 1000 49)=true:=by kernel_rfl
theorem w6b:((z5p.drop (1 * 11)).take 1).all (chk (z2j []) 1000 49)=true:=by kernel_rfl
theorem w6c:((z5p.drop (1 * 12)).take 1).all (chk (z2j []) 1000 49)=true:=by kernel_rfl
theorem w6d:((z5p.drop (1 * 13)).take 1).all (chk (z2j []) 1000 49)=true:=by kernel_rfl
theorem w6e:((z5p.drop (1 * 14)).take 1).all (chk (z2j []) 1000 49)=true:=by kernel_rfl
theorem w6f:((z5p.drop (1 * 15)).take 1).all (chk (z2j []) 1000 49)=true:=by kernel_rfl
theorem w6g:((z5p.drop (1 * 16)).take 1).all (chk (z2j []) 1000 49)=true:=by kernel_rfl
theorem w6h:((z5p.drop (1 * 17)).take 1).all (chk (z2j []) 1000 49)=true:=by kernel_rfl
end Go.Proofs.YtkollgjffkdliaaGreatDoor.Am
