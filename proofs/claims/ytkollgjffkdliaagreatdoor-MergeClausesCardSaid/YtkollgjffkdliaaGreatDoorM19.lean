/- The table of 73, in pieces -/
import Derived.Test.YtkollgjffkdliaaGreatDoorM17
set_option linter.all false
namespace Go.Proofs.YtkollgjffkdliaaGreatDoor.Am
open Go
set_option maxRecDepth 100000
theorem u3y:((z6g.drop (1 * 9)).take 1).all (chk (z2j []) 1000 49)=true:=by kernel_rfl
theorem y1b:((z6g.drop (1 * 10)).take 1).all (chk (z2j []) 1000 49)=true:=by kernel_rfl
theorem y1c:((z6g.drop (1 * 11)).take 1).all (chk (z2j []) 1000 49)=true:=by kernel_rfl
theorem y1d:((z6g.drop (1 * 12)).take 1).all (chk (z2j []) 1000 49)=true:=by kernel_rfl
theorem y1e:((z6g.drop (1 * 13)).take 1).all (chk (z2j []) 1000 49)=true:=by kernel_rfl
theorem y1f:((z6g.drop (1 * 14)).take 1).all (chk (z2j []) 1000 49)=true:=by kernel_rfl
theorem y1g:((z6g.drop (1 * 15)).take 1).all (chk (z2j []) 1000 49)=true:=by kernel_rfl
theorem y1h:((z6g.drop (1 * 16)).take 1).all (chk (z2j []) 1000 49)=true:=by kernel_rfl
theorem y1i:((z6g.drop (1 * 17)).take 1).all (chk (z2j []) 1000 49)=true:=by kernel_rfl
end Go.Proofs.YtkollgjffkdliaaGreatDoor.Am
