/- The table of 188, in pieces -/
import Derived.Test.YtkollgjffkdliaaGreatDoorM17
set_option linter.all false
namespace Go.Proofs.YtkollgjffkdliaaGreatDoor.Am
open Go
set_option maxRecDepth 100000
theorem y1s:((z2t.drop (1 * 0)).take 1).all (chk (z2j []) 1000 195)=true:=by kernel_rfl
theorem y1t:((z2t.drop (1 * 1)).take 1).all (chk (z2j []) 1000 195)=true:=by kernel_rfl
theorem y1u:((z2t.drop (1 * 2)).take 1).all (chk (z2j []) 1000 195)=true:=by kernel_rfl
theorem y1v:((z2t.drop (1 * 3)).take 1).all (chk (z2j []) 1000 195)=true:=by kernel_rfl
theorem y1w:((z2t.drop (1 * 4)).take 1).all (chk (z2j []) 1000 195)=true:=by kernel_rfl
theorem y1x:((z2t.drop (1 * 5)).take 1).all (chk (z2j []) 1000 195)=true:=by kernel_rfl
theorem y1y:((z2t.drop (1 * 6)).take 1).all (chk (z2j []) 1000 195)=true:=by kernel_rfl
theorem y1z:((z2t.drop (1 * 7)).take 1).all (chk (z2j []) 1000 195)=true:=by kernel_rfl
theorem y2a:((z2t.drop (1 * 8)).take 1).all (chk (z2j []) 1000 195)=true:=by kernel_rfl
theorem y2b:((z2t.drop (1 * 9)).take 1).all (chk (z2j []) 1000 195)=true:=by kernel_rfl
theorem w0x:((z2t.drop (1 * 10)).take 1).all (chk (z2j []) 1000 195)=true:=by kernel_rfl
theorem w0y:((z2t.drop (1 * 11)).take 1).all (chk (z2j []) 1000 195)=true:=by kernel_rfl
end Go.Proofs.YtkollgjffkdliaaGreatDoor.Am
