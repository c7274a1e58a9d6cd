/- The table of 188, in pieces -/
import Derived.Test.YtkollgjffkdliaaGreatDoorK14
set_option linter.all false
namespace Go.Proofs.YtkollgjffkdliaaGreatDoor.Am
open Go
set_option maxRecDepth 100000
theorem w6r:((z2k.drop (1 * 0)).take 1).all (chk (z2j []) 1000 195)=true:=by kernel_rfl
theorem w6s:((z2k.drop (1 * 1)).take 1).all (chk (z2j []) 1000 195)=true:=by kernel_rfl
theorem w6t:((z2k.drop (1 * 2)).take 1).all (chk (z2j []) 1000 195)=true:=by kernel_rfl
theorem w6u:((z2k.drop (1 * 3)).take 1).all (chk (z2j []) 1000 195)=true:=by kernel_rfl
theorem w6v:((z2k.drop (1 * 4)).take 1).all (chk (z2j []) 1000 195)=true:=by kernel_rfl
theorem w6w:((z2k.drop (1 * 5)).take 1).all (chk (z2j []) 1000 195)=true:=by kernel_rfl
theorem w6x:((z2k.drop (1 * 6)).take 1).all (chk (z2j []) 1000 195)=true:=by kernel_rfl
theorem w6y:((z2k.drop (1 * 7)).take 1).all (chk (z2j []) 1000 195)=true:=by kernel_rfl
theorem w6z:((z2k.drop (1 * 8)).take 1).all (chk (z2j []) 1000 195)=true:=by kernel_rfl
theorem w7a:((z2k.drop (1 * 9)).take 1).all (chk (z2j []) 1000 195)=true:=by kernel_rfl
theorem v6k:((z2k.drop (1 * 10)).take 1).all (chk (z2j []) 1000 195)=true:=by kernel_rfl
theorem v6l:((z2k.drop (1 * 11)).take 1).all (chk (z2j []) 1000 195)=true:=by kernel_rfl
end Go.Proofs.YtkollgjffkdliaaGreatDoor.Am
