/- The table of 73, in pieces -/
import Derived.Test.YtkollgjffkdliaaGreatDoorM17
set_option linter.all false
namespace Go.Proofs.YtkollgjffkdliaaGreatDoor.Am
open Go
set_option maxRecDepth 100000
theorem u3p:((z6g.drop (1 * 0)).take 1).all (chk (z2j []) 1000 49)=true:=by kernel_rfl
theorem u3q:((z6g.drop (1 * 1)).take 1).all (chk (z2j []) 1000 49)=true:=by kernel_rfl
theorem u3r:((z6g.drop (1 * 2)).take 1).all (chk (z2j []) 1000 49)=true:=by kernel_rfl
theorem u3s:((z6g.drop (1 * 3)).take 1).all (chk (z2j []) 1000 49)=true:=by kernel_rfl
theorem u3t:((z6g.drop (1 * 4)).take 1).all (chk (z2j []) 1000 49)=true:=by kernel_rfl
theorem u3u:((z6g.drop (1 * 5)).take 1).all (chk (z2j []) 1000 49)=true:=by kernel_rfl
theorem u3v:((z6g.drop (1 * 6)).take 1).all (chk (z2j []) 1000 49)=true:=by kernel_rfl
theorem u3w:((z6g.drop (1 * 7)).take 1).all (chk (z2j []) 1000 49)=true:=by kernel_rfl
theorem u3x:((z6g.drop (1 * 8)).take 1).all (chk (z2j []) 1000 49)=true:=by kernel_rfl
end Go.Proofs.YtkollgjffkdliaaGreatDoor.Am
