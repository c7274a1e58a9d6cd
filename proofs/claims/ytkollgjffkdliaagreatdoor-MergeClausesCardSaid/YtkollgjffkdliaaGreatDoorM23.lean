/- The table of 188, in pieces -/
import Derived.Test.YtkollgjffkdliaaGreatDoorM17
set_option linter.all false
namespace Go.Proofs.YtkollgjffkdliaaGreatDoor.Am
open Go
set_option maxRecDepth 100000
theorem w1l:((z2t.drop (1 * 24)).take 1).all (chk (z2j []) 1000 195)=true:=by kernel_rfl
theorem w1m:((z2t.drop (1 * 25)).take 1).all (chk (z2j []) 1000 195)=true:=by kernel_rfl
theorem w1n:((z2t.drop (1 * 26)).take 1).all (chk (z2j []) 1000 195)=true:=by kernel_rfl
theorem w1o:((z2t.drop (1 * 27)).take 1).all (chk (z2j []) 1000 195)=true:=by kernel_rfl
theorem w1p:((z2t.drop (1 * 28)).take 1).all (chk (z2j []) 1000 195)=true:=by kernel_rfl
theorem w1q:((z2t.drop (1 * 29)).take 1).all (chk (z2j []) 1000 195)=true:=by kernel_rfl
theorem w1r:((z2t.drop (1 * 30)).take 1).all (chk (z2j []) 1000 195)=true:=by kernel_rfl
theorem w1s:((z2t.drop (1 * 31)).take 1).all (chk (z2j []) 1000 195)=true:=by kernel_rfl
theorem w1t:((z2t.drop (1 * 32)).take 1).all (chk (z2j []) 1000 195)=true:=by kernel_rfl
theorem w1u:((z2t.drop (1 * 33)).take 1).all (chk (z2j []) 1000 195)=true:=by kernel_rfl
theorem w1v:((z2t.drop (1 * 34)).take 1).all (chk (z2j []) 1000 195)=true:=by kernel_rfl
end Go.Proofs.YtkollgjffkdliaaGreatDoor.Am
