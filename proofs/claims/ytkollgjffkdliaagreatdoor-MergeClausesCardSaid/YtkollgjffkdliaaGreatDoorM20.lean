/- The table of 73, in pieces -/
import Derived.Test.YtkollgjffkdliaaGreatDoorM17
set_option linter.all false
namespace Go.Proofs.YtkollgjffkdliaaGreatDoor.Am
open Go
set_option maxRecDepth 100000
theorem y1j:((z6g.drop (1 * 18)).take 1).all (chk (z2j []) 1000 49)=true:=by kernel_rfl
theorem y1k:((z6g.drop (1 * 19)).take 1).all (chk (z2j []) 1000 49)=true:=by kernel_rfl
theorem y1l:((z6g.drop (1 * 20)).take 1).all (chk (z2j []) 1000 49)=true:=by kernel_rfl
theorem y1m:((z6g.drop (1 * 21)).take 1).all (chk (z2j []) 1000 49)=true:=by kernel_rfl
theorem y1n:((z6g.drop (1 * 22)).take 1).all (chk (z2j []) 1000 49)=true:=by kernel_rfl
theorem y1o:((z6g.drop (1 * 23)).take 1).all (chk (z2j []) 1000 49)=true:=by kernel_rfl
theorem y1p:((z6g.drop (1 * 24)).take 1).all (chk (z2j []) 1000 49)=true:=by kernel_rfl
theorem y1q:((z6g.drop (1 * 25)).take 1).all (chk (z2j []) 1000 49)=true:=by kernel_rfl
theorem y1r:((z6g.drop (1 * 26)).take 1).all (chk (z2j []) 1000 49)=true:=by kernel_rfl
end Go.Proofs.YtkollgjffkdliaaGreatDoor.Am
