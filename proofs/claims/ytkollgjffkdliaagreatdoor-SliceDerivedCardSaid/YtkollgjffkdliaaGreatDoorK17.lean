/- The table of 73, in pieces -/
import Derived.Test.YtkollgjffkdliaaGreatDoorK14
set_option linter.all false
namespace Go.Proofs.YtkollgjffkdliaaGreatDoor.Am
open Go
set_option maxRecDepth 100000
theorem w6i:((z5p.drop (1 * 18)).take 1).all (chk (z2j []) 1000 49)=true:=by kernel_rfl
theorem w6j:((z5p.drop (1 * 19)).take 1).all (chk (z2j []) 1000 49)=true:=by kernel_rfl
theorem w6k:((z5p.drop (1 * 20)).take 1).all (chk (z2j []) 1000 49)=true:=by kernel_rfl
theorem w6l:((z5p.drop (1 * 21)).take 1).all (chk (z2j []) 1000 49)=true:=by kernel_rfl
theorem w6m:((z5p.drop (1 * 22)).take 1).all (chk (z2j []) 1000 49)=true:=by kernel_rfl
theorem w6n:((z5p.drop (1 * 23)).take 1).all (chk (z2j []) 1000 49)=true:=by kernel_rfl
theorem w6o:((z5p.drop (1 * 24)).take 1).all (chk (z2j []) 1000 49)=true:=by kernel_rfl
theorem w6p:((z5p.drop (1 * 25)).take 1).all (chk (z2j []) 1000 49)=true:=by kernel_rfl
theorem w6q:((z5p.drop (1 * 26)).take 1).all (chk (z2j []) 1000 49)=true:=by kernel_rfl
end Go.Proofs.YtkollgjffkdliaaGreatDoor.Am
