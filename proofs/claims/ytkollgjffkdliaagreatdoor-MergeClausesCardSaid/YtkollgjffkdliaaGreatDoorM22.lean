/- The table of 188, in pieces -/
import Derived.Test.YtkollgjffkdliaaGreatDoorM17
set_option linter.all false
namespace Go.Proofs.YtkollgjffkdliaaGreatDoor.Am
open Go
set_option maxRecDepth 100000
theorem w0z:((z2t.drop (1 * 12)).take 1).all (chk (z2j []) 1000 195)=true:=by kernel_rfl
theorem w1a:((z2t.drop (1 * 13)).take 1).all (chk (z2j []) 1000 195)=true:=by kernel_rfl
theorem w1b:((z2t.drop (1 * 14)).take 1).all (chk (z2j []) 1000 195)=true:=by kernel_rfl
theorem w1c:((z2t.drop (1 * 15)).take 1).all (chk (z2j []) 1000 195)=true:=by kernel_rfl
theorem w1d:((z2t.drop (1 * 16)).take 1).all (chk (z2j []) 1000 195)=true:=by kernel_rfl
theorem w1e:((z2t.drop (1 * 17)).take 1).all (chk (z2j []) 1000 195)=true:=by kernel_rfl
theorem w1f:((z2t.drop (1 * 18)).take 1).all (chk (z2j []) 1000 195)=true:=by kernel_rfl
theorem w1g:((z2t.drop (1 * 19)).take 1).all (chk (z2j []) 1000 195)=true:=by kernel_rfl
theorem w1h:((z2t.drop (1 * 20)).take 1).all (chk (z2j []) 1000 195)=true:=by kernel_rfl
theorem w1i:((z2t.drop (1 * 21)).take 1).all (chk (z2j []) 1000 195)=true:=by kernel_rfl
theorem w1j:((z2t.drop (1 * 22)).take 1).all (chk (z2j []) 1000 195)=true:=by kernel_rfl
theorem w1k:((z2t.drop (1 * 23)).take 1).all (chk (z2j []) 1000 195)=true:=by kernel_rfl
end Go.Proofs.YtkollgjffkdliaaGreatDoor.Am
