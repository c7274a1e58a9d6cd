/- The table of 188, in pieces -/
import Derived.Test.YtkollgjffkdliaaGreatDoorK14
set_option linter.all false
namespace Go.Proofs.YtkollgjffkdliaaGreatDoor.Am
open Go
set_option maxRecDepth 100000
theorem v6y:((z2k.drop (1 * 24)).take 1).all (chk (z2j []) 1000 195)=true:=by kernel_rfl
theorem v6z:((z2k.drop (1 * 25)).take 1).all (chk (z2j []) 1000 195)=true:=by kernel_rfl
theorem v7a:((z2k.drop (1 * 26)).take 1).all (chk (z2j []) 1000 195)=true:=by kernel_rfl
theorem v7b:((z2k.drop (1 * 27)).take 1).all (chk (z2j []) 1000 195)=true:=by kernel_rfl
theorem v7c:((z2k.drop (1 * 28)).take 1).all (chk (z2j []) 1000 195)=true:=by kernel_rfl
theorem v7d:((z2k.drop (1 * 29)).take 1).all (chk (z2j []) 1000 195)=true:=by kernel_rfl
theorem v7e:((z2k.drop (1 * 30)).take 1).all (chk (z2j []) 1000 195)=true:=by kernel_rfl
theorem v7f:((z2k.drop (1 * 31)).take 1).all (chk (z2j []) 1000 195)=true:=by kernel_rfl
theorem v7g:((z2k.drop (1 * 32)).take 1).all (chk (z2j []) 1000 195)=true:=by kernel_rfl
theorem v7h:((z2k.drop (1 * 33)).take 1).all (chk (z2j []) 1000 195)=true:=by kernel_rfl
theorem v7i:((z2k.drop (1 * 34)).take 1).all (chk (z2j []) 1000 195)=true:=by kernel_rfl
end Go.Proofs.YtkollgjffkdliaaGreatDoor.Am
