/- The table of 188, in pieces -/
import Derived.Test.YtkollgjffkdliaaGreatDoorK14
set_option linter.all false
namespace Go.Proofs.YtkollgjffkdliaaGreatDoor.Am
open Go
set_option maxRecDepth 100000
theorem v6m:((z2k.drop (1 * 12)).take 1).all (chk (z2j []) 1000 195)=true:=by kernel_rfl
theorem v6n:((z2k.drop (1 * 13)).take 1).all (chk (z2j []) 1000 195)=true:=by kernel_rfl
theorem v6o:((z2k.drop (1 * 14)).take 1).all (chk (z2j []) 1000 195)=true:=by kernel_rfl
theorem v6p:((z2k.drop (1 * 15)).take 1).all (chk (z2j []) 1000 195)=true:=by kernel_rfl
theorem v6q:((z2k.drop (1 * 16)).take 1).all (chk (z2j []) 1000 195)=true:=by kernel_rfl
theorem v6r:((z2k.drop (1 * 17)).take 1).all (chk (z2j []) 1000 195)=true:=by kernel_rfl
theorem v6s:((z2k.drop (1 * 18)).take 1).all (chk (z2j []) 1000 195)=true:=by kernel_rfl
theorem v6t:((z2k.drop (1 * 19)).take 1).all (chk (z2j []) 1000 195)=true:=by kernel_rfl
theorem v6u:((z2k.drop (1 * 20)).take 1).all (chk (z2j []) 1000 195)=true:=by kernel_rfl
theorem v6v:((z2k.drop (1 * 21)).take 1).all (chk (z2j []) 1000 195)=true:=by kernel_rfl
theorem v6w:((z2k.drop (1 * 22)).take 1).all (chk (z2j []) 1000 195)=true:=by kernel_rfl
theorem v6x:((z2k.drop (1 * 23)).take 1).all (chk (z2j []) 1000 195)=true:=by kernel_rfl
end Go.Proofs.YtkollgjffkdliaaGreatDoor.Am
