/- The table of 73, in pieces -/
import Derived.Test.YtmkblnlafljljaaGreatDoorM16
set_option linter.all false
namespace Go.Proofs.YtmkblnlafljljaaGreatDoor.Am
open Go
set_option maxRecDepth 100000
theorem w8s:((z5u.drop (1 * 9)).take 1).all (chk (z2g []) 1000 51)=true:=by kernel_rfl
theorem v8t:((z5u.drop (1 * 10)).take 1).all (chk (z2g []) 1000 51)=true:=by kernel_rfl
theorem v8u:((z5u.drop (1 * 11)).take 1).all (chk (z2g []) 1000 51)=true:=by kernel_rfl
theorem v8v:((z5u.drop (1 * 12)).take 1).all (chk (z2g []) 1000 51)=true:=by kernel_rfl
theorem v8w:((z5u.drop (1 * 13)).take 1).all (chk (z2g []) 1000 51)=true:=by kernel_rfl
theorem v8x:((z5u.drop (1 * 14)).take 1).all (chk (z2g []) 1000 51)=true:=by kernel_rfl
theorem v8y:((z5u.drop (1 * 15)).take 1).all (chk (z2g []) 1000 51)=true:=by kernel_rfl
theorem v8z:((z5u.drop (1 * 16)).take 1).all (chk (z2g []) 1000 51)=true:=by kernel_rfl
theorem v9a:((z5u.drop (1 * 17)).take 1).all (chk (z2g []) 1000 51)=true:=by kernel_rfl
end Go.Proofs.YtmkblnlafljljaaGreatDoor.Am
