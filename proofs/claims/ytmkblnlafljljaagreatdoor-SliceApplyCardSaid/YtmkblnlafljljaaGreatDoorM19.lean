/- The table of 73, in pieces -/
import Derived.Test.YtmkblnlafljljaaGreatDoorM16
set_option linter.all false
namespace Go.Proofs.YtmkblnlafljljaaGreatDoor.Am
open Go
set_option maxRecDepth 100000
theorem v9b:((z5u.drop (1 * 18)).take 1).all (chk (z2g []) 1000 51)=true:=by kernel_rfl
theorem v9c:((z5u.drop (1 * 19)).take 1).all (chk (z2g []) 1000 51)=true:=by kernel_rfl
theorem v9d:((z5u.drop (1 * 20)).take 1).all (chk (z2g []) 1000 51)=true:=by kernel_rfl
theorem v9e:((z5u.drop (1 * 21)).take 1).all (chk (z2g []) 1000 51)=true:=by kernel_rfl
theorem v9f:((z5u.drop (1 * 22)).take 1).all (chk (z2g []) 1000 51)=true:=by kernel_rfl
theorem v9g:((z5u.drop (1 * 23)).take 1).all (chk (z2g []) 1000 51)=true:=by kernel_rfl
theorem v9h:((z5u.drop (1 * 24)).take 1).all (chk (z2g []) 1000 51)=true:=by kernel_rfl
theorem v9i:((z5u.drop (1 * 25)).take 1).all (chk (z2g []) 1000 51)=true:=by kernel_rfl
theorem v9j:((z5u.drop (1 * 26)).take 1).all (chk (z2g []) 1000 51)=true:=by kernel_rfl
end Go.Proofs.YtmkblnlafljljaaGreatDoor.Am
