/- The table of 188, in pieces -/
import Derived.Test.YtdfepmffiampgaaGreatDoorM19
set_option linter.all false
namespace Go.Proofs.YtdfepmffiampgaaGreatDoor.Am
open Go
set_option maxRecDepth 100000
theorem v8y:((z2w.drop (1 * 24)).take 1).all (chk (z2n []) 1000 164)=true:=by kernel_rfl
theorem v8z:((z2w.drop (1 * 25)).take 1).all (chk (z2n []) 1000 164)=true:=by kernel_rfl
theorem v9a:((z2w.drop (1 * 26)).take 1).all (chk (z2n []) 1000 164)=true:=by kernel_rfl
theorem v9b:((z2w.drop (1 * 27)).take 1).all (chk (z2n []) 1000 164)=true:=by kernel_rfl
theorem v9c:((z2w.drop (1 * 28)).take 1).all (chk (z2n []) 1000 164)=true:=by kernel_rfl
theorem v9d:((z2w.drop (1 * 29)).take 1).all (chk (z2n []) 1000 164)=true:=by kernel_rfl
theorem v9e:((z2w.drop (1 * 30)).take 1).all (chk (z2n []) 1000 164)=true:=by kernel_rfl
theorem v9f:((z2w.drop (1 * 31)).take 1).all (chk (z2n []) 1000 164)=true:=by kernel_rfl
theorem v9g:((z2w.drop (1 * 32)).take 1).all (chk (z2n []) 1000 164)=true:=by kernel_rfl
theorem v9h:((z2w.drop (1 * 33)).take 1).all (chk (z2n []) 1000 164)=true:=by kernel_rfl
theorem v9i:((z2w.drop (1 * 34)).take 1).all (chk (z2n []) 1000 164)=true:=by kernel_rfl
end Go.Proofs.YtdfepmffiampgaaGreatDoor.Am
