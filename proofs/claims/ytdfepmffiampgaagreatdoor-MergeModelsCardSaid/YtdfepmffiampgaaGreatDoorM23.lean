/- The table of 188, in pieces -/
import Derived.Test.YtdfepmffiampgaaGreatDoorM19
set_option linter.all false
namespace Go.Proofs.YtdfepmffiampgaaGreatDoor.Am
open Go
set_option maxRecDepth 100000
theorem w8z:((z2w.drop (1 * 0)).take 1).all (chk (z2n []) 1000 164)=true:=by kernel_rfl
theorem w9a:((z2w.drop (1 * 1)).take 1).all (chk (z2n []) 1000 164)=true:=by kernel_rfl
theorem w9b:((z2w.drop (1 * 2)).take 1).all (chk (z2n []) 1000 164)=true:=by kernel_rfl
theorem w9c:((z2w.drop (1 * 3)).take 1).all (chk (z2n []) 1000 164)=true:=by kernel_rfl
theorem w9d:((z2w.drop (1 * 4)).take 1).all (chk (z2n []) 1000 164)=true:=by kernel_rfl
theorem w9e:((z2w.drop (1 * 5)).take 1).all (chk (z2n []) 1000 164)=true:=by kernel_rfl
theorem w9f:((z2w.drop (1 * 6)).take 1).all (chk (z2n []) 1000 164)=true:=by kernel_rfl
theorem w9g:((z2w.drop (1 * 7)).take 1).all (chk (z2n []) 1000 164)=true:=by kernel_rfl
theorem w9h:((z2w.drop (1 * 8)).take 1).all (chk (z2n []) 1000 164)=true:=by kernel_rfl
theorem w9i:((z2w.drop (1 * 9)).take 1).all (chk (z2n []) 1000 164)=true:=by kernel_rfl
theorem v8k:((z2w.drop (1 * 10)).take 1).all (chk (z2n []) 1000 164)=true:=by kernel_rfl
theorem v8l:((z2w.drop (1 * 11)).take 1).all (chk (z2n []) 1000 164)=true:=by kernel_rfl
end Go.Proofs.YtdfepmffiampgaaGreatDoor.Am
