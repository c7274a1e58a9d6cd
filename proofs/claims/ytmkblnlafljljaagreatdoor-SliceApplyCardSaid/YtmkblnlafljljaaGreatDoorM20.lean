/- The table of 188, in pieces -/
import Derived.Test.YtmkblnlafljljaaGreatDoorM16
set_option linter.all false
namespace Go.Proofs.YtmkblnlafljljaaGreatDoor.Am
open Go
set_option maxRecDepth 100000
theorem v9k:((z2i.drop (1 * 0)).take 1).all (chk (z2g []) 1000 171)=true:=by kernel_rfl
theorem v9l:((z2i.drop (1 * 1)).take 1).all (chk (z2g []) 1000 171)=true:=by kernel_rfl
theorem v9m:((z2i.drop (1 * 2)).take 1).all (chk (z2g []) 1000 171)=true:=by kernel_rfl
theorem v9n:((z2i.drop (1 * 3)).take 1).all (chk (z2g []) 1000 171)=true:=by kernel_rfl
theorem v9o:((z2i.drop (1 * 4)).take 1).all (chk (z2g []) 1000 171)=true:=by kernel_rfl
theorem v9p:((z2i.drop (1 * 5)).take 1).all (chk (z2g []) 1000 171)=true:=by kernel_rfl
theorem v9q:((z2i.drop (1 * 6)).take 1).all (chk (z2g []) 1000 171)=true:=by kernel_rfl
theorem v9r:((z2i.drop (1 * 7)).take 1).all (chk (z2g []) 1000 171)=true:=by kernel_rfl
theorem v9s:((z2i.drop (1 * 8)).take 1).all (chk (z2g []) 1000 171)=true:=by kernel_rfl
theorem v9t:((z2i.drop (1 * 9)).take 1).all (chk (z2g []) 1000 171)=true:=by kernel_rfl
theorem k8w:((z2i.drop (1 * 10)).take 1).all (chk (z2g []) 1000 171)=true:=by kernel_rfl
theorem k8x:((z2i.drop (1 * 11)).take 1).all (chk (z2g []) 1000 171)=true:=by kernel_rfl
end Go.Proofs.YtmkblnlafljljaaGreatDoor.Am
