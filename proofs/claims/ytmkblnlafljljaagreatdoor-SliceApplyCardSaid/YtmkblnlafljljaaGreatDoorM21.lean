/- The table of 188, in pieces -/
import Derived.Test.YtmkblnlafljljaaGreatDoorM16
set_option linter.all false
namespace Go.Proofs.YtmkblnlafljljaaGreatDoor.Am
open Go
set_option maxRecDepth 100000
theorem k8y:((z2i.drop (1 * 12)).take 1).all (chk (z2g []) 1000 171)=true:=by kernel_rfl
theorem k8z:((z2i.drop (1 * 13)).take 1).all (chk (z2g []) 1000 171)=true:=by kernel_rfl
theorem k9a:((z2i.drop (1 * 14)).take 1).all (chk (z2g []) 1000 171)=true:=by kernel_rfl
theorem k9b:((z2i.drop (1 * 15)).take 1).all (chk (z2g []) 1000 171)=true:=by kernel_rfl
theorem k9c:((z2i.drop (1 * 16)).take 1).all (chk (z2g []) 1000 171)=true:=by kernel_rfl
theorem k9d:((z2i.drop (1 * 17)).take 1).all (chk (z2g []) 1000 171)=true:=by kernel_rfl
theorem k9e:((z2i.drop (1 * 18)).take 1).all (chk (z2g []) 1000 171)=true:=by kernel_rfl
theorem k9f:((z2i.drop (1 * 19)).take 1).all (chk (z2g []) 1000 171)=true:=by kernel_rfl
theorem k9g:((z2i.drop (1 * 20)).take 1).all (chk (z2g []) 1000 171)=true:=by kernel_rfl
theorem k9h:((z2i.drop (1 * 21)).take 1).all (chk (z2g []) 1000 171)=true:=by kernel_rfl
theorem k9i:((z2i.drop (1 * 22)).take 1).all (chk (z2g []) 1000 171)=true:=by kernel_rfl
theorem k9j:((z2i.drop (1 * 23)).take 1).all (chk (z2g []) 1000 171)=true:=by kernel_rfl
end Go.Proofs.YtmkblnlafljljaaGreatDoor.Am
