/- The table of 188, in pieces -/
import Derived.Test.YtmkblnlafljljaaGreatDoorM16
set_option linter.all false
namespace Go.Proofs.YtmkblnlafljljaaGreatDoor.Am
open Go
set_option maxRecDepth 100000
theorem k9k:((z2i.drop (1 * 24)).take 1).all (chk (z2g []) 1000 171)=true:=by kernel_rfl
theorem k9l:((z2i.drop (1 * 25)).take 1).all (chk (z2g []) 1000 171)=true:=by kernel_rfl
theorem k9m:((z2i.drop (1 * 26)).take 1).all (chk (z2g []) 1000 171)=true:=by kernel_rfl
theorem k9n:((z2i.drop (1 * 27)).take 1).all (chk (z2g []) 1000 171)=true:=by kernel_rfl
theorem k9o:((z2i.drop (1 * 28)).take 1).all (chk (z2g []) 1000 171)=true:=by kernel_rfl
theorem k9p:((z2i.drop (1 * 29)).take 1).all (chk (z2g []) 1000 171)=true:=by kernel_rfl
theorem k9q:((z2i.drop (1 * 30)).take 1).all (chk (z2g []) 1000 171)=true:=by kernel_rfl
theorem k9r:((z2i.drop (1 * 31)).take 1).all (chk (z2g []) 1000 171)=true:=by kernel_rfl
theorem k9s:((z2i.drop (1 * 32)).take 1).all (chk (z2g []) 1000 171)=true:=by kernel_rfl
theorem k9t:((z2i.drop (1 * 33)).take 1).all (chk (z2g []) 1000 171)=true:=by kernel_rfl
theorem k9u:((z2i.drop (1 * 34)).take 1).all (chk (z2g []) 1000 171)=true:=by kernel_rfl
end Go.Proofs.YtmkblnlafljljaaGreatDoor.Am
