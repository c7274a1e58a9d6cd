/- The table of 73, in pieces -/
import Derived.Test.YtdfepmffiampgaaGreatDoorM19
set_option linter.all false
namespace Go.Proofs.YtdfepmffiampgaaGreatDoor.Am
open Go
set_option maxRecDepth 100000
theorem u0q:((z6p.drop (1 * 0)).take 1).all (chk (z2n []) 1000 51)=true:=by kernel_rfl
theorem u0r:((z6p.drop (1 * 1)).take 1).all (chk (z2n []) 1000 51)=true:=by kernel_rfl
theorem u0s:((z6p.drop (1 * 2)).take 1).all (chk (z2n []) 1000 51)=true:=by kernel_rfl
theorem u0t:((z6p.drop (1 * 3)).take 1).all (chk (z2n []) 1000 51)=true:=by kernel_rfl
theorem u0u:((z6p.drop (1 * 4)).take 1).all (chk (z2n []) 1000 51)=true:=by kernel_rfl
theorem u0v:((z6p.drop (1 * 5)).take 1).all (chk (z2n []) 1000 51)=true:=by kernel_rfl
theorem u0w:((z6p.drop (1 * 6)).take 1).all (chk (z2n []) 1000 51)=true:=by kernel_rfl
theorem u0x:((z6p.drop (1 * 7)).take 1).all (chk (z2n []) 1000 51)=true:=by kernel_rfl
theorem u0y:((z6p.drop (1 * 8)).take 1).all (chk (z2n []) 1000 51)=true:=by kernel_rfl
end Go.Proofs.YtdfepmffiampgaaGreatDoor.Am
