/- The table of 73, in pieces -/
import Derived.Test.YtdfepmffiampgaaGreatDoorM19
set_option linter.all false
namespace Go.Proofs.YtdfepmffiampgaaGreatDoor.Am
open Go
set_option maxRecDepth 100000
theorem w8q:((z6p.drop (1 * 18)).take 1).all (chk (z2n []) 1000 51)=true:=by kernel_rfl
theorem w8r:((z6p.drop (1 * 19)).take 1).all (chk (z2n []) 1000 51)=true:=by kernel_rfl
theorem w8s:((z6p.drop (1 * 20)).take 1).all (chk (z2n []) 1000 51)=true:=by kernel_rfl
theorem w8t:((z6p.drop (1 * 21)).take 1).all (chk (z2n []) 1000 51)=true:=by kernel_rfl
theorem w8u:((z6p.drop (1 * 22)).take 1).all (chk (z2n []) 1000 51)=true:=by kernel_rfl
theorem w8v:((z6p.drop (1 * 23)).take 1).all (chk (z2n []) 1000 51)=true:=by kernel_rfl
theorem w8w:((z6p.drop (1 * 24)).take 1).all (chk (z2n []) 1000 51)=true:=by kernel_rfl
theorem w8x:((z6p.drop (1 * 25)).take 1).all (chk (z2n []) 1000 51)=true:=by kernel_rfl
theorem w8y:((z6p.drop (1 * 26)).take 1).all (chk (z2n []) 1000 51)=true:=by kernel_rfl
end Go.Proofs.YtdfepmffiampgaaGreatDoor.Am
