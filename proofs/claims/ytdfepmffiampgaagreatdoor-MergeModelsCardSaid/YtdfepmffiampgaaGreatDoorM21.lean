/- The table of 73, in pieces -/
import Derived.Test.YtdfepmffiampgaaGreatDoorM19
set_option linter.all false
namespace Go.Proofs.YtdfepmffiampgaaGreatDoor.Am
open Go
set_option maxRecDepth 100000
theorem u0z:((z6p.drop (1 * 9)).take 1).all (chk (z2n []) 1000 51)=true:=by kernel_rfl
theorem w8i:((z6p.drop (1 * 10)).take 1).all (chk (z2n []) 1000 51)=true:=by kernel_rfl
theorem w8j:((z6p.drop (1 * 11)).take 1).all (chk (z2n []) 1000 51)=true:=by kernel_rfl
theorem w8k:((z6p.drop (1 * 12)).take 1).all (chk (z2n []) 1000 51)=true:=by kernel_rfl
theorem w8l:((z6p.drop (1 * 13)).take 1).all (chk (z2n []) 1000 51)=true:=by kernel_rfl
theorem w8m:((z6p.drop (1 * 14)).take 1).all (chk (z2n []) 1000 51)=true:=by kernel_rfl
theorem w8n:((z6p.drop (1 * 15)).take 1).all (chk (z2n []) 1000 51)=true:=by kernel_rfl
theorem w8o:((z6p.drop (1 * 16)).take 1).all (chk (z2n []) 1000 51)=true:=by kernel_rfl
theorem w8p:((z6p.drop (1 * 17)).take 1).all (chk (z2n []) 1000 51)=true:=by kernel_rfl
end Go.Proofs.YtdfepmffiampgaaGreatDoor.Am
