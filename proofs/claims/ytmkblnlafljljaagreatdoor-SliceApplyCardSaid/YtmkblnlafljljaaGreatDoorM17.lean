/- The table of 73, in pieces -/
import Derived.Test.YtmkblnlafljljaaGreatDoorM16
set_option linter.all false
namespace Go.Proofs.YtmkblnlafljljaaGreatDoor.Am
open Go
set_option maxRecDepth 100000
theorem w8j:((z5u.drop (1 * 0)).take 1).all (chk (z2g []) 1000 51)=true:=by kernel_rfl
theorem w8k:((z5u.drop (1 * 1)).take 1).all (chk (z2g []) 1000 51)=true:=by kernel_rfl
theorem w8l:((z5u.drop (1 * 2)).take 1).all (chk (z2g []) 1000 51)=true:=by kernel_rfl
theorem w8m:((z5u.drop (1 * 3)).take 1).all (chk (z2g []) 1000 51)=true:=by kernel_rfl
theorem w8n:((z5u.drop (1 * 4)).take 1).all (chk (z2g []) 1000 51)=true:=by kernel_rfl
theorem w8o:((z5u.drop (1 * 5)).take 1).all (chk (z2g []) 1000 51)=true:=by kernel_rfl
theorem w8p:((z5u.drop (1 * 6)).take 1).all (chk (z2g []) 1000 51)=true:=by kernel_rfl
theorem w8q:((z5u.drop (1 * 7)).take 1).all (chk (z2g []) 1000 51)=true:=by kernel_rfl
theorem w8r:((z5u.drop (1 * 8)).take 1).all (chk (z2g []) 1000 51)=true:=by kernel_rfl
end Go.Proofs.YtmkblnlafljljaaGreatDoor.Am
