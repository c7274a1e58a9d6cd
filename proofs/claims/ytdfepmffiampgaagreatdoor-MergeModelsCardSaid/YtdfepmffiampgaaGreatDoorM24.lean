/- The table of 188, in pieces -/
import Derived.Test.YtdfepmffiampgaaGreatDoorM19
set_option linter.all false
namespace Go.Proofs.YtdfepmffiampgaaGreatDoor.Am
open Go
set_option maxRecDepth 100000
theorem v8m:((z2w.drop (1 * 12)).take 1).all (chk (z2n []) 1000 164)=true:=by kernel_rfl
theorem v8n:((z2w.drop (1 * 13)).take 1).all (chk (z2n []) 1000 164)=true:=by kernel_rfl
theorem v8o:((z2w.drop (1 * 14)).take 1).all (chk (z2n []) 1000 164)=true:=by kernel_rfl
theorem v8p:((z2w.drop (1 * 15)).take 1).all (chk (z2n []) 1000 164)=true:=by kernel_rfl
theorem v8q:((z2w.drop (1 * 16)).take 1).all (chk (z2n []) 1000 164)=true:=by kernel_rfl
theorem v8r:((z2w.drop (1 * 17)).take 1).all (chk (z2n []) 1000 164)=true:=by kernel_rfl
theorem v8s:((z2w.drop (1 * 18)).take 1).all (chk (z2n []) 1000 164)=true:=by kernel_rfl
theorem v8t:((z2w.drop (1 * 19)).take 1).all (chk (z2n []) 1000 164)=true:=by kernel_rfl
theorem v8u:((z2w.drop (1 * 20)).take 1).all (chk (z2n []) 1000 164)=true:=by kernel_rfl
theorem v8v:((z2w.drop (1 * 21)).take 1).all (chk (z2n []) 1000 164)=true:=by kernel_rfl
theorem v8w:((z2w.drop (1 * 22)).take 1).all (chk (z2n []) 1000 164)=true:=by kernel_rfl
theorem v8x:((z2w.drop (1 * 23)).take 1).all (chk (z2n []) 1000 164)=true:=by kernel_rfl
end Go.Proofs.YtdfepmffiampgaaGreatDoor.Am
