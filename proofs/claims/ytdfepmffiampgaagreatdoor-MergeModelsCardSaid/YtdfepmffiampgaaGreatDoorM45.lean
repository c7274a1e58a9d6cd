/- MergeModels is u9p -/
import Derived.Test.YtdfepmffiampgaaGreatDoorM44
set_option linter.all false
namespace Go.Proofs.YtdfepmffiampgaaGreatDoor.Am
open Go Go.ChangeShapes Go.WideShapes Go.ChangeAt Go.RowKit
theorem y7y:Tryz.pinned.checked.prog.funcNamed Rows.mergeModelsRow.func=some 3:=by kernel_rfl
theorem k5j:Tryz.f3.isInstance Tryz.pinned.checked.prog Rows.mergeModelsRow.origin Rows.mergeModelsRow.targs:=of_decide_eq_true (by kernel_rfl)
theorem v1y:Tryz.f3.isWrapper Tryz.pinned.checked.prog Rows.mergeModelsRow.wrapper Rows.mergeModelsRow.mainSum:=by
 unfold Func.isWrapper;first | (rw[if_pos (by decide +kernel)];kernel_rfl) | (rw[if_neg (by decide +kernel)];exact⟨rfl,rfl⟩)
theorem u9p (hA:x1q):Rows.MergeModelsSaid:=
 OpenClaim.holds_of_cond 3 Tryz.f3 rfl rfl rfl rfl rfl rfl rfl ⟨rfl,rfl,rfl,rfl,rfl⟩ rfl rfl rfl rfl rfl y7y Tryz.func3 j3b k5j v1y
  (fun os started H enc _ F=>by rw[OpenClaim.pre_eq_preRow];exact y7x hA os started H enc F)
end Go.Proofs.YtdfepmffiampgaaGreatDoor.Am
