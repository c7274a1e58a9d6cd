/- MergeApply is u2r -/
import Derived.Test.YtahdahokpjigiaaGreatDoorM42
set_option linter.all false
namespace Go.Proofs.YtahdahokpjigiaaGreatDoor.Am
open Go Go.ChangeShapes Go.WideShapes Go.ChangeAt Go.RowKit
theorem y1m:Tryz.pinned.checked.prog.funcNamed Rows.mergeApplyRow.func=some 3:=by kernel_rfl
theorem k3j:Tryz.f3.isInstance Tryz.pinned.checked.prog Rows.mergeApplyRow.origin Rows.mergeApplyRow.targs:=of_decide_eq_true (by kernel_rfl)
theorem k9e:Tryz.f3.isWrapper Tryz.pinned.checked.prog Rows.mergeApplyRow.wrapper Rows.mergeApplyRow.mainSum:=by
 unfold Func.isWrapper;first | (rw[if_pos (by decide +kernel)];kernel_rfl) | (rw[if_neg (by decide +kernel)];exact⟨rfl,rfl⟩)
theorem u2r (hA:x0w):Rows.MergeApplySaid:=
 OpenClaim.holds_of_cond 3 Tryz.f3 rfl rfl rfl rfl rfl rfl rfl ⟨rfl,rfl,rfl,rfl,rfl⟩ rfl rfl rfl rfl rfl y1m Tryz.func3 j1r k3j k9e
  (fun os started H enc _ F=>by rw[OpenClaim.pre_eq_preRow];exact y1l hA os started H enc F)
end Go.Proofs.YtahdahokpjigiaaGreatDoor.Am
