/- SliceClauses is g0a -/
import Derived.Test.YtkollgjffkdliaaGreatDoorM42
set_option linter.all false
namespace Go.Proofs.YtkollgjffkdliaaGreatDoor.Am
open Go Go.ChangeShapes Go.WideShapes Go.ChangeAt Go.RowKit
theorem y8u:Tryz.pinned.checked.prog.funcNamed Rows.sliceClausesRow.func=some 4:=by kernel_rfl
theorem k7l:Tryz.f4.isInstance Tryz.pinned.checked.prog Rows.sliceClausesRow.origin Rows.sliceClausesRow.targs:=of_decide_eq_true (by kernel_rfl)
theorem v4q:Tryz.f4.isWrapper Tryz.pinned.checked.prog Rows.sliceClausesRow.wrapper Rows.sliceClausesRow.mainSum:=by
 unfold Func.isWrapper;first | (rw[if_pos (by decide +kernel)];kernel_rfl) | (rw[if_neg (by decide +kernel)];exact⟨rfl,rfl⟩)
theorem g0a (hA:x2q):Rows.SliceClausesSaid:=
 OpenClaim.holds_of_cond 4 Tryz.f4 rfl rfl rfl rfl rfl rfl rfl ⟨rfl,rfl,rfl,rfl,rfl⟩ rfl rfl rfl rfl rfl y8u Tryz.func4 j4p k7l v4q
  (fun os started H enc _ F=>by rw[OpenClaim.pre_eq_preRow];exact y8t hA os started H enc F)
end Go.Proofs.YtkollgjffkdliaaGreatDoor.Am
