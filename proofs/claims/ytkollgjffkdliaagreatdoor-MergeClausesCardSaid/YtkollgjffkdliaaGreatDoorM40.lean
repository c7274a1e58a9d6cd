/- MergeClauses is g2b -/
import Derived.Test.YtkollgjffkdliaaGreatDoorM39
set_option linter.all false
namespace Go.Proofs.YtkollgjffkdliaaGreatDoor.Am
open Go Go.ChangeShapes Go.WideShapes Go.ChangeAt Go.RowKit
theorem u1a:Tryz.pinned.checked.prog.funcNamed Rows.mergeClausesRow.func=some 5:=by kernel_rfl
theorem k6y:Tryz.f5.isInstance Tryz.pinned.checked.prog Rows.mergeClausesRow.origin Rows.mergeClausesRow.targs:=of_decide_eq_true (by kernel_rfl)
theorem v4d:Tryz.f5.isWrapper Tryz.pinned.checked.prog Rows.mergeClausesRow.wrapper Rows.mergeClausesRow.mainSum:=by
 unfold Func.isWrapper;first | (rw[if_pos (by decide +kernel)];kernel_rfl) | (rw[if_neg (by decide +kernel)];exact⟨rfl,rfl⟩)
theorem g2b (hA:x2l):Rows.MergeClausesSaid:=
 OpenClaim.holds_of_cond 5 Tryz.f5 rfl rfl rfl rfl rfl rfl rfl ⟨rfl,rfl,rfl,rfl,rfl⟩ rfl rfl rfl rfl rfl u1a Tryz.func5 j3w k6y v4d
  (fun os started H enc _ F=>by rw[OpenClaim.pre_eq_preRow];exact u0z hA os started H enc F)
end Go.Proofs.YtkollgjffkdliaaGreatDoor.Am
