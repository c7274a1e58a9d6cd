/- SliceDerived is u4d -/
import Derived.Test.YtkollgjffkdliaaGreatDoorK35
set_option linter.all false
namespace Go.Proofs.YtkollgjffkdliaaGreatDoor.Am
open Go Go.ChangeShapes Go.WideShapes Go.ChangeAt Go.RowKit
theorem y4c:Tryz.pinned.checked.prog.funcNamed Rows.sliceDerivedRow.func=some 3:=by kernel_rfl
theorem k4i:Tryz.f3.isInstance Tryz.pinned.checked.prog Rows.sliceDerivedRow.origin Rows.sliceDerivedRow.targs:=of_decide_eq_true (by kernel_rfl)
theorem v0x:Tryz.f3.isWrapper Tryz.pinned.checked.prog Rows.sliceDerivedRow.wrapper Rows.sliceDerivedRow.mainSum:=by
 unfold Func.isWrapper;first | (rw[if_pos (by decide +kernel)];kernel_rfl) | (rw[if_neg (by decide +kernel)];exact⟨rfl,rfl⟩)
theorem u4d (hA:x1k):Rows.SliceDerivedSaid:=
 OpenClaim.holds_of_cond 3 Tryz.f3 rfl rfl rfl rfl rfl rfl rfl ⟨rfl,rfl,rfl,rfl,rfl⟩ rfl rfl rfl rfl rfl y4c Tryz.func3 j2k k4i v0x
  (fun os started H enc _ F=>by rw[OpenClaim.pre_eq_preRow];exact y4b hA os started H enc F)
end Go.Proofs.YtkollgjffkdliaaGreatDoor.Am
