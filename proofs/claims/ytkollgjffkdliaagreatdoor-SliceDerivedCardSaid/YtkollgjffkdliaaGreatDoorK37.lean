/- Facts of the y4d of SliceDerived -/
import Derived.Test.YtkollgjffkdliaaGreatDoorK35
set_option linter.all false
namespace Go.Proofs.YtkollgjffkdliaaGreatDoor.Am
open Go Go.ChangeShapes Go.WideShapes Go.ChangeAt Go.RowKit
theorem k4j (f:FuncId) (fn:Func) (hf:Tryz.pinned.checked.prog.funcNamed "chcsolver/chcsolverlaw18.SliceDerived" =some f) (hfn:Tryz.pinned.checked.prog.funcs[f]? =some fn):
  true=Tryz.pinned.checked.prog.looks []∧∀ (j:Nat) t,fn.params[j]? =some t→Tryz.pinned.checked.prog.wantsStandIn t=false:=by
 obtain rfl:f=3:=Option.some.inj ((show Tryz.prog.funcNamed "chcsolver/chcsolverlaw18.SliceDerived" =some 3 by kernel_rfl).symm.trans hf) |>.symm
 obtain rfl:fn=Tryz.f3:=(Option.some.inj (Tryz.func3.symm.trans hfn)).symm
 refine⟨by kernel_rfl,fun j t ht=> ?_⟩
 rw[Tryz.params3] at ht
 obtain rfl:t=22:=by simpa using Array.mem_of_getElem? ht
 exact (show Tryz.prog.wantsStandIn 22=false by kernel_rfl)
theorem u1f:OpenClaim.wfByText (OpenSpec.ofChange Rows.sliceDerivedSpec) Rows.sliceDerivedRow=true:=by kernel_rfl
theorem u1g:false=Rows.sliceDerivedRow.goesBy Tryz.pinned.checked.prog:=by kernel_rfl
end Go.Proofs.YtkollgjffkdliaaGreatDoor.Am
