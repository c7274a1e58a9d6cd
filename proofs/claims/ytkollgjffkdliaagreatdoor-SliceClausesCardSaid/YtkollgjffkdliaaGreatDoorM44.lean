/- Facts of the y8v of SliceClauses -/
import Derived.Test.YtkollgjffkdliaaGreatDoorM42
set_option linter.all false
namespace Go.Proofs.YtkollgjffkdliaaGreatDoor.Am
open Go Go.ChangeShapes Go.WideShapes Go.ChangeAt Go.RowKit
theorem k7m (f:FuncId) (fn:Func) (hf:Tryz.pinned.checked.prog.funcNamed "chcsolver/chcsolverlaw18.SliceClauses" =some f) (hfn:Tryz.pinned.checked.prog.funcs[f]? =some fn):
  true=Tryz.pinned.checked.prog.looks []∧∀ (j:Nat) t,fn.params[j]? =some t→Tryz.pinned.checked.prog.wantsStandIn t=false:=by
 obtain rfl:f=4:=Option.some.inj ((show Tryz.prog.funcNamed "chcsolver/chcsolverlaw18.SliceClauses" =some 4 by kernel_rfl).symm.trans hf) |>.symm
 obtain rfl:fn=Tryz.f4:=(Option.some.inj (Tryz.func4.symm.trans hfn)).symm
 refine⟨by kernel_rfl,fun j t ht=> ?_⟩
 rw[Tryz.params4] at ht
 have ht':t=22∨t=4:=by simpa using Array.mem_of_getElem? ht
 rcases ht' with rfl | rfl
 ·exact (show Tryz.prog.wantsStandIn 22=false by kernel_rfl)
 ·exact (show Tryz.prog.wantsStandIn 4=false by kernel_rfl)
theorem u6n:OpenClaim.wfByText (OpenSpec.ofChange Rows.sliceClausesSpec) Rows.sliceClausesRow=true:=by kernel_rfl
theorem u6o:false=Rows.sliceClausesRow.goesBy Tryz.pinned.checked.prog:=by kernel_rfl
end Go.Proofs.YtkollgjffkdliaaGreatDoor.Am
