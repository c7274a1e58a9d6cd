/- Facts of the y1n of SliceModels -/
import Derived.Test.YtahdahokpjigiaaGreatDoorM40
set_option linter.all false
namespace Go.Proofs.YtahdahokpjigiaaGreatDoor.Am
open Go Go.ChangeShapes Go.WideShapes Go.ChangeAt Go.RowKit
theorem k3k (f:FuncId) (fn:Func) (hf:Tryz.pinned.checked.prog.funcNamed "chcsolver/chcsolverlaw18.SliceModels" =some f) (hfn:Tryz.pinned.checked.prog.funcs[f]? =some fn):
  true=Tryz.pinned.checked.prog.looks []∧∀ (j:Nat) t,fn.params[j]? =some t→Tryz.pinned.checked.prog.wantsStandIn t=false:=by
 obtain rfl:f=5:=Option.some.inj ((show Tryz.prog.funcNamed "chcsolver/chcsolverlaw18.SliceModels" =some 5 by kernel_rfl).symm.trans hf) |>.symm
 obtain rfl:fn=Tryz.f5:=(Option.some.inj (Tryz.func5.symm.trans hfn)).symm
 refine⟨by kernel_rfl,fun j t ht=> ?_⟩
 rw[Tryz.params5] at ht
 have ht':t=22∨t=4:=by simpa using Array.mem_of_getElem? ht
 rcases ht' with rfl | rfl
 ·exact (show Tryz.prog.wantsStandIn 22=false by kernel_rfl)
 ·exact (show Tryz.prog.wantsStandIn 4=false by kernel_rfl)
theorem y8y:OpenClaim.wfByText (OpenSpec.ofChange Rows.sliceModelsSpec) Rows.sliceModelsRow=true:=by kernel_rfl
theorem y8z:false=Rows.sliceModelsRow.goesBy Tryz.pinned.checked.prog:=by kernel_rfl
end Go.Proofs.YtahdahokpjigiaaGreatDoor.Am
