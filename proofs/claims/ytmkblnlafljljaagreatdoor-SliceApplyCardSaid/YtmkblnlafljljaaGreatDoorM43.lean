/- The w6n of SliceApply out of the abstract machine's answer -/
import Derived.Test.YtmkblnlafljljaaGreatDoorM41
set_option linter.all false
namespace Go.Proofs.YtmkblnlafljljaaGreatDoor.Am
open Go Go.ChangeShapes Go.WideShapes Go.ChangeAt Go.RowKit
set_option maxHeartbeats 0 in
set_option maxRecDepth 100000 in
theorem x8r:joinedFacts Tryz.prog 4 Tryz.f4 (OpenSpec.ofChange Rows.sliceApplySpec).bare Rows.sliceApplyRow=true:=by
 unfold joinedFacts
 repeat' (with_reducible refine Bool.and_eq_true_iff.2 ⟨?_, ?_⟩)
 all_goals (as_aux_lemma=>kernel_rfl)
theorem w5z:Tryz.pinned.checked.prog.funcNamed Rows.sliceApplyRow.func=some 4:=by kernel_rfl
theorem j9n:Tryz.f4.isInstance Tryz.pinned.checked.prog Rows.sliceApplyRow.origin Rows.sliceApplyRow.targs:=of_decide_eq_true (by kernel_rfl)
theorem k4h:Tryz.f4.isWrapper Tryz.pinned.checked.prog Rows.sliceApplyRow.wrapper Rows.sliceApplyRow.mainSum:=by
 unfold Func.isWrapper;first | (rw[if_pos (by decide +kernel)];kernel_rfl) | (rw[if_neg (by decide +kernel)];exact⟨rfl,rfl⟩)
theorem y9d (hA:q9k):Rows.SliceApplySaid:=
 OpenClaim.holds_of_cond 4 Tryz.f4 rfl rfl rfl rfl rfl rfl rfl ⟨rfl,rfl,rfl,rfl,rfl⟩ rfl rfl rfl rfl rfl w5z Tryz.func4 x8r j9n k4h
  (fun os started H enc _ F=>by rw[OpenClaim.pre_eq_preRow];exact w5y hA os started H enc F)
theorem j9o (f:FuncId) (fn:Func) (hf:Tryz.pinned.checked.prog.funcNamed "chcsolver/chcsolverlaw18.SliceApply" =some f) (hfn:Tryz.pinned.checked.prog.funcs[f]? =some fn):
  true=Tryz.pinned.checked.prog.looks []∧∀ (j:Nat) t,fn.params[j]? =some t→Tryz.pinned.checked.prog.wantsStandIn t=false:=by
 obtain rfl:f=4:=Option.some.inj ((show Tryz.prog.funcNamed "chcsolver/chcsolverlaw18.SliceApply" =some 4 by kernel_rfl).symm.trans hf) |>.symm
 obtain rfl:fn=Tryz.f4:=(Option.some.inj (Tryz.func4.symm.trans hfn)).symm
 refine⟨by kernel_rfl,fun j t ht=> ?_⟩
 rw[Tryz.params4] at ht
 obtain rfl:t=22:=by simpa using Array.mem_of_getElem? ht
 exact (show Tryz.prog.wantsStandIn 22=false by kernel_rfl)
theorem w6n (hA:q9k):Rows.SliceApplyCardSaid:=
 Claim7.holds_tied_plain_at .later [] _ _ _ _ (y9d hA) (fun _ h=>by cases h) (by kernel_rfl) (fun _ h=>by cases h) sliceApply_row_tie rfl ⟨rfl,rfl⟩ (by kernel_rfl) rfl j9o (by kernel_rfl)
end Go.Proofs.YtmkblnlafljljaaGreatDoor.Am
