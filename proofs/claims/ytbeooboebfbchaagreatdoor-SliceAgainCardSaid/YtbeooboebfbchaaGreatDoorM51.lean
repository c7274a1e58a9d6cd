/- The card of SliceAgain out of the abstract machine's answer. -/
import Derived.Test.YtbeooboebfbchaaGreatDoorM49
set_option linter.unusedVariables false
set_option linter.unusedSimpArgs false
namespace Go.Proofs.YtbeooboebfbchaaGreatDoor.Am
open Go Go.ChangeShapes Go.WideShapes Go.ChangeAt Go.RowKit
set_option maxHeartbeats 0 in
set_option maxRecDepth 100000 in
theorem closedFacts : joinedFacts Tryz.prog 7 Tryz.f7 (OpenSpec.ofChange Rows.sliceAgainSpec).bare Rows.sliceAgainRow = true := by
 unfold joinedFacts
 repeat' (with_reducible refine Bool.and_eq_true_iff.2 ⟨?_, ?_⟩)
 all_goals (as_aux_lemma => kernel_rfl)
theorem named7 : Tryz.pinned.checked.prog.funcNamed Rows.sliceAgainRow.func = some 7 := by kernel_rfl
theorem instance7 : Tryz.f7.isInstance Tryz.pinned.checked.prog Rows.sliceAgainRow.origin Rows.sliceAgainRow.targs := of_decide_eq_true (by kernel_rfl)
theorem wrapper7 : Tryz.f7.isWrapper Tryz.pinned.checked.prog Rows.sliceAgainRow.wrapper Rows.sliceAgainRow.mainSum := by
 unfold Func.isWrapper; first | (rw [if_pos (by decide +kernel)]; kernel_rfl) | (rw [if_neg (by decide +kernel)]; exact ⟨rfl, rfl⟩)
theorem said (hA : Answers) : Rows.SliceAgainSaid :=
 OpenClaim.holds_of_cond 7 Tryz.f7 rfl rfl rfl rfl rfl rfl rfl ⟨rfl, rfl, rfl, rfl, rfl⟩ rfl rfl rfl rfl rfl named7 Tryz.func7 closedFacts instance7 wrapper7
   (fun os started H enc _ F => by rw [OpenClaim.pre_eq_preRow]; exact lifted hA os started H enc F)
theorem plainCard (f : FuncId) (fn : Func) (hf : Tryz.pinned.checked.prog.funcNamed "chcsolver/chcsolverlaw18.SliceAgain" = some f) (hfn : Tryz.pinned.checked.prog.funcs[f]? = some fn) :
   true = Tryz.pinned.checked.prog.looks [] ∧ ∀ (j : Nat) t, fn.params[j]? = some t → Tryz.pinned.checked.prog.wantsStandIn t = false := by
 obtain rfl : f = 7 := Option.some.inj ((show Tryz.prog.funcNamed "chcsolver/chcsolverlaw18.SliceAgain" = some 7 by kernel_rfl).symm.trans hf) |>.symm
 obtain rfl : fn = Tryz.f7 := (Option.some.inj (Tryz.func7.symm.trans hfn)).symm
 refine ⟨by kernel_rfl, fun j t ht => ?_⟩
 rw [Tryz.params7] at ht
 obtain rfl : t = 22 := by simpa using Array.mem_of_getElem? ht
 exact (show Tryz.prog.wantsStandIn 22 = false by kernel_rfl)
theorem card (hA : Answers) : Rows.SliceAgainCardSaid :=
 Claim7.holds_tied_plain_at .later [] _ _ _ _ (said hA) (fun _ h => by cases h) (by kernel_rfl) (fun _ h => by cases h) sliceAgain_row_tie rfl ⟨rfl, rfl⟩ (by kernel_rfl) rfl plainCard (by kernel_rfl)
end Go.Proofs.YtbeooboebfbchaaGreatDoor.Am
