/- What is wanted of the abstract machine at SliceAgain. -/
import Derived.Test.YtbeooboebfbchaaGreatDoorM48
import Derived.Test.YtbeooboebfbchaaGreatDoorM49
set_option linter.unusedVariables false
set_option linter.unusedSimpArgs false
namespace Go.Proofs.YtbeooboebfbchaaGreatDoor.Am
open Go
set_option maxRecDepth 100000
theorem answers : Answers := by
 refine ⟨Gam, backF, progGam, backOk, iterGam, fun zs hz => ?_⟩
 have hz' : ∀ z ∈ zs, -9223372036854775808 ≤ z ∧ z ≤ 9223372036854775807 := fun z h => by
   have := hz z h
   simp only [Lit.wf, Bool.and_eq_true, decide_eq_true_eq] at this
   have h1 : IntKind.min .i64 = -9223372036854775808 := by decide
   have h2 : IntKind.max .i64 = 9223372036854775807 := by decide
   omega
 obtain ⟨k, v, h, clk, hk, hv⟩ := again hz'
 subst hv
 exact ⟨k, h, clk, hk⟩
end Go.Proofs.YtbeooboebfbchaaGreatDoor.Am
