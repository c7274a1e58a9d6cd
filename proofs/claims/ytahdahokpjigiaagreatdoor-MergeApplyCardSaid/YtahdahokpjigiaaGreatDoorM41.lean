/- What is wanted of the abstract machine at MergeApply -/
import Derived.Test.YtahdahokpjigiaaGreatDoorM38
import Derived.Test.YtahdahokpjigiaaGreatDoorM40
set_option linter.all false
namespace Go.Proofs.YtahdahokpjigiaaGreatDoor.Am
open Go
set_option maxRecDepth 100000
theorem q6l {zs:List Int} (hz:∀ n∈zs,(Lit.int .i64 n).wf=true):∀ z∈zs, -9223372036854775808≤z∧z≤9223372036854775807:=fun z h=>by
 have:=hz z h
 simp only[Lit.wf,Bool.and_eq_true,decide_eq_true_eq] at this
 have h1:IntKind.min .i64= -9223372036854775808:=by decide
 have h2:IntKind.max .i64=9223372036854775807:=by decide
 omega
theorem v9v:x0w:=by
 refine⟨Gam,x3m,v5f,j9r,v5g,fun zs ms hz hm=> ?_⟩
 obtain⟨k,v,h,clk,hk,hv⟩:=g3e (q6l hz) (q6l hm)
 subst hv
 exact⟨k,h,clk,hk⟩
end Go.Proofs.YtahdahokpjigiaaGreatDoor.Am
