/- What is wanted of the abstract machine at MergeModels -/
import Derived.Test.YtdfepmffiampgaaGreatDoorM40
import Derived.Test.YtdfepmffiampgaaGreatDoorM42
set_option linter.all false
namespace Go.Proofs.YtdfepmffiampgaaGreatDoor.Am
open Go
set_option maxRecDepth 100000
theorem q6z {zs:List Int} (hz:∀ n∈zs,(Lit.int .i64 n).wf=true):∀ z∈zs, -9223372036854775808≤z∧z≤9223372036854775807:=fun z h=>by
 have:=hz z h
 simp only[Lit.wf,Bool.and_eq_true,decide_eq_true_eq] at this
 have h1:IntKind.min .i64= -9223372036854775808:=by decide
 have h2:IntKind.max .i64=9223372036854775807:=by decide
 omega
theorem w4c:x1q:=by
 refine⟨Gam,x4l,v9j,k1m,v9k,fun odd zs ms ns hz hm hn=> ?_⟩
 obtain⟨k,v,h,clk,hk,hv⟩:=j9b (odd:=odd) (q6z hz) (q6z hm) (q6z hn)
 subst hv
 exact⟨k,h,clk,hk⟩
end Go.Proofs.YtdfepmffiampgaaGreatDoor.Am
