/- What is wanted of the abstract machine at SliceApply -/
import Derived.Test.YtmkblnlafljljaaGreatDoorM39
import Derived.Test.YtmkblnlafljljaaGreatDoorM41
set_option linter.all false
namespace Go.Proofs.YtmkblnlafljljaaGreatDoor.Am
open Go
set_option maxRecDepth 100000
theorem x1n {zs:List Int} (hz:∀ n∈zs,(Lit.int .i64 n).wf=true):∀ z∈zs, -9223372036854775808≤z∧z≤9223372036854775807:=fun z h=>by
 have:=hz z h
 simp only[Lit.wf,Bool.and_eq_true,decide_eq_true_eq] at this
 have h1:IntKind.min .i64= -9223372036854775808:=by decide
 have h2:IntKind.max .i64=9223372036854775807:=by decide
 omega
theorem v4x:q9k:=by
 refine⟨Gam,x1p,k9v,j5k,k9w,fun zs ms hz hm=> ?_⟩
 obtain⟨k,v,h,clk,hk,hv⟩:=w5x (x1n hz) (x1n hm)
 subst hv
 exact⟨k,h,clk,hk⟩
end Go.Proofs.YtmkblnlafljljaaGreatDoor.Am
