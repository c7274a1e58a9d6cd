/- What is wanted of the abstract machine at MergeClauses -/
import Derived.Test.YtkollgjffkdliaaGreatDoorM35
import Derived.Test.YtkollgjffkdliaaGreatDoorM37
set_option linter.all false
namespace Go.Proofs.YtkollgjffkdliaaGreatDoor.Am
open Go
set_option maxRecDepth 100000
theorem q7m {zs:List Int} (hz:∀ n∈zs,(Lit.int .i64 n).wf=true):∀ z∈zs, -9223372036854775808≤z∧z≤9223372036854775807:=fun z h=>by
 have:=hz z h
 simp only[Lit.wf,Bool.and_eq_true,decide_eq_true_eq] at this
 have h1:IntKind.min .i64= -9223372036854775808:=by decide
 have h2:IntKind.max .i64=9223372036854775807:=by decide
 omega
theorem w6v:x2l:=by
 refine⟨Gam,x5c,w1w,k2z,w1x,fun zs ms ns hz hm hn=> ?_⟩
 obtain⟨k,v,h,clk,hk,hv⟩:=j3t (q7m hz) (q7m hm) (q7m hn)
 subst hv
 exact⟨k,h,clk,hk⟩
end Go.Proofs.YtkollgjffkdliaaGreatDoor.Am
