/- What is wanted of the abstract machine at SliceClauses -/
import Derived.Test.YtkollgjffkdliaaGreatDoorM38
import Derived.Test.YtkollgjffkdliaaGreatDoorM40
set_option linter.all false
namespace Go.Proofs.YtkollgjffkdliaaGreatDoor.Am
open Go
set_option maxRecDepth 100000
theorem q7s {zs:List Int} (hz:∀ n∈zs,(Lit.int .i64 n).wf=true):∀ z∈zs, -9223372036854775808≤z∧z≤9223372036854775807:=fun z h=>by
 have:=hz z h
 simp only[Lit.wf,Bool.and_eq_true,decide_eq_true_eq] at this
 have h1:IntKind.min .i64= -9223372036854775808:=by decide
 have h2:IntKind.max .i64=9223372036854775807:=by decide
 omega
theorem w6f:x2q:=by
 refine⟨Gam,x5j,w1i,k3c,w1j,fun odd zs ms ns hz hm hn=> ?_⟩
 obtain⟨k,v,h,clk,hk,hv⟩:=j4n (odd:=odd) (q7s hz) (q7s hm) (q7s hn)
 subst hv
 exact⟨k,h,clk,hk⟩
end Go.Proofs.YtkollgjffkdliaaGreatDoor.Am
