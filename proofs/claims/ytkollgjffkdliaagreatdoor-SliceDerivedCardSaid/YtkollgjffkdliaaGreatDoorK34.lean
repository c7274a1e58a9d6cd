/- What is wanted of the abstract machine at SliceDerived -/
import Derived.Test.YtkollgjffkdliaaGreatDoorK31
import Derived.Test.YtkollgjffkdliaaGreatDoorK33
set_option linter.all false
namespace Go.Proofs.YtkollgjffkdliaaGreatDoor.Am
open Go
set_option maxRecDepth 100000
theorem x3v {zs:List Int} (hz:∀ n∈zs,(Lit.int .i64 n).wf=true):∀ z∈zs, -9223372036854775808≤z∧z≤9223372036854775807:=fun z h=>by
 have:=hz z h
 simp only[Lit.wf,Bool.and_eq_true,decide_eq_true_eq] at this
 have h1:IntKind.min .i64= -9223372036854775808:=by decide
 have h2:IntKind.max .i64=9223372036854775807:=by decide
 omega
theorem w2a:x1k:=by
 refine⟨Gam,x3x,v7j,k0q,v7k,fun zs ns hz hn=> ?_⟩
 obtain⟨k,v,h,clk,hk,hv⟩:=j2i (x3v hz) (x3v hn) fun n hn=>⟨by omega,by omega⟩
 subst hv
 exact⟨k,h,clk,hk⟩
end Go.Proofs.YtkollgjffkdliaaGreatDoor.Am
