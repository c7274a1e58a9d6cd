/- Functions of the abstract machine's program Walking: the reference's magnitudes Decimal digits: comparison, plain facts Walking: magnitudes are compared; rows of the frame Walking: magnitudes are subt -/
import Derived.Test.YtkollgjffkdliaaGreatDoorM25
open Bool renaming false_eq_true → y6,not_false → j5,not_true → z7
open Int renaming reduceNegSucc → z5,reduceOfNat → z4,toNat_natCast → i6
open List renaming append_assoc → n0,append_nil → u5,cons_append → d4,drop_eq_getElem_cons → p9,drop_zero → d7,getElem_mem → j9,length_cons → u6,length_eq_zero_iff → e9,length_pos_iff → t9,length_singleton → w0,mem_append → j6,mem_cons → y3,mem_cons_of_mem → u0,mem_cons_self → v9,mem_singleton → u7,nil_append → d3,replicate → j1,take_length → u4,take_succ_eq_append_getElem → w8
open Nat renaming add_mul → y9,eq_zero_or_pos → n6,gcd → y7,le_refl → j8,le_trans → w9,mul_comm → m6,mul_le_mul_right → b9,pow_le_pow_right → n7,pow_succ → p8,sub_self → d8,zero_add → y4
open Option renaming bind_some → n9,map_some → k6
open Nat renaming reduceBEq → z0,reduceAdd → z1,reduceLeDiff → z2,reduceSub → z3
set_option linter.all false
namespace Go.Proofs.YtkollgjffkdliaaGreatDoor.Am
open Go
noncomputable section
set_option maxRecDepth 100000
section
open Sh
set_option maxHeartbeats 0
def w3b:AFun:=(fun (a:AFun) (_:Gam.fn 285=some a)=>a) _ (by conv=>lhs;reduce;simp only[z4,z5])
theorem y4m:Gam.fn 285=some w3b:=by kernel_rfl
def w3c:AFun:=(fun (a:AFun) (_:Gam.fn 301=some a)=>a) _ (by conv=>lhs;reduce;simp only[z4,z5])
theorem y4n:Gam.fn 301=some w3c:=by kernel_rfl
def g0c:AFun:=(fun (a:AFun) (_:Gam.fn 165=some a)=>a) _ (by conv=>lhs;reduce;simp only[z4,z5])
def q8a:ACode:=(fun (a:ACode) (_:fl [] (lp g0c 0)=a)=>a) _ (by conv=>lhs;reduce;simp only[z4,z5])
attribute [local irreducible] q8a
def k4f:AFun:=(fun (a:AFun) (_:flF [q8a] g0c=a)=>a) _ (by conv=>lhs;reduce;simp only[z4,z5])
theorem y4o:Gam.fn 165=some k4f:=by kernel_rfl
def y4p:AFun:=(fun (a:AFun) (_:Gam.fn 230=some a)=>a) _ (by conv=>lhs;reduce;simp only[z4,z5])
theorem u5d:Gam.fn 230=some y4p:=by kernel_rfl
def w3d:AFun:=(fun (a:AFun) (_:Gam.fn 231=some a)=>a) _ (by conv=>lhs;reduce;simp only[z4,z5])
theorem u5e:Gam.fn 231=some w3d:=by kernel_rfl
def g0d:AFun:=(fun (a:AFun) (_:Gam.fn 277=some a)=>a) _ (by conv=>lhs;reduce;simp only[z4,z5])
def j5f:ACode:=(fun (a:ACode) (_:fl [] (lp g0d 0)=a)=>a) _ (by conv=>lhs;reduce;simp only[z4,z5])
attribute [local irreducible] j5f
def y4q:AFun:=(fun (a:AFun) (_:flF [j5f] g0d=a)=>a) _ (by conv=>lhs;reduce;simp only[z4,z5])
theorem u5f:Gam.fn 277=some y4q:=by kernel_rfl
def u5g:AFun:=(fun (a:AFun) (_:Gam.fn 278=some a)=>a) _ (by conv=>lhs;reduce;simp only[z4,z5])
def x3z:ACode:=(fun (a:ACode) (_:fl [] (lp u5g 1)=a)=>a) _ (by conv=>lhs;reduce;simp only[z4,z5])
attribute [local irreducible] x3z
def j5g:ACode:=(fun (a:ACode) (_:fl [x3z] (lp u5g 0)=a)=>a) _ (by conv=>lhs;reduce;simp only[z4,z5])
attribute [local irreducible] j5g
def y4r:AFun:=(fun (a:AFun) (_:flF [j5g,x3z] u5g=a)=>a) _ (by conv=>lhs;reduce;simp only[z4,z5])
theorem u5h:Gam.fn 278=some y4r:=by kernel_rfl
def u1k:AFun:=(fun (a:AFun) (_:Gam.fn 279=some a)=>a) _ (by conv=>lhs;reduce;simp only[z4,z5])
def x0z:ACode:=(fun (a:ACode) (_:fl [] (lp u1k 2)=a)=>a) _ (by conv=>lhs;reduce;simp only[z4,z5])
attribute [local irreducible] x0z
def x4a:ACode:=(fun (a:ACode) (_:fl [x0z] (lp u1k 1)=a)=>a) _ (by conv=>lhs;reduce;simp only[z4,z5])
attribute [local irreducible] x4a
def j5h:ACode:=(fun (a:ACode) (_:fl [x4a,x0z] (lp u1k 0)=a)=>a) _ (by conv=>lhs;reduce;simp only[z4,z5])
attribute [local irreducible] j5h
def y4s:AFun:=(fun (a:AFun) (_:flF [j5h,x4a,x0z] u1k=a)=>a) _ (by conv=>lhs;reduce;simp only[z4,z5])
theorem u5i:Gam.fn 279=some y4s:=by kernel_rfl
def j9q:AFun:=(fun (a:AFun) (_:Gam.fn 281=some a)=>a) _ (by conv=>lhs;reduce;simp only[z4,z5])
theorem u5j:Gam.fn 281=some j9q:=by kernel_rfl
def g0e:AFun:=(fun (a:AFun) (_:Gam.fn 282=some a)=>a) _ (by conv=>lhs;reduce;simp only[z4,z5])
def x1a:ACode:=(fun (a:ACode) (_:fl [] (lp g0e 0)=a)=>a) _ (by conv=>lhs;reduce;simp only[z4,z5])
attribute [local irreducible] x1a
def y4t:AFun:=(fun (a:AFun) (_:flF [x1a] g0e=a)=>a) _ (by conv=>lhs;reduce;simp only[z4,z5])
theorem u5k:Gam.fn 282=some y4t:=by kernel_rfl
def g0f:AFun:=(fun (a:AFun) (_:Gam.fn 208=some a)=>a) _ (by conv=>lhs;reduce;simp only[z4,z5])
def x9x:ACode:=(fun (a:ACode) (_:fl [] (lp g0f 0)=a)=>a) _ (by conv=>lhs;reduce;simp only[z4,z5])
attribute [local irreducible] x9x
def y4u:AFun:=(fun (a:AFun) (_:flF [x9x] g0f=a)=>a) _ (by conv=>lhs;reduce;simp only[z4,z5])
theorem u5l:Gam.fn 208=some y4u:=by kernel_rfl
def g0g:AFun:=(fun (a:AFun) (_:Gam.fn 207=some a)=>a) _ (by conv=>lhs;reduce;simp only[z4,z5])
def j5i:ACode:=(fun (a:ACode) (_:fl [] (lp g0g 0)=a)=>a) _ (by conv=>lhs;reduce;simp only[z4,z5])
attribute [local irreducible] j5i
def y4v:AFun:=(fun (a:AFun) (_:flF [j5i] g0g=a)=>a) _ (by conv=>lhs;reduce;simp only[z4,z5])
theorem u5m:Gam.fn 207=some y4v:=by kernel_rfl
def w3e:AFun:=(fun (a:AFun) (_:Gam.fn 290=some a)=>a) _ (by conv=>lhs;reduce;simp only[z4,z5])
theorem y4w:Gam.fn 290=some w3e:=by kernel_rfl
def w3f:AFun:=(fun (a:AFun) (_:Gam.fn 291=some a)=>a) _ (by conv=>lhs;reduce;simp only[z4,z5])
theorem y4x:Gam.fn 291=some w3f:=by kernel_rfl
def w3g:AFun:=(fun (a:AFun) (_:Gam.fn 316=some a)=>a) _ (by conv=>lhs;reduce;simp only[z4,z5])
theorem y4y:Gam.fn 316=some w3g:=by kernel_rfl
def w3h:AFun:=(fun (a:AFun) (_:Gam.fn 328=some a)=>a) _ (by conv=>lhs;reduce;simp only[z4,z5])
theorem y4z:Gam.fn 328=some w3h:=by kernel_rfl
def g0h:AFun:=(fun (a:AFun) (_:Gam.fn 292=some a)=>a) _ (by conv=>lhs;reduce;simp only[z4,z5])
def j5j:ACode:=(fun (a:ACode) (_:fl [] (lp g0h 0)=a)=>a) _ (by conv=>lhs;reduce;simp only[z4,z5])
attribute [local irreducible] j5j
def y5a:AFun:=(fun (a:AFun) (_:flF [j5j] g0h=a)=>a) _ (by conv=>lhs;reduce;simp only[z4,z5])
theorem u5n:Gam.fn 292=some y5a:=by kernel_rfl
def w3i:AFun:=(fun (a:AFun) (_:Gam.fn 314=some a)=>a) _ (by conv=>lhs;reduce;simp only[z4,z5])
theorem y5b:Gam.fn 314=some w3i:=by kernel_rfl
def w3j:AFun:=(fun (a:AFun) (_:Gam.fn 315=some a)=>a) _ (by conv=>lhs;reduce;simp only[z4,z5])
theorem y5c:Gam.fn 315=some w3j:=by kernel_rfl
def w3k:AFun:=(fun (a:AFun) (_:Gam.fn 322=some a)=>a) _ (by conv=>lhs;reduce;simp only[z4,z5])
theorem y5d:Gam.fn 322=some w3k:=by kernel_rfl
def w3l:AFun:=(fun (a:AFun) (_:Gam.fn 329=some a)=>a) _ (by conv=>lhs;reduce;simp only[z4,z5])
theorem y5e:Gam.fn 329=some w3l:=by kernel_rfl
def g0i:AFun:=(fun (a:AFun) (_:Gam.fn 334=some a)=>a) _ (by conv=>lhs;reduce;simp only[z4,z5])
def v6x:ACode:=(fun (a:ACode) (_:fl [] (lp g0i 0)=a)=>a) _ (by conv=>lhs;reduce;simp only[z4,z5])
attribute [local irreducible] v6x
def y5f:AFun:=(fun (a:AFun) (_:flF [v6x] g0i=a)=>a) _ (by conv=>lhs;reduce;simp only[z4,z5])
theorem u5o:Gam.fn 334=some y5f:=by kernel_rfl
def y5g:AFun:=
 {ntmps:=8,nslots:=0,results:=[.tmp 4],byref:=[],owned:=false,
  body:=(.seq (.region 1 [N 4 (.move (I 0))] []) (.seq (.region 4 [M 5 0,M 6 1,N 7 (.call 354 [(.tmp 5),(.tmp 6)]),M 4 7] []) .ret))}
theorem u5p:Gam.fn 344=some y5g:=by kernel_rfl
def y5h:AFun:=(fun (a:AFun) (_:Gam.fn 323=some a)=>a) _ (by conv=>lhs;reduce;simp only[z4,z5])
theorem u5q:Gam.fn 323=some y5h:=by kernel_rfl
def y5i:AFun:=(fun (a:AFun) (_:Gam.fn 330=some a)=>a) _ (by conv=>lhs;reduce;simp only[z4,z5])
theorem u5r:Gam.fn 330=some y5i:=by kernel_rfl
def g0j:AFun:=(fun (a:AFun) (_:Gam.fn 335=some a)=>a) _ (by conv=>lhs;reduce;simp only[z4,z5])
def j5k:ACode:=(fun (a:ACode) (_:fl [] (lp g0j 0)=a)=>a) _ (by conv=>lhs;reduce;simp only[z4,z5])
attribute [local irreducible] j5k
def y5j:AFun:=(fun (a:AFun) (_:flF [j5k] g0j=a)=>a) _ (by conv=>lhs;reduce;simp only[z4,z5])
theorem u5s:Gam.fn 335=some y5j:=by kernel_rfl
def g0k:AFun:=(fun (a:AFun) (_:Gam.fn 324=some a)=>a) _ (by conv=>lhs;reduce;simp only[z4,z5])
def j5l:ACode:=(fun (a:ACode) (_:fl [] (lp g0k 0)=a)=>a) _ (by conv=>lhs;reduce;simp only[z4,z5])
attribute [local irreducible] j5l
def y5k:AFun:=(fun (a:AFun) (_:flF [j5l] g0k=a)=>a) _ (by conv=>lhs;reduce;simp only[z4,z5])
theorem u5t:Gam.fn 324=some y5k:=by kernel_rfl
def u5u:AFun:=(fun (a:AFun) (_:Gam.fn 325=some a)=>a) _ (by conv=>lhs;reduce;simp only[z4,z5])
def x4b:ACode:=(fun (a:ACode) (_:fl [] (lp u5u 1)=a)=>a) _ (by conv=>lhs;reduce;simp only[z4,z5])
attribute [local irreducible] x4b
def j5m:ACode:=(fun (a:ACode) (_:fl [x4b] (lp u5u 0)=a)=>a) _ (by conv=>lhs;reduce;simp only[z4,z5])
attribute [local irreducible] j5m
def y5l:AFun:=(fun (a:AFun) (_:flF [j5m,x4b] u5u=a)=>a) _ (by conv=>lhs;reduce;simp only[z4,z5])
theorem u5v:Gam.fn 325=some y5l:=by kernel_rfl
def g0l:AFun:=(fun (a:AFun) (_:Gam.fn 326=some a)=>a) _ (by conv=>lhs;reduce;simp only[z4,z5])
def j5n:ACode:=(fun (a:ACode) (_:fl [] (lp g0l 0)=a)=>a) _ (by conv=>lhs;reduce;simp only[z4,z5])
attribute [local irreducible] j5n
def y5m:AFun:=(fun (a:AFun) (_:flF [j5n] g0l=a)=>a) _ (by conv=>lhs;reduce;simp only[z4,z5])
theorem u5w:Gam.fn 326=some y5m:=by kernel_rfl
def k9s:AFun:=(fun (a:AFun) (_:Gam.fn 327=some a)=>a) _ (by conv=>lhs;reduce;simp only[z4,z5])
theorem u5x:Gam.fn 327=some k9s:=by kernel_rfl
def g0m:AFun:=(fun (a:AFun) (_:Gam.fn 332=some a)=>a) _ (by conv=>lhs;reduce;simp only[z4,z5])
def x9y:ACode:=(fun (a:ACode) (_:fl [] (lp g0m 0)=a)=>a) _ (by conv=>lhs;reduce;simp only[z4,z5])
attribute [local irreducible] x9y
def y5n:AFun:=(fun (a:AFun) (_:flF [x9y] g0m=a)=>a) _ (by conv=>lhs;reduce;simp only[z4,z5])
theorem y5o:Gam.fn 332=some y5n:=by kernel_rfl
def u5y:AFun:=(fun (a:AFun) (_:Gam.fn 333=some a)=>a) _ (by conv=>lhs;reduce;simp only[z4,z5])
def k4g:ACode:=(fun (a:ACode) (_:fl [] (lp u5y 1)=a)=>a) _ (by conv=>lhs;reduce;simp only[z4,z5])
attribute [local irreducible] k4g
def v6y:ACode:=(fun (a:ACode) (_:fl [k4g] (lp u5y 0)=a)=>a) _ (by conv=>lhs;reduce;simp only[z4,z5])
attribute [local irreducible] v6y
def w3m:AFun:=(fun (a:AFun) (_:flF [v6y,k4g] u5y=a)=>a) _ (by conv=>lhs;reduce;simp only[z4,z5])
theorem u5z:Gam.fn 333=some w3m:=by kernel_rfl
def g0n:AFun:=(fun (a:AFun) (_:Gam.fn 340=some a)=>a) _ (by conv=>lhs;reduce;simp only[z4,z5])
def x4c:ACode:=(fun (a:ACode) (_:fl [] (lp g0n 0)=a)=>a) _ (by conv=>lhs;reduce;simp only[z4,z5])
attribute [local irreducible] x4c
def w3n:AFun:=(fun (a:AFun) (_:flF [x4c] g0n=a)=>a) _ (by conv=>lhs;reduce;simp only[z4,z5])
theorem y5p:Gam.fn 340=some w3n:=by kernel_rfl
def g0o:AFun:=(fun (a:AFun) (_:Gam.fn 341=some a)=>a) _ (by conv=>lhs;reduce;simp only[z4,z5])
def j5o:ACode:=(fun (a:ACode) (_:fl [] (lp g0o 0)=a)=>a) _ (by conv=>lhs;reduce;simp only[z4,z5])
attribute [local irreducible] j5o
def y5q:AFun:=(fun (a:AFun) (_:flF [j5o] g0o=a)=>a) _ (by conv=>lhs;reduce;simp only[z4,z5])
theorem u6a:Gam.fn 341=some y5q:=by kernel_rfl
end
def q8b (s:List Nat):Prop:=s≠[]∧∀ c∈s,48≤c∧c≤57
theorem z6k {h:List AObj} {c:Nat} {s:List Nat} {k:IntKind}:q4k h (.str (c::s)) (.int k 0)=some (.int .u8 (c:Int),h):=x9l (i:=0) rfl
theorem q1f {h:List AObj} {s:List Nat} {i:Nat} {k:IntKind} (hi:i < s.length):q4k h (.str s) (.int k (i:Int))=some (.int .u8 (s[i]:Int),h):=x9l (by simp[hi])
theorem x1b {h:List AObj} {c:Nat} {s:List Nat} {k:IntKind}:slV h none (.str (c::s)) (some (.int k 1)) none none=some (.str s,h):=by
 simp[slV,z2y,z5b]
theorem k9t {h:List AObj} {s:List Nat} {i:Nat} {k:IntKind} (hi:i≤s.length):slV h none (.str s) (some (.int k (i:Int))) none none=some (.str (s.drop i),h):=by
 simp[slV,z2y,z5b,hi]
theorem y5r {h:List AObj} {s:List Nat} {i:Nat} {k:IntKind} (hi:i≤s.length):slV h none (.str s) none (some (.int k (i:Int))) none=some (.str (s.take i),h):=by
 simp[slV,z2y,z5b,hi]
theorem z3h {T:List Nat} {s:List Nat} {R:AV→List AObj→Prop} {h:List AObj}:RV T (some [.str s]) R h=R (.str s) h:=z2n rfl rfl
theorem z0d {T:List Nat} {s:Bool} {R:AV→List AObj→Prop} {h:List AObj}:RV T (some [.bool s]) R h=R (.bool s) h:=z2n rfl rfl
theorem z2o {T:List Nat} {k:IntKind} {n:Int} {R:AV→List AObj→Prop} {h:List AObj}:RV T (some [.int k n]) R h=R (.int k n) h:=z2n rfl rfl
theorem q1g {s:List Nat} (hs:q8b s):Pure Gam 208 [.str s] (.str (dec (z1n s))):=by
 refine Pure.of rfl u5l rfl rfl rfl rfl rfl fun D B clk T hB hT=> ?_
 simp only[go_sem,y4u]
 refine z1t (fun m q=>∃ t:List Nat,m=t.length∧q8b t∧z1n t=z1n s∧q.ts 0= .str t∧q.h=D++[]) s.length ⟨s,rfl,hs,rfl,rfl,rfl⟩ ?_
 rintro m ⟨ts,h,clk⟩ P ⟨t,rfl,ht,hw,h0,rfl⟩ hn he hr
 dsimp only at h0
 have fin:y4b t→∀ (ts':Tmps) (clk':Nat),ts' 0= .str t→P (.exit 0) ⟨ts',D++[],clk'⟩:=by
  intro hc ts' clk' q0
  refine he _ _ ?_
  simp only[go_sem,q0]
  rw[z3h]
  have:=k3w hc
  rw[hw] at this
  rw[←this]
  exact hT _
 obtain⟨c,t',rfl⟩:=List.exists_cons_of_ne_nil ht.1
 by_cases hl:t'=[]
 ·subst hl
  simp only[go_sem,h0,x9x,Int.cast_ofNat_Int,Int.reduceLT,decide_false,y4]
  exact fin ⟨by simp,ht.2,by simp⟩ _ _ (by simp[z0b,h0])
 ·have hpos:0 < t'.length:=t9.2 hl
  have e1:decide ((1:Int) < ((t'.length + 1:Nat):Int))=true:=by rw[z04];omega
  by_cases hc:c=48
  ·subst hc
   simp only[go_sem,h0,x9x,e1,z6k,x1b,decide_true]
   refine hn t'.length _ (by simp) ⟨t',rfl,⟨hl,fun d hd=>ht.2 d (u0 _ hd)⟩, ?_,rfl,rfl⟩
   rw[←hw,z4l];simp
  ·have e2:decide ((c:Int)=48)=false:=by rw[z03];omega
   simp only[go_sem,h0,x9x,e1,z6k,x1b,e2]
   exact fin ⟨by simp,ht.2,fun _=>by simpa using hc⟩ _ _ (by simp[z0b,h0])
theorem q6x {s:List Nat} (hs:q8b s) (hlen:s.length≤100000000):Pure Gam 207 [.str s] (.bool true):=by
 refine Pure.of rfl u5m rfl rfl rfl rfl rfl fun D B clk T hB hT=> ?_
 simp only[go_sem,y4v]
 refine z1t (fun m q=>∃ j:Nat,j≤s.length∧m=s.length - j∧q.ts 0= .str s∧q.ts 3= .int .i64 (j:Int)∧q.h=D++[]) s.length ⟨0,by omega,rfl,rfl,rfl,rfl⟩ ?_
 rintro m ⟨ts,h,clk⟩ P ⟨j,hj,rfl,h0,h3,rfl⟩ hn he hr
 dsimp only at h0 h3
 by_cases hlt:j < s.length
 ·have e1:decide ((j:Int) < (s.length:Int))=true:=by rw[z04];omega
  have hc:=hs.2 s[j] (j9 hlt)
  have e2:decide ((s[j]:Int) < 48)=false:=by rw[z03];omega
  have e3:decide ((57:Int) < (s[j]:Int))=false:=by rw[z03];omega
  have e4:IntKind.i64.wrap ((j:Int) + 1)=((j + 1:Nat):Int):=z0e (by omega) (by omega)
  simp only[go_sem,h0,h3,j5i,e1,q1f hlt,e2,e3,e4]
  exact hn (s.length - (j + 1)) _ (by omega) ⟨j + 1,hlt,rfl,h0,rfl,rfl⟩
 ·have e1:decide ((j:Int) < (s.length:Int))=false:=by rw[z03];omega
  have e2:decide (s=[])=false:=by simp[hs.1]
  simp only[go_sem,h0,h3,j5i,e1]
  refine he _ _ ?_
  simp only[go_sem,h0,h3,e2,j5]
  rw[z0d]
  exact hT _
theorem z4v:∀ {s:List Nat},(∀ c∈s,48≤c∧c≤57)→z1n s < 10 ^ s.length
 | [],_=>by simp[z1n]
 | c::s,h=>by
   have h1:=z4v (s:=s) fun d hd=>h d (u0 _ hd)
   have h2:=h c v9
   rw[z4l,u6,p8]
   have:(c - 48) * 10 ^ s.length≤9 * 10 ^ s.length:=b9 _ (by omega)
   omega
theorem k9u {c:Nat} {s:List Nat} (hc:49≤c):10 ^ s.length≤z1n (c::s):=by
 rw[z4l]
 have:1 * 10 ^ s.length≤(c - 48) * 10 ^ s.length:=b9 _ (by omega)
 omega
theorem q1h:∀ {s t:List Nat},s.length=t.length→(∀ c∈s,48≤c∧c≤57)→(∀ c∈t,48≤c∧c≤57)→z6c s t=decide (z1n s < z1n t)
 | [],[],_,_,_=>by simp[z6c]
 | a::s,b::t,hl,hs,ht=>by
   have hl':s.length=t.length:=by simpa using hl
   have ih:=q1h hl' (fun d hd=>hs d (u0 _ hd)) (fun d hd=>ht d (u0 _ hd))
   have h1:=z4v (s:=s) fun d hd=>hs d (u0 _ hd)
   have h2:=z4v (s:=t) fun d hd=>ht d (u0 _ hd)
   have ha:=hs a v9
   have hb:=ht b v9
   rw[z6c,ih,z4l,z4l,hl']
   rw[hl'] at h1
   rcases Nat.lt_trichotomy a b with h | h | h
   ·have:(a - 48 + 1) * 10 ^ t.length≤(b - 48) * 10 ^ t.length:=b9 _ (by omega)
    rw[y9,Nat.one_mul] at this
    have e1:decide (a < b)=true:=by simp[h]
    rw[e1,Bool.true_or]
    symm
    rw[z04]
    omega
   ·subst h
    simp
   ·have:(b - 48 + 1) * 10 ^ t.length≤(a - 48) * 10 ^ t.length:=b9 _ (by omega)
    rw[y9,Nat.one_mul] at this
    have e1:decide (a < b)=false:=by simp;omega
    have e2:decide (a=b)=false:=by simp;omega
    rw[e1,e2,Bool.false_or,Bool.false_and]
    symm
    rw[z03]
    omega
theorem z6x {a b:Nat} (h:(dec a).length < (dec b).length):a < b:=by
 have h1:=z4v (z1l a)
 rw[z1s] at h1
 rcases n6 b with rfl | hb
 ·have h3:([48]:List Nat).length=1:=rfl
  rw[z9u,h3] at h
  have:=t9.2 (z7x a)
  omega
 ·obtain⟨c,s,hs,hc,_⟩:=j5c hb
  have h2:=k9u (s:=s) hc
  rw[←hs,z1s] at h2
  rw[hs,u6] at h
  have:10 ^ (dec a).length≤10 ^ s.length:=n7 (by omega) (by omega)
  omega
theorem k9v {a b:Nat}:(decide ((dec a).length < (dec b).length) || (decide ((dec a).length=(dec b).length) && z6c (dec a) (dec b)))=decide (a < b):=by
 rcases Nat.lt_trichotomy (dec a).length (dec b).length with h | h | h
 ·have:=z6x h
  simp[h,this]
 ·rw[q1h h (z1l a) (z1l b),z1s,z1s]
  simp[h]
 ·have:=z6x h
  have e1:¬ (dec a).length < (dec b).length:=by omega
  have e2:¬ (dec a).length=(dec b).length:=by omega
  have e3:¬ a < b:=by omega
  simp[e1,e2,e3]
section
theorem k4h {a b:Nat}:Pure Gam 281 [.str (dec a), .str (dec b)] (.int .i64 (if a < b then -1 else if a=b then 0 else 1)):=by
 refine Pure.of rfl u5j rfl rfl rfl rfl rfl fun D B clk T hB hT=> ?_
 have hd:=k9v (a:=a) (b:=b)
 have fin:∀ (n:Int),n=(if a < b then -1 else if a=b then 0 else 1)→T (.int .i64 n) (D++[]):=fun n hn=>hn ▸ hT _
 have key:(decide (((dec a).length:Int) < ((dec b).length:Int))=true∧a < b)∨(decide (((dec a).length:Int) < ((dec b).length:Int))=false∧decide (((dec a).length:Int)=((dec b).length:Int))=true∧z6c (dec a) (dec b)=decide (a < b))∨(decide (((dec a).length:Int) < ((dec b).length:Int))=false∧decide (((dec a).length:Int)=((dec b).length:Int))=false∧b < a):=by
  rcases Nat.lt_trichotomy (dec a).length (dec b).length with h | h | h
  ·exact .inl ⟨by rw[z04];omega,z6x h⟩
  ·refine .inr (.inl ⟨by rw[z03];omega,by rw[z04];omega, ?_⟩)
   rw[q1h h (z1l a) (z1l b),z1s,z1s]
  ·exact .inr (.inr ⟨by rw[z03];omega,by rw[z03];omega,z6x h⟩)
 have heq:decide (dec a=dec b)=decide (a=b):=by
  rw[decide_eq_decide]
  exact⟨x0w,fun h=>h ▸ rfl⟩
 rcases key with ⟨e1,h1⟩ | ⟨e1,e2,e3⟩ | ⟨e1,e2,h1⟩
 ·simp only[go_sem,j9q,e1,z7]
  rw[z2o]
  exact fin _ (by rw[if_pos h1])
 ·rcases Nat.lt_trichotomy a b with h | h | h
  ·have e4:decide (a < b)=true:=by simp[h]
   simp only[go_sem,j9q,e1,e2,e3,e4,j5]
   rw[z2o]
   exact fin _ (by rw[if_pos h])
  ·have e4:decide (a < b)=false:=by simp;omega
   have e5:decide (a=b)=true:=by simp[h]
   simp only[go_sem,j9q,e1,e2,e3,e4,heq,e5,j5]
   rw[z2o]
   exact fin _ (by rw[if_neg (by omega),if_pos h])
  ·have e4:decide (a < b)=false:=by simp;omega
   have e5:decide (a=b)=false:=by simp;omega
   simp only[go_sem,j9q,e1,e2,e3,e4,heq,e5,j5]
   rw[z2o]
   exact fin _ (by rw[if_neg (by omega),if_neg (by omega)])
 ·have e5:decide (a=b)=false:=by simp;omega
  simp only[go_sem,j9q,e1,e2,heq,e5,j5]
  rw[z2o]
  exact fin _ (by rw[if_neg (by omega),if_neg (by omega)])
section
variable {D L:List AObj} {B k g i:Nat} {es:List AV} {w:Bool}
theorem q0j {K K':IntKind} {n m:Int} (hB:D.length=B) (hL:L[k]? =some (.blk g es true w 0)) (hi:es[i]? =some (.int K' m)):z5q (D++L) 1 (.int K n) (.ptr (B + k) g i 0)=some (.undef,D++L.set k (.blk g (es.set i (.int K n)) true w 0)):=by
 have hb:z1u (D++L) (B + k) g=some (es,true,w,0):=by rw[z2k hB];exact z2g hL
 rw[z6w,hb]
 have hp:pub (D++L) (.int K n)=some (.int K n,D++L):=rfl
 simp only[hi,if_true,hp,k2t,x0o,w0,List.all_cons,List.all_nil,k2u,Bool.and_self,true_and,Nat.zero_le,k3k,List.map_nil,List.contains_nil,j5,and_self,implies_true,z8f,x0o,y4,j8,List.take_zero,d3,List.drop_succ_cons,List.drop_nil,u5,k6,x3w,x0n,z2a hB]
theorem q1i {len:Nat} {K:IntKind} {x:AV} (hB:D.length=B) (hL:L[k]? =some (.blk g es true w 0)) (hi:es[i]? =some x) (hx:x.cells=[x]) (hl:i < len):z1m (D++L) 1 (.ob (B + k) g 0 len) (.int K (i:Int))=some (.ptr (B + k) g i 0,D++L):=by
 have hb:z1u (D++L) (B + k) g=some (es,true,w,0):=by rw[z2k hB];exact z2g hL
 simp only[z1m,Int.natCast_nonneg,if_true,hb,i6,y4,hi,hl,hx,w0,and_self]
theorem q4q {len:Nat} (hB:D.length=B) (hL:L[k]? =some (.blk g es true w 0)) (hl:es.length=len):z4o (D++L) (.ob (B + k) g 0 len)=some es:=by
 have hb:z1u (D++L) (B + k) g=some (es,true,w,0):=by rw[z2k hB];exact z2g hL
 simp only[z4o,q0t,hb,y4,hl,j8,if_true,d7]
 rw[List.take_of_length_le (by omega)]
end
def bytes (s:List Nat):List AV:=s.map fun (c:Nat)=> .int .u8 (c:Int)
theorem z7e:∀ {s:List Nat},(∀ c∈s,c < 256)→z7j (bytes s)=some s
 | [],_=>rfl
 | c::s,h=>by
   have ih:=z7e (s:=s) fun d hd=>h d (u0 _ hd)
   have hc:=h c v9
   unfold bytes at ih⊢
   simp only[List.map_cons,z7j,ih,k6,i6]
   rw[if_pos (by omega)]
end
theorem q8c {h:List AObj} {s g b n:Nat} {z:AV} {k j:IntKind} (hz:z.def? =true) (hn:(n:Int) * ((b:Int) + 1)≤2 ^ 46):msV h s g z b (.int k (n:Int)) (.int j (n:Int))=some (.ob s g 0 n,h.set s (.blk g (j1 n z) true false 0)):=by
 have h1:(0≤(n:Int)∧(n:Int)≤n∧(n:Int) * (b + 1)≤(z1e:Int)∧z.def? =true):=by
  refine⟨by omega,by omega, ?_,hz⟩
  simpa [z1e] using hn
 simp only[msV,if_pos h1,i6]
theorem x6h {n i:Nat} {x y:AV} {suf:List AV} (hi:i < n):(j1 (n - i) x++suf).set (n - 1 - i) y=j1 (n - (i + 1)) x++(y::suf):=by
 obtain⟨m,hm⟩:∃ m,n - i=m + 1:=⟨n - i - 1,by omega⟩
 rw[hm,show n - 1 - i=m by omega,show n - (i + 1)=m by omega,List.replicate_succ',n0,List.set_append_right _ _ (by simp)]
 simp
theorem q2g {n i:Nat} {x:AV} {suf:List AV} (hi:i < n):(j1 (n - i) x++suf)[n - 1 - i]? =some x:=by
 rw[List.getElem?_append_left (by simp;omega),List.getElem?_replicate,if_pos (by omega)]
theorem q6y {A:List Nat} {i:Nat} (hi:i < A.length):z1n (A.drop (A.length - (i + 1)))=(A[A.length - 1 - i] - 48) * 10 ^ i + z1n (A.drop (A.length - i)):=by
 have h1:A.drop (A.length - (i + 1))=A[A.length - 1 - i]::A.drop (A.length - i):=by
  rw[p9 (by omega)]
  congr 2 <;> omega
 rw[h1,z4l,List.length_drop,show A.length - (A.length - i)=i by omega]
theorem q3f {c:Nat} (h:48≤c∧c≤57):IntKind.u8.wrap ((c:Int) - 48)=((c - 48:Nat):Int):=by rw[IntWalk.u8_in _ (by omega)];omega
theorem j2p {a b:Nat} (hba:b≤a) (hlen:(dec a).length≤50000100) (hlenb:(dec b).length≤50000100):Pure Gam 282 [.str (dec a), .str (dec b)] (.str (dec (a - b))):=by
 refine Pure.of rfl u5k rfl rfl rfl rfl rfl fun D B clk T hB hT=> ?_
 have hda:=z1l a
 have hdb:=z1l b
 have hna:dec a≠[]:=z7x a
 have hlab:(dec b).length≤(dec a).length:=Classical.byContradiction fun h=>by
  have:=z6x (a:=a) (b:=b) (by omega)
  omega
 have hwa:=z1s a
 have hwb:=z1s b
 generalize hA:dec a=A at *
 generalize hBb:dec b=C at *
 simp only[go_sem,y4t,hB,q8c (z:= .int .u8 0) (n:=A.length) (b:=1) rfl (by omega)]
 refine z1t (fun m q=>∃ (i r:Nat) (suf:List Nat) (gr:Nat),i≤A.length∧m=A.length - i∧suf.length=i∧(∀ c∈suf,48≤c∧c≤57)∧r≤1∧z1n suf + z1n (C.drop (C.length - i)) + 0=z1n (A.drop (A.length - i)) + r * 10 ^ i∧
  q.ts 0= .str A∧q.ts 1= .str C∧q.ts 5= .ob (B + 0) gr 0 A.length∧q.ts 6= .int .i64 (r:Int)∧q.ts 7= .int .i64 (i:Int)∧q.h=D++[.blk gr (j1 (A.length - i) (.int .u8 0)++bytes suf) true false 0]) A.length ?_ ?_
 ·refine⟨0,0,[],_,by omega,rfl,rfl,by simp,by omega,by simp[z1n],rfl,rfl,rfl,rfl,rfl,by simp[bytes]⟩
 rintro m ⟨ts,h,clk⟩ P ⟨i,r,suf,gr,hi,rfl,hsl,hsd,hr1,hw,h0,h1,h5,h6,h7,rfl⟩ hn he hr
 dsimp only at h0 h1 h5 h6 h7
 by_cases hlt:i < A.length
 ·have e1:decide ((i:Int) < (A.length:Int))=true:=by rw[z04];omega
  have ea:IntKind.i64.wrap (IntKind.i64.wrap ((A.length:Int) - 1) - (i:Int))=((A.length - 1 - i:Nat):Int):=by rw[z0e (n:=(A.length:Int) - 1) (by omega) (by omega),z0e (by omega) (by omega)];omega
  have hia:A.length - 1 - i < A.length:=by omega
  have hca:=hda _ (j9 hia)
  have hdig:=q6y hlt
  generalize hc:A[A.length - 1 - i]=c at hca hdig
  have hixa:∀ h,q4k h (.str A) (.int .i64 ((A.length - 1 - i:Nat):Int))=some (.int .u8 (c:Int),h):=fun h=>by rw[q1f hia,hc]
  have ec:=q3f hca
  have ei:IntKind.i64.wrap ((i:Int) + 1)=((i + 1:Nat):Int):=z0e (by omega) (by omega)
  have ec2:IntKind.i64.wrap ((c - 48:Nat):Int)=((c - 48:Nat):Int):=z0e (by omega) (by omega)
  have fin:∀ (s:Int) (d:Nat),d≤9→s=((c - 48:Nat):Int) - r - (d:Int)→z1n (C.drop (C.length - (i + 1)))=d * 10 ^ i + z1n (C.drop (C.length - i))→
    ∀ (r':Nat) (e:Nat),((s < 0∧r'=1∧(e:Int)=s + 10)∨(0≤s∧r'=0∧(e:Int)=s))→∀ (ts':Tmps) (clk':Nat),ts' 0= .str A→ts' 1= .str C→ts' 5= .ob (B + 0) gr 0 A.length→ts' 6= .int .i64 (r':Int)→ts' 7= .int .i64 ((i + 1:Nat):Int)→P .norm ⟨ts',D++[.blk gr (j1 (A.length - (i + 1)) (.int .u8 0)++bytes ((48 + e)::suf)) true false 0],clk'⟩:=by
   intro s d hd hs hcd r' e hre ts' clk' q0 q1 q5 q6 q7
   refine hn (A.length - (i + 1)) _ (by omega) ⟨i + 1,r',(48 + e)::suf,gr,hlt,rfl,by simp[hsl], ?_,by omega, ?_,q0,q1,q5,q6,q7,rfl⟩
   ·intro c' hc'
    rw[y3] at hc'
    rcases hc' with rfl | hc'
    ·omega
    ·exact hsd c' hc'
   ·rw[z4l,hsl,hcd,hdig,p8,Nat.add_sub_cancel_left]
    have hx:e + d + r=(c - 48) + r' * 10:=by omega
    have:=congrArg (· * 10 ^ i) hx
    simp only[y9] at this
    rw[Nat.mul_assoc] at this
    rw[m6 (10 ^ i) 10]
    omega
  have hstore:∀ (g':Nat) (x:Int),z5q (D++[.blk g' (j1 (A.length - i) (.int .u8 0)++bytes suf) true false 0]) 1 (.int .u8 x) (.ptr (B + 0) g' (A.length - 1 - i) 0)=some (.undef,D++[.blk g' (j1 (A.length - (i + 1)) (.int .u8 0)++(.int .u8 x::bytes suf)) true false 0]):=fun g' x=>by
   have h:=q0j (K:= .u8) (n:=x) (K':= .u8) (m:=0) (D:=D) (B:=B) (g:=g') (i:=A.length - 1 - i) (es:=j1 (A.length - i) (AV.int .u8 0)++bytes suf) (L:=[AObj.blk g' (j1 (A.length - i) (AV.int .u8 0)++bytes suf) true false 0]) (k:=0) (w:=false) hB rfl (q2g hlt)
   rw[x6h hlt] at h
   exact h
  have hidx:∀ (g':Nat),z1m (D++[.blk g' (j1 (A.length - i) (.int .u8 0)++bytes suf) true false 0]) 1 (.ob (B + 0) g' 0 A.length) (.int .i64 ((A.length - 1 - i:Nat):Int))=some (.ptr (B + 0) g' (A.length - 1 - i) 0,D++[.blk g' (j1 (A.length - i) (.int .u8 0)++bytes suf) true false 0]):=fun g'=>
   q1i (L:=[.blk g' (j1 (A.length - i) (.int .u8 0)++bytes suf) true false 0]) (k:=0) hB rfl (q2g hlt) rfl (by omega)
  have e8:∀ e:Nat,e≤9→IntKind.u8.wrap (IntKind.i64.wrap (48 + (e:Int)))=((48 + e:Nat):Int):=fun e h=>by rw[z0e (by omega) (by omega),IntWalk.u8_in _ (by omega)];omega
  have hsub1:IntKind.i64.wrap (((c - 48:Nat):Int) - (r:Int))=((c - 48:Nat):Int) - (r:Int):=z0e (by omega) (by omega)
  by_cases hib:i < C.length
  ·have e2:decide ((i:Int) < (C.length:Int))=true:=by rw[z04];omega
   have eb:IntKind.i64.wrap (IntKind.i64.wrap ((C.length:Int) - 1) - (i:Int))=((C.length - 1 - i:Nat):Int):=by rw[z0e (n:=(C.length:Int) - 1) (by omega) (by omega),z0e (by omega) (by omega)];omega
   have hic:C.length - 1 - i < C.length:=by omega
   have hcc:=hdb _ (j9 hic)
   have hdigb:=q6y hib
   generalize hc2:C[C.length - 1 - i]=d at hcc hdigb
   have hixb:∀ h,q4k h (.str C) (.int .i64 ((C.length - 1 - i:Nat):Int))=some (.int .u8 (d:Int),h):=fun h=>by rw[q1f hic,hc2]
   have ed:=q3f hcc
   have ed2:IntKind.i64.wrap ((d - 48:Nat):Int)=((d - 48:Nat):Int):=z0e (by omega) (by omega)
   have hsub2:IntKind.i64.wrap (((c - 48:Nat):Int) - (r:Int) - ((d - 48:Nat):Int))=((c - 48:Nat):Int) - (r:Int) - ((d - 48:Nat):Int):=z0e (by omega) (by omega)
   have fin':=fin (((c - 48:Nat):Int) - r - ((d - 48:Nat):Int)) (d - 48) (by omega) rfl hdigb
   by_cases hneg:((c - 48:Nat):Int) - (r:Int) - ((d - 48:Nat):Int) < 0
   ·have e3:decide (((c - 48:Nat):Int) - (r:Int) - ((d - 48:Nat):Int) < 0)=true:=by rw[z04];exact hneg
    obtain⟨e,he2⟩:∃ e:Nat,(e:Int)=((c - 48:Nat):Int) - (r:Int) - ((d - 48:Nat):Int) + 10:=⟨(((c - 48:Nat):Int) - (r:Int) - ((d - 48:Nat):Int) + 10).toNat,by omega⟩
    have e4:IntKind.i64.wrap (((c - 48:Nat):Int) - (r:Int) - ((d - 48:Nat):Int) + 10)=(e:Int):=by rw[z0e (by omega) (by omega)];omega
    simp only[go_sem,h0,h1,h5,h6,h7,x1a,hB,e1,ea,hixa,ec,ec2,hsub1,e2,eb,hixb,ed,ed2,hsub2,e3,e4,e8 e (by omega),hidx,hstore,ei]
    exact fin' 1 e (.inl ⟨hneg,rfl,he2⟩) _ _ (by simp[z0b,h0]) (by simp[z0b,h1]) (by simp[z0b,h5]) (by simp[z0b]) (by simp[z0b])
   ·have e3:decide (((c - 48:Nat):Int) - (r:Int) - ((d - 48:Nat):Int) < 0)=false:=by rw[z03];exact hneg
    obtain⟨e,he2⟩:∃ e:Nat,((c - 48:Nat):Int) - (r:Int) - ((d - 48:Nat):Int)=(e:Int):=⟨(((c - 48:Nat):Int) - (r:Int) - ((d - 48:Nat):Int)).toNat,by omega⟩
    rw[he2] at e3
    have hsub2:=hsub2.trans he2
    simp only[go_sem,h0,h1,h5,h6,h7,x1a,hB,e1,ea,hixa,ec,ec2,hsub1,e2,eb,hixb,ed,ed2,hsub2,e3,e8 e (by omega),hidx,hstore,ei]
    exact fin' 0 e (.inr ⟨by omega,rfl,he2.symm⟩) _ _ (by simp[z0b,h0]) (by simp[z0b,h1]) (by simp[z0b,h5]) (by simp[z0b]) (by simp[z0b])
  ·have e2:decide ((i:Int) < (C.length:Int))=false:=by rw[z03];omega
   have fin':=fin (((c - 48:Nat):Int) - r) 0 (by omega) (by omega) (by rw[show C.length - (i + 1)=0 by omega,show C.length - i=0 by omega];omega)
   by_cases hneg:((c - 48:Nat):Int) - (r:Int) < 0
   ·have e3:decide (((c - 48:Nat):Int) - (r:Int) < 0)=true:=by rw[z04];exact hneg
    obtain⟨e,he2⟩:∃ e:Nat,(e:Int)=((c - 48:Nat):Int) - (r:Int) + 10:=⟨(((c - 48:Nat):Int) - (r:Int) + 10).toNat,by omega⟩
    have e4:IntKind.i64.wrap (((c - 48:Nat):Int) - (r:Int) + 10)=(e:Int):=by rw[z0e (by omega) (by omega)];omega
    simp only[go_sem,h0,h1,h5,h6,h7,x1a,hB,e1,ea,hixa,ec,ec2,hsub1,e2,e3,e4,e8 e (by omega),hidx,hstore,ei]
    exact fin' 1 e (.inl ⟨hneg,rfl,he2⟩) _ _ (by simp[z0b,h0]) (by simp[z0b,h1]) (by simp[z0b,h5]) (by simp[z0b]) (by simp[z0b])
   ·have e3:decide (((c - 48:Nat):Int) - (r:Int) < 0)=false:=by rw[z03];exact hneg
    obtain⟨e,he2⟩:∃ e:Nat,((c - 48:Nat):Int) - (r:Int)=(e:Int):=⟨(((c - 48:Nat):Int) - (r:Int)).toNat,by omega⟩
    rw[he2] at e3
    have hsub1:=hsub1.trans he2
    simp only[go_sem,h0,h1,h5,h6,h7,x1a,hB,e1,ea,hixa,ec,ec2,hsub1,e2,e3,e8 e (by omega),hidx,hstore,ei]
    exact fin' 0 e (.inr ⟨by omega,rfl,he2.symm⟩) _ _ (by simp[z0b,h0]) (by simp[z0b,h1]) (by simp[z0b,h5]) (by simp[z0b]) (by simp[z0b])
 ·have hiA:i=A.length:=by omega
  have e1:decide ((i:Int) < (A.length:Int))=false:=by rw[z03];omega
  have hwl:=z4v hsd
  have hr0:r=0:=Classical.byContradiction fun h=>by
   have:r=1:=by omega
   subst this
   rw[hiA,d8,d7,show C.length - A.length=0 by omega,d7,hwa,hwb] at hw
   rw[hsl,hiA] at hwl
   omega
  have hws:z1n suf=a - b:=by
   rw[hiA,d8,d7,show C.length - A.length=0 by omega,d7,hwa,hwb,hr0] at hw
   omega
  have hsne:suf≠[]:=fun h=>hna (e9.1 (by rw[←hiA,←hsl,h];rfl))
  simp only[go_sem,h0,h1,h5,h6,h7,x1a,e1]
  refine he _ _ ?_
  have hof:k7a (D++[.blk gr (j1 (A.length - i) (.int .u8 0)++bytes suf) true false 0]) (.ob (B + 0) gr 0 A.length)=some (.str suf,D++[.blk gr (j1 (A.length - i) (.int .u8 0)++bytes suf) true false 0]):=by
   have hs:=q4q (B:=B) (D:=D) (L:=[.blk gr (j1 (A.length - i) (.int .u8 0)++bytes suf) true false 0]) (k:=0) (g:=gr) (len:=A.length) hB rfl (by simp[bytes,hsl];omega)
   simp only[k7a,hs,n9]
   rw[show A.length - i=0 by omega,List.replicate_zero,d3,z7e fun c hc=>by have:=hsd c hc;omega]
   rfl
  simp only[go_sem,h5,hof]
  rw[z0a (q1g ⟨hsne,hsd⟩),hws]
  simp only[go_sem,]
  rw[z3h]
  exact hT _
theorem k9w {B clk r b:Nat} {D:List AObj} {o:AObj} {ts:Tmps} {ks:List Kf} {Q:Post} (hb:0 < b) (hr:r < 10 * b) (hl:(dec r).length≤50000100) (hlb:(dec b).length≤50000100) (h1:ts 1= .str (dec b)) (h7:ts 7= .str (dec r)) (h9:ts 9= .int .u8 48)
  (hQ:∀ (ts':Tmps) (clk':Nat),ts' 0=ts 0→ts' 1=ts 1→ts' 6=ts 6→ts' 8=ts 8→ts' 7= .str (dec (r % b))→ts' 9= .int .u8 ((48 + r / b:Nat):Int)→K Gam B (.exit 2) ks ⟨ts',D++[o],clk'⟩ Q):
  K Gam B (.loop x3z) ks ⟨ts,D++[o],clk⟩ Q:=by
 refine z1t (fun m q=>∃ (x d:Nat),m=x∧r=x + d * b∧d≤9∧(dec x).length≤50000100∧q.ts 0=ts 0∧q.ts 1=ts 1∧q.ts 6=ts 6∧q.ts 8=ts 8∧q.ts 7= .str (dec x)∧q.ts 9= .int .u8 ((48 + d:Nat):Int)∧q.h=D++[o]) r ⟨r,0,rfl,by omega,by omega,hl,rfl,rfl,rfl,rfl,h7,h9,rfl⟩ ?_
 rintro m ⟨ts2,h,clk⟩ P ⟨x,d,rfl,hx,hd,hlx,q0,q1,q6,q8,q7,q9,rfl⟩ hn he hret
 dsimp only at q0 q1 q6 q8 q7 q9
 rw[h1] at q1
 have hcmp:=k4h (a:=m) (b:=b)
 by_cases hlt:m < b
 ·rw[if_pos hlt] at hcmp
  simp only[go_sem,q1,q7,q9,x3z]
  rw[z0a hcmp]
  simp only[go_sem,Int.reduceLE,decide_false]
  refine he _ _ ?_
  have e1:r % b=m:=by rw[hx,Nat.add_mul_mod_self_right,Nat.mod_eq_of_lt hlt]
  have e2:r / b=d:=by rw[hx,Nat.add_mul_div_right _ _ hb,Nat.div_eq_of_lt hlt,y4]
  exact hQ _ _ (by simp[z0b,q0]) (by simp[z0b,q1,h1]) (by simp[z0b,q6]) (by simp[z0b,q8]) (by simp[z0b,q7,e1]) (by simp[z0b,q9,e2])
 ·have hge:∃ n:Int,(if m < b then -1 else if m=b then 0 else 1)=n∧0≤n:=by
   rw[if_neg hlt]
   split
   ·exact⟨0,rfl,by omega⟩
   ·exact⟨1,rfl,by omega⟩
  obtain⟨n,hn1,hn2⟩:=hge
  rw[hn1] at hcmp
  have e1:decide (0≤n)=true:=by rw[z04];exact hn2
  have hd9:d + 1≤9:=by
   have:d * b + b≤r:=by omega
   rcases Nat.lt_or_ge d 9 with h | h
   ·omega
   ·have:9 * b≤d * b:=b9 _ h
    omega
  have e2:IntKind.u8.wrap (((48 + d:Nat):Int) + 1)=((48 + (d + 1):Nat):Int):=by rw[IntWalk.u8_in _ (by omega)];omega
  simp only[go_sem,q1,q7,q9,x3z]
  rw[z0a hcmp]
  simp only[go_sem,e1,q1,q7]
  rw[z0a (j2p (by omega) hlx hlb)]
  simp only[go_sem,q9,e2]
  have hlx':(dec (m - b)).length≤50000100:=Classical.byContradiction fun h=>by
   have:=z6x (a:=m) (b:=m - b) (by omega)
   omega
  exact hn (m - b) _ (by omega) ⟨m - b,d + 1,rfl,by rw[y9,Nat.one_mul];omega,hd9,hlx',q0,by rw[h1];exact q1,q6,q8,rfl,rfl,rfl⟩
theorem q0k {A:List Nat} {i:Nat} (hi:i < A.length):z1n (A.take (i + 1))=10 * z1n (A.take i) + (A[i] - 48):=by
 rw[w8 hi,q0i]
theorem j5p {n i:Nat} {x:AV} {suf:List AV} (hl:suf.length=i) (hi:i < n):(suf++j1 (n - i) x)[i]? =some x:=by
 rw[List.getElem?_append_right (by omega),List.getElem?_replicate,if_pos (by omega)]
theorem k9x {n i:Nat} {x y:AV} {suf:List AV} (hl:suf.length=i) (hi:i < n):(suf++j1 (n - i) x).set i y=(suf++[y])++j1 (n - (i + 1)) x:=by
 obtain⟨m,hm⟩:∃ m,n - i=m + 1:=⟨n - i - 1,by omega⟩
 rw[hm,show n - (i + 1)=m by omega,List.replicate_succ,List.set_append_right _ _ (by omega),hl,d8,List.set_cons_zero,n0]
 rfl
theorem j9r {s:List Nat} {c:Nat}:bytes s++[.int .u8 (c:Int)]=bytes (s++[c]):=by simp[bytes]
theorem q5v {s:List Nat}:(bytes s).length=s.length:=by simp[bytes]
theorem x6i {a b:Nat} (hb:0 < b) (hlen:(dec a).length≤50000000) (hlenb:(dec b).length≤50000000):Pure Gam 278 [.str (dec a), .str (dec b)] (.tup [.str (dec (a / b)), .str (dec (a % b))]):=by
 refine Pure.of rfl u5h rfl rfl rfl rfl rfl fun D B clk T hB hT=> ?_
 have hda:=z1l a
 have hna:dec a≠[]:=z7x a
 have hwa:=z1s a
 generalize hA:dec a=A at *
 simp only[go_sem,y4r,hB,q8c (z:= .int .u8 0) (n:=A.length) (b:=1) rfl (by omega)]
 refine z1t (fun m q=>∃ (i:Nat) (qs:List Nat) (gr:Nat),i≤A.length∧m=A.length - i∧qs.length=i∧(∀ c∈qs,48≤c∧c≤57)∧z1n qs=z1n (A.take i) / b∧
  q.ts 0= .str A∧q.ts 1= .str (dec b)∧q.ts 6= .ob (B + 0) gr 0 A.length∧q.ts 7= .str (dec (z1n (A.take i) % b))∧q.ts 8= .int .i64 (i:Int)∧q.h=D++[.blk gr (bytes qs++j1 (A.length - i) (.int .u8 0)) true false 0]) A.length ?_ ?_
 ·refine⟨0,[],_,by omega,rfl,rfl,by simp,by simp[z1n],rfl,rfl,rfl, ?_,rfl,by simp[bytes]⟩
  simp[z0b,z1n,z9u]
 rintro m ⟨ts,h,clk⟩ P ⟨i,qs,gr,hi,rfl,hql,hqd,hqw,h0,h1,h6,h7,h8,rfl⟩ hn he hr
 dsimp only at h0 h1 h6 h7 h8
 have hrb:z1n (A.take i) % b < b:=Nat.mod_lt _ hb
 by_cases hlt:i < A.length
 ·have e1:decide ((i:Int) < (A.length:Int))=true:=by rw[z04];omega
  have ei:IntKind.i64.wrap ((i:Int) + 1)=((i + 1:Nat):Int):=z0e (by omega) (by omega)
  have hc:=hda A[i] (j9 hlt)
  have hsl:∀ h,slV h none (.str A) (some (.int .i64 (i:Int))) (some (.int .i64 ((i + 1:Nat):Int))) none=some (.str [A[i]],h):=fun h=>by
   have:((A.take (i + 1)).drop i)=[A[i]]:=by
    rw[w8 hlt,List.drop_append_of_le_length (by simp;omega)]
    simp
   have hle:i + 1≤A.length:=hlt
   simp only[slV,z2y,z5b,Int.natCast_nonneg,if_true,i6,hle,and_true,Nat.le_add_right,this,k6]
  generalize hR:z1n (A.take i) % b=R at *
  have hRl:(dec R).length≤50000000:=Classical.byContradiction fun h=>by
   have:=z6x (a:=b) (b:=R) (by omega)
   omega
  have hdig:q8b (dec R++[A[i]]):=⟨by simp,fun c hc'=>by
   rw[j6,u7] at hc'
   rcases hc' with h | rfl
   ·exact z1l R c h
   ·exact hc⟩
  have hwr:z1n (dec R++[A[i]])=10 * R + (A[i] - 48):=by rw[q0i,z1s]
  have hrl2:(dec (10 * R + (A[i] - 48))).length≤50000100:=by
   have h1:=z4v (z1l R)
   rw[z1s] at h1
   exact w9 (z7d (k:=(dec R).length + 1) (by omega) (by rw[p8];omega)) (by omega)
  simp only[go_sem,h0,h1,h6,h7,h8,j5g,e1,ei,hsl,q7z (a:=dec R) (b:=[A[i]]) (by simp;omega)]
  rw[z0a (q1g hdig),hwr]
  simp only[go_sem,]
  refine k9w hb (by omega) hrl2 (by omega) (by simp[z0b,h1]) rfl rfl ?_
  intro ts2 clk2 q0 q1 q6 q8 q7 q9
  simp only[z0b,z0,cond_true,cond_false,h0,h1,h6,h8] at q0 q1 q6 q8
  have hqd9:(10 * R + (A[i] - 48)) / b≤9:=by
   rw[Nat.div_le_iff_le_mul_add_pred hb];omega
  have hbl:(bytes qs).length=i:=by rw[q5v,hql]
  have hstore:∀ (x:Nat),z5q (D++[.blk gr (bytes qs++j1 (A.length - i) (.int .u8 0)) true false 0]) 1 (.int .u8 (x:Int)) (.ptr (B + 0) gr i 0)=some (.undef,D++[.blk gr (bytes (qs++[x])++j1 (A.length - (i + 1)) (.int .u8 0)) true false 0]):=fun x=>by
   have h:=q0j (K:= .u8) (n:=x) (K':= .u8) (m:=0) (D:=D) (B:=B) (g:=gr) (i:=i) (es:=bytes qs++j1 (A.length - i) (AV.int .u8 0)) (L:=[AObj.blk gr (bytes qs++j1 (A.length - i) (AV.int .u8 0)) true false 0]) (k:=0) (w:=false) hB rfl (j5p hbl hlt)
   rw[k9x hbl hlt,j9r] at h
   exact h
  have hidx:z1m (D++[.blk gr (bytes qs++j1 (A.length - i) (.int .u8 0)) true false 0]) 1 (.ob (B + 0) gr 0 A.length) (.int .i64 (i:Int))=some (.ptr (B + 0) gr i 0,D++[.blk gr (bytes qs++j1 (A.length - i) (.int .u8 0)) true false 0]):=
   q1i (L:=[.blk gr (bytes qs++j1 (A.length - i) (.int .u8 0)) true false 0]) (k:=0) hB rfl (j5p hbl hlt) rfl (by omega)
  simp only[go_sem,q0,q1,q6,q8,q7,q9,hidx,hstore,ei]
  have hWA:z1n (A.take i)=b * z1n qs + R:=by rw[hqw,←hR];exact (Nat.div_add_mod _ _).symm
  have e10:10 * z1n (A.take i) + (A[i] - 48)=(10 * R + (A[i] - 48)) + b * (10 * z1n qs):=by
   rw[hWA,Nat.mul_add,←Nat.mul_assoc,m6 10 b,Nat.mul_assoc]
   omega
  refine hn (A.length - (i + 1)) _ (by omega) ⟨i + 1,qs++[48 + (10 * R + (A[i] - 48)) / b],gr,hlt,rfl,by simp[hql], ?_, ?_,by simp[z0b,q0],by simp[z0b,q1],by simp[z0b,q6], ?_,by simp[z0b],rfl⟩
  ·intro c hc'
   rw[j6,u7] at hc'
   rcases hc' with h | rfl
   ·exact hqd c h
   ·exact⟨Nat.le_add_right _ _,Nat.add_le_add_left hqd9 48⟩
  ·rw[q0i,q0k hlt,e10,Nat.add_mul_div_left _ _ hb,Nat.add_sub_cancel_left,Nat.add_comm]
  ·rw[q0k hlt,e10,Nat.add_mul_mod_self_left]
   simp[z0b,q7]
 ·have hiA:i=A.length:=by omega
  have e1:decide ((i:Int) < (A.length:Int))=false:=by rw[z03];omega
  rw[hiA,u4,hwa] at hqw h7
  have hqne:qs≠[]:=fun h=>hna (e9.1 (by rw[←hiA,←hql,h];rfl))
  have hof:k7a (D++[.blk gr (bytes qs++j1 (A.length - i) (.int .u8 0)) true false 0]) (.ob (B + 0) gr 0 A.length)=some (.str qs,D++[.blk gr (bytes qs++j1 (A.length - i) (.int .u8 0)) true false 0]):=by
   have hs:=q4q (B:=B) (D:=D) (L:=[.blk gr (bytes qs++j1 (A.length - i) (.int .u8 0)) true false 0]) (k:=0) (g:=gr) (len:=A.length) hB rfl (by simp[bytes,hql];omega)
   simp only[k7a,hs,n9]
   rw[show A.length - i=0 by omega,List.replicate_zero,u5,z7e fun c hc=>by have:=hqd c hc;omega]
   rfl
  simp only[go_sem,h0,h1,h6,h7,h8,j5g,e1]
  refine he _ _ ?_
  simp only[go_sem,h0,h1,h6,h7,h8,hof]
  rw[z0a (q1g ⟨hqne,hqd⟩),hqw]
  simp only[go_sem,h7]
  rw[z0h rfl rfl]
  exact hT _
theorem q0l {A:List Nat} {i:Nat} (hd:∀ c∈A,48≤c∧c≤57):∃ d,d≤9∧z1n (A.drop (A.length - (i + 1)))=d * 10 ^ i + z1n (A.drop (A.length - i))∧(i < A.length→∀ h,(q4k h (.str A) (.int .i64 ((A.length - 1 - i:Nat):Int))=some (.int .u8 ((48 + d:Nat):Int),h)))∧(¬ i < A.length→d=0):=by
 by_cases hi:i < A.length
 ·have hia:A.length - 1 - i < A.length:=by omega
  have hca:=hd _ (j9 hia)
  have hdig:=q6y hi
  refine⟨A[A.length - 1 - i] - 48,by omega,hdig,fun _ h=> ?_,fun h=>absurd hi h⟩
  rw[q1f hia,show 48 + (A[A.length - 1 - i] - 48)=A[A.length - 1 - i] by omega]
 ·refine⟨0,by omega, ?_,fun h=>absurd h hi,fun _=>rfl⟩
  rw[show A.length - (i + 1)=0 by omega,show A.length - i=0 by omega]
  omega
theorem k4i {a b:Nat} (hlen:(dec a).length≤50000000) (hlenb:(dec b).length≤50000000):Pure Gam 280 [.str (dec a), .str (dec b)] (.str (dec (a + b))):=by
 refine Pure.of rfl u4g rfl rfl rfl rfl rfl fun D B clk T hB hT=> ?_
 have hda:=z1l a
 have hdb:=z1l b
 have hwa:=z1s a
 have hwb:=z1s b
 generalize hA:dec a=A at *
 generalize hBb:dec b=C at *
 obtain⟨n,hn⟩:∃ n,n=max A.length C.length + 1:=⟨_,rfl⟩
 have hmm:∀ h,mmV h true (.int .i64 (A.length:Int)) (.int .i64 (C.length:Int))=some (.int .i64 ((n - 1:Nat):Int),h):=fun h=>by
  have:(if A.length < C.length then (C.length:Int) else (A.length:Int))=((n - 1:Nat):Int):=by split <;> omega
  simpa [mmV] using this
 have en:IntKind.i64.wrap (((n - 1:Nat):Int) + 1)=(n:Int):=by rw[z0e (by omega) (by omega)];omega
 simp only[go_sem,y3i,hB,hmm,en,q8c (z:= .int .u8 0) (n:=n) (b:=1) rfl (by omega)]
 refine z1t (fun m q=>∃ (i r:Nat) (suf:List Nat) (gr:Nat),i≤n∧m=n - i∧suf.length=i∧(∀ c∈suf,48≤c∧c≤57)∧r≤1∧z1n suf + r * 10 ^ i=z1n (A.drop (A.length - i)) + z1n (C.drop (C.length - i))∧
  q.ts 0= .str A∧q.ts 1= .str C∧q.ts 5= .int .i64 (n:Int)∧q.ts 6= .ob (B + 0) gr 0 n∧q.ts 7= .int .i64 (r:Int)∧q.ts 8= .int .i64 (i:Int)∧q.h=D++[.blk gr (j1 (n - i) (.int .u8 0)++bytes suf) true false 0]) n ?_ ?_
 ·refine⟨0,0,[],_,by omega,rfl,rfl,by simp,by omega,by simp[z1n],rfl,rfl,rfl,rfl,rfl,rfl,by simp[bytes]⟩
 rintro m ⟨ts,h,clk⟩ P ⟨i,r,suf,gr,hi,rfl,hsl,hsd,hr1,hw,h0,h1,h5,h6,h7,h8,rfl⟩ hnx he hr
 dsimp only at h0 h1 h5 h6 h7 h8
 by_cases hlt:i < n
 ·have e1:decide ((i:Int) < (n:Int))=true:=by rw[z04];omega
  obtain⟨x,hx,hxw,hxi,hx0⟩:=q0l (i:=i) hda
  obtain⟨y,hy,hyw,hyi,hy0⟩:=q0l (i:=i) hdb
  have ei:IntKind.i64.wrap ((i:Int) + 1)=((i + 1:Nat):Int):=z0e (by omega) (by omega)
  have ek:IntKind.i64.wrap (IntKind.i64.wrap ((n:Int) - 1) - (i:Int))=((n - 1 - i:Nat):Int):=by rw[z0e (n:=(n:Int) - 1) (by omega) (by omega),z0e (by omega) (by omega)];omega
  have ud:∀ d:Nat,d≤9→IntKind.u8.wrap (((48 + d:Nat):Int) - 48)=(d:Int):=fun d hd=>by rw[IntWalk.u8_in _ (by omega)];omega
  have wd:∀ d:Nat,d≤30→IntKind.i64.wrap (d:Int)=(d:Int):=fun d hd=>z0e (by omega) (by omega)
  have hstore:∀ (g':Nat) (x:Int),z5q (D++[.blk g' (j1 (n - i) (.int .u8 0)++bytes suf) true false 0]) 1 (.int .u8 x) (.ptr (B + 0) g' (n - 1 - i) 0)=some (.undef,D++[.blk g' (j1 (n - (i + 1)) (.int .u8 0)++(.int .u8 x::bytes suf)) true false 0]):=fun g' x=>by
   have h:=q0j (K:= .u8) (n:=x) (K':= .u8) (m:=0) (D:=D) (B:=B) (g:=g') (i:=n - 1 - i) (es:=j1 (n - i) (AV.int .u8 0)++bytes suf) (L:=[AObj.blk g' (j1 (n - i) (AV.int .u8 0)++bytes suf) true false 0]) (k:=0) (w:=false) hB rfl (q2g hlt)
   rw[x6h hlt] at h
   exact h
  have hidx:∀ (g':Nat),z1m (D++[.blk g' (j1 (n - i) (.int .u8 0)++bytes suf) true false 0]) 1 (.ob (B + 0) g' 0 n) (.int .i64 ((n - 1 - i:Nat):Int))=some (.ptr (B + 0) g' (n - 1 - i) 0,D++[.blk g' (j1 (n - i) (.int .u8 0)++bytes suf) true false 0]):=fun g'=>
   q1i (L:=[.blk g' (j1 (n - i) (.int .u8 0)++bytes suf) true false 0]) (k:=0) hB rfl (q2g hlt) rfl (by omega)
  have fin:∀ (ts':Tmps) (clk':Nat),ts' 0= .str A→ts' 1= .str C→ts' 5= .int .i64 (n:Int)→ts' 6= .ob (B + 0) gr 0 n→ts' 7= .int .i64 (((r + x + y) / 10:Nat):Int)→ts' 8= .int .i64 ((i + 1:Nat):Int)→P .norm ⟨ts',D++[.blk gr (j1 (n - (i + 1)) (.int .u8 0)++bytes ((48 + (r + x + y) % 10)::suf)) true false 0],clk'⟩:=by
   intro ts' clk' q0 q1 q5 q6 q7 q8
   refine hnx (n - (i + 1)) _ (by omega) ⟨i + 1,(r + x + y) / 10,(48 + (r + x + y) % 10)::suf,gr,hlt,rfl,by simp[hsl], ?_,by omega, ?_,q0,q1,q5,q6,q7,q8,rfl⟩
   ·intro c' hc'
    rw[y3] at hc'
    rcases hc' with rfl | hc'
    ·omega
    ·exact hsd c' hc'
   ·rw[z4l,hsl,hxw,hyw,p8,Nat.add_sub_cancel_left]
    have hdm:=Nat.div_add_mod (r + x + y) 10
    have:=congrArg (· * 10 ^ i) hdm
    simp only[y9] at this
    rw[m6 (10 ^ i) 10,←Nat.mul_assoc,m6 _ 10]
    omega
  have e3:∀ s:Nat,(s:Int).tmod 10=((s % 10:Nat):Int):=fun s=>by rw[Int.tmod_eq_emod_of_nonneg (by omega)];omega
  have e4:∀ s:Nat,s≤30→IntKind.i64.wrap ((s:Int).tdiv 10)=((s / 10:Nat):Int):=fun s hs=>by rw[IntWalk.i64_quo _ _ ⟨by omega,by omega,by omega⟩];omega
  have e5:∀ s:Nat,IntKind.u8.wrap (IntKind.i64.wrap (48 + ((s % 10:Nat):Int)))=((48 + s % 10:Nat):Int):=fun s=>by rw[z0e (by omega) (by omega),IntWalk.u8_in _ (by omega)];omega
  have es:∀ p q:Nat,p + q≤30→IntKind.i64.wrap ((p:Int) + (q:Int))=((p + q:Nat):Int):=fun p q h=>by rw[z0e (by omega) (by omega)];omega
  by_cases hia:i < A.length
  ·have f1:decide ((i:Int) < (A.length:Int))=true:=by rw[z04];omega
   have ea:IntKind.i64.wrap (IntKind.i64.wrap ((A.length:Int) - 1) - (i:Int))=((A.length - 1 - i:Nat):Int):=by rw[z0e (n:=(A.length:Int) - 1) (by omega) (by omega),z0e (by omega) (by omega)];omega
   by_cases hib:i < C.length
   ·have f2:decide ((i:Int) < (C.length:Int))=true:=by rw[z04];omega
    have eb:IntKind.i64.wrap (IntKind.i64.wrap ((C.length:Int) - 1) - (i:Int))=((C.length - 1 - i:Nat):Int):=by rw[z0e (n:=(C.length:Int) - 1) (by omega) (by omega),z0e (by omega) (by omega)];omega
    simp only[go_sem,h0,h1,h5,h6,h7,h8,x0u,hB,e1,f1,f2,ea,eb,hxi hia,hyi hib,ud x hx,ud y hy,wd x (by omega),wd y (by omega),es r x (by omega),es (r + x) y (by omega),ek,q1v (b:=10) (by decide),q3q (b:=10) (by decide),e3,e4 (r + x + y) (by omega),e5,hidx,hstore,ei]
    exact fin _ _ (by simp[z0b,h0]) (by simp[z0b,h1]) (by simp[z0b,h5]) (by simp[z0b,h6]) (by simp[z0b]) (by simp[z0b])
   ·have f2:decide ((i:Int) < (C.length:Int))=false:=by rw[z03];omega
    obtain rfl:=hy0 hib
    simp only[go_sem,h0,h1,h5,h6,h7,h8,x0u,hB,e1,f1,f2,ea,hxi hia,ud x hx,wd x (by omega),es r x (by omega),ek,q1v (b:=10) (by decide),q3q (b:=10) (by decide),e3,e4 (r + x) (by omega),e5,hidx,hstore,ei]
    exact fin _ _ (by simp[z0b,h0]) (by simp[z0b,h1]) (by simp[z0b,h5]) (by simp[z0b,h6]) (by simp[z0b]) (by simp[z0b])
  ·have f1:decide ((i:Int) < (A.length:Int))=false:=by rw[z03];omega
   obtain rfl:=hx0 hia
   by_cases hib:i < C.length
   ·have f2:decide ((i:Int) < (C.length:Int))=true:=by rw[z04];omega
    have eb:IntKind.i64.wrap (IntKind.i64.wrap ((C.length:Int) - 1) - (i:Int))=((C.length - 1 - i:Nat):Int):=by rw[z0e (n:=(C.length:Int) - 1) (by omega) (by omega),z0e (by omega) (by omega)];omega
    simp only[go_sem,h0,h1,h5,h6,h7,h8,x0u,hB,e1,f1,f2,eb,hyi hib,ud y hy,wd y (by omega),es r y (by omega),ek,q1v (b:=10) (by decide),q3q (b:=10) (by decide),e3,e4 (r + y) (by omega),e5,hidx,hstore,ei]
    exact fin _ _ (by simp[z0b,h0]) (by simp[z0b,h1]) (by simp[z0b,h5]) (by simp[z0b,h6]) (by simp[z0b]) (by simp[z0b])
   ·have f2:decide ((i:Int) < (C.length:Int))=false:=by rw[z03];omega
    obtain rfl:=hy0 hib
    simp only[go_sem,h0,h1,h5,h6,h7,h8,x0u,hB,e1,f1,f2,ek,q1v (b:=10) (by decide),q3q (b:=10) (by decide),e3,e4 r (by omega),e5,hidx,hstore,ei]
    exact fin _ _ (by simp[z0b,h0]) (by simp[z0b,h1]) (by simp[z0b,h5]) (by simp[z0b,h6]) (by simp[z0b]) (by simp[z0b])
 ·have hin:i=n:=by omega
  have e1:decide ((i:Int) < (n:Int))=false:=by rw[z03];omega
  rw[show A.length - i=0 by omega,show C.length - i=0 by omega,d7,d7,hwa,hwb] at hw
  have hr0:r=0:=Classical.byContradiction fun h=>by
   obtain rfl:r=1:=by omega
   have h1:=z4v hda
   have h2:=z4v hdb
   rw[hwa] at h1
   rw[hwb] at h2
   have h3:10 ^ A.length≤10 ^ (n - 1):=n7 (by omega) (by omega)
   have h4:10 ^ C.length≤10 ^ (n - 1):=n7 (by omega) (by omega)
   rw[show i=(n - 1) + 1 by omega,p8] at hw
   omega
  have hws:z1n suf=a + b:=by rw[hr0] at hw;omega
  have hsne:suf≠[]:=fun h=>by rw[h] at hsl;simp at hsl;omega
  simp only[go_sem,h0,h1,h5,h6,h7,h8,x0u,e1]
  refine he _ _ ?_
  have hof:k7a (D++[.blk gr (j1 (n - i) (.int .u8 0)++bytes suf) true false 0]) (.ob (B + 0) gr 0 n)=some (.str suf,D++[.blk gr (j1 (n - i) (.int .u8 0)++bytes suf) true false 0]):=by
   have hs:=q4q (B:=B) (D:=D) (L:=[.blk gr (j1 (n - i) (.int .u8 0)++bytes suf) true false 0]) (k:=0) (g:=gr) (len:=n) hB rfl (by simp[bytes,hsl];omega)
   simp only[k7a,hs,n9]
   rw[show n - i=0 by omega,List.replicate_zero,d3,z7e fun c hc=>by have:=hsd c hc;omega]
   rfl
  simp only[go_sem,h6,hof]
  rw[z0a (q1g ⟨hsne,hsd⟩),hws]
  simp only[go_sem,]
  rw[z3h]
  exact hT _
section
open Sh
set_option maxHeartbeats 0
def g0p:AFun:=(fun (a:AFun) (_:Gam.fn 35=some a)=>a) _ (by conv=>lhs;reduce;simp only[z4,z5])
theorem g4u:Gam.fn 35=some g0p:=by kernel_rfl
def q59:AFun:=(fun (a:AFun) (_:Gam.fn 82=some a)=>a) _ (by conv=>lhs;reduce;simp only[z4,z5])
def q8m:ACode:=(fun (a:ACode) (_:fl [] (lp q59 2)=a)=>a) _ (by conv=>lhs;reduce;simp only[z4,z5])
attribute [local irreducible] q8m
def k4j:ACode:=(fun (a:ACode) (_:fl [q8m] (lp q59 1)=a)=>a) _ (by conv=>lhs;reduce;simp only[z4,z5])
attribute [local irreducible] k4j
def k9y:ACode:=(fun (a:ACode) (_:fl [k4j,q8m] (lp q59 0)=a)=>a) _ (by conv=>lhs;reduce;simp only[z4,z5])
attribute [local irreducible] k9y
def g0q:AFun:=(fun (a:AFun) (_:flF [k9y,k4j,q8m] q59=a)=>a) _ (by conv=>lhs;reduce;simp only[z4,z5])
theorem g4v:Gam.fn 82=some g0q:=by kernel_rfl
def g0r:AFun:=(fun (a:AFun) (_:Gam.fn 146=some a)=>a) _ (by conv=>lhs;reduce;simp only[z4,z5])
def j5q:ACode:=(fun (a:ACode) (_:fl [] (lp g0r 0)=a)=>a) _ (by conv=>lhs;reduce;simp only[z4,z5])
attribute [local irreducible] j5q
def y5s:AFun:=(fun (a:AFun) (_:flF [j5q] g0r=a)=>a) _ (by conv=>lhs;reduce;simp only[z4,z5])
theorem u6b:Gam.fn 146=some y5s:=by kernel_rfl
def g0s:AFun:=(fun (a:AFun) (_:Gam.fn 147=some a)=>a) _ (by conv=>lhs;reduce;simp only[z4,z5])
def j5r:ACode:=(fun (a:ACode) (_:fl [] (lp g0s 0)=a)=>a) _ (by conv=>lhs;reduce;simp only[z4,z5])
attribute [local irreducible] j5r
def y5t:AFun:=(fun (a:AFun) (_:flF [j5r] g0s=a)=>a) _ (by conv=>lhs;reduce;simp only[z4,z5])
theorem u6c:Gam.fn 147=some y5t:=by kernel_rfl
def g0t:AFun:=(fun (a:AFun) (_:Gam.fn 148=some a)=>a) _ (by conv=>lhs;reduce;simp only[z4,z5])
def j5s:ACode:=(fun (a:ACode) (_:fl [] (lp g0t 0)=a)=>a) _ (by conv=>lhs;reduce;simp only[z4,z5])
attribute [local irreducible] j5s
def y5u:AFun:=(fun (a:AFun) (_:flF [j5s] g0t=a)=>a) _ (by conv=>lhs;reduce;simp only[z4,z5])
theorem u6d:Gam.fn 148=some y5u:=by kernel_rfl
def u6e:AFun:=(fun (a:AFun) (_:Gam.fn 149=some a)=>a) _ (by conv=>lhs;reduce;simp only[z4,z5])
def q8d:ACode:=(fun (a:ACode) (_:fl [] (lp u6e 1)=a)=>a) _ (by conv=>lhs;reduce;simp only[z4,z5])
attribute [local irreducible] q8d
def x9z:ACode:=(fun (a:ACode) (_:fl [q8d] (lp u6e 0)=a)=>a) _ (by conv=>lhs;reduce;simp only[z4,z5])
attribute [local irreducible] x9z
def y5v:AFun:=(fun (a:AFun) (_:flF [x9z,q8d] u6e=a)=>a) _ (by conv=>lhs;reduce;simp only[z4,z5])
theorem u6f:Gam.fn 149=some y5v:=by kernel_rfl
def y5w:AFun:=(fun (a:AFun) (_:Gam.fn 144=some a)=>a) _ (by conv=>lhs;reduce;simp only[z4,z5])
theorem u6g:Gam.fn 144=some y5w:=by kernel_rfl
def g0u:AFun:=(fun (a:AFun) (_:Gam.fn 213=some a)=>a) _ (by conv=>lhs;reduce;simp only[z4,z5])
def j5t:ACode:=(fun (a:ACode) (_:fl [] (lp g0u 0)=a)=>a) _ (by conv=>lhs;reduce;simp only[z4,z5])
attribute [local irreducible] j5t
def y5x:AFun:=(fun (a:AFun) (_:flF [j5t] g0u=a)=>a) _ (by conv=>lhs;reduce;simp only[z4,z5])
theorem u6h:Gam.fn 213=some y5x:=by kernel_rfl
def w6z:AFun:=(fun (a:AFun) (_:Gam.fn 214=some a)=>a) _ (by conv=>lhs;reduce;simp only[z4,z5])
def x1c:ACode:=(fun (a:ACode) (_:fl [] (lp w6z 4)=a)=>a) _ (by conv=>lhs;reduce;simp only[z4,z5])
attribute [local irreducible] x1c
def x1d:ACode:=(fun (a:ACode) (_:fl [x1c] (lp w6z 3)=a)=>a) _ (by conv=>lhs;reduce;simp only[z4,z5])
attribute [local irreducible] x1d
def j5u:ACode:=(fun (a:ACode) (_:fl [x1d,x1c] (lp w6z 2)=a)=>a) _ (by conv=>lhs;reduce;simp only[z4,z5])
attribute [local irreducible] j5u
def x1e:ACode:=(fun (a:ACode) (_:fl [j5u,x1d,x1c] (lp w6z 1)=a)=>a) _ (by conv=>lhs;reduce;simp only[z4,z5])
attribute [local irreducible] x1e
def j0a:ACode:=(fun (a:ACode) (_:fl [x1e,j5u,x1d,x1c] (lp w6z 0)=a)=>a) _ (by conv=>lhs;reduce;simp only[z4,z5])
attribute [local irreducible] j0a
def y5y:AFun:=(fun (a:AFun) (_:flF [j0a,x1e,j5u,x1d,x1c] w6z=a)=>a) _ (by conv=>lhs;reduce;simp only[z4,z5])
theorem u6i:Gam.fn 214=some y5y:=by kernel_rfl
def k4k:AFun:=(fun (a:AFun) (_:Gam.fn 166=some a)=>a) _ (by conv=>lhs;reduce;simp only[z4,z5])
theorem y5z:Gam.fn 166=some k4k:=by kernel_rfl
def x6j:AFun:=(fun (a:AFun) (_:Gam.fn 266=some a)=>a) _ (by conv=>lhs;reduce;simp only[z4,z5])
theorem u6j:Gam.fn 266=some x6j:=by kernel_rfl
def q2h:AFun:=(fun (a:AFun) (_:Gam.fn 267=some a)=>a) _ (by conv=>lhs;reduce;simp only[z4,z5])
theorem u6k:Gam.fn 267=some q2h:=by kernel_rfl
def q2i:AFun:=(fun (a:AFun) (_:Gam.fn 268=some a)=>a) _ (by conv=>lhs;reduce;simp only[z4,z5])
theorem u6l:Gam.fn 268=some q2i:=by kernel_rfl
def g0v:AFun:=(fun (a:AFun) (_:Gam.fn 302=some a)=>a) _ (by conv=>lhs;reduce;simp only[z4,z5])
def j5v:ACode:=(fun (a:ACode) (_:fl [] (lp g0v 0)=a)=>a) _ (by conv=>lhs;reduce;simp only[z4,z5])
attribute [local irreducible] j5v
def y6a:AFun:=(fun (a:AFun) (_:flF [j5v] g0v=a)=>a) _ (by conv=>lhs;reduce;simp only[z4,z5])
theorem u6m:Gam.fn 302=some y6a:=by kernel_rfl
def w3o:AFun:=(fun (a:AFun) (_:Gam.fn 303=some a)=>a) _ (by conv=>lhs;reduce;simp only[z4,z5])
theorem u6n:Gam.fn 303=some w3o:=by kernel_rfl
def y6b:AFun:=(fun (a:AFun) (_:Gam.fn 169=some a)=>a) _ (by conv=>lhs;reduce;simp only[z4,z5])
theorem u6o:Gam.fn 169=some y6b:=by kernel_rfl
def g0w:AFun:=(fun (a:AFun) (_:Gam.fn 170=some a)=>a) _ (by conv=>lhs;reduce;simp only[z4,z5])
def j5w:ACode:=(fun (a:ACode) (_:fl [] (lp g0w 0)=a)=>a) _ (by conv=>lhs;reduce;simp only[z4,z5])
attribute [local irreducible] j5w
def y6c:AFun:=(fun (a:AFun) (_:flF [j5w] g0w=a)=>a) _ (by conv=>lhs;reduce;simp only[z4,z5])
theorem u6p:Gam.fn 170=some y6c:=by kernel_rfl
def k9z:AFun:=(fun (a:AFun) (_:Gam.fn 164=some a)=>a) _ (by conv=>lhs;reduce;simp only[z4,z5])
theorem w3p:Gam.fn 164=some k9z:=by kernel_rfl
def w3q:AFun:=(fun (a:AFun) (_:Gam.fn 102=some a)=>a) _ (by conv=>lhs;reduce;simp only[z4,z5])
theorem y6d:Gam.fn 102=some w3q:=by kernel_rfl
def y6e:AFun:=(fun (a:AFun) (_:Gam.fn 171=some a)=>a) _ (by conv=>lhs;reduce;simp only[z4,z5])
theorem u6q:Gam.fn 171=some y6e:=by kernel_rfl
def q82:AFun:=(fun (a:AFun) (_:Gam.fn 106=some a)=>a) _ (by conv=>lhs;reduce;simp only[z4,z5])
def k4l:ACode:=(fun (a:ACode) (_:fl [] (lp q82 0)=a)=>a) _ (by conv=>lhs;reduce;simp only[z4,z5])
attribute [local irreducible] k4l
def g0x:AFun:=(fun (a:AFun) (_:flF [k4l] q82=a)=>a) _ (by conv=>lhs;reduce;simp only[z4,z5])
theorem g4w:Gam.fn 106=some g0x:=by kernel_rfl
end
theorem z5a {a b:Nat} (h:a≤b):(dec a).length≤(dec b).length:=Classical.byContradiction fun hc=>by
 have:=z6x (a:=b) (b:=a) (by omega)
 omega
theorem z1r {n:Nat}:decide (dec n=[48])=decide (n=0):=by rw[decide_eq_decide];exact q4n
theorem q3g {n:Nat}:decide (dec n=[49])=decide (n=1):=by rw[decide_eq_decide];exact x3y
theorem w3r {a b:Nat} (hlen:(dec a).length≤50000000) (hlenb:(dec b).length≤50000000):Pure Gam 277 [.str (dec a), .str (dec b)] (.str (dec (y7 a b))):=by
 refine Pure.of rfl u5f rfl rfl rfl rfl rfl fun D B clk T hB hT=> ?_
 simp only[go_sem,y4q]
 refine z1t (fun m q=>∃ x y:Nat,m=y∧y7 x y=y7 a b∧(dec x).length≤50000000∧(dec y).length≤50000000∧q.ts 0= .str (dec x)∧q.ts 1= .str (dec y)∧q.h=D++[]) b ⟨a,b,rfl,rfl,hlen,hlenb,rfl,rfl,rfl⟩ ?_
 rintro m ⟨ts,h,clk⟩ P ⟨x,y,rfl,hg,hlx,hly,h0,h1,rfl⟩ hn he hr
 dsimp only at h0 h1
 by_cases hy:m=0
 ·subst hy
  have e1:decide (dec 0=[48])=true:=by rw[z1r];rfl
  simp only[go_sem,h0,h1,j5f,e1,z7]
  refine he _ _ ?_
  simp only[go_sem,h0]
  rw[z3h]
  rw[Nat.gcd_zero_right] at hg
  rw[hg]
  exact hT _
 ·have e1:decide (dec m=[48])=false:=by rw[z1r];simp[hy]
  have hpos:0 < m:=Nat.pos_of_ne_zero hy
  simp only[go_sem,h0,h1,j5f,e1,j5]
  rw[z0a (x6i hpos hlx hly)]
  simp only[go_sem,h0,h1]
  have hlt:=Nat.mod_lt x hpos
  refine hn (x % m) _ hlt ⟨m,x % m,rfl, ?_,hly,w9 (z5a (Nat.le_of_lt hlt)) hly,by simp[z0b,h1],rfl,rfl⟩
  rw[←hg,Nat.gcd_comm x m,Nat.gcd_rec m x,Nat.gcd_comm]
def q0a (neg:Bool) (n d:Nat):AV:= .agg [.bool neg, .str (dec n), .str (dec d)]
def z3o (neg:Bool) (n d:Nat):List Nat:=(if neg then [45] else [])++dec n++(if d=1 then [] else 47::dec d)
theorem x1f {neg:Bool} {a b:Nat} (hb:0 < b) (hlen:(dec a).length≤50000000) (hlenb:(dec b).length≤50000000):Pure Gam 230 [.bool neg, .str (dec a), .str (dec b)] (q0a (neg && !decide (a / y7 a b=0)) (a / y7 a b) (b / y7 a b)):=by
 refine Pure.of rfl u5d rfl rfl rfl rfl rfl fun D B clk T hB hT=> ?_
 have hg:0 < y7 a b:=Nat.gcd_pos_of_pos_right _ hb
 have hgl:(dec (y7 a b)).length≤50000000:=w9 (z5a (Nat.le_of_dvd hb (Nat.gcd_dvd_right a b))) hlenb
 simp only[go_sem,y4p,hB]
 rw[z0a (w3r hlen hlenb)]
 simp only[go_sem,]
 rw[z0a (x6i hg hlen hgl)]
 simp only[go_sem,]
 rw[z0a (x6i hg hlenb hgl)]
 cases neg
 ·simp only[go_sem,hB]
  rw[z2n rfl rfl]
  exact hT _
 ·simp only[go_sem,hB,z1r]
  rw[z2n rfl rfl]
  exact hT _
theorem q6z {neg:Bool} {n d:Nat} (hlen:(dec n).length≤50000000) (hlend:(dec d).length≤50000000):Pure Gam 231 [q0a neg n d] (.str (z3o neg n d)):=by
 refine Pure.of rfl u5e rfl rfl rfl rfl rfl fun D B clk T hB hT=> ?_
 have e1:∀ h,z7i h .add (.one .str) (.str [45]) (.str (dec n))=some (.str (45::dec n),h):=fun h=>q7z (by simp;omega)
 have e2:∀ h,z7i h .add (.one .str) (.str [47]) (.str (dec d))=some (.str (47::dec d),h):=fun h=>q7z (by simp;omega)
 have e3:∀ h,z7i h .add (.one .str) (.str (dec n)) (.str (47::dec d))=some (.str (dec n++47::dec d),h):=fun h=>q7z (by simp;omega)
 have e4:∀ h,z7i h .add (.one .str) (.str (45::dec n)) (.str (47::dec d))=some (.str (45::dec n++47::dec d),h):=fun h=>q7z (by simp;omega)
 unfold z3o at hT
 by_cases h1:d=1
 ·have ed:decide (dec d=[49])=true:=by rw[q3g];simp[h1]
  rw[if_pos h1] at hT
  cases neg
  all_goals
   simp only[go_sem,w3d,hB,q0a,e1,e2,e3,e4,ed,z7]
   rw[z3h]
   have:=hT
   simp only[y6,if_false,if_true,d3,u5,d4] at this
   exact this _
 ·have ed:decide (dec d=[49])=false:=by rw[q3g];simp[h1]
  rw[if_neg h1] at hT
  cases neg
  all_goals
   simp only[go_sem,w3d,hB,q0a,e1,e2,e3,e4,ed,j5]
   rw[z3h]
   have:=hT
   simp only[y6,if_false,if_true,d3,u5,d4] at this
   exact this _
def x4d (l:List Nat):Nat:=l.foldl (fun a x=>10 * a + x) 0
theorem w3s:∀ (l:List Nat) (a:Nat),l.foldl (fun a x=>10 * a + x) a=a * 10 ^ l.length + x4d l:=by
 intro l
 induction l with
 | nil=>intro a;simp[x4d]
 | cons x l ih=>
   intro a
   have h1:x4d (x::l)=x * 10 ^ l.length + x4d l:=by
    show List.foldl _ _ l=_
    rw[ih]
    simp
   simp only[List.foldl_cons,u6]
   rw[ih,h1,p8,y9]
   rw[show 10 * a * 10 ^ l.length=a * (10 ^ l.length * 10) by rw[m6 10 a,Nat.mul_assoc,m6 10]]
   omega
theorem q5w {x:Nat} {l:List Nat}:x4d (x::l)=x * 10 ^ l.length + x4d l:=by
 show List.foldl _ _ l=_
 rw[w3s]
 simp
theorem k4m {n:Nat}:x4d (j1 n 0)=0:=by
 induction n with
 | zero=>rfl
 | succ n ih=>rw[List.replicate_succ,q5w,ih];simp
theorem j5x:∀ {l:List Nat} {k y:Nat} (h:k < l.length),x4d (l.set k (l[k] + y))=x4d l + y * 10 ^ (l.length - 1 - k)
 | x::l,0,y,_=>by
   simp only[List.set_cons_zero,List.getElem_cons_zero,q5w,u6,Nat.add_sub_cancel,Nat.sub_zero,y9]
   omega
 | x::l,k + 1,y,h=>by
   have h':k < l.length:=by simpa using h
   have ih:=j5x (y:=y) h'
   simp only[List.set_cons_succ,List.getElem_cons_succ,q5w,List.length_set,u6,ih]
   rw[show l.length + 1 - 1 - (k + 1)=l.length - 1 - k by omega]
   omega
theorem k4n {l:List Nat} {k:Nat} (h:k < l.length):x4d (l.drop k)=l[k] * 10 ^ (l.length - 1 - k) + x4d (l.drop (k + 1)):=by
 rw[p9 h,q5w,List.length_drop]
 rw[show l.length - (k + 1)=l.length - 1 - k by omega]
theorem v0a {l:List Nat} {k x:Nat}:(l.map nat).set k (nat x)=(l.set k x).map nat:=List.map_set.symm
theorem q5x {l:List Nat} {k:Nat} (h:k < l.length):(l.map nat)[k]? =some (.int .i64 (l[k]:Int)):=by simp[h,nat]
theorem v0b {B clk n:Nat} {D:List AObj} {out:List Nat} {g1 g2:Nat} {ts:Tmps} {ks:List Kf} {Q:Post} (hB:D.length=B) (hl:out.length=n) (hn1:1≤n) (hn2:n≤50000000) (hb:∀ x∈out,x≤10 ^ 17) (htot:x4d out < 10 ^ n)
  (h5:ts 5= .ob (B + 0) g1 0 n) (h8:ts 8= .ob (B + 1) g2 0 n) (h9:ts 9= .int .i64 0) (h10:ts 10= .int .i64 ((n:Int) - 1))
  (hQ:∀ (suf:List Nat) (ts':Tmps) (clk':Nat),suf.length=n→q8b suf→z1n suf=x4d out→ts' 8= .ob (B + 1) g2 0 n→K Gam B (.exit 4) ks ⟨ts',D++[.blk g1 (out.map nat) true false 0, .blk g2 (bytes suf) true false 0],clk'⟩ Q):
  K Gam B (.loop x0z) ks ⟨ts,D++[.blk g1 (out.map nat) true false 0, .blk g2 (j1 n (.int .u8 0)) true false 0],clk⟩ Q:=by
 refine z1t (fun m q=>∃ (i c:Nat) (suf:List Nat),i≤n∧m=n - i∧suf.length=i∧(∀ c∈suf,48≤c∧c≤57)∧c≤10 ^ 17∧z1n suf + c * 10 ^ i=x4d (out.drop (n - i))∧q.ts 5= .ob (B + 0) g1 0 n∧q.ts 8= .ob (B + 1) g2 0 n∧q.ts 9= .int .i64 (c:Int)∧q.ts 10= .int .i64 ((n:Int) - i - 1)∧
  q.h=D++[.blk g1 (out.map nat) true false 0, .blk g2 (j1 (n - i) (.int .u8 0)++bytes suf) true false 0]) n ?_ ?_
 ·refine⟨0,0,[],by omega,rfl,rfl,by simp,by omega, ?_,h5,h8,h9,by simpa using h10,by simp[bytes]⟩
  rw[Nat.sub_zero,←hl,List.drop_length]
  simp[z1n,x4d]
 rintro m ⟨ts,h,clk⟩ P ⟨i,c,suf,hi,rfl,hsl,hsd,hc,hw,h5,h8,h9,h10,rfl⟩ hn he hr
 dsimp only at h5 h8 h9 h10
 by_cases hlt:i < n
 ·have hk:n - 1 - i < out.length:=by omega
  have e0:(n:Int) - i - 1=((n - 1 - i:Nat):Int):=by omega
  rw[e0] at h10
  have e1:decide ((0:Int)≤((n - 1 - i:Nat):Int))=true:=by rw[z04];omega
  have hx:=hb _ (j9 hk)
  have hdr:=k4n hk
  generalize hxx:out[n - 1 - i]=x at hx hdr
  have hidx1:∀ es,z1m (D++[.blk g1 (out.map nat) true false 0, .blk g2 es true false 0]) 1 (.ob (B + 0) g1 0 n) (.int .i64 ((n - 1 - i:Nat):Int))=some (.ptr (B + 0) g1 (n - 1 - i) 0,D++[.blk g1 (out.map nat) true false 0, .blk g2 es true false 0]):=fun es=>
   q1i (L:=[.blk g1 (out.map nat) true false 0, .blk g2 es true false 0]) (k:=0) hB rfl (q5x hk) rfl (by omega)
  have hgetn:(out.map nat)[n - 1 - i]? =some (.int .i64 (x:Int)):=by rw[q5x hk,hxx]
  have hidx2:z1m (D++[.blk g1 (out.map nat) true false 0, .blk g2 (j1 (n - i) (.int .u8 0)++bytes suf) true false 0]) 1 (.ob (B + 1) g2 0 n) (.int .i64 ((n - 1 - i:Nat):Int))=some (.ptr (B + 1) g2 (n - 1 - i) 0,D++[.blk g1 (out.map nat) true false 0, .blk g2 (j1 (n - i) (.int .u8 0)++bytes suf) true false 0]):=
   q1i (L:=[.blk g1 (out.map nat) true false 0, .blk g2 (j1 (n - i) (.int .u8 0)++bytes suf) true false 0]) (k:=1) hB rfl (q2g hlt) rfl (by omega)
  have hstore:∀ (y:Nat),z5q (D++[.blk g1 (out.map nat) true false 0, .blk g2 (j1 (n - i) (.int .u8 0)++bytes suf) true false 0]) 1 (.int .u8 (y:Int)) (.ptr (B + 1) g2 (n - 1 - i) 0)=some (.undef,D++[.blk g1 (out.map nat) true false 0, .blk g2 (j1 (n - (i + 1)) (.int .u8 0)++bytes (y::suf)) true false 0]):=fun y=>by
   have h:=q0j (K:= .u8) (n:=y) (K':= .u8) (m:=0) (D:=D) (B:=B) (g:=g2) (i:=n - 1 - i) (es:=j1 (n - i) (AV.int .u8 0)++bytes suf) (L:=[AObj.blk g1 (out.map nat) true false 0,AObj.blk g2 (j1 (n - i) (AV.int .u8 0)++bytes suf) true false 0]) (k:=1) (w:=false) hB rfl (q2g hlt)
   rw[x6h hlt] at h
   exact h
  have e2:IntKind.i64.wrap ((x:Int) + (c:Int))=((x + c:Nat):Int):=by rw[z0e (by omega) (by omega)];omega
  have e3:(((x + c:Nat):Int)).tmod 10=(((x + c) % 10:Nat):Int):=by
   rw[Int.tmod_eq_emod_of_nonneg (by omega)];omega
  have e4:IntKind.i64.wrap ((((x + c:Nat):Int)).tdiv 10)=(((x + c) / 10:Nat):Int):=by
   rw[IntWalk.i64_quo _ _ ⟨by omega,by omega,by omega⟩];omega
  have e5:IntKind.u8.wrap (IntKind.i64.wrap (48 + (((x + c) % 10:Nat):Int)))=((48 + (x + c) % 10:Nat):Int):=by rw[z0e (by omega) (by omega),IntWalk.u8_in _ (by omega)];omega
  have e6:IntKind.i64.wrap (((n - 1 - i:Nat):Int) - 1)=(n:Int) - ((i + 1:Nat):Int) - 1:=by rw[z0e (by omega) (by omega)];omega
  simp only[go_sem,h5,h8,h9,h10,hB,x0z,e1,hidx1,hgetn,e2,q1v (b:=10) (by decide),q3q (b:=10) (by decide),e3,e4,e5,e6,hidx2,hstore]
  refine hn (n - (i + 1)) _ (by omega) ⟨i + 1,(x + c) / 10,(48 + (x + c) % 10)::suf,hlt,rfl,by simp[hsl], ?_,by omega, ?_,by simp[z0b,h5],by simp[z0b,h8],by simp[z0b],by simp[z0b],rfl⟩
  ·intro c' hc'
   rw[y3] at hc'
   rcases hc' with rfl | hc'
   ·omega
   ·exact hsd c' hc'
  ·rw[show n - (i + 1)=n - 1 - i by omega,hdr,show n - 1 - i + 1=n - i by omega,←hw,z4l,hsl,hl,show n - 1 - (n - 1 - i)=i by omega,Nat.add_sub_cancel_left,p8]
   have hdm:=Nat.div_add_mod (x + c) 10
   have:=congrArg (· * 10 ^ i) hdm
   simp only[y9] at this
   rw[m6 (10 ^ i) 10,←Nat.mul_assoc,m6 _ 10]
   omega
 ·have hin:i=n:=by omega
  have e1:decide ((0:Int)≤(n:Int) - i - 1)=false:=by rw[z03];omega
  rw[hin,d8,d7] at hw
  have hc0:c=0:=Classical.byContradiction fun h=>by
   have:1 * 10 ^ n≤c * 10 ^ n:=b9 _ (by omega)
   omega
  subst hc0
  simp only[go_sem,h5,h8,h9,h10,x0z,e1]
  refine he _ _ ?_
  have hh:j1 (n - i) (AV.int .u8 0)++bytes suf=bytes suf:=by rw[show n - i=0 by omega];rfl
  rw[hh]
  exact hQ suf _ _ (by omega) ⟨fun h=>by rw[h] at hsl;simp at hsl;omega,hsd⟩ (by omega) (by simp[z0b,h8])
theorem j0b {C:List Nat} {j:Nat} (hj:j < C.length):z1n (C.take (j + 1)) * 10 ^ (C.length - (j + 1))=z1n (C.take j) * 10 ^ (C.length - j) + (C[j] - 48) * 10 ^ (C.length - (j + 1)):=by
 rw[q0k hj,show C.length - j=(C.length - (j + 1)) + 1 by omega,p8,y9]
 rw[m6 10,Nat.mul_assoc,m6 10]
theorem v0c {B clk i n:Nat} {D:List AObj} {out A C:List Nat} {g1:Nat} {o2:AObj} {ts:Tmps} {ks:List Kf} {Q:Post} (hB:D.length=B) (hl:out.length=n) (hn:n=A.length + C.length) (hA:A.length≤20000000) (hC:C.length≤20000000) (hi:i < A.length) (hda:∀ c∈A,48≤c∧c≤57) (hdc:∀ c∈C,48≤c∧c≤57) (hb:∀ x∈out,x≤100 * (20000000 * i))
  (h0:ts 0= .str A) (h1:ts 1= .str C) (h5:ts 5= .ob (B + 0) g1 0 n) (h6:ts 6= .int .i64 (i:Int)) (h7:ts 7= .int .i64 0)
  (hQ:∀ (out':List Nat) (ts':Tmps) (clk':Nat),out'.length=n→(∀ x∈out',x≤100 * (20000000 * (i + 1)))→x4d out'=x4d out + (A[i] - 48) * 10 ^ (A.length - (i + 1)) * z1n C→ts' 0= .str A→ts' 1= .str C→ts' 5= .ob (B + 0) g1 0 n→ts' 6= .int .i64 (i:Int)→K Gam B (.exit 2) ks ⟨ts',D++[.blk g1 (out'.map nat) true false 0,o2],clk'⟩ Q):
  K Gam B (.loop x4a) ks ⟨ts,D++[.blk g1 (out.map nat) true false 0,o2],clk⟩ Q:=by
 refine z1t (fun m q=>∃ (j:Nat) (out':List Nat),j≤C.length∧m=C.length - j∧out'.length=n∧(∀ x∈out',x≤100 * (20000000 * i + j))∧x4d out'=x4d out + (A[i] - 48) * 10 ^ (A.length - (i + 1)) * (z1n (C.take j) * 10 ^ (C.length - j))∧q.ts 0= .str A∧q.ts 1= .str C∧q.ts 5= .ob (B + 0) g1 0 n∧q.ts 6= .int .i64 (i:Int)∧q.ts 7= .int .i64 (j:Int)∧q.h=D++[.blk g1 (out'.map nat) true false 0,o2]) C.length ⟨0,out,by omega,rfl,hl,by simpa using hb,by simp[z1n],h0,h1,h5,h6,h7,rfl⟩ ?_
 clear h0 h1 h5 h6 h7
 rintro m ⟨ts,h,clk⟩ P ⟨j,out',hj,rfl,hl',hb',hw,h0,h1,h5,h6,h7,rfl⟩ hnx he hr
 dsimp only at h0 h1 h5 h6 h7
 by_cases hlt:j < C.length
 ·have e1:decide ((j:Int) < (C.length:Int))=true:=by rw[z04];omega
  have ek:IntKind.i64.wrap (IntKind.i64.wrap ((i:Int) + (j:Int)) + 1)=((i + j + 1:Nat):Int):=by rw[z0e (n:=(i:Int) + (j:Int)) (by omega) (by omega),z0e (by omega) (by omega)];omega
  have hk:i + j + 1 < out'.length:=by omega
  have hca:=hda _ (j9 hi)
  have hcc:=hdc _ (j9 hlt)
  have hx:=hb' _ (j9 hk)
  have ea:=q3f hca
  have ec:=q3f hcc
  have ea2:IntKind.i64.wrap ((A[i] - 48:Nat):Int)=((A[i] - 48:Nat):Int):=z0e (by omega) (by omega)
  have ec2:IntKind.i64.wrap ((C[j] - 48:Nat):Int)=((C[j] - 48:Nat):Int):=z0e (by omega) (by omega)
  have hprod:(A[i] - 48) * (C[j] - 48)≤81:=Nat.mul_le_mul (by omega:A[i] - 48≤9) (by omega:C[j] - 48≤9)
  have em:IntKind.i64.wrap (((A[i] - 48:Nat):Int) * ((C[j] - 48:Nat):Int))=(((A[i] - 48) * (C[j] - 48):Nat):Int):=by
   rw[←Int.natCast_mul]
   exact z0e (by omega) (by omega)
  have es:IntKind.i64.wrap ((out'[i + j + 1]:Int) + (((A[i] - 48) * (C[j] - 48):Nat):Int))=((out'[i + j + 1] + (A[i] - 48) * (C[j] - 48):Nat):Int):=by rw[z0e (by omega) (by omega)];omega
  have ej:IntKind.i64.wrap ((j:Int) + 1)=((j + 1:Nat):Int):=z0e (by omega) (by omega)
  have hidx:z1m (D++[.blk g1 (out'.map nat) true false 0,o2]) 1 (.ob (B + 0) g1 0 n) (.int .i64 ((i + j + 1:Nat):Int))=some (.ptr (B + 0) g1 (i + j + 1) 0,D++[.blk g1 (out'.map nat) true false 0,o2]):=
   q1i (L:=[.blk g1 (out'.map nat) true false 0,o2]) (k:=0) hB rfl (q5x hk) rfl (by omega)
  have hstore:∀ y:Nat,z5q (D++[.blk g1 (out'.map nat) true false 0,o2]) 1 (.int .i64 (y:Int)) (.ptr (B + 0) g1 (i + j + 1) 0)=some (.undef,D++[.blk g1 ((out'.set (i + j + 1) y).map nat) true false 0,o2]):=fun y=>by
   have h:=q0j (K:= .i64) (n:=y) (K':= .i64) (m:=(out'[i + j + 1]:Int)) (D:=D) (B:=B) (g:=g1) (i:=i + j + 1) (es:=out'.map nat) (L:=[AObj.blk g1 (out'.map nat) true false 0,o2]) (k:=0) (w:=false) hB rfl (q5x hk)
   rw[show (AV.int .i64 (y:Int))=nat y from rfl,v0a] at h
   exact h
  simp only[go_sem,h0,h1,h5,h6,h7,hB,x4a,e1,ek,hidx,q5x hk,q1f hi,q1f hlt,ea,ec,ea2,ec2,em,es,hstore,ej]
  refine hnx (C.length - (j + 1)) _ (by omega) ⟨j + 1,out'.set (i + j + 1) (out'[i + j + 1] + (A[i] - 48) * (C[j] - 48)),hlt,rfl,by simp[hl'], ?_, ?_,h0,h1,h5,h6,rfl,rfl⟩
  ·intro x hx'
   rcases List.mem_or_eq_of_mem_set hx' with h | rfl
   ·have:=hb' x h
    omega
   ·omega
  ·rw[j5x hk,hw,j0b hlt,Nat.mul_add,hl',show n - 1 - (i + j + 1)=(A.length - (i + 1)) + (C.length - (j + 1)) by omega,Nat.pow_add]
   have:(A[i] - 48) * (C[j] - 48) * (10 ^ (A.length - (i + 1)) * 10 ^ (C.length - (j + 1)))=(A[i] - 48) * 10 ^ (A.length - (i + 1)) * ((C[j] - 48) * 10 ^ (C.length - (j + 1))):=by
    simp only[Nat.mul_assoc,Nat.mul_left_comm]
   omega
 ·have hjC:j=C.length:=by omega
  have e1:decide ((j:Int) < (C.length:Int))=false:=by rw[z03];omega
  simp only[go_sem,h0,h1,h5,h6,h7,x4a,e1]
  refine he _ _ ?_
  refine hQ out' _ _ hl' (fun x hx=>by have:=hb' x hx;omega) ?_ (by simp[z0b,h0]) (by simp[z0b,h1]) (by simp[z0b,h5]) (by simp[z0b,h6])
  rw[hw,hjC,u4,d8,Nat.pow_zero,Nat.mul_one]
theorem v0d {n:Nat}:j1 n (AV.int .i64 0)=(j1 n 0).map nat:=by simp[nat]
theorem z9g {a b:Nat} (hlen:(dec a).length≤20000000) (hlenb:(dec b).length≤20000000):Pure Gam 279 [.str (dec a), .str (dec b)] (.str (dec (a * b))):=by
 refine Pure.of rfl u5i rfl rfl rfl rfl rfl fun D B clk T hB hT=> ?_
 have hda:=z1l a
 have hdc:=z1l b
 have hna:=t9.2 (z7x a)
 have hwa:=z1s a
 have hwb:=z1s b
 generalize hA:dec a=A at *
 generalize hC:dec b=C at *
 have en:IntKind.i64.wrap ((A.length:Int) + (C.length:Int))=((A.length + C.length:Nat):Int):=by rw[z0e (by omega) (by omega)];omega
 simp only[go_sem,y4s,hB,en,q8c (z:= .int .i64 0) (n:=A.length + C.length) (b:=8) rfl (by omega),v0d]
 generalize hn:A.length + C.length=n
 refine z1t (fun m q=>∃ (i:Nat) (out:List Nat) (g1:Nat) (o2:AObj),i≤A.length∧m=A.length - i∧out.length=n∧(∀ x∈out,x≤100 * (20000000 * i))∧x4d out=z1n (A.take i) * 10 ^ (A.length - i) * b∧q.ts 0= .str A∧q.ts 1= .str C∧q.ts 5= .ob (B + 0) g1 0 n∧q.ts 6= .int .i64 (i:Int)∧q.h=D++[.blk g1 (out.map nat) true false 0,o2]) A.length ?_ ?_
 ·refine⟨0,j1 n 0,_,_,by omega,rfl,by simp,by simp,by simp[k4m,z1n],rfl,rfl,rfl,rfl,rfl⟩
 rintro m ⟨ts,h,clk⟩ P ⟨i,out,g1,o2,hi,rfl,hl,hb,hw,h0,h1,h5,h6,rfl⟩ hnx he hr
 dsimp only at h0 h1 h5 h6
 by_cases hlt:i < A.length
 ·have e1:decide ((i:Int) < (A.length:Int))=true:=by rw[z04];omega
  have ei:IntKind.i64.wrap ((i:Int) + 1)=((i + 1:Nat):Int):=z0e (by omega) (by omega)
  simp only[go_sem,h0,h1,h5,h6,j5h,e1]
  refine v0c (i:=i) (A:=A) (C:=C) hB hl hn.symm hlen hlenb hlt hda hdc hb (by simp[z0b,h0]) (by simp[z0b,h1]) (by simp[z0b,h5]) (by simp[z0b,h6]) rfl ?_
  intro out' ts2 clk2 hl' hb' hw' q0 q1 q5 q6
  simp only[go_sem,q0,q1,q5,q6,ei]
  refine hnx (A.length - (i + 1)) _ (by omega) ⟨i + 1,out',g1,o2,hlt,rfl,hl',hb', ?_,q0,q1,q5,rfl,rfl⟩
  rw[hw',hw,j0b hlt,hwb,y9]
 ·have hiA:i=A.length:=by omega
  have e1:decide ((i:Int) < (A.length:Int))=false:=by rw[z03];omega
  rw[hiA,u4,hwa,d8,Nat.pow_zero,Nat.mul_one] at hw
  have hlt10:a * b < 10 ^ n:=by
   have h1:=z4v hda
   have h2:=z4v hdc
   rw[hwa] at h1
   rw[hwb] at h2
   rw[←hn,Nat.pow_add]
   rcases n6 b with rfl | hbp
   ·simp;exact Nat.mul_pos (Nat.pos_of_ne_zero (by simp)) (Nat.pos_of_ne_zero (by simp))
   ·exact Nat.lt_of_lt_of_le (Nat.mul_lt_mul_of_pos_right h1 hbp) (Nat.mul_le_mul_left _ (Nat.le_of_lt h2))
  have em:IntKind.i64.wrap ((n:Int) - 1)=(n:Int) - 1:=z0e (by omega) (by omega)
  simp only[go_sem,h0,h1,h5,h6,j5h,e1]
  refine he _ _ ?_
  simp only[go_sem,h0,h1,h5,h6,hB,q8c (z:= .int .u8 0) (n:=n) (b:=1) rfl (by omega),em]
  refine v0b (out:=out) hB hl (by omega) (by omega) (fun x hx=>by have:=hb x hx;omega) (by rw[hw];exact hlt10) (by simp[z0b,h5]) rfl rfl rfl ?_
  intro suf ts2 clk2 hsl hsd hsw q8
  have hof:∀ g2,k7a (D++[.blk g1 (out.map nat) true false 0, .blk g2 (bytes suf) true false 0]) (.ob (B + 1) g2 0 n)=some (.str suf,D++[.blk g1 (out.map nat) true false 0, .blk g2 (bytes suf) true false 0]):=fun g2=>by
   have hs:=q4q (B:=B) (D:=D) (L:=[.blk g1 (out.map nat) true false 0, .blk g2 (bytes suf) true false 0]) (k:=1) (g:=g2) (len:=n) hB rfl (by rw[q5v,hsl])
   simp only[k7a,hs,n9]
   rw[z7e fun c hc=>by have:=hsd.2 c hc;omega]
   rfl
  simp only[go_sem,q8,hof]
  rw[z0a (q1g hsd),hsw,hw]
  simp only[go_sem,]
  rw[z3h]
  exact hT _
end
end Go.Proofs.YtkollgjffkdliaaGreatDoor.Am
