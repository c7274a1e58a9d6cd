/- Functions of the abstract machine's program Walking: the reference's magnitudes Decimal digits: comparison, plain facts Walking: magnitudes are compared; rows of the frame Walking: magnitudes are subt -/
import Derived.Test.YtdfepmffiampgaaGreatDoorM28
open Nat renaming reduceBEq → z0,reduceAdd → z1,reduceLeDiff → z2,reduceSub → z3
set_option linter.all false
namespace Go.Proofs.YtdfepmffiampgaaGreatDoor.Am
open Go
set_option maxRecDepth 100000
section
open Sh
set_option maxHeartbeats 0
noncomputable def y1p:AFun:=(fun (a:AFun) (_:Gam.fn 273=some a)=>a) _ (by conv=>lhs;reduce;simp only[Int.reduceOfNat,Int.reduceNegSucc])
theorem u3b:Gam.fn 273=some y1p:=by kernel_rfl
noncomputable def y1q:AFun:=(fun (a:AFun) (_:Gam.fn 272=some a)=>a) _ (by conv=>lhs;reduce;simp only[Int.reduceOfNat,Int.reduceNegSucc])
theorem u3c:Gam.fn 272=some y1q:=by kernel_rfl
noncomputable def u8d:AFun:=(fun (a:AFun) (_:Gam.fn 160=some a)=>a) _ (by conv=>lhs;reduce;simp only[Int.reduceOfNat,Int.reduceNegSucc])
noncomputable def q7p:ACode:=(fun (a:ACode) (_:fl [] (lp u8d 0)=a)=>a) _ (by conv=>lhs;reduce;simp only[Int.reduceOfNat,Int.reduceNegSucc])
attribute [local irreducible] q7p
noncomputable def k2z:AFun:=(fun (a:AFun) (_:flF [q7p] u8d=a)=>a) _ (by conv=>lhs;reduce;simp only[Int.reduceOfNat,Int.reduceNegSucc])
theorem y1r:Gam.fn 160=some k2z:=by kernel_rfl
noncomputable def y1s:AFun:=(fun (a:AFun) (_:Gam.fn 216=some a)=>a) _ (by conv=>lhs;reduce;simp only[Int.reduceOfNat,Int.reduceNegSucc])
theorem u3d:Gam.fn 216=some y1s:=by kernel_rfl
noncomputable def w0s:AFun:=(fun (a:AFun) (_:Gam.fn 217=some a)=>a) _ (by conv=>lhs;reduce;simp only[Int.reduceOfNat,Int.reduceNegSucc])
theorem u3e:Gam.fn 217=some w0s:=by kernel_rfl
noncomputable def u8e:AFun:=(fun (a:AFun) (_:Gam.fn 251=some a)=>a) _ (by conv=>lhs;reduce;simp only[Int.reduceOfNat,Int.reduceNegSucc])
noncomputable def j4p:ACode:=(fun (a:ACode) (_:fl [] (lp u8e 0)=a)=>a) _ (by conv=>lhs;reduce;simp only[Int.reduceOfNat,Int.reduceNegSucc])
attribute [local irreducible] j4p
noncomputable def y1t:AFun:=(fun (a:AFun) (_:flF [j4p] u8e=a)=>a) _ (by conv=>lhs;reduce;simp only[Int.reduceOfNat,Int.reduceNegSucc])
theorem u3f:Gam.fn 251=some y1t:=by kernel_rfl
noncomputable def u3g:AFun:=(fun (a:AFun) (_:Gam.fn 252=some a)=>a) _ (by conv=>lhs;reduce;simp only[Int.reduceOfNat,Int.reduceNegSucc])
noncomputable def x3h:ACode:=(fun (a:ACode) (_:fl [] (lp u3g 1)=a)=>a) _ (by conv=>lhs;reduce;simp only[Int.reduceOfNat,Int.reduceNegSucc])
attribute [local irreducible] x3h
noncomputable def j4q:ACode:=(fun (a:ACode) (_:fl [x3h] (lp u3g 0)=a)=>a) _ (by conv=>lhs;reduce;simp only[Int.reduceOfNat,Int.reduceNegSucc])
attribute [local irreducible] j4q
noncomputable def y1u:AFun:=(fun (a:AFun) (_:flF [j4q,x3h] u3g=a)=>a) _ (by conv=>lhs;reduce;simp only[Int.reduceOfNat,Int.reduceNegSucc])
theorem u3h:Gam.fn 252=some y1u:=by kernel_rfl
noncomputable def y8l:AFun:=(fun (a:AFun) (_:Gam.fn 253=some a)=>a) _ (by conv=>lhs;reduce;simp only[Int.reduceOfNat,Int.reduceNegSucc])
noncomputable def x0g:ACode:=(fun (a:ACode) (_:fl [] (lp y8l 2)=a)=>a) _ (by conv=>lhs;reduce;simp only[Int.reduceOfNat,Int.reduceNegSucc])
attribute [local irreducible] x0g
noncomputable def x3i:ACode:=(fun (a:ACode) (_:fl [x0g] (lp y8l 1)=a)=>a) _ (by conv=>lhs;reduce;simp only[Int.reduceOfNat,Int.reduceNegSucc])
attribute [local irreducible] x3i
noncomputable def j4r:ACode:=(fun (a:ACode) (_:fl [x3i,x0g] (lp y8l 0)=a)=>a) _ (by conv=>lhs;reduce;simp only[Int.reduceOfNat,Int.reduceNegSucc])
attribute [local irreducible] j4r
noncomputable def y1v:AFun:=(fun (a:AFun) (_:flF [j4r,x3i,x0g] y8l=a)=>a) _ (by conv=>lhs;reduce;simp only[Int.reduceOfNat,Int.reduceNegSucc])
theorem u3i:Gam.fn 253=some y1v:=by kernel_rfl
noncomputable def j8i:AFun:=(fun (a:AFun) (_:Gam.fn 255=some a)=>a) _ (by conv=>lhs;reduce;simp only[Int.reduceOfNat,Int.reduceNegSucc])
theorem u3j:Gam.fn 255=some j8i:=by kernel_rfl
noncomputable def u8f:AFun:=(fun (a:AFun) (_:Gam.fn 256=some a)=>a) _ (by conv=>lhs;reduce;simp only[Int.reduceOfNat,Int.reduceNegSucc])
noncomputable def x0h:ACode:=(fun (a:ACode) (_:fl [] (lp u8f 0)=a)=>a) _ (by conv=>lhs;reduce;simp only[Int.reduceOfNat,Int.reduceNegSucc])
attribute [local irreducible] x0h
noncomputable def y1w:AFun:=(fun (a:AFun) (_:flF [x0h] u8f=a)=>a) _ (by conv=>lhs;reduce;simp only[Int.reduceOfNat,Int.reduceNegSucc])
theorem u3k:Gam.fn 256=some y1w:=by kernel_rfl
noncomputable def u8g:AFun:=(fun (a:AFun) (_:Gam.fn 198=some a)=>a) _ (by conv=>lhs;reduce;simp only[Int.reduceOfNat,Int.reduceNegSucc])
noncomputable def x9d:ACode:=(fun (a:ACode) (_:fl [] (lp u8g 0)=a)=>a) _ (by conv=>lhs;reduce;simp only[Int.reduceOfNat,Int.reduceNegSucc])
attribute [local irreducible] x9d
noncomputable def y1x:AFun:=(fun (a:AFun) (_:flF [x9d] u8g=a)=>a) _ (by conv=>lhs;reduce;simp only[Int.reduceOfNat,Int.reduceNegSucc])
theorem u3l:Gam.fn 198=some y1x:=by kernel_rfl
noncomputable def u8h:AFun:=(fun (a:AFun) (_:Gam.fn 197=some a)=>a) _ (by conv=>lhs;reduce;simp only[Int.reduceOfNat,Int.reduceNegSucc])
noncomputable def j4s:ACode:=(fun (a:ACode) (_:fl [] (lp u8h 0)=a)=>a) _ (by conv=>lhs;reduce;simp only[Int.reduceOfNat,Int.reduceNegSucc])
attribute [local irreducible] j4s
noncomputable def y1y:AFun:=(fun (a:AFun) (_:flF [j4s] u8h=a)=>a) _ (by conv=>lhs;reduce;simp only[Int.reduceOfNat,Int.reduceNegSucc])
theorem u3m:Gam.fn 197=some y1y:=by kernel_rfl
noncomputable def w0t:AFun:=(fun (a:AFun) (_:Gam.fn 231=some a)=>a) _ (by conv=>lhs;reduce;simp only[Int.reduceOfNat,Int.reduceNegSucc])
theorem y1z:Gam.fn 231=some w0t:=by kernel_rfl
noncomputable def w0u:AFun:=(fun (a:AFun) (_:Gam.fn 232=some a)=>a) _ (by conv=>lhs;reduce;simp only[Int.reduceOfNat,Int.reduceNegSucc])
theorem y2a:Gam.fn 232=some w0u:=by kernel_rfl
noncomputable def w0v:AFun:=(fun (a:AFun) (_:Gam.fn 264=some a)=>a) _ (by conv=>lhs;reduce;simp only[Int.reduceOfNat,Int.reduceNegSucc])
theorem y2b:Gam.fn 264=some w0v:=by kernel_rfl
noncomputable def w0w:AFun:=(fun (a:AFun) (_:Gam.fn 280=some a)=>a) _ (by conv=>lhs;reduce;simp only[Int.reduceOfNat,Int.reduceNegSucc])
theorem y2c:Gam.fn 280=some w0w:=by kernel_rfl
noncomputable def u8i:AFun:=(fun (a:AFun) (_:Gam.fn 233=some a)=>a) _ (by conv=>lhs;reduce;simp only[Int.reduceOfNat,Int.reduceNegSucc])
noncomputable def j4t:ACode:=(fun (a:ACode) (_:fl [] (lp u8i 0)=a)=>a) _ (by conv=>lhs;reduce;simp only[Int.reduceOfNat,Int.reduceNegSucc])
attribute [local irreducible] j4t
noncomputable def y2d:AFun:=(fun (a:AFun) (_:flF [j4t] u8i=a)=>a) _ (by conv=>lhs;reduce;simp only[Int.reduceOfNat,Int.reduceNegSucc])
theorem u3n:Gam.fn 233=some y2d:=by kernel_rfl
noncomputable def w0x:AFun:=(fun (a:AFun) (_:Gam.fn 262=some a)=>a) _ (by conv=>lhs;reduce;simp only[Int.reduceOfNat,Int.reduceNegSucc])
theorem y2e:Gam.fn 262=some w0x:=by kernel_rfl
noncomputable def w0y:AFun:=(fun (a:AFun) (_:Gam.fn 263=some a)=>a) _ (by conv=>lhs;reduce;simp only[Int.reduceOfNat,Int.reduceNegSucc])
theorem y2f:Gam.fn 263=some w0y:=by kernel_rfl
noncomputable def w0z:AFun:=(fun (a:AFun) (_:Gam.fn 274=some a)=>a) _ (by conv=>lhs;reduce;simp only[Int.reduceOfNat,Int.reduceNegSucc])
theorem y2g:Gam.fn 274=some w0z:=by kernel_rfl
noncomputable def w1a:AFun:=(fun (a:AFun) (_:Gam.fn 283=some a)=>a) _ (by conv=>lhs;reduce;simp only[Int.reduceOfNat,Int.reduceNegSucc])
theorem y2h:Gam.fn 283=some w1a:=by kernel_rfl
noncomputable def u8j:AFun:=(fun (a:AFun) (_:Gam.fn 288=some a)=>a) _ (by conv=>lhs;reduce;simp only[Int.reduceOfNat,Int.reduceNegSucc])
noncomputable def v4b:ACode:=(fun (a:ACode) (_:fl [] (lp u8j 0)=a)=>a) _ (by conv=>lhs;reduce;simp only[Int.reduceOfNat,Int.reduceNegSucc])
attribute [local irreducible] v4b
noncomputable def y2i:AFun:=(fun (a:AFun) (_:flF [v4b] u8j=a)=>a) _ (by conv=>lhs;reduce;simp only[Int.reduceOfNat,Int.reduceNegSucc])
theorem u3o:Gam.fn 288=some y2i:=by kernel_rfl
def y2j:AFun:=
 {ntmps:=8,nslots:=0,results:=[.tmp 4],byref:=[],owned:=false,
  body:=(.seq (.region 1 [N 4 (.move (I 0))] []) (.seq (.region 4 [M 5 0,M 6 1,N 7 (.call 309 [(.tmp 5),(.tmp 6)]),M 4 7] []) .ret))}
theorem u3p:Gam.fn 298=some y2j:=by kernel_rfl
noncomputable def y2k:AFun:=(fun (a:AFun) (_:Gam.fn 275=some a)=>a) _ (by conv=>lhs;reduce;simp only[Int.reduceOfNat,Int.reduceNegSucc])
theorem u3q:Gam.fn 275=some y2k:=by kernel_rfl
noncomputable def y2l:AFun:=(fun (a:AFun) (_:Gam.fn 284=some a)=>a) _ (by conv=>lhs;reduce;simp only[Int.reduceOfNat,Int.reduceNegSucc])
theorem u3r:Gam.fn 284=some y2l:=by kernel_rfl
noncomputable def u8k:AFun:=(fun (a:AFun) (_:Gam.fn 289=some a)=>a) _ (by conv=>lhs;reduce;simp only[Int.reduceOfNat,Int.reduceNegSucc])
noncomputable def j4u:ACode:=(fun (a:ACode) (_:fl [] (lp u8k 0)=a)=>a) _ (by conv=>lhs;reduce;simp only[Int.reduceOfNat,Int.reduceNegSucc])
attribute [local irreducible] j4u
noncomputable def y2m:AFun:=(fun (a:AFun) (_:flF [j4u] u8k=a)=>a) _ (by conv=>lhs;reduce;simp only[Int.reduceOfNat,Int.reduceNegSucc])
theorem u3s:Gam.fn 289=some y2m:=by kernel_rfl
noncomputable def u8l:AFun:=(fun (a:AFun) (_:Gam.fn 276=some a)=>a) _ (by conv=>lhs;reduce;simp only[Int.reduceOfNat,Int.reduceNegSucc])
noncomputable def j4v:ACode:=(fun (a:ACode) (_:fl [] (lp u8l 0)=a)=>a) _ (by conv=>lhs;reduce;simp only[Int.reduceOfNat,Int.reduceNegSucc])
attribute [local irreducible] j4v
noncomputable def y2n:AFun:=(fun (a:AFun) (_:flF [j4v] u8l=a)=>a) _ (by conv=>lhs;reduce;simp only[Int.reduceOfNat,Int.reduceNegSucc])
theorem u3t:Gam.fn 276=some y2n:=by kernel_rfl
noncomputable def u3u:AFun:=(fun (a:AFun) (_:Gam.fn 277=some a)=>a) _ (by conv=>lhs;reduce;simp only[Int.reduceOfNat,Int.reduceNegSucc])
noncomputable def x3j:ACode:=(fun (a:ACode) (_:fl [] (lp u3u 1)=a)=>a) _ (by conv=>lhs;reduce;simp only[Int.reduceOfNat,Int.reduceNegSucc])
attribute [local irreducible] x3j
noncomputable def j4w:ACode:=(fun (a:ACode) (_:fl [x3j] (lp u3u 0)=a)=>a) _ (by conv=>lhs;reduce;simp only[Int.reduceOfNat,Int.reduceNegSucc])
attribute [local irreducible] j4w
noncomputable def y2o:AFun:=(fun (a:AFun) (_:flF [j4w,x3j] u3u=a)=>a) _ (by conv=>lhs;reduce;simp only[Int.reduceOfNat,Int.reduceNegSucc])
theorem u3v:Gam.fn 277=some y2o:=by kernel_rfl
noncomputable def u8m:AFun:=(fun (a:AFun) (_:Gam.fn 278=some a)=>a) _ (by conv=>lhs;reduce;simp only[Int.reduceOfNat,Int.reduceNegSucc])
noncomputable def j4x:ACode:=(fun (a:ACode) (_:fl [] (lp u8m 0)=a)=>a) _ (by conv=>lhs;reduce;simp only[Int.reduceOfNat,Int.reduceNegSucc])
attribute [local irreducible] j4x
noncomputable def y2p:AFun:=(fun (a:AFun) (_:flF [j4x] u8m=a)=>a) _ (by conv=>lhs;reduce;simp only[Int.reduceOfNat,Int.reduceNegSucc])
theorem u3w:Gam.fn 278=some y2p:=by kernel_rfl
noncomputable def k8i:AFun:=(fun (a:AFun) (_:Gam.fn 279=some a)=>a) _ (by conv=>lhs;reduce;simp only[Int.reduceOfNat,Int.reduceNegSucc])
theorem u3x:Gam.fn 279=some k8i:=by kernel_rfl
noncomputable def u8n:AFun:=(fun (a:AFun) (_:Gam.fn 286=some a)=>a) _ (by conv=>lhs;reduce;simp only[Int.reduceOfNat,Int.reduceNegSucc])
noncomputable def x9e:ACode:=(fun (a:ACode) (_:fl [] (lp u8n 0)=a)=>a) _ (by conv=>lhs;reduce;simp only[Int.reduceOfNat,Int.reduceNegSucc])
attribute [local irreducible] x9e
noncomputable def y2q:AFun:=(fun (a:AFun) (_:flF [x9e] u8n=a)=>a) _ (by conv=>lhs;reduce;simp only[Int.reduceOfNat,Int.reduceNegSucc])
theorem y2r:Gam.fn 286=some y2q:=by kernel_rfl
noncomputable def u3y:AFun:=(fun (a:AFun) (_:Gam.fn 287=some a)=>a) _ (by conv=>lhs;reduce;simp only[Int.reduceOfNat,Int.reduceNegSucc])
noncomputable def k3a:ACode:=(fun (a:ACode) (_:fl [] (lp u3y 1)=a)=>a) _ (by conv=>lhs;reduce;simp only[Int.reduceOfNat,Int.reduceNegSucc])
attribute [local irreducible] k3a
noncomputable def v4c:ACode:=(fun (a:ACode) (_:fl [k3a] (lp u3y 0)=a)=>a) _ (by conv=>lhs;reduce;simp only[Int.reduceOfNat,Int.reduceNegSucc])
attribute [local irreducible] v4c
noncomputable def w1b:AFun:=(fun (a:AFun) (_:flF [v4c,k3a] u3y=a)=>a) _ (by conv=>lhs;reduce;simp only[Int.reduceOfNat,Int.reduceNegSucc])
theorem u3z:Gam.fn 287=some w1b:=by kernel_rfl
noncomputable def u8o:AFun:=(fun (a:AFun) (_:Gam.fn 294=some a)=>a) _ (by conv=>lhs;reduce;simp only[Int.reduceOfNat,Int.reduceNegSucc])
noncomputable def x3k:ACode:=(fun (a:ACode) (_:fl [] (lp u8o 0)=a)=>a) _ (by conv=>lhs;reduce;simp only[Int.reduceOfNat,Int.reduceNegSucc])
attribute [local irreducible] x3k
noncomputable def w1c:AFun:=(fun (a:AFun) (_:flF [x3k] u8o=a)=>a) _ (by conv=>lhs;reduce;simp only[Int.reduceOfNat,Int.reduceNegSucc])
theorem y2s:Gam.fn 294=some w1c:=by kernel_rfl
noncomputable def u8p:AFun:=(fun (a:AFun) (_:Gam.fn 295=some a)=>a) _ (by conv=>lhs;reduce;simp only[Int.reduceOfNat,Int.reduceNegSucc])
noncomputable def j4y:ACode:=(fun (a:ACode) (_:fl [] (lp u8p 0)=a)=>a) _ (by conv=>lhs;reduce;simp only[Int.reduceOfNat,Int.reduceNegSucc])
attribute [local irreducible] j4y
noncomputable def y2t:AFun:=(fun (a:AFun) (_:flF [j4y] u8p=a)=>a) _ (by conv=>lhs;reduce;simp only[Int.reduceOfNat,Int.reduceNegSucc])
theorem u4a:Gam.fn 295=some y2t:=by kernel_rfl
end
def q7q (s:List Nat):Prop:=s≠[]∧∀ c∈s,48≤c∧c≤57
theorem z6h {h:List AObj} {c:Nat} {s:List Nat} {k:IntKind}:q5i h (.str (c::s)) (.int k 0)=some (.int .u8 (c:Int),h):=x8o (i:=0) rfl
theorem q2f {h:List AObj} {s:List Nat} {i:Nat} {k:IntKind} (hi:i < s.length):q5i h (.str s) (.int k (i:Int))=some (.int .u8 (s[i]:Int),h):=x8o (by simp[hi])
theorem x0i {h:List AObj} {c:Nat} {s:List Nat} {k:IntKind}:slV h none (.str (c::s)) (some (.int k 1)) none none=some (.str s,h):=by
 simp[slV,z3c,z5l]
theorem k8j {h:List AObj} {s:List Nat} {i:Nat} {k:IntKind} (hi:i≤s.length):slV h none (.str s) (some (.int k (i:Int))) none none=some (.str (s.drop i),h):=by
 simp[slV,z3c,z5l,hi]
theorem y2u {h:List AObj} {s:List Nat} {i:Nat} {k:IntKind} (hi:i≤s.length):slV h none (.str s) none (some (.int k (i:Int))) none=some (.str (s.take i),h):=by
 simp[slV,z3c,z5l,hi]
theorem z9s {T:List Nat} {s:List Nat} {R:AV→List AObj→Prop} {h:List AObj}:RV T (some [.str s]) R h=R (.str s) h:=z2q rfl rfl
theorem z0d {T:List Nat} {s:Bool} {R:AV→List AObj→Prop} {h:List AObj}:RV T (some [.bool s]) R h=R (.bool s) h:=z2q rfl rfl
theorem z2r {T:List Nat} {k:IntKind} {n:Int} {R:AV→List AObj→Prop} {h:List AObj}:RV T (some [.int k n]) R h=R (.int k n) h:=z2q rfl rfl
theorem q2g {s:List Nat} (hs:q7q s):Pure Gam 198 [.str s] (.str (dec (z1v s))):=by
 refine Pure.of rfl u3l rfl rfl rfl rfl rfl fun D B clk T hB hT=> ?_
 simp only[go_sem,y1x]
 refine z1q (fun m q=>∃ t:List Nat,m=t.length∧q7q t∧z1v t=z1v s∧q.ts 0= .str t∧q.h=D++[]) s.length ⟨s,rfl,hs,rfl,rfl,rfl⟩ ?_
 rintro m ⟨ts,h,clk⟩ P ⟨t,rfl,ht,hw,h0,rfl⟩ hn he hr
 dsimp only at h0
 have fin:y1d t→∀ (ts':Tmps) (clk':Nat),ts' 0= .str t→P (.exit 0) ⟨ts',D++[],clk'⟩:=by
  intro hc ts' clk' q0
  refine he _ _ ?_
  simp only[go_sem,q0]
  rw[z9s]
  have:=k2o hc
  rw[hw] at this
  rw[←this]
  exact hT _
 obtain⟨c,t',rfl⟩:=List.exists_cons_of_ne_nil ht.1
 by_cases hl:t'=[]
 ·subst hl
  simp only[go_sem,h0,x9d,Int.cast_ofNat_Int,Int.reduceLT,decide_false,Nat.zero_add]
  exact fin ⟨by simp,ht.2,by simp⟩ _ _ (by simp[z0c,h0])
 ·have hpos:0 < t'.length:=List.length_pos_iff.2 hl
  have e1:decide ((1:Int) < ((t'.length + 1:Nat):Int))=true:=by rw[decide_eq_true_iff];omega
  by_cases hc:c=48
  ·subst hc
   simp only[go_sem,h0,x9d,e1,z6h,x0i,decide_true]
   refine hn t'.length _ (by simp) ⟨t',rfl,⟨hl,fun d hd=>ht.2 d (List.mem_cons_of_mem _ hd)⟩, ?_,rfl,rfl⟩
   rw[←hw,z5i];simp
  ·have e2:decide ((c:Int)=48)=false:=by rw[decide_eq_false_iff_not];omega
   simp only[go_sem,h0,x9d,e1,z6h,x0i,e2]
   exact fin ⟨by simp,ht.2,fun _=>by simpa using hc⟩ _ _ (by simp[z0c,h0])
theorem q6k {s:List Nat} (hs:q7q s) (hlen:s.length≤20000000):Pure Gam 197 [.str s] (.bool true):=by
 refine Pure.of rfl u3m rfl rfl rfl rfl rfl fun D B clk T hB hT=> ?_
 simp only[go_sem,y1y]
 refine z1q (fun m q=>∃ j:Nat,j≤s.length∧m=s.length - j∧q.ts 0= .str s∧q.ts 3= .int .i64 (j:Int)∧q.h=D++[]) s.length ⟨0,by omega,rfl,rfl,rfl,rfl⟩ ?_
 rintro m ⟨ts,h,clk⟩ P ⟨j,hj,rfl,h0,h3,rfl⟩ hn he hr
 dsimp only at h0 h3
 by_cases hlt:j < s.length
 ·have e1:decide ((j:Int) < (s.length:Int))=true:=by rw[decide_eq_true_iff];omega
  have hc:=hs.2 s[j] (List.getElem_mem hlt)
  have e2:decide ((s[j]:Int) < 48)=false:=by rw[decide_eq_false_iff_not];omega
  have e3:decide ((57:Int) < (s[j]:Int))=false:=by rw[decide_eq_false_iff_not];omega
  have e4:IntKind.i64.wrap ((j:Int) + 1)=((j + 1:Nat):Int):=z0f (by omega) (by omega)
  simp only[go_sem,h0,h3,j4s,e1,q2f hlt,e2,e3,e4]
  exact hn (s.length - (j + 1)) _ (by omega) ⟨j + 1,hlt,rfl,h0,rfl,rfl⟩
 ·have e1:decide ((j:Int) < (s.length:Int))=false:=by rw[decide_eq_false_iff_not];omega
  have e2:decide (s=[])=false:=by simp[hs.1]
  simp only[go_sem,h0,h3,j4s,e1]
  refine he _ _ ?_
  simp only[go_sem,h0,h3,e2,Bool.not_false]
  rw[z0d]
  exact hT _
theorem z6l:∀ {s:List Nat},(∀ c∈s,48≤c∧c≤57)→z1v s < 10 ^ s.length
 | [],_=>by simp[z1v]
 | c::s,h=>by
   have h1:=z6l (s:=s) fun d hd=>h d (List.mem_cons_of_mem _ hd)
   have h2:=h c List.mem_cons_self
   rw[z5i,List.length_cons,Nat.pow_succ]
   have:(c - 48) * 10 ^ s.length≤9 * 10 ^ s.length:=Nat.mul_le_mul_right _ (by omega)
   omega
theorem k8k {c:Nat} {s:List Nat} (hc:49≤c):10 ^ s.length≤z1v (c::s):=by
 rw[z5i]
 have:1 * 10 ^ s.length≤(c - 48) * 10 ^ s.length:=Nat.mul_le_mul_right _ (by omega)
 omega
theorem q1f:∀ {s t:List Nat},s.length=t.length→(∀ c∈s,48≤c∧c≤57)→(∀ c∈t,48≤c∧c≤57)→z4p s t=decide (z1v s < z1v t)
 | [],[],_,_,_=>by simp[z4p]
 | a::s,b::t,hl,hs,ht=>by
   have hl':s.length=t.length:=by simpa using hl
   have ih:=q1f hl' (fun d hd=>hs d (List.mem_cons_of_mem _ hd)) (fun d hd=>ht d (List.mem_cons_of_mem _ hd))
   have h1:=z6l (s:=s) fun d hd=>hs d (List.mem_cons_of_mem _ hd)
   have h2:=z6l (s:=t) fun d hd=>ht d (List.mem_cons_of_mem _ hd)
   have ha:=hs a List.mem_cons_self
   have hb:=ht b List.mem_cons_self
   rw[z4p,ih,z5i,z5i,hl']
   rw[hl'] at h1
   rcases Nat.lt_trichotomy a b with h | h | h
   ·have:(a - 48 + 1) * 10 ^ t.length≤(b - 48) * 10 ^ t.length:=Nat.mul_le_mul_right _ (by omega)
    rw[Nat.add_mul,Nat.one_mul] at this
    have e1:decide (a < b)=true:=by simp[h]
    rw[e1,Bool.true_or]
    symm
    rw[decide_eq_true_iff]
    omega
   ·subst h
    simp
   ·have:(b - 48 + 1) * 10 ^ t.length≤(a - 48) * 10 ^ t.length:=Nat.mul_le_mul_right _ (by omega)
    rw[Nat.add_mul,Nat.one_mul] at this
    have e1:decide (a < b)=false:=by simp;omega
    have e2:decide (a=b)=false:=by simp;omega
    rw[e1,e2,Bool.false_or,Bool.false_and]
    symm
    rw[decide_eq_false_iff_not]
    omega
theorem z7a {a b:Nat} (h:(dec a).length < (dec b).length):a < b:=by
 have h1:=z6l (z1u a)
 rw[z2l] at h1
 rcases Nat.eq_zero_or_pos b with rfl | hb
 ·have h3:([48]:List Nat).length=1:=rfl
  rw[q5k,h3] at h
  have:=List.length_pos_iff.2 (z8y a)
  omega
 ·obtain⟨c,s,hs,hc,_⟩:=j4m hb
  have h2:=k8k (s:=s) hc
  rw[←hs,z2l] at h2
  rw[hs,List.length_cons] at h
  have:10 ^ (dec a).length≤10 ^ s.length:=Nat.pow_le_pow_right (by omega) (by omega)
  omega
theorem k8l {a b:Nat}:(decide ((dec a).length < (dec b).length) || (decide ((dec a).length=(dec b).length) && z4p (dec a) (dec b)))=decide (a < b):=by
 rcases Nat.lt_trichotomy (dec a).length (dec b).length with h | h | h
 ·have:=z7a h
  simp[h,this]
 ·rw[q1f h (z1u a) (z1u b),z2l,z2l]
  simp[h]
 ·have:=z7a h
  have e1:¬ (dec a).length < (dec b).length:=by omega
  have e2:¬ (dec a).length=(dec b).length:=by omega
  have e3:¬ a < b:=by omega
  simp[e1,e2,e3]
section
theorem w1d {a b:Nat}:Pure Gam 255 [.str (dec a), .str (dec b)] (.int .i64 (if a < b then -1 else if a=b then 0 else 1)):=by
 refine Pure.of rfl u3j rfl rfl rfl rfl rfl fun D B clk T hB hT=> ?_
 have hd:=k8l (a:=a) (b:=b)
 have fin:∀ (n:Int),n=(if a < b then -1 else if a=b then 0 else 1)→T (.int .i64 n) (D++[]):=fun n hn=>hn ▸ hT _
 have key:(decide (((dec a).length:Int) < ((dec b).length:Int))=true∧a < b)∨(decide (((dec a).length:Int) < ((dec b).length:Int))=false∧decide (((dec a).length:Int)=((dec b).length:Int))=true∧z4p (dec a) (dec b)=decide (a < b))∨(decide (((dec a).length:Int) < ((dec b).length:Int))=false∧decide (((dec a).length:Int)=((dec b).length:Int))=false∧b < a):=by
  rcases Nat.lt_trichotomy (dec a).length (dec b).length with h | h | h
  ·exact .inl ⟨by rw[decide_eq_true_iff];omega,z7a h⟩
  ·refine .inr (.inl ⟨by rw[decide_eq_false_iff_not];omega,by rw[decide_eq_true_iff];omega, ?_⟩)
   rw[q1f h (z1u a) (z1u b),z2l,z2l]
  ·exact .inr (.inr ⟨by rw[decide_eq_false_iff_not];omega,by rw[decide_eq_false_iff_not];omega,z7a h⟩)
 have heq:decide (dec a=dec b)=decide (a=b):=by
  rw[decide_eq_decide]
  exact⟨j1s,fun h=>h ▸ rfl⟩
 rcases key with ⟨e1,h1⟩ | ⟨e1,e2,e3⟩ | ⟨e1,e2,h1⟩
 ·simp only[go_sem,j8i,e1,Bool.not_true]
  rw[z2r]
  exact fin _ (by rw[if_pos h1])
 ·rcases Nat.lt_trichotomy a b with h | h | h
  ·have e4:decide (a < b)=true:=by simp[h]
   simp only[go_sem,j8i,e1,e2,e3,e4,Bool.not_false]
   rw[z2r]
   exact fin _ (by rw[if_pos h])
  ·have e4:decide (a < b)=false:=by simp;omega
   have e5:decide (a=b)=true:=by simp[h]
   simp only[go_sem,j8i,e1,e2,e3,e4,heq,e5,Bool.not_false]
   rw[z2r]
   exact fin _ (by rw[if_neg (by omega),if_pos h])
  ·have e4:decide (a < b)=false:=by simp;omega
   have e5:decide (a=b)=false:=by simp;omega
   simp only[go_sem,j8i,e1,e2,e3,e4,heq,e5,Bool.not_false]
   rw[z2r]
   exact fin _ (by rw[if_neg (by omega),if_neg (by omega)])
 ·have e5:decide (a=b)=false:=by simp;omega
  simp only[go_sem,j8i,e1,e2,heq,e5,Bool.not_false]
  rw[z2r]
  exact fin _ (by rw[if_neg (by omega),if_neg (by omega)])
section
variable {D L:List AObj} {B k g i:Nat} {es:List AV} {w:Bool}
theorem q0i {K K':IntKind} {n m:Int} (hB:D.length=B) (hL:L[k]? =some (.blk g es true w 0)) (hi:es[i]? =some (.int K' m)):z4y (D++L) 1 (.int K n) (.ptr (B + k) g i 0)=some (.undef,D++L.set k (.blk g (es.set i (.int K n)) true w 0)):=by
 have hb:z1s (D++L) (B + k) g=some (es,true,w,0):=by rw[z2i hB];exact z2g hL
 rw[z6y,hb]
 have hp:pub (D++L) (.int K n)=some (.int K n,D++L):=rfl
 simp only[hi,if_true,hp,k1h,q5j,List.length_singleton,List.all_cons,List.all_nil,j1i,Bool.and_self,true_and,Nat.zero_le,k2d,List.map_nil,List.contains_nil,Bool.not_false,and_self,implies_true,z8a,q5j,Nat.zero_add,Nat.le_refl,List.take_zero,List.nil_append,List.drop_succ_cons,List.drop_nil,List.append_nil,Option.map_some,x3e,x8p,z1t hB]
theorem q4f {len:Nat} {K:IntKind} {x:AV} (hB:D.length=B) (hL:L[k]? =some (.blk g es true w 0)) (hi:es[i]? =some x) (hx:x.cells=[x]) (hl:i < len):z1n (D++L) 1 (.ob (B + k) g 0 len) (.int K (i:Int))=some (.ptr (B + k) g i 0,D++L):=by
 have hb:z1s (D++L) (B + k) g=some (es,true,w,0):=by rw[z2i hB];exact z2g hL
 simp only[z1n,Int.natCast_nonneg,if_true,hb,Int.toNat_natCast,Nat.zero_add,hi,hl,hx,List.length_singleton,and_self]
theorem q1g {len:Nat} (hB:D.length=B) (hL:L[k]? =some (.blk g es true w 0)) (hl:es.length=len):z4e (D++L) (.ob (B + k) g 0 len)=some es:=by
 have hb:z1s (D++L) (B + k) g=some (es,true,w,0):=by rw[z2i hB];exact z2g hL
 simp only[z4e,q0r,hb,Nat.zero_add,hl,Nat.le_refl,if_true,List.drop_zero]
 rw[List.take_of_length_le (by omega)]
end
def bytes (s:List Nat):List AV:=s.map fun (c:Nat)=> .int .u8 (c:Int)
theorem z8m:∀ {s:List Nat},(∀ c∈s,c < 256)→z7i (bytes s)=some s
 | [],_=>rfl
 | c::s,h=>by
   have ih:=z8m (s:=s) fun d hd=>h d (List.mem_cons_of_mem _ hd)
   have hc:=h c List.mem_cons_self
   unfold bytes at ih⊢
   simp only[List.map_cons,z7i,ih,Option.map_some,Int.toNat_natCast]
   rw[if_pos (by omega)]
end
theorem x0j {h:List AObj} {s g b n:Nat} {z:AV} {k j:IntKind} (hz:z.def? =true) (hn:(n:Int) * ((b:Int) + 1)≤2 ^ 46):msV h s g z b (.int k (n:Int)) (.int j (n:Int))=some (.ob s g 0 n,h.set s (.blk g (List.replicate n z) true false 0)):=by
 have h1:(0≤(n:Int)∧(n:Int)≤n∧(n:Int) * (b + 1)≤(z1c:Int)∧z.def? =true):=by
  refine⟨by omega,by omega, ?_,hz⟩
  simpa [z1c] using hn
 simp only[msV,if_pos h1,Int.toNat_natCast]
theorem j1x {n i:Nat} {x y:AV} {suf:List AV} (hi:i < n):(List.replicate (n - i) x++suf).set (n - 1 - i) y=List.replicate (n - (i + 1)) x++(y::suf):=by
 obtain⟨m,hm⟩:∃ m,n - i=m + 1:=⟨n - i - 1,by omega⟩
 rw[hm,show n - 1 - i=m by omega,show n - (i + 1)=m by omega,List.replicate_succ',List.append_assoc,List.set_append_right _ _ (by simp)]
 simp
theorem q6l {n i:Nat} {x:AV} {suf:List AV} (hi:i < n):(List.replicate (n - i) x++suf)[n - 1 - i]? =some x:=by
 rw[List.getElem?_append_left (by simp;omega),List.getElem?_replicate,if_pos (by omega)]
theorem x3l {A:List Nat} {i:Nat} (hi:i < A.length):z1v (A.drop (A.length - (i + 1)))=(A[A.length - 1 - i] - 48) * 10 ^ i + z1v (A.drop (A.length - i)):=by
 have h1:A.drop (A.length - (i + 1))=A[A.length - 1 - i]::A.drop (A.length - i):=by
  rw[List.drop_eq_getElem_cons (by omega)]
  congr 2 <;> omega
 rw[h1,z5i,List.length_drop,show A.length - (A.length - i)=i by omega]
theorem q3e {c:Nat} (h:48≤c∧c≤57):IntKind.u8.wrap ((c:Int) - 48)=((c - 48:Nat):Int):=by rw[IntWalk.u8_in _ (by omega)];omega
theorem w1e {a b:Nat} (hba:b≤a) (hlen:(dec a).length≤10000100) (hlenb:(dec b).length≤10000100):Pure Gam 256 [.str (dec a), .str (dec b)] (.str (dec (a - b))):=by
 refine Pure.of rfl u3k rfl rfl rfl rfl rfl fun D B clk T hB hT=> ?_
 have hda:=z1u a
 have hdb:=z1u b
 have hna:dec a≠[]:=z8y a
 have hlab:(dec b).length≤(dec a).length:=Classical.byContradiction fun h=>by
  have:=z7a (a:=a) (b:=b) (by omega)
  omega
 have hwa:=z2l a
 have hwb:=z2l b
 generalize hA:dec a=A at *
 generalize hBb:dec b=C at *
 simp only[go_sem,y1w,hB,x0j (z:= .int .u8 0) (n:=A.length) (b:=1) rfl (by omega)]
 refine z1q (fun m q=>∃ (i r:Nat) (suf:List Nat) (gr:Nat),i≤A.length∧m=A.length - i∧suf.length=i∧(∀ c∈suf,48≤c∧c≤57)∧r≤1∧z1v suf + z1v (C.drop (C.length - i)) + 0=z1v (A.drop (A.length - i)) + r * 10 ^ i∧
  q.ts 0= .str A∧q.ts 1= .str C∧q.ts 5= .ob (B + 0) gr 0 A.length∧q.ts 6= .int .i64 (r:Int)∧q.ts 7= .int .i64 (i:Int)∧q.h=D++[.blk gr (List.replicate (A.length - i) (.int .u8 0)++bytes suf) true false 0]) A.length ?_ ?_
 ·refine⟨0,0,[],_,by omega,rfl,rfl,by simp,by omega,by simp[z1v],rfl,rfl,rfl,rfl,rfl,by simp[bytes]⟩
 rintro m ⟨ts,h,clk⟩ P ⟨i,r,suf,gr,hi,rfl,hsl,hsd,hr1,hw,h0,h1,h5,h6,h7,rfl⟩ hn he hr
 dsimp only at h0 h1 h5 h6 h7
 by_cases hlt:i < A.length
 ·have e1:decide ((i:Int) < (A.length:Int))=true:=by rw[decide_eq_true_iff];omega
  have ea:IntKind.i64.wrap (IntKind.i64.wrap ((A.length:Int) - 1) - (i:Int))=((A.length - 1 - i:Nat):Int):=by rw[z0f (n:=(A.length:Int) - 1) (by omega) (by omega),z0f (by omega) (by omega)];omega
  have hia:A.length - 1 - i < A.length:=by omega
  have hca:=hda _ (List.getElem_mem hia)
  have hdig:=x3l hlt
  generalize hc:A[A.length - 1 - i]=c at hca hdig
  have hixa:∀ h,q5i h (.str A) (.int .i64 ((A.length - 1 - i:Nat):Int))=some (.int .u8 (c:Int),h):=fun h=>by rw[q2f hia,hc]
  have ec:=q3e hca
  have ei:IntKind.i64.wrap ((i:Int) + 1)=((i + 1:Nat):Int):=z0f (by omega) (by omega)
  have ec2:IntKind.i64.wrap ((c - 48:Nat):Int)=((c - 48:Nat):Int):=z0f (by omega) (by omega)
  have fin:∀ (s:Int) (d:Nat),d≤9→s=((c - 48:Nat):Int) - r - (d:Int)→z1v (C.drop (C.length - (i + 1)))=d * 10 ^ i + z1v (C.drop (C.length - i))→
    ∀ (r':Nat) (e:Nat),((s < 0∧r'=1∧(e:Int)=s + 10)∨(0≤s∧r'=0∧(e:Int)=s))→∀ (ts':Tmps) (clk':Nat),ts' 0= .str A→ts' 1= .str C→ts' 5= .ob (B + 0) gr 0 A.length→ts' 6= .int .i64 (r':Int)→ts' 7= .int .i64 ((i + 1:Nat):Int)→P .norm ⟨ts',D++[.blk gr (List.replicate (A.length - (i + 1)) (.int .u8 0)++bytes ((48 + e)::suf)) true false 0],clk'⟩:=by
   intro s d hd hs hcd r' e hre ts' clk' q0 q1 q5 q6 q7
   refine hn (A.length - (i + 1)) _ (by omega) ⟨i + 1,r',(48 + e)::suf,gr,hlt,rfl,by simp[hsl], ?_,by omega, ?_,q0,q1,q5,q6,q7,rfl⟩
   ·intro c' hc'
    rw[List.mem_cons] at hc'
    rcases hc' with rfl | hc'
    ·omega
    ·exact hsd c' hc'
   ·rw[z5i,hsl,hcd,hdig,Nat.pow_succ,Nat.add_sub_cancel_left]
    have hx:e + d + r=(c - 48) + r' * 10:=by omega
    have:=congrArg (· * 10 ^ i) hx
    simp only[Nat.add_mul] at this
    rw[Nat.mul_assoc] at this
    rw[Nat.mul_comm (10 ^ i) 10]
    omega
  have hstore:∀ (g':Nat) (x:Int),z4y (D++[.blk g' (List.replicate (A.length - i) (.int .u8 0)++bytes suf) true false 0]) 1 (.int .u8 x) (.ptr (B + 0) g' (A.length - 1 - i) 0)=some (.undef,D++[.blk g' (List.replicate (A.length - (i + 1)) (.int .u8 0)++(.int .u8 x::bytes suf)) true false 0]):=fun g' x=>by
   have h:=q0i (K:= .u8) (n:=x) (K':= .u8) (m:=0) (D:=D) (B:=B) (g:=g') (i:=A.length - 1 - i) (es:=List.replicate (A.length - i) (AV.int .u8 0)++bytes suf) (L:=[AObj.blk g' (List.replicate (A.length - i) (AV.int .u8 0)++bytes suf) true false 0]) (k:=0) (w:=false) hB rfl (q6l hlt)
   rw[j1x hlt] at h
   exact h
  have hidx:∀ (g':Nat),z1n (D++[.blk g' (List.replicate (A.length - i) (.int .u8 0)++bytes suf) true false 0]) 1 (.ob (B + 0) g' 0 A.length) (.int .i64 ((A.length - 1 - i:Nat):Int))=some (.ptr (B + 0) g' (A.length - 1 - i) 0,D++[.blk g' (List.replicate (A.length - i) (.int .u8 0)++bytes suf) true false 0]):=fun g'=>
   q4f (L:=[.blk g' (List.replicate (A.length - i) (.int .u8 0)++bytes suf) true false 0]) (k:=0) hB rfl (q6l hlt) rfl (by omega)
  have e8:∀ e:Nat,e≤9→IntKind.u8.wrap (IntKind.i64.wrap (48 + (e:Int)))=((48 + e:Nat):Int):=fun e h=>by rw[z0f (by omega) (by omega),IntWalk.u8_in _ (by omega)];omega
  have hsub1:IntKind.i64.wrap (((c - 48:Nat):Int) - (r:Int))=((c - 48:Nat):Int) - (r:Int):=z0f (by omega) (by omega)
  by_cases hib:i < C.length
  ·have e2:decide ((i:Int) < (C.length:Int))=true:=by rw[decide_eq_true_iff];omega
   have eb:IntKind.i64.wrap (IntKind.i64.wrap ((C.length:Int) - 1) - (i:Int))=((C.length - 1 - i:Nat):Int):=by rw[z0f (n:=(C.length:Int) - 1) (by omega) (by omega),z0f (by omega) (by omega)];omega
   have hic:C.length - 1 - i < C.length:=by omega
   have hcc:=hdb _ (List.getElem_mem hic)
   have hdigb:=x3l hib
   generalize hc2:C[C.length - 1 - i]=d at hcc hdigb
   have hixb:∀ h,q5i h (.str C) (.int .i64 ((C.length - 1 - i:Nat):Int))=some (.int .u8 (d:Int),h):=fun h=>by rw[q2f hic,hc2]
   have ed:=q3e hcc
   have ed2:IntKind.i64.wrap ((d - 48:Nat):Int)=((d - 48:Nat):Int):=z0f (by omega) (by omega)
   have hsub2:IntKind.i64.wrap (((c - 48:Nat):Int) - (r:Int) - ((d - 48:Nat):Int))=((c - 48:Nat):Int) - (r:Int) - ((d - 48:Nat):Int):=z0f (by omega) (by omega)
   have fin':=fin (((c - 48:Nat):Int) - r - ((d - 48:Nat):Int)) (d - 48) (by omega) rfl hdigb
   by_cases hneg:((c - 48:Nat):Int) - (r:Int) - ((d - 48:Nat):Int) < 0
   ·have e3:decide (((c - 48:Nat):Int) - (r:Int) - ((d - 48:Nat):Int) < 0)=true:=by rw[decide_eq_true_iff];exact hneg
    obtain⟨e,he2⟩:∃ e:Nat,(e:Int)=((c - 48:Nat):Int) - (r:Int) - ((d - 48:Nat):Int) + 10:=⟨(((c - 48:Nat):Int) - (r:Int) - ((d - 48:Nat):Int) + 10).toNat,by omega⟩
    have e4:IntKind.i64.wrap (((c - 48:Nat):Int) - (r:Int) - ((d - 48:Nat):Int) + 10)=(e:Int):=by rw[z0f (by omega) (by omega)];omega
    simp only[go_sem,h0,h1,h5,h6,h7,x0h,hB,e1,ea,hixa,ec,ec2,hsub1,e2,eb,hixb,ed,ed2,hsub2,e3,e4,e8 e (by omega),hidx,hstore,ei]
    exact fin' 1 e (.inl ⟨hneg,rfl,he2⟩) _ _ (by simp[z0c,h0]) (by simp[z0c,h1]) (by simp[z0c,h5]) (by simp[z0c]) (by simp[z0c])
   ·have e3:decide (((c - 48:Nat):Int) - (r:Int) - ((d - 48:Nat):Int) < 0)=false:=by rw[decide_eq_false_iff_not];exact hneg
    obtain⟨e,he2⟩:∃ e:Nat,((c - 48:Nat):Int) - (r:Int) - ((d - 48:Nat):Int)=(e:Int):=⟨(((c - 48:Nat):Int) - (r:Int) - ((d - 48:Nat):Int)).toNat,by omega⟩
    rw[he2] at e3
    have hsub2:=hsub2.trans he2
    simp only[go_sem,h0,h1,h5,h6,h7,x0h,hB,e1,ea,hixa,ec,ec2,hsub1,e2,eb,hixb,ed,ed2,hsub2,e3,e8 e (by omega),hidx,hstore,ei]
    exact fin' 0 e (.inr ⟨by omega,rfl,he2.symm⟩) _ _ (by simp[z0c,h0]) (by simp[z0c,h1]) (by simp[z0c,h5]) (by simp[z0c]) (by simp[z0c])
  ·have e2:decide ((i:Int) < (C.length:Int))=false:=by rw[decide_eq_false_iff_not];omega
   have fin':=fin (((c - 48:Nat):Int) - r) 0 (by omega) (by omega) (by rw[show C.length - (i + 1)=0 by omega,show C.length - i=0 by omega];omega)
   by_cases hneg:((c - 48:Nat):Int) - (r:Int) < 0
   ·have e3:decide (((c - 48:Nat):Int) - (r:Int) < 0)=true:=by rw[decide_eq_true_iff];exact hneg
    obtain⟨e,he2⟩:∃ e:Nat,(e:Int)=((c - 48:Nat):Int) - (r:Int) + 10:=⟨(((c - 48:Nat):Int) - (r:Int) + 10).toNat,by omega⟩
    have e4:IntKind.i64.wrap (((c - 48:Nat):Int) - (r:Int) + 10)=(e:Int):=by rw[z0f (by omega) (by omega)];omega
    simp only[go_sem,h0,h1,h5,h6,h7,x0h,hB,e1,ea,hixa,ec,ec2,hsub1,e2,e3,e4,e8 e (by omega),hidx,hstore,ei]
    exact fin' 1 e (.inl ⟨hneg,rfl,he2⟩) _ _ (by simp[z0c,h0]) (by simp[z0c,h1]) (by simp[z0c,h5]) (by simp[z0c]) (by simp[z0c])
   ·have e3:decide (((c - 48:Nat):Int) - (r:Int) < 0)=false:=by rw[decide_eq_false_iff_not];exact hneg
    obtain⟨e,he2⟩:∃ e:Nat,((c - 48:Nat):Int) - (r:Int)=(e:Int):=⟨(((c - 48:Nat):Int) - (r:Int)).toNat,by omega⟩
    rw[he2] at e3
    have hsub1:=hsub1.trans he2
    simp only[go_sem,h0,h1,h5,h6,h7,x0h,hB,e1,ea,hixa,ec,ec2,hsub1,e2,e3,e8 e (by omega),hidx,hstore,ei]
    exact fin' 0 e (.inr ⟨by omega,rfl,he2.symm⟩) _ _ (by simp[z0c,h0]) (by simp[z0c,h1]) (by simp[z0c,h5]) (by simp[z0c]) (by simp[z0c])
 ·have hiA:i=A.length:=by omega
  have e1:decide ((i:Int) < (A.length:Int))=false:=by rw[decide_eq_false_iff_not];omega
  have hwl:=z6l hsd
  have hr0:r=0:=Classical.byContradiction fun h=>by
   have:r=1:=by omega
   subst this
   rw[hiA,Nat.sub_self,List.drop_zero,show C.length - A.length=0 by omega,List.drop_zero,hwa,hwb] at hw
   rw[hsl,hiA] at hwl
   omega
  have hws:z1v suf=a - b:=by
   rw[hiA,Nat.sub_self,List.drop_zero,show C.length - A.length=0 by omega,List.drop_zero,hwa,hwb,hr0] at hw
   omega
  have hsne:suf≠[]:=fun h=>hna (List.length_eq_zero_iff.1 (by rw[←hiA,←hsl,h];rfl))
  simp only[go_sem,h0,h1,h5,h6,h7,x0h,e1]
  refine he _ _ ?_
  have hof:v3x (D++[.blk gr (List.replicate (A.length - i) (.int .u8 0)++bytes suf) true false 0]) (.ob (B + 0) gr 0 A.length)=some (.str suf,D++[.blk gr (List.replicate (A.length - i) (.int .u8 0)++bytes suf) true false 0]):=by
   have hs:=q1g (B:=B) (D:=D) (L:=[.blk gr (List.replicate (A.length - i) (.int .u8 0)++bytes suf) true false 0]) (k:=0) (g:=gr) (len:=A.length) hB rfl (by simp[bytes,hsl];omega)
   simp only[v3x,hs,Option.bind_some]
   rw[show A.length - i=0 by omega,List.replicate_zero,List.nil_append,z8m fun c hc=>by have:=hsd c hc;omega]
   rfl
  simp only[go_sem,h5,hof]
  rw[z0a (q2g ⟨hsne,hsd⟩),hws]
  simp only[go_sem,]
  rw[z9s]
  exact hT _
theorem k8m {B clk r b:Nat} {D:List AObj} {o:AObj} {ts:Tmps} {ks:List Kf} {Q:Post} (hb:0 < b) (hr:r < 10 * b) (hl:(dec r).length≤10000100) (hlb:(dec b).length≤10000100) (h1:ts 1= .str (dec b)) (h7:ts 7= .str (dec r)) (h9:ts 9= .int .u8 48)
  (hQ:∀ (ts':Tmps) (clk':Nat),ts' 0=ts 0→ts' 1=ts 1→ts' 6=ts 6→ts' 8=ts 8→ts' 7= .str (dec (r % b))→ts' 9= .int .u8 ((48 + r / b:Nat):Int)→K Gam B (.exit 2) ks ⟨ts',D++[o],clk'⟩ Q):
  K Gam B (.loop x3h) ks ⟨ts,D++[o],clk⟩ Q:=by
 refine z1q (fun m q=>∃ (x d:Nat),m=x∧r=x + d * b∧d≤9∧(dec x).length≤10000100∧q.ts 0=ts 0∧q.ts 1=ts 1∧q.ts 6=ts 6∧q.ts 8=ts 8∧q.ts 7= .str (dec x)∧q.ts 9= .int .u8 ((48 + d:Nat):Int)∧q.h=D++[o]) r ⟨r,0,rfl,by omega,by omega,hl,rfl,rfl,rfl,rfl,h7,h9,rfl⟩ ?_
 rintro m ⟨ts2,h,clk⟩ P ⟨x,d,rfl,hx,hd,hlx,q0,q1,q6,q8,q7,q9,rfl⟩ hn he hret
 dsimp only at q0 q1 q6 q8 q7 q9
 rw[h1] at q1
 have hcmp:=w1d (a:=m) (b:=b)
 by_cases hlt:m < b
 ·rw[if_pos hlt] at hcmp
  simp only[go_sem,q1,q7,q9,x3h]
  rw[z0a hcmp]
  simp only[go_sem,Int.reduceLE,decide_false]
  refine he _ _ ?_
  have e1:r % b=m:=by rw[hx,Nat.add_mul_mod_self_right,Nat.mod_eq_of_lt hlt]
  have e2:r / b=d:=by rw[hx,Nat.add_mul_div_right _ _ hb,Nat.div_eq_of_lt hlt,Nat.zero_add]
  exact hQ _ _ (by simp[z0c,q0]) (by simp[z0c,q1,h1]) (by simp[z0c,q6]) (by simp[z0c,q8]) (by simp[z0c,q7,e1]) (by simp[z0c,q9,e2])
 ·have hge:∃ n:Int,(if m < b then -1 else if m=b then 0 else 1)=n∧0≤n:=by
   rw[if_neg hlt]
   split
   ·exact⟨0,rfl,by omega⟩
   ·exact⟨1,rfl,by omega⟩
  obtain⟨n,hn1,hn2⟩:=hge
  rw[hn1] at hcmp
  have e1:decide (0≤n)=true:=by rw[decide_eq_true_iff];exact hn2
  have hd9:d + 1≤9:=by
   have:d * b + b≤r:=by omega
   rcases Nat.lt_or_ge d 9 with h | h
   ·omega
   ·have:9 * b≤d * b:=Nat.mul_le_mul_right _ h
    omega
  have e2:IntKind.u8.wrap (((48 + d:Nat):Int) + 1)=((48 + (d + 1):Nat):Int):=by rw[IntWalk.u8_in _ (by omega)];omega
  simp only[go_sem,q1,q7,q9,x3h]
  rw[z0a hcmp]
  simp only[go_sem,e1,q1,q7]
  rw[z0a (w1e (by omega) hlx hlb)]
  simp only[go_sem,q9,e2]
  have hlx':(dec (m - b)).length≤10000100:=Classical.byContradiction fun h=>by
   have:=z7a (a:=m) (b:=m - b) (by omega)
   omega
  exact hn (m - b) _ (by omega) ⟨m - b,d + 1,rfl,by rw[Nat.add_mul,Nat.one_mul];omega,hd9,hlx',q0,by rw[h1];exact q1,q6,q8,rfl,rfl,rfl⟩
theorem q0j {A:List Nat} {i:Nat} (hi:i < A.length):z1v (A.take (i + 1))=10 * z1v (A.take i) + (A[i] - 48):=by
 rw[List.take_succ_eq_append_getElem hi,q0h]
theorem j4z {n i:Nat} {x:AV} {suf:List AV} (hl:suf.length=i) (hi:i < n):(suf++List.replicate (n - i) x)[i]? =some x:=by
 rw[List.getElem?_append_right (by omega),List.getElem?_replicate,if_pos (by omega)]
theorem k8n {n i:Nat} {x y:AV} {suf:List AV} (hl:suf.length=i) (hi:i < n):(suf++List.replicate (n - i) x).set i y=(suf++[y])++List.replicate (n - (i + 1)) x:=by
 obtain⟨m,hm⟩:∃ m,n - i=m + 1:=⟨n - i - 1,by omega⟩
 rw[hm,show n - (i + 1)=m by omega,List.replicate_succ,List.set_append_right _ _ (by omega),hl,Nat.sub_self,List.set_cons_zero,List.append_assoc]
 rfl
theorem j8j {s:List Nat} {c:Nat}:bytes s++[.int .u8 (c:Int)]=bytes (s++[c]):=by simp[bytes]
theorem q5m {s:List Nat}:(bytes s).length=s.length:=by simp[bytes]
theorem j1y {a b:Nat} (hb:0 < b) (hlen:(dec a).length≤10000000) (hlenb:(dec b).length≤10000000):Pure Gam 252 [.str (dec a), .str (dec b)] (.tup [.str (dec (a / b)), .str (dec (a % b))]):=by
 refine Pure.of rfl u3h rfl rfl rfl rfl rfl fun D B clk T hB hT=> ?_
 have hda:=z1u a
 have hna:dec a≠[]:=z8y a
 have hwa:=z2l a
 generalize hA:dec a=A at *
 simp only[go_sem,y1u,hB,x0j (z:= .int .u8 0) (n:=A.length) (b:=1) rfl (by omega)]
 refine z1q (fun m q=>∃ (i:Nat) (qs:List Nat) (gr:Nat),i≤A.length∧m=A.length - i∧qs.length=i∧(∀ c∈qs,48≤c∧c≤57)∧z1v qs=z1v (A.take i) / b∧
  q.ts 0= .str A∧q.ts 1= .str (dec b)∧q.ts 6= .ob (B + 0) gr 0 A.length∧q.ts 7= .str (dec (z1v (A.take i) % b))∧q.ts 8= .int .i64 (i:Int)∧q.h=D++[.blk gr (bytes qs++List.replicate (A.length - i) (.int .u8 0)) true false 0]) A.length ?_ ?_
 ·refine⟨0,[],_,by omega,rfl,rfl,by simp,by simp[z1v],rfl,rfl,rfl, ?_,rfl,by simp[bytes]⟩
  simp[z0c,z1v,q5k]
 rintro m ⟨ts,h,clk⟩ P ⟨i,qs,gr,hi,rfl,hql,hqd,hqw,h0,h1,h6,h7,h8,rfl⟩ hn he hr
 dsimp only at h0 h1 h6 h7 h8
 have hrb:z1v (A.take i) % b < b:=Nat.mod_lt _ hb
 by_cases hlt:i < A.length
 ·have e1:decide ((i:Int) < (A.length:Int))=true:=by rw[decide_eq_true_iff];omega
  have ei:IntKind.i64.wrap ((i:Int) + 1)=((i + 1:Nat):Int):=z0f (by omega) (by omega)
  have hc:=hda A[i] (List.getElem_mem hlt)
  have hsl:∀ h,slV h none (.str A) (some (.int .i64 (i:Int))) (some (.int .i64 ((i + 1:Nat):Int))) none=some (.str [A[i]],h):=fun h=>by
   have:((A.take (i + 1)).drop i)=[A[i]]:=by
    rw[List.take_succ_eq_append_getElem hlt,List.drop_append_of_le_length (by simp;omega)]
    simp
   have hle:i + 1≤A.length:=hlt
   simp only[slV,z3c,z5l,Int.natCast_nonneg,if_true,Int.toNat_natCast,hle,and_true,Nat.le_add_right,this,Option.map_some]
  generalize hR:z1v (A.take i) % b=R at *
  have hRl:(dec R).length≤10000000:=Classical.byContradiction fun h=>by
   have:=z7a (a:=b) (b:=R) (by omega)
   omega
  have hdig:q7q (dec R++[A[i]]):=⟨by simp,fun c hc'=>by
   rw[List.mem_append,List.mem_singleton] at hc'
   rcases hc' with h | rfl
   ·exact z1u R c h
   ·exact hc⟩
  have hwr:z1v (dec R++[A[i]])=10 * R + (A[i] - 48):=by rw[q0h,z2l]
  have hrl2:(dec (10 * R + (A[i] - 48))).length≤10000100:=by
   have h1:=z6l (z1u R)
   rw[z2l] at h1
   exact Nat.le_trans (z8z (k:=(dec R).length + 1) (by omega) (by rw[Nat.pow_succ];omega)) (by omega)
  simp only[go_sem,h0,h1,h6,h7,h8,j4q,e1,ei,hsl,q7n (a:=dec R) (b:=[A[i]]) (by simp;omega)]
  rw[z0a (q2g hdig),hwr]
  simp only[go_sem,]
  refine k8m hb (by omega) hrl2 (by omega) (by simp[z0c,h1]) rfl rfl ?_
  intro ts2 clk2 q0 q1 q6 q8 q7 q9
  simp only[z0c,z0,cond_true,cond_false,h0,h1,h6,h8] at q0 q1 q6 q8
  have hqd9:(10 * R + (A[i] - 48)) / b≤9:=by
   rw[Nat.div_le_iff_le_mul_add_pred hb];omega
  have hbl:(bytes qs).length=i:=by rw[q5m,hql]
  have hstore:∀ (x:Nat),z4y (D++[.blk gr (bytes qs++List.replicate (A.length - i) (.int .u8 0)) true false 0]) 1 (.int .u8 (x:Int)) (.ptr (B + 0) gr i 0)=some (.undef,D++[.blk gr (bytes (qs++[x])++List.replicate (A.length - (i + 1)) (.int .u8 0)) true false 0]):=fun x=>by
   have h:=q0i (K:= .u8) (n:=x) (K':= .u8) (m:=0) (D:=D) (B:=B) (g:=gr) (i:=i) (es:=bytes qs++List.replicate (A.length - i) (AV.int .u8 0)) (L:=[AObj.blk gr (bytes qs++List.replicate (A.length - i) (AV.int .u8 0)) true false 0]) (k:=0) (w:=false) hB rfl (j4z hbl hlt)
   rw[k8n hbl hlt,j8j] at h
   exact h
  have hidx:z1n (D++[.blk gr (bytes qs++List.replicate (A.length - i) (.int .u8 0)) true false 0]) 1 (.ob (B + 0) gr 0 A.length) (.int .i64 (i:Int))=some (.ptr (B + 0) gr i 0,D++[.blk gr (bytes qs++List.replicate (A.length - i) (.int .u8 0)) true false 0]):=
   q4f (L:=[.blk gr (bytes qs++List.replicate (A.length - i) (.int .u8 0)) true false 0]) (k:=0) hB rfl (j4z hbl hlt) rfl (by omega)
  simp only[go_sem,q0,q1,q6,q8,q7,q9,hidx,hstore,ei]
  have hWA:z1v (A.take i)=b * z1v qs + R:=by rw[hqw,←hR];exact (Nat.div_add_mod _ _).symm
  have e10:10 * z1v (A.take i) + (A[i] - 48)=(10 * R + (A[i] - 48)) + b * (10 * z1v qs):=by
   rw[hWA,Nat.mul_add,←Nat.mul_assoc,Nat.mul_comm 10 b,Nat.mul_assoc]
   omega
  refine hn (A.length - (i + 1)) _ (by omega) ⟨i + 1,qs++[48 + (10 * R + (A[i] - 48)) / b],gr,hlt,rfl,by simp[hql], ?_, ?_,by simp[z0c,q0],by simp[z0c,q1],by simp[z0c,q6], ?_,by simp[z0c],rfl⟩
  ·intro c hc'
   rw[List.mem_append,List.mem_singleton] at hc'
   rcases hc' with h | rfl
   ·exact hqd c h
   ·exact⟨Nat.le_add_right _ _,Nat.add_le_add_left hqd9 48⟩
  ·rw[q0h,q0j hlt,e10,Nat.add_mul_div_left _ _ hb,Nat.add_sub_cancel_left,Nat.add_comm]
  ·rw[q0j hlt,e10,Nat.add_mul_mod_self_left]
   simp[z0c,q7]
 ·have hiA:i=A.length:=by omega
  have e1:decide ((i:Int) < (A.length:Int))=false:=by rw[decide_eq_false_iff_not];omega
  rw[hiA,List.take_length,hwa] at hqw h7
  have hqne:qs≠[]:=fun h=>hna (List.length_eq_zero_iff.1 (by rw[←hiA,←hql,h];rfl))
  have hof:v3x (D++[.blk gr (bytes qs++List.replicate (A.length - i) (.int .u8 0)) true false 0]) (.ob (B + 0) gr 0 A.length)=some (.str qs,D++[.blk gr (bytes qs++List.replicate (A.length - i) (.int .u8 0)) true false 0]):=by
   have hs:=q1g (B:=B) (D:=D) (L:=[.blk gr (bytes qs++List.replicate (A.length - i) (.int .u8 0)) true false 0]) (k:=0) (g:=gr) (len:=A.length) hB rfl (by simp[bytes,hql];omega)
   simp only[v3x,hs,Option.bind_some]
   rw[show A.length - i=0 by omega,List.replicate_zero,List.append_nil,z8m fun c hc=>by have:=hqd c hc;omega]
   rfl
  simp only[go_sem,h0,h1,h6,h7,h8,j4q,e1]
  refine he _ _ ?_
  simp only[go_sem,h0,h1,h6,h7,h8,hof]
  rw[z0a (q2g ⟨hqne,hqd⟩),hqw]
  simp only[go_sem,h7]
  rw[z0j rfl rfl]
  exact hT _
theorem q0k {a b:Nat} (h:a≤b):(dec a).length≤(dec b).length:=Classical.byContradiction fun hc=>by
 have:=z7a (a:=b) (b:=a) (by omega)
 omega
theorem z4d {n:Nat}:decide (dec n=[48])=decide (n=0):=by rw[decide_eq_decide];exact q4c
theorem q6m {n:Nat}:decide (dec n=[49])=decide (n=1):=by rw[decide_eq_decide];exact x3g
theorem w1f {a b:Nat} (hlen:(dec a).length≤10000000) (hlenb:(dec b).length≤10000000):Pure Gam 251 [.str (dec a), .str (dec b)] (.str (dec (Nat.gcd a b))):=by
 refine Pure.of rfl u3f rfl rfl rfl rfl rfl fun D B clk T hB hT=> ?_
 simp only[go_sem,y1t]
 refine z1q (fun m q=>∃ x y:Nat,m=y∧Nat.gcd x y=Nat.gcd a b∧(dec x).length≤10000000∧(dec y).length≤10000000∧q.ts 0= .str (dec x)∧q.ts 1= .str (dec y)∧q.h=D++[]) b ⟨a,b,rfl,rfl,hlen,hlenb,rfl,rfl,rfl⟩ ?_
 rintro m ⟨ts,h,clk⟩ P ⟨x,y,rfl,hg,hlx,hly,h0,h1,rfl⟩ hn he hr
 dsimp only at h0 h1
 by_cases hy:m=0
 ·subst hy
  have e1:decide (dec 0=[48])=true:=by rw[z4d];rfl
  simp only[go_sem,h0,h1,j4p,e1,Bool.not_true]
  refine he _ _ ?_
  simp only[go_sem,h0]
  rw[z9s]
  rw[Nat.gcd_zero_right] at hg
  rw[hg]
  exact hT _
 ·have e1:decide (dec m=[48])=false:=by rw[z4d];simp[hy]
  have hpos:0 < m:=Nat.pos_of_ne_zero hy
  simp only[go_sem,h0,h1,j4p,e1,Bool.not_false]
  rw[z0a (j1y hpos hlx hly)]
  simp only[go_sem,h0,h1]
  have hlt:=Nat.mod_lt x hpos
  refine hn (x % m) _ hlt ⟨m,x % m,rfl, ?_,hly,Nat.le_trans (q0k (Nat.le_of_lt hlt)) hly,by simp[z0c,h1],rfl,rfl⟩
  rw[←hg,Nat.gcd_comm x m,Nat.gcd_rec m x,Nat.gcd_comm]
def x1s (neg:Bool) (n d:Nat):AV:= .agg [.bool neg, .str (dec n), .str (dec d)]
def z5c (neg:Bool) (n d:Nat):List Nat:=(if neg then [45] else [])++dec n++(if d=1 then [] else 47::dec d)
theorem x5h {neg:Bool} {a b:Nat} (hb:0 < b) (hlen:(dec a).length≤10000000) (hlenb:(dec b).length≤10000000):Pure Gam 216 [.bool neg, .str (dec a), .str (dec b)] (x1s (neg && !decide (a / Nat.gcd a b=0)) (a / Nat.gcd a b) (b / Nat.gcd a b)):=by
 refine Pure.of rfl u3d rfl rfl rfl rfl rfl fun D B clk T hB hT=> ?_
 have hg:0 < Nat.gcd a b:=Nat.gcd_pos_of_pos_right _ hb
 have hgl:(dec (Nat.gcd a b)).length≤10000000:=Nat.le_trans (q0k (Nat.le_of_dvd hb (Nat.gcd_dvd_right a b))) hlenb
 simp only[go_sem,y1s,hB]
 rw[z0a (w1f hlen hlenb)]
 simp only[go_sem,]
 rw[z0a (j1y hg hlen hgl)]
 simp only[go_sem,]
 rw[z0a (j1y hg hlenb hgl)]
 cases neg
 ·simp only[go_sem,hB]
  rw[z2q rfl rfl]
  exact hT _
 ·simp only[go_sem,hB,z4d]
  rw[z2q rfl rfl]
  exact hT _
theorem x5i {neg:Bool} {n d:Nat} (hlen:(dec n).length≤10000000) (hlend:(dec d).length≤10000000):Pure Gam 217 [x1s neg n d] (.str (z5c neg n d)):=by
 refine Pure.of rfl u3e rfl rfl rfl rfl rfl fun D B clk T hB hT=> ?_
 have e1:∀ h,z6w h .add (.one .str) (.str [45]) (.str (dec n))=some (.str (45::dec n),h):=fun h=>q7n (by simp;omega)
 have e2:∀ h,z6w h .add (.one .str) (.str [47]) (.str (dec d))=some (.str (47::dec d),h):=fun h=>q7n (by simp;omega)
 have e3:∀ h,z6w h .add (.one .str) (.str (dec n)) (.str (47::dec d))=some (.str (dec n++47::dec d),h):=fun h=>q7n (by simp;omega)
 have e4:∀ h,z6w h .add (.one .str) (.str (45::dec n)) (.str (47::dec d))=some (.str (45::dec n++47::dec d),h):=fun h=>q7n (by simp;omega)
 unfold z5c at hT
 by_cases h1:d=1
 ·have ed:decide (dec d=[49])=true:=by rw[q6m];simp[h1]
  rw[if_pos h1] at hT
  cases neg
  all_goals
   simp only[go_sem,w0s,hB,x1s,e1,e2,e3,e4,ed,Bool.not_true]
   rw[z9s]
   have:=hT
   simp only[Bool.false_eq_true,if_false,if_true,List.nil_append,List.append_nil,List.cons_append] at this
   exact this _
 ·have ed:decide (dec d=[49])=false:=by rw[q6m];simp[h1]
  rw[if_neg h1] at hT
  cases neg
  all_goals
   simp only[go_sem,w0s,hB,x1s,e1,e2,e3,e4,ed,Bool.not_false]
   rw[z9s]
   have:=hT
   simp only[Bool.false_eq_true,if_false,if_true,List.nil_append,List.append_nil,List.cons_append] at this
   exact this _
def x3m (l:List Nat):Nat:=l.foldl (fun a x=>10 * a + x) 0
theorem w1g:∀ (l:List Nat) (a:Nat),l.foldl (fun a x=>10 * a + x) a=a * 10 ^ l.length + x3m l:=by
 intro l
 induction l with
 | nil=>intro a;simp[x3m]
 | cons x l ih=>
   intro a
   have h1:x3m (x::l)=x * 10 ^ l.length + x3m l:=by
    show List.foldl _ _ l=_
    rw[ih]
    simp
   simp only[List.foldl_cons,List.length_cons]
   rw[ih,h1,Nat.pow_succ,Nat.add_mul]
   rw[show 10 * a * 10 ^ l.length=a * (10 ^ l.length * 10) by rw[Nat.mul_comm 10 a,Nat.mul_assoc,Nat.mul_comm 10]]
   omega
theorem q5n {x:Nat} {l:List Nat}:x3m (x::l)=x * 10 ^ l.length + x3m l:=by
 show List.foldl _ _ l=_
 rw[w1g]
 simp
theorem k3b {n:Nat}:x3m (List.replicate n 0)=0:=by
 induction n with
 | zero=>rfl
 | succ n ih=>rw[List.replicate_succ,q5n,ih];simp
theorem j5a:∀ {l:List Nat} {k y:Nat} (h:k < l.length),x3m (l.set k (l[k] + y))=x3m l + y * 10 ^ (l.length - 1 - k)
 | x::l,0,y,_=>by
   simp only[List.set_cons_zero,List.getElem_cons_zero,q5n,List.length_cons,Nat.add_sub_cancel,Nat.sub_zero,Nat.add_mul]
   omega
 | x::l,k + 1,y,h=>by
   have h':k < l.length:=by simpa using h
   have ih:=j5a (y:=y) h'
   simp only[List.set_cons_succ,List.getElem_cons_succ,q5n,List.length_set,List.length_cons,ih]
   rw[show l.length + 1 - 1 - (k + 1)=l.length - 1 - k by omega]
   omega
theorem k3c {l:List Nat} {k:Nat} (h:k < l.length):x3m (l.drop k)=l[k] * 10 ^ (l.length - 1 - k) + x3m (l.drop (k + 1)):=by
 rw[List.drop_eq_getElem_cons h,q5n,List.length_drop]
 rw[show l.length - (k + 1)=l.length - 1 - k by omega]
theorem k8o {l:List Nat} {k x:Nat}:(l.map nat).set k (nat x)=(l.set k x).map nat:=List.map_set.symm
theorem q5o {l:List Nat} {k:Nat} (h:k < l.length):(l.map nat)[k]? =some (.int .i64 (l[k]:Int)):=by simp[h,nat]
theorem k8p {B clk n:Nat} {D:List AObj} {out:List Nat} {g1 g2:Nat} {ts:Tmps} {ks:List Kf} {Q:Post} (hB:D.length=B) (hl:out.length=n) (hn1:1≤n) (hn2:n≤10000000) (hb:∀ x∈out,x≤10 ^ 17) (htot:x3m out < 10 ^ n)
  (h5:ts 5= .ob (B + 0) g1 0 n) (h8:ts 8= .ob (B + 1) g2 0 n) (h9:ts 9= .int .i64 0) (h10:ts 10= .int .i64 ((n:Int) - 1))
  (hQ:∀ (suf:List Nat) (ts':Tmps) (clk':Nat),suf.length=n→q7q suf→z1v suf=x3m out→ts' 8= .ob (B + 1) g2 0 n→K Gam B (.exit 4) ks ⟨ts',D++[.blk g1 (out.map nat) true false 0, .blk g2 (bytes suf) true false 0],clk'⟩ Q):
  K Gam B (.loop x0g) ks ⟨ts,D++[.blk g1 (out.map nat) true false 0, .blk g2 (List.replicate n (.int .u8 0)) true false 0],clk⟩ Q:=by
 refine z1q (fun m q=>∃ (i c:Nat) (suf:List Nat),i≤n∧m=n - i∧suf.length=i∧(∀ c∈suf,48≤c∧c≤57)∧c≤10 ^ 17∧z1v suf + c * 10 ^ i=x3m (out.drop (n - i))∧q.ts 5= .ob (B + 0) g1 0 n∧q.ts 8= .ob (B + 1) g2 0 n∧q.ts 9= .int .i64 (c:Int)∧q.ts 10= .int .i64 ((n:Int) - i - 1)∧
  q.h=D++[.blk g1 (out.map nat) true false 0, .blk g2 (List.replicate (n - i) (.int .u8 0)++bytes suf) true false 0]) n ?_ ?_
 ·refine⟨0,0,[],by omega,rfl,rfl,by simp,by omega, ?_,h5,h8,h9,by simpa using h10,by simp[bytes]⟩
  rw[Nat.sub_zero,←hl,List.drop_length]
  simp[z1v,x3m]
 rintro m ⟨ts,h,clk⟩ P ⟨i,c,suf,hi,rfl,hsl,hsd,hc,hw,h5,h8,h9,h10,rfl⟩ hn he hr
 dsimp only at h5 h8 h9 h10
 by_cases hlt:i < n
 ·have hk:n - 1 - i < out.length:=by omega
  have e0:(n:Int) - i - 1=((n - 1 - i:Nat):Int):=by omega
  rw[e0] at h10
  have e1:decide ((0:Int)≤((n - 1 - i:Nat):Int))=true:=by rw[decide_eq_true_iff];omega
  have hx:=hb _ (List.getElem_mem hk)
  have hdr:=k3c hk
  generalize hxx:out[n - 1 - i]=x at hx hdr
  have hidx1:∀ es,z1n (D++[.blk g1 (out.map nat) true false 0, .blk g2 es true false 0]) 1 (.ob (B + 0) g1 0 n) (.int .i64 ((n - 1 - i:Nat):Int))=some (.ptr (B + 0) g1 (n - 1 - i) 0,D++[.blk g1 (out.map nat) true false 0, .blk g2 es true false 0]):=fun es=>
   q4f (L:=[.blk g1 (out.map nat) true false 0, .blk g2 es true false 0]) (k:=0) hB rfl (q5o hk) rfl (by omega)
  have hgetn:(out.map nat)[n - 1 - i]? =some (.int .i64 (x:Int)):=by rw[q5o hk,hxx]
  have hidx2:z1n (D++[.blk g1 (out.map nat) true false 0, .blk g2 (List.replicate (n - i) (.int .u8 0)++bytes suf) true false 0]) 1 (.ob (B + 1) g2 0 n) (.int .i64 ((n - 1 - i:Nat):Int))=some (.ptr (B + 1) g2 (n - 1 - i) 0,D++[.blk g1 (out.map nat) true false 0, .blk g2 (List.replicate (n - i) (.int .u8 0)++bytes suf) true false 0]):=
   q4f (L:=[.blk g1 (out.map nat) true false 0, .blk g2 (List.replicate (n - i) (.int .u8 0)++bytes suf) true false 0]) (k:=1) hB rfl (q6l hlt) rfl (by omega)
  have hstore:∀ (y:Nat),z4y (D++[.blk g1 (out.map nat) true false 0, .blk g2 (List.replicate (n - i) (.int .u8 0)++bytes suf) true false 0]) 1 (.int .u8 (y:Int)) (.ptr (B + 1) g2 (n - 1 - i) 0)=some (.undef,D++[.blk g1 (out.map nat) true false 0, .blk g2 (List.replicate (n - (i + 1)) (.int .u8 0)++bytes (y::suf)) true false 0]):=fun y=>by
   have h:=q0i (K:= .u8) (n:=y) (K':= .u8) (m:=0) (D:=D) (B:=B) (g:=g2) (i:=n - 1 - i) (es:=List.replicate (n - i) (AV.int .u8 0)++bytes suf) (L:=[AObj.blk g1 (out.map nat) true false 0,AObj.blk g2 (List.replicate (n - i) (AV.int .u8 0)++bytes suf) true false 0]) (k:=1) (w:=false) hB rfl (q6l hlt)
   rw[j1x hlt] at h
   exact h
  have e2:IntKind.i64.wrap ((x:Int) + (c:Int))=((x + c:Nat):Int):=by rw[z0f (by omega) (by omega)];omega
  have e3:(((x + c:Nat):Int)).tmod 10=(((x + c) % 10:Nat):Int):=by
   rw[Int.tmod_eq_emod_of_nonneg (by omega)];omega
  have e4:IntKind.i64.wrap ((((x + c:Nat):Int)).tdiv 10)=(((x + c) / 10:Nat):Int):=by
   rw[IntWalk.i64_quo _ _ ⟨by omega,by omega,by omega⟩];omega
  have e5:IntKind.u8.wrap (IntKind.i64.wrap (48 + (((x + c) % 10:Nat):Int)))=((48 + (x + c) % 10:Nat):Int):=by rw[z0f (by omega) (by omega),IntWalk.u8_in _ (by omega)];omega
  have e6:IntKind.i64.wrap (((n - 1 - i:Nat):Int) - 1)=(n:Int) - ((i + 1:Nat):Int) - 1:=by rw[z0f (by omega) (by omega)];omega
  simp only[go_sem,h5,h8,h9,h10,hB,x0g,e1,hidx1,hgetn,e2,q7m (b:=10) (by decide),x3d (b:=10) (by decide),e3,e4,e5,e6,hidx2,hstore]
  refine hn (n - (i + 1)) _ (by omega) ⟨i + 1,(x + c) / 10,(48 + (x + c) % 10)::suf,hlt,rfl,by simp[hsl], ?_,by omega, ?_,by simp[z0c,h5],by simp[z0c,h8],by simp[z0c],by simp[z0c],rfl⟩
  ·intro c' hc'
   rw[List.mem_cons] at hc'
   rcases hc' with rfl | hc'
   ·omega
   ·exact hsd c' hc'
  ·rw[show n - (i + 1)=n - 1 - i by omega,hdr,show n - 1 - i + 1=n - i by omega,←hw,z5i,hsl,hl,show n - 1 - (n - 1 - i)=i by omega,Nat.add_sub_cancel_left,Nat.pow_succ]
   have hdm:=Nat.div_add_mod (x + c) 10
   have:=congrArg (· * 10 ^ i) hdm
   simp only[Nat.add_mul] at this
   rw[Nat.mul_comm (10 ^ i) 10,←Nat.mul_assoc,Nat.mul_comm _ 10]
   omega
 ·have hin:i=n:=by omega
  have e1:decide ((0:Int)≤(n:Int) - i - 1)=false:=by rw[decide_eq_false_iff_not];omega
  rw[hin,Nat.sub_self,List.drop_zero] at hw
  have hc0:c=0:=Classical.byContradiction fun h=>by
   have:1 * 10 ^ n≤c * 10 ^ n:=Nat.mul_le_mul_right _ (by omega)
   omega
  subst hc0
  simp only[go_sem,h5,h8,h9,h10,x0g,e1]
  refine he _ _ ?_
  have hh:List.replicate (n - i) (AV.int .u8 0)++bytes suf=bytes suf:=by rw[show n - i=0 by omega];rfl
  rw[hh]
  exact hQ suf _ _ (by omega) ⟨fun h=>by rw[h] at hsl;simp at hsl;omega,hsd⟩ (by omega) (by simp[z0c,h8])
theorem x9f {C:List Nat} {j:Nat} (hj:j < C.length):z1v (C.take (j + 1)) * 10 ^ (C.length - (j + 1))=z1v (C.take j) * 10 ^ (C.length - j) + (C[j] - 48) * 10 ^ (C.length - (j + 1)):=by
 rw[q0j hj,show C.length - j=(C.length - (j + 1)) + 1 by omega,Nat.pow_succ,Nat.add_mul]
 rw[Nat.mul_comm 10,Nat.mul_assoc,Nat.mul_comm 10]
theorem k8q {B clk i n:Nat} {D:List AObj} {out A C:List Nat} {g1:Nat} {o2:AObj} {ts:Tmps} {ks:List Kf} {Q:Post} (hB:D.length=B) (hl:out.length=n) (hn:n=A.length + C.length) (hA:A.length≤4000000) (hC:C.length≤4000000) (hi:i < A.length) (hda:∀ c∈A,48≤c∧c≤57) (hdc:∀ c∈C,48≤c∧c≤57) (hb:∀ x∈out,x≤100 * (4000000 * i))
  (h0:ts 0= .str A) (h1:ts 1= .str C) (h5:ts 5= .ob (B + 0) g1 0 n) (h6:ts 6= .int .i64 (i:Int)) (h7:ts 7= .int .i64 0)
  (hQ:∀ (out':List Nat) (ts':Tmps) (clk':Nat),out'.length=n→(∀ x∈out',x≤100 * (4000000 * (i + 1)))→x3m out'=x3m out + (A[i] - 48) * 10 ^ (A.length - (i + 1)) * z1v C→ts' 0= .str A→ts' 1= .str C→ts' 5= .ob (B + 0) g1 0 n→ts' 6= .int .i64 (i:Int)→K Gam B (.exit 2) ks ⟨ts',D++[.blk g1 (out'.map nat) true false 0,o2],clk'⟩ Q):
  K Gam B (.loop x3i) ks ⟨ts,D++[.blk g1 (out.map nat) true false 0,o2],clk⟩ Q:=by
 refine z1q (fun m q=>∃ (j:Nat) (out':List Nat),j≤C.length∧m=C.length - j∧out'.length=n∧(∀ x∈out',x≤100 * (4000000 * i + j))∧x3m out'=x3m out + (A[i] - 48) * 10 ^ (A.length - (i + 1)) * (z1v (C.take j) * 10 ^ (C.length - j))∧q.ts 0= .str A∧q.ts 1= .str C∧q.ts 5= .ob (B + 0) g1 0 n∧q.ts 6= .int .i64 (i:Int)∧q.ts 7= .int .i64 (j:Int)∧q.h=D++[.blk g1 (out'.map nat) true false 0,o2]) C.length ⟨0,out,by omega,rfl,hl,by simpa using hb,by simp[z1v],h0,h1,h5,h6,h7,rfl⟩ ?_
 clear h0 h1 h5 h6 h7
 rintro m ⟨ts,h,clk⟩ P ⟨j,out',hj,rfl,hl',hb',hw,h0,h1,h5,h6,h7,rfl⟩ hnx he hr
 dsimp only at h0 h1 h5 h6 h7
 by_cases hlt:j < C.length
 ·have e1:decide ((j:Int) < (C.length:Int))=true:=by rw[decide_eq_true_iff];omega
  have ek:IntKind.i64.wrap (IntKind.i64.wrap ((i:Int) + (j:Int)) + 1)=((i + j + 1:Nat):Int):=by rw[z0f (n:=(i:Int) + (j:Int)) (by omega) (by omega),z0f (by omega) (by omega)];omega
  have hk:i + j + 1 < out'.length:=by omega
  have hca:=hda _ (List.getElem_mem hi)
  have hcc:=hdc _ (List.getElem_mem hlt)
  have hx:=hb' _ (List.getElem_mem hk)
  have ea:=q3e hca
  have ec:=q3e hcc
  have ea2:IntKind.i64.wrap ((A[i] - 48:Nat):Int)=((A[i] - 48:Nat):Int):=z0f (by omega) (by omega)
  have ec2:IntKind.i64.wrap ((C[j] - 48:Nat):Int)=((C[j] - 48:Nat):Int):=z0f (by omega) (by omega)
  have hprod:(A[i] - 48) * (C[j] - 48)≤81:=Nat.mul_le_mul (by omega:A[i] - 48≤9) (by omega:C[j] - 48≤9)
  have em:IntKind.i64.wrap (((A[i] - 48:Nat):Int) * ((C[j] - 48:Nat):Int))=(((A[i] - 48) * (C[j] - 48):Nat):Int):=by
   rw[←Int.natCast_mul]
   exact z0f (by omega) (by omega)
  have es:IntKind.i64.wrap ((out'[i + j + 1]:Int) + (((A[i] - 48) * (C[j] - 48):Nat):Int))=((out'[i + j + 1] + (A[i] - 48) * (C[j] - 48):Nat):Int):=by rw[z0f (by omega) (by omega)];omega
  have ej:IntKind.i64.wrap ((j:Int) + 1)=((j + 1:Nat):Int):=z0f (by omega) (by omega)
  have hidx:z1n (D++[.blk g1 (out'.map nat) true false 0,o2]) 1 (.ob (B + 0) g1 0 n) (.int .i64 ((i + j + 1:Nat):Int))=some (.ptr (B + 0) g1 (i + j + 1) 0,D++[.blk g1 (out'.map nat) true false 0,o2]):=
   q4f (L:=[.blk g1 (out'.map nat) true false 0,o2]) (k:=0) hB rfl (q5o hk) rfl (by omega)
  have hstore:∀ y:Nat,z4y (D++[.blk g1 (out'.map nat) true false 0,o2]) 1 (.int .i64 (y:Int)) (.ptr (B + 0) g1 (i + j + 1) 0)=some (.undef,D++[.blk g1 ((out'.set (i + j + 1) y).map nat) true false 0,o2]):=fun y=>by
   have h:=q0i (K:= .i64) (n:=y) (K':= .i64) (m:=(out'[i + j + 1]:Int)) (D:=D) (B:=B) (g:=g1) (i:=i + j + 1) (es:=out'.map nat) (L:=[AObj.blk g1 (out'.map nat) true false 0,o2]) (k:=0) (w:=false) hB rfl (q5o hk)
   rw[show (AV.int .i64 (y:Int))=nat y from rfl,k8o] at h
   exact h
  simp only[go_sem,h0,h1,h5,h6,h7,hB,x3i,e1,ek,hidx,q5o hk,q2f hi,q2f hlt,ea,ec,ea2,ec2,em,es,hstore,ej]
  refine hnx (C.length - (j + 1)) _ (by omega) ⟨j + 1,out'.set (i + j + 1) (out'[i + j + 1] + (A[i] - 48) * (C[j] - 48)),hlt,rfl,by simp[hl'], ?_, ?_,h0,h1,h5,h6,rfl,rfl⟩
  ·intro x hx'
   rcases List.mem_or_eq_of_mem_set hx' with h | rfl
   ·have:=hb' x h
    omega
   ·omega
  ·rw[j5a hk,hw,x9f hlt,Nat.mul_add,hl',show n - 1 - (i + j + 1)=(A.length - (i + 1)) + (C.length - (j + 1)) by omega,Nat.pow_add]
   have:(A[i] - 48) * (C[j] - 48) * (10 ^ (A.length - (i + 1)) * 10 ^ (C.length - (j + 1)))=(A[i] - 48) * 10 ^ (A.length - (i + 1)) * ((C[j] - 48) * 10 ^ (C.length - (j + 1))):=by
    simp only[Nat.mul_assoc,Nat.mul_left_comm]
   omega
 ·have hjC:j=C.length:=by omega
  have e1:decide ((j:Int) < (C.length:Int))=false:=by rw[decide_eq_false_iff_not];omega
  simp only[go_sem,h0,h1,h5,h6,h7,x3i,e1]
  refine he _ _ ?_
  refine hQ out' _ _ hl' (fun x hx=>by have:=hb' x hx;omega) ?_ (by simp[z0c,h0]) (by simp[z0c,h1]) (by simp[z0c,h5]) (by simp[z0c,h6])
  rw[hw,hjC,List.take_length,Nat.sub_self,Nat.pow_zero,Nat.mul_one]
end Go.Proofs.YtdfepmffiampgaaGreatDoor.Am
