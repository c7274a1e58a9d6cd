/- Walking: calls that look at objects and change none Functions of the abstract machine's program Walking: slices Walking: nodes are permitted, and have their sorts Walking: nodes are permitted, and hav -/
import Derived.Test.YtahdahokpjigiaaGreatDoorM27
open Nat renaming reduceBEq → z0,reduceAdd → z1,reduceLeDiff → z2,reduceSub → z3
set_option linter.all false
namespace Go.Proofs.YtahdahokpjigiaaGreatDoor.Am
open Go
set_option maxRecDepth 100000
def Has (S:List (Nat×AObj)) (h:List AObj):Prop:=∀ p∈S,h[p.1]? =some p.2
theorem Has.lt {S:List (Nat×AObj)} {h:List AObj} (hS:Has S h):∀ p∈S,p.1 < h.length:=fun p hp=>by
 have:=hS p hp
 rw[List.getElem?_eq_some_iff] at this
 exact this.1
theorem Has.app {S:List (Nat×AObj)} {D L:List AObj} (hS:Has S D):Has S (D++L):=fun p hp=>by
 rw[List.getElem?_append_left (hS.lt p hp)]
 exact hS p hp
theorem Has.nil {h:List AObj}:Has [] h:=fun p hp=>by simp at hp
theorem Has.cons {p:Nat×AObj} {S:List (Nat×AObj)} {h:List AObj} (h1:h[p.1]? =some p.2) (h2:Has S h):Has (p::S) h:=fun q hq=>by
 rw[List.mem_cons] at hq
 rcases hq with rfl | hq
 ·exact h1
 ·exact h2 q hq
theorem z6x {h:List AObj}:∀ {n:Nat} {seen z9g:List Nat} {s:Nat},s∈seen∨s∈z9g→s∈reach h n seen z9g
 | 0,seen,z9g,s,hs=>by
   simp only[reach,List.mem_append]
   exact hs
 | n + 1,seen,[],s,hs=>by
   simp only[reach]
   simpa using hs
 | n + 1,seen,t::z9g,s,hs=>by
   simp only[reach]
   split
   ·rename_i hc
    refine z6x ?_
    rcases hs with hs | hs
    ·exact .inl hs
    ·rw[List.mem_cons] at hs
     rcases hs with rfl | hs
     ·exact .inl (by simpa using hc)
     ·exact .inr hs
   ·refine z6x ?_
    rcases hs with hs | hs
    ·exact .inl (List.mem_cons_of_mem _ hs)
    ·rw[List.mem_cons] at hs
     rcases hs with rfl | hs
     ·exact .inl List.mem_cons_self
     ·exact .inr (List.mem_append_right _ hs)
theorem q0m {h:List AObj} {n s:Nat} {seen z9g:List Nat} {o:AObj} (hns:s∉seen) (ho:h[s]? =some o):reach h (n + 1) seen (s::z9g)=reach h n (s::seen) (o.ids++z9g):=by
 simp[reach,hns,ho]
theorem q9v {h:List AObj} {S:List (Nat×AObj)} (hS:Has S h) (hc:∀ p∈S,∀ i∈p.2.ids,i∈S.map (·.1)):∀ {n:Nat} {seen z9g:List Nat},(∀ i∈seen,i∈S.map (·.1))→(∀ i∈z9g,i∈S.map (·.1))→∀ i∈reach h n seen z9g,i∈S.map (·.1)
 | 0,seen,z9g,h1,h2,i,hi=>by
   simp only[reach,List.mem_append] at hi
   exact hi.elim (h1 i) (h2 i)
 | n + 1,seen,[],h1,h2,i,hi=>by
   simp only[reach] at hi
   exact h1 i hi
 | n + 1,seen,t::z9g,h1,h2,i,hi=>by
   simp only[reach] at hi
   split at hi
   ·exact q9v hS hc h1 (fun j hj=>h2 j (List.mem_cons_of_mem _ hj)) i hi
   ·have ht:=h2 t List.mem_cons_self
    obtain⟨p,hp,rfl⟩:=List.mem_map.1 ht
    rw[hS p hp] at hi
    refine q9v hS hc (fun j hj=> ?_) (fun j hj=> ?_) i hi
    ·rw[List.mem_cons] at hj
     rcases hj with rfl | hj
     ·exact ht
     ·exact h1 j hj
    ·simp only[Option.map_some,Option.getD_some,List.mem_append] at hj
     rcases hj with hj | hj
     ·exact hc p hp j hj
     ·exact h2 j (List.mem_cons_of_mem _ hj)
structure Cov (S:List (Nat×AObj)) (ids:List Nat):Prop where
 root:∀ i∈ids,i∈S.map (·.1)
 closed:∀ p∈S,∀ i∈p.2.ids,i∈S.map (·.1)
 cover:∀ h,Has S h→∀ p∈S,p.1∈reach h (h.length + 1) [] ids
theorem Cov.one {s:Nat} {o:AObj} (ho:o.ids=[]):Cov [(s,o)] [s]:=by
 refine⟨by simp,by simp[ho],fun h hS p hp=> ?_⟩
 simp at hp
 subst hp
 exact z6x (.inr List.mem_cons_self)
theorem Cov.two {s t:Nat} {o q:AObj} (ho:o.ids=[t]) (hq:q.ids=[]):Cov [(s,o),(t,q)] [s]:=by
 refine⟨by simp,by simp[ho,hq],fun h hS p hp=> ?_⟩
 have h1:h[s]? =some o:=hS (s,o) (by simp)
 have hr:reach h (h.length + 1) [] [s]=reach h h.length [s] [t]:=by rw[q0m (by simp) h1,ho];rfl
 rw[hr]
 simp at hp
 rcases hp with rfl | rfl
 ·exact z6x (.inl List.mem_cons_self)
 ·exact z6x (.inr List.mem_cons_self)
def Reads (S:List (Nat×AObj)) (f:Nat) (args:List AV) (v:AV):Prop:=
 ∀ h clk,Has S h→(∃ k,z5b Gam k f args h clk=some (v,h,clk))∧∀ x∈z0v Gam f args h,x∈S.map (·.1)
theorem x2w {T:List Nat}:∀ {h h':List AObj} {k:Nat},(∀ i,i < h.length→T.contains (k + i)=true→h'[i]? =h[i]?)→z0r T k h h'=h
 | [],[],_,_=>rfl
 | [],_::_,_,_=>rfl
 | o::h,[],_,_=>rfl
 | o::h,o'::h',k,hh=>by
   have h0:T.contains k=true→o'=o:=fun hc=>by simpa using hh 0 (by simp) hc
   have h1:=x2w (T:=T) (h:=h) (h':=h') (k:=k + 1) fun i hi hc=>by
    have:=hh (i + 1) (by simpa using hi) (by rw[show k + (i + 1)=k + 1 + i by omega];exact hc)
    simpa using this
   simp only[z0r,h1]
   split
   ·rename_i hc
    rw[h0 hc]
   ·rfl
theorem Reads.of {S:List (Nat×AObj)} {f:Nat} {args az:List AV} {v:AV} {af:AFun} (hext:Gam.ext f=none) (hfn:Gam.fn f=some af) (hb:af.byref=[]) (ho:af.owned=false) (hobs:z4k args=[]) (has:cvL args=az) (hC:Cov S (idsL az))
  (hw:∀ (D:List AObj) (B clk:Nat) (R:AV→List AObj→Prop),D.length=B→Has S D→(∀ p∈S,p.1 < B)→(∀ h',Has S h'→R v h')→K Gam B af.body [] ⟨q0b az,D++List.replicate af.nslots .dead,clk⟩ (j8w (S.map (·.1)) af.results R)):Reads S f args v:=by
 intro h clk hS
 have hp:z1n h af.byref 0 args=some az:=by rw[hb,z1j hobs,has]
 have hl:z0s af.byref 0 args=[]:=by rw[hb];exact z4n hobs
 have hTS:∀ i∈reach h (h.length + 1) [] (idsL az),i∈S.map (·.1):=q9v hS hC.closed (by simp) hC.root
 refine⟨?_, ?_⟩
 ·have hmask:Has S (maskFrom (reach h (h.length + 1) [] (idsL az)) 0 h):=fun p hp'=>by
   rw[x6y (by rw[Nat.zero_add,List.contains_eq_mem];exact decide_eq_true (hC.cover h hS p hp'))]
   exact hS p hp'
  obtain⟨k,e,s1,he,hend⟩:=hw (maskFrom (reach h (h.length + 1) [] (idsL az)) 0 h) _ clk (fun v' h'=>v'=v∧Has S h') rfl hmask (fun p hp'=>by rw[z4g];exact hS.lt p hp') (fun h' hh=>⟨rfl,hh⟩)
  obtain⟨hne,vs,v',hr,hc,hv,hno,rfl,hS'⟩:=x3x hend
  rw[z4g] at he
  refine⟨k, ?_⟩
  have hfz:∀ p∈S,(freezeAll s1.h (z1k vs).obs)[p.1]? =some p.2:=fun p hp'=>by
   rw[q5w]
   ·exact hS' p hp'
   ·rw[List.all_eq_true]
    intro q hq
    have:=hno
    simp only[x7a,List.all_eq_true] at this
    have hq':=this q hq
    simp only[Bool.not_eq_true',List.contains_eq_mem,decide_eq_false_iff_not,List.mem_map] at hq'
    simp only[Bool.not_eq_true',List.contains_eq_mem,decide_eq_false_iff_not,List.mem_singleton]
    exact fun hqp=>hq' ⟨p,hp',hqp.symm⟩
  have hm:z0r (reach h (h.length + 1) [] (idsL az)) 0 h (freezeAll s1.h (z1k vs).obs)=h:=by
   refine x2w fun i hi hc'=> ?_
   rw[Nat.zero_add,List.contains_eq_mem,decide_eq_true_iff] at hc'
   obtain⟨p,hp',rfl⟩:=List.mem_map.1 (hTS i hc')
   rw[hfz p hp',hS p hp']
  have hall:((v'.ids++(List.map (fun i=>(Option.map AObj.ids (freezeAll s1.h (z1k vs).obs)[i]?).getD []) (reach h (h.length + 1) [] (idsL az))).flatten).all fun x=>decide (x < h.length))=true:=by
   rw[hv,List.nil_append,List.all_eq_true]
   intro x hx
   rw[List.mem_flatten] at hx
   obtain⟨l,hl',hxl⟩:=hx
   obtain⟨i,hi,rfl⟩:=List.mem_map.1 hl'
   obtain⟨p,hp',rfl⟩:=List.mem_map.1 (hTS i hi)
   rw[hfz p hp'] at hxl
   simp only[Option.map_some,Option.getD_some] at hxl
   obtain⟨q,hq,rfl⟩:=List.mem_map.1 (hC.closed p hp' x hxl)
   exact decide_eq_true (hS.lt q hq)
  unfold z5b z0k
  simp only[hext,hfn,hp,hl,freezeAll,he,ho,Bool.false_eq_true,if_false,hr,hc,ite_self,hm]
  cases e with
  | exit i=>exact absurd rfl (hne i)
  | norm=>simp only[hall,if_true]
  | ret=>simp only[hall,if_true]
 ·intro x hx
  unfold z0v at hx
  simp only[hext,hfn,hp,hobs,List.map_nil,List.nil_append] at hx
  exact hTS x hx
theorem z0w {f base gg clk:Nat} {args:List AV} {S:List (Nat×AObj)} {h:List AObj} {v:AV} {dst:Option Nat} {os:List AOper} {ts:Tmps} {ks:List Kf} {Q:Post} (hr:Reads S f args v) (hh:Has S h):
  CK Gam base f args h clk .plain dst gg os ts ks Q=O Gam base .plain (gg + 1) os ⟨z9f ts dst v,h,clk⟩ ks Q:=by
 obtain⟨⟨k,hk⟩,_⟩:=hr h clk hh
 unfold CK
 apply propext
 constructor
 ·rintro ⟨k',v',h',c,hc,hq⟩
  have:=q8x hk hc
  simp only[Prod.mk.injEq] at this
  obtain⟨rfl,rfl,rfl⟩:=this
  exact hq
 ·intro hq
  exact⟨k,_,_,_,hk,hq⟩
theorem Pure.reads {S:List (Nat×AObj)} {f:Nat} {args:List AV} {v:AV} (hp:Pure Gam f args v):Reads S f args v:=fun h clk _=>⟨(hp h clk).1,by rw[(hp h clk).2];simp⟩
section
open Sh
set_option maxHeartbeats 0
noncomputable def q24:AFun:=(fun (a:AFun) (_:Gam.fn 16=some a)=>a) _ (by conv=>lhs;reduce;simp only[Int.reduceOfNat,Int.reduceNegSucc])
noncomputable def j6s:ACode:=(fun (a:ACode) (_:fl [] (lp q24 1)=a)=>a) _ (by conv=>lhs;reduce;simp only[Int.reduceOfNat,Int.reduceNegSucc])
attribute [local irreducible] j6s
noncomputable def j6t:ACode:=(fun (a:ACode) (_:fl [j6s] (lp q24 0)=a)=>a) _ (by conv=>lhs;reduce;simp only[Int.reduceOfNat,Int.reduceNegSucc])
attribute [local irreducible] j6t
noncomputable def y7t:AFun:=(fun (a:AFun) (_:flF [j6t,j6s] q24=a)=>a) _ (by conv=>lhs;reduce;simp only[Int.reduceOfNat,Int.reduceNegSucc])
theorem u1u:Gam.fn 16=some y7t:=by kernel_rfl
noncomputable def q48:AFun:=(fun (a:AFun) (_:Gam.fn 49=some a)=>a) _ (by conv=>lhs;reduce;simp only[Int.reduceOfNat,Int.reduceNegSucc])
noncomputable def q9w:ACode:=(fun (a:ACode) (_:fl [] (lp q48 0)=a)=>a) _ (by conv=>lhs;reduce;simp only[Int.reduceOfNat,Int.reduceNegSucc])
attribute [local irreducible] q9w
noncomputable def w8u:AFun:=(fun (a:AFun) (_:flF [q9w] q48=a)=>a) _ (by conv=>lhs;reduce;simp only[Int.reduceOfNat,Int.reduceNegSucc])
theorem u1v:Gam.fn 49=some w8u:=by kernel_rfl
noncomputable def y7u:AFun:=(fun (a:AFun) (_:Gam.fn 50=some a)=>a) _ (by conv=>lhs;reduce;simp only[Int.reduceOfNat,Int.reduceNegSucc])
theorem u5m:Gam.fn 50=some y7u:=by kernel_rfl
noncomputable def u1w:AFun:=(fun (a:AFun) (_:Gam.fn 114=some a)=>a) _ (by conv=>lhs;reduce;simp only[Int.reduceOfNat,Int.reduceNegSucc])
theorem u5n:Gam.fn 114=some u1w:=by kernel_rfl
noncomputable def u1x:AFun:=(fun (a:AFun) (_:Gam.fn 176=some a)=>a) _ (by conv=>lhs;reduce;simp only[Int.reduceOfNat,Int.reduceNegSucc])
noncomputable def x2x:ACode:=(fun (a:ACode) (_:fl [] (lp u1x 0)=a)=>a) _ (by conv=>lhs;reduce;simp only[Int.reduceOfNat,Int.reduceNegSucc])
attribute [local irreducible] x2x
noncomputable def w8v:AFun:=(fun (a:AFun) (_:flF [x2x] u1x=a)=>a) _ (by conv=>lhs;reduce;simp only[Int.reduceOfNat,Int.reduceNegSucc])
theorem y7v:Gam.fn 176=some w8v:=by kernel_rfl
noncomputable def q89:AFun:=(fun (a:AFun) (_:Gam.fn 111=some a)=>a) _ (by conv=>lhs;reduce;simp only[Int.reduceOfNat,Int.reduceNegSucc])
noncomputable def j0o:ACode:=(fun (a:ACode) (_:fl [] (lp q89 0)=a)=>a) _ (by conv=>lhs;reduce;simp only[Int.reduceOfNat,Int.reduceNegSucc])
attribute [local irreducible] j0o
noncomputable def y7w:AFun:=(fun (a:AFun) (_:flF [j0o] q89=a)=>a) _ (by conv=>lhs;reduce;simp only[Int.reduceOfNat,Int.reduceNegSucc])
theorem u1y:Gam.fn 111=some y7w:=by kernel_rfl
noncomputable def q75:AFun:=(fun (a:AFun) (_:Gam.fn 84=some a)=>a) _ (by conv=>lhs;reduce;simp only[Int.reduceOfNat,Int.reduceNegSucc])
noncomputable def k6u:ACode:=(fun (a:ACode) (_:fl [] (lp q75 0)=a)=>a) _ (by conv=>lhs;reduce;simp only[Int.reduceOfNat,Int.reduceNegSucc])
attribute [local irreducible] k6u
noncomputable def u1z:AFun:=(fun (a:AFun) (_:flF [k6u] q75=a)=>a) _ (by conv=>lhs;reduce;simp only[Int.reduceOfNat,Int.reduceNegSucc])
theorem u5o:Gam.fn 84=some u1z:=by kernel_rfl
noncomputable def y7x:AFun:=(fun (a:AFun) (_:Gam.fn 175=some a)=>a) _ (by conv=>lhs;reduce;simp only[Int.reduceOfNat,Int.reduceNegSucc])
noncomputable def x2y:ACode:=(fun (a:ACode) (_:fl [] (lp y7x 1)=a)=>a) _ (by conv=>lhs;reduce;simp only[Int.reduceOfNat,Int.reduceNegSucc])
attribute [local irreducible] x2y
noncomputable def x7w:ACode:=(fun (a:ACode) (_:fl [x2y] (lp y7x 0)=a)=>a) _ (by conv=>lhs;reduce;simp only[Int.reduceOfNat,Int.reduceNegSucc])
attribute [local irreducible] x7w
noncomputable def w8w:AFun:=(fun (a:AFun) (_:flF [x7w,x2y] y7x=a)=>a) _ (by conv=>lhs;reduce;simp only[Int.reduceOfNat,Int.reduceNegSucc])
theorem y7y:Gam.fn 175=some w8w:=by kernel_rfl
noncomputable def x1g:AFun:=(fun (a:AFun) (_:Gam.fn 245=some a)=>a) _ (by conv=>lhs;reduce;simp only[Int.reduceOfNat,Int.reduceNegSucc])
theorem w8x:Gam.fn 245=some x1g:=by kernel_rfl
noncomputable def u2a:AFun:=(fun (a:AFun) (_:Gam.fn 58=some a)=>a) _ (by conv=>lhs;reduce;simp only[Int.reduceOfNat,Int.reduceNegSucc])
theorem u5p:Gam.fn 58=some u2a:=by kernel_rfl
def k1n:ACode:=(.seq (.region 1 [N 9 (.binOp .lss (.one .int) (.tmp 8) (.tmp 7))] []) (.seq (.cond (.tmp 9) .skip (.exit 0)) (.seq (.block 1 (.seq (.region 2 [M 10 8,M 5 10] []) (.seq (.region 6 [M 11 1,M 12 0,M 13 5,N 14 (.indexAddr none 1 (.tmp 12) (.tmp 13)),L 15 14,N 16 (.binOp .eql (.one .str) (.tmp 11) (.tmp 15))] []) (.cond (.tmp 16) (.seq (.region 2 [M 17 5,M 4 17] []) .ret) .skip)))) (.region 2 [N 18 (.binOp .add (.one .int) (.tmp 8) (I 1)),M 8 18] []))))
def u2b:AFun:=
 {ntmps:=19,nslots:=0,results:=[.tmp 4],byref:=[],owned:=false,
  body:=(.seq (.region 1 [N 4 (.move (I 0))] []) (.seq (.seq (.region 3 [M 6 0,N 7 (.len .sl (.tmp 6)),N 8 (.move (I 0))] []) (.block 0 (.loop k1n))) (.seq (.region 1 [N 4 (.move (I (-1)))] []) .ret)))}
theorem u5q:Gam.fn 83=some u2b:=by kernel_rfl
noncomputable def u2c:AFun:=(fun (a:AFun) (_:Gam.fn 112=some a)=>a) _ (by conv=>lhs;reduce;simp only[Int.reduceOfNat,Int.reduceNegSucc])
theorem u5r:Gam.fn 112=some u2c:=by kernel_rfl
noncomputable def u2d:AFun:=(fun (a:AFun) (_:Gam.fn 113=some a)=>a) _ (by conv=>lhs;reduce;simp only[Int.reduceOfNat,Int.reduceNegSucc])
theorem u5s:Gam.fn 113=some u2d:=by kernel_rfl
noncomputable def v1e:AFun:=(fun (a:AFun) (_:Gam.fn 91=some a)=>a) _ (by conv=>lhs;reduce;simp only[Int.reduceOfNat,Int.reduceNegSucc])
theorem y1y:Gam.fn 91=some v1e:=by kernel_rfl
noncomputable def q38:AFun:=(fun (a:AFun) (_:Gam.fn 38=some a)=>a) _ (by conv=>lhs;reduce;simp only[Int.reduceOfNat,Int.reduceNegSucc])
noncomputable def k6v:ACode:=(fun (a:ACode) (_:fl [] (lp q38 0)=a)=>a) _ (by conv=>lhs;reduce;simp only[Int.reduceOfNat,Int.reduceNegSucc])
attribute [local irreducible] k6v
noncomputable def u2e:AFun:=(fun (a:AFun) (_:flF [k6v] q38=a)=>a) _ (by conv=>lhs;reduce;simp only[Int.reduceOfNat,Int.reduceNegSucc])
theorem u5t:Gam.fn 38=some u2e:=by kernel_rfl
noncomputable def q39:AFun:=(fun (a:AFun) (_:Gam.fn 39=some a)=>a) _ (by conv=>lhs;reduce;simp only[Int.reduceOfNat,Int.reduceNegSucc])
noncomputable def k6w:ACode:=(fun (a:ACode) (_:fl [] (lp q39 0)=a)=>a) _ (by conv=>lhs;reduce;simp only[Int.reduceOfNat,Int.reduceNegSucc])
attribute [local irreducible] k6w
noncomputable def u2f:AFun:=(fun (a:AFun) (_:flF [k6w] q39=a)=>a) _ (by conv=>lhs;reduce;simp only[Int.reduceOfNat,Int.reduceNegSucc])
theorem u5u:Gam.fn 39=some u2f:=by kernel_rfl
noncomputable def u2g:AFun:=(fun (a:AFun) (_:Gam.fn 95=some a)=>a) _ (by conv=>lhs;reduce;simp only[Int.reduceOfNat,Int.reduceNegSucc])
theorem u5v:Gam.fn 95=some u2g:=by kernel_rfl
noncomputable def u2h:AFun:=(fun (a:AFun) (_:Gam.fn 150=some a)=>a) _ (by conv=>lhs;reduce;simp only[Int.reduceOfNat,Int.reduceNegSucc])
noncomputable def j3s:ACode:=(fun (a:ACode) (_:fl [] (lp u2h 0)=a)=>a) _ (by conv=>lhs;reduce;simp only[Int.reduceOfNat,Int.reduceNegSucc])
attribute [local irreducible] j3s
noncomputable def w8y:AFun:=(fun (a:AFun) (_:flF [j3s] u2h=a)=>a) _ (by conv=>lhs;reduce;simp only[Int.reduceOfNat,Int.reduceNegSucc])
theorem y7z:Gam.fn 150=some w8y:=by kernel_rfl
noncomputable def u2i:AFun:=(fun (a:AFun) (_:Gam.fn 77=some a)=>a) _ (by conv=>lhs;reduce;simp only[Int.reduceOfNat,Int.reduceNegSucc])
theorem u5w:Gam.fn 77=some u2i:=by kernel_rfl
noncomputable def q61:AFun:=(fun (a:AFun) (_:Gam.fn 132=some a)=>a) _ (by conv=>lhs;reduce;simp only[Int.reduceOfNat,Int.reduceNegSucc])
noncomputable def k6x:ACode:=(fun (a:ACode) (_:fl [] (lp q61 0)=a)=>a) _ (by conv=>lhs;reduce;simp only[Int.reduceOfNat,Int.reduceNegSucc])
attribute [local irreducible] k6x
noncomputable def u2j:AFun:=(fun (a:AFun) (_:flF [k6x] q61=a)=>a) _ (by conv=>lhs;reduce;simp only[Int.reduceOfNat,Int.reduceNegSucc])
theorem u5x:Gam.fn 132=some u2j:=by kernel_rfl
noncomputable def u2k:AFun:=(fun (a:AFun) (_:Gam.fn 198=some a)=>a) _ (by conv=>lhs;reduce;simp only[Int.reduceOfNat,Int.reduceNegSucc])
noncomputable def j3t:ACode:=(fun (a:ACode) (_:fl [] (lp u2k 0)=a)=>a) _ (by conv=>lhs;reduce;simp only[Int.reduceOfNat,Int.reduceNegSucc])
attribute [local irreducible] j3t
noncomputable def w8z:AFun:=(fun (a:AFun) (_:flF [j3t] u2k=a)=>a) _ (by conv=>lhs;reduce;simp only[Int.reduceOfNat,Int.reduceNegSucc])
theorem w9a:Gam.fn 198=some w8z:=by kernel_rfl
noncomputable def w9b:AFun:=(fun (a:AFun) (_:Gam.fn 199=some a)=>a) _ (by conv=>lhs;reduce;simp only[Int.reduceOfNat,Int.reduceNegSucc])
theorem y8a:Gam.fn 199=some w9b:=by kernel_rfl
noncomputable def u2l:AFun:=(fun (a:AFun) (_:Gam.fn 258=some a)=>a) _ (by conv=>lhs;reduce;simp only[Int.reduceOfNat,Int.reduceNegSucc])
noncomputable def x2z:ACode:=(fun (a:ACode) (_:fl [] (lp u2l 0)=a)=>a) _ (by conv=>lhs;reduce;simp only[Int.reduceOfNat,Int.reduceNegSucc])
attribute [local irreducible] x2z
noncomputable def w9c:AFun:=(fun (a:AFun) (_:flF [x2z] u2l=a)=>a) _ (by conv=>lhs;reduce;simp only[Int.reduceOfNat,Int.reduceNegSucc])
theorem y8b:Gam.fn 258=some w9c:=by kernel_rfl
noncomputable def w9d:AFun:=(fun (a:AFun) (_:Gam.fn 202=some a)=>a) _ (by conv=>lhs;reduce;simp only[Int.reduceOfNat,Int.reduceNegSucc])
theorem y8c:Gam.fn 202=some w9d:=by kernel_rfl
noncomputable def w9e:AFun:=(fun (a:AFun) (_:Gam.fn 203=some a)=>a) _ (by conv=>lhs;reduce;simp only[Int.reduceOfNat,Int.reduceNegSucc])
theorem y8d:Gam.fn 203=some w9e:=by kernel_rfl
def k1o:ACode:=(.seq (.region 1 [N 10 (.binOp .lss (.one .int) (.tmp 9) (.tmp 8))] []) (.seq (.cond (.tmp 10) .skip (.exit 0)) (.seq (.block 1 (.seq (.region 4 [N 11 (.indexAddr none 2 (.tmp 7) (.tmp 9)),N 12 (.load (some 2) (.tmp 11)),N 5 (.alloc 1 (.agg [(.str []),(.int .i64 0)])),S 2 5 12] []) (.region 3 [M 13 3,N 14 (.load (some 2) (.tmp 5)),⟨none, .mapUpdate (.agg [.str, .int]) (.tmp 13) (.tmp 14) (.const (.bool true)),none⟩] []))) (.region 2 [N 15 (.binOp .add (.one .int) (.tmp 9) (I 1)),M 9 15] []))))
def w9f:AFun:=
 {ntmps:=17,nslots:=2,results:=[.tmp 2],byref:=[],owned:=false,
  body:=(.seq (.region 1 [N 2 (.move (.const .nilmap))] []) (.seq (.region 2 [N 6 (.makeMap 0),M 3 6] []) (.seq (.seq (.region 3 [M 7 0,N 8 (.len .sl (.tmp 7)),N 9 (.move (I 0))] []) (.block 0 (.loop k1o))) (.seq (.region 2 [M 16 3,M 2 16] []) .ret))))}
theorem y8e:Gam.fn 262=some w9f:=by kernel_rfl
noncomputable def u2m:AFun:=(fun (a:AFun) (_:Gam.fn 263=some a)=>a) _ (by conv=>lhs;reduce;simp only[Int.reduceOfNat,Int.reduceNegSucc])
noncomputable def j3u:ACode:=(fun (a:ACode) (_:fl [] (lp u2m 0)=a)=>a) _ (by conv=>lhs;reduce;simp only[Int.reduceOfNat,Int.reduceNegSucc])
attribute [local irreducible] j3u
noncomputable def w9g:AFun:=(fun (a:AFun) (_:flF [j3u] u2m=a)=>a) _ (by conv=>lhs;reduce;simp only[Int.reduceOfNat,Int.reduceNegSucc])
theorem y8f:Gam.fn 263=some w9g:=by kernel_rfl
noncomputable def w9h:AFun:=(fun (a:AFun) (_:Gam.fn 264=some a)=>a) _ (by conv=>lhs;reduce;simp only[Int.reduceOfNat,Int.reduceNegSucc])
theorem y8g:Gam.fn 264=some w9h:=by kernel_rfl
noncomputable def u2n:AFun:=(fun (a:AFun) (_:Gam.fn 265=some a)=>a) _ (by conv=>lhs;reduce;simp only[Int.reduceOfNat,Int.reduceNegSucc])
noncomputable def j3v:ACode:=(fun (a:ACode) (_:fl [] (lp u2n 0)=a)=>a) _ (by conv=>lhs;reduce;simp only[Int.reduceOfNat,Int.reduceNegSucc])
attribute [local irreducible] j3v
noncomputable def w9i:AFun:=(fun (a:AFun) (_:flF [j3v] u2n=a)=>a) _ (by conv=>lhs;reduce;simp only[Int.reduceOfNat,Int.reduceNegSucc])
theorem y8h:Gam.fn 265=some w9i:=by kernel_rfl
noncomputable def w9j:AFun:=(fun (a:AFun) (_:Gam.fn 266=some a)=>a) _ (by conv=>lhs;reduce;simp only[Int.reduceOfNat,Int.reduceNegSucc])
theorem y8i:Gam.fn 266=some w9j:=by kernel_rfl
noncomputable def w9k:AFun:=(fun (a:AFun) (_:Gam.fn 182=some a)=>a) _ (by conv=>lhs;reduce;simp only[Int.reduceOfNat,Int.reduceNegSucc])
theorem y8j:Gam.fn 182=some w9k:=by kernel_rfl
noncomputable def u2o:AFun:=(fun (a:AFun) (_:Gam.fn 250=some a)=>a) _ (by conv=>lhs;reduce;simp only[Int.reduceOfNat,Int.reduceNegSucc])
noncomputable def x3a:ACode:=(fun (a:ACode) (_:fl [] (lp u2o 0)=a)=>a) _ (by conv=>lhs;reduce;simp only[Int.reduceOfNat,Int.reduceNegSucc])
attribute [local irreducible] x3a
noncomputable def w9l:AFun:=(fun (a:AFun) (_:flF [x3a] u2o=a)=>a) _ (by conv=>lhs;reduce;simp only[Int.reduceOfNat,Int.reduceNegSucc])
theorem y8k:Gam.fn 250=some w9l:=by kernel_rfl
def v7w:AFun:=
 {ntmps:=8,nslots:=1,results:=[.tmp 3],byref:=[],owned:=false,
  body:=(.seq (.region 2 [N 2 (.box 0 (.tmp 0)),N 3 (.move (.const (.bool false)))] []) (.seq (.region 5 [L 4 1,N 5 (.load (some 2) (.tmp 2)),N 6 (.lookup (.agg [.str, .int]) (.bool false) (.tmp 4) (.tmp 5) false),N 7 (.unOp .not (.tmp 6)),M 3 7] []) .ret))}
theorem y8l:Gam.fn 320=some v7w:=by kernel_rfl
noncomputable def w9m:AFun:=(fun (a:AFun) (_:Gam.fn 261=some a)=>a) _ (by conv=>lhs;reduce;simp only[Int.reduceOfNat,Int.reduceNegSucc])
theorem y8m:Gam.fn 261=some w9m:=by kernel_rfl
end
theorem k6y {α:Type} {enc:α→AV} {xs:List α} {S:List (Nat×AObj)} {c:Nat} {cap:List AV} {P:α→Bool} {t:Tip} (hE:∀ x,(enc x).cells.length=1) (hld:∀ x h,q1u h none (.iptr (enc x).cells 0)=some (enc x,h)) (hid:∀ x,(enc x).ids=[]) (hl:xs.length≤2 ^ 20) (hC:Cov S (idsL cap)) (hP:∀ x∈xs,Reads S c (enc x::cap) (.bool (P x))):
  ∃ r:Int,decide (0≤r)=xs.any P∧Reads S 319 [.sl (xs.map enc) t, .fn c cap] (.int .i64 r):=by
 have hC':Cov S (idsL [.sl (xs.map enc) .no, .fn c cap]):=by
  have:idsL [.sl (xs.map enc) .no, .fn c cap]=idsL cap:=by simp[idsL,AV.ids,z0c hid]
  rw[this];exact hC
 have key:∀ n,n≤xs.length→∃ r:Int,decide (0≤r)=(xs.drop (xs.length - n)).any P∧∀ (D L:List AObj) (B clk:Nat) (ks:List Kf) (ts:Tmps) (Q:Post),Has S D→ts 0= .sl (xs.map enc) .no→ts 1= .fn c cap→ts 7= .int .i64 (xs.length:Int)→ts 8= .int .i64 ((xs.length - n:Nat):Int)→
   (∀ ts' clk',ts' 4= .int .i64 r→K Gam B .ret ks ⟨ts',D++L,clk'⟩ Q)→(r= -1→∀ ts' clk',K Gam B (.exit 0) ks ⟨ts',D++L,clk'⟩ Q)→K Gam B (.loop x2t) ks ⟨ts,D++L,clk⟩ Q:=by
  intro n
  induction n with
  | zero=>
    intro _
    refine⟨-1,by simp,fun D L B clk ks ts Q hS h0 h1 h7 h8 _ hx=> ?_⟩
    have e1:decide (((xs.length - 0:Nat):Int) < (xs.length:Int))=false:=by rw[decide_eq_false_iff_not];omega
    refine z3f ?_
    simp only[go_sem,h0,h1,h7,h8,x2t,e1]
    exact hx rfl _ _
  | succ n ih=>
    intro hn
    have hk:xs.length - (n + 1) < xs.length:=by omega
    have hdr:xs.drop (xs.length - (n + 1))=xs[xs.length - (n + 1)]::xs.drop (xs.length - n):=by
     rw[List.drop_eq_getElem_cons hk]
     congr 2
     omega
    have e1:decide (((xs.length - (n + 1):Nat):Int) < (xs.length:Int))=true:=by rw[decide_eq_true_iff];omega
    have hpx:=hP _ (List.getElem_mem hk)
    generalize hxx:xs[xs.length - (n + 1)]=x at hdr hpx
    have hidx:∀ h,z1m h 1 (.sl (xs.map enc) .no) (.int .i64 ((xs.length - (n + 1):Nat):Int))=some (.iptr (enc x).cells 0,h):=fun h=>by
     rw[←hxx]
     exact z5q (by simp[hk]) (hE _)
    have hcx:∀ h,q1u h none (.iptr (enc x).cells 0)=some (enc x,h):=hld x
    cases hpb:P x with
    | true=>
      refine⟨((xs.length - (n + 1):Nat):Int), ?_,fun D L B clk ks ts Q hS h0 h1 h7 h8 hr _=> ?_⟩
      ·rw[hdr,List.any_cons,hpb,Bool.true_or,decide_eq_true_iff];omega
      ·refine z3f ?_
       rw[hpb] at hpx
       simp only[go_sem,z0,z1,z2,z3,reduceCtorEq,↓reduceIte,h0,h1,h7,h8,x2t,e1,hidx,hcx,z0w hpx hS.app]
       exact hr _ _ (by simp[z0b])
    | false=>
      obtain⟨r,h1',h2'⟩:=ih (by omega)
      refine⟨r,by rw[h1',hdr,List.any_cons,hpb,Bool.false_or],fun D L B clk ks ts Q hS h0 h1 h7 h8 hr hx=> ?_⟩
      have e2:IntKind.i64.wrap (((xs.length - (n + 1):Nat):Int) + 1)=((xs.length - n:Nat):Int):=by rw[z0d (by omega) (by omega)];omega
      refine z3f ?_
      rw[hpb] at hpx
      simp only[go_sem,z0,z1,z2,z3,reduceCtorEq,↓reduceIte,h0,h1,h7,h8,x2t,e1,hidx,hcx,z0w hpx hS.app,e2]
      exact h2' D L B _ ks _ Q hS (by simp[z0b,h0]) (by simp[z0b,h1]) (by simp[z0b,h7]) (by simp[z0b]) hr hx
 obtain⟨r,h1,h2⟩:=key xs.length (Nat.le_refl _)
 rw[Nat.sub_self,List.drop_zero] at h1
 refine⟨r,h1,Reads.of rfl y7r rfl rfl rfl rfl (by simpa [cvL,AV.cv] using hC') fun D B clk T hB hS hlt hT=> ?_⟩
 simp only[go_sem,w8o,List.length_map]
 refine h2 D _ B _ _ _ _ hS (by simp[z0b,z2w]) (by simp[z0b,z7g,z2w]) (by simp[z0b]) (by simp[z0b]) (fun ts' clk' q4=> ?_) (fun hr0 ts' clk'=> ?_)
 ·simp only[go_sem,q4]
  rw[z2m]
  exact hT _ hS.app
 ·simp only[go_sem,]
  rw[z2m,←hr0]
  exact hT _ hS.app
theorem k6z {α:Type} {enc:α→AV} {xs:List α} {S:List (Nat×AObj)} {c:Nat} {cap:List AV} {P:α→Bool} {t:Tip} (hE:∀ x,(enc x).cells.length=1) (hld:∀ x h,q1u h none (.iptr (enc x).cells 0)=some (enc x,h)) (hid:∀ x,(enc x).ids=[]) (hl:xs.length≤2 ^ 20) (hC:Cov S (idsL cap)) (hP:∀ x∈xs,Reads S c (enc x::cap) (.bool (P x))):
  Reads S 259 [.sl (xs.map enc) t, .fn c cap] (.bool (xs.any P)):=by
 obtain⟨r,h1,h2⟩:=k6y (t:= .no) hE hld hid hl hC hP
 have hC':Cov S (idsL [.sl (xs.map enc) .no, .fn c cap]):=by
  have:idsL [.sl (xs.map enc) .no, .fn c cap]=idsL cap:=by simp[idsL,AV.ids,z0c hid]
  rw[this];exact hC
 refine Reads.of rfl y7q rfl rfl rfl rfl (by simpa [cvL,AV.cv] using hC') fun D B clk T hB hS hlt hT=> ?_
 simp only[go_sem,w8n,z0w h2 hS.app,h1]
 rw[z0e]
 exact hT _ hS.app
theorem k7a {α:Type} {enc:α→AV} {xs:List α} {S:List (Nat×AObj)} {c:Nat} {cap:List AV} {P:α→Bool} {t:Tip} (hE:∀ x,(enc x).cells.length=2) (hld:∀ x h,q1u h (some 2) (.iptr (enc x).cells 0)=some (enc x,h)) (hid:∀ x,(enc x).ids=[]) (hl:xs.length≤2 ^ 20) (hC:Cov S (idsL cap)) (hP:∀ x∈xs,Reads S c (enc x::cap) (.bool (P x))):
  ∃ r:Int,decide (0≤r)=xs.any P∧Reads S 176 [.sl (xs.map enc) t, .fn c cap] (.int .i64 r):=by
 have hC':Cov S (idsL [.sl (xs.map enc) .no, .fn c cap]):=by
  have:idsL [.sl (xs.map enc) .no, .fn c cap]=idsL cap:=by simp[idsL,AV.ids,z0c hid]
  rw[this];exact hC
 have key:∀ n,n≤xs.length→∃ r:Int,decide (0≤r)=(xs.drop (xs.length - n)).any P∧∀ (D L:List AObj) (B clk:Nat) (ks:List Kf) (ts:Tmps) (Q:Post),Has S D→ts 0= .sl (xs.map enc) .no→ts 1= .fn c cap→ts 7= .int .i64 (xs.length:Int)→ts 8= .int .i64 ((xs.length - n:Nat):Int)→
   (∀ ts' clk',ts' 4= .int .i64 r→K Gam B .ret ks ⟨ts',D++L,clk'⟩ Q)→(r= -1→∀ ts' clk',K Gam B (.exit 0) ks ⟨ts',D++L,clk'⟩ Q)→K Gam B (.loop x2x) ks ⟨ts,D++L,clk⟩ Q:=by
  intro n
  induction n with
  | zero=>
    intro _
    refine⟨-1,by simp,fun D L B clk ks ts Q hS h0 h1 h7 h8 _ hx=> ?_⟩
    have e1:decide (((xs.length - 0:Nat):Int) < (xs.length:Int))=false:=by rw[decide_eq_false_iff_not];omega
    refine z3f ?_
    simp only[go_sem,h0,h1,h7,h8,x2x,e1]
    exact hx rfl _ _
  | succ n ih=>
    intro hn
    have hk:xs.length - (n + 1) < xs.length:=by omega
    have hdr:xs.drop (xs.length - (n + 1))=xs[xs.length - (n + 1)]::xs.drop (xs.length - n):=by
     rw[List.drop_eq_getElem_cons hk]
     congr 2
     omega
    have e1:decide (((xs.length - (n + 1):Nat):Int) < (xs.length:Int))=true:=by rw[decide_eq_true_iff];omega
    have hpx:=hP _ (List.getElem_mem hk)
    generalize hxx:xs[xs.length - (n + 1)]=x at hdr hpx
    have hidx:∀ h,z1m h 2 (.sl (xs.map enc) .no) (.int .i64 ((xs.length - (n + 1):Nat):Int))=some (.iptr (enc x).cells 0,h):=fun h=>by
     rw[←hxx]
     exact z5q (by simp[hk]) (hE _)
    have hcx:∀ h,q1u h (some 2) (.iptr (enc x).cells 0)=some (enc x,h):=hld x
    cases hpb:P x with
    | true=>
      refine⟨((xs.length - (n + 1):Nat):Int), ?_,fun D L B clk ks ts Q hS h0 h1 h7 h8 hr _=> ?_⟩
      ·rw[hdr,List.any_cons,hpb,Bool.true_or,decide_eq_true_iff];omega
      ·refine z3f ?_
       rw[hpb] at hpx
       simp only[go_sem,z0,z1,z2,z3,reduceCtorEq,↓reduceIte,h0,h1,h7,h8,x2x,e1,hidx,hcx,z0w hpx hS.app]
       exact hr _ _ (by simp[z0b])
    | false=>
      obtain⟨r,h1',h2'⟩:=ih (by omega)
      refine⟨r,by rw[h1',hdr,List.any_cons,hpb,Bool.false_or],fun D L B clk ks ts Q hS h0 h1 h7 h8 hr hx=> ?_⟩
      have e2:IntKind.i64.wrap (((xs.length - (n + 1):Nat):Int) + 1)=((xs.length - n:Nat):Int):=by rw[z0d (by omega) (by omega)];omega
      refine z3f ?_
      rw[hpb] at hpx
      simp only[go_sem,z0,z1,z2,z3,reduceCtorEq,↓reduceIte,h0,h1,h7,h8,x2x,e1,hidx,hcx,z0w hpx hS.app,e2]
      exact h2' D L B _ ks _ Q hS (by simp[z0b,h0]) (by simp[z0b,h1]) (by simp[z0b,h7]) (by simp[z0b]) hr hx
 obtain⟨r,h1,h2⟩:=key xs.length (Nat.le_refl _)
 rw[Nat.sub_self,List.drop_zero] at h1
 refine⟨r,h1,Reads.of rfl y7v rfl rfl rfl rfl (by simpa [cvL,AV.cv] using hC') fun D B clk T hB hS hlt hT=> ?_⟩
 simp only[go_sem,w8v,List.length_map]
 refine h2 D _ B _ _ _ _ hS (by simp[z0b,z2w]) (by simp[z0b,z7g,z2w]) (by simp[z0b]) (by simp[z0b]) (fun ts' clk' q4=> ?_) (fun hr0 ts' clk'=> ?_)
 ·simp only[go_sem,q4]
  rw[z2m]
  exact hT _ hS.app
 ·simp only[go_sem,]
  rw[z2m,←hr0]
  exact hT _ hS.app
theorem j0p {α:Type} {enc:α→AV} {xs:List α} {S:List (Nat×AObj)} {c:Nat} {cap:List AV} {P:α→Bool} {t:Tip} (hE:∀ x,(enc x).cells.length=2) (hld:∀ x h,q1u h (some 2) (.iptr (enc x).cells 0)=some (enc x,h)) (hid:∀ x,(enc x).ids=[]) (hl:xs.length≤2 ^ 20) (hC:Cov S (idsL cap)) (hP:∀ x∈xs,Reads S c (enc x::cap) (.bool (P x))):
  Reads S 114 [.sl (xs.map enc) t, .fn c cap] (.bool (xs.any P)):=by
 obtain⟨r,h1,h2⟩:=k7a (t:= .no) hE hld hid hl hC hP
 have hC':Cov S (idsL [.sl (xs.map enc) .no, .fn c cap]):=by
  have:idsL [.sl (xs.map enc) .no, .fn c cap]=idsL cap:=by simp[idsL,AV.ids,z0c hid]
  rw[this];exact hC
 refine Reads.of rfl u5n rfl rfl rfl rfl (by simpa [cvL,AV.cv] using hC') fun D B clk T hB hS hlt hT=> ?_
 simp only[go_sem,u1w,z0w h2 hS.app,h1]
 rw[z0e]
 exact hT _ hS.app
theorem k7b {α:Type} {enc:α→AV} {xs:List α} {S:List (Nat×AObj)} {c:Nat} {cap:List AV} {P:α→Bool} {t:Tip} (hE:∀ x,(enc x).cells.length=3) (hld:∀ x h,q1u h (some 3) (.iptr (enc x).cells 0)=some (enc x,h)) (hid:∀ x,(enc x).ids=[]) (hl:xs.length≤2 ^ 20) (hC:Cov S (idsL cap)) (hP:∀ x∈xs,Reads S c (enc x::cap) (.bool (P x))):
  ∃ r:Int,decide (0≤r)=xs.any P∧Reads S 258 [.sl (xs.map enc) t, .fn c cap] (.int .i64 r):=by
 have hC':Cov S (idsL [.sl (xs.map enc) .no, .fn c cap]):=by
  have:idsL [.sl (xs.map enc) .no, .fn c cap]=idsL cap:=by simp[idsL,AV.ids,z0c hid]
  rw[this];exact hC
 have key:∀ n,n≤xs.length→∃ r:Int,decide (0≤r)=(xs.drop (xs.length - n)).any P∧∀ (D L:List AObj) (B clk:Nat) (ks:List Kf) (ts:Tmps) (Q:Post),Has S D→ts 0= .sl (xs.map enc) .no→ts 1= .fn c cap→ts 7= .int .i64 (xs.length:Int)→ts 8= .int .i64 ((xs.length - n:Nat):Int)→
   (∀ ts' clk',ts' 4= .int .i64 r→K Gam B .ret ks ⟨ts',D++L,clk'⟩ Q)→(r= -1→∀ ts' clk',K Gam B (.exit 0) ks ⟨ts',D++L,clk'⟩ Q)→K Gam B (.loop x2z) ks ⟨ts,D++L,clk⟩ Q:=by
  intro n
  induction n with
  | zero=>
    intro _
    refine⟨-1,by simp,fun D L B clk ks ts Q hS h0 h1 h7 h8 _ hx=> ?_⟩
    have e1:decide (((xs.length - 0:Nat):Int) < (xs.length:Int))=false:=by rw[decide_eq_false_iff_not];omega
    refine z3f ?_
    simp only[go_sem,h0,h1,h7,h8,x2z,e1]
    exact hx rfl _ _
  | succ n ih=>
    intro hn
    have hk:xs.length - (n + 1) < xs.length:=by omega
    have hdr:xs.drop (xs.length - (n + 1))=xs[xs.length - (n + 1)]::xs.drop (xs.length - n):=by
     rw[List.drop_eq_getElem_cons hk]
     congr 2
     omega
    have e1:decide (((xs.length - (n + 1):Nat):Int) < (xs.length:Int))=true:=by rw[decide_eq_true_iff];omega
    have hpx:=hP _ (List.getElem_mem hk)
    generalize hxx:xs[xs.length - (n + 1)]=x at hdr hpx
    have hidx:∀ h,z1m h 3 (.sl (xs.map enc) .no) (.int .i64 ((xs.length - (n + 1):Nat):Int))=some (.iptr (enc x).cells 0,h):=fun h=>by
     rw[←hxx]
     exact z5q (by simp[hk]) (hE _)
    have hcx:∀ h,q1u h (some 3) (.iptr (enc x).cells 0)=some (enc x,h):=hld x
    cases hpb:P x with
    | true=>
      refine⟨((xs.length - (n + 1):Nat):Int), ?_,fun D L B clk ks ts Q hS h0 h1 h7 h8 hr _=> ?_⟩
      ·rw[hdr,List.any_cons,hpb,Bool.true_or,decide_eq_true_iff];omega
      ·refine z3f ?_
       rw[hpb] at hpx
       simp only[go_sem,z0,z1,z2,z3,reduceCtorEq,↓reduceIte,h0,h1,h7,h8,x2z,e1,hidx,hcx,z0w hpx hS.app]
       exact hr _ _ (by simp[z0b])
    | false=>
      obtain⟨r,h1',h2'⟩:=ih (by omega)
      refine⟨r,by rw[h1',hdr,List.any_cons,hpb,Bool.false_or],fun D L B clk ks ts Q hS h0 h1 h7 h8 hr hx=> ?_⟩
      have e2:IntKind.i64.wrap (((xs.length - (n + 1):Nat):Int) + 1)=((xs.length - n:Nat):Int):=by rw[z0d (by omega) (by omega)];omega
      refine z3f ?_
      rw[hpb] at hpx
      simp only[go_sem,z0,z1,z2,z3,reduceCtorEq,↓reduceIte,h0,h1,h7,h8,x2z,e1,hidx,hcx,z0w hpx hS.app,e2]
      exact h2' D L B _ ks _ Q hS (by simp[z0b,h0]) (by simp[z0b,h1]) (by simp[z0b,h7]) (by simp[z0b]) hr hx
 obtain⟨r,h1,h2⟩:=key xs.length (Nat.le_refl _)
 rw[Nat.sub_self,List.drop_zero] at h1
 refine⟨r,h1,Reads.of rfl y8b rfl rfl rfl rfl (by simpa [cvL,AV.cv] using hC') fun D B clk T hB hS hlt hT=> ?_⟩
 simp only[go_sem,w9c,List.length_map]
 refine h2 D _ B _ _ _ _ hS (by simp[z0b,z2w]) (by simp[z0b,z7g,z2w]) (by simp[z0b]) (by simp[z0b]) (fun ts' clk' q4=> ?_) (fun hr0 ts' clk'=> ?_)
 ·simp only[go_sem,q4]
  rw[z2m]
  exact hT _ hS.app
 ·simp only[go_sem,]
  rw[z2m,←hr0]
  exact hT _ hS.app
theorem k7c {α:Type} {enc:α→AV} {xs:List α} {S:List (Nat×AObj)} {c:Nat} {cap:List AV} {P:α→Bool} {t:Tip} (hE:∀ x,(enc x).cells.length=3) (hld:∀ x h,q1u h (some 3) (.iptr (enc x).cells 0)=some (enc x,h)) (hid:∀ x,(enc x).ids=[]) (hl:xs.length≤2 ^ 20) (hC:Cov S (idsL cap)) (hP:∀ x∈xs,Reads S c (enc x::cap) (.bool (P x))):
  Reads S 199 [.sl (xs.map enc) t, .fn c cap] (.bool (xs.any P)):=by
 obtain⟨r,h1,h2⟩:=k7b (t:= .no) hE hld hid hl hC hP
 have hC':Cov S (idsL [.sl (xs.map enc) .no, .fn c cap]):=by
  have:idsL [.sl (xs.map enc) .no, .fn c cap]=idsL cap:=by simp[idsL,AV.ids,z0c hid]
  rw[this];exact hC
 refine Reads.of rfl y8a rfl rfl rfl rfl (by simpa [cvL,AV.cv] using hC') fun D B clk T hB hS hlt hT=> ?_
 simp only[go_sem,w9b,z0w h2 hS.app,h1]
 rw[z0e]
 exact hT _ hS.app
theorem k7d {α:Type} {enc:α→AV} {xs:List α} {S:List (Nat×AObj)} {c:Nat} {cap:List AV} {P:α→Bool} {t:Tip} (hE:∀ x,(enc x).cells.length=2) (hld:∀ x h,q1u h (some 2) (.iptr (enc x).cells 0)=some (enc x,h)) (hid:∀ x,(enc x).ids=[]) (hl:xs.length≤2 ^ 20) (hC:Cov S (idsL cap)) (hP:∀ x∈xs,Reads S c (enc x::cap) (.bool (P x))):
  ∃ r:Int,decide (0≤r)=xs.any P∧Reads S 250 [.sl (xs.map enc) t, .fn c cap] (.int .i64 r):=by
 have hC':Cov S (idsL [.sl (xs.map enc) .no, .fn c cap]):=by
  have:idsL [.sl (xs.map enc) .no, .fn c cap]=idsL cap:=by simp[idsL,AV.ids,z0c hid]
  rw[this];exact hC
 have key:∀ n,n≤xs.length→∃ r:Int,decide (0≤r)=(xs.drop (xs.length - n)).any P∧∀ (D L:List AObj) (B clk:Nat) (ks:List Kf) (ts:Tmps) (Q:Post),Has S D→ts 0= .sl (xs.map enc) .no→ts 1= .fn c cap→ts 7= .int .i64 (xs.length:Int)→ts 8= .int .i64 ((xs.length - n:Nat):Int)→
   (∀ ts' clk',ts' 4= .int .i64 r→K Gam B .ret ks ⟨ts',D++L,clk'⟩ Q)→(r= -1→∀ ts' clk',K Gam B (.exit 0) ks ⟨ts',D++L,clk'⟩ Q)→K Gam B (.loop x3a) ks ⟨ts,D++L,clk⟩ Q:=by
  intro n
  induction n with
  | zero=>
    intro _
    refine⟨-1,by simp,fun D L B clk ks ts Q hS h0 h1 h7 h8 _ hx=> ?_⟩
    have e1:decide (((xs.length - 0:Nat):Int) < (xs.length:Int))=false:=by rw[decide_eq_false_iff_not];omega
    refine z3f ?_
    simp only[go_sem,h0,h1,h7,h8,x3a,e1]
    exact hx rfl _ _
  | succ n ih=>
    intro hn
    have hk:xs.length - (n + 1) < xs.length:=by omega
    have hdr:xs.drop (xs.length - (n + 1))=xs[xs.length - (n + 1)]::xs.drop (xs.length - n):=by
     rw[List.drop_eq_getElem_cons hk]
     congr 2
     omega
    have e1:decide (((xs.length - (n + 1):Nat):Int) < (xs.length:Int))=true:=by rw[decide_eq_true_iff];omega
    have hpx:=hP _ (List.getElem_mem hk)
    generalize hxx:xs[xs.length - (n + 1)]=x at hdr hpx
    have hidx:∀ h,z1m h 2 (.sl (xs.map enc) .no) (.int .i64 ((xs.length - (n + 1):Nat):Int))=some (.iptr (enc x).cells 0,h):=fun h=>by
     rw[←hxx]
     exact z5q (by simp[hk]) (hE _)
    have hcx:∀ h,q1u h (some 2) (.iptr (enc x).cells 0)=some (enc x,h):=hld x
    cases hpb:P x with
    | true=>
      refine⟨((xs.length - (n + 1):Nat):Int), ?_,fun D L B clk ks ts Q hS h0 h1 h7 h8 hr _=> ?_⟩
      ·rw[hdr,List.any_cons,hpb,Bool.true_or,decide_eq_true_iff];omega
      ·refine z3f ?_
       rw[hpb] at hpx
       simp only[go_sem,z0,z1,z2,z3,reduceCtorEq,↓reduceIte,h0,h1,h7,h8,x3a,e1,hidx,hcx,z0w hpx hS.app]
       exact hr _ _ (by simp[z0b])
    | false=>
      obtain⟨r,h1',h2'⟩:=ih (by omega)
      refine⟨r,by rw[h1',hdr,List.any_cons,hpb,Bool.false_or],fun D L B clk ks ts Q hS h0 h1 h7 h8 hr hx=> ?_⟩
      have e2:IntKind.i64.wrap (((xs.length - (n + 1):Nat):Int) + 1)=((xs.length - n:Nat):Int):=by rw[z0d (by omega) (by omega)];omega
      refine z3f ?_
      rw[hpb] at hpx
      simp only[go_sem,z0,z1,z2,z3,reduceCtorEq,↓reduceIte,h0,h1,h7,h8,x3a,e1,hidx,hcx,z0w hpx hS.app,e2]
      exact h2' D L B _ ks _ Q hS (by simp[z0b,h0]) (by simp[z0b,h1]) (by simp[z0b,h7]) (by simp[z0b]) hr hx
 obtain⟨r,h1,h2⟩:=key xs.length (Nat.le_refl _)
 rw[Nat.sub_self,List.drop_zero] at h1
 refine⟨r,h1,Reads.of rfl y8k rfl rfl rfl rfl (by simpa [cvL,AV.cv] using hC') fun D B clk T hB hS hlt hT=> ?_⟩
 simp only[go_sem,w9l,List.length_map]
 refine h2 D _ B _ _ _ _ hS (by simp[z0b,z2w]) (by simp[z0b,z7g,z2w]) (by simp[z0b]) (by simp[z0b]) (fun ts' clk' q4=> ?_) (fun hr0 ts' clk'=> ?_)
 ·simp only[go_sem,q4]
  rw[z2m]
  exact hT _ hS.app
 ·simp only[go_sem,]
  rw[z2m,←hr0]
  exact hT _ hS.app
theorem j3w {α:Type} {enc:α→AV} {xs:List α} {S:List (Nat×AObj)} {c:Nat} {cap:List AV} {P:α→Bool} {t:Tip} (hE:∀ x,(enc x).cells.length=2) (hld:∀ x h,q1u h (some 2) (.iptr (enc x).cells 0)=some (enc x,h)) (hid:∀ x,(enc x).ids=[]) (hl:xs.length≤2 ^ 20) (hC:Cov S (idsL cap)) (hP:∀ x∈xs,Reads S c (enc x::cap) (.bool (P x))):
  Reads S 182 [.sl (xs.map enc) t, .fn c cap] (.bool (xs.any P)):=by
 obtain⟨r,h1,h2⟩:=k7d (t:= .no) hE hld hid hl hC hP
 have hC':Cov S (idsL [.sl (xs.map enc) .no, .fn c cap]):=by
  have:idsL [.sl (xs.map enc) .no, .fn c cap]=idsL cap:=by simp[idsL,AV.ids,z0c hid]
  rw[this];exact hC
 refine Reads.of rfl y8j rfl rfl rfl rfl (by simpa [cvL,AV.cv] using hC') fun D B clk T hB hS hlt hT=> ?_
 simp only[go_sem,w9k,z0w h2 hS.app,h1]
 rw[z0e]
 exact hT _ hS.app
section
theorem x4t {D L:List AObj} {B k:Nat} {o:AObj} (hB:D.length=B) (hL:L[k]? =some o):Has [(B + k,o)] (D++L):=by
 refine Has.cons ?_ Has.nil
 rw[z6k hB]
 exact hL
theorem k7e {s g:Nat} {x y:Int}:Reads [(s, .blk g [.int .i64 y] false false 0)] 324 [.int .i64 x, .ptr s g 0 0] (.bool (!decide (x=y))):=by
 refine Reads.of rfl y7p rfl rfl rfl rfl (Cov.one rfl) fun D B clk T hB hS hlt hT=> ?_
 have hs:=hlt _ List.mem_cons_self
 have hb:=z5z (g:=g) (hS _ List.mem_cons_self)
 dsimp only at hs hb
 simp only[go_sem,w8m,z4e hB hs,hb]
 rw[z0e]
 exact hT _ hS.app
theorem q2d {ss:List Nat} {s:Nat} {t:Tip} (h:∀ x∈ss,x=s) (hl:ss.length≤2 ^ 20):Pure Gam 280 [.sl (ss.map nat) t,nat s] (.bool true):=by
 refine Pure.of rfl y7o rfl rfl rfl (az:=[.sl (ss.map nat) .no,nat s]) rfl (by simp[idsL,AV.ids,z0c (f:=nat) fun _=>z3c,z3c]) fun D B clk T hB hT=> ?_
 have hr:∀ g,Reads [(B + 0, .blk g [.int .i64 (s:Int)] false false 0)] 259 [.sl (ss.map nat) .no, .fn 324 [.ptr (B + 0) g 0 0]] (.bool (ss.any fun x=> !decide ((x:Int)=(s:Int)))):=fun g=>
  k6z (enc:=nat) (P:=fun x=> !decide ((x:Int)=(s:Int))) (fun _=>rfl) (fun _ _=>rfl) (fun _=>rfl) hl (Cov.one rfl) fun x _=>k7e
 have e:(ss.any fun x=> !decide ((x:Int)=(s:Int)))=false:=by
  rw[List.any_eq_false]
  intro x hx
  simp[h x hx]
 rw[e] at hr
 simp only[go_sem,w8l,nat,hB]
 rw[z0w (hr _) (x4t hB rfl)]
 simp only[go_sem,Bool.not_false]
 rw[z0e]
 exact hT _
theorem z2o {s:Int}:Pure Gam 279 [.bool true, .int .i64 s] (.int .i64 s):=by
 refine Pure.of rfl y7n rfl rfl rfl rfl rfl fun D B clk T hB hT=> ?_
 simp only[go_sem,w8k]
 rw[z2m]
 exact hT _
theorem j0q {s:Nat} (hs:s=2∨s=3):Pure Gam 281 [nat s] (.bool true):=by
 refine Pure.of rfl y7s rfl rfl rfl rfl rfl fun D B clk T hB hT=> ?_
 rcases hs with rfl | rfl
 ·simp only[go_sem,v7d,nat,Int.cast_ofNat_Int,Int.reduceEq,decide_true,decide_false]
  rw[z0e]
  exact hT _
 ·simp only[go_sem,v7d,nat,Int.cast_ofNat_Int,Int.reduceEq,decide_true,decide_false]
  rw[z0e]
  exact hT _
theorem v7x {s:Nat} (h1:1≤s) (h4:s≤4):Pure Gam 276 [nat s] (.bool true):=by
 refine Pure.of rfl y7k rfl rfl rfl rfl rfl fun D B clk T hB hT=> ?_
 have e1:decide ((1:Int)≤(s:Int))=true:=by rw[decide_eq_true_iff];omega
 have e2:decide ((s:Int)≤4)=true:=by rw[decide_eq_true_iff];omega
 simp only[go_sem,w8i,nat,e1,e2]
 rw[z0e]
 exact hT _
class UOk (U:List Var):Prop where
 name:∀ v∈U,q0t x1m [.str v.name]=some (.bool true)
 name2:∀ v∈U,q0t q2y [.str v.name]=some (.bool true)
 sort:∀ v∈U,1≤v.sort∧v.sort≤4
 inj:∀ v∈U,∀ w∈U,v.name=w.name→v=w
instance:UOk z2h where
 name v hv:=by
  simp only[z2h,List.mem_cons,List.not_mem_nil,or_false] at hv
  rcases hv with rfl | rfl | rfl | rfl | rfl | rfl | rfl | rfl <;> rfl
 name2 v hv:=by
  simp only[z2h,List.mem_cons,List.not_mem_nil,or_false] at hv
  rcases hv with rfl | rfl | rfl | rfl | rfl | rfl | rfl | rfl <;> rfl
 sort:=by decide
 inj:=by decide
variable {U:List Var} [UOk U]
theorem j0r {v:Var} (hv:v∈U):Pure Gam 210 [.str v.name] (.bool true):=Pure.tab (tab:=x1m) rfl rfl (UOk.name v hv)
theorem q5d {v:Var} (hv:v∈U):1≤v.sort∧v.sort≤4:=UOk.sort v hv
theorem q0n {h:List AObj} {K k:IntKind} {n:Int} {a:AV} {xs:List AV} {t:Tip}:z1m h 1 (.sl (a:: .int K n::xs) t) (.int k 1)=some (.iptr [.int K n] 0,h):=z5q (i:=1) (e:= .int K n) rfl rfl
theorem q9x {h:List AObj} {K k:IntKind} {n:Int} {a b:AV} {xs:List AV} {t:Tip}:z1m h 1 (.sl (a::b:: .int K n::xs) t) (.int k 2)=some (.iptr [.int K n] 0,h):=z5q (i:=2) (e:= .int K n) rfl rfl
theorem z2u {o k:Nat} (ho:o=1∨o=2∨o=6∨o=7∨o=8∨o=9∨o=10∨o=11∨o=12∨o=13∨o=14∨o=15∨o=18∨o=19∨o=20):Pure Gam 216 [eNode (bare o k)] (.bool true):=by
 refine Pure.of rfl k1g rfl rfl rfl rfl rfl fun D B clk T hB hT=> ?_
 have e1:decide ((o:Int)=3)=false:=by rw[decide_eq_false_iff_not];omega
 have e2:decide ((o:Int)=4)=false:=by rw[decide_eq_false_iff_not];omega
 have e3:decide ((o:Int)=5)=false:=by rw[decide_eq_false_iff_not];omega
 have e4:decide ((o:Int)=16)=false:=by rw[decide_eq_false_iff_not];omega
 have e5:decide ((o:Int)=17)=false:=by rw[decide_eq_false_iff_not];omega
 have e6:decide ((1:Int)≤(o:Int))=true:=by rw[decide_eq_true_iff];omega
 have e7:decide ((o:Int)≤20)=true:=by rw[decide_eq_true_iff];omega
 have e8:decide (((0:Nat):Int)=0)=true:=rfl
 simp only[go_sem,j0k,hB,eNode,bare,nat,e1,e2,e3,e4,e5,e6,e7,e8,decide_true]
 rw[z0e]
 exact hT _
theorem v7y {V:List Var} {n:Node} {ss:List Nat} {s:Nat} {ks:Term} (hn:NodeOk V n ss s ks) (hV:∀ v∈V,v∈U):Pure Gam 216 [eNode n] (.bool true):=by
 cases hn with
 | bool h=>exact z2u (by omega)
 | not=>exact z2u (by omega)
 | andor h=>exact z2u (by omega)
 | imp=>exact z2u (by omega)
 | ite h1 h2=>exact z2u (by omega)
 | eq h1 h2=>exact z2u (by omega)
 | cmp h hs=>exact z2u (by omega)
 | add h hs=>exact z2u (by omega)
 | mul hs hn=>exact z2u (by omega)
 | select=>exact z2u (by omega)
 | store=>exact z2u (by omega)
 | const=>exact z2u (by omega)
 | int h=>
   refine Pure.of rfl k1g rfl rfl rfl rfl rfl fun D B clk T hB hT=> ?_
   simp only[go_sem,j0k,hB,eNode,nat,Int.cast_ofNat_Int,Int.reduceEq,decide_true,decide_false,z0a (j0n h)]
   rw[z0e]
   exact hT _
 | real h=>
   refine Pure.of rfl k1g rfl rfl rfl rfl rfl fun D B clk T hB hT=> ?_
   simp only[go_sem,j0k,hB,eNode,nat,Int.cast_ofNat_Int,Int.reduceEq,decide_true,decide_false,z0a (x7v h)]
   rw[z0e]
   exact hT _
 | var h=>
   refine Pure.of rfl k1g rfl rfl rfl rfl rfl fun D B clk T hB hT=> ?_
   have hs:=q5d (hV _ h)
   have h1:=v7x hs.1 hs.2
   rw[nat] at h1
   simp only[go_sem,j0k,hB,eNode,nat,Int.cast_ofNat_Int,Int.reduceEq,decide_true,decide_false,z0a h1,z0a (j0r (hV _ h))]
   rw[z0e]
   exact hT _
 | @div o k _ ho h1 h5=>
   refine Pure.of rfl k1g rfl rfl rfl rfl rfl fun D B clk T hB hT=> ?_
   have hp1:Pure Gam 277 [.str (dec k)] (.bool true):=by
    have:=k1h (z:=(k:Int)) (by rw[Int.natAbs_natCast,z9q (by omega)];simp)
    rwa [z3d,if_neg (by omega),Int.natAbs_natCast] at this
   have hp2:=v7v h1 h5
   have e1:decide ((o:Int)=3)=false:=by rw[decide_eq_false_iff_not];omega
   have e2:decide ((o:Int)=4)=false:=by rw[decide_eq_false_iff_not];omega
   have e3:decide ((o:Int)=5)=false:=by rw[decide_eq_false_iff_not];omega
   have e8:decide (((0:Nat):Int)=0)=true:=rfl
   rcases ho with rfl | rfl
   ·simp only[go_sem,j0k,hB,eNode,nat,Int.cast_ofNat_Int,Int.reduceEq,Int.reduceLT,decide_true,decide_false,e8,z0a hp1,z0a hp2]
    rw[z0e]
    exact hT _
   ·simp only[go_sem,j0k,hB,eNode,nat,Int.cast_ofNat_Int,Int.reduceEq,Int.reduceLT,decide_true,decide_false,e8,z0a hp1,z0a hp2]
    rw[z0e]
    exact hT _
end
theorem v7z {V:List Var} {n:Node} {ss:List Nat} {s:Nat} {ks:Term} (hn:NodeOk V n ss s ks):Pure Gam 217 [nat n.op,nat n.kids] (.bool true):=by
 refine Pure.of rfl y7i rfl rfl rfl rfl rfl fun D B clk T hB hT=> ?_
 have e0:decide (((0:Nat):Int)=0)=true:=rfl
 cases hn with
 | bool h=>
   rcases h with rfl | rfl
   all_goals
    simp only[go_sem,x1e,nat,bare,Int.cast_ofNat_Int,Int.reduceEq,decide_true,decide_false]
    rw[z0e]
    exact hT _
 | int h=>
   simp only[go_sem,x1e,nat,Int.cast_ofNat_Int,Int.reduceEq,decide_true,decide_false]
   rw[z0e]
   exact hT _
 | real h=>
   simp only[go_sem,x1e,nat,Int.cast_ofNat_Int,Int.reduceEq,decide_true,decide_false]
   rw[z0e]
   exact hT _
 | var h=>
   simp only[go_sem,x1e,nat,Int.cast_ofNat_Int,Int.reduceEq,decide_true,decide_false]
   rw[z0e]
   exact hT _
 | andor h=>
   rcases h with rfl | rfl
   all_goals
    simp only[go_sem,x1e,nat,bare,Int.cast_ofNat_Int,Int.reduceEq,decide_true,decide_false]
    rw[z0e]
    exact hT _
 | cmp h hs=>
   rcases h with rfl | rfl
   all_goals
    simp only[go_sem,x1e,nat,bare,Int.cast_ofNat_Int,Int.reduceEq,decide_true,decide_false]
    rw[z0e]
    exact hT _
 | @add k _ _ h hs=>
   have e1:decide ((1:Int)≤(k:Int))=true:=by rw[decide_eq_true_iff];omega
   simp only[go_sem,x1e,nat,bare,Int.cast_ofNat_Int,Int.reduceEq,decide_true,decide_false,e1]
   rw[z0e]
   exact hT _
 | div h h1 h5=>
   rcases h with rfl | rfl
   all_goals
    simp only[go_sem,x1e,nat,Int.cast_ofNat_Int,Int.reduceEq,decide_true,decide_false]
    rw[z0e]
    exact hT _
 | _=>
   simp only[go_sem,x1e,nat,bare,Int.cast_ofNat_Int,Int.reduceEq,decide_true,decide_false]
   rw[z0e]
   exact hT _
theorem q5e {l:List Nat}:idsL (l.map nat)=[]:=z0c fun _=>rfl
theorem v1f {k s:Nat}:∀ x∈List.replicate k s,x=s:=fun _ hx=>(List.mem_replicate.1 hx).2
theorem k7f {k s:Nat} {h:List AObj} {t:Tip} (hk:1≤k):z1m h 1 (.sl ((List.replicate k s).map nat) t) (.int .i64 0)=some (.iptr [.int .i64 (s:Int)] 0,h):=by
 obtain⟨k,rfl⟩:∃ j,k=j + 1:=⟨k - 1,by omega⟩
 exact z5q (i:=0) (e:=nat s) rfl rfl
theorem v8a {V:List Var} {n:Node} {ss:List Nat} {s:Nat} {ks:Term} {t:Tip} (hn:NodeOk V n ss s ks) (hl:ss.length≤2 ^ 20):Pure Gam 218 [eNode n, .sl (ss.map nat) t] (.int .i64 (s:Int)):=by
 refine Pure.of rfl y7j rfl rfl rfl (az:=[eNode n, .sl (ss.map nat) .no]) (by simp[cvL,k0l,AV.cv]) (by simp[idsL,z1y,AV.ids,q5e]) fun D B clk T hB hT=> ?_
 cases hn with
 | bool h=>
   have hp:=q2d (ss:=[]) (s:=1) (t:= .no) (by simp) (by simp)
   rw[List.map_nil,nat,Int.cast_ofNat_Int] at hp
   rcases h with rfl | rfl
   all_goals
    simp only[go_sem,q2b,hB,eNode,nat,bare,Int.cast_ofNat_Int,Int.reduceEq,decide_true,decide_false,z0a hp,z0a z2o]
    rw[z2m]
    exact hT _
 | int h=>
   simp only[go_sem,q2b,hB,eNode,nat,Int.cast_ofNat_Int,Int.reduceEq,decide_true,decide_false]
   rw[z2m]
   exact hT _
 | real h=>
   simp only[go_sem,q2b,hB,eNode,nat,Int.cast_ofNat_Int,Int.reduceEq,decide_true,decide_false]
   rw[z2m]
   exact hT _
 | var h=>
   simp only[go_sem,q2b,hB,eNode,nat,Int.cast_ofNat_Int,Int.reduceEq,decide_true,decide_false]
   rw[z2m]
   exact hT _
 | not=>
   have hp:=q2d (ss:=[1]) (s:=1) (t:= .no) (by simp) (by simp)
   rw[List.map_cons,List.map_nil,nat,Int.cast_ofNat_Int] at hp
   simp only[go_sem,q2b,hB,eNode,nat,bare,Int.cast_ofNat_Int,Int.reduceEq,decide_true,decide_false,z0a hp,z0a z2o]
   rw[z2m]
   exact hT _
 | @andor o k _ h=>
   have hp:=q2d (ss:=List.replicate k 1) (s:=1) (t:= .no) v1f hl
   rw[show nat 1= .int .i64 1 from rfl] at hp
   rcases h with rfl | rfl
   all_goals
    simp only[go_sem,z0,z1,z2,z3,reduceCtorEq,↓reduceIte,q2b,hB,eNode,nat,bare,Int.cast_ofNat_Int,Int.reduceEq,decide_true,decide_false,z0a hp,z0a z2o]
    rw[z2m]
    exact hT _
 | imp=>
   have hp:=q2d (ss:=[1,1]) (s:=1) (t:= .no) (by simp) (by simp)
   rw[List.map_cons,List.map_cons,List.map_nil,nat,Int.cast_ofNat_Int] at hp
   simp only[go_sem,q2b,hB,eNode,nat,bare,Int.cast_ofNat_Int,Int.reduceEq,decide_true,decide_false,z0a hp,z0a z2o]
   rw[z2m]
   exact hT _
 | @ite s _ h1 h2=>
   have e1:decide ((s:Int)=(s:Int))=true:=by simp
   simp only[go_sem,q2b,hB,eNode,nat,bare,Int.cast_ofNat_Int,Int.reduceEq,decide_true,decide_false,z2n,q0n,q9x,z0a z2o]
   rw[z2m]
   exact hT _
 | @eq s _ h1 h2=>
   simp only[go_sem,q2b,hB,eNode,nat,bare,Int.cast_ofNat_Int,Int.reduceEq,decide_true,decide_false,z2n,q0n,z0a z2o]
   rw[z2m]
   exact hT _
 | @cmp o s _ h hs=>
   have hp:=q2d (ss:=[s,s]) (s:=s) (t:= .no) (by simp) (by simp)
   have hp2:=j0q hs
   rw[List.map_cons,List.map_cons,List.map_nil,nat] at hp
   rw[nat] at hp2
   rcases h with rfl | rfl
   all_goals
    simp only[go_sem,q2b,hB,eNode,nat,bare,Int.cast_ofNat_Int,Int.reduceEq,decide_true,decide_false,z2n,z0a hp,z0a hp2,z0a z2o]
    rw[z2m]
    exact hT _
 | @add k s _ h hs=>
   have hp:=q2d (ss:=List.replicate k s) (s:=s) (t:= .no) v1f hl
   have hp2:=j0q hs
   have e1:∀ h',z1m h' 1 (.sl ((List.replicate k s).map nat) .no) (.int .i64 0)=some (.iptr [.int .i64 (s:Int)] 0,h'):=fun h'=>k7f h
   rw[show nat s= .int .i64 (s:Int) from rfl] at hp hp2
   have hX:idsL ((List.replicate k s).map nat)=[]:=q5e
   generalize (List.replicate k s).map nat=X at hp e1 hX
   simp only[go_sem,q2b,hB,z1i,eNode,nat,bare,Int.cast_ofNat_Int,Int.reduceEq,decide_true,decide_false,e1,z0a hp,z0a hp2,z0a z2o]
   refine⟨by simp[z1f,apart,z0i,z1d,z1h,AOp.isCall,hB,AV.ids,hX], ?_⟩
   rw[z2m]
   exact hT _
 | @mul s m _ hs hm=>
   have hp:=q2d (ss:=[s,s]) (s:=s) (t:= .no) (by simp) (by simp)
   have hp2:=j0q hs
   rw[List.map_cons,List.map_cons,List.map_nil,nat] at hp
   rw[nat] at hp2
   simp only[go_sem,q2b,hB,z1i,eNode,nat,bare,Int.cast_ofNat_Int,Int.reduceEq,decide_true,decide_false,z2n,z0a hp,z0a hp2,z0a z2o]
   refine⟨by simp[z1f,apart,z0i,z1d,z1h,AOp.isCall,hB,AV.ids,idsL], ?_⟩
   rw[z2m]
   exact hT _
 | div h h1 h5=>
   rcases h with rfl | rfl
   all_goals
    simp only[go_sem,q2b,hB,eNode,nat,Int.cast_ofNat_Int,Int.reduceEq,decide_true,decide_false,z2n,z0a z2o]
    rw[z2m]
    exact hT _
 | select=>
   simp only[go_sem,q2b,hB,eNode,nat,bare,Int.cast_ofNat_Int,Int.reduceEq,decide_true,decide_false,z2n,q0n,z0a z2o]
   rw[z2m]
   exact hT _
 | store=>
   obtain⟨u,hu⟩:∃ u,∀ h:List AObj,slV h (some 1) (.sl [.int .i64 4, .int .i64 2, .int .i64 2] .no) (some (.int .i64 1)) none none=some (.sl [.int .i64 2, .int .i64 2] u,h):=⟨.no,fun h=>by simp[slV,z2v,z4v,z4l,AV.cells]⟩
   have hp:=q2d (ss:=[2,2]) (s:=2) (t:=u) (by simp) (by simp)
   rw[List.map_cons,List.map_cons,List.map_nil,nat,Int.cast_ofNat_Int] at hp
   simp only[go_sem,q2b,hB,eNode,nat,bare,Int.cast_ofNat_Int,Int.reduceEq,decide_true,decide_false,z2n,hu,z0a hp,z0a z2o]
   rw[z2m]
   exact hT _
 | const=>
   simp only[go_sem,q2b,hB,eNode,nat,bare,Int.cast_ofNat_Int,Int.reduceEq,decide_true,decide_false,z2n,z0a z2o]
   rw[z2m]
   exact hT _
section
variable {U:List Var} [UOk U]
structure Tr where
 s:Nat
 len:Nat
 dep:Nat
def z9h (F:List Tr):Nat:=(F.map (·.len)).sum
theorem y1z:z9h []=0:=rfl
theorem q5f {f:Tr} {F:List Tr}:z9h (f::F)=f.len + z9h F:=by simp[z9h]
theorem q9y {F G:List Tr}:z9h (F++G)=z9h F + z9h G:=by simp[z9h]
theorem k1p {F:List Tr} {j:Nat} (hj:j < F.length):z9h (F.take (j + 1))=z9h (F.take j) + F[j].len:=by
 rw[List.take_succ_eq_append_getElem hj,q9y]
 simp[z9h]
def z4i (i:Nat):List Tr→List Nat
 | []=>[]
 | f::F=>i::z4i (i + f.len) F
theorem q0o {i:Nat} {F:List Tr}:(z4i i F).length=F.length:=by
 induction F generalizing i with
 | nil=>rfl
 | cons f F ih=>simp[z4i,ih]
theorem q5g {i:Nat} {F G:List Tr}:z4i i (F++G)=z4i i F++z4i (i + z9h F) G:=by
 induction F generalizing i with
 | nil=>rfl
 | cons f F ih=>simp only[List.cons_append,z4i,ih,q5f,Nat.add_assoc]
theorem j6u {i j:Nat} {F:List Tr} (hj:j < F.length):(z4i i F)[j]? =some (i + z9h (F.take j)):=by
 induction F generalizing i j with
 | nil=>simp at hj
 | cons f F ih=>
   cases j with
   | zero=>simp[z4i,z9h]
   | succ j=>
     simp only[z4i,List.getElem?_cons_succ,List.take_succ_cons,q5f]
     rw[ih (by simpa using hj),Nat.add_assoc]
structure Pt where
 sort:Nat
 depth:Nat
 fin:Nat
def ePt (p:Pt):AV:= .agg [.int .i64 (p.sort:Int), .int .i64 (p.depth:Int), .int .i64 (p.fin:Int)]
def PartsOk (P:List Pt) (i:Nat) (F:List Tr):Prop:=∀ j f,F[j]? =some f→P[i + z9h (F.take j)]? =some ⟨f.s,f.dep,i + z9h (F.take j) + f.len⟩
theorem PartsOk.nil {P:List Pt} {i:Nat}:PartsOk P i []:=fun j f h=>by simp at h
theorem PartsOk.node {P:List Pt} {i:Nat} {K G:List Tr} {s dep:Nat} (h:PartsOk P (i + 1) (K++G)) (hi:i < P.length):PartsOk (P.set i ⟨s,dep,i + (1 + z9h K)⟩) i (⟨s,1 + z9h K,dep⟩::G):=by
 intro j f hj
 cases j with
 | zero=>
   simp at hj
   subst hj
   simp[z9h,hi]
 | succ j=>
   simp only[List.getElem?_cons_succ] at hj
   have:=h (K.length + j) f (by rw[List.getElem?_append_right (by omega)];simpa using hj)
   rw[List.take_append,List.take_of_length_le (by omega),q9y,show K.length + j - K.length=j by omega] at this
   simp only[List.take_succ_cons,q5f]
   rw[List.getElem?_set_ne (by omega)]
   rw[show i + (1 + z9h K + z9h (G.take j))=i + 1 + (z9h K + z9h (G.take j)) by omega]
   exact this
theorem NodeOk.pos {V:List Var} {n:Node} {ss:List Nat} {s:Nat} {ks:Term} (hn:NodeOk V n ss s ks) (hV:∀ v∈V,v∈U):1≤s∧s≤4:=by
 cases hn with
 | var h=>exact q5d (hV _ h)
 | cmp h hs=>omega
 | add h hs=>omega
 | mul hs hn=>omega
 | ite h1 h2=>omega
 | eq h1 h2=>omega
 | _=>omega
theorem NodeOk.mul_num {V:List Var} {n:Node} {ss:List Nat} {s:Nat} {ks:Term} (hn:NodeOk V n ss s ks) (h:n.op=15):∃ m r,ks=m::r∧m.op=3:=by
 cases hn with
 | mul hs hm=>exact⟨_,_,rfl,hm⟩
 | bool h'=>exact absurd h (by simp[bare];omega)
 | andor h'=>exact absurd h (by simp[bare];omega)
 | cmp h' _=>exact absurd h (by simp[bare];omega)
 | div h' _ _=>exact absurd h (by simp;omega)
 | _=>simp[bare] at h
def k1q (B i:Nat) (F:List Tr) (r:AV) (o:AObj):Prop:=(F=[]∧r= .sl [] .nil)∨(F≠[]∧∃ g,r= .ob (B + 9) g 0 F.length∧o= .blk g ((z4i i F).reverse.map nat) true true 0)
def z7u (D:List AObj) (B:Nat) (t:Term) (gP gV g2:Nat) (P:List Pt) (o3 o4 o5 o6 o7 o8 o9:AObj):List AObj:=
 D++[.blk gP (P.map ePt) true false 0, .blk gV [.agg [z0l t, .ob (B + 0) gP 0 t.length]] false false 0, .blk g2 [.ptr (B + 1) gV 0 0] false false 0,o3,o4,o5,o6,o7,o8,o9]
def j3x (D:List AObj) (B:Nat) (t:Term) (gP gV g2:Nat) (i:Nat) (F:List Tr) (q:St):Prop:=
 ∃ P o3 o4 o5 o6 o7 o8 o9,P.length=t.length∧PartsOk P i F∧q.ts 0=z0l t∧q.ts 4= .ptr (B + 2) g2 0 0∧q.ts 6= .int .i64 ((i:Int) - 1)∧k1q B i F (q.ts 5) o9∧q.h=z7u D B t gP gV g2 P o3 o4 o5 o6 o7 o8 o9
theorem j0s {D:List AObj} {B:Nat} {t:Term} {gP gV g2 i:Nat} {K G:List Tr} {r:AV} {o:AObj} (hB:D.length=B) (hr:k1q B (i + 1) (K++G) r o) (hl:(K++G).length≤2 ^ 20):
  (∀ h,k9k h .sl r=some (.int .i64 ((K++G).length:Int),h))∧
  ∃ kv rv:AV,(∀ P o3 o4 o5 o6 o7 o8,slV (z7u D B t gP gV g2 P o3 o4 o5 o6 o7 o8 o) (some 1) r (some (.int .i64 (G.length:Int))) none none=some (kv,z7u D B t gP gV g2 P o3 o4 o5 o6 o7 o8 o))∧
    (∀ P o3 o4 o5 o6 o7 o8,slV (z7u D B t gP gV g2 P o3 o4 o5 o6 o7 o8 o) (some 1) r none (some (.int .i64 (G.length:Int))) none=some (rv,z7u D B t gP gV g2 P o3 o4 o5 o6 o7 o8 o))∧
    z7c kv=some K.length∧
    (∀ j P o3 o4 o5 o6 o7 o8,j < K.length→q6n (z7u D B t gP gV g2 P o3 o4 o5 o6 o7 o8 o) kv (K.length - 1 - j)=some (nat (i + 1 + z9h (K.take j))))∧
    (∀ (f:Tr) P o3 o4 o5 o6 o7 g8 gen,f.len=1 + z9h K→z1g (z7u D B t gP gV g2 P o3 o4 o5 o6 o7 (.blk g8 [nat i] true false 0) o) (B + 9) gen 1 8 true rv (.ob (B + 8) g8 0 1)=some (.ob (B + 9) gen 0 (G.length + 1),z7u D B t gP gV g2 P o3 o4 o5 o6 o7 (.blk g8 [nat i] true false 0) (.blk gen ((z4i i (f::G)).reverse.map nat) true true 0))):=by
 have hsrc:∀ P o3 o4 o5 o6 o7 g8,z5a (z7u D B t gP gV g2 P o3 o4 o5 o6 o7 (.blk g8 [nat i] true false 0) o) (.ob (B + 8) g8 0 1)=some [nat i]:=fun P o3 o4 o5 o6 o7 g8=>
  z9a (k:=8) (es:=[nat i]) (w:=false) hB rfl rfl
 rcases hr with ⟨hF,rfl⟩ | ⟨hF,g,rfl,rfl⟩
 ·have hK:K=[]:=(List.append_eq_nil_iff.1 hF).1
  have hG:G=[]:=(List.append_eq_nil_iff.1 hF).2
  subst hK;subst hG
  refine⟨fun h=>rfl, .sl [] .nil, .sl [] .nil,fun _ _ _ _ _ _ _=>rfl,fun _ _ _ _ _ _ _=>rfl,rfl,fun j _ _ _ _ _ _ _ hj=>by simp at hj,fun f P o3 o4 o5 o6 o7 g8 gen hf=> ?_⟩
  unfold z1g
  rw[hsrc]
  simp[z0t,nat,AV.def?,AV.cells,AV.one,z1c,z7u,z5i hB,z4i]
 ·have hN:(K++G).length=K.length + G.length:=List.length_append
  have hgr:(z7u D B t gP gV g2 [] .dead .dead .dead .dead .dead .dead (.blk g ((z4i (i + 1) (K++G)).reverse.map nat) true true 0)).length=B + 10:=by simp[z7u,hB]
  have hblk:∀ P o3 o4 o5 o6 o7 o8,z2a (z7u D B t gP gV g2 P o3 o4 o5 o6 o7 o8 (.blk g ((z4i (i + 1) (K++G)).reverse.map nat) true true 0)) (B + 9) g=some ((z4i (i + 1) (K++G)).reverse.map nat,true,true,0):=fun P o3 o4 o5 o6 o7 o8=>by
   unfold z7u
   rw[z6w hB]
   simp[z2a]
  have hlen:((z4i (i + 1) (K++G)).reverse.map nat).length=(K++G).length:=by simp[q0o]
  have hhead:z4l 1 ((z4i (i + 1) (K++G)).reverse.map nat)=true:=by
   cases (z4i (i + 1) (K++G)).reverse <;> rfl
  have hall:z0t 1 ((z4i (i + 1) (K++G)).reverse.map nat)=true:=z3y
  refine⟨fun h=>rfl, .ob (B + 9) g G.length K.length, .ob (B + 9) g 0 G.length,fun P o3 o4 o5 o6 o7 o8=> ?_,fun P o3 o4 o5 o6 o7 o8=> ?_, ?_,fun j P o3 o4 o5 o6 o7 o8 hj=> ?_,fun f P o3 o4 o5 o6 o7 g8 gen hf=> ?_⟩
  ·simp only[slV,z2v,hblk,z4v,Int.natCast_nonneg,if_true,Int.toNat_natCast]
   rw[if_pos ⟨by omega,hhead,by omega,by omega⟩,Option.map_some]
   rw[Nat.zero_add,show (K++G).length - G.length=K.length by omega]
  ·simp only[slV,z2v,hblk,z4v,Int.natCast_nonneg,if_true,Int.toNat_natCast]
   rw[if_pos ⟨by omega,hhead,by omega,by omega⟩,Option.map_some]
   rfl
  ·simp only[z7c]
   rw[if_pos (by omega)]
  ·unfold q6n
   simp only[z5a,q7e,hblk]
   rw[if_pos (by omega)]
   have h1:(((List.map nat (z4i (i + 1) (K++G)).reverse).drop G.length).take K.length)[K.length - 1 - j]? =some (nat (i + 1 + z9h (K.take j))):=by
    rw[List.getElem?_take_of_lt (by omega),List.getElem?_drop,List.getElem?_map,List.getElem?_reverse (by rw[q0o];omega),q0o,show (K++G).length - 1 - (G.length + (K.length - 1 - j))=j by omega,q5g,List.getElem?_append_left (by rw[q0o];omega),j6u hj]
    rfl
   simp only[h1]
   rfl
  ·have hGK:(List.map nat (z4i (i + 1) (K++G)).reverse).take G.length=(z4i (i + 1 + z9h K) G).reverse.map nat:=by
    rw[←List.map_take,q5g,List.reverse_append,List.take_left' (by simp[q0o])]
   have hnew:(z4i i (f::G)).reverse.map nat=(z4i (i + 1 + z9h K) G).reverse.map nat++[nat i]:=by
    rw[z4i,hf,List.reverse_cons,List.map_append,show i + (1 + z9h K)=i + 1 + z9h K by omega]
    rfl
   unfold z1g
   rw[hsrc]
   have hpos:0 < (K++G).length:=List.length_pos_iff.2 hF
   have hgt:¬ (G.length + 1) * (8 + 1) > z1c:=by unfold z1c;omega
   have ha1:z0t 1 [nat i]=true:=rfl
   simp only[ha1,hblk,hall,List.length_singleton,decide_eq_true_eq,hgt,Bool.not_true,Bool.false_eq_true,if_false,beq_self_eq_true,decide_false,Bool.or_self,List.isEmpty_cons,if_true,Nat.zero_le,hlen,true_and]
   rw[if_pos ⟨by omega,hpos⟩,hGK,←hnew]
   congr 2
   simp only[z7u,z5i hB,List.set_cons_succ,List.set_cons_zero]
end
end Go.Proofs.YtahdahokpjigiaaGreatDoor.Am
