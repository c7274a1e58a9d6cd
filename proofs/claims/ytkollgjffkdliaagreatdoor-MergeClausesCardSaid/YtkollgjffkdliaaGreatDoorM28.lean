/- Walking: calls that look at objects and change none Functions of the abstract machine's program Walking: slices Walking: nodes are permitted, and have their sorts Walking: nodes are permitted, and hav -/
import Derived.Test.YtkollgjffkdliaaGreatDoorM27
open Bool renaming false_eq_true → y6,not_eq_true' → p7,not_true → z7
open Int renaming cast_ofNat_Int → z9,natAbs_natCast → m8,reduceEq → z8,reduceLT → d9,reduceNegSucc → z5,reduceOfNat → z4,toNat_natCast → i6
open List renaming all_eq_true → d6,append_eq_nil_iff → z02,drop_eq_getElem_cons → p9,drop_zero → d7,getElem?_append_left → l8,getElem?_append_right → m0,getElem?_cons_succ → i9,getElem?_eq_some_iff → k7,getElem?_map → l6,getElem_mem → j9,length_append → y5,length_cons → u6,length_map → z6,length_singleton → w0,map_append → v5,map_cons → k8,map_nil → w7,mem_append → j6,mem_cons → y3,mem_cons_of_mem → u0,mem_cons_self → v9,mem_map → y8,nil_append → d3,not_mem_nil → s7,replicate → j1,take_succ_eq_append_getElem → w8
open Nat renaming le_refl → j8,sub_self → d8,zero_add → y4,zero_le → m7
open Option renaming getD_some → n5,map_some → k6
open Nat renaming reduceBEq → z0,reduceAdd → z1,reduceLeDiff → z2,reduceSub → z3
set_option linter.all false
namespace Go.Proofs.YtkollgjffkdliaaGreatDoor.Am
open Go
noncomputable section
set_option maxRecDepth 100000
def Has (S:List (Nat×AObj)) (h:List AObj):Prop:=∀ p∈S,h[p.1]? =some p.2
theorem Has.lt {S:List (Nat×AObj)} {h:List AObj} (hS:Has S h):∀ p∈S,p.1 < h.length:=fun p hp=>by
 have:=hS p hp
 rw[k7] at this
 exact this.1
theorem Has.app {S:List (Nat×AObj)} {D L:List AObj} (hS:Has S D):Has S (D++L):=fun p hp=>by
 rw[l8 (hS.lt p hp)]
 exact hS p hp
theorem Has.nil {h:List AObj}:Has [] h:=fun p hp=>by simp at hp
theorem Has.cons {p:Nat×AObj} {S:List (Nat×AObj)} {h:List AObj} (h1:h[p.1]? =some p.2) (h2:Has S h):Has (p::S) h:=fun q hq=>by
 rw[y3] at hq
 rcases hq with rfl | hq
 ·exact h1
 ·exact h2 q hq
theorem z4d {h:List AObj}:∀ {n:Nat} {seen z7l:List Nat} {s:Nat},s∈seen∨s∈z7l→s∈reach h n seen z7l
 | 0,seen,z7l,s,hs=>by
   simp only[reach,j6]
   exact hs
 | n + 1,seen,[],s,hs=>by
   simp only[reach]
   simpa using hs
 | n + 1,seen,t::z7l,s,hs=>by
   simp only[reach]
   split
   ·rename_i hc
    refine z4d ?_
    rcases hs with hs | hs
    ·exact .inl hs
    ·rw[y3] at hs
     rcases hs with rfl | hs
     ·exact .inl (by simpa using hc)
     ·exact .inr hs
   ·refine z4d ?_
    rcases hs with hs | hs
    ·exact .inl (u0 _ hs)
    ·rw[y3] at hs
     rcases hs with rfl | hs
     ·exact .inl v9
     ·exact .inr (List.mem_append_right _ hs)
theorem z9i {h:List AObj} {n s:Nat} {seen z7l:List Nat} {o:AObj} (hns:s∉seen) (ho:h[s]? =some o):reach h (n + 1) seen (s::z7l)=reach h n (s::seen) (o.ids++z7l):=by
 simp[reach,hns,ho]
theorem q5z {h:List AObj} {S:List (Nat×AObj)} (hS:Has S h) (hc:∀ p∈S,∀ i∈p.2.ids,i∈S.map (·.1)):∀ {n:Nat} {seen z7l:List Nat},(∀ i∈seen,i∈S.map (·.1))→(∀ i∈z7l,i∈S.map (·.1))→∀ i∈reach h n seen z7l,i∈S.map (·.1)
 | 0,seen,z7l,h1,h2,i,hi=>by
   simp only[reach,j6] at hi
   exact hi.elim (h1 i) (h2 i)
 | n + 1,seen,[],h1,h2,i,hi=>by
   simp only[reach] at hi
   exact h1 i hi
 | n + 1,seen,t::z7l,h1,h2,i,hi=>by
   simp only[reach] at hi
   split at hi
   ·exact q5z hS hc h1 (fun j hj=>h2 j (u0 _ hj)) i hi
   ·have ht:=h2 t v9
    obtain⟨p,hp,rfl⟩:=y8.1 ht
    rw[hS p hp] at hi
    refine q5z hS hc (fun j hj=> ?_) (fun j hj=> ?_) i hi
    ·rw[y3] at hj
     rcases hj with rfl | hj
     ·exact ht
     ·exact h1 j hj
    ·simp only[k6,n5,j6] at hj
     rcases hj with hj | hj
     ·exact hc p hp j hj
     ·exact h2 j (u0 _ hj)
structure Cov (S:List (Nat×AObj)) (ids:List Nat):Prop where
 root:∀ i∈ids,i∈S.map (·.1)
 closed:∀ p∈S,∀ i∈p.2.ids,i∈S.map (·.1)
 cover:∀ h,Has S h→∀ p∈S,p.1∈reach h (h.length + 1) [] ids
theorem Cov.one {s:Nat} {o:AObj} (ho:o.ids=[]):Cov [(s,o)] [s]:=by
 refine⟨by simp,by simp[ho],fun h hS p hp=> ?_⟩
 simp at hp
 subst hp
 exact z4d (.inr v9)
theorem Cov.two {s t:Nat} {o q:AObj} (ho:o.ids=[t]) (hq:q.ids=[]):Cov [(s,o),(t,q)] [s]:=by
 refine⟨by simp,by simp[ho,hq],fun h hS p hp=> ?_⟩
 have h1:h[s]? =some o:=hS (s,o) (by simp)
 have hr:reach h (h.length + 1) [] [s]=reach h h.length [s] [t]:=by rw[z9i (by simp) h1,ho];rfl
 rw[hr]
 simp at hp
 rcases hp with rfl | rfl
 ·exact z4d (.inl v9)
 ·exact z4d (.inr v9)
def Reads (S:List (Nat×AObj)) (f:Nat) (args:List AV) (v:AV):Prop:=
 ∀ h clk,Has S h→(∃ k,z5c Gam k f args h clk=some (v,h,clk))∧∀ x∈z0y Gam f args h,x∈S.map (·.1)
theorem x4h {T:List Nat}:∀ {h h':List AObj} {k:Nat},(∀ i,i < h.length→T.contains (k + i)=true→h'[i]? =h[i]?)→z0u T k h h'=h
 | [],[],_,_=>rfl
 | [],_::_,_,_=>rfl
 | o::h,[],_,_=>rfl
 | o::h,o'::h',k,hh=>by
   have h0:T.contains k=true→o'=o:=fun hc=>by simpa using hh 0 (by simp) hc
   have h1:=x4h (T:=T) (h:=h) (h':=h') (k:=k + 1) fun i hi hc=>by
    have:=hh (i + 1) (by simpa using hi) (by rw[show k + (i + 1)=k + 1 + i by omega];exact hc)
    simpa using this
   simp only[z0u,h1]
   split
   ·rename_i hc
    rw[h0 hc]
   ·rfl
theorem Reads.of {S:List (Nat×AObj)} {f:Nat} {args az:List AV} {v:AV} {af:AFun} (hext:Gam.ext f=none) (hfn:Gam.fn f=some af) (hb:af.byref=[]) (ho:af.owned=false) (hobs:z3x args=[]) (has:cvL args=az) (hC:Cov S (idsL az))
  (hw:∀ (D:List AObj) (B clk:Nat) (R:AV→List AObj→Prop),D.length=B→Has S D→(∀ p∈S,p.1 < B)→(∀ h',Has S h'→R v h')→K Gam B af.body [] ⟨q0u az,D++j1 af.nslots .dead,clk⟩ (k0o (S.map (·.1)) af.results R)):Reads S f args v:=by
 intro h clk hS
 have hp:z1i h af.byref 0 args=some az:=by rw[hb,z1p hobs,has]
 have hl:z0p af.byref 0 args=[]:=by rw[hb];exact z4s hobs
 have hTS:∀ i∈reach h (h.length + 1) [] (idsL az),i∈S.map (·.1):=q5z hS hC.closed (by simp) hC.root
 refine⟨?_, ?_⟩
 ·have hmask:Has S (maskFrom (reach h (h.length + 1) [] (idsL az)) 0 h):=fun p hp'=>by
   rw[x0k (by rw[y4,List.contains_eq_mem];exact decide_eq_true (hC.cover h hS p hp'))]
   exact hS p hp'
  obtain⟨k,e,s1,he,hend⟩:=hw (maskFrom (reach h (h.length + 1) [] (idsL az)) 0 h) _ clk (fun v' h'=>v'=v∧Has S h') rfl hmask (fun p hp'=>by rw[z5f];exact hS.lt p hp') (fun h' hh=>⟨rfl,hh⟩)
  obtain⟨hne,vs,v',hr,hc,hv,hno,rfl,hS'⟩:=q8t hend
  rw[z5f] at he
  refine⟨k, ?_⟩
  have hfz:∀ p∈S,(freezeAll s1.h (z1j vs).obs)[p.1]? =some p.2:=fun p hp'=>by
   rw[q3c]
   ·exact hS' p hp'
   ·rw[d6]
    intro q hq
    have:=hno
    simp only[x3v,d6] at this
    have hq':=this q hq
    simp only[p7,List.contains_eq_mem,z03,y8] at hq'
    simp only[p7,List.contains_eq_mem,z03,List.mem_singleton]
    exact fun hqp=>hq' ⟨p,hp',hqp.symm⟩
  have hm:z0u (reach h (h.length + 1) [] (idsL az)) 0 h (freezeAll s1.h (z1j vs).obs)=h:=by
   refine x4h fun i hi hc'=> ?_
   rw[y4,List.contains_eq_mem,z04] at hc'
   obtain⟨p,hp',rfl⟩:=y8.1 (hTS i hc')
   rw[hfz p hp',hS p hp']
  have hall:((v'.ids++(List.map (fun i=>(Option.map AObj.ids (freezeAll s1.h (z1j vs).obs)[i]?).getD []) (reach h (h.length + 1) [] (idsL az))).flatten).all fun x=>decide (x < h.length))=true:=by
   rw[hv,d3,d6]
   intro x hx
   rw[List.mem_flatten] at hx
   obtain⟨l,hl',hxl⟩:=hx
   obtain⟨i,hi,rfl⟩:=y8.1 hl'
   obtain⟨p,hp',rfl⟩:=y8.1 (hTS i hi)
   rw[hfz p hp'] at hxl
   simp only[k6,n5] at hxl
   obtain⟨q,hq,rfl⟩:=y8.1 (hC.closed p hp' x hxl)
   exact decide_eq_true (hS.lt q hq)
  unfold z5c z0o
  simp only[hext,hfn,hp,hl,freezeAll,he,ho,y6,if_false,hr,hc,ite_self,hm]
  cases e with
  | exit i=>exact absurd rfl (hne i)
  | norm=>simp only[hall,if_true]
  | ret=>simp only[hall,if_true]
 ·intro x hx
  unfold z0y at hx
  simp only[hext,hfn,hp,hobs,w7,d3] at hx
  exact hTS x hx
theorem z1g {f base gg clk:Nat} {args:List AV} {S:List (Nat×AObj)} {h:List AObj} {v:AV} {dst:Option Nat} {os:List AOper} {ts:Tmps} {ks:List Kf} {Q:Post} (hr:Reads S f args v) (hh:Has S h):
  CK Gam base f args h clk .plain dst gg os ts ks Q=O Gam base .plain (gg + 1) os ⟨z8t ts dst v,h,clk⟩ ks Q:=by
 obtain⟨⟨k,hk⟩,_⟩:=hr h clk hh
 unfold CK
 apply propext
 constructor
 ·rintro ⟨k',v',h',c,hc,hq⟩
  have:=x0h hk hc
  simp only[Prod.mk.injEq] at this
  obtain⟨rfl,rfl,rfl⟩:=this
  exact hq
 ·intro hq
  exact⟨k,_,_,_,hk,hq⟩
theorem Pure.reads {S:List (Nat×AObj)} {f:Nat} {args:List AV} {v:AV} (hp:Pure Gam f args v):Reads S f args v:=fun h clk _=>⟨(hp h clk).1,by rw[(hp h clk).2];simp⟩
section
open Sh
set_option maxHeartbeats 0
def g1b:AFun:=(fun (a:AFun) (_:Gam.fn 89=some a)=>a) _ (by conv=>lhs;reduce;simp only[z4,z5])
theorem g4y:Gam.fn 89=some g1b:=by kernel_rfl
def g1c:AFun:=(fun (a:AFun) (_:Gam.fn 152=some a)=>a) _ (by conv=>lhs;reduce;simp only[z4,z5])
def x4i:ACode:=(fun (a:ACode) (_:fl [] (lp g1c 0)=a)=>a) _ (by conv=>lhs;reduce;simp only[z4,z5])
attribute [local irreducible] x4i
def y7a:AFun:=(fun (a:AFun) (_:flF [x4i] g1c=a)=>a) _ (by conv=>lhs;reduce;simp only[z4,z5])
theorem u7j:Gam.fn 152=some y7a:=by kernel_rfl
def q75:AFun:=(fun (a:AFun) (_:Gam.fn 114=some a)=>a) _ (by conv=>lhs;reduce;simp only[z4,z5])
def v0i:ACode:=(fun (a:ACode) (_:fl [] (lp q75 0)=a)=>a) _ (by conv=>lhs;reduce;simp only[z4,z5])
attribute [local irreducible] v0i
def g1d:AFun:=(fun (a:AFun) (_:flF [v0i] q75=a)=>a) _ (by conv=>lhs;reduce;simp only[z4,z5])
theorem g4z:Gam.fn 114=some g1d:=by kernel_rfl
def v0j:ACode:=(.seq (.region 1 [N 9 (.binOp .lss (.one .int) (.tmp 8) (.tmp 7))] []) (.seq (.cond (.tmp 9) .skip (.exit 0)) (.seq (.block 1 (.seq (.region 2 [M 10 8,M 5 10] []) (.seq (.region 6 [M 11 1,M 12 0,M 13 5,N 14 (.indexAddr none 1 (.tmp 12) (.tmp 13)),L 15 14,N 16 (.binOp .eql (.one .str) (.tmp 11) (.tmp 15))] []) (.cond (.tmp 16) (.seq (.region 2 [M 17 5,M 4 17] []) .ret) .skip)))) (.region 2 [N 18 (.binOp .add (.one .int) (.tmp 8) (I 1)),M 8 18] []))))
def g1e:AFun:=
 {ntmps:=19,nslots:=0,results:=[.tmp 4],byref:=[],owned:=false,
  body:=(.seq (.region 1 [N 4 (.move (I 0))] []) (.seq (.seq (.region 3 [M 6 0,N 7 (.len .sl (.tmp 6)),N 8 (.move (I 0))] []) (.block 0 (.loop v0j))) (.seq (.region 1 [N 4 (.move (I (-1)))] []) .ret)))}
theorem g5a:Gam.fn 100=some g1e:=by kernel_rfl
def w4r:AFun:=(fun (a:AFun) (_:Gam.fn 85=some a)=>a) _ (by conv=>lhs;reduce;simp only[z4,z5])
theorem g5b:Gam.fn 85=some w4r:=by kernel_rfl
def q38:AFun:=(fun (a:AFun) (_:Gam.fn 38=some a)=>a) _ (by conv=>lhs;reduce;simp only[z4,z5])
def v0k:ACode:=(fun (a:ACode) (_:fl [] (lp q38 0)=a)=>a) _ (by conv=>lhs;reduce;simp only[z4,z5])
attribute [local irreducible] v0k
def g1f:AFun:=(fun (a:AFun) (_:flF [v0k] q38=a)=>a) _ (by conv=>lhs;reduce;simp only[z4,z5])
theorem g5c:Gam.fn 38=some g1f:=by kernel_rfl
def q39:AFun:=(fun (a:AFun) (_:Gam.fn 40=some a)=>a) _ (by conv=>lhs;reduce;simp only[z4,z5])
def v0l:ACode:=(fun (a:ACode) (_:fl [] (lp q39 0)=a)=>a) _ (by conv=>lhs;reduce;simp only[z4,z5])
attribute [local irreducible] v0l
def g1g:AFun:=(fun (a:AFun) (_:flF [v0l] q39=a)=>a) _ (by conv=>lhs;reduce;simp only[z4,z5])
theorem g5d:Gam.fn 40=some g1g:=by kernel_rfl
def g1h:AFun:=(fun (a:AFun) (_:Gam.fn 93=some a)=>a) _ (by conv=>lhs;reduce;simp only[z4,z5])
theorem g5e:Gam.fn 93=some g1h:=by kernel_rfl
def g1i:AFun:=(fun (a:AFun) (_:Gam.fn 153=some a)=>a) _ (by conv=>lhs;reduce;simp only[z4,z5])
def j6b:ACode:=(fun (a:ACode) (_:fl [] (lp g1i 0)=a)=>a) _ (by conv=>lhs;reduce;simp only[z4,z5])
attribute [local irreducible] j6b
def y7b:AFun:=(fun (a:AFun) (_:flF [j6b] g1i=a)=>a) _ (by conv=>lhs;reduce;simp only[z4,z5])
theorem u7k:Gam.fn 153=some y7b:=by kernel_rfl
def g1j:AFun:=(fun (a:AFun) (_:Gam.fn 28=some a)=>a) _ (by conv=>lhs;reduce;simp only[z4,z5])
theorem g5f:Gam.fn 28=some g1j:=by kernel_rfl
def q61:AFun:=(fun (a:AFun) (_:Gam.fn 70=some a)=>a) _ (by conv=>lhs;reduce;simp only[z4,z5])
def v0m:ACode:=(fun (a:ACode) (_:fl [] (lp q61 0)=a)=>a) _ (by conv=>lhs;reduce;simp only[z4,z5])
attribute [local irreducible] v0m
def g1k:AFun:=(fun (a:AFun) (_:flF [v0m] q61=a)=>a) _ (by conv=>lhs;reduce;simp only[z4,z5])
theorem g5g:Gam.fn 70=some g1k:=by kernel_rfl
def g1l:AFun:=(fun (a:AFun) (_:Gam.fn 122=some a)=>a) _ (by conv=>lhs;reduce;simp only[z4,z5])
def j6c:ACode:=(fun (a:ACode) (_:fl [] (lp g1l 0)=a)=>a) _ (by conv=>lhs;reduce;simp only[z4,z5])
attribute [local irreducible] j6c
def y7c:AFun:=(fun (a:AFun) (_:flF [j6c] g1l=a)=>a) _ (by conv=>lhs;reduce;simp only[z4,z5])
theorem y7d:Gam.fn 122=some y7c:=by kernel_rfl
def y7e:AFun:=(fun (a:AFun) (_:Gam.fn 123=some a)=>a) _ (by conv=>lhs;reduce;simp only[z4,z5])
theorem u7l:Gam.fn 123=some y7e:=by kernel_rfl
def g1m:AFun:=(fun (a:AFun) (_:Gam.fn 196=some a)=>a) _ (by conv=>lhs;reduce;simp only[z4,z5])
def x4j:ACode:=(fun (a:ACode) (_:fl [] (lp g1m 0)=a)=>a) _ (by conv=>lhs;reduce;simp only[z4,z5])
attribute [local irreducible] x4j
def y7f:AFun:=(fun (a:AFun) (_:flF [x4j] g1m=a)=>a) _ (by conv=>lhs;reduce;simp only[z4,z5])
theorem u7m:Gam.fn 196=some y7f:=by kernel_rfl
def y7g:AFun:=(fun (a:AFun) (_:Gam.fn 126=some a)=>a) _ (by conv=>lhs;reduce;simp only[z4,z5])
theorem u7n:Gam.fn 126=some y7g:=by kernel_rfl
def y7h:AFun:=(fun (a:AFun) (_:Gam.fn 127=some a)=>a) _ (by conv=>lhs;reduce;simp only[z4,z5])
theorem u7o:Gam.fn 127=some y7h:=by kernel_rfl
def k4u:ACode:=(.seq (.region 1 [N 10 (.binOp .lss (.one .int) (.tmp 9) (.tmp 8))] []) (.seq (.cond (.tmp 10) .skip (.exit 0)) (.seq (.block 1 (.seq (.region 4 [N 11 (.indexAddr none 2 (.tmp 7) (.tmp 9)),N 12 (.load (some 2) (.tmp 11)),N 5 (.alloc 1 (.agg [(.str []),(.int .i64 0)])),S 2 5 12] []) (.region 3 [M 13 3,N 14 (.load (some 2) (.tmp 5)),⟨none, .mapUpdate (.agg [.str, .int]) (.tmp 13) (.tmp 14) (.const (.bool true)),none⟩] []))) (.region 2 [N 15 (.binOp .add (.one .int) (.tmp 9) (I 1)),M 9 15] []))))
def y7i:AFun:=
 {ntmps:=17,nslots:=2,results:=[.tmp 2],byref:=[],owned:=false,
  body:=(.seq (.region 1 [N 2 (.move (.const .nilmap))] []) (.seq (.region 2 [N 6 (.makeMap 0),M 3 6] []) (.seq (.seq (.region 3 [M 7 0,N 8 (.len .sl (.tmp 7)),N 9 (.move (I 0))] []) (.block 0 (.loop k4u))) (.seq (.region 2 [M 16 3,M 2 16] []) .ret))))}
theorem u7p:Gam.fn 200=some y7i:=by kernel_rfl
def g1n:AFun:=(fun (a:AFun) (_:Gam.fn 201=some a)=>a) _ (by conv=>lhs;reduce;simp only[z4,z5])
def j6d:ACode:=(fun (a:ACode) (_:fl [] (lp g1n 0)=a)=>a) _ (by conv=>lhs;reduce;simp only[z4,z5])
attribute [local irreducible] j6d
def y7j:AFun:=(fun (a:AFun) (_:flF [j6d] g1n=a)=>a) _ (by conv=>lhs;reduce;simp only[z4,z5])
theorem u7q:Gam.fn 201=some y7j:=by kernel_rfl
def y7k:AFun:=(fun (a:AFun) (_:Gam.fn 202=some a)=>a) _ (by conv=>lhs;reduce;simp only[z4,z5])
theorem u7r:Gam.fn 202=some y7k:=by kernel_rfl
def g1o:AFun:=(fun (a:AFun) (_:Gam.fn 203=some a)=>a) _ (by conv=>lhs;reduce;simp only[z4,z5])
def j6e:ACode:=(fun (a:ACode) (_:fl [] (lp g1o 0)=a)=>a) _ (by conv=>lhs;reduce;simp only[z4,z5])
attribute [local irreducible] j6e
def y7l:AFun:=(fun (a:AFun) (_:flF [j6e] g1o=a)=>a) _ (by conv=>lhs;reduce;simp only[z4,z5])
theorem u7s:Gam.fn 203=some y7l:=by kernel_rfl
def y7m:AFun:=(fun (a:AFun) (_:Gam.fn 204=some a)=>a) _ (by conv=>lhs;reduce;simp only[z4,z5])
theorem u7t:Gam.fn 204=some y7m:=by kernel_rfl
def y7n:AFun:=(fun (a:AFun) (_:Gam.fn 159=some a)=>a) _ (by conv=>lhs;reduce;simp only[z4,z5])
theorem u7u:Gam.fn 159=some y7n:=by kernel_rfl
def g1p:AFun:=(fun (a:AFun) (_:Gam.fn 227=some a)=>a) _ (by conv=>lhs;reduce;simp only[z4,z5])
def x4k:ACode:=(fun (a:ACode) (_:fl [] (lp g1p 0)=a)=>a) _ (by conv=>lhs;reduce;simp only[z4,z5])
attribute [local irreducible] x4k
def y7o:AFun:=(fun (a:AFun) (_:flF [x4k] g1p=a)=>a) _ (by conv=>lhs;reduce;simp only[z4,z5])
theorem u7v:Gam.fn 227=some y7o:=by kernel_rfl
def w4s:AFun:=
 {ntmps:=8,nslots:=1,results:=[.tmp 3],byref:=[],owned:=false,
  body:=(.seq (.region 2 [N 2 (.box 0 (.tmp 0)),N 3 (.move (.const (.bool false)))] []) (.seq (.region 5 [L 4 1,N 5 (.load (some 2) (.tmp 2)),N 6 (.lookup (.agg [.str, .int]) (.bool false) (.tmp 4) (.tmp 5) false),N 7 (.unOp .not (.tmp 6)),M 3 7] []) .ret))}
theorem u7w:Gam.fn 256=some w4s:=by kernel_rfl
def y7p:AFun:=(fun (a:AFun) (_:Gam.fn 199=some a)=>a) _ (by conv=>lhs;reduce;simp only[z4,z5])
theorem u7x:Gam.fn 199=some y7p:=by kernel_rfl
end
theorem v0n {α:Type} {enc:α→AV} {xs:List α} {S:List (Nat×AObj)} {c:Nat} {cap:List AV} {P:α→Bool} {t:Tip} (hE:∀ x,(enc x).cells.length=1) (hld:∀ x h,z9e h none (.iptr (enc x).cells 0)=some (enc x,h)) (hid:∀ x,(enc x).ids=[]) (hl:xs.length≤2 ^ 20) (hC:Cov S (idsL cap)) (hP:∀ x∈xs,Reads S c (enc x::cap) (.bool (P x))):
  ∃ r:Int,decide (0≤r)=xs.any P∧Reads S 255 [.sl (xs.map enc) t, .fn c cap] (.int .i64 r):=by
 have hC':Cov S (idsL [.sl (xs.map enc) .no, .fn c cap]):=by
  have:idsL [.sl (xs.map enc) .no, .fn c cap]=idsL cap:=by simp[idsL,AV.ids,z0c hid]
  rw[this];exact hC
 have key:∀ n,n≤xs.length→∃ r:Int,decide (0≤r)=(xs.drop (xs.length - n)).any P∧∀ (D L:List AObj) (B clk:Nat) (ks:List Kf) (ts:Tmps) (Q:Post),Has S D→ts 0= .sl (xs.map enc) .no→ts 1= .fn c cap→ts 7= .int .i64 (xs.length:Int)→ts 8= .int .i64 ((xs.length - n:Nat):Int)→
   (∀ ts' clk',ts' 4= .int .i64 r→K Gam B .ret ks ⟨ts',D++L,clk'⟩ Q)→(r= -1→∀ ts' clk',K Gam B (.exit 0) ks ⟨ts',D++L,clk'⟩ Q)→K Gam B (.loop x4f) ks ⟨ts,D++L,clk⟩ Q:=by
  intro n
  induction n with
  | zero=>
    intro _
    refine⟨-1,by simp,fun D L B clk ks ts Q hS h0 h1 h7 h8 _ hx=> ?_⟩
    have e1:decide (((xs.length - 0:Nat):Int) < (xs.length:Int))=false:=by rw[z03];omega
    refine z2r ?_
    simp only[go_sem,h0,h1,h7,h8,x4f,e1]
    exact hx rfl _ _
  | succ n ih=>
    intro hn
    have hk:xs.length - (n + 1) < xs.length:=by omega
    have hdr:xs.drop (xs.length - (n + 1))=xs[xs.length - (n + 1)]::xs.drop (xs.length - n):=by
     rw[p9 hk]
     congr 2
     omega
    have e1:decide (((xs.length - (n + 1):Nat):Int) < (xs.length:Int))=true:=by rw[z04];omega
    have hpx:=hP _ (j9 hk)
    generalize hxx:xs[xs.length - (n + 1)]=x at hdr hpx
    have hidx:∀ h,z1m h 1 (.sl (xs.map enc) .no) (.int .i64 ((xs.length - (n + 1):Nat):Int))=some (.iptr (enc x).cells 0,h):=fun h=>by
     rw[←hxx]
     exact z4a (by simp[hk]) (hE _)
    have hcx:∀ h,z9e h none (.iptr (enc x).cells 0)=some (enc x,h):=hld x
    cases hpb:P x with
    | true=>
      refine⟨((xs.length - (n + 1):Nat):Int), ?_,fun D L B clk ks ts Q hS h0 h1 h7 h8 hr _=> ?_⟩
      ·rw[hdr,List.any_cons,hpb,Bool.true_or,z04];omega
      ·refine z2r ?_
       rw[hpb] at hpx
       simp only[go_sem,z0,z1,z2,z3,reduceCtorEq,↓reduceIte,h0,h1,h7,h8,x4f,e1,hidx,hcx,z1g hpx hS.app]
       exact hr _ _ (by simp[z0b])
    | false=>
      obtain⟨r,h1',h2'⟩:=ih (by omega)
      refine⟨r,by rw[h1',hdr,List.any_cons,hpb,Bool.false_or],fun D L B clk ks ts Q hS h0 h1 h7 h8 hr hx=> ?_⟩
      have e2:IntKind.i64.wrap (((xs.length - (n + 1):Nat):Int) + 1)=((xs.length - n:Nat):Int):=by rw[z0e (by omega) (by omega)];omega
      refine z2r ?_
      rw[hpb] at hpx
      simp only[go_sem,z0,z1,z2,z3,reduceCtorEq,↓reduceIte,h0,h1,h7,h8,x4f,e1,hidx,hcx,z1g hpx hS.app,e2]
      exact h2' D L B _ ks _ Q hS (by simp[z0b,h0]) (by simp[z0b,h1]) (by simp[z0b,h7]) (by simp[z0b]) hr hx
 obtain⟨r,h1,h2⟩:=key xs.length (j8 _)
 rw[d8,d7] at h1
 refine⟨r,h1,Reads.of rfl u7h rfl rfl rfl rfl (by simpa [cvL,AV.cv] using hC') fun D B clk T hB hS hlt hT=> ?_⟩
 simp only[go_sem,y6u,z6]
 refine h2 D _ B _ _ _ _ hS (by simp[z0b,z3f]) (by simp[z0b,z7m,z3f]) (by simp[z0b]) (by simp[z0b]) (fun ts' clk' q4=> ?_) (fun hr0 ts' clk'=> ?_)
 ·simp only[go_sem,q4]
  rw[z2o]
  exact hT _ hS.app
 ·simp only[go_sem,]
  rw[z2o,←hr0]
  exact hT _ hS.app
theorem v0o {α:Type} {enc:α→AV} {xs:List α} {S:List (Nat×AObj)} {c:Nat} {cap:List AV} {P:α→Bool} {t:Tip} (hE:∀ x,(enc x).cells.length=1) (hld:∀ x h,z9e h none (.iptr (enc x).cells 0)=some (enc x,h)) (hid:∀ x,(enc x).ids=[]) (hl:xs.length≤2 ^ 20) (hC:Cov S (idsL cap)) (hP:∀ x∈xs,Reads S c (enc x::cap) (.bool (P x))):
  Reads S 197 [.sl (xs.map enc) t, .fn c cap] (.bool (xs.any P)):=by
 obtain⟨r,h1,h2⟩:=v0n (t:= .no) hE hld hid hl hC hP
 have hC':Cov S (idsL [.sl (xs.map enc) .no, .fn c cap]):=by
  have:idsL [.sl (xs.map enc) .no, .fn c cap]=idsL cap:=by simp[idsL,AV.ids,z0c hid]
  rw[this];exact hC
 refine Reads.of rfl u7g rfl rfl rfl rfl (by simpa [cvL,AV.cv] using hC') fun D B clk T hB hS hlt hT=> ?_
 simp only[go_sem,y6t,z1g h2 hS.app,h1]
 rw[z0d]
 exact hT _ hS.app
theorem v0p {α:Type} {enc:α→AV} {xs:List α} {S:List (Nat×AObj)} {c:Nat} {cap:List AV} {P:α→Bool} {t:Tip} (hE:∀ x,(enc x).cells.length=2) (hld:∀ x h,z9e h (some 2) (.iptr (enc x).cells 0)=some (enc x,h)) (hid:∀ x,(enc x).ids=[]) (hl:xs.length≤2 ^ 20) (hC:Cov S (idsL cap)) (hP:∀ x∈xs,Reads S c (enc x::cap) (.bool (P x))):
  ∃ r:Int,decide (0≤r)=xs.any P∧Reads S 152 [.sl (xs.map enc) t, .fn c cap] (.int .i64 r):=by
 have hC':Cov S (idsL [.sl (xs.map enc) .no, .fn c cap]):=by
  have:idsL [.sl (xs.map enc) .no, .fn c cap]=idsL cap:=by simp[idsL,AV.ids,z0c hid]
  rw[this];exact hC
 have key:∀ n,n≤xs.length→∃ r:Int,decide (0≤r)=(xs.drop (xs.length - n)).any P∧∀ (D L:List AObj) (B clk:Nat) (ks:List Kf) (ts:Tmps) (Q:Post),Has S D→ts 0= .sl (xs.map enc) .no→ts 1= .fn c cap→ts 7= .int .i64 (xs.length:Int)→ts 8= .int .i64 ((xs.length - n:Nat):Int)→
   (∀ ts' clk',ts' 4= .int .i64 r→K Gam B .ret ks ⟨ts',D++L,clk'⟩ Q)→(r= -1→∀ ts' clk',K Gam B (.exit 0) ks ⟨ts',D++L,clk'⟩ Q)→K Gam B (.loop x4i) ks ⟨ts,D++L,clk⟩ Q:=by
  intro n
  induction n with
  | zero=>
    intro _
    refine⟨-1,by simp,fun D L B clk ks ts Q hS h0 h1 h7 h8 _ hx=> ?_⟩
    have e1:decide (((xs.length - 0:Nat):Int) < (xs.length:Int))=false:=by rw[z03];omega
    refine z2r ?_
    simp only[go_sem,h0,h1,h7,h8,x4i,e1]
    exact hx rfl _ _
  | succ n ih=>
    intro hn
    have hk:xs.length - (n + 1) < xs.length:=by omega
    have hdr:xs.drop (xs.length - (n + 1))=xs[xs.length - (n + 1)]::xs.drop (xs.length - n):=by
     rw[p9 hk]
     congr 2
     omega
    have e1:decide (((xs.length - (n + 1):Nat):Int) < (xs.length:Int))=true:=by rw[z04];omega
    have hpx:=hP _ (j9 hk)
    generalize hxx:xs[xs.length - (n + 1)]=x at hdr hpx
    have hidx:∀ h,z1m h 2 (.sl (xs.map enc) .no) (.int .i64 ((xs.length - (n + 1):Nat):Int))=some (.iptr (enc x).cells 0,h):=fun h=>by
     rw[←hxx]
     exact z4a (by simp[hk]) (hE _)
    have hcx:∀ h,z9e h (some 2) (.iptr (enc x).cells 0)=some (enc x,h):=hld x
    cases hpb:P x with
    | true=>
      refine⟨((xs.length - (n + 1):Nat):Int), ?_,fun D L B clk ks ts Q hS h0 h1 h7 h8 hr _=> ?_⟩
      ·rw[hdr,List.any_cons,hpb,Bool.true_or,z04];omega
      ·refine z2r ?_
       rw[hpb] at hpx
       simp only[go_sem,z0,z1,z2,z3,reduceCtorEq,↓reduceIte,h0,h1,h7,h8,x4i,e1,hidx,hcx,z1g hpx hS.app]
       exact hr _ _ (by simp[z0b])
    | false=>
      obtain⟨r,h1',h2'⟩:=ih (by omega)
      refine⟨r,by rw[h1',hdr,List.any_cons,hpb,Bool.false_or],fun D L B clk ks ts Q hS h0 h1 h7 h8 hr hx=> ?_⟩
      have e2:IntKind.i64.wrap (((xs.length - (n + 1):Nat):Int) + 1)=((xs.length - n:Nat):Int):=by rw[z0e (by omega) (by omega)];omega
      refine z2r ?_
      rw[hpb] at hpx
      simp only[go_sem,z0,z1,z2,z3,reduceCtorEq,↓reduceIte,h0,h1,h7,h8,x4i,e1,hidx,hcx,z1g hpx hS.app,e2]
      exact h2' D L B _ ks _ Q hS (by simp[z0b,h0]) (by simp[z0b,h1]) (by simp[z0b,h7]) (by simp[z0b]) hr hx
 obtain⟨r,h1,h2⟩:=key xs.length (j8 _)
 rw[d8,d7] at h1
 refine⟨r,h1,Reads.of rfl u7j rfl rfl rfl rfl (by simpa [cvL,AV.cv] using hC') fun D B clk T hB hS hlt hT=> ?_⟩
 simp only[go_sem,y7a,z6]
 refine h2 D _ B _ _ _ _ hS (by simp[z0b,z3f]) (by simp[z0b,z7m,z3f]) (by simp[z0b]) (by simp[z0b]) (fun ts' clk' q4=> ?_) (fun hr0 ts' clk'=> ?_)
 ·simp only[go_sem,q4]
  rw[z2o]
  exact hT _ hS.app
 ·simp only[go_sem,]
  rw[z2o,←hr0]
  exact hT _ hS.app
theorem w4t {α:Type} {enc:α→AV} {xs:List α} {S:List (Nat×AObj)} {c:Nat} {cap:List AV} {P:α→Bool} {t:Tip} (hE:∀ x,(enc x).cells.length=2) (hld:∀ x h,z9e h (some 2) (.iptr (enc x).cells 0)=some (enc x,h)) (hid:∀ x,(enc x).ids=[]) (hl:xs.length≤2 ^ 20) (hC:Cov S (idsL cap)) (hP:∀ x∈xs,Reads S c (enc x::cap) (.bool (P x))):
  Reads S 89 [.sl (xs.map enc) t, .fn c cap] (.bool (xs.any P)):=by
 obtain⟨r,h1,h2⟩:=v0p (t:= .no) hE hld hid hl hC hP
 have hC':Cov S (idsL [.sl (xs.map enc) .no, .fn c cap]):=by
  have:idsL [.sl (xs.map enc) .no, .fn c cap]=idsL cap:=by simp[idsL,AV.ids,z0c hid]
  rw[this];exact hC
 refine Reads.of rfl g4y rfl rfl rfl rfl (by simpa [cvL,AV.cv] using hC') fun D B clk T hB hS hlt hT=> ?_
 simp only[go_sem,g1b,z1g h2 hS.app,h1]
 rw[z0d]
 exact hT _ hS.app
theorem v0q {α:Type} {enc:α→AV} {xs:List α} {S:List (Nat×AObj)} {c:Nat} {cap:List AV} {P:α→Bool} {t:Tip} (hE:∀ x,(enc x).cells.length=3) (hld:∀ x h,z9e h (some 3) (.iptr (enc x).cells 0)=some (enc x,h)) (hid:∀ x,(enc x).ids=[]) (hl:xs.length≤2 ^ 20) (hC:Cov S (idsL cap)) (hP:∀ x∈xs,Reads S c (enc x::cap) (.bool (P x))):
  ∃ r:Int,decide (0≤r)=xs.any P∧Reads S 196 [.sl (xs.map enc) t, .fn c cap] (.int .i64 r):=by
 have hC':Cov S (idsL [.sl (xs.map enc) .no, .fn c cap]):=by
  have:idsL [.sl (xs.map enc) .no, .fn c cap]=idsL cap:=by simp[idsL,AV.ids,z0c hid]
  rw[this];exact hC
 have key:∀ n,n≤xs.length→∃ r:Int,decide (0≤r)=(xs.drop (xs.length - n)).any P∧∀ (D L:List AObj) (B clk:Nat) (ks:List Kf) (ts:Tmps) (Q:Post),Has S D→ts 0= .sl (xs.map enc) .no→ts 1= .fn c cap→ts 7= .int .i64 (xs.length:Int)→ts 8= .int .i64 ((xs.length - n:Nat):Int)→
   (∀ ts' clk',ts' 4= .int .i64 r→K Gam B .ret ks ⟨ts',D++L,clk'⟩ Q)→(r= -1→∀ ts' clk',K Gam B (.exit 0) ks ⟨ts',D++L,clk'⟩ Q)→K Gam B (.loop x4j) ks ⟨ts,D++L,clk⟩ Q:=by
  intro n
  induction n with
  | zero=>
    intro _
    refine⟨-1,by simp,fun D L B clk ks ts Q hS h0 h1 h7 h8 _ hx=> ?_⟩
    have e1:decide (((xs.length - 0:Nat):Int) < (xs.length:Int))=false:=by rw[z03];omega
    refine z2r ?_
    simp only[go_sem,h0,h1,h7,h8,x4j,e1]
    exact hx rfl _ _
  | succ n ih=>
    intro hn
    have hk:xs.length - (n + 1) < xs.length:=by omega
    have hdr:xs.drop (xs.length - (n + 1))=xs[xs.length - (n + 1)]::xs.drop (xs.length - n):=by
     rw[p9 hk]
     congr 2
     omega
    have e1:decide (((xs.length - (n + 1):Nat):Int) < (xs.length:Int))=true:=by rw[z04];omega
    have hpx:=hP _ (j9 hk)
    generalize hxx:xs[xs.length - (n + 1)]=x at hdr hpx
    have hidx:∀ h,z1m h 3 (.sl (xs.map enc) .no) (.int .i64 ((xs.length - (n + 1):Nat):Int))=some (.iptr (enc x).cells 0,h):=fun h=>by
     rw[←hxx]
     exact z4a (by simp[hk]) (hE _)
    have hcx:∀ h,z9e h (some 3) (.iptr (enc x).cells 0)=some (enc x,h):=hld x
    cases hpb:P x with
    | true=>
      refine⟨((xs.length - (n + 1):Nat):Int), ?_,fun D L B clk ks ts Q hS h0 h1 h7 h8 hr _=> ?_⟩
      ·rw[hdr,List.any_cons,hpb,Bool.true_or,z04];omega
      ·refine z2r ?_
       rw[hpb] at hpx
       simp only[go_sem,z0,z1,z2,z3,reduceCtorEq,↓reduceIte,h0,h1,h7,h8,x4j,e1,hidx,hcx,z1g hpx hS.app]
       exact hr _ _ (by simp[z0b])
    | false=>
      obtain⟨r,h1',h2'⟩:=ih (by omega)
      refine⟨r,by rw[h1',hdr,List.any_cons,hpb,Bool.false_or],fun D L B clk ks ts Q hS h0 h1 h7 h8 hr hx=> ?_⟩
      have e2:IntKind.i64.wrap (((xs.length - (n + 1):Nat):Int) + 1)=((xs.length - n:Nat):Int):=by rw[z0e (by omega) (by omega)];omega
      refine z2r ?_
      rw[hpb] at hpx
      simp only[go_sem,z0,z1,z2,z3,reduceCtorEq,↓reduceIte,h0,h1,h7,h8,x4j,e1,hidx,hcx,z1g hpx hS.app,e2]
      exact h2' D L B _ ks _ Q hS (by simp[z0b,h0]) (by simp[z0b,h1]) (by simp[z0b,h7]) (by simp[z0b]) hr hx
 obtain⟨r,h1,h2⟩:=key xs.length (j8 _)
 rw[d8,d7] at h1
 refine⟨r,h1,Reads.of rfl u7m rfl rfl rfl rfl (by simpa [cvL,AV.cv] using hC') fun D B clk T hB hS hlt hT=> ?_⟩
 simp only[go_sem,y7f,z6]
 refine h2 D _ B _ _ _ _ hS (by simp[z0b,z3f]) (by simp[z0b,z7m,z3f]) (by simp[z0b]) (by simp[z0b]) (fun ts' clk' q4=> ?_) (fun hr0 ts' clk'=> ?_)
 ·simp only[go_sem,q4]
  rw[z2o]
  exact hT _ hS.app
 ·simp only[go_sem,]
  rw[z2o,←hr0]
  exact hT _ hS.app
theorem v0r {α:Type} {enc:α→AV} {xs:List α} {S:List (Nat×AObj)} {c:Nat} {cap:List AV} {P:α→Bool} {t:Tip} (hE:∀ x,(enc x).cells.length=3) (hld:∀ x h,z9e h (some 3) (.iptr (enc x).cells 0)=some (enc x,h)) (hid:∀ x,(enc x).ids=[]) (hl:xs.length≤2 ^ 20) (hC:Cov S (idsL cap)) (hP:∀ x∈xs,Reads S c (enc x::cap) (.bool (P x))):
  Reads S 123 [.sl (xs.map enc) t, .fn c cap] (.bool (xs.any P)):=by
 obtain⟨r,h1,h2⟩:=v0q (t:= .no) hE hld hid hl hC hP
 have hC':Cov S (idsL [.sl (xs.map enc) .no, .fn c cap]):=by
  have:idsL [.sl (xs.map enc) .no, .fn c cap]=idsL cap:=by simp[idsL,AV.ids,z0c hid]
  rw[this];exact hC
 refine Reads.of rfl u7l rfl rfl rfl rfl (by simpa [cvL,AV.cv] using hC') fun D B clk T hB hS hlt hT=> ?_
 simp only[go_sem,y7e,z1g h2 hS.app,h1]
 rw[z0d]
 exact hT _ hS.app
theorem v0s {α:Type} {enc:α→AV} {xs:List α} {S:List (Nat×AObj)} {c:Nat} {cap:List AV} {P:α→Bool} {t:Tip} (hE:∀ x,(enc x).cells.length=2) (hld:∀ x h,z9e h (some 2) (.iptr (enc x).cells 0)=some (enc x,h)) (hid:∀ x,(enc x).ids=[]) (hl:xs.length≤2 ^ 20) (hC:Cov S (idsL cap)) (hP:∀ x∈xs,Reads S c (enc x::cap) (.bool (P x))):
  ∃ r:Int,decide (0≤r)=xs.any P∧Reads S 227 [.sl (xs.map enc) t, .fn c cap] (.int .i64 r):=by
 have hC':Cov S (idsL [.sl (xs.map enc) .no, .fn c cap]):=by
  have:idsL [.sl (xs.map enc) .no, .fn c cap]=idsL cap:=by simp[idsL,AV.ids,z0c hid]
  rw[this];exact hC
 have key:∀ n,n≤xs.length→∃ r:Int,decide (0≤r)=(xs.drop (xs.length - n)).any P∧∀ (D L:List AObj) (B clk:Nat) (ks:List Kf) (ts:Tmps) (Q:Post),Has S D→ts 0= .sl (xs.map enc) .no→ts 1= .fn c cap→ts 7= .int .i64 (xs.length:Int)→ts 8= .int .i64 ((xs.length - n:Nat):Int)→
   (∀ ts' clk',ts' 4= .int .i64 r→K Gam B .ret ks ⟨ts',D++L,clk'⟩ Q)→(r= -1→∀ ts' clk',K Gam B (.exit 0) ks ⟨ts',D++L,clk'⟩ Q)→K Gam B (.loop x4k) ks ⟨ts,D++L,clk⟩ Q:=by
  intro n
  induction n with
  | zero=>
    intro _
    refine⟨-1,by simp,fun D L B clk ks ts Q hS h0 h1 h7 h8 _ hx=> ?_⟩
    have e1:decide (((xs.length - 0:Nat):Int) < (xs.length:Int))=false:=by rw[z03];omega
    refine z2r ?_
    simp only[go_sem,h0,h1,h7,h8,x4k,e1]
    exact hx rfl _ _
  | succ n ih=>
    intro hn
    have hk:xs.length - (n + 1) < xs.length:=by omega
    have hdr:xs.drop (xs.length - (n + 1))=xs[xs.length - (n + 1)]::xs.drop (xs.length - n):=by
     rw[p9 hk]
     congr 2
     omega
    have e1:decide (((xs.length - (n + 1):Nat):Int) < (xs.length:Int))=true:=by rw[z04];omega
    have hpx:=hP _ (j9 hk)
    generalize hxx:xs[xs.length - (n + 1)]=x at hdr hpx
    have hidx:∀ h,z1m h 2 (.sl (xs.map enc) .no) (.int .i64 ((xs.length - (n + 1):Nat):Int))=some (.iptr (enc x).cells 0,h):=fun h=>by
     rw[←hxx]
     exact z4a (by simp[hk]) (hE _)
    have hcx:∀ h,z9e h (some 2) (.iptr (enc x).cells 0)=some (enc x,h):=hld x
    cases hpb:P x with
    | true=>
      refine⟨((xs.length - (n + 1):Nat):Int), ?_,fun D L B clk ks ts Q hS h0 h1 h7 h8 hr _=> ?_⟩
      ·rw[hdr,List.any_cons,hpb,Bool.true_or,z04];omega
      ·refine z2r ?_
       rw[hpb] at hpx
       simp only[go_sem,z0,z1,z2,z3,reduceCtorEq,↓reduceIte,h0,h1,h7,h8,x4k,e1,hidx,hcx,z1g hpx hS.app]
       exact hr _ _ (by simp[z0b])
    | false=>
      obtain⟨r,h1',h2'⟩:=ih (by omega)
      refine⟨r,by rw[h1',hdr,List.any_cons,hpb,Bool.false_or],fun D L B clk ks ts Q hS h0 h1 h7 h8 hr hx=> ?_⟩
      have e2:IntKind.i64.wrap (((xs.length - (n + 1):Nat):Int) + 1)=((xs.length - n:Nat):Int):=by rw[z0e (by omega) (by omega)];omega
      refine z2r ?_
      rw[hpb] at hpx
      simp only[go_sem,z0,z1,z2,z3,reduceCtorEq,↓reduceIte,h0,h1,h7,h8,x4k,e1,hidx,hcx,z1g hpx hS.app,e2]
      exact h2' D L B _ ks _ Q hS (by simp[z0b,h0]) (by simp[z0b,h1]) (by simp[z0b,h7]) (by simp[z0b]) hr hx
 obtain⟨r,h1,h2⟩:=key xs.length (j8 _)
 rw[d8,d7] at h1
 refine⟨r,h1,Reads.of rfl u7v rfl rfl rfl rfl (by simpa [cvL,AV.cv] using hC') fun D B clk T hB hS hlt hT=> ?_⟩
 simp only[go_sem,y7o,z6]
 refine h2 D _ B _ _ _ _ hS (by simp[z0b,z3f]) (by simp[z0b,z7m,z3f]) (by simp[z0b]) (by simp[z0b]) (fun ts' clk' q4=> ?_) (fun hr0 ts' clk'=> ?_)
 ·simp only[go_sem,q4]
  rw[z2o]
  exact hT _ hS.app
 ·simp only[go_sem,]
  rw[z2o,←hr0]
  exact hT _ hS.app
theorem j6f {α:Type} {enc:α→AV} {xs:List α} {S:List (Nat×AObj)} {c:Nat} {cap:List AV} {P:α→Bool} {t:Tip} (hE:∀ x,(enc x).cells.length=2) (hld:∀ x h,z9e h (some 2) (.iptr (enc x).cells 0)=some (enc x,h)) (hid:∀ x,(enc x).ids=[]) (hl:xs.length≤2 ^ 20) (hC:Cov S (idsL cap)) (hP:∀ x∈xs,Reads S c (enc x::cap) (.bool (P x))):
  Reads S 159 [.sl (xs.map enc) t, .fn c cap] (.bool (xs.any P)):=by
 obtain⟨r,h1,h2⟩:=v0s (t:= .no) hE hld hid hl hC hP
 have hC':Cov S (idsL [.sl (xs.map enc) .no, .fn c cap]):=by
  have:idsL [.sl (xs.map enc) .no, .fn c cap]=idsL cap:=by simp[idsL,AV.ids,z0c hid]
  rw[this];exact hC
 refine Reads.of rfl u7u rfl rfl rfl rfl (by simpa [cvL,AV.cv] using hC') fun D B clk T hB hS hlt hT=> ?_
 simp only[go_sem,y7n,z1g h2 hS.app,h1]
 rw[z0d]
 exact hT _ hS.app
section
theorem x6r {D L:List AObj} {B k:Nat} {o:AObj} (hB:D.length=B) (hL:L[k]? =some o):Has [(B + k,o)] (D++L):=by
 refine Has.cons ?_ Has.nil
 rw[z2u hB]
 exact hL
theorem v0t {s g:Nat} {x y:Int}:Reads [(s, .blk g [.int .i64 y] false false 0)] 293 [.int .i64 x, .ptr s g 0 0] (.bool (!decide (x=y))):=by
 refine Reads.of rfl u7f rfl rfl rfl rfl (Cov.one rfl) fun D B clk T hB hS hlt hT=> ?_
 have hs:=hlt _ v9
 have hb:=z2g (g:=g) (hS _ v9)
 dsimp only at hs hb
 simp only[go_sem,y6s,z2x hB hs,hb]
 rw[z0d]
 exact hT _ hS.app
theorem q2m {ss:List Nat} {s:Nat} {t:Tip} (h:∀ x∈ss,x=s) (hl:ss.length≤2 ^ 20):Pure Gam 250 [.sl (ss.map nat) t,nat s] (.bool true):=by
 refine Pure.of rfl u7e rfl rfl rfl (az:=[.sl (ss.map nat) .no,nat s]) rfl (by simp[idsL,AV.ids,z0c (f:=nat) fun _=>z3j,z3j]) fun D B clk T hB hT=> ?_
 have hr:∀ g,Reads [(B + 0, .blk g [.int .i64 (s:Int)] false false 0)] 197 [.sl (ss.map nat) .no, .fn 293 [.ptr (B + 0) g 0 0]] (.bool (ss.any fun x=> !decide ((x:Int)=(s:Int)))):=fun g=>
  v0o (enc:=nat) (P:=fun x=> !decide ((x:Int)=(s:Int))) (fun _=>rfl) (fun _ _=>rfl) (fun _=>rfl) hl (Cov.one rfl) fun x _=>v0t
 have e:(ss.any fun x=> !decide ((x:Int)=(s:Int)))=false:=by
  rw[List.any_eq_false]
  intro x hx
  simp[h x hx]
 rw[e] at hr
 simp only[go_sem,y6r,nat,hB]
 rw[z1g (hr _) (x6r hB rfl)]
 simp only[go_sem,Bool.not_false]
 rw[z0d]
 exact hT _
theorem z2q {s:Int}:Pure Gam 249 [.bool true, .int .i64 s] (.int .i64 s):=by
 refine Pure.of rfl u7d rfl rfl rfl rfl rfl fun D B clk T hB hT=> ?_
 simp only[go_sem,y6q]
 rw[z2o]
 exact hT _
theorem j2w {s:Nat} (hs:s=2∨s=3):Pure Gam 251 [nat s] (.bool true):=by
 refine Pure.of rfl u7i rfl rfl rfl rfl rfl fun D B clk T hB hT=> ?_
 rcases hs with rfl | rfl
 ·simp only[go_sem,w3x,nat,z9,z8,decide_true,decide_false]
  rw[z0d]
  exact hT _
 ·simp only[go_sem,w3x,nat,z9,z8,decide_true,decide_false]
  rw[z0d]
  exact hT _
theorem w4u {s:Nat} (h1:1≤s) (h4:s≤4):Pure Gam 246 [nat s] (.bool true):=by
 refine Pure.of rfl u7a rfl rfl rfl rfl rfl fun D B clk T hB hT=> ?_
 have e1:decide ((1:Int)≤(s:Int))=true:=by rw[z04];omega
 have e2:decide ((s:Int)≤4)=true:=by rw[z04];omega
 simp only[go_sem,y6o,nat,e1,e2]
 rw[z0d]
 exact hT _
class UOk (U:List Var):Prop where
 name:∀ v∈U,z8l q1s [.str v.name]=some (.bool true)
 name2:∀ v∈U,z8l q3m [.str v.name]=some (.bool true)
 sort:∀ v∈U,1≤v.sort∧v.sort≤4
 inj:∀ v∈U,∀ w∈U,v.name=w.name→v=w
instance:UOk z1w where
 name v hv:=by
  simp only[z1w,y3,s7,or_false] at hv
  rcases hv with rfl | rfl | rfl | rfl | rfl | rfl | rfl | rfl <;> rfl
 name2 v hv:=by
  simp only[z1w,y3,s7,or_false] at hv
  rcases hv with rfl | rfl | rfl | rfl | rfl | rfl | rfl | rfl <;> rfl
 sort:=by decide
 inj:=by decide
variable {U:List Var} [UOk U]
theorem j2x {v:Var} (hv:v∈U):Pure Gam 183 [.str v.name] (.bool true):=Pure.tab (tab:=q1s) rfl rfl (UOk.name v hv)
theorem q6a {v:Var} (hv:v∈U):1≤v.sort∧v.sort≤4:=UOk.sort v hv
theorem q0m {h:List AObj} {K k:IntKind} {n:Int} {a:AV} {xs:List AV} {t:Tip}:z1m h 1 (.sl (a:: .int K n::xs) t) (.int k 1)=some (.iptr [.int K n] 0,h):=z4a (i:=1) (e:= .int K n) rfl rfl
theorem x1n {h:List AObj} {K k:IntKind} {n:Int} {a b:AV} {xs:List AV} {t:Tip}:z1m h 1 (.sl (a::b:: .int K n::xs) t) (.int k 2)=some (.iptr [.int K n] 0,h):=z4a (i:=2) (e:= .int K n) rfl rfl
theorem z2w {o k:Nat} (ho:o=1∨o=2∨o=6∨o=7∨o=8∨o=9∨o=10∨o=11∨o=12∨o=13∨o=14∨o=15∨o=18∨o=19∨o=20):Pure Gam 189 [eNode (bare o k)] (.bool true):=by
 refine Pure.of rfl k4o rfl rfl rfl rfl rfl fun D B clk T hB hT=> ?_
 have e1:decide ((o:Int)=3)=false:=by rw[z03];omega
 have e2:decide ((o:Int)=4)=false:=by rw[z03];omega
 have e3:decide ((o:Int)=5)=false:=by rw[z03];omega
 have e4:decide ((o:Int)=16)=false:=by rw[z03];omega
 have e5:decide ((o:Int)=17)=false:=by rw[z03];omega
 have e6:decide ((1:Int)≤(o:Int))=true:=by rw[z04];omega
 have e7:decide ((o:Int)≤20)=true:=by rw[z04];omega
 have e8:decide (((0:Nat):Int)=0)=true:=rfl
 simp only[go_sem,j2s,hB,eNode,bare,nat,e1,e2,e3,e4,e5,e6,e7,e8,decide_true]
 rw[z0d]
 exact hT _
theorem k4v {V:List Var} {n:Node} {ss:List Nat} {s:Nat} {ks:Term} (hn:NodeOk V n ss s ks) (hV:∀ v∈V,v∈U):Pure Gam 189 [eNode n] (.bool true):=by
 cases hn with
 | bool h=>exact z2w (by omega)
 | not=>exact z2w (by omega)
 | andor h=>exact z2w (by omega)
 | imp=>exact z2w (by omega)
 | ite h1 h2=>exact z2w (by omega)
 | eq h1 h2=>exact z2w (by omega)
 | cmp h hs=>exact z2w (by omega)
 | add h hs=>exact z2w (by omega)
 | mul hs hn=>exact z2w (by omega)
 | select=>exact z2w (by omega)
 | store=>exact z2w (by omega)
 | const=>exact z2w (by omega)
 | int h=>
   refine Pure.of rfl k4o rfl rfl rfl rfl rfl fun D B clk T hB hT=> ?_
   simp only[go_sem,j2s,hB,eNode,nat,z9,z8,decide_true,decide_false,z0a (j2v h)]
   rw[z0d]
   exact hT _
 | real h=>
   refine Pure.of rfl k4o rfl rfl rfl rfl rfl fun D B clk T hB hT=> ?_
   simp only[go_sem,j2s,hB,eNode,nat,z9,z8,decide_true,decide_false,z0a (j0j h)]
   rw[z0d]
   exact hT _
 | var h=>
   refine Pure.of rfl k4o rfl rfl rfl rfl rfl fun D B clk T hB hT=> ?_
   have hs:=q6a (hV _ h)
   have h1:=w4u hs.1 hs.2
   rw[nat] at h1
   simp only[go_sem,j2s,hB,eNode,nat,z9,z8,decide_true,decide_false,z0a h1,z0a (j2x (hV _ h))]
   rw[z0d]
   exact hT _
 | @div o k _ ho h1 h5=>
   refine Pure.of rfl k4o rfl rfl rfl rfl rfl fun D B clk T hB hT=> ?_
   have hp1:Pure Gam 247 [.str (dec k)] (.bool true):=by
    have:=k4p (z:=(k:Int)) (by rw[m8,z7c (by omega)];simp)
    rwa [z0i,if_neg (by omega),m8] at this
   have hp2:=w4q h1 h5
   have e1:decide ((o:Int)=3)=false:=by rw[z03];omega
   have e2:decide ((o:Int)=4)=false:=by rw[z03];omega
   have e3:decide ((o:Int)=5)=false:=by rw[z03];omega
   have e8:decide (((0:Nat):Int)=0)=true:=rfl
   rcases ho with rfl | rfl
   ·simp only[go_sem,j2s,hB,eNode,nat,z9,z8,d9,decide_true,decide_false,e8,z0a hp1,z0a hp2]
    rw[z0d]
    exact hT _
   ·simp only[go_sem,j2s,hB,eNode,nat,z9,z8,d9,decide_true,decide_false,e8,z0a hp1,z0a hp2]
    rw[z0d]
    exact hT _
end
theorem k4w {V:List Var} {n:Node} {ss:List Nat} {s:Nat} {ks:Term} (hn:NodeOk V n ss s ks):Pure Gam 190 [nat n.op,nat n.kids] (.bool true):=by
 refine Pure.of rfl u6y rfl rfl rfl rfl rfl fun D B clk T hB hT=> ?_
 have e0:decide (((0:Nat):Int)=0)=true:=rfl
 cases hn with
 | bool h=>
   rcases h with rfl | rfl
   all_goals
    simp only[go_sem,x2r,nat,bare,z9,z8,decide_true,decide_false]
    rw[z0d]
    exact hT _
 | int h=>
   simp only[go_sem,x2r,nat,z9,z8,decide_true,decide_false]
   rw[z0d]
   exact hT _
 | real h=>
   simp only[go_sem,x2r,nat,z9,z8,decide_true,decide_false]
   rw[z0d]
   exact hT _
 | var h=>
   simp only[go_sem,x2r,nat,z9,z8,decide_true,decide_false]
   rw[z0d]
   exact hT _
 | andor h=>
   rcases h with rfl | rfl
   all_goals
    simp only[go_sem,x2r,nat,bare,z9,z8,decide_true,decide_false]
    rw[z0d]
    exact hT _
 | cmp h hs=>
   rcases h with rfl | rfl
   all_goals
    simp only[go_sem,x2r,nat,bare,z9,z8,decide_true,decide_false]
    rw[z0d]
    exact hT _
 | @add k _ _ h hs=>
   have e1:decide ((1:Int)≤(k:Int))=true:=by rw[z04];omega
   simp only[go_sem,x2r,nat,bare,z9,z8,decide_true,decide_false,e1]
   rw[z0d]
   exact hT _
 | div h h1 h5=>
   rcases h with rfl | rfl
   all_goals
    simp only[go_sem,x2r,nat,z9,z8,decide_true,decide_false]
    rw[z0d]
    exact hT _
 | _=>
   simp only[go_sem,x2r,nat,bare,z9,z8,decide_true,decide_false]
   rw[z0d]
   exact hT _
theorem q3h {l:List Nat}:idsL (l.map nat)=[]:=z0c fun _=>rfl
theorem v7b {k s:Nat}:∀ x∈j1 k s,x=s:=fun _ hx=>(List.mem_replicate.1 hx).2
theorem v0u {k s:Nat} {h:List AObj} {t:Tip} (hk:1≤k):z1m h 1 (.sl ((j1 k s).map nat) t) (.int .i64 0)=some (.iptr [.int .i64 (s:Int)] 0,h):=by
 obtain⟨k,rfl⟩:∃ j,k=j + 1:=⟨k - 1,by omega⟩
 exact z4a (i:=0) (e:=nat s) rfl rfl
theorem k4x {V:List Var} {n:Node} {ss:List Nat} {s:Nat} {ks:Term} {t:Tip} (hn:NodeOk V n ss s ks) (hl:ss.length≤2 ^ 20):Pure Gam 191 [eNode n, .sl (ss.map nat) t] (.int .i64 (s:Int)):=by
 refine Pure.of rfl u6z rfl rfl rfl (az:=[eNode n, .sl (ss.map nat) .no]) (by simp[cvL,k3r,AV.cv]) (by simp[idsL,z1v,AV.ids,q3h]) fun D B clk T hB hT=> ?_
 cases hn with
 | bool h=>
   have hp:=q2m (ss:=[]) (s:=1) (t:= .no) (by simp) (by simp)
   rw[w7,nat,z9] at hp
   rcases h with rfl | rfl
   all_goals
    simp only[go_sem,q2k,hB,eNode,nat,bare,z9,z8,decide_true,decide_false,z0a hp,z0a z2q]
    rw[z2o]
    exact hT _
 | int h=>
   simp only[go_sem,q2k,hB,eNode,nat,z9,z8,decide_true,decide_false]
   rw[z2o]
   exact hT _
 | real h=>
   simp only[go_sem,q2k,hB,eNode,nat,z9,z8,decide_true,decide_false]
   rw[z2o]
   exact hT _
 | var h=>
   simp only[go_sem,q2k,hB,eNode,nat,z9,z8,decide_true,decide_false]
   rw[z2o]
   exact hT _
 | not=>
   have hp:=q2m (ss:=[1]) (s:=1) (t:= .no) (by simp) (by simp)
   rw[k8,w7,nat,z9] at hp
   simp only[go_sem,q2k,hB,eNode,nat,bare,z9,z8,decide_true,decide_false,z0a hp,z0a z2q]
   rw[z2o]
   exact hT _
 | @andor o k _ h=>
   have hp:=q2m (ss:=j1 k 1) (s:=1) (t:= .no) v7b hl
   rw[show nat 1= .int .i64 1 from rfl] at hp
   rcases h with rfl | rfl
   all_goals
    simp only[go_sem,z0,z1,z2,z3,reduceCtorEq,↓reduceIte,q2k,hB,eNode,nat,bare,z9,z8,decide_true,decide_false,z0a hp,z0a z2q]
    rw[z2o]
    exact hT _
 | imp=>
   have hp:=q2m (ss:=[1,1]) (s:=1) (t:= .no) (by simp) (by simp)
   rw[k8,k8,w7,nat,z9] at hp
   simp only[go_sem,q2k,hB,eNode,nat,bare,z9,z8,decide_true,decide_false,z0a hp,z0a z2q]
   rw[z2o]
   exact hT _
 | @ite s _ h1 h2=>
   have e1:decide ((s:Int)=(s:Int))=true:=by simp
   simp only[go_sem,q2k,hB,eNode,nat,bare,z9,z8,decide_true,decide_false,z2p,q0m,x1n,z0a z2q]
   rw[z2o]
   exact hT _
 | @eq s _ h1 h2=>
   simp only[go_sem,q2k,hB,eNode,nat,bare,z9,z8,decide_true,decide_false,z2p,q0m,z0a z2q]
   rw[z2o]
   exact hT _
 | @cmp o s _ h hs=>
   have hp:=q2m (ss:=[s,s]) (s:=s) (t:= .no) (by simp) (by simp)
   have hp2:=j2w hs
   rw[k8,k8,w7,nat] at hp
   rw[nat] at hp2
   rcases h with rfl | rfl
   all_goals
    simp only[go_sem,q2k,hB,eNode,nat,bare,z9,z8,decide_true,decide_false,z2p,z0a hp,z0a hp2,z0a z2q]
    rw[z2o]
    exact hT _
 | @add k s _ h hs=>
   have hp:=q2m (ss:=j1 k s) (s:=s) (t:= .no) v7b hl
   have hp2:=j2w hs
   have e1:∀ h',z1m h' 1 (.sl ((j1 k s).map nat) .no) (.int .i64 0)=some (.iptr [.int .i64 (s:Int)] 0,h'):=fun h'=>v0u h
   rw[show nat s= .int .i64 (s:Int) from rfl] at hp hp2
   have hX:idsL ((j1 k s).map nat)=[]:=q3h
   generalize (j1 k s).map nat=X at hp e1 hX
   simp only[go_sem,q2k,hB,z1a,eNode,nat,bare,z9,z8,decide_true,decide_false,e1,z0a hp,z0a hp2,z0a z2q]
   refine⟨by simp[z1b,apart,z0j,z0z,z1d,AOp.isCall,hB,AV.ids,hX], ?_⟩
   rw[z2o]
   exact hT _
 | @mul s m _ hs hm=>
   have hp:=q2m (ss:=[s,s]) (s:=s) (t:= .no) (by simp) (by simp)
   have hp2:=j2w hs
   rw[k8,k8,w7,nat] at hp
   rw[nat] at hp2
   simp only[go_sem,q2k,hB,z1a,eNode,nat,bare,z9,z8,decide_true,decide_false,z2p,z0a hp,z0a hp2,z0a z2q]
   refine⟨by simp[z1b,apart,z0j,z0z,z1d,AOp.isCall,hB,AV.ids,idsL], ?_⟩
   rw[z2o]
   exact hT _
 | div h h1 h5=>
   rcases h with rfl | rfl
   all_goals
    simp only[go_sem,q2k,hB,eNode,nat,z9,z8,decide_true,decide_false,z2p,z0a z2q]
    rw[z2o]
    exact hT _
 | select=>
   simp only[go_sem,q2k,hB,eNode,nat,bare,z9,z8,decide_true,decide_false,z2p,q0m,z0a z2q]
   rw[z2o]
   exact hT _
 | store=>
   obtain⟨u,hu⟩:∃ u,∀ h:List AObj,slV h (some 1) (.sl [.int .i64 4, .int .i64 2, .int .i64 2] .no) (some (.int .i64 1)) none none=some (.sl [.int .i64 2, .int .i64 2] u,h):=⟨.no,fun h=>by simp[slV,z2y,z5b,z4q,AV.cells]⟩
   have hp:=q2m (ss:=[2,2]) (s:=2) (t:=u) (by simp) (by simp)
   rw[k8,k8,w7,nat,z9] at hp
   simp only[go_sem,q2k,hB,eNode,nat,bare,z9,z8,decide_true,decide_false,z2p,hu,z0a hp,z0a z2q]
   rw[z2o]
   exact hT _
 | const=>
   simp only[go_sem,q2k,hB,eNode,nat,bare,z9,z8,decide_true,decide_false,z2p,z0a z2q]
   rw[z2o]
   exact hT _
section
variable {U:List Var} [UOk U]
structure Tr where
 s:Nat
 len:Nat
 dep:Nat
def z9m (F:List Tr):Nat:=(F.map (·.len)).sum
theorem u1l:z9m []=0:=rfl
theorem q6b {f:Tr} {F:List Tr}:z9m (f::F)=f.len + z9m F:=by simp[z9m]
theorem x1o {F G:List Tr}:z9m (F++G)=z9m F + z9m G:=by simp[z9m]
theorem k4y {F:List Tr} {j:Nat} (hj:j < F.length):z9m (F.take (j + 1))=z9m (F.take j) + F[j].len:=by
 rw[w8 hj,x1o]
 simp[z9m]
def z4n (i:Nat):List Tr→List Nat
 | []=>[]
 | f::F=>i::z4n (i + f.len) F
theorem q0n {i:Nat} {F:List Tr}:(z4n i F).length=F.length:=by
 induction F generalizing i with
 | nil=>rfl
 | cons f F ih=>simp[z4n,ih]
theorem q6c {i:Nat} {F G:List Tr}:z4n i (F++G)=z4n i F++z4n (i + z9m F) G:=by
 induction F generalizing i with
 | nil=>rfl
 | cons f F ih=>simp only[List.cons_append,z4n,ih,q6b,Nat.add_assoc]
theorem j9w {i j:Nat} {F:List Tr} (hj:j < F.length):(z4n i F)[j]? =some (i + z9m (F.take j)):=by
 induction F generalizing i j with
 | nil=>simp at hj
 | cons f F ih=>
   cases j with
   | zero=>simp[z4n,z9m]
   | succ j=>
     simp only[z4n,i9,List.take_succ_cons,q6b]
     rw[ih (by simpa using hj),Nat.add_assoc]
structure Pt where
 sort:Nat
 depth:Nat
 fin:Nat
def ePt (p:Pt):AV:= .agg [.int .i64 (p.sort:Int), .int .i64 (p.depth:Int), .int .i64 (p.fin:Int)]
def PartsOk (P:List Pt) (i:Nat) (F:List Tr):Prop:=∀ j f,F[j]? =some f→P[i + z9m (F.take j)]? =some ⟨f.s,f.dep,i + z9m (F.take j) + f.len⟩
theorem PartsOk.nil {P:List Pt} {i:Nat}:PartsOk P i []:=fun j f h=>by simp at h
theorem PartsOk.node {P:List Pt} {i:Nat} {K G:List Tr} {s dep:Nat} (h:PartsOk P (i + 1) (K++G)) (hi:i < P.length):PartsOk (P.set i ⟨s,dep,i + (1 + z9m K)⟩) i (⟨s,1 + z9m K,dep⟩::G):=by
 intro j f hj
 cases j with
 | zero=>
   simp at hj
   subst hj
   simp[z9m,hi]
 | succ j=>
   simp only[i9] at hj
   have:=h (K.length + j) f (by rw[m0 (by omega)];simpa using hj)
   rw[List.take_append,List.take_of_length_le (by omega),x1o,show K.length + j - K.length=j by omega] at this
   simp only[List.take_succ_cons,q6b]
   rw[List.getElem?_set_ne (by omega)]
   rw[show i + (1 + z9m K + z9m (G.take j))=i + 1 + (z9m K + z9m (G.take j)) by omega]
   exact this
theorem NodeOk.pos {V:List Var} {n:Node} {ss:List Nat} {s:Nat} {ks:Term} (hn:NodeOk V n ss s ks) (hV:∀ v∈V,v∈U):1≤s∧s≤4:=by
 cases hn with
 | var h=>exact q6a (hV _ h)
 | cmp h hs=>omega
 | add h hs=>omega
 | mul hs hn=>omega
 | ite h1 h2=>omega
 | eq h1 h2=>omega
 | _=>omega
theorem NodeOk.mul_num {V:List Var} {n:Node} {ss:List Nat} {s:Nat} {ks:Term} (hn:NodeOk V n ss s ks) (h:n.op=15):∃ m r,ks=m::r∧m.op=3:=by
 cases hn with
 | mul hs hm=>exact⟨_,_,rfl,hm⟩
 | bool h'=>exact absurd h (by simp[bare];omega)
 | andor h'=>exact absurd h (by simp[bare];omega)
 | cmp h' _=>exact absurd h (by simp[bare];omega)
 | div h' _ _=>exact absurd h (by simp;omega)
 | _=>simp[bare] at h
def k4z (B i:Nat) (F:List Tr) (r:AV) (o:AObj):Prop:=(F=[]∧r= .sl [] .nil)∨(F≠[]∧∃ g,r= .ob (B + 9) g 0 F.length∧o= .blk g ((z4n i F).reverse.map nat) true true 0)
def z8c (D:List AObj) (B:Nat) (t:Term) (gP gV g2:Nat) (P:List Pt) (o3 o4 o5 o6 o7 o8 o9:AObj):List AObj:=
 D++[.blk gP (P.map ePt) true false 0, .blk gV [.agg [z0k t, .ob (B + 0) gP 0 t.length]] false false 0, .blk g2 [.ptr (B + 1) gV 0 0] false false 0,o3,o4,o5,o6,o7,o8,o9]
def j6g (D:List AObj) (B:Nat) (t:Term) (gP gV g2:Nat) (i:Nat) (F:List Tr) (q:St):Prop:=
 ∃ P o3 o4 o5 o6 o7 o8 o9,P.length=t.length∧PartsOk P i F∧q.ts 0=z0k t∧q.ts 4= .ptr (B + 2) g2 0 0∧q.ts 6= .int .i64 ((i:Int) - 1)∧k4z B i F (q.ts 5) o9∧q.h=z8c D B t gP gV g2 P o3 o4 o5 o6 o7 o8 o9
theorem j2y {D:List AObj} {B:Nat} {t:Term} {gP gV g2 i:Nat} {K G:List Tr} {r:AV} {o:AObj} (hB:D.length=B) (hr:k4z B (i + 1) (K++G) r o) (hl:(K++G).length≤2 ^ 20):
  (∀ h,v4k h .sl r=some (.int .i64 ((K++G).length:Int),h))∧
  ∃ kv rv:AV,(∀ P o3 o4 o5 o6 o7 o8,slV (z8c D B t gP gV g2 P o3 o4 o5 o6 o7 o8 o) (some 1) r (some (.int .i64 (G.length:Int))) none none=some (kv,z8c D B t gP gV g2 P o3 o4 o5 o6 o7 o8 o))∧
    (∀ P o3 o4 o5 o6 o7 o8,slV (z8c D B t gP gV g2 P o3 o4 o5 o6 o7 o8 o) (some 1) r none (some (.int .i64 (G.length:Int))) none=some (rv,z8c D B t gP gV g2 P o3 o4 o5 o6 o7 o8 o))∧
    z7h kv=some K.length∧
    (∀ j P o3 o4 o5 o6 o7 o8,j < K.length→q7n (z8c D B t gP gV g2 P o3 o4 o5 o6 o7 o8 o) kv (K.length - 1 - j)=some (nat (i + 1 + z9m (K.take j))))∧
    (∀ (f:Tr) P o3 o4 o5 o6 o7 g8 gen,f.len=1 + z9m K→z0r (z8c D B t gP gV g2 P o3 o4 o5 o6 o7 (.blk g8 [nat i] true false 0) o) (B + 9) gen 1 8 true rv (.ob (B + 8) g8 0 1)=some (.ob (B + 9) gen 0 (G.length + 1),z8c D B t gP gV g2 P o3 o4 o5 o6 o7 (.blk g8 [nat i] true false 0) (.blk gen ((z4n i (f::G)).reverse.map nat) true true 0))):=by
 have hsrc:∀ P o3 o4 o5 o6 o7 g8,z4o (z8c D B t gP gV g2 P o3 o4 o5 o6 o7 (.blk g8 [nat i] true false 0) o) (.ob (B + 8) g8 0 1)=some [nat i]:=fun P o3 o4 o5 o6 o7 g8=>
  q4q (k:=8) (es:=[nat i]) (w:=false) hB rfl rfl
 rcases hr with ⟨hF,rfl⟩ | ⟨hF,g,rfl,rfl⟩
 ·have hK:K=[]:=(z02.1 hF).1
  have hG:G=[]:=(z02.1 hF).2
  subst hK;subst hG
  refine⟨fun h=>rfl, .sl [] .nil, .sl [] .nil,fun _ _ _ _ _ _ _=>rfl,fun _ _ _ _ _ _ _=>rfl,rfl,fun j _ _ _ _ _ _ _ hj=>by simp at hj,fun f P o3 o4 o5 o6 o7 g8 gen hf=> ?_⟩
  unfold z0r
  rw[hsrc]
  simp[z0n,nat,AV.def?,AV.cells,AV.one,z1e,z8c,z2a hB,z4n]
 ·have hN:(K++G).length=K.length + G.length:=y5
  have hgr:(z8c D B t gP gV g2 [] .dead .dead .dead .dead .dead .dead (.blk g ((z4n (i + 1) (K++G)).reverse.map nat) true true 0)).length=B + 10:=by simp[z8c,hB]
  have hblk:∀ P o3 o4 o5 o6 o7 o8,z1u (z8c D B t gP gV g2 P o3 o4 o5 o6 o7 o8 (.blk g ((z4n (i + 1) (K++G)).reverse.map nat) true true 0)) (B + 9) g=some ((z4n (i + 1) (K++G)).reverse.map nat,true,true,0):=fun P o3 o4 o5 o6 o7 o8=>by
   unfold z8c
   rw[z2k hB]
   simp[z1u]
  have hlen:((z4n (i + 1) (K++G)).reverse.map nat).length=(K++G).length:=by simp[q0n]
  have hhead:z4q 1 ((z4n (i + 1) (K++G)).reverse.map nat)=true:=by
   cases (z4n (i + 1) (K++G)).reverse <;> rfl
  have hall:z0n 1 ((z4n (i + 1) (K++G)).reverse.map nat)=true:=z4k
  refine⟨fun h=>rfl, .ob (B + 9) g G.length K.length, .ob (B + 9) g 0 G.length,fun P o3 o4 o5 o6 o7 o8=> ?_,fun P o3 o4 o5 o6 o7 o8=> ?_, ?_,fun j P o3 o4 o5 o6 o7 o8 hj=> ?_,fun f P o3 o4 o5 o6 o7 g8 gen hf=> ?_⟩
  ·simp only[slV,z2y,hblk,z5b,Int.natCast_nonneg,if_true,i6]
   rw[if_pos ⟨by omega,hhead,by omega,by omega⟩,k6]
   rw[y4,show (K++G).length - G.length=K.length by omega]
  ·simp only[slV,z2y,hblk,z5b,Int.natCast_nonneg,if_true,i6]
   rw[if_pos ⟨by omega,hhead,by omega,by omega⟩,k6]
   rfl
  ·simp only[z7h]
   rw[if_pos (by omega)]
  ·unfold q7n
   simp only[z4o,q0t,hblk]
   rw[if_pos (by omega)]
   have h1:(((List.map nat (z4n (i + 1) (K++G)).reverse).drop G.length).take K.length)[K.length - 1 - j]? =some (nat (i + 1 + z9m (K.take j))):=by
    rw[List.getElem?_take_of_lt (by omega),List.getElem?_drop,l6,List.getElem?_reverse (by rw[q0n];omega),q0n,show (K++G).length - 1 - (G.length + (K.length - 1 - j))=j by omega,q6c,l8 (by rw[q0n];omega),j9w hj]
    rfl
   simp only[h1]
   rfl
  ·have hGK:(List.map nat (z4n (i + 1) (K++G)).reverse).take G.length=(z4n (i + 1 + z9m K) G).reverse.map nat:=by
    rw[←List.map_take,q6c,List.reverse_append,List.take_left' (by simp[q0n])]
   have hnew:(z4n i (f::G)).reverse.map nat=(z4n (i + 1 + z9m K) G).reverse.map nat++[nat i]:=by
    rw[z4n,hf,List.reverse_cons,v5,show i + (1 + z9m K)=i + 1 + z9m K by omega]
    rfl
   unfold z0r
   rw[hsrc]
   have hpos:0 < (K++G).length:=List.length_pos_iff.2 hF
   have hgt:¬ (G.length + 1) * (8 + 1) > z1e:=by unfold z1e;omega
   have ha1:z0n 1 [nat i]=true:=rfl
   simp only[ha1,hblk,hall,w0,decide_eq_true_eq,hgt,z7,y6,if_false,beq_self_eq_true,decide_false,Bool.or_self,List.isEmpty_cons,if_true,m7,hlen,true_and]
   rw[if_pos ⟨by omega,hpos⟩,hGK,←hnew]
   congr 2
   simp only[z8c,z2a hB,List.set_cons_succ,List.set_cons_zero]
end
section
variable {U:List Var} [UOk U]
section
variable {h:List AObj} {base g k:Nat} {ts:Tmps} {z:AV} {dst:Option Nat} {os:List AOper} {clk:Nat} {ks:List Kf} {Q:Post}
def bwV (h:List AObj) (f:Nat) (v:AV):Option (AV×List AObj):=if (z7h v).isSome then some (.bwd f v,h) else none
theorem y7q {f n:Nat} {v:AV} (hr:z7h v=some n):bwV h f v=some (.bwd f v,h):=by simp[bwV,hr]
theorem j9x {f:Nat} {x:AOpd}:O Gam base .plain g (⟨dst, .backward f x,none⟩::os) ⟨ts,h,clk⟩ ks Q=PP Gam base (bwV h f (x.ev ts)) dst g os ts clk ks Q:=by
 rw[q4m rfl];rfl
def g1q (h:List AObj) (s g:Nat) (z:AV) (v:AV):Option (AV×List AObj):=
 if !z.def? then none else match z8k h [v] with
  | some vs=>(z3y z.cells.length [z] [0] vs).map fun es=>(.ob s g 0 1,(freezeAll h (z3x [v])).set s (.blk g es true false 0))
  | none=>none
theorem v0v {s:Nat} {K J:IntKind} {a b:Int}:g1q h s g (.int K a) (.int J b)=some (.ob s g 0 1,h.set s (.blk g [.int J b] true false 0)):=(rfl)
theorem u7y {x:AOpd}:O Gam base .plain g (⟨dst, .buildSlice k true z 1 [(0,x)],none⟩::os) ⟨ts,h,clk⟩ ks Q=PP Gam base (g1q h (base + k) g z (x.ev ts)) dst g os ts clk ks Q:=by
 rw[q4m rfl]
 congr 1
end
attribute [go_sem] j9x u7y v0v
theorem q8u {D:List AObj} {B gP n i:Nat} {P:List Pt} {L:List AObj} {p:Pt} (hB:D.length=B) (hi:P[i]? =some p) (hn:P.length=n):z1m (D++ .blk gP (P.map ePt) true false 0::L) 3 (.ob (B + 0) gP 0 n) (.int .i64 (i:Int))=some (.ptr (B + 0) gP i 0,D++ .blk gP (P.map ePt) true false 0::L):=by
 have hb:z1u (D++ .blk gP (P.map ePt) true false 0::L) (B + 0) gP=some (P.map ePt,true,false,0):=by rw[z2k hB];simp[z1u]
 have hlt:i < n:=by
  rw[k7] at hi
  have:=hi.1
  omega
 have h1:(P.map ePt)[0 + i]? =some (ePt p):=by rw[y4,l6,hi];rfl
 simp only[z1m,Int.natCast_nonneg,if_true,hb,i6,h1]
 rw[if_pos ⟨hlt,rfl⟩,y4]
theorem x6s {P:List Pt} {i:Nat} {p:Pt} (hi:P[i]? =some p):(P.map ePt)[i]? =some (.agg [.int .i64 (p.sort:Int), .int .i64 (p.depth:Int), .int .i64 (p.fin:Int)]):=by rw[l6,hi];rfl
theorem z2z {t:Term} {i:Nat} {n:Node} {h:List AObj} {u:Tip} {k:IntKind} (hi:t[i]? =some n):z1m h 5 (.sl (t.map eNode) u) (.int k (i:Int))=some (.iptr [.int .i64 (n.op:Int), .int .i64 (n.sort:Int), .str n.name, .str n.num, .int .i64 (n.kids:Int)] 0,h):=by
 have hlt:i < t.length:=by
  rw[k7] at hi
  exact hi.1
 have h1:t[i]=n:=by
  rw[k7] at hi
  exact hi.2
 rw[z3a (f:=eNode) hlt (cs:=[.int .i64 (n.op:Int), .int .i64 (n.sort:Int), .str n.name, .str n.num, .int .i64 (n.kids:Int)]) (esz:=5) (by rw[h1];rfl) rfl]
def y7r:ACode:=(.region 1 [⟨(some 12), .move (.tmp 66),none⟩] [])
def y7s:ACode:=(.block 3 (.seq (.region 12 [⟨(some 67), .load none (.tmp 10),none⟩,⟨(some 68), .load none (.tmp 4),none⟩,⟨(some 69), .nilCheck (.tmp 68),none⟩,⟨(some 70), .fieldAddr (.tmp 69) 1,none⟩,⟨(some 71), .load none (.tmp 70),none⟩,⟨(some 72), .move (.tmp 12),none⟩,⟨(some 73), .indexAddr none 3 (.tmp 71) (.tmp 72),none⟩,⟨(some 74), .fieldAddr (.tmp 73) 0,none⟩,⟨(some 75), .load none (.tmp 74),none⟩,⟨(some 76), .buildSlice 6 false (.int .i64 0) 1 [(0,(.tmp 75))],none⟩,⟨(some 77), .append 7 1 8 false (.tmp 67) (.tmp 76),none⟩,⟨none, .store 1 (.tmp 10) (.tmp 77),none⟩] [(0,9)]) (.seq (.region 14 [⟨(some 78), .fieldAddr (.tmp 9) 1,none⟩,⟨(some 79), .load none (.tmp 78),none⟩,⟨(some 80), .load none (.tmp 4),none⟩,⟨(some 81), .nilCheck (.tmp 80),none⟩,⟨(some 82), .fieldAddr (.tmp 81) 1,none⟩,⟨(some 83), .load none (.tmp 82),none⟩,⟨(some 84), .move (.tmp 12),none⟩,⟨(some 85), .indexAddr none 3 (.tmp 83) (.tmp 84),none⟩,⟨(some 86), .fieldAddr (.tmp 85) 1,none⟩,⟨(some 87), .load none (.tmp 86),none⟩,⟨(some 88), .binOp .add (.one .int) (.tmp 87) (.const (.int .i64 1)),none⟩,⟨(some 89), .minmax true (.tmp 79) (.tmp 88),none⟩,⟨(some 90), .fieldAddr (.tmp 9) 1,none⟩,⟨none, .store 1 (.tmp 90) (.tmp 89),none⟩] []) (.region 10 [⟨(some 91), .load none (.tmp 4),none⟩,⟨(some 92), .nilCheck (.tmp 91),none⟩,⟨(some 93), .fieldAddr (.tmp 92) 1,none⟩,⟨(some 94), .load none (.tmp 93),none⟩,⟨(some 95), .move (.tmp 12),none⟩,⟨(some 96), .indexAddr none 3 (.tmp 94) (.tmp 95),none⟩,⟨(some 97), .fieldAddr (.tmp 96) 2,none⟩,⟨(some 98), .load none (.tmp 97),none⟩,⟨(some 99), .fieldAddr (.tmp 9) 2,none⟩,⟨none, .store 1 (.tmp 99) (.tmp 98),none⟩] []))))
theorem j9y {Kk:List Tr} {j:Nat} (hj:j < Kk.length):((Kk.take (j + 1)).map (·.s)).map nat=((Kk.take j).map (·.s)).map nat++[.int .i64 (Kk[j].s:Int)]:=by
 rw[w8 hj,v5,v5]
 rfl
theorem k5a {D:List AObj} {B:Nat} {t:Term} {gP gV g2 g3 g4 g5 i d clk:Nat} {N:AV} {P:List Pt} {Kk G:List Tr} {kv:AV} {o6 o7 o8 o9:AObj} {ts:Tmps} {ks:List Kf} {Q:Post} (hB:D.length=B) (hPl:P.length=t.length) (hPo:PartsOk P (i + 1) (Kk++G)) (hKd:∀ f∈Kk,f.dep≤d) (hd:d≤1000) (hKl:Kk.length≤2 ^ 20)
  (hrow:z7h kv=some Kk.length) (helem:∀ j (P:List Pt) o3 o4 o5 o6 o7 o8,j < Kk.length→q7n (D++[.blk gP (P.map ePt) true false 0, .blk gV [.agg [z0k t, .ob (B + 0) gP 0 t.length]] false false 0, .blk g2 [.ptr (B + 1) gV 0 0] false false 0,o3,o4,o5,o6,o7,o8,o9]) kv (Kk.length - 1 - j)=some (nat (i + 1 + z9m (Kk.take j))))
  (h4:ts 4= .ptr (B + 2) g2 0 0) (h9:ts 9= .ptr (B + 4) g4 0 0) (h10:ts 10= .ptr (B + 5) g5 0 0) (h64:ts 64= .bwd 294 kv)
  (hQ:∀ (dep:Nat) (u:Tip) (o6 o7:AObj) (clk':Nat),1≤dep→dep≤d + 1→K Gam B .skip ks ⟨ts,D++[.blk gP (P.map ePt) true false 0, .blk gV [.agg [z0k t, .ob (B + 0) gP 0 t.length]] false false 0, .blk g2 [.ptr (B + 1) gV 0 0] false false 0, .blk g3 [N] false false 0, .blk g4 [.agg [.int .i64 0, .int .i64 (dep:Int), .int .i64 ((i + 1 + z9m Kk:Nat):Int)]] false false 0, .blk g5 [.sl ((Kk.map (·.s)).map nat) u] false false 0,o6,o7,o8,o9],clk'⟩ Q):
  K Gam B (.rangeB (.tmp 64) 65 66 y7r y7s) ks ⟨ts,D++[.blk gP (P.map ePt) true false 0, .blk gV [.agg [z0k t, .ob (B + 0) gP 0 t.length]] false false 0, .blk g2 [.ptr (B + 1) gV 0 0] false false 0, .blk g3 [N] false false 0, .blk g4 [.agg [.int .i64 0, .int .i64 1, .int .i64 ((i + 1:Nat):Int)]] false false 0, .blk g5 [.sl [] .nil] false false 0,o6,o7,o8,o9],clk⟩ Q:=by
 refine k8f (f:=294) (n:=Kk.length) (v:=kv) (by simpa [AOpd.ev] using h64) hrow rfl (fun m h _=>∃ (dep:Nat) (u:Tip) (o6 o7:AObj),1≤dep∧dep≤d + 1∧h=D++[.blk gP (P.map ePt) true false 0, .blk gV [.agg [z0k t, .ob (B + 0) gP 0 t.length]] false false 0, .blk g2 [.ptr (B + 1) gV 0 0] false false 0, .blk g3 [N] false false 0, .blk g4 [.agg [.int .i64 0, .int .i64 (dep:Int), .int .i64 ((i + 1 + z9m (Kk.take (Kk.length - m)):Nat):Int)]] false false 0, .blk g5 [.sl (((Kk.take (Kk.length - m)).map (·.s)).map nat) u] false false 0,o6,o7,o8,o9]∧z8x B 7 o7 u 1) ?_ ?_ ?_
 ·refine⟨1, .nil,o6,o7,j8 _,by omega, ?_, .inl rfl⟩
  rw[d8,List.take_zero]
  rfl
 ·rintro m h c Pq hm ⟨dep,u,o6,o7,hd1,hd2,rfl,hu⟩ hfin
  have hj:Kk.length - (m + 1) < Kk.length:=by omega
  have hjm:Kk.length - m=Kk.length - (m + 1) + 1:=by omega
  have hel:=helem (Kk.length - (m + 1)) P (.blk g3 [N] false false 0) (.blk g4 [.agg [.int .i64 0, .int .i64 (dep:Int), .int .i64 ((i + 1 + z9m (Kk.take (Kk.length - (m + 1))):Nat):Int)]] false false 0) (.blk g5 [.sl (((Kk.take (Kk.length - (m + 1))).map (·.s)).map nat) u] false false 0) o6 o7 o8 hj
  rw[show Kk.length - 1 - (Kk.length - (m + 1))=m by omega] at hel
  refine⟨_,hel, ?_⟩
  have hpo:=hPo (Kk.length - (m + 1)) Kk[Kk.length - (m + 1)] (by rw[l8 hj];simp[hj])
  have htk:(Kk++G).take (Kk.length - (m + 1))=Kk.take (Kk.length - (m + 1)):=List.take_append_of_le_length (by omega)
  rw[htk] at hpo
  have hfd:=hKd _ (j9 hj)
  have hls:=k4y hj
  have hss:=j9y hj
  rw[←hjm] at hls hss
  generalize Kk[Kk.length - (m + 1)]=f at hpo hfd hls hss
  generalize hst:i + 1 + z9m (Kk.take (Kk.length - (m + 1)))=st at hpo
  have hget:=x6s hpo
  dsimp only at hget
  have hix:∀ L,z1m (D++ .blk gP (P.map ePt) true false 0::L) 3 (.ob (B + 0) gP 0 t.length) (.int .i64 (st:Int))=some (.ptr (B + 0) gP st 0,D++ .blk gP (P.map ePt) true false 0::L):=fun L=>q8u hB hpo hPl
  have e1:IntKind.i64.wrap ((f.dep:Int) + 1)=((f.dep + 1:Nat):Int):=z0e (by omega) (by omega)
  have e2:(if ((f.dep + 1:Nat):Int) > (dep:Int) then ((f.dep + 1:Nat):Int) else (dep:Int))=((max dep (f.dep + 1):Nat):Int):=by split <;> omega
  simp only[go_sem,y7r,y7s,z1a,h4,h9,h10,hB,nat,hix,hget]
  rw[show [AV.int .i64 (f.s:Int)]=[f.s].map nat from rfl,z0q hB rfl hu z4k z4k (by simp only[z6,w0,List.length_take];omega)]
  have hst2:st + f.len=i + 1 + z9m (Kk.take (Kk.length - m)):=by omega
  simp only[go_sem,h4,h9,h10,hB,nat,hix,hget,e1,e2,←hss,hst2]
  exact⟨by simp[z1b,apart,z0j,z0z,z1d,AOp.isCall,hB],hfin _ ⟨max dep (f.dep + 1),_,_,_,by omega,by omega,rfl, .inr (.inr ⟨_,rfl,rfl⟩)⟩⟩
 ·rintro h c ⟨dep,u,o6,o7,hd1,hd2,rfl,hu⟩
  rw[Nat.sub_zero,List.take_length]
  exact hQ dep u o6 o7 c hd1 hd2
theorem j9z {D L:List AObj} {B gP i:Nat} {P:List Pt} {p q:Pt} (hB:D.length=B) (hi:P[i]? =some q):z5q (D++ .blk gP (P.map ePt) true false 0::L) 3 (.agg [.int .i64 (p.sort:Int), .int .i64 (p.depth:Int), .int .i64 (p.fin:Int)]) (.ptr (B + 0) gP i 0)=some (.undef,D++ .blk gP ((P.set i p).map ePt) true false 0::L):=by
 have hb:z1u (D++ .blk gP (P.map ePt) true false 0::L) (B + 0) gP=some (P.map ePt,true,false,0):=by rw[z2k hB];simp[z1u]
 have hp:∀ h:List AObj,pub h (.agg [.int .i64 (p.sort:Int), .int .i64 (p.depth:Int), .int .i64 (p.fin:Int)])=some (.agg [.int .i64 (p.sort:Int), .int .i64 (p.depth:Int), .int .i64 (p.fin:Int)],h):=fun h=>rfl
 have hg:(P.map ePt)[i]? =some (ePt q):=by rw[l6,hi];rfl
 rw[z6w,hb]
 simp only[hg,if_true,hp]
 rw[if_pos ⟨rfl,rfl,rfl,fun _=>⟨m7 _,rfl⟩⟩]
 have:z8f (ePt q).cells 0 (AV.agg [.int .i64 (p.sort:Int), .int .i64 (p.depth:Int), .int .i64 (p.fin:Int)]).cells=some [.int .i64 (p.sort:Int), .int .i64 (p.depth:Int), .int .i64 (p.fin:Int)]:=rfl
 rw[this,k6,z2a hB,List.map_set]
 rfl
theorem k5b {D:List AObj} {B:Nat} {t:Term} {gP gV g2:Nat} {V:List Var} {n:Node} {ss:List Nat} {s d:Nat} {ksT pre post:Term} {Kk G:List Tr} {st:St} {ks:List Kf} {Q:Post} (hB:D.length=B) (hn:NodeOk V n ss s ksT) (hV:∀ v∈V,v∈U) (hk:n.kids=ss.length) (ht:t=pre++n::(ksT++post)) (hKs:Kk.map (·.s)=ss) (hKd:∀ f∈Kk,f.dep≤d) (hd:d≤1000) (hN:(Kk++G).length≤2 ^ 20) (htl:t.length≤2 ^ 20)
  (hst:j6g D B t gP gV g2 (pre.length + 1) (Kk++G) st)
  (hQ:∀ st' dep,dep≤d + 1→j6g D B t gP gV g2 pre.length (⟨s,1 + z9m Kk,dep⟩::G) st'→K Gam B (.loop q5y) ks st' Q):K Gam B (.loop q5y) ks st Q:=by
 obtain⟨ts,h,clk⟩:=st
 obtain⟨P,o3,o4,o5,o6,o7,o8,o9,hPl,hPo,h0,h4,h6,hr,rfl⟩:=hst
 dsimp only at h0 h4 h6 hr
 generalize hip:pre.length=i at *
 have hKlen:Kk.length=n.kids:=by rw[hk,←hKs,z6]
 have hNl:(Kk++G).length=n.kids + G.length:=by rw[y5,hKlen]
 have hss:ss.length≤2 ^ 20:=by omega
 have hti:t[i]? =some n:=by
  rw[ht,m0 (by omega),show i - pre.length=0 by omega]
  rfl
 have hilt:i < t.length:=by
  rw[k7] at hti
  exact hti.1
 obtain⟨hlen,kv,rv,hkv,hrv,hrow,helem,happ⟩:=j2y (t:=t) (gP:=gP) (gV:=gV) (g2:=g2) hB hr hN
 simp only[z8c] at hkv hrv helem happ⊢
 generalize h5:ts 5=r5 at *
 have e0:((i + 1:Nat):Int) - 1=(i:Int):=by omega
 rw[e0] at h6
 have e1:decide ((0:Int)≤(i:Int))=true:=by rw[z04];omega
 have e2:decide ((n.kids:Int) < 0)=false:=by rw[z03];omega
 have e3:decide (((Kk++G).length:Int) < (n.kids:Int))=false:=by rw[z03];omega
 have e4:IntKind.i64.wrap (((Kk++G).length:Int) - (n.kids:Int))=(G.length:Int):=by rw[z0e (by omega) (by omega)];omega
 have e5:IntKind.i64.wrap ((i:Int) + 1)=((i + 1:Nat):Int):=z0e (by omega) (by omega)
 have e6:IntKind.i64.wrap ((i:Int) - 1)=(i:Int) - 1:=z0e (by omega) (by omega)
 have h249:Pure Gam 189 [.agg [.int .i64 (n.op:Int), .int .i64 (n.sort:Int), .str n.name, .str n.num, .int .i64 (n.kids:Int)]] (.bool true):=k4v hn hV
 have h250:Pure Gam 190 [.int .i64 (n.op:Int), .int .i64 (n.kids:Int)] (.bool true):=k4w hn
 rw[z0k] at h0
 refine z2r ?_
 simp only[go_sem,q5y,h0,h4,h5,h6,hB,e1,z2z hti,e2,hlen,e3,z0a h249,z0a h250,z7,e4,e5,hkv,y7q hrow]
 refine k5a (P:=P) hB hPl hPo hKd hd (by omega) hrow helem (by simp[z0b,h4]) (by simp[z0b]) (by simp[z0b]) (by simp[z0b]) ?_
 intro dep u o6 o7 clk' hd1 hd2
 have h252:∀ u,Pure Gam 191 [.agg [.int .i64 (n.op:Int), .int .i64 (n.sort:Int), .str n.name, .str n.num, .int .i64 (n.kids:Int)], .sl (ss.map nat) u] (.int .i64 (s:Int)):=fun u=>k4x hn hss
 have hs:=hn.pos hV
 have e7:decide ((s:Int)=0)=false:=by rw[z03];omega
 obtain⟨q,hq⟩:∃ q,P[i]? =some q:=⟨P[i],by simp[hPl,hilt]⟩
 have happ':=fun P o3 o4 o5 o6 o7 g8 gen=>happ ⟨s,1 + z9m Kk,dep⟩ P o3 o4 o5 o6 o7 g8 gen rfl
 have hPo':=PartsOk.node (s:=s) (dep:=dep) hPo (by omega)
 have hst:=fun L=>j9z (L:=L) (B:=B) (gP:=gP) (p:=⟨s,dep,i + 1 + z9m Kk⟩) hB hq
 simp only at hst
 simp only[nat] at happ'
 have fin:∀ (ts':Tmps) (P':List Pt) (o3 o4 o5 o6 o7 o8:AObj) (gen clk':Nat),P'=P.set i ⟨s,dep,i + 1 + z9m Kk⟩→ts' 0= .sl (t.map eNode) .no→ts' 4= .ptr (B + 2) g2 0 0→ts' 5= .ob (B + 9) gen 0 (G.length + 1)→ts' 6= .int .i64 ((i:Int) - 1)→
   K Gam B (.loop q5y) ks ⟨ts',z8c D B t gP gV g2 P' o3 o4 o5 o6 o7 o8 (.blk gen ((z4n i (⟨s,1 + z9m Kk,dep⟩::G)).reverse.map nat) true true 0),clk'⟩ Q:=by
  intro ts' P' o3 o4 o5 o6 o7 o8 gen clk' hP' q0 q4 q5 q6
  refine hQ _ dep hd2 ⟨P',_,_,_,_,_,_,_,by rw[hP',List.length_set];exact hPl, ?_,q0,q4,q6, .inr ⟨by simp,gen,q5,rfl⟩,rfl⟩
  rw[hP',Nat.add_assoc]
  exact hPo'
 by_cases h15:n.op=15
 ·obtain⟨m,r,hmr,hm3⟩:=hn.mul_num h15
  have ht1:t[i + 1]? =some m:=by
   rw[ht,m0 (by omega),show i + 1 - pre.length=1 by omega,hmr]
   rfl
  have f1:decide ((n.op:Int)=15)=true:=by rw[z04];omega
  have f2:decide ((m.op:Int)=3)=true:=by rw[z04];omega
  simp only[go_sem,h0,h4,h5,h6,hB,hKs,z0a (h252 _),e7,f1,e5,z2z ht1,f2,z7,q8u hB hq hPl,hst,hlen,e4,hrv,happ',e6]
  exact fin _ _ _ _ _ _ _ _ _ _ rfl (by simp[z0b,h0]) (by simp[z0b,h4]) (by simp[z0b]) (by simp[z0b])
 ·have f1:decide ((n.op:Int)=15)=false:=by rw[z03];omega
  simp only[go_sem,h0,h4,h5,h6,hB,hKs,z0a (h252 _),e7,f1,q8u hB hq hPl,hst,hlen,e4,hrv,happ',e6]
  exact fin _ _ _ _ _ _ _ _ _ _ rfl (by simp[z0b,h0]) (by simp[z0b,h4]) (by simp[z0b]) (by simp[z0b])
end
def RVG (x:Option (List AV)) (R:AV→List AObj→Prop) (h:List AObj):Prop:=
 match x with
 | some vs=>(z1j vs).obs=[]∧R (z1j vs).cv h
 | none=>False
def u7z (rs:List ARes) (R:AV→List AObj→Prop):Post:=fun e s=>(∀ i,e≠ .exit i)∧RVG (z1y s.h s.ts rs) R s.h
theorem v0w {rs:List ARes} {R:AV→List AObj→Prop} {ts:Tmps} {h:List AObj} {c:Nat}:u7z rs R .ret ⟨ts,h,c⟩=RVG (z1y h ts rs) R h:=by simp[u7z]
theorem q6d {vs:List AV} {R:AV→List AObj→Prop} {h:List AObj} (ho:(z1j vs).obs=[]):RVG (some vs) R h=R (z1j vs).cv h:=by simp[RVG,ho]
attribute [go_sem] v0w
theorem x1p {f:Nat} {args az:List AV} {h:List AObj} {clk:Nat} {af:AFun} {Q:AV→List AObj→Nat→Prop} (hext:Gam.ext f=none) (hfn:Gam.fn f=some af) (hb:af.byref=[]) (ho:af.owned=false) (hobs:z3x args=[]) (has:cvL args=az) (hids:idsL az=[])
  (hw:∀ (D:List AObj) (B:Nat) (R:AV→List AObj→Prop),D.length=B→B=h.length→(∀ v L',(∃ i∈v.ids,B≤i)→(∀ c,Q v (h++L') c)→R v (D++L'))→K Gam B af.body [] ⟨q0u az,D++j1 af.nslots .dead,clk⟩ (u7z af.results R)):WC Gam f args h clk Q:=by
 obtain⟨k,e,s,he,hne,hend⟩:=hw (maskFrom [] 0 h) h.length (fun v h'=>(∃ i∈v.ids,h.length≤i)∧∀ c,Q v (h++h'.drop h.length) c) (z5f) rfl (fun v L' hi hq=>⟨hi,by
  rw[List.drop_left' z5f]
  exact hq⟩)
 have hp:z1i h af.byref 0 args=some az:=by rw[hb,z1p hobs,has]
 have hl:z0p af.byref 0 args=[]:=by rw[hb];exact z4s hobs
 unfold RVG at hend
 split at hend
 ·rename_i vs hr
  obtain⟨hob,⟨i,hi1,hi2⟩,hq⟩:=hend
  have hc:=q4j (h:=s.h) hob
  refine⟨k,(z1j vs).cv,h++s.h.drop h.length,s.clk, ?_,hq _⟩
  have hall:((z1j vs).cv.ids.all fun x=>decide (x < h.length))=false:=by
   rw[List.all_eq_false]
   exact⟨i,hi1,by simp;omega⟩
  unfold z5c z0o
  simp only[hext,hfn,hp,hl,freezeAll,hids,reach,he,ho,y6,if_false,hr,hc,hob,z7w,w7,List.flatten_nil,List.append_nil,ite_self]
  cases e with
  | exit i=>exact absurd rfl (hne i)
  | norm=>simp[hall]
  | ret=>simp[hall]
 ·exact hend.elim
theorem z4i {f base gg clk:Nat} {args:List AV} {h:List AObj} {dst:Option Nat} {os:List AOper} {ts:Tmps} {ks:List Kf} {Q:Post} (hw:WC Gam f args h clk fun v h' c=>O Gam base .plain (gg + 1) os ⟨z8t ts dst v,h',c⟩ ks Q):CK Gam base f args h clk .plain dst gg os ts ks Q:=hw
section
variable {U:List Var} [UOk U]
theorem j2z {D:List AObj} {B:Nat} {t:Term} {gP gV g2:Nat} {V:List Var} {ks:List Kf} {Q:Post} (hB:D.length=B) (hV:∀ v∈V,v∈U) (htl:t.length≤2 ^ 19) {ss:List Nat} {d:Nat} {u:Term} (h:WF V ss d u):∀ {pre post:Term} {G:List Tr} {st:St},d≤1000→t=pre++(u++post)→G.length≤post.length→j6g D B t gP gV g2 (pre.length + u.length) G st→
  (∀ st' Fu,Fu.map (·.s)=ss→z9m Fu=u.length→Fu.length≤u.length→(∀ f∈Fu,f.dep≤d)→j6g D B t gP gV g2 pre.length (Fu++G) st'→K Gam B (.loop q5y) ks st' Q)→K Gam B (.loop q5y) ks st Q:=by
 induction h with
 | nil=>
   intro pre post G st _ _ _ hst hQ
   exact hQ st [] rfl rfl (by simp) (by simp) (by simpa using hst)
 | @cons n ss ks' s d ss' rest h1 h2 h3 h4 ih1 ih2=>
   intro pre post G st hd ht hG hst hQ
   have e1:t=(pre++n::ks')++(rest++post):=by rw[ht];simp
   refine ih2 (pre:=pre++n::ks') (post:=post) hd e1 hG (by
    have e:pre.length + (n::(ks'++rest)).length=(pre++n::ks').length + rest.length:=by simp;omega
    rw[←e]
    exact hst) fun st1 Fr hr1 hr2 hr2' hr3 hr4=> ?_
   have e2:t=(pre++[n])++(ks'++(rest++post)):=by rw[ht];simp
   have hlen:=congrArg List.length ht
   simp only[y5,u6] at hlen
   refine ih1 (pre:=pre++[n]) (post:=rest++post) (G:=Fr++G) (by omega) e2 (by simp only[y5];omega) (by
    have e:(pre++n::ks').length=(pre++[n]).length + ks'.length:=by simp;omega
    rw[←e]
    exact hr4) fun st2 Fk hk1 hk2 hk2' hk3 hk4=> ?_
   refine k5b (t:=t) (pre:=pre) (post:=rest++post) (Kk:=Fk) (G:=Fr++G) hB h2 hV h3 (by rw[ht];simp) hk1 hk3 (by omega) (by simp only[y5];omega) (by omega) (by simpa using hk4) fun st3 dep hd3 hst3=> ?_
   refine hQ st3 (⟨s,1 + z9m Fk,dep⟩::Fr) (by simp[hr1]) ?_ ?_ ?_ (by simpa using hst3)
   ·rw[q6b,hk2,hr2];simp;omega
   ·simp only[u6,y5];omega
   ·intro f hf
    rw[y3] at hf
    rcases hf with rfl | hf
    ·exact hd3
    ·exact hr3 f hf
theorem y7t {V:List Var} {s d:Nat} {t:Term} {u:Tip} {h:List AObj} {clk:Nat} {Q:AV→List AObj→Nat→Prop} (ht:WF V [s] d t) (hV:∀ v∈V,v∈U) (hl:t.length≤20000) (hd:d≤1000)
  (hQ:∀ gP gV g2 P dep o3 o4 o5 o6 o7 o8 o9 c,P.length=t.length→P[0]? =some ⟨s,dep,t.length⟩→dep≤d→Q (.tup [.ptr (h.length + 1) gV 0 0, .bool true]) (z8c h h.length t gP gV g2 P o3 o4 o5 o6 o7 o8 o9) c):WC Gam 192 [.sl (t.map eNode) u] h clk Q:=by
 refine x1p rfl u6w rfl rfl rfl (az:=[z0k t]) rfl (by simp[idsL,z2c]) fun D B R hB hBh hR=> ?_
 have hms:∀ h s g,msV h s g (.agg [.int .i64 0, .int .i64 0, .int .i64 0]) 24 (.int .i64 (t.length:Int)) (.int .i64 (t.length:Int))=some (.ob s g 0 t.length,h.set s (.blk g (j1 t.length (.agg [.int .i64 0, .int .i64 0, .int .i64 0])) true false 0)):=fun h s g=>q8c rfl (by omega)
 have hrep:j1 t.length (AV.agg [.int .i64 0, .int .i64 0, .int .i64 0])=(j1 t.length (⟨0,0,0⟩:Pt)).map ePt:=by rw[List.map_replicate];rfl
 have e0:IntKind.i64.wrap ((t.length:Int) - 1)=(t.length:Int) - 1:=z0e (by omega) (by omega)
 simp only[go_sem,y6l,hB,z0k,z6,hms,hrep,e0]
 refine j2z (pre:=[]) (post:=[]) (G:=[]) hB hV (by omega) ht hd (by simp) (by simp) ⟨j1 t.length ⟨0,0,0⟩,_,_,_,_,_,_,_,by simp,PartsOk.nil,by simp[z0b,z3f,z0k],by simp[z0b],by simp[z0b], .inl ⟨rfl,by simp[z0b]⟩,rfl⟩ ?_
 rintro ⟨ts,h',clk'⟩ Fu hF1 hF2 hF3 hF4 ⟨P,o3,o4,o5,o6,o7,o8,o9,hPl,hPo,h0,h4,h6,hr,rfl⟩
 dsimp only at h0 h4 h6 hr
 obtain⟨f,rfl⟩:∃ f,Fu=[f]:=by
  match Fu,hF1 with
  | [f],_=>exact⟨f,rfl⟩
 have hfs:f.s=s:=by simpa using hF1
 have hfl:f.len=t.length:=by simpa [z9m] using hF2
 rcases hr with ⟨hbad,_⟩ | ⟨_,g,h5,ho9⟩
 ·simp at hbad
 have hp0:=hPo 0 f (by simp)
 rw[hfs,hfl] at hp0
 have hp0':P[0]? =some ⟨s,f.dep,t.length⟩:=by simpa [z9m] using hp0
 have e1:decide ((0:Int)≤ -1)=false:=by decide
 have h6':ts 6= .int .i64 (-1):=by rw[h6];rfl
 refine z2r ?_
 simp only[go_sem,q5y,h6',e1,h4,h5,z8c,hB,z0k,decide_true]
 rw[q6d rfl]
 refine hR _ _ ⟨B + 1,by simp[z1j,AV.cv,cvL,AV.ids,idsL],by omega⟩ fun c=> ?_
 have:=fun gP gV g2=>hQ gP gV g2 P f.dep o3 o4 o5 o6 o7 o8 o9 c hPl hp0' (hF4 f (by simp))
 simp only[←hBh,z8c,z0k] at this
 exact this _ _ _
end
end
end Go.Proofs.YtkollgjffkdliaaGreatDoor.Am
