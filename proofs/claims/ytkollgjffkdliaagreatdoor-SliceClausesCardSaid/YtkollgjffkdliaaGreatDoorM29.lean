/- Walking: canonical numbers are valid Walking: calls that look at objects and change none Functions of the abstract machine's program Walking: slices Walking: nodes are permitted, and have their sorts  -/
import Derived.Test.YtkollgjffkdliaaGreatDoorM28
open Nat renaming reduceBEq → z0,reduceAdd → z1,reduceLeDiff → z2,reduceSub → z3
set_option linter.all false
namespace Go.Proofs.YtkollgjffkdliaaGreatDoor.Am
open Go
set_option maxRecDepth 100000
theorem y5x {n:Nat} (hn:n < 10 ^ 40):(nl n).length≤5:=y5t (k:=5) (by
 have:(1000000000:Nat) ^ 5=10 ^ 45:=by decide
 rw[this]
 have:(10:Nat) ^ 40≤10 ^ 45:=Nat.pow_le_pow_right (by omega) (by omega)
 omega)
theorem j6p {n:Nat} (hl:(dec n).length≤1000):Pure Gam 325 [.str (dec n)] (.sl ((nl n).map z3w) .no):=by
 have:=w3t (s:=dec n) (z1m n) hl
 rwa [z1u] at this
theorem w3y {neg:Bool} {n:Nat} {d:Option Nat} (ht:NumT neg n d):∃ v:AV,v.ids=[]∧v.obs=[]∧(∃ a b c,v= .agg [.bool a, .sl b .no, .sl c .no])∧Pure Gam 315 [.str (x6p neg n d)] (.tup [v, .bool true]):=by
 have hlen:(dec n).length≤40:=z7e (by omega) ht.len
 have hp1:=q7e (n:=n) (by omega)
 have hpn:=j6p (n:=n) (by omega)
 have e3:decide (dec n=[48])=decide (n=0):=z1t
 have e13:decide (dec n=[48])=true→neg=false∧d=none:=by
  rw[e3,decide_eq_true_iff]
  rintro rfl
  refine⟨?_, ?_⟩
  ·cases neg with
   | false=>rfl
   | true=>exact absurd rfl (ht.pos rfl)
  ·cases d with
   | none=>rfl
   | some k=>have:=ht.den k rfl;rw[Nat.gcd_zero_left] at this;omega
 have w1:(AV.sl [.int .u32 1] .full).cv= .sl ([1].map z3w) .no:=rfl
 cases d with
 | none=>
   refine⟨.agg [.bool neg, .sl ((nl n).map z3w) .no, .sl ([1].map z3w) .no],by simp[AV.ids,idsL,z3k,z3w],rfl,⟨_,_,_,rfl⟩, ?_⟩
   refine Pure.of rfl y4a rfl rfl rfl rfl rfl fun D B clk T hB hT=> ?_
   simp only[go_sem,w2t,hB,z0a x6q,z0a (x6r (n:=n) (d:=none) (by omega)),z0a hp1,Bool.not_true,Option.isSome_none]
   have key:∀ x:Bool,decide (dec n=[48])=x→T (.tup [.agg [.bool neg, .sl ((nl n).map z3w) .no, .sl [.int .u32 1] .no], .bool true])=T (.tup [.agg [.bool neg, .sl ((nl n).map z3w) .no, .sl ([1].map z3w) .no], .bool true]):=fun _ _=>rfl
   cases hz:decide (dec n=[48]) with
   | true=>
     obtain⟨rfl,_⟩:=e13 hz
     simp only[go_sem,z0a hpn,hB,Bool.not_false,z0k,z0j,z0f]
     rw[z0g rfl (by simp[z1l,AV.cv,cvL,AV.ids,idsL,z3k,z3w])]
     exact hT _
   | false=>
     simp only[go_sem,z0a hpn,hB,Bool.not_false,z0k,z0j,z0f]
     rw[z0g rfl (by simp[z1l,AV.cv,cvL,AV.ids,idsL,z3k,z3w])]
     exact hT _
 | some k=>
   obtain⟨hk2,hk4,hg⟩:=ht.den k rfl
   have hnz:decide (dec n=[48])=false:=by
    cases hz:decide (dec n=[48]) with
    | false=>rfl
    | true=>exact absurd (e13 hz).2 (by simp)
   have hkl:=x1k hk4
   have hp2:=q7e (n:=k) (by omega)
   have hpk:=j6p (n:=k) (by omega)
   have e5:decide (dec k=[48])=false:=by rw[z1t,decide_eq_false_iff_not];omega
   have e6:decide (dec k=[49])=false:=by rw[q3u,decide_eq_false_iff_not];omega
   have hpg:=w3r (x:=n) (y:=k) (by have:=y5x ht.len;omega) (by omega)
   rw[hg,show nl 1=[1] from x6m (by omega) (by omega)] at hpg
   have hpo:=w3o (l:=[1])
   have e7:decide (([1]:List Nat)=[1])=true:=rfl
   rw[e7,List.map_cons,List.map_nil] at hpo
   refine⟨.agg [.bool neg, .sl ((nl n).map z3w) .no, .sl ((nl k).map z3w) .no],by simp[AV.ids,idsL,z3k,z3w],rfl,⟨_,_,_,rfl⟩, ?_⟩
   refine Pure.of rfl y4a rfl rfl rfl rfl rfl fun D B clk T hB hT=> ?_
   simp only[go_sem,w2t,hB,z1b,z0a x6q,z0a (x6r (n:=n) (d:=some k) (by omega)),z0a hp1,Bool.not_true,Option.isSome_some,hnz,z0a hpn,w3x,z0a hp2,e5,e6,z0a hpk,z0a hpg,z0a hpo,z0k,z0j,z0f]
   refine⟨by simp[z1e,apart,z0l,z0z,z1i,AOp.isCall,hB], ?_⟩
   rw[z0g rfl (by simp[z1l,AV.cv,cvL,AV.ids,idsL,z3k,z3w])]
   exact hT _
theorem k4x {neg:Bool} {n:Nat} {d:Option Nat} (ht:NumT neg n d):Pure Gam 290 [.str (x6p neg n d)] (.bool true):=by
 have hlen:(dec n).length≤40:=z7e (by omega) ht.len
 by_cases h9:9 < (dec n).length
 ·have hp1:=j3m (neg:=neg) (n:=n) (d:=d) (by omega) h9
  obtain⟨v,hv1,hv2,⟨a,b,c,rfl⟩,hp2⟩:=w3y ht
  refine Pure.of rfl y3u rfl rfl rfl rfl rfl fun D B clk T hB hT=> ?_
  simp only[go_sem,w2o,hB,z0a hp1,z0a hp2]
  rw[z0e]
  exact hT _
 ·have hn:n < 1000000000:=by
   have h1:=z4w (z1m n)
   rw[z1u] at h1
   have h2:10 ^ (dec n).length≤10 ^ 9:=Nat.pow_le_pow_right (by omega) (by omega)
   omega
  obtain⟨p,q,hp⟩:=x6s ht (by omega) hn
  refine Pure.of rfl y3u rfl rfl rfl rfl rfl fun D B clk T hB hT=> ?_
  simp only[go_sem,w2o,hB,z0a hp]
  rw[z0e]
  exact hT _
theorem w3z {k:Nat} (h1:1≤k) (h5:k≤5):Pure Gam 248 [.str (dec k)] (.int .i64 1):=by
 have hv:Pure Gam 290 [.str (dec k)] (.bool true):=k4x (neg:=false) (n:=k) (d:=none) ⟨by simp,by omega,by simp⟩
 have e1:decide (dec k=[48])=false:=by rw[z1t,decide_eq_false_iff_not];omega
 have e2:∀ h q,q4u h (.str (dec k)) (.int q 0)=some (.int .u8 ((48 + k:Nat):Int),h):=fun h q=>by rw[z7d (by omega)];exact z6j
 have e3:decide (((48 + k:Nat):Int)=45)=false:=by rw[decide_eq_false_iff_not];omega
 refine Pure.of rfl u4r rfl rfl rfl rfl rfl fun D B clk T hB hT=> ?_
 simp only[go_sem,y5n,z0a hv,Bool.not_true,e1,e2,e3]
 rw[z2l]
 exact hT _
theorem j3n {a:List Nat} (h:IntS a):Pure Gam 245 [.int .i64 2, .str a] (.bool true):=by
 obtain⟨z,rfl,hz⟩:=h
 have hlen:(dec z.natAbs).length≤40:=z7e (by omega) hz
 have hp:=k4s (z:=z) (by omega)
 refine Pure.of rfl y5l rfl rfl rfl rfl rfl fun D B clk T hB hT=> ?_
 simp only[go_sem,w3f,Int.reduceEq,decide_true,z0a hp]
 rw[z0e]
 exact hT _
theorem j0l {a:List Nat} (h:RatS a):Pure Gam 245 [.int .i64 3, .str a] (.bool true):=by
 obtain⟨neg,n,d,rfl,ht⟩:=h.text
 refine Pure.of rfl y5l rfl rfl rfl rfl rfl fun D B clk T hB hT=> ?_
 simp only[go_sem,w3f,Int.reduceEq,decide_true,decide_false,z0a (k4x ht)]
 rw[z0e]
 exact hT _
def Has (S:List (Nat×AObj)) (h:List AObj):Prop:=∀ p∈S,h[p.1]? =some p.2
theorem Has.lt {S:List (Nat×AObj)} {h:List AObj} (hS:Has S h):∀ p∈S,p.1 < h.length:=fun p hp=>by
 have:=hS p hp
 rw[List.getElem?_eq_some_iff] at this
 exact this.1
theorem Has.app {S:List (Nat×AObj)} {D L:List AObj} (hS:Has S D):Has S (D++L):=fun p hp=>by
 rw[List.getElem?_append_left (hS.lt p hp)]
 exact hS p hp
theorem Has.nil {h:List AObj}:Has [] h:=fun p hp=>by simp at hp
theorem Has.cons {p:Nat×AObj} {S:List (Nat×AObj)} {h:List AObj} (h1:h[p.1]? =some p.2) (h2:Has S h):Has (p::S) h:=fun q hq=>by
 rw[List.mem_cons] at hq
 rcases hq with rfl | hq
 ·exact h1
 ·exact h2 q hq
theorem z7g {h:List AObj}:∀ {n:Nat} {seen z9o:List Nat} {s:Nat},s∈seen∨s∈z9o→s∈reach h n seen z9o
 | 0,seen,z9o,s,hs=>by
   simp only[reach,List.mem_append]
   exact hs
 | n + 1,seen,[],s,hs=>by
   simp only[reach]
   simpa using hs
 | n + 1,seen,t::z9o,s,hs=>by
   simp only[reach]
   split
   ·rename_i hc
    refine z7g ?_
    rcases hs with hs | hs
    ·exact .inl hs
    ·rw[List.mem_cons] at hs
     rcases hs with rfl | hs
     ·exact .inl (by simpa using hc)
     ·exact .inr hs
   ·refine z7g ?_
    rcases hs with hs | hs
    ·exact .inl (List.mem_cons_of_mem _ hs)
    ·rw[List.mem_cons] at hs
     rcases hs with rfl | hs
     ·exact .inl List.mem_cons_self
     ·exact .inr (List.mem_append_right _ hs)
theorem q0y {h:List AObj} {n s:Nat} {seen z9o:List Nat} {o:AObj} (hns:s∉seen) (ho:h[s]? =some o):reach h (n + 1) seen (s::z9o)=reach h n (s::seen) (o.ids++z9o):=by
 simp[reach,hns,ho]
theorem x1l {h:List AObj} {S:List (Nat×AObj)} (hS:Has S h) (hc:∀ p∈S,∀ i∈p.2.ids,i∈S.map (·.1)):∀ {n:Nat} {seen z9o:List Nat},(∀ i∈seen,i∈S.map (·.1))→(∀ i∈z9o,i∈S.map (·.1))→∀ i∈reach h n seen z9o,i∈S.map (·.1)
 | 0,seen,z9o,h1,h2,i,hi=>by
   simp only[reach,List.mem_append] at hi
   exact hi.elim (h1 i) (h2 i)
 | n + 1,seen,[],h1,h2,i,hi=>by
   simp only[reach] at hi
   exact h1 i hi
 | n + 1,seen,t::z9o,h1,h2,i,hi=>by
   simp only[reach] at hi
   split at hi
   ·exact x1l hS hc h1 (fun j hj=>h2 j (List.mem_cons_of_mem _ hj)) i hi
   ·have ht:=h2 t List.mem_cons_self
    obtain⟨p,hp,rfl⟩:=List.mem_map.1 ht
    rw[hS p hp] at hi
    refine x1l hS hc (fun j hj=> ?_) (fun j hj=> ?_) i hi
    ·rw[List.mem_cons] at hj
     rcases hj with rfl | hj
     ·exact ht
     ·exact h1 j hj
    ·simp only[Option.map_some,Option.getD_some,List.mem_append] at hj
     rcases hj with hj | hj
     ·exact hc p hp j hj
     ·exact h2 j (List.mem_cons_of_mem _ hj)
structure Cov (S:List (Nat×AObj)) (ids:List Nat):Prop where
 root:∀ i∈ids,i∈S.map (·.1)
 closed:∀ p∈S,∀ i∈p.2.ids,i∈S.map (·.1)
 cover:∀ h,Has S h→∀ p∈S,p.1∈reach h (h.length + 1) [] ids
theorem Cov.one {s:Nat} {o:AObj} (ho:o.ids=[]):Cov [(s,o)] [s]:=by
 refine⟨by simp,by simp[ho],fun h hS p hp=> ?_⟩
 simp at hp
 subst hp
 exact z7g (.inr List.mem_cons_self)
theorem Cov.two {s t:Nat} {o q:AObj} (ho:o.ids=[t]) (hq:q.ids=[]):Cov [(s,o),(t,q)] [s]:=by
 refine⟨by simp,by simp[ho,hq],fun h hS p hp=> ?_⟩
 have h1:h[s]? =some o:=hS (s,o) (by simp)
 have hr:reach h (h.length + 1) [] [s]=reach h h.length [s] [t]:=by rw[q0y (by simp) h1,ho];rfl
 rw[hr]
 simp at hp
 rcases hp with rfl | rfl
 ·exact z7g (.inl List.mem_cons_self)
 ·exact z7g (.inr List.mem_cons_self)
def Reads (S:List (Nat×AObj)) (f:Nat) (args:List AV) (v:AV):Prop:=
 ∀ h clk,Has S h→(∃ k,z5g Gam k f args h clk=some (v,h,clk))∧∀ x∈z1a Gam f args h,x∈S.map (·.1)
theorem x4n {T:List Nat}:∀ {h h':List AObj} {k:Nat},(∀ i,i < h.length→T.contains (k + i)=true→h'[i]? =h[i]?)→z0t T k h h'=h
 | [],[],_,_=>rfl
 | [],_::_,_,_=>rfl
 | o::h,[],_,_=>rfl
 | o::h,o'::h',k,hh=>by
   have h0:T.contains k=true→o'=o:=fun hc=>by simpa using hh 0 (by simp) hc
   have h1:=x4n (T:=T) (h:=h) (h':=h') (k:=k + 1) fun i hi hc=>by
    have:=hh (i + 1) (by simpa using hi) (by rw[show k + (i + 1)=k + 1 + i by omega];exact hc)
    simpa using this
   simp only[z0t,h1]
   split
   ·rename_i hc
    rw[h0 hc]
   ·rfl
theorem Reads.of {S:List (Nat×AObj)} {f:Nat} {args az:List AV} {v:AV} {af:AFun} (hext:Gam.ext f=none) (hfn:Gam.fn f=some af) (hb:af.byref=[]) (ho:af.owned=false) (hobs:z4r args=[]) (has:cvL args=az) (hC:Cov S (idsL az))
  (hw:∀ (D:List AObj) (B clk:Nat) (R:AV→List AObj→Prop),D.length=B→Has S D→(∀ p∈S,p.1 < B)→(∀ h',Has S h'→R v h')→K Gam B af.body [] ⟨q0m az,D++List.replicate af.nslots .dead,clk⟩ (k2h (S.map (·.1)) af.results R)):Reads S f args v:=by
 intro h clk hS
 have hp:z1v h af.byref 0 args=some az:=by rw[hb,z1o hobs,has]
 have hl:z0u af.byref 0 args=[]:=by rw[hb];exact z4u hobs
 have hTS:∀ i∈reach h (h.length + 1) [] (idsL az),i∈S.map (·.1):=x1l hS hC.closed (by simp) hC.root
 refine⟨?_, ?_⟩
 ·have hmask:Has S (maskFrom (reach h (h.length + 1) [] (idsL az)) 0 h):=fun p hp'=>by
   rw[x9m (by rw[Nat.zero_add,List.contains_eq_mem];exact decide_eq_true (hC.cover h hS p hp'))]
   exact hS p hp'
  obtain⟨k,e,s1,he,hend⟩:=hw (maskFrom (reach h (h.length + 1) [] (idsL az)) 0 h) _ clk (fun v' h'=>v'=v∧Has S h') rfl hmask (fun p hp'=>by rw[z4g];exact hS.lt p hp') (fun h' hh=>⟨rfl,hh⟩)
  obtain⟨hne,vs,v',hr,hc,hv,hno,rfl,hS'⟩:=x5u hend
  rw[z4g] at he
  refine⟨k, ?_⟩
  have hfz:∀ p∈S,(freezeAll s1.h (z1l vs).obs)[p.1]? =some p.2:=fun p hp'=>by
   rw[q6w]
   ·exact hS' p hp'
   ·rw[List.all_eq_true]
    intro q hq
    have:=hno
    simp only[x9o,List.all_eq_true] at this
    have hq':=this q hq
    simp only[Bool.not_eq_true',List.contains_eq_mem,decide_eq_false_iff_not,List.mem_map] at hq'
    simp only[Bool.not_eq_true',List.contains_eq_mem,decide_eq_false_iff_not,List.mem_singleton]
    exact fun hqp=>hq' ⟨p,hp',hqp.symm⟩
  have hm:z0t (reach h (h.length + 1) [] (idsL az)) 0 h (freezeAll s1.h (z1l vs).obs)=h:=by
   refine x4n fun i hi hc'=> ?_
   rw[Nat.zero_add,List.contains_eq_mem,decide_eq_true_iff] at hc'
   obtain⟨p,hp',rfl⟩:=List.mem_map.1 (hTS i hc')
   rw[hfz p hp',hS p hp']
  have hall:((v'.ids++(List.map (fun i=>(Option.map AObj.ids (freezeAll s1.h (z1l vs).obs)[i]?).getD []) (reach h (h.length + 1) [] (idsL az))).flatten).all fun x=>decide (x < h.length))=true:=by
   rw[hv,List.nil_append,List.all_eq_true]
   intro x hx
   rw[List.mem_flatten] at hx
   obtain⟨l,hl',hxl⟩:=hx
   obtain⟨i,hi,rfl⟩:=List.mem_map.1 hl'
   obtain⟨p,hp',rfl⟩:=List.mem_map.1 (hTS i hi)
   rw[hfz p hp'] at hxl
   simp only[Option.map_some,Option.getD_some] at hxl
   obtain⟨q,hq,rfl⟩:=List.mem_map.1 (hC.closed p hp' x hxl)
   exact decide_eq_true (hS.lt q hq)
  unfold z5g z0o
  simp only[hext,hfn,hp,hl,freezeAll,he,ho,Bool.false_eq_true,if_false,hr,hc,ite_self,hm]
  cases e with
  | exit i=>exact absurd rfl (hne i)
  | norm=>simp only[hall,if_true]
  | ret=>simp only[hall,if_true]
 ·intro x hx
  unfold z1a at hx
  simp only[hext,hfn,hp,hobs,List.map_nil,List.nil_append] at hx
  exact hTS x hx
theorem z0x {f base gg clk:Nat} {args:List AV} {S:List (Nat×AObj)} {h:List AObj} {v:AV} {dst:Option Nat} {os:List AOper} {ts:Tmps} {ks:List Kf} {Q:Post} (hr:Reads S f args v) (hh:Has S h):
  CK Gam base f args h clk .plain dst gg os ts ks Q=O Gam base .plain (gg + 1) os ⟨z9n ts dst v,h,clk⟩ ks Q:=by
 obtain⟨⟨k,hk⟩,_⟩:=hr h clk hh
 unfold CK
 apply propext
 constructor
 ·rintro ⟨k',v',h',c,hc,hq⟩
  have:=x0m hk hc
  simp only[Prod.mk.injEq] at this
  obtain⟨rfl,rfl,rfl⟩:=this
  exact hq
 ·intro hq
  exact⟨k,_,_,_,hk,hq⟩
theorem Pure.reads {S:List (Nat×AObj)} {f:Nat} {args:List AV} {v:AV} (hp:Pure Gam f args v):Reads S f args v:=fun h clk _=>⟨(hp h clk).1,by rw[(hp h clk).2];simp⟩
section
open Sh
set_option maxHeartbeats 0
noncomputable def q24:AFun:=(fun (a:AFun) (_:Gam.fn 12=some a)=>a) _ (by conv=>lhs;reduce;simp only[Int.reduceOfNat,Int.reduceNegSucc])
noncomputable def k0c:ACode:=(fun (a:ACode) (_:fl [] (lp q24 1)=a)=>a) _ (by conv=>lhs;reduce;simp only[Int.reduceOfNat,Int.reduceNegSucc])
attribute [local irreducible] k0c
noncomputable def k0d:ACode:=(fun (a:ACode) (_:fl [k0c] (lp q24 0)=a)=>a) _ (by conv=>lhs;reduce;simp only[Int.reduceOfNat,Int.reduceNegSucc])
attribute [local irreducible] k0d
noncomputable def u4y:AFun:=(fun (a:AFun) (_:flF [k0d,k0c] q24=a)=>a) _ (by conv=>lhs;reduce;simp only[Int.reduceOfNat,Int.reduceNegSucc])
theorem u8u:Gam.fn 12=some u4y:=by kernel_rfl
noncomputable def q48:AFun:=(fun (a:AFun) (_:Gam.fn 37=some a)=>a) _ (by conv=>lhs;reduce;simp only[Int.reduceOfNat,Int.reduceNegSucc])
noncomputable def x1m:ACode:=(fun (a:ACode) (_:fl [] (lp q48 0)=a)=>a) _ (by conv=>lhs;reduce;simp only[Int.reduceOfNat,Int.reduceNegSucc])
attribute [local irreducible] x1m
noncomputable def y5y:AFun:=(fun (a:AFun) (_:flF [x1m] q48=a)=>a) _ (by conv=>lhs;reduce;simp only[Int.reduceOfNat,Int.reduceNegSucc])
theorem u8v:Gam.fn 37=some y5y:=by kernel_rfl
noncomputable def u4z:AFun:=(fun (a:AFun) (_:Gam.fn 39=some a)=>a) _ (by conv=>lhs;reduce;simp only[Int.reduceOfNat,Int.reduceNegSucc])
theorem g2k:Gam.fn 39=some u4z:=by kernel_rfl
noncomputable def u8w:AFun:=(fun (a:AFun) (_:Gam.fn 89=some a)=>a) _ (by conv=>lhs;reduce;simp only[Int.reduceOfNat,Int.reduceNegSucc])
theorem g2l:Gam.fn 89=some u8w:=by kernel_rfl
noncomputable def u8x:AFun:=(fun (a:AFun) (_:Gam.fn 152=some a)=>a) _ (by conv=>lhs;reduce;simp only[Int.reduceOfNat,Int.reduceNegSucc])
noncomputable def x4o:ACode:=(fun (a:ACode) (_:fl [] (lp u8x 0)=a)=>a) _ (by conv=>lhs;reduce;simp only[Int.reduceOfNat,Int.reduceNegSucc])
attribute [local irreducible] x4o
noncomputable def y5z:AFun:=(fun (a:AFun) (_:flF [x4o] u8x=a)=>a) _ (by conv=>lhs;reduce;simp only[Int.reduceOfNat,Int.reduceNegSucc])
theorem u5a:Gam.fn 152=some y5z:=by kernel_rfl
noncomputable def q89:AFun:=(fun (a:AFun) (_:Gam.fn 86=some a)=>a) _ (by conv=>lhs;reduce;simp only[Int.reduceOfNat,Int.reduceNegSucc])
noncomputable def j3o:ACode:=(fun (a:ACode) (_:fl [] (lp q89 0)=a)=>a) _ (by conv=>lhs;reduce;simp only[Int.reduceOfNat,Int.reduceNegSucc])
attribute [local irreducible] j3o
noncomputable def u5b:AFun:=(fun (a:AFun) (_:flF [j3o] q89=a)=>a) _ (by conv=>lhs;reduce;simp only[Int.reduceOfNat,Int.reduceNegSucc])
theorem u8y:Gam.fn 86=some u5b:=by kernel_rfl
noncomputable def q75:AFun:=(fun (a:AFun) (_:Gam.fn 114=some a)=>a) _ (by conv=>lhs;reduce;simp only[Int.reduceOfNat,Int.reduceNegSucc])
noncomputable def v1b:ACode:=(fun (a:ACode) (_:fl [] (lp q75 0)=a)=>a) _ (by conv=>lhs;reduce;simp only[Int.reduceOfNat,Int.reduceNegSucc])
attribute [local irreducible] v1b
noncomputable def u8z:AFun:=(fun (a:AFun) (_:flF [v1b] q75=a)=>a) _ (by conv=>lhs;reduce;simp only[Int.reduceOfNat,Int.reduceNegSucc])
theorem g2m:Gam.fn 114=some u8z:=by kernel_rfl
noncomputable def u5c:AFun:=(fun (a:AFun) (_:Gam.fn 151=some a)=>a) _ (by conv=>lhs;reduce;simp only[Int.reduceOfNat,Int.reduceNegSucc])
noncomputable def x4p:ACode:=(fun (a:ACode) (_:fl [] (lp u5c 1)=a)=>a) _ (by conv=>lhs;reduce;simp only[Int.reduceOfNat,Int.reduceNegSucc])
attribute [local irreducible] x4p
noncomputable def j0m:ACode:=(fun (a:ACode) (_:fl [x4p] (lp u5c 0)=a)=>a) _ (by conv=>lhs;reduce;simp only[Int.reduceOfNat,Int.reduceNegSucc])
attribute [local irreducible] j0m
noncomputable def y6a:AFun:=(fun (a:AFun) (_:flF [j0m,x4p] u5c=a)=>a) _ (by conv=>lhs;reduce;simp only[Int.reduceOfNat,Int.reduceNegSucc])
theorem u5d:Gam.fn 151=some y6a:=by kernel_rfl
noncomputable def x2y:AFun:=(fun (a:AFun) (_:Gam.fn 223=some a)=>a) _ (by conv=>lhs;reduce;simp only[Int.reduceOfNat,Int.reduceNegSucc])
theorem y6b:Gam.fn 223=some x2y:=by kernel_rfl
noncomputable def u9a:AFun:=(fun (a:AFun) (_:Gam.fn 47=some a)=>a) _ (by conv=>lhs;reduce;simp only[Int.reduceOfNat,Int.reduceNegSucc])
theorem g2n:Gam.fn 47=some u9a:=by kernel_rfl
def k4y:ACode:=(.seq (.region 1 [N 9 (.binOp .lss (.one .int) (.tmp 8) (.tmp 7))] []) (.seq (.cond (.tmp 9) .skip (.exit 0)) (.seq (.block 1 (.seq (.region 2 [M 10 8,M 5 10] []) (.seq (.region 6 [M 11 1,M 12 0,M 13 5,N 14 (.indexAddr none 1 (.tmp 12) (.tmp 13)),L 15 14,N 16 (.binOp .eql (.one .str) (.tmp 11) (.tmp 15))] []) (.cond (.tmp 16) (.seq (.region 2 [M 17 5,M 4 17] []) .ret) .skip)))) (.region 2 [N 18 (.binOp .add (.one .int) (.tmp 8) (I 1)),M 8 18] []))))
def u9b:AFun:=
 {ntmps:=19,nslots:=0,results:=[.tmp 4],byref:=[],owned:=false,
  body:=(.seq (.region 1 [N 4 (.move (I 0))] []) (.seq (.seq (.region 3 [M 6 0,N 7 (.len .sl (.tmp 6)),N 8 (.move (I 0))] []) (.block 0 (.loop k4y))) (.seq (.region 1 [N 4 (.move (I (-1)))] []) .ret)))}
theorem g2o:Gam.fn 100=some u9b:=by kernel_rfl
noncomputable def u9c:AFun:=(fun (a:AFun) (_:Gam.fn 87=some a)=>a) _ (by conv=>lhs;reduce;simp only[Int.reduceOfNat,Int.reduceNegSucc])
theorem g2p:Gam.fn 87=some u9c:=by kernel_rfl
noncomputable def u9d:AFun:=(fun (a:AFun) (_:Gam.fn 88=some a)=>a) _ (by conv=>lhs;reduce;simp only[Int.reduceOfNat,Int.reduceNegSucc])
theorem g2q:Gam.fn 88=some u9d:=by kernel_rfl
noncomputable def v7d:AFun:=(fun (a:AFun) (_:Gam.fn 85=some a)=>a) _ (by conv=>lhs;reduce;simp only[Int.reduceOfNat,Int.reduceNegSucc])
theorem y9f:Gam.fn 85=some v7d:=by kernel_rfl
noncomputable def q38:AFun:=(fun (a:AFun) (_:Gam.fn 38=some a)=>a) _ (by conv=>lhs;reduce;simp only[Int.reduceOfNat,Int.reduceNegSucc])
noncomputable def v1c:ACode:=(fun (a:ACode) (_:fl [] (lp q38 0)=a)=>a) _ (by conv=>lhs;reduce;simp only[Int.reduceOfNat,Int.reduceNegSucc])
attribute [local irreducible] v1c
noncomputable def u9e:AFun:=(fun (a:AFun) (_:flF [v1c] q38=a)=>a) _ (by conv=>lhs;reduce;simp only[Int.reduceOfNat,Int.reduceNegSucc])
theorem g2r:Gam.fn 38=some u9e:=by kernel_rfl
noncomputable def q39:AFun:=(fun (a:AFun) (_:Gam.fn 40=some a)=>a) _ (by conv=>lhs;reduce;simp only[Int.reduceOfNat,Int.reduceNegSucc])
noncomputable def v1d:ACode:=(fun (a:ACode) (_:fl [] (lp q39 0)=a)=>a) _ (by conv=>lhs;reduce;simp only[Int.reduceOfNat,Int.reduceNegSucc])
attribute [local irreducible] v1d
noncomputable def u9f:AFun:=(fun (a:AFun) (_:flF [v1d] q39=a)=>a) _ (by conv=>lhs;reduce;simp only[Int.reduceOfNat,Int.reduceNegSucc])
theorem g2s:Gam.fn 40=some u9f:=by kernel_rfl
noncomputable def u9g:AFun:=(fun (a:AFun) (_:Gam.fn 93=some a)=>a) _ (by conv=>lhs;reduce;simp only[Int.reduceOfNat,Int.reduceNegSucc])
theorem g2t:Gam.fn 93=some u9g:=by kernel_rfl
noncomputable def u9h:AFun:=(fun (a:AFun) (_:Gam.fn 153=some a)=>a) _ (by conv=>lhs;reduce;simp only[Int.reduceOfNat,Int.reduceNegSucc])
noncomputable def j6q:ACode:=(fun (a:ACode) (_:fl [] (lp u9h 0)=a)=>a) _ (by conv=>lhs;reduce;simp only[Int.reduceOfNat,Int.reduceNegSucc])
attribute [local irreducible] j6q
noncomputable def y6c:AFun:=(fun (a:AFun) (_:flF [j6q] u9h=a)=>a) _ (by conv=>lhs;reduce;simp only[Int.reduceOfNat,Int.reduceNegSucc])
theorem u5e:Gam.fn 153=some y6c:=by kernel_rfl
noncomputable def u9i:AFun:=(fun (a:AFun) (_:Gam.fn 28=some a)=>a) _ (by conv=>lhs;reduce;simp only[Int.reduceOfNat,Int.reduceNegSucc])
theorem g2u:Gam.fn 28=some u9i:=by kernel_rfl
noncomputable def q61:AFun:=(fun (a:AFun) (_:Gam.fn 70=some a)=>a) _ (by conv=>lhs;reduce;simp only[Int.reduceOfNat,Int.reduceNegSucc])
noncomputable def v1e:ACode:=(fun (a:ACode) (_:fl [] (lp q61 0)=a)=>a) _ (by conv=>lhs;reduce;simp only[Int.reduceOfNat,Int.reduceNegSucc])
attribute [local irreducible] v1e
noncomputable def u9j:AFun:=(fun (a:AFun) (_:flF [v1e] q61=a)=>a) _ (by conv=>lhs;reduce;simp only[Int.reduceOfNat,Int.reduceNegSucc])
theorem g2v:Gam.fn 70=some u9j:=by kernel_rfl
noncomputable def u9k:AFun:=(fun (a:AFun) (_:Gam.fn 122=some a)=>a) _ (by conv=>lhs;reduce;simp only[Int.reduceOfNat,Int.reduceNegSucc])
noncomputable def j6r:ACode:=(fun (a:ACode) (_:fl [] (lp u9k 0)=a)=>a) _ (by conv=>lhs;reduce;simp only[Int.reduceOfNat,Int.reduceNegSucc])
attribute [local irreducible] j6r
noncomputable def y6d:AFun:=(fun (a:AFun) (_:flF [j6r] u9k=a)=>a) _ (by conv=>lhs;reduce;simp only[Int.reduceOfNat,Int.reduceNegSucc])
theorem y6e:Gam.fn 122=some y6d:=by kernel_rfl
noncomputable def y6f:AFun:=(fun (a:AFun) (_:Gam.fn 123=some a)=>a) _ (by conv=>lhs;reduce;simp only[Int.reduceOfNat,Int.reduceNegSucc])
theorem u5f:Gam.fn 123=some y6f:=by kernel_rfl
noncomputable def u9l:AFun:=(fun (a:AFun) (_:Gam.fn 196=some a)=>a) _ (by conv=>lhs;reduce;simp only[Int.reduceOfNat,Int.reduceNegSucc])
noncomputable def x4q:ACode:=(fun (a:ACode) (_:fl [] (lp u9l 0)=a)=>a) _ (by conv=>lhs;reduce;simp only[Int.reduceOfNat,Int.reduceNegSucc])
attribute [local irreducible] x4q
noncomputable def y6g:AFun:=(fun (a:AFun) (_:flF [x4q] u9l=a)=>a) _ (by conv=>lhs;reduce;simp only[Int.reduceOfNat,Int.reduceNegSucc])
theorem u5g:Gam.fn 196=some y6g:=by kernel_rfl
noncomputable def y6h:AFun:=(fun (a:AFun) (_:Gam.fn 126=some a)=>a) _ (by conv=>lhs;reduce;simp only[Int.reduceOfNat,Int.reduceNegSucc])
theorem u5h:Gam.fn 126=some y6h:=by kernel_rfl
noncomputable def y6i:AFun:=(fun (a:AFun) (_:Gam.fn 127=some a)=>a) _ (by conv=>lhs;reduce;simp only[Int.reduceOfNat,Int.reduceNegSucc])
theorem u5i:Gam.fn 127=some y6i:=by kernel_rfl
def k4z:ACode:=(.seq (.region 1 [N 10 (.binOp .lss (.one .int) (.tmp 9) (.tmp 8))] []) (.seq (.cond (.tmp 10) .skip (.exit 0)) (.seq (.block 1 (.seq (.region 4 [N 11 (.indexAddr none 2 (.tmp 7) (.tmp 9)),N 12 (.load (some 2) (.tmp 11)),N 5 (.alloc 1 (.agg [(.str []),(.int .i64 0)])),S 2 5 12] []) (.region 3 [M 13 3,N 14 (.load (some 2) (.tmp 5)),⟨none, .mapUpdate (.agg [.str, .int]) (.tmp 13) (.tmp 14) (.const (.bool true)),none⟩] []))) (.region 2 [N 15 (.binOp .add (.one .int) (.tmp 9) (I 1)),M 9 15] []))))
def y6j:AFun:=
 {ntmps:=17,nslots:=2,results:=[.tmp 2],byref:=[],owned:=false,
  body:=(.seq (.region 1 [N 2 (.move (.const .nilmap))] []) (.seq (.region 2 [N 6 (.makeMap 0),M 3 6] []) (.seq (.seq (.region 3 [M 7 0,N 8 (.len .sl (.tmp 7)),N 9 (.move (I 0))] []) (.block 0 (.loop k4z))) (.seq (.region 2 [M 16 3,M 2 16] []) .ret))))}
theorem u5j:Gam.fn 200=some y6j:=by kernel_rfl
noncomputable def u9m:AFun:=(fun (a:AFun) (_:Gam.fn 201=some a)=>a) _ (by conv=>lhs;reduce;simp only[Int.reduceOfNat,Int.reduceNegSucc])
noncomputable def j6s:ACode:=(fun (a:ACode) (_:fl [] (lp u9m 0)=a)=>a) _ (by conv=>lhs;reduce;simp only[Int.reduceOfNat,Int.reduceNegSucc])
attribute [local irreducible] j6s
noncomputable def y6k:AFun:=(fun (a:AFun) (_:flF [j6s] u9m=a)=>a) _ (by conv=>lhs;reduce;simp only[Int.reduceOfNat,Int.reduceNegSucc])
theorem u5k:Gam.fn 201=some y6k:=by kernel_rfl
noncomputable def y6l:AFun:=(fun (a:AFun) (_:Gam.fn 202=some a)=>a) _ (by conv=>lhs;reduce;simp only[Int.reduceOfNat,Int.reduceNegSucc])
theorem u5l:Gam.fn 202=some y6l:=by kernel_rfl
noncomputable def u9n:AFun:=(fun (a:AFun) (_:Gam.fn 203=some a)=>a) _ (by conv=>lhs;reduce;simp only[Int.reduceOfNat,Int.reduceNegSucc])
noncomputable def j6t:ACode:=(fun (a:ACode) (_:fl [] (lp u9n 0)=a)=>a) _ (by conv=>lhs;reduce;simp only[Int.reduceOfNat,Int.reduceNegSucc])
attribute [local irreducible] j6t
noncomputable def y6m:AFun:=(fun (a:AFun) (_:flF [j6t] u9n=a)=>a) _ (by conv=>lhs;reduce;simp only[Int.reduceOfNat,Int.reduceNegSucc])
theorem u5m:Gam.fn 203=some y6m:=by kernel_rfl
noncomputable def y6n:AFun:=(fun (a:AFun) (_:Gam.fn 204=some a)=>a) _ (by conv=>lhs;reduce;simp only[Int.reduceOfNat,Int.reduceNegSucc])
theorem u5n:Gam.fn 204=some y6n:=by kernel_rfl
noncomputable def y6o:AFun:=(fun (a:AFun) (_:Gam.fn 159=some a)=>a) _ (by conv=>lhs;reduce;simp only[Int.reduceOfNat,Int.reduceNegSucc])
theorem u5o:Gam.fn 159=some y6o:=by kernel_rfl
noncomputable def u9o:AFun:=(fun (a:AFun) (_:Gam.fn 227=some a)=>a) _ (by conv=>lhs;reduce;simp only[Int.reduceOfNat,Int.reduceNegSucc])
noncomputable def x4r:ACode:=(fun (a:ACode) (_:fl [] (lp u9o 0)=a)=>a) _ (by conv=>lhs;reduce;simp only[Int.reduceOfNat,Int.reduceNegSucc])
attribute [local irreducible] x4r
noncomputable def y6p:AFun:=(fun (a:AFun) (_:flF [x4r] u9o=a)=>a) _ (by conv=>lhs;reduce;simp only[Int.reduceOfNat,Int.reduceNegSucc])
theorem u5p:Gam.fn 227=some y6p:=by kernel_rfl
def w4a:AFun:=
 {ntmps:=8,nslots:=1,results:=[.tmp 3],byref:=[],owned:=false,
  body:=(.seq (.region 2 [N 2 (.box 0 (.tmp 0)),N 3 (.move (.const (.bool false)))] []) (.seq (.region 5 [L 4 1,N 5 (.load (some 2) (.tmp 2)),N 6 (.lookup (.agg [.str, .int]) (.bool false) (.tmp 4) (.tmp 5) false),N 7 (.unOp .not (.tmp 6)),M 3 7] []) .ret))}
theorem u5q:Gam.fn 256=some w4a:=by kernel_rfl
noncomputable def y6q:AFun:=(fun (a:AFun) (_:Gam.fn 199=some a)=>a) _ (by conv=>lhs;reduce;simp only[Int.reduceOfNat,Int.reduceNegSucc])
theorem u5r:Gam.fn 199=some y6q:=by kernel_rfl
end
theorem v1f {α:Type} {enc:α→AV} {xs:List α} {S:List (Nat×AObj)} {c:Nat} {cap:List AV} {P:α→Bool} {t:Tip} (hE:∀ x,(enc x).cells.length=1) (hld:∀ x h,q2q h none (.iptr (enc x).cells 0)=some (enc x,h)) (hid:∀ x,(enc x).ids=[]) (hl:xs.length≤2 ^ 20) (hC:Cov S (idsL cap)) (hP:∀ x∈xs,Reads S c (enc x::cap) (.bool (P x))):
  ∃ r:Int,decide (0≤r)=xs.any P∧Reads S 255 [.sl (xs.map enc) t, .fn c cap] (.int .i64 r):=by
 have hC':Cov S (idsL [.sl (xs.map enc) .no, .fn c cap]):=by
  have:idsL [.sl (xs.map enc) .no, .fn c cap]=idsL cap:=by simp[idsL,AV.ids,z0d hid]
  rw[this];exact hC
 have key:∀ n,n≤xs.length→∃ r:Int,decide (0≤r)=(xs.drop (xs.length - n)).any P∧∀ (D L:List AObj) (B clk:Nat) (ks:List Kf) (ts:Tmps) (Q:Post),Has S D→ts 0= .sl (xs.map enc) .no→ts 1= .fn c cap→ts 7= .int .i64 (xs.length:Int)→ts 8= .int .i64 ((xs.length - n:Nat):Int)→
   (∀ ts' clk',ts' 4= .int .i64 r→K Gam B .ret ks ⟨ts',D++L,clk'⟩ Q)→(r= -1→∀ ts' clk',K Gam B (.exit 0) ks ⟨ts',D++L,clk'⟩ Q)→K Gam B (.loop x4k) ks ⟨ts,D++L,clk⟩ Q:=by
  intro n
  induction n with
  | zero=>
    intro _
    refine⟨-1,by simp,fun D L B clk ks ts Q hS h0 h1 h7 h8 _ hx=> ?_⟩
    have e1:decide (((xs.length - 0:Nat):Int) < (xs.length:Int))=false:=by rw[decide_eq_false_iff_not];omega
    refine z2h ?_
    simp only[go_sem,h0,h1,h7,h8,x4k,e1]
    exact hx rfl _ _
  | succ n ih=>
    intro hn
    have hk:xs.length - (n + 1) < xs.length:=by omega
    have hdr:xs.drop (xs.length - (n + 1))=xs[xs.length - (n + 1)]::xs.drop (xs.length - n):=by
     rw[List.drop_eq_getElem_cons hk]
     congr 2
     omega
    have e1:decide (((xs.length - (n + 1):Nat):Int) < (xs.length:Int))=true:=by rw[decide_eq_true_iff];omega
    have hpx:=hP _ (List.getElem_mem hk)
    generalize hxx:xs[xs.length - (n + 1)]=x at hdr hpx
    have hidx:∀ h,z1p h 1 (.sl (xs.map enc) .no) (.int .i64 ((xs.length - (n + 1):Nat):Int))=some (.iptr (enc x).cells 0,h):=fun h=>by
     rw[←hxx]
     exact z4h (by simp[hk]) (hE _)
    have hcx:∀ h,q2q h none (.iptr (enc x).cells 0)=some (enc x,h):=hld x
    cases hpb:P x with
    | true=>
      refine⟨((xs.length - (n + 1):Nat):Int), ?_,fun D L B clk ks ts Q hS h0 h1 h7 h8 hr _=> ?_⟩
      ·rw[hdr,List.any_cons,hpb,Bool.true_or,decide_eq_true_iff];omega
      ·refine z2h ?_
       rw[hpb] at hpx
       simp only[go_sem,z0,z1,z2,z3,reduceCtorEq,↓reduceIte,h0,h1,h7,h8,x4k,e1,hidx,hcx,z0x hpx hS.app]
       exact hr _ _ (by simp[z0b])
    | false=>
      obtain⟨r,h1',h2'⟩:=ih (by omega)
      refine⟨r,by rw[h1',hdr,List.any_cons,hpb,Bool.false_or],fun D L B clk ks ts Q hS h0 h1 h7 h8 hr hx=> ?_⟩
      have e2:IntKind.i64.wrap (((xs.length - (n + 1):Nat):Int) + 1)=((xs.length - n:Nat):Int):=by rw[z0c (by omega) (by omega)];omega
      refine z2h ?_
      rw[hpb] at hpx
      simp only[go_sem,z0,z1,z2,z3,reduceCtorEq,↓reduceIte,h0,h1,h7,h8,x4k,e1,hidx,hcx,z0x hpx hS.app,e2]
      exact h2' D L B _ ks _ Q hS (by simp[z0b,h0]) (by simp[z0b,h1]) (by simp[z0b,h7]) (by simp[z0b]) hr hx
 obtain⟨r,h1,h2⟩:=key xs.length (Nat.le_refl _)
 rw[Nat.sub_self,List.drop_zero] at h1
 refine⟨r,h1,Reads.of rfl u4w rfl rfl rfl rfl (by simpa [cvL,AV.cv] using hC') fun D B clk T hB hS hlt hT=> ?_⟩
 simp only[go_sem,y5s,List.length_map]
 refine h2 D _ B _ _ _ _ hS (by simp[z0b,z2y]) (by simp[z0b,z7o,z2y]) (by simp[z0b]) (by simp[z0b]) (fun ts' clk' q4=> ?_) (fun hr0 ts' clk'=> ?_)
 ·simp only[go_sem,q4]
  rw[z2l]
  exact hT _ hS.app
 ·simp only[go_sem,]
  rw[z2l,←hr0]
  exact hT _ hS.app
theorem v1g {α:Type} {enc:α→AV} {xs:List α} {S:List (Nat×AObj)} {c:Nat} {cap:List AV} {P:α→Bool} {t:Tip} (hE:∀ x,(enc x).cells.length=1) (hld:∀ x h,q2q h none (.iptr (enc x).cells 0)=some (enc x,h)) (hid:∀ x,(enc x).ids=[]) (hl:xs.length≤2 ^ 20) (hC:Cov S (idsL cap)) (hP:∀ x∈xs,Reads S c (enc x::cap) (.bool (P x))):
  Reads S 197 [.sl (xs.map enc) t, .fn c cap] (.bool (xs.any P)):=by
 obtain⟨r,h1,h2⟩:=v1f (t:= .no) hE hld hid hl hC hP
 have hC':Cov S (idsL [.sl (xs.map enc) .no, .fn c cap]):=by
  have:idsL [.sl (xs.map enc) .no, .fn c cap]=idsL cap:=by simp[idsL,AV.ids,z0d hid]
  rw[this];exact hC
 refine Reads.of rfl u4v rfl rfl rfl rfl (by simpa [cvL,AV.cv] using hC') fun D B clk T hB hS hlt hT=> ?_
 simp only[go_sem,y5r,z0x h2 hS.app,h1]
 rw[z0e]
 exact hT _ hS.app
theorem v1h {α:Type} {enc:α→AV} {xs:List α} {S:List (Nat×AObj)} {c:Nat} {cap:List AV} {P:α→Bool} {t:Tip} (hE:∀ x,(enc x).cells.length=2) (hld:∀ x h,q2q h (some 2) (.iptr (enc x).cells 0)=some (enc x,h)) (hid:∀ x,(enc x).ids=[]) (hl:xs.length≤2 ^ 20) (hC:Cov S (idsL cap)) (hP:∀ x∈xs,Reads S c (enc x::cap) (.bool (P x))):
  ∃ r:Int,decide (0≤r)=xs.any P∧Reads S 152 [.sl (xs.map enc) t, .fn c cap] (.int .i64 r):=by
 have hC':Cov S (idsL [.sl (xs.map enc) .no, .fn c cap]):=by
  have:idsL [.sl (xs.map enc) .no, .fn c cap]=idsL cap:=by simp[idsL,AV.ids,z0d hid]
  rw[this];exact hC
 have key:∀ n,n≤xs.length→∃ r:Int,decide (0≤r)=(xs.drop (xs.length - n)).any P∧∀ (D L:List AObj) (B clk:Nat) (ks:List Kf) (ts:Tmps) (Q:Post),Has S D→ts 0= .sl (xs.map enc) .no→ts 1= .fn c cap→ts 7= .int .i64 (xs.length:Int)→ts 8= .int .i64 ((xs.length - n:Nat):Int)→
   (∀ ts' clk',ts' 4= .int .i64 r→K Gam B .ret ks ⟨ts',D++L,clk'⟩ Q)→(r= -1→∀ ts' clk',K Gam B (.exit 0) ks ⟨ts',D++L,clk'⟩ Q)→K Gam B (.loop x4o) ks ⟨ts,D++L,clk⟩ Q:=by
  intro n
  induction n with
  | zero=>
    intro _
    refine⟨-1,by simp,fun D L B clk ks ts Q hS h0 h1 h7 h8 _ hx=> ?_⟩
    have e1:decide (((xs.length - 0:Nat):Int) < (xs.length:Int))=false:=by rw[decide_eq_false_iff_not];omega
    refine z2h ?_
    simp only[go_sem,h0,h1,h7,h8,x4o,e1]
    exact hx rfl _ _
  | succ n ih=>
    intro hn
    have hk:xs.length - (n + 1) < xs.length:=by omega
    have hdr:xs.drop (xs.length - (n + 1))=xs[xs.length - (n + 1)]::xs.drop (xs.length - n):=by
     rw[List.drop_eq_getElem_cons hk]
     congr 2
     omega
    have e1:decide (((xs.length - (n + 1):Nat):Int) < (xs.length:Int))=true:=by rw[decide_eq_true_iff];omega
    have hpx:=hP _ (List.getElem_mem hk)
    generalize hxx:xs[xs.length - (n + 1)]=x at hdr hpx
    have hidx:∀ h,z1p h 2 (.sl (xs.map enc) .no) (.int .i64 ((xs.length - (n + 1):Nat):Int))=some (.iptr (enc x).cells 0,h):=fun h=>by
     rw[←hxx]
     exact z4h (by simp[hk]) (hE _)
    have hcx:∀ h,q2q h (some 2) (.iptr (enc x).cells 0)=some (enc x,h):=hld x
    cases hpb:P x with
    | true=>
      refine⟨((xs.length - (n + 1):Nat):Int), ?_,fun D L B clk ks ts Q hS h0 h1 h7 h8 hr _=> ?_⟩
      ·rw[hdr,List.any_cons,hpb,Bool.true_or,decide_eq_true_iff];omega
      ·refine z2h ?_
       rw[hpb] at hpx
       simp only[go_sem,z0,z1,z2,z3,reduceCtorEq,↓reduceIte,h0,h1,h7,h8,x4o,e1,hidx,hcx,z0x hpx hS.app]
       exact hr _ _ (by simp[z0b])
    | false=>
      obtain⟨r,h1',h2'⟩:=ih (by omega)
      refine⟨r,by rw[h1',hdr,List.any_cons,hpb,Bool.false_or],fun D L B clk ks ts Q hS h0 h1 h7 h8 hr hx=> ?_⟩
      have e2:IntKind.i64.wrap (((xs.length - (n + 1):Nat):Int) + 1)=((xs.length - n:Nat):Int):=by rw[z0c (by omega) (by omega)];omega
      refine z2h ?_
      rw[hpb] at hpx
      simp only[go_sem,z0,z1,z2,z3,reduceCtorEq,↓reduceIte,h0,h1,h7,h8,x4o,e1,hidx,hcx,z0x hpx hS.app,e2]
      exact h2' D L B _ ks _ Q hS (by simp[z0b,h0]) (by simp[z0b,h1]) (by simp[z0b,h7]) (by simp[z0b]) hr hx
 obtain⟨r,h1,h2⟩:=key xs.length (Nat.le_refl _)
 rw[Nat.sub_self,List.drop_zero] at h1
 refine⟨r,h1,Reads.of rfl u5a rfl rfl rfl rfl (by simpa [cvL,AV.cv] using hC') fun D B clk T hB hS hlt hT=> ?_⟩
 simp only[go_sem,y5z,List.length_map]
 refine h2 D _ B _ _ _ _ hS (by simp[z0b,z2y]) (by simp[z0b,z7o,z2y]) (by simp[z0b]) (by simp[z0b]) (fun ts' clk' q4=> ?_) (fun hr0 ts' clk'=> ?_)
 ·simp only[go_sem,q4]
  rw[z2l]
  exact hT _ hS.app
 ·simp only[go_sem,]
  rw[z2l,←hr0]
  exact hT _ hS.app
theorem j3p {α:Type} {enc:α→AV} {xs:List α} {S:List (Nat×AObj)} {c:Nat} {cap:List AV} {P:α→Bool} {t:Tip} (hE:∀ x,(enc x).cells.length=2) (hld:∀ x h,q2q h (some 2) (.iptr (enc x).cells 0)=some (enc x,h)) (hid:∀ x,(enc x).ids=[]) (hl:xs.length≤2 ^ 20) (hC:Cov S (idsL cap)) (hP:∀ x∈xs,Reads S c (enc x::cap) (.bool (P x))):
  Reads S 89 [.sl (xs.map enc) t, .fn c cap] (.bool (xs.any P)):=by
 obtain⟨r,h1,h2⟩:=v1h (t:= .no) hE hld hid hl hC hP
 have hC':Cov S (idsL [.sl (xs.map enc) .no, .fn c cap]):=by
  have:idsL [.sl (xs.map enc) .no, .fn c cap]=idsL cap:=by simp[idsL,AV.ids,z0d hid]
  rw[this];exact hC
 refine Reads.of rfl g2l rfl rfl rfl rfl (by simpa [cvL,AV.cv] using hC') fun D B clk T hB hS hlt hT=> ?_
 simp only[go_sem,u8w,z0x h2 hS.app,h1]
 rw[z0e]
 exact hT _ hS.app
theorem v1i {α:Type} {enc:α→AV} {xs:List α} {S:List (Nat×AObj)} {c:Nat} {cap:List AV} {P:α→Bool} {t:Tip} (hE:∀ x,(enc x).cells.length=3) (hld:∀ x h,q2q h (some 3) (.iptr (enc x).cells 0)=some (enc x,h)) (hid:∀ x,(enc x).ids=[]) (hl:xs.length≤2 ^ 20) (hC:Cov S (idsL cap)) (hP:∀ x∈xs,Reads S c (enc x::cap) (.bool (P x))):
  ∃ r:Int,decide (0≤r)=xs.any P∧Reads S 196 [.sl (xs.map enc) t, .fn c cap] (.int .i64 r):=by
 have hC':Cov S (idsL [.sl (xs.map enc) .no, .fn c cap]):=by
  have:idsL [.sl (xs.map enc) .no, .fn c cap]=idsL cap:=by simp[idsL,AV.ids,z0d hid]
  rw[this];exact hC
 have key:∀ n,n≤xs.length→∃ r:Int,decide (0≤r)=(xs.drop (xs.length - n)).any P∧∀ (D L:List AObj) (B clk:Nat) (ks:List Kf) (ts:Tmps) (Q:Post),Has S D→ts 0= .sl (xs.map enc) .no→ts 1= .fn c cap→ts 7= .int .i64 (xs.length:Int)→ts 8= .int .i64 ((xs.length - n:Nat):Int)→
   (∀ ts' clk',ts' 4= .int .i64 r→K Gam B .ret ks ⟨ts',D++L,clk'⟩ Q)→(r= -1→∀ ts' clk',K Gam B (.exit 0) ks ⟨ts',D++L,clk'⟩ Q)→K Gam B (.loop x4q) ks ⟨ts,D++L,clk⟩ Q:=by
  intro n
  induction n with
  | zero=>
    intro _
    refine⟨-1,by simp,fun D L B clk ks ts Q hS h0 h1 h7 h8 _ hx=> ?_⟩
    have e1:decide (((xs.length - 0:Nat):Int) < (xs.length:Int))=false:=by rw[decide_eq_false_iff_not];omega
    refine z2h ?_
    simp only[go_sem,h0,h1,h7,h8,x4q,e1]
    exact hx rfl _ _
  | succ n ih=>
    intro hn
    have hk:xs.length - (n + 1) < xs.length:=by omega
    have hdr:xs.drop (xs.length - (n + 1))=xs[xs.length - (n + 1)]::xs.drop (xs.length - n):=by
     rw[List.drop_eq_getElem_cons hk]
     congr 2
     omega
    have e1:decide (((xs.length - (n + 1):Nat):Int) < (xs.length:Int))=true:=by rw[decide_eq_true_iff];omega
    have hpx:=hP _ (List.getElem_mem hk)
    generalize hxx:xs[xs.length - (n + 1)]=x at hdr hpx
    have hidx:∀ h,z1p h 3 (.sl (xs.map enc) .no) (.int .i64 ((xs.length - (n + 1):Nat):Int))=some (.iptr (enc x).cells 0,h):=fun h=>by
     rw[←hxx]
     exact z4h (by simp[hk]) (hE _)
    have hcx:∀ h,q2q h (some 3) (.iptr (enc x).cells 0)=some (enc x,h):=hld x
    cases hpb:P x with
    | true=>
      refine⟨((xs.length - (n + 1):Nat):Int), ?_,fun D L B clk ks ts Q hS h0 h1 h7 h8 hr _=> ?_⟩
      ·rw[hdr,List.any_cons,hpb,Bool.true_or,decide_eq_true_iff];omega
      ·refine z2h ?_
       rw[hpb] at hpx
       simp only[go_sem,z0,z1,z2,z3,reduceCtorEq,↓reduceIte,h0,h1,h7,h8,x4q,e1,hidx,hcx,z0x hpx hS.app]
       exact hr _ _ (by simp[z0b])
    | false=>
      obtain⟨r,h1',h2'⟩:=ih (by omega)
      refine⟨r,by rw[h1',hdr,List.any_cons,hpb,Bool.false_or],fun D L B clk ks ts Q hS h0 h1 h7 h8 hr hx=> ?_⟩
      have e2:IntKind.i64.wrap (((xs.length - (n + 1):Nat):Int) + 1)=((xs.length - n:Nat):Int):=by rw[z0c (by omega) (by omega)];omega
      refine z2h ?_
      rw[hpb] at hpx
      simp only[go_sem,z0,z1,z2,z3,reduceCtorEq,↓reduceIte,h0,h1,h7,h8,x4q,e1,hidx,hcx,z0x hpx hS.app,e2]
      exact h2' D L B _ ks _ Q hS (by simp[z0b,h0]) (by simp[z0b,h1]) (by simp[z0b,h7]) (by simp[z0b]) hr hx
 obtain⟨r,h1,h2⟩:=key xs.length (Nat.le_refl _)
 rw[Nat.sub_self,List.drop_zero] at h1
 refine⟨r,h1,Reads.of rfl u5g rfl rfl rfl rfl (by simpa [cvL,AV.cv] using hC') fun D B clk T hB hS hlt hT=> ?_⟩
 simp only[go_sem,y6g,List.length_map]
 refine h2 D _ B _ _ _ _ hS (by simp[z0b,z2y]) (by simp[z0b,z7o,z2y]) (by simp[z0b]) (by simp[z0b]) (fun ts' clk' q4=> ?_) (fun hr0 ts' clk'=> ?_)
 ·simp only[go_sem,q4]
  rw[z2l]
  exact hT _ hS.app
 ·simp only[go_sem,]
  rw[z2l,←hr0]
  exact hT _ hS.app
theorem v1j {α:Type} {enc:α→AV} {xs:List α} {S:List (Nat×AObj)} {c:Nat} {cap:List AV} {P:α→Bool} {t:Tip} (hE:∀ x,(enc x).cells.length=3) (hld:∀ x h,q2q h (some 3) (.iptr (enc x).cells 0)=some (enc x,h)) (hid:∀ x,(enc x).ids=[]) (hl:xs.length≤2 ^ 20) (hC:Cov S (idsL cap)) (hP:∀ x∈xs,Reads S c (enc x::cap) (.bool (P x))):
  Reads S 123 [.sl (xs.map enc) t, .fn c cap] (.bool (xs.any P)):=by
 obtain⟨r,h1,h2⟩:=v1i (t:= .no) hE hld hid hl hC hP
 have hC':Cov S (idsL [.sl (xs.map enc) .no, .fn c cap]):=by
  have:idsL [.sl (xs.map enc) .no, .fn c cap]=idsL cap:=by simp[idsL,AV.ids,z0d hid]
  rw[this];exact hC
 refine Reads.of rfl u5f rfl rfl rfl rfl (by simpa [cvL,AV.cv] using hC') fun D B clk T hB hS hlt hT=> ?_
 simp only[go_sem,y6f,z0x h2 hS.app,h1]
 rw[z0e]
 exact hT _ hS.app
theorem v1k {α:Type} {enc:α→AV} {xs:List α} {S:List (Nat×AObj)} {c:Nat} {cap:List AV} {P:α→Bool} {t:Tip} (hE:∀ x,(enc x).cells.length=2) (hld:∀ x h,q2q h (some 2) (.iptr (enc x).cells 0)=some (enc x,h)) (hid:∀ x,(enc x).ids=[]) (hl:xs.length≤2 ^ 20) (hC:Cov S (idsL cap)) (hP:∀ x∈xs,Reads S c (enc x::cap) (.bool (P x))):
  ∃ r:Int,decide (0≤r)=xs.any P∧Reads S 227 [.sl (xs.map enc) t, .fn c cap] (.int .i64 r):=by
 have hC':Cov S (idsL [.sl (xs.map enc) .no, .fn c cap]):=by
  have:idsL [.sl (xs.map enc) .no, .fn c cap]=idsL cap:=by simp[idsL,AV.ids,z0d hid]
  rw[this];exact hC
 have key:∀ n,n≤xs.length→∃ r:Int,decide (0≤r)=(xs.drop (xs.length - n)).any P∧∀ (D L:List AObj) (B clk:Nat) (ks:List Kf) (ts:Tmps) (Q:Post),Has S D→ts 0= .sl (xs.map enc) .no→ts 1= .fn c cap→ts 7= .int .i64 (xs.length:Int)→ts 8= .int .i64 ((xs.length - n:Nat):Int)→
   (∀ ts' clk',ts' 4= .int .i64 r→K Gam B .ret ks ⟨ts',D++L,clk'⟩ Q)→(r= -1→∀ ts' clk',K Gam B (.exit 0) ks ⟨ts',D++L,clk'⟩ Q)→K Gam B (.loop x4r) ks ⟨ts,D++L,clk⟩ Q:=by
  intro n
  induction n with
  | zero=>
    intro _
    refine⟨-1,by simp,fun D L B clk ks ts Q hS h0 h1 h7 h8 _ hx=> ?_⟩
    have e1:decide (((xs.length - 0:Nat):Int) < (xs.length:Int))=false:=by rw[decide_eq_false_iff_not];omega
    refine z2h ?_
    simp only[go_sem,h0,h1,h7,h8,x4r,e1]
    exact hx rfl _ _
  | succ n ih=>
    intro hn
    have hk:xs.length - (n + 1) < xs.length:=by omega
    have hdr:xs.drop (xs.length - (n + 1))=xs[xs.length - (n + 1)]::xs.drop (xs.length - n):=by
     rw[List.drop_eq_getElem_cons hk]
     congr 2
     omega
    have e1:decide (((xs.length - (n + 1):Nat):Int) < (xs.length:Int))=true:=by rw[decide_eq_true_iff];omega
    have hpx:=hP _ (List.getElem_mem hk)
    generalize hxx:xs[xs.length - (n + 1)]=x at hdr hpx
    have hidx:∀ h,z1p h 2 (.sl (xs.map enc) .no) (.int .i64 ((xs.length - (n + 1):Nat):Int))=some (.iptr (enc x).cells 0,h):=fun h=>by
     rw[←hxx]
     exact z4h (by simp[hk]) (hE _)
    have hcx:∀ h,q2q h (some 2) (.iptr (enc x).cells 0)=some (enc x,h):=hld x
    cases hpb:P x with
    | true=>
      refine⟨((xs.length - (n + 1):Nat):Int), ?_,fun D L B clk ks ts Q hS h0 h1 h7 h8 hr _=> ?_⟩
      ·rw[hdr,List.any_cons,hpb,Bool.true_or,decide_eq_true_iff];omega
      ·refine z2h ?_
       rw[hpb] at hpx
       simp only[go_sem,z0,z1,z2,z3,reduceCtorEq,↓reduceIte,h0,h1,h7,h8,x4r,e1,hidx,hcx,z0x hpx hS.app]
       exact hr _ _ (by simp[z0b])
    | false=>
      obtain⟨r,h1',h2'⟩:=ih (by omega)
      refine⟨r,by rw[h1',hdr,List.any_cons,hpb,Bool.false_or],fun D L B clk ks ts Q hS h0 h1 h7 h8 hr hx=> ?_⟩
      have e2:IntKind.i64.wrap (((xs.length - (n + 1):Nat):Int) + 1)=((xs.length - n:Nat):Int):=by rw[z0c (by omega) (by omega)];omega
      refine z2h ?_
      rw[hpb] at hpx
      simp only[go_sem,z0,z1,z2,z3,reduceCtorEq,↓reduceIte,h0,h1,h7,h8,x4r,e1,hidx,hcx,z0x hpx hS.app,e2]
      exact h2' D L B _ ks _ Q hS (by simp[z0b,h0]) (by simp[z0b,h1]) (by simp[z0b,h7]) (by simp[z0b]) hr hx
 obtain⟨r,h1,h2⟩:=key xs.length (Nat.le_refl _)
 rw[Nat.sub_self,List.drop_zero] at h1
 refine⟨r,h1,Reads.of rfl u5p rfl rfl rfl rfl (by simpa [cvL,AV.cv] using hC') fun D B clk T hB hS hlt hT=> ?_⟩
 simp only[go_sem,y6p,List.length_map]
 refine h2 D _ B _ _ _ _ hS (by simp[z0b,z2y]) (by simp[z0b,z7o,z2y]) (by simp[z0b]) (by simp[z0b]) (fun ts' clk' q4=> ?_) (fun hr0 ts' clk'=> ?_)
 ·simp only[go_sem,q4]
  rw[z2l]
  exact hT _ hS.app
 ·simp only[go_sem,]
  rw[z2l,←hr0]
  exact hT _ hS.app
theorem j6u {α:Type} {enc:α→AV} {xs:List α} {S:List (Nat×AObj)} {c:Nat} {cap:List AV} {P:α→Bool} {t:Tip} (hE:∀ x,(enc x).cells.length=2) (hld:∀ x h,q2q h (some 2) (.iptr (enc x).cells 0)=some (enc x,h)) (hid:∀ x,(enc x).ids=[]) (hl:xs.length≤2 ^ 20) (hC:Cov S (idsL cap)) (hP:∀ x∈xs,Reads S c (enc x::cap) (.bool (P x))):
  Reads S 159 [.sl (xs.map enc) t, .fn c cap] (.bool (xs.any P)):=by
 obtain⟨r,h1,h2⟩:=v1k (t:= .no) hE hld hid hl hC hP
 have hC':Cov S (idsL [.sl (xs.map enc) .no, .fn c cap]):=by
  have:idsL [.sl (xs.map enc) .no, .fn c cap]=idsL cap:=by simp[idsL,AV.ids,z0d hid]
  rw[this];exact hC
 refine Reads.of rfl u5o rfl rfl rfl rfl (by simpa [cvL,AV.cv] using hC') fun D B clk T hB hS hlt hT=> ?_
 simp only[go_sem,y6o,z0x h2 hS.app,h1]
 rw[z0e]
 exact hT _ hS.app
section
theorem x6t {D L:List AObj} {B k:Nat} {o:AObj} (hB:D.length=B) (hL:L[k]? =some o):Has [(B + k,o)] (D++L):=by
 refine Has.cons ?_ Has.nil
 rw[z6c hB]
 exact hL
theorem v1l {s g:Nat} {x y:Int}:Reads [(s, .blk g [.int .i64 y] false false 0)] 293 [.int .i64 x, .ptr s g 0 0] (.bool (!decide (x=y))):=by
 refine Reads.of rfl u4u rfl rfl rfl rfl (Cov.one rfl) fun D B clk T hB hS hlt hT=> ?_
 have hs:=hlt _ List.mem_cons_self
 have hb:=z5m (g:=g) (hS _ List.mem_cons_self)
 dsimp only at hs hb
 simp only[go_sem,y5q,z3m hB hs,hb]
 rw[z0e]
 exact hT _ hS.app
theorem q2z {ss:List Nat} {s:Nat} {t:Tip} (h:∀ x∈ss,x=s) (hl:ss.length≤2 ^ 20):Pure Gam 250 [.sl (ss.map nat) t,nat s] (.bool true):=by
 refine Pure.of rfl u4t rfl rfl rfl (az:=[.sl (ss.map nat) .no,nat s]) rfl (by simp[idsL,AV.ids,z0d (f:=nat) fun _=>z3h,z3h]) fun D B clk T hB hT=> ?_
 have hr:∀ g,Reads [(B + 0, .blk g [.int .i64 (s:Int)] false false 0)] 197 [.sl (ss.map nat) .no, .fn 293 [.ptr (B + 0) g 0 0]] (.bool (ss.any fun x=> !decide ((x:Int)=(s:Int)))):=fun g=>
  v1g (enc:=nat) (P:=fun x=> !decide ((x:Int)=(s:Int))) (fun _=>rfl) (fun _ _=>rfl) (fun _=>rfl) hl (Cov.one rfl) fun x _=>v1l
 have e:(ss.any fun x=> !decide ((x:Int)=(s:Int)))=false:=by
  rw[List.any_eq_false]
  intro x hx
  simp[h x hx]
 rw[e] at hr
 simp only[go_sem,y5p,nat,hB]
 rw[z0x (hr _) (x6t hB rfl)]
 simp only[go_sem,Bool.not_false]
 rw[z0e]
 exact hT _
theorem z2n {s:Int}:Pure Gam 249 [.bool true, .int .i64 s] (.int .i64 s):=by
 refine Pure.of rfl u4s rfl rfl rfl rfl rfl fun D B clk T hB hT=> ?_
 simp only[go_sem,y5o]
 rw[z2l]
 exact hT _
theorem j3q {s:Nat} (hs:s=2∨s=3):Pure Gam 251 [nat s] (.bool true):=by
 refine Pure.of rfl u4x rfl rfl rfl rfl rfl fun D B clk T hB hT=> ?_
 rcases hs with rfl | rfl
 ·simp only[go_sem,w3h,nat,Int.cast_ofNat_Int,Int.reduceEq,decide_true,decide_false]
  rw[z0e]
  exact hT _
 ·simp only[go_sem,w3h,nat,Int.cast_ofNat_Int,Int.reduceEq,decide_true,decide_false]
  rw[z0e]
  exact hT _
theorem w4b {s:Nat} (h1:1≤s) (h4:s≤4):Pure Gam 246 [nat s] (.bool true):=by
 refine Pure.of rfl u4p rfl rfl rfl rfl rfl fun D B clk T hB hT=> ?_
 have e1:decide ((1:Int)≤(s:Int))=true:=by rw[decide_eq_true_iff];omega
 have e2:decide ((s:Int)≤4)=true:=by rw[decide_eq_true_iff];omega
 simp only[go_sem,y5m,nat,e1,e2]
 rw[z0e]
 exact hT _
class UOk (U:List Var):Prop where
 name:∀ v∈U,q0d q9l [.str v.name]=some (.bool true)
 name2:∀ v∈U,q0d q2k [.str v.name]=some (.bool true)
 sort:∀ v∈U,1≤v.sort∧v.sort≤4
 inj:∀ v∈U,∀ w∈U,v.name=w.name→v=w
instance:UOk z1z where
 name v hv:=by
  simp only[z1z,List.mem_cons,List.not_mem_nil,or_false] at hv
  rcases hv with rfl | rfl | rfl | rfl | rfl | rfl | rfl | rfl <;> rfl
 name2 v hv:=by
  simp only[z1z,List.mem_cons,List.not_mem_nil,or_false] at hv
  rcases hv with rfl | rfl | rfl | rfl | rfl | rfl | rfl | rfl <;> rfl
 sort:=by decide
 inj:=by decide
variable {U:List Var} [UOk U]
theorem j3r {v:Var} (hv:v∈U):Pure Gam 183 [.str v.name] (.bool true):=Pure.tab (tab:=q9l) rfl rfl (UOk.name v hv)
theorem q6c {v:Var} (hv:v∈U):1≤v.sort∧v.sort≤4:=UOk.sort v hv
theorem q0z {h:List AObj} {K k:IntKind} {n:Int} {a:AV} {xs:List AV} {t:Tip}:z1p h 1 (.sl (a:: .int K n::xs) t) (.int k 1)=some (.iptr [.int K n] 0,h):=z4h (i:=1) (e:= .int K n) rfl rfl
theorem x1n {h:List AObj} {K k:IntKind} {n:Int} {a b:AV} {xs:List AV} {t:Tip}:z1p h 1 (.sl (a::b:: .int K n::xs) t) (.int k 2)=some (.iptr [.int K n] 0,h):=z4h (i:=2) (e:= .int K n) rfl rfl
theorem z2u {o k:Nat} (ho:o=1∨o=2∨o=6∨o=7∨o=8∨o=9∨o=10∨o=11∨o=12∨o=13∨o=14∨o=15∨o=18∨o=19∨o=20):Pure Gam 189 [eNode (bare o k)] (.bool true):=by
 refine Pure.of rfl k4r rfl rfl rfl rfl rfl fun D B clk T hB hT=> ?_
 have e1:decide ((o:Int)=3)=false:=by rw[decide_eq_false_iff_not];omega
 have e2:decide ((o:Int)=4)=false:=by rw[decide_eq_false_iff_not];omega
 have e3:decide ((o:Int)=5)=false:=by rw[decide_eq_false_iff_not];omega
 have e4:decide ((o:Int)=16)=false:=by rw[decide_eq_false_iff_not];omega
 have e5:decide ((o:Int)=17)=false:=by rw[decide_eq_false_iff_not];omega
 have e6:decide ((1:Int)≤(o:Int))=true:=by rw[decide_eq_true_iff];omega
 have e7:decide ((o:Int)≤20)=true:=by rw[decide_eq_true_iff];omega
 have e8:decide (((0:Nat):Int)=0)=true:=rfl
 simp only[go_sem,j3k,hB,eNode,bare,nat,e1,e2,e3,e4,e5,e6,e7,e8,decide_true]
 rw[z0e]
 exact hT _
theorem w4c {V:List Var} {n:Node} {ss:List Nat} {s:Nat} {ks:Term} (hn:NodeOk V n ss s ks) (hV:∀ v∈V,v∈U):Pure Gam 189 [eNode n] (.bool true):=by
 cases hn with
 | bool h=>exact z2u (by omega)
 | not=>exact z2u (by omega)
 | andor h=>exact z2u (by omega)
 | imp=>exact z2u (by omega)
 | ite h1 h2=>exact z2u (by omega)
 | eq h1 h2=>exact z2u (by omega)
 | cmp h hs=>exact z2u (by omega)
 | add h hs=>exact z2u (by omega)
 | mul hs hn=>exact z2u (by omega)
 | select=>exact z2u (by omega)
 | store=>exact z2u (by omega)
 | const=>exact z2u (by omega)
 | int h=>
   refine Pure.of rfl k4r rfl rfl rfl rfl rfl fun D B clk T hB hT=> ?_
   simp only[go_sem,j3k,hB,eNode,nat,Int.cast_ofNat_Int,Int.reduceEq,decide_true,decide_false,z0a (j3n h)]
   rw[z0e]
   exact hT _
 | real h=>
   refine Pure.of rfl k4r rfl rfl rfl rfl rfl fun D B clk T hB hT=> ?_
   simp only[go_sem,j3k,hB,eNode,nat,Int.cast_ofNat_Int,Int.reduceEq,decide_true,decide_false,z0a (j0l h)]
   rw[z0e]
   exact hT _
 | var h=>
   refine Pure.of rfl k4r rfl rfl rfl rfl rfl fun D B clk T hB hT=> ?_
   have hs:=q6c (hV _ h)
   have h1:=w4b hs.1 hs.2
   rw[nat] at h1
   simp only[go_sem,j3k,hB,eNode,nat,Int.cast_ofNat_Int,Int.reduceEq,decide_true,decide_false,z0a h1,z0a (j3r (hV _ h))]
   rw[z0e]
   exact hT _
 | @div o k _ ho h1 h5=>
   refine Pure.of rfl k4r rfl rfl rfl rfl rfl fun D B clk T hB hT=> ?_
   have hp1:Pure Gam 247 [.str (dec k)] (.bool true):=by
    have:=k4s (z:=(k:Int)) (by rw[Int.natAbs_natCast,z7d (by omega)];simp)
    rwa [z0i,if_neg (by omega),Int.natAbs_natCast] at this
   have hp2:=w3z h1 h5
   have e1:decide ((o:Int)=3)=false:=by rw[decide_eq_false_iff_not];omega
   have e2:decide ((o:Int)=4)=false:=by rw[decide_eq_false_iff_not];omega
   have e3:decide ((o:Int)=5)=false:=by rw[decide_eq_false_iff_not];omega
   have e8:decide (((0:Nat):Int)=0)=true:=rfl
   rcases ho with rfl | rfl
   ·simp only[go_sem,j3k,hB,eNode,nat,Int.cast_ofNat_Int,Int.reduceEq,Int.reduceLT,decide_true,decide_false,e8,z0a hp1,z0a hp2]
    rw[z0e]
    exact hT _
   ·simp only[go_sem,j3k,hB,eNode,nat,Int.cast_ofNat_Int,Int.reduceEq,Int.reduceLT,decide_true,decide_false,e8,z0a hp1,z0a hp2]
    rw[z0e]
    exact hT _
end
theorem w4d {V:List Var} {n:Node} {ss:List Nat} {s:Nat} {ks:Term} (hn:NodeOk V n ss s ks):Pure Gam 190 [nat n.op,nat n.kids] (.bool true):=by
 refine Pure.of rfl u4n rfl rfl rfl rfl rfl fun D B clk T hB hT=> ?_
 have e0:decide (((0:Nat):Int)=0)=true:=rfl
 cases hn with
 | bool h=>
   rcases h with rfl | rfl
   all_goals
    simp only[go_sem,x2w,nat,bare,Int.cast_ofNat_Int,Int.reduceEq,decide_true,decide_false]
    rw[z0e]
    exact hT _
 | int h=>
   simp only[go_sem,x2w,nat,Int.cast_ofNat_Int,Int.reduceEq,decide_true,decide_false]
   rw[z0e]
   exact hT _
 | real h=>
   simp only[go_sem,x2w,nat,Int.cast_ofNat_Int,Int.reduceEq,decide_true,decide_false]
   rw[z0e]
   exact hT _
 | var h=>
   simp only[go_sem,x2w,nat,Int.cast_ofNat_Int,Int.reduceEq,decide_true,decide_false]
   rw[z0e]
   exact hT _
 | andor h=>
   rcases h with rfl | rfl
   all_goals
    simp only[go_sem,x2w,nat,bare,Int.cast_ofNat_Int,Int.reduceEq,decide_true,decide_false]
    rw[z0e]
    exact hT _
 | cmp h hs=>
   rcases h with rfl | rfl
   all_goals
    simp only[go_sem,x2w,nat,bare,Int.cast_ofNat_Int,Int.reduceEq,decide_true,decide_false]
    rw[z0e]
    exact hT _
 | @add k _ _ h hs=>
   have e1:decide ((1:Int)≤(k:Int))=true:=by rw[decide_eq_true_iff];omega
   simp only[go_sem,x2w,nat,bare,Int.cast_ofNat_Int,Int.reduceEq,decide_true,decide_false,e1]
   rw[z0e]
   exact hT _
 | div h h1 h5=>
   rcases h with rfl | rfl
   all_goals
    simp only[go_sem,x2w,nat,Int.cast_ofNat_Int,Int.reduceEq,decide_true,decide_false]
    rw[z0e]
    exact hT _
 | _=>
   simp only[go_sem,x2w,nat,bare,Int.cast_ofNat_Int,Int.reduceEq,decide_true,decide_false]
   rw[z0e]
   exact hT _
theorem q6d {l:List Nat}:idsL (l.map nat)=[]:=z0d fun _=>rfl
theorem v7e {k s:Nat}:∀ x∈List.replicate k s,x=s:=fun _ hx=>(List.mem_replicate.1 hx).2
theorem v1m {k s:Nat} {h:List AObj} {t:Tip} (hk:1≤k):z1p h 1 (.sl ((List.replicate k s).map nat) t) (.int .i64 0)=some (.iptr [.int .i64 (s:Int)] 0,h):=by
 obtain⟨k,rfl⟩:∃ j,k=j + 1:=⟨k - 1,by omega⟩
 exact z4h (i:=0) (e:=nat s) rfl rfl
theorem w4e {V:List Var} {n:Node} {ss:List Nat} {s:Nat} {ks:Term} {t:Tip} (hn:NodeOk V n ss s ks) (hl:ss.length≤2 ^ 20):Pure Gam 191 [eNode n, .sl (ss.map nat) t] (.int .i64 (s:Int)):=by
 refine Pure.of rfl u4o rfl rfl rfl (az:=[eNode n, .sl (ss.map nat) .no]) (by simp[cvL,k3u,AV.cv]) (by simp[idsL,z2i,AV.ids,q6d]) fun D B clk T hB hT=> ?_
 cases hn with
 | bool h=>
   have hp:=q2z (ss:=[]) (s:=1) (t:= .no) (by simp) (by simp)
   rw[List.map_nil,nat,Int.cast_ofNat_Int] at hp
   rcases h with rfl | rfl
   all_goals
    simp only[go_sem,q2x,hB,eNode,nat,bare,Int.cast_ofNat_Int,Int.reduceEq,decide_true,decide_false,z0a hp,z0a z2n]
    rw[z2l]
    exact hT _
 | int h=>
   simp only[go_sem,q2x,hB,eNode,nat,Int.cast_ofNat_Int,Int.reduceEq,decide_true,decide_false]
   rw[z2l]
   exact hT _
 | real h=>
   simp only[go_sem,q2x,hB,eNode,nat,Int.cast_ofNat_Int,Int.reduceEq,decide_true,decide_false]
   rw[z2l]
   exact hT _
 | var h=>
   simp only[go_sem,q2x,hB,eNode,nat,Int.cast_ofNat_Int,Int.reduceEq,decide_true,decide_false]
   rw[z2l]
   exact hT _
 | not=>
   have hp:=q2z (ss:=[1]) (s:=1) (t:= .no) (by simp) (by simp)
   rw[List.map_cons,List.map_nil,nat,Int.cast_ofNat_Int] at hp
   simp only[go_sem,q2x,hB,eNode,nat,bare,Int.cast_ofNat_Int,Int.reduceEq,decide_true,decide_false,z0a hp,z0a z2n]
   rw[z2l]
   exact hT _
 | @andor o k _ h=>
   have hp:=q2z (ss:=List.replicate k 1) (s:=1) (t:= .no) v7e hl
   rw[show nat 1= .int .i64 1 from rfl] at hp
   rcases h with rfl | rfl
   all_goals
    simp only[go_sem,z0,z1,z2,z3,reduceCtorEq,↓reduceIte,q2x,hB,eNode,nat,bare,Int.cast_ofNat_Int,Int.reduceEq,decide_true,decide_false,z0a hp,z0a z2n]
    rw[z2l]
    exact hT _
 | imp=>
   have hp:=q2z (ss:=[1,1]) (s:=1) (t:= .no) (by simp) (by simp)
   rw[List.map_cons,List.map_cons,List.map_nil,nat,Int.cast_ofNat_Int] at hp
   simp only[go_sem,q2x,hB,eNode,nat,bare,Int.cast_ofNat_Int,Int.reduceEq,decide_true,decide_false,z0a hp,z0a z2n]
   rw[z2l]
   exact hT _
 | @ite s _ h1 h2=>
   have e1:decide ((s:Int)=(s:Int))=true:=by simp
   simp only[go_sem,q2x,hB,eNode,nat,bare,Int.cast_ofNat_Int,Int.reduceEq,decide_true,decide_false,z2m,q0z,x1n,z0a z2n]
   rw[z2l]
   exact hT _
 | @eq s _ h1 h2=>
   simp only[go_sem,q2x,hB,eNode,nat,bare,Int.cast_ofNat_Int,Int.reduceEq,decide_true,decide_false,z2m,q0z,z0a z2n]
   rw[z2l]
   exact hT _
 | @cmp o s _ h hs=>
   have hp:=q2z (ss:=[s,s]) (s:=s) (t:= .no) (by simp) (by simp)
   have hp2:=j3q hs
   rw[List.map_cons,List.map_cons,List.map_nil,nat] at hp
   rw[nat] at hp2
   rcases h with rfl | rfl
   all_goals
    simp only[go_sem,q2x,hB,eNode,nat,bare,Int.cast_ofNat_Int,Int.reduceEq,decide_true,decide_false,z2m,z0a hp,z0a hp2,z0a z2n]
    rw[z2l]
    exact hT _
 | @add k s _ h hs=>
   have hp:=q2z (ss:=List.replicate k s) (s:=s) (t:= .no) v7e hl
   have hp2:=j3q hs
   have e1:∀ h',z1p h' 1 (.sl ((List.replicate k s).map nat) .no) (.int .i64 0)=some (.iptr [.int .i64 (s:Int)] 0,h'):=fun h'=>v1m h
   rw[show nat s= .int .i64 (s:Int) from rfl] at hp hp2
   have hX:idsL ((List.replicate k s).map nat)=[]:=q6d
   generalize (List.replicate k s).map nat=X at hp e1 hX
   simp only[go_sem,q2x,hB,z1b,eNode,nat,bare,Int.cast_ofNat_Int,Int.reduceEq,decide_true,decide_false,e1,z0a hp,z0a hp2,z0a z2n]
   refine⟨by simp[z1e,apart,z0l,z0z,z1i,AOp.isCall,hB,AV.ids,hX], ?_⟩
   rw[z2l]
   exact hT _
 | @mul s m _ hs hm=>
   have hp:=q2z (ss:=[s,s]) (s:=s) (t:= .no) (by simp) (by simp)
   have hp2:=j3q hs
   rw[List.map_cons,List.map_cons,List.map_nil,nat] at hp
   rw[nat] at hp2
   simp only[go_sem,q2x,hB,z1b,eNode,nat,bare,Int.cast_ofNat_Int,Int.reduceEq,decide_true,decide_false,z2m,z0a hp,z0a hp2,z0a z2n]
   refine⟨by simp[z1e,apart,z0l,z0z,z1i,AOp.isCall,hB,AV.ids,idsL], ?_⟩
   rw[z2l]
   exact hT _
 | div h h1 h5=>
   rcases h with rfl | rfl
   all_goals
    simp only[go_sem,q2x,hB,eNode,nat,Int.cast_ofNat_Int,Int.reduceEq,decide_true,decide_false,z2m,z0a z2n]
    rw[z2l]
    exact hT _
 | select=>
   simp only[go_sem,q2x,hB,eNode,nat,bare,Int.cast_ofNat_Int,Int.reduceEq,decide_true,decide_false,z2m,q0z,z0a z2n]
   rw[z2l]
   exact hT _
 | store=>
   obtain⟨u,hu⟩:∃ u,∀ h:List AObj,slV h (some 1) (.sl [.int .i64 4, .int .i64 2, .int .i64 2] .no) (some (.int .i64 1)) none none=some (.sl [.int .i64 2, .int .i64 2] u,h):=⟨.no,fun h=>by simp[slV,z2w,z5b,z4s,AV.cells]⟩
   have hp:=q2z (ss:=[2,2]) (s:=2) (t:=u) (by simp) (by simp)
   rw[List.map_cons,List.map_cons,List.map_nil,nat,Int.cast_ofNat_Int] at hp
   simp only[go_sem,q2x,hB,eNode,nat,bare,Int.cast_ofNat_Int,Int.reduceEq,decide_true,decide_false,z2m,hu,z0a hp,z0a z2n]
   rw[z2l]
   exact hT _
 | const=>
   simp only[go_sem,q2x,hB,eNode,nat,bare,Int.cast_ofNat_Int,Int.reduceEq,decide_true,decide_false,z2m,z0a z2n]
   rw[z2l]
   exact hT _
end Go.Proofs.YtkollgjffkdliaaGreatDoor.Am
