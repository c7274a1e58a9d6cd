/- Walking: calls that look at objects and change none Walking: calls that answer a pointer to something new Walking: systems are generated whose rows may be written by the caller Walking: systems are ge -/
import Derived.Test.YtahdahokpjigiaaGreatDoorM30
set_option linter.all false
namespace Go.Proofs.YtahdahokpjigiaaGreatDoor.Am
open Go
set_option maxRecDepth 100000
def Has (S:List (Nat×AObj)) (h:List AObj):Prop:=∀ p∈S,h[p.1]? =some p.2
theorem Has.lt {S:List (Nat×AObj)} {h:List AObj} (hS:Has S h):∀ p∈S,p.1 < h.length:=fun p hp=>by
 have:=hS p hp
 rw[List.getElem?_eq_some_iff] at this
 exact this.1
theorem Has.app {S:List (Nat×AObj)} {D L:List AObj} (hS:Has S D):Has S (D++L):=fun p hp=>by
 rw[List.getElem?_append_left (hS.lt p hp)]
 exact hS p hp
theorem Has.nil {h:List AObj}:Has [] h:=fun p hp=>by simp at hp
theorem Has.cons {p:Nat×AObj} {S:List (Nat×AObj)} {h:List AObj} (h1:h[p.1]? =some p.2) (h2:Has S h):Has (p::S) h:=fun q hq=>by
 rw[List.mem_cons] at hq
 rcases hq with rfl | hq
 ·exact h1
 ·exact h2 q hq
theorem z6x {h:List AObj}:∀ {n:Nat} {seen z9g:List Nat} {s:Nat},s∈seen∨s∈z9g→s∈reach h n seen z9g
 | 0,seen,z9g,s,hs=>by
   simp only[reach,List.mem_append]
   exact hs
 | n + 1,seen,[],s,hs=>by
   simp only[reach]
   simpa using hs
 | n + 1,seen,t::z9g,s,hs=>by
   simp only[reach]
   split
   ·rename_i hc
    refine z6x ?_
    rcases hs with hs | hs
    ·exact .inl hs
    ·rw[List.mem_cons] at hs
     rcases hs with rfl | hs
     ·exact .inl (by simpa using hc)
     ·exact .inr hs
   ·refine z6x ?_
    rcases hs with hs | hs
    ·exact .inl (List.mem_cons_of_mem _ hs)
    ·rw[List.mem_cons] at hs
     rcases hs with rfl | hs
     ·exact .inl List.mem_cons_self
     ·exact .inr (List.mem_append_right _ hs)
theorem q0m {h:List AObj} {n s:Nat} {seen z9g:List Nat} {o:AObj} (hns:s∉seen) (ho:h[s]? =some o):reach h (n + 1) seen (s::z9g)=reach h n (s::seen) (o.ids++z9g):=by
 simp[reach,hns,ho]
theorem q9v {h:List AObj} {S:List (Nat×AObj)} (hS:Has S h) (hc:∀ p∈S,∀ i∈p.2.ids,i∈S.map (·.1)):∀ {n:Nat} {seen z9g:List Nat},(∀ i∈seen,i∈S.map (·.1))→(∀ i∈z9g,i∈S.map (·.1))→∀ i∈reach h n seen z9g,i∈S.map (·.1)
 | 0,seen,z9g,h1,h2,i,hi=>by
   simp only[reach,List.mem_append] at hi
   exact hi.elim (h1 i) (h2 i)
 | n + 1,seen,[],h1,h2,i,hi=>by
   simp only[reach] at hi
   exact h1 i hi
 | n + 1,seen,t::z9g,h1,h2,i,hi=>by
   simp only[reach] at hi
   split at hi
   ·exact q9v hS hc h1 (fun j hj=>h2 j (List.mem_cons_of_mem _ hj)) i hi
   ·have ht:=h2 t List.mem_cons_self
    obtain⟨p,hp,rfl⟩:=List.mem_map.1 ht
    rw[hS p hp] at hi
    refine q9v hS hc (fun j hj=> ?_) (fun j hj=> ?_) i hi
    ·rw[List.mem_cons] at hj
     rcases hj with rfl | hj
     ·exact ht
     ·exact h1 j hj
    ·simp only[Option.map_some,Option.getD_some,List.mem_append] at hj
     rcases hj with hj | hj
     ·exact hc p hp j hj
     ·exact h2 j (List.mem_cons_of_mem _ hj)
structure Cov (S:List (Nat×AObj)) (ids:List Nat):Prop where
 root:∀ i∈ids,i∈S.map (·.1)
 closed:∀ p∈S,∀ i∈p.2.ids,i∈S.map (·.1)
 cover:∀ h,Has S h→∀ p∈S,p.1∈reach h (h.length + 1) [] ids
theorem Cov.one {s:Nat} {o:AObj} (ho:o.ids=[]):Cov [(s,o)] [s]:=by
 refine⟨by simp,by simp[ho],fun h hS p hp=> ?_⟩
 simp at hp
 subst hp
 exact z6x (.inr List.mem_cons_self)
theorem Cov.two {s t:Nat} {o q:AObj} (ho:o.ids=[t]) (hq:q.ids=[]):Cov [(s,o),(t,q)] [s]:=by
 refine⟨by simp,by simp[ho,hq],fun h hS p hp=> ?_⟩
 have h1:h[s]? =some o:=hS (s,o) (by simp)
 have hr:reach h (h.length + 1) [] [s]=reach h h.length [s] [t]:=by rw[q0m (by simp) h1,ho];rfl
 rw[hr]
 simp at hp
 rcases hp with rfl | rfl
 ·exact z6x (.inl List.mem_cons_self)
 ·exact z6x (.inr List.mem_cons_self)
def Reads (S:List (Nat×AObj)) (f:Nat) (args:List AV) (v:AV):Prop:=
 ∀ h clk,Has S h→(∃ k,z5b Gam k f args h clk=some (v,h,clk))∧∀ x∈z0v Gam f args h,x∈S.map (·.1)
theorem x2w {T:List Nat}:∀ {h h':List AObj} {k:Nat},(∀ i,i < h.length→T.contains (k + i)=true→h'[i]? =h[i]?)→z0r T k h h'=h
 | [],[],_,_=>rfl
 | [],_::_,_,_=>rfl
 | o::h,[],_,_=>rfl
 | o::h,o'::h',k,hh=>by
   have h0:T.contains k=true→o'=o:=fun hc=>by simpa using hh 0 (by simp) hc
   have h1:=x2w (T:=T) (h:=h) (h':=h') (k:=k + 1) fun i hi hc=>by
    have:=hh (i + 1) (by simpa using hi) (by rw[show k + (i + 1)=k + 1 + i by omega];exact hc)
    simpa using this
   simp only[z0r,h1]
   split
   ·rename_i hc
    rw[h0 hc]
   ·rfl
theorem Reads.of {S:List (Nat×AObj)} {f:Nat} {args az:List AV} {v:AV} {af:AFun} (hext:Gam.ext f=none) (hfn:Gam.fn f=some af) (hb:af.byref=[]) (ho:af.owned=false) (hobs:z4k args=[]) (has:cvL args=az) (hC:Cov S (idsL az))
  (hw:∀ (D:List AObj) (B clk:Nat) (R:AV→List AObj→Prop),D.length=B→Has S D→(∀ p∈S,p.1 < B)→(∀ h',Has S h'→R v h')→K Gam B af.body [] ⟨q0b az,D++List.replicate af.nslots .dead,clk⟩ (j8w (S.map (·.1)) af.results R)):Reads S f args v:=by
 intro h clk hS
 have hp:z1n h af.byref 0 args=some az:=by rw[hb,z1j hobs,has]
 have hl:z0s af.byref 0 args=[]:=by rw[hb];exact z4n hobs
 have hTS:∀ i∈reach h (h.length + 1) [] (idsL az),i∈S.map (·.1):=q9v hS hC.closed (by simp) hC.root
 refine⟨?_, ?_⟩
 ·have hmask:Has S (maskFrom (reach h (h.length + 1) [] (idsL az)) 0 h):=fun p hp'=>by
   rw[x6y (by rw[Nat.zero_add,List.contains_eq_mem];exact decide_eq_true (hC.cover h hS p hp'))]
   exact hS p hp'
  obtain⟨k,e,s1,he,hend⟩:=hw (maskFrom (reach h (h.length + 1) [] (idsL az)) 0 h) _ clk (fun v' h'=>v'=v∧Has S h') rfl hmask (fun p hp'=>by rw[z4g];exact hS.lt p hp') (fun h' hh=>⟨rfl,hh⟩)
  obtain⟨hne,vs,v',hr,hc,hv,hno,rfl,hS'⟩:=x3x hend
  rw[z4g] at he
  refine⟨k, ?_⟩
  have hfz:∀ p∈S,(freezeAll s1.h (z1k vs).obs)[p.1]? =some p.2:=fun p hp'=>by
   rw[q5w]
   ·exact hS' p hp'
   ·rw[List.all_eq_true]
    intro q hq
    have:=hno
    simp only[x7a,List.all_eq_true] at this
    have hq':=this q hq
    simp only[Bool.not_eq_true',List.contains_eq_mem,decide_eq_false_iff_not,List.mem_map] at hq'
    simp only[Bool.not_eq_true',List.contains_eq_mem,decide_eq_false_iff_not,List.mem_singleton]
    exact fun hqp=>hq' ⟨p,hp',hqp.symm⟩
  have hm:z0r (reach h (h.length + 1) [] (idsL az)) 0 h (freezeAll s1.h (z1k vs).obs)=h:=by
   refine x2w fun i hi hc'=> ?_
   rw[Nat.zero_add,List.contains_eq_mem,decide_eq_true_iff] at hc'
   obtain⟨p,hp',rfl⟩:=List.mem_map.1 (hTS i hc')
   rw[hfz p hp',hS p hp']
  have hall:((v'.ids++(List.map (fun i=>(Option.map AObj.ids (freezeAll s1.h (z1k vs).obs)[i]?).getD []) (reach h (h.length + 1) [] (idsL az))).flatten).all fun x=>decide (x < h.length))=true:=by
   rw[hv,List.nil_append,List.all_eq_true]
   intro x hx
   rw[List.mem_flatten] at hx
   obtain⟨l,hl',hxl⟩:=hx
   obtain⟨i,hi,rfl⟩:=List.mem_map.1 hl'
   obtain⟨p,hp',rfl⟩:=List.mem_map.1 (hTS i hi)
   rw[hfz p hp'] at hxl
   simp only[Option.map_some,Option.getD_some] at hxl
   obtain⟨q,hq,rfl⟩:=List.mem_map.1 (hC.closed p hp' x hxl)
   exact decide_eq_true (hS.lt q hq)
  unfold z5b z0k
  simp only[hext,hfn,hp,hl,freezeAll,he,ho,Bool.false_eq_true,if_false,hr,hc,ite_self,hm]
  cases e with
  | exit i=>exact absurd rfl (hne i)
  | norm=>simp only[hall,if_true]
  | ret=>simp only[hall,if_true]
 ·intro x hx
  unfold z0v at hx
  simp only[hext,hfn,hp,hobs,List.map_nil,List.nil_append] at hx
  exact hTS x hx
theorem z0w {f base gg clk:Nat} {args:List AV} {S:List (Nat×AObj)} {h:List AObj} {v:AV} {dst:Option Nat} {os:List AOper} {ts:Tmps} {ks:List Kf} {Q:Post} (hr:Reads S f args v) (hh:Has S h):
  CK Gam base f args h clk .plain dst gg os ts ks Q=O Gam base .plain (gg + 1) os ⟨z9f ts dst v,h,clk⟩ ks Q:=by
 obtain⟨⟨k,hk⟩,_⟩:=hr h clk hh
 unfold CK
 apply propext
 constructor
 ·rintro ⟨k',v',h',c,hc,hq⟩
  have:=q8x hk hc
  simp only[Prod.mk.injEq] at this
  obtain⟨rfl,rfl,rfl⟩:=this
  exact hq
 ·intro hq
  exact⟨k,_,_,_,hk,hq⟩
theorem Pure.reads {S:List (Nat×AObj)} {f:Nat} {args:List AV} {v:AV} (hp:Pure Gam f args v):Reads S f args v:=fun h clk _=>⟨(hp h clk).1,by rw[(hp h clk).2];simp⟩
def RVG (x:Option (List AV)) (R:AV→List AObj→Prop) (h:List AObj):Prop:=
 match x with
 | some vs=>(z1k vs).obs=[]∧R (z1k vs).cv h
 | none=>False
def y8p (rs:List ARes) (R:AV→List AObj→Prop):Post:=fun e s=>(∀ i,e≠ .exit i)∧RVG (z1s s.h s.ts rs) R s.h
theorem k7h {rs:List ARes} {R:AV→List AObj→Prop} {ts:Tmps} {h:List AObj} {c:Nat}:y8p rs R .ret ⟨ts,h,c⟩=RVG (z1s h ts rs) R h:=by simp[y8p]
theorem q5h {vs:List AV} {R:AV→List AObj→Prop} {h:List AObj} (ho:(z1k vs).obs=[]):RVG (some vs) R h=R (z1k vs).cv h:=by simp[RVG,ho]
attribute [go_sem] k7h
theorem q9z {f:Nat} {args az:List AV} {h:List AObj} {clk:Nat} {af:AFun} {Q:AV→List AObj→Nat→Prop} (hext:Gam.ext f=none) (hfn:Gam.fn f=some af) (hb:af.byref=[]) (ho:af.owned=false) (hobs:z4k args=[]) (has:cvL args=az) (hids:idsL az=[])
  (hw:∀ (D:List AObj) (B:Nat) (R:AV→List AObj→Prop),D.length=B→B=h.length→(∀ v L',(∃ i∈v.ids,B≤i)→(∀ c,Q v (h++L') c)→R v (D++L'))→K Gam B af.body [] ⟨q0b az,D++List.replicate af.nslots .dead,clk⟩ (y8p af.results R)):WC Gam f args h clk Q:=by
 obtain⟨k,e,s,he,hne,hend⟩:=hw (maskFrom [] 0 h) h.length (fun v h'=>(∃ i∈v.ids,h.length≤i)∧∀ c,Q v (h++h'.drop h.length) c) (z4g) rfl (fun v L' hi hq=>⟨hi,by
  rw[List.drop_left' z4g]
  exact hq⟩)
 have hp:z1n h af.byref 0 args=some az:=by rw[hb,z1j hobs,has]
 have hl:z0s af.byref 0 args=[]:=by rw[hb];exact z4n hobs
 unfold RVG at hend
 split at hend
 ·rename_i vs hr
  obtain⟨hob,⟨i,hi1,hi2⟩,hq⟩:=hend
  have hc:=q5v (h:=s.h) hob
  refine⟨k,(z1k vs).cv,h++s.h.drop h.length,s.clk, ?_,hq _⟩
  have hall:((z1k vs).cv.ids.all fun x=>decide (x < h.length))=false:=by
   rw[List.all_eq_false]
   exact⟨i,hi1,by simp;omega⟩
  unfold z5b z0k
  simp only[hext,hfn,hp,hl,freezeAll,hids,reach,he,ho,Bool.false_eq_true,if_false,hr,hc,hob,z5y,List.map_nil,List.flatten_nil,List.append_nil,ite_self]
  cases e with
  | exit i=>exact absurd rfl (hne i)
  | norm=>simp[hall]
  | ret=>simp[hall]
 ·exact hend.elim
theorem z6f {f base gg clk:Nat} {args:List AV} {h:List AObj} {dst:Option Nat} {os:List AOper} {ts:Tmps} {ks:List Kf} {Q:Post} (hw:WC Gam f args h clk fun v h' c=>O Gam base .plain (gg + 1) os ⟨z9f ts dst v,h',c⟩ ks Q):CK Gam base f args h clk .plain dst gg os ts ks Q:=hw
section
theorem u7g:∀ {os:List (Nat×Nat)} {h:List AObj} {s:Nat},((freezeAll h os)[s]?).map AObj.ids=(h[s]?).map AObj.ids
 | [],_,_=>rfl
 | o::os,h,s=>by
   simp only[freezeAll]
   rw[u7g]
   split
   ·rename_i g es row grow fz he
    by_cases hs:o.1=s
    ·subst hs
     have hlt:o.1 < h.length:=by
      rw[List.getElem?_eq_some_iff] at he
      exact he.1
     rw[List.getElem?_set_self hlt,he]
     rfl
    ·rw[List.getElem?_set_ne hs]
   ·rfl
theorem u7b {h:List AObj} {os:List (Nat×Nat)}:∀ {n:Nat} {seen z9g:List Nat},reach (freezeAll h os) n seen z9g=reach h n seen z9g
 | 0,_,_=>rfl
 | _ + 1,_,[]=>rfl
 | n + 1,seen,s::z9g=>by
   simp only[reach,u7g,u7b]
theorem u7m {h:List AObj}:∀ {n:Nat} {seen z9g:List Nat},(seen≠[]∨z9g≠[])→(reach h n seen z9g).isEmpty=false
 | 0,seen,z9g,hn=>by
   rw[reach]
   rcases hn with hn | hn
   ·cases seen with
    | nil=>exact absurd rfl hn
    | cons a l=>rfl
   ·cases seen with
    | nil=>
      cases z9g with
      | nil=>exact absurd rfl hn
      | cons a l=>rfl
    | cons a l=>rfl
 | _ + 1,seen,[],hn=>by
   show seen.isEmpty=false
   rcases hn with hn | hn
   ·cases seen with
    | nil=>exact absurd rfl hn
    | cons a l=>rfl
   ·exact absurd rfl hn
 | n + 1,seen,s::z9g,hn=>by
   rw[reach]
   split
   ·rename_i hc
    refine u7m (.inl fun e=> ?_)
    subst e
    simp at hc
   ·exact u7m (.inl (by simp))
section
variable {f:Nat} {args az:List AV} {h:List AObj} {clk:Nat} {af:AFun}
theorem u9v {k:Nat} (hext:Gam.ext f=none) (hfn:Gam.fn f=some af) (hb:af.byref=[]) (hpa:z1n h [] 0 args=some az) (hcv:cvL az=az) (hobs:z4k az=[]) (hne:idsL az≠[]):z5b Gam k f args h clk=z5b Gam k f az (freezeAll h (z0s [] 0 args)) clk:=by
 have hpa2:z1n (freezeAll h (z0s [] 0 args)) [] 0 az=some az:=by rw[z1j hobs,hcv]
 have hl2:z0s [] 0 az=[]:=z4n hobs
 have hT:∀ n,(reach h n [] (idsL az)).isEmpty=false:=fun n=>u7m (.inr hne)
 unfold z5b z0k
 simp only[hext,hfn,hb,hpa,hpa2,hl2,freezeAll,x2u,u7b,hT,Bool.and_false,Bool.false_eq_true,if_false]
theorem g1h (hext:Gam.ext f=none) (hfn:Gam.fn f=some af) (hb:af.byref=[]) (hpa:z1n h [] 0 args=some az) (hcv:cvL az=az) (hobs:z4k az=[]):z0v Gam f args h=(z4k args).map (·.1)++z0v Gam f az h:=by
 have hpa2:z1n h [] 0 az=some az:=by rw[z1j hobs,hcv]
 unfold z0v
 simp only[hext,hfn,hb,hpa,hpa2,hobs,List.map_nil,List.nil_append]
end
theorem u9a {l:List Int} {f B k g i j gq n fz clk gg:Nat} {w b:Bool} {R:AV→Prop} {es:List AV} {D L:List AObj} {af:AFun} {m:Md} {dst:Option Nat} {os:List AOper} {ts:Tmps} {ks:List Kf} {Q:Post} (hg:GenOk l f [.sl (es.take n) .no, .bool b] R) (hext:Gam.ext f=none) (hfn:Gam.fn f=some af) (hbr:af.byref=[]) (hB:D.length=B) (hk:L[k]? =some (z5c g l i)) (hj:L[j]? =some (.blk gq es true w fz)) (hkj:k≠j) (hn:n≤es.length) (hi:i≤l.length)
  (hQ:∀ v i',R v→i'≤l.length→O Gam B (m.add ([B + j,B + k],[B + j,B + k])) (gg + 1) os ⟨z9f ts dst v,D++(L.set j (.blk gq es true w (max fz n))).set k (z5c g l i'),clk⟩ ks Q):
  CK Gam B f [.ptr (B + k) g 0 0, .ob (B + j) gq 0 n, .bool b] (D++L) clk m dst gg os ts ks Q:=by
 have hbl:z2a (D++L) (B + j) gq=some (es,true,w,fz):=by rw[z6w hB];exact z5z hj
 have hrow:q7e (D++L) (B + j) gq 0 n=some (es.take n):=by
  simp only[q7e,hbl,Nat.zero_add,hn,if_true,List.drop_zero]
 have hpa:z1n (D++L) [] 0 [.ptr (B + k) g 0 0, .ob (B + j) gq 0 n, .bool b]=some [.ptr (B + k) g 0 0, .sl (es.take n) .no, .bool b]:=by
  simp[z1n,conv,hrow]
 have hlent:z0s [] 0 [.ptr (B + k) g 0 0, .ob (B + j) gq 0 n, .bool b]=[(B + j,n)]:=by simp[z0s,AV.obs]
 have hjl:j < L.length:=by
  rw[List.getElem?_eq_some_iff] at hj
  exact hj.1
 have hfz:freezeAll (D++L) [(B + j,n)]=D++L.set j (.blk gq es true w (max fz n)):=by
  simp only[freezeAll,z6k hB,hj,z5i hB]
 have hk':(L.set j (.blk gq es true w (max fz n)))[k]? =some (z5c g l i):=by rw[List.getElem?_set_ne (Ne.symm hkj)];exact hk
 have hD1:(D++L.set j (.blk gq es true w (max fz n)))[B + k]? =some (z5c g l i):=by rw[z6k hB];exact hk'
 have hD0:(D++L)[B + k]? =some (z5c g l i):=by rw[z6k hB];exact hk
 have hcv:cvL [AV.ptr (B + k) g 0 0, .sl (es.take n) .no, .bool b]=[.ptr (B + k) g 0 0, .sl (es.take n) .no, .bool b]:=rfl
 have hob:z4k [AV.ptr (B + k) g 0 0, .sl (es.take n) .no, .bool b]=[]:=rfl
 obtain⟨_,hft⟩:=hg (D++L) (B + k) g i clk (fun _ _ _=>True) hD0 hi (fun _ _ _ _=>trivial)
 obtain⟨⟨kf,v,h',c,hc,i',hi',hR,rfl,rfl⟩,_⟩:=hg (D++L.set j (.blk gq es true w (max fz n))) (B + k) g i clk (fun v h' c=>∃ i',i'≤l.length∧R v∧h'=(D++L.set j (.blk gq es true w (max fz n))).set (B + k) (z5c g l i')∧c=clk) hD1 hi (fun v i' h1 h2=>⟨i',h1,h2,rfl,rfl⟩)
 have hF:z0v Gam f [.ptr (B + k) g 0 0, .ob (B + j) gq 0 n, .bool b] (D++L)=[B + j,B + k]:=by
  rw[g1h hext hfn hbr hpa hcv hob,hft]
  simp[z4k,AV.obs]
 have hcall:=u9v (k:=kf) (clk:=c) hext hfn hbr hpa hcv hob (by simp[idsL,AV.ids])
 rw[hlent,hfz] at hcall
 refine⟨kf,v,_,c,by rw[hcall];exact hc, ?_⟩
 dsimp only
 refine k0d (f':=([B + j,B + k],[B + j,B + k])) ?_ ?_ ?_
 ·rw[hF];exact fun x hx=>hx
 ·rw[hF];exact fun x hx=>(List.mem_filter.1 hx).1
 ·rw[z5i hB]
  exact hQ v i' hR hi'
end
theorem g2k {D L:List AObj} {B k g n r:Nat} {e:Nat} {es:List AV} {fz:Nat} {j:IntKind} (hB:D.length=B) (hk:L[k]? =some (.blk g es true false fz)) (hr:r≤es.length) (he:z4l e es=true):slV (D++L) (some e) (.ob (B + k) g 0 n) none (some (.int j (r:Int))) none=some (.ob (B + k) g 0 r,D++L):=by
 have hb:z2a (D++L) (B + k) g=some (es,true,false,fz):=by rw[z6w hB];exact z5z hk
 simp[slV,z2v,hb,z4v,hr,he]
theorem g3q {zs:List Int} {u:Tip} {h:List AObj} {clk:Nat} {Q:AV→List AObj→Nat→Prop} (hz:∀ z∈zs, -9223372036854775808≤z∧z≤9223372036854775807) (hN:x1d (zs.take 400)) (hQ:∀ s,SysOk s→∀ (cv:AV) (o0 o1 o2 o o4 p0 p1 p2 p3:AObj) (gp fz c:Nat),ClRow h.length 3 cv o s.clauses→fz≤s.preds.length→Q (.agg [.ob (h.length + 9) gp 0 s.preds.length,cv]) (h++[o0,o1,o2,o,o4,p0,p1,p2,p3, .blk gp (u6e.map z0q) true false fz]) c):WC Gam 14 [.sl (z9y zs) u] h clk Q:=by
 have hl:q7q (zs.take 400):=⟨by simp;omega,fun z h=>hz z (List.mem_of_mem_take h)⟩
 generalize hzs:zs.take 400=l at hN hl
 refine k8b rfl u4u rfl rfl rfl (az:=[.sl (z9y zs) .no]) rfl (by simp[idsL,AV.ids,z8d]) fun D B hB hBh=> ?_
 simp only[go_sem,u0p,hB]
 refine k1b fun g c=> ?_
 have e0:∀ (x y:AObj),(D++[x,y, .dead, .dead]).length=B + 4:=fun x y=>by simp[hB]
 have e1:∀ (x y o:AObj),(D++[x,y, .dead, .dead])++[o]=D++[x,y, .dead, .dead,o]:=fun x y o=>by simp
 rw[e0,e1,hzs]
 simp only[go_sem,hB]
 refine z6f (g5s fun p0 p1 p2 p3 gp c2=> ?_)
 have e6:∀ (x y o:AObj),(D++[x,y, .dead, .dead,o]).length + 4=B + 9:=fun x y o=>by simp[hB]
 have e7:∀ (x y o a b c d e:AObj),(D++[x,y, .dead, .dead,o])++[a,b,c,d,e]=D++[x,y, .dead, .dead,o,a,b,c,d,e]:=fun _ _ _ _ _ _ _ _=>by simp
 rw[e6,e7]
 simp only[go_sem,hB]
 refine z1r (k:=4) (z3h hl (by decide) (by decide)) hB rfl (Nat.zero_le _) ?_
 rintro v i ⟨r,rfl,hr1,hr2⟩ hi
 obtain⟨n,rfl⟩:∃ k:Nat,r=k:=⟨r.toNat,by omega⟩
 have e2:IntKind.i64.wrap (2 + (n:Int))=((2 + n:Nat):Int):=by rw[z0d (by omega) (by omega)];omega
 have e3:(u6e.map z0q).take (2 + n)=(u6e.take (2 + n)).map z0q:=List.map_take.symm
 have hlen5:(u6e.map z0q).length=5:=rfl
 have e4:∀ (L:List AObj) (fz:Nat),L[9]? =some (.blk gp (u6e.map z0q) true false fz)→slV (D++L) (some 3) (.ob (B + 9) gp 0 5) none (some (.int .i64 ((2 + n:Nat):Int))) none=some (.ob (B + 9) gp 0 (2 + n),D++L):=fun L fz hk=>g2k hB hk (by rw[hlen5];omega) rfl
 have hpo:=k6e (n:=2 + n) (by omega)
 have hpn:(u6e.take (2 + n)).length=2 + n:=by rw[List.length_take];show min (2 + n) 5=2 + n;omega
 generalize hps:u6e.take (2 + n)=ps at hpo e3 hpn
 simp only[go_sem,hB,e2,Option.map_none]
 rw[e4 _ _ rfl]
 simp only[go_sem,hB]
 refine z1r (k:=4) (z3h hl (by decide) (by decide)) hB rfl hi ?_
 rintro v i2 ⟨r,rfl,hr3,hr4⟩ hi2
 obtain⟨z,rfl⟩:∃ k:Nat,r=k:=⟨r.toNat,by omega⟩
 have e5:IntKind.i64.wrap (1 + (z:Int))=((1 + z:Nat):Int):=by rw[z0d (by omega) (by omega)];omega
 simp only[go_sem,hB,e5]
 refine z0y (fun m s=>∃ (n':Nat) (acc:List Clause) (cv:AV) (i g0 g1 fz:Nat) (x y:AObj),m=n'∧acc.length + n'≤8∧(∀ a∈acc,ClauseOk ps a)∧i≤l.length∧fz≤2 + n∧s.ts 2= .ptr (B + 0) g0 0 0∧s.ts 3= .ptr (B + 4) g 0 0∧s.ts 4= .ptr (B + 1) g1 0 0∧s.ts 5= .int .i64 (n':Int)∧
  s.h=D++[.blk g0 [.agg [.sl [] .nil, .sl [] .nil]] false false 0, .blk g1 [.agg [.ob (B + 9) gp 0 (2 + n),cv]] false false 0,x,y,z5c g l i,p0,p1,p2,p3, .blk gp (u6e.map z0q) true false fz]∧ClRow B 3 cv y acc) (1 + z) ?_ ?_
 ·exact⟨1 + z,[], .sl [] .nil,i2,_,_,0,_,_,rfl,by simp;omega,by simp,hi2,by omega,rfl,rfl,rfl,rfl,rfl, .inl ⟨rfl,rfl⟩⟩
 clear e0 e1 hi hi2 e2 e4
 rintro m ⟨ts,h1,clk⟩ P ⟨n',acc,cv,i,g0,g1,fz,x,y,rfl,hlen,hacc,hi,hfz,h2,h3,h4,h5,rfl,ht⟩ hn he hr
 dsimp only at h2 h3 h4 h5
 have fin:∀ (ts':Tmps) (i' clk':Nat),i'≤l.length→ts' 2= .ptr (B + 0) g0 0 0→ts' 4= .ptr (B + 1) g1 0 0→P (.exit 0) ⟨ts',D++[.blk g0 [.agg [.sl [] .nil, .sl [] .nil]] false false 0, .blk g1 [.agg [.ob (B + 9) gp 0 (2 + n),cv]] false false 0,x,y,z5c g l i',p0,p1,p2,p3, .blk gp (u6e.map z0q) true false fz],clk'⟩:=by
  intro ts' i' clk' hi' q2 q4
  refine he _ _ ?_
  have hcv:cv.def? =true∧cv.cells=[cv]∧cv.one=true:=by
   rcases ht with ⟨rfl,_⟩ | ⟨g',rfl,_⟩ <;> exact⟨rfl,rfl,rfl⟩
  have hst:∀ (g:Nat) (L:List AObj),L[0]? =some (.blk g [.agg [.sl [] .nil, .sl [] .nil]] false false 0)→z8s (D++L) 2 (.agg [.ob (B + 9) gp 0 (2 + n),cv]) (.ptr (B + 0) g 0 0)=some (.undef,D++L.set 0 (.blk g [.agg [.ob (B + 9) gp 0 (2 + n),cv]] false false 0)):=fun g L hL=>by
   have hb:z2a (D++L) (B + 0) g=some ([.agg [.sl [] .nil, .sl [] .nil]],false,false,0):=by rw[z6w hB];exact z5z hL
   rw[u6y (sz:=2) (v:= .agg [.ob (B + 9) gp 0 (2 + n),cv]) hb rfl rfl (by simp[AV.cells,w1m,hcv.2.2]) (by simp[AV.cells]),z5i hB]
   rfl
  simp only[go_sem,q2,q4,hB,hst]
  refine⟨fun _=>by simp,[.agg [.ob (B + 9) gp 0 (2 + n),cv]],_, ?_,rfl, .inr ⟨⟨B + 9,by simp[z1k,AV.ids,idsL],by omega⟩, ?_⟩⟩
  ·simp only[go_sem,q2,hB,z0n,z0m,z0g]
  ·have:=hQ ⟨ps,acc⟩ ⟨⟨2 + n,by omega,by omega,hps.symm⟩,by simp only;omega,hacc⟩ cv (.blk g0 [.agg [.ob (B + 9) gp 0 (2 + n),cv]] false false 0) (.blk g1 [.agg [.ob (B + 9) gp 0 (2 + n),cv]] false false 0) x y (z5c g l i') p0 p1 p2 p3 gp fz
   rw[hpn,←hBh] at this
   exact this _ ht hfz
 by_cases hm:m=0
 ·have hb:decide (0 < (m:Int))=false:=by rw[decide_eq_false_iff_not];omega
  simp only[go_sem,h2,h3,h4,h5,hB,k5l,hb]
  exact fin _ _ _ hi (by simp[z0b,h2]) (by simp[z0b,h4])
 ·have hb:decide (0 < (m:Int))=true:=by rw[decide_eq_true_iff];omega
  obtain⟨n',rfl⟩:∃ n',m=n' + 1:=⟨m - 1,by omega⟩
  have en:IntKind.i64.wrap (((n' + 1:Nat):Int) - 1)=(n':Int):=z5j (by omega)
  simp only[go_sem,h2,h3,h4,h5,hB,k5l,hb]
  refine z1r (k:=4) v5r hB rfl hi ?_
  clear hi
  rintro v i ⟨b,rfl⟩ hi
  simp only[go_sem,h2,h3,h4,h5,hB]
  refine z8c (fun hc=> ?_) (fun hc=> ?_)
  ·simp only[go_sem,h2,h3,h4,h5,hB,z1i]
   refine z1r (k:=4) (z3h hl (by decide) (by decide)) hB rfl hi ?_
   clear hi
   rintro v i ⟨r,rfl,hr5,hr6⟩ hi
   simp only[go_sem,h2,h3,h4,h5,hB]
   have hg53:=fun b=>y5z (l:=l) (q:=b) (u:= .no) hl hN hpo
   rw[←e3] at hg53
   refine u9a (k:=4) (j:=9) (n:=2 + n) (hg53 _) rfl u4z rfl hB rfl rfl (by decide) (by rw[hlen5];omega) hi ?_
   clear hi
   rintro v i ⟨c,rfl,hc⟩ hi
   have hmx:max fz (2 + n)≤2 + n:=by omega
   generalize max fz (2 + n)=fz' at hmx
   have hbs:∀ h s g,bsR h s g (.agg [.sl [] .nil, .sl [] .nil, .sl [] .nil, .str [], .sl [] .nil]) 1 [0] [z0f c]=some (.ob s g 0 1,h.set s (.blk g [z0f c] true false 0)):=fun h s g=>g4o rfl rfl rfl rfl
   simp only[go_sem,h2,h3,h4,h5,hB,hbs]
   rw[u7f (j:=2) (k:=3) (fun _=>z3l) hB rfl rfl ht (by omega) (by omega)]
   simp only[go_sem,h2,h3,h4,h5,hB,en]
   refine⟨by simp[z1f,apart,z0i,z1d,z1h,AOp.isCall,hB], ?_⟩
   refine hn n' _ (by omega) ⟨n',acc++[c],_,i,g0,g1,fz',_,_,rfl,by simp;omega, ?_,hi,hmx,h2,h3,h4,rfl,rfl, .inr ⟨_,rfl,rfl,by simp⟩⟩
   intro a' ha'
   rw[List.mem_append,List.mem_singleton] at ha'
   rcases ha' with ha' | rfl
   ·exact hacc a' ha'
   ·exact hc
  ·simp only[go_sem,h2,h3,h4,h5,hB]
   exact fin _ _ _ hi (by simp[z0b,h2]) (by simp[z0b,h4])
section
open Sh
set_option maxHeartbeats 0
noncomputable def v5h:AFun:=(fun (a:AFun) (_:Gam.fn 96=some a)=>a) _ (by conv=>lhs;reduce;simp only[Int.reduceOfNat,Int.reduceNegSucc])
theorem u4l:Gam.fn 96=some v5h:=by kernel_rfl
noncomputable def q83:AFun:=(fun (a:AFun) (_:Gam.fn 99=some a)=>a) _ (by conv=>lhs;reduce;simp only[Int.reduceOfNat,Int.reduceNegSucc])
noncomputable def j9t:ACode:=(fun (a:ACode) (_:fl [] (lp q83 1)=a)=>a) _ (by conv=>lhs;reduce;simp only[Int.reduceOfNat,Int.reduceNegSucc])
attribute [local irreducible] j9t
noncomputable def k5j:ACode:=(fun (a:ACode) (_:fl [j9t] (lp q83 0)=a)=>a) _ (by conv=>lhs;reduce;simp only[Int.reduceOfNat,Int.reduceNegSucc])
attribute [local irreducible] k5j
noncomputable def y9x:AFun:=(fun (a:AFun) (_:flF [k5j,j9t] q83=a)=>a) _ (by conv=>lhs;reduce;simp only[Int.reduceOfNat,Int.reduceNegSucc])
theorem u4m:Gam.fn 99=some y9x:=by kernel_rfl
noncomputable def u0c:AFun:=(fun (a:AFun) (_:Gam.fn 152=some a)=>a) _ (by conv=>lhs;reduce;simp only[Int.reduceOfNat,Int.reduceNegSucc])
noncomputable def j2m:ACode:=(fun (a:ACode) (_:fl [] (lp u0c 0)=a)=>a) _ (by conv=>lhs;reduce;simp only[Int.reduceOfNat,Int.reduceNegSucc])
attribute [local irreducible] j2m
noncomputable def w4v:AFun:=(fun (a:AFun) (_:flF [j2m] u0c=a)=>a) _ (by conv=>lhs;reduce;simp only[Int.reduceOfNat,Int.reduceNegSucc])
theorem y4j:Gam.fn 152=some w4v:=by kernel_rfl
noncomputable def w4w:AFun:=(fun (a:AFun) (_:Gam.fn 228=some a)=>a) _ (by conv=>lhs;reduce;simp only[Int.reduceOfNat,Int.reduceNegSucc])
theorem y4k:Gam.fn 228=some w4w:=by kernel_rfl
noncomputable def u0d:AFun:=(fun (a:AFun) (_:Gam.fn 287=some a)=>a) _ (by conv=>lhs;reduce;simp only[Int.reduceOfNat,Int.reduceNegSucc])
noncomputable def j2n:ACode:=(fun (a:ACode) (_:fl [] (lp u0d 0)=a)=>a) _ (by conv=>lhs;reduce;simp only[Int.reduceOfNat,Int.reduceNegSucc])
attribute [local irreducible] j2n
noncomputable def w4x:AFun:=(fun (a:AFun) (_:flF [j2n] u0d=a)=>a) _ (by conv=>lhs;reduce;simp only[Int.reduceOfNat,Int.reduceNegSucc])
theorem y4l:Gam.fn 287=some w4x:=by kernel_rfl
noncomputable def q17:AFun:=(fun (a:AFun) (_:Gam.fn 12=some a)=>a) _ (by conv=>lhs;reduce;simp only[Int.reduceOfNat,Int.reduceNegSucc])
noncomputable def u9b:ACode:=(fun (a:ACode) (_:fl [] (lp q17 1)=a)=>a) _ (by conv=>lhs;reduce;simp only[Int.reduceOfNat,Int.reduceNegSucc])
attribute [local irreducible] u9b
noncomputable def u9w:ACode:=(fun (a:ACode) (_:fl [u9b] (lp q17 0)=a)=>a) _ (by conv=>lhs;reduce;simp only[Int.reduceOfNat,Int.reduceNegSucc])
attribute [local irreducible] u9w
noncomputable def g4p:AFun:=(fun (a:AFun) (_:flF [u9w,u9b] q17=a)=>a) _ (by conv=>lhs;reduce;simp only[Int.reduceOfNat,Int.reduceNegSucc])
theorem g5t:Gam.fn 12=some g4p:=by kernel_rfl
noncomputable def q42:AFun:=(fun (a:AFun) (_:Gam.fn 42=some a)=>a) _ (by conv=>lhs;reduce;simp only[Int.reduceOfNat,Int.reduceNegSucc])
noncomputable def u9x:ACode:=(fun (a:ACode) (_:fl [] (lp q42 0)=a)=>a) _ (by conv=>lhs;reduce;simp only[Int.reduceOfNat,Int.reduceNegSucc])
attribute [local irreducible] u9x
noncomputable def g4q:AFun:=(fun (a:AFun) (_:flF [u9x] q42=a)=>a) _ (by conv=>lhs;reduce;simp only[Int.reduceOfNat,Int.reduceNegSucc])
theorem g5u:Gam.fn 42=some g4q:=by kernel_rfl
noncomputable def q43:AFun:=(fun (a:AFun) (_:Gam.fn 23=some a)=>a) _ (by conv=>lhs;reduce;simp only[Int.reduceOfNat,Int.reduceNegSucc])
noncomputable def u9y:ACode:=(fun (a:ACode) (_:fl [] (lp q43 0)=a)=>a) _ (by conv=>lhs;reduce;simp only[Int.reduceOfNat,Int.reduceNegSucc])
attribute [local irreducible] u9y
noncomputable def g4r:AFun:=(fun (a:AFun) (_:flF [u9y] q43=a)=>a) _ (by conv=>lhs;reduce;simp only[Int.reduceOfNat,Int.reduceNegSucc])
theorem g5v:Gam.fn 23=some g4r:=by kernel_rfl
def v5i:ACode:=(.seq (.seq (.region 4 [M 11 5,M 12 0,N 13 (.len .sl (.tmp 12)),N 14 (.binOp .lss (.one .int) (.tmp 11) (.tmp 13))] []) (.cond (.tmp 14) .skip (.exit 0))) (.seq (.block 1 (.seq (.region 9 [M 17 0,M 18 5,N 19 (.indexAddr none 2 (.tmp 17) (.tmp 18)),N 20 (.load (some 2) (.tmp 19)),M 21 1,M 22 5,N 23 (.indexAddr none 2 (.tmp 21) (.tmp 22)),N 24 (.load (some 2) (.tmp 23)),N 25 (.binOp .neq (.agg [.str, .int]) (.tmp 20) (.tmp 24))] []) (.cond (.tmp 25) (.seq (.region 1 [N 4 (.move (.const (.bool false)))] []) .ret) .skip))) (.region 3 [M 15 5,N 16 (.binOp .add (.one .int) (.tmp 15) (I 1)),M 5 16] [])))
def u0e:AFun:=
 {ntmps:=26,nslots:=0,results:=[.tmp 4],byref:=[],owned:=false,
  body:=(.seq (.region 1 [N 4 (.move (.const (.bool false)))] []) (.seq (.seq (.region 5 [M 6 0,N 7 (.len .sl (.tmp 6)),M 8 1,N 9 (.len .sl (.tmp 8)),N 10 (.binOp .neq (.one .int) (.tmp 7) (.tmp 9))] []) (.cond (.tmp 10) (.seq (.region 1 [N 4 (.move (.const (.bool false)))] []) .ret) .skip)) (.seq (.seq (.region 1 [N 5 (.move (I 0))] []) (.block 0 (.loop v5i))) (.seq (.region 1 [N 4 (.move (.const (.bool true)))] []) .ret))))}
theorem u4p:Gam.fn 67=some u0e:=by kernel_rfl
noncomputable def g4s:AFun:=(fun (a:AFun) (_:Gam.fn 69=some a)=>a) _ (by conv=>lhs;reduce;simp only[Int.reduceOfNat,Int.reduceNegSucc])
theorem g5w:Gam.fn 69=some g4s:=by kernel_rfl
noncomputable def g4t:AFun:=(fun (a:AFun) (_:Gam.fn 130=some a)=>a) _ (by conv=>lhs;reduce;simp only[Int.reduceOfNat,Int.reduceNegSucc])
noncomputable def u8i:ACode:=(fun (a:ACode) (_:fl [] (lp g4t 0)=a)=>a) _ (by conv=>lhs;reduce;simp only[Int.reduceOfNat,Int.reduceNegSucc])
attribute [local irreducible] u8i
noncomputable def g2l:AFun:=(fun (a:AFun) (_:flF [u8i] g4t=a)=>a) _ (by conv=>lhs;reduce;simp only[Int.reduceOfNat,Int.reduceNegSucc])
theorem g3r:Gam.fn 130=some g2l:=by kernel_rfl
noncomputable def u0f:AFun:=(fun (a:AFun) (_:Gam.fn 68=some a)=>a) _ (by conv=>lhs;reduce;simp only[Int.reduceOfNat,Int.reduceNegSucc])
theorem u4q:Gam.fn 68=some u0f:=by kernel_rfl
noncomputable def y4m:AFun:=(fun (a:AFun) (_:Gam.fn 129=some a)=>a) _ (by conv=>lhs;reduce;simp only[Int.reduceOfNat,Int.reduceNegSucc])
noncomputable def q4t:ACode:=(fun (a:ACode) (_:fl [] (lp y4m 1)=a)=>a) _ (by conv=>lhs;reduce;simp only[Int.reduceOfNat,Int.reduceNegSucc])
attribute [local irreducible] q4t
noncomputable def j2o:ACode:=(fun (a:ACode) (_:fl [q4t] (lp y4m 0)=a)=>a) _ (by conv=>lhs;reduce;simp only[Int.reduceOfNat,Int.reduceNegSucc])
attribute [local irreducible] j2o
noncomputable def w4y:AFun:=(fun (a:AFun) (_:flF [j2o,q4t] y4m=a)=>a) _ (by conv=>lhs;reduce;simp only[Int.reduceOfNat,Int.reduceNegSucc])
theorem y4n:Gam.fn 129=some w4y:=by kernel_rfl
noncomputable def w4z:AFun:=(fun (a:AFun) (_:Gam.fn 196=some a)=>a) _ (by conv=>lhs;reduce;simp only[Int.reduceOfNat,Int.reduceNegSucc])
theorem y4o:Gam.fn 196=some w4z:=by kernel_rfl
noncomputable def w5a:AFun:=(fun (a:AFun) (_:Gam.fn 197=some a)=>a) _ (by conv=>lhs;reduce;simp only[Int.reduceOfNat,Int.reduceNegSucc])
theorem y4p:Gam.fn 197=some w5a:=by kernel_rfl
end
section
open Sh
set_option maxHeartbeats 0
noncomputable def u0g:AFun:=(fun (a:AFun) (_:Gam.fn 44=some a)=>a) _ (by conv=>lhs;reduce;simp only[Int.reduceOfNat,Int.reduceNegSucc])
theorem u4r:Gam.fn 44=some u0g:=by kernel_rfl
noncomputable def q59:AFun:=(fun (a:AFun) (_:Gam.fn 105=some a)=>a) _ (by conv=>lhs;reduce;simp only[Int.reduceOfNat,Int.reduceNegSucc])
noncomputable def q7j:ACode:=(fun (a:ACode) (_:fl [] (lp q59 2)=a)=>a) _ (by conv=>lhs;reduce;simp only[Int.reduceOfNat,Int.reduceNegSucc])
attribute [local irreducible] q7j
noncomputable def j9x:ACode:=(fun (a:ACode) (_:fl [q7j] (lp q59 1)=a)=>a) _ (by conv=>lhs;reduce;simp only[Int.reduceOfNat,Int.reduceNegSucc])
attribute [local irreducible] j9x
noncomputable def k5k:ACode:=(fun (a:ACode) (_:fl [j9x,q7j] (lp q59 0)=a)=>a) _ (by conv=>lhs;reduce;simp only[Int.reduceOfNat,Int.reduceNegSucc])
attribute [local irreducible] k5k
noncomputable def u0h:AFun:=(fun (a:AFun) (_:flF [k5k,j9x,q7j] q59=a)=>a) _ (by conv=>lhs;reduce;simp only[Int.reduceOfNat,Int.reduceNegSucc])
theorem u4s:Gam.fn 105=some u0h:=by kernel_rfl
noncomputable def u0i:AFun:=(fun (a:AFun) (_:Gam.fn 167=some a)=>a) _ (by conv=>lhs;reduce;simp only[Int.reduceOfNat,Int.reduceNegSucc])
noncomputable def j2p:ACode:=(fun (a:ACode) (_:fl [] (lp u0i 0)=a)=>a) _ (by conv=>lhs;reduce;simp only[Int.reduceOfNat,Int.reduceNegSucc])
attribute [local irreducible] j2p
noncomputable def w5b:AFun:=(fun (a:AFun) (_:flF [j2p] u0i=a)=>a) _ (by conv=>lhs;reduce;simp only[Int.reduceOfNat,Int.reduceNegSucc])
theorem y4q:Gam.fn 167=some w5b:=by kernel_rfl
noncomputable def u0j:AFun:=(fun (a:AFun) (_:Gam.fn 168=some a)=>a) _ (by conv=>lhs;reduce;simp only[Int.reduceOfNat,Int.reduceNegSucc])
noncomputable def j2q:ACode:=(fun (a:ACode) (_:fl [] (lp u0j 0)=a)=>a) _ (by conv=>lhs;reduce;simp only[Int.reduceOfNat,Int.reduceNegSucc])
attribute [local irreducible] j2q
noncomputable def w5c:AFun:=(fun (a:AFun) (_:flF [j2q] u0j=a)=>a) _ (by conv=>lhs;reduce;simp only[Int.reduceOfNat,Int.reduceNegSucc])
theorem y4r:Gam.fn 168=some w5c:=by kernel_rfl
noncomputable def u0k:AFun:=(fun (a:AFun) (_:Gam.fn 169=some a)=>a) _ (by conv=>lhs;reduce;simp only[Int.reduceOfNat,Int.reduceNegSucc])
noncomputable def j2r:ACode:=(fun (a:ACode) (_:fl [] (lp u0k 0)=a)=>a) _ (by conv=>lhs;reduce;simp only[Int.reduceOfNat,Int.reduceNegSucc])
attribute [local irreducible] j2r
noncomputable def w5d:AFun:=(fun (a:AFun) (_:flF [j2r] u0k=a)=>a) _ (by conv=>lhs;reduce;simp only[Int.reduceOfNat,Int.reduceNegSucc])
theorem y4s:Gam.fn 169=some w5d:=by kernel_rfl
noncomputable def y4t:AFun:=(fun (a:AFun) (_:Gam.fn 170=some a)=>a) _ (by conv=>lhs;reduce;simp only[Int.reduceOfNat,Int.reduceNegSucc])
noncomputable def q6z:ACode:=(fun (a:ACode) (_:fl [] (lp y4t 1)=a)=>a) _ (by conv=>lhs;reduce;simp only[Int.reduceOfNat,Int.reduceNegSucc])
attribute [local irreducible] q6z
noncomputable def x7h:ACode:=(fun (a:ACode) (_:fl [q6z] (lp y4t 0)=a)=>a) _ (by conv=>lhs;reduce;simp only[Int.reduceOfNat,Int.reduceNegSucc])
attribute [local irreducible] x7h
noncomputable def w5e:AFun:=(fun (a:AFun) (_:flF [x7h,q6z] y4t=a)=>a) _ (by conv=>lhs;reduce;simp only[Int.reduceOfNat,Int.reduceNegSucc])
theorem y4u:Gam.fn 170=some w5e:=by kernel_rfl
noncomputable def w5f:AFun:=(fun (a:AFun) (_:Gam.fn 165=some a)=>a) _ (by conv=>lhs;reduce;simp only[Int.reduceOfNat,Int.reduceNegSucc])
theorem y4v:Gam.fn 165=some w5f:=by kernel_rfl
noncomputable def u0l:AFun:=(fun (a:AFun) (_:Gam.fn 235=some a)=>a) _ (by conv=>lhs;reduce;simp only[Int.reduceOfNat,Int.reduceNegSucc])
noncomputable def j2s:ACode:=(fun (a:ACode) (_:fl [] (lp u0l 0)=a)=>a) _ (by conv=>lhs;reduce;simp only[Int.reduceOfNat,Int.reduceNegSucc])
attribute [local irreducible] j2s
noncomputable def w5g:AFun:=(fun (a:AFun) (_:flF [j2s] u0l=a)=>a) _ (by conv=>lhs;reduce;simp only[Int.reduceOfNat,Int.reduceNegSucc])
theorem y4w:Gam.fn 235=some w5g:=by kernel_rfl
noncomputable def v9y:AFun:=(fun (a:AFun) (_:Gam.fn 146=some a)=>a) _ (by conv=>lhs;reduce;simp only[Int.reduceOfNat,Int.reduceNegSucc])
noncomputable def q9d:ACode:=(fun (a:ACode) (_:fl [] (lp v9y 4)=a)=>a) _ (by conv=>lhs;reduce;simp only[Int.reduceOfNat,Int.reduceNegSucc])
attribute [local irreducible] q9d
noncomputable def q9e:ACode:=(fun (a:ACode) (_:fl [q9d] (lp v9y 3)=a)=>a) _ (by conv=>lhs;reduce;simp only[Int.reduceOfNat,Int.reduceNegSucc])
attribute [local irreducible] q9e
noncomputable def j2t:ACode:=(fun (a:ACode) (_:fl [q9e,q9d] (lp v9y 2)=a)=>a) _ (by conv=>lhs;reduce;simp only[Int.reduceOfNat,Int.reduceNegSucc])
attribute [local irreducible] j2t
noncomputable def q9f:ACode:=(fun (a:ACode) (_:fl [j2t,q9e,q9d] (lp v9y 1)=a)=>a) _ (by conv=>lhs;reduce;simp only[Int.reduceOfNat,Int.reduceNegSucc])
attribute [local irreducible] q9f
noncomputable def x7i:ACode:=(fun (a:ACode) (_:fl [q9f,j2t,q9e,q9d] (lp v9y 0)=a)=>a) _ (by conv=>lhs;reduce;simp only[Int.reduceOfNat,Int.reduceNegSucc])
attribute [local irreducible] x7i
noncomputable def w5h:AFun:=(fun (a:AFun) (_:flF [x7i,q9f,j2t,q9e,q9d] v9y=a)=>a) _ (by conv=>lhs;reduce;simp only[Int.reduceOfNat,Int.reduceNegSucc])
theorem y4x:Gam.fn 146=some w5h:=by kernel_rfl
noncomputable def w5i:AFun:=(fun (a:AFun) (_:Gam.fn 189=some a)=>a) _ (by conv=>lhs;reduce;simp only[Int.reduceOfNat,Int.reduceNegSucc])
theorem y4y:Gam.fn 189=some w5i:=by kernel_rfl
noncomputable def x4c:AFun:=(fun (a:AFun) (_:Gam.fn 296=some a)=>a) _ (by conv=>lhs;reduce;simp only[Int.reduceOfNat,Int.reduceNegSucc])
theorem y4z:Gam.fn 296=some x4c:=by kernel_rfl
noncomputable def q1v:AFun:=(fun (a:AFun) (_:Gam.fn 297=some a)=>a) _ (by conv=>lhs;reduce;simp only[Int.reduceOfNat,Int.reduceNegSucc])
theorem y5a:Gam.fn 297=some q1v:=by kernel_rfl
noncomputable def q1w:AFun:=(fun (a:AFun) (_:Gam.fn 298=some a)=>a) _ (by conv=>lhs;reduce;simp only[Int.reduceOfNat,Int.reduceNegSucc])
theorem y5b:Gam.fn 298=some q1w:=by kernel_rfl
noncomputable def u0m:AFun:=(fun (a:AFun) (_:Gam.fn 333=some a)=>a) _ (by conv=>lhs;reduce;simp only[Int.reduceOfNat,Int.reduceNegSucc])
noncomputable def j2u:ACode:=(fun (a:ACode) (_:fl [] (lp u0m 0)=a)=>a) _ (by conv=>lhs;reduce;simp only[Int.reduceOfNat,Int.reduceNegSucc])
attribute [local irreducible] j2u
noncomputable def w5j:AFun:=(fun (a:AFun) (_:flF [j2u] u0m=a)=>a) _ (by conv=>lhs;reduce;simp only[Int.reduceOfNat,Int.reduceNegSucc])
theorem y5c:Gam.fn 333=some w5j:=by kernel_rfl
noncomputable def v5j:AFun:=(fun (a:AFun) (_:Gam.fn 334=some a)=>a) _ (by conv=>lhs;reduce;simp only[Int.reduceOfNat,Int.reduceNegSucc])
theorem y5d:Gam.fn 334=some v5j:=by kernel_rfl
noncomputable def w5k:AFun:=(fun (a:AFun) (_:Gam.fn 191=some a)=>a) _ (by conv=>lhs;reduce;simp only[Int.reduceOfNat,Int.reduceNegSucc])
theorem y5e:Gam.fn 191=some w5k:=by kernel_rfl
noncomputable def u0n:AFun:=(fun (a:AFun) (_:Gam.fn 192=some a)=>a) _ (by conv=>lhs;reduce;simp only[Int.reduceOfNat,Int.reduceNegSucc])
noncomputable def j2v:ACode:=(fun (a:ACode) (_:fl [] (lp u0n 0)=a)=>a) _ (by conv=>lhs;reduce;simp only[Int.reduceOfNat,Int.reduceNegSucc])
attribute [local irreducible] j2v
noncomputable def w5l:AFun:=(fun (a:AFun) (_:flF [j2v] u0n=a)=>a) _ (by conv=>lhs;reduce;simp only[Int.reduceOfNat,Int.reduceNegSucc])
theorem y5f:Gam.fn 192=some w5l:=by kernel_rfl
noncomputable def v5k:AFun:=(fun (a:AFun) (_:Gam.fn 187=some a)=>a) _ (by conv=>lhs;reduce;simp only[Int.reduceOfNat,Int.reduceNegSucc])
theorem w5m:Gam.fn 187=some v5k:=by kernel_rfl
noncomputable def w5n:AFun:=(fun (a:AFun) (_:Gam.fn 124=some a)=>a) _ (by conv=>lhs;reduce;simp only[Int.reduceOfNat,Int.reduceNegSucc])
theorem y5g:Gam.fn 124=some w5n:=by kernel_rfl
noncomputable def q82:AFun:=(fun (a:AFun) (_:Gam.fn 71=some a)=>a) _ (by conv=>lhs;reduce;simp only[Int.reduceOfNat,Int.reduceNegSucc])
noncomputable def j9y:ACode:=(fun (a:ACode) (_:fl [] (lp q82 0)=a)=>a) _ (by conv=>lhs;reduce;simp only[Int.reduceOfNat,Int.reduceNegSucc])
attribute [local irreducible] j9y
noncomputable def u0o:AFun:=(fun (a:AFun) (_:flF [j9y] q82=a)=>a) _ (by conv=>lhs;reduce;simp only[Int.reduceOfNat,Int.reduceNegSucc])
theorem u4t:Gam.fn 71=some u0o:=by kernel_rfl
end
section
open Sh
set_option maxHeartbeats 0
noncomputable def u1w:AFun:=(fun (a:AFun) (_:Gam.fn 114=some a)=>a) _ (by conv=>lhs;reduce;simp only[Int.reduceOfNat,Int.reduceNegSucc])
theorem u5n:Gam.fn 114=some u1w:=by kernel_rfl
noncomputable def u1x:AFun:=(fun (a:AFun) (_:Gam.fn 176=some a)=>a) _ (by conv=>lhs;reduce;simp only[Int.reduceOfNat,Int.reduceNegSucc])
noncomputable def x2x:ACode:=(fun (a:ACode) (_:fl [] (lp u1x 0)=a)=>a) _ (by conv=>lhs;reduce;simp only[Int.reduceOfNat,Int.reduceNegSucc])
attribute [local irreducible] x2x
noncomputable def w8v:AFun:=(fun (a:AFun) (_:flF [x2x] u1x=a)=>a) _ (by conv=>lhs;reduce;simp only[Int.reduceOfNat,Int.reduceNegSucc])
theorem y7v:Gam.fn 176=some w8v:=by kernel_rfl
noncomputable def q75:AFun:=(fun (a:AFun) (_:Gam.fn 84=some a)=>a) _ (by conv=>lhs;reduce;simp only[Int.reduceOfNat,Int.reduceNegSucc])
noncomputable def k6u:ACode:=(fun (a:ACode) (_:fl [] (lp q75 0)=a)=>a) _ (by conv=>lhs;reduce;simp only[Int.reduceOfNat,Int.reduceNegSucc])
attribute [local irreducible] k6u
noncomputable def u1z:AFun:=(fun (a:AFun) (_:flF [k6u] q75=a)=>a) _ (by conv=>lhs;reduce;simp only[Int.reduceOfNat,Int.reduceNegSucc])
theorem u5o:Gam.fn 84=some u1z:=by kernel_rfl
def k1n:ACode:=(.seq (.region 1 [N 9 (.binOp .lss (.one .int) (.tmp 8) (.tmp 7))] []) (.seq (.cond (.tmp 9) .skip (.exit 0)) (.seq (.block 1 (.seq (.region 2 [M 10 8,M 5 10] []) (.seq (.region 6 [M 11 1,M 12 0,M 13 5,N 14 (.indexAddr none 1 (.tmp 12) (.tmp 13)),L 15 14,N 16 (.binOp .eql (.one .str) (.tmp 11) (.tmp 15))] []) (.cond (.tmp 16) (.seq (.region 2 [M 17 5,M 4 17] []) .ret) .skip)))) (.region 2 [N 18 (.binOp .add (.one .int) (.tmp 8) (I 1)),M 8 18] []))))
def u2b:AFun:=
 {ntmps:=19,nslots:=0,results:=[.tmp 4],byref:=[],owned:=false,
  body:=(.seq (.region 1 [N 4 (.move (I 0))] []) (.seq (.seq (.region 3 [M 6 0,N 7 (.len .sl (.tmp 6)),N 8 (.move (I 0))] []) (.block 0 (.loop k1n))) (.seq (.region 1 [N 4 (.move (I (-1)))] []) .ret)))}
theorem u5q:Gam.fn 83=some u2b:=by kernel_rfl
noncomputable def v1e:AFun:=(fun (a:AFun) (_:Gam.fn 91=some a)=>a) _ (by conv=>lhs;reduce;simp only[Int.reduceOfNat,Int.reduceNegSucc])
theorem y1y:Gam.fn 91=some v1e:=by kernel_rfl
noncomputable def q38:AFun:=(fun (a:AFun) (_:Gam.fn 38=some a)=>a) _ (by conv=>lhs;reduce;simp only[Int.reduceOfNat,Int.reduceNegSucc])
noncomputable def k6v:ACode:=(fun (a:ACode) (_:fl [] (lp q38 0)=a)=>a) _ (by conv=>lhs;reduce;simp only[Int.reduceOfNat,Int.reduceNegSucc])
attribute [local irreducible] k6v
noncomputable def u2e:AFun:=(fun (a:AFun) (_:flF [k6v] q38=a)=>a) _ (by conv=>lhs;reduce;simp only[Int.reduceOfNat,Int.reduceNegSucc])
theorem u5t:Gam.fn 38=some u2e:=by kernel_rfl
noncomputable def q39:AFun:=(fun (a:AFun) (_:Gam.fn 39=some a)=>a) _ (by conv=>lhs;reduce;simp only[Int.reduceOfNat,Int.reduceNegSucc])
noncomputable def k6w:ACode:=(fun (a:ACode) (_:fl [] (lp q39 0)=a)=>a) _ (by conv=>lhs;reduce;simp only[Int.reduceOfNat,Int.reduceNegSucc])
attribute [local irreducible] k6w
noncomputable def u2f:AFun:=(fun (a:AFun) (_:flF [k6w] q39=a)=>a) _ (by conv=>lhs;reduce;simp only[Int.reduceOfNat,Int.reduceNegSucc])
theorem u5u:Gam.fn 39=some u2f:=by kernel_rfl
noncomputable def u2g:AFun:=(fun (a:AFun) (_:Gam.fn 95=some a)=>a) _ (by conv=>lhs;reduce;simp only[Int.reduceOfNat,Int.reduceNegSucc])
theorem u5v:Gam.fn 95=some u2g:=by kernel_rfl
noncomputable def u2h:AFun:=(fun (a:AFun) (_:Gam.fn 150=some a)=>a) _ (by conv=>lhs;reduce;simp only[Int.reduceOfNat,Int.reduceNegSucc])
noncomputable def j3s:ACode:=(fun (a:ACode) (_:fl [] (lp u2h 0)=a)=>a) _ (by conv=>lhs;reduce;simp only[Int.reduceOfNat,Int.reduceNegSucc])
attribute [local irreducible] j3s
noncomputable def w8y:AFun:=(fun (a:AFun) (_:flF [j3s] u2h=a)=>a) _ (by conv=>lhs;reduce;simp only[Int.reduceOfNat,Int.reduceNegSucc])
theorem y7z:Gam.fn 150=some w8y:=by kernel_rfl
noncomputable def u2i:AFun:=(fun (a:AFun) (_:Gam.fn 77=some a)=>a) _ (by conv=>lhs;reduce;simp only[Int.reduceOfNat,Int.reduceNegSucc])
theorem u5w:Gam.fn 77=some u2i:=by kernel_rfl
noncomputable def q61:AFun:=(fun (a:AFun) (_:Gam.fn 132=some a)=>a) _ (by conv=>lhs;reduce;simp only[Int.reduceOfNat,Int.reduceNegSucc])
noncomputable def k6x:ACode:=(fun (a:ACode) (_:fl [] (lp q61 0)=a)=>a) _ (by conv=>lhs;reduce;simp only[Int.reduceOfNat,Int.reduceNegSucc])
attribute [local irreducible] k6x
noncomputable def u2j:AFun:=(fun (a:AFun) (_:flF [k6x] q61=a)=>a) _ (by conv=>lhs;reduce;simp only[Int.reduceOfNat,Int.reduceNegSucc])
theorem u5x:Gam.fn 132=some u2j:=by kernel_rfl
noncomputable def u2k:AFun:=(fun (a:AFun) (_:Gam.fn 198=some a)=>a) _ (by conv=>lhs;reduce;simp only[Int.reduceOfNat,Int.reduceNegSucc])
noncomputable def j3t:ACode:=(fun (a:ACode) (_:fl [] (lp u2k 0)=a)=>a) _ (by conv=>lhs;reduce;simp only[Int.reduceOfNat,Int.reduceNegSucc])
attribute [local irreducible] j3t
noncomputable def w8z:AFun:=(fun (a:AFun) (_:flF [j3t] u2k=a)=>a) _ (by conv=>lhs;reduce;simp only[Int.reduceOfNat,Int.reduceNegSucc])
theorem w9a:Gam.fn 198=some w8z:=by kernel_rfl
noncomputable def w9b:AFun:=(fun (a:AFun) (_:Gam.fn 199=some a)=>a) _ (by conv=>lhs;reduce;simp only[Int.reduceOfNat,Int.reduceNegSucc])
theorem y8a:Gam.fn 199=some w9b:=by kernel_rfl
noncomputable def u2l:AFun:=(fun (a:AFun) (_:Gam.fn 258=some a)=>a) _ (by conv=>lhs;reduce;simp only[Int.reduceOfNat,Int.reduceNegSucc])
noncomputable def x2z:ACode:=(fun (a:ACode) (_:fl [] (lp u2l 0)=a)=>a) _ (by conv=>lhs;reduce;simp only[Int.reduceOfNat,Int.reduceNegSucc])
attribute [local irreducible] x2z
noncomputable def w9c:AFun:=(fun (a:AFun) (_:flF [x2z] u2l=a)=>a) _ (by conv=>lhs;reduce;simp only[Int.reduceOfNat,Int.reduceNegSucc])
theorem y8b:Gam.fn 258=some w9c:=by kernel_rfl
noncomputable def w9d:AFun:=(fun (a:AFun) (_:Gam.fn 202=some a)=>a) _ (by conv=>lhs;reduce;simp only[Int.reduceOfNat,Int.reduceNegSucc])
theorem y8c:Gam.fn 202=some w9d:=by kernel_rfl
noncomputable def w9e:AFun:=(fun (a:AFun) (_:Gam.fn 203=some a)=>a) _ (by conv=>lhs;reduce;simp only[Int.reduceOfNat,Int.reduceNegSucc])
theorem y8d:Gam.fn 203=some w9e:=by kernel_rfl
def k1o:ACode:=(.seq (.region 1 [N 10 (.binOp .lss (.one .int) (.tmp 9) (.tmp 8))] []) (.seq (.cond (.tmp 10) .skip (.exit 0)) (.seq (.block 1 (.seq (.region 4 [N 11 (.indexAddr none 2 (.tmp 7) (.tmp 9)),N 12 (.load (some 2) (.tmp 11)),N 5 (.alloc 1 (.agg [(.str []),(.int .i64 0)])),S 2 5 12] []) (.region 3 [M 13 3,N 14 (.load (some 2) (.tmp 5)),⟨none, .mapUpdate (.agg [.str, .int]) (.tmp 13) (.tmp 14) (.const (.bool true)),none⟩] []))) (.region 2 [N 15 (.binOp .add (.one .int) (.tmp 9) (I 1)),M 9 15] []))))
def w9f:AFun:=
 {ntmps:=17,nslots:=2,results:=[.tmp 2],byref:=[],owned:=false,
  body:=(.seq (.region 1 [N 2 (.move (.const .nilmap))] []) (.seq (.region 2 [N 6 (.makeMap 0),M 3 6] []) (.seq (.seq (.region 3 [M 7 0,N 8 (.len .sl (.tmp 7)),N 9 (.move (I 0))] []) (.block 0 (.loop k1o))) (.seq (.region 2 [M 16 3,M 2 16] []) .ret))))}
theorem y8e:Gam.fn 262=some w9f:=by kernel_rfl
noncomputable def u2m:AFun:=(fun (a:AFun) (_:Gam.fn 263=some a)=>a) _ (by conv=>lhs;reduce;simp only[Int.reduceOfNat,Int.reduceNegSucc])
noncomputable def j3u:ACode:=(fun (a:ACode) (_:fl [] (lp u2m 0)=a)=>a) _ (by conv=>lhs;reduce;simp only[Int.reduceOfNat,Int.reduceNegSucc])
attribute [local irreducible] j3u
noncomputable def w9g:AFun:=(fun (a:AFun) (_:flF [j3u] u2m=a)=>a) _ (by conv=>lhs;reduce;simp only[Int.reduceOfNat,Int.reduceNegSucc])
theorem y8f:Gam.fn 263=some w9g:=by kernel_rfl
noncomputable def w9h:AFun:=(fun (a:AFun) (_:Gam.fn 264=some a)=>a) _ (by conv=>lhs;reduce;simp only[Int.reduceOfNat,Int.reduceNegSucc])
theorem y8g:Gam.fn 264=some w9h:=by kernel_rfl
noncomputable def u2n:AFun:=(fun (a:AFun) (_:Gam.fn 265=some a)=>a) _ (by conv=>lhs;reduce;simp only[Int.reduceOfNat,Int.reduceNegSucc])
noncomputable def j3v:ACode:=(fun (a:ACode) (_:fl [] (lp u2n 0)=a)=>a) _ (by conv=>lhs;reduce;simp only[Int.reduceOfNat,Int.reduceNegSucc])
attribute [local irreducible] j3v
noncomputable def w9i:AFun:=(fun (a:AFun) (_:flF [j3v] u2n=a)=>a) _ (by conv=>lhs;reduce;simp only[Int.reduceOfNat,Int.reduceNegSucc])
theorem y8h:Gam.fn 265=some w9i:=by kernel_rfl
noncomputable def w9j:AFun:=(fun (a:AFun) (_:Gam.fn 266=some a)=>a) _ (by conv=>lhs;reduce;simp only[Int.reduceOfNat,Int.reduceNegSucc])
theorem y8i:Gam.fn 266=some w9j:=by kernel_rfl
noncomputable def w9k:AFun:=(fun (a:AFun) (_:Gam.fn 182=some a)=>a) _ (by conv=>lhs;reduce;simp only[Int.reduceOfNat,Int.reduceNegSucc])
theorem y8j:Gam.fn 182=some w9k:=by kernel_rfl
noncomputable def u2o:AFun:=(fun (a:AFun) (_:Gam.fn 250=some a)=>a) _ (by conv=>lhs;reduce;simp only[Int.reduceOfNat,Int.reduceNegSucc])
noncomputable def x3a:ACode:=(fun (a:ACode) (_:fl [] (lp u2o 0)=a)=>a) _ (by conv=>lhs;reduce;simp only[Int.reduceOfNat,Int.reduceNegSucc])
attribute [local irreducible] x3a
noncomputable def w9l:AFun:=(fun (a:AFun) (_:flF [x3a] u2o=a)=>a) _ (by conv=>lhs;reduce;simp only[Int.reduceOfNat,Int.reduceNegSucc])
theorem y8k:Gam.fn 250=some w9l:=by kernel_rfl
def v7w:AFun:=
 {ntmps:=8,nslots:=1,results:=[.tmp 3],byref:=[],owned:=false,
  body:=(.seq (.region 2 [N 2 (.box 0 (.tmp 0)),N 3 (.move (.const (.bool false)))] []) (.seq (.region 5 [L 4 1,N 5 (.load (some 2) (.tmp 2)),N 6 (.lookup (.agg [.str, .int]) (.bool false) (.tmp 4) (.tmp 5) false),N 7 (.unOp .not (.tmp 6)),M 3 7] []) .ret))}
theorem y8l:Gam.fn 320=some v7w:=by kernel_rfl
noncomputable def w9m:AFun:=(fun (a:AFun) (_:Gam.fn 261=some a)=>a) _ (by conv=>lhs;reduce;simp only[Int.reduceOfNat,Int.reduceNegSucc])
theorem y8m:Gam.fn 261=some w9m:=by kernel_rfl
end
end Go.Proofs.YtahdahokpjigiaaGreatDoor.Am
