/- Terms that are well sorted: plain facts Walking: small values and variables Walking: terms and formulas are generated Walking: terms and formulas are generated Walking: terms and formulas are generate -/
import Derived.Test.YtkollgjffkdliaaGreatDoorM24
open Nat renaming reduceBEq → z0,reduceAdd → z1,reduceLeDiff → z2,reduceSub → z3
set_option linter.all false
namespace Go.Proofs.YtkollgjffkdliaaGreatDoor.Am
open Go
set_option maxRecDepth 100000
def IntS (a:List Nat):Prop:=∃ z:Int,a=z0i z∧z.natAbs < 10 ^ 40
def RatS (a:List Nat):Prop:=IntS a∨∃ (z:Int) (d:Nat),a=z0i z++47::dec d∧z.natAbs < 10 ^ 40∧2≤d∧d≤4∧Nat.gcd z.natAbs d=1
def bare (o k:Nat):Node:=⟨o,0,[],[],k⟩
inductive NodeOk (V:List Var):Node→List Nat→Nat→Term→Prop
 | bool {o:Nat} {ks:Term} (h:o=1∨o=2):NodeOk V (bare o 0) [] 1 ks
 | int {a:List Nat} {ks:Term} (h:IntS a):NodeOk V ⟨3,2,[],a,0⟩ [] 2 ks
 | real {a:List Nat} {ks:Term} (h:RatS a):NodeOk V ⟨3,3,[],a,0⟩ [] 3 ks
 | var {v:Var} {ks:Term} (h:v∈V):NodeOk V ⟨4,v.sort,v.name,[],0⟩ [] v.sort ks
 | not {ks:Term}:NodeOk V (bare 6 1) [1] 1 ks
 | andor {o k:Nat} {ks:Term} (h:o=7∨o=8):NodeOk V (bare o k) (List.replicate k 1) 1 ks
 | imp {ks:Term}:NodeOk V (bare 9 2) [1,1] 1 ks
 | ite {s:Nat} {ks:Term} (h1:1≤s) (h2:s≤4):NodeOk V (bare 10 3) [1,s,s] s ks
 | eq {s:Nat} {ks:Term} (h1:1≤s) (h2:s≤4):NodeOk V (bare 11 2) [s,s] 1 ks
 | cmp {o s:Nat} {ks:Term} (h:o=12∨o=13) (hs:s=2∨s=3):NodeOk V (bare o 2) [s,s] 1 ks
 | add {k s:Nat} {ks:Term} (h:1≤k) (hs:s=2∨s=3):NodeOk V (bare 14 k) (List.replicate k s) s ks
 | mul {s:Nat} {n:Node} {ks:Term} (hs:s=2∨s=3) (hn:n.op=3):NodeOk V (bare 15 2) [s,s] s (n::ks)
 | div {o k:Nat} {ks:Term} (h:o=16∨o=17) (h1:1≤k) (h2:k≤5):NodeOk V ⟨o,0,[],dec k,1⟩ [2] 2 ks
 | select {ks:Term}:NodeOk V (bare 18 2) [4,2] 2 ks
 | store {ks:Term}:NodeOk V (bare 19 3) [4,2,2] 4 ks
 | const {ks:Term}:NodeOk V (bare 20 1) [2] 4 ks
inductive WF (V:List Var):List Nat→Nat→Term→Prop
 | nil {d:Nat}:WF V [] d []
 | cons {n:Node} {ss:List Nat} {ks:Term} {s d:Nat} {ss':List Nat} {rest:Term}:WF V ss d ks→NodeOk V n ss s ks→n.kids=ss.length→WF V ss' (d + 1) rest→WF V (s::ss') (d + 1) (n::(ks++rest))
theorem WF.up {V:List Var} {ss:List Nat} {d d':Nat} {t:Term} (h:WF V ss d t) (hd:d≤d'):WF V ss d' t:=by
 induction h generalizing d' with
 | nil=>exact .nil
 | cons h1 h2 h3 h4 ih1 ih2=>
   obtain⟨e,rfl⟩:∃ e,d'=e + 1:=⟨d' - 1,by omega⟩
   exact .cons (ih1 (by omega)) h2 h3 (ih2 hd)
theorem WF.append {V:List Var} {ss ss':List Nat} {d:Nat} {t t':Term} (h:WF V ss d t) (h':WF V ss' d t'):WF V (ss++ss') d (t++t'):=by
 induction h with
 | nil=>exact h'
 | cons h1 h2 h3 h4 ih1 ih2=>
   rw[List.cons_append,List.cons_append,List.append_assoc]
   exact .cons h1 h2 h3 (ih2 h')
theorem WF.one {V:List Var} {n:Node} {ss:List Nat} {s d:Nat} {ks:Term} (h:WF V ss d ks) (hn:NodeOk V n ss s ks) (hk:n.kids=ss.length):WF V [s] (d + 1) (n::ks):=by
 have:=WF.cons h hn hk .nil
 rwa [List.append_nil] at this
def GT (V:List Var) (s d m:Nat) (t:Term):Prop:=WF V [s] d t∧t.length≤m∧1≤s∧s≤4
theorem GT.up {V:List Var} {s d m d' m':Nat} {t:Term} (h:GT V s d m t) (hd:d≤d') (hm:m≤m'):GT V s d' m' t:=⟨h.1.up hd,by have:=h.2.1;omega,h.2.2⟩
theorem GT.leaf {V:List Var} {n:Node} {s:Nat} (hn:NodeOk V n [] s []) (hk:n.kids=0) (h1:1≤s) (h2:s≤4):GT V s 1 1 [n]:=⟨WF.one (d:=0) .nil hn hk,by simp,h1,h2⟩
theorem q7a {z:Int} (h:z.natAbs < 10 ^ 40):IntS (z0i z):=⟨z,rfl,h⟩
theorem x6f {k:Nat} (h:k < 10):IntS [48 + k]:=⟨k,by rw[z0i,if_neg (by omega),Int.natAbs_natCast,z7d h],by simp;omega⟩
theorem Pure.tab {f:Nat} {args:List AV} {tab:List (List AV×AV)} {v:AV} (hext:Gam.ext f=some (q0d tab)) (hobs:z4r args=[]) (hv:q0d tab (cvL args)=some v):Pure Gam f args v:=by
 intro h clk
 constructor
 ·refine⟨0, ?_⟩
  unfold z5g z0o
  simp only[hext,z1o hobs,z4u hobs,List.isEmpty_nil,if_true,hv,Option.map_some]
 ·unfold z1a
  simp only[hext,hobs,List.map_nil,List.append_nil]
def value (s:Nat) (b:Bool) (a:List Nat) (ks vs:List AV):AV:= .agg [nat s, .bool b, .str a, .sl ks .no, .sl vs .no]
def SmallV (s:Nat) (v:AV):Prop:=∃ t,q0d z2p [v]=some (.tup [z0n t, .int .i64 0])∧(∀ V,GT V s 3 5 t)∧v.obs=[]∧v.cv=v∧v.ids=[]∧v.def? =true∧v.cells.length=5∧v.cells.all AV.one=true
theorem z3j {k:Nat} (h:k < 10):z0i (k:Int)=[48 + k]:=by rw[z0i,if_neg (by omega),Int.natAbs_natCast,z7d h]
theorem j9v (b:Bool):SmallV 1 (value 1 b [] [] []):=by
 cases b
 ·exact⟨[bare 2 0],rfl,fun V=>(GT.leaf (.bool (.inr rfl)) rfl (by omega) (by omega)).up (by omega) (by omega),rfl,rfl,rfl,rfl,rfl,rfl⟩
 ·exact⟨[bare 1 0],rfl,fun V=>(GT.leaf (.bool (.inl rfl)) rfl (by omega) (by omega)).up (by omega) (by omega),rfl,rfl,rfl,rfl,rfl,rfl⟩
theorem x9v {k:Nat} (h:k < 10) (h0:0 < k):z0i (-(k:Int))=[45,48 + k]:=by
 rw[z0i,if_pos (by omega),show (-(k:Int)).natAbs=k by omega,z7d h]
theorem k4a {s:Nat} (hs:s=2∨s=3) {z:Int} (h1: -2≤z) (h2:z≤3):SmallV s (value s false (z0i z) [] []):=by
 have hi:IntS (z0i z):=q7a (by omega)
 refine⟨[⟨3,s,[],z0i z,0⟩], ?_,fun V=> ?_,rfl,rfl,rfl,rfl,rfl,rfl⟩
 ·have:z0i z=[45,50]∧z= -2∨z0i z=[45,49]∧z= -1∨z0i z=[48]∧z=0∨z0i z=[49]∧z=1∨z0i z=[50]∧z=2∨z0i z=[51]∧z=3:=by
   rcases (by omega:z= -2∨z= -1∨z=0∨z=1∨z=2∨z=3) with rfl | rfl | rfl | rfl | rfl | rfl
   ·exact .inl ⟨x9v (k:=2) (by omega) (by omega),rfl⟩
   ·exact .inr (.inl ⟨x9v (k:=1) (by omega) (by omega),rfl⟩)
   ·exact .inr (.inr (.inl ⟨z3j (k:=0) (by omega),rfl⟩))
   ·exact .inr (.inr (.inr (.inl ⟨z3j (k:=1) (by omega),rfl⟩)))
   ·exact .inr (.inr (.inr (.inr (.inl ⟨z3j (k:=2) (by omega),rfl⟩))))
   ·exact .inr (.inr (.inr (.inr (.inr ⟨z3j (k:=3) (by omega),rfl⟩))))
  rcases hs with rfl | rfl <;> rcases this with ⟨e,_⟩ | ⟨e,_⟩ | ⟨e,_⟩ | ⟨e,_⟩ | ⟨e,_⟩ | ⟨e,_⟩ <;> rw[e] <;> rfl
 ·rcases hs with rfl | rfl
  ·exact (GT.leaf (.int hi) rfl (by omega) (by omega)).up (by omega) (by omega)
  ·exact (GT.leaf (.real (.inl hi)) rfl (by omega) (by omega)).up (by omega) (by omega)
def y9d (k:Nat):Term:=[bare 20 1,⟨3,2,[],[48 + k],0⟩]
def u2n (k i j:Nat):Term:=[bare 19 3,bare 20 1,⟨3,2,[],[48 + k],0⟩,⟨3,2,[],[48 + i],0⟩,⟨3,2,[],[48 + j],0⟩]
theorem k4b {V:List Var} {k d:Nat} (h:k < 10):WF V [2] (d + 1) [⟨3,2,[],[48 + k],0⟩]:=WF.one .nil (.int (x6f h)) rfl
theorem k4c {V:List Var} {k d:Nat} (h:k < 10):WF V [4] (d + 2) (y9d k):=WF.one (k4b h) .const rfl
theorem w2h {V:List Var} {k:Nat} (h:k < 10):GT V 4 3 5 (y9d k):=⟨k4c h,by simp[y9d],by omega,by omega⟩
theorem w2i {V:List Var} {k i j:Nat} (h:k < 10) (hi:i < 10) (hj:j < 10):GT V 4 3 5 (u2n k i j):=by
 refine⟨?_,by simp[u2n],by omega,by omega⟩
 have:=((k4c (V:=V) (d:=0) h).append (k4b (d:=1) hi)).append (k4b (d:=1) hj)
 exact WF.one this .store rfl
def v0g (k i j:Nat):AV:=if j=k then value 4 false [48 + k] [] [] else value 4 false [48 + k] [.str [48 + i]] [.str [48 + j]]
theorem x9w {k i j:Nat} (hk:k < 3) (hi:i < 3) (hj:j < 3):q0d z6f [value 4 false [48 + k] [] [], .str [48 + i], .str [48 + j]]=some (.tup [v0g k i j, .int .i64 0]):=by
 have hk:k=0∨k=1∨k=2:=by omega
 have hi:i=0∨i=1∨i=2:=by omega
 have hj:j=0∨j=1∨j=2:=by omega
 rcases hk with rfl | rfl | rfl <;> rcases hi with rfl | rfl | rfl <;> rcases hj with rfl | rfl | rfl <;> rfl
theorem x9x {k i j:Nat} (hk:k < 3) (hi:i < 3) (hj:j < 3):SmallV 4 (v0g k i j):=by
 refine⟨if j=k then y9d k else u2n k i j, ?_,fun V=> ?_, ?_⟩
 ·have hk:k=0∨k=1∨k=2:=by omega
  have hi:i=0∨i=1∨i=2:=by omega
  have hj:j=0∨j=1∨j=2:=by omega
  rcases hk with rfl | rfl | rfl <;> rcases hi with rfl | rfl | rfl <;> rcases hj with rfl | rfl | rfl <;> rfl
 ·split
  ·exact w2h (by omega)
  ·exact w2i (by omega) (by omega) (by omega)
 ·unfold v0g
  split <;> exact⟨rfl,rfl,rfl,rfl,rfl,rfl⟩
theorem v0h {l:List Int} {s:Nat} (hl:q6z l) (h1:1≤s) (h2:s≤4):GenOk l 16 [nat s] fun v=>SmallV s v:=by
 refine GenOk.of rfl u7i rfl rfl rfl rfl rfl fun D B p g i clk T hB hs hD hi hT=> ?_
 obtain rfl | hs23 | rfl:s=1∨(s=2∨s=3)∨s=4:=by omega
 ·simp only[go_sem,w1k,nat,hB,Int.reduceEq,decide_true,decide_false]
  refine z0p (z2x hl (by decide) (by decide)) hB hs hD hi ?_
  rintro v D' i' ⟨r,rfl,hr1,hr2⟩ hB' hD' hi'
  simp only[go_sem,hB',Int.reduceEq,decide_true,decide_false]
  rw[z2k rfl rfl]
  exact hT _ _ i' (by rw[z0w hB' hs];exact hD') hi' (j9v _)
 ·have e1:decide ((s:Int)=1)=false:=by simp;omega
  have e2:decide ((s:Int)=4)=false:=by simp;omega
  simp only[go_sem,w1k,nat,hB,Int.reduceEq,e1,e2]
  refine z0p (z2x hl (by decide) (by decide)) hB hs hD hi ?_
  rintro v D' i' ⟨r,rfl,hr1,hr2⟩ hB' hD' hi'
  have e3:IntKind.i64.wrap (r - 2)=r - 2:=z0c (by omega) (by omega)
  simp only[go_sem,hB',e3]
  rw[z0a (z8i (by omega) (by omega))]
  simp only[go_sem,hB']
  rw[z2k rfl rfl]
  exact hT _ _ i' (by rw[z0w hB' hs];exact hD') hi' (k4a hs23 (by omega) (by omega))
 ·simp only[go_sem,w1k,nat,hB,Int.reduceEq,decide_true,decide_false]
  refine z0p (z2x hl (by decide) (by decide)) hB hs hD hi ?_
  rintro v D1 i1 ⟨r1,rfl,hr1,hr2⟩ hB1 hD1 hi1
  obtain⟨k,rfl⟩:∃ k:Nat,r1=k:=⟨r1.toNat,by omega⟩
  simp only[go_sem,hB1]
  rw[z0a (z8i (by omega) (by omega)),z3j (by omega)]
  simp only[go_sem,hB1,z1b]
  refine z0p (z2x hl (by decide) (by decide)) hB1 hs hD1 hi1 ?_
  rintro v D2 i2 ⟨r2,rfl,hr3,hr4⟩ hB2 hD2 hi2
  obtain⟨a,rfl⟩:∃ k:Nat,r2=k:=⟨r2.toNat,by omega⟩
  simp only[go_sem,hB2]
  rw[z0a (z8i (by omega) (by omega)),z3j (by omega)]
  simp only[go_sem,hB2]
  refine z0p (z2x hl (by decide) (by decide)) hB2 hs hD2 hi2 ?_
  rintro v D3 i3 ⟨r3,rfl,hr5,hr6⟩ hB3 hD3 hi3
  obtain⟨b,rfl⟩:∃ k:Nat,r3=k:=⟨r3.toNat,by omega⟩
  simp only[go_sem,hB3]
  rw[z0a (z8i (by omega) (by omega)),z3j (by omega)]
  simp only[go_sem,hB3]
  obtain⟨ks,vs,hv⟩:∃ ks vs,v0g k a b=value 4 false [48 + k] ks vs:=by
   unfold v0g
   split <;> exact⟨_,_,rfl⟩
  have hsm:=x9x (k:=k) (i:=a) (j:=b) (by omega) (by omega) (by omega)
  have htab:=x9w (k:=k) (i:=a) (j:=b) (by omega) (by omega) (by omega)
  rw[hv] at hsm htab
  have hp:Pure Gam 49 [.agg [.int .i64 4, .bool false, .str [48 + k], .sl [] .nil, .sl [] .nil], .str [48 + a], .str [48 + b]] _:=Pure.tab (tab:=z6f) rfl rfl htab
  rw[z0a hp]
  simp only[go_sem,hB3,value,nat]
  refine⟨by simp[z1e,apart,z0l,z0z,z1i,AOp.isCall,hB1];omega, ?_⟩
  obtain⟨t,q1,q2,q3,q4,q5,q6⟩:=hsm
  rw[z2k (v:= .agg [.int .i64 4, .bool false, .str [48 + k], .sl ks .no, .sl vs .no]) rfl q5]
  exact hT _ _ i3 (by rw[z0w hB3 hs];exact hD3) hi3 ⟨t,q1,q2,q3,q4,q5,q6⟩
theorem j3d {s:Nat} {v:AV} (hv:SmallV s v):∃ t,Pure Gam 195 [v] (.tup [z0n t, .int .i64 0])∧∀ V,GT V s 3 5 t:=by
 obtain⟨t,q1,q2,q3,q4,q5,q6⟩:=hv
 refine⟨t,Pure.tab (tab:=z2p) rfl (by simp[z4r,q3]) (by simp only[cvL,q4];exact q1),q2⟩
def x0u (V:List Var) (s d m:Nat) (v:AV):Prop:=∃ t,v=z0n t∧GT V s d m t
theorem z5n {l:List Var} {i:Nat} {h:List AObj} {t:Tip} {k:IntKind} (hi:i < l.length):z1p h 2 (.sl (l.map z1h) t) (.int k (i:Int))=some (.iptr [.str l[i].name,nat l[i].sort] 0,h):=z2d hi rfl rfl
theorem q2r {l:List Int} {s:Nat} {V:List Var} {u:Tip} (hl:q6z l) (h1:1≤s) (h2:s≤4) (hV:V.length≤400):GenOk l 120 [nat s, .sl (V.map z1h) u] (x0u V s 3 5):=by
 refine GenOk.of rfl u2a rfl rfl rfl (az:=[nat s, .sl (V.map z1h) .no]) rfl (by simp[idsL,z3h,AV.ids,z0d z2z]) fun D B p g i clk T hB hs hD hi hT=> ?_
 simp only[go_sem,y2j,hB]
 refine z1f (fun m q=>∃ (j:Nat) (acc:List Var) (t:Tip) (a b c d:AObj),j≤V.length∧m=V.length - j∧acc.length≤j∧(∀ v∈acc,v∈V∧v.sort=s)∧q.ts 0= .ptr p g 0 0∧q.ts 1=nat s∧q.ts 2= .sl (V.map z1h) .no∧q.ts 7= .sl (acc.map z1h) t∧q.ts 8= .int .i64 j∧q.h=D++[a,b,c,d]∧z9p B 1 b t 2) V.length ?_ ?_
 ·exact⟨0,[], .nil,_,_,_,_,by simp,rfl,by simp,by simp,rfl,rfl,rfl,rfl,rfl,rfl, .inl rfl⟩
 rintro m ⟨ts,h,clk⟩ P ⟨j,acc,t,a,b,c,d,hj,rfl,hal,hacc,g0,g1,g2,g7,g8,rfl,ht⟩ hn he hr
 dsimp only at g0 g1 g2 g7 g8
 simp only[go_sem,g0,g1,g2,g7,g8,List.length_map,k3j]
 refine z8n (fun hb=> ?_) (fun hb=> ?_)
 ·have hlt:j < V.length:=by simp at hb;omega
  simp only[go_sem,g0,g1,g2,g7,g8,z5n hlt,nat]
  have e1:IntKind.i64.wrap ((j:Int) + 1)=((j + 1:Nat):Int):=z0c (by omega) (by omega)
  refine z8n (fun hc=> ?_) (fun hc=> ?_)
  ·have hsort:V[j].sort=s:=by simp at hc;omega
   simp only[go_sem,g0,g1,g2,g7,g8,z5n hlt,nat]
   rw[show [AV.agg [.str V[j].name, .int .i64 (V[j].sort:Int)]]=[V[j]].map z1h from rfl,z0s hB rfl ht z3e z3e (by simp only[List.length_map,List.length_singleton];omega)]
   simp only[go_sem,g0,g1,g2,g7,g8,e1]
   refine hn (V.length - (j + 1)) _ (by omega) ⟨j + 1,acc++[V[j]],_,_,_,_,_,hlt,rfl,by simp;omega, ?_,g0,g1,g2, ?_,rfl,rfl, .inr (.inr ⟨_,rfl,rfl⟩)⟩
   ·intro v hv
    rw[List.mem_append,List.mem_singleton] at hv
    rcases hv with hv | rfl
    ·exact hacc v hv
    ·exact⟨List.getElem_mem hlt,hsort⟩
   ·simp only[z0b,z0,cond_true,cond_false,List.map_append,List.map_cons,List.map_nil]
  ·simp only[go_sem,g0,g1,g2,g7,g8,e1]
   exact hn (V.length - (j + 1)) _ (by omega) ⟨j + 1,acc,t,_,_,_,_,hlt,rfl,by omega,hacc,g0,g1,g2,g7,rfl,rfl,ht⟩
 ·simp only[go_sem,]
  refine he _ _ ?_
  simp only[go_sem,g0,g1,g2,g7,g8,List.length_map]
  refine z8n (fun hc=> ?_) (fun hc=> ?_)
  ·simp only[go_sem,g0,g1,g2,g7,g8]
   refine z0p (v0h hl h1 h2) hB hs hD hi ?_
   rintro v D1 i1 hv hB1 hD1 hi1
   simp only[go_sem,g0,g1,g2,g7,g8]
   obtain⟨t,hp,hg⟩:=j3d hv
   rw[z0a hp]
   simp only[go_sem,g0,g1,g2,g7,g8]
   rw[z1d]
   exact hT _ _ i1 (by rw[z0w hB1 hs];exact hD1) hi1 ⟨t,rfl,hg V⟩
  ·have hlen:acc.length≠0:=by simpa using hc
   simp only[go_sem,g0,g1,g2,g7,g8,List.length_map]
   refine z0p (z2x hl (by omega) (by omega)) hB hs hD hi ?_
   rintro v D1 i1 ⟨r,rfl,hr1,hr2⟩ hB1 hD1 hi1
   obtain⟨k,rfl⟩:∃ k:Nat,r=k:=⟨r.toNat,by omega⟩
   have hk:k < acc.length:=by omega
   simp only[go_sem,g0,g1,g2,g7,g8,hB1,z1b,z5n hk,nat]
   obtain⟨hm,hsrt⟩:=hacc acc[k] (List.getElem_mem hk)
   have hn:NodeOk V ⟨4,s,acc[k].name,[],0⟩ [] s []:=by
    have:=NodeOk.var (ks:=[]) hm
    rw[hsrt] at this
    exact this
   show RV _ (some [.sl (List.map eNode [⟨4,s,acc[k].name,[],0⟩]) .full]) _ _
   rw[k3w]
   exact hT _ _ i1 (by rw[z0w hB1 hs];exact hD1) hi1 ⟨_,rfl,(GT.leaf hn rfl h1 h2).up (by omega) (by omega)⟩
section
theorem x6g {o:Nat} {l:List Term} {u:Tip} (hl:l.length≤2 ^ 20) (hf:l.flatten.length≤2 ^ 30):Pure Gam 95 [nat o, .sl (l.map z0n) u] (z0n (bare o l.length::l.flatten)):=by
 refine Pure.of rfl u1z rfl rfl rfl (az:=[nat o, .sl (l.map z0n) .no]) rfl (by simp[idsL,z3h,AV.ids,z0d z3n]) fun D B clk T hB hT=> ?_
 have hp:Pure Gam 155 [.agg [.int .i64 o, .int .i64 0, .str [], .str [], .int .i64 0], .sl (l.map z0n) .no] (z0n (bare o l.length::l.flatten)):=k3x (n:=bare o 0) hl hf
 simp only[go_sem,y2i,nat,hB,z1b]
 rw[z0a hp]
 simp only[go_sem,]
 rw[z1d]
 exact hT _
theorem opn {o:Nat} {i:Int} {l:List Term} {u:Tip} (hi:i=o) (hl:l.length≤2 ^ 20) (hf:l.flatten.length≤2 ^ 30):Pure Gam 95 [.int .i64 i, .sl (l.map z0n) u] (z0n (bare o l.length::l.flatten)):=by
 subst hi
 exact x6g hl hf
theorem op1 {o:Nat} {i:Int} {a:Term} (hi:i=o) (ha:a.length≤2 ^ 20):Pure Gam 95 [.int .i64 i, .sl [z0n a] .full] (z0n (bare o 1::a)):=by
 subst hi
 have:=x6g (o:=o) (l:=[a]) (u:= .full) (by simp) (by simp;omega)
 simpa [nat] using this
theorem op2 {o:Nat} {i:Int} {a b:Term} (hi:i=o) (ha:a.length≤2 ^ 20) (hb:b.length≤2 ^ 20):Pure Gam 95 [.int .i64 i, .sl [z0n a,z0n b] .full] (z0n (bare o 2::(a++b))):=by
 subst hi
 have:=x6g (o:=o) (l:=[a,b]) (u:= .full) (by simp) (by simp;omega)
 simpa [nat] using this
theorem op3 {o:Nat} {i:Int} {a b c:Term} (hi:i=o) (ha:a.length≤2 ^ 20) (hb:b.length≤2 ^ 20) (hc:c.length≤2 ^ 20):Pure Gam 95 [.int .i64 i, .sl [z0n a,z0n b,z0n c] .full] (z0n (bare o 3::(a++(b++c)))):=by
 subst hi
 have:=x6g (o:=o) (l:=[a,b,c]) (u:= .full) (by simp) (by simp;omega)
 simpa [nat] using this
section
variable {V:List Var}
theorem GT.op1 {o s s1 d m:Nat} {a:Term} (ha:GT V s1 d m a) (hn:NodeOk V (bare o 1) [s1] s a) (h1:1≤s) (h2:s≤4):GT V s (d + 1) (m + 1) (bare o 1::a):=
 ⟨WF.one ha.1 hn rfl,by have:=ha.2.1;simp;omega,h1,h2⟩
theorem GT.op2 {o s s1 s2 d m1 m2:Nat} {a b:Term} (ha:GT V s1 d m1 a) (hb:GT V s2 d m2 b) (hn:NodeOk V (bare o 2) [s1,s2] s (a++b)) (h1:1≤s) (h2:s≤4):GT V s (d + 1) (m1 + m2 + 1) (bare o 2::(a++b)):=
 ⟨WF.one (ha.1.append hb.1) hn rfl,by have:=ha.2.1;have:=hb.2.1;simp;omega,h1,h2⟩
theorem GT.op3 {o s s1 s2 s3 d m1 m2 m3:Nat} {a b c:Term} (ha:GT V s1 d m1 a) (hb:GT V s2 d m2 b) (hc:GT V s3 d m3 c) (hn:NodeOk V (bare o 3) [s1,s2,s3] s (a++(b++c))) (h1:1≤s) (h2:s≤4):GT V s (d + 1) (m1 + m2 + m3 + 1) (bare o 3::(a++(b++c))):=
 ⟨WF.one (ha.1.append (hb.1.append hc.1)) hn rfl,by have:=ha.2.1;have:=hb.2.1;have:=hc.2.1;simp;omega,h1,h2⟩
end
def TB (s d:Nat):Nat:=if s=1 then 11 * 6 ^ d else 5 * 6 ^ d
theorem bs5 {h:List AObj}:bsV h (.int .i64 0) 5 [0,1,2,3,4] [.int .i64 2, .int .i64 2, .int .i64 3, .int .i64 4, .int .i64 1]=some (.sl [.int .i64 2, .int .i64 2, .int .i64 3, .int .i64 4, .int .i64 1] .full,h):=(rfl)
theorem g2d {r:Nat} {h:List AObj} (hr:r < 5):∃ s:Nat,1≤s∧s≤4∧z1p h 1 (.sl [.int .i64 2, .int .i64 2, .int .i64 3, .int .i64 4, .int .i64 1] .full) (.int .i64 (r:Int))=some (.iptr [.int .i64 (s:Int)] 0,h):=by
 obtain rfl | rfl | rfl | rfl | rfl:r=0∨r=1∨r=2∨r=3∨r=4:=by omega
 ·exact⟨2,by omega,by omega,rfl⟩
 ·exact⟨2,by omega,by omega,rfl⟩
 ·exact⟨3,by omega,by omega,rfl⟩
 ·exact⟨4,by omega,by omega,rfl⟩
 ·exact⟨1,by omega,by omega,rfl⟩
variable {l:List Int} {V:List Var}
theorem z5v:(AV.sl (V.map z1h) .no).ids=[]:=k3t z2z
theorem k4d {d k m:Nat} {u:Tip} (hl:q6z l) (hV:V.length≤400) (hk:3≤k) (hm:5≤m) (hm2:m≤2 ^ 18) (hT:∀ s,2≤s→s≤4→GenOk l 154 [nat s,nat d, .sl (V.map z1h) .no] (x0u V s k m)):GenOk l 94 [nat d, .sl (V.map z1h) u] (x0u V 1 (k + 1) (2 * m + 1)):=by
 refine GenOk.of rfl u2d rfl rfl rfl (az:=[nat d, .sl (V.map z1h) .no]) rfl (by simp[idsL,z3h,z5v]) fun D B p g i clk T hB hs hD hi hR=> ?_
 simp only[go_sem,y2n,hB,nat,z1b,bs5]
 refine z0p (z2x hl (by decide) (by decide)) hB hs hD hi ?_
 rintro v D1 i1 ⟨r,rfl,hr1,hr2⟩ hB1 hD1 hi1
 obtain⟨q,rfl⟩:∃ k:Nat,r=k:=⟨r.toNat,by omega⟩
 obtain⟨s,hs1,hs4,hidx⟩:=g2d (r:=q) (h:=D1++[.dead, .dead]) (by omega)
 simp only[go_sem,hB1,hidx]
 refine z8n (fun hb=> ?_) (fun hb=> ?_)
 ·have hs1':s=1:=by simp at hb;omega
  subst hs1'
  simp only[go_sem,hB1]
  refine z0p (z2x hl (by decide) (by decide)) hB1 hs hD1 hi1 ?_
  rintro v D2 i2 ⟨r,rfl,hr3,hr4⟩ hB2 hD2 hi2
  simp only[go_sem,hB2]
  refine z8n (fun hc=> ?_) (fun hc=> ?_)
  ·simp only[go_sem,hB2]
   refine z0p (z2x hl (by decide) (by decide)) hB2 hs hD2 hi2 ?_
   rintro v D3 i3 ⟨r3,rfl,hr5,hr6⟩ hB3 hD3 hi3
   simp only[go_sem,hB3]
   rw[z0a x6d]
   simp only[go_sem,hB3]
   rw[z1d]
   refine hR _ _ i3 (by rw[z0w hB3 hs];exact hD3) hi3 ⟨_,rfl, ?_⟩
   refine (GT.leaf (n:=bare (if decide (r3=1)=true then 1 else 2) 0) (.bool ?_) rfl (by omega) (by omega)).up (by omega) (by omega)
   split <;> simp
  ·simp only[go_sem,hB2]
   refine z0p (q2r (s:=1) hl (by omega) (by omega) hV) hB2 hs hD2 hi2 ?_
   rintro v D3 i3 ⟨t,rfl,ht⟩ hB3 hD3 hi3
   simp only[go_sem,hB3]
   rw[z1d]
   exact hR _ _ i3 (by rw[z0w hB3 hs];exact hD3) hi3 ⟨_,rfl,ht.up (by omega) (by omega)⟩
 ·have hs2:2≤s:=by simp at hb;omega
  have fin:∀ (o:Nat) (ts:Tmps) (clk:Nat) (D2:List AObj) (i2:Nat) (a b:AObj),(o=11∨(s≠4∧(o=12∨o=13)))→D2.length=B→D2[p]? =some (z4p g l i2)→i2≤l.length→ts 8= .int .i64 (o:Int)→ts 0= .ptr p g 0 0→ts 7= .int .i64 (s:Int)→ts 1= .int .i64 (d:Int)→ts 2= .sl (V.map z1h) .no→
    K Gam B (.seq (.region 14 [⟨some 33, .move (.tmp 8),none⟩,⟨some 34, .move (.tmp 0),none⟩,⟨some 35, .move (.tmp 7),none⟩,⟨some 36, .move (.tmp 1),none⟩,⟨some 37, .move (.tmp 2),none⟩,⟨some 38, .call 154 [.tmp 34, .tmp 35, .tmp 36, .tmp 37],none⟩,⟨some 39, .move (.tmp 0),none⟩,⟨some 40, .move (.tmp 7),none⟩,⟨some 41, .move (.tmp 1),none⟩,⟨some 42, .move (.tmp 2),none⟩,⟨some 43, .call 154 [.tmp 39, .tmp 40, .tmp 41, .tmp 42],none⟩,⟨some 44, .buildSlice 1 false (.sl [] .nil) 2 [(0, .tmp 38),(1, .tmp 43)],none⟩,⟨some 45, .call 95 [.tmp 33, .tmp 44],none⟩,⟨some 6, .move (.tmp 45),none⟩] []) .ret) [] ⟨ts,D2++[a,b],clk⟩ (k2h [p] [.tmp 6] T):=by
   intro o ts clk D2 i2 a b ho hB2 hD2 hi2 g8 g0 g7 g1 g2
   simp only[go_sem,g8,g0,g7,g1,g2]
   refine z0p (hT s hs2 hs4) hB2 hs hD2 hi2 ?_
   rintro v D3 i3 ⟨t1,rfl,ht1⟩ hB3 hD3 hi3
   simp only[go_sem,g8,g0,g7,g1,g2]
   refine z0p (hT s hs2 hs4) hB3 hs hD3 hi3 ?_
   rintro v D4 i4 ⟨t2,rfl,ht2⟩ hB4 hD4 hi4
   simp only[go_sem,g8,g0,g7,g1,g2,z3d]
   have l1:=ht1.2.1
   have l2:=ht2.2.1
   rw[z0a (op2 rfl (by omega) (by omega))]
   simp only[go_sem,]
   rw[z1d]
   refine hR _ _ i4 (by rw[z0w hB4 hs];exact hD4) hi4 ⟨_,rfl,(GT.op2 ht1 ht2 ?_ (by omega) (by omega)).up (by omega) (by omega)⟩
   rcases ho with rfl | ⟨hs',ho⟩
   ·exact .eq hs1 hs4
   ·exact .cmp ho (by omega)
  simp only[go_sem,hB1]
  refine z8n (fun hc=> ?_) (fun hc=> ?_)
  ·have hs3:s≠4:=by simp at hc;omega
   simp only[go_sem,hB1]
   refine z0p (z2x hl (by decide) (by decide)) hB1 hs hD1 hi1 ?_
   rintro v D2 i2 ⟨r,rfl,hr3,hr4⟩ hB2 hD2 hi2
   obtain⟨q,rfl⟩:∃ k:Nat,r=k:=⟨r.toNat,by omega⟩
   have e1:IntKind.i64.wrap (11 + (q:Int))=((11 + q:Nat):Int):=by rw[z0c (by omega) (by omega)];omega
   simp only[k2p,v4x,v4z,j5h,z0b,z0,cond_true,cond_false,z9n,x9s,v4y,k2o,e1,x0o,q6u]
   exact fin (11 + q) _ _ D2 i2 _ _ (by omega) hB2 hD2 hi2 rfl rfl rfl rfl rfl
  ·rw[q6u]
   exact fin 11 _ _ D1 i1 _ _ (.inl rfl) hB1 hD1 hi1 rfl rfl rfl rfl rfl
end
section
variable {l:List Int} {V:List Var}
def x0v (l:List Int) (V:List Var) (d:Nat):Prop:=∀ s,1≤s→s≤4→GenOk l 154 [nat s,nat d, .sl (V.map z1h) .no] (x0u V s (d + 4) (TB s d))
def q5w (l:List Int) (V:List Var) (d:Nat):Prop:=GenOk l 42 [nat d, .sl (V.map z1h) .no] (x0u V 1 (d + 4) (11 * 6 ^ d))
def u2o (l:List Int) (V:List Var) (d:Nat):Prop:=∀ s,1≤s→s≤4→GenOk l 96 [nat s,nat d, .sl (V.map z1h) .no] (x0u V s (d + 4) (TB s d))
def g2e (l:List Int) (V:List Var) (d:Nat):Prop:=∀ s,s=2∨s=3→GenOk l 224 [nat s,nat d, .sl (V.map z1h) .no] (x0u V s (d + 4) (TB s d))
theorem z5o {e:Nat} (he:e≤10):IntKind.i64.wrap (((e + 1:Nat):Int) - 1)=(e:Int):=by rw[z0c (by omega) (by omega)];omega
theorem j3e {s e:Nat}:TB s (e + 1)=6 * TB s e:=by unfold TB;split <;> rw[Nat.pow_succ] <;> omega
theorem y2z {s e:Nat}:TB s e≤11 * 6 ^ e:=by
 have:1≤6 ^ e:=Nat.pos_of_ne_zero (by simp)
 unfold TB;split <;> omega
theorem y3a {s e:Nat}:5 * 6 ^ e≤TB s e:=by
 unfold TB;split <;> omega
theorem k4e {e:Nat} (he:e≤3) (hF:q5w l V e) (hT:x0v l V e):u2o l V (e + 1):=by
 intro s h1 h2
 refine GenOk.of rfl u2e rfl rfl rfl (az:=[nat s,nat (e + 1), .sl (V.map z1h) .no]) rfl (by simp[idsL,z3h,z5v]) fun D B p g i clk T hB hs hD hi hR=> ?_
 have h6:6 ^ e≤6 ^ 4:=Nat.pow_le_pow_right (by omega) (by omega)
 have h6':1≤6 ^ e:=Nat.pos_of_ne_zero (by simp)
 have em:=z5o (e:=e) (by omega)
 simp only[go_sem,y2o,hB,nat,em]
 refine z0p hF hB hs hD hi ?_
 rintro v D1 i1 ⟨t1,rfl,ht1⟩ hB1 hD1 hi1
 simp only[go_sem,em]
 refine z0p (hT s h1 h2) hB1 hs hD1 hi1 ?_
 rintro v D2 i2 ⟨t2,rfl,ht2⟩ hB2 hD2 hi2
 simp only[go_sem,em]
 refine z0p (hT s h1 h2) hB2 hs hD2 hi2 ?_
 rintro v D3 i3 ⟨t3,rfl,ht3⟩ hB3 hD3 hi3
 have l1:=ht1.2.1
 have l2:=ht2.2.1
 have l3:=ht3.2.1
 have lb:TB s e≤11 * 6 ^ e:=y2z
 simp only[go_sem,z3d]
 rw[z0a (op3 (o:=10) (i:=10) rfl (by omega) (by omega) (by omega))]
 simp only[go_sem,]
 rw[z1d]
 refine hR _ _ i3 (by rw[z0w hB3 hs];exact hD3) hi3 ⟨_,rfl,(GT.op3 ht1 ht2 ht3 (.ite h1 h2) h1 h2).up (by omega) ?_⟩
 rw[j3e]
 unfold TB
 split <;> omega
theorem q4w {s:Nat} (hl:q6z l) (hV:V.length≤400) (h1:1≤s) (h2:s≤4):GenOk l 154 [nat s,nat 0, .sl (V.map z1h) .no] (x0u V s 3 5):=by
 refine GenOk.of rfl y2l rfl rfl rfl (az:=[nat s,nat 0, .sl (V.map z1h) .no]) rfl (by simp[idsL,z3h,z5v]) fun D B p g i clk T hB hs hD hi hR=> ?_
 simp only[go_sem,w1o,hB,nat,Int.reduceLE,decide_true]
 refine z0p (z2x hl (by decide) (by decide)) hB hs hD hi ?_
 rintro v D1 i1 ⟨r,rfl,hr1,hr2⟩ hB1 hD1 hi1
 simp only[go_sem,hB1]
 refine z8n (fun hc=> ?_) (fun hc=> ?_)
 ·simp only[go_sem,]
  refine z0p (v0h hl h1 h2) hB1 hs hD1 hi1 ?_
  rintro v D2 i2 hv hB2 hD2 hi2
  simp only[go_sem,]
  obtain⟨t,hp,hg⟩:=j3d hv
  rw[z0a hp]
  simp only[go_sem,]
  rw[z1d]
  exact hR _ _ i2 (by rw[z0w hB2 hs];exact hD2) hi2 ⟨t,rfl,(hg V).up (by omega) (by omega)⟩
 ·simp only[go_sem,]
  refine z0p (q2r hl h1 h2 hV) hB1 hs hD1 hi1 ?_
  rintro v D2 i2 ⟨t,rfl,ht⟩ hB2 hD2 hi2
  simp only[go_sem,]
  rw[z1d]
  exact hR _ _ i2 (by rw[z0w hB2 hs];exact hD2) hi2 ⟨t,rfl,ht.up (by omega) (by omega)⟩
end
section
variable {l:List Int} {V:List Var}
theorem q4x {s d:Nat}:∀ {az:List Term},(∀ t∈az,WF V [s] d t)→WF V (List.replicate az.length s) d az.flatten
 | [],_=> .nil
 | t::az,h=>by
   have:=(h t List.mem_cons_self).append (q4x (az:=az) fun q hq=>h q (List.mem_cons_of_mem _ hq))
   simpa [List.replicate_succ] using this
theorem x6h {m:Nat}:∀ {az:List Term},(∀ t∈az,t.length≤m)→az.flatten.length≤az.length * m
 | [],_=>by simp
 | t::az,h=>by
   have h1:=h t List.mem_cons_self
   have h2:=x6h (az:=az) fun q hq=>h q (List.mem_cons_of_mem _ hq)
   simp only[List.flatten_cons,List.length_append,List.length_cons,Nat.add_mul,Nat.one_mul]
   omega
theorem v0i {e B p g i clk:Nat} {D:List AObj} {ts:Tmps} {a b c d x:AObj} {ks:List Kf} {Q:Post} {n:Nat} (he:e≤3) (hn:n≤3) (hF:q5w l V e) (hB:D.length=B) (hs:p < B) (hD:D[p]? =some (z4p g l i)) (hi:i≤l.length)
  (g0:ts 0= .ptr p g 0 0) (g1:ts 1=nat (e + 1)) (g2:ts 2= .sl (V.map z1h) .no) (g7:ts 7= .sl [] .nil) (g8:ts 8= .int .i64 (n:Int))
  (hQ:∀ (acc:List Term) (t:Tip) (ts':Tmps) (D':List AObj) (i':Nat) (a b c d x:AObj) (clk':Nat),acc.length≤3→(∀ t∈acc,GT V 1 (e + 4) (11 * 6 ^ e) t)→D'.length=B→D'[p]? =some (z4p g l i')→i'≤l.length→ts' 0= .ptr p g 0 0→ts' 7= .sl (acc.map z0n) t→K Gam B (.exit 1) ks ⟨ts',D'++[a,b,c,d,x],clk'⟩ Q):
  K Gam B (.loop j5l) ks ⟨ts,D++[a,b,c,d,x],clk⟩ Q:=by
 refine z1f (fun m q=>∃ (n:Nat) (acc:List Term) (t:Tip) (D:List AObj) (i:Nat) (a b c d x:AObj),m=n∧acc.length + n≤3∧(∀ t∈acc,GT V 1 (e + 4) (11 * 6 ^ e) t)∧D.length=B∧D[p]? =some (z4p g l i)∧i≤l.length∧q.ts 0= .ptr p g 0 0∧q.ts 1=nat (e + 1)∧q.ts 2= .sl (V.map z1h) .no∧q.ts 7= .sl (acc.map z0n) t∧q.ts 8= .int .i64 (n:Int)∧q.h=D++[a,b,c,d,x]∧z9p B 2 c t 1) n ?_ ?_
 ·exact⟨n,[], .nil,D,i,_,_,_,_,_,rfl,by simpa using hn,by simp,hB,hD,hi,g0,g1,g2,g7,g8,rfl, .inl rfl⟩
 clear g0 g1 g2 g7 g8 hB hD hi
 rintro m ⟨ts,h,clk⟩ P ⟨n,acc,t,D,i,a,b,c,d,x,rfl,hlen,hacc,hB,hD,hi,g0,g1,g2,g7,g8,rfl,ht⟩ hnx hex hr
 dsimp only at g0 g1 g2 g7 g8
 have h6:6 ^ e≤6 ^ 4:=Nat.pow_le_pow_right (by omega) (by omega)
 have em:=z5o (e:=e) (by omega)
 simp only[go_sem,g0,g1,g2,g7,g8,j5l]
 refine z8n (fun hb=> ?_) (fun hb=> ?_)
 ·have hpos:0 < m:=by simp at hb;omega
  obtain⟨n',rfl⟩:∃ n',m=n' + 1:=⟨m - 1,by omega⟩
  have en:IntKind.i64.wrap (((n' + 1:Nat):Int) - 1)=(n':Int):=z5o (by omega)
  simp only[go_sem,g0,g1,g2,g7,g8,nat,em]
  refine z0p hF hB hs hD hi ?_
  rintro v D1 i1 ⟨t1,rfl,ht1⟩ hB1 hD1 hi1
  simp only[go_sem,g0,g1,g2,g7,g8,z3d]
  rw[show [z0n t1]=[t1].map z0n from rfl,z0s hB1 rfl ht z4v z4v (by simp only[List.length_map,List.length_singleton];omega)]
  simp only[go_sem,g0,g1,g2,g7,g8,en]
  refine hnx n' _ (by omega) ⟨n',acc++[t1],_,D1,i1,_,_,_,_,_,rfl,by simp;omega, ?_,hB1,hD1,hi1,g0,g1,g2, ?_,rfl,rfl, .inr (.inr ⟨_,rfl,rfl⟩)⟩
  ·intro t' ht'
   rw[List.mem_append,List.mem_singleton] at ht'
   rcases ht' with ht' | rfl
   ·exact hacc t' ht'
   ·exact ht1
  ·simp only[z0b,z0,cond_true,cond_false,List.map_append,List.map_cons,List.map_nil]
 ·simp only[go_sem,]
  refine hex _ _ ?_
  exact hQ acc t _ D i _ _ _ _ _ _ (by omega) hacc hB hD hi (by simp[z0b,g0]) (by simp[z0b,g7])
theorem j3f (hl:q6z l) (hV:V.length≤400):q5w l V 0:=by
 have hA:=k4d (u:= .no) hl hV (Nat.le_refl 3) (Nat.le_refl 5) (by omega) fun s h1 h2=>q4w (s:=s) hl hV (by omega) h2
 refine GenOk.of rfl w1n rfl rfl rfl (az:=[nat 0, .sl (V.map z1h) .no]) rfl (by simp[idsL,z3h,z5v]) fun D B p g i clk T hB hs hD hi hR=> ?_
 simp only[go_sem,w1m,hB,nat,Int.reduceLE,decide_true]
 refine z0p hA hB hs hD hi ?_
 rintro v D1 i1 ⟨t1,rfl,ht1⟩ hB1 hD1 hi1
 simp only[go_sem,]
 rw[z1d]
 exact hR _ _ i1 (by rw[z0w hB1 hs];exact hD1) hi1 ⟨_,rfl,ht1.up (by omega) (by omega)⟩
theorem v6y {e:Nat} (hl:q6z l) (hV:V.length≤400) (he:e≤3) (hF:q5w l V e) (hT:x0v l V e):q5w l V (e + 1):=by
 have hA0:=k4d (u:= .no) hl hV (Nat.le_refl 3) (Nat.le_refl 5) (by omega) fun s h1 h2=>q4w (s:=s) hl hV (by omega) h2
 have h6:6 ^ e≤6 ^ 4:=Nat.pow_le_pow_right (by omega) (by omega)
 have h6':1≤6 ^ e:=Nat.pos_of_ne_zero (by simp)
 have hA:=k4d (d:=e) (u:= .no) (k:=e + 4) (m:=5 * 6 ^ e) hl hV (by omega) (by omega) (by omega) fun s h1 h2=>by
  have:=hT s (by omega) h2
  unfold TB at this
  rw[if_neg (by omega)] at this
  exact this
 have hI:=k4e he hF hT
 have e6:6 ^ (e + 1)=6 * 6 ^ e:=by rw[Nat.pow_succ,Nat.mul_comm]
 refine GenOk.of rfl w1n rfl rfl rfl (az:=[nat (e + 1), .sl (V.map z1h) .no]) rfl (by simp[idsL,z3h,z5v]) fun D B p g i clk T hB hs hD hi hR=> ?_
 have em:=z5o (e:=e) (by omega)
 have e0:decide (((e + 1:Nat):Int)≤0)=false:=by rw[decide_eq_false_iff_not];omega
 simp only[go_sem,w1m,hB,nat,e0]
 refine z0p w1r hB hs hD hi ?_
 rintro v D1 i1 ⟨b,rfl⟩ hB1 hD1 hi1
 simp only[go_sem,]
 refine z8n (fun hc=> ?_) (fun hc=> ?_)
 ·simp only[go_sem,]
  refine z0p hA0 hB1 hs hD1 hi1 ?_
  rintro v D2 i2 ⟨t1,rfl,ht1⟩ hB2 hD2 hi2
  simp only[go_sem,]
  rw[z1d]
  exact hR _ _ i2 (by rw[z0w hB2 hs];exact hD2) hi2 ⟨_,rfl,ht1.up (by omega) (by omega)⟩
 clear hD hi hc
 simp only[go_sem,]
 refine z0p (z2x hl (by decide) (by decide)) hB1 hs hD1 hi1 ?_
 rintro v D2 i2 ⟨r,rfl,hr1,hr2⟩ hB2 hD2 hi2
 clear hD1 hi1 hB1
 obtain⟨q,rfl⟩:∃ k:Nat,r=k:=⟨r.toNat,by omega⟩
 have hq:(q=0∨q=1)∨(q=2∨q=3∨q=4∨q=5)∨q=6∨q=7∨q=8∨9≤q:=by omega
 rcases hq with hq | hq | rfl | rfl | rfl | hq
 ·
  rcases hq with rfl | rfl
  all_goals
   simp only[go_sem,Int.reduceEq,decide_true,decide_false,em]
   refine z0p hF hB2 hs hD2 hi2 ?_
   rintro v D3 i3 ⟨t1,rfl,ht1⟩ hB3 hD3 hi3
   have l1:=ht1.2.1
   simp only[go_sem,z3d]
   rw[z0a (op1 (o:=6) (i:=6) rfl (by omega))]
   simp only[go_sem,]
   rw[z1d]
   exact hR _ _ i3 (by rw[z0w hB3 hs];exact hD3) hi3 ⟨_,rfl,(GT.op1 ht1 .not (by omega) (by omega)).up (by omega) (by omega)⟩
 ·
  rcases hq with rfl | rfl | rfl | rfl
  all_goals
   simp only[go_sem,Int.reduceEq,decide_true,decide_false,em]
   refine z0p (z2x hl (by decide) (by decide)) hB2 hs hD2 hi2 ?_
   rintro v D3 i3 ⟨r3,rfl,hr3,hr4⟩ hB3 hD3 hi3
   obtain⟨n,rfl⟩:∃ k:Nat,r3=k:=⟨r3.toNat,by omega⟩
   simp only[go_sem,]
   refine v0i (n:=n) (i:=i3) he (by omega) hF hB3 hs hD3 hi3 rfl rfl rfl rfl rfl ?_
   intro acc t ts' D4 i4 a1 a2 a3 a4 a5 clk' hlen hacc hB4 hD4 hi4 g0 g7
   simp only[go_sem,g0,g7]
   refine z0p (z2x hl (by decide) (by decide)) hB4 hs hD4 hi4 ?_
   rintro v D5 i5 ⟨r5,rfl,hr5,hr6⟩ hB5 hD5 hi5
   obtain⟨z,rfl⟩:∃ k:Nat,r5=k:=⟨r5.toNat,by omega⟩
   have e7:IntKind.i64.wrap (7 + (z:Int))=((7 + z:Nat):Int):=by rw[z0c (by omega) (by omega)];omega
   have hfl:=x6h (m:=11 * 6 ^ e) (az:=acc) fun t ht=>(hacc t ht).2.1
   have hfl2:acc.length * (11 * 6 ^ e)≤3 * (11 * 6 ^ e):=Nat.mul_le_mul_right _ hlen
   simp only[go_sem,g0,g7,e7]
   rw[z0a (opn (o:=7 + z) (l:=acc) rfl (by omega) (by omega))]
   simp only[go_sem,]
   rw[z1d]
   refine hR _ _ i5 (by rw[z0w hB5 hs];exact hD5) hi5 ⟨_,rfl,⟨(WF.one (q4x fun t ht=>(hacc t ht).1) (.andor (by omega)) (by simp[bare])).up (by omega),by rw[List.length_cons];omega,by omega,by omega⟩⟩
 ·
  simp only[go_sem,Int.reduceEq,decide_true,decide_false,em]
  refine z0p hF hB2 hs hD2 hi2 ?_
  rintro v D3 i3 ⟨t1,rfl,ht1⟩ hB3 hD3 hi3
  simp only[go_sem,em]
  refine z0p hF hB3 hs hD3 hi3 ?_
  rintro v D4 i4 ⟨t2,rfl,ht2⟩ hB4 hD4 hi4
  have l1:=ht1.2.1
  have l2:=ht2.2.1
  simp only[go_sem,z3d]
  rw[z0a (op2 (o:=9) (i:=9) rfl (by omega) (by omega))]
  simp only[go_sem,]
  rw[z1d]
  exact hR _ _ i4 (by rw[z0w hB4 hs];exact hD4) hi4 ⟨_,rfl,(GT.op2 ht1 ht2 .imp (by omega) (by omega)).up (by omega) (by omega)⟩
 ·
  simp only[go_sem,Int.reduceEq,decide_true,decide_false,em]
  refine z0p (hI 1 (by omega) (by omega)) hB2 hs hD2 hi2 ?_
  rintro v D3 i3 ⟨t1,rfl,ht1⟩ hB3 hD3 hi3
  simp only[go_sem,]
  rw[z1d]
  exact hR _ _ i3 (by rw[z0w hB3 hs];exact hD3) hi3 ⟨_,rfl,ht1⟩
 ·
  simp only[go_sem,Int.reduceEq,decide_true,decide_false,em]
  refine z0p hF hB2 hs hD2 hi2 ?_
  rintro v D3 i3 ⟨t1,rfl,ht1⟩ hB3 hD3 hi3
  simp only[go_sem,em]
  refine z0p hF hB3 hs hD3 hi3 ?_
  rintro v D4 i4 ⟨t2,rfl,ht2⟩ hB4 hD4 hi4
  have l1:=ht1.2.1
  have l2:=ht2.2.1
  simp only[go_sem,z3d]
  rw[z0a (op2 (o:=11) (i:=11) rfl (by omega) (by omega))]
  simp only[go_sem,]
  rw[z1d]
  exact hR _ _ i4 (by rw[z0w hB4 hs];exact hD4) hi4 ⟨_,rfl,(GT.op2 ht1 ht2 (.eq (by omega) (by omega)) (by omega) (by omega)).up (by omega) (by omega)⟩
 ·
  have d0:∀ k:Int,0≤k→k < 9→decide ((q:Int)=k)=false:=fun k h1 h2=>by rw[decide_eq_false_iff_not];omega
  simp only[go_sem,d0 0 (by decide) (by decide),d0 1 (by decide) (by decide),d0 2 (by decide) (by decide),d0 3 (by decide) (by decide),d0 4 (by decide) (by decide),d0 5 (by decide) (by decide),d0 6 (by decide) (by decide),d0 7 (by decide) (by decide),d0 8 (by decide) (by decide),em]
  refine z0p hA hB2 hs hD2 hi2 ?_
  rintro v D3 i3 ⟨t1,rfl,ht1⟩ hB3 hD3 hi3
  simp only[go_sem,]
  rw[z1d]
  exact hR _ _ i3 (by rw[z0w hB3 hs];exact hD3) hi3 ⟨_,rfl,ht1.up (by omega) (by omega)⟩
end
section
variable {l:List Int} {V:List Var}
def u2p (s:Nat) (a:List Nat):Prop:=(s=2∧IntS a)∨(s=3∧RatS a)
def x2v (l:List Int):Prop:=∀ s,s=2∨s=3→GenOk l 272 [nat s] fun v=>∃ a,v= .str a∧u2p s a
theorem GT.num {s:Nat} {a:List Nat} (h:u2p s a):GT V s 1 1 [⟨3,s,[],a,0⟩]:=by
 rcases h with ⟨rfl,h⟩ | ⟨rfl,h⟩
 ·exact GT.leaf (.int h) rfl (by omega) (by omega)
 ·exact GT.leaf (.real h) rfl (by omega) (by omega)
theorem y3b {e B p g i s clk:Nat} {D:List AObj} {ts:Tmps} {a b c d x y z:AObj} {ks:List Kf} {Q:Post} {n:Nat} {t0:Term} (he:e≤3) (hn:n≤2) (h1:1≤s) (h2:s≤4) (hT:x0v l V e) (hB:D.length=B) (hs:p < B) (hD:D[p]? =some (z4p g l i)) (hi:i≤l.length)
  (g0:ts 0= .ptr p g 0 0) (gs:ts 1=nat s) (g1:ts 2=nat (e + 1)) (g2:ts 3= .sl (V.map z1h) .no) (g7:ts 10= .sl [z0n t0] .full) (g8:ts 11= .int .i64 (n:Int)) (ht0:GT V s (e + 4) (TB s e) t0)
  (hQ:∀ (acc:List Term) (t:Tip) (ts':Tmps) (D':List AObj) (i':Nat) (a b c d x y z:AObj) (clk':Nat),1≤acc.length→acc.length≤3→(∀ t∈acc,GT V s (e + 4) (TB s e) t)→D'.length=B→D'[p]? =some (z4p g l i')→i'≤l.length→ts' 0= .ptr p g 0 0→ts' 10= .sl (acc.map z0n) t→K Gam B (.exit 1) ks ⟨ts',D'++[a,b,c,d,x,y,z],clk'⟩ Q):
  K Gam B (.loop j5m) ks ⟨ts,D++[a,b,c,d,x,y,z],clk⟩ Q:=by
 refine z1f (fun m q=>∃ (n:Nat) (acc:List Term) (t:Tip) (D:List AObj) (i:Nat) (a b c d x y z:AObj),m=n∧1≤acc.length∧acc.length + n≤3∧(∀ t∈acc,GT V s (e + 4) (TB s e) t)∧D.length=B∧D[p]? =some (z4p g l i)∧i≤l.length∧q.ts 0= .ptr p g 0 0∧q.ts 1=nat s∧q.ts 2=nat (e + 1)∧q.ts 3= .sl (V.map z1h) .no∧q.ts 10= .sl (acc.map z0n) t∧q.ts 11= .int .i64 (n:Int)∧q.h=D++[a,b,c,d,x,y,z]∧z9p B 2 c t 1) n ?_ ?_
 ·exact⟨n,[t0], .full,D,i,_,_,_,_,_,_,_,rfl,by simp,by simp;omega,by simpa using ht0,hB,hD,hi,g0,gs,g1,g2,g7,g8,rfl, .inr (.inl rfl)⟩
 clear g0 gs g1 g2 g7 g8 hB hD hi
 rintro m ⟨ts,h,clk⟩ P ⟨n,acc,t,D,i,a,b,c,d,x,y,z,rfl,hlen1,hlen,hacc,hB,hD,hi,g0,gs,g1,g2,g7,g8,rfl,ht⟩ hnx hex hr
 dsimp only at g0 gs g1 g2 g7 g8
 have em:=z5o (e:=e) (by omega)
 simp only[go_sem,g0,gs,g1,g2,g7,g8,j5m]
 refine z8n (fun hb=> ?_) (fun hb=> ?_)
 ·have hpos:0 < m:=by simp at hb;omega
  obtain⟨n',rfl⟩:∃ n',m=n' + 1:=⟨m - 1,by omega⟩
  have en:IntKind.i64.wrap (((n' + 1:Nat):Int) - 1)=(n':Int):=z5o (by omega)
  simp only[go_sem,g0,gs,g1,g2,g7,g8,nat,em]
  refine z0p (hT s h1 h2) hB hs hD hi ?_
  rintro v D1 i1 ⟨t1,rfl,ht1⟩ hB1 hD1 hi1
  simp only[go_sem,g0,gs,g1,g2,g7,g8,z3d]
  rw[show [z0n t1]=[t1].map z0n from rfl,z0s hB1 rfl ht z4v z4v (by simp only[List.length_map,List.length_singleton];omega)]
  simp only[go_sem,g0,gs,g1,g2,g7,g8,en]
  refine hnx n' _ (by omega) ⟨n',acc++[t1],_,D1,i1,_,_,_,_,_,_,_,rfl,by simp,by simp;omega, ?_,hB1,hD1,hi1,g0,gs,g1,g2, ?_,rfl,rfl, .inr (.inr ⟨_,rfl,rfl⟩)⟩
  ·intro t' ht'
   rw[List.mem_append,List.mem_singleton] at ht'
   rcases ht' with ht' | rfl
   ·exact hacc t' ht'
   ·exact ht1
  ·simp only[z0b,z0,cond_true,cond_false,List.map_append,List.map_cons,List.map_nil]
 ·simp only[go_sem,]
  refine hex _ _ ?_
  exact hQ acc t _ D i _ _ _ _ _ _ _ _ hlen1 (by omega) hacc hB hD hi (by simp[z0b,g0]) (by simp[z0b,g7])
theorem y3c {e:Nat} (hl:q6z l) (hV:V.length≤400) (he:e≤3) (hN:x2v l) (hF:q5w l V e) (hT:x0v l V e):g2e l V (e + 1):=by
 intro s hs23
 have h1:1≤s:=by omega
 have h2:s≤4:=by omega
 have hI:=k4e he hF hT
 have h6:6 ^ e≤6 ^ 4:=Nat.pow_le_pow_right (by omega) (by omega)
 have h6':1≤6 ^ e:=Nat.pos_of_ne_zero (by simp)
 have hTB:TB s (e + 1)=30 * 6 ^ e:=by rw[j3e];unfold TB;rw[if_neg (by omega)];omega
 have hTB2:TB s e=5 * 6 ^ e:=by unfold TB;rw[if_neg (by omega)]
 have hTB4:TB 4 e=5 * 6 ^ e:=by unfold TB;rw[if_neg (by omega)]
 refine GenOk.of rfl u2f rfl rfl rfl (az:=[nat s,nat (e + 1), .sl (V.map z1h) .no]) rfl (by simp[idsL,z3h,z5v]) fun D B p g i clk T hB hs hD hi hR=> ?_
 have em:=z5o (e:=e) (by omega)
 simp only[go_sem,y2p,hB,nat]
 refine z0p (z2x hl (by decide) (by decide)) hB hs hD hi ?_
 rintro v D2 i2 ⟨r,rfl,hr1,hr2⟩ hB2 hD2 hi2
 obtain⟨q,rfl⟩:∃ k:Nat,r=k:=⟨r.toNat,by omega⟩
 have hq:q < 3∨(3≤q∧q < 5)∨q=5∨q=6∨q=7∨q=8∨q=9:=by omega
 rcases hq with hq | hq | rfl | rfl | rfl | rfl | rfl
 ·
  have e3:decide ((q:Int) < 3)=true:=by rw[decide_eq_true_iff];omega
  simp only[go_sem,e3,em]
  refine z0p (hT s h1 h2) hB2 hs hD2 hi2 ?_
  rintro v D3 i3 ⟨t1,rfl,ht1⟩ hB3 hD3 hi3
  simp only[go_sem,z3d]
  refine z0p (z2x hl (by decide) (by decide)) hB3 hs hD3 hi3 ?_
  rintro v D4 i4 ⟨r4,rfl,hr3,hr4⟩ hB4 hD4 hi4
  obtain⟨n,rfl⟩:∃ k:Nat,r4=k:=⟨r4.toNat,by omega⟩
  simp only[go_sem,]
  refine y3b (n:=n) (i:=i4) he (by omega) h1 h2 hT hB4 hs hD4 hi4 rfl rfl rfl rfl rfl rfl ht1 ?_
  intro acc t ts' D5 i5 a1 a2 a3 a4 a5 a6 a7 clk' hlen1 hlen hacc hB5 hD5 hi5 g0 g7
  have hfl:=x6h (m:=TB s e) (az:=acc) fun t ht=>(hacc t ht).2.1
  have hfl2:acc.length * TB s e≤3 * TB s e:=Nat.mul_le_mul_right _ hlen
  simp only[go_sem,g0,g7]
  rw[z0a (opn (o:=14) (i:=14) (l:=acc) rfl (by omega) (by omega))]
  simp only[go_sem,]
  rw[z1d]
  refine hR _ _ i5 (by rw[z0w hB5 hs];exact hD5) hi5 ⟨_,rfl,⟨(WF.one (q4x fun t ht=>(hacc t ht).1) (.add hlen1 hs23) (by simp[bare])).up (by omega),by rw[List.length_cons];omega,by omega,by omega⟩⟩
 ·
  have e3:decide ((q:Int) < 3)=false:=by rw[decide_eq_false_iff_not];omega
  have e5:decide ((q:Int) < 5)=true:=by rw[decide_eq_true_iff];omega
  simp only[go_sem,e3,e5,em]
  refine z0p (hN s hs23) hB2 hs hD2 hi2 ?_
  rintro v D3 i3 ⟨a,rfl,ha⟩ hB3 hD3 hi3
  simp only[go_sem,em]
  have hp:=x6e (s:=s) (a:=a)
  rw[nat] at hp
  rw[z0a hp]
  simp only[go_sem,em]
  refine z0p (hT s h1 h2) hB3 hs hD3 hi3 ?_
  rintro v D4 i4 ⟨t1,rfl,ht1⟩ hB4 hD4 hi4
  have l1:=ht1.2.1
  simp only[go_sem,z3d]
  rw[z0a (op2 (o:=15) (i:=15) rfl (by simp) (by omega))]
  simp only[go_sem,]
  rw[z1d]
  exact hR _ _ i4 (by rw[z0w hB4 hs];exact hD4) hi4 ⟨_,rfl,(GT.op2 ((GT.num ha).up (d':=e + 4) (m':=1) (by omega) (by omega)) ht1 (.mul hs23 rfl) (by omega) (by omega)).up (by omega) (by omega)⟩
 ·
  simp only[go_sem,Int.reduceEq,Int.reduceLT,decide_true,decide_false]
  refine z0p (hI s h1 h2) hB2 hs hD2 hi2 ?_
  rintro v D3 i3 ⟨t1,rfl,ht1⟩ hB3 hD3 hi3
  simp only[go_sem,]
  rw[z1d]
  exact hR _ _ i3 (by rw[z0w hB3 hs];exact hD3) hi3 ⟨_,rfl,ht1⟩
 ·
  rcases hs23 with rfl | rfl
  ·simp only[go_sem,Int.reduceEq,Int.reduceLT,decide_true,decide_false]
   refine z0p (z2x hl (by decide) (by decide)) hB2 hs hD2 hi2 ?_
   rintro v D3 i3 ⟨r3,rfl,hr3,hr4⟩ hB3 hD3 hi3
   obtain⟨z,rfl⟩:∃ k:Nat,r3=k:=⟨r3.toNat,by omega⟩
   have e7:IntKind.i64.wrap (16 + (z:Int))=((16 + z:Nat):Int):=by rw[z0c (by omega) (by omega)];omega
   simp only[go_sem,e7]
   refine z0p (z2x hl (by decide) (by decide)) hB3 hs hD3 hi3 ?_
   rintro v D4 i4 ⟨r5,rfl,hr5,hr6⟩ hB4 hD4 hi4
   obtain⟨y,rfl⟩:∃ k:Nat,r5=k:=⟨r5.toNat,by omega⟩
   have e8:IntKind.i64.wrap (1 + (y:Int))=((1 + y:Nat):Int):=by rw[z0c (by omega) (by omega)];omega
   simp only[go_sem,e8]
   rw[z0a (z8i (by omega) (by omega)),z0i,if_neg (by omega),Int.natAbs_natCast]
   simp only[go_sem,hB4,z1b,em]
   refine z0p (hT 2 h1 h2) hB4 hs hD4 hi4 ?_
   rintro v D5 i5 ⟨t1,rfl,ht1⟩ hB5 hD5 hi5
   have l1:=ht1.2.1
   simp only[go_sem,z3d]
   have hp:Pure Gam 155 [.agg [.int .i64 ((16 + z:Nat):Int), .int .i64 0, .str [], .str (dec (1 + y)), .int .i64 0], .sl [z0n t1] .full] _:=k3x (n:=⟨16 + z,0,[],dec (1 + y),0⟩) (l:=[t1]) (u:= .full) (by simp) (by simp;omega)
   rw[z0a hp]
   simp only[go_sem,]
   refine⟨by simp[z1e,apart,z0l,z0z,z1i,AOp.isCall,hB4];omega, ?_⟩
   rw[z1d]
   refine hR _ _ i5 (by rw[z0w hB5 hs];exact hD5) hi5 ⟨_,rfl, ?_⟩
   have:=WF.one (n:=⟨16 + z,0,[],dec (1 + y),1⟩) ht1.1 (.div (by omega) (by omega) (by omega)) rfl
   refine⟨?_,by simp;omega,by omega,by omega⟩
   simpa using this
  ·simp only[go_sem,Int.reduceEq,Int.reduceLT,decide_true,decide_false]
   refine z0p (q2r hl h1 h2 hV) hB2 hs hD2 hi2 ?_
   rintro v D3 i3 ⟨t1,rfl,ht1⟩ hB3 hD3 hi3
   simp only[go_sem,]
   rw[z1d]
   exact hR _ _ i3 (by rw[z0w hB3 hs];exact hD3) hi3 ⟨_,rfl,ht1.up (by omega) (by omega)⟩
 ·
  rcases hs23 with rfl | rfl
  ·simp only[go_sem,Int.reduceEq,Int.reduceLT,decide_true,decide_false,em]
   refine z0p (hT 4 (by omega) (by omega)) hB2 hs hD2 hi2 ?_
   rintro v D3 i3 ⟨t1,rfl,ht1⟩ hB3 hD3 hi3
   simp only[go_sem,em]
   refine z0p (hT 2 h1 h2) hB3 hs hD3 hi3 ?_
   rintro v D4 i4 ⟨t2,rfl,ht2⟩ hB4 hD4 hi4
   have l1:=ht1.2.1
   have l2:=ht2.2.1
   simp only[go_sem,z3d]
   rw[z0a (op2 (o:=18) (i:=18) rfl (by omega) (by omega))]
   simp only[go_sem,]
   rw[z1d]
   exact hR _ _ i4 (by rw[z0w hB4 hs];exact hD4) hi4 ⟨_,rfl,(GT.op2 ht1 ht2 .select (by omega) (by omega)).up (by omega) (by omega)⟩
  ·simp only[go_sem,Int.reduceEq,Int.reduceLT,decide_true,decide_false]
   refine z0p (q2r hl h1 h2 hV) hB2 hs hD2 hi2 ?_
   rintro v D3 i3 ⟨t1,rfl,ht1⟩ hB3 hD3 hi3
   simp only[go_sem,]
   rw[z1d]
   exact hR _ _ i3 (by rw[z0w hB3 hs];exact hD3) hi3 ⟨_,rfl,ht1.up (by omega) (by omega)⟩
 ·
  simp only[go_sem,Int.reduceEq,Int.reduceLT,decide_true,decide_false]
  refine z0p (hN s hs23) hB2 hs hD2 hi2 ?_
  rintro v D3 i3 ⟨a,rfl,ha⟩ hB3 hD3 hi3
  simp only[go_sem,]
  have hp:=x6e (s:=s) (a:=a)
  rw[nat] at hp
  rw[z0a hp]
  simp only[go_sem,]
  rw[z1d]
  exact hR _ _ i3 (by rw[z0w hB3 hs];exact hD3) hi3 ⟨_,rfl,(GT.num ha).up (by omega) (by omega)⟩
 ·
  simp only[go_sem,Int.reduceEq,Int.reduceLT,decide_true,decide_false]
  refine z0p (q2r hl h1 h2 hV) hB2 hs hD2 hi2 ?_
  rintro v D3 i3 ⟨t1,rfl,ht1⟩ hB3 hD3 hi3
  simp only[go_sem,]
  rw[z1d]
  exact hR _ _ i3 (by rw[z0w hB3 hs];exact hD3) hi3 ⟨_,rfl,ht1.up (by omega) (by omega)⟩
end
section
variable {l:List Int} {V:List Var}
theorem y3d {e:Nat} (hl:q6z l) (hV:V.length≤400) (he:e≤3) (hN:x2v l) (hF:q5w l V e) (hT:x0v l V e):x0v l V (e + 1):=by
 intro s h1 h2
 have hI:=k4e he hF hT
 have hA:=y3c hl hV he hN hF hT
 have hF1:=v6y hl hV he hF hT
 have h6:6 ^ e≤6 ^ 4:=Nat.pow_le_pow_right (by omega) (by omega)
 have h6':1≤6 ^ e:=Nat.pos_of_ne_zero (by simp)
 have hTB:5 * 6 ^ e≤TB s e:=y3a
 have hTBs:=j3e (s:=s) (e:=e)
 have hT2:TB 2 e=5 * 6 ^ e:=rfl
 have hT4:TB 4 e=5 * 6 ^ e:=rfl
 refine GenOk.of rfl y2l rfl rfl rfl (az:=[nat s,nat (e + 1), .sl (V.map z1h) .no]) rfl (by simp[idsL,z3h,z5v]) fun D B p g i clk T hB hs hD hi hR=> ?_
 have em:=z5o (e:=e) (by omega)
 have e0:decide (((e + 1:Nat):Int)≤0)=false:=by rw[decide_eq_false_iff_not];omega
 simp only[go_sem,w1o,hB,nat,e0]
 refine z0p w1r hB hs hD hi ?_
 rintro v D1 i1 ⟨b,rfl⟩ hB1 hD1 hi1
 simp only[go_sem,]
 refine z8n (fun hc=> ?_) (fun hc=> ?_)
 ·simp only[go_sem,]
  refine z0p (z2x hl (by decide) (by decide)) hB1 hs hD1 hi1 ?_
  rintro v D2 i2 ⟨r,rfl,hr1,hr2⟩ hB2 hD2 hi2
  simp only[go_sem,]
  refine z8n (fun hc=> ?_) (fun hc=> ?_)
  ·simp only[go_sem,]
   refine z0p (v0h hl h1 h2) hB2 hs hD2 hi2 ?_
   rintro v D3 i3 hv hB3 hD3 hi3
   simp only[go_sem,]
   obtain⟨t,hp,hg⟩:=j3d hv
   rw[z0a hp]
   simp only[go_sem,]
   rw[z1d]
   exact hR _ _ i3 (by rw[z0w hB3 hs];exact hD3) hi3 ⟨t,rfl,(hg V).up (by omega) (by omega)⟩
  ·simp only[go_sem,]
   refine z0p (q2r hl h1 h2 hV) hB2 hs hD2 hi2 ?_
   rintro v D3 i3 ⟨t,rfl,ht⟩ hB3 hD3 hi3
   simp only[go_sem,]
   rw[z1d]
   exact hR _ _ i3 (by rw[z0w hB3 hs];exact hD3) hi3 ⟨t,rfl,ht.up (by omega) (by omega)⟩
 clear hD hi hc
 obtain rfl | hs23 | rfl:s=1∨(s=2∨s=3)∨s=4:=by omega
 ·simp only[go_sem,Int.reduceEq,decide_true,decide_false]
  refine z0p hF1 hB1 hs hD1 hi1 ?_
  rintro v D3 i3 ⟨t1,rfl,ht1⟩ hB3 hD3 hi3
  simp only[go_sem,]
  rw[z1d]
  exact hR _ _ i3 (by rw[z0w hB3 hs];exact hD3) hi3 ⟨_,rfl,ht1⟩
 ·have e1:decide ((s:Int)=1)=false:=by rw[decide_eq_false_iff_not];omega
  have e2:decide ((s:Int)=4)=false:=by rw[decide_eq_false_iff_not];omega
  simp only[go_sem,e1,e2]
  refine z0p (hA s hs23) hB1 hs hD1 hi1 ?_
  rintro v D3 i3 ⟨t1,rfl,ht1⟩ hB3 hD3 hi3
  simp only[go_sem,]
  rw[z1d]
  exact hR _ _ i3 (by rw[z0w hB3 hs];exact hD3) hi3 ⟨_,rfl,ht1⟩
 ·simp only[go_sem,Int.reduceEq,decide_true,decide_false]
  refine z0p (z2x hl (by decide) (by decide)) hB1 hs hD1 hi1 ?_
  rintro v D2 i2 ⟨r,rfl,hr1,hr2⟩ hB2 hD2 hi2
  obtain⟨q,rfl⟩:∃ k:Nat,r=k:=⟨r.toNat,by omega⟩
  obtain rfl | hq | rfl | rfl:q=0∨(q=1∨q=2)∨q=3∨q=4:=by omega
  ·simp only[go_sem,Int.reduceEq,decide_true,decide_false,em]
   refine z0p (hT 2 (by omega) (by omega)) hB2 hs hD2 hi2 ?_
   rintro v D3 i3 ⟨t1,rfl,ht1⟩ hB3 hD3 hi3
   have l1:=ht1.2.1
   simp only[go_sem,z3d]
   rw[z0a (op1 (o:=20) (i:=20) rfl (by omega))]
   simp only[go_sem,]
   rw[z1d]
   exact hR _ _ i3 (by rw[z0w hB3 hs];exact hD3) hi3 ⟨_,rfl,(GT.op1 ht1 .const (by omega) (by omega)).up (by omega) (by omega)⟩
  ·rcases hq with rfl | rfl
   all_goals
    simp only[go_sem,Int.reduceEq,decide_true,decide_false,em]
    refine z0p (hT 4 (by omega) (by omega)) hB2 hs hD2 hi2 ?_
    rintro v D3 i3 ⟨t1,rfl,ht1⟩ hB3 hD3 hi3
    simp only[go_sem,em]
    refine z0p (hT 2 (by omega) (by omega)) hB3 hs hD3 hi3 ?_
    rintro v D4 i4 ⟨t2,rfl,ht2⟩ hB4 hD4 hi4
    simp only[go_sem,em]
    refine z0p (hT 2 (by omega) (by omega)) hB4 hs hD4 hi4 ?_
    rintro v D5 i5 ⟨t3,rfl,ht3⟩ hB5 hD5 hi5
    have l1:=ht1.2.1
    have l2:=ht2.2.1
    have l3:=ht3.2.1
    simp only[go_sem,z3d]
    rw[z0a (op3 (o:=19) (i:=19) rfl (by omega) (by omega) (by omega))]
    simp only[go_sem,]
    rw[z1d]
    exact hR _ _ i5 (by rw[z0w hB5 hs];exact hD5) hi5 ⟨_,rfl,(GT.op3 ht1 ht2 ht3 .store (by omega) (by omega)).up (by omega) (by omega)⟩
  ·simp only[go_sem,Int.reduceEq,decide_true,decide_false]
   refine z0p (hI 4 (by omega) (by omega)) hB2 hs hD2 hi2 ?_
   rintro v D3 i3 ⟨t1,rfl,ht1⟩ hB3 hD3 hi3
   simp only[go_sem,]
   rw[z1d]
   exact hR _ _ i3 (by rw[z0w hB3 hs];exact hD3) hi3 ⟨_,rfl,ht1⟩
  ·simp only[go_sem,Int.reduceEq,decide_true,decide_false]
   refine z0p (q2r hl h1 h2 hV) hB2 hs hD2 hi2 ?_
   rintro v D3 i3 ⟨t1,rfl,ht1⟩ hB3 hD3 hi3
   simp only[go_sem,]
   rw[z1d]
   exact hR _ _ i3 (by rw[z0w hB3 hs];exact hD3) hi3 ⟨_,rfl,ht1.up (by omega) (by omega)⟩
theorem q2s (hl:q6z l) (hV:V.length≤400) (hN:x2v l):∀ d,d≤4→x0v l V d∧q5w l V d
 | 0,_=>by
   refine⟨fun s h1 h2 h p g i clk Q hs hi hQ=> ?_,j3f hl hV⟩
   refine q4w hl hV h1 h2 h p g i clk Q hs hi fun v i' hi' hv=>hQ v i' hi' ?_
   obtain⟨t,rfl,ht⟩:=hv
   have:=y3a (s:=s) (e:=0)
   exact⟨t,rfl,ht.up (by omega) (by omega)⟩
 | d + 1,hd=>by
   obtain⟨hT,hF⟩:=q2s hl hV hN d (by omega)
   exact⟨y3d hl hV (by omega) hN hF hT,v6y hl hV (by omega) hF hT⟩
end
section
variable {l:List Int} {V:List Var}
def j3g (l:List Int) (V:List Var) (d:Nat):Prop:=GenOk l 69 [nat d, .sl (V.map z1h) .no] (x0u V 1 (d + 8) (400 * 2 ^ d - 1))
theorem k4f {s k:Nat} (hs:s=2∨s=3) (h:k < 10):u2p s [48 + k]:=by
 rcases hs with rfl | rfl
 ·exact .inl ⟨rfl,x6f h⟩
 ·exact .inr ⟨rfl, .inl (x6f h)⟩
theorem y3e {d:Nat} (hl:q6z l) (hV:V.length≤400) (hd:d≤6) (hF:q5w l V 2) (hG:∀ e,d=e + 1→j3g l V e):j3g l V d:=by
 have h2d:1≤2 ^ d:=Nat.pos_of_ne_zero (by simp)
 have hF2:11 * 6 ^ 2=396:=rfl
 refine GenOk.of rfl u7p rfl rfl rfl (az:=[nat d, .sl (V.map z1h) .no]) rfl (by simp[idsL,z3h,z5v]) fun D B p g i clk T hB hs hD hi hR=> ?_
 simp only[go_sem,u7o,hB,nat]
 refine z0p (z2x hl (by decide) (by decide)) hB hs hD hi ?_
 rintro v D2 i2 ⟨r,rfl,hr1,hr2⟩ hB2 hD2 hi2
 obtain⟨q,rfl⟩:∃ k:Nat,r=k:=⟨r.toNat,by omega⟩
 have hb0:(decide ((d:Int)≤0)=true∧d=0)∨(decide ((d:Int)≤0)=false∧∃ e,d=e + 1):=by
  rcases Nat.eq_zero_or_pos d with rfl | h
  ·exact .inl ⟨rfl,rfl⟩
  ·exact .inr ⟨by rw[decide_eq_false_iff_not];omega,d - 1,by omega⟩
 have F0:∀ (D:List AObj) (i:Nat) (L:List AObj),D.length=B→D[p]? =some (z4p g l i)→i≤l.length→T (z0n [⟨1,0,[],[],0⟩]) (D++L):=fun D i L h1 h2 h3=>hR _ _ i (by rw[z0w h1 hs];exact h2) h3 ⟨_,rfl,(GT.leaf (n:=bare 1 0) (.bool (.inl rfl)) rfl (by omega) (by omega)).up (by omega) (by omega)⟩
 obtain rfl | rfl | rfl | hq | rfl:q=0∨q=1∨q=2∨(q=3∨q=4)∨q=5:=by omega
 ·rcases hb0 with ⟨hb0,_⟩ | ⟨hb0,_⟩
  all_goals
   simp only[go_sem,hb0,Int.reduceEq,decide_true,decide_false,Bool.not_true,Bool.not_false]
   rw[z0a x6d]
   simp only[go_sem,if_true]
   rw[z1d]
   exact F0 D2 i2 _ hB2 hD2 hi2
 ·rcases hb0 with ⟨hb0,_⟩ | ⟨hb0,_⟩
  all_goals
   simp only[go_sem,hb0,Int.reduceEq,decide_true,decide_false,Bool.not_true,Bool.not_false]
   refine z0p (q2r (s:=2) hl (by omega) (by omega) hV) hB2 hs hD2 hi2 ?_
   rintro v D3 i3 ⟨t1,rfl,ht1⟩ hB3 hD3 hi3
   have l1:=ht1.2.1
   simp only[go_sem,]
   refine z0p (z2x hl (by decide) (by decide)) hB3 hs hD3 hi3 ?_
   rintro v D4 i4 ⟨r4,rfl,hr3,hr4⟩ hB4 hD4 hi4
   obtain⟨n,rfl⟩:∃ k:Nat,r4=k:=⟨r4.toNat,by omega⟩
   simp only[go_sem,]
   rw[z0a (z8i (by omega) (by omega)),z3j (by omega)]
   simp only[go_sem,]
   have hp:Pure Gam 121 [.int .i64 2, .str [48 + n]] _:=x6e (s:=2) (a:=[48 + n])
   rw[z0a hp]
   simp only[go_sem,z3d]
   rw[z0a (op2 (o:=12) (i:=12) rfl (by omega) (by simp))]
   simp only[go_sem,]
   rw[z1d]
   exact hR _ _ i4 (by rw[z0w hB4 hs];exact hD4) hi4 ⟨_,rfl,(GT.op2 ht1 ((GT.num (k4f (s:=2) (k:=n) (.inl rfl) (by omega))).up (d':=3) (m':=1) (by omega) (by omega)) (.cmp (.inl rfl) (.inl rfl)) (by omega) (by omega)).up (by omega) (by omega)⟩
 ·rcases hb0 with ⟨hb0,_⟩ | ⟨hb0,_⟩
  all_goals
   simp only[go_sem,hb0,Int.reduceEq,decide_true,decide_false,Bool.not_true,Bool.not_false]
   refine z0p (q2r (s:=2) hl (by omega) (by omega) hV) hB2 hs hD2 hi2 ?_
   rintro v D3 i3 ⟨t1,rfl,ht1⟩ hB3 hD3 hi3
   have l1:=ht1.2.1
   simp only[go_sem,]
   refine z0p (q2r (s:=2) hl (by omega) (by omega) hV) hB3 hs hD3 hi3 ?_
   rintro v D4 i4 ⟨t2,rfl,ht2⟩ hB4 hD4 hi4
   have l2:=ht2.2.1
   simp only[go_sem,]
   refine z0p (z2x hl (by decide) (by decide)) hB4 hs hD4 hi4 ?_
   rintro v D5 i5 ⟨r4,rfl,hr3,hr4⟩ hB5 hD5 hi5
   obtain⟨n,rfl⟩:∃ k:Nat,r4=k:=⟨r4.toNat,by omega⟩
   simp only[go_sem,]
   rw[z0a (z8i (by omega) (by omega)),z3j (by omega)]
   simp only[go_sem,]
   have hp:Pure Gam 121 [.int .i64 2, .str [48 + n]] _:=x6e (s:=2) (a:=[48 + n])
   rw[z0a hp]
   simp only[go_sem,z3d]
   have hadd:=GT.op2 (o:=14) ht2 ((GT.num (V:=V) (k4f (s:=2) (k:=n) (.inl rfl) (by omega))).up (d':=3) (m':=1) (by omega) (by omega)) (.add (k:=2) (by omega) (.inl rfl)) (by omega) (by omega)
   rw[z0a (op2 (o:=14) (i:=14) rfl (by omega) (by simp))]
   simp only[go_sem,z3d]
   rw[z0a (op2 (o:=11) (i:=11) rfl (by omega) (by have:=hadd.2.1;omega))]
   simp only[go_sem,]
   rw[z1d]
   exact hR _ _ i5 (by rw[z0w hB5 hs];exact hD5) hi5 ⟨_,rfl,(GT.op2 (ht1.up (d':=4) (m':=5) (by omega) (by omega)) hadd (.eq (by omega) (by omega)) (by omega) (by omega)).up (by omega) (by omega)⟩
 ·rcases hb0 with ⟨hb0,hd0⟩ | ⟨hb0,e,rfl⟩
  ·rcases hq with rfl | rfl
   all_goals
    simp only[go_sem,hb0,Int.reduceEq,decide_true,decide_false,Bool.not_true,Bool.not_false]
    rw[z0a x6d]
    simp only[go_sem,if_true]
    rw[z1d]
    exact F0 D2 i2 _ hB2 hD2 hi2
  ·have em:=z5o (e:=e) (by omega)
   have hg:=hG e rfl
   have hpow:2 ^ (e + 1)=2 * 2 ^ e:=by rw[Nat.pow_succ,Nat.mul_comm]
   have h2e:2 ^ e≤2 ^ 6:=Nat.pow_le_pow_right (by omega) (by omega)
   rcases hq with rfl | rfl
   ·simp only[go_sem,hb0,Int.reduceEq,decide_true,decide_false,Bool.not_true,Bool.not_false,em]
    refine z0p hg hB2 hs hD2 hi2 ?_
    rintro v D3 i3 ⟨t1,rfl,ht1⟩ hB3 hD3 hi3
    simp only[go_sem,em]
    refine z0p hg hB3 hs hD3 hi3 ?_
    rintro v D4 i4 ⟨t2,rfl,ht2⟩ hB4 hD4 hi4
    have l1:=ht1.2.1
    have l2:=ht2.2.1
    simp only[go_sem,z3d]
    rw[z0a (op2 (o:=7) (i:=7) rfl (by omega) (by omega))]
    simp only[go_sem,]
    rw[z1d]
    exact hR _ _ i4 (by rw[z0w hB4 hs];exact hD4) hi4 ⟨_,rfl,(GT.op2 ht1 ht2 (.andor (k:=2) (.inl rfl)) (by omega) (by omega)).up (by omega) (by omega)⟩
   ·simp only[go_sem,hb0,Int.reduceEq,decide_true,decide_false,Bool.not_true,Bool.not_false,em]
    refine z0p hg hB2 hs hD2 hi2 ?_
    rintro v D3 i3 ⟨t1,rfl,ht1⟩ hB3 hD3 hi3
    simp only[go_sem,em]
    refine z0p hg hB3 hs hD3 hi3 ?_
    rintro v D4 i4 ⟨t2,rfl,ht2⟩ hB4 hD4 hi4
    have l1:=ht1.2.1
    have l2:=ht2.2.1
    simp only[go_sem,z3d]
    rw[z0a (op2 (o:=8) (i:=8) rfl (by omega) (by omega))]
    simp only[go_sem,]
    rw[z1d]
    exact hR _ _ i4 (by rw[z0w hB4 hs];exact hD4) hi4 ⟨_,rfl,(GT.op2 ht1 ht2 (.andor (k:=2) (.inr rfl)) (by omega) (by omega)).up (by omega) (by omega)⟩
 ·rcases hb0 with ⟨hb0,_⟩ | ⟨hb0,_⟩
  all_goals
   simp only[go_sem,hb0,Int.reduceEq,decide_true,decide_false,Bool.not_true,Bool.not_false]
   refine z0p hF hB2 hs hD2 hi2 ?_
   rintro v D3 i3 ⟨t1,rfl,ht1⟩ hB3 hD3 hi3
   simp only[go_sem,]
   rw[z1d]
   exact hR _ _ i3 (by rw[z0w hB3 hs];exact hD3) hi3 ⟨_,rfl,ht1.up (by omega) (by omega)⟩
theorem x9y (hl:q6z l) (hV:V.length≤400) (hN:x2v l):∀ d,d≤6→j3g l V d
 | 0,_=>y3e hl hV (by omega) (q2s hl hV hN 2 (by omega)).2 fun e h=>by omega
 | d + 1,hd=>y3e hl hV hd (q2s hl hV hN 2 (by omega)).2 fun e h=>by
   obtain rfl:e=d:=by omega
   exact x9y hl hV hN e (by omega)
theorem y3f {s:Nat} {u:Tip} (hl:q6z l) (hV:V.length≤400) (hN:x2v l) (h1:1≤s) (h2:s≤4):GenOk l 119 [nat s, .sl (V.map z1h) u] (x0u V s 5 66):=by
 have hT:=(q2s hl hV hN 1 (by omega)).1 s h1 h2
 have hTB:=y2z (s:=s) (e:=1)
 refine GenOk.of rfl u1x rfl rfl rfl (az:=[nat s, .sl (V.map z1h) .no]) rfl (by simp[idsL,z3h,z5v]) fun D B p g i clk T hB hs hD hi hR=> ?_
 simp only[go_sem,y2g,hB,nat]
 refine z0p (z2x hl (by decide) (by decide)) hB hs hD hi ?_
 rintro v D2 i2 ⟨r,rfl,hr1,hr2⟩ hB2 hD2 hi2
 simp only[go_sem,]
 refine z8n (fun hc=> ?_) (fun hc=> ?_)
 ·simp only[go_sem,]
  refine z0p hT hB2 hs hD2 hi2 ?_
  rintro v D3 i3 ⟨t1,rfl,ht1⟩ hB3 hD3 hi3
  simp only[go_sem,]
  rw[z1d]
  exact hR _ _ i3 (by rw[z0w hB3 hs];exact hD3) hi3 ⟨_,rfl,ht1.up (by omega) (by omega)⟩
 ·simp only[go_sem,]
  refine z0p (q2r hl h1 h2 hV) hB2 hs hD2 hi2 ?_
  rintro v D3 i3 ⟨t1,rfl,ht1⟩ hB3 hD3 hi3
  simp only[go_sem,]
  rw[z1d]
  exact hR _ _ i3 (by rw[z0w hB3 hs];exact hD3) hi3 ⟨_,rfl,ht1.up (by omega) (by omega)⟩
end
section
variable {l:List Int} {V:List Var} {ps:List Func}
def x6i (ps:List Func):Prop:=0 < ps.length∧ps.length≤5∧∀ f∈ps,f.args.length≤3∧∀ s∈f.args,1≤s∧s≤4
def AppOk (ps:List Func) (V:List Var) (a:App):Prop:=∃ f∈ps,a.pred=f.name∧a.args.length=f.args.length∧∀ q∈f.args.zip a.args,GT V q.1 5 66 q.2
theorem z8o {l:List Func} {i:Nat} {h:List AObj} {t:Tip} {k:IntKind} (hi:i < l.length):z1p h 3 (.sl (l.map z0y) t) (.int k (i:Int))=some (.iptr [.str l[i].name, .sl (l[i].args.map nat) .no,nat l[i].result] 0,h):=z2d hi rfl rfl
theorem x0w {l:List Nat} {i:Nat} {h:List AObj} {t:Tip} {k:IntKind} (hi:i < l.length):z1p h 1 (.sl (l.map nat) t) (.int k (i:Int))=some (.iptr [nat l[i]] 0,h):=z2d hi rfl rfl
theorem k4g {ps:List Func}:(AV.sl (ps.map z0y) .no).ids=[]:=k3t z4i
theorem j5s {α β:Type} {y:β}:∀ {ys:List β} {xs:List α} (h:ys.length < xs.length),xs.zip (ys++[y])=xs.zip ys++[(xs[ys.length],y)]
 | [],x::xs,_=>by simp
 | z::ys,x::xs,h=>by
   have:=j5s (y:=y) (ys:=ys) (xs:=xs) (by simpa using h)
   simp[this]
theorem y3g {u w:Tip} (hl:q6z l) (hV:V.length≤400) (hN:x2v l) (hP:x6i ps):GenOk l 68 [.sl (ps.map z0y) u, .sl (V.map z1h) w] (fun v=>∃ a,v=z3u a∧AppOk ps V a):=by
 obtain⟨hp0,hp5,hpf⟩:=hP
 refine GenOk.of rfl g1w rfl rfl rfl (az:=[.sl (ps.map z0y) .no, .sl (V.map z1h) .no]) rfl (by simp[idsL,k4g,z5v]) fun D B p g i clk T hB hs hD hi hR=> ?_
 simp only[go_sem,u7n,hB,List.length_map]
 refine z0p (z2x hl (by omega) (by omega)) hB hs hD hi ?_
 rintro v D2 i2 ⟨r,rfl,hr1,hr2⟩ hB2 hD2 hi2
 obtain⟨k,rfl⟩:∃ k:Nat,r=k:=⟨r.toNat,by omega⟩
 have hk:k < ps.length:=by omega
 have hf:=hpf ps[k] (List.getElem_mem hk)
 generalize hfk:ps[k]=f at hf
 have hmem:f∈ps:=hfk ▸ List.getElem_mem hk
 simp only[go_sem,hB2,z8o hk,hfk,nat]
 refine z1f (fun m q=>∃ (j:Nat) (acc:List Term) (t:Tip) (D:List AObj) (i g0 g1 g2:Nat) (o3 o4:AObj),j≤f.args.length∧m=f.args.length - j∧acc.length=j∧(∀ q∈f.args.zip acc,GT V q.1 5 66 q.2)∧D.length=B∧D[p]? =some (z4p g l i)∧i≤l.length∧
  q.ts 0= .ptr p g 0 0∧q.ts 2= .sl (V.map z1h) .no∧q.ts 6= .ptr (B + 0) g0 0 0∧q.ts 7= .ptr (B + 1) g1 0 0∧q.ts 8= .ptr (B + 2) g2 0 0∧q.ts 9= .int .i64 j∧
  q.h=D++[.blk g0 [.agg [.str [], .sl [] .nil]] false false 0, .blk g1 [.agg [.str f.name, .sl (f.args.map nat) .no, .int .i64 (f.result:Int)]] false false 0, .blk g2 [.agg [.str f.name, .sl (acc.map z0n) t]] false false 0,o3,o4]∧z9p B 4 o4 t 1) f.args.length ?_ ?_
 ·exact⟨0,[], .nil,D2,i2,_,_,_,_,_,by simp,rfl,rfl,by simp,hB2,hD2,hi2,rfl,rfl,rfl,rfl,rfl,rfl,rfl, .inl rfl⟩
 clear hB2 hD2 hi2 hB hD hi
 rintro m ⟨ts,h,clk⟩ P ⟨j,acc,t,D,i,g0,g1,g2,o3,o4,hj,rfl,hal,hacc,hB,hD,hi,q0,q2,q6,q7,q8,q9,rfl,ht⟩ hn he hr
 dsimp only at q0 q2 q6 q7 q8 q9
 simp only[go_sem,q0,q2,q6,q7,q8,q9,hB,List.length_map,w1l]
 refine z8n (fun hb=> ?_) (fun hb=> ?_)
 ·have hlt:j < f.args.length:=by simp at hb;omega
  have hsj:=hf.2 f.args[j] (List.getElem_mem hlt)
  have e1:IntKind.i64.wrap ((j:Int) + 1)=((j + 1:Nat):Int):=z0c (by omega) (by omega)
  simp only[go_sem,q0,q2,q6,q7,q8,q9,hB,z1b,x0w hlt]
  refine z0p (y3f hl hV hN hsj.1 hsj.2) hB hs hD hi ?_
  rintro v D1 i1 ⟨t1,rfl,ht1⟩ hB1 hD1 hi1
  simp only[go_sem,q0,q2,q6,q7,q8,q9,hB1,z3d]
  rw[show [z0n t1]=[t1].map z0n from rfl,z0s hB1 rfl ht z4v z4v (by simp only[List.length_map,List.length_singleton];omega)]
  have happ:acc.map z0n++[z0n t1]=(acc++[t1]).map z0n:=by simp
  simp only[go_sem,q0,q2,q6,q7,q8,q9,hB1,e1,happ]
  refine⟨by simp[z1e,apart,z0l,z0z,z1i,AOp.isCall,hB,z3h,z0d];omega, ?_⟩
  refine hn (f.args.length - (j + 1)) _ (by omega) ⟨j + 1,acc++[t1],_,D1,i1,g0,g1,g2,_,_,hlt,rfl,by simp[hal], ?_,hB1,hD1,hi1,q0,q2,q6,q7,q8,rfl,rfl, .inr (.inr ⟨_,rfl,rfl⟩)⟩
  subst hal
  rw[j5s hlt]
  intro q hq
  rw[List.mem_append,List.mem_singleton] at hq
  rcases hq with hq | rfl
  ·exact hacc q hq
  ·exact ht1
 ·have hjf:j=f.args.length:=by simp at hb;omega
  simp only[go_sem,q0,q2,q6,q7,q8,q9,hB]
  refine he _ _ ?_
  simp only[go_sem,q0,q2,q6,q7,q8,q9,hB]
  have hid:(AV.agg [.str f.name, .sl (acc.map z0n) t]).cv.ids=[]:=z6d ⟨f.name,acc⟩
  rw[z2k rfl hid]
  exact hR _ _ i (by rw[z0w hB hs];exact hD) hi ⟨⟨f.name,acc⟩,rfl,f,hmem,rfl,by rw[hal,hjf],hacc⟩
end
end Go.Proofs.YtkollgjffkdliaaGreatDoor.Am
