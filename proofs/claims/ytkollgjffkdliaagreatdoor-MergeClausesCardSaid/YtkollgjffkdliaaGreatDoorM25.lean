/- Walking: small values and variables Walking: terms and formulas are generated Walking: terms and formulas are generated Walking: terms and formulas are generated Walking: terms and formulas are genera -/
import Derived.Test.YtkollgjffkdliaaGreatDoorM24
open Bool renaming not_false → j5,not_true → z7
open Int renaming natAbs_natCast → m8,reduceEq → z8,reduceLT → d9
open List renaming getElem_mem → j9,length_cons → u6,length_map → z6,length_singleton → w0,map_append → v5,map_cons → k8,map_nil → w7,mem_append → j6,mem_cons_of_mem → u0,mem_cons_self → v9,mem_singleton → u7,replicate → j1,take_succ_eq_append_getElem → w8
open Nat renaming le_refl → j8,mul_comm → m6,mul_le_mul_right → b9,pow_le_pow_right → n7,pow_succ → p8
open Option renaming map_some → k6
open Nat renaming reduceBEq → z0,reduceAdd → z1,reduceLeDiff → z2,reduceSub → z3
set_option linter.all false
namespace Go.Proofs.YtkollgjffkdliaaGreatDoor.Am
open Go
set_option maxRecDepth 100000
theorem Pure.tab {f:Nat} {args:List AV} {tab:List (List AV×AV)} {v:AV} (hext:Gam.ext f=some (z8l tab)) (hobs:z3x args=[]) (hv:z8l tab (cvL args)=some v):Pure Gam f args v:=by
 intro h clk
 constructor
 ·refine⟨0, ?_⟩
  unfold z5c z0o
  simp only[hext,z1p hobs,z4s hobs,List.isEmpty_nil,if_true,hv,k6]
 ·unfold z0y
  simp only[hext,hobs,w7,List.append_nil]
def value (s:Nat) (b:Bool) (a:List Nat) (ks vs:List AV):AV:= .agg [nat s, .bool b, .str a, .sl ks .no, .sl vs .no]
def x9s (s:Nat) (v:AV):Prop:=∃ t,z8l z2t [v]=some (.tup [z0k t, .int .i64 0])∧(∀ V,GT V s 3 5 t)∧v.obs=[]∧v.cv=v∧v.ids=[]∧v.def? =true∧v.cells.length=5∧v.cells.all AV.one=true
theorem z3k {k:Nat} (h:k < 10):z0i (k:Int)=[48 + k]:=by rw[z0i,if_neg (by omega),m8,z7c h]
theorem j9p (b:Bool):x9s 1 (value 1 b [] [] []):=by
 cases b
 ·exact⟨[bare 2 0],rfl,fun V=>(GT.leaf (.bool (.inr rfl)) rfl (by omega) (by omega)).up (by omega) (by omega),rfl,rfl,rfl,rfl,rfl,rfl⟩
 ·exact⟨[bare 1 0],rfl,fun V=>(GT.leaf (.bool (.inl rfl)) rfl (by omega) (by omega)).up (by omega) (by omega),rfl,rfl,rfl,rfl,rfl,rfl⟩
theorem x9t {k:Nat} (h:k < 10) (h0:0 < k):z0i (-(k:Int))=[45,48 + k]:=by
 rw[z0i,if_pos (by omega),show (-(k:Int)).natAbs=k by omega,z7c h]
theorem k3x {s:Nat} (hs:s=2∨s=3) {z:Int} (h1: -2≤z) (h2:z≤3):x9s s (value s false (z0i z) [] []):=by
 have hi:IntS (z0i z):=q6v (by omega)
 refine⟨[⟨3,s,[],z0i z,0⟩], ?_,fun V=> ?_,rfl,rfl,rfl,rfl,rfl,rfl⟩
 ·have:z0i z=[45,50]∧z= -2∨z0i z=[45,49]∧z= -1∨z0i z=[48]∧z=0∨z0i z=[49]∧z=1∨z0i z=[50]∧z=2∨z0i z=[51]∧z=3:=by
   rcases (by omega:z= -2∨z= -1∨z=0∨z=1∨z=2∨z=3) with rfl | rfl | rfl | rfl | rfl | rfl
   ·exact .inl ⟨x9t (k:=2) (by omega) (by omega),rfl⟩
   ·exact .inr (.inl ⟨x9t (k:=1) (by omega) (by omega),rfl⟩)
   ·exact .inr (.inr (.inl ⟨z3k (k:=0) (by omega),rfl⟩))
   ·exact .inr (.inr (.inr (.inl ⟨z3k (k:=1) (by omega),rfl⟩)))
   ·exact .inr (.inr (.inr (.inr (.inl ⟨z3k (k:=2) (by omega),rfl⟩))))
   ·exact .inr (.inr (.inr (.inr (.inr ⟨z3k (k:=3) (by omega),rfl⟩))))
  rcases hs with rfl | rfl <;> rcases this with ⟨e,_⟩ | ⟨e,_⟩ | ⟨e,_⟩ | ⟨e,_⟩ | ⟨e,_⟩ | ⟨e,_⟩ <;> rw[e] <;> rfl
 ·rcases hs with rfl | rfl
  ·exact (GT.leaf (.int hi) rfl (by omega) (by omega)).up (by omega) (by omega)
  ·exact (GT.leaf (.real (.inl hi)) rfl (by omega) (by omega)).up (by omega) (by omega)
def u1j (k:Nat):Term:=[bare 20 1,⟨3,2,[],[48 + k],0⟩]
def u4y (k i j:Nat):Term:=[bare 19 3,bare 20 1,⟨3,2,[],[48 + k],0⟩,⟨3,2,[],[48 + i],0⟩,⟨3,2,[],[48 + j],0⟩]
theorem k3y {V:List Var} {k d:Nat} (h:k < 10):WF V [2] (d + 1) [⟨3,2,[],[48 + k],0⟩]:=WF.one .nil (.int (x6c h)) rfl
theorem k3z {V:List Var} {k d:Nat} (h:k < 10):WF V [4] (d + 2) (u1j k):=WF.one (k3y h) .const rfl
theorem w2x {V:List Var} {k:Nat} (h:k < 10):GT V 4 3 5 (u1j k):=⟨k3z h,by simp[u1j],by omega,by omega⟩
theorem w2y {V:List Var} {k i j:Nat} (h:k < 10) (hi:i < 10) (hj:j < 10):GT V 4 3 5 (u4y k i j):=by
 refine⟨?_,by simp[u4y],by omega,by omega⟩
 have:=((k3z (V:=V) (d:=0) h).append (k3y (d:=1) hi)).append (k3y (d:=1) hj)
 exact WF.one this .store rfl
def k9o (k i j:Nat):AV:=if j=k then value 4 false [48 + k] [] [] else value 4 false [48 + k] [.str [48 + i]] [.str [48 + j]]
theorem x9u {k i j:Nat} (hk:k < 3) (hi:i < 3) (hj:j < 3):z8l z6g [value 4 false [48 + k] [] [], .str [48 + i], .str [48 + j]]=some (.tup [k9o k i j, .int .i64 0]):=by
 have hk:k=0∨k=1∨k=2:=by omega
 have hi:i=0∨i=1∨i=2:=by omega
 have hj:j=0∨j=1∨j=2:=by omega
 rcases hk with rfl | rfl | rfl <;> rcases hi with rfl | rfl | rfl <;> rcases hj with rfl | rfl | rfl <;> rfl
theorem x9v {k i j:Nat} (hk:k < 3) (hi:i < 3) (hj:j < 3):x9s 4 (k9o k i j):=by
 refine⟨if j=k then u1j k else u4y k i j, ?_,fun V=> ?_, ?_⟩
 ·have hk:k=0∨k=1∨k=2:=by omega
  have hi:i=0∨i=1∨i=2:=by omega
  have hj:j=0∨j=1∨j=2:=by omega
  rcases hk with rfl | rfl | rfl <;> rcases hi with rfl | rfl | rfl <;> rcases hj with rfl | rfl | rfl <;> rfl
 ·split
  ·exact w2x (by omega)
  ·exact w2y (by omega) (by omega) (by omega)
 ·unfold k9o
  split <;> exact⟨rfl,rfl,rfl,rfl,rfl,rfl⟩
theorem w2z {l:List Int} {s:Nat} (hl:q4y l) (h1:1≤s) (h2:s≤4):GenOk l 16 [nat s] fun v=>x9s s v:=by
 refine GenOk.of rfl u9n rfl rfl rfl rfl rfl fun D B p g i clk T hB hs hD hi hT=> ?_
 obtain rfl | hs23 | rfl:s=1∨(s=2∨s=3)∨s=4:=by omega
 ·simp only[go_sem,w2a,nat,hB,z8,decide_true,decide_false]
  refine z0s (z3u hl (by decide) (by decide)) hB hs hD hi ?_
  rintro v D' i' ⟨r,rfl,hr1,hr2⟩ hB' hD' hi'
  simp only[go_sem,hB',z8,decide_true,decide_false]
  rw[z2n rfl rfl]
  exact hT _ _ i' (by rw[z0w hB' hs];exact hD') hi' (j9p _)
 ·have e1:decide ((s:Int)=1)=false:=by simp;omega
  have e2:decide ((s:Int)=4)=false:=by simp;omega
  simp only[go_sem,w2a,nat,hB,z8,e1,e2]
  refine z0s (z3u hl (by decide) (by decide)) hB hs hD hi ?_
  rintro v D' i' ⟨r,rfl,hr1,hr2⟩ hB' hD' hi'
  have e3:IntKind.i64.wrap (r - 2)=r - 2:=z0e (by omega) (by omega)
  simp only[go_sem,hB',e3]
  rw[z0a (z8i (by omega) (by omega))]
  simp only[go_sem,hB']
  rw[z2n rfl rfl]
  exact hT _ _ i' (by rw[z0w hB' hs];exact hD') hi' (k3x hs23 (by omega) (by omega))
 ·simp only[go_sem,w2a,nat,hB,z8,decide_true,decide_false]
  refine z0s (z3u hl (by decide) (by decide)) hB hs hD hi ?_
  rintro v D1 i1 ⟨r1,rfl,hr1,hr2⟩ hB1 hD1 hi1
  obtain⟨k,rfl⟩:∃ k:Nat,r1=k:=⟨r1.toNat,by omega⟩
  simp only[go_sem,hB1]
  rw[z0a (z8i (by omega) (by omega)),z3k (by omega)]
  simp only[go_sem,hB1,z1a]
  refine z0s (z3u hl (by decide) (by decide)) hB1 hs hD1 hi1 ?_
  rintro v D2 i2 ⟨r2,rfl,hr3,hr4⟩ hB2 hD2 hi2
  obtain⟨a,rfl⟩:∃ k:Nat,r2=k:=⟨r2.toNat,by omega⟩
  simp only[go_sem,hB2]
  rw[z0a (z8i (by omega) (by omega)),z3k (by omega)]
  simp only[go_sem,hB2]
  refine z0s (z3u hl (by decide) (by decide)) hB2 hs hD2 hi2 ?_
  rintro v D3 i3 ⟨r3,rfl,hr5,hr6⟩ hB3 hD3 hi3
  obtain⟨b,rfl⟩:∃ k:Nat,r3=k:=⟨r3.toNat,by omega⟩
  simp only[go_sem,hB3]
  rw[z0a (z8i (by omega) (by omega)),z3k (by omega)]
  simp only[go_sem,hB3]
  obtain⟨ks,vs,hv⟩:∃ ks vs,k9o k a b=value 4 false [48 + k] ks vs:=by
   unfold k9o
   split <;> exact⟨_,_,rfl⟩
  have hsm:=x9v (k:=k) (i:=a) (j:=b) (by omega) (by omega) (by omega)
  have htab:=x9u (k:=k) (i:=a) (j:=b) (by omega) (by omega) (by omega)
  rw[hv] at hsm htab
  have hp:Pure Gam 49 [.agg [.int .i64 4, .bool false, .str [48 + k], .sl [] .nil, .sl [] .nil], .str [48 + a], .str [48 + b]] _:=Pure.tab (tab:=z6g) rfl rfl htab
  rw[z0a hp]
  simp only[go_sem,hB3,value,nat]
  refine⟨by simp[z1b,apart,z0j,z0z,z1d,AOp.isCall,hB1];omega, ?_⟩
  obtain⟨t,q1,q2,q3,q4,q5,q6⟩:=hsm
  rw[z2n (v:= .agg [.int .i64 4, .bool false, .str [48 + k], .sl ks .no, .sl vs .no]) rfl q5]
  exact hT _ _ i3 (by rw[z0w hB3 hs];exact hD3) hi3 ⟨t,q1,q2,q3,q4,q5,q6⟩
theorem j2l {s:Nat} {v:AV} (hv:x9s s v):∃ t,Pure Gam 195 [v] (.tup [z0k t, .int .i64 0])∧∀ V,GT V s 3 5 t:=by
 obtain⟨t,q1,q2,q3,q4,q5,q6⟩:=hv
 refine⟨t,Pure.tab (tab:=z2t) rfl (by simp[z3x,q3]) (by simp only[cvL,q4];exact q1),q2⟩
def x0x (V:List Var) (s d m:Nat) (v:AV):Prop:=∃ t,v=z0k t∧GT V s d m t
theorem z7o {l:List Var} {i:Nat} {h:List AObj} {t:Tip} {k:IntKind} (hi:i < l.length):z1m h 2 (.sl (l.map z1k) t) (.int k (i:Int))=some (.iptr [.str l[i].name,nat l[i].sort] 0,h):=z3a hi rfl rfl
theorem q2e {l:List Int} {s:Nat} {V:List Var} {u:Tip} (hl:q4y l) (h1:1≤s) (h2:s≤4) (hV:V.length≤400):GenOk l 120 [nat s, .sl (V.map z1k) u] (x0x V s 3 5):=by
 refine GenOk.of rfl u4k rfl rfl rfl (az:=[nat s, .sl (V.map z1k) .no]) rfl (by simp[idsL,z3j,AV.ids,z0c z2l]) fun D B p g i clk T hB hs hD hi hT=> ?_
 simp only[go_sem,y3m,hB]
 refine z1t (fun m q=>∃ (j:Nat) (acc:List Var) (t:Tip) (a b c d:AObj),j≤V.length∧m=V.length - j∧acc.length≤j∧(∀ v∈acc,v∈V∧v.sort=s)∧q.ts 0= .ptr p g 0 0∧q.ts 1=nat s∧q.ts 2= .sl (V.map z1k) .no∧q.ts 7= .sl (acc.map z1k) t∧q.ts 8= .int .i64 j∧q.h=D++[a,b,c,d]∧z8x B 1 b t 2) V.length ?_ ?_
 ·exact⟨0,[], .nil,_,_,_,_,by simp,rfl,by simp,by simp,rfl,rfl,rfl,rfl,rfl,rfl, .inl rfl⟩
 rintro m ⟨ts,h,clk⟩ P ⟨j,acc,t,a,b,c,d,hj,rfl,hal,hacc,g0,g1,g2,g7,g8,rfl,ht⟩ hn he hr
 dsimp only at g0 g1 g2 g7 g8
 simp only[go_sem,g0,g1,g2,g7,g8,z6,k3g]
 refine z8p (fun hb=> ?_) (fun hb=> ?_)
 ·have hlt:j < V.length:=by simp at hb;omega
  simp only[go_sem,g0,g1,g2,g7,g8,z7o hlt,nat]
  have e1:IntKind.i64.wrap ((j:Int) + 1)=((j + 1:Nat):Int):=z0e (by omega) (by omega)
  refine z8p (fun hc=> ?_) (fun hc=> ?_)
  ·have hsort:V[j].sort=s:=by simp at hc;omega
   simp only[go_sem,g0,g1,g2,g7,g8,z7o hlt,nat]
   rw[show [AV.agg [.str V[j].name, .int .i64 (V[j].sort:Int)]]=[V[j]].map z1k from rfl,z0q hB rfl ht z3w z3w (by simp only[z6,w0];omega)]
   simp only[go_sem,g0,g1,g2,g7,g8,e1]
   refine hn (V.length - (j + 1)) _ (by omega) ⟨j + 1,acc++[V[j]],_,_,_,_,_,hlt,rfl,by simp;omega, ?_,g0,g1,g2, ?_,rfl,rfl, .inr (.inr ⟨_,rfl,rfl⟩)⟩
   ·intro v hv
    rw[j6,u7] at hv
    rcases hv with hv | rfl
    ·exact hacc v hv
    ·exact⟨j9 hlt,hsort⟩
   ·simp only[z0b,z0,cond_true,cond_false,v5,k8,w7]
  ·simp only[go_sem,g0,g1,g2,g7,g8,e1]
   exact hn (V.length - (j + 1)) _ (by omega) ⟨j + 1,acc,t,_,_,_,_,hlt,rfl,by omega,hacc,g0,g1,g2,g7,rfl,rfl,ht⟩
 ·simp only[go_sem,]
  refine he _ _ ?_
  simp only[go_sem,g0,g1,g2,g7,g8,z6]
  refine z8p (fun hc=> ?_) (fun hc=> ?_)
  ·simp only[go_sem,g0,g1,g2,g7,g8]
   refine z0s (w2z hl h1 h2) hB hs hD hi ?_
   rintro v D1 i1 hv hB1 hD1 hi1
   simp only[go_sem,g0,g1,g2,g7,g8]
   obtain⟨t,hp,hg⟩:=j2l hv
   rw[z0a hp]
   simp only[go_sem,g0,g1,g2,g7,g8]
   rw[z1c]
   exact hT _ _ i1 (by rw[z0w hB1 hs];exact hD1) hi1 ⟨t,rfl,hg V⟩
  ·have hlen:acc.length≠0:=by simpa using hc
   simp only[go_sem,g0,g1,g2,g7,g8,z6]
   refine z0s (z3u hl (by omega) (by omega)) hB hs hD hi ?_
   rintro v D1 i1 ⟨r,rfl,hr1,hr2⟩ hB1 hD1 hi1
   obtain⟨k,rfl⟩:∃ k:Nat,r=k:=⟨r.toNat,by omega⟩
   have hk:k < acc.length:=by omega
   simp only[go_sem,g0,g1,g2,g7,g8,hB1,z1a,z7o hk,nat]
   obtain⟨hm,hsrt⟩:=hacc acc[k] (j9 hk)
   have hn:NodeOk V ⟨4,s,acc[k].name,[],0⟩ [] s []:=by
    have:=NodeOk.var (ks:=[]) hm
    rw[hsrt] at this
    exact this
   show RV _ (some [.sl (List.map eNode [⟨4,s,acc[k].name,[],0⟩]) .full]) _ _
   rw[k3t]
   exact hT _ _ i1 (by rw[z0w hB1 hs];exact hD1) hi1 ⟨_,rfl,(GT.leaf hn rfl h1 h2).up (by omega) (by omega)⟩
section
theorem x6d {o:Nat} {l:List Term} {u:Tip} (hl:l.length≤2 ^ 20) (hf:l.flatten.length≤2 ^ 30):Pure Gam 95 [nat o, .sl (l.map z0k) u] (z0k (bare o l.length::l.flatten)):=by
 refine Pure.of rfl u4j rfl rfl rfl (az:=[nat o, .sl (l.map z0k) .no]) rfl (by simp[idsL,z3j,AV.ids,z0c z2c]) fun D B clk T hB hT=> ?_
 have hp:Pure Gam 155 [.agg [.int .i64 o, .int .i64 0, .str [], .str [], .int .i64 0], .sl (l.map z0k) .no] (z0k (bare o l.length::l.flatten)):=k3u (n:=bare o 0) hl hf
 simp only[go_sem,y3l,nat,hB,z1a]
 rw[z0a hp]
 simp only[go_sem,]
 rw[z1c]
 exact hT _
theorem opn {o:Nat} {i:Int} {l:List Term} {u:Tip} (hi:i=o) (hl:l.length≤2 ^ 20) (hf:l.flatten.length≤2 ^ 30):Pure Gam 95 [.int .i64 i, .sl (l.map z0k) u] (z0k (bare o l.length::l.flatten)):=by
 subst hi
 exact x6d hl hf
theorem op1 {o:Nat} {i:Int} {a:Term} (hi:i=o) (ha:a.length≤2 ^ 20):Pure Gam 95 [.int .i64 i, .sl [z0k a] .full] (z0k (bare o 1::a)):=by
 subst hi
 have:=x6d (o:=o) (l:=[a]) (u:= .full) (by simp) (by simp;omega)
 simpa [nat] using this
theorem op2 {o:Nat} {i:Int} {a b:Term} (hi:i=o) (ha:a.length≤2 ^ 20) (hb:b.length≤2 ^ 20):Pure Gam 95 [.int .i64 i, .sl [z0k a,z0k b] .full] (z0k (bare o 2::(a++b))):=by
 subst hi
 have:=x6d (o:=o) (l:=[a,b]) (u:= .full) (by simp) (by simp;omega)
 simpa [nat] using this
theorem op3 {o:Nat} {i:Int} {a b c:Term} (hi:i=o) (ha:a.length≤2 ^ 20) (hb:b.length≤2 ^ 20) (hc:c.length≤2 ^ 20):Pure Gam 95 [.int .i64 i, .sl [z0k a,z0k b,z0k c] .full] (z0k (bare o 3::(a++(b++c)))):=by
 subst hi
 have:=x6d (o:=o) (l:=[a,b,c]) (u:= .full) (by simp) (by simp;omega)
 simpa [nat] using this
section
variable {V:List Var}
theorem GT.op1 {o s s1 d m:Nat} {a:Term} (ha:GT V s1 d m a) (hn:NodeOk V (bare o 1) [s1] s a) (h1:1≤s) (h2:s≤4):GT V s (d + 1) (m + 1) (bare o 1::a):=
 ⟨WF.one ha.1 hn rfl,by have:=ha.2.1;simp;omega,h1,h2⟩
theorem GT.op2 {o s s1 s2 d m1 m2:Nat} {a b:Term} (ha:GT V s1 d m1 a) (hb:GT V s2 d m2 b) (hn:NodeOk V (bare o 2) [s1,s2] s (a++b)) (h1:1≤s) (h2:s≤4):GT V s (d + 1) (m1 + m2 + 1) (bare o 2::(a++b)):=
 ⟨WF.one (ha.1.append hb.1) hn rfl,by have:=ha.2.1;have:=hb.2.1;simp;omega,h1,h2⟩
theorem GT.op3 {o s s1 s2 s3 d m1 m2 m3:Nat} {a b c:Term} (ha:GT V s1 d m1 a) (hb:GT V s2 d m2 b) (hc:GT V s3 d m3 c) (hn:NodeOk V (bare o 3) [s1,s2,s3] s (a++(b++c))) (h1:1≤s) (h2:s≤4):GT V s (d + 1) (m1 + m2 + m3 + 1) (bare o 3::(a++(b++c))):=
 ⟨WF.one (ha.1.append (hb.1.append hc.1)) hn rfl,by have:=ha.2.1;have:=hb.2.1;have:=hc.2.1;simp;omega,h1,h2⟩
end
def TB (s d:Nat):Nat:=if s=1 then 11 * 6 ^ d else 5 * 6 ^ d
theorem bs5 {h:List AObj}:bsV h (.int .i64 0) 5 [0,1,2,3,4] [.int .i64 2, .int .i64 2, .int .i64 3, .int .i64 4, .int .i64 1]=some (.sl [.int .i64 2, .int .i64 2, .int .i64 3, .int .i64 4, .int .i64 1] .full,h):=(rfl)
theorem g4s {r:Nat} {h:List AObj} (hr:r < 5):∃ s:Nat,1≤s∧s≤4∧z1m h 1 (.sl [.int .i64 2, .int .i64 2, .int .i64 3, .int .i64 4, .int .i64 1] .full) (.int .i64 (r:Int))=some (.iptr [.int .i64 (s:Int)] 0,h):=by
 obtain rfl | rfl | rfl | rfl | rfl:r=0∨r=1∨r=2∨r=3∨r=4:=by omega
 ·exact⟨2,by omega,by omega,rfl⟩
 ·exact⟨2,by omega,by omega,rfl⟩
 ·exact⟨3,by omega,by omega,rfl⟩
 ·exact⟨4,by omega,by omega,rfl⟩
 ·exact⟨1,by omega,by omega,rfl⟩
variable {l:List Int} {V:List Var}
theorem z5x:(AV.sl (V.map z1k) .no).ids=[]:=k3q z2l
theorem k4a {d k m:Nat} {u:Tip} (hl:q4y l) (hV:V.length≤400) (hk:3≤k) (hm:5≤m) (hm2:m≤2 ^ 18) (hT:∀ s,2≤s→s≤4→GenOk l 154 [nat s,nat d, .sl (V.map z1k) .no] (x0x V s k m)):GenOk l 94 [nat d, .sl (V.map z1k) u] (x0x V 1 (k + 1) (2 * m + 1)):=by
 refine GenOk.of rfl u4n rfl rfl rfl (az:=[nat d, .sl (V.map z1k) .no]) rfl (by simp[idsL,z3j,z5x]) fun D B p g i clk T hB hs hD hi hR=> ?_
 simp only[go_sem,y3q,hB,nat,z1a,bs5]
 refine z0s (z3u hl (by decide) (by decide)) hB hs hD hi ?_
 rintro v D1 i1 ⟨r,rfl,hr1,hr2⟩ hB1 hD1 hi1
 obtain⟨q,rfl⟩:∃ k:Nat,r=k:=⟨r.toNat,by omega⟩
 obtain⟨s,hs1,hs4,hidx⟩:=g4s (r:=q) (h:=D1++[.dead, .dead]) (by omega)
 simp only[go_sem,hB1,hidx]
 refine z8p (fun hb=> ?_) (fun hb=> ?_)
 ·have hs1':s=1:=by simp at hb;omega
  subst hs1'
  simp only[go_sem,hB1]
  refine z0s (z3u hl (by decide) (by decide)) hB1 hs hD1 hi1 ?_
  rintro v D2 i2 ⟨r,rfl,hr3,hr4⟩ hB2 hD2 hi2
  simp only[go_sem,hB2]
  refine z8p (fun hc=> ?_) (fun hc=> ?_)
  ·simp only[go_sem,hB2]
   refine z0s (z3u hl (by decide) (by decide)) hB2 hs hD2 hi2 ?_
   rintro v D3 i3 ⟨r3,rfl,hr5,hr6⟩ hB3 hD3 hi3
   simp only[go_sem,hB3]
   rw[z0a x6a]
   simp only[go_sem,hB3]
   rw[z1c]
   refine hR _ _ i3 (by rw[z0w hB3 hs];exact hD3) hi3 ⟨_,rfl, ?_⟩
   refine (GT.leaf (n:=bare (if decide (r3=1)=true then 1 else 2) 0) (.bool ?_) rfl (by omega) (by omega)).up (by omega) (by omega)
   split <;> simp
  ·simp only[go_sem,hB2]
   refine z0s (q2e (s:=1) hl (by omega) (by omega) hV) hB2 hs hD2 hi2 ?_
   rintro v D3 i3 ⟨t,rfl,ht⟩ hB3 hD3 hi3
   simp only[go_sem,hB3]
   rw[z1c]
   exact hR _ _ i3 (by rw[z0w hB3 hs];exact hD3) hi3 ⟨_,rfl,ht.up (by omega) (by omega)⟩
 ·have hs2:2≤s:=by simp at hb;omega
  have fin:∀ (o:Nat) (ts:Tmps) (clk:Nat) (D2:List AObj) (i2:Nat) (a b:AObj),(o=11∨(s≠4∧(o=12∨o=13)))→D2.length=B→D2[p]? =some (z3d g l i2)→i2≤l.length→ts 8= .int .i64 (o:Int)→ts 0= .ptr p g 0 0→ts 7= .int .i64 (s:Int)→ts 1= .int .i64 (d:Int)→ts 2= .sl (V.map z1k) .no→
    K Gam B (.seq (.region 14 [⟨some 33, .move (.tmp 8),none⟩,⟨some 34, .move (.tmp 0),none⟩,⟨some 35, .move (.tmp 7),none⟩,⟨some 36, .move (.tmp 1),none⟩,⟨some 37, .move (.tmp 2),none⟩,⟨some 38, .call 154 [.tmp 34, .tmp 35, .tmp 36, .tmp 37],none⟩,⟨some 39, .move (.tmp 0),none⟩,⟨some 40, .move (.tmp 7),none⟩,⟨some 41, .move (.tmp 1),none⟩,⟨some 42, .move (.tmp 2),none⟩,⟨some 43, .call 154 [.tmp 39, .tmp 40, .tmp 41, .tmp 42],none⟩,⟨some 44, .buildSlice 1 false (.sl [] .nil) 2 [(0, .tmp 38),(1, .tmp 43)],none⟩,⟨some 45, .call 95 [.tmp 33, .tmp 44],none⟩,⟨some 6, .move (.tmp 45),none⟩] []) .ret) [] ⟨ts,D2++[a,b],clk⟩ (k0o [p] [.tmp 6] T):=by
   intro o ts clk D2 i2 a b ho hB2 hD2 hi2 g8 g0 g7 g1 g2
   simp only[go_sem,g8,g0,g7,g1,g2]
   refine z0s (hT s hs2 hs4) hB2 hs hD2 hi2 ?_
   rintro v D3 i3 ⟨t1,rfl,ht1⟩ hB3 hD3 hi3
   simp only[go_sem,g8,g0,g7,g1,g2]
   refine z0s (hT s hs2 hs4) hB3 hs hD3 hi3 ?_
   rintro v D4 i4 ⟨t2,rfl,ht2⟩ hB4 hD4 hi4
   simp only[go_sem,g8,g0,g7,g1,g2,z3g]
   have l1:=ht1.2.1
   have l2:=ht2.2.1
   rw[z0a (op2 rfl (by omega) (by omega))]
   simp only[go_sem,]
   rw[z1c]
   refine hR _ _ i4 (by rw[z0w hB4 hs];exact hD4) hi4 ⟨_,rfl,(GT.op2 ht1 ht2 ?_ (by omega) (by omega)).up (by omega) (by omega)⟩
   rcases ho with rfl | ⟨hs',ho⟩
   ·exact .eq hs1 hs4
   ·exact .cmp ho (by omega)
  simp only[go_sem,hB1]
  refine z8p (fun hc=> ?_) (fun hc=> ?_)
  ·have hs3:s≠4:=by simp at hc;omega
   simp only[go_sem,hB1]
   refine z0s (z3u hl (by decide) (by decide)) hB1 hs hD1 hi1 ?_
   rintro v D2 i2 ⟨r,rfl,hr3,hr4⟩ hB2 hD2 hi2
   obtain⟨q,rfl⟩:∃ k:Nat,r=k:=⟨r.toNat,by omega⟩
   have e1:IntKind.i64.wrap (11 + (q:Int))=((11 + q:Nat):Int):=by rw[z0e (by omega) (by omega)];omega
   simp only[k2l,v4m,v4p,j4o,z0b,z0,cond_true,cond_false,z8t,x9o,v4n,q4l,e1,x0j,q6s]
   exact fin (11 + q) _ _ D2 i2 _ _ (by omega) hB2 hD2 hi2 rfl rfl rfl rfl rfl
  ·rw[q6s]
   exact fin 11 _ _ D1 i1 _ _ (.inl rfl) hB1 hD1 hi1 rfl rfl rfl rfl rfl
end
section
variable {l:List Int} {V:List Var}
def x0y (l:List Int) (V:List Var) (d:Nat):Prop:=∀ s,1≤s→s≤4→GenOk l 154 [nat s,nat d, .sl (V.map z1k) .no] (x0x V s (d + 4) (TB s d))
def q5u (l:List Int) (V:List Var) (d:Nat):Prop:=GenOk l 42 [nat d, .sl (V.map z1k) .no] (x0x V 1 (d + 4) (11 * 6 ^ d))
def u4z (l:List Int) (V:List Var) (d:Nat):Prop:=∀ s,1≤s→s≤4→GenOk l 96 [nat s,nat d, .sl (V.map z1k) .no] (x0x V s (d + 4) (TB s d))
def g4t (l:List Int) (V:List Var) (d:Nat):Prop:=∀ s,s=2∨s=3→GenOk l 224 [nat s,nat d, .sl (V.map z1k) .no] (x0x V s (d + 4) (TB s d))
theorem z5r {e:Nat} (he:e≤10):IntKind.i64.wrap (((e + 1:Nat):Int) - 1)=(e:Int):=by rw[z0e (by omega) (by omega)];omega
theorem j2m {s e:Nat}:TB s (e + 1)=6 * TB s e:=by unfold TB;split <;> rw[p8] <;> omega
theorem y4c {s e:Nat}:TB s e≤11 * 6 ^ e:=by
 have:1≤6 ^ e:=Nat.pos_of_ne_zero (by simp)
 unfold TB;split <;> omega
theorem y4d {s e:Nat}:5 * 6 ^ e≤TB s e:=by
 unfold TB;split <;> omega
theorem k4b {e:Nat} (he:e≤3) (hF:q5u l V e) (hT:x0y l V e):u4z l V (e + 1):=by
 intro s h1 h2
 refine GenOk.of rfl u4o rfl rfl rfl (az:=[nat s,nat (e + 1), .sl (V.map z1k) .no]) rfl (by simp[idsL,z3j,z5x]) fun D B p g i clk T hB hs hD hi hR=> ?_
 have h6:6 ^ e≤6 ^ 4:=n7 (by omega) (by omega)
 have h6':1≤6 ^ e:=Nat.pos_of_ne_zero (by simp)
 have em:=z5r (e:=e) (by omega)
 simp only[go_sem,y3r,hB,nat,em]
 refine z0s hF hB hs hD hi ?_
 rintro v D1 i1 ⟨t1,rfl,ht1⟩ hB1 hD1 hi1
 simp only[go_sem,em]
 refine z0s (hT s h1 h2) hB1 hs hD1 hi1 ?_
 rintro v D2 i2 ⟨t2,rfl,ht2⟩ hB2 hD2 hi2
 simp only[go_sem,em]
 refine z0s (hT s h1 h2) hB2 hs hD2 hi2 ?_
 rintro v D3 i3 ⟨t3,rfl,ht3⟩ hB3 hD3 hi3
 have l1:=ht1.2.1
 have l2:=ht2.2.1
 have l3:=ht3.2.1
 have lb:TB s e≤11 * 6 ^ e:=y4c
 simp only[go_sem,z3g]
 rw[z0a (op3 (o:=10) (i:=10) rfl (by omega) (by omega) (by omega))]
 simp only[go_sem,]
 rw[z1c]
 refine hR _ _ i3 (by rw[z0w hB3 hs];exact hD3) hi3 ⟨_,rfl,(GT.op3 ht1 ht2 ht3 (.ite h1 h2) h1 h2).up (by omega) ?_⟩
 rw[j2m]
 unfold TB
 split <;> omega
theorem q4o {s:Nat} (hl:q4y l) (hV:V.length≤400) (h1:1≤s) (h2:s≤4):GenOk l 154 [nat s,nat 0, .sl (V.map z1k) .no] (x0x V s 3 5):=by
 refine GenOk.of rfl y3o rfl rfl rfl (az:=[nat s,nat 0, .sl (V.map z1k) .no]) rfl (by simp[idsL,z3j,z5x]) fun D B p g i clk T hB hs hD hi hR=> ?_
 simp only[go_sem,w2e,hB,nat,Int.reduceLE,decide_true]
 refine z0s (z3u hl (by decide) (by decide)) hB hs hD hi ?_
 rintro v D1 i1 ⟨r,rfl,hr1,hr2⟩ hB1 hD1 hi1
 simp only[go_sem,hB1]
 refine z8p (fun hc=> ?_) (fun hc=> ?_)
 ·simp only[go_sem,]
  refine z0s (w2z hl h1 h2) hB1 hs hD1 hi1 ?_
  rintro v D2 i2 hv hB2 hD2 hi2
  simp only[go_sem,]
  obtain⟨t,hp,hg⟩:=j2l hv
  rw[z0a hp]
  simp only[go_sem,]
  rw[z1c]
  exact hR _ _ i2 (by rw[z0w hB2 hs];exact hD2) hi2 ⟨t,rfl,(hg V).up (by omega) (by omega)⟩
 ·simp only[go_sem,]
  refine z0s (q2e hl h1 h2 hV) hB1 hs hD1 hi1 ?_
  rintro v D2 i2 ⟨t,rfl,ht⟩ hB2 hD2 hi2
  simp only[go_sem,]
  rw[z1c]
  exact hR _ _ i2 (by rw[z0w hB2 hs];exact hD2) hi2 ⟨t,rfl,ht.up (by omega) (by omega)⟩
end
section
variable {l:List Int} {V:List Var}
theorem q4p {s d:Nat}:∀ {az:List Term},(∀ t∈az,WF V [s] d t)→WF V (j1 az.length s) d az.flatten
 | [],_=> .nil
 | t::az,h=>by
   have:=(h t v9).append (q4p (az:=az) fun q hq=>h q (u0 _ hq))
   simpa [List.replicate_succ] using this
theorem x6e {m:Nat}:∀ {az:List Term},(∀ t∈az,t.length≤m)→az.flatten.length≤az.length * m
 | [],_=>by simp
 | t::az,h=>by
   have h1:=h t v9
   have h2:=x6e (az:=az) fun q hq=>h q (u0 _ hq)
   simp only[List.flatten_cons,List.length_append,u6,Nat.add_mul,Nat.one_mul]
   omega
theorem k9p {e B p g i clk:Nat} {D:List AObj} {ts:Tmps} {a b c d x:AObj} {ks:List Kf} {Q:Post} {n:Nat} (he:e≤3) (hn:n≤3) (hF:q5u l V e) (hB:D.length=B) (hs:p < B) (hD:D[p]? =some (z3d g l i)) (hi:i≤l.length)
  (g0:ts 0= .ptr p g 0 0) (g1:ts 1=nat (e + 1)) (g2:ts 2= .sl (V.map z1k) .no) (g7:ts 7= .sl [] .nil) (g8:ts 8= .int .i64 (n:Int))
  (hQ:∀ (acc:List Term) (t:Tip) (ts':Tmps) (D':List AObj) (i':Nat) (a b c d x:AObj) (clk':Nat),acc.length≤3→(∀ t∈acc,GT V 1 (e + 4) (11 * 6 ^ e) t)→D'.length=B→D'[p]? =some (z3d g l i')→i'≤l.length→ts' 0= .ptr p g 0 0→ts' 7= .sl (acc.map z0k) t→K Gam B (.exit 1) ks ⟨ts',D'++[a,b,c,d,x],clk'⟩ Q):
  K Gam B (.loop j4t) ks ⟨ts,D++[a,b,c,d,x],clk⟩ Q:=by
 refine z1t (fun m q=>∃ (n:Nat) (acc:List Term) (t:Tip) (D:List AObj) (i:Nat) (a b c d x:AObj),m=n∧acc.length + n≤3∧(∀ t∈acc,GT V 1 (e + 4) (11 * 6 ^ e) t)∧D.length=B∧D[p]? =some (z3d g l i)∧i≤l.length∧q.ts 0= .ptr p g 0 0∧q.ts 1=nat (e + 1)∧q.ts 2= .sl (V.map z1k) .no∧q.ts 7= .sl (acc.map z0k) t∧q.ts 8= .int .i64 (n:Int)∧q.h=D++[a,b,c,d,x]∧z8x B 2 c t 1) n ?_ ?_
 ·exact⟨n,[], .nil,D,i,_,_,_,_,_,rfl,by simpa using hn,by simp,hB,hD,hi,g0,g1,g2,g7,g8,rfl, .inl rfl⟩
 clear g0 g1 g2 g7 g8 hB hD hi
 rintro m ⟨ts,h,clk⟩ P ⟨n,acc,t,D,i,a,b,c,d,x,rfl,hlen,hacc,hB,hD,hi,g0,g1,g2,g7,g8,rfl,ht⟩ hnx hex hr
 dsimp only at g0 g1 g2 g7 g8
 have h6:6 ^ e≤6 ^ 4:=n7 (by omega) (by omega)
 have em:=z5r (e:=e) (by omega)
 simp only[go_sem,g0,g1,g2,g7,g8,j4t]
 refine z8p (fun hb=> ?_) (fun hb=> ?_)
 ·have hpos:0 < m:=by simp at hb;omega
  obtain⟨n',rfl⟩:∃ n',m=n' + 1:=⟨m - 1,by omega⟩
  have en:IntKind.i64.wrap (((n' + 1:Nat):Int) - 1)=(n':Int):=z5r (by omega)
  simp only[go_sem,g0,g1,g2,g7,g8,nat,em]
  refine z0s hF hB hs hD hi ?_
  rintro v D1 i1 ⟨t1,rfl,ht1⟩ hB1 hD1 hi1
  simp only[go_sem,g0,g1,g2,g7,g8,z3g]
  rw[show [z0k t1]=[t1].map z0k from rfl,z0q hB1 rfl ht z4u z4u (by simp only[z6,w0];omega)]
  simp only[go_sem,g0,g1,g2,g7,g8,en]
  refine hnx n' _ (by omega) ⟨n',acc++[t1],_,D1,i1,_,_,_,_,_,rfl,by simp;omega, ?_,hB1,hD1,hi1,g0,g1,g2, ?_,rfl,rfl, .inr (.inr ⟨_,rfl,rfl⟩)⟩
  ·intro t' ht'
   rw[j6,u7] at ht'
   rcases ht' with ht' | rfl
   ·exact hacc t' ht'
   ·exact ht1
  ·simp only[z0b,z0,cond_true,cond_false,v5,k8,w7]
 ·simp only[go_sem,]
  refine hex _ _ ?_
  exact hQ acc t _ D i _ _ _ _ _ _ (by omega) hacc hB hD hi (by simp[z0b,g0]) (by simp[z0b,g7])
theorem j2n (hl:q4y l) (hV:V.length≤400):q5u l V 0:=by
 have hA:=k4a (u:= .no) hl hV (j8 3) (j8 5) (by omega) fun s h1 h2=>q4o (s:=s) hl hV (by omega) h2
 refine GenOk.of rfl w2d rfl rfl rfl (az:=[nat 0, .sl (V.map z1k) .no]) rfl (by simp[idsL,z3j,z5x]) fun D B p g i clk T hB hs hD hi hR=> ?_
 simp only[go_sem,w2c,hB,nat,Int.reduceLE,decide_true]
 refine z0s hA hB hs hD hi ?_
 rintro v D1 i1 ⟨t1,rfl,ht1⟩ hB1 hD1 hi1
 simp only[go_sem,]
 rw[z1c]
 exact hR _ _ i1 (by rw[z0w hB1 hs];exact hD1) hi1 ⟨_,rfl,ht1.up (by omega) (by omega)⟩
theorem v6w {e:Nat} (hl:q4y l) (hV:V.length≤400) (he:e≤3) (hF:q5u l V e) (hT:x0y l V e):q5u l V (e + 1):=by
 have hA0:=k4a (u:= .no) hl hV (j8 3) (j8 5) (by omega) fun s h1 h2=>q4o (s:=s) hl hV (by omega) h2
 have h6:6 ^ e≤6 ^ 4:=n7 (by omega) (by omega)
 have h6':1≤6 ^ e:=Nat.pos_of_ne_zero (by simp)
 have hA:=k4a (d:=e) (u:= .no) (k:=e + 4) (m:=5 * 6 ^ e) hl hV (by omega) (by omega) (by omega) fun s h1 h2=>by
  have:=hT s (by omega) h2
  unfold TB at this
  rw[if_neg (by omega)] at this
  exact this
 have hI:=k4b he hF hT
 have e6:6 ^ (e + 1)=6 * 6 ^ e:=by rw[p8,m6]
 refine GenOk.of rfl w2d rfl rfl rfl (az:=[nat (e + 1), .sl (V.map z1k) .no]) rfl (by simp[idsL,z3j,z5x]) fun D B p g i clk T hB hs hD hi hR=> ?_
 have em:=z5r (e:=e) (by omega)
 have e0:decide (((e + 1:Nat):Int)≤0)=false:=by rw[z03];omega
 simp only[go_sem,w2c,hB,nat,e0]
 refine z0s w2h hB hs hD hi ?_
 rintro v D1 i1 ⟨b,rfl⟩ hB1 hD1 hi1
 simp only[go_sem,]
 refine z8p (fun hc=> ?_) (fun hc=> ?_)
 ·simp only[go_sem,]
  refine z0s hA0 hB1 hs hD1 hi1 ?_
  rintro v D2 i2 ⟨t1,rfl,ht1⟩ hB2 hD2 hi2
  simp only[go_sem,]
  rw[z1c]
  exact hR _ _ i2 (by rw[z0w hB2 hs];exact hD2) hi2 ⟨_,rfl,ht1.up (by omega) (by omega)⟩
 clear hD hi hc
 simp only[go_sem,]
 refine z0s (z3u hl (by decide) (by decide)) hB1 hs hD1 hi1 ?_
 rintro v D2 i2 ⟨r,rfl,hr1,hr2⟩ hB2 hD2 hi2
 clear hD1 hi1 hB1
 obtain⟨q,rfl⟩:∃ k:Nat,r=k:=⟨r.toNat,by omega⟩
 have hq:(q=0∨q=1)∨(q=2∨q=3∨q=4∨q=5)∨q=6∨q=7∨q=8∨9≤q:=by omega
 rcases hq with hq | hq | rfl | rfl | rfl | hq
 ·
  rcases hq with rfl | rfl
  all_goals
   simp only[go_sem,z8,decide_true,decide_false,em]
   refine z0s hF hB2 hs hD2 hi2 ?_
   rintro v D3 i3 ⟨t1,rfl,ht1⟩ hB3 hD3 hi3
   have l1:=ht1.2.1
   simp only[go_sem,z3g]
   rw[z0a (op1 (o:=6) (i:=6) rfl (by omega))]
   simp only[go_sem,]
   rw[z1c]
   exact hR _ _ i3 (by rw[z0w hB3 hs];exact hD3) hi3 ⟨_,rfl,(GT.op1 ht1 .not (by omega) (by omega)).up (by omega) (by omega)⟩
 ·
  rcases hq with rfl | rfl | rfl | rfl
  all_goals
   simp only[go_sem,z8,decide_true,decide_false,em]
   refine z0s (z3u hl (by decide) (by decide)) hB2 hs hD2 hi2 ?_
   rintro v D3 i3 ⟨r3,rfl,hr3,hr4⟩ hB3 hD3 hi3
   obtain⟨n,rfl⟩:∃ k:Nat,r3=k:=⟨r3.toNat,by omega⟩
   simp only[go_sem,]
   refine k9p (n:=n) (i:=i3) he (by omega) hF hB3 hs hD3 hi3 rfl rfl rfl rfl rfl ?_
   intro acc t ts' D4 i4 a1 a2 a3 a4 a5 clk' hlen hacc hB4 hD4 hi4 g0 g7
   simp only[go_sem,g0,g7]
   refine z0s (z3u hl (by decide) (by decide)) hB4 hs hD4 hi4 ?_
   rintro v D5 i5 ⟨r5,rfl,hr5,hr6⟩ hB5 hD5 hi5
   obtain⟨z,rfl⟩:∃ k:Nat,r5=k:=⟨r5.toNat,by omega⟩
   have e7:IntKind.i64.wrap (7 + (z:Int))=((7 + z:Nat):Int):=by rw[z0e (by omega) (by omega)];omega
   have hfl:=x6e (m:=11 * 6 ^ e) (az:=acc) fun t ht=>(hacc t ht).2.1
   have hfl2:acc.length * (11 * 6 ^ e)≤3 * (11 * 6 ^ e):=b9 _ hlen
   simp only[go_sem,g0,g7,e7]
   rw[z0a (opn (o:=7 + z) (l:=acc) rfl (by omega) (by omega))]
   simp only[go_sem,]
   rw[z1c]
   refine hR _ _ i5 (by rw[z0w hB5 hs];exact hD5) hi5 ⟨_,rfl,⟨(WF.one (q4p fun t ht=>(hacc t ht).1) (.andor (by omega)) (by simp[bare])).up (by omega),by rw[u6];omega,by omega,by omega⟩⟩
 ·
  simp only[go_sem,z8,decide_true,decide_false,em]
  refine z0s hF hB2 hs hD2 hi2 ?_
  rintro v D3 i3 ⟨t1,rfl,ht1⟩ hB3 hD3 hi3
  simp only[go_sem,em]
  refine z0s hF hB3 hs hD3 hi3 ?_
  rintro v D4 i4 ⟨t2,rfl,ht2⟩ hB4 hD4 hi4
  have l1:=ht1.2.1
  have l2:=ht2.2.1
  simp only[go_sem,z3g]
  rw[z0a (op2 (o:=9) (i:=9) rfl (by omega) (by omega))]
  simp only[go_sem,]
  rw[z1c]
  exact hR _ _ i4 (by rw[z0w hB4 hs];exact hD4) hi4 ⟨_,rfl,(GT.op2 ht1 ht2 .imp (by omega) (by omega)).up (by omega) (by omega)⟩
 ·
  simp only[go_sem,z8,decide_true,decide_false,em]
  refine z0s (hI 1 (by omega) (by omega)) hB2 hs hD2 hi2 ?_
  rintro v D3 i3 ⟨t1,rfl,ht1⟩ hB3 hD3 hi3
  simp only[go_sem,]
  rw[z1c]
  exact hR _ _ i3 (by rw[z0w hB3 hs];exact hD3) hi3 ⟨_,rfl,ht1⟩
 ·
  simp only[go_sem,z8,decide_true,decide_false,em]
  refine z0s hF hB2 hs hD2 hi2 ?_
  rintro v D3 i3 ⟨t1,rfl,ht1⟩ hB3 hD3 hi3
  simp only[go_sem,em]
  refine z0s hF hB3 hs hD3 hi3 ?_
  rintro v D4 i4 ⟨t2,rfl,ht2⟩ hB4 hD4 hi4
  have l1:=ht1.2.1
  have l2:=ht2.2.1
  simp only[go_sem,z3g]
  rw[z0a (op2 (o:=11) (i:=11) rfl (by omega) (by omega))]
  simp only[go_sem,]
  rw[z1c]
  exact hR _ _ i4 (by rw[z0w hB4 hs];exact hD4) hi4 ⟨_,rfl,(GT.op2 ht1 ht2 (.eq (by omega) (by omega)) (by omega) (by omega)).up (by omega) (by omega)⟩
 ·
  have d0:∀ k:Int,0≤k→k < 9→decide ((q:Int)=k)=false:=fun k h1 h2=>by rw[z03];omega
  simp only[go_sem,d0 0 (by decide) (by decide),d0 1 (by decide) (by decide),d0 2 (by decide) (by decide),d0 3 (by decide) (by decide),d0 4 (by decide) (by decide),d0 5 (by decide) (by decide),d0 6 (by decide) (by decide),d0 7 (by decide) (by decide),d0 8 (by decide) (by decide),em]
  refine z0s hA hB2 hs hD2 hi2 ?_
  rintro v D3 i3 ⟨t1,rfl,ht1⟩ hB3 hD3 hi3
  simp only[go_sem,]
  rw[z1c]
  exact hR _ _ i3 (by rw[z0w hB3 hs];exact hD3) hi3 ⟨_,rfl,ht1.up (by omega) (by omega)⟩
end
section
variable {l:List Int} {V:List Var}
def u5a (s:Nat) (a:List Nat):Prop:=(s=2∧IntS a)∨(s=3∧RatS a)
def x2q (l:List Int):Prop:=∀ s,s=2∨s=3→GenOk l 272 [nat s] fun v=>∃ a,v= .str a∧u5a s a
theorem GT.num {s:Nat} {a:List Nat} (h:u5a s a):GT V s 1 1 [⟨3,s,[],a,0⟩]:=by
 rcases h with ⟨rfl,h⟩ | ⟨rfl,h⟩
 ·exact GT.leaf (.int h) rfl (by omega) (by omega)
 ·exact GT.leaf (.real h) rfl (by omega) (by omega)
theorem y4e {e B p g i s clk:Nat} {D:List AObj} {ts:Tmps} {a b c d x y z:AObj} {ks:List Kf} {Q:Post} {n:Nat} {t0:Term} (he:e≤3) (hn:n≤2) (h1:1≤s) (h2:s≤4) (hT:x0y l V e) (hB:D.length=B) (hs:p < B) (hD:D[p]? =some (z3d g l i)) (hi:i≤l.length)
  (g0:ts 0= .ptr p g 0 0) (gs:ts 1=nat s) (g1:ts 2=nat (e + 1)) (g2:ts 3= .sl (V.map z1k) .no) (g7:ts 10= .sl [z0k t0] .full) (g8:ts 11= .int .i64 (n:Int)) (ht0:GT V s (e + 4) (TB s e) t0)
  (hQ:∀ (acc:List Term) (t:Tip) (ts':Tmps) (D':List AObj) (i':Nat) (a b c d x y z:AObj) (clk':Nat),1≤acc.length→acc.length≤3→(∀ t∈acc,GT V s (e + 4) (TB s e) t)→D'.length=B→D'[p]? =some (z3d g l i')→i'≤l.length→ts' 0= .ptr p g 0 0→ts' 10= .sl (acc.map z0k) t→K Gam B (.exit 1) ks ⟨ts',D'++[a,b,c,d,x,y,z],clk'⟩ Q):
  K Gam B (.loop j4u) ks ⟨ts,D++[a,b,c,d,x,y,z],clk⟩ Q:=by
 refine z1t (fun m q=>∃ (n:Nat) (acc:List Term) (t:Tip) (D:List AObj) (i:Nat) (a b c d x y z:AObj),m=n∧1≤acc.length∧acc.length + n≤3∧(∀ t∈acc,GT V s (e + 4) (TB s e) t)∧D.length=B∧D[p]? =some (z3d g l i)∧i≤l.length∧q.ts 0= .ptr p g 0 0∧q.ts 1=nat s∧q.ts 2=nat (e + 1)∧q.ts 3= .sl (V.map z1k) .no∧q.ts 10= .sl (acc.map z0k) t∧q.ts 11= .int .i64 (n:Int)∧q.h=D++[a,b,c,d,x,y,z]∧z8x B 2 c t 1) n ?_ ?_
 ·exact⟨n,[t0], .full,D,i,_,_,_,_,_,_,_,rfl,by simp,by simp;omega,by simpa using ht0,hB,hD,hi,g0,gs,g1,g2,g7,g8,rfl, .inr (.inl rfl)⟩
 clear g0 gs g1 g2 g7 g8 hB hD hi
 rintro m ⟨ts,h,clk⟩ P ⟨n,acc,t,D,i,a,b,c,d,x,y,z,rfl,hlen1,hlen,hacc,hB,hD,hi,g0,gs,g1,g2,g7,g8,rfl,ht⟩ hnx hex hr
 dsimp only at g0 gs g1 g2 g7 g8
 have em:=z5r (e:=e) (by omega)
 simp only[go_sem,g0,gs,g1,g2,g7,g8,j4u]
 refine z8p (fun hb=> ?_) (fun hb=> ?_)
 ·have hpos:0 < m:=by simp at hb;omega
  obtain⟨n',rfl⟩:∃ n',m=n' + 1:=⟨m - 1,by omega⟩
  have en:IntKind.i64.wrap (((n' + 1:Nat):Int) - 1)=(n':Int):=z5r (by omega)
  simp only[go_sem,g0,gs,g1,g2,g7,g8,nat,em]
  refine z0s (hT s h1 h2) hB hs hD hi ?_
  rintro v D1 i1 ⟨t1,rfl,ht1⟩ hB1 hD1 hi1
  simp only[go_sem,g0,gs,g1,g2,g7,g8,z3g]
  rw[show [z0k t1]=[t1].map z0k from rfl,z0q hB1 rfl ht z4u z4u (by simp only[z6,w0];omega)]
  simp only[go_sem,g0,gs,g1,g2,g7,g8,en]
  refine hnx n' _ (by omega) ⟨n',acc++[t1],_,D1,i1,_,_,_,_,_,_,_,rfl,by simp,by simp;omega, ?_,hB1,hD1,hi1,g0,gs,g1,g2, ?_,rfl,rfl, .inr (.inr ⟨_,rfl,rfl⟩)⟩
  ·intro t' ht'
   rw[j6,u7] at ht'
   rcases ht' with ht' | rfl
   ·exact hacc t' ht'
   ·exact ht1
  ·simp only[z0b,z0,cond_true,cond_false,v5,k8,w7]
 ·simp only[go_sem,]
  refine hex _ _ ?_
  exact hQ acc t _ D i _ _ _ _ _ _ _ _ hlen1 (by omega) hacc hB hD hi (by simp[z0b,g0]) (by simp[z0b,g7])
theorem y4f {e:Nat} (hl:q4y l) (hV:V.length≤400) (he:e≤3) (hN:x2q l) (hF:q5u l V e) (hT:x0y l V e):g4t l V (e + 1):=by
 intro s hs23
 have h1:1≤s:=by omega
 have h2:s≤4:=by omega
 have hI:=k4b he hF hT
 have h6:6 ^ e≤6 ^ 4:=n7 (by omega) (by omega)
 have h6':1≤6 ^ e:=Nat.pos_of_ne_zero (by simp)
 have hTB:TB s (e + 1)=30 * 6 ^ e:=by rw[j2m];unfold TB;rw[if_neg (by omega)];omega
 have hTB2:TB s e=5 * 6 ^ e:=by unfold TB;rw[if_neg (by omega)]
 have hTB4:TB 4 e=5 * 6 ^ e:=by unfold TB;rw[if_neg (by omega)]
 refine GenOk.of rfl u4p rfl rfl rfl (az:=[nat s,nat (e + 1), .sl (V.map z1k) .no]) rfl (by simp[idsL,z3j,z5x]) fun D B p g i clk T hB hs hD hi hR=> ?_
 have em:=z5r (e:=e) (by omega)
 simp only[go_sem,y3s,hB,nat]
 refine z0s (z3u hl (by decide) (by decide)) hB hs hD hi ?_
 rintro v D2 i2 ⟨r,rfl,hr1,hr2⟩ hB2 hD2 hi2
 obtain⟨q,rfl⟩:∃ k:Nat,r=k:=⟨r.toNat,by omega⟩
 have hq:q < 3∨(3≤q∧q < 5)∨q=5∨q=6∨q=7∨q=8∨q=9:=by omega
 rcases hq with hq | hq | rfl | rfl | rfl | rfl | rfl
 ·
  have e3:decide ((q:Int) < 3)=true:=by rw[z04];omega
  simp only[go_sem,e3,em]
  refine z0s (hT s h1 h2) hB2 hs hD2 hi2 ?_
  rintro v D3 i3 ⟨t1,rfl,ht1⟩ hB3 hD3 hi3
  simp only[go_sem,z3g]
  refine z0s (z3u hl (by decide) (by decide)) hB3 hs hD3 hi3 ?_
  rintro v D4 i4 ⟨r4,rfl,hr3,hr4⟩ hB4 hD4 hi4
  obtain⟨n,rfl⟩:∃ k:Nat,r4=k:=⟨r4.toNat,by omega⟩
  simp only[go_sem,]
  refine y4e (n:=n) (i:=i4) he (by omega) h1 h2 hT hB4 hs hD4 hi4 rfl rfl rfl rfl rfl rfl ht1 ?_
  intro acc t ts' D5 i5 a1 a2 a3 a4 a5 a6 a7 clk' hlen1 hlen hacc hB5 hD5 hi5 g0 g7
  have hfl:=x6e (m:=TB s e) (az:=acc) fun t ht=>(hacc t ht).2.1
  have hfl2:acc.length * TB s e≤3 * TB s e:=b9 _ hlen
  simp only[go_sem,g0,g7]
  rw[z0a (opn (o:=14) (i:=14) (l:=acc) rfl (by omega) (by omega))]
  simp only[go_sem,]
  rw[z1c]
  refine hR _ _ i5 (by rw[z0w hB5 hs];exact hD5) hi5 ⟨_,rfl,⟨(WF.one (q4p fun t ht=>(hacc t ht).1) (.add hlen1 hs23) (by simp[bare])).up (by omega),by rw[u6];omega,by omega,by omega⟩⟩
 ·
  have e3:decide ((q:Int) < 3)=false:=by rw[z03];omega
  have e5:decide ((q:Int) < 5)=true:=by rw[z04];omega
  simp only[go_sem,e3,e5,em]
  refine z0s (hN s hs23) hB2 hs hD2 hi2 ?_
  rintro v D3 i3 ⟨a,rfl,ha⟩ hB3 hD3 hi3
  simp only[go_sem,em]
  have hp:=x6b (s:=s) (a:=a)
  rw[nat] at hp
  rw[z0a hp]
  simp only[go_sem,em]
  refine z0s (hT s h1 h2) hB3 hs hD3 hi3 ?_
  rintro v D4 i4 ⟨t1,rfl,ht1⟩ hB4 hD4 hi4
  have l1:=ht1.2.1
  simp only[go_sem,z3g]
  rw[z0a (op2 (o:=15) (i:=15) rfl (by simp) (by omega))]
  simp only[go_sem,]
  rw[z1c]
  exact hR _ _ i4 (by rw[z0w hB4 hs];exact hD4) hi4 ⟨_,rfl,(GT.op2 ((GT.num ha).up (d':=e + 4) (m':=1) (by omega) (by omega)) ht1 (.mul hs23 rfl) (by omega) (by omega)).up (by omega) (by omega)⟩
 ·
  simp only[go_sem,z8,d9,decide_true,decide_false]
  refine z0s (hI s h1 h2) hB2 hs hD2 hi2 ?_
  rintro v D3 i3 ⟨t1,rfl,ht1⟩ hB3 hD3 hi3
  simp only[go_sem,]
  rw[z1c]
  exact hR _ _ i3 (by rw[z0w hB3 hs];exact hD3) hi3 ⟨_,rfl,ht1⟩
 ·
  rcases hs23 with rfl | rfl
  ·simp only[go_sem,z8,d9,decide_true,decide_false]
   refine z0s (z3u hl (by decide) (by decide)) hB2 hs hD2 hi2 ?_
   rintro v D3 i3 ⟨r3,rfl,hr3,hr4⟩ hB3 hD3 hi3
   obtain⟨z,rfl⟩:∃ k:Nat,r3=k:=⟨r3.toNat,by omega⟩
   have e7:IntKind.i64.wrap (16 + (z:Int))=((16 + z:Nat):Int):=by rw[z0e (by omega) (by omega)];omega
   simp only[go_sem,e7]
   refine z0s (z3u hl (by decide) (by decide)) hB3 hs hD3 hi3 ?_
   rintro v D4 i4 ⟨r5,rfl,hr5,hr6⟩ hB4 hD4 hi4
   obtain⟨y,rfl⟩:∃ k:Nat,r5=k:=⟨r5.toNat,by omega⟩
   have e8:IntKind.i64.wrap (1 + (y:Int))=((1 + y:Nat):Int):=by rw[z0e (by omega) (by omega)];omega
   simp only[go_sem,e8]
   rw[z0a (z8i (by omega) (by omega)),z0i,if_neg (by omega),m8]
   simp only[go_sem,hB4,z1a,em]
   refine z0s (hT 2 h1 h2) hB4 hs hD4 hi4 ?_
   rintro v D5 i5 ⟨t1,rfl,ht1⟩ hB5 hD5 hi5
   have l1:=ht1.2.1
   simp only[go_sem,z3g]
   have hp:Pure Gam 155 [.agg [.int .i64 ((16 + z:Nat):Int), .int .i64 0, .str [], .str (dec (1 + y)), .int .i64 0], .sl [z0k t1] .full] _:=k3u (n:=⟨16 + z,0,[],dec (1 + y),0⟩) (l:=[t1]) (u:= .full) (by simp) (by simp;omega)
   rw[z0a hp]
   simp only[go_sem,]
   refine⟨by simp[z1b,apart,z0j,z0z,z1d,AOp.isCall,hB4];omega, ?_⟩
   rw[z1c]
   refine hR _ _ i5 (by rw[z0w hB5 hs];exact hD5) hi5 ⟨_,rfl, ?_⟩
   have:=WF.one (n:=⟨16 + z,0,[],dec (1 + y),1⟩) ht1.1 (.div (by omega) (by omega) (by omega)) rfl
   refine⟨?_,by simp;omega,by omega,by omega⟩
   simpa using this
  ·simp only[go_sem,z8,d9,decide_true,decide_false]
   refine z0s (q2e hl h1 h2 hV) hB2 hs hD2 hi2 ?_
   rintro v D3 i3 ⟨t1,rfl,ht1⟩ hB3 hD3 hi3
   simp only[go_sem,]
   rw[z1c]
   exact hR _ _ i3 (by rw[z0w hB3 hs];exact hD3) hi3 ⟨_,rfl,ht1.up (by omega) (by omega)⟩
 ·
  rcases hs23 with rfl | rfl
  ·simp only[go_sem,z8,d9,decide_true,decide_false,em]
   refine z0s (hT 4 (by omega) (by omega)) hB2 hs hD2 hi2 ?_
   rintro v D3 i3 ⟨t1,rfl,ht1⟩ hB3 hD3 hi3
   simp only[go_sem,em]
   refine z0s (hT 2 h1 h2) hB3 hs hD3 hi3 ?_
   rintro v D4 i4 ⟨t2,rfl,ht2⟩ hB4 hD4 hi4
   have l1:=ht1.2.1
   have l2:=ht2.2.1
   simp only[go_sem,z3g]
   rw[z0a (op2 (o:=18) (i:=18) rfl (by omega) (by omega))]
   simp only[go_sem,]
   rw[z1c]
   exact hR _ _ i4 (by rw[z0w hB4 hs];exact hD4) hi4 ⟨_,rfl,(GT.op2 ht1 ht2 .select (by omega) (by omega)).up (by omega) (by omega)⟩
  ·simp only[go_sem,z8,d9,decide_true,decide_false]
   refine z0s (q2e hl h1 h2 hV) hB2 hs hD2 hi2 ?_
   rintro v D3 i3 ⟨t1,rfl,ht1⟩ hB3 hD3 hi3
   simp only[go_sem,]
   rw[z1c]
   exact hR _ _ i3 (by rw[z0w hB3 hs];exact hD3) hi3 ⟨_,rfl,ht1.up (by omega) (by omega)⟩
 ·
  simp only[go_sem,z8,d9,decide_true,decide_false]
  refine z0s (hN s hs23) hB2 hs hD2 hi2 ?_
  rintro v D3 i3 ⟨a,rfl,ha⟩ hB3 hD3 hi3
  simp only[go_sem,]
  have hp:=x6b (s:=s) (a:=a)
  rw[nat] at hp
  rw[z0a hp]
  simp only[go_sem,]
  rw[z1c]
  exact hR _ _ i3 (by rw[z0w hB3 hs];exact hD3) hi3 ⟨_,rfl,(GT.num ha).up (by omega) (by omega)⟩
 ·
  simp only[go_sem,z8,d9,decide_true,decide_false]
  refine z0s (q2e hl h1 h2 hV) hB2 hs hD2 hi2 ?_
  rintro v D3 i3 ⟨t1,rfl,ht1⟩ hB3 hD3 hi3
  simp only[go_sem,]
  rw[z1c]
  exact hR _ _ i3 (by rw[z0w hB3 hs];exact hD3) hi3 ⟨_,rfl,ht1.up (by omega) (by omega)⟩
end
section
variable {l:List Int} {V:List Var}
theorem y4g {e:Nat} (hl:q4y l) (hV:V.length≤400) (he:e≤3) (hN:x2q l) (hF:q5u l V e) (hT:x0y l V e):x0y l V (e + 1):=by
 intro s h1 h2
 have hI:=k4b he hF hT
 have hA:=y4f hl hV he hN hF hT
 have hF1:=v6w hl hV he hF hT
 have h6:6 ^ e≤6 ^ 4:=n7 (by omega) (by omega)
 have h6':1≤6 ^ e:=Nat.pos_of_ne_zero (by simp)
 have hTB:5 * 6 ^ e≤TB s e:=y4d
 have hTBs:=j2m (s:=s) (e:=e)
 have hT2:TB 2 e=5 * 6 ^ e:=rfl
 have hT4:TB 4 e=5 * 6 ^ e:=rfl
 refine GenOk.of rfl y3o rfl rfl rfl (az:=[nat s,nat (e + 1), .sl (V.map z1k) .no]) rfl (by simp[idsL,z3j,z5x]) fun D B p g i clk T hB hs hD hi hR=> ?_
 have em:=z5r (e:=e) (by omega)
 have e0:decide (((e + 1:Nat):Int)≤0)=false:=by rw[z03];omega
 simp only[go_sem,w2e,hB,nat,e0]
 refine z0s w2h hB hs hD hi ?_
 rintro v D1 i1 ⟨b,rfl⟩ hB1 hD1 hi1
 simp only[go_sem,]
 refine z8p (fun hc=> ?_) (fun hc=> ?_)
 ·simp only[go_sem,]
  refine z0s (z3u hl (by decide) (by decide)) hB1 hs hD1 hi1 ?_
  rintro v D2 i2 ⟨r,rfl,hr1,hr2⟩ hB2 hD2 hi2
  simp only[go_sem,]
  refine z8p (fun hc=> ?_) (fun hc=> ?_)
  ·simp only[go_sem,]
   refine z0s (w2z hl h1 h2) hB2 hs hD2 hi2 ?_
   rintro v D3 i3 hv hB3 hD3 hi3
   simp only[go_sem,]
   obtain⟨t,hp,hg⟩:=j2l hv
   rw[z0a hp]
   simp only[go_sem,]
   rw[z1c]
   exact hR _ _ i3 (by rw[z0w hB3 hs];exact hD3) hi3 ⟨t,rfl,(hg V).up (by omega) (by omega)⟩
  ·simp only[go_sem,]
   refine z0s (q2e hl h1 h2 hV) hB2 hs hD2 hi2 ?_
   rintro v D3 i3 ⟨t,rfl,ht⟩ hB3 hD3 hi3
   simp only[go_sem,]
   rw[z1c]
   exact hR _ _ i3 (by rw[z0w hB3 hs];exact hD3) hi3 ⟨t,rfl,ht.up (by omega) (by omega)⟩
 clear hD hi hc
 obtain rfl | hs23 | rfl:s=1∨(s=2∨s=3)∨s=4:=by omega
 ·simp only[go_sem,z8,decide_true,decide_false]
  refine z0s hF1 hB1 hs hD1 hi1 ?_
  rintro v D3 i3 ⟨t1,rfl,ht1⟩ hB3 hD3 hi3
  simp only[go_sem,]
  rw[z1c]
  exact hR _ _ i3 (by rw[z0w hB3 hs];exact hD3) hi3 ⟨_,rfl,ht1⟩
 ·have e1:decide ((s:Int)=1)=false:=by rw[z03];omega
  have e2:decide ((s:Int)=4)=false:=by rw[z03];omega
  simp only[go_sem,e1,e2]
  refine z0s (hA s hs23) hB1 hs hD1 hi1 ?_
  rintro v D3 i3 ⟨t1,rfl,ht1⟩ hB3 hD3 hi3
  simp only[go_sem,]
  rw[z1c]
  exact hR _ _ i3 (by rw[z0w hB3 hs];exact hD3) hi3 ⟨_,rfl,ht1⟩
 ·simp only[go_sem,z8,decide_true,decide_false]
  refine z0s (z3u hl (by decide) (by decide)) hB1 hs hD1 hi1 ?_
  rintro v D2 i2 ⟨r,rfl,hr1,hr2⟩ hB2 hD2 hi2
  obtain⟨q,rfl⟩:∃ k:Nat,r=k:=⟨r.toNat,by omega⟩
  obtain rfl | hq | rfl | rfl:q=0∨(q=1∨q=2)∨q=3∨q=4:=by omega
  ·simp only[go_sem,z8,decide_true,decide_false,em]
   refine z0s (hT 2 (by omega) (by omega)) hB2 hs hD2 hi2 ?_
   rintro v D3 i3 ⟨t1,rfl,ht1⟩ hB3 hD3 hi3
   have l1:=ht1.2.1
   simp only[go_sem,z3g]
   rw[z0a (op1 (o:=20) (i:=20) rfl (by omega))]
   simp only[go_sem,]
   rw[z1c]
   exact hR _ _ i3 (by rw[z0w hB3 hs];exact hD3) hi3 ⟨_,rfl,(GT.op1 ht1 .const (by omega) (by omega)).up (by omega) (by omega)⟩
  ·rcases hq with rfl | rfl
   all_goals
    simp only[go_sem,z8,decide_true,decide_false,em]
    refine z0s (hT 4 (by omega) (by omega)) hB2 hs hD2 hi2 ?_
    rintro v D3 i3 ⟨t1,rfl,ht1⟩ hB3 hD3 hi3
    simp only[go_sem,em]
    refine z0s (hT 2 (by omega) (by omega)) hB3 hs hD3 hi3 ?_
    rintro v D4 i4 ⟨t2,rfl,ht2⟩ hB4 hD4 hi4
    simp only[go_sem,em]
    refine z0s (hT 2 (by omega) (by omega)) hB4 hs hD4 hi4 ?_
    rintro v D5 i5 ⟨t3,rfl,ht3⟩ hB5 hD5 hi5
    have l1:=ht1.2.1
    have l2:=ht2.2.1
    have l3:=ht3.2.1
    simp only[go_sem,z3g]
    rw[z0a (op3 (o:=19) (i:=19) rfl (by omega) (by omega) (by omega))]
    simp only[go_sem,]
    rw[z1c]
    exact hR _ _ i5 (by rw[z0w hB5 hs];exact hD5) hi5 ⟨_,rfl,(GT.op3 ht1 ht2 ht3 .store (by omega) (by omega)).up (by omega) (by omega)⟩
  ·simp only[go_sem,z8,decide_true,decide_false]
   refine z0s (hI 4 (by omega) (by omega)) hB2 hs hD2 hi2 ?_
   rintro v D3 i3 ⟨t1,rfl,ht1⟩ hB3 hD3 hi3
   simp only[go_sem,]
   rw[z1c]
   exact hR _ _ i3 (by rw[z0w hB3 hs];exact hD3) hi3 ⟨_,rfl,ht1⟩
  ·simp only[go_sem,z8,decide_true,decide_false]
   refine z0s (q2e hl h1 h2 hV) hB2 hs hD2 hi2 ?_
   rintro v D3 i3 ⟨t1,rfl,ht1⟩ hB3 hD3 hi3
   simp only[go_sem,]
   rw[z1c]
   exact hR _ _ i3 (by rw[z0w hB3 hs];exact hD3) hi3 ⟨_,rfl,ht1.up (by omega) (by omega)⟩
theorem q2f (hl:q4y l) (hV:V.length≤400) (hN:x2q l):∀ d,d≤4→x0y l V d∧q5u l V d
 | 0,_=>by
   refine⟨fun s h1 h2 h p g i clk Q hs hi hQ=> ?_,j2n hl hV⟩
   refine q4o hl hV h1 h2 h p g i clk Q hs hi fun v i' hi' hv=>hQ v i' hi' ?_
   obtain⟨t,rfl,ht⟩:=hv
   have:=y4d (s:=s) (e:=0)
   exact⟨t,rfl,ht.up (by omega) (by omega)⟩
 | d + 1,hd=>by
   obtain⟨hT,hF⟩:=q2f hl hV hN d (by omega)
   exact⟨y4g hl hV (by omega) hN hF hT,v6w hl hV (by omega) hF hT⟩
end
section
variable {l:List Int} {V:List Var}
def j2o (l:List Int) (V:List Var) (d:Nat):Prop:=GenOk l 69 [nat d, .sl (V.map z1k) .no] (x0x V 1 (d + 8) (400 * 2 ^ d - 1))
theorem k4c {s k:Nat} (hs:s=2∨s=3) (h:k < 10):u5a s [48 + k]:=by
 rcases hs with rfl | rfl
 ·exact .inl ⟨rfl,x6c h⟩
 ·exact .inr ⟨rfl, .inl (x6c h)⟩
theorem y4h {d:Nat} (hl:q4y l) (hV:V.length≤400) (hd:d≤6) (hF:q5u l V 2) (hG:∀ e,d=e + 1→j2o l V e):j2o l V d:=by
 have h2d:1≤2 ^ d:=Nat.pos_of_ne_zero (by simp)
 have hF2:11 * 6 ^ 2=396:=rfl
 refine GenOk.of rfl u9v rfl rfl rfl (az:=[nat d, .sl (V.map z1k) .no]) rfl (by simp[idsL,z3j,z5x]) fun D B p g i clk T hB hs hD hi hR=> ?_
 simp only[go_sem,u9u,hB,nat]
 refine z0s (z3u hl (by decide) (by decide)) hB hs hD hi ?_
 rintro v D2 i2 ⟨r,rfl,hr1,hr2⟩ hB2 hD2 hi2
 obtain⟨q,rfl⟩:∃ k:Nat,r=k:=⟨r.toNat,by omega⟩
 have hb0:(decide ((d:Int)≤0)=true∧d=0)∨(decide ((d:Int)≤0)=false∧∃ e,d=e + 1):=by
  rcases Nat.eq_zero_or_pos d with rfl | h
  ·exact .inl ⟨rfl,rfl⟩
  ·exact .inr ⟨by rw[z03];omega,d - 1,by omega⟩
 have F0:∀ (D:List AObj) (i:Nat) (L:List AObj),D.length=B→D[p]? =some (z3d g l i)→i≤l.length→T (z0k [⟨1,0,[],[],0⟩]) (D++L):=fun D i L h1 h2 h3=>hR _ _ i (by rw[z0w h1 hs];exact h2) h3 ⟨_,rfl,(GT.leaf (n:=bare 1 0) (.bool (.inl rfl)) rfl (by omega) (by omega)).up (by omega) (by omega)⟩
 obtain rfl | rfl | rfl | hq | rfl:q=0∨q=1∨q=2∨(q=3∨q=4)∨q=5:=by omega
 ·rcases hb0 with ⟨hb0,_⟩ | ⟨hb0,_⟩
  all_goals
   simp only[go_sem,hb0,z8,decide_true,decide_false,z7,j5]
   rw[z0a x6a]
   simp only[go_sem,if_true]
   rw[z1c]
   exact F0 D2 i2 _ hB2 hD2 hi2
 ·rcases hb0 with ⟨hb0,_⟩ | ⟨hb0,_⟩
  all_goals
   simp only[go_sem,hb0,z8,decide_true,decide_false,z7,j5]
   refine z0s (q2e (s:=2) hl (by omega) (by omega) hV) hB2 hs hD2 hi2 ?_
   rintro v D3 i3 ⟨t1,rfl,ht1⟩ hB3 hD3 hi3
   have l1:=ht1.2.1
   simp only[go_sem,]
   refine z0s (z3u hl (by decide) (by decide)) hB3 hs hD3 hi3 ?_
   rintro v D4 i4 ⟨r4,rfl,hr3,hr4⟩ hB4 hD4 hi4
   obtain⟨n,rfl⟩:∃ k:Nat,r4=k:=⟨r4.toNat,by omega⟩
   simp only[go_sem,]
   rw[z0a (z8i (by omega) (by omega)),z3k (by omega)]
   simp only[go_sem,]
   have hp:Pure Gam 121 [.int .i64 2, .str [48 + n]] _:=x6b (s:=2) (a:=[48 + n])
   rw[z0a hp]
   simp only[go_sem,z3g]
   rw[z0a (op2 (o:=12) (i:=12) rfl (by omega) (by simp))]
   simp only[go_sem,]
   rw[z1c]
   exact hR _ _ i4 (by rw[z0w hB4 hs];exact hD4) hi4 ⟨_,rfl,(GT.op2 ht1 ((GT.num (k4c (s:=2) (k:=n) (.inl rfl) (by omega))).up (d':=3) (m':=1) (by omega) (by omega)) (.cmp (.inl rfl) (.inl rfl)) (by omega) (by omega)).up (by omega) (by omega)⟩
 ·rcases hb0 with ⟨hb0,_⟩ | ⟨hb0,_⟩
  all_goals
   simp only[go_sem,hb0,z8,decide_true,decide_false,z7,j5]
   refine z0s (q2e (s:=2) hl (by omega) (by omega) hV) hB2 hs hD2 hi2 ?_
   rintro v D3 i3 ⟨t1,rfl,ht1⟩ hB3 hD3 hi3
   have l1:=ht1.2.1
   simp only[go_sem,]
   refine z0s (q2e (s:=2) hl (by omega) (by omega) hV) hB3 hs hD3 hi3 ?_
   rintro v D4 i4 ⟨t2,rfl,ht2⟩ hB4 hD4 hi4
   have l2:=ht2.2.1
   simp only[go_sem,]
   refine z0s (z3u hl (by decide) (by decide)) hB4 hs hD4 hi4 ?_
   rintro v D5 i5 ⟨r4,rfl,hr3,hr4⟩ hB5 hD5 hi5
   obtain⟨n,rfl⟩:∃ k:Nat,r4=k:=⟨r4.toNat,by omega⟩
   simp only[go_sem,]
   rw[z0a (z8i (by omega) (by omega)),z3k (by omega)]
   simp only[go_sem,]
   have hp:Pure Gam 121 [.int .i64 2, .str [48 + n]] _:=x6b (s:=2) (a:=[48 + n])
   rw[z0a hp]
   simp only[go_sem,z3g]
   have hadd:=GT.op2 (o:=14) ht2 ((GT.num (V:=V) (k4c (s:=2) (k:=n) (.inl rfl) (by omega))).up (d':=3) (m':=1) (by omega) (by omega)) (.add (k:=2) (by omega) (.inl rfl)) (by omega) (by omega)
   rw[z0a (op2 (o:=14) (i:=14) rfl (by omega) (by simp))]
   simp only[go_sem,z3g]
   rw[z0a (op2 (o:=11) (i:=11) rfl (by omega) (by have:=hadd.2.1;omega))]
   simp only[go_sem,]
   rw[z1c]
   exact hR _ _ i5 (by rw[z0w hB5 hs];exact hD5) hi5 ⟨_,rfl,(GT.op2 (ht1.up (d':=4) (m':=5) (by omega) (by omega)) hadd (.eq (by omega) (by omega)) (by omega) (by omega)).up (by omega) (by omega)⟩
 ·rcases hb0 with ⟨hb0,hd0⟩ | ⟨hb0,e,rfl⟩
  ·rcases hq with rfl | rfl
   all_goals
    simp only[go_sem,hb0,z8,decide_true,decide_false,z7,j5]
    rw[z0a x6a]
    simp only[go_sem,if_true]
    rw[z1c]
    exact F0 D2 i2 _ hB2 hD2 hi2
  ·have em:=z5r (e:=e) (by omega)
   have hg:=hG e rfl
   have hpow:2 ^ (e + 1)=2 * 2 ^ e:=by rw[p8,m6]
   have h2e:2 ^ e≤2 ^ 6:=n7 (by omega) (by omega)
   rcases hq with rfl | rfl
   ·simp only[go_sem,hb0,z8,decide_true,decide_false,z7,j5,em]
    refine z0s hg hB2 hs hD2 hi2 ?_
    rintro v D3 i3 ⟨t1,rfl,ht1⟩ hB3 hD3 hi3
    simp only[go_sem,em]
    refine z0s hg hB3 hs hD3 hi3 ?_
    rintro v D4 i4 ⟨t2,rfl,ht2⟩ hB4 hD4 hi4
    have l1:=ht1.2.1
    have l2:=ht2.2.1
    simp only[go_sem,z3g]
    rw[z0a (op2 (o:=7) (i:=7) rfl (by omega) (by omega))]
    simp only[go_sem,]
    rw[z1c]
    exact hR _ _ i4 (by rw[z0w hB4 hs];exact hD4) hi4 ⟨_,rfl,(GT.op2 ht1 ht2 (.andor (k:=2) (.inl rfl)) (by omega) (by omega)).up (by omega) (by omega)⟩
   ·simp only[go_sem,hb0,z8,decide_true,decide_false,z7,j5,em]
    refine z0s hg hB2 hs hD2 hi2 ?_
    rintro v D3 i3 ⟨t1,rfl,ht1⟩ hB3 hD3 hi3
    simp only[go_sem,em]
    refine z0s hg hB3 hs hD3 hi3 ?_
    rintro v D4 i4 ⟨t2,rfl,ht2⟩ hB4 hD4 hi4
    have l1:=ht1.2.1
    have l2:=ht2.2.1
    simp only[go_sem,z3g]
    rw[z0a (op2 (o:=8) (i:=8) rfl (by omega) (by omega))]
    simp only[go_sem,]
    rw[z1c]
    exact hR _ _ i4 (by rw[z0w hB4 hs];exact hD4) hi4 ⟨_,rfl,(GT.op2 ht1 ht2 (.andor (k:=2) (.inr rfl)) (by omega) (by omega)).up (by omega) (by omega)⟩
 ·rcases hb0 with ⟨hb0,_⟩ | ⟨hb0,_⟩
  all_goals
   simp only[go_sem,hb0,z8,decide_true,decide_false,z7,j5]
   refine z0s hF hB2 hs hD2 hi2 ?_
   rintro v D3 i3 ⟨t1,rfl,ht1⟩ hB3 hD3 hi3
   simp only[go_sem,]
   rw[z1c]
   exact hR _ _ i3 (by rw[z0w hB3 hs];exact hD3) hi3 ⟨_,rfl,ht1.up (by omega) (by omega)⟩
theorem x9w (hl:q4y l) (hV:V.length≤400) (hN:x2q l):∀ d,d≤6→j2o l V d
 | 0,_=>y4h hl hV (by omega) (q2f hl hV hN 2 (by omega)).2 fun e h=>by omega
 | d + 1,hd=>y4h hl hV hd (q2f hl hV hN 2 (by omega)).2 fun e h=>by
   obtain rfl:e=d:=by omega
   exact x9w hl hV hN e (by omega)
theorem y4i {s:Nat} {u:Tip} (hl:q4y l) (hV:V.length≤400) (hN:x2q l) (h1:1≤s) (h2:s≤4):GenOk l 119 [nat s, .sl (V.map z1k) u] (x0x V s 5 66):=by
 have hT:=(q2f hl hV hN 1 (by omega)).1 s h1 h2
 have hTB:=y4c (s:=s) (e:=1)
 refine GenOk.of rfl u4h rfl rfl rfl (az:=[nat s, .sl (V.map z1k) .no]) rfl (by simp[idsL,z3j,z5x]) fun D B p g i clk T hB hs hD hi hR=> ?_
 simp only[go_sem,y3j,hB,nat]
 refine z0s (z3u hl (by decide) (by decide)) hB hs hD hi ?_
 rintro v D2 i2 ⟨r,rfl,hr1,hr2⟩ hB2 hD2 hi2
 simp only[go_sem,]
 refine z8p (fun hc=> ?_) (fun hc=> ?_)
 ·simp only[go_sem,]
  refine z0s hT hB2 hs hD2 hi2 ?_
  rintro v D3 i3 ⟨t1,rfl,ht1⟩ hB3 hD3 hi3
  simp only[go_sem,]
  rw[z1c]
  exact hR _ _ i3 (by rw[z0w hB3 hs];exact hD3) hi3 ⟨_,rfl,ht1.up (by omega) (by omega)⟩
 ·simp only[go_sem,]
  refine z0s (q2e hl h1 h2 hV) hB2 hs hD2 hi2 ?_
  rintro v D3 i3 ⟨t1,rfl,ht1⟩ hB3 hD3 hi3
  simp only[go_sem,]
  rw[z1c]
  exact hR _ _ i3 (by rw[z0w hB3 hs];exact hD3) hi3 ⟨_,rfl,ht1.up (by omega) (by omega)⟩
end
section
variable {l:List Int} {V:List Var} {ps:List Func}
def x6f (ps:List Func):Prop:=0 < ps.length∧ps.length≤5∧∀ f∈ps,f.args.length≤3∧∀ s∈f.args,1≤s∧s≤4
def AppOk (ps:List Func) (V:List Var) (a:App):Prop:=∃ f∈ps,a.pred=f.name∧a.args.length=f.args.length∧∀ q∈f.args.zip a.args,GT V q.1 5 66 q.2
theorem z8q {l:List Func} {i:Nat} {h:List AObj} {t:Tip} {k:IntKind} (hi:i < l.length):z1m h 3 (.sl (l.map z1f) t) (.int k (i:Int))=some (.iptr [.str l[i].name, .sl (l[i].args.map nat) .no,nat l[i].result] 0,h):=z3a hi rfl rfl
theorem q6w {l:List Nat} {i:Nat} {h:List AObj} {t:Tip} {k:IntKind} (hi:i < l.length):z1m h 1 (.sl (l.map nat) t) (.int k (i:Int))=some (.iptr [nat l[i]] 0,h):=z3a hi rfl rfl
theorem k4d {ps:List Func}:(AV.sl (ps.map z1f) .no).ids=[]:=k3q z5g
theorem j5d {α β:Type} {y:β}:∀ {ys:List β} {xs:List α} (h:ys.length < xs.length),xs.zip (ys++[y])=xs.zip ys++[(xs[ys.length],y)]
 | [],x::xs,_=>by simp
 | z::ys,x::xs,h=>by
   have:=j5d (y:=y) (ys:=ys) (xs:=xs) (by simpa using h)
   simp[this]
theorem y4j {u w:Tip} (hl:q4y l) (hV:V.length≤400) (hN:x2q l) (hP:x6f ps):GenOk l 68 [.sl (ps.map z1f) u, .sl (V.map z1k) w] (fun v=>∃ a,v=z2b a∧AppOk ps V a):=by
 obtain⟨hp0,hp5,hpf⟩:=hP
 refine GenOk.of rfl g4k rfl rfl rfl (az:=[.sl (ps.map z1f) .no, .sl (V.map z1k) .no]) rfl (by simp[idsL,k4d,z5x]) fun D B p g i clk T hB hs hD hi hR=> ?_
 simp only[go_sem,u9t,hB,z6]
 refine z0s (z3u hl (by omega) (by omega)) hB hs hD hi ?_
 rintro v D2 i2 ⟨r,rfl,hr1,hr2⟩ hB2 hD2 hi2
 obtain⟨k,rfl⟩:∃ k:Nat,r=k:=⟨r.toNat,by omega⟩
 have hk:k < ps.length:=by omega
 have hf:=hpf ps[k] (j9 hk)
 generalize hfk:ps[k]=f at hf
 have hmem:f∈ps:=hfk ▸ j9 hk
 simp only[go_sem,hB2,z8q hk,hfk,nat]
 refine z1t (fun m q=>∃ (j:Nat) (acc:List Term) (t:Tip) (D:List AObj) (i g0 g1 g2:Nat) (o3 o4:AObj),j≤f.args.length∧m=f.args.length - j∧acc.length=j∧(∀ q∈f.args.zip acc,GT V q.1 5 66 q.2)∧D.length=B∧D[p]? =some (z3d g l i)∧i≤l.length∧
  q.ts 0= .ptr p g 0 0∧q.ts 2= .sl (V.map z1k) .no∧q.ts 6= .ptr (B + 0) g0 0 0∧q.ts 7= .ptr (B + 1) g1 0 0∧q.ts 8= .ptr (B + 2) g2 0 0∧q.ts 9= .int .i64 j∧
  q.h=D++[.blk g0 [.agg [.str [], .sl [] .nil]] false false 0, .blk g1 [.agg [.str f.name, .sl (f.args.map nat) .no, .int .i64 (f.result:Int)]] false false 0, .blk g2 [.agg [.str f.name, .sl (acc.map z0k) t]] false false 0,o3,o4]∧z8x B 4 o4 t 1) f.args.length ?_ ?_
 ·exact⟨0,[], .nil,D2,i2,_,_,_,_,_,by simp,rfl,rfl,by simp,hB2,hD2,hi2,rfl,rfl,rfl,rfl,rfl,rfl,rfl, .inl rfl⟩
 clear hB2 hD2 hi2 hB hD hi
 rintro m ⟨ts,h,clk⟩ P ⟨j,acc,t,D,i,g0,g1,g2,o3,o4,hj,rfl,hal,hacc,hB,hD,hi,q0,q2,q6,q7,q8,q9,rfl,ht⟩ hn he hr
 dsimp only at q0 q2 q6 q7 q8 q9
 simp only[go_sem,q0,q2,q6,q7,q8,q9,hB,z6,w2b]
 refine z8p (fun hb=> ?_) (fun hb=> ?_)
 ·have hlt:j < f.args.length:=by simp at hb;omega
  have hsj:=hf.2 f.args[j] (j9 hlt)
  have e1:IntKind.i64.wrap ((j:Int) + 1)=((j + 1:Nat):Int):=z0e (by omega) (by omega)
  simp only[go_sem,q0,q2,q6,q7,q8,q9,hB,z1a,q6w hlt]
  refine z0s (y4i hl hV hN hsj.1 hsj.2) hB hs hD hi ?_
  rintro v D1 i1 ⟨t1,rfl,ht1⟩ hB1 hD1 hi1
  simp only[go_sem,q0,q2,q6,q7,q8,q9,hB1,z3g]
  rw[show [z0k t1]=[t1].map z0k from rfl,z0q hB1 rfl ht z4u z4u (by simp only[z6,w0];omega)]
  have happ:acc.map z0k++[z0k t1]=(acc++[t1]).map z0k:=by simp
  simp only[go_sem,q0,q2,q6,q7,q8,q9,hB1,e1,happ]
  refine⟨by simp[z1b,apart,z0j,z0z,z1d,AOp.isCall,hB,z3j,z0c];omega, ?_⟩
  refine hn (f.args.length - (j + 1)) _ (by omega) ⟨j + 1,acc++[t1],_,D1,i1,g0,g1,g2,_,_,hlt,rfl,by simp[hal], ?_,hB1,hD1,hi1,q0,q2,q6,q7,q8,rfl,rfl, .inr (.inr ⟨_,rfl,rfl⟩)⟩
  subst hal
  rw[j5d hlt]
  intro q hq
  rw[j6,u7] at hq
  rcases hq with hq | rfl
  ·exact hacc q hq
  ·exact ht1
 ·have hjf:j=f.args.length:=by simp at hb;omega
  simp only[go_sem,q0,q2,q6,q7,q8,q9,hB]
  refine he _ _ ?_
  simp only[go_sem,q0,q2,q6,q7,q8,q9,hB]
  have hid:(AV.agg [.str f.name, .sl (acc.map z0k) t]).cv.ids=[]:=z8b ⟨f.name,acc⟩
  rw[z2n rfl hid]
  exact hR _ _ i (by rw[z0w hB hs];exact hD) hi ⟨⟨f.name,acc⟩,rfl,f,hmem,rfl,by rw[hal,hjf],hacc⟩
end
section
variable {l:List Int} {V:List Var} {ps:List Func}
theorem GenOk.conv {f:Nat} {args args':List AV} {af:AFun} {R:AV→Prop} (h:GenOk l f args R) (hext:Gam.ext f=none) (hfn:Gam.fn f=some af) (hb:af.byref=[]) (ho:z3x args=[]) (ho':z3x args'=[]) (he:cvL args'=cvL args):GenOk l f args' R:=by
 have hob:∀ s g,z3x (.ptr s g 0 0::args)=[]:=fun s g=>by simp[z3x,AV.obs,ho]
 have hob':∀ s g,z3x (.ptr s g 0 0::args')=[]:=fun s g=>by simp[z3x,AV.obs,ho']
 have hcv:∀ s g,cvL (.ptr s g 0 0::args')=cvL (.ptr s g 0 0::args):=fun s g=>by simp[cvL,he]
 have key:∀ k s g h clk,z5c Gam k f (.ptr s g 0 0::args') h clk=z5c Gam k f (.ptr s g 0 0::args) h clk:=by
  intro k s g h clk
  unfold z5c z0o
  simp only[hext,hfn,hb,z1p (hob s g),z1p (hob' s g),z4s (hob s g),z4s (hob' s g),hcv s g]
 have kf:∀ s g h,z0y Gam f (.ptr s g 0 0::args') h=z0y Gam f (.ptr s g 0 0::args) h:=by
  intro s g h
  unfold z0y
  simp only[hext,hfn,hb,z1p (hob s g),z1p (hob' s g),hob s g,hob' s g,hcv s g]
 intro hh s g i clk Q h1 h2 h3
 obtain⟨⟨k,v,h',c,h4,h5⟩,h6⟩:=h hh s g i clk Q h1 h2 h3
 exact⟨⟨k,v,h',c,by rw[key];exact h4,h5⟩,by rw[kf];exact h6⟩
def z1w:List Var:=[⟨[120],2⟩,⟨[121],2⟩,⟨[122],3⟩,⟨[119],3⟩,⟨[112],1⟩,⟨[98],1⟩,⟨[97],4⟩,⟨[99],4⟩]
theorem y4k:Pure Gam 67 [] (.sl (z1w.map z1k) .no):=Pure.tab (tab:=v8z) rfl rfl rfl
def y4l (ps:List Func) (V:List Var) (a:App):Prop:=(a.pred=[]∧a.args=[])∨AppOk ps V a
def ClauseOk (ps:List Func) (c:Clause):Prop:=List.Sublist c.vars z1w∧c.body.length≤2∧(∀ a∈c.body,AppOk ps c.vars a)∧GT c.vars 1 11 3199 c.guard∧y4l ps c.vars c.head
theorem w3a {B p g i clk g0:Nat} {D:List AObj} {ts:Tmps} {o b c d x y:AObj} {ks:List Kf} {Q:Post} (hl:q4y l) (hB:D.length=B) (hs:p < B) (hD:D[p]? =some (z3d g l i)) (hi:i≤l.length) {q:Bool}
  (h0:ts 0= .ptr p g 0 0) (h1:ts 1= .sl (ps.map z1f) .no) (h2:ts 2= .bool q) (h6:ts 6= .ptr (B + 0) g0 0 0) (h7:ts 7= .sl (z1w.map z1k) .no) (h8:ts 8= .sl [] .nil) (h9:ts 9= .int .i64 0)
  (hQ:∀ (acc:List Var) (t:Tip) (ts':Tmps) (D':List AObj) (i':Nat) (b c d x y:AObj) (clk':Nat),acc.Sublist z1w→D'.length=B→D'[p]? =some (z3d g l i')→i'≤l.length→ts' 0= .ptr p g 0 0→ts' 1= .sl (ps.map z1f) .no→ts' 2= .bool q→ts' 6= .ptr (B + 0) g0 0 0→ts' 8= .sl (acc.map z1k) t→K Gam B (.exit 0) ks ⟨ts',D'++[o,b,c,d,x,y],clk'⟩ Q):
  K Gam B (.loop k9b) ks ⟨ts,D++[o,b,c,d,x,y],clk⟩ Q:=by
 refine z1t (fun m s=>∃ (j:Nat) (acc:List Var) (t:Tip) (D:List AObj) (i:Nat) (b c d x y:AObj),j≤8∧m=8 - j∧acc.Sublist (z1w.take j)∧D.length=B∧D[p]? =some (z3d g l i)∧i≤l.length∧s.ts 0= .ptr p g 0 0∧s.ts 1= .sl (ps.map z1f) .no∧s.ts 2= .bool q∧s.ts 6= .ptr (B + 0) g0 0 0∧s.ts 7= .sl (z1w.map z1k) .no∧s.ts 8= .sl (acc.map z1k) t∧s.ts 9= .int .i64 (j:Int)∧s.h=D++[o,b,c,d,x,y]∧z8x B 2 c t 2) 8 ?_ ?_
 ·exact⟨0,[], .nil,D,i,_,_,_,_,_,by omega,rfl,by simp,hB,hD,hi,h0,h1,h2,h6,h7,h8,h9,rfl, .inl rfl⟩
 clear h0 h1 h2 h6 h7 h8 h9 hB hD hi
 rintro m ⟨ts,h,clk⟩ P ⟨j,acc,t,D,i,b,c,d,x,y,hj,rfl,hacc,hB,hD,hi,h0,h1,h2,h6,h7,h8,h9,rfl,ht⟩ hn he hr
 dsimp only at h0 h1 h2 h6 h7 h8 h9
 have hlen:z1w.length=8:=rfl
 simp only[go_sem,h0,h1,h2,h6,h7,h8,h9,z6,hlen,k9b]
 refine z8p (fun hb=> ?_) (fun hb=> ?_)
 ·have hlt:j < z1w.length:=by simp at hb;omega
  have e1:IntKind.i64.wrap ((j:Int) + 1)=((j + 1:Nat):Int):=z0e (by omega) (by omega)
  have hal:acc.length≤8:=by have:=hacc.length_le;simp at this;omega
  simp only[go_sem,h0,h1,h2,h6,h7,h8,h9]
  refine z0s (z3u hl (by decide) (by decide)) hB hs hD hi ?_
  rintro v D2 i2 ⟨r,rfl,hr1,hr2⟩ hB2 hD2 hi2
  simp only[go_sem,h0,h1,h2,h6,h7,h8,h9]
  refine z8p (fun hc=> ?_) (fun hc=> ?_)
  ·simp only[go_sem,h0,h1,h2,h6,h7,h8,h9,z7o hlt,nat]
   rw[show [AV.agg [.str z1w[j].name, .int .i64 (z1w[j].sort:Int)]]=[z1w[j]].map z1k from rfl,z0q hB2 rfl ht z3w z3w (by simp only[z6,w0];omega)]
   simp only[go_sem,h0,h1,h2,h6,h7,h8,h9,e1]
   refine hn (8 - (j + 1)) _ (by omega) ⟨j + 1,acc++[z1w[j]],_,D2,i2,_,_,_,_,_,by omega,rfl, ?_,hB2,hD2,hi2,h0,h1,h2,h6,h7, ?_,rfl,rfl, .inr (.inr ⟨_,rfl,rfl⟩)⟩
   ·rw[w8 hlt]
    exact hacc.append (List.Sublist.refl _)
   ·simp only[z0b,z0,cond_true,cond_false,v5,k8,w7]
  ·simp only[go_sem,h0,h1,h2,h6,h7,h8,h9,e1]
   refine hn (8 - (j + 1)) _ (by omega) ⟨j + 1,acc,t,D2,i2,_,_,_,_,_,by omega,rfl, ?_,hB2,hD2,hi2,h0,h1,h2,h6,h7,h8,rfl,rfl,ht⟩
   rw[w8 hlt]
   exact hacc.trans (List.sublist_append_left _ _)
 ·simp only[go_sem,]
  refine he _ _ ?_
  exact hQ acc t _ D i _ _ _ _ _ _ (hacc.trans (List.take_sublist _ _)) hB hD hi (by simp[z0b,h0]) (by simp[z0b,h1]) (by simp[z0b,h2]) (by simp[z0b,h6]) (by simp[z0b,h8])
end
section
variable {l:List Int} {V:List Var} {ps:List Func}
def k4e (V:List Var) (tv:Tip) (body:List App) (tb:Tip):AV:= .agg [.sl (V.map z1k) tv, .sl (body.map z2b) tb, .sl [] .nil, .str [], .sl [] .nil]
theorem k9q {B p g i clk g0 g3 n:Nat} {D:List AObj} {ts:Tmps} {o b c x y:AObj} {ks:List Kf} {Q:Post} {tv:Tip} (hl:q4y l) (hV:V.length≤400) (hN:x2q l) (hP:x6f ps) (hn:n≤2) (hB:D.length=B) (hs:p < B) (hD:D[p]? =some (z3d g l i)) (hi:i≤l.length) {q:Bool}
  (h0:ts 0= .ptr p g 0 0) (h1:ts 1= .sl (ps.map z1f) .no) (h2:ts 2= .bool q) (h6:ts 6= .ptr (B + 0) g0 0 0) (h8:ts 8= .sl (V.map z1k) tv) (h10:ts 10= .ptr (B + 3) g3 0 0) (h11:ts 11= .int .i64 (n:Int))
  (hQ:∀ (acc:List App) (t:Tip) (ts':Tmps) (D':List AObj) (i':Nat) (b c x y:AObj) (clk':Nat),acc.length≤2→(∀ a∈acc,AppOk ps V a)→D'.length=B→D'[p]? =some (z3d g l i')→i'≤l.length→ts' 0= .ptr p g 0 0→ts' 1= .sl (ps.map z1f) .no→ts' 2= .bool q→ts' 6= .ptr (B + 0) g0 0 0→ts' 8= .sl (V.map z1k) tv→ts' 10= .ptr (B + 3) g3 0 0→K Gam B (.exit 2) ks ⟨ts',D'++[o,b,c, .blk g3 [k4e V tv acc t] false false 0,x,y],clk'⟩ Q):
  K Gam B (.loop k3f) ks ⟨ts,D++[o,b,c, .blk g3 [k4e V tv [] .nil] false false 0,x,y],clk⟩ Q:=by
 refine z1t (fun m s=>∃ (n:Nat) (acc:List App) (t:Tip) (D:List AObj) (i:Nat) (b c x y:AObj),m=n∧acc.length + n≤2∧(∀ a∈acc,AppOk ps V a)∧D.length=B∧D[p]? =some (z3d g l i)∧i≤l.length∧s.ts 0= .ptr p g 0 0∧s.ts 1= .sl (ps.map z1f) .no∧s.ts 2= .bool q∧s.ts 6= .ptr (B + 0) g0 0 0∧s.ts 8= .sl (V.map z1k) tv∧s.ts 10= .ptr (B + 3) g3 0 0∧s.ts 11= .int .i64 (n:Int)∧s.h=D++[o,b,c, .blk g3 [k4e V tv acc t] false false 0,x,y]∧z8x B 5 y t 2) n ?_ ?_
 ·exact⟨n,[], .nil,D,i,_,_,_,_,rfl,by simpa using hn,by simp,hB,hD,hi,h0,h1,h2,h6,h8,h10,h11,rfl, .inl rfl⟩
 clear h0 h1 h2 h6 h8 h10 h11 hB hD hi
 rintro m ⟨ts,h,clk⟩ P ⟨n,acc,t,D,i,b,c,x,y,rfl,hlen,hacc,hB,hD,hi,h0,h1,h2,h6,h8,h10,h11,rfl,ht⟩ hnx he hr
 dsimp only at h0 h1 h2 h6 h8 h10 h11
 simp only[go_sem,h0,h1,h2,h6,h8,h10,h11,k3f]
 refine z8p (fun hb=> ?_) (fun hb=> ?_)
 ·have hpos:0 < m:=by simp at hb;omega
  obtain⟨n',rfl⟩:∃ n',m=n' + 1:=⟨m - 1,by omega⟩
  have en:IntKind.i64.wrap (((n' + 1:Nat):Int) - 1)=(n':Int):=z5r (by omega)
  simp only[go_sem,h0,h1,h2,h6,h8,h10,h11,z1a,hB,k4e]
  refine z0s (y4j hl hV hN hP) hB hs hD hi ?_
  rintro v D1 i1 ⟨a,rfl,ha⟩ hB1 hD1 hi1
  have happ:acc.map z2b++[z2b a]=(acc++[a]).map z2b:=by simp
  have hbs:∀ h,bsV h (.agg [.str [], .sl [] .nil]) 1 [0] [z2b a]=some (.sl [z2b a] .full,h):=fun h=>u4t rfl rfl rfl rfl
  simp only[go_sem,h0,h1,h2,h6,h8,h10,h11,hB1,hbs]
  rw[show [z2b a]=[a].map z2b from rfl,z0q hB1 rfl ht z4z z4z (by simp only[z6,w0];omega)]
  simp only[go_sem,h0,h1,h2,h6,h8,h10,h11,hB1,en,happ]
  refine⟨by simp[z1b,apart,z0j,z0z,z1d,AOp.isCall,hB];omega, ?_⟩
  refine hnx n' _ (by omega) ⟨n',acc++[a],_,D1,i1,_,_,_,_,rfl,by simp;omega, ?_,hB1,hD1,hi1,h0,h1,h2,h6,h8,h10,rfl,rfl, .inr (.inr ⟨_,rfl,rfl⟩)⟩
  intro a' ha'
  rw[j6,u7] at ha'
  rcases ha' with ha' | rfl
  ·exact hacc a' ha'
  ·exact ha
 ·simp only[go_sem,]
  refine he _ _ ?_
  exact hQ acc t _ D i _ _ _ _ _ (by omega) hacc hB hD hi (by simp[z0b,h0]) (by simp[z0b,h1]) (by simp[z0b,h2]) (by simp[z0b,h6]) (by simp[z0b,h8]) (by simp[z0b,h10])
theorem u5b {u:Tip} {q:Bool} (hl:q4y l) (hN:x2q l) (hP:x6f ps):GenOk l 27 [.sl (ps.map z1f) u, .bool q] (fun v=>∃ c,v=z0g c∧ClauseOk ps c):=by
 refine GenOk.of rfl u9q rfl rfl rfl (az:=[.sl (ps.map z1f) .no, .bool q]) rfl (by simp[idsL,AV.ids,z0c z5g]) fun D B p g i clk T hB hs hD hi hR=> ?_
 simp only[go_sem,u9p,hB]
 rw[z0a y4k]
 simp only[go_sem,]
 refine w3a (q:=q) (ps:=ps) hl hB hs hD hi rfl rfl rfl rfl rfl rfl rfl ?_
 clear hB hD hi
 intro V tv ts D i b c d x y clk1 hsub hB hD hi h0 h1 h2 h6 h8
 have hV:V.length≤400:=by have:=hsub.length_le;simp[z1w] at this;omega
 simp only[go_sem,h0,h1,h2,h6,h8,hB]
 refine z0s (z3u hl (by decide) (by decide)) hB hs hD hi ?_
 clear hB hD hi
 rintro v D i ⟨r,rfl,hr1,hr2⟩ hB hD hi
 obtain⟨n,rfl⟩:∃ k:Nat,r=k:=⟨r.toNat,by omega⟩
 simp only[go_sem,h0,h1,h2,h6,h8,hB]
 refine k9q (g0:=clk) (n:=n) (q:=q) (V:=V) (tv:=tv) hl hV hN hP (by omega) hB hs hD hi (by simp[z0b,h0]) (by simp[z0b,h1]) (by simp[z0b,h2]) (by simp[z0b,h6]) (by simp[z0b,h8]) rfl rfl ?_
 clear hB hD hi
 intro body tb ts2 D i b2 c2 x2 y2 clk2 hlen hbody hB hD hi q0 q1 q2 q6 q8 q10
 simp only[go_sem,q0,q1,q2,q6,q8,q10,hB,k4e]
 have hG:=GenOk.conv (args':=[nat 3, .sl (V.map z1k) tv]) (x9w (V:=V) hl hV hN 3 (by omega)) rfl u9v rfl rfl rfl rfl
 refine z0s hG hB hs hD hi ?_
 clear hB hD hi
 rintro v D i ⟨gd,rfl,hgd⟩ hB hD hi
 simp only[go_sem,q0,q1,q2,q6,q8,q10,hB,z0k]
 refine z8p (fun hc=> ?_) (fun hc=> ?_)
 ·simp only[go_sem,q0,q1,q2,q6,q8,q10,hB]
  refine z0s (y4j hl hV hN hP) hB hs hD hi ?_
  clear hB hD hi
  rintro v D i ⟨a,rfl,ha⟩ hB hD hi
  simp only[go_sem,q0,q1,q2,q6,q8,q10,hB,z2b]
  have hid:(AV.agg [.sl (V.map z1k) tv, .sl (body.map z2b) tb, .sl (gd.map eNode) .no, .str a.pred, .sl (a.args.map z0k) .no]).cv.ids=[]:=z5w ⟨V,body,gd,a⟩
  rw[z2n rfl hid]
  exact hR _ _ i (by rw[z0w hB hs];exact hD) hi ⟨⟨V,body,gd,a⟩,rfl,hsub,hlen,hbody,hgd, .inr ha⟩
 ·simp only[go_sem,q0,q1,q2,q6,q8,q10,hB]
  have hid:(AV.agg [.sl (V.map z1k) tv, .sl (body.map z2b) tb, .sl (gd.map eNode) .no, .str [], .sl [] .nil]).cv.ids=[]:=z5w ⟨V,body,gd,⟨[],[]⟩⟩
  rw[z2n rfl hid]
  exact hR _ _ i (by rw[z0w hB hs];exact hD) hi ⟨⟨V,body,gd,⟨[],[]⟩⟩,rfl,hsub,hlen,hbody,hgd, .inl ⟨rfl,rfl⟩⟩
end
theorem x6g {h:List AObj} {e n:Nat} {xs:List AV} {t:Tip} {k:IntKind} (hn:n≤xs.length) (he:z4q e xs=true):slV h (some e) (.sl xs t) none (some (.int k (n:Int))) none=some (.sl (xs.take n) (if n=xs.length then (if t= .nil then .nil else t) else .no),h):=by
 simp[slV,z2y,z5b,hn,he]
theorem u5c {zs:List Int} {u:Tip} {h:List AObj} {clk:Nat}:∃ k g c,z5c Gam k 15 [.sl (q3k zs) u] h clk=some (.ptr h.length g 0 0,h++[z3d g (zs.take 400) 0],c):=by
 have hw:∀ (D:List AObj) (B:Nat),D.length=B→K Gam B k9a.body [] ⟨q0u [.sl (q3k zs) .no],D++j1 k9a.nslots .dead,clk⟩ (fun e s=>e= .ret∧∃ g,s.ts 2= .ptr (B + 0) g 0 0∧s.h=D++[z3d g (zs.take 400) 0]):=by
  intro D B hB
  have hm:(if (400:Int) < (zs.length:Int) then (400:Int) else (zs.length:Int))=((min zs.length 400:Nat):Int):=by
   split <;> omega
  have hh:z4q 1 (q3k zs)=true:=by cases zs <;> rfl
  have ht:(q3k zs).take (min zs.length 400)=q3k (zs.take 400):=by
   rw[q3k,q3k,←List.map_take]
   congr 1
   rcases Nat.le_total zs.length 400 with h | h
   ·rw[Nat.min_eq_left h,List.take_length,List.take_of_length_le h]
   ·rw[Nat.min_eq_right h]
  simp only[go_sem,k9a,hB,q3e,hm,x6g (xs:=q3k zs) (n:=min zs.length 400) (by rw[q3e];omega) hh,ht]
  exact⟨_,rfl,by simp[z3d]⟩
 obtain⟨k,e,s,he,rfl,g,hp,hs⟩:=hw (maskFrom [] 0 h) _ rfl
 rw[z5f] at he hp
 have hpa:z1i h k9a.byref 0 [.sl (q3k zs) u]=some [.sl (q3k zs) .no]:=rfl
 have hl:z0p k9a.byref 0 [.sl (q3k zs) u]=[]:=rfl
 have hids:idsL [.sl (q3k zs) .no]=[]:=by simp[idsL,AV.ids,q3d]
 have hres:z1y s.h s.ts k9a.results=some [.ptr (h.length + 0) g 0 0]:=by simp only[k9a,z1y,hp,k6]
 refine⟨k,g,s.clk, ?_⟩
 unfold z5c z0o
 simp only[show Gam.ext 15=none from rfl,g4f,hpa,hl,freezeAll,hids,reach,he,show k9a.owned=false from rfl,Bool.false_eq_true,if_false,hres,z1j,conv,AV.obs,z7w]
 rw[if_neg (by simp[AV.ids])]
 rw[hs,←z5f (T:=[]) (h:=h) (k:=0),List.drop_left]
 simp
theorem z4m {l:List Int} {f B k g i clk gg:Nat} {args:List AV} {R:AV→Prop} {D L:List AObj} {m:Md} {dst:Option Nat} {os:List AOper} {ts:Tmps} {ks:List Kf} {Q:Post} (hg:GenOk l f args R) (hB:D.length=B) (hL:L[k]? =some (z3d g l i)) (hi:i≤l.length)
  (hQ:∀ v i',R v→i'≤l.length→O Gam B (m.add ([B + k],[B + k])) (gg + 1) os ⟨z8t ts dst v,D++L.set k (z3d g l i'),clk⟩ ks Q):CK Gam B f (.ptr (B + k) g 0 0::args) (D++L) clk m dst gg os ts ks Q:=by
 unfold CK
 have hD':(D++L)[B + k]? =some (z3d g l i):=by rw[z2u hB];exact hL
 obtain⟨_,hf⟩:=hg (D++L) (B + k) g i clk (fun _ _ _=>True) hD' hi (fun _ _ _ _=>trivial)
 refine (hg (D++L) (B + k) g i clk _ hD' hi fun v i' hi' hv=> ?_).1
 refine j4z (f':=([B + k],[B + k])) ?_ ?_ ?_
 ·rw[hf];exact fun x hx=>hx
 ·rw[hf];exact fun x hx=>(List.mem_filter.1 hx).1
 ·rw[z2a hB]
  exact hQ v i' hv hi'
def z2d:List Func:=[⟨[80],[2],1⟩,⟨[81],[2,2],1⟩,⟨[82],[1,2,2],1⟩,⟨[90],[],1⟩,⟨[83],[3,4],1⟩]
def z6r:Func:=⟨[78],[2],1⟩
def allPreds:List Func:=[⟨[80],[2],1⟩,⟨[81],[2,2],1⟩,⟨[82],[1,2,2],1⟩,⟨[90],[],1⟩,⟨[83],[3,4],1⟩,⟨[78],[2],1⟩]
theorem k9r {n:Nat} (h1:0 < n):x6f (z2d.take n):=by
 refine⟨by simp[z2d];omega,by simp[z2d];omega,fun f hf=> ?_⟩
 have:=List.mem_of_mem_take hf
 simp only[z2d,List.mem_cons,List.not_mem_nil,or_false] at this
 rcases this with rfl | rfl | rfl | rfl | rfl <;> simp
def SysOk (s:Sys):Prop:=(∃ n,2≤n∧n≤5∧s.preds=z2d.take n)∧s.clauses.length≤8∧∀ c∈s.clauses,ClauseOk s.preds c
theorem j5e {zs:List Int} {u:Tip} {B gg clk:Nat} {D L:List AObj} {m:Md} {dst:Option Nat} {os:List AOper} {ts:Tmps} {ks:List Kf} {Q:Post} (hQ:∀ g c,O Gam B (m.add (z3q (z0y Gam 15 [.sl (q3k zs) u] (D++L)) (D++L) ((D++L)++[z3d g (zs.take 400) 0]))) (gg + 1) os ⟨z8t ts dst (.ptr (D++L).length g 0 0),(D++L)++[z3d g (zs.take 400) 0],c⟩ ks Q):CK Gam B 15 [.sl (q3k zs) u] (D++L) clk m dst gg os ts ks Q:=by
 obtain⟨k,g,c,hk⟩:=u5c (u:=u) (h:=D++L) (clk:=clk)
 exact⟨k,_,_,_,hk,hQ g c⟩
end Go.Proofs.YtkollgjffkdliaaGreatDoor.Am
