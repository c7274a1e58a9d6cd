/- Walking: the value of a node Walking: terms are evaluated Walking: terms are valid Walking: the value of a term, whether a formula holds, environments Walking: small values, told exactly How large val -/
import Derived.Test.YtkollgjffkdliaaGreatDoorK28
open Bool renaming not_true → z8
open Int renaming cast_ofNat_Int → z9,reduceEq → z7
open List renaming append_assoc → u4,cons_append → y6,drop_eq_getElem_cons → b6,getD_eq_getElem?_getD → n8,getElem?_eq_getElem → v9,getElem_mem → x8,length_append → k7,length_cons → v5,length_map → z6,length_nil → u3,length_singleton → v6,length_take → u7,map_append → v8,map_cons → j4,map_nil → k8,mem_append → x4,mem_cons → j6,mem_cons_self → j7,mem_filter → m0,mem_iff_getElem → d5,mem_singleton → y3,replicate_succ → p8,take_length → b7,take_succ_eq_append_getElem → w7
open Nat renaming add_assoc → d3,add_mul → k9,gcd → j8,le_refl → x7,le_trans → j1,mul_comm → u1,mul_le_mul_right → w8,pow_le_pow_right → b9,zero_add → k6
set_option linter.all false
namespace Go.Proofs.YtkollgjffkdliaaGreatDoor.Am
open Go
set_option maxRecDepth 100000
section
def eB (p:List Nat×Val):AV:= .agg [.str p.1,nat p.2.s, .bool p.2.b, .str p.2.t, .sl (z3b (p.2.l.map fun q=>z0f q.1)) .no, .sl (z3b (p.2.l.map fun q=>z0f q.2)) .no]
def evO (T:Term) (env:List (List Nat×Val)):AV:= .agg [.sl (T.map eNode) .no, .sl (env.map eB) .no, .sl [] .no]
theorem q0z (p:List Nat×Val):(eB p).ids=[]:=by simp[eB,AV.ids,z0i,z1i,nat]
theorem k3m {T:Term} {env:List (List Nat×Val)}:(evO T env).ids=[]:=by simp[evO,AV.ids,z0i,z0d z2x,z0d q0z]
theorem y3b {env:List (List Nat×Val)} {i:Nat} {h:List AObj} {t:Tip} {k:IntKind} (hi:i < env.length):z1v h 6 (.sl (env.map eB) t) (.int k (i:Int))=some (.iptr [.str env[i].1,nat env[i].2.s, .bool env[i].2.b, .str env[i].2.t, .sl (z3b (env[i].2.l.map fun q=>z0f q.1)) .no, .sl (z3b (env[i].2.l.map fun q=>z0f q.2)) .no] 0,h):=z3v hi rfl rfl
theorem VsOk.take {ss:List Nat} {M:Nat} {vs:List Val} (h:VsOk ss M vs):∀ i,VsOk (ss.take i) M (vs.take i):=by
 induction h with
 | nil=>intro i;simp only[List.take_nil];exact .nil
 | @cons m M2 s ss v vs h hr ih=>
   intro i
   cases i with
   | zero=>exact .nil
   | succ i=>exact .cons h (ih i)
theorem k3n {vs:List Val} {q:Qn} {v:Val}:x3l (vs++[v]) q=x9b (x3l vs q) v.q:=by simp[x3l]
theorem w1q {q:Qn}:decide (q6p q≤0)=(q.neg || decide (q.n=0)):=by
 unfold q6p
 by_cases h:q.n=0
 ·simp[h]
 ·cases hq:q.neg <;> simp[h]
theorem w1r {q:Qn} (hc:q.C):decide (q6p q < 0)=q.neg:=by
 unfold q6p
 by_cases h:q.n=0
 ·cases hq:q.neg
  ·simp[h]
  ·exact absurd h (hc.neg hq)
 ·cases hq:q.neg <;> simp[h]
section
variable {K:Nat} {V:List Var} {env:List (List Nat×Val)} {T:Term} {n:Node} {ss:List Nat} {s M:Nat} {ks:Term} {vs:List Val} {sl g:Nat} {u:Tip}
theorem k3o (he:q7n K V env) (hel:env.length≤1000) (hn:NodeOk V n ss s ks) (hv:VsOk ss M vs) (hvl:vs.length≤100000) (hM:M + K≤330000):Reads [(sl, .blk g [evO T env] false false 0)] 236 [.ptr sl g 0 0,eNode n, .sl (vs.map eV) u] (.tup [eV (nodeF env n vs), .int .i64 0]):=by
 have hlen:=hv.len
 refine Reads.of rfl w7o rfl rfl rfl (az:=[.ptr sl g 0 0,eNode n, .sl (vs.map eV) .no]) rfl (by simpa [z0i,AV.ids,z2x,z2q] using Cov.one (s:=sl) (o:= .blk g [evO T env] false false 0) (by simp[AObj.ids,z0i,k3m])) fun D B clk T' hB hS hlt hT=> ?_
 have h1:=hlt (sl, .blk g [evO T env] false false 0) (by simp)
 have b1:=z2m (g:=g) (hS (sl, .blk g [evO T env] false false 0) (by simp))
 dsimp only at h1 b1
 obtain⟨hK,he⟩:=he
 cases hn with
 | bool h=>
   rcases h with rfl | rfl
   ·rw[show nodeF env (bare 1 0) vs= .bool true by simp[nodeF,bare],z4l] at hT
    simp only[go_sem,z5k,hB,eNode,nat,bare,z9,z7,decide_true,decide_false,z0a (x1u _),z0t,z0s,z0g]
    rw[z0h rfl (by simp[z1k,AV.cv,cvL,AV.ids,z0i])]
    exact hT _ hS.app
   ·rw[show nodeF env (bare 2 0) vs= .bool false by simp[nodeF,bare],z4l] at hT
    simp only[go_sem,z5k,hB,eNode,nat,bare,z9,z7,decide_true,decide_false,z0a (x1u _),z0t,z0s,z0g]
    rw[z0h rfl (by simp[z1k,AV.cv,cvL,AV.ids,z0i])]
    exact hT _ hS.app
 | int h=>
   have hq:=x0u (x0v (s:=2) h)
   rename_i a
   rw[show nodeF env ⟨3,2,[],a,0⟩ vs= .num 2 (k2z 2 a) by simp[nodeF],q5n,hq.2.1] at hT
   simp only[go_sem,z5k,hB,eNode,nat,z9,z7,decide_true,decide_false,z0t,z0s,z0g]
   rw[z0h rfl (by simp[z1k,AV.cv,cvL,AV.ids,z0i,z1i])]
   exact hT _ hS.app
 | real h=>
   have hq:=x0u (q7v h)
   rename_i a
   rw[show nodeF env ⟨3,3,[],a,0⟩ vs= .num 3 (k2z 3 a) by simp[nodeF],q5n,hq.2.1] at hT
   simp only[go_sem,z5k,hB,eNode,nat,z9,z7,decide_true,decide_false,z0t,z0s,z0g]
   rw[z0h rfl (by simp[z1k,AV.cv,cvL,AV.ids,z0i,z1i])]
   exact hT _ hS.app
 | @var v ks h=>
   obtain⟨w,hw,hok⟩:=he v h
   rw[show nodeF env ⟨4,v.sort,v.name,[],0⟩ vs=w by simp[nodeF,k9e,hw],eV,value] at hT
   obtain⟨j,hj,hjw,hjn⟩:∃ (j:Nat) (hj:j < env.length),env[j]=(v.name,w)∧∀ k (hk:k < j),env[k].1≠v.name:=by
    rw[List.find?_eq_some_iff_getElem] at hw
    obtain⟨_,j,hj,e,hno⟩:=hw
    exact⟨j,hj,e,fun k hk e2=>by have:=hno k hk;simp[e2] at this⟩
   simp only[go_sem,z5k,hB,eNode,nat,z9,z7,decide_true,decide_false,z0t,z0s,z0g]
   refine z6h env.length (by omega) (fun i q=>∃ g4 g6:Nat,i≤j∧q.ts 0= .ptr sl g 0 0∧q.ts 4= .ptr (B + 0) g4 0 0∧q.ts 6= .ptr (B + 1) g6 0 0∧q.ts 8= .int .i64 (i:Int)∧q.h=D++[.blk g4 [.agg [.int .i64 4, .int .i64 (v.sort:Int), .str v.name, .str [], .int .i64 0]] false false 0, .blk g6 [.agg [.int .i64 0, .bool false, .str [], .sl [] .nil, .sl [] .nil]] false false 0]) ⟨_,_,Nat.zero_le _,rfl,rfl,rfl,rfl,rfl⟩ ?_ ?_
   ·rintro i hlt f1 f2 ts h clk P ⟨g4,g6,hij,q0,q4,q6,q8,rfl⟩ hnx hex hr
    dsimp only at q0 q4 q6 q8
    have hx:=fun h=>y3b (h:=h) (t:= .no) (k:= .i64) hlt
    by_cases hi:i=j
    ·subst hi
     rw[hjw] at hx
     have e1:decide (v.name=v.name)=true:=by simp
     have e2:decide ((w.s:Int)=(v.sort:Int))=true:=by rw[hok.s];simp
     simp only[go_sem,x4s,evO,nat,q0,q4,q6,q8,hB,f1,z1y hB h1,b1,z6,hx,e1,e2,decide_true,z8]
     refine hr _ ?_
     simp only[go_sem,q6,hB,z0t,z0s,z0g]
     rw[z0h rfl (by simp[z1k,AV.cv,cvL,AV.ids,z0i,z1i])]
     exact hT _ hS.app
    ·have e1:decide (env[i].1=v.name)=false:=decide_eq_false (hjn i (by omega))
     simp only[go_sem,x4s,evO,nat,q0,q4,q6,q8,hB,f1,f2,z1y hB h1,b1,z6,hx,e1]
     exact hnx _ ⟨g4,g6,by omega,q0,q4,q6,rfl,rfl⟩
   ·rintro f1 ts h clk P ⟨g4,g6,hij,q0,q4,q6,q8,rfl⟩ hex hr
    omega
 | not=>
   obtain⟨v,rfl,hu⟩:=hv.one
   rw[show nodeF env (bare 6 1) [v]= .bool (!v.b) by simp[nodeF,bare,at0],z4l] at hT
   have p:=k3k (v:=v) (u:= .no)
   rw[z4l] at p
   simp only[go_sem,z5k,hB,eNode,nat,bare,j4,k8,z9,z7,decide_true,decide_false,z0t,z0s,z0g,z0a p]
   rw[z0h rfl (by simp[z1k,AV.cv,cvL,AV.ids,z0i,z1i])]
   exact hT _ hS.app
 | @andor o k ks h=>
   rcases h with rfl | rfl
   ·rw[show nodeF env (bare 7 k) vs= .bool (vs.all Val.b) by simp[nodeF,bare],z4l] at hT
    have p:=x3n (o:=7) (vs:=vs) (u:= .no) (.inl rfl) (by omega)
    rw[z4l,if_neg (by omega)] at p
    simp only[z9] at p
    simp only[go_sem,z5k,hB,eNode,nat,bare,z9,z7,decide_true,decide_false,z0t,z0s,z0g,z0a p]
    rw[z0h rfl (by simp[z1k,AV.cv,cvL,AV.ids,z0i,z1i])]
    exact hT _ hS.app
   ·rw[show nodeF env (bare 8 k) vs= .bool (vs.any Val.b) by simp[nodeF,bare],z4l] at hT
    have p:=x3n (o:=8) (vs:=vs) (u:= .no) (.inr rfl) (by omega)
    rw[z4l,if_pos rfl] at p
    simp only[z9] at p
    simp only[go_sem,z5k,hB,eNode,nat,bare,z9,z7,decide_true,decide_false,z0t,z0s,z0g,z0a p]
    rw[z0h rfl (by simp[z1k,AV.cv,cvL,AV.ids,z0i,z1i])]
    exact hT _ hS.app
 | imp=>
   obtain⟨v,w,m,m',rfl,hu,hw,e⟩:=hv.two
   rw[show nodeF env (bare 9 2) [v,w]= .bool (!v.b || w.b) by simp[nodeF,bare,at0],z4l] at hT
   have p:=k3l (v:=v) (w:=w) (u:= .no)
   rw[z4l] at p
   simp only[go_sem,z5k,hB,eNode,nat,bare,j4,k8,z9,z7,decide_true,decide_false,z0t,z0s,z0g,z0a p]
   rw[z0h rfl (by simp[z1k,AV.cv,cvL,AV.ids,z0i,z1i])]
   exact hT _ hS.app
 | ite h1 h2=>
   obtain⟨v,w,x,m,m',m'',rfl,hu,hw,hx,e⟩:=hv.three
   cases hb:v.b
   ·rw[show nodeF env (bare 10 3) [v,w,x]=x by simp[nodeF,bare,at0,hb],eV,value] at hT
    simp only[go_sem,z5k,hB,eNode,nat,bare,j4,k8,q5o,y3a,hb,z9,z7,decide_true,decide_false,z0t,z0s,z0g]
    rw[z0h rfl (by simp[z1k,AV.cv,cvL,AV.ids,z0i,z1i])]
    exact hT _ hS.app
   ·rw[show nodeF env (bare 10 3) [v,w,x]=w by simp[nodeF,bare,at0,hb],eV,value] at hT
    simp only[go_sem,z5k,hB,eNode,nat,bare,j4,k8,q5o,x6d,hb,z9,z7,decide_true,decide_false,z0t,z0s,z0g]
    rw[z0h rfl (by simp[z1k,AV.cv,cvL,AV.ids,z0i,z1i])]
    exact hT _ hS.app
 | eq h1 h2=>
   obtain⟨v,w,m,m',rfl,hu,hw,e⟩:=hv.two
   rw[show nodeF env (bare 11 2) [v,w]= .bool (q6o v w) by simp[nodeF,bare,at0],z4l] at hT
   have p:=v3u (a:=v) (b:=w) hu (by omega)
   simp only[eV,value,nat] at p
   simp only[go_sem,z5k,hB,eNode,nat,bare,j4,k8,q5o,x6d,z9,z7,decide_true,decide_false,z0t,z0s,z0g,z0a p,z0a (x1u _)]
   rw[z0h rfl (by simp[z1k,AV.cv,cvL,AV.ids,z0i,z1i])]
   exact hT _ hS.app
 | cmp h hs=>
   obtain⟨v,w,m,m',rfl,hu,hw,e⟩:=hv.two
   obtain⟨q,rfl,q1,q2,q3⟩:=hu.numb hs
   obtain⟨r,rfl,r1,r2,r3⟩:=hw.numb hs
   have hqr:=q2.r q1 (by omega) (by omega)
   have hrr:=r2.r r1 (by omega) (by omega)
   have hsl:=v3q (M:=54 * (m + m')) q2 (y2v r2) (by omega) (by omega)
   have hsr:(k4l q r).R:=hsl.r (k2y q1 (v3o r1)) (by omega) (by omega)
   have p:=j5d hqr hrr hsr
   rcases h with rfl | rfl
   ·have hd:=w1q (q:=k4l q r)
    rename_i s
    rw[show nodeF env (bare 12 2) [.num s q, .num s r]= .bool (leQ q r) by simp[nodeF,bare,at0,Val.q],z4l,leQ,←hd] at hT
    simp only[go_sem,z5k,hB,eNode,nat,bare,j4,k8,q5o,x6d,Val.s,Val.b,Val.t,Val.l,z9,z7,decide_true,decide_false,z0t,z0s,z0g,z0a p,z0a (x1u _)]
    rw[z0h rfl (by simp[z1k,AV.cv,cvL,AV.ids,z0i,z1i])]
    exact hT _ hS.app
   ·have hd:=w1r hsr.c
    rename_i s
    rw[show nodeF env (bare 13 2) [.num s q, .num s r]= .bool (ltQ q r) by simp[nodeF,bare,at0,Val.q],z4l,ltQ,←hd] at hT
    simp only[go_sem,z5k,hB,eNode,nat,bare,j4,k8,q5o,x6d,Val.s,Val.b,Val.t,Val.l,z9,z7,decide_true,decide_false,z0t,z0s,z0g,z0a p,z0a (x1u _)]
    rw[z0h rfl (by simp[z1k,AV.cv,cvL,AV.ids,z0i,z1i])]
    exact hT _ hS.app
 | @add k s ks h hs=>
   have d1:(dec 1).length=1:=by rw[z2e];rfl
   have d0:(dec 0).length=1:=by rw[z9f];rfl
   have hsum:∀ i,(x3l (vs.take i) (z3j 0)).R:=fun i=>by
    have h:=hv.take i
    rw[List.take_replicate] at h
    obtain⟨a1,a2,_⟩:=k3a hs (q:=z3j 0) (P:=0) h q7i ⟨by show (dec 0).length≤_;omega,by show (dec 1).length≤_;omega⟩ fun _=>rfl
    exact a2.r a1 (by omega) (by omega)
   have hel2:∀ i (hi:i < vs.length),∃ q,vs[i]= .num s q∧q.R:=fun i hi=>by
    obtain⟨m,h1,h2⟩:=hv.rep _ (x8 hi)
    obtain⟨q,e,q1,q2,_⟩:=h1.numb hs
    exact⟨q,e,q2.r q1 (by omega) (by omega)⟩
   have hl0:0 < vs.length:=by rw[hlen];simp;omega
   obtain⟨q0,hq0,_⟩:=hel2 0 hl0
   have hN:nodeF env (bare 14 k) vs= .num s (x3l vs (z3j 0)):=by
    have:(at0 vs 0).s=s:=by
     have e:at0 vs 0=vs[0]:=by simp[at0,hl0]
     rw[e,hq0]
     rfl
    simp[nodeF,bare,this,x3l]
   rw[hN,q5n] at hT
   have h48:(x3l (vs.take 0) (z3j 0)).text=[48]:=by
    show (z3j 0).text=_
    rw[z1x,z0f,if_neg (by omega)]
    exact z9f
   have hx0:∀ h,z1v h 5 (.sl (vs.map eV) .no) (.int .i64 0)=some (.iptr [nat vs[0].s, .bool vs[0].b, .str vs[0].t, .sl (z3b (vs[0].l.map fun p=>z0f p.1)) .no, .sl (z3b (vs[0].l.map fun p=>z0f p.2)) .no] 0,h):=fun h=>x9c (i:=0) hl0
   rw[hq0] at hx0
   simp only[go_sem,z5k,hB,eNode,nat,bare,z9,z7,decide_true,decide_false,z0t,z0s,z0g]
   refine z6h vs.length (by omega) (fun i q=>∃ g4 g6:Nat,∃ c4:AV,q.ts 2= .sl (vs.map eV) .no∧q.ts 4= .ptr (B + 0) g4 0 0∧q.ts 6= .ptr (B + 1) g6 0 0∧q.ts 9= .str (x3l (vs.take i) (z3j 0)).text∧q.ts 10= .int .i64 (i:Int)∧q.h=D++[.blk g4 [c4] false false 0, .blk g6 [.agg [.int .i64 0, .bool false, .str [], .sl [] .nil, .sl [] .nil]] false false 0]) ⟨_,_,_,rfl,rfl,rfl,by rw[h48];rfl,rfl,rfl⟩ ?_ ?_
   ·rintro i hlt f1 f2 ts h clk P ⟨g4,g6,c4,q2,q4,q6,q9,q10,rfl⟩ hnx hex hr
    dsimp only at q2 q4 q6 q9 q10
    have hx:=fun h=>x9c (h:=h) (t:= .no) (k:= .i64) hlt
    obtain⟨q,hq,hqr⟩:=hel2 i hlt
    rw[hq] at hx
    have p:=j5b (hsum i) hqr
    have e8:x9b (x3l (vs.take i) (z3j 0)) q=x3l (vs.take (i + 1)) (z3j 0):=by
     rw[w7 hlt,k3n,hq]
     rfl
    rw[e8] at p
    simp only[go_sem,q9m,nat,q2,q4,q6,q9,q10,hB,f1,f2,z6,hx,Val.s,Val.b,Val.t,Val.l,z0a p]
    exact hnx _ ⟨g4,g6,c4,q2,q4,q6,rfl,rfl,rfl⟩
   ·rintro f1 ts h clk P ⟨g4,g6,c4,q2,q4,q6,q9,q10,rfl⟩ hex hr
    dsimp only at q2 q4 q6 q9 q10
    rw[b7] at q9
    simp only[go_sem,q9m,q2,q4,q6,q9,q10,hB,f1,z6]
    refine hex _ _ ?_
    simp only[go_sem,q2,q6,q9,hB,nat,hx0,Val.s,Val.b,Val.t,Val.l,z9,z7,decide_true,decide_false,z0t,z0s,z0g]
    rw[z0h rfl (by simp[z1k,AV.cv,cvL,AV.ids,z0i,z1i])]
    exact hT _ hS.app
 | @mul s n ks hs hn=>
   obtain⟨v,w,m,m',rfl,hu,hw,e⟩:=hv.two
   obtain⟨q,rfl,q1,q2,q3⟩:=hu.numb hs
   obtain⟨r,rfl,r1,r2,r3⟩:=hw.numb hs
   have p:=j5e (q2.r q1 (by omega) (by omega)) (r2.r r1 (by omega) (by omega))
   rw[show nodeF env (bare 15 2) [.num s q, .num s r]= .num s (k2x q r) by simp[nodeF,bare,at0,Val.s,Val.q],q5n] at hT
   simp only[go_sem,z5k,hB,eNode,nat,bare,j4,k8,q5o,x6d,Val.s,Val.b,Val.t,Val.l,z9,z7,decide_true,decide_false,z0t,z0s,z0g,z1p,z0a p]
   refine⟨by simp[z1r,apart,z0q,z1n,z1t,AOp.isCall,hB,AV.ids,z0i,z1i,q0x], ?_⟩
   rw[z0h rfl (by simp[z1k,AV.cv,cvL,AV.ids,z0i,z1i])]
   exact hT _ hS.app
 | @div o k ks h h1 h2=>
   obtain⟨v,rfl,hu⟩:=hv.one
   obtain⟨z,rfl,hz⟩:=hu.int
   rcases h with rfl | rfl
   ·rw[show nodeF env ⟨16,0,[],dec k,1⟩ [.num 2 (z3j z)]= .num 2 (z3j (z / (k:Int))) by simp[nodeF,at0,Val.q,z8u,z1h],q5n,z1x] at hT
    simp only[go_sem,z5k,hB,eNode,nat,j4,k8,q5o,Val.s,Val.b,Val.t,Val.l,z1x,z9,z7,decide_true,decide_false,z0t,z0s,z0g,z0a (j5g (z:=z) (by omega) h1 h2)]
    rw[z0h rfl (by simp[z1k,AV.cv,cvL,AV.ids,z0i,z1i])]
    exact hT _ hS.app
   ·rw[show nodeF env ⟨17,0,[],dec k,1⟩ [.num 2 (z3j z)]= .num 2 (z3j (z % (k:Int))) by simp[nodeF,at0,Val.q,z8u,z1h],q5n,z1x] at hT
    simp only[go_sem,z5k,hB,eNode,nat,j4,k8,q5o,Val.s,Val.b,Val.t,Val.l,z1x,z9,z7,decide_true,decide_false,z0t,z0s,z0g,z0a (k9t (z:=z) (by omega) h1 h2)]
    rw[z0h rfl (by simp[z1k,AV.cv,cvL,AV.ids,z0i,z1i])]
    exact hT _ hS.app
 | select=>
   obtain⟨v,w,m,m',rfl,hu,hw,e⟩:=hv.two
   obtain⟨z,l,rfl⟩:=hu.array
   obtain⟨i,rfl,hi⟩:=hw.int
   have p:=k9o (i:=i) (by omega) hu (by omega)
   rw[q3g] at p
   rw[show nodeF env (bare 18 2) [.arr z l, .num 2 (z3j i)]= .num 2 (z3j (atA z l i)) by simp[nodeF,bare,at0,Val.q,Val.l,z8u],q5n,z1x] at hT
   simp only[go_sem,z5k,hB,eNode,nat,bare,j4,k8,q5o,x6d,Val.s,Val.b,Val.t,Val.l,z1x,z9,z7,decide_true,decide_false,z0t,z0s,z0g,z0a p]
   rw[z0h rfl (by simp[z1k,AV.cv,cvL,AV.ids,z0i,z1i])]
   exact hT _ hS.app
 | store=>
   obtain⟨v,w,x,m,m',m'',rfl,hu,hw,hx,e⟩:=hv.three
   obtain⟨z,l,rfl⟩:=hu.array
   obtain⟨i,rfl,hi⟩:=hw.int
   obtain⟨j,rfl,hj⟩:=hx.int
   have p:=k9l (k:=i) (w:=j) (by omega) hu (by omega) (by omega)
   rw[q3g,q3g] at p
   rw[show nodeF env (bare 19 3) [.arr z l, .num 2 (z3j i), .num 2 (z3j j)]= .arr z (j1s z l i j) by simp[nodeF,bare,at0,Val.q,Val.l,z8u],q3g] at hT
   simp only[go_sem,z5k,hB,eNode,nat,bare,j4,k8,q5o,x6d,y3a,Val.s,Val.b,Val.t,Val.l,z1x,z9,z7,decide_true,decide_false,z0t,z0s,z0g,z0a p]
   rw[z0h rfl (by simp[z1k,AV.cv,cvL,AV.ids,z0i,z1i])]
   exact hT _ hS.app
 | const=>
   obtain⟨v,rfl,hu⟩:=hv.one
   obtain⟨z,rfl,hz⟩:=hu.int
   rw[show nodeF env (bare 20 1) [.num 2 (z3j z)]= .arr z [] by simp[nodeF,bare,at0,Val.q,z8u],q3g] at hT
   simp only[go_sem,z5k,hB,eNode,nat,bare,j4,k8,q5o,Val.s,Val.b,Val.t,Val.l,z1x,z9,z7,decide_true,decide_false,z0t,z0s,z0g]
   rw[z0h rfl (by simp[z1k,AV.cv,cvL,AV.ids,z0i,z1i])]
   exact hT _ hS.app
end
end
section
abbrev evS (T:Term) (env:List (List Nat×Val)) (sl g:Nat):List (Nat×AObj):=[(sl, .blk g [evO T env] false false 0)]
inductive Evs (T:Term) (env:List (List Nat×Val)) (sl g:Nat):Nat→List Val→Nat→Prop
 | nil {i:Nat}:Evs T env sl g i [] i
 | cons {i m j:Nat} {v:Val} {vs:List Val} (h:Reads (evS T env sl g) 173 [.ptr sl g 0 0,nat i] (.tup [eV v,nat m, .int .i64 0])) (hm:m≤T.length) (hr:Evs T env sl g m vs j):Evs T env sl g i (v::vs) j
theorem z8e {l:List Val}:z0r 5 (l.map eV)=true:=z1u fun _=>⟨rfl,rfl,rfl⟩
section
variable {K:Nat} {V:List Var} {env:List (List Nat×Val)} {T:Term} {n:Node} {ss:List Nat} {s M i m:Nat} {ks:Term} {vs:List Val} {sl g:Nat}
theorem k3p (he:q7n K V env) (hel:env.length≤1000) (htl:T.length≤20000) (hi:T[i]? =some n) (hn:NodeOk V n ss s ks) (hk:n.kids=ss.length) (hv:VsOk ss M vs) (hvl:vs.length≤T.length) (hM:M + K≤330000) (hT:Evs T env sl g (i + 1) vs m):Reads (evS T env sl g) 173 [.ptr sl g 0 0,nat i] (.tup [eV (nodeF env n vs),nat m, .int .i64 0]):=by
 have hit:i < T.length:=(List.getElem?_eq_some_iff.1 hi).1
 have hlen:=hv.len
 have hR:=fun u=>k3o (T:=T) (sl:=sl) (g:=g) (u:=u) he hel hn hv (by omega) hM
 refine Reads.of rfl w7m rfl rfl rfl (az:=[.ptr sl g 0 0,nat i]) rfl (by simpa [z0i,AV.ids,z3f] using Cov.one (s:=sl) (o:= .blk g [evO T env] false false 0) (by simp[AObj.ids,z0i,k3m])) fun D B clk R hB hS hlt hT'=> ?_
 have h1:=hlt (sl, .blk g [evO T env] false false 0) (by simp)
 have b1:=z2m (g:=g) (hS (sl, .blk g [evO T env] false false 0) (by simp))
 dsimp only at h1 b1
 generalize nodeF env n vs=val at *
 have e4:IntKind.i64.wrap ((i:Int) + 1)=((i + 1:Nat):Int):=z0c (by omega) (by omega)
 simp only[go_sem,v2w,nat,evO,hB,z1y hB h1,b1,z2s hi,e4]
 refine z1f (fun r q=>∃ (done left:List Val) (t8:Tip) (e g0 g1:Nat) (o2 o3 o4 o5:AObj),vs=done++left∧r=left.length∧Evs T env sl g e left m∧e≤T.length∧q.ts 0= .ptr sl g 0 0∧q.ts 1= .int .i64 (e:Int)∧q.ts 4= .ptr (B + 0) g0 0 0∧q.ts 7= .ptr (B + 1) g1 0 0∧q.ts 8= .sl (done.map eV) t8∧q.ts 9= .int .i64 (done.length:Int)∧q.h=D++[.blk g0 [.agg [.int .i64 0, .bool false, .str [], .sl [] .nil, .sl [] .nil]] false false 0, .blk g1 [.agg [.int .i64 (n.op:Int), .int .i64 (n.sort:Int), .str n.name, .str n.num, .int .i64 (n.kids:Int)]] false false 0,o2,o3,o4,o5]∧q3e B 4 o4 t8 5) vs.length ⟨[],vs, .nil,i + 1,_,_,_,_,_,_,rfl,rfl,hT,hit,rfl,rfl,rfl,rfl,rfl,rfl,rfl, .inl rfl⟩ ?_
 rintro r ⟨ts,h,clk⟩ P ⟨done,left,t8,e,g0,g1,o2,o3,o4,o5,hvs,rfl,hT,he',q0,q1,q4,q7,q8,q9,rfl,htip⟩ hnx hex hr
 dsimp only at q0 q1 q4 q7 q8 q9
 cases hT with
 | nil=>
   obtain rfl:done=vs:=by simpa using hvs.symm
   have f1:decide ((done.length:Int) < (n.kids:Int))=false:=by rw[n9];omega
   simp only[go_sem,x4r,q0,q1,q4,q7,q8,q9,hB,f1]
   refine hex _ _ ?_
   have p:=hR t8
   simp only[eNode,nat,eV,value] at p
   rw[eV,value,nat,nat] at hT'
   simp only[go_sem,q0,q1,q4,q7,q8,hB,z0u p hS.app,z0t,z0s,z0g]
   rw[z0h rfl (by simp[z1k,AV.cv,cvL,AV.ids,z0i,z1i])]
   exact hT' _ hS.app
 | cons hp hm' hr'=>
   rename_i m' v left
   have f1:decide ((done.length:Int) < (n.kids:Int))=true:=by rw[r8,hk,←hlen,hvs];simp;omega
   have f5:IntKind.i64.wrap ((done.length:Int) + 1)=((done.length + 1:Nat):Int):=z0c (by omega) (by rw[hvs] at hvl;simp at hvl;omega)
   simp only[nat,eV,value] at hp
   simp only[go_sem,x4r,q0,q1,q4,q7,q8,q9,hB,f1,z0u hp hS.app,decide_true,decide_false,z8]
   rw[show [AV.agg [.int .i64 (v.s:Int), .bool v.b, .str v.t, .sl (z3b (v.l.map fun p=>z0f p.1)) .no, .sl (z3b (v.l.map fun p=>z0f p.2)) .no]]=[v].map eV from rfl,z1c hB rfl htip z8e z8e (by rw[hvs] at hvl;simp at hvl⊢;omega),←v8]
   simp only[go_sem,q0,q1,q4,q7,q8,q9,hB,f5]
   exact hnx left.length _ (by simp) ⟨done++[v],left,_,m',g0,g1,_,_,_,_,by simp[hvs],rfl,hr',hm',q0,rfl,q4,q7,rfl,by rw[k7];rfl,rfl, .inr (.inr ⟨_,rfl,rfl⟩)⟩
end
theorem k9u {K:Nat} {V:List Var} {env:List (List Nat×Val)} {T:Term} {sl g:Nat} (he:q7n K V env) (hel:env.length≤1000) (htl:T.length≤20000) (hK:K * (T.length + 1)≤330000) {ss:List Nat} {d:Nat} {f:Term} (h:WF V ss d f):∀ {pre post:Term},T=pre++f++post→∃ vs,Ev env f vs∧VsOk ss (K * f.length) vs∧Evs T env sl g pre.length vs (pre.length + f.length):=by
 induction h with
 | nil=>intro pre post ht;exact⟨[], .nil, .nil, .nil⟩
 | @cons n ss ks s d ss' rest h1 h2 h3 h4 ih1 ih2=>
   intro pre post ht
   have hl:pre.length + (1 + ks.length + rest.length)≤T.length:=by rw[ht];simp;omega
   obtain⟨vs,a1,a2,i1⟩:=ih1 (pre:=pre++[n]) (post:=rest++post) (by rw[ht];simp)
   obtain⟨ws,b1,b2,i2⟩:=ih2 (pre:=pre++(n::ks)) (post:=post) (by rw[ht];simp)
   simp only[k7,v5,u3,k6] at i1 i2
   have hw:=h1.len
   have hit:T[pre.length]? =some n:=by rw[ht];simp
   have hvl:=a2.len
   have hM:K * ks.length + K≤330000:=by
    have:K * (ks.length + 1)≤K * (T.length + 1):=Nat.mul_le_mul_left _ (by omega)
    rw[Nat.mul_add,Nat.mul_one] at this
    omega
   refine⟨_, .cons a1 (by rw[h3,hvl]) b1, ?_, ?_⟩
   ·have:=VsOk.cons (k9f he h2 a2) b2
    simp only[v5,k7]
    rw[show K * (ks.length + rest.length + 1)=K * ks.length + K + K * rest.length by rw[Nat.mul_add,Nat.mul_add,Nat.mul_one];omega]
    exact this
   ·refine .cons (m:=pre.length + (ks.length + 1)) (k3p he hel htl hit h2 h3 a2 (by omega) hM (by rw[show pre.length + (ks.length + 1)=pre.length + 1 + ks.length by omega];exact i1)) (by omega) ?_
    simp only[v5,k7]
    rw[show pre.length + (ks.length + rest.length + 1)=pre.length + (ks.length + 1) + rest.length by omega]
    exact i2
theorem x9d {K:Nat} {V:List Var} {env:List (List Nat×Val)} {T:Term} {sl g s d:Nat} (he:q7n K V env) (hel:env.length≤1000) (htl:T.length≤20000) (hK:K * (T.length + 1)≤330000) (h:WF V [s] d T):∃ v,Ev env T [v]∧VOk (K * T.length) s v∧Reads (evS T env sl g) 173 [.ptr sl g 0 0, .int .i64 0] (.tup [eV v,nat T.length, .int .i64 0]):=by
 obtain⟨vs,h1,h2,h3⟩:=k9u (sl:=sl) (g:=g) he hel htl hK h (pre:=[]) (post:=[]) (by simp)
 obtain⟨v,rfl,hv⟩:=h2.one
 cases h3 with
 | cons hp hm hr=>
   cases hr with
   | nil=>
     rw[u3,k6] at hp
     exact⟨v,h1,hv,hp⟩
end
theorem k9v {U V:List Var} [UOk U] {t:Term} {s d:Nat} (hV:∀ v∈V,v∈U) (htl:t.length≤20000) (hd:d≤256) (h:WF V [s] d t) (hs:1≤s):Pure Gam 171 [z0w t] (.bool true):=by
 have p1:=k3e hV htl hd h hs
 refine Pure.of rfl y9k rfl rfl rfl (az:=[z0w t]) rfl (by simp[z0i,z0w,AV.ids,z0d z2x]) fun D B clk T hB hT=> ?_
 have e1:decide ((0:Int) < (s:Int))=true:=by rw[r8];omega
 simp only[nat] at p1
 simp only[go_sem,y1b,hB,z0a p1,e1]
 rw[z0e]
 exact hT _
section
theorem Ev.det {env:List (List Nat×Val)} {t:Term} {vs:List Val} (h:Ev env t vs):∀ {t':Term} {vs':List Val} {r r':Term},Ev env t' vs'→t++r=t'++r'→vs.length=vs'.length→t=t'∧vs=vs':=by
 induction h with
 | nil=>
   intro t' vs' r r' h' _ hl
   cases h' with
   | nil=>exact⟨rfl,rfl⟩
   | cons=>simp at hl
 | @cons n ks rest vs ws h1 h2 h3 ih1 ih2=>
   intro t' vs' r r' h' he hl
   cases h' with
   | nil=>simp at hl
   | @cons n' ks' rest' vs2 ws2 g1 g2 g3=>
     simp only[y6,u4,List.cons.injEq] at he
     obtain⟨rfl,he⟩:=he
     obtain⟨rfl,rfl⟩:=ih1 g1 he (by rw[←h2,←g2])
     obtain⟨rfl,rfl⟩:=ih2 g3 (List.append_cancel_left he) (by simpa using hl)
     exact⟨rfl,rfl⟩
noncomputable section
open Classical
def q0e (env:List (List Nat×Val)) (t:Term):Val:=if h:∃ v,Ev env t [v] then h.choose else .bool false
end
theorem q7y {env:List (List Nat×Val)} {t:Term} {v:Val} (h:Ev env t [v]):q0e env t=v:=by
 have he:∃ v,Ev env t [v]:=⟨v,h⟩
 unfold q0e
 rw[dif_pos he]
 have:=(he.choose_spec.det h (r:=[]) (r':=[]) rfl rfl).2
 simpa using this
section
variable {K:Nat} {U V:List Var} [UOk U] {env:List (List Nat×Val)} {T:Term} {s d:Nat}
theorem j5h (he:q7n K V env) (hel:env.length≤1000) (htl:T.length≤20000) (hK:K * (T.length + 1)≤330000) (h:WF V [s] d T):Ev env T [q0e env T]∧VOk (K * T.length) s (q0e env T)∧∀ sl g,Reads (evS T env sl g) 173 [.ptr sl g 0 0, .int .i64 0] (.tup [eV (q0e env T),nat T.length, .int .i64 0]):=by
 obtain⟨v,h1,h2,_⟩:=x9d (sl:=0) (g:=0) he hel htl hK h
 rw[q7y h1]
 refine⟨h1,h2,fun sl g=> ?_⟩
 obtain⟨w,g1,_,g3⟩:=x9d (sl:=sl) (g:=g) he hel htl hK h
 rw[←q7y g1,q7y h1] at g3
 exact g3
theorem j5i {u w x:Tip} (hV:∀ v∈V,v∈U) (he:q7n K V env) (hev:∀ p∈env,∃ m s,VOk m s p.2∧m≤330000) (hel:env.length≤1000) (htl:T.length≤20000) (hK:K * (T.length + 1)≤330000) (hd:d≤256) (h:WF V [s] d T) (hs:1≤s):Pure Gam 105 [.sl (T.map eNode) u, .sl (env.map eB) w, .sl [] x] (.tup [eV (q0e env T), .int .i64 0]):=by
 have p1:=k9v hV htl hd h hs
 obtain⟨_,hv,hr⟩:=j5h he hel htl hK h
 have hm:K * T.length≤330000:=by rw[Nat.mul_add] at hK;omega
 have pc:=k9n hv hm
 generalize q0e env T=val at *
 rw[z0w] at p1
 simp only[eV,value,nat] at pc hr
 refine Pure.of rfl w7i rfl rfl rfl (az:=[.sl (T.map eNode) .no, .sl (env.map eB) .no, .sl [] .no]) rfl (by simp[z0i,AV.ids,z0d z2x,z0d q0z]) fun D B clk T' hB hT=> ?_
 rw[eV,value,nat] at hT
 simp only[go_sem,v2u,hB,z0a p1,z8]
 refine z6h env.length (by omega) (fun i q=>∃ g0:Nat,q.ts 0= .sl (T.map eNode) .no∧q.ts 1= .sl (env.map eB) .no∧q.ts 2= .sl [] .no∧q.ts 6= .ptr (B + 0) g0 0 0∧q.ts 8= .int .i64 (i:Int)∧q.h=D++[.blk g0 [.agg [.int .i64 0, .bool false, .str [], .sl [] .nil, .sl [] .nil]] false false 0, .dead, .dead]) ⟨_,rfl,rfl,rfl,rfl,rfl,rfl⟩ ?_ ?_
 ·rintro i hlt f1 f2 ts h clk P ⟨g0,q0,q1,q2,q6,q8,rfl⟩ hnx hex hret
  dsimp only at q0 q1 q2 q6 q8
  have hx:=fun h=>y3b (h:=h) (t:= .no) (k:= .i64) hlt
  obtain⟨m,s,hvm,hmm⟩:=hev _ (x8 hlt)
  have p:=x6c hmm hvm
  simp only[eV,value,nat] at p
  simp only[go_sem,x4p,nat,q0,q1,q2,q6,q8,hB,f1,f2,z6,hx,z0a p,z8]
  exact hnx _ ⟨g0,q0,q1,q2,q6,rfl,rfl⟩
 ·rintro f1 ts h clk P ⟨g0,q0,q1,q2,q6,q8,rfl⟩ hex hret
  dsimp only at q0 q1 q2 q6 q8
  simp only[go_sem,x4p,q0,q1,q2,q6,q8,hB,f1,z6]
  refine hex _ _ ?_
  simp only[go_sem,q0,q1,q2,q6,hB]
  refine z6h 0 (by omega) (fun i q=>q.ts 0= .sl (T.map eNode) .no∧q.ts 1= .sl (env.map eB) .no∧q.ts 2= .sl [] .no∧q.ts 6= .ptr (B + 0) g0 0 0∧q.ts 9= .int .i64 (i:Int)∧q.h=D++[.blk g0 [.agg [.int .i64 0, .bool false, .str [], .sl [] .nil, .sl [] .nil]] false false 0, .dead, .dead]) ⟨by simp[z0b,q0],by simp[z0b,q1],by simp[z0b,q2],by simp[z0b,q6],by simp[z0b],rfl⟩ ?_ ?_
  ·rintro i hlt
   omega
  ·rintro f1 ts h clk P ⟨r0,r1,r2,r6,r9,rfl⟩ hex2 hret2
   dsimp only at r0 r1 r2 r6 r9
   have f0:decide ((0:Int) < 0)=false:=by decide
   simp only[go_sem,x4o,r0,r1,r2,r6,r9,hB,f0,u3]
   refine hex2 _ _ ?_
   have hh:∀ (g:Nat) (a b:AObj),Has (evS T env (B + 1) g) (D++[a, .blk g [evO T env] false false 0,b]):=fun g a b=>Has.cons (by show (D++_)[B + 1]? =_;rw[z2u hB];rfl) Has.nil
   simp only[evO] at hh
   simp only[go_sem,r0,r1,r2,r6,hB,z0u (hr _ _) (hh _ _ _),z0a pc,decide_true,decide_false,z8,z0t,z0s,z0g]
   rw[z0h rfl (by simp[z1k,AV.cv,cvL,AV.ids,z0i,z1i])]
   exact hT _
theorem k9w {u w x:Tip} (hV:∀ v∈V,v∈U) (he:q7n K V env) (hev:∀ p∈env,∃ m s,VOk m s p.2∧m≤330000) (hel:env.length≤1000) (htl:T.length≤20000) (hK:K * (T.length + 1)≤330000) (hd:d≤256) (h:WF V [1] d T):Pure Gam 53 [.sl (T.map eNode) u, .sl (env.map eB) w, .sl [] x] (.bool (q0e env T).b):=by
 have p:=j5i (u:= .no) (w:= .no) (x:= .no) hV he hev hel htl hK hd h (by omega)
 obtain⟨_,hv,_⟩:=j5h he hel htl hK h
 obtain⟨b,hb⟩:=hv.bool
 rw[hb,z4l] at p
 rw[hb]
 refine Pure.of rfl w7g rfl rfl rfl (az:=[.sl (T.map eNode) .no, .sl (env.map eB) .no, .sl [] .no]) rfl (by simp[z0i,AV.ids,z0d z2x,z0d q0z]) fun D B clk T' hB hT=> ?_
 have hT:∀ h',T' (.bool b) h':=hT
 simp only[go_sem,v2s,hB,z0a p,decide_true]
 rw[z0e]
 exact hT _
end
end
def u4c:Val→Prop
 | .bool _=>True
 | .num _ q=>q.n < 10∧q.d=1
 | .arr z l=>z.natAbs < 10∧∀ p∈l,p.1.natAbs < 10∧p.2.natAbs < 10
def k3q (s:Nat) (v:AV):Prop:=∃ w:Val,v=eV w∧VOk 1 s w∧u4c w
theorem x0z {z:Int} (h:z.natAbs < 10):(dec z.natAbs).length≤50 * 1:=by rw[z6p h];simp
theorem w1s {s:Nat} (hs:s=2∨s=3) {z:Int} (h1: -2≤z) (h2:z≤3):k3q s (value s false (z0f z) [] []):=by
 refine⟨.num s (z3j z),by simp only[eV,Val.s,Val.b,Val.t,Val.l,z1x];rfl,⟨rfl,hs,q7i,⟨x0z (by omega),by show (dec 1).length≤4 * 1;rw[z2e];simp⟩,fun _=>rfl⟩,by show z.natAbs < 10;omega,rfl⟩
theorem k9x {k i j:Nat} (hk:k < 3) (hi:i < 3) (hj:j < 3):k3q 4 (k7e k i j):=by
 unfold k7e
 split
 ·refine⟨.arr (k:Int) [], ?_,⟨rfl,x0z (by omega), .nil,by simp,by simp⟩,by show (k:Int).natAbs < 10;omega,by simp⟩
  simp only[eV,Val.s,Val.b,Val.t,Val.l,z3c (k:=k) (by omega)]
  rfl
 ·rename_i h
  refine⟨.arr (k:Int) [((i:Int),(j:Int))], ?_,⟨rfl,x0z (by omega),List.pairwise_singleton _ _,fun p hp=> ?_,by simp⟩,by show (k:Int).natAbs < 10;omega,fun p hp=> ?_⟩
  ·simp only[eV,Val.s,Val.b,Val.t,Val.l,j4,k8,z3c (k:=k) (by omega),z3c (k:=i) (by omega),z3c (k:=j) (by omega)]
   rfl
  ·obtain rfl:=y3.1 hp
   exact⟨by dsimp only;omega,x0z (by dsimp only;omega),x0z (by dsimp only;omega)⟩
  ·obtain rfl:=y3.1 hp
   exact⟨by dsimp only;omega,by dsimp only;omega⟩
theorem y3c {l:List Int} {s:Nat} (hl:q7t l) (h1:1≤s) (h2:s≤4):GenOk l 16 [nat s] (k3q s):=by
 refine GenOk.of rfl u2c rfl rfl rfl rfl rfl fun D B p g i clk T hB hs hD hi hT=> ?_
 obtain rfl | hs23 | rfl:s=1∨(s=2∨s=3)∨s=4:=by omega
 ·simp only[go_sem,v7n,nat,hB,z7,decide_true,decide_false]
  refine z0l (z3u hl (by decide) (by decide)) hB hs hD hi ?_
  rintro v D' i' ⟨r,rfl,hr1,hr2⟩ hB' hD' hi'
  simp only[go_sem,hB',z7,decide_true,decide_false]
  rw[z2y rfl rfl]
  exact hT _ _ i' (by rw[z0m hB' hs];exact hD') hi' ⟨.bool _,rfl,rfl,trivial⟩
 ·have e1:decide ((s:Int)=1)=false:=by simp;omega
  have e2:decide ((s:Int)=4)=false:=by simp;omega
  simp only[go_sem,v7n,nat,hB,z7,e1,e2]
  refine z0l (z3u hl (by decide) (by decide)) hB hs hD hi ?_
  rintro v D' i' ⟨r,rfl,hr1,hr2⟩ hB' hD' hi'
  have e3:IntKind.i64.wrap (r - 2)=r - 2:=z0c (by omega) (by omega)
  simp only[go_sem,hB',e3]
  rw[z0a (z7p (by omega) (by omega))]
  simp only[go_sem,hB']
  rw[z2y rfl rfl]
  exact hT _ _ i' (by rw[z0m hB' hs];exact hD') hi' (w1s hs23 (by omega) (by omega))
 ·simp only[go_sem,v7n,nat,hB,z7,decide_true,decide_false]
  refine z0l (z3u hl (by decide) (by decide)) hB hs hD hi ?_
  rintro v D1 i1 ⟨r1,rfl,hr1,hr2⟩ hB1 hD1 hi1
  obtain⟨k,rfl⟩:∃ k:Nat,r1=k:=⟨r1.toNat,by omega⟩
  simp only[go_sem,hB1]
  rw[z0a (z7p (by omega) (by omega)),z3c (by omega)]
  simp only[go_sem,hB1,z1p]
  refine z0l (z3u hl (by decide) (by decide)) hB1 hs hD1 hi1 ?_
  rintro v D2 i2 ⟨r2,rfl,hr3,hr4⟩ hB2 hD2 hi2
  obtain⟨a,rfl⟩:∃ k:Nat,r2=k:=⟨r2.toNat,by omega⟩
  simp only[go_sem,hB2]
  rw[z0a (z7p (by omega) (by omega)),z3c (by omega)]
  simp only[go_sem,hB2]
  refine z0l (z3u hl (by decide) (by decide)) hB2 hs hD2 hi2 ?_
  rintro v D3 i3 ⟨r3,rfl,hr5,hr6⟩ hB3 hD3 hi3
  obtain⟨b,rfl⟩:∃ k:Nat,r3=k:=⟨r3.toNat,by omega⟩
  simp only[go_sem,hB3]
  rw[z0a (z7p (by omega) (by omega)),z3c (by omega)]
  simp only[go_sem,hB3]
  obtain⟨ks,vs,hv⟩:∃ ks vs,k7e k a b=value 4 false [48 + k] ks vs:=by
   unfold k7e
   split <;> exact⟨_,_,rfl⟩
  have hsm:=x8j (k:=k) (i:=a) (j:=b) (by omega) (by omega) (by omega)
  have htab:=x8i (k:=k) (i:=a) (j:=b) (by omega) (by omega) (by omega)
  have hw:=k9x (k:=k) (i:=a) (j:=b) (by omega) (by omega) (by omega)
  rw[hv] at hsm htab hw
  have hp:Pure Gam 49 [.agg [.int .i64 4, .bool false, .str [48 + k], .sl [] .nil, .sl [] .nil], .str [48 + a], .str [48 + b]] _:=Pure.tab (tab:=z5p) rfl rfl htab
  rw[z0a hp]
  simp only[go_sem,hB3,value,nat]
  refine⟨by simp[z1r,apart,z0q,z1n,z1t,AOp.isCall,hB1];omega, ?_⟩
  obtain⟨t,q1,q2,q3,q4,q5,q6⟩:=hsm
  rw[z2y (v:= .agg [.int .i64 4, .bool false, .str [48 + k], .sl ks .no, .sl vs .no]) rfl q5]
  exact hT _ _ i3 (by rw[z0m hB3 hs];exact hD3) hi3 hw
def VM (m s:Nat):Val→Prop
 | .bool _=>s=1
 | .num t q=>s=t∧(t=2∨t=3)∧q.C∧q.n≤10 ^ (45 * m) * q.d∧q.d∣2520 ^ m∧(t=2→q.d=1)
 | .arr z l=>s=4∧z.natAbs≤10 ^ (45 * m)∧l.Pairwise (fun p q=>p.1 < q.1)∧(∀ p∈l,p.2≠z∧p.1.natAbs≤10 ^ (45 * m)∧p.2.natAbs≤10 ^ (45 * m))∧l.length≤m
theorem p45 {m m':Nat} (h:m≤m'):10 ^ (45 * m)≤10 ^ (45 * m'):=b9 (by omega) (by omega)
theorem VM.up {m m' s:Nat} {v:Val} (h:VM m s v) (hm:m≤m'):VM m' s v:=by
 cases v with
 | bool b=>exact h
 | num t q=>
   obtain⟨h1,h2,h3,h4,h5,h6⟩:=h
   exact⟨h1,h2,h3,j1 h4 (w8 _ (p45 hm)),Nat.dvd_trans h5 (Nat.pow_dvd_pow _ hm),h6⟩
 | arr z l=>
   obtain⟨h1,h2,h3,h4,h5⟩:=h
   exact⟨h1,j1 h2 (p45 hm),h3,fun p hp=>⟨(h4 p hp).1,j1 (h4 p hp).2.1 (p45 hm),j1 (h4 p hp).2.2 (p45 hm)⟩,by omega⟩
theorem k3r {n k:Nat} (h:(dec n).length≤k):n≤10 ^ k:=Nat.le_of_lt ((z9m (Nat.lt_of_lt_of_le (x0t n) h)).1 h)
theorem k9y:∀ d:Nat,d < 10→0 < d→d∣2520:=by decide
theorem VM.num1 {s:Nat} {q:Qn} (hs:s=2∨s=3) (h3:q.C) (h4:q.L 45 1) (h5:s=2→q.d=1):VM 1 s (.num s q):=by
 refine⟨rfl,hs,h3, ?_, ?_,h5⟩
 ·exact j1 (k3r h4.n) (Nat.le_mul_of_pos_right _ h3.pos)
 ·rw[Nat.pow_one]
  exact k9y _ ((z9m (k:=1) (by omega)).1 h4.d) h3.pos
theorem VM.tiny {s:Nat} {v:Val} (h:VOk 1 s v) (ht:u4c v):VM 1 s v:=by
 have h10:∀ n:Nat,n < 10→n≤10 ^ (45 * 1):=fun n hn=>j1 (by omega) (show 10≤10 ^ (45 * 1) by decide)
 cases v with
 | bool b=>exact h
 | num t q=>
   obtain⟨h1,h2,h3,h4,h5⟩:=h
   obtain⟨t1,t2⟩:=ht
   exact⟨h1,h2,h3,by rw[t2,Nat.mul_one];exact h10 _ t1,by rw[t2];exact Nat.one_dvd _,h5⟩
 | arr z l=>
   obtain⟨h1,h2,h3,h4,h5⟩:=h
   exact⟨h1,h10 _ ht.1,h3,fun p hp=>⟨(h4 p hp).1,h10 _ (ht.2 p hp).1,h10 _ (ht.2 p hp).2⟩,h5⟩
theorem z7h {n k:Nat} (h:n≤10 ^ k):(dec n).length≤k + 1:=(z9m (by omega)).2 (Nat.lt_of_le_of_lt h (Nat.pow_lt_pow_right (by omega) (by omega)))
theorem VM.ok {m s:Nat} {v:Val} (h:VM m s v) (hm:1≤m):VOk m s v:=by
 have h10:2520 ^ m≤10 ^ (4 * m):=by
  rw[Nat.pow_mul]
  exact Nat.pow_le_pow_left (by omega) m
 cases v with
 | bool b=>exact h
 | num t q=>
   obtain⟨h1,h2,h3,h4,h5,h6⟩:=h
   have hd:q.d≤2520 ^ m:=Nat.le_of_dvd (Nat.pow_pos (by omega)) h5
   refine⟨h1,h2,h3,⟨?_, ?_⟩,h6⟩
   ·have:q.n≤10 ^ (45 * m + 4 * m):=by
     rw[Nat.pow_add]
     exact j1 h4 (Nat.mul_le_mul_left _ (j1 hd h10))
    exact j1 (z7h this) (by omega)
   ·refine (z9m (by omega)).2 ?_
    refine Nat.lt_of_le_of_lt hd ?_
    rw[Nat.pow_mul]
    exact Nat.pow_lt_pow_left (by omega) (by omega)
 | arr z l=>
   obtain⟨h1,h2,h3,h4,h5⟩:=h
   exact⟨h1,j1 (z7h h2) (by omega),h3,fun p hp=>⟨(h4 p hp).1,j1 (z7h (h4 p hp).2.1) (by omega),j1 (z7h (h4 p hp).2.2) (by omega)⟩,by omega⟩
theorem VM.numb {m s:Nat} {v:Val} (h:VM m s v) (hs:s=2∨s=3):∃ q,v= .num s q∧q.C∧q.n≤10 ^ (45 * m) * q.d∧q.d∣2520 ^ m∧(s=2→q.d=1):=by
 cases v with
 | bool b=>have h1:s=1:=h;omega
 | num t q=>
   obtain⟨rfl,_,h1,h2,h3,h4⟩:=h
   exact⟨q,rfl,h1,h2,h3,h4⟩
 | arr z l=>have h1:=h.1;omega
theorem VM.int {m:Nat} {v:Val} (h:VM m 2 v):∃ z:Int,v= .num 2 (z3j z)∧z.natAbs≤10 ^ (45 * m):=by
 obtain⟨q,rfl,h1,h2,h3,h4⟩:=h.numb (.inl rfl)
 have hd:=h4 rfl
 refine⟨q.z,by rw[←Qn.int h1 hd], ?_⟩
 rw[Qn.z_len]
 rw[hd,Nat.mul_one] at h2
 exact h2
theorem VM.of_int {m:Nat} {z:Int} (h:z.natAbs≤10 ^ (45 * m)):VM m 2 (.num 2 (z3j z)):=⟨rfl, .inl rfl,q7i,by show z.natAbs≤_ * 1;rw[Nat.mul_one];exact h,Nat.one_dvd _,fun _=>rfl⟩
theorem VM.array {m:Nat} {v:Val} (h:VM m 4 v):∃ z l,v= .arr z l:=by
 cases v with
 | bool b=>have h1:4=1:=h;omega
 | num t q=>have h1:=h.1;have h2:=h.2.1;omega
 | arr z l=>exact⟨z,l,rfl⟩
theorem VM.s {m s:Nat} {v:Val} (h:VM m s v):v.s=s:=by
 cases v with
 | bool b=>exact h.symm
 | num t q=>exact h.1.symm
 | arr z l=>exact h.1.symm
structure Qn.W (q:Qn) (P D:Nat):Prop where
 n:q.n≤P * q.d
 d:q.d∣D
theorem j5j {neg:Bool} {a b P D c:Nat} (hb:0 < b) (h:a≤P * b) (hD:a * D=c * b):(q2e neg a b).W P D:=by
 have hg:0 < j8 a b:=Nat.gcd_pos_of_pos_right _ hb
 have ea:j8 a b * (a / j8 a b)=a:=Nat.mul_div_cancel' (Nat.gcd_dvd_left a b)
 have eb:j8 a b * (b / j8 a b)=b:=Nat.mul_div_cancel' (Nat.gcd_dvd_right a b)
 have hco:j8 (a / j8 a b) (b / j8 a b)=1:=by rw[Nat.gcd_div (Nat.gcd_dvd_left a b) (Nat.gcd_dvd_right a b),Nat.div_self hg]
 simp only[q2e]
 generalize a / j8 a b=a' at *
 generalize b / j8 a b=b' at *
 generalize j8 a b=g at *
 refine⟨?_, ?_⟩
 ·show a'≤P * b'
  refine Nat.le_of_mul_le_mul_left (c:=g) ?_ hg
  rw[ea,Nat.mul_left_comm,eb]
  exact h
 ·show b'∣D
  have:a' * D=c * b':=by
   refine Nat.eq_of_mul_eq_mul_left hg ?_
   rw[←Nat.mul_assoc,ea,Nat.mul_left_comm,eb]
   exact hD
  exact (Nat.Coprime.symm hco).dvd_of_dvd_mul_left ⟨c,by rw[this,u1]⟩
theorem Qn.W.up {q:Qn} {P D P' D':Nat} (h:q.W P D) (h1:P≤P') (h2:D∣D'):q.W P' D':=⟨j1 h.n (w8 _ h1),Nat.dvd_trans h.d h2⟩
theorem y3d {x y:Qn} {P D P' D':Nat} (hx:x.C) (hy:y.C) (h:x.W P D) (h':y.W P' D'):(k2x x y).W (P * P') (D * D'):=by
 obtain⟨u,hu⟩:=h.d
 obtain⟨w,hw⟩:=h'.d
 refine j5j (c:=x.n * y.n * (u * w)) (Nat.mul_pos hx.pos hy.pos) ?_ ?_
 ·have:=Nat.mul_le_mul h.n h'.n
  rw[show P * P' * (x.d * y.d)=P * x.d * (P' * y.d) by ac_rfl]
  exact this
 ·rw[hu,hw]
  ac_rfl
theorem y3e {x y:Qn} {P D P':Nat} (hx:x.C) (hy:y.C) (h:x.W P D) (h':y.W P' D):(x9b x y).W (P + P') D:=by
 obtain⟨u,hu⟩:=h.d
 obtain⟨w,hw⟩:=h'.d
 have hp:=Nat.mul_pos hx.pos hy.pos
 have h1:x.n * y.d≤P * (x.d * y.d):=by
  have:=w8 y.d h.n
  rwa [Nat.mul_assoc] at this
 have h2:y.n * x.d≤P' * (x.d * y.d):=by
  have:=w8 x.d h'.n
  rw[Nat.mul_assoc,u1 y.d] at this
  exact this
 have e1:x.n * y.d * D=x.n * u * (x.d * y.d):=by rw[hu];ac_rfl
 have e2:y.n * x.d * D=y.n * w * (x.d * y.d):=by rw[hw];ac_rfl
 unfold x9b
 split
 ·refine j5j (c:=x.n * u + y.n * w) hp ?_ ?_
  ·rw[k9];omega
  ·rw[k9,k9,e1,e2]
 ·split
  ·refine j5j (c:=x.n * u - y.n * w) hp ?_ ?_
   ·rw[k9];omega
   ·rw[Nat.sub_mul,Nat.sub_mul,e1,e2]
  ·refine j5j (c:=y.n * w - x.n * u) hp ?_ ?_
   ·rw[k9];omega
   ·rw[Nat.sub_mul,Nat.sub_mul,e1,e2]
inductive VMs (m:Nat):List Nat→List Val→Prop
 | nil:VMs m [] []
 | cons {s:Nat} {ss:List Nat} {v:Val} {vs:List Val} (h:VM m s v) (hr:VMs m ss vs):VMs m (s::ss) (v::vs)
theorem VMs.len {ss:List Nat} {m:Nat} {vs:List Val} (h:VMs m ss vs):vs.length=ss.length:=by
 induction h with
 | nil=>rfl
 | cons h hr ih=>simp[ih]
theorem VMs.one {s m:Nat} {vs:List Val} (h:VMs m [s] vs):∃ v,vs=[v]∧VM m s v:=by
 cases h with
 | cons h hr=>cases hr;exact⟨_,rfl,h⟩
theorem VMs.two {s t m:Nat} {vs:List Val} (h:VMs m [s,t] vs):∃ v w,vs=[v,w]∧VM m s v∧VM m t w:=by
 cases h with
 | cons h hr=>
   obtain⟨w,rfl,hw⟩:=hr.one
   exact⟨_,w,rfl,h,hw⟩
theorem VMs.three {s t u m:Nat} {vs:List Val} (h:VMs m [s,t,u] vs):∃ v w x,vs=[v,w,x]∧VM m s v∧VM m t w∧VM m u x:=by
 cases h with
 | cons h hr=>
   obtain⟨w,x,rfl,hw,hx⟩:=hr.two
   exact⟨_,w,x,rfl,h,hw,hx⟩
theorem VMs.head {s m:Nat} {ss:List Nat} {vs:List Val} (h:VMs m (s::ss) vs):VM m s (at0 vs 0):=by
 cases h with
 | cons h hr=>exact h
theorem y3f {s m:Nat} (hs:s=2∨s=3):∀ {k:Nat} {vs:List Val} {q:Qn} {P:Nat},VMs m (List.replicate k s) vs→q.C→q.W P (2520 ^ m)→(s=2→q.d=1)→(x3l vs q).C∧(x3l vs q).W (P + k * 10 ^ (45 * m)) (2520 ^ m)∧(s=2→(x3l vs q).d=1):=by
 intro k
 induction k with
 | zero=>
   intro vs q P h h1 h2 h3
   cases h
   exact⟨h1,h2.up (by omega) (Nat.dvd_refl _),h3⟩
 | succ k ih=>
   intro vs q P h h1 h2 h3
   rw[p8] at h
   cases h with
   | cons h hr=>
     obtain⟨r,rfl,r1,r2,r3,r4⟩:=h.numb hs
     have:=ih (q:=x9b q r) (P:=P + 10 ^ (45 * m)) hr (k2y h1 r1) (y3e h1 r1 h2 ⟨r2,r3⟩) (fun h=>by
      rw[Qn.int h1 (h3 h),Qn.int r1 (r4 h),x5t]
      rfl)
     rw[show P + (k + 1) * 10 ^ (45 * m)=P + 10 ^ (45 * m) + k * 10 ^ (45 * m) by rw[Nat.succ_mul];omega]
     exact this
theorem w1t {z i w:Int} {l:List (Int×Int)} {p:Int×Int} (h:p∈j1s z l i w):p∈l∨(p=(i,w)∧w≠z):=by
 unfold j1s at h
 rcases x4.1 h with h | h
 ·exact .inl (m0.1 h).1
 ·rcases x4.1 h with h | h
  ·split at h
   ·simp at h
   ·rename_i hne
    exact .inr ⟨y3.1 h,hne⟩
  ·exact .inl (m0.1 h).1
theorem y3g {z i w:Int} {l:List (Int×Int)} {M:Nat} (hl:l.Pairwise (fun p q=>p.1 < q.1)) (hp:∀ p∈l,p.2≠z∧p.1.natAbs≤10 ^ (45 * M)∧p.2.natAbs≤10 ^ (45 * M)) (hi:i.natAbs≤10 ^ (45 * M)) (hw:w.natAbs≤10 ^ (45 * M)):
  (j1s z l i w).Pairwise (fun p q=>p.1 < q.1)∧(∀ p∈j1s z l i w,p.2≠z∧p.1.natAbs≤10 ^ (45 * M)∧p.2.natAbs≤10 ^ (45 * M))∧(j1s z l i w).length≤l.length + 1:=by
 obtain⟨p1,_,p3⟩:=v3r (A:=45 * M + 1) hl (fun p h=>⟨(hp p h).1,z7h (hp p h).2.1,z7h (hp p h).2.2⟩) (z7h hi) (z7h hw)
 refine⟨p1,fun p h=> ?_,p3⟩
 rcases w1t h with h | ⟨rfl,hne⟩
 ·exact hp p h
 ·exact⟨hne,hi,hw⟩
def v3v (K:Nat) (V:List Var) (env:List (List Nat×Val)):Prop:=1≤K∧∀ v∈V,∃ w,env.find? (fun p=>decide (p.1=v.name))=some (v.name,w)∧VM K v.sort w
theorem k9z {m k:Nat} (hk:k≤10 ^ 45):k * 10 ^ (45 * m)≤10 ^ (45 * (m + 1)):=by
 rw[Nat.mul_add,Nat.pow_add,u1]
 exact Nat.mul_le_mul_left _ hk
theorem w1u {M:Nat} {V:List Var} {env:List (List Nat×Val)} {n:Node} {ss:List Nat} {s:Nat} {ks:Term} {vs:List Val} (he:v3v M V env) (hn:NodeOk V n ss s ks) (hv:VMs M ss vs) (hk:ss.length≤10 ^ 45) (hm:n.op=15→VM 1 s (at0 vs 0)):VM (M + 1) s (nodeF env n vs):=by
 obtain⟨hM,he⟩:=he
 have l45:∀ {a:List Nat} {s:Nat},(∃ q:Qn,q.C∧q.text=a∧q.L 45 1∧(s=2→q.d=1))→s=2∨s=3→VM (M + 1) s (.num s (k2z s a)):=fun h hs=>by
  obtain⟨h1,_,h3,h4⟩:=x0u h
  exact (VM.num1 hs h1 h3 h4).up (by omega)
 cases hn with
 | bool h=>rcases h with rfl | rfl <;> simp[nodeF,bare,VM]
 | int h=>simpa [nodeF] using l45 (x0v h) (.inl rfl)
 | real h=>simpa [nodeF] using l45 (q7v h) (.inr rfl)
 | @var v ks h=>
   obtain⟨w,hw,hok⟩:=he v h
   have:nodeF env ⟨4,v.sort,v.name,[],0⟩ vs=w:=by simp[nodeF,k9e,hw]
   rw[this]
   exact hok.up (by omega)
 | not=>simp[nodeF,bare,VM]
 | andor h=>rcases h with rfl | rfl <;> simp[nodeF,bare,VM]
 | imp=>simp[nodeF,bare,VM]
 | ite h1 h2=>
   obtain⟨v,w,x,rfl,hu,hw,hx⟩:=hv.three
   by_cases hb:v.b=true
   ·simpa [nodeF,bare,at0,hb] using hw.up (by omega)
   ·simpa [nodeF,bare,at0,hb] using hx.up (by omega)
 | eq h1 h2=>simp[nodeF,bare,VM]
 | cmp h hs=>rcases h with rfl | rfl <;> simp[nodeF,bare,VM]
 | @add k s ks h hs=>
   obtain⟨a1,a2,a3⟩:=y3f hs (q:=z3j 0) (P:=0) hv q7i ⟨Nat.zero_le _,Nat.one_dvd _⟩ fun _=>rfl
   have h0:(at0 vs 0).s=s:=by
    obtain⟨k',rfl⟩:∃ k',k=k' + 1:=⟨k - 1,by omega⟩
    exact (VMs.head (by rwa [p8] at hv)).s
   have:nodeF env (bare 14 k) vs= .num s (x3l vs (z3j 0)):=by simp[nodeF,bare,h0,x3l]
   rw[this]
   rw[List.length_replicate] at hk
   have a4:=a2.up (P':=10 ^ (45 * (M + 1))) (D':=2520 ^ (M + 1)) (by rw[k6];exact k9z hk) (Nat.pow_dvd_pow _ (by omega))
   exact⟨rfl,hs,a1,a4.n,a4.d,a3⟩
 | @mul s n ks hs hn=>
   obtain⟨v,w,rfl,hu,hw⟩:=hv.two
   obtain⟨q,rfl,q1,q2,q3,q4⟩:=(show VM 1 s v from hm rfl).numb hs
   obtain⟨r,rfl,r1,r2,r3,r4⟩:=hw.numb hs
   have:nodeF env (bare 15 2) [.num s q, .num s r]= .num s (k2x q r):=by simp[nodeF,bare,at0,Val.s,Val.q]
   rw[this]
   have a4:=y3d q1 r1 ⟨q2,q3⟩ ⟨r2,r3⟩
   rw[←Nat.pow_add,←Nat.pow_add,show 45 * 1 + 45 * M=45 * (M + 1) by omega,Nat.add_comm 1 M] at a4
   refine⟨rfl,hs,v3p q1 r1,a4.n,a4.d,fun h=> ?_⟩
   rw[Qn.int q1 (q4 h),Qn.int r1 (r4 h),x5s]
   rfl
 | @div o k ks h h1 h2=>
   obtain⟨v,rfl,hu⟩:=hv.one
   obtain⟨z,rfl,hz⟩:=hu.int
   rcases h with rfl | rfl
   ·have:nodeF env ⟨16,0,[],dec k,1⟩ [.num 2 (z3j z)]= .num 2 (z3j (z / (k:Int))):=by simp[nodeF,at0,Val.q,z8u,z1h]
    rw[this]
    exact VM.of_int (j1 (Int.natAbs_ediv_le_natAbs z k) (j1 hz (p45 (by omega))))
   ·have:nodeF env ⟨17,0,[],dec k,1⟩ [.num 2 (z3j z)]= .num 2 (z3j (z % (k:Int))):=by simp[nodeF,at0,Val.q,z8u,z1h]
    rw[this]
    have hk:(z % (k:Int)).natAbs < 10:=by
     have:=Int.emod_nonneg z (show (k:Int)≠0 by omega)
     have:=Int.emod_lt_of_pos z (show (0:Int) < k by omega)
     omega
    have h10:10 ^ 1≤10 ^ (45 * (M + 1)):=b9 (by omega) (by omega)
    exact VM.of_int (by omega)
 | select=>
   obtain⟨v,w,rfl,hu,hw⟩:=hv.two
   obtain⟨z,l,rfl⟩:=hu.array
   obtain⟨i,rfl,hi⟩:=hw.int
   have:nodeF env (bare 18 2) [.arr z l, .num 2 (z3j i)]= .num 2 (z3j (atA z l i)):=by simp[nodeF,bare,at0,Val.q,Val.l,z8u]
   rw[this]
   have hp:10 ^ (45 * M)≤10 ^ (45 * (M + 1)):=p45 (by omega)
   refine VM.of_int ?_
   rcases j5a (z:=z) (l:=l) (i:=i) with e' | ⟨p,hp,e'⟩ <;> rw[e']
   ·have:=hu.2.1;omega
   ·have:=(hu.2.2.2.1 p hp).2.2;omega
 | store=>
   obtain⟨v,w,x,rfl,hu,hw,hx⟩:=hv.three
   obtain⟨z,l,rfl⟩:=hu.array
   obtain⟨i,rfl,hi⟩:=hw.int
   obtain⟨j,rfl,hj⟩:=hx.int
   have:nodeF env (bare 19 3) [.arr z l, .num 2 (z3j i), .num 2 (z3j j)]= .arr z (j1s z l i j):=by simp[nodeF,bare,at0,Val.q,Val.l,z8u]
   rw[this]
   obtain⟨p1,p2,p3⟩:=y3g (M:=M) hu.2.2.1 hu.2.2.2.1 hi hj
   have hp:10 ^ (45 * M)≤10 ^ (45 * (M + 1)):=p45 (by omega)
   exact⟨rfl,j1 hu.2.1 hp,p1,fun p h=>⟨(p2 p h).1,j1 (p2 p h).2.1 hp,j1 (p2 p h).2.2 hp⟩,by have:=hu.2.2.2.2;omega⟩
 | const=>
   obtain⟨v,rfl,hu⟩:=hv.one
   obtain⟨z,rfl,hz⟩:=hu.int
   have:nodeF env (bare 20 1) [.num 2 (z3j z)]= .arr z []:=by simp[nodeF,bare,at0,Val.q,z8u]
   rw[this]
   exact⟨rfl,j1 hz (p45 (by omega)), .nil,by simp,by simp⟩
theorem y3h {V:List Var} {ss:List Nat} {d:Nat} {t:Term} (h:WF V ss d t):ss.length≤t.length:=by
 induction h with
 | nil=>exact x7 _
 | cons h1 h2 h3 h4 ih1 ih2=>simp only[v5,k7];omega
theorem y3i {V:List Var} {env:List (List Nat×Val)} {n:Node} {ss:List Nat} {s:Nat} {ks:Term} {vs:List Val} (hn:NodeOk V n ss s ks) (h3:n.op=3):VM 1 s (nodeF env n vs):=by
 have l45:∀ {a:List Nat} {s:Nat},(∃ q:Qn,q.C∧q.text=a∧q.L 45 1∧(s=2→q.d=1))→s=2∨s=3→VM 1 s (.num s (k2z s a)):=fun h hs=>by
  obtain⟨h1,_,h3,h4⟩:=x0u h
  exact VM.num1 hs h1 h3 h4
 cases hn <;> simp[bare] at h3
 case bool h=>omega
 case int h=>simpa [nodeF] using l45 (x0v h) (.inl rfl)
 case real h=>simpa [nodeF] using l45 (q7v h) (.inr rfl)
 case andor h=>omega
 case cmp h=>omega
 case div h=>omega
theorem k3s {V:List Var} {n:Node} {t:Term} {s d:Nat} {ss:List Nat} (h:WF V (s::ss) d (n::t)):∃ ss' ks,NodeOk V n ss' s ks:=by
 generalize hT:n::t=T at h
 cases h with
 | cons h1 h2 h3 h4=>
   obtain⟨rfl,_⟩:=List.cons.inj hT
   exact⟨_,_,h2⟩
theorem w1v {env:List (List Nat×Val)} {n:Node} {t:Term} {vs:List Val} (h:Ev env (n::t) vs):∃ vs',at0 vs 0=nodeF env n vs':=by
 generalize hT:n::t=T at h
 cases h with
 | nil=>cases hT
 | cons h1 h2 h3=>
   obtain⟨rfl,_⟩:=List.cons.inj hT
   exact⟨_,rfl⟩
theorem k3t {V:List Var} {env:List (List Nat×Val)} {n:Node} {ss:List Nat} {s d:Nat} {ks:Term} {vs:List Val} (h1:WF V ss d ks) (hn:NodeOk V n ss s ks) (h15:n.op=15) (a1:Ev env ks vs):VM 1 s (at0 vs 0):=by
 cases hn <;> simp[bare] at h15
 case bool h=>omega
 case andor h=>omega
 case cmp h=>omega
 case div h=>omega
 case mul n ks hn hs=>
  obtain⟨ss2,ks2,h2⟩:=k3s h1
  obtain⟨vs2,e2⟩:=w1v a1
  rw[e2]
  exact y3i h2 hn
theorem u0z {K:Nat} {V:List Var} {env:List (List Nat×Val)} {ss:List Nat} {d:Nat} {t:Term} (he:v3v K V env) (h:WF V ss d t) (ht:t.length≤10 ^ 45):∃ vs,Ev env t vs∧VMs (K + d) ss vs:=by
 induction h with
 | nil=>exact⟨[], .nil, .nil⟩
 | @cons n ss ks s d ss' rest h1 h2 h3 h4 ih1 ih2=>
   simp only[v5,k7] at ht
   obtain⟨vs,a1,a2⟩:=ih1 (by omega)
   obtain⟨ws,b1,b2⟩:=ih2 (by omega)
   refine⟨_, .cons a1 (by rw[h3,a2.len]) b1, ?_⟩
   have hl:=y3h h1
   have hE:v3v (K + d) V env:=⟨by have:=he.1;omega,fun v hv=>by
    obtain⟨w,e1,e2⟩:=he.2 v hv
    exact⟨w,e1,e2.up (by omega)⟩⟩
   exact .cons (w1u hE h2 a2 (by omega) fun h15=>k3t h1 h2 h15 a1) b2
theorem v0a {K:Nat} {V:List Var} {env:List (List Nat×Val)} {s d:Nat} {t:Term} (he:v3v K V env) (h:WF V [s] d t) (ht:t.length≤20000):VM (K + d) s (q0e env t):=by
 obtain⟨vs,h1,h2⟩:=u0z he h (j1 ht (by decide))
 obtain⟨v,rfl,hv⟩:=h2.one
 rw[q7y h1]
 exact hv
def q2f (V:List Var) (vs:List Val):List (List Nat×Val):=List.zipWith (fun v w=>(v.name,w)) V vs
structure FitK (K:Nat) (V:List Var) (vs:List Val):Prop where
 len:vs.length=V.length
 ok:∀ i (h:i < V.length) (h2:i < vs.length),VOk K V[i].sort vs[i]
theorem q6q {V:List Var} {vs:List Val} (h:vs.length=V.length):(q2f V vs).length=V.length:=by simp[q2f,h]
theorem x3o {V:List Var} {vs:List Val} {i:Nat} (h:i < (q2f V vs).length) (h1:i < V.length) (h2:i < vs.length):(q2f V vs)[i]=(V[i].name,vs[i]):=by simp[q2f]
theorem y3j {K:Nat} {V:List Var} {vs:List Val} (hK:1≤K) (hn:(V.map (·.name)).Nodup) (h:FitK K V vs):q7n K V (q2f V vs):=by
 refine⟨hK,fun v hv=> ?_⟩
 obtain⟨i,hi,rfl⟩:=d5.1 hv
 have hi2:i < vs.length:=by rw[h.len];exact hi
 have hie:i < (q2f V vs).length:=by rw[q6q h.len];exact hi
 refine⟨vs[i], ?_,h.ok i hi hi2⟩
 rw[List.find?_eq_some_iff_getElem]
 refine⟨by simp,i,hie,x3o hie hi hi2,fun j hj=> ?_⟩
 rw[x3o (by omega) (by omega) (by omega)]
 have:V[j].name≠V[i].name:=fun e=>by
  have:=(List.getElem_inj (xs:=V.map (·.name)) (i:=j) (j:=i) (h₀:=by simp;omega) (h₁:=by simpa using hi) hn).1 (by simpa using e)
  omega
 simp[this]
theorem v0b {K:Nat} {V:List Var} {vs:List Val} (hK:K≤330000) (h:FitK K V vs):∀ p∈q2f V vs,∃ m s,VOk m s p.2∧m≤330000:=by
 intro p hp
 obtain⟨i,hi,rfl⟩:=d5.1 hp
 have h1:i < V.length:=by rw[q6q h.len] at hi;exact hi
 have h2:i < vs.length:=by rw[h.len];exact h1
 rw[x3o hi h1 h2]
 exact⟨K,_,h.ok i h1 h2,hK⟩
theorem x1a {l:List (List Nat×Val)}:z0r 6 (l.map eB)=true:=z1u fun _=>⟨rfl,rfl,rfl⟩
theorem j5k {V:List Var} {vs:List Val} {u w:Tip} (hl:V.length≤1000) (hlen:vs.length=V.length):Pure Gam 52 [.sl (V.map z2b) u, .sl (vs.map eV) w] (.sl ((q2f V vs).map eB) .no):=by
 refine Pure.of rfl w7f rfl rfl rfl (az:=[.sl (V.map z2b) .no, .sl (vs.map eV) .no]) rfl (by simp[z0i,AV.ids,z0d z5z,z2q]) fun D B clk T hB hT=> ?_
 simp only[go_sem,v2r,hB]
 refine z6h V.length (by omega) (fun i q=>∃ (t:Tip) (o0 o1:AObj),q.ts 0= .sl (V.map z2b) .no∧q.ts 1= .sl (vs.map eV) .no∧q.ts 5= .sl (((q2f V vs).take i).map eB) t∧q.ts 6= .int .i64 (i:Int)∧q.h=D++[o0,o1]∧q3e B 1 o1 t 6) ⟨.nil,_,_,rfl,rfl,rfl,rfl,rfl, .inl rfl⟩ ?_ ?_
 ·rintro i hlt f1 f2 ts h clk P ⟨t,o0,o1,q0,q1,q5,q6,rfl,ht⟩ hnx he hr
  dsimp only at q0 q1 q5 q6
  have hi2:i < vs.length:=by omega
  have hie:i < (q2f V vs).length:=by rw[q6q hlen];exact hlt
  have hx:=fun h=>z6r (l:=V) (i:=i) (h:=h) (t:= .no) (k:= .i64) hlt
  have hy:=fun h=>x9c (vs:=vs) (i:=i) (h:=h) (t:= .no) (k:= .i64) hi2
  have e8:((q2f V vs).take i).map eB++[((V[i].name,vs[i]):List Nat×Val)].map eB=((q2f V vs).take (i + 1)).map eB:=by
   rw[w7 hie,x3o hie hlt hi2,v8]
  have hel:((q2f V vs).take i).length≤1000:=by rw[u7];omega
  generalize V[i]=v at *
  generalize vs[i]=x at *
  simp only[go_sem,x4n,nat,q0,q1,q5,q6,hB,f1,z6,hx,hy]
  rw[show [AV.agg [.str v.name, .int .i64 (x.s:Int), .bool x.b, .str x.t, .sl (z3b (x.l.map fun p=>z0f p.1)) .no, .sl (z3b (x.l.map fun p=>z0f p.2)) .no]]=[((v.name,x):List Nat×Val)].map eB from rfl,z1c hB rfl ht x1a x1a (by simp only[z6,v6];omega),e8]
  simp only[go_sem,q0,q1,q5,q6,hB,f2]
  exact hnx _ ⟨_,_,_,q0,q1,rfl,rfl,rfl, .inr (.inr ⟨_,rfl,rfl⟩)⟩
 ·rintro f1 ts h clk P ⟨t,o0,o1,q0,q1,q5,q6,rfl,ht⟩ he hr
  dsimp only at q0 q1 q5 q6
  rw[List.take_of_length_le (by rw[q6q hlen];omega)] at q5
  simp only[go_sem,x4n,q0,q1,q5,q6,hB,f1,z6]
  refine he _ _ ?_
  simp only[go_sem,q5]
  rw[z2y rfl (by simp[AV.cv,AV.ids,z0d q0z])]
  exact hT _
theorem v0c {K:Nat} {V:List Var} {vs:List Val} {u w:Tip} (hl:V.length≤1000) (h:FitK K V vs) (hK:K≤330000):Pure Gam 51 [.sl (V.map z2b) u, .sl (vs.map eV) w] (.bool true):=by
 have hlen:=h.len
 refine Pure.of rfl w7d rfl rfl rfl (az:=[.sl (V.map z2b) .no, .sl (vs.map eV) .no]) rfl (by simp[z0i,AV.ids,z0d z5z,z2q]) fun D B clk T hB hT=> ?_
 have e0:decide ((V.length:Int)=(vs.length:Int))=true:=by rw[r8];omega
 simp only[go_sem,v2q,hB,z6,e0,z8]
 refine z6h V.length (by omega) (fun i q=>q.ts 0= .sl (V.map z2b) .no∧q.ts 1= .sl (vs.map eV) .no∧q.ts 5= .int .i64 (i:Int)) ⟨rfl,rfl,rfl⟩ ?_ ?_
 ·rintro i hlt f1 f2 ts hh clk P ⟨q0,q1,q5⟩ hnx he hr
  dsimp only at q0 q1 q5
  have hi2:i < vs.length:=by omega
  have hx:=fun h=>z6r (l:=V) (i:=i) (h:=h) (t:= .no) (k:= .i64) hlt
  have hy:=fun h=>x9c (vs:=vs) (i:=i) (h:=h) (t:= .no) (k:= .i64) hi2
  have hv:=h.ok i hlt hi2
  have p:=x6c hK hv
  simp only[eV,value,nat] at p
  have e1:decide ((vs[i].s:Int)=(V[i].sort:Int))=true:=by rw[hv.s];simp
  generalize V[i]=v at *
  generalize vs[i]=x at *
  simp only[go_sem,x4m,nat,q0,q1,q5,hB,f1,f2,z6,hx,hy,z0a p,z8,e1,decide_true]
  exact hnx _ ⟨q0,q1,rfl⟩
 ·rintro f1 ts hh clk P ⟨q0,q1,q5⟩ he hr
  dsimp only at q0 q1 q5
  simp only[go_sem,x4m,q0,q1,q5,hB,f1,z6]
  refine he _ _ ?_
  simp only[go_sem,]
  rw[z0e]
  exact hT _
section
def u1a (K:Nat) (V:List Var) (s:Nat) (t:Term):Prop:=∃ d,WF V [s] d t∧t.length≤20000∧K * (t.length + 1)≤330000∧d≤256∧1≤s
section
variable {K:Nat} {U V:List Var} [UOk U] {env:List (List Nat×Val)}
theorem v0d {l:List Term} {u w:Tip} (hV:∀ v∈V,v∈U) (he:q7n K V env) (hev:∀ p∈env,∃ m s,VOk m s p.2∧m≤330000) (hel:env.length≤1000) (hl:l.length≤1000) (ht:∀ t∈l,∃ s,u1a K V s t):Pure Gam 107 [.sl (l.map z0w) u, .sl (env.map eB) w] (.sl ((l.map (q0e env)).map eV) .no):=by
 refine Pure.of rfl w7k rfl rfl rfl (az:=[.sl (l.map z0w) .no, .sl (env.map eB) .no]) rfl (by simp[z0i,AV.ids,z0d z3z,z0d q0z]) fun D B clk T hB hT=> ?_
 simp only[go_sem,v2v,hB]
 refine z6h l.length (by omega) (fun i q=>∃ (t:Tip) (o0 o1 o2:AObj),q.ts 0= .sl (l.map z0w) .no∧q.ts 1= .sl (env.map eB) .no∧q.ts 5= .sl (((l.take i).map (q0e env)).map eV) t∧q.ts 6= .int .i64 (i:Int)∧q.h=D++[o0,o1,o2]∧q3e B 2 o2 t 5) ⟨.nil,_,_,_,rfl,rfl,rfl,rfl,rfl, .inl rfl⟩ ?_ ?_
 ·rintro i hlt f1 f2 ts h clk P ⟨t,o0,o1,o2,q0,q1,q5,q6,rfl,htip⟩ hnx hex hr
  dsimp only at q0 q1 q5 q6
  have hx:=fun h=>q5b (l:=l) (i:=i) (h:=h) (t:= .no) (k:= .i64) hlt
  obtain⟨s,d,hw,h1,h2,h3,h4⟩:=ht _ (x8 hlt)
  have p:=j5i (u:= .no) (w:= .no) (x:= .nil) hV he hev hel h1 h2 h3 hw h4
  have e8:((l.take i).map (q0e env)).map eV++[q0e env l[i]].map eV=((l.take (i + 1)).map (q0e env)).map eV:=by
   rw[w7 hlt,v8,v8]
   rfl
  simp only[z0w] at hx
  generalize q0e env l[i]=v at *
  generalize l[i]=x at *
  simp only[eV,value,nat] at p
  simp only[go_sem,x4q,nat,q0,q1,q5,q6,hB,f1,z6,hx,z0a p]
  rw[show [AV.agg [.int .i64 (v.s:Int), .bool v.b, .str v.t, .sl (z3b (v.l.map fun p=>z0f p.1)) .no, .sl (z3b (v.l.map fun p=>z0f p.2)) .no]]=[v].map eV from rfl,z1c hB rfl htip z8e z8e (by simp only[z6,v6,u7];omega),e8]
  simp only[go_sem,q0,q1,q5,q6,hB,f2]
  exact hnx _ ⟨_,_,_,_,q0,q1,rfl,rfl,rfl, .inr (.inr ⟨_,rfl,rfl⟩)⟩
 ·rintro f1 ts h clk P ⟨t,o0,o1,o2,q0,q1,q5,q6,rfl,htip⟩ hex hr
  dsimp only at q0 q1 q5 q6
  rw[b7] at q5
  simp only[go_sem,x4q,q0,q1,q5,q6,hB,f1,z6]
  refine hex _ _ ?_
  simp only[go_sem,q5]
  rw[z2y rfl (by simp[-List.map_map,AV.cv,AV.ids,z2q])]
  exact hT _
def q3a (p:List Nat) (vs:List Val):AV:= .agg [.str p, .sl (vs.map eV) .no]
theorem v0e {p:List Nat} {vs:List Val}:(q3a p vs).ids=[]:=by simp[q3a,AV.ids,z0i,z2q]
theorem j5l {a:App} {w:Tip} (hV:∀ v∈V,v∈U) (he:q7n K V env) (hev:∀ p∈env,∃ m s,VOk m s p.2∧m≤330000) (hel:env.length≤1000) (hl:a.args.length≤1000) (ht:∀ t∈a.args,∃ s,u1a K V s t):Pure Gam 55 [z4q a, .sl (env.map eB) w] (q3a a.pred (a.args.map (q0e env))):=by
 have p:=v0d (u:= .no) (w:= .no) hV he hev hel hl ht
 refine Pure.of rfl w7h rfl rfl rfl (az:=[z4q a, .sl (env.map eB) .no]) rfl (by simp[z0i,AV.ids,z4r,z0d q0z]) fun D B clk T hB hT=> ?_
 rw[q3a] at hT
 simp only[go_sem,v2t,hB,z4q,z1p,z0a p,z0t,z0s,z0g]
 refine⟨by simp[-List.map_map,z1r,apart,z0q,z1n,z1t,AOp.isCall,hB,AV.ids,z0i,z2q], ?_⟩
 rw[z2y rfl (by simp[-List.map_map,AV.cv,cvL,AV.ids,z0i,z2q])]
 exact hT _
end
end
section
structure TN where
 cl:Nat
 vals:List Val
 kids:Nat
def eTN (x:TN):AV:= .agg [.int .i64 (x.cl:Int), .sl (x.vals.map eV) .no, .int .i64 (x.kids:Int)]
def z9n (t:List TN):AV:= .sl (t.map eTN) .no
theorem x1b {x:TN}:(eTN x).ids=[]:=by simp[eTN,AV.ids,z0i,z2q]
theorem q7z {t:List TN}:(z9n t).ids=[]:=j3m fun _=>x1b
theorem x9e {l:List TN}:z0r 3 (l.map eTN)=true:=z1u fun _=>⟨rfl,rfl,rfl⟩
theorem x1c {l:List TN} {i:Nat} {h:List AObj} {t:Tip} {k:IntKind} (hi:i < l.length):z1v h 3 (.sl (l.map eTN) t) (.int k (i:Int))=some (.iptr [.int .i64 (l[i].cl:Int), .sl (l[i].vals.map eV) .no, .int .i64 (l[i].kids:Int)] 0,h):=z3v hi rfl rfl
def endF (n:Nat):List TN→Nat→Nat→Int
 | _,0,i=>(i:Int)
 | [],_ + 1,_=> -1
 | x::l,L + 1,i=>if n < x.kids then -1 else endF n l (L + x.kids) (i + 1)
def x6e (t:List TN) (i:Nat):Int:=endF t.length (t.drop i) 1 i
theorem q2g {n:Nat} {l:List TN} {i:Nat}:endF n l 0 i=(i:Int):=by cases l <;> rfl
theorem x3p {n b r:Nat}:∀ {l:List TN} {a i:Nat},endF n l (a + b) i=(r:Int)→∃ l1 l2,l=l1++l2∧endF n l a i=((i + l1.length:Nat):Int)∧endF n l2 b (i + l1.length)=(r:Int)
 | l,0,i,h=>⟨[],l,rfl,q2g,by rw[k6] at h;exact h⟩
 | [],a + 1,i,h=>by
   rw[show a + 1 + b=(a + b) + 1 by omega] at h
   simp only[endF] at h
   omega
 | x::l,a + 1,i,h=>by
   rw[show a + 1 + b=(a + b) + 1 by omega] at h
   simp only[endF] at h⊢
   split at h
   ·omega
   ·rename_i hk
    rw[show a + b + x.kids=(a + x.kids) + b by omega] at h
    obtain⟨l1,l2,rfl,h1,h2⟩:=x3p h
    exact⟨x::l1,l2,rfl,by rw[if_neg hk,h1,v5,Nat.add_comm l1.length,d3],by rw[v5,Nat.add_comm l1.length,←d3];exact h2⟩
theorem k3u {n r:Nat}:∀ {l:List TN} {a i:Nat},endF n l a i=(r:Int)→r≤i + l.length
 | l,0,i,h=>by rw[q2g] at h;omega
 | [],a + 1,i,h=>by simp only[endF] at h;omega
 | x::l,a + 1,i,h=>by
   simp only[endF] at h
   split at h
   ·omega
   ·have:=k3u h
    simp only[v5];omega
def q5p (t:List TN):Nat→Nat→List Nat
 | _,0=>[]
 | i,k + 1=>i::q5p t (x6e t i).toNat k
def RunT (t:List TN) (i k:Nat):Prop:=∃ b r:Nat,endF t.length (t.drop i) (k + b) i=(r:Int)
theorem RunT.step {t:List TN} {i k:Nat} (h:RunT t i (k + 1)):i < t.length∧x6e t i=((x6e t i).toNat:Int)∧RunT t (x6e t i).toNat k:=by
 obtain⟨b,r,h⟩:=h
 have hi:i < t.length:=by
  refine Nat.lt_of_not_le fun hn=> ?_
  rw[List.drop_eq_nil_of_le hn,show k + 1 + b=(k + b) + 1 by omega] at h
  simp only[endF] at h
  omega
 rw[show k + 1 + b=1 + (k + b) by omega] at h
 obtain⟨l1,l2,e,h1,h2⟩:=x3p h
 have h3:x6e t i=((i + l1.length:Nat):Int):=h1
 refine⟨hi,by rw[h3];rfl,b,r, ?_⟩
 rw[h3,Int.toNat_natCast]
 have:t.drop (i + l1.length)=l2:=by rw[←List.drop_drop,e,List.drop_left]
 rw[this]
 exact h2
def WfT (t:List TN):Prop:=x6e t 0=(t.length:Int)
theorem y3k {t:List TN} (h:WfT t):∀ i,i < t.length→∃ L,endF t.length (t.drop i) (L + 1) i=(t.length:Int)
 | 0,_=>⟨0,h⟩
 | i + 1,hi=>by
   obtain⟨L,hL⟩:=y3k h i (by omega)
   rw[b6 (by omega:i < t.length)] at hL
   simp only[endF] at hL
   split at hL
   ·omega
   ·cases hk:L + t[i].kids with
    | zero=>rw[hk,q2g] at hL;omega
    | succ k=>rw[hk] at hL;exact⟨k,hL⟩
theorem k3v {t:List TN} (h:WfT t) {i:Nat} (hi:i < t.length):RunT t (i + 1) t[i].kids∧t[i].kids≤t.length:=by
 obtain⟨L,hL⟩:=y3k h i hi
 rw[b6 hi] at hL
 simp only[endF] at hL
 split at hL
 ·omega
 ·exact⟨⟨L,t.length,by rw[Nat.add_comm t[i].kids];exact hL⟩,by omega⟩
theorem k3w {t:List TN}:∀ {k i:Nat},RunT t i k→∀ p∈q5p t i k,p < t.length
 | 0,_,_,p,hp=>by simp[q5p] at hp
 | k + 1,i,h,p,hp=>by
   obtain⟨h1,h2,h3⟩:=h.step
   rcases j6.1 hp with rfl | hp
   ·exact h1
   ·exact k3w h3 p hp
theorem j5m {t:List TN}:∀ {k i:Nat},(q5p t i k).length=k
 | 0,_=>rfl
 | k + 1,i=>by simp[q5p,j5m]
section
variable (s:Sys)
def clOf (n:Nat):Clause:=s.clauses.getD n ⟨[],[],[],⟨[],[]⟩⟩
inductive DT:List (List Nat)→List TN→Prop
 | nil:DT [] []
 | cons {x:TN} {ks rest:List TN} {ps:List (List Nat)} (hc:x.cl < s.clauses.length) (hk:x.kids=s.clauses[x.cl].body.length) (h:DT (s.clauses[x.cl].body.map (·.pred)) ks) (hr:DT ps rest):DT (s.clauses[x.cl].head.pred::ps) (x::(ks++rest))
end
section
variable {s:Sys}
theorem DT.append {ps qs:List (List Nat)} {t u:List TN} (h:DT s ps t) (h':DT s qs u):DT s (ps++qs) (t++u):=by
 induction h with
 | nil=>exact h'
 | cons hc hk h hr ih1 ih2=>
   rw[y6,y6,u4]
   exact .cons hc hk h ih2
theorem DT.endF {ps:List (List Nat)} {t:List TN} (h:DT s ps t):∀ {n L i:Nat} {r:List TN},(∀ x∈t,x.kids≤n)→endF n (t++r) (ps.length + L) i=Am.endF n r L (i + t.length):=by
 induction h with
 | nil=>
   intro n L i r _
   simp
 | @cons x ks rest ps hc hk h hr ih1 ih2=>
   intro n L i r hn
   have h1:=ih1 (n:=n) (L:=ps.length + L) (i:=i + 1) (r:=rest++r) fun y hy=>hn y (by simp[hy])
   have h2:=ih2 (n:=n) (L:=L) (i:=i + 1 + ks.length) (r:=r) fun y hy=>hn y (by simp[hy])
   have hx:=hn x j7
   rw[z6,←hk] at h1
   rw[y6,u4,v5,show ps.length + 1 + L=(ps.length + L) + 1 by omega]
   simp only[Am.endF]
   rw[if_neg (by omega),Nat.add_comm _ x.kids,h1,h2,v5,k7]
   congr 1
   omega
theorem DT.wf {p:List Nat} {t:List TN} (h:DT s [p] t) (hn:∀ x∈t,x.kids≤t.length):WfT t:=by
 have:=h.endF (L:=0) (i:=0) (r:=[]) hn
 rw[List.append_nil,q2g,k6] at this
 unfold WfT x6e
 rw[List.drop_zero]
 exact this
theorem DT.pos {ps:List (List Nat)} {t:List TN} (h:DT s ps t):ps.length≤t.length:=by
 induction h with
 | nil=>exact x7 _
 | cons hc hk h hr ih1 ih2=>simp only[v5,k7];omega
theorem DT.kids_le {ps:List (List Nat)} {t:List TN} (h:DT s ps t):∀ x∈t,x.kids≤t.length:=by
 induction h with
 | nil=>simp
 | @cons x ks rest ps hc hk h hr ih1 ih2=>
   have:=h.pos
   rw[z6,←hk] at this
   intro y hy
   simp only[v5,k7]
   rcases j6.1 hy with rfl | hy
   ·omega
   ·rcases x4.1 hy with hy | hy
    ·have:=ih1 y hy;omega
    ·have:=ih2 y hy;omega
theorem DT.tree {p:List Nat} {t:List TN} (h:DT s [p] t):WfT t:=h.wf h.kids_le
theorem DT.der (hs:SysV s) {ps:List (List Nat)} {t:List TN} (h:DT s ps t):(∀ p∈ps,p=[]∨DS s p)∧∀ x∈t,(clOf s x.cl).head.pred=[]∨DS s (clOf s x.cl).head.pred:=by
 induction h with
 | nil=>simp
 | @cons x ks rest ps hc hk h hr ih1 ih2=>
   have hcl:clOf s x.cl=s.clauses[x.cl]:=by simp[clOf,n8,v9 hc]
   have hm:=x8 hc
   have hx:s.clauses[x.cl].head.pred=[]∨DS s s.clauses[x.cl].head.pred:=by
    by_cases he:s.clauses[x.cl].head.pred=[]
    ·exact .inl he
    ·refine .inr (.of hm he fun a ha=> ?_)
     rcases ih1.1 a.pred (List.mem_map_of_mem ha) with h0 | h0
     ·exact absurd h0 (hs.name_ne (hs.body hm ha))
     ·exact h0
   refine⟨fun p hp=> ?_,fun y hy=> ?_⟩
   ·rcases j6.1 hp with rfl | hp
    ·exact hx
    ·exact ih2.1 p hp
   ·rcases j6.1 hy with rfl | hy
    ·rw[hcl];exact hx
    ·rcases x4.1 hy with hy | hy
     ·exact ih1.2 y hy
     ·exact ih2.2 y hy
theorem DT.need (hs:SysV s) {ps:List (List Nat)} {t:List TN} (h:DT s ps t):(∀ p∈ps,p=[]∨NS s p)→∀ x∈t,(clOf s x.cl).head.pred=[]∨NS s (clOf s x.cl).head.pred:=by
 induction h with
 | nil=>simp
 | @cons x ks rest ps hc hk h hr ih1 ih2=>
   intro hps
   have hcl:clOf s x.cl=s.clauses[x.cl]:=by simp[clOf,n8,v9 hc]
   have hm:=x8 hc
   have hder:∀ a∈s.clauses[x.cl].body,DS s a.pred:=fun a ha=>by
    rcases (h.der hs).1 a.pred (List.mem_map_of_mem ha) with h0 | h0
    ·exact absurd h0 (hs.name_ne (hs.body hm ha))
    ·exact h0
   have hx:=hps _ j7
   have hb:∀ p∈s.clauses[x.cl].body.map (·.pred),p=[]∨NS s p:=fun p hp=>by
    obtain⟨a,ha,rfl⟩:=List.mem_map.1 hp
    right
    rcases hx with hx | hx
    ·exact .query hm hx hder ha
    ·exact .of hm hx hder ha
   intro y hy
   rcases j6.1 hy with rfl | hy
   ·rw[hcl];exact hx
   ·rcases x4.1 hy with hy | hy
    ·exact ih1 hb y hy
    ·exact ih2 (fun p hp=>hps p (List.mem_cons_of_mem _ hp)) y hy
end
end
end Go.Proofs.YtkollgjffkdliaaGreatDoor.Am
