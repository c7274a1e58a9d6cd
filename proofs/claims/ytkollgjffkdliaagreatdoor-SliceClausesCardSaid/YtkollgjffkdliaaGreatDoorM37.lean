/- Walking: the value of a node Walking: terms are evaluated Walking: terms are valid Walking: the value of a term, whether a formula holds, environments Walking: environments, facts Walking: facts hold  -/
import Derived.Test.YtkollgjffkdliaaGreatDoorM36
set_option linter.all false
namespace Go.Proofs.YtkollgjffkdliaaGreatDoor.Am
open Go
set_option maxRecDepth 100000
section
def eB (p:List Nat×Val):AV:= .agg [.str p.1,nat p.2.s, .bool p.2.b, .str p.2.t, .sl (z1n (p.2.l.map fun q=>z0i q.1)) .no, .sl (z1n (p.2.l.map fun q=>z0i q.2)) .no]
def evO (T:Term) (env:List (List Nat×Val)):AV:= .agg [.sl (T.map eNode) .no, .sl (env.map eB) .no, .sl [] .no]
theorem q2c (p:List Nat×Val):(eB p).ids=[]:=by simp[eB,AV.ids,idsL,z0q,nat]
theorem k6x {T:Term} {env:List (List Nat×Val)}:(evO T env).ids=[]:=by simp[evO,AV.ids,idsL,z0d z2i,z0d q2c]
theorem y8o {env:List (List Nat×Val)} {i:Nat} {h:List AObj} {t:Tip} {k:IntKind} (hi:i < env.length):z1p h 6 (.sl (env.map eB) t) (.int k (i:Int))=some (.iptr [.str env[i].1,nat env[i].2.s, .bool env[i].2.b, .str env[i].2.t, .sl (z1n (env[i].2.l.map fun q=>z0i q.1)) .no, .sl (z1n (env[i].2.l.map fun q=>z0i q.2)) .no] 0,h):=z2d hi rfl rfl
theorem VsOk.take {ss:List Nat} {M:Nat} {vs:List Val} (h:VsOk ss M vs):∀ i,VsOk (ss.take i) M (vs.take i):=by
 induction h with
 | nil=>intro i;simp only[List.take_nil];exact .nil
 | @cons m M2 s ss v vs h hr ih=>
   intro i
   cases i with
   | zero=>exact .nil
   | succ i=>exact .cons h (ih i)
theorem k6y {vs:List Val} {q:Qn} {v:Val}:j4a (vs++[v]) q=j7f (j4a vs q) v.q:=by simp[j4a]
theorem w5t {q:Qn}:decide (q7k q≤0)=(q.neg || decide (q.n=0)):=by
 unfold q7k
 by_cases h:q.n=0
 ·simp[h]
 ·cases hq:q.neg <;> simp[h]
theorem w5u {q:Qn} (hc:q.C):decide (q7k q < 0)=q.neg:=by
 unfold q7k
 by_cases h:q.n=0
 ·cases hq:q.neg
  ·simp[h]
  ·exact absurd h (hc.neg hq)
 ·cases hq:q.neg <;> simp[h]
section
variable {K:Nat} {V:List Var} {env:List (List Nat×Val)} {T:Term} {n:Node} {ss:List Nat} {s M:Nat} {ks:Term} {vs:List Val} {sl g:Nat} {u:Tip}
theorem k6z (he:q8u K V env) (hel:env.length≤1000) (hn:NodeOk V n ss s ks) (hv:VsOk ss M vs) (hvl:vs.length≤100000) (hM:M + K≤80000):Reads [(sl, .blk g [evO T env] false false 0)] 236 [.ptr sl g 0 0,eNode n, .sl (vs.map eV) u] (.tup [eV (nodeF env n vs), .int .i64 0]):=by
 have hlen:=hv.len
 refine Reads.of rfl y1t rfl rfl rfl (az:=[.ptr sl g 0 0,eNode n, .sl (vs.map eV) .no]) rfl (by simpa [idsL,AV.ids,z2i,z5y] using Cov.one (s:=sl) (o:= .blk g [evO T env] false false 0) (by simp[AObj.ids,idsL,k6x])) fun D B clk T' hB hS hlt hT=> ?_
 have h1:=hlt (sl, .blk g [evO T env] false false 0) (by simp)
 have b1:=z5m (g:=g) (hS (sl, .blk g [evO T env] false false 0) (by simp))
 dsimp only at h1 b1
 obtain⟨hK,he⟩:=he
 cases hn with
 | bool h=>
   rcases h with rfl | rfl
   ·rw[show nodeF env (bare 1 0) vs= .bool true by simp[nodeF,bare],z4x] at hT
    simp only[go_sem,z5z,hB,eNode,nat,bare,Int.cast_ofNat_Int,Int.reduceEq,decide_true,decide_false,z0a (x3c _),z0k,z0j,z0f]
    rw[z0g rfl (by simp[z1l,AV.cv,cvL,AV.ids,idsL])]
    exact hT _ hS.app
   ·rw[show nodeF env (bare 2 0) vs= .bool false by simp[nodeF,bare],z4x] at hT
    simp only[go_sem,z5z,hB,eNode,nat,bare,Int.cast_ofNat_Int,Int.reduceEq,decide_true,decide_false,z0a (x3c _),z0k,z0j,z0f]
    rw[z0g rfl (by simp[z1l,AV.cv,cvL,AV.ids,idsL])]
    exact hT _ hS.app
 | int h=>
   have hq:=j3z (j4b (s:=2) h)
   rename_i a
   rw[show nodeF env ⟨3,2,[],a,0⟩ vs= .num 2 (v2f 2 a) by simp[nodeF],q6k,hq.2.1] at hT
   simp only[go_sem,z5z,hB,eNode,nat,Int.cast_ofNat_Int,Int.reduceEq,decide_true,decide_false,z0k,z0j,z0f]
   rw[z0g rfl (by simp[z1l,AV.cv,cvL,AV.ids,idsL,z0q])]
   exact hT _ hS.app
 | real h=>
   have hq:=j3z (j7i h)
   rename_i a
   rw[show nodeF env ⟨3,3,[],a,0⟩ vs= .num 3 (v2f 3 a) by simp[nodeF],q6k,hq.2.1] at hT
   simp only[go_sem,z5z,hB,eNode,nat,Int.cast_ofNat_Int,Int.reduceEq,decide_true,decide_false,z0k,z0j,z0f]
   rw[z0g rfl (by simp[z1l,AV.cv,cvL,AV.ids,idsL,z0q])]
   exact hT _ hS.app
 | @var v ks h=>
   obtain⟨w,hw,hok⟩:=he v h
   rw[show nodeF env ⟨4,v.sort,v.name,[],0⟩ vs=w by simp[nodeF,w4t,hw],eV,value] at hT
   obtain⟨j,hj,hjw,hjn⟩:∃ (j:Nat) (hj:j < env.length),env[j]=(v.name,w)∧∀ k (hk:k < j),env[k].1≠v.name:=by
    rw[List.find?_eq_some_iff_getElem] at hw
    obtain⟨_,j,hj,e,hno⟩:=hw
    exact⟨j,hj,e,fun k hk e2=>by have:=hno k hk;simp[e2] at this⟩
   simp only[go_sem,z5z,hB,eNode,nat,Int.cast_ofNat_Int,Int.reduceEq,decide_true,decide_false,z0k,z0j,z0f]
   refine z6k env.length (by omega) (fun i q=>∃ g4 g6:Nat,i≤j∧q.ts 0= .ptr sl g 0 0∧q.ts 4= .ptr (B + 0) g4 0 0∧q.ts 6= .ptr (B + 1) g6 0 0∧q.ts 8= .int .i64 (i:Int)∧q.h=D++[.blk g4 [.agg [.int .i64 4, .int .i64 (v.sort:Int), .str v.name, .str [], .int .i64 0]] false false 0, .blk g6 [.agg [.int .i64 0, .bool false, .str [], .sl [] .nil, .sl [] .nil]] false false 0]) ⟨_,_,Nat.zero_le _,rfl,rfl,rfl,rfl,rfl⟩ ?_ ?_
   ·rintro i hlt f1 f2 ts h clk P ⟨g4,g6,hij,q0,q4,q6,q8,rfl⟩ hnx hex hr
    dsimp only at q0 q4 q6 q8
    have hx:=fun h=>y8o (h:=h) (t:= .no) (k:= .i64) hlt
    by_cases hi:i=j
    ·subst hi
     rw[hjw] at hx
     have e1:decide (v.name=v.name)=true:=by simp
     have e2:decide ((w.s:Int)=(v.sort:Int))=true:=by rw[hok.s];simp
     simp only[go_sem,j2w,evO,nat,q0,q4,q6,q8,hB,f1,z3m hB h1,b1,List.length_map,hx,e1,e2,decide_true,Bool.not_true]
     refine hr _ ?_
     simp only[go_sem,q6,hB,z0k,z0j,z0f]
     rw[z0g rfl (by simp[z1l,AV.cv,cvL,AV.ids,idsL,z0q])]
     exact hT _ hS.app
    ·have e1:decide (env[i].1=v.name)=false:=decide_eq_false (hjn i (by omega))
     simp only[go_sem,j2w,evO,nat,q0,q4,q6,q8,hB,f1,f2,z3m hB h1,b1,List.length_map,hx,e1]
     exact hnx _ ⟨g4,g6,by omega,q0,q4,q6,rfl,rfl⟩
   ·rintro f1 ts h clk P ⟨g4,g6,hij,q0,q4,q6,q8,rfl⟩ hex hr
    omega
 | not=>
   obtain⟨v,rfl,hu⟩:=hv.one
   rw[show nodeF env (bare 6 1) [v]= .bool (!v.b) by simp[nodeF,bare,at0],z4x] at hT
   have p:=k6v (v:=v) (u:= .no)
   rw[z4x] at p
   simp only[go_sem,z5z,hB,eNode,nat,bare,List.map_cons,List.map_nil,Int.cast_ofNat_Int,Int.reduceEq,decide_true,decide_false,z0k,z0j,z0f,z0a p]
   rw[z0g rfl (by simp[z1l,AV.cv,cvL,AV.ids,idsL,z0q])]
   exact hT _ hS.app
 | @andor o k ks h=>
   rcases h with rfl | rfl
   ·rw[show nodeF env (bare 7 k) vs= .bool (vs.all Val.b) by simp[nodeF,bare],z4x] at hT
    have p:=x5e (o:=7) (vs:=vs) (u:= .no) (.inl rfl) (by omega)
    rw[z4x,if_neg (by omega)] at p
    simp only[Int.cast_ofNat_Int] at p
    simp only[go_sem,z5z,hB,eNode,nat,bare,Int.cast_ofNat_Int,Int.reduceEq,decide_true,decide_false,z0k,z0j,z0f,z0a p]
    rw[z0g rfl (by simp[z1l,AV.cv,cvL,AV.ids,idsL,z0q])]
    exact hT _ hS.app
   ·rw[show nodeF env (bare 8 k) vs= .bool (vs.any Val.b) by simp[nodeF,bare],z4x] at hT
    have p:=x5e (o:=8) (vs:=vs) (u:= .no) (.inr rfl) (by omega)
    rw[z4x,if_pos rfl] at p
    simp only[Int.cast_ofNat_Int] at p
    simp only[go_sem,z5z,hB,eNode,nat,bare,Int.cast_ofNat_Int,Int.reduceEq,decide_true,decide_false,z0k,z0j,z0f,z0a p]
    rw[z0g rfl (by simp[z1l,AV.cv,cvL,AV.ids,idsL,z0q])]
    exact hT _ hS.app
 | imp=>
   obtain⟨v,w,m,m',rfl,hu,hw,e⟩:=hv.two
   rw[show nodeF env (bare 9 2) [v,w]= .bool (!v.b || w.b) by simp[nodeF,bare,at0],z4x] at hT
   have p:=k6w (v:=v) (w:=w) (u:= .no)
   rw[z4x] at p
   simp only[go_sem,z5z,hB,eNode,nat,bare,List.map_cons,List.map_nil,Int.cast_ofNat_Int,Int.reduceEq,decide_true,decide_false,z0k,z0j,z0f,z0a p]
   rw[z0g rfl (by simp[z1l,AV.cv,cvL,AV.ids,idsL,z0q])]
   exact hT _ hS.app
 | ite h1 h2=>
   obtain⟨v,w,x,m,m',m'',rfl,hu,hw,hx,e⟩:=hv.three
   cases hb:v.b
   ·rw[show nodeF env (bare 10 3) [v,w,x]=x by simp[nodeF,bare,at0,hb],eV,value] at hT
    simp only[go_sem,z5z,hB,eNode,nat,bare,List.map_cons,List.map_nil,q6m,y8n,hb,Int.cast_ofNat_Int,Int.reduceEq,decide_true,decide_false,z0k,z0j,z0f]
    rw[z0g rfl (by simp[z1l,AV.cv,cvL,AV.ids,idsL,z0q])]
    exact hT _ hS.app
   ·rw[show nodeF env (bare 10 3) [v,w,x]=w by simp[nodeF,bare,at0,hb],eV,value] at hT
    simp only[go_sem,z5z,hB,eNode,nat,bare,List.map_cons,List.map_nil,q6m,x7u,hb,Int.cast_ofNat_Int,Int.reduceEq,decide_true,decide_false,z0k,z0j,z0f]
    rw[z0g rfl (by simp[z1l,AV.cv,cvL,AV.ids,idsL,z0q])]
    exact hT _ hS.app
 | eq h1 h2=>
   obtain⟨v,w,m,m',rfl,hu,hw,e⟩:=hv.two
   rw[show nodeF env (bare 11 2) [v,w]= .bool (v2h v w) by simp[nodeF,bare,at0],z4x] at hT
   have p:=y8l (a:=v) (b:=w) hu (by omega)
   simp only[eV,value,nat] at p
   simp only[go_sem,z5z,hB,eNode,nat,bare,List.map_cons,List.map_nil,q6m,x7u,Int.cast_ofNat_Int,Int.reduceEq,decide_true,decide_false,z0k,z0j,z0f,z0a p,z0a (x3c _)]
   rw[z0g rfl (by simp[z1l,AV.cv,cvL,AV.ids,idsL,z0q])]
   exact hT _ hS.app
 | cmp h hs=>
   obtain⟨v,w,m,m',rfl,hu,hw,e⟩:=hv.two
   obtain⟨q,rfl,q1,q2,q3⟩:=hu.numb hs
   obtain⟨r,rfl,r1,r2,r3⟩:=hw.numb hs
   have hqr:=q2.r q1 (by omega) (by omega)
   have hrr:=r2.r r1 (by omega) (by omega)
   have hsl:=v7m (M:=46 * (m + m')) q2 (y7i r2) (by omega) (by omega)
   have hsr:(k7p q r).R:=hsl.r (v7l q1 (v7k r1)) (by omega) (by omega)
   have p:=j7l hqr hrr hsr
   rcases h with rfl | rfl
   ·have hd:=w5t (q:=k7p q r)
    rename_i s
    rw[show nodeF env (bare 12 2) [.num s q, .num s r]= .bool (leQ q r) by simp[nodeF,bare,at0,Val.q],z4x,leQ,←hd] at hT
    simp only[go_sem,z5z,hB,eNode,nat,bare,List.map_cons,List.map_nil,q6m,x7u,Val.s,Val.b,Val.t,Val.l,Int.cast_ofNat_Int,Int.reduceEq,decide_true,decide_false,z0k,z0j,z0f,z0a p,z0a (x3c _)]
    rw[z0g rfl (by simp[z1l,AV.cv,cvL,AV.ids,idsL,z0q])]
    exact hT _ hS.app
   ·have hd:=w5u hsr.c
    rename_i s
    rw[show nodeF env (bare 13 2) [.num s q, .num s r]= .bool (ltQ q r) by simp[nodeF,bare,at0,Val.q],z4x,ltQ,←hd] at hT
    simp only[go_sem,z5z,hB,eNode,nat,bare,List.map_cons,List.map_nil,q6m,x7u,Val.s,Val.b,Val.t,Val.l,Int.cast_ofNat_Int,Int.reduceEq,decide_true,decide_false,z0k,z0j,z0f,z0a p,z0a (x3c _)]
    rw[z0g rfl (by simp[z1l,AV.cv,cvL,AV.ids,idsL,z0q])]
    exact hT _ hS.app
 | @add k s ks h hs=>
   have d1:(dec 1).length=1:=by rw[z2f];rfl
   have d0:(dec 0).length=1:=by rw[q0a];rfl
   have hsum:∀ i,(j4a (vs.take i) (z4f 0)).R:=fun i=>by
    have h:=hv.take i
    rw[List.take_replicate] at h
    obtain⟨a1,a2,_⟩:=k5z hs (q:=z4f 0) (P:=0) h x4y ⟨by show (dec 0).length≤_;omega,by show (dec 1).length≤_;omega⟩ fun _=>rfl
    exact a2.r a1 (by omega) (by omega)
   have hel2:∀ i (hi:i < vs.length),∃ q,vs[i]= .num s q∧q.R:=fun i hi=>by
    obtain⟨m,h1,h2⟩:=hv.rep _ (List.getElem_mem hi)
    obtain⟨q,e,q1,q2,_⟩:=h1.numb hs
    exact⟨q,e,q2.r q1 (by omega) (by omega)⟩
   have hl0:0 < vs.length:=by rw[hlen];simp;omega
   obtain⟨q0,hq0,_⟩:=hel2 0 hl0
   have hN:nodeF env (bare 14 k) vs= .num s (j4a vs (z4f 0)):=by
    have:(at0 vs 0).s=s:=by
     have e:at0 vs 0=vs[0]:=by simp[at0,hl0]
     rw[e,hq0]
     rfl
    simp[nodeF,bare,this,j4a]
   rw[hN,q6k] at hT
   have h48:(j4a (vs.take 0) (z4f 0)).text=[48]:=by
    show (z4f 0).text=_
    rw[z2b,z0i,if_neg (by omega)]
    exact q0a
   have hx0:∀ h,z1p h 5 (.sl (vs.map eV) .no) (.int .i64 0)=some (.iptr [nat vs[0].s, .bool vs[0].b, .str vs[0].t, .sl (z1n (vs[0].l.map fun p=>z0i p.1)) .no, .sl (z1n (vs[0].l.map fun p=>z0i p.2)) .no] 0,h):=fun h=>k6u (i:=0) hl0
   rw[hq0] at hx0
   simp only[go_sem,z5z,hB,eNode,nat,bare,Int.cast_ofNat_Int,Int.reduceEq,decide_true,decide_false,z0k,z0j,z0f]
   refine z6k vs.length (by omega) (fun i q=>∃ g4 g6:Nat,∃ c4:AV,q.ts 2= .sl (vs.map eV) .no∧q.ts 4= .ptr (B + 0) g4 0 0∧q.ts 6= .ptr (B + 1) g6 0 0∧q.ts 9= .str (j4a (vs.take i) (z4f 0)).text∧q.ts 10= .int .i64 (i:Int)∧q.h=D++[.blk g4 [c4] false false 0, .blk g6 [.agg [.int .i64 0, .bool false, .str [], .sl [] .nil, .sl [] .nil]] false false 0]) ⟨_,_,_,rfl,rfl,rfl,by rw[h48];rfl,rfl,rfl⟩ ?_ ?_
   ·rintro i hlt f1 f2 ts h clk P ⟨g4,g6,c4,q2,q4,q6,q9,q10,rfl⟩ hnx hex hr
    dsimp only at q2 q4 q6 q9 q10
    have hx:=fun h=>k6u (h:=h) (t:= .no) (k:= .i64) hlt
    obtain⟨q,hq,hqr⟩:=hel2 i hlt
    rw[hq] at hx
    have p:=j7j (hsum i) hqr
    have e8:j7f (j4a (vs.take i) (z4f 0)) q=j4a (vs.take (i + 1)) (z4f 0):=by
     rw[List.take_succ_eq_append_getElem hlt,k6y,hq]
     rfl
    rw[e8] at p
    simp only[go_sem,j2v,nat,q2,q4,q6,q9,q10,hB,f1,f2,List.length_map,hx,Val.s,Val.b,Val.t,Val.l,z0a p]
    exact hnx _ ⟨g4,g6,c4,q2,q4,q6,rfl,rfl,rfl⟩
   ·rintro f1 ts h clk P ⟨g4,g6,c4,q2,q4,q6,q9,q10,rfl⟩ hex hr
    dsimp only at q2 q4 q6 q9 q10
    rw[List.take_length] at q9
    simp only[go_sem,j2v,q2,q4,q6,q9,q10,hB,f1,List.length_map]
    refine hex _ _ ?_
    simp only[go_sem,q2,q6,q9,hB,nat,hx0,Val.s,Val.b,Val.t,Val.l,Int.cast_ofNat_Int,Int.reduceEq,decide_true,decide_false,z0k,z0j,z0f]
    rw[z0g rfl (by simp[z1l,AV.cv,cvL,AV.ids,idsL,z0q])]
    exact hT _ hS.app
 | @mul s n ks hs hn=>
   obtain⟨v,w,m,m',rfl,hu,hw,e⟩:=hv.two
   obtain⟨q,rfl,q1,q2,q3⟩:=hu.numb hs
   obtain⟨r,rfl,r1,r2,r3⟩:=hw.numb hs
   have p:=j7m (q2.r q1 (by omega) (by omega)) (r2.r r1 (by omega) (by omega))
   rw[show nodeF env (bare 15 2) [.num s q, .num s r]= .num s (v2d q r) by simp[nodeF,bare,at0,Val.s,Val.q],q6k] at hT
   simp only[go_sem,z5z,hB,eNode,nat,bare,List.map_cons,List.map_nil,q6m,x7u,Val.s,Val.b,Val.t,Val.l,Int.cast_ofNat_Int,Int.reduceEq,decide_true,decide_false,z0k,z0j,z0f,z1b,z0a p]
   refine⟨by simp[z1e,apart,z0l,z0z,z1i,AOp.isCall,hB,AV.ids,idsL,z0q,q1z], ?_⟩
   rw[z0g rfl (by simp[z1l,AV.cv,cvL,AV.ids,idsL,z0q])]
   exact hT _ hS.app
 | @div o k ks h h1 h2=>
   obtain⟨v,rfl,hu⟩:=hv.one
   obtain⟨z,rfl,hz⟩:=hu.int
   rcases h with rfl | rfl
   ·rw[show nodeF env ⟨16,0,[],dec k,1⟩ [.num 2 (z4f z)]= .num 2 (z4f (z / (k:Int))) by simp[nodeF,at0,Val.q,q4f,z1u],q6k,z2b] at hT
    simp only[go_sem,z5z,hB,eNode,nat,List.map_cons,List.map_nil,q6m,Val.s,Val.b,Val.t,Val.l,z2b,Int.cast_ofNat_Int,Int.reduceEq,decide_true,decide_false,z0k,z0j,z0f,z0a (j7r (z:=z) (by omega) h1 h2)]
    rw[z0g rfl (by simp[z1l,AV.cv,cvL,AV.ids,idsL,z0q])]
    exact hT _ hS.app
   ·rw[show nodeF env ⟨17,0,[],dec k,1⟩ [.num 2 (z4f z)]= .num 2 (z4f (z % (k:Int))) by simp[nodeF,at0,Val.q,q4f,z1u],q6k,z2b] at hT
    simp only[go_sem,z5z,hB,eNode,nat,List.map_cons,List.map_nil,q6m,Val.s,Val.b,Val.t,Val.l,z2b,Int.cast_ofNat_Int,Int.reduceEq,decide_true,decide_false,z0k,z0j,z0f,z0a (v3r (z:=z) (by omega) h1 h2)]
    rw[z0g rfl (by simp[z1l,AV.cv,cvL,AV.ids,idsL,z0q])]
    exact hT _ hS.app
 | select=>
   obtain⟨v,w,m,m',rfl,hu,hw,e⟩:=hv.two
   obtain⟨z,l,rfl⟩:=hu.array
   obtain⟨i,rfl,hi⟩:=hw.int
   have p:=v3m (i:=i) (by omega) hu (by omega)
   rw[q4i] at p
   rw[show nodeF env (bare 18 2) [.arr z l, .num 2 (z4f i)]= .num 2 (z4f (atA z l i)) by simp[nodeF,bare,at0,Val.q,Val.l,q4f],q6k,z2b] at hT
   simp only[go_sem,z5z,hB,eNode,nat,bare,List.map_cons,List.map_nil,q6m,x7u,Val.s,Val.b,Val.t,Val.l,z2b,Int.cast_ofNat_Int,Int.reduceEq,decide_true,decide_false,z0k,z0j,z0f,z0a p]
   rw[z0g rfl (by simp[z1l,AV.cv,cvL,AV.ids,idsL,z0q])]
   exact hT _ hS.app
 | store=>
   obtain⟨v,w,x,m,m',m'',rfl,hu,hw,hx,e⟩:=hv.three
   obtain⟨z,l,rfl⟩:=hu.array
   obtain⟨i,rfl,hi⟩:=hw.int
   obtain⟨j,rfl,hj⟩:=hx.int
   have p:=v3j (k:=i) (w:=j) (by omega) hu (by omega) (by omega)
   rw[q4i,q4i] at p
   rw[show nodeF env (bare 19 3) [.arr z l, .num 2 (z4f i), .num 2 (z4f j)]= .arr z (v2g z l i j) by simp[nodeF,bare,at0,Val.q,Val.l,q4f],q4i] at hT
   simp only[go_sem,z5z,hB,eNode,nat,bare,List.map_cons,List.map_nil,q6m,x7u,y8n,Val.s,Val.b,Val.t,Val.l,z2b,Int.cast_ofNat_Int,Int.reduceEq,decide_true,decide_false,z0k,z0j,z0f,z0a p]
   rw[z0g rfl (by simp[z1l,AV.cv,cvL,AV.ids,idsL,z0q])]
   exact hT _ hS.app
 | const=>
   obtain⟨v,rfl,hu⟩:=hv.one
   obtain⟨z,rfl,hz⟩:=hu.int
   rw[show nodeF env (bare 20 1) [.num 2 (z4f z)]= .arr z [] by simp[nodeF,bare,at0,Val.q,q4f],q4i] at hT
   simp only[go_sem,z5z,hB,eNode,nat,bare,List.map_cons,List.map_nil,q6m,Val.s,Val.b,Val.t,Val.l,z2b,Int.cast_ofNat_Int,Int.reduceEq,decide_true,decide_false,z0k,z0j,z0f]
   rw[z0g rfl (by simp[z1l,AV.cv,cvL,AV.ids,idsL,z0q])]
   exact hT _ hS.app
end
end
section
abbrev evS (T:Term) (env:List (List Nat×Val)) (sl g:Nat):List (Nat×AObj):=[(sl, .blk g [evO T env] false false 0)]
inductive Evs (T:Term) (env:List (List Nat×Val)) (sl g:Nat):Nat→List Val→Nat→Prop
 | nil {i:Nat}:Evs T env sl g i [] i
 | cons {i m j:Nat} {v:Val} {vs:List Val} (h:Reads (evS T env sl g) 173 [.ptr sl g 0 0,nat i] (.tup [eV v,nat m, .int .i64 0])) (hm:m≤T.length) (hr:Evs T env sl g m vs j):Evs T env sl g i (v::vs) j
theorem z8w {l:List Val}:z0v 5 (l.map eV)=true:=z2t fun _=>⟨rfl,rfl,rfl⟩
section
variable {K:Nat} {V:List Var} {env:List (List Nat×Val)} {T:Term} {n:Node} {ss:List Nat} {s M i m:Nat} {ks:Term} {vs:List Val} {sl g:Nat}
theorem k7a (he:q8u K V env) (hel:env.length≤1000) (htl:T.length≤20000) (hi:T[i]? =some n) (hn:NodeOk V n ss s ks) (hk:n.kids=ss.length) (hv:VsOk ss M vs) (hvl:vs.length≤T.length) (hM:M + K≤80000) (hT:Evs T env sl g (i + 1) vs m):Reads (evS T env sl g) 173 [.ptr sl g 0 0,nat i] (.tup [eV (nodeF env n vs),nat m, .int .i64 0]):=by
 have hit:i < T.length:=(List.getElem?_eq_some_iff.1 hi).1
 have hlen:=hv.len
 have hR:=fun u=>k6z (T:=T) (sl:=sl) (g:=g) (u:=u) he hel hn hv (by omega) hM
 refine Reads.of rfl y1r rfl rfl rfl (az:=[.ptr sl g 0 0,nat i]) rfl (by simpa [idsL,AV.ids,z3h] using Cov.one (s:=sl) (o:= .blk g [evO T env] false false 0) (by simp[AObj.ids,idsL,k6x])) fun D B clk R hB hS hlt hT'=> ?_
 have h1:=hlt (sl, .blk g [evO T env] false false 0) (by simp)
 have b1:=z5m (g:=g) (hS (sl, .blk g [evO T env] false false 0) (by simp))
 dsimp only at h1 b1
 generalize nodeF env n vs=val at *
 have e4:IntKind.i64.wrap ((i:Int) + 1)=((i + 1:Nat):Int):=z0c (by omega) (by omega)
 simp only[go_sem,v6o,nat,evO,hB,z3m hB h1,b1,z2q hi,e4]
 refine z1f (fun r q=>∃ (done left:List Val) (t8:Tip) (e g0 g1:Nat) (o2 o3 o4 o5:AObj),vs=done++left∧r=left.length∧Evs T env sl g e left m∧e≤T.length∧q.ts 0= .ptr sl g 0 0∧q.ts 1= .int .i64 (e:Int)∧q.ts 4= .ptr (B + 0) g0 0 0∧q.ts 7= .ptr (B + 1) g1 0 0∧q.ts 8= .sl (done.map eV) t8∧q.ts 9= .int .i64 (done.length:Int)∧q.h=D++[.blk g0 [.agg [.int .i64 0, .bool false, .str [], .sl [] .nil, .sl [] .nil]] false false 0, .blk g1 [.agg [.int .i64 (n.op:Int), .int .i64 (n.sort:Int), .str n.name, .str n.num, .int .i64 (n.kids:Int)]] false false 0,o2,o3,o4,o5]∧z9p B 4 o4 t8 5) vs.length ⟨[],vs, .nil,i + 1,_,_,_,_,_,_,rfl,rfl,hT,hit,rfl,rfl,rfl,rfl,rfl,rfl,rfl, .inl rfl⟩ ?_
 rintro r ⟨ts,h,clk⟩ P ⟨done,left,t8,e,g0,g1,o2,o3,o4,o5,hvs,rfl,hT,he',q0,q1,q4,q7,q8,q9,rfl,htip⟩ hnx hex hr
 dsimp only at q0 q1 q4 q7 q8 q9
 cases hT with
 | nil=>
   obtain rfl:done=vs:=by simpa using hvs.symm
   have f1:decide ((done.length:Int) < (n.kids:Int))=false:=by rw[decide_eq_false_iff_not];omega
   simp only[go_sem,j2u,q0,q1,q4,q7,q8,q9,hB,f1]
   refine hex _ _ ?_
   have p:=hR t8
   simp only[eNode,nat,eV,value] at p
   rw[eV,value,nat,nat] at hT'
   simp only[go_sem,q0,q1,q4,q7,q8,hB,z0x p hS.app,z0k,z0j,z0f]
   rw[z0g rfl (by simp[z1l,AV.cv,cvL,AV.ids,idsL,z0q])]
   exact hT' _ hS.app
 | cons hp hm' hr'=>
   rename_i m' v left
   have f1:decide ((done.length:Int) < (n.kids:Int))=true:=by rw[decide_eq_true_iff,hk,←hlen,hvs];simp;omega
   have f5:IntKind.i64.wrap ((done.length:Int) + 1)=((done.length + 1:Nat):Int):=z0c (by omega) (by rw[hvs] at hvl;simp at hvl;omega)
   simp only[nat,eV,value] at hp
   simp only[go_sem,j2u,q0,q1,q4,q7,q8,q9,hB,f1,z0x hp hS.app,decide_true,decide_false,Bool.not_true]
   rw[show [AV.agg [.int .i64 (v.s:Int), .bool v.b, .str v.t, .sl (z1n (v.l.map fun p=>z0i p.1)) .no, .sl (z1n (v.l.map fun p=>z0i p.2)) .no]]=[v].map eV from rfl,z0s hB rfl htip z8w z8w (by rw[hvs] at hvl;simp at hvl⊢;omega),←List.map_append]
   simp only[go_sem,q0,q1,q4,q7,q8,q9,hB,f5]
   exact hnx left.length _ (by simp) ⟨done++[v],left,_,m',g0,g1,_,_,_,_,by simp[hvs],rfl,hr',hm',q0,rfl,q4,q7,rfl,by rw[List.length_append];rfl,rfl, .inr (.inr ⟨_,rfl,rfl⟩)⟩
end
theorem v3s {K:Nat} {V:List Var} {env:List (List Nat×Val)} {T:Term} {sl g:Nat} (he:q8u K V env) (hel:env.length≤1000) (htl:T.length≤20000) (hK:K * (T.length + 1)≤80000) {ss:List Nat} {d:Nat} {f:Term} (h:WF V ss d f):∀ {pre post:Term},T=pre++f++post→∃ vs,Ev env f vs∧VsOk ss (K * f.length) vs∧Evs T env sl g pre.length vs (pre.length + f.length):=by
 induction h with
 | nil=>intro pre post ht;exact⟨[], .nil, .nil, .nil⟩
 | @cons n ss ks s d ss' rest h1 h2 h3 h4 ih1 ih2=>
   intro pre post ht
   have hl:pre.length + (1 + ks.length + rest.length)≤T.length:=by rw[ht];simp;omega
   obtain⟨vs,a1,a2,i1⟩:=ih1 (pre:=pre++[n]) (post:=rest++post) (by rw[ht];simp)
   obtain⟨ws,b1,b2,i2⟩:=ih2 (pre:=pre++(n::ks)) (post:=post) (by rw[ht];simp)
   simp only[List.length_append,List.length_cons,List.length_nil,Nat.zero_add] at i1 i2
   have hw:=h1.len
   have hit:T[pre.length]? =some n:=by rw[ht];simp
   have hvl:=a2.len
   have hM:K * ks.length + K≤80000:=by
    have:K * (ks.length + 1)≤K * (T.length + 1):=Nat.mul_le_mul_left _ (by omega)
    rw[Nat.mul_add,Nat.mul_one] at this
    omega
   refine⟨_, .cons a1 (by rw[h3,hvl]) b1, ?_, ?_⟩
   ·have:=VsOk.cons (v2j he h2 a2) b2
    simp only[List.length_cons,List.length_append]
    rw[show K * (ks.length + rest.length + 1)=K * ks.length + K + K * rest.length by rw[Nat.mul_add,Nat.mul_add,Nat.mul_one];omega]
    exact this
   ·refine .cons (m:=pre.length + (ks.length + 1)) (k7a he hel htl hit h2 h3 a2 (by omega) hM (by rw[show pre.length + (ks.length + 1)=pre.length + 1 + ks.length by omega];exact i1)) (by omega) ?_
    simp only[List.length_cons,List.length_append]
    rw[show pre.length + (ks.length + rest.length + 1)=pre.length + (ks.length + 1) + rest.length by omega]
    exact i2
theorem j1d {K:Nat} {V:List Var} {env:List (List Nat×Val)} {T:Term} {sl g s d:Nat} (he:q8u K V env) (hel:env.length≤1000) (htl:T.length≤20000) (hK:K * (T.length + 1)≤80000) (h:WF V [s] d T):∃ v,Ev env T [v]∧VOk (K * T.length) s v∧Reads (evS T env sl g) 173 [.ptr sl g 0 0, .int .i64 0] (.tup [eV v,nat T.length, .int .i64 0]):=by
 obtain⟨vs,h1,h2,h3⟩:=v3s (sl:=sl) (g:=g) he hel htl hK h (pre:=[]) (post:=[]) (by simp)
 obtain⟨v,rfl,hv⟩:=h2.one
 cases h3 with
 | cons hp hm hr=>
   cases hr with
   | nil=>
     rw[List.length_nil,Nat.zero_add] at hp
     exact⟨v,h1,hv,hp⟩
end
theorem v3t {U V:List Var} [UOk U] {t:Term} {s d:Nat} (hV:∀ v∈V,v∈U) (htl:t.length≤20000) (hd:d≤256) (h:WF V [s] d t) (hs:1≤s):Pure Gam 171 [z0n t] (.bool true):=by
 have p1:=k6f hV htl hd h hs
 refine Pure.of rfl u4f rfl rfl rfl (az:=[z0n t]) rfl (by simp[idsL,z0n,AV.ids,z0d z2i]) fun D B clk T hB hT=> ?_
 have e1:decide ((0:Int) < (s:Int))=true:=by rw[decide_eq_true_iff];omega
 simp only[nat] at p1
 simp only[go_sem,y5c,hB,z0a p1,e1]
 rw[z0e]
 exact hT _
section
theorem Ev.det {env:List (List Nat×Val)} {t:Term} {vs:List Val} (h:Ev env t vs):∀ {t':Term} {vs':List Val} {r r':Term},Ev env t' vs'→t++r=t'++r'→vs.length=vs'.length→t=t'∧vs=vs':=by
 induction h with
 | nil=>
   intro t' vs' r r' h' _ hl
   cases h' with
   | nil=>exact⟨rfl,rfl⟩
   | cons=>simp at hl
 | @cons n ks rest vs ws h1 h2 h3 ih1 ih2=>
   intro t' vs' r r' h' he hl
   cases h' with
   | nil=>simp at hl
   | @cons n' ks' rest' vs2 ws2 g1 g2 g3=>
     simp only[List.cons_append,List.append_assoc,List.cons.injEq] at he
     obtain⟨rfl,he⟩:=he
     obtain⟨rfl,rfl⟩:=ih1 g1 he (by rw[←h2,←g2])
     obtain⟨rfl,rfl⟩:=ih2 g3 (List.append_cancel_left he) (by simpa using hl)
     exact⟨rfl,rfl⟩
noncomputable section
open Classical
def z8b (env:List (List Nat×Val)) (t:Term):Val:=if h:∃ v,Ev env t [v] then h.choose else .bool false
end
theorem q9h {env:List (List Nat×Val)} {t:Term} {v:Val} (h:Ev env t [v]):z8b env t=v:=by
 have he:∃ v,Ev env t [v]:=⟨v,h⟩
 unfold z8b
 rw[dif_pos he]
 have:=(he.choose_spec.det h (r:=[]) (r':=[]) rfl rfl).2
 simpa using this
section
variable {K:Nat} {U V:List Var} [UOk U] {env:List (List Nat×Val)} {T:Term} {s d:Nat}
theorem x7v (he:q8u K V env) (hel:env.length≤1000) (htl:T.length≤20000) (hK:K * (T.length + 1)≤80000) (h:WF V [s] d T):Ev env T [z8b env T]∧VOk (K * T.length) s (z8b env T)∧∀ sl g,Reads (evS T env sl g) 173 [.ptr sl g 0 0, .int .i64 0] (.tup [eV (z8b env T),nat T.length, .int .i64 0]):=by
 obtain⟨v,h1,h2,_⟩:=j1d (sl:=0) (g:=0) he hel htl hK h
 rw[q9h h1]
 refine⟨h1,h2,fun sl g=> ?_⟩
 obtain⟨w,g1,_,g3⟩:=j1d (sl:=sl) (g:=g) he hel htl hK h
 rw[←q9h g1,q9h h1] at g3
 exact g3
theorem j7s {u w x:Tip} (hV:∀ v∈V,v∈U) (he:q8u K V env) (hev:∀ p∈env,∃ m s,VOk m s p.2∧m≤80000) (hel:env.length≤1000) (htl:T.length≤20000) (hK:K * (T.length + 1)≤80000) (hd:d≤256) (h:WF V [s] d T) (hs:1≤s):Pure Gam 105 [.sl (T.map eNode) u, .sl (env.map eB) w, .sl [] x] (.tup [eV (z8b env T), .int .i64 0]):=by
 have p1:=v3t hV htl hd h hs
 obtain⟨_,hv,hr⟩:=x7v he hel htl hK h
 have hm:K * T.length≤80000:=by rw[Nat.mul_add] at hK;omega
 have pc:=v3l hv hm
 generalize z8b env T=val at *
 rw[z0n] at p1
 simp only[eV,value,nat] at pc hr
 refine Pure.of rfl y1p rfl rfl rfl (az:=[.sl (T.map eNode) .no, .sl (env.map eB) .no, .sl [] .no]) rfl (by simp[idsL,AV.ids,z0d z2i,z0d q2c]) fun D B clk T' hB hT=> ?_
 rw[eV,value,nat] at hT
 simp only[go_sem,v6m,hB,z0a p1,Bool.not_true]
 refine z6k env.length (by omega) (fun i q=>∃ g0:Nat,q.ts 0= .sl (T.map eNode) .no∧q.ts 1= .sl (env.map eB) .no∧q.ts 2= .sl [] .no∧q.ts 6= .ptr (B + 0) g0 0 0∧q.ts 8= .int .i64 (i:Int)∧q.h=D++[.blk g0 [.agg [.int .i64 0, .bool false, .str [], .sl [] .nil, .sl [] .nil]] false false 0, .dead, .dead]) ⟨_,rfl,rfl,rfl,rfl,rfl,rfl⟩ ?_ ?_
 ·rintro i hlt f1 f2 ts h clk P ⟨g0,q0,q1,q2,q6,q8,rfl⟩ hnx hex hret
  dsimp only at q0 q1 q2 q6 q8
  have hx:=fun h=>y8o (h:=h) (t:= .no) (k:= .i64) hlt
  obtain⟨m,s,hvm,hmm⟩:=hev _ (List.getElem_mem hlt)
  have p:=x7l hmm hvm
  simp only[eV,value,nat] at p
  simp only[go_sem,j2s,nat,q0,q1,q2,q6,q8,hB,f1,f2,List.length_map,hx,z0a p,Bool.not_true]
  exact hnx _ ⟨g0,q0,q1,q2,q6,rfl,rfl⟩
 ·rintro f1 ts h clk P ⟨g0,q0,q1,q2,q6,q8,rfl⟩ hex hret
  dsimp only at q0 q1 q2 q6 q8
  simp only[go_sem,j2s,q0,q1,q2,q6,q8,hB,f1,List.length_map]
  refine hex _ _ ?_
  simp only[go_sem,q0,q1,q2,q6,hB]
  refine z6k 0 (by omega) (fun i q=>q.ts 0= .sl (T.map eNode) .no∧q.ts 1= .sl (env.map eB) .no∧q.ts 2= .sl [] .no∧q.ts 6= .ptr (B + 0) g0 0 0∧q.ts 9= .int .i64 (i:Int)∧q.h=D++[.blk g0 [.agg [.int .i64 0, .bool false, .str [], .sl [] .nil, .sl [] .nil]] false false 0, .dead, .dead]) ⟨by simp[z0b,q0],by simp[z0b,q1],by simp[z0b,q2],by simp[z0b,q6],by simp[z0b],rfl⟩ ?_ ?_
  ·rintro i hlt
   omega
  ·rintro f1 ts h clk P ⟨r0,r1,r2,r6,r9,rfl⟩ hex2 hret2
   dsimp only at r0 r1 r2 r6 r9
   have f0:decide ((0:Int) < 0)=false:=by decide
   simp only[go_sem,k3f,r0,r1,r2,r6,r9,hB,f0,List.length_nil]
   refine hex2 _ _ ?_
   have hh:∀ (g:Nat) (a b:AObj),Has (evS T env (B + 1) g) (D++[a, .blk g [evO T env] false false 0,b]):=fun g a b=>Has.cons (by show (D++_)[B + 1]? =_;rw[z6c hB];rfl) Has.nil
   simp only[evO] at hh
   simp only[go_sem,r0,r1,r2,r6,hB,z0x (hr _ _) (hh _ _ _),z0a pc,decide_true,decide_false,Bool.not_true,z0k,z0j,z0f]
   rw[z0g rfl (by simp[z1l,AV.cv,cvL,AV.ids,idsL,z0q])]
   exact hT _
theorem j7t {u w x:Tip} (hV:∀ v∈V,v∈U) (he:q8u K V env) (hev:∀ p∈env,∃ m s,VOk m s p.2∧m≤80000) (hel:env.length≤1000) (htl:T.length≤20000) (hK:K * (T.length + 1)≤80000) (hd:d≤256) (h:WF V [1] d T):Pure Gam 53 [.sl (T.map eNode) u, .sl (env.map eB) w, .sl [] x] (.bool (z8b env T).b):=by
 have p:=j7s (u:= .no) (w:= .no) (x:= .no) hV he hev hel htl hK hd h (by omega)
 obtain⟨_,hv,_⟩:=x7v he hel htl hK h
 obtain⟨b,hb⟩:=hv.bool
 rw[hb,z4x] at p
 rw[hb]
 refine Pure.of rfl y1m rfl rfl rfl (az:=[.sl (T.map eNode) .no, .sl (env.map eB) .no, .sl [] .no]) rfl (by simp[idsL,AV.ids,z0d z2i,z0d q2c]) fun D B clk T' hB hT=> ?_
 have hT:∀ h',T' (.bool b) h':=hT
 simp only[go_sem,v6j,hB,z0a p,decide_true]
 rw[z0e]
 exact hT _
end
end
def z8c (V:List Var) (vs:List Val):List (List Nat×Val):=List.zipWith (fun v w=>(v.name,w)) V vs
structure FitK (K:Nat) (V:List Var) (vs:List Val):Prop where
 len:vs.length=V.length
 ok:∀ i (h:i < V.length) (h2:i < vs.length),VOk K V[i].sort vs[i]
theorem q7q {V:List Var} {vs:List Val} (h:vs.length=V.length):(z8c V vs).length=V.length:=by simp[z8c,h]
theorem j7u {V:List Var} {vs:List Val} {i:Nat} (h:i < (z8c V vs).length) (h1:i < V.length) (h2:i < vs.length):(z8c V vs)[i]=(V[i].name,vs[i]):=by simp[z8c]
theorem v8d {K:Nat} {V:List Var} {vs:List Val} (hK:1≤K) (hn:(V.map (·.name)).Nodup) (h:FitK K V vs):q8u K V (z8c V vs):=by
 refine⟨hK,fun v hv=> ?_⟩
 obtain⟨i,hi,rfl⟩:=List.mem_iff_getElem.1 hv
 have hi2:i < vs.length:=by rw[h.len];exact hi
 have hie:i < (z8c V vs).length:=by rw[q7q h.len];exact hi
 refine⟨vs[i], ?_,h.ok i hi hi2⟩
 rw[List.find?_eq_some_iff_getElem]
 refine⟨by simp,i,hie,j7u hie hi hi2,fun j hj=> ?_⟩
 rw[j7u (by omega) (by omega) (by omega)]
 have:V[j].name≠V[i].name:=fun e=>by
  have:=(List.getElem_inj (xs:=V.map (·.name)) (i:=j) (j:=i) (h₀:=by simp;omega) (h₁:=by simpa using hi) hn).1 (by simpa using e)
  omega
 simp[this]
theorem j7v {K:Nat} {V:List Var} {vs:List Val} (hK:K≤80000) (h:FitK K V vs):∀ p∈z8c V vs,∃ m s,VOk m s p.2∧m≤80000:=by
 intro p hp
 obtain⟨i,hi,rfl⟩:=List.mem_iff_getElem.1 hp
 have h1:i < V.length:=by rw[q7q h.len] at hi;exact hi
 have h2:i < vs.length:=by rw[h.len];exact h1
 rw[j7u hi h1 h2]
 exact⟨K,_,h.ok i h1 h2,hK⟩
theorem x2k {l:List (List Nat×Val)}:z0v 6 (l.map eB)=true:=z2t fun _=>⟨rfl,rfl,rfl⟩
theorem j7w {V:List Var} {vs:List Val} {u w:Tip} (hl:V.length≤1000) (hlen:vs.length=V.length):Pure Gam 52 [.sl (V.map z1h) u, .sl (vs.map eV) w] (.sl ((z8c V vs).map eB) .no):=by
 refine Pure.of rfl y1l rfl rfl rfl (az:=[.sl (V.map z1h) .no, .sl (vs.map eV) .no]) rfl (by simp[idsL,AV.ids,z0d z2z,z5y]) fun D B clk T hB hT=> ?_
 simp only[go_sem,v6i,hB]
 refine z6k V.length (by omega) (fun i q=>∃ (t:Tip) (o0 o1:AObj),q.ts 0= .sl (V.map z1h) .no∧q.ts 1= .sl (vs.map eV) .no∧q.ts 5= .sl (((z8c V vs).take i).map eB) t∧q.ts 6= .int .i64 (i:Int)∧q.h=D++[o0,o1]∧z9p B 1 o1 t 6) ⟨.nil,_,_,rfl,rfl,rfl,rfl,rfl, .inl rfl⟩ ?_ ?_
 ·rintro i hlt f1 f2 ts h clk P ⟨t,o0,o1,q0,q1,q5,q6,rfl,ht⟩ hnx he hr
  dsimp only at q0 q1 q5 q6
  have hi2:i < vs.length:=by omega
  have hie:i < (z8c V vs).length:=by rw[q7q hlen];exact hlt
  have hx:=fun h=>z5n (l:=V) (i:=i) (h:=h) (t:= .no) (k:= .i64) hlt
  have hy:=fun h=>k6u (vs:=vs) (i:=i) (h:=h) (t:= .no) (k:= .i64) hi2
  have e8:((z8c V vs).take i).map eB++[((V[i].name,vs[i]):List Nat×Val)].map eB=((z8c V vs).take (i + 1)).map eB:=by
   rw[List.take_succ_eq_append_getElem hie,j7u hie hlt hi2,List.map_append]
  have hel:((z8c V vs).take i).length≤1000:=by rw[List.length_take];omega
  generalize V[i]=v at *
  generalize vs[i]=x at *
  simp only[go_sem,j2r,nat,q0,q1,q5,q6,hB,f1,List.length_map,hx,hy]
  rw[show [AV.agg [.str v.name, .int .i64 (x.s:Int), .bool x.b, .str x.t, .sl (z1n (x.l.map fun p=>z0i p.1)) .no, .sl (z1n (x.l.map fun p=>z0i p.2)) .no]]=[((v.name,x):List Nat×Val)].map eB from rfl,z0s hB rfl ht x2k x2k (by simp only[List.length_map,List.length_singleton];omega),e8]
  simp only[go_sem,q0,q1,q5,q6,hB,f2]
  exact hnx _ ⟨_,_,_,q0,q1,rfl,rfl,rfl, .inr (.inr ⟨_,rfl,rfl⟩)⟩
 ·rintro f1 ts h clk P ⟨t,o0,o1,q0,q1,q5,q6,rfl,ht⟩ he hr
  dsimp only at q0 q1 q5 q6
  rw[List.take_of_length_le (by rw[q7q hlen];omega)] at q5
  simp only[go_sem,j2r,q0,q1,q5,q6,hB,f1,List.length_map]
  refine he _ _ ?_
  simp only[go_sem,q5]
  rw[z2k rfl (by simp[AV.cv,AV.ids,z0d q2c])]
  exact hT _
theorem v3u {K:Nat} {V:List Var} {vs:List Val} {u w:Tip} (hl:V.length≤1000) (h:FitK K V vs) (hK:K≤80000):Pure Gam 51 [.sl (V.map z1h) u, .sl (vs.map eV) w] (.bool true):=by
 have hlen:=h.len
 refine Pure.of rfl y1k rfl rfl rfl (az:=[.sl (V.map z1h) .no, .sl (vs.map eV) .no]) rfl (by simp[idsL,AV.ids,z0d z2z,z5y]) fun D B clk T hB hT=> ?_
 have e0:decide ((V.length:Int)=(vs.length:Int))=true:=by rw[decide_eq_true_iff];omega
 simp only[go_sem,v6h,hB,List.length_map,e0,Bool.not_true]
 refine z6k V.length (by omega) (fun i q=>q.ts 0= .sl (V.map z1h) .no∧q.ts 1= .sl (vs.map eV) .no∧q.ts 5= .int .i64 (i:Int)) ⟨rfl,rfl,rfl⟩ ?_ ?_
 ·rintro i hlt f1 f2 ts hh clk P ⟨q0,q1,q5⟩ hnx he hr
  dsimp only at q0 q1 q5
  have hi2:i < vs.length:=by omega
  have hx:=fun h=>z5n (l:=V) (i:=i) (h:=h) (t:= .no) (k:= .i64) hlt
  have hy:=fun h=>k6u (vs:=vs) (i:=i) (h:=h) (t:= .no) (k:= .i64) hi2
  have hv:=h.ok i hlt hi2
  have p:=x7l hK hv
  simp only[eV,value,nat] at p
  have e1:decide ((vs[i].s:Int)=(V[i].sort:Int))=true:=by rw[hv.s];simp
  generalize V[i]=v at *
  generalize vs[i]=x at *
  simp only[go_sem,j2q,nat,q0,q1,q5,hB,f1,f2,List.length_map,hx,hy,z0a p,Bool.not_true,e1,decide_true]
  exact hnx _ ⟨q0,q1,rfl⟩
 ·rintro f1 ts hh clk P ⟨q0,q1,q5⟩ he hr
  dsimp only at q0 q1 q5
  simp only[go_sem,j2q,q0,q1,q5,hB,f1,List.length_map]
  refine he _ _ ?_
  simp only[go_sem,]
  rw[z0e]
  exact hT _
section
def y9i (K:Nat) (V:List Var) (s:Nat) (t:Term):Prop:=∃ d,WF V [s] d t∧t.length≤20000∧K * (t.length + 1)≤80000∧d≤256∧1≤s
section
variable {K:Nat} {U V:List Var} [UOk U] {env:List (List Nat×Val)}
theorem v3v {l:List Term} {u w:Tip} (hV:∀ v∈V,v∈U) (he:q8u K V env) (hev:∀ p∈env,∃ m s,VOk m s p.2∧m≤80000) (hel:env.length≤1000) (hl:l.length≤1000) (ht:∀ t∈l,∃ s,y9i K V s t):Pure Gam 107 [.sl (l.map z0n) u, .sl (env.map eB) w] (.sl ((l.map (z8b env)).map eV) .no):=by
 refine Pure.of rfl y1q rfl rfl rfl (az:=[.sl (l.map z0n) .no, .sl (env.map eB) .no]) rfl (by simp[idsL,AV.ids,z0d z3n,z0d q2c]) fun D B clk T hB hT=> ?_
 simp only[go_sem,v6n,hB]
 refine z6k l.length (by omega) (fun i q=>∃ (t:Tip) (o0 o1 o2:AObj),q.ts 0= .sl (l.map z0n) .no∧q.ts 1= .sl (env.map eB) .no∧q.ts 5= .sl (((l.take i).map (z8b env)).map eV) t∧q.ts 6= .int .i64 (i:Int)∧q.h=D++[o0,o1,o2]∧z9p B 2 o2 t 5) ⟨.nil,_,_,_,rfl,rfl,rfl,rfl,rfl, .inl rfl⟩ ?_ ?_
 ·rintro i hlt f1 f2 ts h clk P ⟨t,o0,o1,o2,q0,q1,q5,q6,rfl,htip⟩ hnx hex hr
  dsimp only at q0 q1 q5 q6
  have hx:=fun h=>q1s (l:=l) (i:=i) (h:=h) (t:= .no) (k:= .i64) hlt
  obtain⟨s,d,hw,h1,h2,h3,h4⟩:=ht _ (List.getElem_mem hlt)
  have p:=j7s (u:= .no) (w:= .no) (x:= .nil) hV he hev hel h1 h2 h3 hw h4
  have e8:((l.take i).map (z8b env)).map eV++[z8b env l[i]].map eV=((l.take (i + 1)).map (z8b env)).map eV:=by
   rw[List.take_succ_eq_append_getElem hlt,List.map_append,List.map_append]
   rfl
  simp only[z0n] at hx
  generalize z8b env l[i]=v at *
  generalize l[i]=x at *
  simp only[eV,value,nat] at p
  simp only[go_sem,j2t,nat,q0,q1,q5,q6,hB,f1,List.length_map,hx,z0a p]
  rw[show [AV.agg [.int .i64 (v.s:Int), .bool v.b, .str v.t, .sl (z1n (v.l.map fun p=>z0i p.1)) .no, .sl (z1n (v.l.map fun p=>z0i p.2)) .no]]=[v].map eV from rfl,z0s hB rfl htip z8w z8w (by simp only[List.length_map,List.length_singleton,List.length_take];omega),e8]
  simp only[go_sem,q0,q1,q5,q6,hB,f2]
  exact hnx _ ⟨_,_,_,_,q0,q1,rfl,rfl,rfl, .inr (.inr ⟨_,rfl,rfl⟩)⟩
 ·rintro f1 ts h clk P ⟨t,o0,o1,o2,q0,q1,q5,q6,rfl,htip⟩ hex hr
  dsimp only at q0 q1 q5 q6
  rw[List.take_length] at q5
  simp only[go_sem,j2t,q0,q1,q5,q6,hB,f1,List.length_map]
  refine hex _ _ ?_
  simp only[go_sem,q5]
  rw[z2k rfl (by simp[-List.map_map,AV.cv,AV.ids,z5y])]
  exact hT _
def x2l (p:List Nat) (vs:List Val):AV:= .agg [.str p, .sl (vs.map eV) .no]
theorem v3w {p:List Nat} {vs:List Val}:(x2l p vs).ids=[]:=by simp[x2l,AV.ids,idsL,z5y]
theorem v3x {a:App} {w:Tip} (hV:∀ v∈V,v∈U) (he:q8u K V env) (hev:∀ p∈env,∃ m s,VOk m s p.2∧m≤80000) (hel:env.length≤1000) (hl:a.args.length≤1000) (ht:∀ t∈a.args,∃ s,y9i K V s t):Pure Gam 55 [z3u a, .sl (env.map eB) w] (x2l a.pred (a.args.map (z8b env))):=by
 have p:=v3v (u:= .no) (w:= .no) hV he hev hel hl ht
 refine Pure.of rfl y1o rfl rfl rfl (az:=[z3u a, .sl (env.map eB) .no]) rfl (by simp[idsL,AV.ids,z6d,z0d q2c]) fun D B clk T hB hT=> ?_
 rw[x2l] at hT
 simp only[go_sem,v6l,hB,z3u,z1b,z0a p,z0k,z0j,z0f]
 refine⟨by simp[-List.map_map,z1e,apart,z0l,z0z,z1i,AOp.isCall,hB,AV.ids,idsL,z5y], ?_⟩
 rw[z2k rfl (by simp[-List.map_map,AV.cv,cvL,AV.ids,idsL,z5y])]
 exact hT _
end
theorem v3y {K:Nat} {s:Sys} {m:List Def} {p:List Nat} {vs:List Val} {j:Nat} (hpl:s.preds.length≤1000) (hj:j < m.length) (hp:q4g s.preds p=(j:Int)) (hd:DefOk m[j]) (hK:1≤K) (hK2:K≤80000) (hf:FitK K m[j].params vs) (hb:y9i K m[j].params 1 m[j].body):Pure Gam 54 [z2a s,q2a m,x2l p vs] (.bool (z8b (z8c m[j].params vs) m[j].body).b):=by
 have p82:=q8l (s:=s) (nm:=p) hpl
 rw[hp,z2a] at p82
 have hlen:=hf.len
 have hplen:=hd.len
 obtain⟨d,b1,b2,b3,b4,_⟩:=hb
 haveI:=hd.u
 have he:=v8d hK hd.nd hf
 have p21:=j7w (V:=m[j].params) (vs:=vs) (u:= .no) (w:= .no) (by omega) hlen
 have p22:=j7t (U:=m[j].params) (u:= .no) (w:= .no) (x:= .nil) (fun v h=>h) he (j7v hK2 hf) (by rw[q7q hlen];omega) b2 b3 b4 b1
 have hx:=fun h=>x2h (l:=m) (i:=j) (h:=h) (t:= .no) (k:= .i64) hj
 have e0:decide ((0:Int)≤(j:Int))=true:=by simp
 have e1:decide ((vs.length:Int)=(m[j].params.length:Int))=true:=by rw[decide_eq_true_iff];omega
 generalize (z8b (z8c m[j].params vs) m[j].body).b=r at *
 generalize z8c m[j].params vs=env at *
 generalize m[j]=df at *
 refine Pure.of rfl y1n rfl rfl rfl (az:=[z2a s,q2a m,x2l p vs]) rfl (by simp[idsL,z2v,q7o,v3w]) fun D B clk T hB hT=> ?_
 simp only[go_sem,v6k,hB,z2a,q2a,x2l,z0a p82,z1b,List.length_map,hx,e0,e1,z0a p21,z0a p22]
 refine⟨by simp[z1e,apart,z0l,z0z,z1i,AOp.isCall,hB,AV.ids,idsL,z0d q2c,z0d z8f,z0d z2z,z0d z2i], ?_⟩
 rw[z0e]
 exact hT _
end
section
noncomputable def v3z (m:List Def) (p:List Nat) (vs:List Val):Bool:=(z8b (z8c (x7t m p).params vs) (x7t m p).body).b
noncomputable def q3z (m:List Def) (env:List (List Nat×Val)) (p:List Nat) (args:List Term):Bool:=v3z m p (args.map (z8b env))
noncomputable def q3h (m:List Def) (c:Clause) (vs:List Val):Bool:=
 !(z8b (z8c c.vars vs) c.guard).b || ((c.body.any fun a=> !q3z m (z8c c.vars vs) a.pred a.args) || (!decide (c.head.pred=[]) && q3z m (z8c c.vars vs) c.head.pred c.head.args))
def DEv (d:Def):Prop:=d.body.length≤1000
theorem v4a {ps:List Func} {m:List Def} {n:List Nat} (hsh:m.map (·.pred)=ps.map (·.name)) (hn:n∈ps.map (·.name)):∃ k:Nat,∃ h:k < m.length,q4g ps n=(k:Int)∧m[k].pred=n:=by
 obtain⟨k,hk,h1,h2⟩:∃ (i:Nat) (hi:i < ps.length),ps[i].name=n∧q4g ps n=(i:Int):=by
  unfold q4g
  cases e:ps.findIdx? (fun p=>decide (p.name=n)) with
  | some i=>
    rw[List.findIdx?_eq_some_iff_getElem] at e
    obtain⟨hi,h1,_⟩:=e
    exact⟨i,hi,of_decide_eq_true h1,rfl⟩
  | none=>
    rw[List.findIdx?_eq_none_iff] at e
    obtain⟨f,hf,rfl⟩:=List.mem_map.1 hn
    have:=e f hf
    simp at this
 have hl:=congrArg List.length hsh
 simp only[List.length_map] at hl
 have hkm:k < m.length:=by omega
 refine⟨k,hkm,h2, ?_⟩
 have:=List.getElem_of_eq hsh (i:=k) (by simpa using hkm)
 simp only[List.getElem_map] at this
 rw[this,h1]
section
variable {s:Sys} {m:List Def} {V:List Var} {env:List (List Nat×Val)}
theorem v8e {ps:List Func} {a:App} (h:AppOk ps V a) (hp:PrOk ps):∃ f∈ps,a.pred=f.name∧a.args.length=f.args.length∧f.args.length≤40∧∀ i (h1:i < a.args.length) (h2:i < f.args.length),y9i 1 V f.args[i] a.args[i]∧a.args[i].length≤66:=by
 obtain⟨f,hf,hn,hl,hz⟩:=h
 refine⟨f,hf,hn,hl,(hp.args f hf).1,fun i h1 h2=> ?_⟩
 have hm:(f.args[i],a.args[i])∈f.args.zip a.args:=by
  have:(f.args.zip a.args)[i]? =some (f.args[i],a.args[i]):=by simp[List.getElem?_zip_eq_some,h1,h2]
  exact List.mem_of_getElem? this
 obtain⟨g1,g2,g3,g4⟩:=hz _ hm
 dsimp only at g1 g2 g3 g4
 exact⟨⟨5,g1,by omega,by omega,by omega,g3⟩,g2⟩
theorem w5v {a:App} (hs:SysV s) (hm:∀ d∈m,DAt d) (hd:∀ d∈m,DEv d) (hsh:m.map (·.pred)=s.preds.map (·.name)) (hV:∀ v∈V,v∈z1z) (he:q8u 1 V env) (hev:∀ p∈env,∃ m s,VOk m s p.2∧m≤80000) (hel:env.length≤1000) (ha:AppOk s.preds V a):
  Pure Gam 55 [z3u a, .sl (env.map eB) .no] (x2l a.pred (a.args.map (z8b env)))∧Pure Gam 54 [z2a s,q2a m,x2l a.pred (a.args.map (z8b env))] (.bool (q3z m env a.pred a.args)):=by
 obtain⟨f,hf,hn,hl,h40,hi⟩:=v8e ha hs.pr
 have hpl:=hs.pl
 refine⟨v3x hV he hev hel (by omega) fun t ht=> ?_, ?_⟩
 ·obtain⟨i,hi1,rfl⟩:=List.mem_iff_getElem.1 ht
  exact⟨_,(hi i hi1 (by omega)).1⟩
 ·obtain⟨j,hj,hp,hjn⟩:=v4a hsh (n:=a.pred) (hn ▸ List.mem_map_of_mem hf)
  have hmj:=List.getElem_mem hj
  have hdj:=hm _ hmj
  obtain⟨hpar,hsort⟩:=hdj.at (f:=f) (hs.preds.mem hf) (by rw[hjn,hn])
  have hnd:(m.map (·.pred)).Nodup:=by rw[hsh];exact hs.pr.nodup
  have hdef:x7t m a.pred=m[j]:=by rw[←hjn,q9g hj hnd]
  have hplen:m[j].params.length=f.args.length:=by
   have:=congrArg List.length hsort
   simpa using this
  have hfit:FitK 66 m[j].params (a.args.map (z8b env)):=by
   refine⟨by rw[List.length_map];omega,fun i h1 h2=> ?_⟩
   have h3:i < a.args.length:=by simpa using h2
   obtain⟨⟨d,e1,e2,e3,e4,e5⟩,e6⟩:=hi i h3 (by omega)
   have hv:=(x7v he hel e2 e3 e1).2.1
   have hso:m[j].params[i].sort=f.args[i]:=by
    have:=List.getElem_of_eq hsort (i:=i) (by simpa using h1)
    simpa using this
   rw[List.getElem_map,hso]
   exact hv.up (by omega)
  have hbl:=hd _ hmj
  unfold DEv at hbl
  have:=v3y (K:=66) (by omega) hj hp hdj.ok (by omega) (by omega) hfit ⟨8,hdj.ok.wf.1,by omega,by omega,by omega,by omega⟩
  unfold q3z v3z
  rw[hdef]
  exact this
end
theorem j4i:∀ f∈allPreds,f.name≠[]:=by decide
theorem x7w:(z1z.map (·.name)).Nodup:=by decide
theorem z7r {l:List Clause} {i:Nat} {h:List AObj} {t:Tip} {k:IntKind} (hi:i < l.length):z1p h 5 (.sl (l.map z0h) t) (.int k (i:Int))=some (.iptr [.sl (l[i].vars.map z1h) .no, .sl (l[i].body.map z3u) .no, .sl (l[i].guard.map eNode) .no, .str l[i].head.pred, .sl (l[i].head.args.map z0n) .no] 0,h):=z2d hi rfl rfl
theorem j7x {s:Sys} {m:List Def} {vs:List Val} {i:Nat} {w:Tip} (hs:SysV s) (hm:∀ d∈m,DAt d) (hd:∀ d∈m,DEv d) (hsh:z7i s m=true) (hi:i < s.clauses.length) (hf:FitK 1 s.clauses[i].vars vs):Pure Gam 17 [z2a s,q2a m, .int .i64 (i:Int), .sl (vs.map eV) w] (.tup [.bool (q3h m s.clauses[i] vs), .int .i64 0]):=by
 have hsh':m.map (·.pred)=s.preds.map (·.name):=of_decide_eq_true hsh
 have hpl:=hs.pl
 have hml:m.length≤1000:=by
  have:=congrArg List.length hsh'
  simp only[List.length_map] at this
  omega
 have p19:=k6q hs hm hml
 rw[hsh,z2a,q2a] at p19
 obtain⟨c1,c2,c3,c4,c5⟩:=hs.clauses _ (List.getElem_mem hi)
 have hx:=fun h=>z7r (l:=s.clauses) (i:=i) (h:=h) (t:= .no) (k:= .i64) hi
 have e0:decide ((i:Int) < 0)=false:=by rw[decide_eq_false_iff_not];omega
 have e1:decide ((s.clauses.length:Int)≤(i:Int))=false:=by rw[decide_eq_false_iff_not];omega
 generalize s.clauses[i]=c at *
 have hvl:c.vars.length≤8:=c1.length_le
 have hV:∀ v∈c.vars,v∈z1z:=fun v h=>c1.mem h
 have hnd:(c.vars.map (·.name)).Nodup:=x7w.sublist (c1.map _)
 have p20:=v3u (u:= .no) (w:= .no) (by omega) hf (by omega)
 have p21:=j7w (V:=c.vars) (vs:=vs) (u:= .no) (w:= .no) (by omega) hf.len
 have he:=v8d (by omega) hnd hf
 have hev:=j7v (by omega) hf
 have hel:(z8c c.vars vs).length≤1000:=by rw[q7q hf.len];omega
 obtain⟨g1,g2,g3,g4⟩:=c4
 have p22:=j7t (U:=z1z) (u:= .no) (w:= .no) (x:= .nil) hV he hev hel (by omega) (by omega) (by omega) g1
 unfold q3h
 generalize z8c c.vars vs=env at *
 have hat:=fun a ha=>w5v (a:=a) hs hm hd hsh' hV he hev hel ha
 refine Pure.of rfl y1j rfl rfl rfl (az:=[z2a s,q2a m, .int .i64 (i:Int), .sl (vs.map eV) .no]) rfl (by simp[idsL,z2v,q7o,AV.ids,z5y]) fun D B clk T hB hT=> ?_
 cases hg:(z8b env c.guard).b with
 | false=>
   rw[hg] at p22 hT
   simp only[go_sem,k3e,hB,z2a,q2a,z0a p19,Bool.not_true,Bool.not_false,e0,List.length_map,e1,hx,z0a p20,z0a p21,z0a p22]
   rw[z0g rfl rfl]
   simp only[Bool.not_false,Bool.true_or] at hT
   exact hT _
 | true=>
   rw[hg] at p22 hT
   simp only[Bool.not_true,Bool.false_or] at hT
   simp only[go_sem,k3e,hB,z2a,q2a,z0a p19,Bool.not_true,Bool.not_false,e0,List.length_map,e1,hx,z0a p20,z0a p21,z0a p22]
   refine z6k c.body.length (by omega) (fun j q=>∃ g0 g1 g2:Nat,(∀ a∈c.body.take j,q3z m env a.pred a.args=true)∧q.ts 4= .ptr (B + 0) g0 0 0∧q.ts 5= .ptr (B + 1) g1 0 0∧q.ts 10= .ptr (B + 2) g2 0 0∧q.ts 11= .sl (env.map eB) .no∧q.ts 12= .int .i64 (j:Int)∧q.h=D++[.blk g0 [.agg [.sl (s.preds.map z0y) .no, .sl (s.clauses.map z0h) .no]] false false 0, .blk g1 [.agg [.sl (m.map z6x) .no]] false false 0, .blk g2 [.agg [.sl (c.vars.map z1h) .no, .sl (c.body.map z3u) .no, .sl (c.guard.map eNode) .no, .str c.head.pred, .sl (c.head.args.map z0n) .no]] false false 0]) ⟨_,_,_,by simp,rfl,rfl,rfl,rfl,rfl,rfl⟩ ?_ ?_
   ·rintro j hlt f1 f2 ts h clk P ⟨g0,g1,g2,hall,q4,q5,q10,q11,q12,rfl⟩ hnx hex hr
    dsimp only at q4 q5 q10 q11 q12
    have hy:∀ h,z1p h 2 (.sl (c.body.map z3u) .no) (.int .i64 (j:Int))=some (.iptr [.str c.body[j].pred, .sl (c.body[j].args.map z0n) .no] 0,h):=fun h=>z2d hlt rfl rfl
    obtain⟨p24,p23⟩:=hat _ (c3 _ (List.getElem_mem hlt))
    simp only[z3u,z2a,q2a,x2l] at p24 p23
    cases hb:q3z m env c.body[j].pred c.body[j].args with
    | false=>
      rw[hb] at p23
      have hres:(c.body.any fun a=> !q3z m env a.pred a.args)=true:=List.any_eq_true.2 ⟨_,List.getElem_mem hlt,by simp[hb]⟩
      rw[hres,Bool.true_or] at hT
      simp only[go_sem,x5z,q4,q5,q10,q11,q12,hB,f1,List.length_map,z1b,hy,z0a p24,z0a p23,Bool.not_false]
      refine⟨by simp[-List.map_map,z1e,apart,z0l,z0z,z1i,AOp.isCall,hB,AV.ids,idsL,z5y], ?_⟩
      refine hr _ ?_
      simp only[go_sem,]
      rw[z0g rfl rfl]
      exact hT _
    | true=>
      rw[hb] at p23
      simp only[go_sem,x5z,q4,q5,q10,q11,q12,hB,f1,f2,List.length_map,z1b,hy,z0a p24,z0a p23,Bool.not_true]
      refine⟨by simp[-List.map_map,z1e,apart,z0l,z0z,z1i,AOp.isCall,hB,AV.ids,idsL,z5y], ?_⟩
      refine hnx _ ⟨g0,g1,g2,fun a ha=> ?_,q4,q5,q10,q11,rfl,rfl⟩
      rw[List.take_succ_eq_append_getElem hlt] at ha
      rcases List.mem_append.1 ha with ha | ha
      ·exact hall a ha
      ·rw[List.mem_singleton.1 ha];exact hb
   ·rintro f1 ts h clk P ⟨g0,g1,g2,hall,q4,q5,q10,q11,q12,rfl⟩ hex hr
    dsimp only at q4 q5 q10 q11 q12
    rw[List.take_length] at hall
    have hres:(c.body.any fun a=> !q3z m env a.pred a.args)=false:=List.any_eq_false.2 fun a ha=>by simp[hall a ha]
    rw[hres,Bool.false_or] at hT
    simp only[go_sem,x5z,q4,q5,q10,q11,q12,hB,f1,List.length_map]
    refine hex _ _ ?_
    rcases c5 with ⟨h1,h2⟩ | h1
    ·have e2:decide (c.head.pred=[])=true:=decide_eq_true h1
     rw[e2] at hT
     simp only[go_sem,q4,q5,q10,q11,hB,z1b,e2,Bool.not_true]
     refine⟨by simp[-List.map_map,z1e,apart,z0l,z0z,z1i,AOp.isCall,hB,AV.ids,idsL,z5y], ?_⟩
     rw[z0g rfl rfl]
     exact hT _
    ·have e2:decide (c.head.pred=[])=false:=decide_eq_false fun e=>by
      obtain⟨f,hf,hn,_⟩:=h1
      have:=j4i _ (hs.preds.mem hf)
      exact this (by rw[←hn,e])
     rw[e2] at hT
     simp only[Bool.not_false,Bool.true_and] at hT
     obtain⟨p24,p23⟩:=hat _ h1
     simp only[z3u,z2a,q2a,x2l] at p24 p23
     simp only[go_sem,q4,q5,q10,q11,hB,z1b,e2,Bool.not_false,z0a p24,z0a p23]
     refine⟨by simp[-List.map_map,z1e,apart,z0l,z0z,z1i,AOp.isCall,hB,AV.ids,idsL,z5y], ?_⟩
     rw[z0g rfl rfl]
     exact hT _
end
section
open Sh

end
instance:DecidableEq App:=fun a b=>decidable_of_iff (a.pred=b.pred∧a.args=b.args) (by cases a;cases b;simp)
instance:DecidableEq Clause:=fun a b=>decidable_of_iff (a.vars=b.vars∧a.guard=b.guard∧a.head=b.head∧a.body=b.body) (by cases a;cases b;simp only[Clause.mk.injEq];exact⟨fun ⟨h1,h2,h3,h4⟩=>⟨h1,h4,h2,h3⟩,fun ⟨h1,h2,h3,h4⟩=>⟨h1,h3,h4,h2⟩⟩)
def w5w (a b:Int):Int:=if a < b then -1 else if b < a then 1 else 0
def cmpS (a b:List Nat):Int:=if z4d a b=true then -1 else if a=b then 0 else 1
theorem q3i {a b:Int}:w5w a b=0↔a=b:=by
 unfold w5w
 split
 ·constructor
  ·intro h;cases h
  ·omega
 ·split
  ·constructor
   ·intro h;cases h
   ·omega
  ·simp;omega
theorem j1e {a b:List Nat}:cmpS a b=0↔a=b:=by
 unfold cmpS
 split
 ·rename_i h
  refine⟨fun h=>(by cases h),fun e=> ?_⟩
  rw[e,q8m] at h
  cases h
 ·split <;> simp_all
theorem v8f {h:List AObj} {t:ETy} {a b:List Nat}:z7j h .gtr t (.str a) (.str b)=some (.bool (!z4d a b && !decide (a=b)),h):=by simp[z7j,z4q,q7t]
theorem x7x {a b:Int}:Pure Gam 175 [.int .i64 a, .int .i64 b] (.int .i64 (w5w a b)):=by
 refine Pure.of rfl u6e rfl rfl rfl rfl rfl fun D B clk T hB hT=> ?_
 unfold w5w at hT
 cases h1:decide (a < b) with
 | true=>
   rw[if_pos (of_decide_eq_true h1)] at hT
   simp only[go_sem,v2p,h1]
   rw[z0g rfl rfl]
   exact hT _
 | false=>
   rw[if_neg (of_decide_eq_false h1)] at hT
   cases h2:decide (b < a) with
   | true=>
     rw[if_pos (of_decide_eq_true h2)] at hT
     simp only[go_sem,v2p,h1,h2]
     rw[z0g rfl rfl]
     exact hT _
   | false=>
     rw[if_neg (of_decide_eq_false h2)] at hT
     simp only[go_sem,v2p,h1,h2]
     rw[z0g rfl rfl]
     exact hT _
theorem v4b {a b:List Nat}:Pure Gam 176 [.str a, .str b] (.int .i64 (cmpS a b)):=by
 refine Pure.of rfl u6f rfl rfl rfl rfl rfl fun D B clk T hB hT=> ?_
 unfold cmpS at hT
 cases h1:z4d a b with
 | true=>
   rw[if_pos h1] at hT
   simp only[go_sem,v2q,h1]
   rw[z0g rfl rfl]
   exact hT _
 | false=>
   rw[if_neg (by simp[h1])] at hT
   cases h2:decide (a=b) with
   | true=>
     rw[if_pos (of_decide_eq_true h2)] at hT
     simp only[go_sem,v2q,h1,h2,v8f,Bool.not_false,Bool.not_true,Bool.true_and]
     rw[z0g rfl rfl]
     exact hT _
   | false=>
     rw[if_neg (of_decide_eq_false h2)] at hT
     simp only[go_sem,v2q,h1,h2,v8f,Bool.not_false,Bool.true_and]
     rw[z0g rfl rfl]
     exact hT _
theorem u6l {t u:Term} {v w:Tip} {h:List AObj} {clk:Nat} {Q:AV→List AObj→Nat→Prop} (hl:t.length≤20000) (hQ:∀ z:Int,(z=0↔t=u)→Q (.int .i64 z) h clk):WC Gam 108 [.sl (t.map eNode) v, .sl (u.map eNode) w] h clk Q:=by
 refine q6x rfl u6d rfl rfl rfl (az:=[.sl (t.map eNode) .no, .sl (u.map eNode) .no]) rfl (by simp[idsL,z7z]) fun D B T hB hT=> ?_
 have ea0:∀ (h:List AObj) (g:Nat),q6i h 5 1 (.ptr (B + 2) g 0 0) (.int .i64 0)=some (.ptr (B + 2) g 0 0,h):=fun _ _=>rfl
 have ea1:∀ (h:List AObj) (g:Nat),q6i h 5 1 (.ptr (B + 2) g 0 0) (.int .i64 1)=some (.ptr (B + 2) g 0 1,h):=fun _ _=>rfl
 have ea2:∀ (h:List AObj) (g:Nat),q6i h 5 1 (.ptr (B + 2) g 0 0) (.int .i64 2)=some (.ptr (B + 2) g 0 2,h):=fun _ _=>rfl
 have ea3:∀ (h:List AObj) (g:Nat),q6i h 5 1 (.ptr (B + 2) g 0 0) (.int .i64 3)=some (.ptr (B + 2) g 0 3,h):=fun _ _=>rfl
 have ea4:∀ (h:List AObj) (g:Nat),q6i h 5 1 (.ptr (B + 2) g 0 0) (.int .i64 4)=some (.ptr (B + 2) g 0 4,h):=fun _ _=>rfl
 have w0:IntKind.i64.wrap (0 + 1)=1:=by decide
 have w1:IntKind.i64.wrap (1 + 1)=2:=by decide
 have w2:IntKind.i64.wrap (2 + 1)=3:=by decide
 have w3:IntKind.i64.wrap (3 + 1)=4:=by decide
 have w4:IntKind.i64.wrap (4 + 1)=5:=by decide
 simp only[go_sem,y7l,hB]
 refine z1f (fun m q=>∃ (i:Nat) (o0 o1 o2:AObj),i≤t.length∧m=t.length - i∧i≤u.length∧t.take i=u.take i∧q.ts 0= .sl (t.map eNode) .no∧q.ts 1= .sl (u.map eNode) .no∧q.ts 5= .int .i64 (i:Int)∧q.h=D++[o0,o1,o2]) t.length ⟨0,_,_,_,by omega,rfl,by omega,by simp,rfl,rfl,rfl,rfl⟩ ?_
 rintro m ⟨ts,h',clk⟩ P ⟨i,o0,o1,o2,hi,rfl,hiu,htk,h0,h1,h5,rfl⟩ hnx he hr
 dsimp only at h0 h1 h5
 have f2:IntKind.i64.wrap ((i:Int) + 1)=((i + 1:Nat):Int):=z0c (by omega) (by omega)
 have fin:∀ z:Int,(z=0↔t=u)→∀ h',RV [] (some [AV.int .i64 z]) (fun v h'=>T v h') h':=fun z hz h'=>by
  rw[z0g rfl rfl]
  exact hT _ _ (hQ z hz)
 by_cases hlt:i < t.length
 ·have f1:decide ((i:Int) < (t.length:Int))=true:=by rw[decide_eq_true_iff];omega
  by_cases hlu:i < u.length
  ·have f3:decide ((i:Int) < (u.length:Int))=true:=by rw[decide_eq_true_iff];omega
   have hti:t[i]? =some t[i]:=List.getElem?_eq_getElem hlt
   have hui:u[i]? =some u[i]:=List.getElem?_eq_getElem hlu
   have hne:t[i]≠u[i]→∀ z:Int,z≠0→(z=0↔t=u):=fun hn z hz=>⟨fun h=>absurd h hz,fun h=>by subst h;exact absurd rfl hn⟩
   have hst:t[i]=u[i]→t.take (i + 1)=u.take (i + 1):=k6r hlt hlu htk
   generalize t[i]=n at *
   generalize u[i]=o at *
   have zz0:=q3i (a:=(n.op:Int)) (b:=(o.op:Int))
   have zz1:=q3i (a:=(n.sort:Int)) (b:=(o.sort:Int))
   have zz2:=j1e (a:=n.name) (b:=o.name)
   have zz3:=j1e (a:=n.num) (b:=o.num)
   have zz4:=q3i (a:=(n.kids:Int)) (b:=(o.kids:Int))
   simp only[go_sem,j0u,h0,h1,h5,hB,List.length_map,f1,f3,z1b,z2q hti,z2q hui,z0a x7x,z0a v4b]
   refine⟨by simp[z1e,apart,z0l,z0z,z1i,AOp.isCall,hB,z7z], ?_⟩
   refine⟨by simp[z1e,apart,z0l,z0z,z1i,AOp.isCall,hB,z7z], ?_⟩
   generalize w5w (n.op:Int) o.op=y0 at *
   generalize w5w (n.sort:Int) o.sort=y1 at *
   generalize cmpS n.name o.name=y2 at *
   generalize cmpS n.num o.num=y3 at *
   generalize w5w (n.kids:Int) o.kids=y4 at *
   refine z2h ?_
   cases d0:decide (y0=0) with
   | false=>
     simp only[go_sem,q0b,hB,h0,h1,h5,Int.reduceLT,decide_true,ea0,w0,d0,Bool.not_false]
     refine hr _ ?_
     simp only[go_sem,]
     exact fin _ (hne (fun e=>of_decide_eq_false d0 (zz0.2 (by rw[e]))) _ (of_decide_eq_false d0)) _
   | true=>
   simp only[go_sem,q0b,hB,h0,h1,h5,Int.reduceLT,decide_true,ea0,w0,d0,Bool.not_true]
   refine z2h ?_
   cases d1:decide (y1=0) with
   | false=>
     simp only[go_sem,q0b,hB,h0,h1,h5,Int.reduceLT,decide_true,ea1,w1,d1,Bool.not_false]
     refine hr _ ?_
     simp only[go_sem,]
     exact fin _ (hne (fun e=>of_decide_eq_false d1 (zz1.2 (by rw[e]))) _ (of_decide_eq_false d1)) _
   | true=>
   simp only[go_sem,q0b,hB,h0,h1,h5,Int.reduceLT,decide_true,ea1,w1,d1,Bool.not_true]
   refine z2h ?_
   cases d2:decide (y2=0) with
   | false=>
     simp only[go_sem,q0b,hB,h0,h1,h5,Int.reduceLT,decide_true,ea2,w2,d2,Bool.not_false]
     refine hr _ ?_
     simp only[go_sem,]
     exact fin _ (hne (fun e=>of_decide_eq_false d2 (zz2.2 (by rw[e]))) _ (of_decide_eq_false d2)) _
   | true=>
   simp only[go_sem,q0b,hB,h0,h1,h5,Int.reduceLT,decide_true,ea2,w2,d2,Bool.not_true]
   refine z2h ?_
   cases d3:decide (y3=0) with
   | false=>
     simp only[go_sem,q0b,hB,h0,h1,h5,Int.reduceLT,decide_true,ea3,w3,d3,Bool.not_false]
     refine hr _ ?_
     simp only[go_sem,]
     exact fin _ (hne (fun e=>of_decide_eq_false d3 (zz3.2 (by rw[e]))) _ (of_decide_eq_false d3)) _
   | true=>
   simp only[go_sem,q0b,hB,h0,h1,h5,Int.reduceLT,decide_true,ea3,w3,d3,Bool.not_true]
   refine z2h ?_
   cases d4:decide (y4=0) with
   | false=>
     simp only[go_sem,q0b,hB,h0,h1,h5,Int.reduceLT,decide_true,ea4,w4,d4,Bool.not_false]
     refine hr _ ?_
     simp only[go_sem,]
     exact fin _ (hne (fun e=>of_decide_eq_false d4 (zz4.2 (by rw[e]))) _ (of_decide_eq_false d4)) _
   | true=>
   simp only[go_sem,q0b,hB,h0,h1,h5,Int.reduceLT,decide_true,ea4,w4,d4,Bool.not_true]
   refine z2h ?_
   simp only[go_sem,q0b,hB,h0,h1,h5,Int.reduceLT,decide_false,f2]
   have e0:n.op=o.op:=by have:=zz0.1 (of_decide_eq_true d0);omega
   have e1:n.sort=o.sort:=by have:=zz1.1 (of_decide_eq_true d1);omega
   have e4:n.kids=o.kids:=by have:=zz4.1 (of_decide_eq_true d4);omega
   have e:n=o:=by
    cases n;cases o
    simp only[Node.mk.injEq]
    exact⟨e0,e1,zz2.1 (of_decide_eq_true d2),zz3.1 (of_decide_eq_true d3),e4⟩
   exact hnx (t.length - (i + 1)) _ (by omega) ⟨i + 1,_,_,_,hlt,rfl,hlu,hst e,h0,h1,rfl,rfl⟩
  ·have f3:decide ((i:Int) < (u.length:Int))=false:=by rw[decide_eq_false_iff_not];omega
   simp only[go_sem,j0u,h0,h1,h5,hB,List.length_map,f1,f3]
   refine he _ _ ?_
   simp only[go_sem,h0,h1,List.length_map,z0a x7x]
   exact fin _ (by rw[q3i];exact⟨fun h=>by omega,fun h=>by rw[h]⟩) _
 ·have f1:decide ((i:Int) < (t.length:Int))=false:=by rw[decide_eq_false_iff_not];omega
  simp only[go_sem,j0u,h0,h1,h5,hB,List.length_map,f1]
  refine he _ _ ?_
  simp only[go_sem,h0,h1,List.length_map,z0a x7x]
  refine fin _ ?_ _
  rw[q3i]
  obtain rfl:i=t.length:=by omega
  refine⟨fun h=> ?_,fun h=>by rw[h]⟩
  have:t.length=u.length:=by omega
  rwa [List.take_length,this,List.take_length] at htk
theorem k7b {t u:Term} {v w:Tip} (hl:t.length≤20000):Pure Gam 57 [.sl (t.map eNode) v, .sl (u.map eNode) w] (.bool (decide (t=u))):=by
 refine Pure.of rfl g3d rfl rfl rfl (az:=[.sl (t.map eNode) .no, .sl (u.map eNode) .no]) rfl (by simp[idsL,z7z]) fun D B clk T hB hT=> ?_
 simp only[go_sem,u9x,hB]
 refine z5x (u6l hl fun z hz=> ?_)
 have e:decide (z=0)=decide (t=u):=by simp[hz]
 simp only[go_sem,e]
 rw[z0e]
 exact hT _
theorem k7c {h:List AObj} {v w:Var}:z7j h .neq (.agg [.str, .int]) (.agg [.str v.name, .int .i64 (v.sort:Int)]) (.agg [.str w.name, .int .i64 (w.sort:Int)])=some (.bool (!decide (v=w)),h):=by
 obtain⟨a,b⟩:=v
 obtain⟨c,d⟩:=w
 by_cases h1:a=c <;> by_cases h2:b=d <;> simp[z7j,z4q,AV.eqv,eqL,AV.eq1,h1,h2,Int.ofNat_inj]
theorem x7y {α:Type} [DecidableEq α] {xs ys:List α} (h:decide (xs.length=ys.length)=false):decide (xs=ys)=false:=decide_eq_false fun e=>of_decide_eq_false h (by rw[e])
theorem k7d {c d:Clause}:decide (c=d)=(decide (c.vars=d.vars) && (decide (c.body=d.body) && (decide (c.guard=d.guard) && decide (c.head=d.head)))):=by
 cases c;cases d
 simp only[Clause.mk.injEq,Bool.decide_and]
end Go.Proofs.YtkollgjffkdliaaGreatDoor.Am
