/- Walking: predicates are merged Walking: predicates are merged Walking: a system with a copy of its first predicate Walking: a system with a copy of its first predicate Walking: a system with a copy of -/
import Derived.Test.YtkollgjffkdliaaGreatDoorM31
open Bool renaming not_false → j5,not_true → z7
open Int renaming cast_ofNat_Int → z9,reduceNegSucc → z5,reduceOfNat → z4
open List renaming append_assoc → n0,append_nil → u5,drop_eq_getElem_cons → p9,getElem?_append_right → m0,getElem?_eq_some_iff → k7,getElem?_map → l6,getElem?_set_ne → l7,getElem?_set_self → s8,getElem_mem → j9,length_append → y5,length_map → z6,length_nil → d5,length_singleton → w0,length_take → b6,map_append → v5,mem_append → j6,mem_cons → y3,mem_of_mem_take → m9,mem_singleton → u7,not_mem_nil → s7,take_length → u4,take_of_length_le → b7,take_sublist → s6,take_succ_eq_append_getElem → w8
open Nat renaming le_trans → w9,sub_self → d8,zero_le → m7
open Option renaming bind_some → n9,map_some → k6
set_option linter.all false
namespace Go.Proofs.YtkollgjffkdliaaGreatDoor.Am
open Go
noncomputable section
set_option maxRecDepth 100000
section
def mC (x:Tf) (c:Clause):Clause:=⟨c.vars,c.body.map (z8d x.pred x.into),c.guard,c.head⟩
theorem j7f {s:Sys} {x:Tf}:∀ {n:Nat},n≤s.clauses.length→(kpI s x.pred n).map (fun i=>mC x (x2u s i))=z7p x (s.clauses.take n)
 | 0,_=>by simp[kpI,z7p]
 | n + 1,h=>by
   have hn:n < s.clauses.length:=by omega
   rw[j7c,x4r hn,v5,j7f (by omega),j3m hn]
   by_cases e:s.clauses[n].head.pred=x.pred
   ·simp[e]
   ·rw[if_neg e,if_neg e,List.map_singleton,x7k hn]
    have:z8d x.pred x.into s.clauses[n].head=s.clauses[n].head:=by simp[z8d,e]
    simp[mC,x1v,this]
section
variable {D L:List AObj} {B k g n j:Nat} {al:List App}
theorem y8s (hB:D.length=B) (hL:L[k]? =some (.blk g (al.map z2b) true true 0)) (hj:j < al.length) (hn:j < n):z1m (D++L) 2 (.ob (B + k) g 0 n) (.int .i64 (j:Int))=some (.ptr (B + k) g j 0,D++L):=by
 have hb:z1u (D++L) (B + k) g=some (al.map z2b,true,true,0):=by rw[z2k hB];exact z2g hL
 simp[z1m,hb,hj,hn,z2b,AV.cells]
theorem v1v {y:App} (hB:D.length=B) (hL:L[k]? =some (.blk g (al.map z2b) true true 0)) (hj:j < al.length):z5q (D++L) 2 (.agg [.str y.pred, .sl (y.args.map z0k) .no]) (.ptr (B + k) g j 0)=some (.undef,D++L.set k (.blk g ((al.set j y).map z2b) true true 0)):=by
 have hb:z1u (D++L) (B + k) g=some (al.map z2b,true,true,0):=by rw[z2k hB];exact z2g hL
 have he:(al.map z2b)[j]? =some (z2b al[j]):=by simp[hj]
 have hp:pub (D++L) (.agg [.str y.pred, .sl (y.args.map z0k) .no])=some (.agg [.str y.pred, .sl (y.args.map z0k) .no],D++L):=rfl
 rw[z6w,hb]
 simp only[he,if_true,hp]
 simp[AV.def?,AV.cells,j4r,x5n,z8f,z7t,z2b,AV.obs,z3x,z2a hB,List.map_set]
theorem y8t {v w:List AV} {t u:Tip} {p:List Nat} {q:List AV} {r:Tip} (hB:D.length=B) (hL:L[k]? =some (.blk g (al.map z2b) true true 0)):bsV (D++L) (.agg [.sl [] .nil, .sl [] .nil, .sl [] .nil, .str [], .sl [] .nil]) 1 [0] [.agg [.sl v t, .ob (B + k) g 0 al.length, .sl w u, .str p, .sl q r]]=some (.sl [.agg [.sl v .no, .sl (al.map z2b) .no, .sl w .no, .str p, .sl q .no]] .full,D++L.set k (.blk g (al.map z2b) true true al.length)):=by
 have hb:z1u (D++L) (B + k) g=some (al.map z2b,true,true,0):=by rw[z2k hB];exact z2g hL
 have hr:q0t (D++L) (B + k) g 0 al.length=some (al.map z2b):=by
  have ht:List.take al.length (al.map z2b)=al.map z2b:=b7 (by simp)
  simp[q0t,hb,ht]
 have hg:(D++L)[B + k]? =some (.blk g (al.map z2b) true true 0):=by rw[z2u hB];exact hL
 simp[bsV,z8k,conv,hr,z3y,AV.def?,AV.cells,z3x,AV.obs,freezeAll,hg,z2a hB]
end
def H15 (g0 gx g2 g8 g9:Nat) (s:Sys) (x:Tf) (pv cv:AV) (R:List AObj):List AObj:= .blk g0 [z2i s] false false 0:: .blk gx [eTf x] false false 0:: .blk g2 [.agg [.sl [] .nil, .sl [] .nil]] false false 0:: .blk g8 [q4z x.pred x.into] false false 0:: .blk g9 [.agg [pv,cv]] false false 0::R
theorem k0i {s:Sys} {x:Tf} {c:Clause} {al:List App} {B clk g0 gx g2 g8 g9 g14 gr m:Nat} {D G:List AObj} {a5 a6 a7 a9 a10 a11:AObj} {pv cv v52 v53 v54:AV} {ts:Tmps} {ks:List Kf} {Q:Post} (hB:D.length=B) (hal:al.length≤20000) (hG:G[m]? =some (.blk gr (al.map z2b) true true 0)) (h2:ts 2= .ptr (B + 0) g0 0 0) (h4:ts 4= .ptr (B + 2) g2 0 0) (h8:ts 8= .ptr (B + 3) g8 0 0) (h9:ts 9= .ptr (B + 4) g9 0 0) (h14:ts 14= .ptr (B + 8) g14 0 0) (h52:ts 52=v52) (h53:ts 53=v53) (h54:ts 54=v54) (h65:ts 65= .ob (B + (m + 12)) gr 0 al.length) (h66:ts 66= .int .i64 (al.length:Int)) (h67:ts 67= .int .i64 0)
  (hQ:∀ (ts':Tmps) (a9:AObj) (clk':Nat),ts' 2= .ptr (B + 0) g0 0 0→ts' 4= .ptr (B + 2) g2 0 0→ts' 8= .ptr (B + 3) g8 0 0→ts' 9= .ptr (B + 4) g9 0 0→ts' 14= .ptr (B + 8) g14 0 0→ts' 52=v52→ts' 53=v53→ts' 54=v54→K Gam B (.exit 4) ks ⟨ts',D++H15 g0 gx g2 g8 g9 s x pv cv (a5::a6::a7:: .blk g14 [x2w c (.ob (B + (m + 12)) gr 0 al.length)] false false 0::a9::a10::a11::G.set m (.blk gr ((al.map (z8d x.pred x.into)).map z2b) true true 0)),clk'⟩ Q):
  K Gam B (.loop j0o) ks ⟨ts,D++H15 g0 gx g2 g8 g9 s x pv cv (a5::a6::a7:: .blk g14 [x2w c (.ob (B + (m + 12)) gr 0 al.length)] false false 0::a9::a10::a11::G),clk⟩ Q:=by
 have hmG:m < G.length:=by
  rw[k7] at hG
  exact hG.1
 have hGe:G=G.set m (.blk gr (al.map z2b) true true 0):=by
  refine List.ext_getElem? fun j=> ?_
  by_cases h:j=m
  ·subst h;rw[hG,s8 hmG]
  ·rw[l7 (fun e=>h e.symm)]
 refine z3t al.length (by omega) (fun j q=>∃ (a9:AObj),q.ts 2= .ptr (B + 0) g0 0 0∧q.ts 4= .ptr (B + 2) g2 0 0∧q.ts 8= .ptr (B + 3) g8 0 0∧q.ts 9= .ptr (B + 4) g9 0 0∧q.ts 14= .ptr (B + 8) g14 0 0∧q.ts 52=v52∧q.ts 53=v53∧q.ts 54=v54∧q.ts 65= .ob (B + (m + 12)) gr 0 al.length∧q.ts 66= .int .i64 (al.length:Int)∧q.ts 67= .int .i64 (j:Int)∧q.h=D++H15 g0 gx g2 g8 g9 s x pv cv (a5::a6::a7:: .blk g14 [x2w c (.ob (B + (m + 12)) gr 0 al.length)] false false 0::a9::a10::a11::G.set m (.blk gr (((al.take j).map (z8d x.pred x.into)++al.drop j).map z2b) true true 0))) ⟨a9,h2,h4,h8,h9,h14,h52,h53,h54,h65,h66,h67,by rw[List.take_zero,List.map_nil,List.nil_append,List.drop_zero,←hGe]⟩ ?_ ?_
 ·clear h2 h4 h8 h9 h14 h52 h53 h54 h65 h66 h67 hGe hG
  rintro j hlt f1 f2 ts h clk P ⟨a9,q2,q4,q8,q9,q14,q52,q53,q54,q65,q66,q67,rfl⟩ hnx he hr
  dsimp only at q2 q4 q8 q9 q14 q52 q53 q54 q65 q66 q67
  have hdr:al.drop j=al[j]::al.drop (j + 1):=p9 hlt
  have htk:=w8 hlt
  have hjl:j < ((al.take j).map (z8d x.pred x.into)++al.drop j).length:=by simp;omega
  have hpre:((al.take j).map (z8d x.pred x.into)).length=j:=by simp;omega
  have hge:(((al.take j).map (z8d x.pred x.into)++al.drop j).map z2b)[j]? =some (.agg [.str al[j].pred, .sl (al[j].args.map z0k) .no]):=by
   rw[hdr,l6,m0 (by omega),hpre,d8]
   rfl
  have hse:((al.take j).map (z8d x.pred x.into)++al.drop j).set j (z8d x.pred x.into al[j])=(al.take (j + 1)).map (z8d x.pred x.into)++al.drop (j + 1):=by
   rw[hdr,List.set_append_right _ _ (by omega),hpre,d8,List.set_cons_zero,htk,v5,n0]
   rfl
  have p1:=j0r (p:=x.pred) (q:=x.into) (a:=al[j])
  generalize hE:(al.take j).map (z8d x.pred x.into)++al.drop j=es at *
  generalize hy:z8d x.pred x.into al[j]=y at *
  generalize al[j]=a at *
  have hG':(G.set m (.blk gr (es.map z2b) true true 0))[m]? =some (.blk gr (es.map z2b) true true 0):=s8 hmG
  have hbG:z1u (G.set m (.blk gr (es.map z2b) true true 0)) m gr=some (es.map z2b,true,true,0):=z2g hG'
  have hidx:∀ L:List AObj,L[m + 12]? =some (.blk gr (es.map z2b) true true 0)→z1m (D++L) 2 (.ob (B + (m + 12)) gr 0 al.length) (.int .i64 (j:Int))=some (.ptr (B + (m + 12)) gr j 0,D++L):=fun L hL=>y8s hB hL hjl hlt
  have hst:∀ L:List AObj,L[m + 12]? =some (.blk gr (es.map z2b) true true 0)→z5q (D++L) 2 (.agg [.str y.pred, .sl (y.args.map z0k) .no]) (.ptr (B + (m + 12)) gr j 0)=some (.undef,D++L.set (m + 12) (.blk gr ((es.set j y).map z2b) true true 0)):=fun L hL=>v1v hB hL hjl
  have hss:(G.set m (.blk gr (es.map z2b) true true 0)).set m (.blk gr ((es.set j y).map z2b) true true 0)=G.set m (.blk gr ((es.set j y).map z2b) true true 0):=List.set_set ..
  simp only[q4z,z2b] at p1
  simp only[go_sem,j0o,H15,q4z,x2w,q2,q4,q8,q9,q14,q52,q53,q54,q65,q66,q67,hB,f1,f2,hidx,hG',hbG,hge,n9,z1a,z0a p1,hst,hss]
  refine⟨by simp[z1b,apart,z0j,z0z,z1d,AOp.isCall,hB,AV.ids,idsL,z0c z2c], ?_⟩
  exact hnx _ ⟨_,q2,q4,q8,q9,q14,q52,q53,q54,q65,q66,rfl,by rw[hse];rfl⟩
 ·clear h2 h4 h8 h9 h14 h52 h53 h54 h65 h66 h67 hGe hG
  rintro f1 ts h clk P ⟨a9,q2,q4,q8,q9,q14,q52,q53,q54,q65,q66,q67,rfl⟩ he hr
  dsimp only at q2 q4 q8 q9 q14 q52 q53 q54 q65 q66 q67
  rw[u4,List.drop_length,u5]
  simp only[go_sem,j0o,q66,q67,f1]
  exact he _ _ (hQ _ _ _ (by simp[z0b,q2]) (by simp[z0b,q4]) (by simp[z0b,q8]) (by simp[z0b,q9]) (by simp[z0b,q14]) (by simp[z0b,q52]) (by simp[z0b,q53]) (by simp[z0b,q54]))
end
theorem j3n {s:Sys} {x:Tf} {B clk g0 gx g2 g8 g9:Nat} {D R:List AObj} {a5 a6 a7:AObj} {v6:AV} {ts:Tmps} {ks:List Kf} {Q:Post} (hB:D.length=B) (hpl:s.preds.length≤1000) (h2:ts 2= .ptr (B + 0) g0 0 0) (h3:ts 3= .ptr (B + 1) gx 0 0) (h4:ts 4= .ptr (B + 2) g2 0 0) (h6:ts 6=v6) (h8:ts 8= .ptr (B + 3) g8 0 0) (h9:ts 9= .ptr (B + 4) g9 0 0) (h34:ts 34= .sl (s.preds.map z1f) .no) (h35:ts 35= .int .i64 (s.preds.length:Int)) (h36:ts 36= .int .i64 0)
  (hQ:∀ (ts':Tmps) (t:Tip) (a5 a6 a7:AObj) (clk':Nat),ts' 2= .ptr (B + 0) g0 0 0→ts' 4= .ptr (B + 2) g2 0 0→ts' 6=v6→ts' 8= .ptr (B + 3) g8 0 0→ts' 9= .ptr (B + 4) g9 0 0→K Gam B (.exit 0) ks ⟨ts',D++H15 g0 gx g2 g8 g9 s x (.sl ((q6i x s.preds).map z1f) t) (.sl [] .nil) (a5::a6::a7::R),clk'⟩ Q):
  K Gam B (.loop k0e) ks ⟨ts,D++H15 g0 gx g2 g8 g9 s x (.sl [] .nil) (.sl [] .nil) (a5::a6::a7::R),clk⟩ Q:=by
 refine z3t s.preds.length (by omega) (fun i q=>∃ (t:Tip) (a5 a6 a7:AObj),q.ts 2= .ptr (B + 0) g0 0 0∧q.ts 3= .ptr (B + 1) gx 0 0∧q.ts 4= .ptr (B + 2) g2 0 0∧q.ts 6=v6∧q.ts 8= .ptr (B + 3) g8 0 0∧q.ts 9= .ptr (B + 4) g9 0 0∧q.ts 34= .sl (s.preds.map z1f) .no∧q.ts 35= .int .i64 (s.preds.length:Int)∧q.ts 36= .int .i64 (i:Int)∧q.h=D++H15 g0 gx g2 g8 g9 s x (.sl ((q6i x (s.preds.take i)).map z1f) t) (.sl [] .nil) (a5::a6::a7::R)∧z8x B 7 a7 t 3) ⟨.nil,_,_,_,h2,h3,h4,h6,h8,h9,h34,h35,h36,rfl, .inl rfl⟩ ?_ ?_
 ·clear h2 h3 h4 h6 h8 h9 h34 h35 h36
  rintro i hlt f1 f2 ts h clk P ⟨t,a5,a6,a7,q2,q3,q4,q6,q8,q9,q34,q35,q36,rfl,ht⟩ hnx he hr
  dsimp only at q2 q3 q4 q6 q8 q9 q34 q35 q36
  have hix:=fun h=>z7f (l:=s.preds) (i:=i) (h:=h) (t:= .no) (k:= .i64) hlt
  have hkp:=k0h (x:=x) hlt
  have hkl:(q6i x (s.preds.take i)).length≤1000:=w9 k5x (by rw[b6];omega)
  generalize s.preds[i]=f at *
  cases hd:decide (f.name=x.pred) with
  | true=>
    rw[if_pos (of_decide_eq_true hd),u5] at hkp
    simp only[go_sem,k0e,H15,eTf,q2,q3,q4,q6,q8,q9,q34,q35,q36,hB,f1,f2,hix,hd,z7]
    exact hnx _ ⟨t,_,_,_,q2,q3,q4,q6,q8,q9,q34,q35,rfl,by rw[hkp];rfl,ht⟩
  | false=>
    rw[if_neg (of_decide_eq_false hd)] at hkp
    have e8:(q6i x (s.preds.take i)).map z1f++[f].map z1f=(q6i x (s.preds.take (i + 1))).map z1f:=by rw[hkp,v5]
    simp only[go_sem,k0e,H15,eTf,q2,q3,q4,q6,q8,q9,q34,q35,q36,hB,f1,hix,hd,j5]
    rw[show [AV.agg [.str f.name, .sl (f.args.map nat) .no, .int .i64 (f.result:Int)]]=[f].map z1f from rfl,z0q hB rfl ht z7n z7n (by simp only[z6,w0];omega),e8]
    simp only[go_sem,q2,q3,q4,q6,q8,q9,q34,q35,q36,hB,f2]
    exact hnx _ ⟨_,_,_,_,q2,q3,q4,q6,q8,q9,q34,q35,rfl,rfl, .inr (.inr ⟨_,rfl,rfl⟩)⟩
 ·clear h2 h3 h4 h6 h8 h9 h34 h35 h36
  rintro f1 ts h clk P ⟨t,a5,a6,a7,q2,q3,q4,q6,q8,q9,q34,q35,q36,rfl,ht⟩ he hr
  dsimp only at q2 q3 q4 q6 q8 q9 q34 q35 q36
  rw[u4]
  simp only[go_sem,k0e,q35,q36,f1]
  exact he _ _ (hQ _ t _ _ _ _ (by simp[z0b,q2]) (by simp[z0b,q4]) (by simp[z0b,q6]) (by simp[z0b,q8]) (by simp[z0b,q9]))
theorem x7m {s:Sys} {x:Tf} {kp:List Nat} {B clk g0 gx g2 g8 g9:Nat} {D G:List AObj} {a5 a6 a7 a8 a9 a10 a11:AObj} {pv:AV} {ts:Tmps} {ks:List Kf} {Q:Post} (hB:D.length=B) (hcl:s.clauses.length≤1000) (hkl:kp.length≤1000) (hkp:∀ i∈kp,i < s.clauses.length) (hcs:∀ c∈s.clauses,CmpC c) (h2:ts 2= .ptr (B + 0) g0 0 0) (h4:ts 4= .ptr (B + 2) g2 0 0) (h8:ts 8= .ptr (B + 3) g8 0 0) (h9:ts 9= .ptr (B + 4) g9 0 0) (h52:ts 52= .sl (kp.map nat) .no) (h53:ts 53= .int .i64 (kp.length:Int)) (h54:ts 54= .int .i64 0)
  (hQ:∀ (ts':Tmps) (t:Tip) (R:List AObj) (clk':Nat),ts' 4= .ptr (B + 2) g2 0 0→ts' 9= .ptr (B + 4) g9 0 0→K Gam B (.exit 2) ks ⟨ts',D++H15 g0 gx g2 g8 g9 s x pv (.sl ((kp.map fun i=>mC x (x2u s i)).map z0g) t) R,clk'⟩ Q):
  K Gam B (.loop k0d) ks ⟨ts,D++H15 g0 gx g2 g8 g9 s x pv (.sl [] .nil) (a5::a6::a7::a8::a9::a10::a11::G),clk⟩ Q:=by
 refine z3t kp.length (by omega) (fun i q=>∃ (t:Tip) (a8 a9 a10 a11:AObj) (G:List AObj),q.ts 2= .ptr (B + 0) g0 0 0∧q.ts 4= .ptr (B + 2) g2 0 0∧q.ts 8= .ptr (B + 3) g8 0 0∧q.ts 9= .ptr (B + 4) g9 0 0∧q.ts 52= .sl (kp.map nat) .no∧q.ts 53= .int .i64 (kp.length:Int)∧q.ts 54= .int .i64 (i:Int)∧q.h=D++H15 g0 gx g2 g8 g9 s x pv (.sl (((kp.take i).map fun i=>mC x (x2u s i)).map z0g) t) (a5::a6::a7::a8::a9::a10::a11::G)∧z8x B 11 a11 t 5) ⟨.nil,_,_,_,_,_,h2,h4,h8,h9,h52,h53,h54,rfl, .inl rfl⟩ ?_ ?_
 ·clear h2 h4 h8 h9 h52 h53 h54
  rintro i hlt f1 f2 ts h clk P ⟨t,a8,a9,a10,a11,G,q2,q4,q8,q9,q52,q53,q54,rfl,ht⟩ hnx he hr
  dsimp only at q2 q4 q8 q9 q52 q53 q54
  have hkx:=fun h=>q6w (l:=kp) (i:=i) (h:=h) (t:= .no) (k:= .i64) hlt
  have hki:=hkp _ (j9 hlt)
  have hst:(kp.take (i + 1)).map (fun i=>mC x (x2u s i))=(kp.take i).map (fun i=>mC x (x2u s i))++[mC x (x2u s kp[i])]:=by
   rw[w8 hlt,v5,List.map_singleton]
  simp only[nat] at hkx
  generalize kp[i]=u at *
  rw[x7k hki] at hst
  have hix:=fun h=>q0r (l:=s.clauses) (i:=u) (h:=h) (t:= .no) (k:= .i64) hki
  have hC:=(hcs _ (j9 hki))
  have hS:=hC.small
  generalize s.clauses[u]=c at *
  have hl:((kp.take i).map (fun i=>mC x (x2u s i))).length≤1000:=by rw[z6,b6];omega
  have ha:∀ (L:List AObj) (gen:Nat) (d:Clause),L[11]? =some a11→d=mC x c→z0r (D++L) (B + 11) gen 5 112 false (.sl (((kp.take i).map (fun i=>mC x (x2u s i))).map z0g) t) (.sl [z0g d] .full)=some (.sl (((kp.take (i + 1)).map (fun i=>mC x (x2u s i))).map z0g) (.at (B + 11) gen),D++L.set 11 (.tip gen 5)):=fun L gen d hL hd=>by
   rw[show [z0g d]=[d].map z0g from rfl,z0q hB hL ht z4b z4b (by simp only[z6,w0] at hl⊢;omega),hst,hd,v5]
  generalize (kp.take i).map (fun i=>mC x (x2u s i))=acc at *
  generalize (kp.take (i + 1)).map (fun i=>mC x (x2u s i))=acc' at *
  have h39:=fun h clk Q=>g5s (c:=c) (h:=h) (clk:=clk) (Q:=Q) hC.body hS.bargs hS.hargs hS.vars hS.guard
  rw[z0g,z0k] at h39
  simp only[go_sem,k0d,H15,z2i,q2,q4,q8,q9,q52,q53,q54,hB,f1,hkx,hix]
  refine z4i (h39 _ _ _ (fun hb0=> ?_) fun o0 o1 o2 o3 o4 gr c' hne=> ?_)
  ·simp only[go_sem,x2w,q2,q4,q8,q9,q52,q53,q54,hB]
   refine z2r ?_
   simp only[go_sem,j0o,hB,d5,z9,Int.lt_irrefl,decide_false]
   have hd:(⟨c.vars,[],c.guard,c.head⟩:Clause)=mC x c:=by rw[mC,hb0];rfl
   have hbs:∀ h,bsV h (.agg [.sl [] .nil, .sl [] .nil, .sl [] .nil, .str [], .sl [] .nil]) 1 [0] [.agg [.sl (c.vars.map z1k) .no, .sl [] .nil, .sl (c.guard.map eNode) .no, .str c.head.pred, .sl (c.head.args.map z0k) .no]]=some (.sl [z0g ⟨c.vars,[],c.guard,c.head⟩] .full,h):=fun h=>u4t rfl rfl rfl rfl
   simp only[go_sem,q2,q4,q8,q9,q52,q53,q54,hB,hbs]
   rw[ha _ _ _ rfl hd]
   simp only[go_sem,q2,q4,q8,q9,q52,q53,q54,hB,f2]
   exact hnx _ ⟨_,_,_,_,_,_,q2,q4,q8,q9,q52,q53,rfl,rfl, .inr (.inr ⟨_,rfl,rfl⟩)⟩
  ·have e0:∀ (x0 x1 x2 x3 x4 x5 x6 x7 x8 x9 x10 x11:AObj),(D++(x0::x1::x2::x3::x4::x5::x6::x7::x8::x9::x10::x11::G)).length + 5=B + ((G.length + 5) + 12):=fun _ _ _ _ _ _ _ _ _ _ _ _=>by simp[hB];omega
   have e1:∀ (x0 x1 x2 x3 x4 x5 x6 x7 x8 x9 x10 x11:AObj) (M:List AObj),(D++(x0::x1::x2::x3::x4::x5::x6::x7::x8::x9::x10::x11::G))++M=D++(x0::x1::x2::x3::x4::x5::x6::x7::x8::x9::x10::x11::(G++M)):=fun _ _ _ _ _ _ _ _ _ _ _ _ _=>by simp
   have hG:(G++[o0,o1,o2,o3,o4, .blk gr (c.body.map z2b) true true 0])[G.length + 5]? =some (.blk gr (c.body.map z2b) true true 0):=by
    rw[m0 (by omega),show G.length + 5 - G.length=5 by omega]
    rfl
   rw[e0,e1]
   generalize G++[o0,o1,o2,o3,o4, .blk gr (c.body.map z2b) true true 0]=G' at hG
   generalize G.length + 5=m at hG
   simp only[go_sem,x2w,q2,q4,q8,q9,q52,q53,q54,hB]
   refine k0i (s:=s) (x:=x) (c:=c) (al:=c.body) (v52:= .sl (kp.map nat) .no) (v53:= .int .i64 (kp.length:Int)) (v54:= .int .i64 (i:Int)) hB hC.body hG (by simp[z0b,q2]) (by simp[z0b,q4]) (by simp[z0b,q8]) (by simp[z0b,q9]) (by simp[z0b]) (by simp[z0b,q52]) (by simp[z0b,q53]) (by simp[z0b,q54]) (by simp[z0b]) (by simp[z0b]) (by simp[z0b]) fun ts2 a9 clk2 r2 r4 r8 r9 r14 r52 r53 r54=> ?_
   have hmG:m < G'.length:=by
    rw[k7] at hG
    exact hG.1
   have hG2:(G'.set m (.blk gr ((c.body.map (z8d x.pred x.into)).map z2b) true true 0))[m]? =some (.blk gr ((c.body.map (z8d x.pred x.into)).map z2b) true true 0):=s8 hmG
   generalize G'.set m (.blk gr ((c.body.map (z8d x.pred x.into)).map z2b) true true 0)=G2 at hG2
   have hbs:∀ L:List AObj,L[m + 12]? =some (.blk gr ((c.body.map (z8d x.pred x.into)).map z2b) true true 0)→bsV (D++L) (.agg [.sl [] .nil, .sl [] .nil, .sl [] .nil, .str [], .sl [] .nil]) 1 [0] [.agg [.sl (c.vars.map z1k) .no, .ob (B + (m + 12)) gr 0 c.body.length, .sl (c.guard.map eNode) .no, .str c.head.pred, .sl (c.head.args.map z0k) .no]]=some (.sl [z0g (mC x c)] .full,D++L.set (m + 12) (.blk gr ((c.body.map (z8d x.pred x.into)).map z2b) true true c.body.length)):=fun L hL=>by
    have:=y8t (v:=c.vars.map z1k) (w:=c.guard.map eNode) (t:= .no) (u:= .no) (p:=c.head.pred) (q:=c.head.args.map z0k) (r:= .no) hB hL
    rw[z6] at this
    exact this
   simp only[go_sem,H15,x2w,r2,r4,r8,r9,r14,r52,r53,r54,hB,hbs,hG2]
   rw[ha _ _ _ rfl rfl]
   simp only[go_sem,r2,r4,r8,r9,r52,r53,r54,hB,f2]
   exact hnx _ ⟨_,_,_,_,_,_,r2,r4,r8,r9,r52,r53,rfl,rfl, .inr (.inr ⟨_,rfl,rfl⟩)⟩
 ·clear h2 h4 h8 h9 h52 h53 h54
  rintro f1 ts h clk P ⟨t,a8,a9,a10,a11,G,q2,q4,q8,q9,q52,q53,q54,rfl,ht⟩ he hr
  dsimp only at q2 q4 q8 q9 q52 q53 q54
  rw[u4]
  simp only[go_sem,k0d,q53,q54,f1]
  exact he _ _ (hQ _ t _ _ (by simp[z0b,q4]) (by simp[z0b,q9]))
theorem v7q {s:Sys} {x:Tf} (hs:SysV s) (hcs:∀ c∈s.clauses,CmpC c) (hx:TfS x):Pure Gam 22 [z2i s,eTf x] (.tup [z2i (z5i s x).1, .int .i64 (z5i s x).2]):=by
 have p37:=y8o hs hcs hx
 have hpl:=hs.pl
 have hcl:=hs.len
 have p38:=y7x (ps:=s.preds) (u:= .no) (by omega) fun f hf=>by have:=(hs.pr.args f hf).1;omega
 simp only[z2i,eTf] at p37
 refine Pure.of rfl g5i rfl rfl rfl (az:=[z2i s,eTf x]) rfl (by simp[idsL,z3n,j0n hx.ok]) fun D B clk T hB hT=> ?_
 by_cases h0:(z5i s x).2=0
 ·have hu:x2v x=true:=by
   cases hu:x2v x with
   | true=>rfl
   | false=>rw[q4v hu] at h0;cases h0
  have hn:MOk s x:=Classical.byContradiction fun hn=>by rw[q2r hu hn] at h0;cases h0
  unfold u1n at p37
  rw[if_pos h0] at p37
  rw[h0] at p37
  rw[q6j hu hn] at hT
  simp only[go_sem,u8e,hB,z2i,eTf,z0a p37,decide_true,z7,z0a p38,z6]
  refine j3n (s:=s) (x:=x) (v6:= .sl ((kpI s x.pred s.clauses.length).map nat) .no) hB (by omega) (by simp[z0b]) (by simp[z0b]) (by simp[z0b]) (by simp[z0b]) (by simp[z0b]) (by simp[z0b]) (by simp[z0b]) (by simp[z0b]) (by simp[z0b]) fun ts2 tp a5 a6 a7 clk2 r2 r4 r6 r8 r9=> ?_
  simp only[go_sem,r2,r4,r6,r8,r9,z6]
  refine x7m (s:=s) (x:=x) (kp:=kpI s x.pred s.clauses.length) (G:=[]) hB (by omega) (w9 k5z (by omega)) (fun i hi=>y8m hi) hcs (by simp[z0b,r2]) (by simp[z0b,r4]) (by simp[z0b,r8]) (by simp[z0b,r9]) (by simp[z0b]) (by simp[z0b]) (by simp[z0b]) fun ts3 t R clk3 q4 q9=> ?_
  rw[j7f (Nat.le_refl _),u4]
  simp only[go_sem,H15,hB,q4,q9,z0m,z0l,z0f]
  rw[z0h rfl (by simp[z1j,AV.cv,cvL,AV.ids,idsL,z0c z5g,z0c z5w])]
  exact hT _
 ·have hn:(z5i s x).1=k0g:=by
   cases hu:x2v x with
   | false=>rw[q4v hu]
   | true=>
     by_cases hn:MOk s x
     ·rw[q6j hu hn] at h0;exact absurd rfl h0
     ·rw[q2r hu hn]
  rw[hn] at hT
  simp only[go_sem,u8e,hB,z2i,eTf,z0a p37,decide_eq_false h0,j5,z0m,z0l,z0f]
  rw[z0h rfl (by simp[z1j,AV.cv,cvL,AV.ids,idsL])]
  exact hT _
def g1w (x y:App):Prop:=y=x∨(x.pred=[80]∧y=⟨[78],x.args⟩)
def u1o (xs ys:List App):Prop:=ys.length=xs.length∧∀ y∈ys,∃ x∈xs,g1w x y
def H10 (a0 a1 a2 a3 a4 a5 a6 a7 a8 a9 a10 a11 ch:AObj) (R:List AObj):List AObj:=a0::a1::a2::a3::a4::a5::a6::a7::a8::a9::a10::a11::ch::R
theorem k0j {l:List Int} {B g i g5 clk:Nat} {D R:List AObj} {c:Clause} {a0 a1 a2 a3 a4 a6 a7 a8 a9 a10 a11:AObj} {v2 v4 v7 v8:AV} {ts:Tmps} {ks:List Kf} {Q:Post} (hl:q4y l) (hB:D.length=B) (hi:i≤l.length) (hb:c.body.length≤1000) (h2:ts 2=v2) (h3:ts 3= .ptr (B + 12) g 0 0) (h4:ts 4=v4) (h5:ts 5= .str [80]) (h7:ts 7=v7) (h8:ts 8=v8) (h9:ts 9= .ptr (B + 5) g5 0 0) (h10:ts 10= .sl [] .nil) (h11:ts 11= .int .i64 0)
  (hQ:∀ (b:List App) (t:Tip) (ts':Tmps) (a6 a7 a8:AObj) (i' clk':Nat),u1o c.body b→i'≤l.length→ts' 2=v2→ts' 3= .ptr (B + 12) g 0 0→ts' 4=v4→ts' 5= .str [80]→ts' 7=v7→ts' 8=v8→ts' 9= .ptr (B + 5) g5 0 0→ts' 10= .sl (b.map z2b) t→K Gam B (.exit 2) ks ⟨ts',D++H10 a0 a1 a2 a3 a4 (.blk g5 [z0g c] false false 0) a6 a7 a8 a9 a10 a11 (z3d g l i') R,clk'⟩ Q):
  K Gam B (.loop j3k) ks ⟨ts,D++H10 a0 a1 a2 a3 a4 (.blk g5 [z0g c] false false 0) a6 a7 a8 a9 a10 a11 (z3d g l i) R,clk⟩ Q:=by
 refine z3t c.body.length (by omega) (fun j q=>∃ (b:List App) (t:Tip) (a6 a7 a8:AObj) (i:Nat),u1o (c.body.take j) b∧i≤l.length∧q.ts 2=v2∧q.ts 3= .ptr (B + 12) g 0 0∧q.ts 4=v4∧q.ts 5= .str [80]∧q.ts 7=v7∧q.ts 8=v8∧q.ts 9= .ptr (B + 5) g5 0 0∧q.ts 10= .sl (b.map z2b) t∧q.ts 11= .int .i64 (j:Int)∧q.h=D++H10 a0 a1 a2 a3 a4 (.blk g5 [z0g c] false false 0) a6 a7 a8 a9 a10 a11 (z3d g l i) R∧z8x B 8 a8 t 2) ⟨[], .nil,_,_,_,_,⟨by simp,by simp⟩,hi,h2,h3,h4,h5,h7,h8,h9,h10,h11,rfl, .inl rfl⟩ ?_ ?_
 ·clear h2 h3 h4 h5 h7 h8 h9 h10 h11 hi
  rintro j hlt f1 f2 ts h clk P ⟨b,t,a6,a7,a8,i,⟨hbl,hb2⟩,hi,q2,q3,q4,q5,q7,q8,q9,q10,q11,rfl,ht⟩ hnx he hr
  dsimp only at q2 q3 q4 q5 q7 q8 q9 q10 q11
  have hix:=fun h=>x7i (l:=c.body) (i:=j) (h:=h) (t:= .no) (k:= .i64) hlt
  have htake:=w8 hlt
  have hblen:b.length≤1000:=by rw[hbl,b6];omega
  have hnew:∀ y,g1w c.body[j] y→u1o (c.body.take (j + 1)) (b++[y]):=fun y hy=>by
   refine⟨by rw[y5,hbl,htake,y5];rfl,fun z hz=> ?_⟩
   rw[j6,u7] at hz
   rw[htake]
   rcases hz with hz | rfl
   ·obtain⟨x,hx,hxz⟩:=hb2 z hz
    exact⟨x,List.mem_append_left _ hx,hxz⟩
   ·exact⟨_,List.mem_append_right _ List.mem_cons_self,hy⟩
  generalize c.body[j]=x at *
  cases hp:decide (x.pred=[80]) with
  | false=>
    simp only[go_sem,j3k,H10,z0g,z0k,q2,q3,q4,q5,q7,q8,q9,q10,q11,hB,f1,z6,hix,hp]
    rw[show [AV.agg [.str x.pred, .sl (x.args.map z0k) .no]]=[x].map z2b from rfl,z0q hB rfl ht z4z z4z (by simp only[z6,w0];omega),←v5]
    simp only[go_sem,hB,q2,q3,q4,q5,q7,q8,q9,q10,q11,f2]
    exact hnx _ ⟨b++[x],_,_,_,_,i,hnew _ (.inl rfl),hi,q2,q3,q4,q5,q7,q8,q9,rfl,rfl,rfl, .inr (.inr ⟨_,rfl,rfl⟩)⟩
  | true=>
    have hp':=of_decide_eq_true hp
    simp only[go_sem,j3k,H10,z0g,z0k,q2,q3,q4,q5,q7,q8,q9,q10,q11,hB,f1,z6,hix,hp]
    refine z4m (k:=12) (z3u hl (by decide) (by decide)) hB rfl hi ?_
    clear hi
    rintro v i ⟨r,rfl,hr1,hr2⟩ hi
    cases hz:decide (r=0) with
    | false=>
      simp only[go_sem,hB,q2,q3,q4,q5,q7,q8,q9,q10,q11,hz]
      rw[show [AV.agg [.str x.pred, .sl (x.args.map z0k) .no]]=[x].map z2b from rfl,z0q hB rfl ht z4z z4z (by simp only[z6,w0];omega),←v5]
      simp only[go_sem,hB,q2,q3,q4,q5,q7,q8,q9,q10,q11,f2]
      exact hnx _ ⟨b++[x],_,_,_,_,i,hnew _ (.inl rfl),hi,q2,q3,q4,q5,q7,q8,q9,rfl,rfl,rfl, .inr (.inr ⟨_,rfl,rfl⟩)⟩
    | true=>
      simp only[go_sem,hB,q2,q3,q4,q5,q7,q8,q9,q10,q11,hz]
      rw[show [AV.agg [.str [78], .sl (x.args.map z0k) .no]]=[(⟨[78],x.args⟩:App)].map z2b from rfl,z0q hB rfl ht z4z z4z (by simp only[z6,w0];omega),←v5]
      simp only[go_sem,hB,q2,q3,q4,q5,q7,q8,q9,q10,q11,f2]
      exact hnx _ ⟨b++[⟨[78],x.args⟩],_,_,_,_,i,hnew _ (.inr ⟨hp',rfl⟩),hi,q2,q3,q4,q5,q7,q8,q9,rfl,rfl,rfl, .inr (.inr ⟨_,rfl,rfl⟩)⟩
 ·clear h2 h3 h4 h5 h7 h8 h9 h10 h11 hi
  rintro f1 ts h clk P ⟨b,t,a6,a7,a8,i,hb2,hi,q2,q3,q4,q5,q7,q8,q9,q10,q11,rfl,ht⟩ he hr
  dsimp only at q2 q3 q4 q5 q7 q8 q9 q10 q11
  rw[u4] at hb2
  simp only[go_sem,j3k,H10,z0g,z0k,q2,q3,q4,q5,q7,q8,q9,q10,q11,hB,f1,z6]
  exact he _ _ (hQ b t _ _ _ _ i _ hb2 hi (by simp[z0b,q2]) (by simp[z0b,q3]) (by simp[z0b,q4]) (by simp[z0b,q5]) (by simp[z0b,q7]) (by simp[z0b,q8]) (by simp[z0b,q9]) (by simp[z0b,q10]))
section
variable {D L:List AObj} {B k gc n j:Nat} {es:List AV} {c:Clause}
theorem y8u (hB:D.length=B) (hL:L[k]? =some (.blk gc es true true 0)) (he:es[j]? =some (z0g c)) (hj:j < n):z1m (D++L) 5 (.ob (B + k) gc 0 n) (.int .i64 (j:Int))=some (.ptr (B + k) gc j 0,D++L):=by
 have hb:z1u (D++L) (B + k) gc=some (es,true,true,0):=by rw[z2k hB];exact z2g hL
 simp[z1m,hb,he,hj,z0g,AV.cells]
theorem v1w {b:List App} {t:Tip} (hB:D.length=B) (hL:L[k]? =some (.blk gc es true true 0)) (he:es[j]? =some (z0g c)):z5q (D++L) 1 (.sl (b.map z2b) t) (.ptr (B + k) gc j 1)=some (.undef,D++L.set k (.blk gc (es.set j (z0g ⟨c.vars,b,c.guard,c.head⟩)) true true 0)):=by
 have hb:z1u (D++L) (B + k) gc=some (es,true,true,0):=by rw[z2k hB];exact z2g hL
 have hp:pub (D++L) (.sl (b.map z2b) t)=some (.sl (b.map z2b) .no,D++L):=rfl
 rw[z6w,hb]
 simp only[he,if_true,hp]
 simp[AV.def?,AV.cells,j4r,z8f,z7t,z0g,AV.obs,z3x,z2a hB]
end
def w7b (c a:Clause):Prop:=a.vars=c.vars∧a.guard=c.guard∧a.head=c.head∧u1o c.body a.body
def k6b (c a:Clause):Prop:=c.head.pred=[80]∧a=⟨c.vars,c.body,c.guard,⟨[78],c.head.args⟩⟩
theorem x7n {l:List Int} {B g i g1 gc clk:Nat} {D R:List AObj} {cs:List Clause} {a0 a2 a3 a4 a5 a6 a7 a8 a9 a10 a11 r0 r1 r2:AObj} {pv v2:AV} {ts:Tmps} {ks:List Kf} {Q:Post} (hl:q4y l) (hB:D.length=B) (hi:i≤l.length) (hcs:cs.length≤8) (hb:∀ c∈cs,c.body.length≤1000) (h2:ts 2=v2) (h3:ts 3= .ptr (B + 12) g 0 0) (h4:ts 4= .ptr (B + 1) g1 0 0) (h5:ts 5= .str [80]) (h7:ts 7= .sl [] .nil) (h8:ts 8= .int .i64 0)
  (hQ:∀ (acc more:List Clause) (t:Tip) (ts':Tmps) (a5 a6 a7 a8 a9 a10:AObj) (i' clk':Nat),acc.length=cs.length→more.length≤8→(∀ a∈acc,∃ c∈cs,w7b c a)→(∀ a∈more,∃ c∈cs,k6b c a)→ts' 2=v2→ts' 4= .ptr (B + 1) g1 0 0→ts' 7= .sl (more.map z0g) t→K Gam B (.exit 0) ks ⟨ts',D++H10 a0 (.blk g1 [.agg [pv, .ob (B + 16) gc 0 cs.length]] false false 0) a2 a3 a4 a5 a6 a7 a8 a9 a10 a11 (z3d g l i') (r0::r1::r2:: .blk gc (acc.map z0g) true true 0::R),clk'⟩ Q):
  K Gam B (.loop k0c) ks ⟨ts,D++H10 a0 (.blk g1 [.agg [pv, .ob (B + 16) gc 0 cs.length]] false false 0) a2 a3 a4 a5 a6 a7 a8 a9 a10 a11 (z3d g l i) (r0::r1::r2:: .blk gc (cs.map z0g) true true 0::R),clk⟩ Q:=by
 refine z3t cs.length (by omega) (fun j q=>∃ (acc more:List Clause) (t:Tip) (a5 a6 a7 a8 a9 a10:AObj) (i:Nat),acc.length=j∧more.length≤j∧(∀ a∈acc,∃ c∈cs,w7b c a)∧(∀ a∈more,∃ c∈cs,k6b c a)∧i≤l.length∧q.ts 2=v2∧q.ts 3= .ptr (B + 12) g 0 0∧q.ts 4= .ptr (B + 1) g1 0 0∧q.ts 5= .str [80]∧q.ts 7= .sl (more.map z0g) t∧q.ts 8= .int .i64 (j:Int)∧q.h=D++H10 a0 (.blk g1 [.agg [pv, .ob (B + 16) gc 0 cs.length]] false false 0) a2 a3 a4 a5 a6 a7 a8 a9 a10 a11 (z3d g l i) (r0::r1::r2:: .blk gc ((acc++cs.drop j).map z0g) true true 0::R)∧z8x B 10 a10 t 5) ⟨[],[], .nil,_,_,_,_,_,_,_,rfl,by simp,by simp,by simp,hi,h2,h3,h4,h5,h7,h8,rfl, .inl rfl⟩ ?_ ?_
 ·clear h2 h3 h4 h5 h7 h8 hi
  rintro j hlt f1 f2 ts h clk P ⟨acc,more,t,a5,a6,a7,a8,a9,a10,i,hal,hml,hacc,hmore,hi,q2,q3,q4,q5,q7,q8,rfl,ht⟩ hnx he hr
  dsimp only at q2 q3 q4 q5 q7 q8
  have hdr:cs.drop j=cs[j]::cs.drop (j + 1):=p9 hlt
  have hmem:=j9 hlt
  have hbl:=hb _ hmem
  have hes:((acc++cs.drop j).map z0g)[j]? =some (z0g cs[j]):=by
   rw[hdr,l6,m0 (by omega),hal,d8]
   rfl
  have hset:∀ a,((acc++cs.drop j).map z0g).set j (z0g a)=((acc++[a])++cs.drop (j + 1)).map z0g:=fun a=>by
   rw[hdr,←List.map_set,List.set_append_right _ _ (by omega),hal,d8,List.set_cons_zero,n0]
   rfl
  generalize hE:(acc++cs.drop j).map z0g=es at *
  generalize cs[j]=c at *
  have hidx:∀ L:List AObj,L[16]? =some (.blk gc es true true 0)→z1m (D++L) 5 (.ob (B + 16) gc 0 cs.length) (.int .i64 (j:Int))=some (.ptr (B + 16) gc j 0,D++L):=fun L h=>y8u hB h hes hlt
  have hst:∀ (L:List AObj) (b:List App) (t:Tip),L[16]? =some (.blk gc es true true 0)→z5q (D++L) 1 (.sl (b.map z2b) t) (.ptr (B + 16) gc j 1)=some (.undef,D++L.set 16 (.blk gc (((acc++[(⟨c.vars,b,c.guard,c.head⟩:Clause)])++cs.drop (j + 1)).map z0g) true true 0)):=fun L b t h=>by rw[←hset];exact v1w hB h hes
  have hes':=hes
  rw[z0g,z0k] at hes'
  simp only[go_sem,k0c,H10,q2,q3,q4,q5,q7,q8,hB,f1,hidx,hes',n9]
  refine k0j (l:=l) (c:=c) (g5:=_) (v2:=v2) (v4:= .ptr (B + 1) g1 0 0) (v7:= .sl (more.map z0g) t) (v8:= .int .i64 (j:Int)) hl hB hi hbl (by simp[z0b,q2]) (by simp[z0b,q3]) (by simp[z0b,q4]) (by simp[z0b,q5]) (by simp[z0b,q7]) (by simp[z0b,q8]) (by simp[z0b]) (by simp[z0b]) (by simp[z0b]) fun b tb ts2 a6 a7 a8 i2 clk2 hren hi2 r2 r3 r4 r5 r7 r8 r9 r10=> ?_
  have hren':w7b c ⟨c.vars,b,c.guard,c.head⟩:=⟨rfl,rfl,rfl,hren⟩
  have hacc':∀ a∈acc++[(⟨c.vars,b,c.guard,c.head⟩:Clause)],∃ c∈cs,w7b c a:=fun a ha=>by
   rw[j6,u7] at ha
   rcases ha with ha | rfl
   ·exact hacc a ha
   ·exact⟨c,hmem,hren'⟩
  have hal':(acc++[(⟨c.vars,b,c.guard,c.head⟩:Clause)]).length=j + 1:=by rw[y5,hal];rfl
  cases hp:decide (c.head.pred=[80]) with
  | false=>
    simp only[go_sem,H10,z0g,z0k,hB,r2,r3,r4,r5,r7,r8,r9,r10,hidx,hst,hp,f2]
    exact hnx _ ⟨_,more,t,_,_,_,_,_,_,_,hal',by omega,hacc',hmore,hi2,r2,r3,r4,r5,r7,rfl,rfl,ht⟩
  | true=>
    have hp':=of_decide_eq_true hp
    simp only[go_sem,H10,z0g,z0k,hB,r2,r3,r4,r5,r7,r8,r9,r10,hidx,hst,hp]
    refine z4m (k:=12) (z3u hl (by decide) (by decide)) hB rfl hi2 ?_
    clear hi hi2
    rintro v i ⟨r,rfl,hr1,hr2⟩ hi
    cases hz:decide (0 < r) with
    | false=>
      simp only[go_sem,hB,r2,r3,r4,r5,r7,r8,hz,f2]
      exact hnx _ ⟨_,more,t,_,_,_,_,_,_,_,hal',by omega,hacc',hmore,hi,r2,r3,r4,r5,r7,rfl,rfl,ht⟩
    | true=>
      have hcopy:k6b c ⟨c.vars,c.body,c.guard,⟨[78],c.head.args⟩⟩:=⟨hp',rfl⟩
      simp only[go_sem,hB,r2,r3,r4,r5,r7,r8,r9,hz]
      rw[show [AV.agg [.sl (c.vars.map z1k) .no, .sl (c.body.map z2b) .no, .sl (c.guard.map eNode) .no, .str [78], .sl (c.head.args.map z0k) .no]]=[(⟨c.vars,c.body,c.guard,⟨[78],c.head.args⟩⟩:Clause)].map z0g from rfl,z0q hB rfl ht z4b z4b (by simp only[z6,w0];omega),←v5]
      simp only[go_sem,hB,r2,r3,r4,r5,r7,r8,f2]
      refine hnx _ ⟨_,more++[⟨c.vars,c.body,c.guard,⟨[78],c.head.args⟩⟩],_,_,_,_,_,_,_,_,hal',by rw[y5];simp;omega,hacc',fun a ha=> ?_,hi,r2,r3,r4,r5,rfl,rfl,rfl, .inr (.inr ⟨_,rfl,rfl⟩)⟩
      rw[j6,u7] at ha
      rcases ha with ha | rfl
      ·exact hmore a ha
      ·exact⟨c,hmem,hcopy⟩
 ·clear h2 h3 h4 h5 h7 h8 hi
  rintro f1 ts h clk P ⟨acc,more,t,a5,a6,a7,a8,a9,a10,i,hal,hml,hacc,hmore,hi,q2,q3,q4,q5,q7,q8,rfl,ht⟩ he hr
  dsimp only at q2 q3 q4 q5 q7 q8
  rw[List.drop_length,u5]
  simp only[go_sem,k0c,H10,q2,q3,q4,q5,q7,q8,hB,f1]
  exact he _ _ (hQ acc more t _ _ _ _ _ _ _ i _ hal (by omega) hacc hmore (by simp[z0b,q2]) (by simp[z0b,q4]) (by simp[z0b,q7]))
section
theorem AppOk.sub {ps qs:List Func} {V:List Var} {a:App} (h:AppOk ps V a) (hs:∀ f∈ps,f∈qs):AppOk qs V a:=by
 obtain⟨f,hf,h1⟩:=h
 exact⟨f,hs f hf,h1⟩
theorem k0k {n:Nat} {f:Func} (hf:f∈z2d.take n) (h:f.name=[80]):f.args=[2]:=by
 have:=m9 hf
 simp only[z2d,y3,s7,or_false] at this
 rcases this with rfl | rfl | rfl | rfl | rfl <;> simp_all
theorem AppOk.new {n:Nat} {qs:List Func} {V:List Var} {a:App} (h:AppOk (z2d.take n) V a) (hp:a.pred=[80]) (hq:z6r∈qs):AppOk qs V ⟨[78],a.args⟩:=by
 obtain⟨f,hf,h1,h2,h3⟩:=h
 have hfa:=k0k hf (by rw[←h1,hp])
 refine⟨z6r,hq,rfl, ?_, ?_⟩
 ·rw[hfa] at h2
  exact h2
 ·rw[hfa] at h3
  exact h3
section
variable {n:Nat} {qs:List Func} {c a:Clause}
theorem ClauseOk.ren (h:ClauseOk (z2d.take n) c) (hs:∀ f∈z2d.take n,f∈qs) (hq:z6r∈qs) (hr:w7b c a):ClauseOk qs a:=by
 obtain⟨h1,h2,h3,h4,h5⟩:=h
 obtain⟨e1,e2,e3,hl,hm⟩:=hr
 refine⟨by rw[e1];exact h1,by rw[hl];exact h2,fun b hb=> ?_,by rw[e1,e2];exact h4, ?_⟩
 ·obtain⟨x,hx,rfl | ⟨hp,rfl⟩⟩:=hm b hb
  ·rw[e1];exact (h3 _ hx).sub hs
  ·rw[e1];exact (h3 _ hx).new hp hq
 ·rw[e1,e3]
  exact h5.imp id fun h=>h.sub hs
theorem ClauseOk.copy (h:ClauseOk (z2d.take n) c) (hs:∀ f∈z2d.take n,f∈qs) (hq:z6r∈qs) (hr:k6b c a):ClauseOk qs a:=by
 obtain⟨h1,h2,h3,h4,h5⟩:=h
 obtain⟨hp,rfl⟩:=hr
 refine⟨h1,h2,fun b hb=>(h3 b hb).sub hs,h4, .inr ?_⟩
 rcases h5 with ⟨h5,_⟩ | h5
 ·rw[h5] at hp;cases hp
 ·exact h5.new hp hq
end
theorem g1x {s:Sys} {acc more:List Clause} (hs:SysOk s) (ha:acc.length=s.clauses.length) (hm:more.length≤8) (h1:∀ a∈acc,∃ c∈s.clauses,w7b c a) (h2:∀ a∈more,∃ c∈s.clauses,k6b c a):SysV ⟨s.preds++[z6r],acc++more⟩:=by
 obtain⟨⟨n,_,_,hp⟩,hl,hc⟩:=hs
 have hsub:∀ f∈z2d.take n,f∈s.preds++[z6r]:=fun f hf=>by rw[hp];exact List.mem_append_left _ hf
 have hq:z6r∈s.preds++[z6r]:=by simp
 refine⟨?_,by simp only[y5];omega,fun c hcm=> ?_⟩
 ·show (s.preds++[z6r]).Sublist (z2d++[z6r])
  rw[hp]
  exact (s6 _ _).append (List.Sublist.refl _)
 ·rw[hp] at hc
  rcases j6.1 hcm with h | h
  ·obtain⟨d,hd,hr⟩:=h1 c h
   exact (hc d hd).ren hsub hq hr
  ·obtain⟨d,hd,hr⟩:=h2 c h
   exact (hc d hd).copy hsub hq hr
theorem v1x {H:List AObj} {p q:AV} {ps cs:List AV} (h1:z4o H p=some ps) (h2:z4o H q=some cs) (hp:(∃ xs t,p= .sl xs t)∨∃ a b c d,p= .ob a b c d) (hq:(∃ xs t,q= .sl xs t)∨∃ a b c d,q= .ob a b c d):conv H (.agg [p,q])=some (.agg [.sl ps .no, .sl cs .no]):=by
 have key:∀ v xs,z4o H v=some xs→((∃ ys t,v= .sl ys t)∨∃ a b c d,v= .ob a b c d)→conv H v=some (.sl xs .no):=by
  rintro v xs h (⟨ys,t,rfl⟩ | ⟨a,b,c,d,rfl⟩)
  ·simp only[z4o,Option.some.injEq] at h
   subst h
   rfl
  ·simp only[z4o] at h
   simp only[conv,h,k6]
 simp only[conv,z8k,key p ps h1 hp,key q cs h2 hq,k6]
end
section
def RowAt (B:Nat) (ss:List Nat) (L:List AObj) (v:AV) (xs:List AV):Prop:=(∃ t,v= .sl xs t)∨∃ k∈ss,∃ g n es w fz,v= .ob (B + k) g 0 n∧L[k]? =some (.blk g es true w fz)∧n≤es.length∧es.take n=xs
theorem RowAt.mono {B:Nat} {ss:List Nat} {L L':List AObj} {v:AV} {xs:List AV} (h:RowAt B ss L v xs) (hl:∀ k∈ss,L'[k]? =L[k]?):RowAt B ss L' v xs:=by
 rcases h with h | ⟨k,hk,g,n,es,w,fz,h1,h2,h3⟩
 ·exact .inl h
 ·exact .inr ⟨k,hk,g,n,es,w,fz,h1,by rw[hl k hk];exact h2,h3⟩
theorem RowAt.src {B:Nat} {D L:List AObj} {ss:List Nat} {v:AV} {xs:List AV} (hB:D.length=B) (h:RowAt B ss L v xs):z4o (D++L) v=some xs:=by
 rcases h with ⟨t,rfl⟩ | ⟨k,_,g,n,es,w,fz,rfl,h2,h3,rfl⟩
 ·rfl
 ·have hb:z1u (D++L) (B + k) g=some (es,true,w,fz):=by rw[z2k hB];exact z2g h2
  simp[z4o,q0t,hb,h3]
theorem RowAt.shape {B:Nat} {L:List AObj} {ss:List Nat} {v:AV} {xs:List AV} (h:RowAt B ss L v xs):(∃ xs t,v= .sl xs t)∨∃ a b c d,v= .ob a b c d:=by
 rcases h with ⟨t,rfl⟩ | ⟨k,_,g,n,es,w,fz,rfl,_⟩
 ·exact .inl ⟨_,_,rfl⟩
 ·exact .inr ⟨_,_,_,_,rfl⟩
theorem q2s {v:AV} (h:(∃ xs t,v= .sl xs t)∨∃ a b c d,v= .ob a b c d):v.def? =true∧v.cells=[v]∧v.one=true:=by
 rcases h with ⟨_,_,rfl⟩ | ⟨_,_,_,_,rfl⟩ <;> exact⟨rfl,rfl,rfl⟩
section
variable {D L:List AObj} {B gen d g clk:Nat} {os:List AOper} {ts:Tmps} {ks:List Kf} {Q:Post}
theorem w6b {gp np fz:Nat} {es:List AV} {v:AV} (hB:D.length=B) (h4:4 < L.length) (h22:L[22]? =some (.blk gp es true false fz)) (hes:es.length=5) (hn:np≤5) (hf:fz≤np) (hx:z0n 3 es=true) (hv:z0n 3 [v]=true)
  (hQ:∀ pv a4 pr,RowAt B [4,22] ((L.set 4 a4).set 22 pr) pv (es.take np++[v])→O Gam B .plain (g + 1) os ⟨upd ts d pv,D++(L.set 4 a4).set 22 pr,clk⟩ ks Q):PP Gam B (z0r (D++L) (B + 4) gen 3 48 false (.ob (B + 22) gp 0 np) (.sl [v] .full)) (some d) g os ts clk ks Q:=by
 have hb:z1u (D++L) (B + 22) gp=some (es,true,false,fz):=by rw[z2k hB];exact z2g h22
 have h22':22 < L.length:=by
  rw[k7] at h22
  exact h22.1
 have hgt:¬ 70368744177664 < (np + 1) * 49:=by omega
 by_cases h5:np + 1≤5
 ·have e:z0r (D++L) (B + 4) gen 3 48 false (.ob (B + 22) gp 0 np) (.sl [v] .full)=some (.ob (B + 22) gp 0 (np + 1),D++L.set 22 (.blk gp (es.take np++[v]++es.drop (np + 1)) true false fz)):=by
   simp[z0r,z4o,hv,hb,hx,z1e,hgt,hes,hf,h5,z2a hB]
  have e4:L.set 4 (L[4]'h4)=L:=List.set_getElem_self h4
  rw[e,q4l]
  have:=hQ (.ob (B + 22) gp 0 (np + 1)) (L[4]'h4) (.blk gp (es.take np++[v]++es.drop (np + 1)) true false fz)
  rw[e4] at this
  refine this (.inr ⟨22,by simp,gp,np + 1,_,false,fz,rfl,s8 h22', ?_, ?_⟩)
  ·simp;omega
  ·rw[List.take_append_of_le_length (by simp;omega),b7 (by simp;omega)]
 ·obtain rfl:np=5:=by omega
  have ht:es.take 5=es:=b7 (by omega)
  have e:z0r (D++L) (B + 4) gen 3 48 false (.ob (B + 22) gp 0 5) (.sl [v] .full)=some (.ob (B + 4) gen 0 6,D++L.set 4 (.blk gen (es.take 5++[v]) true true 0)):=by
   simp[z0r,z4o,hv,hb,hx,z1e,hes,z2a hB]
  have e22:(L.set 4 (.blk gen (es.take 5++[v]) true true 0)).set 22 (.blk gp es true false fz)=L.set 4 (.blk gen (es.take 5++[v]) true true 0):=by
   refine List.ext_getElem? fun j=> ?_
   by_cases hj:j=22
   ·subst hj
    rw[s8 (by rw[List.length_set];exact h22'),l7 (by decide),h22]
   ·rw[l7 (fun e=>hj e.symm)]
  rw[e,q4l]
  have:=hQ (.ob (B + 4) gen 0 6) (.blk gen (es.take 5++[v]) true true 0) (.blk gp es true false fz)
  rw[e22] at this
  refine this (.inr ⟨4,by simp,gen,6,_,true,0,rfl,s8 h4, ?_, ?_⟩)
  ·simp[hes]
  ·rw[b7 (by simp[hes])]
theorem x4u {cv:AV} {acc more:List Clause} {t:Tip} {gc:Nat} (hB:D.length=B) (h11:11 < L.length) (h16:16 < L.length) (hc:(cv= .sl [] .nil∧acc=[]∧more=[])∨(cv= .ob (B + 16) gc 0 acc.length∧acc≠[]∧L[16]? =some (.blk gc (acc.map z0g) true true 0))) (hal:acc.length≤1000) (hml:more.length≤1000)
  (hQ:∀ cv' a11 rc,RowAt B [11,16] ((L.set 16 rc).set 11 a11) cv' ((acc++more).map z0g)→O Gam B .plain (g + 1) os ⟨upd ts d cv',D++(L.set 16 rc).set 11 a11,clk⟩ ks Q):PP Gam B (z0r (D++L) (B + 11) gen 5 112 false cv (.sl (more.map z0g) t)) (some d) g os ts clk ks Q:=by
 have e16:L.set 16 (L[16]'h16)=L:=List.set_getElem_self h16
 have e11:L.set 11 (L[11]'h11)=L:=List.set_getElem_self h11
 have hy:z0n 5 (more.map z0g)=true:=z4b
 have hx:z0n 5 (acc.map z0g)=true:=z4b
 rcases hc with ⟨rfl,rfl,rfl⟩ | ⟨rfl,hne,hr⟩
 ·have e:z0r (D++L) (B + 11) gen 5 112 false (.sl [] .nil) (.sl ([].map z0g) t)=some (.sl [] (.at (B + 11) gen),D++L.set 11 (.tip gen 5)):=by
   simp[z0r,z4o,z1e,z0n,z2a hB]
  rw[e,q4l]
  have:=hQ (.sl [] (.at (B + 11) gen)) (.tip gen 5) (L[16]'h16)
  rw[e16] at this
  exact this (.inl ⟨_,rfl⟩)
 ·have hb:z1u (D++L) (B + 16) gc=some (acc.map z0g,true,true,0):=by rw[z2k hB];exact z2g hr
  have hgt:¬ 70368744177664 < (acc.length + more.length) * 113:=by omega
  have hpos:0 < acc.length:=List.length_pos_iff.2 hne
  have ht:List.take acc.length (acc.map z0g)=acc.map z0g:=b7 (by simp)
  by_cases hm:more=[]
  ·subst hm
   have e:z0r (D++L) (B + 11) gen 5 112 false (.ob (B + 16) gc 0 acc.length) (.sl ([].map z0g) t)=some (.ob (B + 16) gc 0 acc.length,D++L):=by
    have hgt':¬ 70368744177664 < acc.length * 113:=by omega
    simp[z0r,z4o,z1e,z0n,hb,hx,hgt']
   rw[e,q4l]
   have:=hQ (.ob (B + 16) gc 0 acc.length) (L[11]'h11) (L[16]'h16)
   rw[e16,e11] at this
   exact this (.inr ⟨16,by simp,gc,acc.length,_,true,0,rfl,hr,by simp,by rw[u5];exact ht⟩)
  ·have he:(more.map z0g).isEmpty=false:=by cases more with
    | nil=>exact absurd rfl hm
    | cons a l=>rfl
   have e:z0r (D++L) (B + 11) gen 5 112 false (.ob (B + 16) gc 0 acc.length) (.sl (more.map z0g) t)=some (.ob (B + 11) gen 0 (acc.length + more.length),D++(L.set 16 .dead).set 11 (.blk gen ((acc++more).map z0g) true true 0)):=by
    simp[z0r,z4o,z1e,hb,hx,hy,hgt,he,hm,hpos,ht,z2a hB]
   rw[e,q4l]
   refine hQ _ _ _ (.inr ⟨11,by simp,gen,acc.length + more.length,_,true,0,rfl,s8 (by rw[List.length_set];exact h11), ?_, ?_⟩)
   ·simp
   ·rw[b7 (by simp)]
end
end
theorem g5t {zs:List Int} {u:Tip} {h:List AObj} {clk:Nat} {Q:AV→List AObj→Nat→Prop} (hz:∀ z∈zs, -9223372036854775808≤z∧z≤9223372036854775807) (hQ:∀ s,SysV s→Q (z2i s) h clk):WC Gam 19 [.sl (q3k zs) u] h clk Q:=by
 have hl:q4y (zs.take 400):=⟨by simp;omega,fun z h=>hz z (m9 h)⟩
 have hN:=v7a hl
 refine x0l rfl g5h rfl rfl rfl (az:=[.sl (q3k zs) .no]) rfl (by simp[idsL,AV.ids,q3d]) fun D B T hB hT=> ?_
 have fin:∀ (p q:AV) (s:Sys) (L:List AObj),SysV s→z4o (D++L) p=some (s.preds.map z1f)→z4o (D++L) q=some (s.clauses.map z0g)→((∃ xs t,p= .sl xs t)∨∃ a b c d,p= .ob a b c d)→((∃ xs t,q= .sl xs t)∨∃ a b c d,q= .ob a b c d)→RV [] (some [.agg [p,q]]) (fun v h'=>T v h') (D++L):=fun p q s L hs h1 h2 h3 h4=>
  ⟨_,v1x h1 h2 h3 h4,z3n s,by simp[x3v],hT _ _ (hQ s hs)⟩
 simp only[go_sem,g1r,hB]
 refine j5e fun g c=> ?_
 have e0:∀ x0 x1 x2 x3 x4 x5 x6 x7 x8 x9 x10 x11:AObj,(D++[x0,x1,x2,x3,x4,x5,x6,x7,x8,x9,x10,x11]).length=B + 12:=fun _ _ _ _ _ _ _ _ _ _ _ _=>by simp[hB]
 have e1:∀ x0 x1 x2 x3 x4 x5 x6 x7 x8 x9 x10 x11 o:AObj,(D++[x0,x1,x2,x3,x4,x5,x6,x7,x8,x9,x10,x11])++[o]=D++[x0,x1,x2,x3,x4,x5,x6,x7,x8,x9,x10,x11,o]:=fun _ _ _ _ _ _ _ _ _ _ _ _ _=>by simp
 rw[e0,e1]
 simp only[go_sem,hB]
 refine z4i (u8p hz hN fun s hs cv o0 o1 o2 o o4 p0 p1 p2 p3 gp fz c2 hcl hfz=> ?_)
 clear hN
 have e2:∀ x0 x1 x2 x3 x4 x5 x6 x7 x8 x9 x10 x11 x12:AObj,(D++[x0,x1,x2,x3,x4,x5,x6,x7,x8,x9,x10,x11,x12]).length=B + 13:=fun _ _ _ _ _ _ _ _ _ _ _ _ _=>by simp[hB]
 have e3:∀ (x0 x1 x2 x3 x4 x5 x6 x7 x8 x9 x10 x11 x12:AObj) (L:List AObj),(D++[x0,x1,x2,x3,x4,x5,x6,x7,x8,x9,x10,x11,x12])++L=D++(x0::x1::x2::x3::x4::x5::x6::x7::x8::x9::x10::x11::x12::L):=fun _ _ _ _ _ _ _ _ _ _ _ _ _ _=>by simp
 rw[e2] at hcl
 rw[e2,e3,show B + 13 + 9=B + 22 from rfl]
 generalize zs.take 400=l at hl
 obtain⟨⟨n,hn2,hn5,hp⟩,hsl,hsc⟩:=id hs
 have hpl:s.preds.length=n:=by rw[hp,b6];show min n 5=n;omega
 have hcv:cv.def? =true∧cv.cells=[cv]∧cv.one=true:=by
  rcases hcl with ⟨rfl,_⟩ | ⟨g',rfl,_⟩ <;> exact⟨rfl,rfl,rfl⟩
 have hcs:(∃ xs t,cv= .sl xs t)∨∃ a b c d,cv= .ob a b c d:=by
  rcases hcl with ⟨rfl,_⟩ | ⟨g',rfl,_⟩
  ·exact .inl ⟨_,_,rfl⟩
  ·exact .inr ⟨_,_,_,_,rfl⟩
 have hst:∀ (k g:Nat) (pv w:AV) (L:List AObj),((∃ xs t,pv= .sl xs t)∨∃ a b c d,pv= .ob a b c d)→((∃ xs t,w= .sl xs t)∨∃ a b c d,w= .ob a b c d)→L[k]? =some (.blk g [.agg [.sl [] .nil, .sl [] .nil]] false false 0)→z5q (D++L) 2 (.agg [pv,w]) (.ptr (B + k) g 0 0)=some (.undef,D++L.set k (.blk g [.agg [pv,w]] false false 0)):=fun k g pv w L h1 h2 hL=>by
  have hb:z1u (D++L) (B + k) g=some ([.agg [.sl [] .nil, .sl [] .nil]],false,false,0):=by rw[z2k hB];exact z2g hL
  rw[q6u (sz:=2) (v:= .agg [pv,w]) hb rfl rfl (by simp[AV.cells,(q2s h1).2.2,(q2s h2).2.2]) (by simp[AV.cells]),z2a hB]
  rfl
 obtain⟨es,hes⟩:∃ es,es=z2d.map z1f:=⟨_,rfl⟩
 have hes0:es[0]? =some (.agg [.str [80], .sl [.int .i64 2] .no, .int .i64 1]):=by rw[hes];rfl
 have hes5:es.length=5:=by rw[hes];rfl
 have hesc:z0n 3 es=true:=by rw[hes];exact z7n
 have hest:es.take n=s.preds.map z1f:=by rw[hes,hp,List.map_take]
 rw[←hes]
 have hpi:∀ L:List AObj,L[22]? =some (.blk gp es true false fz)→z1m (D++L) 3 (.ob (B + 22) gp 0 s.preds.length) (.int .i64 0)=some (.ptr (B + 22) gp 0 0,D++L):=fun L hL=>by
  have hb:z1u (D++L) (B + 22) gp=some (es,true,false,fz):=by rw[z2k hB];exact z2g hL
  have h0:0 < s.preds.length:=by omega
  simp[z1m,hb,hes0,AV.cells,h0]
 have hs0:=hst 1 (c2 + 1) (.ob (B + 22) gp 0 s.preds.length) cv
 simp only[go_sem,hB,hst 1 _ _ _ _ (.inr ⟨_,_,_,_,rfl⟩) hcs,hpi,hes0,n9]
 refine z4m (k:=12) (z3u hl (by decide) (by decide)) hB rfl (m7 _) ?_
 rintro v i ⟨r,rfl,hr1,hr2⟩ hi
 cases hz0:decide (r=0) with
 | true=>
   simp only[go_sem,hB,hz0,hst 0 _ _ _ _ (.inr ⟨_,_,_,_,rfl⟩) hcs,z0m,z0l,z0f]
   refine fin _ _ s _ hs.v ?_ ?_ (.inr ⟨_,_,_,_,rfl⟩) hcs
   ·exact RowAt.src hB (.inr ⟨22,u7.2 rfl,gp,s.preds.length,es,false,fz,rfl,rfl,by omega,by rw[hpl];exact hest⟩)
   ·rcases hcl with ⟨rfl,h0⟩ | ⟨gc,rfl,rfl,_⟩
    ·rw[h0];rfl
    ·exact RowAt.src hB (.inr ⟨16,u7.2 rfl,gc,s.clauses.length,_,true,0,rfl,rfl,by simp,b7 (by simp)⟩)
 | false=>
   simp only[go_sem,hB,hz0,hpi,hes0,n9]
   refine w6b hB (by simp) rfl hes5 (by omega) hfz hesc rfl fun pv a4 pr hpr=> ?_
   have hps:=hpr.shape
   have hpe:es.take s.preds.length++[AV.agg [.str [78], .sl [.int .i64 2] .no, .int .i64 1]]=(s.preds++[z6r]).map z1f:=by
    rw[hpl,hest,v5]
    rfl
   rw[hpe] at hpr
   obtain⟨u1,u2,u3⟩:=q2s hps
   simp only[go_sem,hB,u1,u2,u3]
   have tail:∀ (acc more:List Clause) (cv':AV) (L L':List AObj),SysV ⟨s.preds++[z6r],acc++more⟩→RowAt B [4,22] L pv ((s.preds++[z6r]).map z1f)→(∀ k∈[4,22],L'[k]? =L[k]?)→RowAt B [11,16] L' cv' ((acc++more).map z0g)→RV [] (some [.agg [pv,cv']]) (fun v h'=>T v h') (D++L'):=fun acc more cv' L L' hsv h1 h2 h3=>
    fin pv cv' ⟨s.preds++[z6r],acc++more⟩ L' hsv (RowAt.src hB (h1.mono h2)) (RowAt.src hB h3) hps h3.shape
   rcases hcl with ⟨rfl,h0⟩ | ⟨gc,rfl,rfl,hne⟩
   ·refine z2r ?_
    simp only[go_sem,k0c,hB,d5,z9,Int.lt_irrefl,decide_false]
    refine x4u (acc:=[]) (more:=[]) (gc:=0) hB ?_ ?_ (.inl ⟨rfl,rfl,rfl⟩) (m7 _) (m7 _) fun cv' a11 rc hcr=> ?_
    ·simp
    ·simp
    obtain⟨w1,w2,w3⟩:=q2s hcr.shape
    simp only[go_sem,hB,u1,u2,u3,w1,w2,w3,hst 0 _ _ _ _ hps hcr.shape,z0m,z0l,z0f]
    refine tail [] [] cv' _ _ (g1x hs (by rw[h0]) (by simp) (by simp) (by simp)) hpr ?_ (hcr.mono ?_)
    ·intro k hk
     simp only[y3,s7,or_false] at hk
     rcases hk with rfl | rfl <;> rfl
    ·intro k hk
     simp only[y3,s7,or_false] at hk
     rcases hk with rfl | rfl <;> rfl
   ·refine x7n (l:=l) (cs:=s.clauses) (g:=_) (gc:=gc) (pv:=pv) (v2:= .ptr (B + 0) clk 0 0) hl hB hi hsl (fun c hc=>by have:=(hsc c hc).2.1;omega) (by simp[z0b]) (by simp[z0b]) (by simp[z0b]) (by simp[z0b]) (by simp[z0b]) (by simp[z0b]) fun acc more t ts' a5 a6 a7 a8 a9 a10 i' clk' hal hml hacc hmore q2 q4 q7=> ?_
    have hane:acc≠[]:=fun e=>hne (List.length_eq_zero_iff.1 (by rw[←hal,e];rfl))
    simp only[go_sem,H10,hB,q2,q4,q7]
    refine x4u (gc:=gc) hB (by simp) (by simp) (.inr ⟨by rw[hal],hane,rfl⟩) (by omega) (by omega) fun cv' a11 rc hcr=> ?_
    obtain⟨w1,w2,w3⟩:=q2s hcr.shape
    simp only[go_sem,hB,q2,q4,u1,u2,u3,w1,w2,w3,hst 0 _ _ _ _ hps hcr.shape,z0m,z0l,z0f]
    refine tail acc more cv' _ _ (g1x hs hal hml hacc hmore) hpr ?_ (hcr.mono ?_)
    ·intro k hk
     simp only[y3,s7,or_false] at hk
     rcases hk with rfl | rfl <;> rfl
    ·intro k hk
     simp only[y3,s7,or_false] at hk
     rcases hk with rfl | rfl <;> rfl
section
open Sh
set_option maxHeartbeats 0
def q62:AFun:=(fun (a:AFun) (_:Gam.fn 97=some a)=>a) _ (by conv=>lhs;reduce;simp only[z4,z5])
def v1y:ACode:=(fun (a:ACode) (_:fl [] (lp q62 0)=a)=>a) _ (by conv=>lhs;reduce;simp only[z4,z5])
attribute [local irreducible] v1y
def g1y:AFun:=(fun (a:AFun) (_:flF [v1y] q62=a)=>a) _ (by conv=>lhs;reduce;simp only[z4,z5])
theorem g5u:Gam.fn 97=some g1y:=by kernel_rfl
def x7o:ACode:=(.seq (.seq (.region 9 [M 26 9,A 27 2 0,L 28 27,M 29 7,N 30 (.indexAddr none 3 (.tmp 28) (.tmp 29)),A 31 30 1,L 32 31,N 33 (.len .sl (.tmp 32)),N 34 (.binOp .lss (.one .int) (.tmp 26) (.tmp 33))] []) (.cond (.tmp 34) .skip (.exit 2))) (.seq (.block 3 (.region 25 [A 37 8 1,L 38 37,N 39 (.buildSlice 4 false (.str []) 12 [(0,(.const (.str [117]))),(1,(.const (.str [118]))),(2,(.const (.str [121,48]))),(3,(.const (.str [121,49]))),(4,(.const (.str [107]))),(5,(.const (.str [109]))),(6,(.const (.str [110]))),(7,(.const (.str [111]))),(8,(.const (.str [114]))),(9,(.const (.str [115]))),(10,(.const (.str [116]))),(11,(.const (.str [104])))]),M 40 9,N 41 (.binOp .rem (.one .int) (.tmp 40) (I 12)),N 42 (.indexAddr none 1 (.tmp 39) (.tmp 41)),L 43 42,M 44 9,N 45 (.binOp .quo (.one .int) (.tmp 44) (I 12)),N 46 (.call 41 [.tmp 45]),N 47 (.binOp .add (.one .str) (.tmp 43) (.tmp 46)),A 48 2 0,L 49 48,M 50 7,N 51 (.indexAddr none 3 (.tmp 49) (.tmp 50)),A 52 51 1,L 53 52,M 54 9,N 55 (.indexAddr none 1 (.tmp 53) (.tmp 54)),L 56 55,N 57 (.build [(.str []),(.int .i64 0)] [(0,1,(.tmp 47)),(1,1,(.tmp 56))]),N 58 (.buildSlice 5 false (.agg [(.str []),(.int .i64 0)]) 1 [(0,(.tmp 57))]),N 59 (.append 6 2 24 false (.tmp 38) (.tmp 58)),A 60 8 1,S 1 60 59] [(1,2),(1,9),(2,9),(5,9),(6,9),(2,12),(9,12),(2,14),(9,14),(2,16),(9,16),(2,18),(9,18),(2,19),(9,19),(1,21)])) (.region 3 [M 35 9,N 36 (.binOp .add (.one .int) (.tmp 35) (I 1)),M 9 36] [])))
def j3o:ACode:=(.seq (.seq (.region 5 [M 12 7,A 13 2 0,L 14 13,N 15 (.len .sl (.tmp 14)),N 16 (.binOp .lss (.one .int) (.tmp 12) (.tmp 15))] []) (.cond (.tmp 16) .skip (.exit 0))) (.seq (.block 1 (.seq (.region 9 [A 19 2 0,L 20 19,M 21 7,N 22 (.indexAddr none 3 (.tmp 20) (.tmp 21)),A 23 22 0,L 24 23,N 25 (.build [(.str []),(.sl [] .nil),(.sl [] .nil)] [(0,1,(.tmp 24))]),N 8 (.alloc 3 (.agg [(.str []),(.sl [] .nil),(.sl [] .nil)])),S 3 8 25] []) (.seq (.seq (.region 1 [N 9 (.move (I 0))] []) (.block 2 (.loop x7o))) (.seq (.region 6 [M 61 5,A 62 8 1,L 63 62,N 64 (.call 42 [(.tmp 61),(I 2),(.tmp 63)]),A 65 8 2,S 1 65 64] []) (.seq (.seq (.region 3 [M 66 5,N 67 (.call 25 [(.tmp 66),(I 4)]),N 68 (.binOp .eql (.one .int) (.tmp 67) (I 0))] []) (.cond (.tmp 68) (.region 6 [M 69 5,N 70 (.call 25 [(.tmp 69),(I 3)]),N 71 (.binOp .gtr (.one .int) (.tmp 70) (I 0)),N 72 (.call 43 [.tmp 71]),A 73 8 2,S 1 73 72] []) .skip)) (.region 7 [A 74 6 0,L 75 74,N 76 (.load (some 3) (.tmp 8)),N 77 (.buildSlice 7 false (.agg [(.str []),(.sl [] .nil),(.sl [] .nil)]) 1 [(0,(.tmp 76))]),N 78 (.append 8 3 64 false (.tmp 75) (.tmp 77)),A 79 6 0,S 1 79 78] [])))))) (.region 3 [M 17 7,N 18 (.binOp .add (.one .int) (.tmp 17) (I 1)),M 7 18] [])))
def v7r:AFun:=
 {ntmps:=81,nslots:=9,results:=[.cell 4 (some 1)],byref:=[],owned:=false,
  body:=(.seq (.region 2 [N 2 (.box 0 (.tmp 0)),N 4 (.alloc 1 (.agg [(.sl [] .nil)]))] []) (.seq (.region 3 [M 10 1,N 11 (.call 15 [.tmp 10]),M 5 11] []) (.seq (.region 1 [N 6 (.alloc 2 (.agg [(.sl [] .nil)]))] []) (.seq (.seq (.region 1 [N 7 (.move (I 0))] []) (.block 0 (.loop j3o))) (.seq (.region 2 [N 80 (.load (some 1) (.tmp 6)),S 1 4 80] []) .ret)))))}
theorem y8v:Gam.fn 13=some v7r:=by kernel_rfl
def v7s:AFun:=(fun (a:AFun) (_:Gam.fn 41=some a)=>a) _ (by conv=>lhs;reduce;simp only[z4,z5])
theorem y8w:Gam.fn 41=some v7s:=by kernel_rfl
def w6c:AFun:=(fun (a:AFun) (_:Gam.fn 44=some a)=>a) _ (by conv=>lhs;reduce;simp only[z4,z5])
def x1x:ACode:=(fun (a:ACode) (_:fl [] (lp w6c 1)=a)=>a) _ (by conv=>lhs;reduce;simp only[z4,z5])
attribute [local irreducible] x1x
def x7p:ACode:=(fun (a:ACode) (_:fl [x1x] (lp w6c 0)=a)=>a) _ (by conv=>lhs;reduce;simp only[z4,z5])
attribute [local irreducible] x7p
def k6c:AFun:=(fun (a:AFun) (_:flF [x7p,x1x] w6c=a)=>a) _ (by conv=>lhs;reduce;simp only[z4,z5])
theorem y8x:Gam.fn 44=some k6c:=by kernel_rfl
def w6d:AFun:=(fun (a:AFun) (_:Gam.fn 50=some a)=>a) _ (by conv=>lhs;reduce;simp only[z4,z5])
def x1y:ACode:=(fun (a:ACode) (_:fl [] (lp w6d 1)=a)=>a) _ (by conv=>lhs;reduce;simp only[z4,z5])
attribute [local irreducible] x1y
def x1z:ACode:=(fun (a:ACode) (_:fl [x1y] (lp w6d 0)=a)=>a) _ (by conv=>lhs;reduce;simp only[z4,z5])
attribute [local irreducible] x1z
def k6d:AFun:=(fun (a:AFun) (_:flF [x1z,x1y] w6d=a)=>a) _ (by conv=>lhs;reduce;simp only[z4,z5])
theorem y8y:Gam.fn 50=some k6d:=by kernel_rfl
def v7t:AFun:=(fun (a:AFun) (_:Gam.fn 64=some a)=>a) _ (by conv=>lhs;reduce;simp only[z4,z5])
theorem y8z:Gam.fn 64=some v7t:=by kernel_rfl
def v7u:AFun:=(fun (a:AFun) (_:Gam.fn 98=some a)=>a) _ (by conv=>lhs;reduce;simp only[z4,z5])
theorem y9a:Gam.fn 98=some v7u:=by kernel_rfl
def y9b:AFun:=(fun (a:AFun) (_:Gam.fn 104=some a)=>a) _ (by conv=>lhs;reduce;simp only[z4,z5])
def x7q:ACode:=(fun (a:ACode) (_:fl [] (lp y9b 0)=a)=>a) _ (by conv=>lhs;reduce;simp only[z4,z5])
attribute [local irreducible] x7q
def v7v:AFun:=(fun (a:AFun) (_:flF [x7q] y9b=a)=>a) _ (by conv=>lhs;reduce;simp only[z4,z5])
theorem y9c:Gam.fn 104=some v7v:=by kernel_rfl
def y9d:AFun:=(fun (a:AFun) (_:Gam.fn 156=some a)=>a) _ (by conv=>lhs;reduce;simp only[z4,z5])
def x7r:ACode:=(fun (a:ACode) (_:fl [] (lp y9d 0)=a)=>a) _ (by conv=>lhs;reduce;simp only[z4,z5])
attribute [local irreducible] x7r
def v7w:AFun:=(fun (a:AFun) (_:flF [x7r] y9d=a)=>a) _ (by conv=>lhs;reduce;simp only[z4,z5])
theorem y9e:Gam.fn 156=some v7w:=by kernel_rfl
def v7x:AFun:=(fun (a:AFun) (_:Gam.fn 161=some a)=>a) _ (by conv=>lhs;reduce;simp only[z4,z5])
theorem y9f:Gam.fn 161=some v7x:=by kernel_rfl
def v7y:AFun:=(fun (a:AFun) (_:Gam.fn 162=some a)=>a) _ (by conv=>lhs;reduce;simp only[z4,z5])
theorem y9g:Gam.fn 162=some v7y:=by kernel_rfl
def v7z:AFun:=(fun (a:AFun) (_:Gam.fn 225=some a)=>a) _ (by conv=>lhs;reduce;simp only[z4,z5])
theorem y9h:Gam.fn 225=some v7z:=by kernel_rfl
def j3p:ACode:=(.seq (.region 1 [N 9 (.binOp .lss (.one .int) (.tmp 8) (.tmp 7))] []) (.seq (.cond (.tmp 9) .skip (.exit 0)) (.seq (.block 1 (.seq (.region 2 [M 10 8,M 5 10] []) (.seq (.region 6 [N 11 (.load (some 2) (.tmp 3)),M 12 0,M 13 5,N 14 (.indexAddr none 2 (.tmp 12) (.tmp 13)),N 15 (.load (some 2) (.tmp 14)),N 16 (.binOp .eql (.agg [.str, .int]) (.tmp 11) (.tmp 15))] []) (.cond (.tmp 16) (.seq (.region 2 [M 17 5,M 4 17] []) .ret) .skip)))) (.region 2 [N 18 (.binOp .add (.one .int) (.tmp 8) (I 1)),M 8 18] []))))
def v8a:AFun:=
 {ntmps:=19,nslots:=1,results:=[.tmp 4],byref:=[],owned:=false,
  body:=(.seq (.region 2 [N 3 (.box 0 (.tmp 1)),N 4 (.move (I 0))] []) (.seq (.seq (.region 3 [M 6 0,N 7 (.len .sl (.tmp 6)),N 8 (.move (I 0))] []) (.block 0 (.loop j3p))) (.seq (.region 1 [N 4 (.move (I (-1)))] []) .ret)))}
theorem y9i:Gam.fn 228=some v8a:=by kernel_rfl
end
structure Def where
 pred:List Nat
 params:List Var
 body:Term
def z5l (d:Def):AV:= .agg [.str d.pred, .sl (d.params.map z1k) .no, .sl (d.body.map eNode) .no]
def z9v (m:List Def):AV:= .agg [.sl (m.map z5l) .no]
theorem z6e (d:Def):(z5l d).ids=[]:=by simp[z5l,AV.ids,idsL,z0c z2l,z0c z1v]
theorem q4w (m:List Def):(z9v m).ids=[]:=by simp[z9v,AV.ids,idsL,z0c z6e]
theorem z6z {l:List Def}:z0n 3 (l.map z5l)=true:=z2m fun _=>⟨rfl,rfl,rfl⟩
theorem q7h {l:List Def} {i:Nat} {h:List AObj} {t:Tip} {k:IntKind} (hi:i < l.length):z1m h 3 (.sl (l.map z5l) t) (.int k (i:Int))=some (.iptr [.str l[i].pred, .sl (l[i].params.map z1k) .no, .sl (l[i].body.map eNode) .no] 0,h):=z3a hi rfl rfl
structure DefS (d:Def):Prop where
 params:d.params.length≤20000
 body:d.body.length≤20000
theorem j7g {d:Def} {u v:Tip} (hd:DefS d):Pure Gam 64 [.agg [.str d.pred, .sl (d.params.map z1k) u, .sl (d.body.map eNode) v]] (z5l d):=by
 have h1:=hd.params
 have h2:=hd.body
 refine Pure.of rfl y8z rfl rfl rfl (az:=[z5l d]) rfl (by simp[idsL,z6e]) fun D B clk T hB hT=> ?_
 simp only[go_sem,v7t,hB,z5l,z1a,z0a (v7e (xs:=d.params) (t:= .no) (by omega)),z0a (k5i (xs:=d.body) (t:= .no) (by omega)),z0m,z0l,z0f]
 refine⟨by simp[z1b,apart,z0j,z0z,z1d,AOp.isCall,hB], ?_⟩
 rw[z2n rfl (by simp[AV.cv,cvL,AV.ids,idsL,z0c z2l,z0c z1v])]
 exact hT _
theorem v1z {n:Nat} (h1:1≤n) (h2:n≤4):Pure Gam 225 [.int .i64 (n:Int)] (.bool true):=by
 refine Pure.of rfl y9h rfl rfl rfl rfl rfl fun D B clk T hB hT=> ?_
 have e1:decide ((1:Int)≤(n:Int))=true:=by rw[z04];omega
 have e2:decide ((n:Int)≤4)=true:=by rw[z04];omega
 simp only[go_sem,v7z,e1,e2]
 rw[z0d]
 exact hT _
theorem v2a {V:List Var} {u:Tip} (hV:UOk V) (hnd:(V.map (·.name)).Nodup) (hl:V.length≤1000):Pure Gam 156 [.sl (V.map z1k) u] (.bool true):=by
 refine Pure.of rfl y9e rfl rfl rfl (az:=[.sl (V.map z1k) .no]) rfl (by simp[idsL,AV.ids,z0c z2l]) fun D B clk T hB hT=> ?_
 simp only[go_sem,v7w,hB,z6]
 refine z3t V.length (by omega) (fun i q=>∃ (g:Nat) (o:AObj),q.ts 3= .mp (B + 0) g∧q.ts 7= .sl (V.map z1k) .no∧q.ts 8= .int .i64 (V.length:Int)∧q.ts 9= .int .i64 (i:Int)∧q.h=D++[.map g (z4w ((V.take i).map (·.name))),o]) ⟨_,_,rfl,rfl,rfl,rfl,rfl⟩ ?_ ?_
 ·rintro i hlt f1 f2 ts h clk P ⟨g,o,q3,q7,q8,q9,rfl⟩ hnx he hr
  dsimp only at q3 q7 q8 q9
  have hv:=j9 hlt
  have hix:∀ h,z1m h 2 (.sl (V.map z1k) .no) (.int .i64 (i:Int))=some (.iptr [.str V[i].name, .int .i64 (V[i].sort:Int)] 0,h):=fun h=>z3a hlt rfl rfl
  have htake:V.take (i + 1)=V.take i++[V[i]]:=w8 hlt
  have hnew:V[i].name∉(V.take i).map (·.name):=by
   have h3:((V.take (i + 1)).map (·.name)).Nodup:=hnd.sublist ((s6 _ _).map _)
   rw[htake,v5,List.nodup_append] at h3
   exact fun hc=>h3.2.2 _ hc _ (by simp) rfl
  have hsort:=hV.sort _ hv
  haveI:=hV
  have p1:=j2x (U:=V) hv
  have p2:=v1z hsort.1 hsort.2
  have hnm:z4w ((V.take (i + 1)).map (·.name))=z4w ((V.take i).map (·.name)++[V[i].name]):=by rw[htake,v5];rfl
  generalize V[i]=v at *
  have hmu:∀ L:List AObj,z5k L 0 g=some (z4w ((V.take i).map (·.name)))→muV (D++L) (.one .str) (.str v.name) (.bool true) (.mp (B + 0) g)=some (.undef,D++L.set 0 (.map g (z4w ((V.take (i + 1)).map (·.name))))):=fun L hL=>by
   rw[hnm]
   exact x4l (v:= .bool true) hB hL rfl (q3i hnew)
  simp only[go_sem,x7r,q3,q7,q8,q9,f1,hB,hix,z6o,k5e,hnew,q1k,z0a p1,z7,z0a p2,hmu,f2]
  exact hnx _ ⟨g,_,q3,q7,q8,rfl,rfl⟩
 ·rintro f1 ts h clk P ⟨g,o,q3,q7,q8,q9,rfl⟩ he hr
  dsimp only at q3 q7 q8 q9
  simp only[go_sem,x7r,q3,q7,q8,q9,f1]
  refine he _ _ ?_
  simp only[go_sem,]
  rw[z0d]
  exact hT _
theorem v8b {h:List AObj} {v w:Var}:z7i h .eql (.agg [.str, .int]) (.agg [.str v.name, .int .i64 (v.sort:Int)]) (.agg [.str w.name, .int .i64 (w.sort:Int)])=some (.bool (decide (v=w)),h):=by
 obtain⟨a,x⟩:=v
 obtain⟨b,y⟩:=w
 by_cases h1:a=b <;> by_cases h2:x=y <;> simp[z7i,z4p,AV.eqv,eqL,AV.eq1,h1,h2] <;> omega
theorem v2b {V:List Var} {v:Var} {u:Tip} (hl:V.length≤2 ^ 20) (hv:v∈V):∃ r:Nat,Pure Gam 228 [.sl (V.map z1k) u,z1k v] (.int .i64 (r:Int)):=by
 obtain⟨r,hr0,hat,hne⟩:∃ r,∃ h:r < V.length,V[r]=v∧∀ i (h:i < V.length),i < r→V[i]≠v:=by
  have hr0:V.findIdx (fun w=>decide (w=v)) < V.length:=List.findIdx_lt_length_of_exists ⟨v,hv,by simp⟩
  refine⟨_,hr0, ?_,fun i h hi=> ?_⟩
  ·have:=List.findIdx_getElem (w:=hr0)
   simpa using this
  ·have:=List.not_of_lt_findIdx hi
   simpa using this
 refine⟨r,Pure.of rfl y9i rfl rfl rfl (az:=[.sl (V.map z1k) .no,z1k v]) rfl (by simp[idsL,AV.ids,z0c z2l,z2l]) fun D B clk T hB hT=> ?_⟩
 simp only[go_sem,v8a,hB,z1k,nat,z6]
 refine z3t V.length (by omega) (fun i q=>∃ g:Nat,i≤r∧q.ts 0= .sl (V.map z1k) .no∧q.ts 3= .ptr (B + 0) g 0 0∧q.ts 7= .int .i64 (V.length:Int)∧q.ts 8= .int .i64 (i:Int)∧q.h=D++[.blk g [.agg [.str v.name, .int .i64 (v.sort:Int)]] false false 0]) ⟨_,by omega,rfl,rfl,rfl,rfl,rfl⟩ ?_ ?_
 ·rintro i hlt f1 f2 ts h clk P ⟨g,hi,q0,q3,q7,q8,rfl⟩ hnx he hr
  dsimp only at q0 q3 q7 q8
  have hix:∀ h,z1m h 2 (.sl (V.map z1k) .no) (.int .i64 (i:Int))=some (.iptr [.str V[i].name, .int .i64 (V[i].sort:Int)] 0,h):=fun h=>z3a hlt rfl rfl
  by_cases hir:i=r
  ·subst hir
   rw[hat] at hix
   simp only[go_sem,j3p,q0,q3,q7,q8,hB,f1,hix,v8b,decide_true]
   refine hr _ ?_
   simp only[go_sem,]
   rw[z2o]
   exact hT _
  ·have hn:=hne i hlt (by omega)
   have e2:decide (v=V[i])=false:=by rw[z03];exact fun e=>hn e.symm
   generalize V[i]=w at hix e2
   simp only[go_sem,j3p,q0,q3,q7,q8,hB,f1,f2,hix,v8b,e2]
   exact hnx _ ⟨g,by omega,q0,q3,q7,rfl,rfl⟩
 ·rintro f1 ts h clk P ⟨g,hi,_⟩ he hr
  omega
theorem v2c {V:List Var} {v:Var} {u:Tip} (hl:V.length≤2 ^ 20) (hv:v∈V):Pure Gam 162 [.sl (V.map z1k) u,z1k v] (.bool true):=by
 obtain⟨r,hp⟩:=v2b (u:= .no) hl hv
 rw[z1k,nat] at hp
 refine Pure.of rfl y9g rfl rfl rfl (az:=[.sl (V.map z1k) .no,z1k v]) rfl (by simp[idsL,AV.ids,z0c z2l,z2l]) fun D B clk T hB hT=> ?_
 have e1:decide ((0:Int)≤(r:Int))=true:=by rw[z04];omega
 simp only[go_sem,v7y,hB,z1k,nat,z0a hp,e1]
 rw[z0d]
 exact hT _
structure DefOk (d:Def):Prop where
 u:UOk d.params
 nd:(d.params.map (·.name)).Nodup
 len:d.params.length≤20
 wf:GT d.params 1 8 2000 d.body
theorem DefOk.s {d:Def} (h:DefOk d):DefS d:=⟨by have:=h.len;omega,by have:=h.wf.2.1;omega⟩
theorem k6e {s g:Nat} {d:Def} {v:Var} (hd:DefOk d) (hv:v∈d.params):Reads [(s, .blk g [z5l d] false false 0)] 161 [z1k v, .ptr s g 0 0] (.bool false):=by
 have p2:=v2c (u:= .no) (by have:=hd.len;omega) hv
 rw[z1k,nat] at p2
 refine Reads.of rfl y9f rfl rfl rfl (az:=[z1k v, .ptr s g 0 0]) rfl (by simpa [idsL,AV.ids,z2l] using Cov.one (s:=s) (o:= .blk g [z5l d] false false 0) (by simp[AObj.ids,idsL,z6e])) fun D B clk T hB hS hlt hT=> ?_
 have h1:=hlt (s, .blk g [z5l d] false false 0) (by simp)
 have b1:=z2g (g:=g) (hS (s, .blk g [z5l d] false false 0) (by simp))
 dsimp only at h1 b1
 rw[z5l] at b1
 simp only[go_sem,v7x,hB,z1k,nat,z2x hB h1,b1,z0a p2,z7]
 rw[z0d]
 exact hT _ hS.app
theorem v2d {d:Def} (hd:DefOk d):Pure Gam 98 [z5l d] (.bool true):=by
 haveI:=hd.u
 have hbl:=hd.wf.2.1
 have hpl:=hd.len
 have p0:=v2a (u:= .no) hd.u hd.nd (by omega)
 have p1:=x6u (U:=d.params) (u:= .no) hd.wf.1 (fun v h=>h) (by omega) (by omega)
 have p2:=j3b (U:=d.params) (u:= .no) hd.wf.1 (fun v h=>h) (by omega) (by omega)
 have p3:=k5c (U:=d.params) (u:= .no) hd.wf.1 (fun v h=>h) (by omega) (by omega)
 rw[nat] at p1
 have hvl:(z3b d.body []).length≤2 ^ 20:=by
  have:=q0p (t:=d.body) (acc:=[])
  simp only[d5] at this
  omega
 have hr:∀ s g,Reads [(s, .blk g [z5l d] false false 0)] 159 [.sl ((z3b d.body []).map z1k) .no, .fn 161 [.ptr s g 0 0]] (.bool ((z3b d.body []).any fun _=>false)):=fun s g=>
  j6f (enc:=z1k) (P:=fun _=>false) (fun _=>rfl) (fun _ _=>rfl) (fun _=>rfl) hvl (by simpa [idsL,AV.ids] using Cov.one (s:=s) (o:= .blk g [z5l d] false false 0) (by simp[AObj.ids,idsL,z6e])) fun v hv=>k6e hd (q0o hd.wf.1.names (acc:=[]) (by simp) v hv)
 have e:((z3b d.body []).any fun _=>false)=false:=by simp
 rw[e] at hr
 refine Pure.of rfl y9a rfl rfl rfl (az:=[z5l d]) rfl (by simp[idsL,z6e]) fun D B clk T hB hT=> ?_
 have hh:∀ g,Has [(B + 0, .blk g [z5l d] false false 0)] (D++[.blk g [.agg [.str d.pred, .sl (d.params.map z1k) .no, .sl (d.body.map eNode) .no]] false false 0]):=fun g=>x6r hB rfl
 simp only[go_sem,v7u,hB,z5l,z0a p0,z0a p1,z0a p2,z0a p3,z7,z9,decide_true,Int.reduceLT,decide_false,d5]
 rw[z1g (hr _ _) (hh _)]
 simp only[go_sem,j5]
 rw[z0d]
 exact hT _
theorem y9j {l:List Nat} {u v:Tip} (hl:l.length≤20000):Pure Gam 97 [.sl (l.map nat) u, .sl (l.map nat) v] (.bool true):=by
 refine Pure.of rfl g5u rfl rfl rfl (az:=[.sl (l.map nat) .no, .sl (l.map nat) .no]) rfl (by simp[idsL,AV.ids,z0c (fun _=>z3j)]) fun D B clk T hB hT=> ?_
 simp only[go_sem,g1y,hB,z6,decide_true,z7]
 refine z3t l.length (by omega) (fun i q=>q.ts 0= .sl (l.map nat) .no∧q.ts 1= .sl (l.map nat) .no∧q.ts 12= .int .i64 (l.length:Int)∧q.ts 13= .int .i64 (i:Int)) ⟨rfl,rfl,rfl,rfl⟩ ?_ ?_
 ·rintro i hlt f1 f2 ts h clk P ⟨q0,q1,q12,q13⟩ hnx he hr
  dsimp only at q0 q1 q12 q13
  simp only[go_sem,v1y,q0,q1,q12,q13,hB,f1,f2,q6w hlt,nat,decide_true,z7]
  exact hnx _ ⟨q0,q1,q12,rfl⟩
 ·rintro f1 ts h clk P ⟨q0,q1,q12,q13⟩ he hr
  dsimp only at q0 q1 q12 q13
  simp only[go_sem,v1y,q0,q1,q12,q13,hB,f1]
  refine he _ _ ?_
  simp only[go_sem,]
  rw[z0d]
  exact hT _
def q1w:List (List Nat):=[[117],[118],[121,48]]
theorem y9k:∀ n∈q1w,z8l q1s [.str n]=some (.bool true):=fun n hn=>by
 simp only[q1w,y3,s7,or_false] at hn
 rcases hn with rfl | rfl | rfl <;> rfl
theorem w6e:∀ n∈q1w,z8l q3m [.str n]=some (.bool true):=fun n hn=>by
 simp only[q1w,y3,s7,or_false] at hn
 rcases hn with rfl | rfl | rfl <;> rfl
def z4e (f:Func):List Var:=List.zipWith (fun n s=>⟨n,s⟩) q1w f.args
theorem j7h:∀ f∈allPreds,UOk (z4e f)∧((z4e f).map (·.name)).Nodup∧(z4e f).length≤3∧(z4e f).map (·.sort)=f.args:=by
 intro f hf
 have key:∀ V:List Var,(∀ v∈V,v.name∈q1w∧1≤v.sort∧v.sort≤4)→(∀ v∈V,∀ w∈V,v.name=w.name→v=w)→UOk V:=fun V h1 h2=>⟨fun v hv=>y9k _ (h1 v hv).1,fun v hv=>w6e _ (h1 v hv).1,fun v hv=>(h1 v hv).2,h2⟩
 simp only[allPreds,y3,s7,or_false] at hf
 rcases hf with rfl | rfl | rfl | rfl | rfl | rfl <;> exact⟨key _ (by decide) (by decide),by decide,by decide,rfl⟩
theorem q9b:∀ f∈allPreds,∀ g∈allPreds,f.name=g.name→f=g:=by decide
theorem v2e:∀ f∈allPreds,z8l q3m [.str f.name]=some (.bool true):=fun f hf=>by
 simp only[allPreds,y3,s7,or_false] at hf
 rcases hf with rfl | rfl | rfl | rfl | rfl | rfl <;> rfl
def DOk (d:Def):Prop:=∃ f∈allPreds,d.pred=f.name∧d.params=z4e f∧GT d.params 1 8 2000 d.body
def g1z (d:Def):Prop:=DOk d∧GT d.params 1 6 396 d.body
theorem DOk.ok {d:Def} (h:DOk d):DefOk d:=by
 obtain⟨f,hf,_,hp,hg⟩:=h
 obtain⟨h1,h2,h3,_⟩:=j7h f hf
 exact⟨by rw[hp];exact h1,by rw[hp];exact h2,by rw[hp];omega,hg⟩
theorem DOk.at {d:Def} {f:Func} (h:DOk d) (hf:f∈allPreds) (he:d.pred=f.name):d.params=z4e f∧d.params.map (·.sort)=f.args:=by
 obtain⟨g,hg,hn,hp,_⟩:=h
 obtain rfl:=q9b g hg f hf (by rw[←hn,he])
 exact⟨hp,by rw[hp];exact (j7h g hg).2.2.2⟩
def DAt (d:Def):Prop:=∃ f∈allPreds,d.pred=f.name∧d.params.map (·.sort)=f.args∧DefOk d
theorem DAt.ok {d:Def} (h:DAt d):DefOk d:=by
 obtain⟨_,_,_,_,h⟩:=h
 exact h
theorem DAt.at {d:Def} {f:Func} (h:DAt d) (hf:f∈allPreds) (he:d.pred=f.name):True∧d.params.map (·.sort)=f.args:=by
 obtain⟨g,hg,hn,hs,_⟩:=h
 obtain rfl:=q9b g hg f hf (by rw[←hn,he])
 exact⟨trivial,hs⟩
theorem DOk.dat {d:Def} (h:DOk d):DAt d:=by
 have h':=h
 obtain⟨f,hf,hn,_⟩:=h'
 exact⟨f,hf,hn,(h.at hf hn).2,h.ok⟩
def z5s (s:Sys) (m:List Def):Bool:=decide (m.map (·.pred)=s.preds.map (·.name))
theorem x4v {s:Sys} {m:List Def} (h:m.length≠s.preds.length):z5s s m=false:=by
 unfold z5s
 rw[z03]
 intro e
 have:=congrArg List.length e
 simp at this
 exact h this
theorem j0u {s:Sys} {m:List Def} {i:Nat} (h1:i < m.length) (h2:i < s.preds.length) (h:m[i].pred≠s.preds[i].name):z5s s m=false:=by
 unfold z5s
 rw[z03]
 intro e
 have:=congrArg (fun l=>l[i]?) e
 simp[h1,h2] at this
 exact h this
theorem j7i {s:Sys} {m:List Def} (hs:SysV s) (hm:∀ d∈m,DOk d) (hl:m.length≤1000):Pure Gam 44 [z2i s,z9v m] (.bool (z5s s m)):=by
 have p31:=k5h hs
 rw[z2i] at p31
 have hpl:=hs.pl
 refine Pure.of rfl y8x rfl rfl rfl (az:=[z2i s,z9v m]) rfl (by simp[idsL,z3n,q4w]) fun D B clk T hB hT=> ?_
 by_cases hlen:m.length=s.preds.length
 ·have e1:decide ((m.length:Int)=(s.preds.length:Int))=true:=by rw[z04];omega
  simp only[go_sem,k6c,hB,z2i,z9v,z0a p31,z7,z6,e1]
  refine z3t m.length (by omega) (fun i q=>∃ (g0 g1:Nat) (o2 o3 o4 o5 o6:AObj),(m.take i).map (·.pred)=(s.preds.take i).map (·.name)∧q.ts 2= .ptr (B + 0) g0 0 0∧q.ts 3= .ptr (B + 1) g1 0 0∧q.ts 24= .sl (m.map z5l) .no∧q.ts 25= .int .i64 (m.length:Int)∧q.ts 26= .int .i64 (i:Int)∧q.h=D++[.blk g0 [.agg [.sl (s.preds.map z1f) .no, .sl (s.clauses.map z0g) .no]] false false 0, .blk g1 [.agg [.sl (m.map z5l) .no]] false false 0,o2,o3,o4,o5,o6]) ⟨_,_,_,_,_,_,_,by simp,rfl,rfl,rfl,rfl,rfl,rfl⟩ ?_ ?_
  ·rintro i hlt f1 f2 ts h clk P ⟨g0,g1,o2,o3,o4,o5,o6,hpre,q2,q3,q24,q25,q26,rfl⟩ hnx he hr
   dsimp only at q2 q3 q24 q25 q26
   have hlt2:i < s.preds.length:=by omega
   have hixd:=fun h=>q7h (l:=m) (i:=i) (h:=h) (t:= .no) (k:= .i64) hlt
   have hixf:=fun h=>z7f (l:=s.preds) (i:=i) (h:=h) (t:= .no) (k:= .i64) hlt2
   have hd:=hm _ (j9 hlt)
   have hf:=hs.preds.mem (j9 hlt2)
   have htk:(m.take (i + 1)).map (·.pred)=(m.take i).map (·.pred)++[m[i].pred]:=by rw[w8 hlt,v5];rfl
   have htk2:(s.preds.take (i + 1)).map (·.name)=(s.preds.take i).map (·.name)++[s.preds[i].name]:=by rw[w8 hlt2,v5];rfl
   have hbad:=j0u (s:=s) (m:=m) hlt hlt2
   have p1037:=v2d hd.ok
   rw[z5l] at p1037
   have hdl:=hd.ok.len
   generalize m[i]=d at *
   generalize s.preds[i]=f at *
   simp only[go_sem,x7p,q2,q3,q24,q25,q26,hB,f1,hixd,hixf,z6]
   refine z3t d.params.length (by omega) (fun k q=>∃ (ga gb:Nat) (t:Tip) (o4 o5 o6:AObj),q.ts 2= .ptr (B + 0) g0 0 0∧q.ts 3= .ptr (B + 1) g1 0 0∧q.ts 6= .ptr (B + 2) ga 0 0∧q.ts 7= .ptr (B + 3) gb 0 0∧q.ts 8= .sl (((d.params.take k).map (·.sort)).map nat) t∧q.ts 24= .sl (m.map z5l) .no∧q.ts 25= .int .i64 (m.length:Int)∧q.ts 26= .int .i64 (i:Int)∧q.ts 37= .sl (d.params.map z1k) .no∧q.ts 38= .int .i64 (d.params.length:Int)∧q.ts 39= .int .i64 (k:Int)∧q.h=D++[.blk g0 [.agg [.sl (s.preds.map z1f) .no, .sl (s.clauses.map z0g) .no]] false false 0, .blk g1 [.agg [.sl (m.map z5l) .no]] false false 0, .blk ga [.agg [.str d.pred, .sl (d.params.map z1k) .no, .sl (d.body.map eNode) .no]] false false 0, .blk gb [.agg [.str f.name, .sl (f.args.map nat) .no, .int .i64 (f.result:Int)]] false false 0,o4,o5,o6]∧z8x B 6 o6 t 1) ⟨_,_, .nil,_,_,_,by simp[z0b,q2],by simp[z0b,q3],rfl,rfl,rfl,by simp[z0b,q24],by simp[z0b,q25],by simp[z0b,q26],rfl,rfl,rfl,rfl, .inl rfl⟩ ?_ ?_
   ·clear q2 q3 q24 q25 q26 f1
    rintro k hkl f1 f2' ts h clk P' ⟨ga,gb,t,o4,o5,o6,q2,q3,q6,q7,q8,q24,q25,q26,q37,q38,q39,rfl,ht⟩ hnx' he' hr'
    dsimp only at q2 q3 q6 q7 q8 q24 q25 q26 q37 q38 q39
    have hix:∀ h,z1m h 2 (.sl (d.params.map z1k) .no) (.int .i64 (k:Int))=some (.iptr [.str d.params[k].name, .int .i64 (d.params[k].sort:Int)] 0,h):=fun h=>z3a hkl rfl rfl
    have e8:((d.params.take k).map (·.sort)).map nat++[d.params[k].sort].map nat=((d.params.take (k + 1)).map (·.sort)).map nat:=by rw[w8 hkl,v5,v5];rfl
    generalize d.params[k]=v at *
    simp only[go_sem,x1x,q2,q3,q6,q7,q8,q24,q25,q26,q37,q38,q39,hB,f1,hix]
    rw[show [AV.int .i64 (v.sort:Int)]=[v.sort].map nat from rfl,z0q hB rfl ht z4k z4k (by simp only[z6,w0,b6];omega),e8]
    simp only[go_sem,q2,q3,q6,q7,q8,q24,q25,q26,q37,q38,q39,hB,f2']
    exact hnx' _ ⟨ga,gb,_,_,_,_,q2,q3,q6,q7,rfl,q24,q25,q26,q37,q38,rfl,rfl, .inr (.inr ⟨_,rfl,rfl⟩)⟩
   ·clear q2 q3 q24 q25 q26 f1
    rintro f1 ts h clk P' ⟨ga,gb,t,o4,o5,o6,q2,q3,q6,q7,q8,q24,q25,q26,q37,q38,q39,rfl,ht⟩ he' hr'
    dsimp only at q2 q3 q6 q7 q8 q24 q25 q26 q37 q38 q39
    rw[u4] at q8
    simp only[go_sem,x1x,q2,q3,q6,q7,q8,q24,q25,q26,q37,q38,q39,hB,f1]
    refine he' _ _ ?_
    by_cases hname:d.pred=f.name
    ·obtain⟨_,hsorts⟩:=hd.at hf hname
     rw[hsorts] at q8
     have p62:=y9j (l:=f.args) (u:=t) (v:= .no) (by have:=hs.pr;have:=congrArg List.length hsorts;simp at this;omega)
     have en:decide (d.pred=f.name)=true:=decide_eq_true hname
     simp only[go_sem,q2,q3,q6,q7,q8,q24,q25,q26,hB,en,z7,z0a p62,z0a p1037,f2]
     exact hnx _ ⟨g0,g1,_,_,_,_,_,by rw[htk,htk2,hpre,hname],q2,q3,q24,q25,rfl,rfl⟩
    ·have en:decide (d.pred=f.name)=false:=decide_eq_false hname
     rw[hbad hname] at hT
     simp only[go_sem,q2,q3,q6,q7,q8,q24,q25,q26,hB,en,j5]
     refine hr _ ?_
     simp only[go_sem,]
     rw[z0d]
     exact hT _
  ·rintro f1 ts h clk P ⟨g0,g1,o2,o3,o4,o5,o6,hpre,q2,q3,q24,q25,q26,rfl⟩ he hr
   dsimp only at q2 q3 q24 q25 q26
   rw[u4,hlen,u4] at hpre
   rw[show z5s s m=true from decide_eq_true hpre] at hT
   simp only[go_sem,x7p,q2,q3,q24,q25,q26,hB,f1]
   refine he _ _ ?_
   simp only[go_sem,]
   rw[z0d]
   exact hT _
 ·have e1:decide ((m.length:Int)=(s.preds.length:Int))=false:=by rw[z03];omega
  rw[x4v hlen] at hT
  simp only[go_sem,k6c,hB,z2i,z9v,z0a p31,z7,j5,z6,e1]
  rw[z0d]
  exact hT _
theorem j7j {n:List Nat} (h:z8l q3m [.str n]=some (.bool true)):Pure Gam 168 [.str n] (.bool true):=Pure.tab (tab:=q3m) rfl rfl h
theorem k6f {V:List Var} {i:Nat} {h:List AObj} (hi:i < V.length):slV h (some 2) (.sl (V.map z1k) .no) none (some (.int .i64 (i:Int))) none=some (.sl ((V.take i).map z1k) .no,h):=by
 rw[x6g (by rw[z6];omega) (by cases V <;> rfl),if_neg (by rw[z6];omega),List.map_take]
theorem v2f {d:Def} (hn:z8l q3m [.str d.pred]=some (.bool true)) (hd:DefOk d):Pure Gam 104 [z5l d] (.bool true):=by
 haveI:=hd.u
 have hbl:=hd.wf.2.1
 have hpl:=hd.len
 have p1:=j7j hn
 have p2:Pure Gam 149 [.sl (d.body.map eNode) .no, .int .i64 1, .sl (d.params.map z1k) .no] (.bool true):=j3i (U:=d.params) (V:=d.params) (s:=1) (d:=8) (fun v h=>h) (by omega) (by omega) (by omega) hd.wf.1 (by omega)
 have e1:decide ((40:Int) < (d.params.length:Int))=false:=by rw[z03];omega
 refine Pure.of rfl y9c rfl rfl rfl (az:=[z5l d]) rfl (by simp[idsL,z6e]) fun D B clk T hB hT=> ?_
 simp only[go_sem,v7v,hB,z5l,z0a p1,z0a p2,z7,z6,e1]
 refine z3t d.params.length (by omega) (fun i q=>∃ g0:Nat,q.ts 1= .ptr (B + 0) g0 0 0∧q.ts 3= .int .i64 (i:Int)∧q.h=D++[.blk g0 [.agg [.str d.pred, .sl (d.params.map z1k) .no, .sl (d.body.map eNode) .no]] false false 0]) ⟨_,rfl,rfl,rfl⟩ ?_ ?_
 ·rintro i hlt f1 f2 ts h clk P ⟨g0,q1,q3,rfl⟩ hnx he hr
  dsimp only at q1 q3
  have hv:=j9 hlt
  have hix:∀ h,z1m h 2 (.sl (d.params.map z1k) .no) (.int .i64 (i:Int))=some (.iptr [.str d.params[i].name, .int .i64 (d.params[i].sort:Int)] 0,h):=fun h=>z3a hlt rfl rfl
  have hno:∀ v∈d.params.take i,v.name≠d.params[i].name:=fun v hv e=>by
   have h3:((d.params.take (i + 1)).map (·.name)).Nodup:=hd.nd.sublist ((s6 _ _).map _)
   rw[w8 hlt,v5,List.nodup_append] at h3
   exact h3.2.2 _ (List.mem_map.2 ⟨v,hv,rfl⟩) _ (by simp) e
  have hs:=hd.u.sort _ hv
  have p3:=j7j (hd.u.name2 _ hv)
  have p4:=j3d hs.1 hs.2
  have p5:=k5p (V:=d.params.take i) (u:= .no) (by rw[b6];omega) hno
  rw[nat] at p4
  have hcut:=fun h=>k6f (V:=d.params) (h:=h) hlt
  generalize d.params[i]=v at *
  simp only[go_sem,x7q,q1,q3,hB,f1,f2,z6,hix,z0a p3,z0a p4,hcut,z0a p5,z7]
  exact hnx _ ⟨g0,q1,rfl,rfl⟩
 ·rintro f1 ts h clk P ⟨g0,q1,q3,rfl⟩ he hr
  dsimp only at q1 q3
  simp only[go_sem,x7q,q1,q3,hB,f1,z6]
  refine he _ _ ?_
  simp only[go_sem,]
  rw[z0d]
  exact hT _
theorem k6g {s:Sys} {m:List Def} (hs:SysV s) (hm:∀ d∈m,DAt d) (hl:m.length≤1000):Pure Gam 50 [z2i s,z9v m] (.bool (z5s s m)):=by
 have p28:=y8e hs
 rw[z2i] at p28
 have hpl:=hs.pl
 refine Pure.of rfl y8y rfl rfl rfl (az:=[z2i s,z9v m]) rfl (by simp[idsL,z3n,q4w]) fun D B clk T hB hT=> ?_
 by_cases hlen:m.length=s.preds.length
 ·have e1:decide ((m.length:Int)=(s.preds.length:Int))=true:=by rw[z04];omega
  simp only[go_sem,k6d,hB,z2i,z9v,z0a p28,z7,z6,e1]
  refine z3t m.length (by omega) (fun i q=>∃ (g0 g1:Nat) (o2:AObj),(m.take i).map (·.pred)=(s.preds.take i).map (·.name)∧q.ts 2= .ptr (B + 0) g0 0 0∧q.ts 3= .ptr (B + 1) g1 0 0∧q.ts 5= .int .i64 (i:Int)∧q.h=D++[.blk g0 [.agg [.sl (s.preds.map z1f) .no, .sl (s.clauses.map z0g) .no]] false false 0, .blk g1 [.agg [.sl (m.map z5l) .no]] false false 0,o2]) ⟨_,_,_,by simp,rfl,rfl,rfl,rfl⟩ ?_ ?_
  ·rintro i hlt f1 f2 ts h clk P ⟨g0,g1,o2,hpre,q2,q3,q5,rfl⟩ hnx he hr
   dsimp only at q2 q3 q5
   have hlt2:i < s.preds.length:=by omega
   have hixd:=fun h=>q7h (l:=m) (i:=i) (h:=h) (t:= .no) (k:= .i64) hlt
   have hixf:=fun h=>z7f (l:=s.preds) (i:=i) (h:=h) (t:= .no) (k:= .i64) hlt2
   have hd:=hm _ (j9 hlt)
   have hf:=hs.preds.mem (j9 hlt2)
   have htk:(m.take (i + 1)).map (·.pred)=(m.take i).map (·.pred)++[m[i].pred]:=by rw[w8 hlt,v5];rfl
   have htk2:(s.preds.take (i + 1)).map (·.name)=(s.preds.take i).map (·.name)++[s.preds[i].name]:=by rw[w8 hlt2,v5];rfl
   have hbad:=j0u (s:=s) (m:=m) hlt hlt2
   have hpn:z8l q3m [.str m[i].pred]=some (.bool true):=by
    obtain⟨g,hg,hn,_⟩:=hd
    rw[hn]
    exact v2e g hg
   have p1038:=v2f hpn hd.ok
   rw[z5l] at p1038
   have hdl:=hd.ok.len
   generalize m[i]=d at *
   by_cases hname:d.pred=s.preds[i].name
   ·obtain⟨_,hsorts⟩:=hd.at hf hname
    have hal:d.params.length=s.preds[i].args.length:=by simpa using congrArg List.length hsorts
    have en:decide (d.pred=s.preds[i].name)=true:=decide_eq_true hname
    have el:decide ((d.params.length:Int)=(s.preds[i].args.length:Int))=true:=by rw[z04,hal]
    simp only[go_sem,x1z,q2,q3,q5,hB,f1,z6,hixd,hixf,z0a p1038,z7,en,el]
    refine z3t d.params.length (by omega) (fun k q=>∃ ga:Nat,q.ts 2= .ptr (B + 0) g0 0 0∧q.ts 3= .ptr (B + 1) g1 0 0∧q.ts 5= .int .i64 (i:Int)∧q.ts 6= .ptr (B + 2) ga 0 0∧q.ts 7= .int .i64 (k:Int)∧q.h=D++[.blk g0 [.agg [.sl (s.preds.map z1f) .no, .sl (s.clauses.map z0g) .no]] false false 0, .blk g1 [.agg [.sl (m.map z5l) .no]] false false 0, .blk ga [.agg [.str d.pred, .sl (d.params.map z1k) .no, .sl (d.body.map eNode) .no]] false false 0]) ⟨_,by simp[z0b,q2],by simp[z0b,q3],by simp[z0b,q5],rfl,rfl,rfl⟩ ?_ ?_
    ·clear q2 q3 q5 f1
     rintro k hkl f1 f2' ts h clk P' ⟨ga,q2,q3,q5,q6,q7,rfl⟩ hnx' he' hr'
     dsimp only at q2 q3 q5 q6 q7
     have hix:∀ h,z1m h 2 (.sl (d.params.map z1k) .no) (.int .i64 (k:Int))=some (.iptr [.str d.params[k].name, .int .i64 (d.params[k].sort:Int)] 0,h):=fun h=>z3a hkl rfl rfl
     have hka:k < s.preds[i].args.length:=by omega
     have hixa:∀ h,z1m h 1 (.sl (s.preds[i].args.map nat) .no) (.int .i64 (k:Int))=some (.iptr [.int .i64 (s.preds[i].args[k]:Int)] 0,h):=fun h=>z3a hka rfl rfl
     have hse:d.params[k].sort=s.preds[i].args[k]:=by
      have:=congrArg (fun l=>l[k]?) hsorts
      simpa [hkl,hka] using this
     rw[←hse] at hixa
     generalize d.params[k]=v at *
     simp only[go_sem,x1y,q2,q3,q5,q6,q7,hB,f1,f2',z6,hix,hixf,hixa,decide_true,z7]
     exact hnx' _ ⟨ga,q2,q3,q5,q6,rfl,rfl⟩
    ·clear q2 q3 q5 f1
     rintro f1 ts h clk P' ⟨ga,q2,q3,q5,q6,q7,rfl⟩ he' hr'
     dsimp only at q2 q3 q5 q6 q7
     simp only[go_sem,x1y,q2,q3,q5,q6,q7,hB,f1,z6]
     refine he' _ _ ?_
     simp only[go_sem,q2,q3,q5,q6,q7,hB,f2]
     exact hnx _ ⟨g0,g1,_,by rw[htk,htk2,hpre,hname],q2,q3,rfl,rfl⟩
   ·have en:decide (d.pred=s.preds[i].name)=false:=decide_eq_false hname
    rw[hbad hname] at hT
    simp only[go_sem,x1z,q2,q3,q5,hB,f1,z6,hixd,hixf,z0a p1038,z7,j5,en]
    refine hr _ ?_
    simp only[go_sem,]
    rw[z0d]
    exact hT _
  ·rintro f1 ts h clk P ⟨g0,g1,o2,hpre,q2,q3,q5,rfl⟩ he hr
   dsimp only at q2 q3 q5
   rw[u4,hlen,u4] at hpre
   rw[show z5s s m=true from decide_eq_true hpre] at hT
   simp only[go_sem,x1z,q2,q3,q5,hB,f1,z6]
   refine he _ _ ?_
   simp only[go_sem,]
   rw[z0d]
   exact hT _
 ·have e1:decide ((m.length:Int)=(s.preds.length:Int))=false:=by rw[z03];omega
  rw[x4v hlen] at hT
  simp only[go_sem,k6d,hB,z2i,z9v,z0a p28,z7,j5,z6,e1]
  rw[z0d]
  exact hT _
section
attribute [-go_sem] v1t v1u
def v2g (b:Bool):Term:=[⟨if b then 1 else 2,0,[],[],0⟩]
end
end
end Go.Proofs.YtkollgjffkdliaaGreatDoor.Am
