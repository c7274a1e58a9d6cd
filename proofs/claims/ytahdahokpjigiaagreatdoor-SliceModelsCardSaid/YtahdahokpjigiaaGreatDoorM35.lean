/- Walking: models are shaped for a system Walking: models are shaped for a system Walking: models are shaped for a system Walking: constant definitions Walking: what becomes of a model Walking: models a -/
import Derived.Test.YtahdahokpjigiaaGreatDoorM34
set_option linter.all false
namespace Go.Proofs.YtahdahokpjigiaaGreatDoor.Am
open Go
set_option maxRecDepth 100000
theorem k8d {n:Nat} (h1:1≤n) (h2:n≤4):Pure Gam 248 [.int .i64 (n:Int)] (.bool true):=by
 refine Pure.of rfl y1g rfl rfl rfl rfl rfl fun D B clk T hB hT=> ?_
 have e1:decide ((1:Int)≤(n:Int))=true:=by rw[decide_eq_true_iff];omega
 have e2:decide ((n:Int)≤4)=true:=by rw[decide_eq_true_iff];omega
 simp only[go_sem,v2b,e1,e2]
 rw[z0e]
 exact hT _
theorem k8e {V:List Var} {u:Tip} (hV:UOk V) (hnd:(V.map (·.name)).Nodup) (hl:V.length≤1000):Pure Gam 179 [.sl (V.map z1b) u] (.bool true):=by
 refine Pure.of rfl y1d rfl rfl rfl (az:=[.sl (V.map z1b) .no]) rfl (by simp[idsL,AV.ids,z0c z2b]) fun D B clk T hB hT=> ?_
 simp only[go_sem,v1y,hB,List.length_map]
 refine z6z V.length (by omega) (fun i q=>∃ (g:Nat) (o:AObj),q.ts 3= .mp (B + 0) g∧q.ts 7= .sl (V.map z1b) .no∧q.ts 8= .int .i64 (V.length:Int)∧q.ts 9= .int .i64 (i:Int)∧q.h=D++[.map g (z3i ((V.take i).map (·.name))),o]) ⟨_,_,rfl,rfl,rfl,rfl,rfl⟩ ?_ ?_
 ·rintro i hlt f1 f2 ts h clk P ⟨g,o,q3,q7,q8,q9,rfl⟩ hnx he hr
  dsimp only at q3 q7 q8 q9
  have hv:=List.getElem_mem hlt
  have hix:∀ h,z1m h 2 (.sl (V.map z1b) .no) (.int .i64 (i:Int))=some (.iptr [.str V[i].name, .int .i64 (V[i].sort:Int)] 0,h):=fun h=>z2f hlt rfl rfl
  have htake:V.take (i + 1)=V.take i++[V[i]]:=List.take_succ_eq_append_getElem hlt
  have hnew:V[i].name∉(V.take i).map (·.name):=by
   have h3:((V.take (i + 1)).map (·.name)).Nodup:=hnd.sublist ((List.take_sublist _ _).map _)
   rw[htake,List.map_append,List.nodup_append] at h3
   exact fun hc=>h3.2.2 _ hc _ (by simp) rfl
  have hsort:=hV.sort _ hv
  haveI:=hV
  have p1:=j0r (U:=V) hv
  have p2:=k8d hsort.1 hsort.2
  have hnm:z3i ((V.take (i + 1)).map (·.name))=z3i ((V.take i).map (·.name)++[V[i].name]):=by rw[htake,List.map_append];rfl
  generalize V[i]=v at *
  have hmu:∀ L:List AObj,z5m L 0 g=some (z3i ((V.take i).map (·.name)))→muV (D++L) (.one .str) (.str v.name) (.bool true) (.mp (B + 0) g)=some (.undef,D++L.set 0 (.map g (z3i ((V.take (i + 1)).map (·.name))))):=fun L hL=>by
   rw[hnm]
   exact x7x (v:= .bool true) hB hL rfl (q2v hnew)
  simp only[go_sem,j1m,q3,q7,q8,q9,f1,hB,hix,z3u,q2i,hnew,z5k,z0a p1,Bool.not_true,z0a p2,hmu,f2]
  exact hnx _ ⟨g,_,q3,q7,q8,rfl,rfl⟩
 ·rintro f1 ts h clk P ⟨g,o,q3,q7,q8,q9,rfl⟩ he hr
  dsimp only at q3 q7 q8 q9
  simp only[go_sem,j1m,q3,q7,q8,q9,f1]
  refine he _ _ ?_
  simp only[go_sem,]
  rw[z0e]
  exact hT _
theorem v2d {h:List AObj} {v w:Var}:z7d h .eql (.agg [.str, .int]) (.agg [.str v.name, .int .i64 (v.sort:Int)]) (.agg [.str w.name, .int .i64 (w.sort:Int)])=some (.bool (decide (v=w)),h):=by
 obtain⟨a,x⟩:=v
 obtain⟨b,y⟩:=w
 by_cases h1:a=b <;> by_cases h2:x=y <;> simp[z7d,z4q,AV.eqv,eqL,AV.eq1,h1,h2] <;> omega
theorem k8f {V:List Var} {v:Var} {u:Tip} (hl:V.length≤2 ^ 20) (hv:v∈V):∃ r:Nat,Pure Gam 251 [.sl (V.map z1b) u,z1b v] (.int .i64 (r:Int)):=by
 obtain⟨r,hr0,hat,hne⟩:∃ r,∃ h:r < V.length,V[r]=v∧∀ i (h:i < V.length),i < r→V[i]≠v:=by
  have hr0:V.findIdx (fun w=>decide (w=v)) < V.length:=List.findIdx_lt_length_of_exists ⟨v,hv,by simp⟩
  refine⟨_,hr0, ?_,fun i h hi=> ?_⟩
  ·have:=List.findIdx_getElem (w:=hr0)
   simpa using this
  ·have:=List.not_of_lt_findIdx hi
   simpa using this
 refine⟨r,Pure.of rfl y1h rfl rfl rfl (az:=[.sl (V.map z1b) .no,z1b v]) rfl (by simp[idsL,AV.ids,z0c z2b,z2b]) fun D B clk T hB hT=> ?_⟩
 simp only[go_sem,v2c,hB,z1b,nat,List.length_map]
 refine z6z V.length (by omega) (fun i q=>∃ g:Nat,i≤r∧q.ts 0= .sl (V.map z1b) .no∧q.ts 3= .ptr (B + 0) g 0 0∧q.ts 7= .int .i64 (V.length:Int)∧q.ts 8= .int .i64 (i:Int)∧q.h=D++[.blk g [.agg [.str v.name, .int .i64 (v.sort:Int)]] false false 0]) ⟨_,by omega,rfl,rfl,rfl,rfl,rfl⟩ ?_ ?_
 ·rintro i hlt f1 f2 ts h clk P ⟨g,hi,q0,q3,q7,q8,rfl⟩ hnx he hr
  dsimp only at q0 q3 q7 q8
  have hix:∀ h,z1m h 2 (.sl (V.map z1b) .no) (.int .i64 (i:Int))=some (.iptr [.str V[i].name, .int .i64 (V[i].sort:Int)] 0,h):=fun h=>z2f hlt rfl rfl
  by_cases hir:i=r
  ·subst hir
   rw[hat] at hix
   simp only[go_sem,j1n,q0,q3,q7,q8,hB,f1,hix,v2d,decide_true]
   refine hr _ ?_
   simp only[go_sem,]
   rw[z2m]
   exact hT _
  ·have hn:=hne i hlt (by omega)
   have e2:decide (v=V[i])=false:=by rw[decide_eq_false_iff_not];exact fun e=>hn e.symm
   generalize V[i]=w at hix e2
   simp only[go_sem,j1n,q0,q3,q7,q8,hB,f1,f2,hix,v2d,e2]
   exact hnx _ ⟨g,by omega,q0,q3,q7,rfl,rfl⟩
 ·rintro f1 ts h clk P ⟨g,hi,_⟩ he hr
  omega
theorem k8g {V:List Var} {v:Var} {u:Tip} (hl:V.length≤2 ^ 20) (hv:v∈V):Pure Gam 185 [.sl (V.map z1b) u,z1b v] (.bool true):=by
 obtain⟨r,hp⟩:=k8f (u:= .no) hl hv
 rw[z1b,nat] at hp
 refine Pure.of rfl y1f rfl rfl rfl (az:=[.sl (V.map z1b) .no,z1b v]) rfl (by simp[idsL,AV.ids,z0c z2b,z2b]) fun D B clk T hB hT=> ?_
 have e1:decide ((0:Int)≤(r:Int))=true:=by rw[decide_eq_true_iff];omega
 simp only[go_sem,v2a,hB,z1b,nat,z0a hp,e1]
 rw[z0e]
 exact hT _
structure DefOk (d:Def):Prop where
 u:UOk d.params
 nd:(d.params.map (·.name)).Nodup
 len:d.params.length≤20
 wf:GT d.params 1 6 396 d.body
theorem DefOk.s {d:Def} (h:DefOk d):DefS d:=⟨by have:=h.len;omega,by have:=h.wf.2.1;omega⟩
theorem k3e {s g:Nat} {d:Def} {v:Var} (hd:DefOk d) (hv:v∈d.params):Reads [(s, .blk g [z4j d] false false 0)] 184 [z1b v, .ptr s g 0 0] (.bool false):=by
 have p2:=k8g (u:= .no) (by have:=hd.len;omega) hv
 rw[z1b,nat] at p2
 refine Reads.of rfl y1e rfl rfl rfl (az:=[z1b v, .ptr s g 0 0]) rfl (by simpa [idsL,AV.ids,z2b] using Cov.one (s:=s) (o:= .blk g [z4j d] false false 0) (by simp[AObj.ids,idsL,z3m])) fun D B clk T hB hS hlt hT=> ?_
 have h1:=hlt (s, .blk g [z4j d] false false 0) (by simp)
 have b1:=z5z (g:=g) (hS (s, .blk g [z4j d] false false 0) (by simp))
 dsimp only at h1 b1
 rw[z4j] at b1
 simp only[go_sem,v1z,hB,z1b,nat,z4e hB h1,b1,z0a p2,Bool.not_true]
 rw[z0e]
 exact hT _ hS.app
theorem k8h {d:Def} (hd:DefOk d):Pure Gam 121 [z4j d] (.bool true):=by
 haveI:=hd.u
 have hbl:=hd.wf.2.1
 have hpl:=hd.len
 have p0:=k8e (u:= .no) hd.u hd.nd (by omega)
 have p1:=k1t (U:=d.params) (u:= .no) hd.wf.1 (fun v h=>h) (by omega) (by omega)
 have p2:=k1u (U:=d.params) (u:= .no) hd.wf.1 (fun v h=>h) (by omega) (by omega)
 have p3:=k1v (U:=d.params) (u:= .no) hd.wf.1 (fun v h=>h) (by omega) (by omega)
 rw[nat] at p1
 have hvl:(z2y d.body []).length≤2 ^ 20:=by
  have:=q0q (t:=d.body) (acc:=[])
  simp only[List.length_nil] at this
  omega
 have hr:∀ s g,Reads [(s, .blk g [z4j d] false false 0)] 182 [.sl ((z2y d.body []).map z1b) .no, .fn 184 [.ptr s g 0 0]] (.bool ((z2y d.body []).any fun _=>false)):=fun s g=>
  j3w (enc:=z1b) (P:=fun _=>false) (fun _=>rfl) (fun _ _=>rfl) (fun _=>rfl) hvl (by simpa [idsL,AV.ids] using Cov.one (s:=s) (o:= .blk g [z4j d] false false 0) (by simp[AObj.ids,idsL,z3m])) fun v hv=>k3e hd (q0p hd.wf.1.names (acc:=[]) (by simp) v hv)
 have e:((z2y d.body []).any fun _=>false)=false:=by simp
 rw[e] at hr
 refine Pure.of rfl y1b rfl rfl rfl (az:=[z4j d]) rfl (by simp[idsL,z3m]) fun D B clk T hB hT=> ?_
 have hh:∀ g,Has [(B + 0, .blk g [z4j d] false false 0)] (D++[.blk g [.agg [.str d.pred, .sl (d.params.map z1b) .no, .sl (d.body.map eNode) .no]] false false 0]):=fun g=>x4t hB rfl
 simp only[go_sem,v1w,hB,z4j,z0a p0,z0a p1,z0a p2,z0a p3,Bool.not_true,Int.cast_ofNat_Int,decide_true,Int.reduceLT,decide_false,List.length_nil]
 rw[z0w (hr _ _) (hh _)]
 simp only[go_sem,Bool.not_false]
 rw[z0e]
 exact hT _
theorem y1i {l:List Nat} {u v:Tip} (hl:l.length≤20000):Pure Gam 120 [.sl (l.map nat) u, .sl (l.map nat) v] (.bool true):=by
 refine Pure.of rfl u6c rfl rfl rfl (az:=[.sl (l.map nat) .no, .sl (l.map nat) .no]) rfl (by simp[idsL,AV.ids,z0c (fun _=>z3c)]) fun D B clk T hB hT=> ?_
 simp only[go_sem,u2q,hB,List.length_map,decide_true,Bool.not_true]
 refine z6z l.length (by omega) (fun i q=>q.ts 0= .sl (l.map nat) .no∧q.ts 1= .sl (l.map nat) .no∧q.ts 12= .int .i64 (l.length:Int)∧q.ts 13= .int .i64 (i:Int)) ⟨rfl,rfl,rfl,rfl⟩ ?_ ?_
 ·rintro i hlt f1 f2 ts h clk P ⟨q0,q1,q12,q13⟩ hnx he hr
  dsimp only at q0 q1 q12 q13
  simp only[go_sem,v9n,q0,q1,q12,q13,hB,f1,f2,q9k hlt,nat,decide_true,Bool.not_true]
  exact hnx _ ⟨q0,q1,q12,rfl⟩
 ·rintro f1 ts h clk P ⟨q0,q1,q12,q13⟩ he hr
  dsimp only at q0 q1 q12 q13
  simp only[go_sem,v9n,q0,q1,q12,q13,hB,f1]
  refine he _ _ ?_
  simp only[go_sem,]
  rw[z0e]
  exact hT _
def q1m:List (List Nat):=[[117],[118],[121,48]]
theorem y1j:∀ n∈q1m,q0t x1m [.str n]=some (.bool true):=fun n hn=>by
 simp only[q1m,List.mem_cons,List.not_mem_nil,or_false] at hn
 rcases hn with rfl | rfl | rfl <;> rfl
theorem v9o:∀ n∈q1m,q0t q2y [.str n]=some (.bool true):=fun n hn=>by
 simp only[q1m,List.mem_cons,List.not_mem_nil,or_false] at hn
 rcases hn with rfl | rfl | rfl <;> rfl
def z4d (f:Func):List Var:=List.zipWith (fun n s=>⟨n,s⟩) q1m f.args
theorem q3f:∀ f∈allPreds,UOk (z4d f)∧((z4d f).map (·.name)).Nodup∧(z4d f).length≤3∧(z4d f).map (·.sort)=f.args:=by
 intro f hf
 have key:∀ V:List Var,(∀ v∈V,v.name∈q1m∧1≤v.sort∧v.sort≤4)→(∀ v∈V,∀ w∈V,v.name=w.name→v=w)→UOk V:=fun V h1 h2=>⟨fun v hv=>y1j _ (h1 v hv).1,fun v hv=>v9o _ (h1 v hv).1,fun v hv=>(h1 v hv).2,h2⟩
 simp only[allPreds,List.mem_cons,List.not_mem_nil,or_false] at hf
 rcases hf with rfl | rfl | rfl | rfl | rfl <;> exact⟨key _ (by decide) (by decide),by decide,by decide,rfl⟩
theorem k8i:∀ f∈allPreds,∀ g∈allPreds,f.name=g.name→f=g:=by decide
theorem k8j:∀ f∈allPreds,q0t q2y [.str f.name]=some (.bool true):=fun f hf=>by
 simp only[allPreds,List.mem_cons,List.not_mem_nil,or_false] at hf
 rcases hf with rfl | rfl | rfl | rfl | rfl <;> rfl
def DOk (d:Def):Prop:=∃ f∈allPreds,d.pred=f.name∧d.params=z4d f∧GT d.params 1 6 396 d.body
theorem DOk.ok {d:Def} (h:DOk d):DefOk d:=by
 obtain⟨f,hf,_,hp,hg⟩:=h
 obtain⟨h1,h2,h3,_⟩:=q3f f hf
 exact⟨by rw[hp];exact h1,by rw[hp];exact h2,by rw[hp];omega,hg⟩
theorem DOk.at {d:Def} {f:Func} (h:DOk d) (hf:f∈allPreds) (he:d.pred=f.name):d.params=z4d f∧d.params.map (·.sort)=f.args:=by
 obtain⟨g,hg,hn,hp,_⟩:=h
 obtain rfl:=k8i g hg f hf (by rw[←hn,he])
 exact⟨hp,by rw[hp];exact (q3f g hg).2.2.2⟩
def z4x (s:Sys) (m:List Def):Bool:=decide (m.map (·.pred)=s.preds.map (·.name))
theorem x3k {s:Sys} {m:List Def} (h:m.length≠s.preds.length):z4x s m=false:=by
 unfold z4x
 rw[decide_eq_false_iff_not]
 intro e
 have:=congrArg List.length e
 simp at this
 exact h this
theorem x8i {s:Sys} {m:List Def} {i:Nat} (h1:i < m.length) (h2:i < s.preds.length) (h:m[i].pred≠s.preds[i].name):z4x s m=false:=by
 unfold z4x
 rw[decide_eq_false_iff_not]
 intro e
 have:=congrArg (fun l=>l[i]?) e
 simp[h1,h2] at this
 exact h this
theorem j4l {s:Sys} {m:List Def} (hs:SysV s) (hm:∀ d∈m,DOk d) (hl:m.length≤1000):Pure Gam 55 [z0x s,z5l m] (.bool (z4x s m)):=by
 have p31:=k1z hs
 rw[z0x] at p31
 have hpl:=hs.pl
 refine Pure.of rfl y0t rfl rfl rfl (az:=[z0x s,z5l m]) rfl (by simp[idsL,z2c,z7a]) fun D B clk T hB hT=> ?_
 by_cases hlen:m.length=s.preds.length
 ·have e1:decide ((m.length:Int)=(s.preds.length:Int))=true:=by rw[decide_eq_true_iff];omega
  simp only[go_sem,k3b,hB,z0x,z5l,z0a p31,Bool.not_true,List.length_map,e1]
  refine z6z m.length (by omega) (fun i q=>∃ (g0 g1:Nat) (o2 o3 o4 o5 o6:AObj),(m.take i).map (·.pred)=(s.preds.take i).map (·.name)∧q.ts 2= .ptr (B + 0) g0 0 0∧q.ts 3= .ptr (B + 1) g1 0 0∧q.ts 24= .sl (m.map z4j) .no∧q.ts 25= .int .i64 (m.length:Int)∧q.ts 26= .int .i64 (i:Int)∧q.h=D++[.blk g0 [.agg [.sl (s.preds.map z0q) .no, .sl (s.clauses.map z0f) .no]] false false 0, .blk g1 [.agg [.sl (m.map z4j) .no]] false false 0,o2,o3,o4,o5,o6]) ⟨_,_,_,_,_,_,_,by simp,rfl,rfl,rfl,rfl,rfl,rfl⟩ ?_ ?_
  ·rintro i hlt f1 f2 ts h clk P ⟨g0,g1,o2,o3,o4,o5,o6,hpre,q2,q3,q24,q25,q26,rfl⟩ hnx he hr
   dsimp only at q2 q3 q24 q25 q26
   have hlt2:i < s.preds.length:=by omega
   have hixd:=fun h=>q1i (l:=m) (i:=i) (h:=h) (t:= .no) (k:= .i64) hlt
   have hixf:=fun h=>z6g (l:=s.preds) (i:=i) (h:=h) (t:= .no) (k:= .i64) hlt2
   have hd:=hm _ (List.getElem_mem hlt)
   have hf:=hs.preds.mem (List.getElem_mem hlt2)
   have htk:(m.take (i + 1)).map (·.pred)=(m.take i).map (·.pred)++[m[i].pred]:=by rw[List.take_succ_eq_append_getElem hlt,List.map_append];rfl
   have htk2:(s.preds.take (i + 1)).map (·.name)=(s.preds.take i).map (·.name)++[s.preds[i].name]:=by rw[List.take_succ_eq_append_getElem hlt2,List.map_append];rfl
   have hbad:=x8i (s:=s) (m:=m) hlt hlt2
   have p1037:=k8h hd.ok
   rw[z4j] at p1037
   have hdl:=hd.ok.len
   generalize m[i]=d at *
   generalize s.preds[i]=f at *
   simp only[go_sem,j1g,q2,q3,q24,q25,q26,hB,f1,hixd,hixf,List.length_map]
   refine z6z d.params.length (by omega) (fun k q=>∃ (ga gb:Nat) (t:Tip) (o4 o5 o6:AObj),q.ts 2= .ptr (B + 0) g0 0 0∧q.ts 3= .ptr (B + 1) g1 0 0∧q.ts 6= .ptr (B + 2) ga 0 0∧q.ts 7= .ptr (B + 3) gb 0 0∧q.ts 8= .sl (((d.params.take k).map (·.sort)).map nat) t∧q.ts 24= .sl (m.map z4j) .no∧q.ts 25= .int .i64 (m.length:Int)∧q.ts 26= .int .i64 (i:Int)∧q.ts 37= .sl (d.params.map z1b) .no∧q.ts 38= .int .i64 (d.params.length:Int)∧q.ts 39= .int .i64 (k:Int)∧q.h=D++[.blk g0 [.agg [.sl (s.preds.map z0q) .no, .sl (s.clauses.map z0f) .no]] false false 0, .blk g1 [.agg [.sl (m.map z4j) .no]] false false 0, .blk ga [.agg [.str d.pred, .sl (d.params.map z1b) .no, .sl (d.body.map eNode) .no]] false false 0, .blk gb [.agg [.str f.name, .sl (f.args.map nat) .no, .int .i64 (f.result:Int)]] false false 0,o4,o5,o6]∧z8k B 6 o6 t 1) ⟨_,_, .nil,_,_,_,by simp[z0b,q2],by simp[z0b,q3],rfl,rfl,rfl,by simp[z0b,q24],by simp[z0b,q25],by simp[z0b,q26],rfl,rfl,rfl,rfl, .inl rfl⟩ ?_ ?_
   ·clear q2 q3 q24 q25 q26 f1
    rintro k hkl f1 f2' ts h clk P' ⟨ga,gb,t,o4,o5,o6,q2,q3,q6,q7,q8,q24,q25,q26,q37,q38,q39,rfl,ht⟩ hnx' he' hr'
    dsimp only at q2 q3 q6 q7 q8 q24 q25 q26 q37 q38 q39
    have hix:∀ h,z1m h 2 (.sl (d.params.map z1b) .no) (.int .i64 (k:Int))=some (.iptr [.str d.params[k].name, .int .i64 (d.params[k].sort:Int)] 0,h):=fun h=>z2f hkl rfl rfl
    have e8:((d.params.take k).map (·.sort)).map nat++[d.params[k].sort].map nat=((d.params.take (k + 1)).map (·.sort)).map nat:=by rw[List.take_succ_eq_append_getElem hkl,List.map_append,List.map_append];rfl
    generalize d.params[k]=v at *
    simp only[go_sem,j1f,q2,q3,q6,q7,q8,q24,q25,q26,q37,q38,q39,hB,f1,hix]
    rw[show [AV.int .i64 (v.sort:Int)]=[v.sort].map nat from rfl,z0j hB rfl ht z3y z3y (by simp only[List.length_map,List.length_singleton,List.length_take];omega),e8]
    simp only[go_sem,q2,q3,q6,q7,q8,q24,q25,q26,q37,q38,q39,hB,f2']
    exact hnx' _ ⟨ga,gb,_,_,_,_,q2,q3,q6,q7,rfl,q24,q25,q26,q37,q38,rfl,rfl, .inr (.inr ⟨_,rfl,rfl⟩)⟩
   ·clear q2 q3 q24 q25 q26 f1
    rintro f1 ts h clk P' ⟨ga,gb,t,o4,o5,o6,q2,q3,q6,q7,q8,q24,q25,q26,q37,q38,q39,rfl,ht⟩ he' hr'
    dsimp only at q2 q3 q6 q7 q8 q24 q25 q26 q37 q38 q39
    rw[List.take_length] at q8
    simp only[go_sem,j1f,q2,q3,q6,q7,q8,q24,q25,q26,q37,q38,q39,hB,f1]
    refine he' _ _ ?_
    by_cases hname:d.pred=f.name
    ·obtain⟨_,hsorts⟩:=hd.at hf hname
     rw[hsorts] at q8
     have p62:=y1i (l:=f.args) (u:=t) (v:= .no) (by have:=hs.pr;have:=congrArg List.length hsorts;simp at this;omega)
     have en:decide (d.pred=f.name)=true:=decide_eq_true hname
     simp only[go_sem,q2,q3,q6,q7,q8,q24,q25,q26,hB,en,Bool.not_true,z0a p62,z0a p1037,f2]
     exact hnx _ ⟨g0,g1,_,_,_,_,_,by rw[htk,htk2,hpre,hname],q2,q3,q24,q25,rfl,rfl⟩
    ·have en:decide (d.pred=f.name)=false:=decide_eq_false hname
     rw[hbad hname] at hT
     simp only[go_sem,q2,q3,q6,q7,q8,q24,q25,q26,hB,en,Bool.not_false]
     refine hr _ ?_
     simp only[go_sem,]
     rw[z0e]
     exact hT _
  ·rintro f1 ts h clk P ⟨g0,g1,o2,o3,o4,o5,o6,hpre,q2,q3,q24,q25,q26,rfl⟩ he hr
   dsimp only at q2 q3 q24 q25 q26
   rw[List.take_length,hlen,List.take_length] at hpre
   rw[show z4x s m=true from decide_eq_true hpre] at hT
   simp only[go_sem,j1g,q2,q3,q24,q25,q26,hB,f1]
   refine he _ _ ?_
   simp only[go_sem,]
   rw[z0e]
   exact hT _
 ·have e1:decide ((m.length:Int)=(s.preds.length:Int))=false:=by rw[decide_eq_false_iff_not];omega
  rw[x3k hlen] at hT
  simp only[go_sem,k3b,hB,z0x,z5l,z0a p31,Bool.not_true,Bool.not_false,List.length_map,e1]
  rw[z0e]
  exact hT _
theorem j4m {n:List Nat} (h:q0t q2y [.str n]=some (.bool true)):Pure Gam 144 [.str n] (.bool true):=Pure.tab (tab:=q2y) rfl rfl h
theorem k3f {V:List Var} {i:Nat} {h:List AObj} (hi:i < V.length):slV h (some 2) (.sl (V.map z1b) .no) none (some (.int .i64 (i:Int))) none=some (.sl ((V.take i).map z1b) .no,h):=by
 rw[q4x (by rw[List.length_map];omega) (by cases V <;> rfl),if_neg (by rw[List.length_map];omega),List.map_take]
theorem k8k {d:Def} (hn:q0t q2y [.str d.pred]=some (.bool true)) (hd:DefOk d):Pure Gam 126 [z4j d] (.bool true):=by
 haveI:=hd.u
 have hbl:=hd.wf.2.1
 have hpl:=hd.len
 have p1:=j4m hn
 have p2:Pure Gam 170 [.sl (d.body.map eNode) .no, .int .i64 1, .sl (d.params.map z1b) .no] (.bool true):=j0y (U:=d.params) (V:=d.params) (s:=1) (d:=6) (fun v h=>h) (by omega) (by omega) (by omega) hd.wf.1 (by omega)
 have e1:decide ((40:Int) < (d.params.length:Int))=false:=by rw[decide_eq_false_iff_not];omega
 refine Pure.of rfl y1c rfl rfl rfl (az:=[z4j d]) rfl (by simp[idsL,z3m]) fun D B clk T hB hT=> ?_
 simp only[go_sem,v1x,hB,z4j,z0a p1,z0a p2,Bool.not_true,List.length_map,e1]
 refine z6z d.params.length (by omega) (fun i q=>∃ g0:Nat,q.ts 1= .ptr (B + 0) g0 0 0∧q.ts 3= .int .i64 (i:Int)∧q.h=D++[.blk g0 [.agg [.str d.pred, .sl (d.params.map z1b) .no, .sl (d.body.map eNode) .no]] false false 0]) ⟨_,rfl,rfl,rfl⟩ ?_ ?_
 ·rintro i hlt f1 f2 ts h clk P ⟨g0,q1,q3,rfl⟩ hnx he hr
  dsimp only at q1 q3
  have hv:=List.getElem_mem hlt
  have hix:∀ h,z1m h 2 (.sl (d.params.map z1b) .no) (.int .i64 (i:Int))=some (.iptr [.str d.params[i].name, .int .i64 (d.params[i].sort:Int)] 0,h):=fun h=>z2f hlt rfl rfl
  have hno:∀ v∈d.params.take i,v.name≠d.params[i].name:=fun v hv e=>by
   have h3:((d.params.take (i + 1)).map (·.name)).Nodup:=hd.nd.sublist ((List.take_sublist _ _).map _)
   rw[List.take_succ_eq_append_getElem hlt,List.map_append,List.nodup_append] at h3
   exact h3.2.2 _ (List.mem_map.2 ⟨v,hv,rfl⟩) _ (by simp) e
  have hs:=hd.u.sort _ hv
  have p3:=j4m (hd.u.name2 _ hv)
  have p4:=j0x hs.1 hs.2
  have p5:=k2r (V:=d.params.take i) (u:= .no) (by rw[List.length_take];omega) hno
  rw[nat] at p4
  have hcut:=fun h=>k3f (V:=d.params) (h:=h) hlt
  generalize d.params[i]=v at *
  simp only[go_sem,j1l,q1,q3,hB,f1,f2,List.length_map,hix,z0a p3,z0a p4,hcut,z0a p5,Bool.not_true]
  exact hnx _ ⟨g0,q1,rfl,rfl⟩
 ·rintro f1 ts h clk P ⟨g0,q1,q3,rfl⟩ he hr
  dsimp only at q1 q3
  simp only[go_sem,j1l,q1,q3,hB,f1,List.length_map]
  refine he _ _ ?_
  simp only[go_sem,]
  rw[z0e]
  exact hT _
theorem j4n {s:Sys} {m:List Def} (hs:SysV s) (hm:∀ d∈m,DOk d) (hl:m.length≤1000):Pure Gam 61 [z0x s,z5l m] (.bool (z4x s m)):=by
 have p28:=k2s hs
 rw[z0x] at p28
 have hpl:=hs.pl
 refine Pure.of rfl y0w rfl rfl rfl (az:=[z0x s,z5l m]) rfl (by simp[idsL,z2c,z7a]) fun D B clk T hB hT=> ?_
 by_cases hlen:m.length=s.preds.length
 ·have e1:decide ((m.length:Int)=(s.preds.length:Int))=true:=by rw[decide_eq_true_iff];omega
  simp only[go_sem,k3d,hB,z0x,z5l,z0a p28,Bool.not_true,List.length_map,e1]
  refine z6z m.length (by omega) (fun i q=>∃ (g0 g1:Nat) (o2:AObj),(m.take i).map (·.pred)=(s.preds.take i).map (·.name)∧q.ts 2= .ptr (B + 0) g0 0 0∧q.ts 3= .ptr (B + 1) g1 0 0∧q.ts 5= .int .i64 (i:Int)∧q.h=D++[.blk g0 [.agg [.sl (s.preds.map z0q) .no, .sl (s.clauses.map z0f) .no]] false false 0, .blk g1 [.agg [.sl (m.map z4j) .no]] false false 0,o2]) ⟨_,_,_,by simp,rfl,rfl,rfl,rfl⟩ ?_ ?_
  ·rintro i hlt f1 f2 ts h clk P ⟨g0,g1,o2,hpre,q2,q3,q5,rfl⟩ hnx he hr
   dsimp only at q2 q3 q5
   have hlt2:i < s.preds.length:=by omega
   have hixd:=fun h=>q1i (l:=m) (i:=i) (h:=h) (t:= .no) (k:= .i64) hlt
   have hixf:=fun h=>z6g (l:=s.preds) (i:=i) (h:=h) (t:= .no) (k:= .i64) hlt2
   have hd:=hm _ (List.getElem_mem hlt)
   have hf:=hs.preds.mem (List.getElem_mem hlt2)
   have htk:(m.take (i + 1)).map (·.pred)=(m.take i).map (·.pred)++[m[i].pred]:=by rw[List.take_succ_eq_append_getElem hlt,List.map_append];rfl
   have htk2:(s.preds.take (i + 1)).map (·.name)=(s.preds.take i).map (·.name)++[s.preds[i].name]:=by rw[List.take_succ_eq_append_getElem hlt2,List.map_append];rfl
   have hbad:=x8i (s:=s) (m:=m) hlt hlt2
   have hpn:q0t q2y [.str m[i].pred]=some (.bool true):=by
    obtain⟨g,hg,hn,_⟩:=hd
    rw[hn]
    exact k8j g hg
   have p1038:=k8k hpn hd.ok
   rw[z4j] at p1038
   have hdl:=hd.ok.len
   generalize m[i]=d at *
   by_cases hname:d.pred=s.preds[i].name
   ·obtain⟨_,hsorts⟩:=hd.at hf hname
    have hal:d.params.length=s.preds[i].args.length:=by simpa using congrArg List.length hsorts
    have en:decide (d.pred=s.preds[i].name)=true:=decide_eq_true hname
    have el:decide ((d.params.length:Int)=(s.preds[i].args.length:Int))=true:=by rw[decide_eq_true_iff,hal]
    simp only[go_sem,x5j,q2,q3,q5,hB,f1,List.length_map,hixd,hixf,z0a p1038,Bool.not_true,en,el]
    refine z6z d.params.length (by omega) (fun k q=>∃ ga:Nat,q.ts 2= .ptr (B + 0) g0 0 0∧q.ts 3= .ptr (B + 1) g1 0 0∧q.ts 5= .int .i64 (i:Int)∧q.ts 6= .ptr (B + 2) ga 0 0∧q.ts 7= .int .i64 (k:Int)∧q.h=D++[.blk g0 [.agg [.sl (s.preds.map z0q) .no, .sl (s.clauses.map z0f) .no]] false false 0, .blk g1 [.agg [.sl (m.map z4j) .no]] false false 0, .blk ga [.agg [.str d.pred, .sl (d.params.map z1b) .no, .sl (d.body.map eNode) .no]] false false 0]) ⟨_,by simp[z0b,q2],by simp[z0b,q3],by simp[z0b,q5],rfl,rfl,rfl⟩ ?_ ?_
    ·clear q2 q3 q5 f1
     rintro k hkl f1 f2' ts h clk P' ⟨ga,q2,q3,q5,q6,q7,rfl⟩ hnx' he' hr'
     dsimp only at q2 q3 q5 q6 q7
     have hix:∀ h,z1m h 2 (.sl (d.params.map z1b) .no) (.int .i64 (k:Int))=some (.iptr [.str d.params[k].name, .int .i64 (d.params[k].sort:Int)] 0,h):=fun h=>z2f hkl rfl rfl
     have hka:k < s.preds[i].args.length:=by omega
     have hixa:∀ h,z1m h 1 (.sl (s.preds[i].args.map nat) .no) (.int .i64 (k:Int))=some (.iptr [.int .i64 (s.preds[i].args[k]:Int)] 0,h):=fun h=>z2f hka rfl rfl
     have hse:d.params[k].sort=s.preds[i].args[k]:=by
      have:=congrArg (fun l=>l[k]?) hsorts
      simpa [hkl,hka] using this
     rw[←hse] at hixa
     generalize d.params[k]=v at *
     simp only[go_sem,j1i,q2,q3,q5,q6,q7,hB,f1,f2',List.length_map,hix,hixf,hixa,decide_true,Bool.not_true]
     exact hnx' _ ⟨ga,q2,q3,q5,q6,rfl,rfl⟩
    ·clear q2 q3 q5 f1
     rintro f1 ts h clk P' ⟨ga,q2,q3,q5,q6,q7,rfl⟩ he' hr'
     dsimp only at q2 q3 q5 q6 q7
     simp only[go_sem,j1i,q2,q3,q5,q6,q7,hB,f1,List.length_map]
     refine he' _ _ ?_
     simp only[go_sem,q2,q3,q5,q6,q7,hB,f2]
     exact hnx _ ⟨g0,g1,_,by rw[htk,htk2,hpre,hname],q2,q3,rfl,rfl⟩
   ·have en:decide (d.pred=s.preds[i].name)=false:=decide_eq_false hname
    rw[hbad hname] at hT
    simp only[go_sem,x5j,q2,q3,q5,hB,f1,List.length_map,hixd,hixf,z0a p1038,Bool.not_true,Bool.not_false,en]
    refine hr _ ?_
    simp only[go_sem,]
    rw[z0e]
    exact hT _
  ·rintro f1 ts h clk P ⟨g0,g1,o2,hpre,q2,q3,q5,rfl⟩ he hr
   dsimp only at q2 q3 q5
   rw[List.take_length,hlen,List.take_length] at hpre
   rw[show z4x s m=true from decide_eq_true hpre] at hT
   simp only[go_sem,x5j,q2,q3,q5,hB,f1,List.length_map]
   refine he _ _ ?_
   simp only[go_sem,]
   rw[z0e]
   exact hT _
 ·have e1:decide ((m.length:Int)=(s.preds.length:Int))=false:=by rw[decide_eq_false_iff_not];omega
  rw[x3k hlen] at hT
  simp only[go_sem,k3d,hB,z0x,z5l,z0a p28,Bool.not_true,Bool.not_false,List.length_map,e1]
  rw[z0e]
  exact hT _
def z5u:List Nat→Nat→List Var
 | [],_=>[]
 | s::l,i=>⟨[112,48 + i],s⟩::z5u l (i + 1)
theorem q2m {s:Nat}:∀ {l:List Nat} {k:Nat},z5u (l++[s]) k=z5u l k++[⟨[112,48 + (k + l.length)],s⟩]
 | [],k=>by simp[z5u]
 | a::l,k=>by
   have e:k + 1 + l.length=k + (l.length + 1):=by omega
   simp only[List.cons_append,z5u,q2m,List.length_cons,e]
theorem q1j:∀ {l:List Nat} {k:Nat},(z5u l k).length=l.length
 | [],_=>rfl
 | _::l,k=>by simp[z5u,q1j]
def x0r (b:Bool):Term:=[⟨if b then 1 else 2,0,[],[],0⟩]
def q5o (f:Func) (b:Bool):Def:=⟨f.name,z5u f.args 0,x0r b⟩
theorem v9p {i:Nat} (hi:i < 3):Pure Gam 122 [.int .i64 (i:Int)] (.str [48 + i]):=by
 refine Pure.tab (tab:=j7l) rfl rfl ?_
 obtain rfl | rfl | rfl:i=0∨i=1∨i=2:=by omega
 ·rfl
 ·rfl
 ·rfl
theorem x8j {h:List AObj} {s g:Nat}:y8n h s g (.agg [.int .i64 0, .int .i64 0, .str [], .str [], .int .i64 0]) (.agg [.int .i64 2, .int .i64 0, .str [], .str [], .int .i64 0])=some (.ob s g 0 1,h.set s (.blk g [.agg [.int .i64 2, .int .i64 0, .str [], .str [], .int .i64 0]] true false 0)):=(rfl)
theorem k8l {D L:List AObj} {B k g:Nat} {cs:List AV} {w:Bool} (hB:D.length=B) (hL:L[k]? =some (.blk g [.agg cs] true w 0)) (hc:cs.length=5):z1m (D++L) 5 (.ob (B + k) g 0 1) (.int .i64 0)=some (.ptr (B + k) g 0 0,D++L):=by
 have hb:z2a (D++L) (B + k) g=some ([.agg cs],true,w,0):=by rw[z6w hB];exact z5z hL
 simp[z1m,hb,AV.cells,hc]
theorem j7c {D L:List AObj} {B k g:Nat} {cs:List AV} {w:Bool} {n m:Int} (hB:D.length=B) (hL:L[k]? =some (.blk g [.agg (.int .i64 m::cs)] true w 0)):z8s (D++L) 1 (.int .i64 n) (.ptr (B + k) g 0 0)=some (.undef,D++L.set k (.blk g [.agg (.int .i64 n::cs)] true w 0)):=by
 have hb:z2a (D++L) (B + k) g=some ([.agg (.int .i64 m::cs)],true,w,0):=by rw[z6w hB];exact z5z hL
 rw[q0h,hb]
 have hp:pub (D++L) (.int .i64 n)=some (.int .i64 n,D++L):=rfl
 simp[hp,z9z,AV.cells,x9s,x3y,x9w,z9j,z5i hB]
theorem k8m {H:List AObj} {n:List Nat} {p es:List AV} {u:Tip} {a b c d:Nat} (h:z5a H (.ob a b c d)=some es):conv H (z1k [.agg [.str n, .sl p u, .ob a b c d]])=some (.agg [.str n, .sl p .no, .sl es .no]):=by
 simp only[z5a] at h
 simp only[z1k,conv,z9t,h,Option.map_some]
theorem k8n {f:Func} {b:Bool} (hf:f.args.length≤3):Pure Gam 57 [z0q f, .bool b] (z4j (q5o f b)):=by
 refine Pure.of rfl y0v rfl rfl rfl (az:=[z0q f, .bool b]) rfl (by simp[idsL,AV.ids,z2j]) fun D B clk T hB hT=> ?_
 have hix0:=fun (L:List AObj) (g:Nat) (hL:L[2]? =some (.blk g [.agg [.int .i64 2, .int .i64 0, .str [], .str [], .int .i64 0]] true false 0))=>k8l (D:=D) (B:=B) (k:=2) hB hL rfl
 have hst0:=fun (L:List AObj) (g:Nat) (hL:L[2]? =some (.blk g [.agg [.int .i64 2, .int .i64 0, .str [], .str [], .int .i64 0]] true false 0))=>j7c (D:=D) (B:=B) (k:=2) (n:=1) hB hL
 have loop:∀ (ts:Tmps) (g0 g1 g2 g3 clk:Nat) (o4 o5:AObj) (ks:List Kf) (Q:Post),ts 4= .ptr (B + 1) g1 0 0→ts 5= .ptr (B + 3) g3 0 0→ts 19= .sl (f.args.map nat) .no→ts 20= .int .i64 (f.args.length:Int)→ts 21= .int .i64 0→
   (∀ (ts':Tmps) (t:Tip) (o4 o5:AObj) (clk':Nat),ts' 4= .ptr (B + 1) g1 0 0→ts' 5= .ptr (B + 3) g3 0 0→K Gam B (.exit 0) ks ⟨ts',D++[.blk g0 [z0q f] false false 0, .blk g1 [.agg [.str [], .sl [] .nil, .sl [] .nil]] false false 0, .blk g2 ((x0r b).map eNode) true false 0, .blk g3 [.agg [.str f.name, .sl ((z5u f.args 0).map z1b) t, .ob (B + 2) g2 0 1]] false false 0,o4,o5],clk'⟩ Q)→
   K Gam B (.loop x5i) ks ⟨ts,D++[.blk g0 [z0q f] false false 0, .blk g1 [.agg [.str [], .sl [] .nil, .sl [] .nil]] false false 0, .blk g2 ((x0r b).map eNode) true false 0, .blk g3 [.agg [.str f.name, .sl [] .nil, .ob (B + 2) g2 0 1]] false false 0,o4,o5],clk⟩ Q:=by
  intro ts g0 g1 g2 g3 clk o4 o5 ks Q h4 h5 h19 h20 h21 hQ
  refine z6z f.args.length (by omega) (fun i q=>∃ (t:Tip) (o4 o5:AObj),q.ts 4= .ptr (B + 1) g1 0 0∧q.ts 5= .ptr (B + 3) g3 0 0∧q.ts 19= .sl (f.args.map nat) .no∧q.ts 20= .int .i64 (f.args.length:Int)∧q.ts 21= .int .i64 (i:Int)∧q.h=D++[.blk g0 [z0q f] false false 0, .blk g1 [.agg [.str [], .sl [] .nil, .sl [] .nil]] false false 0, .blk g2 ((x0r b).map eNode) true false 0, .blk g3 [.agg [.str f.name, .sl ((z5u (f.args.take i) 0).map z1b) t, .ob (B + 2) g2 0 1]] false false 0,o4,o5]∧z8k B 5 o5 t 2) ⟨.nil,_,_,h4,h5,h19,h20,h21,rfl, .inl rfl⟩ ?_ ?_
  ·clear h4 h5 h19 h20 h21
   rintro i hlt f1 f2 ts h clk P ⟨t,o4,o5,q4,q5,q19,q20,q21,rfl,ht⟩ hnx he hr
   dsimp only at q4 q5 q19 q20 q21
   have hix:∀ h,z1m h 1 (.sl (f.args.map nat) .no) (.int .i64 (i:Int))=some (.iptr [.int .i64 (f.args[i]:Int)] 0,h):=fun h=>z2f hlt rfl rfl
   have hp:=v9p (i:=i) (by omega)
   have ha:∀ h,z7d h .add (.one .str) (.str [112]) (.str [48 + i])=some (.str [112,48 + i],h):=fun h=>q3d (by simp)
   have e8:(z5u (f.args.take i) 0).map z1b++[(⟨[112,48 + i],f.args[i]⟩:Var)].map z1b=(z5u (f.args.take (i + 1)) 0).map z1b:=by
    rw[List.take_succ_eq_append_getElem hlt,q2m,List.map_append,List.length_take,Nat.zero_add,Nat.min_eq_left (by omega)]
   generalize f.args[i]=s at *
   simp only[go_sem,x5i,q4,q5,q19,q20,q21,hB,z1i,f1,hix,z0a hp,ha]
   rw[show [AV.agg [.str [112,48 + i], .int .i64 (s:Int)]]=[(⟨[112,48 + i],s⟩:Var)].map z1b from rfl,z0j hB rfl ht z2e z2e (by simp only[List.length_map,List.length_singleton,q1j,List.length_take];omega),e8]
   simp only[go_sem,q4,q5,q19,q20,q21,hB,f2]
   refine⟨by simp[z1f,apart,z0i,z1d,z1h,AOp.isCall,hB,AV.ids,idsL,z0c z2b], ?_⟩
   exact hnx _ ⟨_,_,_,q4,q5,q19,q20,rfl,rfl, .inr (.inr ⟨_,rfl,rfl⟩)⟩
  ·clear h4 h5 h19 h20 h21
   rintro f1 ts h clk P ⟨t,o4,o5,q4,q5,q19,q20,q21,rfl,ht⟩ he hr
   dsimp only at q4 q5 q19 q20 q21
   rw[List.take_length]
   simp only[go_sem,x5i,q4,q5,q19,q20,q21,hB,f1]
   exact he _ _ (hQ _ t _ _ _ (by simp[z0b,q4]) (by simp[z0b,q5]))
 have fin:∀ (ts':Tmps) (g1 g2 g3 clk':Nat) (t:Tip) (H:List AObj),z5a H (.ob (B + 2) g2 0 1)=some ((x0r b).map eNode)→RV [] (some [.agg [.str f.name, .sl ((z5u f.args 0).map z1b) t, .ob (B + 2) g2 0 1]]) T H:=fun ts' g1 g2 g3 clk' t H hs=>by
  refine⟨_,k8m hs,by simp[AV.ids,idsL,z0c z2b,z0c z1y],rfl,hT _⟩
 rw[z0q] at loop
 cases b
 ·simp only[go_sem,k3c,hB,z0q,x8j,List.length_map]
  refine loop _ _ _ _ _ _ _ _ _ _ rfl rfl rfl rfl rfl fun ts' t o4 o5 clk' r4 r5=> ?_
  simp only[go_sem,r4,r5,hB,z0n,z0m,z0g]
  exact fin ts' 0 _ 0 0 t _ (z9a hB rfl rfl)
 ·simp only[go_sem,k3c,hB,z0q,x8j,List.length_map,hix0,hst0]
  refine loop _ _ _ _ _ _ _ _ _ _ rfl rfl rfl rfl rfl fun ts' t o4 o5 clk' r4 r5=> ?_
  simp only[go_sem,r4,r5,hB,z0n,z0m,z0g]
  exact fin ts' 0 _ 0 0 t _ (z9a hB rfl rfl)
theorem k8o {f:Func} {b:Bool} (hf:f.args.length≤3):Pure Gam 72 [z0q f, .bool b] (z4j (q5o f b)):=by
 have p141:=q9h (b:=b)
 rw[z0l] at p141
 refine Pure.of rfl y0x rfl rfl rfl (az:=[z0q f, .bool b]) rfl (by simp[idsL,AV.ids,z2j]) fun D B clk T hB hT=> ?_
 simp only[go_sem,v1s,hB,z0q,z1i,z0a p141]
 refine⟨by simp[z1f,apart,z0i,z1d,z1h,AOp.isCall,hB], ?_⟩
 refine z6z f.args.length (by omega) (fun i q=>∃ (g0 g1 g2:Nat) (t:Tip) (o3 o4:AObj),q.ts 2= .ptr (B + 0) g0 0 0∧q.ts 4= .ptr (B + 1) g1 0 0∧q.ts 5= .ptr (B + 2) g2 0 0∧q.ts 6= .int .i64 (i:Int)∧q.h=D++[.blk g0 [.agg [.str f.name, .sl (f.args.map nat) .no, .int .i64 (f.result:Int)]] false false 0, .blk g1 [.agg [.str [], .sl [] .nil, .sl [] .nil]] false false 0, .blk g2 [.agg [.str f.name, .sl ((z5u (f.args.take i) 0).map z1b) t, .sl ((x0r b).map eNode) .no]] false false 0,o3,o4]∧z8k B 4 o4 t 2) ⟨_,_,_, .nil,_,_,rfl,rfl,rfl,rfl,rfl, .inl rfl⟩ ?_ ?_
 ·rintro i hlt f1 f2 ts h clk P ⟨g0,g1,g2,t,o3,o4,q2,q4,q5,q6,rfl,ht⟩ hnx he hr
  dsimp only at q2 q4 q5 q6
  have hix:∀ h,z1m h 1 (.sl (f.args.map nat) .no) (.int .i64 (i:Int))=some (.iptr [.int .i64 (f.args[i]:Int)] 0,h):=fun h=>z2f hlt rfl rfl
  have hp:=q0j (n:=(i:Int)) (by omega) (by omega)
  rw[z6a (by omega)] at hp
  have ha:∀ h,z7d h .add (.one .str) (.str [112]) (.str [48 + i])=some (.str [112,48 + i],h):=fun h=>q3d (by simp)
  have e8:(z5u (f.args.take i) 0).map z1b++[(⟨[112,48 + i],f.args[i]⟩:Var)].map z1b=(z5u (f.args.take (i + 1)) 0).map z1b:=by
   rw[List.take_succ_eq_append_getElem hlt,q2m,List.map_append,List.length_take,Nat.zero_add,Nat.min_eq_left (by omega)]
  generalize f.args[i]=s at *
  simp only[go_sem,j1j,q2,q4,q5,q6,hB,z1i,f1,List.length_map,hix,z0a hp,ha]
  rw[show [AV.agg [.str [112,48 + i], .int .i64 (s:Int)]]=[(⟨[112,48 + i],s⟩:Var)].map z1b from rfl,z0j hB rfl ht z2e z2e (by simp only[List.length_map,List.length_singleton,q1j,List.length_take];omega),e8]
  simp only[go_sem,q2,q4,q5,q6,hB,f2]
  refine⟨by simp[z1f,apart,z0i,z1d,z1h,AOp.isCall,hB,AV.ids,idsL,z0c z2b,z0c (fun _=>z3c)], ?_⟩
  exact hnx _ ⟨g0,g1,g2,_,_,_,q2,q4,q5,rfl,rfl, .inr (.inr ⟨_,rfl,rfl⟩)⟩
 ·rintro f1 ts h clk P ⟨g0,g1,g2,t,o3,o4,q2,q4,q5,q6,rfl,ht⟩ he hr
  dsimp only at q2 q4 q5 q6
  rw[List.take_length]
  simp only[go_sem,j1j,q2,q4,q5,q6,hB,f1,List.length_map]
  refine he _ _ ?_
  simp only[go_sem,q2,q4,q5,hB,z0n,z0m,z0g]
  rw[z2x rfl (by simp[AV.cv,cvL,AV.ids,idsL,z0c z2b,z0c z1y])]
  exact hT _
theorem j7d {un und:List (List Nat)} {c:Clause} (h:z5d un und c=some true):c.head.pred∉un∧c.head.pred∉und∧∀ a∈c.body,a.pred∉un∧a.pred∉und:=by
 unfold z5d at h
 split at h
 ·cases h
 ·split at h
  ·cases h
  ·rename_i h1 h2
   split at h
   ·cases h
   ·rename_i h3
    rw[not_or] at h2
    simp only[List.mem_append,not_or,List.any_eq_true,decide_eq_true_eq,not_exists,not_and] at h2 h3
    exact⟨h2.1.1,h2.1.2,fun a ha=>⟨h3 a ha,h2.2 a ha⟩⟩
theorem q6j {x:Tf} {ps:List Func} {f:Func}:f∈z2k x ps↔f∈ps∧f.name∉x.un∧f.name∉x.und:=by
 simp only[z2k,List.mem_filter,Bool.not_eq_true',Bool.or_eq_false_iff,decide_eq_false_iff_not]
theorem AppOk.keepX {x:Tf} {ps:List Func} {V:List Var} {a:App} (h:AppOk ps V a) (h1:a.pred∉x.un) (h2:a.pred∉x.und):AppOk (z2k x ps) V a:=by
 obtain⟨f,hf,hn,hl,ha⟩:=h
 exact⟨f,q6j.2 ⟨hf,hn ▸ h1,hn ▸ h2⟩,hn,hl,ha⟩
theorem x0s {s:Sys} {x:Tf} (hs:SysV s):SysV (z7v x s):=by
 refine⟨List.filter_sublist.trans hs.preds,Nat.le_trans (List.length_filter_le _ _) hs.len,fun c hc=> ?_⟩
 simp only[z7v,z6r,List.mem_filter,decide_eq_true_eq] at hc
 obtain⟨h1,h2,h3⟩:=j7d hc.2
 obtain⟨g1,g2,g3,g4,g5⟩:=hs.clauses c hc.1
 refine⟨g1,g2,fun a ha=>(g3 a ha).keepX (h3 a ha).1 (h3 a ha).2,g4, ?_⟩
 rcases g5 with g5 | g5
 ·exact .inl g5
 ·exact .inr (g5.keepX h1 h2)
theorem v9q:SysV x0n:=⟨List.nil_sublist _,by simp[x0n],by simp[x0n]⟩
theorem q7t {s:Sys} {x:Tf} (hs:SysV s):SysV (z2i s x).1:=by
 rcases x8h (s:=s) (x:=x) with h | h <;> rw[h]
 ·exact v9q
 ·exact x0s hs
theorem x0t {s:Sys} {x:Tf} (h:(z2i s x).2=0):(z2i s x).1=z7v x s:=by
 cases hu:q2l x with
 | false=>rw[z7k hu] at h;cases h
 | true=>
   by_cases hn:q6i s x
   ·cases hk:z6m x.un x.und s.clauses 0 [] with
    | none=>rw[z7l hu hn hk] at h;cases h
    | some out=>rw[z7m hu hn hk]
   ·rw[z6s hu hn] at h;cases h
def z7b (x:Tf) (n:List Nat):Bool:=decide (n∈x.un) || decide (n∈x.und)
def v9r:Def:=⟨[],[],[]⟩
def k8p (m:List Def) (n:List Nat):Def:=(m.find? fun d=>decide (d.pred=n)).getD v9r
def z9x (x:Tf) (m:List Def) (f:Func):Def:=if z7b x f.name=true then q5o f (decide (f.name∈x.un)) else k8p m f.name
noncomputable def q3g (s:Sys) (x:Tf) (m:List Def):List Def×Int:=
 if (z2i s x).2≠0 then ([],(z2i s x).2) else if z4x (z2i s x).1 m=false then ([],1) else (s.preds.map (z9x x m),0)
noncomputable def x1j (s:Sys) (x:Tf) (m:List Def):List Def×Int:=
 if (z2i s x).2≠0 then ([],(z2i s x).2) else if z4x s m=false then ([],1) else (m.filter fun d=> !z7b x d.pred,0)
theorem j4o {m:List Def} {j:Nat} (hj:j < m.length) (hn:(m.map (·.pred)).Nodup):k8p m m[j].pred=m[j]:=by
 have:m.find? (fun d=>decide (d.pred=m[j].pred))=some m[j]:=by
  rw[List.find?_eq_some_iff_getElem]
  refine⟨by simp,j,hj,rfl,fun k hk=> ?_⟩
  have hne:m[k].pred≠m[j].pred:=fun e=>by
   have:=(List.getElem_inj (xs:=m.map (·.pred)) (i:=k) (j:=j) (h₀:=by simp;omega) (h₁:=by simpa using hj) hn).1 (by simpa using e)
   omega
  simp[hne]
 rw[k8p,this]
 rfl
theorem j1o {x:Tf} {ps:List Func} {i:Nat} (hi:i < ps.length) (hg:z7b x ps[i].name=false):(z2k x ps)[(z2k x (ps.take i)).length]? =some ps[i]∧z2k x (ps.take (i + 1))=z2k x (ps.take i)++[ps[i]]:=by
 have hf:(!(decide (ps[i].name∈x.un) || decide (ps[i].name∈x.und)))=true:=by
  unfold z7b at hg
  rw[hg];rfl
 refine⟨?_, ?_⟩
 ·have e:ps=ps.take i++ps[i]::ps.drop (i + 1):=by rw[←List.drop_eq_getElem_cons hi,List.take_append_drop]
  have:z2k x ps=z2k x (ps.take i)++ps[i]::z2k x (ps.drop (i + 1)):=by
   conv=>lhs;rw[e]
   unfold z2k
   rw[List.filter_append,List.filter_cons,if_pos hf]
  rw[this,List.getElem?_append_right (Nat.le_refl _),Nat.sub_self]
  rfl
 ·unfold z2k
  rw[List.take_succ_eq_append_getElem hi,List.filter_append,List.filter_cons,if_pos hf]
  rfl
theorem j7e {x:Tf} {ps:List Func} {i:Nat} (hi:i < ps.length) (hg:z7b x ps[i].name=true):z2k x (ps.take (i + 1))=z2k x (ps.take i):=by
 unfold z7b at hg
 unfold z2k
 rw[List.take_succ_eq_append_getElem hi,List.filter_append,List.filter_cons,hg]
 simp
theorem j7f {D L:List AObj} {B p q e b gen:Nat} {xs ys:List AV} {t u:Tip} {o o':AObj} (hB:D.length=B) (hp:L[p]? =some o) (hq:L[q]? =some o') (ht:z8k B p o t e∨z8k B q o' t e) (hx:z0t e xs=true) (hy:z0t e ys=true) (hl:(xs.length + ys.length) * (b + 1)≤2 ^ 46):
  ∃ L',(L'=L∨L'=L.set q .dead)∧z1g (D++L) (B + p) gen e b false (.sl xs t) (.sl ys u)=some (.sl (xs++ys) (.at (B + p) gen),D++L'.set p (.tip gen e)):=by
 rcases ht with ht | rfl | rfl | ⟨g,rfl,rfl⟩
 ·exact⟨L, .inl rfl,z0j hB hp ht hx hy hl⟩
 ·exact⟨L, .inl rfl,z0j hB hp (.inl rfl) hx hy hl⟩
 ·exact⟨L, .inl rfl,z0j hB hp (.inr (.inl rfl)) hx hy hl⟩
 ·exact⟨_, .inr rfl,q2w hB hq hx hy hl⟩
theorem j4p {D L:List AObj} {B p q e b gen d g clk:Nat} {xs ys:List AV} {t u:Tip} {o o':AObj} {f:List Nat×List Nat} {m:Md} {os:List AOper} {ts:Tmps} {ks:List Kf} {Q:Post} (hB:D.length=B) (hp:L[p]? =some o) (hq:L[q]? =some o') (ht:z8k B p o t e∨z8k B q o' t e) (hx:z0t e xs=true) (hy:z0t e ys=true) (hl:(xs.length + ys.length) * (b + 1)≤2 ^ 46)
  (hQ:∀ L',(L'=L∨L'=L.set q .dead)→O Gam B (m.add f) (g + 1) os ⟨upd ts d (.sl (xs++ys) (.at (B + p) gen)),D++L'.set p (.tip gen e),clk⟩ ks Q):PO Gam B (z1g (D++L) (B + p) gen e b false (.sl xs t) (.sl ys u)) f m (some d) g os ts clk ks Q:=by
 obtain⟨L',h1,h2⟩:=j7f (b:=b) (gen:=gen) (u:=u) hB hp hq ht hx hy hl
 rw[h2]
 exact hQ L' h1
theorem x8k {x:Tf} {m:List Def} {ps:List Func} {i:Nat} (hi:i < ps.length):((ps.take i).map (z9x x m)).map z4j++[z9x x m ps[i]].map z4j=((ps.take (i + 1)).map (z9x x m)).map z4j:=by
 rw[List.take_succ_eq_append_getElem hi,List.map_append,List.map_append]
 rfl
theorem q2x {d:Def}:[AV.agg [.str d.pred, .sl (d.params.map z1b) .no, .sl (d.body.map eNode) .no]]=[d].map z4j:=rfl
theorem k3g {s:Sys} {x:Tf} {m:List Def} {B clk g0 gx g3 g5:Nat} {D:List AObj} {o2 o4 o6 o7 o8 o9 o10:AObj} {ts:Tmps} {ks:List Kf} {Q:Post} (hB:D.length=B) (hs:SysV s) (hx:TfS x) (hml:m.length≤1000) (hsh:m.map (·.pred)=(z2k x s.preds).map (·.name)) (h3:ts 3= .ptr (B + 0) g0 0 0) (h4:ts 4= .ptr (B + 1) gx 0 0) (h6:ts 6= .ptr (B + 3) g3 0 0) (h10:ts 10= .ptr (B + 5) g5 0 0) (h11:ts 11= .sl (m.map z4j) .no) (h35:ts 35= .sl (s.preds.map z0q) .no) (h36:ts 36= .int .i64 (s.preds.length:Int)) (h37:ts 37= .int .i64 0)
  (hQ:∀ (ts':Tmps) (t:Tip) (o6 o7 o8 o9 o10:AObj) (clk':Nat),ts' 6= .ptr (B + 3) g3 0 0→ts' 10= .ptr (B + 5) g5 0 0→K Gam B (.exit 1) ks ⟨ts',D++[.blk g0 [z0x s] false false 0, .blk gx [eTf x] false false 0,o2, .blk g3 [.agg [.sl [] .nil]] false false 0,o4, .blk g5 [.agg [.sl ((s.preds.map (z9x x m)).map z4j) t]] false false 0,o6,o7,o8,o9,o10],clk'⟩ Q):
  K Gam B (.loop x0p) ks ⟨ts,D++[.blk g0 [z0x s] false false 0, .blk gx [eTf x] false false 0,o2, .blk g3 [.agg [.sl [] .nil]] false false 0,o4, .blk g5 [.agg [.sl [] .nil]] false false 0,o6,o7,o8,o9,o10],clk⟩ Q:=by
 have hpl:=hs.pl
 have hnd:(m.map (·.pred)).Nodup:=by
  rw[hsh]
  exact hs.pr.nodup.sublist (List.filter_sublist.map _)
 have hlen:m.length=(z2k x s.preds).length:=by simpa using congrArg List.length hsh
 refine z6z s.preds.length (by omega) (fun i q=>∃ (t u:Tip) (o6 o7 o8 o9 o10:AObj),q.ts 3= .ptr (B + 0) g0 0 0∧q.ts 4= .ptr (B + 1) gx 0 0∧q.ts 6= .ptr (B + 3) g3 0 0∧q.ts 10= .ptr (B + 5) g5 0 0∧q.ts 11= .sl ((m.drop (z2k x (s.preds.take i)).length).map z4j) u∧q.ts 35= .sl (s.preds.map z0q) .no∧q.ts 36= .int .i64 (s.preds.length:Int)∧q.ts 37= .int .i64 (i:Int)∧q.h=D++[.blk g0 [z0x s] false false 0, .blk gx [eTf x] false false 0,o2, .blk g3 [.agg [.sl [] .nil]] false false 0,o4, .blk g5 [.agg [.sl (((s.preds.take i).map (z9x x m)).map z4j) t]] false false 0,o6,o7,o8,o9,o10]∧(z8k B 8 o8 t 3∨z8k B 10 o10 t 3)) ⟨.nil,_,_,_,_,_,_,h3,h4,h6,h10,h11,h35,h36,h37,rfl, .inl (.inl rfl)⟩ ?_ ?_
 ·clear h3 h4 h6 h10 h11 h35 h36 h37
  rintro i hlt f1 f2 ts h clk P ⟨t,u,o6,o7,o8,o9,o10,q3,q4,q6,q10,q11,q35,q36,q37,rfl,ht⟩ hnx he hr
  dsimp only at q3 q4 q6 q10 q11 q35 q36 q37
  have hix:=fun h=>z6g (l:=s.preds) (i:=i) (h:=h) (t:= .no) (k:= .i64) hlt
  have e8:=x8k (x:=x) (m:=m) hlt
  have hf:=hs.preds.mem (List.getElem_mem hlt)
  have hal:s.preds[i].args.length≤3:=by
   have h1:=congrArg List.length (q3f _ hf).2.2.2
   have h2:=(q3f _ hf).2.2.1
   simp at h1
   omega
  have p49:=k2b (x:=x) (a:=s.preds[i].name) hx.ok
  have p91:=x3e (l:=x.un) (a:=s.preds[i].name) (u:= .no) (by have:=hx.un;omega)
  have p1018:=k8n (f:=s.preds[i]) (b:=decide (s.preds[i].name∈x.un)) hal
  have hksk:=j7e (x:=x) hlt
  have hksp:=j1o (x:=x) hlt
  rw[eTf] at p49
  cases hg:z7b x s.preds[i].name with
  | true=>
    rw[z0q,z4j,nat] at p1018
    have hbd:z9x x m s.preds[i]=q5o s.preds[i] (decide (s.preds[i].name∈x.un)):=by rw[z9x,if_pos hg]
    have hg':=hg
    unfold z7b at hg'
    rw[hg'] at p49
    rw[hbd] at e8
    have hk:=hksk hg
    rw[←hk] at q11
    generalize q5o s.preds[i] (decide (s.preds[i].name∈x.un))=d at *
    generalize s.preds[i]=f at *
    simp only[go_sem,x0p,z0x,eTf,q3,q4,q6,q10,q11,q35,q36,q37,hB,f1,z1i,hix,z0a p49,z0a p91,z0a p1018]
    rw[q2x]
    refine j4p (q:=10) hB rfl rfl ht z1v z1v (by simp only[List.length_map,List.length_singleton,List.length_take];omega) fun L' hL=> ?_
    rw[e8]
    rcases hL with rfl | rfl
    all_goals
     simp only[go_sem,q3,q4,q6,q10,q11,q35,q36,q37,hB,f2]
     refine⟨by simp[z1f,apart,z0i,z1d,z1h,AOp.isCall,hB,AV.ids,idsL,z2d], ?_⟩
     exact hnx _ ⟨_,u,_,_,_,_,_,q3,q4,q6,q10,q11,q35,q36,rfl,rfl, .inl (.inr (.inr ⟨_,rfl,rfl⟩))⟩
  | false=>
    have hg':=hg
    unfold z7b at hg'
    rw[hg'] at p49
    obtain⟨hat,hk⟩:=hksp hg
    have hj:(z2k x (s.preds.take i)).length < m.length:=by
     rw[hlen]
     rw[List.getElem?_eq_some_iff] at hat
     exact hat.1
    have hname:m[(z2k x (s.preds.take i)).length].pred=s.preds[i].name:=by
     have h1:=congrArg (fun l=>l[(z2k x (s.preds.take i)).length]?) hsh
     simp only[List.getElem?_map,hat,Option.map_some] at h1
     rw[List.getElem?_eq_getElem hj] at h1
     simpa using h1
    have hbd:z9x x m s.preds[i]=m[(z2k x (s.preds.take i)).length]:=by
     rw[z9x,if_neg (by rw[hg];simp),←hname]
     exact j4o hj hnd
    have hkl:(z2k x (s.preds.take (i + 1))).length=(z2k x (s.preds.take i)).length + 1:=by rw[hk];simp
    have hdr:m.drop (z2k x (s.preds.take i)).length=m[(z2k x (s.preds.take i)).length]::m.drop (z2k x (s.preds.take (i + 1))).length:=by rw[hkl];exact List.drop_eq_getElem_cons hj
    rw[hbd] at e8
    rw[hdr] at q11
    generalize m[(z2k x (s.preds.take i)).length]=d at *
    generalize m.drop (z2k x (s.preds.take (i + 1))).length=rest at *
    have hix0:∀ h,z1m h 3 (.sl (z4j d::rest.map z4j) u) (.int .i64 0)=some (.iptr [.str d.pred, .sl (d.params.map z1b) .no, .sl (d.body.map eNode) .no] 0,h):=fun h=>q1i (l:=d::rest) (i:=0) (t:=u) (k:= .i64) (by simp)
    have hcut:∀ h,slV h (some 3) (.sl (z4j d::rest.map z4j) u) (some (.int .i64 1)) none none=some (.sl (rest.map z4j) (if u= .nil then .nil else u),h):=fun h=>x5f (n:=1) (xs:=z4j d::rest.map z4j) (by simp) rfl
    generalize s.preds[i]=f at *
    simp only[go_sem,x0p,z0x,eTf,q3,q4,q6,q10,q11,q35,q36,q37,hB,f1,z1i,hix,z0a p49,hix0]
    rw[q2x]
    refine j4p (q:=8) hB rfl rfl ht.symm z1v z1v (by simp only[List.length_map,List.length_singleton,List.length_take];omega) fun L' hL=> ?_
    rw[e8]
    rcases hL with rfl | rfl
    all_goals
     simp only[go_sem,q3,q4,q6,q10,q11,q35,q36,q37,hB,f2,hcut,Option.map_none]
     refine⟨by simp[z1f,apart,z0i,z1d,z1h,AOp.isCall,hB,AV.ids,idsL,z2d,z0c z3m,z0c z2b,z0c z1y], ?_⟩
     exact hnx _ ⟨_,_,_,_,_,_,_,q3,q4,q6,q10,rfl,q35,q36,rfl,rfl, .inr (.inr (.inr ⟨_,rfl,rfl⟩))⟩
 ·clear h3 h4 h6 h10 h11 h35 h36 h37
  rintro f1 ts h clk P ⟨t,u,o6,o7,o8,o9,o10,q3,q4,q6,q10,q11,q35,q36,q37,rfl,ht⟩ he hr
  dsimp only at q3 q4 q6 q10 q11 q35 q36 q37
  rw[List.take_length]
  simp only[go_sem,x0p,q3,q4,q6,q10,q11,q35,q36,q37,f1]
  exact he _ _ (hQ _ t _ _ _ _ _ _ (by simp[z0b,q6]) (by simp[z0b,q10]))
theorem k8q {s:Sys} {x:Tf} {m:List Def} (hs:SysV s) (hx:TfS x) (hm:∀ d∈m,DOk d) (hml:m.length≤1000):Pure Gam 19 [z0x s,eTf x,z5l m] (.tup [z5l (q3g s x m).1, .int .i64 (q3g s x m).2]):=by
 have p24:=k3a hs hx
 have p1016:=j4l (s:=(z2i s x).1) (m:=m) (q7t hs) hm hml
 have p1017:=k8c (m:=m) hml fun d hd=>(hm d hd).ok.s
 rw[z0x,eTf,z0x] at p24
 rw[z0x,z5l] at p1016
 rw[z5l] at p1017
 have hi:=z0c (l:=s.preds.map (z9x x m)) z3m
 have h0:=x0t (s:=s) (x:=x)
 refine Pure.of rfl y0n rfl rfl rfl (az:=[z0x s,eTf x,z5l m]) rfl (by simp[idsL,z2c,z6y hx.ok,z7a]) fun D B clk T hB hT=> ?_
 unfold q3g at hT
 by_cases he:(z2i s x).2=0
 ·rw[if_neg (not_not_intro he)] at hT
  rw[he] at p24
  cases hsh:z4x (z2i s x).1 m with
  | false=>
    rw[if_pos hsh] at hT
    rw[hsh] at p1016
    simp only[go_sem,j4e,hB,z0x,eTf,z5l,z0a p24,decide_true,Bool.not_true,z0a p1016,Bool.not_false,z0n,z0m,z0g]
    rw[z0h rfl (by simp[z1k,AV.cv,cvL,AV.ids,idsL])]
    exact hT _
  | true=>
    rw[if_neg (by rw[hsh];simp)] at hT
    rw[hsh] at p1016
    have hsh':m.map (·.pred)=(z2k x s.preds).map (·.name):=by
     unfold z4x at hsh
     rw[decide_eq_true_iff,h0 he] at hsh
     exact hsh
    simp only[go_sem,j4e,hB,z0x,eTf,z5l,z0a p24,decide_true,Bool.not_true,z0a p1016,z0a p1017,List.length_map]
    refine k3g (s:=s) (x:=x) (m:=m) hB hs hx hml hsh' rfl rfl rfl rfl rfl rfl rfl rfl fun ts' t o6 o7 o8 o9 o10 clk' r6 r10=> ?_
    simp only[go_sem,r6,r10,hB,z0n,z0m,z0g]
    rw[z0h rfl (by simp[-List.map_map,z1k,AV.cv,cvL,AV.ids,idsL,hi])]
    exact hT _
 ·rw[if_pos he] at hT
  simp only[go_sem,j4e,hB,z0x,eTf,z5l,z0a p24,decide_eq_false he,Bool.not_false,z0n,z0m,z0g]
  rw[z0h rfl (by simp[z1k,AV.cv,cvL,AV.ids,idsL])]
  exact hT _
theorem k8r {s:Sys} {x:Tf} {m:List Def} (hs:SysV s) (hx:TfS x) (hm:∀ d∈m,DOk d) (hml:m.length≤1000):Pure Gam 27 [z0x s,eTf x,z5l m] (.tup [z5l (x1j s x m).1, .int .i64 (x1j s x m).2]):=by
 have p24:=k3a hs hx
 have p1016:=j4l (s:=s) (m:=m) hs hm hml
 rw[z0x,eTf,z0x] at p24
 rw[z0x,z5l] at p1016
 refine Pure.of rfl y0p rfl rfl rfl (az:=[z0x s,eTf x,z5l m]) rfl (by simp[idsL,z2c,z6y hx.ok,z7a]) fun D B clk T hB hT=> ?_
 unfold x1j at hT
 by_cases he:(z2i s x).2=0
 ·rw[if_neg (not_not_intro he)] at hT
  rw[he] at p24
  cases hsh:z4x s m with
  | false=>
    rw[if_pos hsh] at hT
    rw[hsh] at p1016
    simp only[go_sem,j4g,hB,z0x,eTf,z5l,z0a p24,decide_true,Bool.not_true,z0a p1016,Bool.not_false,z0n,z0m,z0g]
    rw[z0h rfl (by simp[z1k,AV.cv,cvL,AV.ids,idsL])]
    exact hT _
  | true=>
    rw[if_neg (by rw[hsh];simp)] at hT
    rw[hsh] at p1016
    simp only[go_sem,j4g,hB,z0x,eTf,z5l,z0a p24,decide_true,Bool.not_true,z0a p1016,List.length_map]
    refine z6z m.length (by omega) (fun i q=>∃ (g0 gx g2 g3 g4 g5:Nat) (v4:AV) (t:Tip) (o6 o7 o8:AObj),q.ts 4= .ptr (B + 1) gx 0 0∧q.ts 6= .ptr (B + 3) g3 0 0∧q.ts 10= .ptr (B + 5) g5 0 0∧q.ts 31= .sl (m.map z4j) .no∧q.ts 32= .int .i64 (m.length:Int)∧q.ts 33= .int .i64 (i:Int)∧q.h=D++[.blk g0 [.agg [.sl (s.preds.map z0q) .no, .sl (s.clauses.map z0f) .no]] false false 0, .blk gx [eTf x] false false 0, .blk g2 [.agg [.sl (m.map z4j) .no]] false false 0, .blk g3 [.agg [.sl [] .nil]] false false 0, .blk g4 [v4] false false 0, .blk g5 [.agg [.sl (((m.take i).filter fun d=> !z7b x d.pred).map z4j) t]] false false 0,o6,o7,o8]∧z8k B 8 o8 t 3) ⟨_,_,_,_,_,_,_, .nil,_,_,_,rfl,rfl,rfl,rfl,rfl,rfl,rfl, .inl rfl⟩ ?_ ?_
    ·rintro i hlt f1 f2 ts h clk P ⟨g0,gx,g2,g3,g4,g5,v4,t,o6,o7,o8,q4,q6,q10,q31,q32,q33,rfl,ht⟩ hnx he' hr
     dsimp only at q4 q6 q10 q31 q32 q33
     have hix:=fun h=>q1i (l:=m) (i:=i) (h:=h) (t:= .no) (k:= .i64) hlt
     have p49:=k2b (x:=x) (a:=m[i].pred) hx.ok
     have p1027:=j4i (u:= .no) (v:= .no) (hm _ (List.getElem_mem hlt)).ok.s
     have htk:(m.take (i + 1)).filter (fun d=> !z7b x d.pred)=(m.take i).filter (fun d=> !z7b x d.pred)++(if z7b x m[i].pred=true then [] else [m[i]]):=by
      rw[List.take_succ_eq_append_getElem hlt,List.filter_append,List.filter_cons]
      cases hg:z7b x m[i].pred <;> simp
     have hfl:((m.take i).filter fun d=> !z7b x d.pred).length≤1000:=Nat.le_trans (List.length_filter_le _ _) (by rw[List.length_take];omega)
     rw[eTf] at p49
     rw[z4j] at p1027
     generalize m[i]=d at *
     cases hg:z7b x d.pred with
     | true=>
       rw[if_pos hg,List.append_nil] at htk
       unfold z7b at hg
       rw[hg] at p49
       simp only[go_sem,x5h,eTf,q4,q6,q10,q31,q32,q33,hB,f1,f2,hix,z0a p49,Bool.not_true]
       exact hnx _ ⟨g0,gx,g2,g3,g4,g5,v4,t,_,_,_,q4,q6,q10,q31,q32,rfl,by rw[htk];rfl,ht⟩
     | false=>
       rw[if_neg (by rw[hg];simp)] at htk
       unfold z7b at hg
       rw[hg] at p49
       have e8:((m.take i).filter fun d=> !z7b x d.pred).map z4j++[d].map z4j=((m.take (i + 1)).filter fun d=> !z7b x d.pred).map z4j:=by rw[htk,List.map_append]
       simp only[go_sem,x5h,eTf,q4,q6,q10,q31,q32,q33,hB,f1,hix,z1i,z0a p49,Bool.not_false,z0a p1027]
       rw[q2x,z0j hB rfl ht z1v z1v (by simp only[List.length_map,List.length_singleton];omega),e8]
       simp only[go_sem,q4,q6,q10,q31,q32,q33,hB,f2]
       refine⟨by simp[z1f,apart,z0i,z1d,z1h,AOp.isCall,hB,AV.ids,idsL,z0c z3m,z0c z2b,z0c z1y], ?_⟩
       exact hnx _ ⟨g0,gx,g2,g3,g4,g5,v4,_,_,_,_,q4,q6,q10,q31,q32,rfl,rfl, .inr (.inr ⟨_,rfl,rfl⟩)⟩
    ·rintro f1 ts h clk P ⟨g0,gx,g2,g3,g4,g5,v4,t,o6,o7,o8,q4,q6,q10,q31,q32,q33,rfl,ht⟩ he' hr
     dsimp only at q4 q6 q10 q31 q32 q33
     rw[List.take_length]
     simp only[go_sem,x5h,q4,q6,q10,q31,q32,q33,hB,f1]
     refine he' _ _ ?_
     simp only[go_sem,q6,q10,hB,z0n,z0m,z0g]
     rw[z0h rfl (by simp[z1k,AV.cv,cvL,AV.ids,idsL,z0c z3m])]
     exact hT _
 ·rw[if_pos he] at hT
  simp only[go_sem,j4g,hB,z0x,eTf,z5l,z0a p24,decide_eq_false he,Bool.not_false,z0n,z0m,z0g]
  rw[z0h rfl (by simp[z1k,AV.cv,cvL,AV.ids,idsL])]
  exact hT _
end Go.Proofs.YtahdahokpjigiaaGreatDoor.Am
