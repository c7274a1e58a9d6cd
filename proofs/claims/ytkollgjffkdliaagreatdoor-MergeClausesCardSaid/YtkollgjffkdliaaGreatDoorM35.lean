/- Walking: models are mapped forward Walking: MergeApply Walking: MergeModels Walking: two predicates that match are q8j What becomes of clauses when a model is mapped forward: plain law Walking: smal -/
import Derived.Test.YtkollgjffkdliaaGreatDoorM34
open Bool renaming and_eq_true → b8,not_eq_true' → p7,not_false → j5,not_true → z7
open Int renaming reduceEq → z8
open List renaming append_nil → u5,getElem_mem → j9,length_append → y5,length_map → z6,length_singleton → w0,length_take → b6,map_append → v5,mem_filter → l4,mem_iff_getElem → t4,mem_map → y8,mem_singleton → u7,take_length → u4
open Nat renaming le_trans → w9,sub_self → d8
set_option linter.all false
namespace Go.Proofs.YtkollgjffkdliaaGreatDoor.Am
open Go
set_option maxRecDepth 100000
theorem k6v {x:Tf} {b:Term} {m:List Def} {i:Nat} (hi:i < m.length):q8i x b (m.take (i + 1))=q8i x b (m.take i)++if m[i].pred=x.pred then [] else [k6s x b m[i]]:=by
 unfold q8i w6s
 rw[List.take_succ_eq_append_getElem hi,List.filter_append,v5,List.filter_cons]
 by_cases h:m[i].pred=x.pred <;> simp[h]
theorem u0u {D L:List AObj} {B p q e b gen d g clk:Nat} {xs ys:List AV} {t u:Tip} {o o':AObj} {os:List AOper} {ts:Tmps} {ks:List Kf} {Q:Post} (hB:D.length=B) (hp:L[p]? =some o) (hq:L[q]? =some o') (ht:z8x B p o t e∨z8x B q o' t e) (hx:z0n e xs=true) (hy:z0n e ys=true) (hl:(xs.length + ys.length) * (b + 1)≤2 ^ 46)
  (hQ:∀ L',(L'=L∨L'=L.set q .dead)→O Gam B .plain (g + 1) os ⟨upd ts d (.sl (xs++ys) (.at (B + p) gen)),D++L'.set p (.tip gen e),clk⟩ ks Q):PP Gam B (z0r (D++L) (B + p) gen e b false (.sl xs t) (.sl ys u)) (some d) g os ts clk ks Q:=by
 obtain⟨L',h1,h2⟩:=x4w (b:=b) (gen:=gen) (u:=u) hB hp hq ht hx hy hl
 rw[h2]
 exact hQ L' h1
theorem v3r {s:Sys} {x:Tf} {m:List Def} (hs:SysV s) (hcs:∀ c∈s.clauses,CmpC c) (hx:TfS x) (hxp:MOk s x→x.pred=[78]∧x.into=[80]) (hmv:SysV (z5i s x).1) (hm:∀ d∈m,DOk d) (hn:∀ d∈m,GT d.params 1 6 396 d.body) (hml:m.length≤1000):Pure Gam 23 [z2i s,eTf x,z9v m] (.tup [z9v (k6t s x m).1, .int .i64 (k6t s x m).2]):=by
 have p15:=v7q hs hcs hx
 have p1016:=j7i (s:=s) (m:=m) hs hm hml
 rw[z2i,eTf,z2i] at p15
 rw[z2i,z9v] at p1016
 have h0:=j3s (s:=s) (x:=x)
 have hpl:=hs.pl
 refine Pure.of rfl u0s rfl rfl rfl (az:=[z2i s,eTf x,z9v m]) rfl (by simp[idsL,z3n,j0n hx.ok,q4w]) fun D B clk T hB hT=> ?_
 unfold k6t at hT
 by_cases he:(z5i s x).2=0
 ·rw[if_neg (not_not_intro he)] at hT
  rw[he] at p15
  cases hsh:z5s s m with
  | false=>
    rw[if_pos hsh] at hT
    rw[hsh] at p1016
    simp only[go_sem,j7u,hB,z2i,eTf,z9v,z0a p15,decide_true,z7,z0a p1016,j5,z0m,z0l,z0f]
    rw[z0h rfl (by simp[z1j,AV.cv,cvL,AV.ids,idsL])]
    exact hT _
  | true=>
    rw[if_neg (by rw[hsh];simp)] at hT
    rw[hsh] at p1016
    obtain⟨hr,hM⟩:=h0 he
    obtain⟨hx1,hx2⟩:=hxp hM
    have hsh':m.map (·.pred)=s.preds.map (·.name):=by
     unfold z5s at hsh
     exact of_decide_eq_true hsh
    have hR:(z5i s x).1.preds=q6i x s.preds:=by rw[hr];rfl
    have hne:x.into≠x.pred:=by rw[hx1,hx2];decide
    have hpr:x.pred∈m.map (·.pred):=by
     obtain⟨f,g,hf,_,e1,_⟩:=hM
     rw[hsh']
     exact e1 ▸ List.mem_map_of_mem hf
    have hin:x.into∈m.map (·.pred):=by
     obtain⟨f,g,_,hg,_,e2,_⟩:=hM
     rw[hsh']
     exact e2 ▸ List.mem_map_of_mem hg
    have hnd:(m.map (·.pred)).Nodup:=by rw[hsh'];exact hs.pr.nodup
    have hdf:∀ n∈m.map (·.pred),z5y m n∈m∧(z5y m n).pred=n:=fun n hn=>by
     obtain⟨d,hd,e⟩:=y8.1 hn
     obtain⟨i,hi,rfl⟩:=t4.1 hd
     rw[←e,z9w hi hnd]
     exact⟨hd,rfl⟩
    obtain⟨hi1,hi2⟩:=hdf _ hin
    obtain⟨ho1,ho2⟩:=hdf _ hpr
    have hpar:=q4x (hm _ hi1) (hm _ ho1) (by rw[hi2,hx2]) (by rw[ho2,hx1])
    have hfw:=k6u hx2 hm hn ho1 (by rw[ho2,hx1])
    have hfl:(q8i x (z5y m x.pred).body m).length≤1000:=by
     rw[q8i,z6]
     exact w9 (List.length_filter_le _ _) hml
    have hfs:z5s (z5i s x).1 (q8i x (z5y m x.pred).body m)=true:=by
     unfold z5s
     rw[hR,q7k hsh',decide_eq_true rfl]
    have p1030a:=j7s hml hnd hin
    have p1030b:=j7s hml hnd hpr
    have hdi:=(hm _ hi1).ok
    have hgo:=hn _ ho1
    rw[hpar] at hgo
    have p1029:=v3k hpar hdi.u (fun n hn=>by
     obtain⟨v,hv,rfl⟩:=y8.1 hn
     exact hdi.u.name v hv) hdi.nd hdi.len (hn _ hi1) hgo
    have p1031:=fun u=>v3q (u:=u) hmv hfw hfl hfs
    have hat:∀ i (h:i < m.length),m[i].pred=x.into→z5y m x.into=m[i]:=fun i h e=>by rw[←e,z9w h hnd]
    rw[z9v] at p1030a p1030b
    rw[z5l] at p1030a p1030b
    rw[z5l,z5l,z5l] at p1029
    rw[z2i] at p1031
    generalize hI:z5y m x.into=dI at *
    generalize z5y m x.pred=dO at *
    rw[hi2] at p1030a
    rw[ho2] at p1030b
    rw[hi2,ho2] at p1029
    simp only[go_sem,j7u,hB,z2i,eTf,z9v,z0a p15,decide_true,z7,z0a p1016,z1a,z0a p1030a,z0a p1030b,z0a p1029]
    refine⟨by simp[z1b,apart,z0j,z0z,z1d,AOp.isCall,hB,AV.ids,idsL,z0c z6e,z0c z2l,z0c z1v], ?_⟩
    simp only[go_sem,hB,z6]
    refine z3t m.length (by omega) (fun i q=>∃ (g0 gx g2 g3 gr gb ga:Nat) (v0 v2:AV) (t:Tip) (o7 o8 o9 o10 o11:AObj),q.ts 4= .ptr (B + 1) gx 0 0∧q.ts 6= .ptr (B + 3) g3 0 0∧q.ts 8= .ptr (B + 4) gr 0 0∧q.ts 9= .int .i64 0∧q.ts 10= .ptr (B + 5) gb 0 0∧q.ts 11= .ptr (B + 6) ga 0 0∧q.ts 44= .sl (m.map z5l) .no∧q.ts 45= .int .i64 (m.length:Int)∧q.ts 46= .int .i64 (i:Int)∧q.h=D++[.blk g0 [v0] false false 0, .blk gx [eTf x] false false 0, .blk g2 [v2] false false 0, .blk g3 [.agg [.sl [] .nil]] false false 0, .blk gr [z2i (z5i s x).1] false false 0, .blk gb [.agg [.str x.into, .sl (dI.params.map z1k) .no, .sl ((j0w dI.body dO.body).map eNode) .no]] false false 0, .blk ga [.agg [.sl ((q8i x dO.body (m.take i)).map z5l) t]] false false 0,o7,o8,o9,o10,o11]∧(z8x B 9 o9 t 3∨z8x B 11 o11 t 3)) ⟨_,_,_,_,_,_,_,_,_, .nil,_,_,_,_,_,rfl,rfl,rfl,rfl,rfl,rfl,rfl,rfl,rfl,rfl, .inl (.inl rfl)⟩ ?_ ?_
    ·rintro i hlt f1 f2 ts h clk P ⟨g0,gx,g2,g3,gr,gb,ga,v0,v2,t,o7,o8,o9,o10,o11,q4,q6,q8,q9,q10,q11,q44,q45,q46,rfl,ht⟩ hnx he' hr'
     dsimp only at q4 q6 q8 q9 q10 q11 q44 q45 q46
     have hix:=fun h=>q7h (l:=m) (i:=i) (h:=h) (t:= .no) (k:= .i64) hlt
     have p1027:=j7g (u:= .no) (v:= .no) (hm _ (j9 hlt)).ok.s
     have hstep:=k6v (x:=x) (b:=dO.body) hlt
     have hati:=hat i hlt
     have hal:(q8i x dO.body (m.take i)).length≤1000:=by
      rw[q8i,z6]
      refine w9 (List.length_filter_le _ _) ?_
      rw[b6]
      omega
     rw[z5l] at p1027
     generalize m[i]=d at *
     by_cases h1:d.pred=x.pred
     ·have d1:decide (d.pred=x.pred)=true:=decide_eq_true h1
      rw[if_pos h1,u5] at hstep
      simp only[go_sem,q7j,eTf,q4,q6,q8,q9,q10,q11,q44,q45,q46,hB,f1,f2,hix,d1]
      exact hnx _ ⟨g0,gx,g2,g3,gr,gb,ga,v0,v2,t,_,_,_,_,_,q4,q6,q8,q9,q10,q11,q44,q45,rfl,by rw[hstep];rfl,ht⟩
     ·have d1:decide (d.pred=x.pred)=false:=decide_eq_false h1
      rw[if_neg h1] at hstep
      by_cases h2:d.pred=x.into
      ·have d2:decide (d.pred=x.into)=true:=decide_eq_true h2
       rw[k6s,if_pos h2,h2,←hati h2] at hstep
       have e8:(q8i x dO.body (m.take i)).map z5l++[AV.agg [.str x.into, .sl (dI.params.map z1k) .no, .sl ((j0w dI.body dO.body).map eNode) .no]]=(q8i x dO.body (m.take (i + 1))).map z5l:=by rw[hstep,v5];rfl
       simp only[go_sem,q7j,eTf,q4,q6,q8,q9,q10,q11,q44,q45,q46,hB,f1,hix,d1,d2]
       refine u0u (q:=11) hB rfl rfl ht z6z (z6z (l:=[⟨x.into,dI.params,j0w dI.body dO.body⟩])) (by simp only[z6,w0];omega) fun L' hL=> ?_
       rw[e8]
       rcases hL with rfl | rfl
       all_goals
        simp only[go_sem,q4,q6,q8,q9,q10,q11,q44,q45,q46,hB,f2]
        exact hnx _ ⟨g0,gx,g2,g3,gr,gb,ga,v0,v2,_,_,_,_,_,_,q4,q6,q8,q9,q10,q11,q44,q45,rfl,rfl, .inl (.inr (.inr ⟨_,rfl,rfl⟩))⟩
      ·have d2:decide (d.pred=x.into)=false:=decide_eq_false h2
       rw[k6s,if_neg h2] at hstep
       have e8:(q8i x dO.body (m.take i)).map z5l++[d].map z5l=(q8i x dO.body (m.take (i + 1))).map z5l:=by rw[hstep,v5]
       simp only[go_sem,q7j,eTf,q4,q6,q8,q9,q10,q11,q44,q45,q46,hB,f1,z1a,hix,d1,d2,z0a p1027]
       rw[show [AV.agg [.str d.pred, .sl (d.params.map z1k) .no, .sl (d.body.map eNode) .no]]=[d].map z5l from rfl]
       refine z9l (q:=9) hB rfl rfl ht.symm z6z z6z (by simp only[z6,w0];omega) fun L' hL=> ?_
       rw[e8]
       rcases hL with rfl | rfl
       all_goals
        simp only[go_sem,q4,q6,q8,q9,q10,q11,q44,q45,q46,hB,f2]
        refine⟨by simp[z1b,apart,z0j,z0z,z1d,AOp.isCall,hB,AV.ids,idsL,z0c z6e,z0c z2l,z0c z1v], ?_⟩
        exact hnx _ ⟨g0,gx,g2,g3,gr,gb,ga,v0,v2,_,_,_,_,_,_,q4,q6,q8,q9,q10,q11,q44,q45,rfl,rfl, .inr (.inr (.inr ⟨_,rfl,rfl⟩))⟩
    ·rintro f1 ts h clk P ⟨g0,gx,g2,g3,gr,gb,ga,v0,v2,t,o7,o8,o9,o10,o11,q4,q6,q8,q9,q10,q11,q44,q45,q46,rfl,ht⟩ he' hr'
     dsimp only at q4 q6 q8 q9 q10 q11 q44 q45 q46
     rw[u4]
     simp only[go_sem,q7j,q4,q6,q8,q9,q10,q11,q44,q45,q46,hB,f1]
     refine he' _ _ ?_
     simp only[go_sem,q6,q8,q9,q11,hB,z2i,z0a (p1031 t),z9v,z0m,z0l,z0f]
     rw[z0h rfl (by simp[-List.map_map,z1j,AV.cv,cvL,AV.ids,idsL,z0c z6e])]
     exact hT _
 ·rw[if_pos he] at hT
  simp only[go_sem,j7u,hB,z2i,eTf,z9v,z0a p15,decide_eq_false he,j5,z0m,z0l,z0f]
  rw[z0h rfl (by simp[z1j,AV.cv,cvL,AV.ids,idsL])]
  exact hT _
theorem v8x:Pure Gam 21 [] (.bool true):=Pure.tab (tab:=[([], .bool true)]) rfl rfl rfl
theorem AppOk.len2 {ps:List Func} {V:List Var} {a:App} (h:AppOk ps V a) (hp:PrOk ps):a.args.length≤20000∧∀ t∈a.args,t.length≤20000:=by
 obtain⟨f,hf,_,hl,hz⟩:=h
 have h40:=(hp.args f hf).1
 refine⟨by omega,fun t ht=> ?_⟩
 obtain⟨i,hi,rfl⟩:=List.getElem_of_mem ht
 have hif:i < f.args.length:=by omega
 have hm:(f.args[i],a.args[i])∈f.args.zip a.args:=by
  have:(f.args.zip a.args)[i]? =some (f.args[i],a.args[i]):=by simp[List.getElem?_zip_eq_some,hif,hi]
  exact List.mem_of_getElem? this
 have:=(hz _ hm).2.1
 dsimp only at this
 omega
theorem SysV.cmp {s:Sys} (hs:SysV s):∀ c∈s.clauses,CmpC c:=fun c hc=>by
 obtain⟨hv,hb,hba,hg,hh⟩:=hs.clauses c hc
 refine⟨by have:c.vars.length≤8:=hv.length_le;omega,by omega,by have:=hg.2.1;omega, ?_,fun a ha=>(hba a ha).len2 hs.pr⟩
 rcases hh with ⟨_,h⟩ | h
 ·rw[h];simp
 ·exact h.len2 hs.pr
theorem AppOk.ren {s:Sys} {x:Tf} {V:List Var} {a:App} (hs:SysV s) (hM:MOk s x) (h:AppOk s.preds V a):AppOk (q6i x s.preds) V (z8d x.pred x.into a):=by
 obtain⟨f,hf,hn,hl,ha⟩:=h
 obtain⟨p,q,hp,hq,e1,e2,hm⟩:=hM
 unfold q3w at hm
 rw[b8,b8] at hm
 have hne:q.name≠x.pred:=by
  have:=hm.1.1
  rw[p7,z03,e1] at this
  exact fun e=>this e.symm
 have hargs:=of_decide_eq_true hm.1.2
 by_cases h:a.pred=x.pred
 ·have hfp:f=p:=q9b f (hs.preds.mem hf) p (hs.preds.mem hp) (by rw[←hn,h,e1])
  subst hfp
  refine⟨q,l4.2 ⟨hq,by simp[hne]⟩,by simp[z8d,h,e2], ?_, ?_⟩
  ·rw[←hargs];exact hl
  ·rw[←hargs];exact ha
 ·exact⟨f,l4.2 ⟨hf,by simp[←hn,h]⟩,by rw[z8d,if_neg h];exact hn,hl,ha⟩
theorem v3s {s:Sys} {x:Tf} (hs:SysV s) (hM:MOk s x) (hx:x.pred≠[]):SysV (merged s x):=by
 refine⟨List.filter_sublist.trans hs.preds,w9 j0t hs.len,fun c hc=> ?_⟩
 obtain⟨d,hd,rfl⟩:=y8.1 hc
 obtain⟨g1,g2,g3,g4,g5⟩:=hs.clauses d (l4.1 hd).1
 refine⟨g1,by simp[x1v,g2],fun a ha=> ?_,g4, ?_⟩
 ·obtain⟨b,hb,rfl⟩:=y8.1 ha
  exact (g3 b hb).ren hs hM
 ·rcases g5 with ⟨h1,h2⟩ | g5
  ·exact .inl ⟨by simp[x1v,z8d,h1,Ne.symm hx],h2⟩
  ·exact .inr (g5.ren hs hM)
theorem ModOk.len {s:Sys} {m:List Def} (hs:SysV s) (h:ModOk s m):m.length≤1000:=by
 have h1:=congrArg List.length h.names
 have h2:=hs.pl
 simp only[z6] at h1
 omega
theorem k0m {l:List Func}:z4q 3 (l.map z1f)=true:=by cases l <;> rfl
theorem g5x {s:Sys} {h:List AObj} {clk:Nat} {Q:AV→List AObj→Nat→Prop} (hs:SysV s) (hcs:∀ c∈s.clauses,CmpC c) (hQ:∀ k p q (e:Int),v7p s k p q→(k=6∧e=0∨k=0∧e=8)→Q (.tup [eTf (tf0 k p q), .int .i64 e]) h clk):WC Gam 20 [z2i s] h clk Q:=by
 have p31:=k5h hs
 have hpl:=hs.pl
 have hcl:=hs.len
 have hpa:∀ f∈s.preds,f.args.length≤20000:=fun f hf=>by have:=(hs.pr.args f hf).1;omega
 have p32:=fun {f g:Func} (hf:f∈s.preds) (hg:g∈s.preds)=>v7o (s:=s) (p:=f) (q:=g) (by omega) hcs (hpa f hf) (hpa g hg)
 simp only[z2i,z1f,nat] at p31 p32
 refine x0l rfl g5v rfl rfl rfl (az:=[z2i s]) rfl (by simp[idsL,z3n]) fun D B T hB hT=> ?_
 have fin:∀ k p q (e:Int),v7p s k p q→(k=6∧e=0∨k=0∧e=8)→∀ h',RV [] (some [AV.agg [.int .i64 k, .str p, .str q, .int .i64 0, .int .i64 0, .sl [] .nil, .sl [] .nil, .sl [] .nil], .int .i64 e]) (fun v h'=>T v h') h':=fun k p q e hf he h'=>by
  rw[z0h rfl (by simp[z1j,AV.cv,cvL,AV.ids,idsL])]
  exact hT _ _ (hQ k p q e hf he)
 simp only[go_sem,g2a,hB,z2i,z0a p31,z7,z6]
 refine z3t s.preds.length (by omega) (fun i r=>∃ (g0 g1:Nat) (o2 o3:AObj),r.ts 1= .ptr (B + 0) g0 0 0∧r.ts 2= .ptr (B + 1) g1 0 0∧r.ts 13= .sl (s.preds.map z1f) .no∧r.ts 14= .int .i64 (s.preds.length:Int)∧r.ts 15= .int .i64 (i:Int)∧r.h=D++[.blk g0 [.agg [.sl (s.preds.map z1f) .no, .sl (s.clauses.map z0g) .no]] false false 0, .blk g1 [.agg [.int .i64 0, .str [], .str [], .int .i64 0, .int .i64 0, .sl [] .nil, .sl [] .nil, .sl [] .nil]] false false 0,o2,o3]) ⟨_,_,_,_,rfl,rfl,rfl,rfl,rfl,rfl⟩ ?_ ?_
 ·rintro i hlt f1 f2 ts h' clk' P ⟨g0,g1,o2,o3,q1,q2,q13,q14,q15,rfl⟩ hnx he hr
  dsimp only at q1 q2 q13 q14 q15
  have hix:=fun h=>z7f (l:=s.preds) (i:=i) (h:=h) (t:= .no) (k:= .i64) hlt
  have hsl:∀ h,slV h (some 3) (.sl (s.preds.map z1f) .no) (some (.int .i64 ((i + 1:Nat):Int))) none none=some (.sl ((s.preds.drop (i + 1)).map z1f) .no,h):=fun h=>by
   have:=v1s (h:=h) (e:=3) (n:=i + 1) (xs:=s.preds.map z1f) (t:= .no) (k:= .i64) (by rw[z6];omega) k0m
   rw[this,←List.map_drop]
   rfl
  have hdl:(s.preds.drop (i + 1)).length=s.preds.length - (i + 1):=List.length_drop
  generalize hL:s.preds.drop (i + 1)=L at *
  simp only[go_sem,w6m,nat,q1,q2,q13,q14,q15,hB,f1,f2,hix,hsl,z6]
  refine z3t L.length (by omega) (fun j r=>∃ (g2:Nat) (o3:AObj),r.ts 1= .ptr (B + 0) g0 0 0∧r.ts 2= .ptr (B + 1) g1 0 0∧r.ts 5= .ptr (B + 2) g2 0 0∧r.ts 13= .sl (s.preds.map z1f) .no∧r.ts 14= .int .i64 (s.preds.length:Int)∧r.ts 15= .int .i64 (i:Int)∧r.ts 24= .sl (L.map z1f) .no∧r.ts 25= .int .i64 (L.length:Int)∧r.ts 26= .int .i64 (j:Int)∧r.h=D++[.blk g0 [.agg [.sl (s.preds.map z1f) .no, .sl (s.clauses.map z0g) .no]] false false 0, .blk g1 [.agg [.int .i64 0, .str [], .str [], .int .i64 0, .int .i64 0, .sl [] .nil, .sl [] .nil, .sl [] .nil]] false false 0, .blk g2 [.agg [.str s.preds[i].name, .sl (s.preds[i].args.map nat) .no, .int .i64 (s.preds[i].result:Int)]] false false 0,o3]) ⟨_,_,by simp[z0b,q1],by simp[z0b,q2],by simp[z0b],by simp[z0b,q13],by simp[z0b,q14],by simp[z0b,q15],by simp[z0b],by simp[z0b],by simp[z0b],rfl⟩ ?_ ?_
  ·clear q1 q2 q13 q14 q15
   rintro j hjl e1 e2 ts h' clk' P2 ⟨g2,o3,q1,q2,q5,q13,q14,q15,q24,q25,q26,rfl⟩ hnx2 he2 hr2
   dsimp only at q1 q2 q5 q13 q14 q15 q24 q25 q26
   have hjx:=fun h=>z7f (l:=L) (i:=j) (h:=h) (t:= .no) (k:= .i64) hjl
   have hjn:i + 1 + j < s.preds.length:=by omega
   have hLj:L[j]=s.preds[i + 1 + j]:=by
    subst hL
    rw[List.getElem_drop]
   have hmi:=j9 hlt
   have hmj:=j9 hjn
   rw[hLj] at hjx
   have pm:=p32 hmj hmi
   cases hm:q3w s s.preds[i + 1 + j] s.preds[i] with
   | false=>
     rw[hm] at pm
     simp only[go_sem,v3b,q1,q2,q5,q13,q14,q15,q24,q25,q26,hB,e1,e2,hjx,z0a pm]
     exact hnx2 _ ⟨g2,_,q1,q2,q5,q13,q14,q15,q24,q25,rfl,rfl⟩
   | true=>
     rw[hm] at pm
     simp only[go_sem,v3b,q1,q2,q5,q13,q14,q15,q24,q25,q26,hB,e1,hjx,z0a pm]
     refine hr2 _ ?_
     simp only[go_sem,]
     refine hr _ ?_
     simp only[go_sem,hB,q2,z0m,z0l,z0f]
     exact fin 6 s.preds[i + 1 + j].name s.preds[i].name 0 (.inr ⟨rfl,_,_,hmj,hmi,rfl,rfl,hm,w5z _ (hs.preds.subset hmi) _ (hs.preds.subset hmj) ((j7d hjn (by omega)).trans hs.preds) (x1w hm).2.symm (Ne.symm (x1w hm).1)⟩) (.inl ⟨rfl,rfl⟩) _
  ·clear q1 q2 q13 q14 q15
   rintro e1 ts h' clk' P2 ⟨g2,o3,q1,q2,q5,q13,q14,q15,q24,q25,q26,rfl⟩ he2 hr2
   dsimp only at q1 q2 q5 q13 q14 q15 q24 q25 q26
   simp only[go_sem,v3b,q1,q2,q5,q13,q14,q15,q24,q25,q26,hB,e1]
   refine he2 _ _ ?_
   simp only[go_sem,q1,q2,q13,q14,q15,f2]
   exact hnx _ ⟨g0,g1,_,_,q1,q2,q13,q14,rfl,rfl⟩
 ·rintro f1 ts h' clk' P ⟨g0,g1,o2,o3,q1,q2,q13,q14,q15,rfl⟩ he hr
  dsimp only at q1 q2 q13 q14 q15
  simp only[go_sem,w6m,q1,q2,q13,q14,q15,hB,f1]
  refine he _ _ ?_
  simp only[go_sem,hB,q1,q2,z0m,z0l,z0f]
  exact fin 0 [] [] 8 (.inl ⟨rfl,rfl,rfl⟩) (.inr ⟨rfl,rfl⟩) _
section
theorem u0v {env:List (List Nat×Val)} {a b:Term} {va vb:Val} (ha:Ev env a [va]) (hb:Ev env b [vb]):z7q env (j0w a b)= .bool (va.b && vb.b):=by
 have h:=Ev.cons (env:=env) (n:=bare 7 2) (ha.append hb) rfl .nil
 rw[u5] at h
 have e:nodeF env (bare 7 2) ([va]++[vb])= .bool (va.b && vb.b):=by simp[nodeF,bare]
 rw[e] at h
 exact q9c h
section
variable {s:Sys} {x:Tf} {y:List Def}
theorem k6w {b:Term} {p:List Nat} (hsh:y.map (·.pred)=s.preds.map (·.name)) (hnd:(y.map (·.pred)).Nodup) (hp:p∈s.preds.map (·.name)) (hne:p≠x.pred):z5y (q8i x b y) p=k6s x b (z5y y p)∧z5y y p∈y∧(z5y y p).pred=p:=by
 rw[←hsh] at hp
 obtain⟨d,hd,e⟩:=y8.1 hp
 obtain⟨j,hj,rfl⟩:=t4.1 hd
 have h1:z5y y p=y[j]:=by rw[←e,z9w hj hnd]
 rw[h1]
 refine⟨?_,hd,e⟩
 have hm:k6s x b y[j]∈q8i x b y:=List.mem_map_of_mem (l4.2 ⟨hd,by simp[e,hne]⟩)
 obtain⟨k,hk,hk2⟩:=t4.1 hm
 have hn2:((q8i x b y).map (·.pred)).Nodup:=by
  rw[q7k hsh]
  rw[hsh] at hnd
  exact hnd.sublist ((List.filter_sublist).map _)
 have:=z9w hk hn2
 rw[hk2,j0y,e] at this
 exact this
theorem v3t {V:List Var} {env:List (List Nat×Val)} {a:App} (hs:SysV s) (hx:x.pred=[78]∧x.into=[80]) (hxn:[78]∈s.preds.map (·.name)) (hd:∀ d∈y,DOk d) (hn:∀ d∈y,GT d.params 1 6 396 d.body) (hsh:y.map (·.pred)=s.preds.map (·.name)) (he:q7f 1 V env) (hel:env.length≤1000) (ha:AppOk s.preds V a) (hne:a.pred≠[78]):
  q8n (q8i x (z5y y x.pred).body y) env a.pred a.args=(q8n y env a.pred a.args && (!decide (a.pred=[80]) || q8n y env [78] a.args)):=by
 have hnd:(y.map (·.pred)).Nodup:=by rw[hsh];exact hs.pr.nodup
 obtain⟨hx1,hx2⟩:=hx
 have hp:a.pred∈s.preds.map (·.name):=by
  obtain⟨f,hf,hn,_⟩:=ha
  exact hn ▸ List.mem_map_of_mem hf
 obtain⟨e1,e2,e3⟩:=k6w (b:=(z5y y x.pred).body) hsh hnd hp (by rw[hx1];exact hne)
 unfold q8n w6j
 rw[e1,k6s,e3,hx2,hx1]
 by_cases hP:a.pred=[80]
 ·rw[if_pos hP,decide_eq_true hP]
  have hN:z5y y [78]∈y∧(z5y y [78]).pred=[78]:=by
   rw[←hsh] at hxn
   obtain⟨d,hd,e⟩:=y8.1 hxn
   obtain⟨j,hj,rfl⟩:=t4.1 hd
   rw[←e,z9w hj hnd]
   exact⟨hd,rfl⟩
  have hpar:=q4x (hd _ e2) (hd _ hN.1) (by rw[e3,hP]) hN.2
  obtain⟨f,hf,hnm,hl,h40,hi⟩:=v8d ha hs.pr
  have hdj:=hd _ e2
  obtain⟨_,hsort⟩:=hdj.at (f:=f) (hs.preds.mem hf) (by rw[e3,hnm])
  have hplen:(z5y y a.pred).params.length=f.args.length:=by
   have:=congrArg List.length hsort
   simpa using this
  have hfit:FitK 66 (z5y y a.pred).params (a.args.map (z7q env)):=by
   refine⟨by rw[z6];omega,fun i h1 h2=> ?_⟩
   have h3:i < a.args.length:=by simpa using h2
   obtain⟨⟨d,g1,g2,g3,g4,g5⟩,g6⟩:=hi i h3 (by omega)
   have hv:=(q3j he hel g2 g3 g1).2.1
   have hso:(z5y y a.pred).params[i].sort=f.args[i]:=by
    have:=List.getElem_of_eq hsort (i:=i) (by simpa using h1)
    simpa using this
   rw[List.getElem_map,hso]
   exact hv.up (by omega)
  have henv:=j7o (by omega) hdj.ok.nd hfit
  have hb1:=hn _ e2
  have hb2:=hn _ hN.1
  rw[hpar] at hb2
  have hl1:=hb1.2.1
  have hl2:=hb2.2.1
  have hlen:(z8e (z5y y a.pred).params (a.args.map (z7q env))).length≤1000:=by rw[q2t hfit.len];have:=hdj.ok.len;omega
  obtain⟨v1,_,_⟩:=q3j henv hlen (by omega) (by omega) hb1.1
  obtain⟨v2,_,_⟩:=q3j henv hlen (by omega) (by omega) hb2.1
  dsimp only
  rw[u0v v1 v2,hpar]
  simp[Val.b]
 ·rw[if_neg hP,decide_eq_false hP]
  simp
theorem k0n {c:Clause} {vs:List Val} (hs:SysV s) (hM:MOk s x) (hx:x.pred=[78]∧x.into=[80]) (hc:c∈s.clauses) (hd:∀ d∈y,DOk d) (hn:∀ d∈y,GT d.params 1 6 396 d.body) (hsh:y.map (·.pred)=s.preds.map (·.name)) (hf:FitK 1 c.vars vs) (h1:c.head.pred≠[78]) (h2:c.head.pred≠[80]) (ht:clauseB y c vs=true):clauseB (q8i x (z5y y x.pred).body y) (x1v x.pred x.into c) vs=true:=by
 obtain⟨c1,c2,c3,c4,c5⟩:=hs.clauses c hc
 have he:=j7o (by omega) (q6l.sublist (c1.map _)) hf
 have hel:(z8e c.vars vs).length≤1000:=by rw[q2t hf.len];have:c.vars.length≤8:=c1.length_le;omega
 obtain⟨f,g,hf1,hg1,e1,e2,hm⟩:=hM
 have hN:[78]∈s.preds.map (·.name):=by rw[←hx.1,←e1];exact List.mem_map_of_mem hf1
 have hargs:f.args=g.args:=(x1w hm).2
 have hfw:=fun (a:App) (ha:AppOk s.preds c.vars a) (hne:a.pred≠[78])=>v3t (x:=x) (y:=y) hs hx hN hd hn hsh he hel ha hne
 unfold clauseB at ht⊢
 simp only[x1v]
 rw[Bool.or_eq_true] at ht⊢
 rcases ht with ht | ht
 ·exact .inl ht
 ·refine .inr ?_
  rw[Bool.or_eq_true] at ht⊢
  rcases ht with ht | ht
  ·refine .inl ?_
   obtain⟨a,ha,hb⟩:=List.any_eq_true.1 ht
   refine List.any_eq_true.2 ⟨z8d x.pred x.into a,List.mem_map_of_mem ha, ?_⟩
   rw[p7] at hb⊢
   by_cases hp:a.pred=[78]
   ·have hr:z8d x.pred x.into a=⟨[80],a.args⟩:=by rw[z8d,hx.1,hx.2,if_pos hp]
    have hao:AppOk s.preds c.vars ⟨[80],a.args⟩:=by
     obtain⟨k,hk,hkn,hkl,hka⟩:=c3 a ha
     have:k=f:=q9b k (hs.preds.mem hk) f (hs.preds.mem hf1) (by rw[←hkn,hp,e1,hx.1])
     subst this
     exact⟨g,hg1,by rw[e2,hx.2],by rw[←hargs];exact hkl,by rw[←hargs];exact hka⟩
    rw[hr,hfw _ hao (by simp)]
    rw[hp] at hb
    simp[hb]
   ·have hr:z8d x.pred x.into a=a:=by rw[z8d,hx.1,if_neg hp]
    rw[hr,hfw a (c3 a ha) hp,hb,Bool.false_and]
  ·refine .inr ?_
   have hr:z8d x.pred x.into c.head=c.head:=by rw[z8d,hx.1,if_neg h1]
   simp only[hr]
   rcases c5 with ⟨h3,_⟩ | h3
   ·simp[h3] at ht
   ·rw[hfw c.head h3 h1,decide_eq_false h2]
    simpa using ht
end
end
def u0w (s:Nat) (v:AV):Prop:=∃ w:Val,v=eV w∧VOk 1 s w
def g5y:Val→Prop
 | .bool _=>True
 | .num _ q=>q.n < 10∧q.d=1
 | .arr z l=>z.natAbs < 10∧∀ p∈l,p.1.natAbs < 10∧p.2.natAbs < 10
def k6x (s:Nat) (v:AV):Prop:=∃ w:Val,v=eV w∧VOk 1 s w∧g5y w
theorem GenOk.mono {l:List Int} {f:Nat} {args:List AV} {R R':AV→Prop} (h:GenOk l f args R) (hR:∀ v,R v→R' v):GenOk l f args R':=fun h' s g i clk Q hs hi hQ=>h h' s g i clk Q hs hi fun v i' h1 h2=>hQ v i' h1 (hR v h2)
theorem x2k {z:Int} (h:z.natAbs < 10):(dec z.natAbs).length≤50 * 1:=by rw[z7c h];simp
theorem w6t {s:Nat} (hs:s=2∨s=3) {z:Int} (h1: -2≤z) (h2:z≤3):k6x s (value s false (z0i z) [] []):=by
 refine⟨.num s (z4g z),by simp only[eV,Val.s,Val.b,Val.t,Val.l,z1z];rfl,⟨rfl,hs,x4p,⟨x2k (by omega),by show (dec 1).length≤4 * 1;rw[z2h];simp⟩,fun _=>rfl⟩,by show z.natAbs < 10;omega,rfl⟩
theorem v3u {k i j:Nat} (hk:k < 3) (hi:i < 3) (hj:j < 3):k6x 4 (k9o k i j):=by
 unfold k9o
 split
 ·refine⟨.arr (k:Int) [], ?_,⟨rfl,x2k (by omega), .nil,by simp,by simp⟩,by show (k:Int).natAbs < 10;omega,by simp⟩
  simp only[eV,Val.s,Val.b,Val.t,Val.l,z3k (k:=k) (by omega)]
  rfl
 ·rename_i h
  refine⟨.arr (k:Int) [((i:Int),(j:Int))], ?_,⟨rfl,x2k (by omega),List.pairwise_singleton _ _,fun p hp=> ?_,by simp⟩,by show (k:Int).natAbs < 10;omega,fun p hp=> ?_⟩
  ·simp only[eV,Val.s,Val.b,Val.t,Val.l,List.map_cons,List.map_nil,z3k (k:=k) (by omega),z3k (k:=i) (by omega),z3k (k:=j) (by omega)]
   rfl
  ·obtain rfl:=u7.1 hp
   exact⟨by dsimp only;omega,x2k (by dsimp only;omega),x2k (by dsimp only;omega)⟩
  ·obtain rfl:=u7.1 hp
   exact⟨by dsimp only;omega,by dsimp only;omega⟩
theorem u0x {l:List Int} {s:Nat} (hl:q4y l) (h1:1≤s) (h2:s≤4):GenOk l 16 [nat s] (k6x s):=by
 refine GenOk.of rfl u9n rfl rfl rfl rfl rfl fun D B p g i clk T hB hs hD hi hT=> ?_
 obtain rfl | hs23 | rfl:s=1∨(s=2∨s=3)∨s=4:=by omega
 ·simp only[go_sem,w2a,nat,hB,z8,decide_true,decide_false]
  refine z0s (z3u hl (by decide) (by decide)) hB hs hD hi ?_
  rintro v D' i' ⟨r,rfl,hr1,hr2⟩ hB' hD' hi'
  simp only[go_sem,hB',z8,decide_true,decide_false]
  rw[z2n rfl rfl]
  exact hT _ _ i' (by rw[z0w hB' hs];exact hD') hi' ⟨.bool _,rfl,rfl,trivial⟩
 ·have e1:decide ((s:Int)=1)=false:=by simp;omega
  have e2:decide ((s:Int)=4)=false:=by simp;omega
  simp only[go_sem,w2a,nat,hB,z8,e1,e2]
  refine z0s (z3u hl (by decide) (by decide)) hB hs hD hi ?_
  rintro v D' i' ⟨r,rfl,hr1,hr2⟩ hB' hD' hi'
  have e3:IntKind.i64.wrap (r - 2)=r - 2:=z0e (by omega) (by omega)
  simp only[go_sem,hB',e3]
  rw[z0a (z8i (by omega) (by omega))]
  simp only[go_sem,hB']
  rw[z2n rfl rfl]
  exact hT _ _ i' (by rw[z0w hB' hs];exact hD') hi' (w6t hs23 (by omega) (by omega))
 ·simp only[go_sem,w2a,nat,hB,z8,decide_true,decide_false]
  refine z0s (z3u hl (by decide) (by decide)) hB hs hD hi ?_
  rintro v D1 i1 ⟨r1,rfl,hr1,hr2⟩ hB1 hD1 hi1
  obtain⟨k,rfl⟩:∃ k:Nat,r1=k:=⟨r1.toNat,by omega⟩
  simp only[go_sem,hB1]
  rw[z0a (z8i (by omega) (by omega)),z3k (by omega)]
  simp only[go_sem,hB1,z1a]
  refine z0s (z3u hl (by decide) (by decide)) hB1 hs hD1 hi1 ?_
  rintro v D2 i2 ⟨r2,rfl,hr3,hr4⟩ hB2 hD2 hi2
  obtain⟨a,rfl⟩:∃ k:Nat,r2=k:=⟨r2.toNat,by omega⟩
  simp only[go_sem,hB2]
  rw[z0a (z8i (by omega) (by omega)),z3k (by omega)]
  simp only[go_sem,hB2]
  refine z0s (z3u hl (by decide) (by decide)) hB2 hs hD2 hi2 ?_
  rintro v D3 i3 ⟨r3,rfl,hr5,hr6⟩ hB3 hD3 hi3
  obtain⟨b,rfl⟩:∃ k:Nat,r3=k:=⟨r3.toNat,by omega⟩
  simp only[go_sem,hB3]
  rw[z0a (z8i (by omega) (by omega)),z3k (by omega)]
  simp only[go_sem,hB3]
  obtain⟨ks,vs,hv⟩:∃ ks vs,k9o k a b=value 4 false [48 + k] ks vs:=by
   unfold k9o
   split <;> exact⟨_,_,rfl⟩
  have hsm:=x9v (k:=k) (i:=a) (j:=b) (by omega) (by omega) (by omega)
  have htab:=x9u (k:=k) (i:=a) (j:=b) (by omega) (by omega) (by omega)
  have hw:=v3u (k:=k) (i:=a) (j:=b) (by omega) (by omega) (by omega)
  rw[hv] at hsm htab hw
  have hp:Pure Gam 49 [.agg [.int .i64 4, .bool false, .str [48 + k], .sl [] .nil, .sl [] .nil], .str [48 + a], .str [48 + b]] _:=Pure.tab (tab:=z6g) rfl rfl htab
  rw[z0a hp]
  simp only[go_sem,hB3,value,nat]
  refine⟨by simp[z1b,apart,z0j,z0z,z1d,AOp.isCall,hB1];omega, ?_⟩
  obtain⟨t,q1,q2,q3,q4,q5,q6⟩:=hsm
  rw[z2n (v:= .agg [.int .i64 4, .bool false, .str [48 + k], .sl ks .no, .sl vs .no]) rfl q5]
  exact hT _ _ i3 (by rw[z0w hB3 hs];exact hD3) hi3 hw
theorem u0y {l:List Int} {s:Nat} (hl:q4y l) (h1:1≤s) (h2:s≤4):GenOk l 16 [nat s] (u0w s):=(u0x hl h1 h2).mono fun _ h=>h.elim fun w h=>⟨w,h.1,h.2.1⟩
theorem FitK.snoc {K:Nat} {V:List Var} {vs:List Val} {w:Val} {i:Nat} (hi:i < V.length) (h:FitK K (V.take i) vs) (hw:VOk K V[i].sort w):FitK K (V.take (i + 1)) (vs++[w]):=by
 have hl:vs.length=i:=by rw[h.len,b6];omega
 refine⟨by rw[y5,hl,b6];simp;omega,fun j h1 h2=> ?_⟩
 rw[b6] at h1
 by_cases hj:j < i
 ·rw[List.getElem_append_left (by omega)]
  have:=h.ok j (by rw[b6];omega) (by omega)
  simpa [List.getElem_take] using this
 ·obtain rfl:j=i:=by omega
  rw[List.getElem_append_right (by omega)]
  simpa [List.getElem_take,hl] using hw
theorem v3v {l:List Int} {c:Clause} {B g j i:Nat} {clk:Nat} {D:List AObj} {cs:List Clause} {a0:AV} {g0:Nat} {o1 o2 o3 o4 o5 o6 o7 o8 o9:AObj} {ts:Tmps} {ks:List Kf} {Q:Post} (hl:q4y l) (hB:D.length=B) (hj:j≤l.length) (hi:i < cs.length) (hci:cs[i]=c) (hc:c.vars.Sublist z1w)
  (h9:ts 7= .ptr (B + 0) g0 0 0) (h16:ts 15= .ptr (B + 10) g 0 0) (h18:ts 19= .int .i64 (i:Int)) (h19:ts 20= .sl [] .nil) (h20:ts 21= .int .i64 0) {v10 v11 v13 v14 v17 w17 w18:AV} (h11:ts 8=v11) (h13:ts 10=v13) (h14:ts 12=v14) (h17:ts 13=v17) (h10:ts 16=v10) (hw17:ts 17=w17) (hw18:ts 18=w18)
  (hQ:∀ (vs:List Val) (t:Tip) (ts':Tmps) (o6 o7:AObj) (j' clk':Nat),FitK 1 c.vars vs→j'≤l.length→ts' 7= .ptr (B + 0) g0 0 0→ts' 15= .ptr (B + 10) g 0 0→ts' 19= .int .i64 (i:Int)→ts' 20= .sl (vs.map eV) t→ts' 8=v11→ts' 10=v13→ts' 12=v14→ts' 13=v17→ts' 16=v10→ts' 17=w17→ts' 18=w18→K Gam B (.exit 2) ks ⟨ts',D++[.blk g0 [.agg [a0, .sl (cs.map z0g) .no]] false false 0,o1,o2,o3,o4,o5,o6,o7,o8,o9,z3d g l j'],clk'⟩ Q):
  K Gam B (.loop x5r) ks ⟨ts,D++[.blk g0 [.agg [a0, .sl (cs.map z0g) .no]] false false 0,o1,o2,o3,o4,o5,o6,o7,o8,o9,z3d g l j],clk⟩ Q:=by
 have hvl:c.vars.length≤8:=hc.length_le
 refine z3t c.vars.length (by omega) (fun k q=>∃ (acc:List Val) (t:Tip) (o6 o7:AObj) (j:Nat),FitK 1 (c.vars.take k) acc∧j≤l.length∧q.ts 7= .ptr (B + 0) g0 0 0∧q.ts 15= .ptr (B + 10) g 0 0∧q.ts 19= .int .i64 (i:Int)∧q.ts 20= .sl (acc.map eV) t∧q.ts 21= .int .i64 (k:Int)∧q.ts 8=v11∧q.ts 10=v13∧q.ts 12=v14∧q.ts 13=v17∧q.ts 16=v10∧q.ts 17=w17∧q.ts 18=w18∧q.h=D++[.blk g0 [.agg [a0, .sl (cs.map z0g) .no]] false false 0,o1,o2,o3,o4,o5,o6,o7,o8,o9,z3d g l j]∧z8x B 7 o7 t 5) ⟨[], .nil,_,_,_,⟨rfl,fun k h1=>by simp at h1⟩,hj,h9,h16,h18,h19,h20,h11,h13,h14,h17,h10,hw17,hw18,rfl, .inl rfl⟩ ?_ ?_
 ·clear h9 h16 h18 h19 h20 h11 h13 h14 h17 h10 hw17 hw18 hj
  rintro k hlt f1 f2 ts h clk P ⟨acc,t,o6,o7,j,hf,hj,q9,q16,q18,q19,q20,q11,q13,q14,q17,q10,r17,r18,rfl,ht⟩ hnx he hr
  dsimp only at q9 q16 q18 q19 q20 q11 q13 q14 q17 q10 r17 r18
  have hx:=fun h=>q1r (l:=cs) (i:=i) (h:=h) (t:= .no) (k:= .i64) hi
  rw[hci] at hx
  have hy:=fun h=>z7o (l:=c.vars) (i:=k) (h:=h) (t:= .no) (k:= .i64) hlt
  have hvm:c.vars[k]∈z1w:=hc.mem (j9 hlt)
  have hs:=UOk.sort _ hvm
  have hal:acc.length≤8:=by rw[hf.len,b6];omega
  have hsn:=fun w hw=>hf.snoc (w:=w) hlt hw
  simp only[nat] at hy
  generalize c.vars[k]=v at *
  simp only[go_sem,x5r,q9,q16,q18,q19,q20,hB,f1,z6,hx,hy]
  refine z4m (k:=10) (u0y hl hs.1 hs.2) hB rfl hj ?_
  rintro r j2 ⟨w,rfl,hw⟩ hj2
  simp only[go_sem,hB,eV,value,nat,q9,q16,q18,q19,q20]
  rw[show [AV.agg [.int .i64 (w.s:Int), .bool w.b, .str w.t, .sl (z2s (w.l.map fun p=>z0i p.1)) .no, .sl (z2s (w.l.map fun p=>z0i p.2)) .no]]=[w].map eV from rfl,z0q hB rfl ht z8y z8y (by simp only[z6,w0];omega),←v5]
  simp only[go_sem,hB,q9,q16,q18,q19,q20,f2]
  exact hnx _ ⟨acc++[w],_,_,_,j2,hsn w hw,hj2,q9,q16,q18,rfl,rfl,q11,q13,q14,q17,q10,r17,r18,rfl, .inr (.inr ⟨_,rfl,rfl⟩)⟩
 ·clear h9 h16 h18 h19 h20 h11 h13 h14 h17 h10 hw17 hw18 hj
  rintro f1 ts h clk P ⟨acc,t,o6,o7,j,hf,hj,q9,q16,q18,q19,q20,q11,q13,q14,q17,q10,r17,r18,rfl,ht⟩ he hr
  dsimp only at q9 q16 q18 q19 q20 q11 q13 q14 q17 q10 r17 r18
  have hx:=fun h=>q1r (l:=cs) (i:=i) (h:=h) (t:= .no) (k:= .i64) hi
  rw[hci] at hx
  rw[u4] at hf
  simp only[go_sem,x5r,q9,q16,q18,q19,q20,hB,f1,z6,hx]
  exact he _ _ (hQ acc t _ _ _ _ _ hf hj (by simp[z0b,q9]) (by simp[z0b,q16]) (by simp[z0b,q18]) (by simp[z0b,q19]) (by simp[z0b,q11]) (by simp[z0b,q13]) (by simp[z0b,q14]) (by simp[z0b,q17]) (by simp[z0b,q10]) (by simp[z0b,r17]) (by simp[z0b,r18]))
structure Kp (z:List Def) (cs:List Clause) (out:List (Bool×List Val)):Prop where
 len:out.length=cs.length
 ok:∀ k (h1:k < cs.length) (h2:k < out.length),FitK 1 cs[k].vars out[k].2∧(out[k].1=true→clauseB z cs[k] out[k].2=true)
theorem Kp.snoc {z:List Def} {cs:List Clause} {out:List (Bool×List Val)} {c:Clause} {b:Bool} {vs:List Val} (h:Kp z cs out) (hf:FitK 1 c.vars vs) (hb:b=true→clauseB z c vs=true):Kp z (cs++[c]) (out++[(b,vs)]):=by
 have hl:=h.len
 refine⟨by simp[hl],fun k h1 h2=> ?_⟩
 by_cases hk:k < cs.length
 ·rw[List.getElem_append_left hk,List.getElem_append_left (by omega)]
  exact h.ok k hk (by omega)
 ·have h3:k=cs.length:=by simp at h1;omega
  subst h3
  rw[List.getElem_append_right (by omega),List.getElem_append_right (by omega)]
  simp only[d8,hl,List.getElem_singleton]
  exact⟨hf,hb⟩
def v3w (p:Bool×List Val):AV:= .sl (p.2.map eV) .no
theorem q0s {l:List (Bool×List Val)}:z0n 1 (l.map v3w)=true:=z2m fun _=>⟨rfl,rfl,rfl⟩
def j1a (l:List (Bool×List Val)) (k:Nat):List AV:=(l.map fun p=>AV.bool p.1)++List.replicate k (.bool false)
theorem j7w {l:List (Bool×List Val)} {k:Nat}:(j1a l (k + 1))[l.length]? =some (.bool false):=by
 rw[j1a,List.getElem?_append_right (by simp),z6,d8]
 rfl
theorem v3x {l:List (Bool×List Val)} {k:Nat} {p:Bool×List Val}:(j1a l (k + 1)).set l.length (.bool p.1)=j1a (l++[p]) k:=by
 rw[j1a,List.set_append_right _ _ (by simp),z6,d8,List.replicate_succ,List.set_cons_zero,j1a]
 simp
theorem w6u {l:List (Bool×List Val)} {k i:Nat} (h:i < l.length):(j1a l k)[i]? =some (.bool l[i].1):=by
 rw[j1a,List.getElem?_append_left (by simpa using h)]
 simp[h]
theorem v3y {x:Tf} {cs:List Clause} {k:Nat}:(z7p x (cs.take k)).length≤(z7p x cs).length:=(((List.take_sublist k cs).filter _).map _).length_le
theorem j3t {zs ms ns:List Int} (hz:∀ z∈zs, -9223372036854775808≤z∧z≤9223372036854775807) (hm:∀ z∈ms, -9223372036854775808≤z∧z≤9223372036854775807) (hn:∀ z∈ns, -9223372036854775808≤z∧z≤9223372036854775807):WC Gam 5 [.sl (q3k zs) .no, .sl (q3k ms) .no, .sl (q3k ns) .no] [] 0 fun v _ _=>v= .bool true:=by
 refine x0l rfl y2d rfl rfl rfl (az:=[.sl (q3k zs) .no, .sl (q3k ms) .no, .sl (q3k ns) .no]) rfl (by simp[idsL,AV.ids,q3d]) fun D B R hB hR=> ?_
 simp only[go_sem,v6e,hB]
 refine z4i (g5t hz fun s hv=> ?_)
 have hc:=hv.cmp
 simp only[go_sem,hB,z2i]
 have h11:=fun h clk Q=>g5x (s:=s) (h:=h) (clk:=clk) (Q:=Q) hv hc
 rw[z2i] at h11
 refine z4i (h11 _ _ _ fun k p q e hf hke=> ?_)
 rcases hke with ⟨rfl,rfl⟩ | ⟨rfl,rfl⟩
 ·obtain⟨h0,_⟩ | ⟨_,f,g,hf1,hg1,e1,e2,hmt,rfl,rfl⟩:=hf
  ·omega
  have hM:MOk s (tf0 6 [78] [80]):=⟨f,g,hf1,hg1,e1,e2,hmt⟩
  have hM0:f.name=(tf0 6 [78] [80]).pred:=e1
  have happ:z5i s (tf0 6 [78] [80])=(merged s (tf0 6 [78] [80]),0):=q6j rfl hM
  have hx:(tf0 6 [78] [80]).pred=[78]∧(tf0 6 [78] [80]).into=[80]:=⟨rfl,rfl⟩
  have hrv:SysV (merged s (tf0 6 [78] [80])):=v3s hv hM (by simp[tf0])
  have p15:=v7q (x:=tf0 6 [78] [80]) hv hc y8p
  have p11:=fun {y:List Def} (hy:ModOk s y)=>v3r (m:=y) hv hc y8p (fun _=>hx) (by rw[happ];exact hrv) hy.defs hy.nar (ModOk.len hv hy)
  rw[happ] at p15
  generalize hxx:tf0 6 [78] [80]=x at *
  rw[z2i,eTf,z2i] at p15
  simp only[go_sem,hB,eTf,decide_true,z7,z0a p15]
  have hg:=fun {s} (hs:SysV s) u h clk Q=>u0t (s:=s) (zs:=ms) (u:=u) (h:=h) (clk:=clk) (Q:=Q) hs hm
  simp only[z2i] at hg
  refine z4i (hg hv _ _ _ _ fun y hy=> ?_)
  have hsh':y.map (·.pred)=s.preds.map (·.name):=hy.names
  have hys:z5s s y=true:=decide_eq_true hsh'
  have p3:=p11 hy
  have hfm:k6t s x y=(q8i x (z5y y x.pred).body y,0):=by
   unfold k6t
   rw[happ,if_neg (by simp),hys,if_neg (by simp)]
  rw[hfm,z2i,eTf,z9v,z9v] at p3
  simp only[go_sem,hB,z9v,z0a p3,decide_true,z7,j5]
  refine j5e fun g c=> ?_
  have hnd:(y.map (·.pred)).Nodup:=by rw[hsh'];exact hv.pr.nodup
  have hxn:[78]∈s.preds.map (·.name):=by rw[←hx.1,←hM0];exact List.mem_map_of_mem hf1
  obtain⟨ho1,ho2⟩:z5y y x.pred∈y∧(z5y y x.pred).pred=[78]:=by
   rw[←hsh'] at hxn
   obtain⟨d,hd,e⟩:=y8.1 hxn
   obtain⟨j,hj,rfl⟩:=t4.1 hd
   rw[hx.1,←e,z9w hj hnd]
   exact⟨hd,rfl⟩
  have hzk:=k6u hx.2 hy.defs hy.nar ho1 ho2
  have hze:∀ d∈q8i x (z5y y x.pred).body y,DEv d:=fun d hd=>by
   obtain⟨e,he,rfl⟩:=y8.1 hd
   have h1:=(hy.nar e (l4.1 he).1).2.1
   have h2:=(hy.nar _ ho1).2.1
   unfold k6s DEv
   split
   ·simp only[j0w,List.length_cons,y5];omega
   ·omega
  have hzs:z5s (merged s x) (q8i x (z5y y x.pred).body y)=true:=decide_eq_true (q7k hsh')
  have hcf:=fun {c vs} hc hf h1 h2 ht=>k0n (c:=c) (vs:=vs) hv hM hx hc hy.defs hy.nar hsh' hf h1 h2 ht
  have hlc:q4y (ns.take 400):=⟨by simp;omega,fun z h=>hn z (List.mem_of_mem_take h)⟩
  have hRc:(merged s x).clauses=z7p x s.clauses:=rfl
  have hcl:=hv.len
  have hkl:(z7p x s.clauses).length≤16:=w9 j0t hcl
  have hxp:=hx.1
  have hxi:=hx.2
  generalize q8i x (z5y y x.pred).body y=z at *
  generalize merged s x=R at *
  generalize ns.take 400=l at *
  have e0:∀ a b c d e f h i j k:AObj,(D++[a,b,c,d,e,f,h,i,j,k]).length=B + 10:=fun _ _ _ _ _ _ _ _ _ _=>by simp[hB]
  have e1:∀ a b c d e f h i j k o:AObj,(D++[a,b,c,d,e,f,h,i,j,k])++[o]=D++[a,b,c,d,e,f,h,i,j,k,o]:=fun _ _ _ _ _ _ _ _ _ _ _=>by simp
  rw[e0,e1]
  simp only[go_sem,hB,z6,hRc,q8c (z:= .bool false) (n:=(z7p x s.clauses).length) (b:=1) rfl (by omega)]
  refine z3t s.clauses.length (by omega) (fun i q=>∃ (g0 g1 g2 g3 g4 g5:Nat) (o6 o7 o8 o9:AObj) (j:Nat) (out:List (Bool×List Val)) (t:Tip),Kp z (z7p x (s.clauses.take i)) out∧j≤l.length∧q.ts 7= .ptr (B + 0) g0 0 0∧q.ts 8= .ptr (B + 1) g1 0 0∧q.ts 10= .ptr (B + 2) g2 0 0∧q.ts 12= .ptr (B + 3) g3 0 0∧q.ts 13= .ptr (B + 4) g4 0 0∧q.ts 15= .ptr (B + 10) g 0 0∧q.ts 16= .ob (B + 5) g5 0 (z7p x s.clauses).length∧q.ts 17= .sl (out.map v3w) t∧q.ts 18= .int .i64 (out.length:Int)∧q.ts 19= .int .i64 (i:Int)∧q.h=D++[.blk g0 [.agg [.sl (s.preds.map z1f) .no, .sl (s.clauses.map z0g) .no]] false false 0, .blk g1 [eTf x] false false 0, .blk g2 [.agg [.sl (R.preds.map z1f) .no, .sl ((z7p x s.clauses).map z0g) .no]] false false 0, .blk g3 [.agg [.sl (y.map z5l) .no]] false false 0, .blk g4 [.agg [.sl (z.map z5l) .no]] false false 0, .blk g5 (j1a out ((z7p x s.clauses).length - out.length)) true false 0,o6,o7,o8,o9,z3d g l j]∧z8x B 9 o9 t 1) ⟨_,_,_,_,_,_,_,_,_,_,0,[], .nil,⟨rfl,fun k h=>by simp[z7p] at h⟩,Nat.zero_le _,rfl,rfl,rfl,rfl,rfl,rfl,rfl,rfl,rfl,rfl,rfl, .inl rfl⟩ ?_ ?_
  ·rintro i hlt f1 f2 ts h clk P ⟨g0,g1,g2,g3,g4,g5,o6,o7,o8,o9,j,out,t,hk,hj,q7,q8,q10,q12,q13,q15,q16,q17,q18,q19,rfl,ht⟩ hnx hex hret
   dsimp only at q7 q8 q10 q12 q13 q15 q16 q17 q18 q19
   have hmem:=j9 hlt
   have hx1:=fun h=>q1r (l:=s.clauses) (i:=i) (h:=h) (t:= .no) (k:= .i64) hlt
   simp only[go_sem,j2f,q7,q8,q10,q12,q13,q15,q16,q17,q18,q19,hB,f1,z6]
   refine v3v (i:=i) (cs:=s.clauses) (c:=s.clauses[i]) hlc hB hj hlt rfl (hv.clauses _ hmem).1 (by simp[z0b,q7]) (by simp[z0b,q15]) (by simp[z0b,q19]) (by simp[z0b]) (by simp[z0b]) (by simp[z0b,q8];rfl) (by simp[z0b,q10];rfl) (by simp[z0b,q12];rfl) (by simp[z0b,q13];rfl) (by simp[z0b,q16];rfl) (by simp[z0b,q17];rfl) (by simp[z0b,q18];rfl) fun vs u ts2 o6 o7 j2 clk2 hf hj2 r7 r15 r19 r20 r8 r10 r12 r13 r16 r17 r18=> ?_
   have p6:=j7r (m:=y) (w:=u) hv (fun d hd=>(hy.defs d hd).dat) (fun d hd=>by have:=(hy.nar d hd).2.1;unfold DEv;omega) hys hlt hf
   rw[z2i,z9v] at p6
   have hst:=x4r (x:=x) hlt
   by_cases hp:s.clauses[i].head.pred=x.pred
   ·rw[if_pos hp,u5] at hst
    simp only[go_sem,hB,eTf,r7,r8,r10,r12,r13,r15,r16,r17,r18,r19,r20,z6,z0a p6,hx1,f2,z8,decide_true,decide_false,decide_eq_true hp,z7,j5]
    exact hnx _ ⟨g0,g1,g2,g3,g4,g5,_,_,_,_,j2,out,t,by rw[hst];exact hk,hj2,r7,r8,r10,r12,r13,r15,r16,r17,r18,rfl,rfl,ht⟩
   ·rw[if_neg hp] at hst
    have hol:=hk.len
    have hlt2:out.length < (z7p x s.clauses).length:=by
     have h1:=v3y (x:=x) (cs:=s.clauses) (k:=i + 1)
     rw[hst,y5,w0] at h1
     omega
    obtain⟨w,hw⟩:∃ w,(z7p x s.clauses).length - out.length=w + 1:=⟨(z7p x s.clauses).length - out.length - 1,by omega⟩
    rw[hw]
    have f3:decide (((z7p x s.clauses).length:Int)≤(out.length:Int))=false:=by rw[z03];omega
    have f4:IntKind.i64.wrap ((out.length:Int) + 1)=((out.length + 1:Nat):Int):=z0e (by omega) (by omega)
    have i1:∀ L:List AObj,L[5]? =some (.blk g5 (j1a out (w + 1)) true false 0)→z1m (D++L) 1 (.ob (B + 5) g5 0 (z7p x s.clauses).length) (.int .i64 (out.length:Int))=some (.ptr (B + 5) g5 out.length 0,D++L):=fun L h1=>q1i hB h1 j7w rfl hlt2
    have i2:∀ (L:List AObj) (b:Bool),L[5]? =some (.blk g5 (j1a out (w + 1)) true false 0)→z5q (D++L) 1 (.bool b) (.ptr (B + 5) g5 out.length 0)=some (.undef,D++L.set 5 (.blk g5 (j1a (out++[(b,vs)]) w) true false 0)):=fun L b h1=>by rw[←v3x (p:=(b,vs))];exact k0b hB h1 j7w
    have fin:∀ (b:Bool) (ts':Tmps) (a6 a7 a8:AObj) (gg clk':Nat),(b=true→clauseB z (x1v x.pred x.into s.clauses[i]) vs=true)→ts' 7= .ptr (B + 0) g0 0 0→ts' 8= .ptr (B + 1) g1 0 0→ts' 10= .ptr (B + 2) g2 0 0→ts' 12= .ptr (B + 3) g3 0 0→ts' 13= .ptr (B + 4) g4 0 0→ts' 15= .ptr (B + 10) g 0 0→ts' 16= .ob (B + 5) g5 0 (z7p x s.clauses).length→ts' 17= .sl (out.map v3w++[v3w (b,vs)]) (.at (B + 9) gg)→ts' 18= .int .i64 ((out.length + 1:Nat):Int)→ts' 19= .int .i64 ((i + 1:Nat):Int)→P .norm ⟨ts',D++[.blk g0 [.agg [.sl (s.preds.map z1f) .no, .sl (s.clauses.map z0g) .no]] false false 0, .blk g1 [eTf x] false false 0, .blk g2 [.agg [.sl (R.preds.map z1f) .no, .sl ((z7p x s.clauses).map z0g) .no]] false false 0, .blk g3 [.agg [.sl (y.map z5l) .no]] false false 0, .blk g4 [.agg [.sl (z.map z5l) .no]] false false 0, .blk g5 (j1a (out++[(b,vs)]) w) true false 0,a6,a7,a8, .tip gg 1,z3d g l j2],clk'⟩:=by
     intro b ts' a6 a7 a8 gg clk' hb t7 t8 t10 t12 t13 t15 t16 t17 t18 t19
     refine hnx _ ⟨g0,g1,g2,g3,g4,g5,a6,a7,a8, .tip gg 1,j2,out++[(b,vs)], .at (B + 9) gg,by rw[hst];exact hk.snoc hf hb,hj2,t7,t8,t10,t12,t13,t15,t16,by show ts' 17=_;rw[t17,v5];rfl,by show ts' 18=_;rw[t18,y5];rfl,t19, ?_, .inr (.inr ⟨_,rfl,rfl⟩)⟩
     rw[show (z7p x s.clauses).length - (out++[(b,vs)]).length=w by rw[y5,w0];omega]
    cases hb:clauseB y s.clauses[i] vs <;> rw[hb] at p6
    ·simp only[go_sem,hB,eTf,r7,r8,r10,r12,r13,r15,r16,r17,r18,r19,r20,z6,z0a p6,hx1,f3,f4,i1,i2,z8,decide_true,decide_false,decide_eq_false hp,z7,j5]
     rw[show [AV.sl (vs.map eV) .no]=[(false,vs)].map v3w from rfl,z0q hB rfl ht q0s q0s (by simp only[z6,w0];omega)]
     simp only[go_sem,hB,r7,r8,r10,r12,r13,r15,r16,r17,r18,r19,r20,f2,f4]
     exact fin false _ _ _ _ _ _ (by simp) r7 r8 r10 r12 r13 r15 r16 rfl rfl rfl
    ·by_cases hi:s.clauses[i].head.pred=x.into
     ·simp only[go_sem,hB,eTf,r7,r8,r10,r12,r13,r15,r16,r17,r18,r19,r20,z6,z0a p6,hx1,f3,f4,i1,i2,z8,decide_true,decide_false,decide_eq_false hp,decide_eq_true hi,z7,j5]
      rw[show [AV.sl (vs.map eV) .no]=[(false,vs)].map v3w from rfl,z0q hB rfl ht q0s q0s (by simp only[z6,w0];omega)]
      simp only[go_sem,hB,r7,r8,r10,r12,r13,r15,r16,r17,r18,r19,r20,f2,f4]
      exact fin false _ _ _ _ _ _ (by simp) r7 r8 r10 r12 r13 r15 r16 rfl rfl rfl
     ·simp only[go_sem,hB,eTf,r7,r8,r10,r12,r13,r15,r16,r17,r18,r19,r20,z6,z0a p6,hx1,f3,f4,i1,i2,z8,decide_true,decide_false,decide_eq_false hp,decide_eq_false hi,z7,j5]
      rw[show [AV.sl (vs.map eV) .no]=[(true,vs)].map v3w from rfl,z0q hB rfl ht q0s q0s (by simp only[z6,w0];omega)]
      simp only[go_sem,hB,r7,r8,r10,r12,r13,r15,r16,r17,r18,r19,r20,f2,f4]
      exact fin true _ _ _ _ _ _ (fun _=>hcf hmem hf (by rw[←hxp];exact hp) (by rw[←hxi];exact hi) hb) r7 r8 r10 r12 r13 r15 r16 rfl rfl rfl
  ·rintro f1 ts h clk P ⟨g0,g1,g2,g3,g4,g5,o6,o7,o8,o9,j,out,t,hk,hj,q7,q8,q10,q12,q13,q15,q16,q17,q18,q19,rfl,ht⟩ hex hret
   dsimp only at q7 q8 q10 q12 q13 q15 q16 q17 q18 q19
   rw[u4,←hRc] at hk
   have hol:=hk.len
   have hw:(z7p x s.clauses).length - out.length=0:=by rw[←hRc];omega
   rw[hw,←hRc]
   rw[←hRc] at hkl q16
   simp only[go_sem,j2f,q7,q8,q10,q12,q13,q15,q16,q17,q18,q19,hB,f1,z6]
   refine hex _ _ ?_
   simp only[go_sem,hB]
   refine z3t R.clauses.length (by omega) (fun i q=>∃ (o0 o1 o3 o6 o7 o8 o9 o10:AObj),q.ts 10= .ptr (B + 2) g2 0 0∧q.ts 13= .ptr (B + 4) g4 0 0∧q.ts 16= .ob (B + 5) g5 0 R.clauses.length∧q.ts 17= .sl (out.map v3w) t∧q.ts 24= .int .i64 (i:Int)∧q.h=D++[o0,o1, .blk g2 [.agg [.sl (R.preds.map z1f) .no, .sl (R.clauses.map z0g) .no]] false false 0,o3, .blk g4 [.agg [.sl (z.map z5l) .no]] false false 0, .blk g5 (j1a out 0) true false 0,o6,o7,o8,o9,o10]) ⟨_,_,_,_,_,_,_,_,by simp[z0b,q10],by simp[z0b,q13],by simp[z0b,q16],by simp[z0b,q17],by simp[z0b],rfl⟩ ?_ ?_
   ·clear q7 q8 q10 q12 q13 q15 q16 q17 q18 q19 f1
    rintro i hlt f1 f2 ts h clk P ⟨o0,o1,o3,o6,o7,o8,o9,o10,q10,q13,q16,q17,q24,rfl⟩ hnx hex2 hret2
    dsimp only at q10 q13 q16 q17 q24
    have hlo:i < out.length:=by omega
    have f3:decide ((out.length:Int)≤(i:Int))=false:=by rw[z03];omega
    obtain⟨k1,k2⟩:=hk.ok i hlt hlo
    have p6:=j7r (s:=R) (m:=z) (vs:=out[i].2) (w:= .no) hrv (fun d hd=>(hzk d hd).dat) hze hzs hlt k1
    rw[z2i,z9v] at p6
    have ia:=fun h=>z3a (f:=v3w) (l:=out) (i:=i) (esz:=1) (h:=h) (t:=t) (k:= .i64) (cs:=[.sl (out[i].2.map eV) .no]) hlo rfl rfl
    have hget:(j1a out 0)[i]? =some (.bool out[i].1):=w6u hlo
    have i1:∀ L:List AObj,L[5]? =some (.blk g5 (j1a out 0) true false 0)→z1m (D++L) 1 (.ob (B + 5) g5 0 R.clauses.length) (.int .i64 (i:Int))=some (.ptr (B + 5) g5 i 0,D++L):=fun L h1=>q1i hB h1 hget rfl hlt
    cases hb1:out[i].1 <;> rw[hb1] at hget
    ·cases hb2:clauseB z R.clauses[i] out[i].2 <;> rw[hb2] at p6 <;>
     ·simp only[go_sem,x5q,q10,q13,q16,q17,q24,hB,f1,f2,f3,z6,ia,i1,hget,z0a p6,z8,decide_true,decide_false,z7,j5]
      exact hnx _ ⟨_,_,_,_,_,_,_,_,q10,q13,q16,q17,rfl,rfl⟩
    ·rw[k2 hb1] at p6
     simp only[go_sem,x5q,q10,q13,q16,q17,q24,hB,f1,f2,f3,z6,ia,i1,hget,z0a p6,z8,decide_true,decide_false,z7,j5]
     exact hnx _ ⟨_,_,_,_,_,_,_,_,q10,q13,q16,q17,rfl,rfl⟩
   ·clear q7 q8 q10 q12 q13 q15 q16 q17 q18 q19 f1
    rintro f1 ts h clk P ⟨o0,o1,o3,o6,o7,o8,o9,o10,q10,q13,q16,q17,q24,rfl⟩ hex2 hret2
    dsimp only at q10 q13 q16 q17 q24
    simp only[go_sem,x5q,q10,q13,q16,q17,q24,hB,f1,z6]
    refine hex2 _ _ ?_
    simp only[go_sem,hB,z0a v8x]
    rw[z0d]
    exact hR _ _ rfl
 ·simp only[go_sem,hB,eTf,z8,decide_false,j5,z0a v8x]
  rw[z0d]
  exact hR _ _ rfl
end Go.Proofs.YtkollgjffkdliaaGreatDoor.Am
