/- Walking: the reference asks for atoms and for kinds Walking: the reference's copies Walking: the reference's slicing Walking: the reference's slicing Walking: the reference's slicing Walking: Apply fo -/
import Derived.Test.YtahdahokpjigiaaGreatDoorM32
set_option linter.all false
namespace Go.Proofs.YtahdahokpjigiaaGreatDoor.Am
open Go
set_option maxRecDepth 100000
theorem j1a {l:List App} {i:Nat} {h:List AObj} {t:Tip} {k:IntKind} (hi:i < l.length):z1m h 2 (.sl (l.map z3x) t) (.int k (i:Int))=some (.iptr [.str l[i].pred, .sl (l[i].args.map z0l) .no] 0,h):=z2f hi rfl rfl
theorem v1l {c:Clause} {l:List (List Nat)} {u:Tip} (hb:c.body.length≤2 ^ 20) (hl:l.length≤1000):Pure Gam 131 [z0f c, .sl (z1t l) u] (.bool (c.body.any fun a=>decide (a.pred∈l))):=by
 refine Pure.of rfl u4o rfl rfl rfl (az:=[z0f c, .sl (z1t l) .no]) rfl (by simp[idsL,AV.ids,z2d,z1z]) fun D B clk T hB hT=> ?_
 simp only[go_sem,u0b,hB,z0f,z0l]
 refine z6z c.body.length (by omega) (fun i q=>∃ g0,(∀ a∈c.body.take i,a.pred∉l)∧q.ts 1= .sl (z1t l) .no∧q.ts 2= .ptr (B + 0) g0 0 0∧q.ts 5= .int .i64 (i:Int)∧q.h=D++[.blk g0 [.agg [.sl (c.vars.map z1b) .no, .sl (c.body.map z3x) .no, .sl (c.guard.map eNode) .no, .str c.head.pred, .sl (c.head.args.map z0l) .no]] false false 0]) ⟨_,by simp,rfl,rfl,rfl,rfl⟩ ?_ ?_
 ·rintro i hlt f1 f2 ts h clk P ⟨g0,hno,h1,h2,h5,rfl⟩ hnx he hr
  dsimp only at h1 h2 h5
  have p1:=x3h (l:=l) (nm:=c.body[i].pred) (u:= .no) hl
  have htake:=List.take_succ_eq_append_getElem hlt
  by_cases hin:c.body[i].pred∈l
  ·rw[show decide (c.body[i].pred∈l)=true from decide_eq_true hin] at p1
   simp only[go_sem,j9w,h1,h2,h5,hB,List.length_map,f1,j1a hlt,z0a p1]
   refine hr _ ?_
   rw[show (c.body.any fun a=>decide (a.pred∈l))=true from List.any_eq_true.2 ⟨_,List.getElem_mem hlt,by simp[hin]⟩] at hT
   simp only[go_sem,]
   rw[z0e]
   exact hT _
  ·rw[show decide (c.body[i].pred∈l)=false from decide_eq_false hin] at p1
   simp only[go_sem,j9w,h1,h2,h5,hB,List.length_map,f1,f2,j1a hlt,z0a p1]
   refine hnx _ ⟨g0,fun a ha=> ?_,h1,h2,rfl,rfl⟩
   rw[htake] at ha
   rcases List.mem_append.1 ha with ha | ha
   ·exact hno a ha
   ·rw[List.mem_singleton.1 ha];exact hin
 ·rintro f1 ts h clk P ⟨g0,hno,h1,h2,h5,rfl⟩ he hr
  dsimp only at h1 h2 h5
  rw[List.take_length] at hno
  simp only[go_sem,j9w,h1,h2,h5,hB,List.length_map,f1]
  refine he _ _ ?_
  rw[show (c.body.any fun a=>decide (a.pred∈l))=false from List.any_eq_false.2 fun a ha=>by simp[hno a ha]] at hT
  simp only[go_sem,]
  rw[z0e]
  exact hT _
def q2l (x:Tf):Bool:=decide (x.kind=2) && decide (x.pred=[]) && decide (x.into=[]) && decide (x.clause=0) && decide (x.atom=0) && decide (x.drops=[])
theorem x8c {x:Tf}:decide ((x.drops.length:Int)=0)=decide (x.drops=[]):=by
 cases x.drops with
 | nil=>rfl
 | cons a l=>simp;omega
theorem y0h {x:Tf} (hx:TfOk x):Pure Gam 96 [eTf x, .int .i64 2] (.bool (q2l x)):=by
 refine Pure.of rfl u4l rfl rfl rfl (az:=[eTf x, .int .i64 2]) rfl (by simp[idsL,AV.ids,z6y hx]) fun D B clk T hB hT=> ?_
 have e1:decide ((2:Int)=4)=false:=rfl
 have e2:decide ((2:Int)=6)=false:=rfl
 have e3:decide ((2:Int)=5)=false:=rfl
 have e4:decide ((2:Int)=3)=false:=rfl
 unfold q2l at hT
 cases b1:decide (x.kind=2) <;> rw[b1] at hT
 ·simp only[go_sem,v5h,hB,eTf,b1,Bool.not_false]
  rw[z0e]
  exact hT _
 cases b2:decide (x.pred=[]) <;> rw[b2] at hT
 ·simp only[go_sem,v5h,hB,eTf,b1,b2,Bool.not_true,e1,e2,e3,e4,decide_true]
  rw[z0e]
  exact hT _
 cases b3:decide (x.into=[]) <;> rw[b3] at hT
 ·simp only[go_sem,v5h,hB,eTf,b1,b2,b3,Bool.not_true,e1,e2,e3,e4,decide_true]
  rw[z0e]
  exact hT _
 cases b4:decide (x.clause=0) <;> rw[b4] at hT
 ·simp only[go_sem,v5h,hB,eTf,b1,b2,b3,b4,Bool.not_true,e1,e2,e3,e4,decide_true]
  rw[z0e]
  exact hT _
 cases b5:decide (x.atom=0) <;> rw[b5] at hT
 ·simp only[go_sem,v5h,hB,eTf,b1,b2,b3,b4,b5,Bool.not_true,e1,e2,e3,e4,decide_true]
  rw[z0e]
  exact hT _
 simp only[go_sem,v5h,hB,eTf,b1,b2,b3,b4,b5,Bool.not_true,e1,e2,e3,e4,decide_true,x8c]
 rw[z0e]
 simpa using hT _
theorem append_nil {D L:List AObj} {B k esz b gen:Nat} {ys:List AV} {u:Tip} {o:AObj} (hB:D.length=B) (ho:L[k]? =some o) (hy:z0t esz ys=true) (hl:ys.length * (b + 1)≤2 ^ 46):
  z1g (D++L) (B + k) gen esz b false (.sl [] .nil) (.sl ys u)=some (.sl ys (.at (B + k) gen),D++L.set k (.tip gen esz)):=
 z0j (xs:=[]) hB ho (.inl rfl) rfl hy (by simpa using hl)
theorem v9g {l:List Term} {u:Tip} (hl:l.length≤2 ^ 20) (hts:∀ t∈l,t.length≤2 ^ 20):Pure Gam 287 [.sl (l.map z0l) u] (.sl (l.map z0l) .no):=by
 refine Pure.of rfl y4l rfl rfl rfl (az:=[.sl (l.map z0l) .no]) rfl (by simp[idsL,AV.ids,z0c z2q]) fun D B clk T hB hT=> ?_
 simp only[go_sem,w4x,List.length_map]
 refine z6z l.length (by omega) (fun i q=>∃ (t:Tip) (a b o:AObj),q.ts 0= .sl (l.map z0l) .no∧q.ts 3= .sl ((l.take i).map z0l) t∧q.ts 4= .int .i64 (i:Int)∧q.h=D++[a,b,o]∧z8k B 2 o t 1) ⟨.nil,_,_,_,rfl,rfl,rfl,rfl, .inl rfl⟩ ?_ ?_
 ·rintro i hlt f1 f2 ts h clk P ⟨t,a,b,o,q0,q3,q4,rfl,ht⟩ hnx he hr
  dsimp only at q0 q3 q4
  have hix:∀ h,z1m h 1 (.sl (l.map z0l) .no) (.int .i64 (i:Int))=some (.iptr [.sl (l[i].map eNode) .no] 0,h):=fun h=>q4u hlt
  have e8:(l.take i).map z0l++[l[i]].map z0l=(l.take (i + 1)).map z0l:=by rw[List.take_succ_eq_append_getElem hlt,List.map_append]
  have hpx:=hts _ (List.getElem_mem hlt)
  generalize l[i]=x at *
  simp only[go_sem,j2n,q0,q3,q4,hB,f1,hix,List.length_map]
  rw[append_nil hB rfl z6l (by rw[List.length_map];omega)]
  simp only[go_sem,q0,q3,q4,hB]
  rw[show [AV.sl (x.map eNode) .no]=[x].map z0l from rfl,z0j hB rfl ht z3s z3s (by simp only[List.length_map,List.length_singleton,List.length_take];omega),e8]
  simp only[go_sem,q0,q3,q4,f2]
  exact hnx _ ⟨_,_,_,_,q0,rfl,rfl,rfl, .inr (.inr ⟨_,rfl,rfl⟩)⟩
 ·rintro f1 ts h clk P ⟨t,a,b,o,q0,q3,q4,rfl,ht⟩ he hr
  dsimp only at q0 q3 q4
  rw[List.take_length] at q3
  simp only[go_sem,j2n,q0,q3,q4,f1,List.length_map]
  refine he _ _ ?_
  simp only[go_sem,q3]
  rw[z2x rfl (by simp[AV.cv,AV.ids,z0c z2q])]
  exact hT _
theorem k2v {a:App} (hl:a.args.length≤2 ^ 20) (hts:∀ t∈a.args,t.length≤2 ^ 20):Pure Gam 228 [z3x a] (z3x a):=by
 have hp:=v9g (u:= .no) hl hts
 refine Pure.of rfl y4k rfl rfl rfl (az:=[z3x a]) rfl (by simp[idsL,z4w]) fun D B clk T hB hT=> ?_
 simp only[go_sem,w4w,hB,z3x,z1i,z0a hp,z0n,z0m,z0g]
 refine⟨by simp[z1f,apart,z0i,z1d,z1h,AOp.isCall,hB], ?_⟩
 rw[z2x rfl (by simp[AV.cv,cvL,AV.ids,idsL,z0c z2q])]
 exact hT _
theorem v9h {c:Clause} (hc:SmallC c):Pure Gam 152 [z0f c] (z0f c):=by
 have hp:=k2v hc.hargs.1 hc.hargs.2
 have hbl:=hc.body
 have hvl:=hc.vars
 have hgl:=hc.guard
 rw[z3x] at hp
 refine Pure.of rfl y4j rfl rfl rfl (az:=[z0f c]) rfl (by simp[idsL,z1z]) fun D B clk T hB hT=> ?_
 simp only[go_sem,w4v,hB,z0f,z0l,z1i]
 rw[append_nil hB rfl z2e (by rw[List.length_map];omega)]
 simp only[go_sem,hB]
 rw[append_nil hB rfl z6l (by rw[List.length_map];omega)]
 simp only[go_sem,hB,z0a hp]
 refine⟨by simp[z1f,apart,z0i,z1d,z1h,AOp.isCall,hB,AV.ids,idsL,z0c z2b,z0c z1y,z0c z2q], ?_⟩
 refine z6z c.body.length (by omega) (fun i q=>∃ (g0 g1 g2:Nat) (t u1 u2:Tip) (o2 o3 o5 o6:AObj),q.ts 1= .ptr (B + 0) g0 0 0∧q.ts 2= .ptr (B + 1) g1 0 0∧q.ts 3= .ptr (B + 4) g2 0 0∧q.ts 4= .int .i64 (i:Int)∧q.h=D++[.blk g0 [.agg [.sl (c.vars.map z1b) .no, .sl (c.body.map z3x) .no, .sl (c.guard.map eNode) .no, .str c.head.pred, .sl (c.head.args.map z0l) .no]] false false 0, .blk g1 [.agg [.sl [] .nil, .sl [] .nil, .sl [] .nil, .str [], .sl [] .nil]] false false 0,o2,o3, .blk g2 [.agg [.sl (c.vars.map z1b) u1, .sl ((c.body.take i).map z3x) t, .sl (c.guard.map eNode) u2, .str c.head.pred, .sl (c.head.args.map z0l) .no]] false false 0,o5,o6]∧z8k B 6 o6 t 2) ⟨_,_,_, .nil,_,_,_,_,_,_,rfl,rfl,rfl,rfl,rfl, .inl rfl⟩ ?_ ?_
 ·rintro i hlt f1 f2 ts h clk P ⟨g0,g1,g2,t,u1,u2,o2,o3,o5,o6,q1,q2,q3,q4,rfl,ht⟩ hnx he hr
  dsimp only at q1 q2 q3 q4
  have hix:=fun h=>j1a (l:=c.body) (i:=i) (h:=h) (t:= .no) (k:= .i64) hlt
  have e8:(c.body.take i).map z3x++[c.body[i]].map z3x=(c.body.take (i + 1)).map z3x:=by rw[List.take_succ_eq_append_getElem hlt,List.map_append]
  have hpa:=k2v (a:=c.body[i]) (hc.bargs _ (List.getElem_mem hlt)).1 (hc.bargs _ (List.getElem_mem hlt)).2
  rw[z3x] at hpa
  generalize c.body[i]=x at *
  simp only[go_sem,j2m,q1,q2,q3,q4,hB,z1i,f1,hix,z0a hpa,List.length_map]
  rw[show [AV.agg [.str x.pred, .sl (x.args.map z0l) .no]]=[x].map z3x from rfl,z0j hB rfl ht z7h z7h (by simp only[List.length_map,List.length_singleton,List.length_take];omega),e8]
  simp only[go_sem,q1,q2,q3,q4,hB,f2]
  refine⟨by simp[z1f,apart,z0i,z1d,z1h,AOp.isCall,hB,AV.ids,idsL,z0c z2q,z0c z4w], ?_⟩
  exact hnx _ ⟨g0,g1,g2,_,_,_,_,_,_,_,q1,q2,q3,rfl,rfl, .inr (.inr ⟨_,rfl,rfl⟩)⟩
 ·rintro f1 ts h clk P ⟨g0,g1,g2,t,u1,u2,o2,o3,o5,o6,q1,q2,q3,q4,rfl,ht⟩ he hr
  dsimp only at q1 q2 q3 q4
  rw[List.take_length]
  simp only[go_sem,j2m,q1,q2,q3,q4,hB,f1,List.length_map]
  refine he _ _ ?_
  simp only[go_sem,q1,q2,q3,hB,z0n,z0m,z0g]
  rw[z2x rfl (by simp[AV.cv,cvL,AV.ids,idsL,z0c z2b,z0c z1y,z0c z2q,z0c z4w])]
  exact hT _
theorem y0i {s:Sys} {u v:Tip} (hp:s.preds.length≤1000) (ha:∀ f∈s.preds,f.args.length≤2 ^ 20) (hl:s.clauses.length≤2 ^ 18) (hc:∀ c∈s.clauses,SmallC c):Pure Gam 99 [.agg [.sl (s.preds.map z0q) u, .sl (s.clauses.map z0f) v]] (z0x s):=by
 refine Pure.of rfl u4m rfl rfl rfl (az:=[.agg [.sl (s.preds.map z0q) .no, .sl (s.clauses.map z0f) .no]]) rfl (by simp[idsL,AV.ids,z0c z2j,z0c z1z]) fun D B clk T hB hT=> ?_
 simp only[go_sem,y9x,hB,List.length_map]
 refine z6z s.preds.length (by omega) (fun i q=>∃ (g0 g1 g2:Nat) (t:Tip) (o3 o4 o5 o6 o7 o8:AObj),q.ts 1= .ptr (B + 0) g0 0 0∧q.ts 2= .ptr (B + 1) g1 0 0∧q.ts 3= .ptr (B + 2) g2 0 0∧q.ts 4= .int .i64 (i:Int)∧q.h=D++[.blk g0 [.agg [.sl (s.preds.map z0q) .no, .sl (s.clauses.map z0f) .no]] false false 0, .blk g1 [.agg [.sl [] .nil, .sl [] .nil]] false false 0, .blk g2 [.agg [.sl ((s.preds.take i).map z0q) t, .sl [] .nil]] false false 0,o3,o4,o5,o6,o7,o8]∧z8k B 6 o6 t 3) ⟨_,_,_, .nil,_,_,_,_,_,_,rfl,rfl,rfl,rfl,rfl, .inl rfl⟩ ?_ ?_
 ·rintro i hlt f1 f2 ts h clk P ⟨g0,g1,g2,t,o3,o4,o5,o6,o7,o8,q1,q2,q3,q4,rfl,ht⟩ hnx he hr
  dsimp only at q1 q2 q3 q4
  have hix:=fun h=>z6g (l:=s.preds) (i:=i) (h:=h) (t:= .no) (k:= .i64) hlt
  have e8:(s.preds.take i).map z0q++[s.preds[i]].map z0q=(s.preds.take (i + 1)).map z0q:=by rw[List.take_succ_eq_append_getElem hlt,List.map_append]
  have hpf:=ha _ (List.getElem_mem hlt)
  generalize s.preds[i]=f at *
  simp only[go_sem,k5j,q1,q2,q3,q4,hB,f1,hix,List.length_map]
  rw[append_nil hB rfl z3y (by rw[List.length_map];omega)]
  simp only[go_sem,q1,q2,q3,q4,hB]
  rw[show [AV.agg [.str f.name, .sl (f.args.map nat) .no, .int .i64 (f.result:Int)]]=[f].map z0q from rfl,z0j hB rfl ht z4o z4o (by simp only[List.length_map,List.length_singleton,List.length_take];omega),e8]
  simp only[go_sem,q1,q2,q3,q4,hB,f2]
  exact hnx _ ⟨g0,g1,g2,_,_,_,_,_,_,_,q1,q2,q3,rfl,rfl, .inr (.inr ⟨_,rfl,rfl⟩)⟩
 ·rintro f1 ts h clk P ⟨g0,g1,g2,tp,o3,o4,o5,o6,o7,o8,q1,q2,q3,q4,rfl,ht⟩ he hr
  dsimp only at q1 q2 q3 q4
  rw[List.take_length]
  simp only[go_sem,k5j,q1,q2,q3,q4,hB,f1,List.length_map]
  refine he _ _ ?_
  simp only[go_sem,]
  clear ht q4 f1
  refine z6z s.clauses.length (by omega) (fun i q=>∃ (t:Tip) (o3 o4 o5 o6 o7 o8:AObj),q.ts 1= .ptr (B + 0) g0 0 0∧q.ts 2= .ptr (B + 1) g1 0 0∧q.ts 3= .ptr (B + 2) g2 0 0∧q.ts 6= .int .i64 (i:Int)∧q.h=D++[.blk g0 [.agg [.sl (s.preds.map z0q) .no, .sl (s.clauses.map z0f) .no]] false false 0, .blk g1 [.agg [.sl [] .nil, .sl [] .nil]] false false 0, .blk g2 [.agg [.sl (s.preds.map z0q) tp, .sl ((s.clauses.take i).map z0f) t]] false false 0,o3,o4,o5,o6,o7,o8]∧z8k B 8 o8 t 5) ⟨.nil,_,_,_,_,_,_,by simp[z0b,q1],by simp[z0b,q2],by simp[z0b,q3],by simp[z0b],rfl, .inl rfl⟩ ?_ ?_
  ·clear q1 q2 q3
   rintro i hlt f1 f2 ts h clk P ⟨t,o3,o4,o5,o6,o7,o8,q1,q2,q3,q6,rfl,ht⟩ hnx he hr
   dsimp only at q1 q2 q3 q6
   have hix:=fun h=>z8l (l:=s.clauses) (i:=i) (h:=h) (t:= .no) (k:= .i64) hlt
   have e8:(s.clauses.take i).map z0f++[s.clauses[i]].map z0f=(s.clauses.take (i + 1)).map z0f:=by rw[List.take_succ_eq_append_getElem hlt,List.map_append]
   have hpc:=v9h (hc _ (List.getElem_mem hlt))
   rw[z0f,z0l] at hpc
   generalize s.clauses[i]=c at *
   simp only[go_sem,j9t,q1,q2,q3,q6,hB,z1i,f1,hix,z0a hpc,List.length_map]
   rw[show [AV.agg [.sl (c.vars.map z1b) .no, .sl (c.body.map z3x) .no, .sl (c.guard.map eNode) .no, .str c.head.pred, .sl (c.head.args.map z0l) .no]]=[c].map z0f from rfl,z0j hB rfl ht z3l z3l (by simp only[List.length_map,List.length_singleton,List.length_take];omega),e8]
   simp only[go_sem,q1,q2,q3,q6,hB,f2]
   refine⟨by simp[z1f,apart,z0i,z1d,z1h,AOp.isCall,hB,AV.ids,idsL,z0c z2q,z0c z2b,z0c z4w,z0c z1y,z0c z1z], ?_⟩
   exact hnx _ ⟨_,_,_,_,_,_,_,q1,q2,q3,rfl,rfl, .inr (.inr ⟨_,rfl,rfl⟩)⟩
  ·clear q1 q2 q3
   rintro f1 ts h clk P ⟨t,o3,o4,o5,o6,o7,o8,q1,q2,q3,q6,rfl,ht⟩ he hr
   dsimp only at q1 q2 q3 q6
   rw[List.take_length]
   simp only[go_sem,j9t,q1,q2,q3,q6,hB,f1,List.length_map]
   refine he _ _ ?_
   simp only[go_sem,q1,q2,q3,hB,z0n,z0m,z0g]
   rw[z2x rfl (by simp[AV.cv,cvL,AV.ids,idsL,z0c z2j,z0c z1z])]
   exact hT _
theorem j7b {ps:List Func} {nm:List Nat}:decide (z4s ps nm < 0)= !decide (nm∈ps.map (·.name)):=by
 by_cases h:nm∈ps.map (·.name)
 ·rw[decide_eq_true h]
  unfold z4s
  cases hf:ps.findIdx? (fun p=>decide (p.name=nm)) with
  | none=>
    rw[List.findIdx?_eq_none_iff] at hf
    obtain⟨f,hf1,hf2⟩:=List.mem_map.1 h
    have:=hf f hf1
    simp[hf2] at this
  | some i=>simp
 ·rw[decide_eq_false h,z7i fun p hp e=>h (List.mem_map.2 ⟨p,hp,e⟩)]
  rfl
theorem q2w {D L:List AObj} {B j k esz b gen g:Nat} {xs ys:List AV} {u:Tip} (hB:D.length=B) (ho:L[j]? =some (.tip g esz)) (hx:z0t esz xs=true) (hy:z0t esz ys=true) (hl:(xs.length + ys.length) * (b + 1)≤2 ^ 46):
  z1g (D++L) (B + k) gen esz b false (.sl xs (.at (B + j) g)) (.sl ys u)=some (.sl (xs++ys) (.at (B + k) gen),D++(L.set j .dead).set k (.tip gen esz)):=by
 have hgt:¬ (xs.length + ys.length) * (b + 1) > z1c:=by unfold z1c;omega
 unfold z1g
 simp only[z5a,hy,Bool.not_true,Bool.false_eq_true,if_false,hx,Bool.or_false,decide_eq_true_eq,hgt,z6k hB,ho,and_self,if_true,z5i hB]
structure TfS (x:Tf):Prop where
 un:x.un.length≤100
 und:x.und.length≤100
 drops:idsL x.drops=[]
theorem TfS.ok {x:Tf} (h:TfS x):TfOk x:=⟨by have:=h.un;omega,by have:=h.und;omega,h.drops⟩
def z7w (x:Tf):List (List Nat):=x.un++x.und
theorem TfS.len {x:Tf} (h:TfS x):(z7w x).length≤200:=by
 have h1:=h.un
 have h2:=h.und
 unfold z7w
 rw[List.length_append]
 omega
def q6i (s:Sys) (x:Tf):Prop:=(z7w x).Nodup∧∀ a∈z7w x,a∈s.preds.map (·.name)
def H50 (g0 gx g2:Nat) (s:Sys) (x:Tf) (r:List AObj):List AObj:= .blk g0 [z0x s] false false 0:: .blk gx [eTf x] false false 0:: .blk g2 [.agg [.sl [] .nil, .sl [] .nil]] false false 0::r
theorem k2w {s:Sys} {x:Tf} {B clk g0 gx g2:Nat} {D r:List AObj} {tg:Tip} {ts:Tmps} {ks:List Kf} {Q:Post} (hB:D.length=B) (hpl:s.preds.length≤1000) (hx:TfS x) (h2:ts 2= .ptr (B + 0) g0 0 0) (h3:ts 3= .ptr (B + 1) gx 0 0) (h4:ts 4= .ptr (B + 2) g2 0 0) (h7:ts 7= .sl (z1t (z7w x)) tg) (h8:ts 8= .int .i64 0)
  (hok:q6i s x→∀ (ts':Tmps) (clk':Nat),ts' 2= .ptr (B + 0) g0 0 0→ts' 3= .ptr (B + 1) gx 0 0→ts' 4= .ptr (B + 2) g2 0 0→ts' 7= .sl (z1t (z7w x)) tg→K Gam B (.exit 0) ks ⟨ts',D++H50 g0 gx g2 s x r,clk'⟩ Q)
  (hbad:¬ q6i s x→∀ (ts':Tmps) (clk':Nat),ts' 4= .ptr (B + 2) g2 0 0→ts' 5= .sl [] .nil→ts' 6= .int .i64 8→K Gam B .ret ks ⟨ts',D++H50 g0 gx g2 s x r,clk'⟩ Q):
  K Gam B (.loop x9u) ks ⟨ts,D++H50 g0 gx g2 s x r,clk⟩ Q:=by
 have hfl:=hx.len
 unfold q6i at hok hbad
 generalize z7w x=fl at *
 have hsl:(z1t fl).length=fl.length:=List.length_map _
 refine z6z fl.length (by omega) (fun i q=>(fl.take i).Nodup∧(∀ a∈fl.take i,a∈s.preds.map (·.name))∧q.ts 2= .ptr (B + 0) g0 0 0∧q.ts 3= .ptr (B + 1) gx 0 0∧q.ts 4= .ptr (B + 2) g2 0 0∧q.ts 7= .sl (z1t fl) tg∧q.ts 8= .int .i64 (i:Int)∧q.h=D++H50 g0 gx g2 s x r) ⟨by simp,by simp,h2,h3,h4,h7,h8,rfl⟩ ?_ ?_
 ·clear h2 h3 h4 h7 h8
  rintro i hlt f1 f2 ts h clk P ⟨hnd,hin,q2,q3,q4,q7,q8,rfl⟩ hnx he hr
  dsimp only at q2 q3 q4 q7 q8
  have hix:∀ h,z1m h 1 (.sl (z1t fl) tg) (.int .i64 (i:Int))=some (.iptr [.str fl[i]] 0,h):=fun h=>q5k hlt
  have hcut:∀ h,slV h (some 1) (.sl (z1t fl) tg) none (some (.int .i64 (i:Int))) none=some (.sl (z1t (fl.take i)) .no,h):=fun h=>by
   rw[q4x (by omega) (by cases fl <;> rfl),if_neg (by omega),z1t,z1t,List.map_take]
  have htake:fl.take (i + 1)=fl.take i++[fl[i]]:=List.take_succ_eq_append_getElem hlt
  have hsub:(fl.take (i + 1)).Sublist fl:=List.take_sublist _ _
  have htl:(fl.take i).length≤1000:=by rw[List.length_take];omega
  generalize fl[i]=a at *
  have p1:=q3e (s:=s) (nm:=a) hpl
  rw[z0x] at p1
  have hneg:=j7b (ps:=s.preds) (nm:=a)
  have p2:=x3h (l:=fl.take i) (nm:=a) (u:= .no) htl
  by_cases hm:a∈s.preds.map (·.name)
  ·rw[decide_eq_true hm,Bool.not_true] at hneg
   by_cases ha:a∈fl.take i
   ·rw[decide_eq_true ha] at p2
    simp only[go_sem,x9u,H50,z0x,q2,q3,q4,q7,q8,hB,f1,hsl,hix,z0a p1,hneg,hcut,z0a p2]
    refine hr _ (hbad (fun h=> ?_) _ _ (by simp[z0b,q4]) (by simp[z0b]) (by simp[z0b]))
    have:=h.1.sublist hsub
    rw[htake,List.nodup_append] at this
    exact this.2.2 _ ha _ (by simp) rfl
   ·rw[decide_eq_false ha] at p2
    simp only[go_sem,x9u,H50,z0x,q2,q3,q4,q7,q8,hB,f1,f2,hsl,hix,z0a p1,hneg,hcut,z0a p2]
    refine hnx _ ⟨?_,fun b hb'=> ?_,q2,q3,q4,q7,rfl,rfl⟩
    ·rw[htake,List.nodup_append]
     refine⟨hnd,by simp,fun y hy z hz=> ?_⟩
     rw[List.mem_singleton.1 hz]
     exact fun e=>ha (e ▸ hy)
    ·rw[htake,List.mem_append,List.mem_singleton] at hb'
     rcases hb' with hb' | rfl
     ·exact hin b hb'
     ·exact hm
  ·rw[decide_eq_false hm,Bool.not_false] at hneg
   simp only[go_sem,x9u,H50,z0x,q2,q3,q4,q7,q8,hB,f1,hsl,hix,z0a p1,hneg]
   refine hr _ (hbad (fun h=>hm (h.2 _ (hsub.mem (by rw[htake];simp)))) _ _ (by simp[z0b,q4]) (by simp[z0b]) (by simp[z0b]))
 ·clear h2 h3 h4 h7 h8
  rintro f1 ts h clk P ⟨hnd,hin,q2,q3,q4,q7,q8,rfl⟩ he hr
  dsimp only at q2 q3 q4 q7 q8
  rw[List.take_length] at hnd hin
  simp only[go_sem,x9u,q2,q3,q4,q7,q8,f1,hsl]
  exact he _ _ (hok ⟨hnd,hin⟩ _ _ (by simp[z0b,q2]) (by simp[z0b,q3]) (by simp[z0b,q4]) (by simp[z0b,q7]))
def x5d (g5:Nat) (a:AObj) (b:AObj) (ps cs:AV) (r:List AObj):List AObj:=a::b:: .blk g5 [.agg [ps,cs]] false false 0::r
theorem k7x {s:Sys} {x:Tf} {B clk g0 gx g2 g5:Nat} {D:List AObj} {a b o6 o7 o8 o9 o10 o11:AObj} {tg:Tip} {ts:Tmps} {ks:List Kf} {Q:Post} (hB:D.length=B) (hpl:s.preds.length≤1000) (hx:TfS x) (h2:ts 2= .ptr (B + 0) g0 0 0) (h3:ts 3= .ptr (B + 1) gx 0 0) (h4:ts 4= .ptr (B + 2) g2 0 0) (h7:ts 7= .sl (z1t (z7w x)) tg) (h9:ts 9= .ptr (B + 5) g5 0 0) (h10:ts 10= .int .i64 0)
  (hok:∀ (ts':Tmps) (t:Tip) (o6 o7:AObj) (clk':Nat),ts' 2= .ptr (B + 0) g0 0 0→ts' 3= .ptr (B + 1) gx 0 0→ts' 4= .ptr (B + 2) g2 0 0→ts' 7= .sl (z1t (z7w x)) tg→ts' 9= .ptr (B + 5) g5 0 0→K Gam B (.exit 2) ks ⟨ts',D++H50 g0 gx g2 s x (x5d g5 a b (.sl ((z2k x s.preds).map z0q) t) (.sl [] .nil) [o6,o7,o8,o9,o10,o11]),clk'⟩ Q):
  K Gam B (.loop x9t) ks ⟨ts,D++H50 g0 gx g2 s x (x5d g5 a b (.sl [] .nil) (.sl [] .nil) [o6,o7,o8,o9,o10,o11]),clk⟩ Q:=by
 have hfl:=hx.len
 refine z6z s.preds.length (by omega) (fun i q=>∃ (t:Tip) (o6 o7:AObj),q.ts 2= .ptr (B + 0) g0 0 0∧q.ts 3= .ptr (B + 1) gx 0 0∧q.ts 4= .ptr (B + 2) g2 0 0∧q.ts 7= .sl (z1t (z7w x)) tg∧q.ts 9= .ptr (B + 5) g5 0 0∧q.ts 10= .int .i64 (i:Int)∧q.h=D++H50 g0 gx g2 s x (x5d g5 a b (.sl ((z2k x (s.preds.take i)).map z0q) t) (.sl [] .nil) [o6,o7,o8,o9,o10,o11])∧z8k B 7 o7 t 3) ⟨.nil,_,_,h2,h3,h4,h7,h9,h10,rfl, .inl rfl⟩ ?_ ?_
 ·clear h2 h3 h4 h7 h9 h10
  rintro i hlt f1 f2 ts h clk P ⟨t,o6,o7,q2,q3,q4,q7,q9,q10,rfl,ht⟩ hnx he hr
  dsimp only at q2 q3 q4 q7 q9 q10
  have hix:=fun h=>z6g (l:=s.preds) (i:=i) (h:=h) (t:= .no) (k:= .i64) hlt
  have hkp:z2k x (s.preds.take (i + 1))=z2k x (s.preds.take i)++(if s.preds[i].name∈z7w x then [] else [s.preds[i]]):=by
   unfold z2k z7w
   rw[List.take_succ_eq_append_getElem hlt,List.filter_append]
   congr 1
   by_cases h1:s.preds[i].name∈x.un <;> by_cases h2:s.preds[i].name∈x.und <;> simp[h1,h2]
  have hkl:(z2k x (s.preds.take i)).length≤1000:=by
   have:=List.length_filter_le (fun f:Func=> !(decide (f.name∈x.un) || decide (f.name∈x.und))) (s.preds.take i)
   rw[List.length_take] at this
   unfold z2k
   omega
  generalize s.preds[i]=f at *
  have p1:=x3h (l:=z7w x) (nm:=f.name) (u:=tg) (by omega)
  by_cases hb:f.name∈z7w x
  ·rw[decide_eq_true hb] at p1
   rw[if_pos hb,List.append_nil] at hkp
   simp only[go_sem,x9t,H50,x5d,z0x,q2,q3,q4,q7,q9,q10,hB,f1,f2,List.length_map,hix,z0a p1,Bool.not_true]
   rw[←hkp]
   exact hnx _ ⟨t,_,_,q2,q3,q4,q7,q9,rfl,rfl,ht⟩
  ·rw[decide_eq_false hb] at p1
   rw[if_neg hb] at hkp
   have e8:(z2k x (s.preds.take i)).map z0q++[f].map z0q=(z2k x (s.preds.take (i + 1))).map z0q:=by rw[hkp,List.map_append]
   simp only[go_sem,x9t,H50,x5d,z0x,q2,q3,q4,q7,q9,q10,hB,f1,z1i,List.length_map,hix,z0a p1,Bool.not_false]
   rw[show [AV.agg [.str f.name, .sl (f.args.map nat) .no, .int .i64 (f.result:Int)]]=[f].map z0q from rfl,z0j hB rfl ht z4o z4o (by simp only[List.length_map,List.length_singleton];omega),e8]
   simp only[go_sem,q2,q3,q4,q7,q9,q10,hB,f2]
   refine⟨by simp[z1f,apart,z0i,z1d,z1h,AOp.isCall,hB,AV.ids,idsL,z0c z2j,z0c z1z], ?_⟩
   exact hnx _ ⟨_,_,_,q2,q3,q4,q7,q9,rfl,rfl, .inr (.inr ⟨_,rfl,rfl⟩)⟩
 ·clear h2 h3 h4 h7 h9 h10
  rintro f1 ts h clk P ⟨t,o6,o7,q2,q3,q4,q7,q9,q10,rfl,ht⟩ he hr
  dsimp only at q2 q3 q4 q7 q9 q10
  rw[List.take_length]
  simp only[go_sem,x9t,H50,x5d,z0x,q2,q3,q4,q7,q9,q10,hB,f1,List.length_map]
  exact he _ _ (hok _ t _ _ _ (by simp[z0b,q2]) (by simp[z0b,q3]) (by simp[z0b,q4]) (by simp[z0b,q7]) (by simp[z0b,q9]))
def q4a (x:Tf):List Clause→Nat→List Int
 | [],_=>[]
 | c::cs,n=>if z5d x.un x.und c=some true then (n:Int)::q4a x cs (n + 1) else -1::q4a x cs n
theorem x5e {x:Tf}:∀ {cs:List Clause} {n:Nat},(q4a x cs n).length=cs.length
 | [],_=>rfl
 | c::cs,n=>by unfold q4a;split <;> simp[x5e]
theorem x0m {x:Tf} {c:Clause}:∀ {cs:List Clause} {n:Nat},q4a x (cs++[c]) n=q4a x cs n++[if z5d x.un x.und c=some true then ((n + (z6r x cs).length:Nat):Int) else -1]
 | [],n=>by
   simp only[List.nil_append,q4a,z6r,List.filter_nil,List.length_nil,Nat.add_zero]
   split <;> rfl
 | d::cs,n=>by
   simp only[List.cons_append,q4a]
   rw[x0m,x0m]
   by_cases hd:z5d x.un x.und d=some true
   ·rw[if_pos hd,if_pos hd]
    have e:∀ m:Nat,n + 1 + m=n + (m + 1):=fun m=>by omega
    simp[z6r,List.filter_cons,hd,e]
   ·rw[if_neg hd,if_neg hd]
    simp[z6r,List.filter_cons,hd]
def q5m (l:List Int) (k:Nat):List AV:=z9y l++List.replicate k (.int .i64 0)
theorem k7y {l:List Int} {k:Nat}:(q5m l (k + 1))[l.length]? =some (.int .i64 0):=by
 rw[q5m,List.getElem?_append_right (by rw[z5r];omega),z5r,Nat.sub_self]
 rfl
theorem k7z {l:List Int} {k:Nat} {z:Int}:(q5m l (k + 1)).set l.length (.int .i64 z)=q5m (l++[z]) k:=by
 rw[q5m,List.set_append_right _ _ (by rw[z5r];omega),z5r,Nat.sub_self,List.replicate_succ,List.set_cons_zero,q5m]
 simp[z9y]
theorem k2x {l:List Int} {k:Nat} {y z:Int}:(q5m (l++[y]) k).set l.length (.int .i64 z)=q5m (l++[z]) k:=by
 rw[q5m,q5m,List.set_append_left _ _ (by rw[z5r];simp)]
 simp[z9y]
theorem k2y {l:List Int} {k:Nat} {y:Int}:(q5m (l++[y]) k)[l.length]? =some (.int .i64 y):=by
 rw[q5m,List.getElem?_append_left (by rw[z5r];simp)]
 simp[z9y]
theorem y0j {s:Sys} {x:Tf} {B clk g0 gx g2 g5 g8:Nat} {D:List AObj} {a b o6 o7 o9 o10 o11:AObj} {tg tp:Tip} {pv:List AV} {ts:Tmps} {ks:List Kf} {Q:Post} (hB:D.length=B) (hcl:s.clauses.length≤1000) (hcs:∀ c∈s.clauses,c.body.length≤2 ^ 20) (hx:TfS x) (h2:ts 2= .ptr (B + 0) g0 0 0) (h3:ts 3= .ptr (B + 1) gx 0 0) (h4:ts 4= .ptr (B + 2) g2 0 0) (h7:ts 7= .sl (z1t (z7w x)) tg) (h9:ts 9= .ptr (B + 5) g5 0 0) (h11:ts 11= .ob (B + 8) g8 0 s.clauses.length) (h12:ts 12= .int .i64 0)
  (hok:∀ out,z6m x.un x.und s.clauses 0 []=some out→∀ (ts':Tmps) (t:Tip) (o9 o10 o11:AObj) (clk':Nat),ts' 4= .ptr (B + 2) g2 0 0→ts' 9= .ptr (B + 5) g5 0 0→ts' 11= .ob (B + 8) g8 0 s.clauses.length→K Gam B (.exit 4) ks ⟨ts',D++H50 g0 gx g2 s x (x5d g5 a b (.sl pv tp) (.sl ((z6r x s.clauses).map z0f) t) [o6,o7, .blk g8 (q5m (q4a x s.clauses 0) 0) true false 0,o9,o10,o11]),clk'⟩ Q)
  (hbad:z6m x.un x.und s.clauses 0 []=none→∀ (ts':Tmps) (r:List AObj) (clk':Nat),ts' 4= .ptr (B + 2) g2 0 0→ts' 5= .sl [] .nil→ts' 6= .int .i64 8→K Gam B .ret ks ⟨ts',D++H50 g0 gx g2 s x r,clk'⟩ Q):
  K Gam B (.loop q7i) ks ⟨ts,D++H50 g0 gx g2 s x (x5d g5 a b (.sl pv tp) (.sl [] .nil) [o6,o7, .blk g8 (List.replicate s.clauses.length (.int .i64 0)) true false 0,o9,o10,o11]),clk⟩ Q:=by
 have hfl:=hx.len
 have hun:=hx.un
 have hund:=hx.und
 refine z6z s.clauses.length (by omega) (fun i q=>∃ (out:List Nat) (t:Tip) (o9 o10 o11:AObj),z6m x.un x.und (s.clauses.drop i) i out=z6m x.un x.und s.clauses 0 []∧q.ts 2= .ptr (B + 0) g0 0 0∧q.ts 3= .ptr (B + 1) gx 0 0∧q.ts 4= .ptr (B + 2) g2 0 0∧q.ts 7= .sl (z1t (z7w x)) tg∧q.ts 9= .ptr (B + 5) g5 0 0∧q.ts 11= .ob (B + 8) g8 0 s.clauses.length∧q.ts 12= .int .i64 (i:Int)∧q.h=D++H50 g0 gx g2 s x (x5d g5 a b (.sl pv tp) (.sl ((z6r x (s.clauses.take i)).map z0f) t) [o6,o7, .blk g8 (q5m (q4a x (s.clauses.take i) 0) (s.clauses.length - i)) true false 0,o9,o10,o11])∧z8k B 11 o11 t 5) ⟨[], .nil,_,_,_,by simp,h2,h3,h4,h7,h9,h11,h12,rfl, .inl rfl⟩ ?_ ?_
 ·clear h2 h3 h4 h7 h9 h11 h12
  rintro i hlt f1 f2 ts h clk P ⟨out,t,o9,o10,o11,hk,q2,q3,q4,q7,q9,q11,q12,rfl,ht⟩ hnx he hr
  dsimp only at q2 q3 q4 q7 q9 q11 q12
  have hdr:s.clauses.drop i=s.clauses[i]::s.clauses.drop (i + 1):=List.drop_eq_getElem_cons hlt
  have htake:s.clauses.take (i + 1)=s.clauses.take i++[s.clauses[i]]:=List.take_succ_eq_append_getElem hlt
  have hix:=fun h=>z8l (l:=s.clauses) (i:=i) (h:=h) (t:= .no) (k:= .i64) hlt
  have hbody:=hcs _ (List.getElem_mem hlt)
  have hil:(q4a x (s.clauses.take i) 0).length=i:=by rw[x5e,List.length_take];omega
  have hkl:(z6r x (s.clauses.take i)).length≤1000:=by
   have:=List.length_filter_le (fun c=>decide (z5d x.un x.und c=some true)) (s.clauses.take i)
   rw[List.length_take] at this
   unfold z6r
   omega
  obtain⟨w,hw⟩:∃ w,s.clauses.length - i=w + 1:=⟨s.clauses.length - i - 1,by omega⟩
  have hw2:s.clauses.length - (i + 1)=w:=by omega
  rw[hw]
  rw[hdr,z6m] at hk
  have hg1:(q5m (q4a x (s.clauses.take i) 0) (w + 1))[i]? =some (.int .i64 0):=by
   have:=k7y (l:=q4a x (s.clauses.take i) 0) (k:=w)
   rwa [hil] at this
  have hs1:(q5m (q4a x (s.clauses.take i) 0) (w + 1)).set i (.int .i64 (-1))=q5m (q4a x (s.clauses.take i) 0++[-1]) w:=by
   have:=k7z (l:=q4a x (s.clauses.take i) 0) (k:=w) (z:= -1)
   rwa [hil] at this
  have hg2:(q5m (q4a x (s.clauses.take i) 0++[-1]) w)[i]? =some (.int .i64 (-1)):=by
   have:=k2y (l:=q4a x (s.clauses.take i) 0) (k:=w) (y:= -1)
   rwa [hil] at this
  have hs2:∀ z:Int,(q5m (q4a x (s.clauses.take i) 0++[-1]) w).set i (.int .i64 z)=q5m (q4a x (s.clauses.take i) 0++[z]) w:=fun z=>by
   have:=k2x (l:=q4a x (s.clauses.take i) 0) (k:=w) (y:= -1) (z:=z)
   rwa [hil] at this
  have hidx1:∀ L:List AObj,L[8]? =some (.blk g8 (q5m (q4a x (s.clauses.take i) 0) (w + 1)) true false 0)→z1m (D++L) 1 (.ob (B + 8) g8 0 s.clauses.length) (.int .i64 (i:Int))=some (.ptr (B + 8) g8 i 0,D++L):=fun L h1=>z8z hB h1 hg1 rfl hlt
  have hidx2:∀ L:List AObj,L[8]? =some (.blk g8 (q5m (q4a x (s.clauses.take i) 0++[-1]) w) true false 0)→z1m (D++L) 1 (.ob (B + 8) g8 0 s.clauses.length) (.int .i64 (i:Int))=some (.ptr (B + 8) g8 i 0,D++L):=fun L h1=>z8z hB h1 hg2 rfl hlt
  have hst1:∀ L:List AObj,L[8]? =some (.blk g8 (q5m (q4a x (s.clauses.take i) 0) (w + 1)) true false 0)→z8s (D++L) 1 (.int .i64 (-1)) (.ptr (B + 8) g8 i 0)=some (.undef,D++L.set 8 (.blk g8 (q5m (q4a x (s.clauses.take i) 0++[-1]) w) true false 0)):=fun L h1=>by rw[←hs1];exact z8y hB h1 hg1
  have hst2:∀ (L:List AObj) (z:Int),L[8]? =some (.blk g8 (q5m (q4a x (s.clauses.take i) 0++[-1]) w) true false 0)→z8s (D++L) 1 (.int .i64 z) (.ptr (B + 8) g8 i 0)=some (.undef,D++L.set 8 (.blk g8 (q5m (q4a x (s.clauses.take i) 0++[z]) w) true false 0)):=fun L z h1=>by rw[←hs2 z];exact z8y hB h1 hg2
  have hsn:=x0m (x:=x) (c:=s.clauses[i]) (cs:=s.clauses.take i) (n:=0)
  simp only[Nat.zero_add] at hsn
  have hkn:z6r x (s.clauses.take (i + 1))=z6r x (s.clauses.take i)++(if z5d x.un x.und s.clauses[i]=some true then [s.clauses[i]] else []):=by
   unfold z6r
   rw[htake,List.filter_append]
   congr 1
   by_cases h:z5d x.un x.und s.clauses[i]=some true <;> simp[h]
  rw[←htake] at hsn
  generalize s.clauses[i]=c at *
  have p1:=x3h (l:=x.und) (nm:=c.head.pred) (u:= .no) (by omega)
  have p2:=v1l (c:=c) (l:=x.und) (u:= .no) hbody (by omega)
  have p3:=x3h (l:=z7w x) (nm:=c.head.pred) (u:=tg) (by omega)
  have p4:=v1l (c:=c) (l:=x.un) (u:= .no) hbody (by omega)
  rw[z0f,z0l] at p2 p4
  have gone:z5d x.un x.und c=some false→∀ (ts':Tmps) (o9 o10:AObj) (clk':Nat),ts' 2= .ptr (B + 0) g0 0 0→ts' 3= .ptr (B + 1) gx 0 0→ts' 4= .ptr (B + 2) g2 0 0→ts' 7= .sl (z1t (z7w x)) tg→ts' 9= .ptr (B + 5) g5 0 0→ts' 11= .ob (B + 8) g8 0 s.clauses.length→ts' 12= .int .i64 ((i + 1:Nat):Int)→P .norm ⟨ts',D++H50 g0 gx g2 s x (x5d g5 a b (.sl pv tp) (.sl ((z6r x (s.clauses.take i)).map z0f) t) [o6,o7, .blk g8 (q5m (q4a x (s.clauses.take i) 0++[-1]) w) true false 0,o9,o10,o11]),clk'⟩:=by
   intro hkc ts' o9 o10 clk' r2 r3 r4 r7 r9 r11 r12
   rw[hkc] at hk
   rw[if_neg (by rw[hkc];simp)] at hsn
   rw[if_neg (by rw[hkc];simp),List.append_nil] at hkn
   exact hnx _ ⟨out,t,_,_,_,hk,r2,r3,r4,r7,r9,r11,r12,by rw[hkn,hsn,hw2],ht⟩
  cases h1:decide (c.head.pred∈x.und) <;> rw[h1] at p1
  ·have hnu:¬ c.head.pred∈x.und:=by rwa [decide_eq_false_iff_not] at h1
   cases h2:decide (c.head.pred∈z7w x) <;> rw[h2] at p3
   ·cases h3:(c.body.any fun a=>decide (a.pred∈x.und)) <;> rw[h3] at p2
    ·have hng:¬ c.head.pred∈x.un++x.und:=by rwa [decide_eq_false_iff_not] at h2
     cases h4:(c.body.any fun a=>decide (a.pred∈x.un)) <;> rw[h4] at p4
     ·have hkc:z5d x.un x.und c=some true:=by
       unfold z5d
       rw[if_neg (fun h=>hnu h.1),if_neg (fun h=>h.elim hng (by rw[h3];simp)),if_neg (by rw[h4];simp)]
      rw[hkc] at hk
      rw[if_pos hkc] at hsn hkn
      have e8:(z6r x (s.clauses.take i)).map z0f++[c].map z0f=(z6r x (s.clauses.take (i + 1))).map z0f:=by rw[hkn,List.map_append]
      simp only[go_sem,q7i,H50,x5d,z0x,eTf,q2,q3,q4,q7,q9,q11,q12,hB,f1,f2,List.length_map,hix,hidx1,hst1,z0a p1,z0a p3,z0a p2,z0a p4,hidx2,hst2]
      rw[show [AV.agg [.sl (c.vars.map z1b) .no, .sl (c.body.map z3x) .no, .sl (c.guard.map eNode) .no, .str c.head.pred, .sl (c.head.args.map z0l) .no]]=[c].map z0f from rfl,z0j hB rfl ht z3l z3l (by simp only[List.length_map,List.length_singleton];omega),e8]
      simp only[go_sem,q2,q3,q4,q7,q9,q11,q12,hB,f2]
      exact hnx _ ⟨out++[i],_,_,_,_,hk,q2,q3,q4,q7,q9,q11,rfl,by rw[hw2,hsn];rfl, .inr (.inr ⟨_,rfl,rfl⟩)⟩
     ·have hkc:z5d x.un x.und c=none:=by
       unfold z5d
       rw[if_neg (fun h=>hnu h.1),if_neg (fun h=>h.elim hng (by rw[h3];simp)),if_pos h4]
      rw[hkc] at hk
      simp only[go_sem,q7i,H50,x5d,z0x,eTf,q2,q3,q4,q7,q9,q11,q12,hB,f1,List.length_map,hix,hidx1,hst1,z0a p1,z0a p3,z0a p2,z0a p4]
      exact hr _ (hbad hk.symm _ _ _ (by simp[z0b,q4]) (by simp[z0b]) (by simp[z0b]))
    ·have hkc:z5d x.un x.und c=some false:=by
      unfold z5d
      rw[if_neg (fun h=>hnu h.1),if_pos (.inr h3)]
     simp only[go_sem,q7i,H50,x5d,z0x,eTf,q2,q3,q4,q7,q9,q11,q12,hB,f1,f2,List.length_map,hix,hidx1,hst1,z0a p1,z0a p3,z0a p2]
     exact gone hkc _ _ _ _ q2 q3 q4 q7 q9 q11 rfl
   ·have hkc:z5d x.un x.und c=some false:=by
     unfold z5d
     rw[if_neg (fun h=>hnu h.1),if_pos (.inl (by rwa [decide_eq_true_iff] at h2))]
    simp only[go_sem,q7i,H50,x5d,z0x,eTf,q2,q3,q4,q7,q9,q11,q12,hB,f1,f2,List.length_map,hix,hidx1,hst1,z0a p1,z0a p3]
    exact gone hkc _ _ _ _ q2 q3 q4 q7 q9 q11 rfl
  ·have hu:c.head.pred∈x.und:=by rwa [decide_eq_true_iff] at h1
   have hg:c.head.pred∈z7w x:=List.mem_append_right _ hu
   rw[decide_eq_true hg] at p3
   cases h3:(c.body.any fun a=>decide (a.pred∈x.und)) <;> rw[h3] at p2
   ·have hkc:z5d x.un x.und c=none:=by
     unfold z5d
     rw[if_pos ⟨hu,h3⟩]
    rw[hkc] at hk
    simp only[go_sem,q7i,H50,x5d,z0x,eTf,q2,q3,q4,q7,q9,q11,q12,hB,f1,List.length_map,hix,hidx1,hst1,z0a p1,z0a p2,Bool.not_false]
    exact hr _ (hbad hk.symm _ _ _ (by simp[z0b,q4]) (by simp[z0b]) (by simp[z0b]))
   ·have hkc:z5d x.un x.und c=some false:=by
     unfold z5d
     rw[if_neg (fun h=>by rw[h3] at h;cases h.2),if_pos (.inr h3)]
    simp only[go_sem,q7i,H50,x5d,z0x,eTf,q2,q3,q4,q7,q9,q11,q12,hB,f1,f2,List.length_map,hix,hidx1,hst1,z0a p1,z0a p3,z0a p2,Bool.not_true]
    exact gone hkc _ _ _ _ q2 q3 q4 q7 q9 q11 rfl
 ·clear h2 h3 h4 h7 h9 h11 h12
  rintro f1 ts h clk P ⟨out,t,o9,o10,o11,hk,q2,q3,q4,q7,q9,q11,q12,rfl,ht⟩ he hr
  dsimp only at q2 q3 q4 q7 q9 q11 q12
  rw[List.take_length,Nat.sub_self]
  rw[List.drop_length,z6m] at hk
  simp only[go_sem,q7i,H50,x5d,z0x,q2,q3,q4,q7,q9,q11,q12,hB,f1,List.length_map]
  exact he _ _ (hok out hk.symm _ t _ _ _ _ (by simp[z0b,q4]) (by simp[z0b,q9]) (by simp[z0b,q11]))
def x0n:Sys:=⟨[],[]⟩
open Classical in
noncomputable def z2i (s:Sys) (x:Tf):Sys×Int:=
 if q2l x=false then (x0n,1) else if ¬ q6i s x then (x0n,8) else match z6m x.un x.und s.clauses 0 [] with
  | none=>(x0n,8)
  | some _=>(z7v x s,0)
noncomputable def y0k (s:Sys) (x:Tf):List Int:=if (z2i s x).2=0 then q4a x s.clauses 0 else []
theorem z7k {s:Sys} {x:Tf} (h:q2l x=false):z2i s x=(x0n,1):=by
 unfold z2i
 rw[if_pos h]
theorem z6s {s:Sys} {x:Tf} (h:q2l x=true) (hn:¬ q6i s x):z2i s x=(x0n,8):=by
 unfold z2i
 rw[if_neg (by rw[h];simp),if_pos hn]
theorem z7l {s:Sys} {x:Tf} (h:q2l x=true) (hn:q6i s x) (hk:z6m x.un x.und s.clauses 0 []=none):z2i s x=(x0n,8):=by
 unfold z2i
 rw[if_neg (by rw[h];simp),if_neg (not_not_intro hn),hk]
theorem z7m {s:Sys} {x:Tf} {out:List Nat} (h:q2l x=true) (hn:q6i s x) (hk:z6m x.un x.und s.clauses 0 []=some out):z2i s x=(z7v x s,0):=by
 unfold z2i
 rw[if_neg (by rw[h];simp),if_neg (not_not_intro hn),hk]
theorem j1b {x:Tf} {s:Sys}:(z7v x s).preds.Sublist s.preds∧(z7v x s).clauses.Sublist s.clauses:=⟨List.filter_sublist,List.filter_sublist⟩
theorem k8a {H:List AObj} {p q es:List AV} {u v:Tip} {a b c d:Nat} {k:IntKind} {z:Int} (h:z5a H (.ob a b c d)=some es):conv H (z1k [.agg [.sl p u, .sl q v], .ob a b c d, .int k z])=some (.tup [.agg [.sl p .no, .sl q .no], .sl es .no, .int k z]):=by
 simp only[z5a] at h
 simp only[z1k,conv,z9t,h,Option.map_some]
theorem k2z {s:Sys} {x:Tf} (hs:SysV s) (hx:TfS x):Pure Gam 70 [z0x s,eTf x] (.tup [z0x (z2i s x).1, .sl (z9y (y0k s x)) .no, .int .i64 (z2i s x).2]):=by
 have p28:=k2s hs
 rw[z0x] at p28
 have p81:=y0h hx.ok
 rw[eTf] at p81
 have hpl:=hs.pl
 have hcl:=hs.len
 have hun:=hx.un
 have hund:=hx.und
 refine Pure.of rfl u4k rfl rfl rfl (az:=[z0x s,eTf x]) rfl (by simp[idsL,z2c,z6y hx.ok]) fun D B clk T hB hT=> ?_
 cases hu:q2l x <;> rw[hu] at p81
 ·unfold y0k at hT
  rw[z7k hu] at hT
  simp only[go_sem,y4i,hB,z0x,eTf,z0a p28,z0a p81,Bool.not_true,Bool.not_false,z0n,z0m,z0g]
  rw[z0h rfl (by simp[z1k,AV.cv,cvL,AV.ids,idsL])]
  exact hT _
 simp only[go_sem,y4i,hB,z0x,eTf,z0a p28,z0a p81,Bool.not_true,z1i]
 rw[append_nil hB rfl z1u (by simp only[z1t,List.length_map];omega)]
 simp only[go_sem,hB]
 rw[q2w hB rfl z1u z1u (by simp only[z1t,List.length_map];omega)]
 have hgl:z1t x.un++z1t x.und=z1t (z7w x):=by rw[z7w,z1t,z1t,z1t,List.map_append]
 simp only[go_sem,hB,hgl]
 refine⟨by simp[z1f,apart,z0i,z1d,z1h,AOp.isCall,hB,AV.ids,idsL,z2d], ?_⟩
 refine k2w (s:=s) (x:=x) hB (by omega) hx rfl rfl rfl rfl rfl (fun hn ts1 clk1 r2 r3 r4 r7=> ?_) (fun hn ts1 clk1 r4 r5 r6=> ?_)
 ·simp only[go_sem,H50,hB,r2,r3,r4,r7]
  refine k7x (s:=s) (x:=x) hB (by omega) hx (by simp[z0b,r2]) (by simp[z0b,r3]) (by simp[z0b,r4]) (by simp[z0b,r7];rfl) (by simp[z0b]) (by simp[z0b]) fun ts2 tp o6 o7 clk2 r2 r3 r4 r7 r9=> ?_
  simp only[go_sem,H50,x5d,z0x,hB,r2,r3,r4,r7,r9,List.length_map,q4y (z:= .int .i64 0) (n:=s.clauses.length) (b:=8) rfl (by omega)]
  refine y0j (s:=s) (x:=x) hB (by omega) (fun c hc=>by have:=(hs.clauses c hc).2.1;omega) hx (by simp[z0b,r2]) (by simp[z0b,r3]) (by simp[z0b,r4]) (by simp[z0b,r7];rfl) (by simp[z0b,r9]) (by simp[z0b]) (by simp[z0b]) (fun out hk ts3 t o9 o10 o11 clk3 q4 q9 q11=> ?_) (fun hk ts3 r clk3 q4 q5 q6=> ?_)
  ·unfold y0k at hT
   rw[z7m hu hn hk,if_pos rfl] at hT
   have hsub:=j1b (x:=x) (s:=s)
   have hl1:=hsub.1.length_le
   have hl2:=hsub.2.length_le
   have p83:∀ u v,Pure Gam 99 [.agg [.sl ((z2k x s.preds).map z0q) u, .sl ((z6r x s.clauses).map z0f) v]] (z0x (z7v x s)):=fun u v=>y0i (s:=z7v x s) (u:=u) (v:=v) (by omega) (fun f hf=>by have:=(hs.pr.args f (hsub.1.mem hf)).1;omega) (by omega) fun c hc=>hs.sizes c (hsub.2.mem hc)
   simp only[go_sem,H50,x5d,z0x,hB,q4,q9,q11]
   rw[z0a (p83 _ _)]
   simp only[go_sem,z0x,hB,q4,q9,q11,z0n,z0m,z0g]
   have hrow:q5m (q4a x s.clauses 0) 0=z9y (q4a x s.clauses 0):=by simp[q5m]
   refine⟨_,k8a (z9a hB rfl (by rw[hrow,z5r,x5e])), ?_,rfl, ?_⟩
   ·rw[hrow]
    simp[AV.ids,idsL,z8d,z0c z2j,z0c z1z]
   ·rw[hrow]
    exact hT _
  ·unfold y0k at hT
   rw[z7l hu hn hk] at hT
   simp only[go_sem,H50,hB,q4,q5,q6,z0n,z0m,z0g]
   rw[z0h rfl (by simp[z1k,AV.cv,cvL,AV.ids,idsL])]
   exact hT _
 ·unfold y0k at hT
  rw[z6s hu hn] at hT
  simp only[go_sem,H50,hB,r4,r5,r6,z0n,z0m,z0g]
  rw[z0h rfl (by simp[z1k,AV.cv,cvL,AV.ids,idsL])]
  exact hT _
theorem v9i {s:Sys} {x:Tf} (hs:SysV s) (hx:TfOk x):Pure Gam 91 [z0x s,eTf x, .int .i64 2,eTf {x with un:=[],und:=[]}] (.bool (q2l x)):=by
 have hp:=k1z hs
 rw[z0x] at hp
 have hr:TfOk {x with un:=[],und:=[]}:=⟨by simp,by simp,hx.drops⟩
 refine Pure.of rfl y1y rfl rfl rfl (az:=[z0x s,eTf x, .int .i64 2,eTf {x with un:=[],und:=[]}]) rfl (by simp[idsL,z2c,z6y hx,z6y hr,AV.ids]) fun D B clk T hB hT=> ?_
 have hs0:z1t []=[]:=rfl
 unfold q2l at hT
 cases b1:decide (x.kind=2) <;> rw[b1] at hT
 ·simp only[go_sem,v1e,hB,z0x,eTf,b1]
  rw[z0e]
  exact hT _
 cases b2:decide (x.pred=[]) <;> rw[b2] at hT
 ·simp only[go_sem,v1e,hB,z0x,eTf,b1,b2,z0a hp]
  rw[z0e]
  exact hT _
 cases b3:decide (x.into=[]) <;> rw[b3] at hT
 ·simp only[go_sem,v1e,hB,z0x,eTf,b1,b2,b3,z0a hp]
  rw[z0e]
  exact hT _
 cases b4:decide (x.clause=0) <;> rw[b4] at hT
 ·simp only[go_sem,v1e,hB,z0x,eTf,b1,b2,b3,b4,z0a hp]
  rw[z0e]
  exact hT _
 cases b5:decide (x.atom=0) <;> rw[b5] at hT
 ·simp only[go_sem,v1e,hB,z0x,eTf,b1,b2,b3,b4,b5,z0a hp]
  rw[z0e]
  exact hT _
 simp only[go_sem,v1e,hB,z0x,eTf,hs0,b1,b2,b3,b4,b5,z0a hp,decide_true,Int.cast_ofNat_Int,x8c]
 rw[z0e]
 simpa using hT _
theorem v9j {s:Sys} {x:Tf} {u:Tip} (hpl:s.preds.length≤1000) (hx:TfS x) (hn:¬ q6i s x):Pure Gam 111 [z0x s, .sl [.sl (z1t x.un) .no, .sl (z1t x.und) .no] u] (.tup [.nilmap, .bool false]):=by
 have hgl:=hx.len
 unfold z7w at hgl
 have hp:=k2j (ls:=[x.un,x.und]) (u:= .no) (by simp) (by simp only[List.flatten_cons,List.flatten_nil,List.append_nil];omega)
 have hfl:[x.un,x.und].flatten=x.un++x.und:=by simp
 rw[hfl] at hp
 refine Pure.of rfl u1y rfl rfl rfl (az:=[z0x s, .sl [.sl (z1t x.un) .no, .sl (z1t x.und) .no] .no]) rfl (by simp[idsL,z2c,AV.ids,z2d]) fun D B clk T hB hT=> ?_
 have hsl:(z1t (x.un++x.und)).length=(x.un++x.und).length:=List.length_map _
 simp only[List.map_cons,List.map_nil,q5i] at hp
 simp only[go_sem,y7w,hB,z0x,z0a hp,hsl]
 refine k2k (fl:=x.un++x.und) hB hpl (by omega) (by simp[z0b]) (by simp[z0b]) (by simp[z0b]) (by simp[z0b]) (by simp[z0b]) (fun h1 h2 ts' clk' r6=>absurd ⟨h1,h2⟩ hn) (fun _ ts' L clk' r4 r5=> ?_)
 simp only[go_sem,r4,r5]
 rw[z0h rfl (by simp[z1k,AV.cv,cvL,AV.ids,idsL])]
 exact hT _
noncomputable def v9k (s:Sys) (x:Tf):List Nat:=if (z2i s x).2=0 then (z6m x.un x.und s.clauses 0 []).getD [] else []
theorem v9l {s:Sys} {x:Tf} (hs:SysV s) (hx:TfS x):Pure Gam 49 [z0x s,eTf x] (.tup [.sl ((v9k s x).map nat) .no, .int .i64 (z2i s x).2]):=by
 have hp:=v9i hs hx.ok
 have hpl:s.preds.length≤5:=hs.preds.length_le
 have hbl:∀ c∈s.clauses,c.body.length≤2 ^ 18:=fun c hc=>by have:=(hs.clauses c hc).2.1;omega
 have hcl:s.clauses.length≤2 ^ 18:=by have:=hs.len;omega
 have hgl:=hx.len
 unfold z7w at hgl
 rw[z0x,eTf,eTf] at hp
 refine Pure.of rfl u1v rfl rfl rfl (az:=[z0x s,eTf x]) rfl (by simp[idsL,z2c,z6y hx.ok]) fun D B clk T hB hT=> ?_
 have hs0:z1t []=[]:=rfl
 simp only[hs0] at hp
 have hp:=Pure.cv (args:=[.agg [.sl (s.preds.map z0q) .no, .sl (s.clauses.map z0f) .no], .agg [.int .i64 x.kind, .str x.pred, .str x.into, .int .i64 x.clause, .int .i64 x.atom, .sl (z1t x.un) .no, .sl (z1t x.und) .no, .sl x.drops .no], .int .i64 2, .agg [.int .i64 x.kind, .str x.pred, .str x.into, .int .i64 x.clause, .int .i64 x.atom, .sl [] .nil, .sl [] .nil, .sl x.drops .no]]) hp rfl y1y rfl rfl rfl rfl
 unfold v9k at hT
 cases hu:q2l x <;> rw[hu] at hp
 ·rw[z7k hu] at hT
  simp only[go_sem,w8u,hB,z0x,eTf,z8t,z0a hp,Bool.not_false]
  rw[z0h rfl (by simp[z1k,AV.cv,cvL,AV.ids,idsL])]
  exact hT _
 by_cases hn:q6i s x
 ·have h89:=fun u h clk Q=>u2p (s:=s) (un:=x.un) (und:=x.und) (u:=u) (h:=h) (clk:=clk) (Q:=Q) (by omega) (by omega) hn.1 hn.2
  rw[z0x] at h89
  simp only[go_sem,w8u,hB,z0x,eTf,z8t,z0a hp,Bool.not_true]
  refine z6f (h89 _ _ _ _ fun gR s0 c2=> ?_)
  have hlen7:∀ a0 a1 a2 a3 a4 a5 a6:AObj,(D++[a0,a1,a2,a3,a4,a5,a6]).length=B + 7:=fun _ _ _ _ _ _ _=>by simp[hB]
  simp only[go_sem,hB,hlen7,List.append_assoc,Bool.not_true,List.length_map]
  refine j4d (x:=x) (cs:=s.clauses) (gx:=clk + 1) hB hcl hbl hx.ok (by simp[z0b]) (by simp[z0b]) (by simp[z0b]) (by simp[z0b]) (by simp[z0b]) (by simp[z0b]) (by simp[z0b]) (fun out ho ts' t L clk' r11=> ?_) (fun hbad ts' L clk' r4 r5=> ?_)
  ·rw[z7m hu hn ho,if_pos rfl,ho] at hT
   simp only[go_sem,r11]
   rw[z0h rfl (by simp[z1k,AV.cv,cvL,AV.ids,idsL,q5e])]
   exact hT _
  ·rw[z7l hu hn hbad] at hT
   simp only[go_sem,r4,r5]
   rw[z0h rfl (by simp[z1k,AV.cv,cvL,AV.ids,idsL])]
   exact hT _
 ·have p89:=fun u=>v9j (s:=s) (x:=x) (u:=u) (by omega) hx hn
  rw[z0x] at p89
  rw[z6s hu hn] at hT
  simp only[go_sem,w8u,hB,z0x,eTf,z8t,z0a hp,Bool.not_true]
  rw[z0a (p89 _)]
  simp only[go_sem,hB,Bool.not_false]
  rw[z0h rfl (by simp[z1k,AV.cv,cvL,AV.ids,idsL])]
  exact hT _
theorem k3a {s:Sys} {x:Tf} (hs:SysV s) (hx:TfS x):Pure Gam 16 [z0x s,eTf x] (.tup [z0x (z2i s x).1, .int .i64 (z2i s x).2]):=by
 have hp:=v9l hs hx
 by_cases h0:(z2i s x).2=0
 ·have hu:q2l x=true:=by
   cases hu:q2l x with
   | true=>rfl
   | false=>rw[z7k hu] at h0;cases h0
  have hn:q6i s x:=Classical.byContradiction fun hn=>by rw[z6s hu hn] at h0;cases h0
  cases hk:z6m x.un x.und s.clauses 0 [] with
  | none=>rw[z7l hu hn hk] at h0;cases h0
  | some out=>
    rw[z7m hu hn hk]
    unfold q2l at hu
    simp only[Bool.and_eq_true,decide_eq_true_eq] at hu
    obtain⟨⟨⟨⟨⟨h1,h2⟩,h3⟩,h4⟩,h5⟩,h6⟩:=hu
    have:=hx.len
    unfold z7w at this
    exact y0b hs hx.ok h1 h2 h3 h4 h5 h6 hn.1 hn.2 (by omega) hk
 ·have he:(z2i s x).1=x0n:=by
   cases hu:q2l x with
   | false=>rw[z7k hu]
   | true=>
     by_cases hn:q6i s x
     ·cases hk:z6m x.un x.und s.clauses 0 [] with
      | none=>rw[z7l hu hn hk]
      | some out=>rw[z7m hu hn hk] at h0;exact absurd rfl h0
     ·rw[z6s hu hn]
  rw[he]
  unfold v9k at hp
  rw[if_neg h0] at hp
  generalize (z2i s x).2=e at *
  rw[z0x,eTf] at hp
  refine Pure.of rfl u1u rfl rfl rfl (az:=[z0x s,eTf x]) rfl (by simp[idsL,z2c,z6y hx.ok]) fun D B clk T hB hT=> ?_
  simp only[go_sem,y7t,hB,z0x,eTf,z0a hp,decide_eq_false h0,Bool.not_false,z0n,z0m,z0g]
  rw[z0h rfl (by simp[z1k,AV.cv,cvL,AV.ids,idsL])]
  exact hT _
section
def u5y (B:Nat) (h D:List AObj) (rs:List ARes) (clk:Nat) (Q:AV→List AObj→Nat→Prop):Post:=fun e s=>(∀ i,e≠ .exit i)∧∃ vs L,z1s s.h s.ts rs=some vs∧s.h=D++L∧(((z1k vs).ids=[]∧Q (z1k vs) h clk)∨((∃ i∈(z1k vs).ids,B≤i)∧Q (z1k vs) (h++L) s.clk))
theorem k8b {f:Nat} {args az:List AV} {h:List AObj} {clk:Nat} {af:AFun} {Q:AV→List AObj→Nat→Prop} (hext:Gam.ext f=none) (hfn:Gam.fn f=some af) (hb:af.byref=[]) (ho:af.owned=true) (hobs:z4k args=[]) (has:cvL args=az) (hids:idsL az=[])
  (hw:∀ (D:List AObj) (B:Nat),D.length=B→B=h.length→K Gam B af.body [] ⟨q0b az,D++List.replicate af.nslots .dead,clk⟩ (u5y B h D af.results clk Q)):WC Gam f args h clk Q:=by
 obtain⟨k,e,s,he,hne,vs,L,hr,hL,hq⟩:=hw (maskFrom [] 0 h) h.length z4g rfl
 have hp:z1n h af.byref 0 args=some az:=by rw[hb,z1j hobs,has]
 have hl:z0s af.byref 0 args=[]:=by rw[hb];exact z4n hobs
 have hdrop:s.h.drop h.length=L:=by rw[hL,List.drop_left' z4g]
 rcases hq with ⟨h1,h2⟩ | ⟨⟨i,hi1,hi2⟩,h2⟩
 ·refine⟨k,z1k vs,h,clk, ?_,h2⟩
  unfold z5b z0k
  simp only[hext,hfn,hp,hl,freezeAll,hids,reach,he,hr,ho,if_true,z5y]
  cases e with
  | exit i=>exact absurd rfl (hne i)
  | norm=>simp[h1]
  | ret=>simp[h1]
 ·refine⟨k,z1k vs,h++L,s.clk, ?_,h2⟩
  have hall:(((z1k vs).ids++(List.map (fun i=>(Option.map AObj.ids s.h[i]?).getD []) ([]:List Nat)).flatten).all fun x=>decide (x < h.length))=false:=by
   rw[List.all_eq_false]
   exact⟨i,by simp[hi1],by simp;omega⟩
  unfold z5b z0k
  simp only[hext,hfn,hp,hl,freezeAll,hids,reach,he,hr,ho,if_true,z5y,hall,Bool.false_eq_true,if_false,hdrop]
  cases e with
  | exit i=>exact absurd rfl (hne i)
  | norm=>simp
  | ret=>simp
def TipN (B k:Nat) (o:AObj) (t:Tip) (e:Nat):Prop:=t= .nil∨∃ g,t= .at (B + k) g∧o= .tip g e
theorem TipN.k {B k e:Nat} {o:AObj} {t:Tip} (h:TipN B k o t e):z8k B k o t e:=h.imp id .inr
section
variable {s:Sys}
open Classical in
noncomputable def x0o (s:Sys):List (List Nat):=(names s).filter fun a=>decide (DS s a)
open Classical in
noncomputable def q5n (s:Sys):List (List Nat):=(names s).filter fun a=>decide (NS s a)
open Classical in
theorem q7s (hs:SysV s) {a:List Nat}:a∈x0o s↔DS s a:=by
 unfold x0o
 rw[List.mem_filter,decide_eq_true_iff]
 refine⟨fun h=>h.2,fun h=>⟨?_,h⟩⟩
 cases h with
 | of hc hh hb=>exact (hs.head hc).resolve_left hh
open Classical in
theorem x8d (hs:SysV s) {a:List Nat}:a∈q5n s↔NS s a:=by
 unfold q5n
 rw[List.mem_filter,decide_eq_true_iff]
 exact⟨fun h=>h.2,fun h=>⟨Need.name hs h,h⟩⟩
end
def tfA (un und:List (List Nat)) (t1 t2:Tip):AV:= .agg [.int .i64 2, .str [], .str [], .int .i64 0, .int .i64 0, .sl (z1t un) t1, .sl (z1t und) t2, .sl [] .nil]
theorem u5z {s:Sys} {h:List AObj} {clk:Nat} {Q:AV→List AObj→Nat→Prop} (hs:SysV s) (hQ:∀ (t1 t2:Tip) (o0 o1 o2 o3 o4 o5 o6:AObj) (L:List AObj) (c:Nat),TipN h.length 6 o6 t1 1→TipN h.length 4 o4 t2 1→(L=[o0,o1,o2,o3,o4,o5,o6]∨(L=[]∧t1= .nil∧t2= .nil))→Q (.tup [tfA (z2s s).un (z2s s).und t1 t2, .int .i64 0]) (h++L) c):WC Gam 48 [z0x s] h clk Q:=by
 have p28:=k2s hs
 have p46:=y0d (l0:=x0o s) hs fun a=>q7s hs
 have p47:=y0e (dl:=x0o s) (n0:=q5n s) (u:= .no) hs (fun a=>q7s hs) fun a=>x8d hs
 rw[z0x] at p28 p46 p47
 have hpl:=hs.pl
 refine k8b rfl u4f rfl rfl rfl (az:=[z0x s]) rfl (by simp[idsL,z2c]) fun D B hB hBh=> ?_
 simp only[go_sem,y9s,hB,z0x,z0a p28,z0a p46,z0a p47,Bool.not_true]
 refine z6z s.preds.length (by omega) (fun i q=>∃ (g0 g1 g2:Nat) (t1 t2:Tip) (o3 o4 o5 o6:AObj),q.ts 1= .ptr (B + 0) g0 0 0∧q.ts 2= .ptr (B + 1) g1 0 0∧q.ts 4= .ptr (B + 2) g2 0 0∧q.ts 5= .sl (z0z s.preds (x0o s)) .no∧q.ts 6= .sl (z0z s.preds (q5n s)) .no∧q.ts 7= .int .i64 (i:Int)∧q.h=D++[.blk g0 [.agg [.sl (s.preds.map z0q) .no, .sl (s.clauses.map z0f) .no]] false false 0, .blk g1 [.agg [.int .i64 0, .str [], .str [], .int .i64 0, .int .i64 0, .sl [] .nil, .sl [] .nil, .sl [] .nil]] false false 0, .blk g2 [tfA (k3l (s.preds.take i) (x0o s) (q5n s)) (x1i (s.preds.take i) (x0o s)) t1 t2] false false 0,o3,o4,o5,o6]∧TipN B 6 o6 t1 1∧TipN B 4 o4 t2 1) ⟨_,_,_, .nil, .nil,_,_,_,_,rfl,rfl,rfl,rfl,rfl,rfl,rfl, .inl rfl, .inl rfl⟩ ?_ ?_
 ·rintro i hlt f1 f2 ts h' clk' P ⟨g0,g1,g2,t1,t2,o3,o4,o5,o6,q1,q2,q4,q5,q6,q7,rfl,ht1,ht2⟩ hnx he hr
  dsimp only at q1 q2 q4 q5 q6 q7
  have htake:s.preds.take (i + 1)=s.preds.take i++[s.preds[i]]:=List.take_succ_eq_append_getElem hlt
  have hix:=fun h=>z6g (l:=s.preds) (i:=i) (h:=h) (t:= .no) (k:= .i64) hlt
  have hb1:=fun h=>x0l (ps:=s.preds) (L:=x0o s) (i:=i) (h:=h) (t:= .no) (k:= .i64) hlt
  have hb2:=fun h=>x0l (ps:=s.preds) (L:=q5n s) (i:=i) (h:=h) (t:= .no) (k:= .i64) hlt
  have hl1:=k2a (ps:=s.preds.take i) (dl:=x0o s)
  have hl2:=k7s (ps:=s.preds.take i) (dl:=x0o s) (nl:=q5n s)
  have hu1:x1i (s.preds.take (i + 1)) (x0o s)=x1i (s.preds.take i) (x0o s)++(if s.preds[i].name∈x0o s then [] else [s.preds[i].name]):=by
   unfold x1i
   rw[htake,List.map_append,List.filter_append]
   congr 1
   by_cases h:s.preds[i].name∈x0o s <;> simp[h]
  have hu2:k3l (s.preds.take (i + 1)) (x0o s) (q5n s)=k3l (s.preds.take i) (x0o s) (q5n s)++(if s.preds[i].name∈x0o s∧s.preds[i].name∉q5n s then [s.preds[i].name] else []):=by
   unfold k3l
   rw[htake,List.map_append,List.filter_append]
   congr 1
   by_cases h:s.preds[i].name∈x0o s <;> by_cases h':s.preds[i].name∈q5n s <;> simp[h,h']
  rw[List.length_take] at hl1 hl2
  generalize s.preds[i]=f at *
  by_cases hin:f.name∈x0o s
  ·rw[if_pos hin,List.append_nil] at hu1
   rw[decide_eq_true hin] at hb1
   by_cases hin2:f.name∈q5n s
   ·rw[if_neg (fun h=>h.2 hin2),List.append_nil] at hu2
    rw[decide_eq_true hin2] at hb2
    simp only[go_sem,j6d,tfA,q1,q2,q4,q5,q6,q7,hB,f1,f2,List.length_map,hix,hb1,hb2,Bool.not_true]
    exact hnx _ ⟨g0,g1,g2,t1,t2,_,_,_,_,q1,q2,q4,q5,q6,rfl,by rw[hu1,hu2];rfl,ht1,ht2⟩
   ·rw[if_pos ⟨hin,hin2⟩] at hu2
    rw[decide_eq_false hin2] at hb2
    simp only[go_sem,j6d,tfA,q1,q2,q4,q5,q6,q7,hB,f1,z1i,List.length_map,hix,hb1,hb2,Bool.not_true,Bool.not_false]
    rw[show [AV.str f.name]=z1t [f.name] from rfl,z0j hB rfl ht1.k z1u z1u (by simp only[z1t,List.length_map,List.length_singleton];omega)]
    have e8:z1t (k3l (s.preds.take i) (x0o s) (q5n s))++z1t [f.name]=z1t (k3l (s.preds.take (i + 1)) (x0o s) (q5n s)):=by rw[hu2,z1t,z1t,z1t,List.map_append]
    simp only[go_sem,q1,q2,q4,q5,q6,q7,hB,f2,e8]
    refine⟨by simp[z1f,apart,z0i,z1d,z1h,AOp.isCall,hB,AV.ids,idsL,z2d,z0c z2j], ?_⟩
    exact hnx _ ⟨g0,g1,g2,_,t2,_,_,_,_,q1,q2,q4,q5,q6,rfl,by rw[hu1];rfl, .inr ⟨_,rfl,rfl⟩,ht2⟩
  ·rw[if_neg hin] at hu1
   rw[if_neg (fun h=>hin h.1),List.append_nil] at hu2
   rw[decide_eq_false hin] at hb1
   simp only[go_sem,j6d,tfA,q1,q2,q4,q5,q6,q7,hB,f1,z1i,List.length_map,hix,hb1,hb2,Bool.not_false]
   rw[show [AV.str f.name]=z1t [f.name] from rfl,z0j hB rfl ht2.k z1u z1u (by simp only[z1t,List.length_map,List.length_singleton];omega)]
   have e8:z1t (x1i (s.preds.take i) (x0o s))++z1t [f.name]=z1t (x1i (s.preds.take (i + 1)) (x0o s)):=by rw[hu1,z1t,z1t,z1t,List.map_append]
   simp only[go_sem,q1,q2,q4,q5,q6,q7,hB,f2,e8]
   refine⟨by simp[z1f,apart,z0i,z1d,z1h,AOp.isCall,hB,AV.ids,idsL,z2d,z0c z2j], ?_⟩
   exact hnx _ ⟨g0,g1,g2,t1,_,_,_,_,_,q1,q2,q4,q5,q6,rfl,by rw[hu2];rfl,ht1, .inr ⟨_,rfl,rfl⟩⟩
 ·rintro f1 ts h' clk' P ⟨g0,g1,g2,t1,t2,o3,o4,o5,o6,q1,q2,q4,q5,q6,q7,rfl,ht1,ht2⟩ he hr
  dsimp only at q1 q2 q4 q5 q6 q7
  rw[List.take_length,k7t fun a=>q7s hs,v8j (fun a=>q7s hs) fun a=>x8d hs]
  simp only[go_sem,j6d,q1,q2,q4,q5,q6,q7,hB,f1,List.length_map]
  refine he _ _ ?_
  simp only[go_sem,tfA,q1,q2,q4,hB]
  refine⟨fun _=>by simp,[tfA (z2s s).un (z2s s).und t1 t2, .int .i64 0],_, ?_,rfl, ?_⟩
  ·simp only[go_sem,hB,tfA,z0n,z0m,z0g,q2,q4]
  subst hBh
  by_cases hids:t1= .nil∧t2= .nil
  ·obtain⟨rfl,rfl⟩:=hids
   refine .inl ⟨by simp[z1k,tfA,AV.ids,idsL,z2d], ?_⟩
   have:=hQ .nil .nil .dead .dead .dead .dead .dead .dead .dead [] clk (.inl rfl) (.inl rfl) (.inr ⟨rfl,rfl,rfl⟩)
   rwa [List.append_nil] at this
  ·refine .inr ⟨?_,hQ t1 t2 _ _ _ _ _ _ _ _ _ ht1 ht2 (.inl rfl)⟩
   rcases ht1 with rfl | ⟨g,rfl,_⟩
   ·rcases ht2 with rfl | ⟨g,rfl,_⟩
    ·exact absurd ⟨rfl,rfl⟩ hids
    ·exact⟨h.length + 4,by simp[z1k,tfA,AV.ids,idsL,z2d],by omega⟩
   ·exact⟨h.length + 6,by simp[z1k,tfA,AV.ids,idsL,z2d],by omega⟩
end
end Go.Proofs.YtahdahokpjigiaaGreatDoor.Am
