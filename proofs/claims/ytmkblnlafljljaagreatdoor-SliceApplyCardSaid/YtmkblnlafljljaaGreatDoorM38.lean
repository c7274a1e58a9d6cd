/- Walking: atoms are equal to themselves Walking: loops over indices; systems are equal to themselves Walking: the reference asks for atoms and for kinds Walking: the reference's copies Walking: the ref -/
import Derived.Test.YtmkblnlafljljaaGreatDoorM37
open Nat renaming reduceBEq → z0,reduceAdd → z1,reduceLeDiff → z2,reduceSub → z3
set_option linter.all false
namespace Go.Proofs.YtmkblnlafljljaaGreatDoor.Am
open Go
set_option maxRecDepth 100000
theorem k6s {a:App} (hl:a.args.length≤20000) (ht:∀ t∈a.args,t.length≤20000):Pure Gam 68 [z2y a,z2y a] (.bool true):=by
 have p1:=v4p (u:= .no) (v:= .no) hl ht
 refine Pure.of rfl y7p rfl rfl rfl (az:=[z2y a,z2y a]) rfl (by simp[idsL,z4g]) fun D B clk T hB hT=> ?_
 simp only[go_sem,z0,z1,z2,z3,reduceCtorEq,↓reduceIte,y4k,hB,z2y,z0a p1,decide_true]
 rw[z0f]
 exact hT _
structure CmpC (c:Clause):Prop where
 vars:c.vars.length≤20000
 body:c.body.length≤20000
 guard:c.guard.length≤20000
 head:c.head.args.length≤20000∧∀ t∈c.head.args,t.length≤20000
 atoms:∀ a∈c.body,a.args.length≤20000∧∀ t∈a.args,t.length≤20000
theorem w5r {c:Clause} (hc:CmpC c):Pure Gam 34 [z0e c,z0e c] (.bool true):=by
 have p1:=w5q (u:= .no) (v:= .no) hc.vars
 have p2:=k6r (u:= .no) (v:= .no) hc.guard
 have p3:=k6s (a:=c.head) hc.head.1 hc.head.2
 simp only[z2y] at p3
 have hbl:=hc.body
 refine Pure.of rfl y7n rfl rfl rfl (az:=[z0e c,z0e c]) rfl (by simp[idsL,z1s]) fun D B clk T hB hT=> ?_
 simp only[go_sem,z0,z1,z2,z3,reduceCtorEq,↓reduceIte,y4i,hB,z0e,z0g,z0a p1,z0a p2,z0a p3,List.length_map,decide_true,Bool.not_true]
 refine z0t (fun m q=>∃ (i g0 g1:Nat),i≤c.body.length∧m=c.body.length - i∧q.ts 2= .ptr (B + 0) g0 0 0∧q.ts 3= .ptr (B + 1) g1 0 0∧q.ts 5= .int .i64 (i:Int)∧q.h=D++[.blk g0 [.agg [.sl (c.vars.map z1p) .no, .sl (c.body.map z2y) .no, .sl (c.guard.map eNode) .no, .str c.head.pred, .sl (c.head.args.map z0g) .no]] false false 0, .blk g1 [.agg [.sl (c.vars.map z1p) .no, .sl (c.body.map z2y) .no, .sl (c.guard.map eNode) .no, .str c.head.pred, .sl (c.head.args.map z0g) .no]] false false 0]) c.body.length ⟨0,_,_,by omega,rfl,rfl,rfl,rfl,rfl⟩ ?_
 rintro m ⟨ts,h',clk⟩ P ⟨i,g0,g1,hi,rfl,h2,h3,h5,rfl⟩ hnx he hr
 dsimp only at h2 h3 h5
 by_cases hlt:i < c.body.length
 ·have f1:decide ((i:Int) < (c.body.length:Int))=true:=by rw[decide_eq_true_iff];omega
  have f2:IntKind.i64.wrap ((i:Int) + 1)=((i + 1:Nat):Int):=z0c (by omega) (by omega)
  have hja:∀ h,z1t h 2 (.sl (c.body.map z2y) .no) (.int .i64 (i:Int))=some (.iptr [.str c.body[i].pred, .sl (c.body[i].args.map z0g) .no] 0,h):=fun h=>z3k hlt rfl rfl
  have ha:=hc.atoms _ (List.getElem_mem hlt)
  have p4:=k6s (a:=c.body[i]) ha.1 ha.2
  simp only[z2y] at p4
  simp only[go_sem,z0,z1,z2,z3,reduceCtorEq,↓reduceIte,v0f,h2,h3,h5,hB,List.length_map,f1,f2,hja,z0a p4,Bool.not_true]
  exact hnx (c.body.length - (i + 1)) _ (by omega) ⟨i + 1,g0,g1,hlt,rfl,h2,h3,rfl,rfl⟩
 ·have f1:decide ((i:Int) < (c.body.length:Int))=false:=by rw[decide_eq_false_iff_not];omega
  simp only[go_sem,z0,z1,z2,z3,reduceCtorEq,↓reduceIte,v0f,h2,h3,h5,hB,List.length_map,f1]
  refine he _ _ ?_
  simp only[go_sem,z0,z1,z2,z3,reduceCtorEq,↓reduceIte,]
  rw[z0f]
  exact hT _
theorem q9f {base:Nat} {b:ACode} {ks:List Kf} {s:St} {Q:Post} (n:Nat) (hn:n≤2 ^ 62) (J:Nat→St→Prop) (h0:J 0 s)
  (hstep:∀ i,i < n→decide ((i:Int) < (n:Int))=true→IntKind.i64.wrap ((i:Int) + 1)=((i + 1:Nat):Int)→∀ ts h clk (P:Post),J i ⟨ts,h,clk⟩→(∀ s',J (i + 1) s'→P .norm s')→(∀ k s',K Gam base (.exit k) ks s' Q→P (.exit k) s')→(∀ s',K Gam base .ret ks s' Q→P .ret s')→K Gam base b [] ⟨ts,h,clk⟩ P)
  (hend:decide ((n:Int) < (n:Int))=false→∀ ts h clk (P:Post),J n ⟨ts,h,clk⟩→(∀ k s',K Gam base (.exit k) ks s' Q→P (.exit k) s')→(∀ s',K Gam base .ret ks s' Q→P .ret s')→K Gam base b [] ⟨ts,h,clk⟩ P):K Gam base (.loop b) ks s Q:=by
 refine z0t (fun m q=>∃ i:Nat,i≤n∧m=n - i∧J i q) n ⟨0,by omega,rfl,h0⟩ ?_
 rintro m ⟨ts,h,clk⟩ P ⟨i,hi,rfl,hj⟩ hnx he hr
 by_cases hlt:i < n
 ·exact hstep i hlt (by rw[decide_eq_true_iff];omega) (z0c (by omega) (by omega)) ts h clk P hj (fun s' h=>hnx (n - (i + 1)) s' (by omega) ⟨i + 1,hlt,rfl,h⟩) he hr
 ·obtain rfl:i=n:=by omega
  exact hend (by rw[decide_eq_false_iff_not];omega) ts h clk P hj he hr
theorem k6t {s:Sys} (hp:s.preds.length≤1000) (ha:∀ f∈s.preds,f.args.length≤20000) (hl:s.clauses.length≤2 ^ 18) (hc:∀ c∈s.clauses,CmpC c):Pure Gam 14 [z1u s,z1u s] (.bool true):=by
 refine Pure.of rfl y7l rfl rfl rfl (az:=[z1u s,z1u s]) rfl (by simp[idsL,z2r]) fun D B clk T hB hT=> ?_
 simp only[go_sem,z0,z1,z2,z3,reduceCtorEq,↓reduceIte,y4g,hB,z1u,List.length_map,decide_true,Bool.not_true]
 refine q9f s.preds.length (by omega) (fun i q=>∃ g0 g1,q.ts 2= .ptr (B + 0) g0 0 0∧q.ts 3= .ptr (B + 1) g1 0 0∧q.ts 5= .int .i64 (i:Int)∧q.h=D++[.blk g0 [.agg [.sl (s.preds.map z0p) .no, .sl (s.clauses.map z0e) .no]] false false 0, .blk g1 [.agg [.sl (s.preds.map z0p) .no, .sl (s.clauses.map z0e) .no]] false false 0]) ⟨_,_,rfl,rfl,rfl,rfl⟩ ?_ ?_
 ·rintro i hlt f1 f2 ts h clk P ⟨g0,g1,h2,h3,h5,rfl⟩ hnx he hr
  dsimp only at h2 h3 h5
  have p1:=w5p (u:= .no) (v:= .no) (ha _ (List.getElem_mem hlt))
  simp only[go_sem,z0,z1,z2,z3,reduceCtorEq,↓reduceIte,v0d,h2,h3,h5,hB,List.length_map,f1,f2,q0l hlt,z0a p1,decide_true,Bool.not_true]
  exact hnx _ ⟨g0,g1,h2,h3,rfl,rfl⟩
 ·rintro f1 ts h clk P ⟨g0,g1,h2,h3,h5,rfl⟩ he hr
  dsimp only at h2 h3 h5
  simp only[go_sem,z0,z1,z2,z3,reduceCtorEq,↓reduceIte,v0d,h2,h3,h5,hB,List.length_map,f1]
  refine he _ _ ?_
  simp only[go_sem,z0,z1,z2,z3,reduceCtorEq,↓reduceIte,]
  refine q9f s.clauses.length (by omega) (fun i q=>q.ts 2= .ptr (B + 0) g0 0 0∧q.ts 3= .ptr (B + 1) g1 0 0∧q.ts 6= .int .i64 (i:Int)∧q.h=D++[.blk g0 [.agg [.sl (s.preds.map z0p) .no, .sl (s.clauses.map z0e) .no]] false false 0, .blk g1 [.agg [.sl (s.preds.map z0p) .no, .sl (s.clauses.map z0e) .no]] false false 0]) ⟨by simp[z0b,h2],by simp[z0b,h3],by simp[z0b],rfl⟩ ?_ ?_
  ·clear h2 h3 h5 f1
   rintro i hlt f1 f2 ts h clk P ⟨h2,h3,h6,rfl⟩ hnx he hr
   dsimp only at h2 h3 h6
   have p1:=w5r (hc _ (List.getElem_mem hlt))
   simp only[z0e,z0g] at p1
   simp only[go_sem,z0,z1,z2,z3,reduceCtorEq,↓reduceIte,v0c,h2,h3,h6,hB,List.length_map,f1,f2,z6r hlt,z0a p1,Bool.not_true]
   exact hnx _ ⟨h2,h3,rfl,rfl⟩
  ·clear h2 h3 h5 f1
   rintro f1 ts h clk P ⟨h2,h3,h6,rfl⟩ he hr
   dsimp only at h2 h3 h6
   simp only[go_sem,z0,z1,z2,z3,reduceCtorEq,↓reduceIte,v0c,h2,h3,h6,hB,List.length_map,f1]
   refine he _ _ ?_
   simp only[go_sem,z0,z1,z2,z3,reduceCtorEq,↓reduceIte,]
   rw[z0f]
   exact hT _
theorem x8o {l:List App} {i:Nat} {h:List AObj} {t:Tip} {k:IntKind} (hi:i < l.length):z1t h 2 (.sl (l.map z2y) t) (.int k (i:Int))=some (.iptr [.str l[i].pred, .sl (l[i].args.map z0g) .no] 0,h):=z3k hi rfl rfl
theorem k6u {c:Clause} {l:List (List Nat)} {u:Tip} (hb:c.body.length≤2 ^ 20) (hl:l.length≤1000):Pure Gam 64 [z0e c, .sl (z1m l) u] (.bool (c.body.any fun a=>decide (a.pred∈l))):=by
 refine Pure.of rfl y7k rfl rfl rfl (az:=[z0e c, .sl (z1m l) .no]) rfl (by simp[idsL,AV.ids,z2p,z1s]) fun D B clk T hB hT=> ?_
 simp only[go_sem,z0,z1,z2,z3,reduceCtorEq,↓reduceIte,y4f,hB,z0e,z0g]
 refine q9f c.body.length (by omega) (fun i q=>∃ g0,(∀ a∈c.body.take i,a.pred∉l)∧q.ts 1= .sl (z1m l) .no∧q.ts 2= .ptr (B + 0) g0 0 0∧q.ts 5= .int .i64 (i:Int)∧q.h=D++[.blk g0 [.agg [.sl (c.vars.map z1p) .no, .sl (c.body.map z2y) .no, .sl (c.guard.map eNode) .no, .str c.head.pred, .sl (c.head.args.map z0g) .no]] false false 0]) ⟨_,by simp,rfl,rfl,rfl,rfl⟩ ?_ ?_
 ·rintro i hlt f1 f2 ts h clk P ⟨g0,hno,h1,h2,h5,rfl⟩ hnx he hr
  dsimp only at h1 h2 h5
  have p1:=x5w (l:=l) (nm:=c.body[i].pred) (u:= .no) hl
  have htake:=List.take_succ_eq_append_getElem hlt
  by_cases hin:c.body[i].pred∈l
  ·rw[show decide (c.body[i].pred∈l)=true from decide_eq_true hin] at p1
   simp only[go_sem,z0,z1,z2,z3,reduceCtorEq,↓reduceIte,k1n,h1,h2,h5,hB,List.length_map,f1,x8o hlt,z0a p1]
   refine hr _ ?_
   rw[show (c.body.any fun a=>decide (a.pred∈l))=true from List.any_eq_true.2 ⟨_,List.getElem_mem hlt,by simp[hin]⟩] at hT
   simp only[go_sem,z0,z1,z2,z3,reduceCtorEq,↓reduceIte,]
   rw[z0f]
   exact hT _
  ·rw[show decide (c.body[i].pred∈l)=false from decide_eq_false hin] at p1
   simp only[go_sem,z0,z1,z2,z3,reduceCtorEq,↓reduceIte,k1n,h1,h2,h5,hB,List.length_map,f1,f2,x8o hlt,z0a p1]
   refine hnx _ ⟨g0,fun a ha=> ?_,h1,h2,rfl,rfl⟩
   rw[htake] at ha
   rcases List.mem_append.1 ha with ha | ha
   ·exact hno a ha
   ·rw[List.mem_singleton.1 ha];exact hin
 ·rintro f1 ts h clk P ⟨g0,hno,h1,h2,h5,rfl⟩ he hr
  dsimp only at h1 h2 h5
  rw[List.take_length] at hno
  simp only[go_sem,z0,z1,z2,z3,reduceCtorEq,↓reduceIte,k1n,h1,h2,h5,hB,List.length_map,f1]
  refine he _ _ ?_
  rw[show (c.body.any fun a=>decide (a.pred∈l))=false from List.any_eq_false.2 fun a ha=>by simp[hno a ha]] at hT
  simp only[go_sem,z0,z1,z2,z3,reduceCtorEq,↓reduceIte,]
  rw[z0f]
  exact hT _
def q2b (x:Tf):Bool:=decide (x.kind=2) && decide (x.pred=[]) && decide (x.into=[]) && decide (x.clause=0) && decide (x.atom=0) && decide (x.drops=[])
theorem x5y {x:Tf}:decide ((x.drops.length:Int)=0)=decide (x.drops=[]):=by
 cases x.drops with
 | nil=>rfl
 | cons a l=>simp;omega
theorem w5s {x:Tf} (hx:TfOk x):Pure Gam 62 [eTf x, .int .i64 2] (.bool (q2b x)):=by
 refine Pure.of rfl y7h rfl rfl rfl (az:=[eTf x, .int .i64 2]) rfl (by simp[idsL,AV.ids,z8i hx]) fun D B clk T hB hT=> ?_
 have e1:decide ((2:Int)=4)=false:=rfl
 have e2:decide ((2:Int)=6)=false:=rfl
 have e3:decide ((2:Int)=5)=false:=rfl
 have e4:decide ((2:Int)=3)=false:=rfl
 unfold q2b at hT
 cases b1:decide (x.kind=2) <;> rw[b1] at hT
 ·simp only[go_sem,z0,z1,z2,z3,reduceCtorEq,↓reduceIte,k9z,hB,eTf,b1,Bool.not_false]
  rw[z0f]
  exact hT _
 cases b2:decide (x.pred=[]) <;> rw[b2] at hT
 ·simp only[go_sem,z0,z1,z2,z3,reduceCtorEq,↓reduceIte,k9z,hB,eTf,b1,b2,Bool.not_true,e1,e2,e3,e4,decide_true]
  rw[z0f]
  exact hT _
 cases b3:decide (x.into=[]) <;> rw[b3] at hT
 ·simp only[go_sem,z0,z1,z2,z3,reduceCtorEq,↓reduceIte,k9z,hB,eTf,b1,b2,b3,Bool.not_true,e1,e2,e3,e4,decide_true]
  rw[z0f]
  exact hT _
 cases b4:decide (x.clause=0) <;> rw[b4] at hT
 ·simp only[go_sem,z0,z1,z2,z3,reduceCtorEq,↓reduceIte,k9z,hB,eTf,b1,b2,b3,b4,Bool.not_true,e1,e2,e3,e4,decide_true]
  rw[z0f]
  exact hT _
 cases b5:decide (x.atom=0) <;> rw[b5] at hT
 ·simp only[go_sem,z0,z1,z2,z3,reduceCtorEq,↓reduceIte,k9z,hB,eTf,b1,b2,b3,b4,b5,Bool.not_true,e1,e2,e3,e4,decide_true]
  rw[z0f]
  exact hT _
 simp only[go_sem,z0,z1,z2,z3,reduceCtorEq,↓reduceIte,k9z,hB,eTf,b1,b2,b3,b4,b5,Bool.not_true,e1,e2,e3,e4,decide_true,x5y]
 rw[z0f]
 simpa using hT _
theorem append_nil {D L:List AObj} {B k esz b gen:Nat} {ys:List AV} {u:Tip} {o:AObj} (hB:D.length=B) (ho:L[k]? =some o) (hy:z0u esz ys=true) (hl:ys.length * (b + 1)≤2 ^ 46):
  z1d (D++L) (B + k) gen esz b false (.sl [] .nil) (.sl ys u)=some (.sl ys (.at (B + k) gen),D++L.set k (.tip gen esz)):=
 z0s (xs:=[]) hB ho (.inl rfl) rfl hy (by simpa using hl)
theorem v4q {l:List Term} {u:Tip} (hl:l.length≤2 ^ 20) (hts:∀ t∈l,t.length≤2 ^ 20):Pure Gam 186 [.sl (l.map z0g) u] (.sl (l.map z0g) .no):=by
 refine Pure.of rfl w8x rfl rfl rfl (az:=[.sl (l.map z0g) .no]) rfl (by simp[idsL,AV.ids,z0d z2c]) fun D B clk T hB hT=> ?_
 simp only[go_sem,z0,v9x,List.length_map]
 refine q9f l.length (by omega) (fun i q=>∃ (t:Tip) (a b o:AObj),q.ts 0= .sl (l.map z0g) .no∧q.ts 3= .sl ((l.take i).map z0g) t∧q.ts 4= .int .i64 (i:Int)∧q.h=D++[a,b,o]∧q3t B 2 o t 1) ⟨.nil,_,_,_,rfl,rfl,rfl,rfl, .inl rfl⟩ ?_ ?_
 ·rintro i hlt f1 f2 ts h clk P ⟨t,a,b,o,q0,q3,q4,rfl,ht⟩ hnx he hr
  dsimp only at q0 q3 q4
  have hix:∀ h,z1t h 1 (.sl (l.map z0g) .no) (.int .i64 (i:Int))=some (.iptr [.sl (l[i].map eNode) .no] 0,h):=fun h=>q1x hlt
  have e8:(l.take i).map z0g++[l[i]].map z0g=(l.take (i + 1)).map z0g:=by rw[List.take_succ_eq_append_getElem hlt,List.map_append]
  have hpx:=hts _ (List.getElem_mem hlt)
  generalize l[i]=x at *
  simp only[go_sem,z0,j5q,q0,q3,q4,hB,f1,hix,List.length_map]
  rw[append_nil hB rfl z6p (by rw[List.length_map];omega)]
  simp only[go_sem,z0,q0,q3,q4,hB]
  rw[show [AV.sl (x.map eNode) .no]=[x].map z0g from rfl,z0s hB rfl ht z3i z3i (by simp only[List.length_map,List.length_singleton,List.length_take];omega),e8]
  simp only[go_sem,z0,q0,q3,q4,f2]
  exact hnx _ ⟨_,_,_,_,q0,rfl,rfl,rfl, .inr (.inr ⟨_,rfl,rfl⟩)⟩
 ·rintro f1 ts h clk P ⟨t,a,b,o,q0,q3,q4,rfl,ht⟩ he hr
  dsimp only at q0 q3 q4
  rw[List.take_length] at q3
  simp only[go_sem,z0,j5q,q0,q3,q4,f1,List.length_map]
  refine he _ _ ?_
  simp only[go_sem,z0,q3]
  rw[z3s rfl (by simp[AV.cv,AV.ids,z0d z2c])]
  exact hT _
theorem j9g {a:App} (hl:a.args.length≤2 ^ 20) (hts:∀ t∈a.args,t.length≤2 ^ 20):Pure Gam 149 [z2y a] (z2y a):=by
 have hp:=v4q (u:= .no) hl hts
 refine Pure.of rfl w8w rfl rfl rfl (az:=[z2y a]) rfl (by simp[idsL,z4g]) fun D B clk T hB hT=> ?_
 simp only[go_sem,z0,z1,z2,z3,reduceCtorEq,↓reduceIte,v9w,hB,z2y,z1y,z0a hp,z1c,z1b,z0j]
 refine⟨by simp[z1r,apart,z0q,z1l,z1v,AOp.isCall,hB], ?_⟩
 rw[z3s rfl (by simp[AV.cv,cvL,AV.ids,idsL,z0d z2c])]
 exact hT _
theorem v4r {c:Clause} (hc:SmallC c):Pure Gam 105 [z0e c] (z0e c):=by
 have hp:=j9g hc.hargs.1 hc.hargs.2
 have hbl:=hc.body
 have hvl:=hc.vars
 have hgl:=hc.guard
 rw[z2y] at hp
 refine Pure.of rfl w8v rfl rfl rfl (az:=[z0e c]) rfl (by simp[idsL,z1s]) fun D B clk T hB hT=> ?_
 simp only[go_sem,z0,z1,z2,z3,reduceCtorEq,↓reduceIte,v9v,hB,z0e,z0g,z1y]
 rw[append_nil hB rfl z3z (by rw[List.length_map];omega)]
 simp only[go_sem,z0,z1,z2,z3,reduceCtorEq,↓reduceIte,hB]
 rw[append_nil hB rfl z6p (by rw[List.length_map];omega)]
 simp only[go_sem,z0,z1,z2,z3,reduceCtorEq,↓reduceIte,hB,z0a hp]
 refine⟨by simp[z1r,apart,z0q,z1l,z1v,AOp.isCall,hB,AV.ids,idsL,z0d z5x,z0d z3r,z0d z2c], ?_⟩
 refine q9f c.body.length (by omega) (fun i q=>∃ (g0 g1 g2:Nat) (t u1 u2:Tip) (o2 o3 o5 o6:AObj),q.ts 1= .ptr (B + 0) g0 0 0∧q.ts 2= .ptr (B + 1) g1 0 0∧q.ts 3= .ptr (B + 4) g2 0 0∧q.ts 4= .int .i64 (i:Int)∧q.h=D++[.blk g0 [.agg [.sl (c.vars.map z1p) .no, .sl (c.body.map z2y) .no, .sl (c.guard.map eNode) .no, .str c.head.pred, .sl (c.head.args.map z0g) .no]] false false 0, .blk g1 [.agg [.sl [] .nil, .sl [] .nil, .sl [] .nil, .str [], .sl [] .nil]] false false 0,o2,o3, .blk g2 [.agg [.sl (c.vars.map z1p) u1, .sl ((c.body.take i).map z2y) t, .sl (c.guard.map eNode) u2, .str c.head.pred, .sl (c.head.args.map z0g) .no]] false false 0,o5,o6]∧q3t B 6 o6 t 2) ⟨_,_,_, .nil,_,_,_,_,_,_,rfl,rfl,rfl,rfl,rfl, .inl rfl⟩ ?_ ?_
 ·rintro i hlt f1 f2 ts h clk P ⟨g0,g1,g2,t,u1,u2,o2,o3,o5,o6,q1,q2,q3,q4,rfl,ht⟩ hnx he hr
  dsimp only at q1 q2 q3 q4
  have hix:=fun h=>x8o (l:=c.body) (i:=i) (h:=h) (t:= .no) (k:= .i64) hlt
  have e8:(c.body.take i).map z2y++[c.body[i]].map z2y=(c.body.take (i + 1)).map z2y:=by rw[List.take_succ_eq_append_getElem hlt,List.map_append]
  have hpa:=j9g (a:=c.body[i]) (hc.bargs _ (List.getElem_mem hlt)).1 (hc.bargs _ (List.getElem_mem hlt)).2
  rw[z2y] at hpa
  generalize c.body[i]=x at *
  simp only[go_sem,z0,z1,z2,z3,reduceCtorEq,↓reduceIte,j5p,q1,q2,q3,q4,hB,z1y,f1,hix,z0a hpa,List.length_map]
  rw[show [AV.agg [.str x.pred, .sl (x.args.map z0g) .no]]=[x].map z2y from rfl,z0s hB rfl ht z6q z6q (by simp only[List.length_map,List.length_singleton,List.length_take];omega),e8]
  simp only[go_sem,z0,z1,z2,z3,reduceCtorEq,↓reduceIte,q1,q2,q3,q4,hB,f2]
  refine⟨by simp[z1r,apart,z0q,z1l,z1v,AOp.isCall,hB,AV.ids,idsL,z0d z2c,z0d z4g], ?_⟩
  exact hnx _ ⟨g0,g1,g2,_,_,_,_,_,_,_,q1,q2,q3,rfl,rfl, .inr (.inr ⟨_,rfl,rfl⟩)⟩
 ·rintro f1 ts h clk P ⟨g0,g1,g2,t,u1,u2,o2,o3,o5,o6,q1,q2,q3,q4,rfl,ht⟩ he hr
  dsimp only at q1 q2 q3 q4
  rw[List.take_length]
  simp only[go_sem,z0,z1,z2,z3,reduceCtorEq,↓reduceIte,j5p,q1,q2,q3,q4,hB,f1,List.length_map]
  refine he _ _ ?_
  simp only[go_sem,z0,z1,z2,z3,reduceCtorEq,↓reduceIte,q1,q2,q3,hB,z1c,z1b,z0j]
  rw[z3s rfl (by simp[AV.cv,cvL,AV.ids,idsL,z0d z5x,z0d z3r,z0d z2c,z0d z4g])]
  exact hT _
theorem w5t {s:Sys} {u v:Tip} (hp:s.preds.length≤1000) (ha:∀ f∈s.preds,f.args.length≤2 ^ 20) (hl:s.clauses.length≤2 ^ 18) (hc:∀ c∈s.clauses,SmallC c):Pure Gam 65 [.agg [.sl (s.preds.map z0p) u, .sl (s.clauses.map z0e) v]] (z1u s):=by
 refine Pure.of rfl y7i rfl rfl rfl (az:=[.agg [.sl (s.preds.map z0p) .no, .sl (s.clauses.map z0e) .no]]) rfl (by simp[idsL,AV.ids,z0d z2u,z0d z1s]) fun D B clk T hB hT=> ?_
 simp only[go_sem,z0,z1,z2,z3,reduceCtorEq,↓reduceIte,y4b,hB,List.length_map]
 refine q9f s.preds.length (by omega) (fun i q=>∃ (g0 g1 g2:Nat) (t:Tip) (o3 o4 o5 o6 o7 o8:AObj),q.ts 1= .ptr (B + 0) g0 0 0∧q.ts 2= .ptr (B + 1) g1 0 0∧q.ts 3= .ptr (B + 2) g2 0 0∧q.ts 4= .int .i64 (i:Int)∧q.h=D++[.blk g0 [.agg [.sl (s.preds.map z0p) .no, .sl (s.clauses.map z0e) .no]] false false 0, .blk g1 [.agg [.sl [] .nil, .sl [] .nil]] false false 0, .blk g2 [.agg [.sl ((s.preds.take i).map z0p) t, .sl [] .nil]] false false 0,o3,o4,o5,o6,o7,o8]∧q3t B 6 o6 t 3) ⟨_,_,_, .nil,_,_,_,_,_,_,rfl,rfl,rfl,rfl,rfl, .inl rfl⟩ ?_ ?_
 ·rintro i hlt f1 f2 ts h clk P ⟨g0,g1,g2,t,o3,o4,o5,o6,o7,o8,q1,q2,q3,q4,rfl,ht⟩ hnx he hr
  dsimp only at q1 q2 q3 q4
  have hix:=fun h=>q0l (l:=s.preds) (i:=i) (h:=h) (t:= .no) (k:= .i64) hlt
  have e8:(s.preds.take i).map z0p++[s.preds[i]].map z0p=(s.preds.take (i + 1)).map z0p:=by rw[List.take_succ_eq_append_getElem hlt,List.map_append]
  have hpf:=ha _ (List.getElem_mem hlt)
  generalize s.preds[i]=f at *
  simp only[go_sem,z0,z1,z2,z3,reduceCtorEq,↓reduceIte,v0b,q1,q2,q3,q4,hB,f1,hix,List.length_map]
  rw[append_nil hB rfl z4k (by rw[List.length_map];omega)]
  simp only[go_sem,z0,z1,z2,z3,reduceCtorEq,↓reduceIte,q1,q2,q3,q4,hB]
  rw[show [AV.agg [.str f.name, .sl (f.args.map nat) .no, .int .i64 (f.result:Int)]]=[f].map z0p from rfl,z0s hB rfl ht z4h z4h (by simp only[List.length_map,List.length_singleton,List.length_take];omega),e8]
  simp only[go_sem,z0,z1,z2,z3,reduceCtorEq,↓reduceIte,q1,q2,q3,q4,hB,f2]
  exact hnx _ ⟨g0,g1,g2,_,_,_,_,_,_,_,q1,q2,q3,rfl,rfl, .inr (.inr ⟨_,rfl,rfl⟩)⟩
 ·rintro f1 ts h clk P ⟨g0,g1,g2,tp,o3,o4,o5,o6,o7,o8,q1,q2,q3,q4,rfl,ht⟩ he hr
  dsimp only at q1 q2 q3 q4
  rw[List.take_length]
  simp only[go_sem,z0,z1,z2,z3,reduceCtorEq,↓reduceIte,v0b,q1,q2,q3,q4,hB,f1,List.length_map]
  refine he _ _ ?_
  simp only[go_sem,z0,z1,z2,z3,reduceCtorEq,↓reduceIte,]
  clear ht q4 f1
  refine q9f s.clauses.length (by omega) (fun i q=>∃ (t:Tip) (o3 o4 o5 o6 o7 o8:AObj),q.ts 1= .ptr (B + 0) g0 0 0∧q.ts 2= .ptr (B + 1) g1 0 0∧q.ts 3= .ptr (B + 2) g2 0 0∧q.ts 6= .int .i64 (i:Int)∧q.h=D++[.blk g0 [.agg [.sl (s.preds.map z0p) .no, .sl (s.clauses.map z0e) .no]] false false 0, .blk g1 [.agg [.sl [] .nil, .sl [] .nil]] false false 0, .blk g2 [.agg [.sl (s.preds.map z0p) tp, .sl ((s.clauses.take i).map z0e) t]] false false 0,o3,o4,o5,o6,o7,o8]∧q3t B 8 o8 t 5) ⟨.nil,_,_,_,_,_,_,by simp[z0b,q1],by simp[z0b,q2],by simp[z0b,q3],by simp[z0b],rfl, .inl rfl⟩ ?_ ?_
  ·clear q1 q2 q3
   rintro i hlt f1 f2 ts h clk P ⟨t,o3,o4,o5,o6,o7,o8,q1,q2,q3,q6,rfl,ht⟩ hnx he hr
   dsimp only at q1 q2 q3 q6
   have hix:=fun h=>z6r (l:=s.clauses) (i:=i) (h:=h) (t:= .no) (k:= .i64) hlt
   have e8:(s.clauses.take i).map z0e++[s.clauses[i]].map z0e=(s.clauses.take (i + 1)).map z0e:=by rw[List.take_succ_eq_append_getElem hlt,List.map_append]
   have hpc:=v4r (hc _ (List.getElem_mem hlt))
   rw[z0e,z0g] at hpc
   generalize s.clauses[i]=c at *
   simp only[go_sem,z0,z1,z2,z3,reduceCtorEq,↓reduceIte,v0a,q1,q2,q3,q6,hB,z1y,f1,hix,z0a hpc,List.length_map]
   rw[show [AV.agg [.sl (c.vars.map z1p) .no, .sl (c.body.map z2y) .no, .sl (c.guard.map eNode) .no, .str c.head.pred, .sl (c.head.args.map z0g) .no]]=[c].map z0e from rfl,z0s hB rfl ht z3b z3b (by simp only[List.length_map,List.length_singleton,List.length_take];omega),e8]
   simp only[go_sem,z0,z1,z2,z3,reduceCtorEq,↓reduceIte,q1,q2,q3,q6,hB,f2]
   refine⟨by simp[z1r,apart,z0q,z1l,z1v,AOp.isCall,hB,AV.ids,idsL,z0d z2c,z0d z5x,z0d z4g,z0d z3r,z0d z1s], ?_⟩
   exact hnx _ ⟨_,_,_,_,_,_,_,q1,q2,q3,rfl,rfl, .inr (.inr ⟨_,rfl,rfl⟩)⟩
  ·clear q1 q2 q3
   rintro f1 ts h clk P ⟨t,o3,o4,o5,o6,o7,o8,q1,q2,q3,q6,rfl,ht⟩ he hr
   dsimp only at q1 q2 q3 q6
   rw[List.take_length]
   simp only[go_sem,z0,z1,z2,z3,reduceCtorEq,↓reduceIte,v0a,q1,q2,q3,q6,hB,f1,List.length_map]
   refine he _ _ ?_
   simp only[go_sem,z0,z1,z2,z3,reduceCtorEq,↓reduceIte,q1,q2,q3,hB,z1c,z1b,z0j]
   rw[z3s rfl (by simp[AV.cv,cvL,AV.ids,idsL,z0d z2u,z0d z1s])]
   exact hT _
theorem j2z {ps:List Func} {nm:List Nat}:decide (q5v ps nm < 0)= !decide (nm∈ps.map (·.name)):=by
 by_cases h:nm∈ps.map (·.name)
 ·rw[decide_eq_true h]
  unfold q5v
  cases hf:ps.findIdx? (fun p=>decide (p.name=nm)) with
  | none=>
    rw[List.findIdx?_eq_none_iff] at hf
    obtain⟨f,hf1,hf2⟩:=List.mem_map.1 h
    have:=hf f hf1
    simp[hf2] at this
  | some i=>simp
 ·rw[decide_eq_false h,z8k fun p hp e=>h (List.mem_map.2 ⟨p,hp,e⟩)]
  rfl
theorem q5f {D L:List AObj} {B j k esz b gen g:Nat} {xs ys:List AV} {u:Tip} (hB:D.length=B) (ho:L[j]? =some (.tip g esz)) (hx:z0u esz xs=true) (hy:z0u esz ys=true) (hl:(xs.length + ys.length) * (b + 1)≤2 ^ 46):
  z1d (D++L) (B + k) gen esz b false (.sl xs (.at (B + j) g)) (.sl ys u)=some (.sl (xs++ys) (.at (B + k) gen),D++(L.set j .dead).set k (.tip gen esz)):=by
 have hgt:¬ (xs.length + ys.length) * (b + 1) > z0z:=by unfold z0z;omega
 unfold z1d
 simp only[z5g,hy,Bool.not_true,Bool.false_eq_true,if_false,hx,Bool.or_false,decide_eq_true_eq,hgt,z5w hB,ho,and_self,if_true,z5j hB]
structure TfS (x:Tf):Prop where
 un:x.un.length≤100
 und:x.und.length≤100
 drops:idsL x.drops=[]
theorem TfS.ok {x:Tf} (h:TfS x):TfOk x:=⟨by have:=h.un;omega,by have:=h.und;omega,h.drops⟩
def z7d (x:Tf):List (List Nat):=x.un++x.und
theorem TfS.len {x:Tf} (h:TfS x):(z7d x).length≤200:=by
 have h1:=h.un
 have h2:=h.und
 unfold z7d
 rw[List.length_append]
 omega
def q6c (s:Sys) (x:Tf):Prop:=(z7d x).Nodup∧∀ a∈z7d x,a∈s.preds.map (·.name)
def H50 (g0 gx g2:Nat) (s:Sys) (x:Tf) (r:List AObj):List AObj:= .blk g0 [z1u s] false false 0:: .blk gx [eTf x] false false 0:: .blk g2 [.agg [.sl [] .nil, .sl [] .nil]] false false 0::r
theorem j9h {s:Sys} {x:Tf} {B clk g0 gx g2:Nat} {D r:List AObj} {tg:Tip} {ts:Tmps} {ks:List Kf} {Q:Post} (hB:D.length=B) (hpl:s.preds.length≤1000) (hx:TfS x) (h2:ts 2= .ptr (B + 0) g0 0 0) (h3:ts 3= .ptr (B + 1) gx 0 0) (h4:ts 4= .ptr (B + 2) g2 0 0) (h7:ts 7= .sl (z1m (z7d x)) tg) (h8:ts 8= .int .i64 0)
  (hok:q6c s x→∀ (ts':Tmps) (clk':Nat),ts' 2= .ptr (B + 0) g0 0 0→ts' 3= .ptr (B + 1) gx 0 0→ts' 4= .ptr (B + 2) g2 0 0→ts' 7= .sl (z1m (z7d x)) tg→K Gam B (.exit 0) ks ⟨ts',D++H50 g0 gx g2 s x r,clk'⟩ Q)
  (hbad:¬ q6c s x→∀ (ts':Tmps) (clk':Nat),ts' 4= .ptr (B + 2) g2 0 0→ts' 5= .sl [] .nil→ts' 6= .int .i64 8→K Gam B .ret ks ⟨ts',D++H50 g0 gx g2 s x r,clk'⟩ Q):
  K Gam B (.loop j2d) ks ⟨ts,D++H50 g0 gx g2 s x r,clk⟩ Q:=by
 have hfl:=hx.len
 unfold q6c at hok hbad
 generalize z7d x=fl at *
 have hsl:(z1m fl).length=fl.length:=List.length_map _
 refine q9f fl.length (by omega) (fun i q=>(fl.take i).Nodup∧(∀ a∈fl.take i,a∈s.preds.map (·.name))∧q.ts 2= .ptr (B + 0) g0 0 0∧q.ts 3= .ptr (B + 1) gx 0 0∧q.ts 4= .ptr (B + 2) g2 0 0∧q.ts 7= .sl (z1m fl) tg∧q.ts 8= .int .i64 (i:Int)∧q.h=D++H50 g0 gx g2 s x r) ⟨by simp,by simp,h2,h3,h4,h7,h8,rfl⟩ ?_ ?_
 ·clear h2 h3 h4 h7 h8
  rintro i hlt f1 f2 ts h clk P ⟨hnd,hin,q2,q3,q4,q7,q8,rfl⟩ hnx he hr
  dsimp only at q2 q3 q4 q7 q8
  have hix:∀ h,z1t h 1 (.sl (z1m fl) tg) (.int .i64 (i:Int))=some (.iptr [.str fl[i]] 0,h):=fun h=>q6m hlt
  have hcut:∀ h,slV h (some 1) (.sl (z1m fl) tg) none (some (.int .i64 (i:Int))) none=some (.sl (z1m (fl.take i)) .no,h):=fun h=>by
   rw[q6k (by omega) (by cases fl <;> rfl),if_neg (by omega),z1m,z1m,List.map_take]
  have htake:fl.take (i + 1)=fl.take i++[fl[i]]:=List.take_succ_eq_append_getElem hlt
  have hsub:(fl.take (i + 1)).Sublist fl:=List.take_sublist _ _
  have htl:(fl.take i).length≤1000:=by rw[List.length_take];omega
  generalize fl[i]=a at *
  have p1:=q5w (s:=s) (nm:=a) hpl
  rw[z1u] at p1
  have hneg:=j2z (ps:=s.preds) (nm:=a)
  have p2:=x5w (l:=fl.take i) (nm:=a) (u:= .no) htl
  by_cases hm:a∈s.preds.map (·.name)
  ·rw[decide_eq_true hm,Bool.not_true] at hneg
   by_cases ha:a∈fl.take i
   ·rw[decide_eq_true ha] at p2
    simp only[go_sem,z0,z1,z2,z3,reduceCtorEq,↓reduceIte,j2d,H50,z1u,q2,q3,q4,q7,q8,hB,f1,hsl,hix,z0a p1,hneg,hcut,z0a p2]
    refine hr _ (hbad (fun h=> ?_) _ _ (by simp[z0b,q4]) (by simp[z0b]) (by simp[z0b]))
    have:=h.1.sublist hsub
    rw[htake,List.nodup_append] at this
    exact this.2.2 _ ha _ (by simp) rfl
   ·rw[decide_eq_false ha] at p2
    simp only[go_sem,z0,z1,z2,z3,reduceCtorEq,↓reduceIte,j2d,H50,z1u,q2,q3,q4,q7,q8,hB,f1,f2,hsl,hix,z0a p1,hneg,hcut,z0a p2]
    refine hnx _ ⟨?_,fun b hb'=> ?_,q2,q3,q4,q7,rfl,rfl⟩
    ·rw[htake,List.nodup_append]
     refine⟨hnd,by simp,fun y hy z hz=> ?_⟩
     rw[List.mem_singleton.1 hz]
     exact fun e=>ha (e ▸ hy)
    ·rw[htake,List.mem_append,List.mem_singleton] at hb'
     rcases hb' with hb' | rfl
     ·exact hin b hb'
     ·exact hm
  ·rw[decide_eq_false hm,Bool.not_false] at hneg
   simp only[go_sem,z0,z1,z2,z3,reduceCtorEq,↓reduceIte,j2d,H50,z1u,q2,q3,q4,q7,q8,hB,f1,hsl,hix,z0a p1,hneg]
   refine hr _ (hbad (fun h=>hm (h.2 _ (hsub.mem (by rw[htake];simp)))) _ _ (by simp[z0b,q4]) (by simp[z0b]) (by simp[z0b]))
 ·clear h2 h3 h4 h7 h8
  rintro f1 ts h clk P ⟨hnd,hin,q2,q3,q4,q7,q8,rfl⟩ he hr
  dsimp only at q2 q3 q4 q7 q8
  rw[List.take_length] at hnd hin
  simp only[go_sem,z0,z1,z2,z3,reduceCtorEq,↓reduceIte,j2d,q2,q3,q4,q7,q8,f1,hsl]
  exact he _ _ (hok ⟨hnd,hin⟩ _ _ (by simp[z0b,q2]) (by simp[z0b,q3]) (by simp[z0b,q4]) (by simp[z0b,q7]))
def x3g (g5:Nat) (a:AObj) (b:AObj) (ps cs:AV) (r:List AObj):List AObj:=a::b:: .blk g5 [.agg [ps,cs]] false false 0::r
theorem k3y {s:Sys} {x:Tf} {B clk g0 gx g2 g5:Nat} {D:List AObj} {a b o6 o7 o8 o9 o10 o11:AObj} {tg:Tip} {ts:Tmps} {ks:List Kf} {Q:Post} (hB:D.length=B) (hpl:s.preds.length≤1000) (hx:TfS x) (h2:ts 2= .ptr (B + 0) g0 0 0) (h3:ts 3= .ptr (B + 1) gx 0 0) (h4:ts 4= .ptr (B + 2) g2 0 0) (h7:ts 7= .sl (z1m (z7d x)) tg) (h9:ts 9= .ptr (B + 5) g5 0 0) (h10:ts 10= .int .i64 0)
  (hok:∀ (ts':Tmps) (t:Tip) (o6 o7:AObj) (clk':Nat),ts' 2= .ptr (B + 0) g0 0 0→ts' 3= .ptr (B + 1) gx 0 0→ts' 4= .ptr (B + 2) g2 0 0→ts' 7= .sl (z1m (z7d x)) tg→ts' 9= .ptr (B + 5) g5 0 0→K Gam B (.exit 2) ks ⟨ts',D++H50 g0 gx g2 s x (x3g g5 a b (.sl ((z9u x s.preds).map z0p) t) (.sl [] .nil) [o6,o7,o8,o9,o10,o11]),clk'⟩ Q):
  K Gam B (.loop j5o) ks ⟨ts,D++H50 g0 gx g2 s x (x3g g5 a b (.sl [] .nil) (.sl [] .nil) [o6,o7,o8,o9,o10,o11]),clk⟩ Q:=by
 have hfl:=hx.len
 refine q9f s.preds.length (by omega) (fun i q=>∃ (t:Tip) (o6 o7:AObj),q.ts 2= .ptr (B + 0) g0 0 0∧q.ts 3= .ptr (B + 1) gx 0 0∧q.ts 4= .ptr (B + 2) g2 0 0∧q.ts 7= .sl (z1m (z7d x)) tg∧q.ts 9= .ptr (B + 5) g5 0 0∧q.ts 10= .int .i64 (i:Int)∧q.h=D++H50 g0 gx g2 s x (x3g g5 a b (.sl ((z9u x (s.preds.take i)).map z0p) t) (.sl [] .nil) [o6,o7,o8,o9,o10,o11])∧q3t B 7 o7 t 3) ⟨.nil,_,_,h2,h3,h4,h7,h9,h10,rfl, .inl rfl⟩ ?_ ?_
 ·clear h2 h3 h4 h7 h9 h10
  rintro i hlt f1 f2 ts h clk P ⟨t,o6,o7,q2,q3,q4,q7,q9,q10,rfl,ht⟩ hnx he hr
  dsimp only at q2 q3 q4 q7 q9 q10
  have hix:=fun h=>q0l (l:=s.preds) (i:=i) (h:=h) (t:= .no) (k:= .i64) hlt
  have hkp:z9u x (s.preds.take (i + 1))=z9u x (s.preds.take i)++(if s.preds[i].name∈z7d x then [] else [s.preds[i]]):=by
   unfold z9u z7d
   rw[List.take_succ_eq_append_getElem hlt,List.filter_append]
   congr 1
   by_cases h1:s.preds[i].name∈x.un <;> by_cases h2:s.preds[i].name∈x.und <;> simp[h1,h2]
  have hkl:(z9u x (s.preds.take i)).length≤1000:=by
   have:=List.length_filter_le (fun f:Func=> !(decide (f.name∈x.un) || decide (f.name∈x.und))) (s.preds.take i)
   rw[List.length_take] at this
   unfold z9u
   omega
  generalize s.preds[i]=f at *
  have p1:=x5w (l:=z7d x) (nm:=f.name) (u:=tg) (by omega)
  by_cases hb:f.name∈z7d x
  ·rw[decide_eq_true hb] at p1
   rw[if_pos hb,List.append_nil] at hkp
   simp only[go_sem,z0,z1,z2,z3,reduceCtorEq,↓reduceIte,j5o,H50,x3g,z1u,q2,q3,q4,q7,q9,q10,hB,f1,f2,List.length_map,hix,z0a p1,Bool.not_true]
   rw[←hkp]
   exact hnx _ ⟨t,_,_,q2,q3,q4,q7,q9,rfl,rfl,ht⟩
  ·rw[decide_eq_false hb] at p1
   rw[if_neg hb] at hkp
   have e8:(z9u x (s.preds.take i)).map z0p++[f].map z0p=(z9u x (s.preds.take (i + 1))).map z0p:=by rw[hkp,List.map_append]
   simp only[go_sem,z0,z1,z2,z3,reduceCtorEq,↓reduceIte,j5o,H50,x3g,z1u,q2,q3,q4,q7,q9,q10,hB,f1,z1y,List.length_map,hix,z0a p1,Bool.not_false]
   rw[show [AV.agg [.str f.name, .sl (f.args.map nat) .no, .int .i64 (f.result:Int)]]=[f].map z0p from rfl,z0s hB rfl ht z4h z4h (by simp only[List.length_map,List.length_singleton];omega),e8]
   simp only[go_sem,z0,z1,z2,z3,reduceCtorEq,↓reduceIte,q2,q3,q4,q7,q9,q10,hB,f2]
   refine⟨by simp[z1r,apart,z0q,z1l,z1v,AOp.isCall,hB,AV.ids,idsL,z0d z2u,z0d z1s], ?_⟩
   exact hnx _ ⟨_,_,_,q2,q3,q4,q7,q9,rfl,rfl, .inr (.inr ⟨_,rfl,rfl⟩)⟩
 ·clear h2 h3 h4 h7 h9 h10
  rintro f1 ts h clk P ⟨t,o6,o7,q2,q3,q4,q7,q9,q10,rfl,ht⟩ he hr
  dsimp only at q2 q3 q4 q7 q9 q10
  rw[List.take_length]
  simp only[go_sem,z0,z1,z2,z3,reduceCtorEq,↓reduceIte,j5o,H50,x3g,z1u,q2,q3,q4,q7,q9,q10,hB,f1,List.length_map]
  exact he _ _ (hok _ t _ _ _ (by simp[z0b,q2]) (by simp[z0b,q3]) (by simp[z0b,q4]) (by simp[z0b,q7]) (by simp[z0b,q9]))
def q3a (x:Tf):List Clause→Nat→List Int
 | [],_=>[]
 | c::cs,n=>if z4c x.un x.und c=some true then (n:Int)::q3a x cs (n + 1) else -1::q3a x cs n
theorem x3h {x:Tf}:∀ {cs:List Clause} {n:Nat},(q3a x cs n).length=cs.length
 | [],_=>rfl
 | c::cs,n=>by unfold q3a;split <;> simp[x3h]
theorem q9g {x:Tf} {c:Clause}:∀ {cs:List Clause} {n:Nat},q3a x (cs++[c]) n=q3a x cs n++[if z4c x.un x.und c=some true then ((n + (z6j x cs).length:Nat):Int) else -1]
 | [],n=>by
   simp only[List.nil_append,q3a,z6j,List.filter_nil,List.length_nil,Nat.add_zero]
   split <;> rfl
 | d::cs,n=>by
   simp only[List.cons_append,q3a]
   rw[q9g,q9g]
   by_cases hd:z4c x.un x.und d=some true
   ·rw[if_pos hd,if_pos hd]
    have e:∀ m:Nat,n + 1 + m=n + (m + 1):=fun m=>by omega
    simp[z6j,List.filter_cons,hd,e]
   ·rw[if_neg hd,if_neg hd]
    simp[z6j,List.filter_cons,hd]
def q4k (l:List Int) (k:Nat):List AV:=q0q l++List.replicate k (.int .i64 0)
theorem k3z {l:List Int} {k:Nat}:(q4k l (k + 1))[l.length]? =some (.int .i64 0):=by
 rw[q4k,List.getElem?_append_right (by rw[z5d];omega),z5d,Nat.sub_self]
 rfl
theorem k4a {l:List Int} {k:Nat} {z:Int}:(q4k l (k + 1)).set l.length (.int .i64 z)=q4k (l++[z]) k:=by
 rw[q4k,List.set_append_right _ _ (by rw[z5d];omega),z5d,Nat.sub_self,List.replicate_succ,List.set_cons_zero,q4k]
 simp[q0q]
theorem j9i {l:List Int} {k:Nat} {y z:Int}:(q4k (l++[y]) k).set l.length (.int .i64 z)=q4k (l++[z]) k:=by
 rw[q4k,q4k,List.set_append_left _ _ (by rw[z5d];simp)]
 simp[q0q]
theorem j9j {l:List Int} {k:Nat} {y:Int}:(q4k (l++[y]) k)[l.length]? =some (.int .i64 y):=by
 rw[q4k,List.getElem?_append_left (by rw[z5d];simp)]
 simp[q0q]
theorem w5u {s:Sys} {x:Tf} {B clk g0 gx g2 g5 g8:Nat} {D:List AObj} {a b o6 o7 o9 o10 o11:AObj} {tg tp:Tip} {pv:List AV} {ts:Tmps} {ks:List Kf} {Q:Post} (hB:D.length=B) (hcl:s.clauses.length≤1000) (hcs:∀ c∈s.clauses,c.body.length≤2 ^ 20) (hx:TfS x) (h2:ts 2= .ptr (B + 0) g0 0 0) (h3:ts 3= .ptr (B + 1) gx 0 0) (h4:ts 4= .ptr (B + 2) g2 0 0) (h7:ts 7= .sl (z1m (z7d x)) tg) (h9:ts 9= .ptr (B + 5) g5 0 0) (h11:ts 11= .ob (B + 8) g8 0 s.clauses.length) (h12:ts 12= .int .i64 0)
  (hok:∀ out,z5p x.un x.und s.clauses 0 []=some out→∀ (ts':Tmps) (t:Tip) (o9 o10 o11:AObj) (clk':Nat),ts' 4= .ptr (B + 2) g2 0 0→ts' 9= .ptr (B + 5) g5 0 0→ts' 11= .ob (B + 8) g8 0 s.clauses.length→K Gam B (.exit 4) ks ⟨ts',D++H50 g0 gx g2 s x (x3g g5 a b (.sl pv tp) (.sl ((z6j x s.clauses).map z0e) t) [o6,o7, .blk g8 (q4k (q3a x s.clauses 0) 0) true false 0,o9,o10,o11]),clk'⟩ Q)
  (hbad:z5p x.un x.und s.clauses 0 []=none→∀ (ts':Tmps) (r:List AObj) (clk':Nat),ts' 4= .ptr (B + 2) g2 0 0→ts' 5= .sl [] .nil→ts' 6= .int .i64 8→K Gam B .ret ks ⟨ts',D++H50 g0 gx g2 s x r,clk'⟩ Q):
  K Gam B (.loop x2e) ks ⟨ts,D++H50 g0 gx g2 s x (x3g g5 a b (.sl pv tp) (.sl [] .nil) [o6,o7, .blk g8 (List.replicate s.clauses.length (.int .i64 0)) true false 0,o9,o10,o11]),clk⟩ Q:=by
 have hfl:=hx.len
 have hun:=hx.un
 have hund:=hx.und
 refine q9f s.clauses.length (by omega) (fun i q=>∃ (out:List Nat) (t:Tip) (o9 o10 o11:AObj),z5p x.un x.und (s.clauses.drop i) i out=z5p x.un x.und s.clauses 0 []∧q.ts 2= .ptr (B + 0) g0 0 0∧q.ts 3= .ptr (B + 1) gx 0 0∧q.ts 4= .ptr (B + 2) g2 0 0∧q.ts 7= .sl (z1m (z7d x)) tg∧q.ts 9= .ptr (B + 5) g5 0 0∧q.ts 11= .ob (B + 8) g8 0 s.clauses.length∧q.ts 12= .int .i64 (i:Int)∧q.h=D++H50 g0 gx g2 s x (x3g g5 a b (.sl pv tp) (.sl ((z6j x (s.clauses.take i)).map z0e) t) [o6,o7, .blk g8 (q4k (q3a x (s.clauses.take i) 0) (s.clauses.length - i)) true false 0,o9,o10,o11])∧q3t B 11 o11 t 5) ⟨[], .nil,_,_,_,by simp,h2,h3,h4,h7,h9,h11,h12,rfl, .inl rfl⟩ ?_ ?_
 ·clear h2 h3 h4 h7 h9 h11 h12
  rintro i hlt f1 f2 ts h clk P ⟨out,t,o9,o10,o11,hk,q2,q3,q4,q7,q9,q11,q12,rfl,ht⟩ hnx he hr
  dsimp only at q2 q3 q4 q7 q9 q11 q12
  have hdr:s.clauses.drop i=s.clauses[i]::s.clauses.drop (i + 1):=List.drop_eq_getElem_cons hlt
  have htake:s.clauses.take (i + 1)=s.clauses.take i++[s.clauses[i]]:=List.take_succ_eq_append_getElem hlt
  have hix:=fun h=>z6r (l:=s.clauses) (i:=i) (h:=h) (t:= .no) (k:= .i64) hlt
  have hbody:=hcs _ (List.getElem_mem hlt)
  have hil:(q3a x (s.clauses.take i) 0).length=i:=by rw[x3h,List.length_take];omega
  have hkl:(z6j x (s.clauses.take i)).length≤1000:=by
   have:=List.length_filter_le (fun c=>decide (z4c x.un x.und c=some true)) (s.clauses.take i)
   rw[List.length_take] at this
   unfold z6j
   omega
  obtain⟨w,hw⟩:∃ w,s.clauses.length - i=w + 1:=⟨s.clauses.length - i - 1,by omega⟩
  have hw2:s.clauses.length - (i + 1)=w:=by omega
  rw[hw]
  rw[hdr,z5p] at hk
  have hg1:(q4k (q3a x (s.clauses.take i) 0) (w + 1))[i]? =some (.int .i64 0):=by
   have:=k3z (l:=q3a x (s.clauses.take i) 0) (k:=w)
   rwa [hil] at this
  have hs1:(q4k (q3a x (s.clauses.take i) 0) (w + 1)).set i (.int .i64 (-1))=q4k (q3a x (s.clauses.take i) 0++[-1]) w:=by
   have:=k4a (l:=q3a x (s.clauses.take i) 0) (k:=w) (z:= -1)
   rwa [hil] at this
  have hg2:(q4k (q3a x (s.clauses.take i) 0++[-1]) w)[i]? =some (.int .i64 (-1)):=by
   have:=j9j (l:=q3a x (s.clauses.take i) 0) (k:=w) (y:= -1)
   rwa [hil] at this
  have hs2:∀ z:Int,(q4k (q3a x (s.clauses.take i) 0++[-1]) w).set i (.int .i64 z)=q4k (q3a x (s.clauses.take i) 0++[z]) w:=fun z=>by
   have:=j9i (l:=q3a x (s.clauses.take i) 0) (k:=w) (y:= -1) (z:=z)
   rwa [hil] at this
  have hidx1:∀ L:List AObj,L[8]? =some (.blk g8 (q4k (q3a x (s.clauses.take i) 0) (w + 1)) true false 0)→z1t (D++L) 1 (.ob (B + 8) g8 0 s.clauses.length) (.int .i64 (i:Int))=some (.ptr (B + 8) g8 i 0,D++L):=fun L h1=>z8d hB h1 hg1 rfl hlt
  have hidx2:∀ L:List AObj,L[8]? =some (.blk g8 (q4k (q3a x (s.clauses.take i) 0++[-1]) w) true false 0)→z1t (D++L) 1 (.ob (B + 8) g8 0 s.clauses.length) (.int .i64 (i:Int))=some (.ptr (B + 8) g8 i 0,D++L):=fun L h1=>z8d hB h1 hg2 rfl hlt
  have hst1:∀ L:List AObj,L[8]? =some (.blk g8 (q4k (q3a x (s.clauses.take i) 0) (w + 1)) true false 0)→z8x (D++L) 1 (.int .i64 (-1)) (.ptr (B + 8) g8 i 0)=some (.undef,D++L.set 8 (.blk g8 (q4k (q3a x (s.clauses.take i) 0++[-1]) w) true false 0)):=fun L h1=>by rw[←hs1];exact z8c hB h1 hg1
  have hst2:∀ (L:List AObj) (z:Int),L[8]? =some (.blk g8 (q4k (q3a x (s.clauses.take i) 0++[-1]) w) true false 0)→z8x (D++L) 1 (.int .i64 z) (.ptr (B + 8) g8 i 0)=some (.undef,D++L.set 8 (.blk g8 (q4k (q3a x (s.clauses.take i) 0++[z]) w) true false 0)):=fun L z h1=>by rw[←hs2 z];exact z8c hB h1 hg2
  have hsn:=q9g (x:=x) (c:=s.clauses[i]) (cs:=s.clauses.take i) (n:=0)
  simp only[Nat.zero_add] at hsn
  have hkn:z6j x (s.clauses.take (i + 1))=z6j x (s.clauses.take i)++(if z4c x.un x.und s.clauses[i]=some true then [s.clauses[i]] else []):=by
   unfold z6j
   rw[htake,List.filter_append]
   congr 1
   by_cases h:z4c x.un x.und s.clauses[i]=some true <;> simp[h]
  rw[←htake] at hsn
  generalize s.clauses[i]=c at *
  have p1:=x5w (l:=x.und) (nm:=c.head.pred) (u:= .no) (by omega)
  have p2:=k6u (c:=c) (l:=x.und) (u:= .no) hbody (by omega)
  have p3:=x5w (l:=z7d x) (nm:=c.head.pred) (u:=tg) (by omega)
  have p4:=k6u (c:=c) (l:=x.un) (u:= .no) hbody (by omega)
  rw[z0e,z0g] at p2 p4
  have gone:z4c x.un x.und c=some false→∀ (ts':Tmps) (o9 o10:AObj) (clk':Nat),ts' 2= .ptr (B + 0) g0 0 0→ts' 3= .ptr (B + 1) gx 0 0→ts' 4= .ptr (B + 2) g2 0 0→ts' 7= .sl (z1m (z7d x)) tg→ts' 9= .ptr (B + 5) g5 0 0→ts' 11= .ob (B + 8) g8 0 s.clauses.length→ts' 12= .int .i64 ((i + 1:Nat):Int)→P .norm ⟨ts',D++H50 g0 gx g2 s x (x3g g5 a b (.sl pv tp) (.sl ((z6j x (s.clauses.take i)).map z0e) t) [o6,o7, .blk g8 (q4k (q3a x (s.clauses.take i) 0++[-1]) w) true false 0,o9,o10,o11]),clk'⟩:=by
   intro hkc ts' o9 o10 clk' r2 r3 r4 r7 r9 r11 r12
   rw[hkc] at hk
   rw[if_neg (by rw[hkc];simp)] at hsn
   rw[if_neg (by rw[hkc];simp),List.append_nil] at hkn
   exact hnx _ ⟨out,t,_,_,_,hk,r2,r3,r4,r7,r9,r11,r12,by rw[hkn,hsn,hw2],ht⟩
  cases h1:decide (c.head.pred∈x.und) <;> rw[h1] at p1
  ·have hnu:¬ c.head.pred∈x.und:=by rwa [decide_eq_false_iff_not] at h1
   cases h2:decide (c.head.pred∈z7d x) <;> rw[h2] at p3
   ·cases h3:(c.body.any fun a=>decide (a.pred∈x.und)) <;> rw[h3] at p2
    ·have hng:¬ c.head.pred∈x.un++x.und:=by rwa [decide_eq_false_iff_not] at h2
     cases h4:(c.body.any fun a=>decide (a.pred∈x.un)) <;> rw[h4] at p4
     ·have hkc:z4c x.un x.und c=some true:=by
       unfold z4c
       rw[if_neg (fun h=>hnu h.1),if_neg (fun h=>h.elim hng (by rw[h3];simp)),if_neg (by rw[h4];simp)]
      rw[hkc] at hk
      rw[if_pos hkc] at hsn hkn
      have e8:(z6j x (s.clauses.take i)).map z0e++[c].map z0e=(z6j x (s.clauses.take (i + 1))).map z0e:=by rw[hkn,List.map_append]
      simp only[go_sem,z0,z1,z2,z3,reduceCtorEq,↓reduceIte,x2e,H50,x3g,z1u,eTf,q2,q3,q4,q7,q9,q11,q12,hB,f1,f2,List.length_map,hix,hidx1,hst1,z0a p1,z0a p3,z0a p2,z0a p4,hidx2,hst2]
      rw[show [AV.agg [.sl (c.vars.map z1p) .no, .sl (c.body.map z2y) .no, .sl (c.guard.map eNode) .no, .str c.head.pred, .sl (c.head.args.map z0g) .no]]=[c].map z0e from rfl,z0s hB rfl ht z3b z3b (by simp only[List.length_map,List.length_singleton];omega),e8]
      simp only[go_sem,z0,z1,z2,z3,reduceCtorEq,↓reduceIte,q2,q3,q4,q7,q9,q11,q12,hB,f2]
      exact hnx _ ⟨out++[i],_,_,_,_,hk,q2,q3,q4,q7,q9,q11,rfl,by rw[hw2,hsn];rfl, .inr (.inr ⟨_,rfl,rfl⟩)⟩
     ·have hkc:z4c x.un x.und c=none:=by
       unfold z4c
       rw[if_neg (fun h=>hnu h.1),if_neg (fun h=>h.elim hng (by rw[h3];simp)),if_pos h4]
      rw[hkc] at hk
      simp only[go_sem,z0,z1,z2,z3,reduceCtorEq,↓reduceIte,x2e,H50,x3g,z1u,eTf,q2,q3,q4,q7,q9,q11,q12,hB,f1,List.length_map,hix,hidx1,hst1,z0a p1,z0a p3,z0a p2,z0a p4]
      exact hr _ (hbad hk.symm _ _ _ (by simp[z0b,q4]) (by simp[z0b]) (by simp[z0b]))
    ·have hkc:z4c x.un x.und c=some false:=by
      unfold z4c
      rw[if_neg (fun h=>hnu h.1),if_pos (.inr h3)]
     simp only[go_sem,z0,z1,z2,z3,reduceCtorEq,↓reduceIte,x2e,H50,x3g,z1u,eTf,q2,q3,q4,q7,q9,q11,q12,hB,f1,f2,List.length_map,hix,hidx1,hst1,z0a p1,z0a p3,z0a p2]
     exact gone hkc _ _ _ _ q2 q3 q4 q7 q9 q11 rfl
   ·have hkc:z4c x.un x.und c=some false:=by
     unfold z4c
     rw[if_neg (fun h=>hnu h.1),if_pos (.inl (by rwa [decide_eq_true_iff] at h2))]
    simp only[go_sem,z0,z1,z2,z3,reduceCtorEq,↓reduceIte,x2e,H50,x3g,z1u,eTf,q2,q3,q4,q7,q9,q11,q12,hB,f1,f2,List.length_map,hix,hidx1,hst1,z0a p1,z0a p3]
    exact gone hkc _ _ _ _ q2 q3 q4 q7 q9 q11 rfl
  ·have hu:c.head.pred∈x.und:=by rwa [decide_eq_true_iff] at h1
   have hg:c.head.pred∈z7d x:=List.mem_append_right _ hu
   rw[decide_eq_true hg] at p3
   cases h3:(c.body.any fun a=>decide (a.pred∈x.und)) <;> rw[h3] at p2
   ·have hkc:z4c x.un x.und c=none:=by
     unfold z4c
     rw[if_pos ⟨hu,h3⟩]
    rw[hkc] at hk
    simp only[go_sem,z0,z1,z2,z3,reduceCtorEq,↓reduceIte,x2e,H50,x3g,z1u,eTf,q2,q3,q4,q7,q9,q11,q12,hB,f1,List.length_map,hix,hidx1,hst1,z0a p1,z0a p2,Bool.not_false]
    exact hr _ (hbad hk.symm _ _ _ (by simp[z0b,q4]) (by simp[z0b]) (by simp[z0b]))
   ·have hkc:z4c x.un x.und c=some false:=by
     unfold z4c
     rw[if_neg (fun h=>by rw[h3] at h;cases h.2),if_pos (.inr h3)]
    simp only[go_sem,z0,z1,z2,z3,reduceCtorEq,↓reduceIte,x2e,H50,x3g,z1u,eTf,q2,q3,q4,q7,q9,q11,q12,hB,f1,f2,List.length_map,hix,hidx1,hst1,z0a p1,z0a p3,z0a p2,Bool.not_true]
    exact gone hkc _ _ _ _ q2 q3 q4 q7 q9 q11 rfl
 ·clear h2 h3 h4 h7 h9 h11 h12
  rintro f1 ts h clk P ⟨out,t,o9,o10,o11,hk,q2,q3,q4,q7,q9,q11,q12,rfl,ht⟩ he hr
  dsimp only at q2 q3 q4 q7 q9 q11 q12
  rw[List.take_length,Nat.sub_self]
  rw[List.drop_length,z5p] at hk
  simp only[go_sem,z0,z1,z2,z3,reduceCtorEq,↓reduceIte,x2e,H50,x3g,z1u,q2,q3,q4,q7,q9,q11,q12,hB,f1,List.length_map]
  exact he _ _ (hok out hk.symm _ t _ _ _ _ (by simp[z0b,q4]) (by simp[z0b,q9]) (by simp[z0b,q11]))
def q6d:Sys:=⟨[],[]⟩
open Classical in
noncomputable def z4d (s:Sys) (x:Tf):Sys×Int:=
 if q2b x=false then (q6d,1) else if ¬ q6c s x then (q6d,8) else match z5p x.un x.und s.clauses 0 [] with
  | none=>(q6d,8)
  | some _=>(q1m x s,0)
noncomputable def w5v (s:Sys) (x:Tf):List Int:=if (z4d s x).2=0 then q3a x s.clauses 0 else []
theorem z8l {s:Sys} {x:Tf} (h:q2b x=false):z4d s x=(q6d,1):=by
 unfold z4d
 rw[if_pos h]
theorem z6z {s:Sys} {x:Tf} (h:q2b x=true) (hn:¬ q6c s x):z4d s x=(q6d,8):=by
 unfold z4d
 rw[if_neg (by rw[h];simp),if_pos hn]
theorem z8m {s:Sys} {x:Tf} (h:q2b x=true) (hn:q6c s x) (hk:z5p x.un x.und s.clauses 0 []=none):z4d s x=(q6d,8):=by
 unfold z4d
 rw[if_neg (by rw[h];simp),if_neg (not_not_intro hn),hk]
theorem z6s {s:Sys} {x:Tf} {out:List Nat} (h:q2b x=true) (hn:q6c s x) (hk:z5p x.un x.und s.clauses 0 []=some out):z4d s x=(q1m x s,0):=by
 unfold z4d
 rw[if_neg (by rw[h];simp),if_neg (not_not_intro hn),hk]
theorem q9h {x:Tf} {s:Sys}:(q1m x s).preds.Sublist s.preds∧(q1m x s).clauses.Sublist s.clauses:=⟨List.filter_sublist,List.filter_sublist⟩
theorem k4b {H:List AObj} {p q es:List AV} {u v:Tip} {a b c d:Nat} {k:IntKind} {z:Int} (h:z5g H (.ob a b c d)=some es):conv H (z1o [.agg [.sl p u, .sl q v], .ob a b c d, .int k z])=some (.tup [.agg [.sl p .no, .sl q .no], .sl es .no, .int k z]):=by
 simp only[z5g] at h
 simp only[z1o,conv,z9f,h,Option.map_some]
theorem w5w {s:Sys} {x:Tf} (hs:SysV s) (hx:TfS x):Pure Gam 32 [z1u s,eTf x] (.tup [z1u (z4d s x).1, .sl (q0q (w5v s x)) .no, .int .i64 (z4d s x).2]):=by
 have p28:=k6p hs
 rw[z1u] at p28
 have p81:=w5s hx.ok
 rw[eTf] at p81
 have hpl:=hs.pl
 have hcl:=hs.len
 have hun:=hx.un
 have hund:=hx.und
 refine Pure.of rfl y7g rfl rfl rfl (az:=[z1u s,eTf x]) rfl (by simp[idsL,z2r,z8i hx.ok]) fun D B clk T hB hT=> ?_
 cases hu:q2b x <;> rw[hu] at p81
 ·unfold w5v at hT
  rw[z8l hu] at hT
  simp only[go_sem,z0,z1,z2,z3,reduceCtorEq,↓reduceIte,w8u,hB,z1u,eTf,z0a p28,z0a p81,Bool.not_true,Bool.not_false,z1c,z1b,z0j]
  rw[z0h rfl (by simp[z1o,AV.cv,cvL,AV.ids,idsL])]
  exact hT _
 simp only[go_sem,z0,z1,z2,z3,reduceCtorEq,↓reduceIte,w8u,hB,z1u,eTf,z0a p28,z0a p81,Bool.not_true,z1y]
 rw[append_nil hB rfl z1n (by simp only[z1m,List.length_map];omega)]
 simp only[go_sem,z0,z1,z2,z3,reduceCtorEq,↓reduceIte,hB]
 rw[q5f hB rfl z1n z1n (by simp only[z1m,List.length_map];omega)]
 have hgl:z1m x.un++z1m x.und=z1m (z7d x):=by rw[z7d,z1m,z1m,z1m,List.map_append]
 simp only[go_sem,z0,z1,z2,z3,reduceCtorEq,↓reduceIte,hB,hgl]
 refine⟨by simp[z1r,apart,z0q,z1l,z1v,AOp.isCall,hB,AV.ids,idsL,z2p], ?_⟩
 refine j9h (s:=s) (x:=x) hB (by omega) hx rfl rfl rfl rfl rfl (fun hn ts1 clk1 r2 r3 r4 r7=> ?_) (fun hn ts1 clk1 r4 r5 r6=> ?_)
 ·simp only[go_sem,z0,z1,z2,z3,reduceCtorEq,↓reduceIte,H50,hB,r2,r3,r4,r7]
  refine k3y (s:=s) (x:=x) hB (by omega) hx (by simp[z0b,r2]) (by simp[z0b,r3]) (by simp[z0b,r4]) (by simp[z0b,r7];rfl) (by simp[z0b]) (by simp[z0b]) fun ts2 tp o6 o7 clk2 r2 r3 r4 r7 r9=> ?_
  simp only[go_sem,z0,z1,z2,z3,reduceCtorEq,↓reduceIte,H50,x3g,z1u,hB,r2,r3,r4,r7,r9,List.length_map,q3x (z:= .int .i64 0) (n:=s.clauses.length) (b:=8) rfl (by omega)]
  refine w5u (s:=s) (x:=x) hB (by omega) (fun c hc=>by have:=(hs.clauses c hc).2.1;omega) hx (by simp[z0b,r2]) (by simp[z0b,r3]) (by simp[z0b,r4]) (by simp[z0b,r7];rfl) (by simp[z0b,r9]) (by simp[z0b]) (by simp[z0b]) (fun out hk ts3 t o9 o10 o11 clk3 q4 q9 q11=> ?_) (fun hk ts3 r clk3 q4 q5 q6=> ?_)
  ·unfold w5v at hT
   rw[z6s hu hn hk,if_pos rfl] at hT
   have hsub:=q9h (x:=x) (s:=s)
   have hl1:=hsub.1.length_le
   have hl2:=hsub.2.length_le
   have p83:∀ u v,Pure Gam 65 [.agg [.sl ((z9u x s.preds).map z0p) u, .sl ((z6j x s.clauses).map z0e) v]] (z1u (q1m x s)):=fun u v=>w5t (s:=q1m x s) (u:=u) (v:=v) (by omega) (fun f hf=>by have:=(hs.pr.args f (hsub.1.mem hf)).1;omega) (by omega) fun c hc=>hs.sizes c (hsub.2.mem hc)
   simp only[go_sem,z0,z1,z2,z3,reduceCtorEq,↓reduceIte,H50,x3g,z1u,hB,q4,q9,q11]
   rw[z0a (p83 _ _)]
   simp only[go_sem,z0,z1,z2,z3,reduceCtorEq,↓reduceIte,z1u,hB,q4,q9,q11,z1c,z1b,z0j]
   have hrow:q4k (q3a x s.clauses 0) 0=q0q (q3a x s.clauses 0):=by simp[q4k]
   refine⟨_,k4b (q0j hB rfl (by rw[hrow,z5d,x3h])), ?_,rfl, ?_⟩
   ·rw[hrow]
    simp[AV.ids,idsL,z8y,z0d z2u,z0d z1s]
   ·rw[hrow]
    exact hT _
  ·unfold w5v at hT
   rw[z8m hu hn hk] at hT
   simp only[go_sem,z0,z1,z2,z3,reduceCtorEq,↓reduceIte,H50,hB,q4,q5,q6,z1c,z1b,z0j]
   rw[z0h rfl (by simp[z1o,AV.cv,cvL,AV.ids,idsL])]
   exact hT _
 ·unfold w5v at hT
  rw[z6z hu hn] at hT
  simp only[go_sem,z0,z1,z2,z3,reduceCtorEq,↓reduceIte,H50,hB,r4,r5,r6,z1c,z1b,z0j]
  rw[z0h rfl (by simp[z1o,AV.cv,cvL,AV.ids,idsL])]
  exact hT _
theorem v4s {s:Sys} {x:Tf} (hs:SysV s) (hx:TfOk x):Pure Gam 52 [z1u s,eTf x, .int .i64 2,eTf {x with un:=[],und:=[]}] (.bool (q2b x)):=by
 have hp:=k6m hs
 rw[z1u] at hp
 have hr:TfOk {x with un:=[],und:=[]}:=⟨by simp,by simp,hx.drops⟩
 refine Pure.of rfl w6j rfl rfl rfl (az:=[z1u s,eTf x, .int .i64 2,eTf {x with un:=[],und:=[]}]) rfl (by simp[idsL,z2r,z8i hx,z8i hr,AV.ids]) fun D B clk T hB hT=> ?_
 have hs0:z1m []=[]:=rfl
 unfold q2b at hT
 cases b1:decide (x.kind=2) <;> rw[b1] at hT
 ·simp only[go_sem,z0,z1,z2,z3,reduceCtorEq,↓reduceIte,k6i,hB,z1u,eTf,b1]
  rw[z0f]
  exact hT _
 cases b2:decide (x.pred=[]) <;> rw[b2] at hT
 ·simp only[go_sem,z0,z1,z2,z3,reduceCtorEq,↓reduceIte,k6i,hB,z1u,eTf,b1,b2,z0a hp]
  rw[z0f]
  exact hT _
 cases b3:decide (x.into=[]) <;> rw[b3] at hT
 ·simp only[go_sem,z0,z1,z2,z3,reduceCtorEq,↓reduceIte,k6i,hB,z1u,eTf,b1,b2,b3,z0a hp]
  rw[z0f]
  exact hT _
 cases b4:decide (x.clause=0) <;> rw[b4] at hT
 ·simp only[go_sem,z0,z1,z2,z3,reduceCtorEq,↓reduceIte,k6i,hB,z1u,eTf,b1,b2,b3,b4,z0a hp]
  rw[z0f]
  exact hT _
 cases b5:decide (x.atom=0) <;> rw[b5] at hT
 ·simp only[go_sem,z0,z1,z2,z3,reduceCtorEq,↓reduceIte,k6i,hB,z1u,eTf,b1,b2,b3,b4,b5,z0a hp]
  rw[z0f]
  exact hT _
 simp only[go_sem,z0,z1,z2,z3,reduceCtorEq,↓reduceIte,k6i,hB,z1u,eTf,hs0,b1,b2,b3,b4,b5,z0a hp,decide_true,Int.cast_ofNat_Int,x5y]
 rw[z0f]
 simpa using hT _
theorem v4t {s:Sys} {x:Tf} {u:Tip} (hpl:s.preds.length≤1000) (hx:TfS x) (hn:¬ q6c s x):Pure Gam 53 [z1u s, .sl [.sl (z1m x.un) .no, .sl (z1m x.und) .no] u] (.tup [.nilmap, .bool false]):=by
 have hgl:=hx.len
 unfold z7d at hgl
 have hp:=j8u (ls:=[x.un,x.und]) (u:= .no) (by simp) (by simp only[List.flatten_cons,List.flatten_nil,List.append_nil];omega)
 have hfl:[x.un,x.und].flatten=x.un++x.und:=by simp
 rw[hfl] at hp
 refine Pure.of rfl y5c rfl rfl rfl (az:=[z1u s, .sl [.sl (z1m x.un) .no, .sl (z1m x.und) .no] .no]) rfl (by simp[idsL,z2r,AV.ids,z2p]) fun D B clk T hB hT=> ?_
 have hsl:(z1m (x.un++x.und)).length=(x.un++x.und).length:=List.length_map _
 simp only[List.map_cons,List.map_nil,q4g] at hp
 simp only[go_sem,z0,y2e,hB,z1u,z0a hp,hsl]
 refine j8v (fl:=x.un++x.und) hB hpl (by omega) (by simp[z0b]) (by simp[z0b]) (by simp[z0b]) (by simp[z0b]) (by simp[z0b]) (fun h1 h2 ts' clk' r6=>absurd ⟨h1,h2⟩ hn) (fun _ ts' L clk' r4 r5=> ?_)
 simp only[go_sem,z0,r4,r5]
 rw[z0h rfl (by simp[z1o,AV.cv,cvL,AV.ids,idsL])]
 exact hT _
noncomputable def v4u (s:Sys) (x:Tf):List Nat:=if (z4d s x).2=0 then (z5p x.un x.und s.clauses 0 []).getD [] else []
theorem v4v {s:Sys} {x:Tf} (hs:SysV s) (hx:TfS x):Pure Gam 28 [z1u s,eTf x] (.tup [.sl ((v4u s x).map nat) .no, .int .i64 (z4d s x).2]):=by
 have hp:=v4s hs hx.ok
 have hpl:s.preds.length≤5:=hs.preds.length_le
 have hbl:∀ c∈s.clauses,c.body.length≤2 ^ 18:=fun c hc=>by have:=(hs.clauses c hc).2.1;omega
 have hcl:s.clauses.length≤2 ^ 18:=by have:=hs.len;omega
 have hgl:=hx.len
 unfold z7d at hgl
 rw[z1u,eTf,eTf] at hp
 refine Pure.of rfl y5a rfl rfl rfl (az:=[z1u s,eTf x]) rfl (by simp[idsL,z2r,z8i hx.ok]) fun D B clk T hB hT=> ?_
 have hs0:z1m []=[]:=rfl
 simp only[hs0] at hp
 have hp:=Pure.cv (args:=[.agg [.sl (s.preds.map z0p) .no, .sl (s.clauses.map z0e) .no], .agg [.int .i64 x.kind, .str x.pred, .str x.into, .int .i64 x.clause, .int .i64 x.atom, .sl (z1m x.un) .no, .sl (z1m x.und) .no, .sl x.drops .no], .int .i64 2, .agg [.int .i64 x.kind, .str x.pred, .str x.into, .int .i64 x.clause, .int .i64 x.atom, .sl [] .nil, .sl [] .nil, .sl x.drops .no]]) hp rfl w6j rfl rfl rfl rfl
 unfold v4u at hT
 cases hu:q2b x <;> rw[hu] at hp
 ·rw[z8l hu] at hT
  simp only[go_sem,z0,z1,z2,z3,reduceCtorEq,↓reduceIte,w4c,hB,z1u,eTf,z7x,z0a hp,Bool.not_false]
  rw[z0h rfl (by simp[z1o,AV.cv,cvL,AV.ids,idsL])]
  exact hT _
 by_cases hn:q6c s x
 ·have h89:=fun u h clk Q=>y5o (s:=s) (un:=x.un) (und:=x.und) (u:=u) (h:=h) (clk:=clk) (Q:=Q) (by omega) (by omega) hn.1 hn.2
  rw[z1u] at h89
  simp only[go_sem,z0,z1,z2,z3,reduceCtorEq,↓reduceIte,w4c,hB,z1u,eTf,z7x,z0a hp,Bool.not_true]
  refine z6i (h89 _ _ _ _ fun gR s0 c2=> ?_)
  have hlen7:∀ a0 a1 a2 a3 a4 a5 a6:AObj,(D++[a0,a1,a2,a3,a4,a5,a6]).length=B + 7:=fun _ _ _ _ _ _ _=>by simp[hB]
  simp only[go_sem,z0,z1,z2,z3,reduceCtorEq,↓reduceIte,hB,hlen7,List.append_assoc,Bool.not_true,List.length_map]
  refine j0o (x:=x) (cs:=s.clauses) (gx:=clk + 1) hB hcl hbl hx.ok (by simp[z0b]) (by simp[z0b]) (by simp[z0b]) (by simp[z0b]) (by simp[z0b]) (by simp[z0b]) (by simp[z0b]) (fun out ho ts' t L clk' r11=> ?_) (fun hbad ts' L clk' r4 r5=> ?_)
  ·rw[z6s hu hn ho,if_pos rfl,ho] at hT
   simp only[go_sem,z0,z1,z2,z3,reduceCtorEq,↓reduceIte,r11]
   rw[z0h rfl (by simp[z1o,AV.cv,cvL,AV.ids,idsL,q4c])]
   exact hT _
  ·rw[z8m hu hn hbad] at hT
   simp only[go_sem,z0,z1,z2,z3,reduceCtorEq,↓reduceIte,r4,r5]
   rw[z0h rfl (by simp[z1o,AV.cv,cvL,AV.ids,idsL])]
   exact hT _
 ·have p89:=fun u=>v4t (s:=s) (x:=x) (u:=u) (by omega) hx hn
  rw[z1u] at p89
  rw[z6z hu hn] at hT
  simp only[go_sem,z0,z1,z2,z3,reduceCtorEq,↓reduceIte,w4c,hB,z1u,eTf,z7x,z0a hp,Bool.not_true]
  rw[z0a (p89 _)]
  simp only[go_sem,z0,z1,z2,z3,reduceCtorEq,↓reduceIte,hB,Bool.not_false]
  rw[z0h rfl (by simp[z1o,AV.cv,cvL,AV.ids,idsL])]
  exact hT _
theorem j9k {s:Sys} {x:Tf} (hs:SysV s) (hx:TfS x):Pure Gam 12 [z1u s,eTf x] (.tup [z1u (z4d s x).1, .int .i64 (z4d s x).2]):=by
 have hp:=v4v hs hx
 by_cases h0:(z4d s x).2=0
 ·have hu:q2b x=true:=by
   cases hu:q2b x with
   | true=>rfl
   | false=>rw[z8l hu] at h0;cases h0
  have hn:q6c s x:=Classical.byContradiction fun hn=>by rw[z6z hu hn] at h0;cases h0
  cases hk:z5p x.un x.und s.clauses 0 [] with
  | none=>rw[z8m hu hn hk] at h0;cases h0
  | some out=>
    rw[z6s hu hn hk]
    unfold q2b at hu
    simp only[Bool.and_eq_true,decide_eq_true_eq] at hu
    obtain⟨⟨⟨⟨⟨h1,h2⟩,h3⟩,h4⟩,h5⟩,h6⟩:=hu
    have:=hx.len
    unfold z7d at this
    exact w5l hs hx.ok h1 h2 h3 h4 h5 h6 hn.1 hn.2 (by omega) hk
 ·have he:(z4d s x).1=q6d:=by
   cases hu:q2b x with
   | false=>rw[z8l hu]
   | true=>
     by_cases hn:q6c s x
     ·cases hk:z5p x.un x.und s.clauses 0 [] with
      | none=>rw[z8m hu hn hk]
      | some out=>rw[z6s hu hn hk] at h0;exact absurd rfl h0
     ·rw[z6z hu hn]
  rw[he]
  unfold v4u at hp
  rw[if_neg h0] at hp
  generalize (z4d s x).2=e at *
  rw[z1u,eTf] at hp
  refine Pure.of rfl y4z rfl rfl rfl (az:=[z1u s,eTf x]) rfl (by simp[idsL,z2r,z8i hx.ok]) fun D B clk T hB hT=> ?_
  simp only[go_sem,z0,z1,z2,z3,reduceCtorEq,↓reduceIte,y2b,hB,z1u,eTf,z0a hp,decide_eq_false h0,Bool.not_false,z1c,z1b,z0j]
  rw[z0h rfl (by simp[z1o,AV.cv,cvL,AV.ids,idsL])]
  exact hT _
end Go.Proofs.YtmkblnlafljljaaGreatDoor.Am
