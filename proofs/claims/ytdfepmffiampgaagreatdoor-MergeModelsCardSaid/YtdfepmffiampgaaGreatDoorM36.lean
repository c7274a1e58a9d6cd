/- Walking: the reference's slicing Walking: the reference's slicing Walking: the reference's slicing Walking: the reference merges Walking: the reference merges Walking: ApplyMerge; what merging checks  -/
import Derived.Test.YtdfepmffiampgaaGreatDoorM35
set_option linter.all false
namespace Go.Proofs.YtdfepmffiampgaaGreatDoor.Am
open Go
set_option maxRecDepth 100000
theorem q3g {ps:List Func} {nm:List Nat}:decide (z3t ps nm < 0)= !decide (nm∈ps.map (·.name)):=by
 by_cases h:nm∈ps.map (·.name)
 ·rw[decide_eq_true h]
  unfold z3t
  cases hf:ps.findIdx? (fun p=>decide (p.name=nm)) with
  | none=>
    rw[List.findIdx?_eq_none_iff] at hf
    obtain⟨f,hf1,hf2⟩:=List.mem_map.1 h
    have:=hf f hf1
    simp[hf2] at this
  | some i=>simp
 ·rw[decide_eq_false h,z9e fun p hp e=>h (List.mem_map.2 ⟨p,hp,e⟩)]
  rfl
theorem j8u {D L:List AObj} {B j k esz b gen g:Nat} {xs ys:List AV} {u:Tip} (hB:D.length=B) (ho:L[j]? =some (.tip g esz)) (hx:z0o esz xs=true) (hy:z0o esz ys=true) (hl:(xs.length + ys.length) * (b + 1)≤2 ^ 46):
  z0n (D++L) (B + k) gen esz b false (.sl xs (.at (B + j) g)) (.sl ys u)=some (.sl (xs++ys) (.at (B + k) gen),D++(L.set j .dead).set k (.tip gen esz)):=by
 have hgt:¬ (xs.length + ys.length) * (b + 1) > z1c:=by unfold z1c;omega
 unfold z0n
 simp only[z4e,hy,Bool.not_true,Bool.false_eq_true,if_false,hx,Bool.or_false,decide_eq_true_eq,hgt,z2v hB,ho,and_self,if_true,z1t hB]
structure TfS (x:Tf):Prop where
 un:x.un.length≤100
 und:x.und.length≤100
 drops:idsL x.drops=[]
theorem TfS.ok {x:Tf} (h:TfS x):TfOk x:=⟨by have:=h.un;omega,by have:=h.und;omega,h.drops⟩
def x2b:Sys:=⟨[],[]⟩
theorem k9x {H:List AObj} {p q es:List AV} {u v:Tip} {a b c d:Nat} {k:IntKind} {z:Int} (h:z4e H (.ob a b c d)=some es):conv H (z1l [.agg [.sl p u, .sl q v], .ob a b c d, .int k z])=some (.tup [.agg [.sl p .no, .sl q .no], .sl es .no, .int k z]):=by
 simp only[z4e] at h
 simp only[z1l,conv,z7h,h,Option.map_some]
def q5y (x:Tf):Bool:=decide (x.kind=6) && decide (x.clause=0) && decide (x.atom=0) && decide (x.un=[]) && decide (x.und=[]) && decide (x.drops=[])
theorem j5r {α:Type} [DecidableEq α] {l:List α}:decide ((l.length:Int)=0)=decide (l=[]):=by
 cases l with
 | nil=>rfl
 | cons a l=>simp;omega
theorem w3m {x:Tf} (hx:TfOk x):Pure Gam 52 [eTf x, .int .i64 6] (.bool (q5y x)):=by
 refine Pure.of rfl g2i rfl rfl rfl (az:=[eTf x, .int .i64 6]) rfl (by simp[idsL,AV.ids,q2o hx]) fun D B clk T hB hT=> ?_
 have hls:∀ l:List (List Nat),decide (((z3r l).length:Int)=0)=decide (l=[]):=fun l=>by rw[z3r,List.length_map,j5r]
 unfold q5y at hT
 cases b1:decide (x.kind=6) <;> rw[b1] at hT
 ·simp only[go_sem,v9o,hB,eTf,b1,Bool.not_false]
  rw[z0d]
  exact hT _
 cases b2:decide (x.clause=0) <;> rw[b2] at hT
 ·simp only[go_sem,v9o,hB,eTf,b1,b2,Bool.not_true,Int.reduceEq,decide_true,decide_false]
  rw[z0d]
  exact hT _
 cases b3:decide (x.atom=0) <;> rw[b3] at hT
 ·simp only[go_sem,v9o,hB,eTf,b1,b2,b3,Bool.not_true,Int.reduceEq,decide_true,decide_false]
  rw[z0d]
  exact hT _
 cases b4:decide (x.un=[]) <;> rw[b4] at hT
 ·simp only[go_sem,v9o,hB,eTf,b1,b2,b3,hls,b4,Bool.not_true,Int.reduceEq,decide_true,decide_false]
  rw[z0d]
  exact hT _
 cases b5:decide (x.und=[]) <;> rw[b5] at hT
 ·simp only[go_sem,v9o,hB,eTf,b1,b2,b3,hls,b4,b5,Bool.not_true,Int.reduceEq,decide_true,decide_false]
  rw[z0d]
  exact hT _
 simp only[go_sem,v9o,hB,eTf,b1,b2,b3,hls,b4,b5,Bool.not_true,Int.reduceEq,decide_true,decide_false,x9r]
 rw[z0d]
 simpa using hT _
def MOk (s:Sys) (x:Tf):Prop:=∃ f g,f∈s.preds∧g∈s.preds∧f.name=x.pred∧g.name=x.into∧z9f s f g=true
def z5e (x:Tf) (ps:List Func):List Func:=ps.filter fun f=> !decide (f.name=x.pred)
def q4m (x:Tf) (cs:List Clause):List Clause:=(cs.filter fun c=> !decide (c.head.pred=x.pred)).map (q0q x.pred x.into)
def merged (s:Sys) (x:Tf):Sys:=⟨z5e x s.preds,q4m x s.clauses⟩
open Classical in
noncomputable def z2c (s:Sys) (x:Tf):Sys×Int:=if q5y x=false then (x2b,1) else if ¬ MOk s x then (x2b,8) else (merged s x,0)
theorem z9g {s:Sys} {x:Tf} (h:q5y x=false):z2c s x=(x2b,1):=by
 unfold z2c
 rw[if_pos h]
theorem z7f {s:Sys} {x:Tf} (h:q5y x=true) (hn:¬ MOk s x):z2c s x=(x2b,8):=by
 unfold z2c
 rw[if_neg (by rw[h];simp),if_pos hn]
theorem q2r {s:Sys} {x:Tf} (h:q5y x=true) (hn:MOk s x):z2c s x=(merged s x,0):=by
 unfold z2c
 rw[if_neg (by rw[h];simp),if_neg (not_not_intro hn)]
theorem z7u {ps:List Func} {nm:List Nat} (h:nm∈ps.map (·.name)):∃ (i:Nat) (hi:i < ps.length),ps[i].name=nm∧z3t ps nm=(i:Int):=by
 unfold z3t
 cases e:ps.findIdx? (fun p=>decide (p.name=nm)) with
 | some i=>
   rw[List.findIdx?_eq_some_iff_getElem] at e
   obtain⟨hi,h1,_⟩:=e
   exact⟨i,hi,of_decide_eq_true h1,rfl⟩
 | none=>
   rw[List.findIdx?_eq_none_iff] at e
   obtain⟨p,hp,rfl⟩:=List.mem_map.1 h
   have:=e p hp
   simp at this
theorem q8l {ps:List Func} (hn:(ps.map (·.name)).Nodup) {f:Func} {i:Nat} (hi:i < ps.length) (hf:f∈ps) (h:ps[i].name=f.name):f=ps[i]:=by
 obtain⟨k,hk,rfl⟩:=List.getElem_of_mem hf
 by_cases e:i=k
 ·subst e;rfl
 ·exact absurd h (x6d hn hi hk e)
def H41 (g0 gx g2 g9:Nat) (s:Sys) (x:Tf) (pv cv:AV) (r:List AObj):List AObj:= .blk g0 [z1b s] false false 0:: .blk gx [eTf x] false false 0:: .blk g2 [.agg [.sl [] .nil, .sl [] .nil]] false false 0:: .blk g9 [.agg [pv,cv]] false false 0::r
theorem x3z {x:Tf} {ps:List Func} {i:Nat} (hi:i < ps.length):z5e x (ps.take (i + 1))=z5e x (ps.take i)++if ps[i].name=x.pred then [] else [ps[i]]:=by
 unfold z5e
 rw[List.take_succ_eq_append_getElem hi,List.filter_append]
 by_cases h:ps[i].name=x.pred <;> simp[h]
theorem x4a {x:Tf} {cs:List Clause} {i:Nat} (hi:i < cs.length):q4m x (cs.take (i + 1))=q4m x (cs.take i)++if cs[i].head.pred=x.pred then [] else [q0q x.pred x.into cs[i]]:=by
 unfold q4m
 rw[List.take_succ_eq_append_getElem hi,List.filter_append,List.map_append]
 by_cases h:cs[i].head.pred=x.pred <;> simp[h]
theorem q2s {x:Tf} {ps:List Func}:(z5e x ps).length≤ps.length:=List.length_filter_le _ _
theorem x1a {x:Tf} {cs:List Clause}:(q4m x cs).length≤cs.length:=by
 unfold q4m
 rw[List.length_map]
 exact List.length_filter_le _ _
theorem j2r {s:Sys} {x:Tf} {p0 B clk g0 gx g2 g9:Nat} {D:List AObj} {o4 o5 o6 o7 o8:AObj} {v8:AV} {ts:Tmps} {ks:List Kf} {Q:Post} (hB:D.length=B) (hpl:s.preds.length≤1000) (hn:(s.preds.map (·.name)).Nodup) (hp:p0 < s.preds.length) (hx:s.preds[p0].name=x.pred) (h2:ts 2= .ptr (B + 0) g0 0 0) (h3:ts 3= .ptr (B + 1) gx 0 0) (h4:ts 4= .ptr (B + 2) g2 0 0) (h7:ts 7= .int .i64 (p0:Int)) (h8:ts 8=v8) (h9:ts 9= .ptr (B + 3) g9 0 0) (h10:ts 10= .int .i64 0)
  (hok:∀ (ts':Tmps) (t:Tip) (o4 o5:AObj) (clk':Nat),ts' 2= .ptr (B + 0) g0 0 0→ts' 3= .ptr (B + 1) gx 0 0→ts' 4= .ptr (B + 2) g2 0 0→ts' 9= .ptr (B + 3) g9 0 0→K Gam B (.exit 0) ks ⟨ts',D++H41 g0 gx g2 g9 s x (.sl ((z5e x s.preds).map z1e) t) (.sl [] .nil) [o4,o5,o6,o7,o8],clk'⟩ Q):
  K Gam B (.loop j8a) ks ⟨ts,D++H41 g0 gx g2 g9 s x (.sl [] .nil) (.sl [] .nil) [o4,o5,o6,o7,o8],clk⟩ Q:=by
 refine z2y s.preds.length (by omega) (fun i q=>∃ (t:Tip) (o4 o5:AObj),q.ts 2= .ptr (B + 0) g0 0 0∧q.ts 3= .ptr (B + 1) gx 0 0∧q.ts 4= .ptr (B + 2) g2 0 0∧q.ts 7= .int .i64 (p0:Int)∧q.ts 9= .ptr (B + 3) g9 0 0∧q.ts 10= .int .i64 (i:Int)∧q.h=D++H41 g0 gx g2 g9 s x (.sl ((z5e x (s.preds.take i)).map z1e) t) (.sl [] .nil) [o4,o5,o6,o7,o8]∧z7x B 5 o5 t 3) ⟨.nil,_,_,h2,h3,h4,h7,h9,h10,rfl, .inl rfl⟩ ?_ ?_
 ·clear h2 h3 h4 h7 h9 h10
  rintro i hlt f1 f2 ts h clk P ⟨t,o4,o5,q2,q3,q4,q7,q9,q10,rfl,ht⟩ hnx he hr
  dsimp only at q2 q3 q4 q7 q9 q10
  have hix:=fun h=>z4u (l:=s.preds) (i:=i) (h:=h) (t:= .no) (k:= .i64) hlt
  have hkp:=x3z (x:=x) hlt
  have hkl:(z5e x (s.preds.take i)).length≤1000:=Nat.le_trans q2s (by rw[List.length_take];omega)
  by_cases hip:i=p0
  ·subst hip
   rw[if_pos hx,List.append_nil] at hkp
   simp only[go_sem,j8a,H41,z1b,q2,q3,q4,q7,q9,q10,hB,f1,f2,List.length_map,decide_true,Bool.not_true]
   exact hnx _ ⟨t,_,_,q2,q3,q4,q7,q9,rfl,by rw[hkp];rfl,ht⟩
  ·have hd:decide ((i:Int)=(p0:Int))=false:=by rw[decide_eq_false_iff_not];omega
   have hnn:s.preds[i].name≠x.pred:=by rw[←hx];exact x6d hn hlt hp hip
   rw[if_neg hnn] at hkp
   generalize s.preds[i]=f at *
   have e8:(z5e x (s.preds.take i)).map z1e++[f].map z1e=(z5e x (s.preds.take (i + 1))).map z1e:=by rw[hkp,List.map_append]
   simp only[go_sem,j8a,H41,z1b,q2,q3,q4,q7,q9,q10,hB,f1,z0y,List.length_map,hd,Bool.not_false,hix]
   rw[show [AV.agg [.str f.name, .sl (f.args.map nat) .no, .int .i64 (f.result:Int)]]=[f].map z1e from rfl,z0k hB rfl ht z4q z4q (by simp only[List.length_map,List.length_singleton];omega),e8]
   simp only[go_sem,q2,q3,q4,q7,q9,q10,hB,f2]
   refine⟨by simp[z0v,apart,z0h,z0s,z0w,AOp.isCall,hB,AV.ids,idsL,z0b z2a,z0b z1j], ?_⟩
   exact hnx _ ⟨_,_,_,q2,q3,q4,q7,q9,rfl,rfl, .inr (.inr ⟨_,rfl,rfl⟩)⟩
 ·clear h2 h3 h4 h7 h9 h10
  rintro f1 ts h clk P ⟨t,o4,o5,q2,q3,q4,q7,q9,q10,rfl,ht⟩ he hr
  dsimp only at q2 q3 q4 q7 q9 q10
  rw[List.take_length]
  simp only[go_sem,j8a,H41,z1b,q2,q3,q4,q7,q9,q10,hB,f1,List.length_map]
  exact he _ _ (hok _ t _ _ _ (by simp[z0c,q2]) (by simp[z0c,q3]) (by simp[z0c,q4]) (by simp[z0c,q9]))
section
theorem CmpC.small {c:Clause} (h:CmpC c):SmallC c:=⟨by have:=h.body;omega,fun a ha=>⟨by have:=(h.atoms a ha).1;omega,fun t ht=>by have:=(h.atoms a ha).2 t ht;omega⟩,⟨by have:=h.head.1;omega,fun t ht=>by have:=h.head.2 t ht;omega⟩,by have:=h.vars;omega,by have:=h.guard;omega⟩
section
variable {D L:List AObj} {B k g i n:Nat} {es:List Int}
theorem k9y (hB:D.length=B) (hL:L[k]? =some (.blk g (z6z es) true false 0)) (hi:i < es.length):z8j (D++L) none (.ptr (B + k) g i 0)=some (.int .i64 es[i],D++L):=by
 rw[q9x,z2i hB,z2g hL]
 simp[q8g hi,x3f,q5j]
theorem j2s (hB:D.length=B) (hL:L[k]? =some (.blk g (z6z es) true false 0)) (hn:es.length=n) (hi:i < n):z1n (D++L) 1 (.ob (B + k) g 0 n) (.int .i64 (i:Int))=some (.ptr (B + k) g i 0,D++L):=
 q4f hB hL (q8g (by omega)) rfl hi
theorem x9v {z:Int} (hB:D.length=B) (hL:L[k]? =some (.blk g (z6z es) true false 0)) (hi:i < es.length):z4y (D++L) 1 (.int .i64 z) (.ptr (B + k) g i 0)=some (.undef,D++L.set k (.blk g (z6z (es.set i z)) true false 0)):=by
 rw[q0i hB hL (q8g hi),show (z6z es).set i (.int .i64 z)=z6z (es.set i z) by simp[z6z,List.map_set]]
end
theorem x6e {s:Sys} {x:Tf} {B clk g0 gx g2 g9 g6:Nat} {D:List AObj} {o4 o5 o7 o8:AObj} {pv:AV} {ts:Tmps} {ks:List Kf} {Q:Post} (hB:D.length=B) (hcl:s.clauses.length≤1000) (hcs:∀ c∈s.clauses,CmpC c) (h2:ts 2= .ptr (B + 0) g0 0 0) (h3:ts 3= .ptr (B + 1) gx 0 0) (h4:ts 4= .ptr (B + 2) g2 0 0) (h9:ts 9= .ptr (B + 3) g9 0 0) (h11:ts 11= .ob (B + 6) g6 0 s.clauses.length) (h12:ts 12= .int .i64 0)
  (hok:∀ (es:List Int) (ts':Tmps) (t:Tip) (o7 o8:AObj) (clk':Nat),es.length=s.clauses.length→ts' 2= .ptr (B + 0) g0 0 0→ts' 3= .ptr (B + 1) gx 0 0→ts' 4= .ptr (B + 2) g2 0 0→ts' 9= .ptr (B + 3) g9 0 0→ts' 11= .ob (B + 6) g6 0 s.clauses.length→K Gam B (.exit 2) ks ⟨ts',D++H41 g0 gx g2 g9 s x pv (.sl ((q4m x s.clauses).map z0e) t) [o4,o5, .blk g6 (z6z es) true false 0,o7,o8],clk'⟩ Q):
  K Gam B (.loop j1l) ks ⟨ts,D++H41 g0 gx g2 g9 s x pv (.sl [] .nil) [o4,o5, .blk g6 (List.replicate s.clauses.length (.int .i64 0)) true false 0,o7,o8],clk⟩ Q:=by
 refine z2y s.clauses.length (by omega) (fun i q=>∃ (es:List Int) (t:Tip) (o7 o8:AObj),es.length=s.clauses.length∧q.ts 2= .ptr (B + 0) g0 0 0∧q.ts 3= .ptr (B + 1) gx 0 0∧q.ts 4= .ptr (B + 2) g2 0 0∧q.ts 9= .ptr (B + 3) g9 0 0∧q.ts 11= .ob (B + 6) g6 0 s.clauses.length∧q.ts 12= .int .i64 (i:Int)∧q.h=D++H41 g0 gx g2 g9 s x pv (.sl ((q4m x (s.clauses.take i)).map z0e) t) [o4,o5, .blk g6 (z6z es) true false 0,o7,o8]∧z7x B 8 o8 t 5) ⟨List.replicate s.clauses.length 0, .nil,o7,o8,by simp,h2,h3,h4,h9,h11,h12,by simp[z6z,q4m], .inl rfl⟩ ?_ ?_
 ·clear h2 h3 h4 h9 h11 h12
  rintro i hlt f1 f2 ts h clk P ⟨es,t,o7,o8,hes,q2,q3,q4,q9,q11,q12,rfl,ht⟩ hnx he hr
  dsimp only at q2 q3 q4 q9 q11 q12
  have hix:=fun h=>z5j (l:=s.clauses) (i:=i) (h:=h) (t:= .no) (k:= .i64) hlt
  have hkp:=x4a (x:=x) hlt
  have hkl:(q4m x (s.clauses.take i)).length≤1000:=Nat.le_trans x1a (by rw[List.length_take];omega)
  have hC:=hcs _ (List.getElem_mem hlt)
  generalize s.clauses[i]=c at *
  by_cases hip:c.head.pred=x.pred
  ·rw[if_pos hip,List.append_nil] at hkp
   simp only[go_sem,j1l,H41,z1b,eTf,q2,q3,q4,q9,q11,q12,hB,f1,f2,List.length_map,hix,decide_eq_true hip,Bool.not_true]
   exact hnx _ ⟨es,t,_,_,hes,q2,q3,q4,q9,q11,rfl,by rw[hkp];rfl,ht⟩
  ·rw[if_neg hip] at hkp
   have p1:=k4k (p:=x.pred) (q:=x.into) hC.body
   generalize q0q x.pred x.into c=c' at *
   have e8:(q4m x (s.clauses.take i)).map z0e++[c'].map z0e=(q4m x (s.clauses.take (i + 1))).map z0e:=by rw[hkp,List.map_append]
   have i1:∀ L:List AObj,L[6]? =some (.blk g6 (z6z es) true false 0)→z1n (D++L) 1 (.ob (B + 6) g6 0 s.clauses.length) (.int .i64 (i:Int))=some (.ptr (B + 6) g6 i 0,D++L):=fun L h=>j2s hB h hes hlt
   have i2:∀ (L:List AObj) (z:Int),L[6]? =some (.blk g6 (z6z es) true false 0)→z4y (D++L) 1 (.int .i64 z) (.ptr (B + 6) g6 i 0)=some (.undef,D++L.set 6 (.blk g6 (z6z (es.set i z)) true false 0)):=fun L z h=>x9v hB h (by omega)
   simp only[z0e,z0i] at p1
   simp only[go_sem,j1l,H41,z1b,eTf,q2,q3,q4,q9,q11,q12,hB,f1,z0y,List.length_map,hix,decide_eq_false hip,Bool.not_false,i1,i2,z0a p1]
   rw[show [AV.agg [.sl (c'.vars.map z1h) .no, .sl (c'.body.map z1p) .no, .sl (c'.guard.map eNode) .no, .str c'.head.pred, .sl (c'.head.args.map z0i) .no]]=[c'].map z0e from rfl,z0k hB rfl ht z2o z2o (by simp only[List.length_map,List.length_singleton];omega),e8]
   simp only[go_sem,q2,q3,q4,q9,q11,q12,hB,f2]
   refine⟨by simp[z0v,apart,z0h,z0s,z0w,AOp.isCall,hB,AV.ids,idsL,z0b z2a,z0b z1j,z0b z1k,z0b z4f,z0b z0x,z0b z1f], ?_⟩
   exact hnx _ ⟨_,_,_,_,by rw[List.length_set,hes],q2,q3,q4,q9,q11,rfl,rfl, .inr (.inr ⟨_,rfl,rfl⟩)⟩
 ·clear h2 h3 h4 h9 h11 h12
  rintro f1 ts h clk P ⟨es,t,o7,o8,hes,q2,q3,q4,q9,q11,q12,rfl,ht⟩ he hr
  dsimp only at q2 q3 q4 q9 q11 q12
  rw[List.take_length]
  simp only[go_sem,j1l,H41,z1b,q2,q3,q4,q9,q11,q12,hB,f1,List.length_map]
  exact he _ _ (hok es _ t _ _ _ hes (by simp[z0c,q2]) (by simp[z0c,q3]) (by simp[z0c,q4]) (by simp[z0c,q9]) (by simp[z0c,q11]))
theorem j2t {a b:List Nat} {n B clk g6:Nat} {D L:List AObj} {es:List Int} {v4 v9:AV} {ts:Tmps} {ks:List Kf} {Q:Post} (hB:D.length=B) (hL:L[6]? =some (.blk g6 (z6z es) true false 0)) (hes:es.length=n) (hn:n≤1000) (hal:a.length≤1000) (hab:a.length=b.length) (ha:∀ j∈a,j < n) (hb:∀ j∈b,j < n) (h4:ts 4=v4) (h9:ts 9=v9) (h11:ts 11= .ob (B + 6) g6 0 n) (h13:ts 13= .sl (a.map nat) .no) (h14:ts 14= .sl (b.map nat) .no) (h15:ts 15= .int .i64 0)
  (hok:∀ (es:List Int) (ts':Tmps) (clk':Nat),es.length=n→ts' 4=v4→ts' 9=v9→ts' 11= .ob (B + 6) g6 0 n→K Gam B (.exit 4) ks ⟨ts',D++L.set 6 (.blk g6 (z6z es) true false 0),clk'⟩ Q):
  K Gam B (.loop j1k) ks ⟨ts,D++L,clk⟩ Q:=by
 have h6:6 < L.length:=by
  rw[List.getElem?_eq_some_iff] at hL
  exact hL.1
 have hLe:L=L.set 6 (.blk g6 (z6z es) true false 0):=by
  refine List.ext_getElem? fun j=> ?_
  by_cases h:j=6
  ·subst h;rw[hL,List.getElem?_set_self h6]
  ·rw[List.getElem?_set_ne (fun e=>h e.symm)]
 refine z2y a.length (by omega) (fun i q=>∃ es:List Int,es.length=n∧q.ts 4=v4∧q.ts 9=v9∧q.ts 11= .ob (B + 6) g6 0 n∧q.ts 13= .sl (a.map nat) .no∧q.ts 14= .sl (b.map nat) .no∧q.ts 15= .int .i64 (i:Int)∧q.h=D++L.set 6 (.blk g6 (z6z es) true false 0)) ⟨es,hes,h4,h9,h11,h13,h14,h15,by rw[←hLe]⟩ ?_ ?_
 ·clear h4 h9 h11 h13 h14 h15 hLe hL hes
  rintro i hlt f1 f2 ts h clk P ⟨es,hes,q4,q9,q11,q13,q14,q15,rfl⟩ hnx he hr
  dsimp only at q4 q9 q11 q13 q14 q15
  have hlt2:i < b.length:=by omega
  have hx:=fun h=>z7y (l:=a) (i:=i) (h:=h) (t:= .no) (k:= .i64) hlt
  have hy:=fun h=>z7y (l:=b) (i:=i) (h:=h) (t:= .no) (k:= .i64) hlt2
  have hu:=ha _ (List.getElem_mem hlt)
  have hv:=hb _ (List.getElem_mem hlt2)
  simp only[nat] at hx hy
  generalize a[i]=u at *
  generalize b[i]=v at *
  have hLs:(L.set 6 (.blk g6 (z6z es) true false 0))[6]? =some (.blk g6 (z6z es) true false 0):=List.getElem?_set_self h6
  have e1:=j2s (D:=D) (L:=L.set 6 (.blk g6 (z6z es) true false 0)) hB hLs hes hv
  have e2:=k9y (D:=D) (L:=L.set 6 (.blk g6 (z6z es) true false 0)) hB hLs (i:=v) (by omega)
  have e3:=j2s (D:=D) (L:=L.set 6 (.blk g6 (z6z es) true false 0)) hB hLs hes hu
  have e4:=x9v (D:=D) (L:=L.set 6 (.blk g6 (z6z es) true false 0)) (z:=es[v]) hB hLs (i:=u) (by omega)
  rw[List.set_set] at e4
  have hlen:(es.set u es[v]).length=n:=by rw[List.length_set,hes]
  generalize es.set u es[v]=es' at *
  generalize es[v]=z at *
  generalize hLL:L.set 6 (.blk g6 (z6z es) true false 0)=LL at *
  generalize hMM:L.set 6 (.blk g6 (z6z es') true false 0)=MM at *
  simp only[go_sem,j1k,q4,q9,q11,q13,q14,q15,f1,f2,List.length_map,hx,hy,e1,e2,e3,e4]
  exact hnx _ ⟨es',hlen,q4,q9,q11,q13,q14,rfl,by rw[hMM]⟩
 ·clear h4 h9 h11 h13 h14 h15 hLe hL hes
  rintro f1 ts h clk P ⟨es,hes,q4,q9,q11,q13,q14,q15,rfl⟩ he hr
  dsimp only at q4 q9 q11 q13 q14 q15
  simp only[go_sem,j1k,q13,q15,f1,List.length_map]
  exact he _ _ (hok es _ _ hes (by simp[z0c,q4]) (by simp[z0c,q9]) (by simp[z0c,q11]))
theorem g3o {s:Sys} {x:Tf} {h:List AObj} {clk:Nat} {Q:AV→List AObj→Nat→Prop} (hs:SysV s) (hcs:∀ c∈s.clauses,CmpC c) (hx:TfS x) (hQ:∀ idx:List Int,Q (.tup [z1b (z2c s x).1, .sl (z6z idx) .no, .int .i64 (z2c s x).2]) h clk):WC Gam 19 [z1b s,eTf x] h clk Q:=by
 have p28:=k4d hs
 have p81:=w3m hx.ok
 have p1:=q5w (s:=s) (nm:=x.pred) (by have:=hs.pl;omega)
 have p2:=q5w (s:=s) (nm:=x.into) (by have:=hs.pl;omega)
 have n1:=q3g (ps:=s.preds) (nm:=x.pred)
 have n2:=q3g (ps:=s.preds) (nm:=x.into)
 have hpl:=hs.pl
 have hcl:=hs.len
 have hnd:=hs.pr.nodup
 have hpa:∀ f∈s.preds,f.args.length≤20000:=fun f hf=>by have:=(hs.pr.args f hf).1;omega
 rw[z1b] at p28 p1 p2
 rw[eTf] at p81
 refine q3z rfl g2d rfl rfl rfl (az:=[z1b s,eTf x]) rfl (by simp[idsL,z2k,q2o hx.ok]) fun D B T hB hT=> ?_
 have fin:∀ e:Int,z2c s x=(x2b,e)→∀ h',RV [] (some [AV.agg [.sl [] .nil, .sl [] .nil], .sl [] .nil, .int .i64 e]) (fun v h'=>T v h') h':=fun e he h'=>by
  have:=hQ []
  rw[he] at this
  rw[z0j rfl (by simp[z1l,AV.cv,cvL,AV.ids,idsL])]
  exact hT _ _ this
 cases hu:q5y x <;> rw[hu] at p81
 ·simp only[go_sem,w4g,hB,z1b,eTf,z0a p28,z0a p81,Bool.not_true,Bool.not_false,z0m,z0l,z0g]
  exact fin _ (z9g hu) _
 by_cases hp:x.pred∈s.preds.map (·.name)
 case neg=>
  rw[decide_eq_false hp] at n1
  simp only[go_sem,w4g,hB,z1b,eTf,z0a p28,z0a p81,Bool.not_true,z0y,z0a p1,z0a p2]
  refine⟨by simp[z0v,apart,z0h,z0s,z0w,AOp.isCall,hB,AV.ids,idsL,z0b z2a,z0b z1j], ?_⟩
  simp only[go_sem,hB,n1,Bool.not_false,z0m,z0l,z0g]
  exact fin _ (z7f hu fun ⟨f,g,hf,_,h,_⟩=>hp (h ▸ List.mem_map.2 ⟨f,hf,rfl⟩)) _
 rw[decide_eq_true hp] at n1
 by_cases hq:x.into∈s.preds.map (·.name)
 case neg=>
  rw[decide_eq_false hq] at n2
  simp only[go_sem,w4g,hB,z1b,eTf,z0a p28,z0a p81,Bool.not_true,z0y,z0a p1,z0a p2]
  refine⟨by simp[z0v,apart,z0h,z0s,z0w,AOp.isCall,hB,AV.ids,idsL,z0b z2a,z0b z1j], ?_⟩
  simp only[go_sem,hB,n1,n2,Bool.not_true,Bool.not_false,z0m,z0l,z0g]
  exact fin _ (z7f hu fun ⟨f,g,_,hg,_,h,_⟩=>hq (h ▸ List.mem_map.2 ⟨g,hg,rfl⟩)) _
 rw[decide_eq_true hq] at n2
 obtain⟨i,hi,hi1,hi2⟩:=z7u hp
 obtain⟨k,hk,hk1,hk2⟩:=z7u hq
 have p3:=v4q (s:=s) (i:=i) (k:=k) (by omega) hcs hnd hpa (by omega) hi hk
 rw[z1b,nat,nat] at p3
 rw[hi2] at p1 n1
 rw[hk2] at p2 n2
 have hM:MOk s x↔z9f s s.preds[i] s.preds[k]=true:=by
  refine⟨fun ⟨f,g,hf,hg,h1,h2,h3⟩=> ?_,fun h=>⟨_,_,List.getElem_mem hi,List.getElem_mem hk,hi1,hk1,h⟩⟩
  rw[←q8l hnd hi hf (by rw[hi1,h1]),←q8l hnd hk hg (by rw[hk1,h2])]
  exact h3
 cases hm:z9f s s.preds[i] s.preds[k] with
 | false=>
   rw[hm] at p3
   simp only[go_sem,w4g,hB,z1b,eTf,z0a p28,z0a p81,Bool.not_true,z0y,z0a p1,z0a p2]
   refine⟨by simp[z0v,apart,z0h,z0s,z0w,AOp.isCall,hB,AV.ids,idsL,z0b z2a,z0b z1j], ?_⟩
   simp only[go_sem,hB,n1,n2,z0a p3,Bool.not_true,Bool.not_false,z0m,z0l,z0g]
   exact fin _ (z7f hu fun h=>by rw[hM.1 h] at hm;cases hm) _
 | true=>
   have hok:=hM.2 hm
   rw[hm] at p3
   have hT':=hQ
   rw[q2r hu hok] at hT'
   simp only[go_sem,w4g,hB,z1b,eTf,z0a p28,z0a p81,Bool.not_true,z0y,z0a p1,z0a p2]
   refine⟨by simp[z0v,apart,z0h,z0s,z0w,AOp.isCall,hB,AV.ids,idsL,z0b z2a,z0b z1j], ?_⟩
   simp only[go_sem,hB,n1,n2,z0a p3,Bool.not_true]
   have hml:(cls s x.pred).length=(cls s x.into).length:=by
    unfold z9f at hm
    simp only[Bool.and_eq_true,decide_eq_true_iff] at hm
    have:=congrArg List.length hm.2
    simpa [hi1,hk1] using this
   refine j2r (s:=s) (x:=x) (p0:=i) (v8:= .int .i64 (k:Int)) hB (by omega) hnd hi hi1 (by simp[z0c]) (by simp[z0c]) (by simp[z0c]) (by simp[z0c]) (by simp[z0c]) (by simp[z0c]) (by simp[z0c]) fun ts2 tp o4 o5 clk2 r2 r3 r4 r9=> ?_
   simp only[go_sem,H41,z1b,hB,r2,r3,r4,r9,List.length_map,x0j (z:= .int .i64 0) (n:=s.clauses.length) (b:=8) rfl (by omega)]
   refine x6e (s:=s) (x:=x) hB (by omega) hcs (by simp[z0c,r2]) (by simp[z0c,r3]) (by simp[z0c,r4]) (by simp[z0c,r9]) (by simp[z0c]) (by simp[z0c]) fun es ts3 t o7 o8 clk3 hes q2 q3 q4 q9 q11=> ?_
   have c1:=j5q (s:=s) (a:=x.pred) (by omega)
   have c2:=j5q (s:=s) (a:=x.into) (by omega)
   rw[z1b] at c1 c2
   simp only[go_sem,H41,z1b,eTf,hB,q2,q3,q4,q9,q11,z0y,z0a c1,z0a c2]
   refine⟨by simp[z0v,apart,z0h,z0s,z0w,AOp.isCall,hB,AV.ids,idsL,z0b z2a,z0b z1j], ?_⟩
   refine j2t (n:=s.clauses.length) (a:=cls s x.pred) (b:=cls s x.into) hB rfl hes (by omega) (Nat.le_trans q6r (by omega)) hml (fun j hj=>x3y hj) (fun j hj=>x3y hj) (by simp[z0c,q4];rfl) (by simp[z0c,q9];rfl) (by simp[z0c,q11]) (by simp[z0c]) (by simp[z0c]) (by simp[z0c]) fun es ts4 clk4 hes q4 q9 q11=> ?_
   have p83:∀ u v,Pure Gam 55 [.agg [.sl ((z5e x s.preds).map z1e) u, .sl ((q4m x s.clauses).map z0e) v]] (z1b (merged s x)):=fun u v=>y4s (s:=merged s x) (u:=u) (v:=v) (by have:=q2s (x:=x) (ps:=s.preds);simp only[merged];omega) (fun f hf=>by have:=hpa f (List.mem_filter.1 hf).1;omega) (by have:=x1a (x:=x) (cs:=s.clauses);simp only[merged];omega) fun c hc=>by
    obtain⟨d,hd,rfl⟩:=List.mem_map.1 hc
    have:=j2q (p:=x.pred) (q:=x.into) (hcs d (List.mem_filter.1 hd).1)
    exact this.small
   simp only[go_sem,H41,z1b,hB,q4,q9,q11]
   rw[z0a (p83 _ _)]
   simp only[go_sem,z1b,hB,q4,q9,q11,z0m,z0l,z0g]
   refine⟨_,k9x (q1g hB rfl (by rw[q1d,hes])), ?_,rfl, ?_⟩
   ·simp[AV.ids,idsL,z8k,z0b z2a,z0b z1j]
   ·exact hT _ _ (hT' es)
end
theorem k4o {s:Sys} {x:Tf} (hs:SysV s) (hcs:∀ c∈s.clauses,CmpC c) (hx:TfS x):Pure Gam 6 [z1b s,eTf x] (.tup [z1b (z2c s x).1, .int .i64 (z2c s x).2]):=by
 refine Pure.of rfl g2e rfl rfl rfl (az:=[z1b s,eTf x]) rfl (by simp[idsL,z2k,q2o hx.ok]) fun D B clk T hB hT=> ?_
 have h41:=fun h clk Q=>g3o (s:=s) (x:=x) (h:=h) (clk:=clk) (Q:=Q) hs hcs hx
 rw[z1b,eTf,z1b] at h41
 simp only[go_sem,u6v,hB,z1b,eTf]
 refine z3g (h41 _ _ _ fun idx=> ?_)
 simp only[go_sem,hB,z0m,z0l,z0g]
 rw[z0j rfl (by simp[z1l,AV.cv,cvL,AV.ids,idsL,z0b z2a,z0b z1j])]
 exact hT _
theorem w3n {s:Sys} {x:Tf} (hs:SysV s) (hx:TfOk x):Pure Gam 101 [z1b s,eTf x, .int .i64 6,eTf {x with pred:=[],into:=[]}] (.bool (q5y x)):=by
 have hp:=v4i hs
 rw[z1b] at hp
 have hr:TfOk {x with pred:=[],into:=[]}:=⟨hx.un,hx.und,hx.drops⟩
 have hls:∀ l:List (List Nat),decide (((z3r l).length:Int)=0)=decide (l=[]):=fun l=>by rw[z3r,List.length_map,j5r]
 refine Pure.of rfl g3i rfl rfl rfl (az:=[z1b s,eTf x, .int .i64 6,eTf {x with pred:=[],into:=[]}]) rfl (by simp[idsL,z2k,q2o hx,q2o hr,AV.ids]) fun D B clk T hB hT=> ?_
 unfold q5y at hT
 cases b1:decide (x.kind=6) <;> rw[b1] at hT
 ·simp only[go_sem,w2e,hB,z1b,eTf,b1]
  rw[z0d]
  exact hT _
 cases b2:decide (x.clause=0) <;> rw[b2] at hT
 ·simp only[go_sem,w2e,hB,z1b,eTf,b1,b2,decide_true,z0a hp]
  rw[z0d]
  exact hT _
 cases b3:decide (x.atom=0) <;> rw[b3] at hT
 ·simp only[go_sem,w2e,hB,z1b,eTf,b1,b2,b3,decide_true,z0a hp]
  rw[z0d]
  exact hT _
 cases b4:decide (x.un=[]) <;> rw[b4] at hT
 ·simp only[go_sem,w2e,hB,z1b,eTf,b1,b2,b3,hls,b4,decide_true,z0a hp]
  rw[z0d]
  exact hT _
 cases b5:decide (x.und=[]) <;> rw[b5] at hT
 ·simp only[go_sem,w2e,hB,z1b,eTf,b1,b2,b3,hls,b4,b5,decide_true,z0a hp]
  rw[z0d]
  exact hT _
 simp only[go_sem,w2e,hB,z1b,eTf,b1,b2,b3,hls,b4,b5,decide_true,z0a hp,x9r]
 rw[z0d]
 simpa using hT _
theorem j2u {ps:List Func} {a:List Nat} {u:Tip} (hl:ps.length≤1000):Pure Gam 29 [.sl (z3r (ps.map (·.name))) u, .str a] (.int .i64 (z3t ps a)):=by
 refine Pure.of rfl g3h rfl rfl rfl (az:=[.sl (z3r (ps.map (·.name))) .no, .str a]) rfl (by simp[idsL,AV.ids,z2u]) fun D B clk T hB hT=> ?_
 have hsl:(z3r (ps.map (·.name))).length=ps.length:=by rw[z3r,List.length_map,List.length_map]
 simp only[go_sem,u8w,hsl]
 refine z2y ps.length (by omega) (fun i q=>(∀ p∈ps.take i,p.name≠a)∧q.ts 0= .sl (z3r (ps.map (·.name))) .no∧q.ts 1= .str a∧q.ts 7= .int .i64 (ps.length:Int)∧q.ts 8= .int .i64 (i:Int)) ⟨by simp,rfl,rfl,rfl,rfl⟩ ?_ ?_
 ·rintro i hlt f1 f2 ts h clk P ⟨hno,q0,q1,q7,q8⟩ hnx he hr
  dsimp only at q0 q1 q7 q8
  have hidx:∀ h,z1n h 1 (.sl (z3r (ps.map (·.name))) .no) (.int .i64 (i:Int))=some (.iptr [.str ps[i].name] 0,h):=fun h=>z5p (e:= .str ps[i].name) (by simp[z3r,hlt]) rfl
  have ht:=List.take_succ_eq_append_getElem hlt
  cases hc:decide (a=ps[i].name) with
  | true=>
    simp only[go_sem,k8y,q0,q1,q7,q8,f1,hidx,hc]
    refine hr _ ?_
    rw[q1k hlt (of_decide_eq_true hc).symm hno] at hT
    simp only[go_sem,]
    rw[z0j rfl rfl]
    exact hT _
  | false=>
    simp only[go_sem,k8y,q0,q1,q7,q8,f1,f2,hidx,hc]
    refine hnx _ ⟨fun p hp=> ?_,q0,q1,q7,rfl⟩
    rw[ht,List.mem_append,List.mem_singleton] at hp
    rcases hp with hp | rfl
    ·exact hno p hp
    ·exact fun e=>of_decide_eq_false hc e.symm
 ·rintro f1 ts h clk P ⟨hno,q0,q1,q7,q8⟩ he hr
  dsimp only at q0 q1 q7 q8
  rw[List.take_length] at hno
  simp only[go_sem,k8y,q7,q8,f1]
  refine he _ _ ?_
  rw[z9e hno] at hT
  simp only[go_sem,]
  rw[z0j rfl rfl]
  exact hT _
def kpI (s:Sys) (a:List Nat) (n:Nat):List Nat:=(List.range n).filter fun i=> !decide (v4n s i=a)
theorem j5s {s:Sys} {a:List Nat} {n:Nat}:kpI s a (n + 1)=kpI s a n++if v4n s n=a then [] else [n]:=by
 unfold kpI
 rw[List.range_succ,List.filter_append]
 by_cases h:v4n s n=a <;> simp[h]
theorem k4p {s:Sys} {a:List Nat} {n:Nat}:(kpI s a n).length≤n:=Nat.le_trans (List.length_filter_le _ _) (by simp)
theorem y4w {s:Sys} {a:List Nat} {n i:Nat} (h:i∈kpI s a n):i < n:=by
 have:=(List.mem_filter.1 h).1
 simpa using this
noncomputable def y8n (s:Sys) (x:Tf):List Nat:=if (z2c s x).2=0 then kpI s x.pred s.clauses.length else []
theorem y4x {s:Sys} {x:Tf} {i k:Nat} (hnd:(s.preds.map (·.name)).Nodup) (hi:i < s.preds.length) (hk:k < s.preds.length) (hi1:s.preds[i].name=x.pred) (hk1:s.preds[k].name=x.into):MOk s x↔z9f s s.preds[i] s.preds[k]=true:=by
 refine⟨fun ⟨f,g,hf,hg,h1,h2,h3⟩=> ?_,fun h=>⟨_,_,List.getElem_mem hi,List.getElem_mem hk,hi1,hk1,h⟩⟩
 rw[←q8l hnd hi hf (by rw[hi1,h1]),←q8l hnd hk hg (by rw[hk1,h2])]
 exact h3
theorem y4y {s:Sys} {x:Tf} (hs:SysV s) (hcs:∀ c∈s.clauses,CmpC c) (hx:TfS x):Pure Gam 59 [z1b s,eTf x] (.tup [.sl ((y8n s x).map nat) .no, .int .i64 (z2c s x).2]):=by
 have p74:=w3n hs hx.ok
 have hpl:=hs.pl
 have hcl:=hs.len
 have hnd:=hs.pr.nodup
 have hpa:∀ f∈s.preds,f.args.length≤20000:=fun f hf=>by have:=(hs.pr.args f hf).1;omega
 have p75:=v4j (ps:=s.preds) (u:= .no) (by omega)
 have p1:=j2u (ps:=s.preds) (a:=x.pred) (u:= .no) (by omega)
 have p2:=j2u (ps:=s.preds) (a:=x.into) (u:= .no) (by omega)
 have n1:=q3g (ps:=s.preds) (nm:=x.pred)
 have n2:=q3g (ps:=s.preds) (nm:=x.into)
 simp only[z1b,eTf] at p74
 refine Pure.of rfl g2h rfl rfl rfl (az:=[z1b s,eTf x]) rfl (by simp[idsL,z2k,q2o hx.ok]) fun D B clk T hB hT=> ?_
 have fin:∀ e:Int,e≠0→z2c s x=(x2b,e)→∀ h',RV [] (some [AV.sl [] .nil, .int .i64 e]) (fun v h'=>T v h') h':=fun e h0 he h'=>by
  unfold y8n at hT
  rw[he,if_neg h0] at hT
  rw[z0j rfl (by simp[z1l,AV.cv,cvL,AV.ids,idsL])]
  exact hT _
 cases hu:q5y x <;> rw[hu] at p74
 ·simp only[go_sem,w4h,hB,z1b,eTf,z0a p74,Bool.not_false]
  exact fin _ (by decide) (z9g hu) _
 by_cases hp:x.pred∈s.preds.map (·.name)
 case neg=>
  rw[decide_eq_false hp] at n1
  simp only[go_sem,w4h,hB,z1b,eTf,z0a p74,Bool.not_true,z0a p75,z0y,z0a p1,z0a p2]
  refine⟨by simp[z0v,apart,z0h,z0s,z0w,AOp.isCall,hB,AV.ids,idsL,z2u], ?_⟩
  simp only[go_sem,hB,n1,Bool.not_false]
  exact fin _ (by decide) (z7f hu fun ⟨f,g,hf,_,h,_⟩=>hp (h ▸ List.mem_map.2 ⟨f,hf,rfl⟩)) _
 rw[decide_eq_true hp] at n1
 by_cases hq:x.into∈s.preds.map (·.name)
 case neg=>
  rw[decide_eq_false hq] at n2
  simp only[go_sem,w4h,hB,z1b,eTf,z0a p74,Bool.not_true,z0a p75,z0y,z0a p1,z0a p2]
  refine⟨by simp[z0v,apart,z0h,z0s,z0w,AOp.isCall,hB,AV.ids,idsL,z2u], ?_⟩
  simp only[go_sem,hB,n1,n2,Bool.not_true,Bool.not_false]
  exact fin _ (by decide) (z7f hu fun ⟨f,g,_,hg,_,h,_⟩=>hq (h ▸ List.mem_map.2 ⟨g,hg,rfl⟩)) _
 rw[decide_eq_true hq] at n2
 obtain⟨i,hi,hi1,hi2⟩:=z7u hp
 obtain⟨k,hk,hk1,hk2⟩:=z7u hq
 have hM:=y4x hnd hi hk hi1 hk1
 have hix:=fun h=>z4u (l:=s.preds) (i:=i) (h:=h) (t:= .no) (k:= .i64) hi
 have hkx:=fun h=>z4u (l:=s.preds) (i:=k) (h:=h) (t:= .no) (k:= .i64) hk
 have p3:=y4t (s:=s) (p:=s.preds[i]) (q:=s.preds[k]) (by omega) hcs (hpa _ (List.getElem_mem hi)) (hpa _ (List.getElem_mem hk))
 rw[z1b,z1e,z1e,nat,nat] at p3
 rw[hi2] at p1 n1
 rw[hk2] at p2 n2
 cases hm:z9f s s.preds[i] s.preds[k] with
 | false=>
   rw[hm] at p3
   simp only[go_sem,w4h,hB,z1b,eTf,z0a p74,Bool.not_true,z0a p75,z0y,z0a p1,z0a p2]
   refine⟨by simp[z0v,apart,z0h,z0s,z0w,AOp.isCall,hB,AV.ids,idsL,z2u], ?_⟩
   simp only[go_sem,hB,n1,n2,hix,hkx,z0a p3,Bool.not_true,Bool.not_false]
   exact fin _ (by decide) (z7f hu fun h=>by rw[hM.1 h] at hm;cases hm) _
 | true=>
   rw[hm] at p3
   unfold y8n at hT
   rw[q2r hu (hM.2 hm),if_pos rfl] at hT
   simp only[go_sem,w4h,hB,z1b,eTf,z0a p74,Bool.not_true,z0a p75,z0y,z0a p1,z0a p2]
   refine⟨by simp[z0v,apart,z0h,z0s,z0w,AOp.isCall,hB,AV.ids,idsL,z2u], ?_⟩
   simp only[go_sem,hB,n1,n2,hix,hkx,z0a p3,Bool.not_true,List.length_map]
   refine z2y s.clauses.length (by omega) (fun i q=>∃ (gx:Nat) (t:Tip) (o0 o2 o3 o4 o5:AObj),q.ts 3= .ptr (B + 1) gx 0 0∧q.ts 10= .sl ((kpI s x.pred i).map nat) t∧q.ts 54= .sl (s.clauses.map z0e) .no∧q.ts 55= .int .i64 (s.clauses.length:Int)∧q.ts 56= .int .i64 (i:Int)∧q.h=D++[o0, .blk gx [eTf x] false false 0,o2,o3,o4,o5]∧z7x B 5 o5 t 1) ⟨_, .nil,_,_,_,_,_,rfl,rfl,rfl,rfl,rfl,rfl, .inl rfl⟩ ?_ ?_
   ·rintro j hlt f1 f2 ts h clk P ⟨gx,t,o0,o2,o3,o4,o5,q3,q10,q54,q55,q56,rfl,ht⟩ hnx he hr
    dsimp only at q3 q10 q54 q55 q56
    have hcx:=fun h=>z5j (l:=s.clauses) (i:=j) (h:=h) (t:= .no) (k:= .i64) hlt
    have hc:=j5s (s:=s) (a:=x.pred) (n:=j)
    have hg:=fun {L gen}=>x6a (D:=D) (L:=L) (B:=B) (k:=5) (gen:=gen) (i:=j) (xs:=kpI s x.pred j) (t:=t) (o:=o5) hB
    have hll:(kpI s x.pred j).length≤2 ^ 20:=Nat.le_trans k4p (by omega)
    rw[x5z hlt] at hc
    generalize s.clauses[j]=c at *
    cases hd:decide (c.head.pred=x.pred) with
    | true=>
      rw[if_pos (of_decide_eq_true hd),List.append_nil] at hc
      simp only[go_sem,k1s,eTf,q3,q10,q54,q55,q56,hB,f1,f2,hcx,hd,Bool.not_true]
      exact hnx _ ⟨gx,t,_,_,_,_,_,q3,by rw[hc];exact q10,q54,q55,rfl,rfl,ht⟩
    | false=>
      rw[if_neg (of_decide_eq_false hd)] at hc
      simp only[go_sem,k1s,eTf,q3,q10,q54,q55,q56,hB,f1,hcx,hd,Bool.not_false]
      rw[hg rfl ht hll,←hc]
      simp only[go_sem,q3,q10,q54,q55,q56,f2]
      exact hnx _ ⟨gx,_,_,_,_,_,_,q3,rfl,q54,q55,rfl,rfl, .inr (.inr ⟨_,rfl,rfl⟩)⟩
   ·rintro f1 ts h clk P ⟨gx,t,o0,o2,o3,o4,o5,q3,q10,q54,q55,q56,rfl,ht⟩ he hr
    dsimp only at q3 q10 q54 q55 q56
    simp only[go_sem,k1s,q10,q55,q56,f1]
    refine he _ _ ?_
    simp only[go_sem,q10]
    rw[z0j rfl (by simp[z1l,AV.cv,cvL,AV.ids,idsL,z6m])]
    exact hT _
def u9j (B:Nat) (h D:List AObj) (rs:List ARes) (clk:Nat) (Q:AV→List AObj→Nat→Prop):Post:=fun e s=>(∀ i,e≠ .exit i)∧∃ vs L,z1z s.h s.ts rs=some vs∧s.h=D++L∧(((z1l vs).ids=[]∧Q (z1l vs) h clk)∨((∃ i∈(z1l vs).ids,B≤i)∧Q (z1l vs) (h++L) s.clk))
theorem z9u {f:Nat} {args az:List AV} {h:List AObj} {clk:Nat} {af:AFun} {Q:AV→List AObj→Nat→Prop} (hext:Gam.ext f=none) (hfn:Gam.fn f=some af) (hb:af.byref=[]) (ho:af.owned=true) (hobs:z3y args=[]) (has:cvL args=az) (hids:idsL az=[])
  (hw:∀ (D:List AObj) (B:Nat),D.length=B→B=h.length→K Gam B af.body [] ⟨z9z az,D++List.replicate af.nslots .dead,clk⟩ (u9j B h D af.results clk Q)):WC Gam f args h clk Q:=by
 obtain⟨k,e,s,he,hne,vs,L,hr,hL,hq⟩:=hw (maskFrom [] 0 h) h.length z5b rfl
 have hp:z1d h af.byref 0 args=some az:=by rw[hb,z1o hobs,has]
 have hl:z0p af.byref 0 args=[]:=by rw[hb];exact z5a hobs
 have hdrop:s.h.drop h.length=L:=by rw[hL,List.drop_left' z5b]
 rcases hq with ⟨h1,h2⟩ | ⟨⟨i,hi1,hi2⟩,h2⟩
 ·refine⟨k,z1l vs,h,clk, ?_,h2⟩
  unfold z5f z0q
  simp only[hext,hfn,hp,hl,freezeAll,hids,reach,he,hr,ho,if_true,z7t]
  cases e with
  | exit i=>exact absurd rfl (hne i)
  | norm=>simp[h1]
  | ret=>simp[h1]
 ·refine⟨k,z1l vs,h++L,s.clk, ?_,h2⟩
  have hall:(((z1l vs).ids++(List.map (fun i=>(Option.map AObj.ids s.h[i]?).getD []) ([]:List Nat)).flatten).all fun x=>decide (x < h.length))=false:=by
   rw[List.all_eq_false]
   exact⟨i,by simp[hi1],by simp;omega⟩
  unfold z5f z0q
  simp only[hext,hfn,hp,hl,freezeAll,hids,reach,he,hr,ho,if_true,z7t,hall,Bool.false_eq_true,if_false,hdrop]
  cases e with
  | exit i=>exact absurd rfl (hne i)
  | norm=>simp
  | ret=>simp
def tf0 (k:Int) (p q:List Nat):Tf:=⟨k,p,q,0,0,[],[],[]⟩
def j9d (k:Int) (p q:List Nat):AV:= .agg [.int .i64 k, .str p, .str q, .int .i64 0, .int .i64 0, .sl [] .nil, .sl [] .nil, .sl [] .nil]
def j5t (s:Sys) (k:Int) (p q:List Nat):Prop:=(k=0∧p=[]∧q=[])∨(k=6∧∃ f g,f∈s.preds∧g∈s.preds∧f.name=p∧g.name=q∧z9f s f g=true∧p=[78]∧q=[80])
theorem j5u {α:Type}:∀ {l:List α} {i j:Nat} (hj:j < l.length) (hij:i < j),[l[i]'(by omega),l[j]].Sublist l
 | a::l,0,j + 1,hj,_=>by
   have hj':j < l.length:=by simpa using hj
   show [a,l[j]].Sublist (a::l)
   exact (List.singleton_sublist.2 (List.getElem_mem hj')).cons_cons a
 | a::l,i + 1,j + 1,hj,h=>(j5u (l:=l) (by simpa using hj) (by omega)).cons a
theorem w3o:∀ a∈allPreds,∀ b∈allPreds,[a,b].Sublist allPreds→a.args=b.args→a.name≠b.name→b.name=[78]∧a.name=[80]:=by decide
theorem q2t {s:Sys} {f g:Func} (h:z9f s f g=true):f.name≠g.name∧f.args=g.args:=by
 unfold z9f at h
 simp only[Bool.and_eq_true,Bool.not_eq_true',decide_eq_false_iff_not,decide_eq_true_iff] at h
 exact h.1
theorem g3p {s:Sys} {h:List AObj} {clk:Nat} {Q:AV→List AObj→Nat→Prop} (hs:SysV s) (hcs:∀ c∈s.clauses,CmpC c) (hQ:∀ k p q (e:Int),j5t s k p q→Q (.tup [j9d k p q, .int .i64 e]) h clk):WC Gam 17 [z1b s] h clk Q:=by
 have p28:=k4d hs
 have hpl:=hs.pl
 have hcl:=hs.len
 have hnd:=hs.pr.nodup
 have hpa:∀ f∈s.preds,f.args.length≤20000:=fun f hf=>by have:=(hs.pr.args f hf).1;omega
 have p33:=fun {i k:Nat} (hi:i < s.preds.length) (hk:k < s.preds.length)=>v4q (s:=s) (i:=i) (k:=k) (by omega) hcs hnd hpa (by omega) hi hk
 simp only[z1b,nat] at p28 p33
 refine z9u rfl g1q rfl rfl rfl (az:=[z1b s]) rfl (by simp[idsL,z2k]) fun D B hB hBh=> ?_
 have fin:∀ k p q (e:Int),j5t s k p q→∀ (ts:Tmps) (L:List AObj) (c:Nat),z1z (D++L) ts [.cell 2 (some 8), .tmp 3]=some [j9d k p q, .int .i64 e]→u9j B h D [.cell 2 (some 8), .tmp 3] clk Q .ret ⟨ts,D++L,c⟩:=fun k p q e hf ts L c hr=>⟨fun _=>by simp,[j9d k p q, .int .i64 e],L,hr,rfl, .inl ⟨by simp[z1l,j9d,AV.ids,idsL],hQ k p q e hf⟩⟩
 simp only[go_sem,u6n,hB,z1b,z0a p28,Bool.not_true]
 refine z2y s.preds.length (by omega) (fun i r=>∃ (g0 g1:Nat),r.ts 1= .ptr (B + 0) g0 0 0∧r.ts 2= .ptr (B + 1) g1 0 0∧r.ts 4= .int .i64 (i:Int)∧r.h=D++[.blk g0 [z1b s] false false 0, .blk g1 [j9d 0 [] []] false false 0]) ⟨_,_,rfl,rfl,rfl,rfl⟩ ?_ ?_
 ·rintro i hlt f1 f2 ts h' clk' P ⟨g0,g1,q1,q2,q4,rfl⟩ hnx he hr
  dsimp only at q1 q2 q4
  have hix:=fun h=>z4u (l:=s.preds) (i:=i) (h:=h) (t:= .no) (k:= .i64) hlt
  simp only[go_sem,k7i,hB,z1b,q1,q2,q4,f1,f2,List.length_map]
  refine z1q (fun m r=>∃ j:Nat,j≤s.preds.length∧i + 1≤j∧m=s.preds.length - j∧r.ts 1= .ptr (B + 0) g0 0 0∧r.ts 2= .ptr (B + 1) g1 0 0∧r.ts 4= .int .i64 (i:Int)∧r.ts 5= .int .i64 (j:Int)∧r.h=D++[.blk g0 [z1b s] false false 0, .blk g1 [j9d 0 [] []] false false 0]) (s.preds.length - (i + 1)) ⟨i + 1,by omega,by omega,rfl,by simp[z0c,q1],by simp[z0c,q2],by simp[z0c,q4],by simp[z0c],by simp only[z1b]⟩ ?_
  clear q1 q2 q4
  rintro m ⟨ts,h',clk'⟩ P2 ⟨j,hj,hij,rfl,q1,q2,q4,q5,rfl⟩ hnx2 he2 hr2
  dsimp only at q1 q2 q4 q5
  by_cases hjl:j < s.preds.length
  ·have e1:decide ((j:Int) < (s.preds.length:Int))=true:=by rw[decide_eq_true_iff];omega
   have e2:IntKind.i64.wrap ((j:Int) + 1)=((j + 1:Nat):Int):=z0f (by omega) (by omega)
   have hjx:=fun h=>z4u (l:=s.preds) (i:=j) (h:=h) (t:= .no) (k:= .i64) hjl
   have pm:=p33 hjl hlt
   cases hm:z9f s s.preds[j] s.preds[i] with
   | false=>
     rw[hm] at pm
     simp only[go_sem,j7w,hB,z1b,q1,q2,q4,q5,e1,e2,List.length_map,z0a pm]
     exact hnx2 (s.preds.length - (j + 1)) _ (by omega) ⟨j + 1,by omega,by omega,rfl,q1,q2,q4,rfl,rfl⟩
   | true=>
     rw[hm] at pm
     simp only[go_sem,j7w,hB,z1b,j9d,q1,q2,q4,q5,e1,List.length_map,z0a pm,hix,hjx]
     refine hr2 _ ?_
     simp only[go_sem,]
     refine hr _ ?_
     simp only[go_sem,]
     refine fin 6 s.preds[j].name s.preds[i].name 0 (.inr ⟨rfl,_,_,List.getElem_mem hjl,List.getElem_mem hlt,rfl,rfl,hm,w3o _ (hs.preds.subset (List.getElem_mem hlt)) _ (hs.preds.subset (List.getElem_mem hjl)) ((j5u hjl hij).trans hs.preds) (q2t hm).2.symm (Ne.symm (q2t hm).1)⟩) _ _ _ ?_
     simp only[go_sem,hB,j9d,q2,z0m,z0l,z0g]
  ·have e1:decide ((j:Int) < (s.preds.length:Int))=false:=by rw[decide_eq_false_iff_not];omega
   simp only[go_sem,j7w,hB,z1b,q1,q2,q4,q5,e1,List.length_map]
   refine he2 _ _ ?_
   simp only[go_sem,q1,q2,q4,f2]
   exact hnx _ ⟨g0,g1,q1,q2,rfl,by simp only[z1b]⟩
 ·rintro f1 ts h' clk' P ⟨g0,g1,q1,q2,q4,rfl⟩ he hr
  dsimp only at q1 q2 q4
  simp only[go_sem,k7i,hB,z1b,q1,q2,q4,f1,List.length_map]
  refine he _ _ ?_
  simp only[go_sem,hB,j9d,q1,q2]
  refine fin 0 [] [] 8 (.inl ⟨rfl,rfl,rfl⟩) _ _ _ ?_
  simp only[go_sem,hB,j9d,q2,z0m,z0l,z0g]
def q7s:List (List Nat):=[[80],[81],[82],[90],[83],[78],[]]
theorem bs7 {h:List AObj}:bsV h (.str []) 7 [0,1,2,3,4,5,6] [.str [80], .str [81], .str [82], .str [90], .str [83], .str [78], .str []]=some (.sl (z3r q7s) .full,h):=(rfl)
theorem x9w {n:Nat} (hn:n < 7) {h:List AObj} {k:IntKind}:z1n h 1 (.sl (z3r q7s) .full) (.int k (n:Int))=some (.iptr [.str (q7s[n]'hn)] 0,h):=z8o hn
theorem k9z {h:List AObj} {e n:Nat} {xs:List AV} {t:Tip} {k:IntKind} (hn:n≤xs.length) (he:z5m e xs=true):slV h (some e) (.sl xs t) (some (.int k (n:Int))) none none=some (.sl (xs.drop n) (if t= .nil then .nil else t),h):=by
 simp[slV,z3c,z5l,hn,he]
def x9x (a:AV):Prop:=a.cv=a∧a.obs=[]∧a.one=true∧a.ids=[]
theorem SmallV.five {s:Nat} {v:AV} (h:SmallV s v):∃ a b c d e,v= .agg [a,b,c,d,e]∧x9x a∧x9x b∧x9x c∧x9x d∧x9x e:=by
 obtain⟨t,q1,q2,q3,q4,q5,q6,q7,q8⟩:=h
 clear q1 q2
 cases v <;> simp only[AV.cells,List.length_singleton] at q7 <;> try omega
 rename_i cs
 match cs,q7 with
 | [a,b,c,d,e],_=>
   simp only[AV.obs,z3y,List.append_eq_nil_iff,and_true] at q3
   simp only[AV.ids,idsL,List.append_eq_nil_iff,and_true] at q5
   simp only[AV.cv,cvL,AV.agg.injEq,List.cons.injEq,and_true] at q4
   simp only[AV.cells,List.all_cons,List.all_nil,Bool.and_true,Bool.and_eq_true] at q8
   exact⟨a,b,c,d,e,rfl,⟨q4.1,q3.1,q8.1,q5.1⟩,⟨q4.2.1,q3.2.1,q8.2.1,q5.2.1⟩,⟨q4.2.2.1,q3.2.2.1,q8.2.2.1,q5.2.2.1⟩,⟨q4.2.2.2.1,q3.2.2.2.1,q8.2.2.2.1,q5.2.2.2.1⟩,⟨q4.2.2.2.2,q3.2.2.2.2,q8.2.2.2.2,q5.2.2.2.2⟩⟩
def v4r (s:Sys) (y:Tf):Prop:=∃ k p q,y=tf0 k p q∧j5t s k p q
theorem y4z:∀ f∈allPreds,∀ g∈allPreds,f.args=g.args→f.name≠g.name→(f.name=[78]∧g.name=[80])∨(f.name=[80]∧g.name=[78]):=by decide
theorem k4q:∀ f∈allPreds,f.name≠[]:=by decide
theorem v0a {s:Sys} {k:Int} {p q:List Nat} {y:Tf} (hs:SysV s) (hf:j5t s k p q) (hw:y.pred=p∨y.into=q) (hM:MOk s y):y.pred=[78]∧y.into=[80]:=by
 obtain⟨f,g,hf1,hg1,e1,e2,hm⟩:=hM
 obtain⟨n1,n2⟩:=q2t hm
 have h2:=y4z f (hs.preds.subset hf1) g (hs.preds.subset hg1) n2 n1
 rw[e1,e2] at h2
 have a1:=k4q f (hs.preds.subset hf1)
 have a2:=k4q g (hs.preds.subset hg1)
 rw[e1] at a1
 rw[e2] at a2
 rcases hf with ⟨_,rfl,rfl⟩ | ⟨_,_,_,_,_,_,_,_,rfl,rfl⟩
 ·rcases hw with hw | hw
  ·exact absurd hw a1
  ·exact absurd hw a2
 ·rcases h2 with h2 | ⟨h3,h4⟩
  ·exact h2
  ·rcases hw with hw | hw
   ·rw[hw] at h3;cases h3
   ·rw[hw] at h4;cases h4
theorem j2v {k:Int} {p q:List Nat}:TfS (tf0 k p q):=⟨Nat.zero_le _,Nat.zero_le _,rfl⟩
theorem g3q {s:Sys} {zs:List Int} {u:Tip} {odd:Bool} {h:List AObj} {clk:Nat} {Q:AV→List AObj→Nat→Prop} (hs:SysV s) (hcs:∀ c∈s.clauses,CmpC c) (hz:∀ z∈zs, -9223372036854775808≤z∧z≤9223372036854775807) (hQ:∀ y,TfS y→(MOk s y→y.pred=[78]∧y.into=[80])→(odd=false→v4r s y)→Q (eTf y) h clk):WC Gam 5 [z1b s, .sl (z6z zs) u, .bool odd] h clk Q:=by
 have hl:q6i (zs.take 400):=⟨by simp;omega,fun z h=>hz z (List.mem_of_mem_take h)⟩
 refine q3z rfl g1s rfl rfl rfl (az:=[z1b s, .sl (z6z zs) .no, .bool odd]) rfl (by simp[idsL,z2k,AV.ids,z8k]) fun D B T hB hT=> ?_
 simp only[go_sem,u6p,hB,z1b]
 refine j4o fun g c=> ?_
 have e0:∀ x0 x1 x2 x3 x4 x5 x6 x7 x8 x9:AObj,(D++[x0,x1,x2,x3,x4,x5,x6,x7,x8,x9]).length=B + 10:=fun _ _ _ _ _ _ _ _ _ _=>by simp[hB]
 have e1:∀ x0 x1 x2 x3 x4 x5 x6 x7 x8 x9 o:AObj,(D++[x0,x1,x2,x3,x4,x5,x6,x7,x8,x9])++[o]=D++[x0,x1,x2,x3,x4,x5,x6,x7,x8,x9,o]:=fun _ _ _ _ _ _ _ _ _ _ _=>by simp
 rw[e0,e1]
 generalize zs.take 400=l at hl
 simp only[go_sem,hB]
 have h12:=fun h clk Q=>g3p (s:=s) (h:=h) (clk:=clk) (Q:=Q) hs hcs
 rw[z1b] at h12
 refine z3g (h12 _ _ _ fun k p q e hf=> ?_)
 have fin:∀ y:Tf,TfS y→(y.pred=p∨y.into=q)→(odd=false→v4r s y)→∀ (ta tb tc:Tip) (h':List AObj),RV [] (some [.agg [.int .i64 y.kind, .str y.pred, .str y.into, .int .i64 y.clause, .int .i64 y.atom, .sl (z3r y.un) ta, .sl (z3r y.und) tb, .sl y.drops tc]]) (fun v h'=>T v h') h':=by
  intro y hy hw ho ta tb tc h'
  rw[z2q rfl (by simp[AV.cv,cvL,AV.ids,idsL,z2u,hy.drops])]
  exact hT _ _ (hQ y hy (v0a hs hf hw) ho)
 cases odd with
 | false=>
   simp only[go_sem,hB,j9d,Bool.not_false,z0m,z0l,z0g]
   exact fin (tf0 k p q) j2v (.inl rfl) (fun _=>⟨k,p,q,rfl,hf⟩) .nil .nil .nil _
 | true=>
   replace fin:=fun y hy hw=>fin y hy hw (fun h=>by cases h)
   simp only[go_sem,hB,j9d,Bool.not_true,bs7]
   refine z1w (k:=10) (z3i hl (by decide) (by decide)) hB rfl (Nat.zero_le _) ?_
   rintro v i ⟨r,rfl,hr1',hr2'⟩ hi
   have hr:r=0∨r=1∨r=2∨r=3∨r=4∨r=5∨r=6∨r=7∨r=8∨r=9:=by omega
   rcases hr with rfl | rfl | rfl | rfl | rfl | rfl | rfl | rfl | rfl | rfl
   ·simp only[go_sem,hB,decide_true,Int.reduceEq]
    refine z1w (k:=10) (z3i hl (by decide) (by decide)) hB rfl hi ?_
    rintro v i2 ⟨r,rfl,_,_⟩ hi2
    simp only[go_sem,hB,z0m,z0l,z0g]
    exact fin {tf0 k p q with kind:=r} j2v (.inl rfl) .nil .nil .nil _
   ·simp only[go_sem,hB,decide_true,decide_false,Int.reduceEq]
    refine z1w (k:=10) (z3i hl (by decide) (by decide)) hB rfl hi ?_
    rintro v i2 ⟨r,rfl,h1,h2⟩ hi2
    obtain⟨n,rfl⟩:∃ k:Nat,r=k:=⟨r.toNat,by omega⟩
    simp only[go_sem,hB,x9w (n:=n) (by omega),z0m,z0l,z0g]
    exact fin {tf0 k p q with pred:=q7s[n]'(by show n < 7;omega)} j2v (.inr rfl) .nil .nil .nil _
   ·simp only[go_sem,hB,decide_true,decide_false,Int.reduceEq]
    refine z1w (k:=10) (z3i hl (by decide) (by decide)) hB rfl hi ?_
    rintro v i2 ⟨r,rfl,h1,h2⟩ hi2
    obtain⟨n,rfl⟩:∃ k:Nat,r=k:=⟨r.toNat,by omega⟩
    simp only[go_sem,hB,x9w (n:=n) (by omega),z0m,z0l,z0g]
    exact fin {tf0 k p q with into:=q7s[n]'(by show n < 7;omega)} j2v (.inl rfl) .nil .nil .nil _
   ·simp only[go_sem,hB,decide_true,decide_false,Int.reduceEq]
    refine z1w (k:=10) (z3i hl (by decide) (by decide)) hB rfl hi ?_
    rintro v i2 ⟨r,rfl,h1,h2⟩ hi2
    simp only[go_sem,hB,z0f (n:=r - 1) (by omega) (by omega)]
    refine z1w (k:=10) (z3i hl (by decide) (by decide)) hB rfl hi2 ?_
    rintro v i3 ⟨r',rfl,h3,h4⟩ hi3
    simp only[go_sem,hB,z0f (n:=r' - 1) (by omega) (by omega),z0m,z0l,z0g]
    exact fin {tf0 k p q with clause:=r - 1,atom:=r' - 1} ⟨Nat.zero_le _,Nat.zero_le _,rfl⟩ (.inl rfl) .nil .nil .nil _
   ·simp only[go_sem,hB,decide_true,decide_false,Int.reduceEq,z0y]
    refine z1w (k:=10) (z3i hl (by decide) (by decide)) hB rfl hi ?_
    rintro v i2 ⟨r,rfl,h1,h2⟩ hi2
    obtain⟨n,rfl⟩:∃ k:Nat,r=k:=⟨r.toNat,by omega⟩
    have hix:=fun h=>x9w (n:=n) (by omega) (h:=h) (k:= .i64)
    generalize q7s[n]'(by show n < 7;omega)=nm at hix
    simp only[go_sem,hB,hix]
    rw[show [AV.str nm]=z3r [nm] from rfl,append_nil (k:=5) hB rfl z5k (by simp[z3r])]
    simp only[go_sem,hB,z0m,z0l,z0g]
    refine⟨by simp[z0v,apart,z0h,z0s,z0w,AOp.isCall,hB,AV.ids,idsL,z2u], ?_⟩
    exact fin {tf0 k p q with un:=[nm]} ⟨by simp,Nat.zero_le _,rfl⟩ (.inl rfl) _ .nil .nil _
   ·simp only[go_sem,hB,decide_true,decide_false,Int.reduceEq,z0y]
    refine z1w (k:=10) (z3i hl (by decide) (by decide)) hB rfl hi ?_
    rintro v i2 ⟨r,rfl,h1,h2⟩ hi2
    obtain⟨n,rfl⟩:∃ k:Nat,r=k:=⟨r.toNat,by omega⟩
    have hix:=fun h=>x9w (n:=n) (by omega) (h:=h) (k:= .i64)
    generalize q7s[n]'(by show n < 7;omega)=nm at hix
    simp only[go_sem,hB,hix]
    rw[show [AV.str nm]=z3r [nm] from rfl,append_nil (k:=7) hB rfl z5k (by simp[z3r])]
    simp only[go_sem,hB,z0m,z0l,z0g]
    refine⟨by simp[z0v,apart,z0h,z0s,z0w,AOp.isCall,hB,AV.ids,idsL,z2u], ?_⟩
    exact fin {tf0 k p q with und:=[nm]} ⟨Nat.zero_le _,by simp,rfl⟩ (.inl rfl) .nil _ .nil _
   ·simp only[go_sem,hB,decide_true,decide_false,Int.reduceEq,z0y]
    refine z1w (k:=10) (z3i hl (by decide) (by decide)) hB rfl hi ?_
    rintro v i2 ⟨r,rfl,h1,h2⟩ hi2
    obtain⟨n,rfl⟩:∃ k:Nat,r=k:=⟨r.toNat,by omega⟩
    have hix:=fun h=>x9w (n:=n) (by omega) (h:=h) (k:= .i64)
    generalize q7s[n]'(by show n < 7;omega)=nm at hix
    simp only[go_sem,hB,hix]
    refine z1w (k:=10) (z3i hl (by decide) (by decide)) hB rfl hi2 ?_
    rintro v i3 ⟨r3,rfl,_,_⟩ hi3
    simp only[go_sem,hB]
    refine z1w (k:=10) (z3i hl (by decide) (by decide)) hB rfl hi3 ?_
    rintro v i4 ⟨r4,rfl,_,_⟩ hi4
    simp only[go_sem,hB]
    refine z1w (k:=10) (z3i hl (by decide) (by decide)) hB rfl hi4 ?_
    rintro v i5 ⟨r5,rfl,h5,h6⟩ hi5
    obtain⟨m,rfl⟩:∃ k:Nat,r5=k:=⟨r5.toNat,by omega⟩
    have hw:IntKind.i64.wrap (1 + (m:Int))=((1 + m:Nat):Int):=by rw[z0f (by omega) (by omega)];omega
    simp only[go_sem,hB,hw]
    refine z1w (k:=10) (k8e (s:=1 + m) hl (by omega) (by omega)) hB rfl hi5 ?_
    rintro v i6 hv hi6
    obtain⟨a,b,c',d,e,rfl,⟨qa1,qa2,qa3,qa4⟩,⟨qb1,qb2,qb3,qb4⟩,⟨qc1,qc2,qc3,qc4⟩,⟨qd1,qd2,qd3,qd4⟩,⟨qe1,qe2,qe3,qe4⟩⟩:=hv.five
    generalize hx:AV.agg [.str nm, .int .i64 r3, .bool (decide (r4=0)),a,b,c',d,e]=w
    have hcells:z0o 8 [w]=true:=by
     subst hx
     simp[z0o,AV.def?,AV.cells,q9y,j1i,j3t,qa3,qb3,qc3,qd3,qe3]
    have hbs:∀ h,bsV h (.agg [.str [], .int .i64 0, .bool false, .int .i64 0, .bool false, .str [], .sl [] .nil, .sl [] .nil]) 1 [0] [w]=some (.sl [w] .full,h):=fun h=>by
     have hwc:w.cv=w:=by subst hx;simp[AV.cv,cvL,qa1,qb1,qc1,qd1,qe1]
     have:=y8j (h:=h) (z:= .agg [.str [], .int .i64 0, .bool false, .int .i64 0, .bool false, .str [], .sl [] .nil, .sl [] .nil]) (v:=w) rfl (by subst hx;simp[AV.obs,z3y,qa2,qb2,qc2,qd2,qe2]) (by rw[hwc];subst hx;rfl) (by rw[hwc];subst hx;rfl)
     rwa [hwc] at this
    have hwo:w.obs=[]:=by subst hx;simp[AV.obs,z3y,qa2,qb2,qc2,qd2,qe2]
    have hwi:w.ids=[]:=by subst hx;simp[AV.ids,idsL,qa4,qb4,qc4,qd4,qe4]
    simp only[go_sem,hB,hx,hbs]
    rw[append_nil (k:=9) hB rfl hcells (by simp)]
    simp only[go_sem,hB,z0m,z0l,z0g]
    refine⟨by simp[z0v,apart,z0h,z0s,z0w,AOp.isCall,hB,AV.ids,idsL,z2u,hwi,hwo], ?_⟩
    exact fin {tf0 k p q with drops:=[w]} ⟨Nat.zero_le _,Nat.zero_le _,by simp[idsL,hwi]⟩ (.inl rfl) .nil .nil _ _
   ·simp only[go_sem,hB,decide_true,decide_false,Int.reduceEq,List.length_nil,Int.reduceLT,z0m,z0l,z0g]
    exact fin (tf0 k p q) j2v (.inl rfl) .nil .nil .nil _
   ·simp only[go_sem,hB,decide_true,decide_false,Int.reduceEq,List.length_nil,Int.reduceLT,z0m,z0l,z0g]
    exact fin (tf0 k p q) j2v (.inl rfl) .nil .nil .nil _
   ·simp only[go_sem,hB,decide_true,decide_false,Int.reduceEq,List.length_nil,Int.reduceLT,z0m,z0l,z0g]
    exact fin (tf0 k p q) j2v (.inl rfl) .nil .nil .nil _
section
def bsR (h:List AObj) (s g:Nat) (z:AV) (n:Nat) (js:List Nat) (vs:List AV):Option (AV×List AObj):=
 if !z.def? then none else match z7h h vs with
  | some ws=>(z4j z.cells.length (List.replicate n z) js ws).map fun es=>(.ob s g 0 n,(freezeAll h (z3y vs)).set s (.blk g es true false 0))
  | none=>none
section
variable {h:List AObj} {base g clk k n:Nat} {ts:Tmps} {z:AV} {qs:List (Nat×AOpd)} {dst:Option Nat} {os:List AOper} {ks:List Kf} {Q:Post}
theorem y5a:prim h base g ts (.buildSlice k true z n qs)=bsR h (base + k) g z n (qs.map (·.1)) (qs.map fun p=>p.2.ev ts):=by
 simp only[prim,bsR,if_true]
 rfl
theorem v0b:O Gam base .plain g (⟨dst, .buildSlice k true z n qs,none⟩::os) ⟨ts,h,clk⟩ ks Q=PP Gam base (bsR h (base + k) g z n (qs.map (·.1)) (qs.map fun p=>p.2.ev ts)) dst g os ts clk ks Q:=by rw[q4b rfl,y5a]
theorem v0c {N:Nat} {os0:List AOper} {ps:List (Nat×Nat)} {fs:List (List Nat×List Nat)}:O Gam base (.draw N os0 ps fs) g (⟨dst, .buildSlice k true z n qs,none⟩::os) ⟨ts,h,clk⟩ ks Q=PO Gam base (bsR h (base + k) g z n (qs.map (·.1)) (qs.map fun p=>p.2.ev ts)) ([],(base + k)::(z3y (qs.map fun p=>p.2.ev ts)).map (·.1)) (.draw N os0 ps fs) dst g os ts clk ks Q:=by rw[z6v rfl,y5a];rfl
end
attribute [go_sem] v0b v0c
theorem u5t {h:List AObj} {s g:Nat} {z v:AV} (hz:z.def? =true) (ho:v.obs=[]) (hd:v.cv.def? =true) (hl:v.cv.cells.length=z.cells.length):bsR h s g z 1 [0] [v]=some (.ob s g 0 1,h.set s (.blk g [v.cv] true false 0)):=by
 have hc:z7h h [v]=some [v.cv]:=by
  have:=q5h (h:=h) (vs:=[v]) (by simp[z3y,ho])
  simpa [cvL] using this
 simp only[bsR,hz,hc,z4j,hd,hl,z3y,ho,freezeAll,Bool.not_true,Bool.false_eq_true,if_false,List.length_replicate,Nat.lt_one_iff,and_self,if_true,List.append_nil,Option.map_some]
 rfl
theorem x6f {h:List AObj} {s g:Nat} {l:List Int} {n:Nat} {js:List Nat} (hn:l.length=n) (hj:js=List.range n) (h3:n≤3):bsR h s g (.int .i64 0) n js (l.map fun z=> .int .i64 z)=some (.ob s g 0 n,h.set s (.blk g (l.map fun z=> .int .i64 z) true false 0)):=by
 subst hj
 match l,hn with
 | [],h=>subst h;rfl
 | [a],h=>subst h;rfl
 | [a,b],h=>subst h;rfl
 | [a,b,c],h=>subst h;rfl
 | _::_::_::_::_,h=>simp only[List.length_cons] at h;omega
theorem g3r {h:List AObj} {clk:Nat} {Q:AV→List AObj→Nat→Prop} (hQ:∀ (o0 o1 o2 o3:AObj) (g c:Nat),Q (.ob (h.length + 4) g 0 5) (h++[o0,o1,o2,o3, .blk g (z2d.map z1e) true false 0]) c):WC Gam 45 [] h clk Q:=by
 refine z9u rfl g2w rfl rfl rfl (az:=[]) rfl rfl fun D B hB hBh=> ?_
 have b1:∀ h s g a,bsR h s g (.int .i64 0) 1 [0] [.int .i64 a]=some (.ob s g 0 1,h.set s (.blk g [.int .i64 a] true false 0)):=fun h s g a=>x6f (l:=[a]) rfl rfl (by omega)
 have b2:∀ h s g a b,bsR h s g (.int .i64 0) 2 [0,1] [.int .i64 a, .int .i64 b]=some (.ob s g 0 2,h.set s (.blk g [.int .i64 a, .int .i64 b] true false 0)):=fun h s g a b=>x6f (l:=[a,b]) rfl rfl (by omega)
 have b3:∀ h s g a b c,bsR h s g (.int .i64 0) 3 [0,1,2] [.int .i64 a, .int .i64 b, .int .i64 c]=some (.ob s g 0 3,h.set s (.blk g [.int .i64 a, .int .i64 b, .int .i64 c] true false 0)):=fun h s g a b c=>x6f (l:=[a,b,c]) rfl rfl (by omega)
 have b5:∀ (g g0 g1 g2 g3:Nat) (o:AObj),bsR (D++[.blk g0 [.int .i64 2] true false 0, .blk g1 [.int .i64 2, .int .i64 2] true false 0, .blk g2 [.int .i64 1, .int .i64 2, .int .i64 2] true false 0, .blk g3 [.int .i64 3, .int .i64 4] true false 0,o]) (B + 4) g (.agg [.str [], .sl [] .nil, .int .i64 0]) 5 [0,1,2,3,4] [.agg [.str [80], .ob (B + 0) g0 0 1, .int .i64 1], .agg [.str [81], .ob (B + 1) g1 0 2, .int .i64 1], .agg [.str [82], .ob (B + 2) g2 0 3, .int .i64 1], .agg [.str [90], .sl [] .nil, .int .i64 1], .agg [.str [83], .ob (B + 3) g3 0 2, .int .i64 1]]=some (.ob (B + 4) g 0 5,D++[.blk g0 [.int .i64 2] true false 1, .blk g1 [.int .i64 2, .int .i64 2] true false 2, .blk g2 [.int .i64 1, .int .i64 2, .int .i64 2] true false 3, .blk g3 [.int .i64 3, .int .i64 4] true false 2, .blk g (z2d.map z1e) true false 0]):=fun g g0 g1 g2 g3 o=>by
  have l0:∀ (L:List AObj) (g:Nat),z1s (D++L) B g=z1s L 0 g:=fun L g=>z2i (k:=0) hB
  have l1:∀ (L:List AObj),(D++L)[B]? =L[0]? :=fun L=>z2v (k:=0) hB
  have l2:∀ (L:List AObj) (o:AObj),(D++L).set B o=D++L.set 0 o:=fun L o=>z1t (k:=0) hB
  simp[bsR,z7h,conv,q0r,l0,l1,l2,z2i hB,z2v hB,z1t hB,j4h,j4i,freezeAll,z3y,AV.obs,z4j,AV.def?,AV.cells,z2d,z1e,nat]
 simp only[go_sem,u7w,hB,b1,b2,b3]
 rw[b5]
 simp only[go_sem,hB]
 refine⟨fun _=>by simp,_,_,k1f.trans rfl,rfl, .inr ⟨⟨B + 4,by simp[z1l,AV.ids,z0c],by omega⟩, ?_⟩⟩
 subst hBh
 exact hQ _ _ _ _ _ _
def y8o {α:Type} (enc:α→AV) (B k:Nat) (cv:AV) (o:AObj) (cs:List α):Prop:=(cv= .sl [] .nil∧cs=[])∨∃ g,cv= .ob (B + k) g 0 cs.length∧o= .blk g (cs.map enc) true true 0∧cs≠[]
abbrev ClRow:=y8o z0e
theorem q6t {α:Type} {enc:α→AV} {e b:Nat} {D L:List AObj} {B k j gen g:Nat} {cs:List α} {c:α} {cv:AV} {o:AObj} (hx:∀ l:List α,z0o e (l.map enc)=true) (hB:D.length=B) (hk:L[k]? =some o) (hj:L[j]? =some (.blk g [enc c] true false 0)) (hc:y8o enc B k cv o cs) (hl:cs.length≤1000000) (hb:b≤1000):
  z0n (D++L) (B + k) gen e b true cv (.ob (B + j) g 0 1)=some (.ob (B + k) gen 0 (cs++[c]).length,D++L.set k (.blk gen ((cs++[c]).map enc) true true 0)):=by
 have hs:z4e (D++L) (.ob (B + j) g 0 1)=some ([c].map enc):=q1g hB hj rfl
 have h1:z0o e ([c].map enc)=true:=hx _
 have h2:z0o e (cs.map enc)=true:=hx _
 have h0:z0o e []=true:=rfl
 have ee:(cs++[c]).map enc=cs.map enc++[c].map enc:=List.map_append
 have hy:([c].map enc).length=1:=rfl
 have hz:([c].map enc).isEmpty=false:=rfl
 have hgt:¬ (cs.length + 1) * (b + 1) > z1c:=by
  have:(cs.length + 1) * (b + 1)≤1000001 * 1001:=Nat.mul_le_mul (by omega) (by omega)
  unfold z1c
  omega
 rw[ee]
 generalize [c].map enc=ys at *
 rcases hc with ⟨rfl,rfl⟩ | ⟨g',rfl,rfl,hne⟩
 ·match ys,hy with
  | [y],_=>
    simp only[List.length_nil,Nat.zero_add,Nat.one_mul] at hgt
    simp only[z0n,hs,h1,h0,Bool.not_true,Bool.false_eq_true,if_false,List.length_nil,List.length_singleton,Nat.zero_add,Nat.one_mul,hgt,decide_false,Bool.or_false,List.nil_append,z1t hB,if_true]
    rfl
 ·have hb':z1s (D++L) (B + k) g'=some (cs.map enc,true,true,0):=by rw[z2i hB];exact z2g hk
  have h3:0 < cs.length:=List.length_pos_iff.2 hne
  have ht:List.take cs.length (cs.map enc)=cs.map enc:=List.take_of_length_le (by simp)
  simp[z0n,hs,h1,h2,hb',hy,hz,z1t hB,hgt,h3,ht,Nat.not_lt.1 hgt]
end
section
theorem x4b:∀ {os:List (Nat×Nat)} {h:List AObj} {s:Nat},((freezeAll h os)[s]?).map AObj.ids=(h[s]?).map AObj.ids
 | [],_,_=>rfl
 | o::os,h,s=>by
   simp only[freezeAll]
   rw[x4b]
   split
   ·rename_i g es row grow fz he
    by_cases hs:o.1=s
    ·subst hs
     have hlt:o.1 < h.length:=by
      rw[List.getElem?_eq_some_iff] at he
      exact he.1
     rw[List.getElem?_set_self hlt,he]
     rfl
    ·rw[List.getElem?_set_ne hs]
   ·rfl
theorem q7t {h:List AObj} {os:List (Nat×Nat)}:∀ {n:Nat} {seen z7k:List Nat},reach (freezeAll h os) n seen z7k=reach h n seen z7k
 | 0,_,_=>rfl
 | _ + 1,_,[]=>rfl
 | n + 1,seen,s::z7k=>by
   simp only[reach,x4b,q7t]
theorem q8m {h:List AObj}:∀ {n:Nat} {seen z7k:List Nat},(seen≠[]∨z7k≠[])→(reach h n seen z7k).isEmpty=false
 | 0,seen,z7k,hn=>by
   rw[reach]
   rcases hn with hn | hn
   ·cases seen with
    | nil=>exact absurd rfl hn
    | cons a l=>rfl
   ·cases seen with
    | nil=>
      cases z7k with
      | nil=>exact absurd rfl hn
      | cons a l=>rfl
    | cons a l=>rfl
 | _ + 1,seen,[],hn=>by
   show seen.isEmpty=false
   rcases hn with hn | hn
   ·cases seen with
    | nil=>exact absurd rfl hn
    | cons a l=>rfl
   ·exact absurd rfl hn
 | n + 1,seen,s::z7k,hn=>by
   rw[reach]
   split
   ·rename_i hc
    refine q8m (.inl fun e=> ?_)
    subst e
    simp at hc
   ·exact q8m (.inl (by simp))
section
variable {f:Nat} {args az:List AV} {h:List AObj} {clk:Nat} {af:AFun}
theorem j5v {k:Nat} (hext:Gam.ext f=none) (hfn:Gam.fn f=some af) (hb:af.byref=[]) (hpa:z1d h [] 0 args=some az) (hcv:cvL az=az) (hobs:z3y az=[]) (hne:idsL az≠[]):z5f Gam k f args h clk=z5f Gam k f az (freezeAll h (z0p [] 0 args)) clk:=by
 have hpa2:z1d (freezeAll h (z0p [] 0 args)) [] 0 az=some az:=by rw[z1o hobs,hcv]
 have hl2:z0p [] 0 az=[]:=z5a hobs
 have hT:∀ n,(reach h n [] (idsL az)).isEmpty=false:=fun n=>q8m (.inr hne)
 unfold z5f z0q
 simp only[hext,hfn,hb,hpa,hpa2,hl2,freezeAll,q6o,q7t,hT,Bool.and_false,Bool.false_eq_true,if_false]
theorem w3p (hext:Gam.ext f=none) (hfn:Gam.fn f=some af) (hb:af.byref=[]) (hpa:z1d h [] 0 args=some az) (hcv:cvL az=az) (hobs:z3y az=[]):z0z Gam f args h=(z3y args).map (·.1)++z0z Gam f az h:=by
 have hpa2:z1d h [] 0 az=some az:=by rw[z1o hobs,hcv]
 unfold z0z
 simp only[hext,hfn,hb,hpa,hpa2,hobs,List.map_nil,List.nil_append]
end
theorem k4r {l:List Int} {f B k g i j gq n fz clk gg:Nat} {w b:Bool} {R:AV→Prop} {es:List AV} {D L:List AObj} {af:AFun} {m:Md} {dst:Option Nat} {os:List AOper} {ts:Tmps} {ks:List Kf} {Q:Post} (hg:GenOk l f [.sl (es.take n) .no, .bool b] R) (hext:Gam.ext f=none) (hfn:Gam.fn f=some af) (hbr:af.byref=[]) (hB:D.length=B) (hk:L[k]? =some (z3v g l i)) (hj:L[j]? =some (.blk gq es true w fz)) (hkj:k≠j) (hn:n≤es.length) (hi:i≤l.length)
  (hQ:∀ v i',R v→i'≤l.length→O Gam B (m.add ([B + j,B + k],[B + j,B + k])) (gg + 1) os ⟨z8c ts dst v,D++(L.set j (.blk gq es true w (max fz n))).set k (z3v g l i'),clk⟩ ks Q):
  CK Gam B f [.ptr (B + k) g 0 0, .ob (B + j) gq 0 n, .bool b] (D++L) clk m dst gg os ts ks Q:=by
 have hbl:z1s (D++L) (B + j) gq=some (es,true,w,fz):=by rw[z2i hB];exact z2g hj
 have hrow:q0r (D++L) (B + j) gq 0 n=some (es.take n):=by
  simp only[q0r,hbl,Nat.zero_add,hn,if_true,List.drop_zero]
 have hpa:z1d (D++L) [] 0 [.ptr (B + k) g 0 0, .ob (B + j) gq 0 n, .bool b]=some [.ptr (B + k) g 0 0, .sl (es.take n) .no, .bool b]:=by
  simp[z1d,conv,hrow]
 have hlent:z0p [] 0 [.ptr (B + k) g 0 0, .ob (B + j) gq 0 n, .bool b]=[(B + j,n)]:=by simp[z0p,AV.obs]
 have hjl:j < L.length:=by
  rw[List.getElem?_eq_some_iff] at hj
  exact hj.1
 have hfz:freezeAll (D++L) [(B + j,n)]=D++L.set j (.blk gq es true w (max fz n)):=by
  simp only[freezeAll,z2v hB,hj,z1t hB]
 have hk':(L.set j (.blk gq es true w (max fz n)))[k]? =some (z3v g l i):=by rw[List.getElem?_set_ne (Ne.symm hkj)];exact hk
 have hD1:(D++L.set j (.blk gq es true w (max fz n)))[B + k]? =some (z3v g l i):=by rw[z2v hB];exact hk'
 have hD0:(D++L)[B + k]? =some (z3v g l i):=by rw[z2v hB];exact hk
 have hcv:cvL [AV.ptr (B + k) g 0 0, .sl (es.take n) .no, .bool b]=[.ptr (B + k) g 0 0, .sl (es.take n) .no, .bool b]:=rfl
 have hob:z3y [AV.ptr (B + k) g 0 0, .sl (es.take n) .no, .bool b]=[]:=rfl
 obtain⟨_,hft⟩:=hg (D++L) (B + k) g i clk (fun _ _ _=>True) hD0 hi (fun _ _ _ _=>trivial)
 obtain⟨⟨kf,v,h',c,hc,i',hi',hR,rfl,rfl⟩,_⟩:=hg (D++L.set j (.blk gq es true w (max fz n))) (B + k) g i clk (fun v h' c=>∃ i',i'≤l.length∧R v∧h'=(D++L.set j (.blk gq es true w (max fz n))).set (B + k) (z3v g l i')∧c=clk) hD1 hi (fun v i' h1 h2=>⟨i',h1,h2,rfl,rfl⟩)
 have hF:z0z Gam f [.ptr (B + k) g 0 0, .ob (B + j) gq 0 n, .bool b] (D++L)=[B + j,B + k]:=by
  rw[w3p hext hfn hbr hpa hcv hob,hft]
  simp[z3y,AV.obs]
 have hcall:=j5v (k:=kf) (clk:=c) hext hfn hbr hpa hcv hob (by simp[idsL,AV.ids])
 rw[hlent,hfz] at hcall
 refine⟨kf,v,_,c,by rw[hcall];exact hc, ?_⟩
 dsimp only
 refine x9a (f':=([B + j,B + k],[B + j,B + k])) ?_ ?_ ?_
 ·rw[hF];exact fun x hx=>hx
 ·rw[hF];exact fun x hx=>(List.mem_filter.1 hx).1
 ·rw[z1t hB]
  exact hQ v i' hR hi'
end
end Go.Proofs.YtdfepmffiampgaaGreatDoor.Am
