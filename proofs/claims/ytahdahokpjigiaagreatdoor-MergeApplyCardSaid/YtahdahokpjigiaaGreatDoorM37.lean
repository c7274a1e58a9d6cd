/- Walking: the reference merges Walking: ApplyMerge; what merging checks Walking: predicates are merged Walking: predicates are merged Walking: a system with a copy of its first predicate Walking: a sys -/
import Derived.Test.YtahdahokpjigiaaGreatDoorM36
set_option linter.all false
namespace Go.Proofs.YtahdahokpjigiaaGreatDoor.Am
open Go
set_option maxRecDepth 100000
section
theorem CmpC.small {c:Clause} (h:CmpC c):SmallC c:=⟨by have:=h.body;omega,fun a ha=>⟨by have:=(h.atoms a ha).1;omega,fun t ht=>by have:=(h.atoms a ha).2 t ht;omega⟩,⟨by have:=h.head.1;omega,fun t ht=>by have:=h.head.2 t ht;omega⟩,by have:=h.vars;omega,by have:=h.guard;omega⟩
section
variable {D L:List AObj} {B k g i n:Nat} {es:List Int}
theorem g0m (hB:D.length=B) (hL:L[k]? =some (.blk g (z9y es) true false 0)) (hi:i < es.length):q1u (D++L) none (.ptr (B + k) g i 0)=some (.int .i64 es[i],D++L):=by
 rw[j9h,z6w hB,z5z hL]
 simp[k5q hi,j6f,q9b]
theorem u8e (hB:D.length=B) (hL:L[k]? =some (.blk g (z9y es) true false 0)) (hn:es.length=n) (hi:i < n):z1m (D++L) 1 (.ob (B + k) g 0 n) (.int .i64 (i:Int))=some (.ptr (B + k) g i 0,D++L):=
 z8z hB hL (k5q (by omega)) rfl hi
theorem u8a {z:Int} (hB:D.length=B) (hL:L[k]? =some (.blk g (z9y es) true false 0)) (hi:i < es.length):z8s (D++L) 1 (.int .i64 z) (.ptr (B + k) g i 0)=some (.undef,D++L.set k (.blk g (z9y (es.set i z)) true false 0)):=by
 rw[z8y hB hL (k5q hi),show (z9y es).set i (.int .i64 z)=z9y (es.set i z) by simp[z9y,List.map_set]]
end
theorem u7u {s:Sys} {x:Tf} {B clk g0 gx g2 g9 g6:Nat} {D:List AObj} {o4 o5 o7 o8:AObj} {pv:AV} {ts:Tmps} {ks:List Kf} {Q:Post} (hB:D.length=B) (hcl:s.clauses.length≤1000) (hcs:∀ c∈s.clauses,CmpC c) (h2:ts 2= .ptr (B + 0) g0 0 0) (h3:ts 3= .ptr (B + 1) gx 0 0) (h4:ts 4= .ptr (B + 2) g2 0 0) (h9:ts 9= .ptr (B + 3) g9 0 0) (h11:ts 11= .ob (B + 6) g6 0 s.clauses.length) (h12:ts 12= .int .i64 0)
  (hok:∀ (es:List Int) (ts':Tmps) (t:Tip) (o7 o8:AObj) (clk':Nat),es.length=s.clauses.length→ts' 2= .ptr (B + 0) g0 0 0→ts' 3= .ptr (B + 1) gx 0 0→ts' 4= .ptr (B + 2) g2 0 0→ts' 9= .ptr (B + 3) g9 0 0→ts' 11= .ob (B + 6) g6 0 s.clauses.length→K Gam B (.exit 2) ks ⟨ts',D++H41 g0 gx g2 g9 s x pv (.sl ((u6s x s.clauses).map z0f) t) [o4,o5, .blk g6 (z9y es) true false 0,o7,o8],clk'⟩ Q):
  K Gam B (.loop u9c) ks ⟨ts,D++H41 g0 gx g2 g9 s x pv (.sl [] .nil) [o4,o5, .blk g6 (List.replicate s.clauses.length (.int .i64 0)) true false 0,o7,o8],clk⟩ Q:=by
 refine z6z s.clauses.length (by omega) (fun i q=>∃ (es:List Int) (t:Tip) (o7 o8:AObj),es.length=s.clauses.length∧q.ts 2= .ptr (B + 0) g0 0 0∧q.ts 3= .ptr (B + 1) gx 0 0∧q.ts 4= .ptr (B + 2) g2 0 0∧q.ts 9= .ptr (B + 3) g9 0 0∧q.ts 11= .ob (B + 6) g6 0 s.clauses.length∧q.ts 12= .int .i64 (i:Int)∧q.h=D++H41 g0 gx g2 g9 s x pv (.sl ((u6s x (s.clauses.take i)).map z0f) t) [o4,o5, .blk g6 (z9y es) true false 0,o7,o8]∧z8k B 8 o8 t 5) ⟨List.replicate s.clauses.length 0, .nil,o7,o8,by simp,h2,h3,h4,h9,h11,h12,by simp[z9y,u6s], .inl rfl⟩ ?_ ?_
 ·clear h2 h3 h4 h9 h11 h12
  rintro i hlt f1 f2 ts h clk P ⟨es,t,o7,o8,hes,q2,q3,q4,q9,q11,q12,rfl,ht⟩ hnx he hr
  dsimp only at q2 q3 q4 q9 q11 q12
  have hix:=fun h=>z8l (l:=s.clauses) (i:=i) (h:=h) (t:= .no) (k:= .i64) hlt
  have hkp:=u7j (x:=x) hlt
  have hkl:(u6s x (s.clauses.take i)).length≤1000:=Nat.le_trans u7d (by rw[List.length_take];omega)
  have hC:=hcs _ (List.getElem_mem hlt)
  generalize s.clauses[i]=c at *
  by_cases hip:c.head.pred=x.pred
  ·rw[if_pos hip,List.append_nil] at hkp
   simp only[go_sem,u9c,H41,z0x,eTf,q2,q3,q4,q9,q11,q12,hB,f1,f2,List.length_map,hix,decide_eq_true hip,Bool.not_true]
   exact hnx _ ⟨es,t,_,_,hes,q2,q3,q4,q9,q11,rfl,by rw[hkp];rfl,ht⟩
  ·rw[if_neg hip] at hkp
   have p1:=u9i (p:=x.pred) (q:=x.into) hC.body
   generalize u6m x.pred x.into c=c' at *
   have e8:(u6s x (s.clauses.take i)).map z0f++[c'].map z0f=(u6s x (s.clauses.take (i + 1))).map z0f:=by rw[hkp,List.map_append]
   have i1:∀ L:List AObj,L[6]? =some (.blk g6 (z9y es) true false 0)→z1m (D++L) 1 (.ob (B + 6) g6 0 s.clauses.length) (.int .i64 (i:Int))=some (.ptr (B + 6) g6 i 0,D++L):=fun L h=>u8e hB h hes hlt
   have i2:∀ (L:List AObj) (z:Int),L[6]? =some (.blk g6 (z9y es) true false 0)→z8s (D++L) 1 (.int .i64 z) (.ptr (B + 6) g6 i 0)=some (.undef,D++L.set 6 (.blk g6 (z9y (es.set i z)) true false 0)):=fun L z h=>u8a hB h (by omega)
   simp only[z0f,z0l] at p1
   simp only[go_sem,u9c,H41,z0x,eTf,q2,q3,q4,q9,q11,q12,hB,f1,z1i,List.length_map,hix,decide_eq_false hip,Bool.not_false,i1,i2,z0a p1]
   rw[show [AV.agg [.sl (c'.vars.map z1b) .no, .sl (c'.body.map z3x) .no, .sl (c'.guard.map eNode) .no, .str c'.head.pred, .sl (c'.head.args.map z0l) .no]]=[c'].map z0f from rfl,z0j hB rfl ht z3l z3l (by simp only[List.length_map,List.length_singleton];omega),e8]
   simp only[go_sem,q2,q3,q4,q9,q11,q12,hB,f2]
   refine⟨by simp[z1f,apart,z0i,z1d,z1h,AOp.isCall,hB,AV.ids,idsL,z0c z2j,z0c z1z,z0c z2b,z0c z4w,z0c z1y,z0c z2q], ?_⟩
   exact hnx _ ⟨_,_,_,_,by rw[List.length_set,hes],q2,q3,q4,q9,q11,rfl,rfl, .inr (.inr ⟨_,rfl,rfl⟩)⟩
 ·clear h2 h3 h4 h9 h11 h12
  rintro f1 ts h clk P ⟨es,t,o7,o8,hes,q2,q3,q4,q9,q11,q12,rfl,ht⟩ he hr
  dsimp only at q2 q3 q4 q9 q11 q12
  rw[List.take_length]
  simp only[go_sem,u9c,H41,z0x,q2,q3,q4,q9,q11,q12,hB,f1,List.length_map]
  exact he _ _ (hok es _ t _ _ _ hes (by simp[z0b,q2]) (by simp[z0b,q3]) (by simp[z0b,q4]) (by simp[z0b,q9]) (by simp[z0b,q11]))
theorem u8f {a b:List Nat} {n B clk g6:Nat} {D L:List AObj} {es:List Int} {v4 v9:AV} {ts:Tmps} {ks:List Kf} {Q:Post} (hB:D.length=B) (hL:L[6]? =some (.blk g6 (z9y es) true false 0)) (hes:es.length=n) (hn:n≤1000) (hal:a.length≤1000) (hab:a.length=b.length) (ha:∀ j∈a,j < n) (hb:∀ j∈b,j < n) (h4:ts 4=v4) (h9:ts 9=v9) (h11:ts 11= .ob (B + 6) g6 0 n) (h13:ts 13= .sl (a.map nat) .no) (h14:ts 14= .sl (b.map nat) .no) (h15:ts 15= .int .i64 0)
  (hok:∀ (es:List Int) (ts':Tmps) (clk':Nat),es.length=n→ts' 4=v4→ts' 9=v9→ts' 11= .ob (B + 6) g6 0 n→K Gam B (.exit 4) ks ⟨ts',D++L.set 6 (.blk g6 (z9y es) true false 0),clk'⟩ Q):
  K Gam B (.loop g0g) ks ⟨ts,D++L,clk⟩ Q:=by
 have h6:6 < L.length:=by
  rw[List.getElem?_eq_some_iff] at hL
  exact hL.1
 have hLe:L=L.set 6 (.blk g6 (z9y es) true false 0):=by
  refine List.ext_getElem? fun j=> ?_
  by_cases h:j=6
  ·subst h;rw[hL,List.getElem?_set_self h6]
  ·rw[List.getElem?_set_ne (fun e=>h e.symm)]
 refine z6z a.length (by omega) (fun i q=>∃ es:List Int,es.length=n∧q.ts 4=v4∧q.ts 9=v9∧q.ts 11= .ob (B + 6) g6 0 n∧q.ts 13= .sl (a.map nat) .no∧q.ts 14= .sl (b.map nat) .no∧q.ts 15= .int .i64 (i:Int)∧q.h=D++L.set 6 (.blk g6 (z9y es) true false 0)) ⟨es,hes,h4,h9,h11,h13,h14,h15,by rw[←hLe]⟩ ?_ ?_
 ·clear h4 h9 h11 h13 h14 h15 hLe hL hes
  rintro i hlt f1 f2 ts h clk P ⟨es,hes,q4,q9,q11,q13,q14,q15,rfl⟩ hnx he hr
  dsimp only at q4 q9 q11 q13 q14 q15
  have hlt2:i < b.length:=by omega
  have hx:=fun h=>q9k (l:=a) (i:=i) (h:=h) (t:= .no) (k:= .i64) hlt
  have hy:=fun h=>q9k (l:=b) (i:=i) (h:=h) (t:= .no) (k:= .i64) hlt2
  have hu:=ha _ (List.getElem_mem hlt)
  have hv:=hb _ (List.getElem_mem hlt2)
  simp only[nat] at hx hy
  generalize a[i]=u at *
  generalize b[i]=v at *
  have hLs:(L.set 6 (.blk g6 (z9y es) true false 0))[6]? =some (.blk g6 (z9y es) true false 0):=List.getElem?_set_self h6
  have e1:=u8e (D:=D) (L:=L.set 6 (.blk g6 (z9y es) true false 0)) hB hLs hes hv
  have e2:=g0m (D:=D) (L:=L.set 6 (.blk g6 (z9y es) true false 0)) hB hLs (i:=v) (by omega)
  have e3:=u8e (D:=D) (L:=L.set 6 (.blk g6 (z9y es) true false 0)) hB hLs hes hu
  have e4:=u8a (D:=D) (L:=L.set 6 (.blk g6 (z9y es) true false 0)) (z:=es[v]) hB hLs (i:=u) (by omega)
  rw[List.set_set] at e4
  have hlen:(es.set u es[v]).length=n:=by rw[List.length_set,hes]
  generalize es.set u es[v]=es' at *
  generalize es[v]=z at *
  generalize hLL:L.set 6 (.blk g6 (z9y es) true false 0)=LL at *
  generalize hMM:L.set 6 (.blk g6 (z9y es') true false 0)=MM at *
  simp only[go_sem,g0g,q4,q9,q11,q13,q14,q15,f1,f2,List.length_map,hx,hy,e1,e2,e3,e4]
  exact hnx _ ⟨es',hlen,q4,q9,q11,q13,q14,rfl,by rw[hMM]⟩
 ·clear h4 h9 h11 h13 h14 h15 hLe hL hes
  rintro f1 ts h clk P ⟨es,hes,q4,q9,q11,q13,q14,q15,rfl⟩ he hr
  dsimp only at q4 q9 q11 q13 q14 q15
  simp only[go_sem,g0g,q13,q15,f1,List.length_map]
  exact he _ _ (hok es _ _ hes (by simp[z0b,q4]) (by simp[z0b,q9]) (by simp[z0b,q11]))
theorem g6m {s:Sys} {x:Tf} {h:List AObj} {clk:Nat} {Q:AV→List AObj→Nat→Prop} (hs:SysV s) (hcs:∀ c∈s.clauses,CmpC c) (hx:TfS x) (hQ:∀ idx:List Int,Q (.tup [z0x (u6f s x).1, .sl (z9y idx) .no, .int .i64 (u6f s x).2]) h clk):WC Gam 41 [z0x s,eTf x] h clk Q:=by
 have p28:=k2s hs
 have p81:=g1t hx.ok
 have p1:=q3e (s:=s) (nm:=x.pred) (by have:=hs.pl;omega)
 have p2:=q3e (s:=s) (nm:=x.into) (by have:=hs.pl;omega)
 have n1:=j7b (ps:=s.preds) (nm:=x.pred)
 have n2:=j7b (ps:=s.preds) (nm:=x.into)
 have hpl:=hs.pl
 have hcl:=hs.len
 have hnd:=hs.pr.nodup
 have hpa:∀ f∈s.preds,f.args.length≤20000:=fun f hf=>by have:=(hs.pr.args f hf).1;omega
 rw[z0x] at p28 p1 p2
 rw[eTf] at p81
 refine q5x rfl g6h rfl rfl rfl (az:=[z0x s,eTf x]) rfl (by simp[idsL,z2c,z6y hx.ok]) fun D B T hB hT=> ?_
 have fin:∀ e:Int,u6f s x=(x0n,e)→∀ h',RV [] (some [AV.agg [.sl [] .nil, .sl [] .nil], .sl [] .nil, .int .i64 e]) (fun v h'=>T v h') h':=fun e he h'=>by
  have:=hQ []
  rw[he] at this
  rw[z0h rfl (by simp[z1k,AV.cv,cvL,AV.ids,idsL])]
  exact hT _ _ this
 cases hu:u6v x <;> rw[hu] at p81
 ·simp only[go_sem,g1x,hB,z0x,eTf,z0a p28,z0a p81,Bool.not_true,Bool.not_false,z0n,z0m,z0g]
  exact fin _ (u6k hu) _
 by_cases hp:x.pred∈s.preds.map (·.name)
 case neg=>
  rw[decide_eq_false hp] at n1
  simp only[go_sem,g1x,hB,z0x,eTf,z0a p28,z0a p81,Bool.not_true,z1i,z0a p1,z0a p2]
  refine⟨by simp[z1f,apart,z0i,z1d,z1h,AOp.isCall,hB,AV.ids,idsL,z0c z2j,z0c z1z], ?_⟩
  simp only[go_sem,hB,n1,Bool.not_false,z0n,z0m,z0g]
  exact fin _ (u6i hu fun ⟨f,g,hf,_,h,_⟩=>hp (h ▸ List.mem_map.2 ⟨f,hf,rfl⟩)) _
 rw[decide_eq_true hp] at n1
 by_cases hq:x.into∈s.preds.map (·.name)
 case neg=>
  rw[decide_eq_false hq] at n2
  simp only[go_sem,g1x,hB,z0x,eTf,z0a p28,z0a p81,Bool.not_true,z1i,z0a p1,z0a p2]
  refine⟨by simp[z1f,apart,z0i,z1d,z1h,AOp.isCall,hB,AV.ids,idsL,z0c z2j,z0c z1z], ?_⟩
  simp only[go_sem,hB,n1,n2,Bool.not_true,Bool.not_false,z0n,z0m,z0g]
  exact fin _ (u6i hu fun ⟨f,g,_,hg,_,h,_⟩=>hq (h ▸ List.mem_map.2 ⟨g,hg,rfl⟩)) _
 rw[decide_eq_true hq] at n2
 obtain⟨i,hi,hi1,hi2⟩:=u6w hp
 obtain⟨k,hk,hk1,hk2⟩:=u6w hq
 have p3:=g1d (s:=s) (i:=i) (k:=k) (by omega) hcs hnd hpa (by omega) hi hk
 rw[z0x,nat,nat] at p3
 rw[hi2] at p1 n1
 rw[hk2] at p2 n2
 have hM:MOk s x↔u6n s s.preds[i] s.preds[k]=true:=by
  refine⟨fun ⟨f,g,hf,hg,h1,h2,h3⟩=> ?_,fun h=>⟨_,_,List.getElem_mem hi,List.getElem_mem hk,hi1,hk1,h⟩⟩
  rw[←u7c hnd hi hf (by rw[hi1,h1]),←u7c hnd hk hg (by rw[hk1,h2])]
  exact h3
 cases hm:u6n s s.preds[i] s.preds[k] with
 | false=>
   rw[hm] at p3
   simp only[go_sem,g1x,hB,z0x,eTf,z0a p28,z0a p81,Bool.not_true,z1i,z0a p1,z0a p2]
   refine⟨by simp[z1f,apart,z0i,z1d,z1h,AOp.isCall,hB,AV.ids,idsL,z0c z2j,z0c z1z], ?_⟩
   simp only[go_sem,hB,n1,n2,z0a p3,Bool.not_true,Bool.not_false,z0n,z0m,z0g]
   exact fin _ (u6i hu fun h=>by rw[hM.1 h] at hm;cases hm) _
 | true=>
   have hok:=hM.2 hm
   rw[hm] at p3
   have hT':=hQ
   rw[u6l hu hok] at hT'
   simp only[go_sem,g1x,hB,z0x,eTf,z0a p28,z0a p81,Bool.not_true,z1i,z0a p1,z0a p2]
   refine⟨by simp[z1f,apart,z0i,z1d,z1h,AOp.isCall,hB,AV.ids,idsL,z0c z2j,z0c z1z], ?_⟩
   simp only[go_sem,hB,n1,n2,z0a p3,Bool.not_true]
   have hml:(cls s x.pred).length=(cls s x.into).length:=by
    unfold u6n at hm
    simp only[Bool.and_eq_true,decide_eq_true_iff] at hm
    have:=congrArg List.length hm.2
    simpa [hi1,hk1] using this
   refine u8d (s:=s) (x:=x) (p0:=i) (v8:= .int .i64 (k:Int)) hB (by omega) hnd hi hi1 (by simp[z0b]) (by simp[z0b]) (by simp[z0b]) (by simp[z0b]) (by simp[z0b]) (by simp[z0b]) (by simp[z0b]) fun ts2 tp o4 o5 clk2 r2 r3 r4 r9=> ?_
   simp only[go_sem,H41,z0x,hB,r2,r3,r4,r9,List.length_map,q4y (z:= .int .i64 0) (n:=s.clauses.length) (b:=8) rfl (by omega)]
   refine u7u (s:=s) (x:=x) hB (by omega) hcs (by simp[z0b,r2]) (by simp[z0b,r3]) (by simp[z0b,r4]) (by simp[z0b,r9]) (by simp[z0b]) (by simp[z0b]) fun es ts3 t o7 o8 clk3 hes q2 q3 q4 q9 q11=> ?_
   have c1:=u8n (s:=s) (a:=x.pred) (by omega)
   have c2:=u8n (s:=s) (a:=x.into) (by omega)
   rw[z0x] at c1 c2
   simp only[go_sem,H41,z0x,eTf,hB,q2,q3,q4,q9,q11,z1i,z0a c1,z0a c2]
   refine⟨by simp[z1f,apart,z0i,z1d,z1h,AOp.isCall,hB,AV.ids,idsL,z0c z2j,z0c z1z], ?_⟩
   refine u8f (n:=s.clauses.length) (a:=cls s x.pred) (b:=cls s x.into) hB rfl hes (by omega) (Nat.le_trans u6z (by omega)) hml (fun j hj=>u7h hj) (fun j hj=>u7h hj) (by simp[z0b,q4];rfl) (by simp[z0b,q9];rfl) (by simp[z0b,q11]) (by simp[z0b]) (by simp[z0b]) (by simp[z0b]) fun es ts4 clk4 hes q4 q9 q11=> ?_
   have p83:∀ u v,Pure Gam 99 [.agg [.sl ((u6q x s.preds).map z0q) u, .sl ((u6s x s.clauses).map z0f) v]] (z0x (merged s x)):=fun u v=>y0i (s:=merged s x) (u:=u) (v:=v) (by have:=u6x (x:=x) (ps:=s.preds);simp only[merged];omega) (fun f hf=>by have:=hpa f (List.mem_filter.1 hf).1;omega) (by have:=u7d (x:=x) (cs:=s.clauses);simp only[merged];omega) fun c hc=>by
    obtain⟨d,hd,rfl⟩:=List.mem_map.1 hc
    have:=u7s (p:=x.pred) (q:=x.into) (hcs d (List.mem_filter.1 hd).1)
    exact this.small
   simp only[go_sem,H41,z0x,hB,q4,q9,q11]
   rw[z0a (p83 _ _)]
   simp only[go_sem,z0x,hB,q4,q9,q11,z0n,z0m,z0g]
   refine⟨_,k8a (z9a hB rfl (by rw[z5r,hes])), ?_,rfl, ?_⟩
   ·simp[AV.ids,idsL,z8d,z0c z2j,z0c z1z]
   ·exact hT _ _ (hT' es)
end
theorem g1e {s:Sys} {x:Tf} (hs:SysV s) (hcs:∀ c∈s.clauses,CmpC c) (hx:TfS x):Pure Gam 11 [z0x s,eTf x] (.tup [z0x (u6f s x).1, .int .i64 (u6f s x).2]):=by
 refine Pure.of rfl g6i rfl rfl rfl (az:=[z0x s,eTf x]) rfl (by simp[idsL,z2c,z6y hx.ok]) fun D B clk T hB hT=> ?_
 have h41:=fun h clk Q=>g6m (s:=s) (x:=x) (h:=h) (clk:=clk) (Q:=Q) hs hcs hx
 rw[z0x,eTf,z0x] at h41
 simp only[go_sem,g4x,hB,z0x,eTf]
 refine z6f (h41 _ _ _ fun idx=> ?_)
 simp only[go_sem,hB,z0n,z0m,z0g]
 rw[z0h rfl (by simp[z1k,AV.cv,cvL,AV.ids,idsL,z0c z2j,z0c z1z])]
 exact hT _
theorem g1u {s:Sys} {x:Tf} (hs:SysV s) (hx:TfOk x):Pure Gam 91 [z0x s,eTf x, .int .i64 6,eTf {x with pred:=[],into:=[]}] (.bool (u6v x)):=by
 have hp:=k1z hs
 rw[z0x] at hp
 have hr:TfOk {x with pred:=[],into:=[]}:=⟨hx.un,hx.und,hx.drops⟩
 have hls:∀ l:List (List Nat),decide (((z1t l).length:Int)=0)=decide (l=[]):=fun l=>by rw[z1t,List.length_map,u8o]
 refine Pure.of rfl y1y rfl rfl rfl (az:=[z0x s,eTf x, .int .i64 6,eTf {x with pred:=[],into:=[]}]) rfl (by simp[idsL,z2c,z6y hx,z6y hr,AV.ids]) fun D B clk T hB hT=> ?_
 unfold u6v at hT
 cases b1:decide (x.kind=6) <;> rw[b1] at hT
 ·simp only[go_sem,v1e,hB,z0x,eTf,b1]
  rw[z0e]
  exact hT _
 cases b2:decide (x.clause=0) <;> rw[b2] at hT
 ·simp only[go_sem,v1e,hB,z0x,eTf,b1,b2,decide_true,z0a hp]
  rw[z0e]
  exact hT _
 cases b3:decide (x.atom=0) <;> rw[b3] at hT
 ·simp only[go_sem,v1e,hB,z0x,eTf,b1,b2,b3,decide_true,z0a hp]
  rw[z0e]
  exact hT _
 cases b4:decide (x.un=[]) <;> rw[b4] at hT
 ·simp only[go_sem,v1e,hB,z0x,eTf,b1,b2,b3,hls,b4,decide_true,z0a hp]
  rw[z0e]
  exact hT _
 cases b5:decide (x.und=[]) <;> rw[b5] at hT
 ·simp only[go_sem,v1e,hB,z0x,eTf,b1,b2,b3,hls,b4,b5,decide_true,z0a hp]
  rw[z0e]
  exact hT _
 simp only[go_sem,v1e,hB,z0x,eTf,b1,b2,b3,hls,b4,b5,decide_true,z0a hp,x8c]
 rw[z0e]
 simpa using hT _
theorem u9m {ps:List Func} {a:List Nat} {u:Tip} (hl:ps.length≤1000):Pure Gam 83 [.sl (z1t (ps.map (·.name))) u, .str a] (.int .i64 (z4s ps a)):=by
 refine Pure.of rfl u5q rfl rfl rfl (az:=[.sl (z1t (ps.map (·.name))) .no, .str a]) rfl (by simp[idsL,AV.ids,z2d]) fun D B clk T hB hT=> ?_
 have hsl:(z1t (ps.map (·.name))).length=ps.length:=by rw[z1t,List.length_map,List.length_map]
 simp only[go_sem,u2b,hsl]
 refine z6z ps.length (by omega) (fun i q=>(∀ p∈ps.take i,p.name≠a)∧q.ts 0= .sl (z1t (ps.map (·.name))) .no∧q.ts 1= .str a∧q.ts 7= .int .i64 (ps.length:Int)∧q.ts 8= .int .i64 (i:Int)) ⟨by simp,rfl,rfl,rfl,rfl⟩ ?_ ?_
 ·rintro i hlt f1 f2 ts h clk P ⟨hno,q0,q1,q7,q8⟩ hnx he hr
  dsimp only at q0 q1 q7 q8
  have hidx:∀ h,z1m h 1 (.sl (z1t (ps.map (·.name))) .no) (.int .i64 (i:Int))=some (.iptr [.str ps[i].name] 0,h):=fun h=>z5q (e:= .str ps[i].name) (by simp[z1t,hlt]) rfl
  have ht:=List.take_succ_eq_append_getElem hlt
  cases hc:decide (a=ps[i].name) with
  | true=>
    simp only[go_sem,k1n,q0,q1,q7,q8,f1,hidx,hc]
    refine hr _ ?_
    rw[q3z hlt (of_decide_eq_true hc).symm hno] at hT
    simp only[go_sem,]
    rw[z0h rfl rfl]
    exact hT _
  | false=>
    simp only[go_sem,k1n,q0,q1,q7,q8,f1,f2,hidx,hc]
    refine hnx _ ⟨fun p hp=> ?_,q0,q1,q7,rfl⟩
    rw[ht,List.mem_append,List.mem_singleton] at hp
    rcases hp with hp | rfl
    ·exact hno p hp
    ·exact fun e=>of_decide_eq_false hc e.symm
 ·rintro f1 ts h clk P ⟨hno,q0,q1,q7,q8⟩ he hr
  dsimp only at q0 q1 q7 q8
  rw[List.take_length] at hno
  simp only[go_sem,k1n,q7,q8,f1]
  refine he _ _ ?_
  rw[z7i hno] at hT
  simp only[go_sem,]
  rw[z0h rfl rfl]
  exact hT _
def kpI (s:Sys) (a:List Nat) (n:Nat):List Nat:=(List.range n).filter fun i=> !decide (g1a s i=a)
theorem u8p {s:Sys} {a:List Nat} {n:Nat}:kpI s a (n + 1)=kpI s a n++if g1a s n=a then [] else [n]:=by
 unfold kpI
 rw[List.range_succ,List.filter_append]
 by_cases h:g1a s n=a <;> simp[h]
theorem u9n {s:Sys} {a:List Nat} {n:Nat}:(kpI s a n).length≤n:=Nat.le_trans (List.length_filter_le _ _) (by simp)
theorem g2y {s:Sys} {a:List Nat} {n i:Nat} (h:i∈kpI s a n):i < n:=by
 have:=(List.mem_filter.1 h).1
 simpa using this
noncomputable def g3g (s:Sys) (x:Tf):List Nat:=if (u6f s x).2=0 then kpI s x.pred s.clauses.length else []
theorem g2z {s:Sys} {x:Tf} {i k:Nat} (hnd:(s.preds.map (·.name)).Nodup) (hi:i < s.preds.length) (hk:k < s.preds.length) (hi1:s.preds[i].name=x.pred) (hk1:s.preds[k].name=x.into):MOk s x↔u6n s s.preds[i] s.preds[k]=true:=by
 refine⟨fun ⟨f,g,hf,hg,h1,h2,h3⟩=> ?_,fun h=>⟨_,_,List.getElem_mem hi,List.getElem_mem hk,hi1,hk1,h⟩⟩
 rw[←u7c hnd hi hf (by rw[hi1,h1]),←u7c hnd hk hg (by rw[hk1,h2])]
 exact h3
theorem g3a {s:Sys} {x:Tf} (hs:SysV s) (hcs:∀ c∈s.clauses,CmpC c) (hx:TfS x):Pure Gam 37 [z0x s,eTf x] (.tup [.sl ((g3g s x).map nat) .no, .int .i64 (u6f s x).2]):=by
 have p74:=g1u hs hx.ok
 have hpl:=hs.pl
 have hcl:=hs.len
 have hnd:=hs.pr.nodup
 have hpa:∀ f∈s.preds,f.args.length≤20000:=fun f hf=>by have:=(hs.pr.args f hf).1;omega
 have p75:=w9s (ps:=s.preds) (u:= .no) (by omega)
 have p1:=u9m (ps:=s.preds) (a:=x.pred) (u:= .no) (by omega)
 have p2:=u9m (ps:=s.preds) (a:=x.into) (u:= .no) (by omega)
 have n1:=j7b (ps:=s.preds) (nm:=x.pred)
 have n2:=j7b (ps:=s.preds) (nm:=x.into)
 simp only[z0x,eTf] at p74
 refine Pure.of rfl g6l rfl rfl rfl (az:=[z0x s,eTf x]) rfl (by simp[idsL,z2c,z6y hx.ok]) fun D B clk T hB hT=> ?_
 have fin:∀ e:Int,e≠0→u6f s x=(x0n,e)→∀ h',RV [] (some [AV.sl [] .nil, .int .i64 e]) (fun v h'=>T v h') h':=fun e h0 he h'=>by
  unfold g3g at hT
  rw[he,if_neg h0] at hT
  rw[z0h rfl (by simp[z1k,AV.cv,cvL,AV.ids,idsL])]
  exact hT _
 cases hu:u6v x <;> rw[hu] at p74
 ·simp only[go_sem,g1y,hB,z0x,eTf,z0a p74,Bool.not_false]
  exact fin _ (by decide) (u6k hu) _
 by_cases hp:x.pred∈s.preds.map (·.name)
 case neg=>
  rw[decide_eq_false hp] at n1
  simp only[go_sem,g1y,hB,z0x,eTf,z0a p74,Bool.not_true,z0a p75,z1i,z0a p1,z0a p2]
  refine⟨by simp[z1f,apart,z0i,z1d,z1h,AOp.isCall,hB,AV.ids,idsL,z2d], ?_⟩
  simp only[go_sem,hB,n1,Bool.not_false]
  exact fin _ (by decide) (u6i hu fun ⟨f,g,hf,_,h,_⟩=>hp (h ▸ List.mem_map.2 ⟨f,hf,rfl⟩)) _
 rw[decide_eq_true hp] at n1
 by_cases hq:x.into∈s.preds.map (·.name)
 case neg=>
  rw[decide_eq_false hq] at n2
  simp only[go_sem,g1y,hB,z0x,eTf,z0a p74,Bool.not_true,z0a p75,z1i,z0a p1,z0a p2]
  refine⟨by simp[z1f,apart,z0i,z1d,z1h,AOp.isCall,hB,AV.ids,idsL,z2d], ?_⟩
  simp only[go_sem,hB,n1,n2,Bool.not_true,Bool.not_false]
  exact fin _ (by decide) (u6i hu fun ⟨f,g,_,hg,_,h,_⟩=>hq (h ▸ List.mem_map.2 ⟨g,hg,rfl⟩)) _
 rw[decide_eq_true hq] at n2
 obtain⟨i,hi,hi1,hi2⟩:=u6w hp
 obtain⟨k,hk,hk1,hk2⟩:=u6w hq
 have hM:=g2z hnd hi hk hi1 hk1
 have hix:=fun h=>z6g (l:=s.preds) (i:=i) (h:=h) (t:= .no) (k:= .i64) hi
 have hkx:=fun h=>z6g (l:=s.preds) (i:=k) (h:=h) (t:= .no) (k:= .i64) hk
 have p3:=g2v (s:=s) (p:=s.preds[i]) (q:=s.preds[k]) (by omega) hcs (hpa _ (List.getElem_mem hi)) (hpa _ (List.getElem_mem hk))
 rw[z0x,z0q,z0q,nat,nat] at p3
 rw[hi2] at p1 n1
 rw[hk2] at p2 n2
 cases hm:u6n s s.preds[i] s.preds[k] with
 | false=>
   rw[hm] at p3
   simp only[go_sem,g1y,hB,z0x,eTf,z0a p74,Bool.not_true,z0a p75,z1i,z0a p1,z0a p2]
   refine⟨by simp[z1f,apart,z0i,z1d,z1h,AOp.isCall,hB,AV.ids,idsL,z2d], ?_⟩
   simp only[go_sem,hB,n1,n2,hix,hkx,z0a p3,Bool.not_true,Bool.not_false]
   exact fin _ (by decide) (u6i hu fun h=>by rw[hM.1 h] at hm;cases hm) _
 | true=>
   rw[hm] at p3
   unfold g3g at hT
   rw[u6l hu (hM.2 hm),if_pos rfl] at hT
   simp only[go_sem,g1y,hB,z0x,eTf,z0a p74,Bool.not_true,z0a p75,z1i,z0a p1,z0a p2]
   refine⟨by simp[z1f,apart,z0i,z1d,z1h,AOp.isCall,hB,AV.ids,idsL,z2d], ?_⟩
   simp only[go_sem,hB,n1,n2,hix,hkx,z0a p3,Bool.not_true,List.length_map]
   refine z6z s.clauses.length (by omega) (fun i q=>∃ (gx:Nat) (t:Tip) (o0 o2 o3 o4 o5:AObj),q.ts 3= .ptr (B + 1) gx 0 0∧q.ts 10= .sl ((kpI s x.pred i).map nat) t∧q.ts 54= .sl (s.clauses.map z0f) .no∧q.ts 55= .int .i64 (s.clauses.length:Int)∧q.ts 56= .int .i64 (i:Int)∧q.h=D++[o0, .blk gx [eTf x] false false 0,o2,o3,o4,o5]∧z8k B 5 o5 t 1) ⟨_, .nil,_,_,_,_,_,rfl,rfl,rfl,rfl,rfl,rfl, .inl rfl⟩ ?_ ?_
   ·rintro j hlt f1 f2 ts h clk P ⟨gx,t,o0,o2,o3,o4,o5,q3,q10,q54,q55,q56,rfl,ht⟩ hnx he hr
    dsimp only at q3 q10 q54 q55 q56
    have hcx:=fun h=>z8l (l:=s.clauses) (i:=j) (h:=h) (t:= .no) (k:= .i64) hlt
    have hc:=u8p (s:=s) (a:=x.pred) (n:=j)
    have hg:=fun {L gen}=>u7p (D:=D) (L:=L) (B:=B) (k:=5) (gen:=gen) (i:=j) (xs:=kpI s x.pred j) (t:=t) (o:=o5) hB
    have hll:(kpI s x.pred j).length≤2 ^ 20:=Nat.le_trans u9n (by omega)
    rw[u7o hlt] at hc
    generalize s.clauses[j]=c at *
    cases hd:decide (c.head.pred=x.pred) with
    | true=>
      rw[if_pos (of_decide_eq_true hd),List.append_nil] at hc
      simp only[go_sem,g0i,eTf,q3,q10,q54,q55,q56,hB,f1,f2,hcx,hd,Bool.not_true]
      exact hnx _ ⟨gx,t,_,_,_,_,_,q3,by rw[hc];exact q10,q54,q55,rfl,rfl,ht⟩
    | false=>
      rw[if_neg (of_decide_eq_false hd)] at hc
      simp only[go_sem,g0i,eTf,q3,q10,q54,q55,q56,hB,f1,hcx,hd,Bool.not_false]
      rw[hg rfl ht hll,←hc]
      simp only[go_sem,q3,q10,q54,q55,q56,f2]
      exact hnx _ ⟨gx,_,_,_,_,_,_,q3,rfl,q54,q55,rfl,rfl, .inr (.inr ⟨_,rfl,rfl⟩)⟩
   ·rintro f1 ts h clk P ⟨gx,t,o0,o2,o3,o4,o5,q3,q10,q54,q55,q56,rfl,ht⟩ he hr
    dsimp only at q3 q10 q54 q55 q56
    simp only[go_sem,g0i,q10,q55,q56,f1]
    refine he _ _ ?_
    simp only[go_sem,q10]
    rw[z0h rfl (by simp[z1k,AV.cv,cvL,AV.ids,idsL,q5e])]
    exact hT _
section
def mC (x:Tf) (c:Clause):Clause:=⟨c.vars,c.body.map (u6j x.pred x.into),c.guard,c.head⟩
theorem u8q {s:Sys} {x:Tf}:∀ {n:Nat},n≤s.clauses.length→(kpI s x.pred n).map (fun i=>mC x (u6r s i))=u6s x (s.clauses.take n)
 | 0,_=>by simp[kpI,u6s]
 | n + 1,h=>by
   have hn:n < s.clauses.length:=by omega
   rw[u8p,u7j hn,List.map_append,u8q (by omega),u7o hn]
   by_cases e:s.clauses[n].head.pred=x.pred
   ·simp[e]
   ·rw[if_neg e,if_neg e,List.map_singleton,u7a hn]
    have:u6j x.pred x.into s.clauses[n].head=s.clauses[n].head:=by simp[u6j,e]
    simp[mC,u6m,this]
section
variable {D L:List AObj} {B k g n j:Nat} {al:List App}
theorem g3b (hB:D.length=B) (hL:L[k]? =some (.blk g (al.map z3x) true true 0)) (hj:j < al.length) (hn:j < n):z1m (D++L) 2 (.ob (B + k) g 0 n) (.int .i64 (j:Int))=some (.ptr (B + k) g j 0,D++L):=by
 have hb:z2a (D++L) (B + k) g=some (al.map z3x,true,true,0):=by rw[z6w hB];exact z5z hL
 simp[z1m,hb,hj,hn,z3x,AV.cells]
theorem g0n {y:App} (hB:D.length=B) (hL:L[k]? =some (.blk g (al.map z3x) true true 0)) (hj:j < al.length):z8s (D++L) 2 (.agg [.str y.pred, .sl (y.args.map z0l) .no]) (.ptr (B + k) g j 0)=some (.undef,D++L.set k (.blk g ((al.set j y).map z3x) true true 0)):=by
 have hb:z2a (D++L) (B + k) g=some (al.map z3x,true,true,0):=by rw[z6w hB];exact z5z hL
 have he:(al.map z3x)[j]? =some (z3x al[j]):=by simp[hj]
 have hp:pub (D++L) (.agg [.str y.pred, .sl (y.args.map z0l) .no])=some (.agg [.str y.pred, .sl (y.args.map z0l) .no],D++L):=rfl
 rw[q0h,hb]
 simp only[he,if_true,hp]
 simp[AV.def?,AV.cells,w1k,j9n,z9z,z9j,z3x,AV.obs,z4k,z5i hB,List.map_set]
theorem g3c {v w:List AV} {t u:Tip} {p:List Nat} {q:List AV} {r:Tip} (hB:D.length=B) (hL:L[k]? =some (.blk g (al.map z3x) true true 0)):bsV (D++L) (.agg [.sl [] .nil, .sl [] .nil, .sl [] .nil, .str [], .sl [] .nil]) 1 [0] [.agg [.sl v t, .ob (B + k) g 0 al.length, .sl w u, .str p, .sl q r]]=some (.sl [.agg [.sl v .no, .sl (al.map z3x) .no, .sl w .no, .str p, .sl q .no]] .full,D++L.set k (.blk g (al.map z3x) true true al.length)):=by
 have hb:z2a (D++L) (B + k) g=some (al.map z3x,true,true,0):=by rw[z6w hB];exact z5z hL
 have hr:q7e (D++L) (B + k) g 0 al.length=some (al.map z3x):=by
  have ht:List.take al.length (al.map z3x)=al.map z3x:=List.take_of_length_le (by simp)
  simp[q7e,hb,ht]
 have hg:(D++L)[B + k]? =some (.blk g (al.map z3x) true true 0):=by rw[z6k hB];exact hL
 simp[bsV,z9t,conv,hr,z5n,AV.def?,AV.cells,z4k,AV.obs,freezeAll,hg,z5i hB]
end
def H15 (g0 gx g2 g8 g9:Nat) (s:Sys) (x:Tf) (pv cv:AV) (R:List AObj):List AObj:= .blk g0 [z0x s] false false 0:: .blk gx [eTf x] false false 0:: .blk g2 [.agg [.sl [] .nil, .sl [] .nil]] false false 0:: .blk g8 [u6t x.pred x.into] false false 0:: .blk g9 [.agg [pv,cv]] false false 0::R
theorem u8s {s:Sys} {x:Tf} {c:Clause} {al:List App} {B clk g0 gx g2 g8 g9 g14 gr m:Nat} {D G:List AObj} {a5 a6 a7 a9 a10 a11:AObj} {pv cv v52 v53 v54:AV} {ts:Tmps} {ks:List Kf} {Q:Post} (hB:D.length=B) (hal:al.length≤20000) (hG:G[m]? =some (.blk gr (al.map z3x) true true 0)) (h2:ts 2= .ptr (B + 0) g0 0 0) (h4:ts 4= .ptr (B + 2) g2 0 0) (h8:ts 8= .ptr (B + 3) g8 0 0) (h9:ts 9= .ptr (B + 4) g9 0 0) (h14:ts 14= .ptr (B + 8) g14 0 0) (h52:ts 52=v52) (h53:ts 53=v53) (h54:ts 54=v54) (h65:ts 65= .ob (B + (m + 12)) gr 0 al.length) (h66:ts 66= .int .i64 (al.length:Int)) (h67:ts 67= .int .i64 0)
  (hQ:∀ (ts':Tmps) (a9:AObj) (clk':Nat),ts' 2= .ptr (B + 0) g0 0 0→ts' 4= .ptr (B + 2) g2 0 0→ts' 8= .ptr (B + 3) g8 0 0→ts' 9= .ptr (B + 4) g9 0 0→ts' 14= .ptr (B + 8) g14 0 0→ts' 52=v52→ts' 53=v53→ts' 54=v54→K Gam B (.exit 4) ks ⟨ts',D++H15 g0 gx g2 g8 g9 s x pv cv (a5::a6::a7:: .blk g14 [u7e c (.ob (B + (m + 12)) gr 0 al.length)] false false 0::a9::a10::a11::G.set m (.blk gr ((al.map (u6j x.pred x.into)).map z3x) true true 0)),clk'⟩ Q):
  K Gam B (.loop u8y) ks ⟨ts,D++H15 g0 gx g2 g8 g9 s x pv cv (a5::a6::a7:: .blk g14 [u7e c (.ob (B + (m + 12)) gr 0 al.length)] false false 0::a9::a10::a11::G),clk⟩ Q:=by
 have hmG:m < G.length:=by
  rw[List.getElem?_eq_some_iff] at hG
  exact hG.1
 have hGe:G=G.set m (.blk gr (al.map z3x) true true 0):=by
  refine List.ext_getElem? fun j=> ?_
  by_cases h:j=m
  ·subst h;rw[hG,List.getElem?_set_self hmG]
  ·rw[List.getElem?_set_ne (fun e=>h e.symm)]
 refine z6z al.length (by omega) (fun j q=>∃ (a9:AObj),q.ts 2= .ptr (B + 0) g0 0 0∧q.ts 4= .ptr (B + 2) g2 0 0∧q.ts 8= .ptr (B + 3) g8 0 0∧q.ts 9= .ptr (B + 4) g9 0 0∧q.ts 14= .ptr (B + 8) g14 0 0∧q.ts 52=v52∧q.ts 53=v53∧q.ts 54=v54∧q.ts 65= .ob (B + (m + 12)) gr 0 al.length∧q.ts 66= .int .i64 (al.length:Int)∧q.ts 67= .int .i64 (j:Int)∧q.h=D++H15 g0 gx g2 g8 g9 s x pv cv (a5::a6::a7:: .blk g14 [u7e c (.ob (B + (m + 12)) gr 0 al.length)] false false 0::a9::a10::a11::G.set m (.blk gr (((al.take j).map (u6j x.pred x.into)++al.drop j).map z3x) true true 0))) ⟨a9,h2,h4,h8,h9,h14,h52,h53,h54,h65,h66,h67,by rw[List.take_zero,List.map_nil,List.nil_append,List.drop_zero,←hGe]⟩ ?_ ?_
 ·clear h2 h4 h8 h9 h14 h52 h53 h54 h65 h66 h67 hGe hG
  rintro j hlt f1 f2 ts h clk P ⟨a9,q2,q4,q8,q9,q14,q52,q53,q54,q65,q66,q67,rfl⟩ hnx he hr
  dsimp only at q2 q4 q8 q9 q14 q52 q53 q54 q65 q66 q67
  have hdr:al.drop j=al[j]::al.drop (j + 1):=List.drop_eq_getElem_cons hlt
  have htk:=List.take_succ_eq_append_getElem hlt
  have hjl:j < ((al.take j).map (u6j x.pred x.into)++al.drop j).length:=by simp;omega
  have hpre:((al.take j).map (u6j x.pred x.into)).length=j:=by simp;omega
  have hge:(((al.take j).map (u6j x.pred x.into)++al.drop j).map z3x)[j]? =some (.agg [.str al[j].pred, .sl (al[j].args.map z0l) .no]):=by
   rw[hdr,List.getElem?_map,List.getElem?_append_right (by omega),hpre,Nat.sub_self]
   rfl
  have hse:((al.take j).map (u6j x.pred x.into)++al.drop j).set j (u6j x.pred x.into al[j])=(al.take (j + 1)).map (u6j x.pred x.into)++al.drop (j + 1):=by
   rw[hdr,List.set_append_right _ _ (by omega),hpre,Nat.sub_self,List.set_cons_zero,htk,List.map_append,List.append_assoc]
   rfl
  have p1:=u7y (p:=x.pred) (q:=x.into) (a:=al[j])
  generalize hE:(al.take j).map (u6j x.pred x.into)++al.drop j=es at *
  generalize hy:u6j x.pred x.into al[j]=y at *
  generalize al[j]=a at *
  have hG':(G.set m (.blk gr (es.map z3x) true true 0))[m]? =some (.blk gr (es.map z3x) true true 0):=List.getElem?_set_self hmG
  have hbG:z2a (G.set m (.blk gr (es.map z3x) true true 0)) m gr=some (es.map z3x,true,true,0):=z5z hG'
  have hidx:∀ L:List AObj,L[m + 12]? =some (.blk gr (es.map z3x) true true 0)→z1m (D++L) 2 (.ob (B + (m + 12)) gr 0 al.length) (.int .i64 (j:Int))=some (.ptr (B + (m + 12)) gr j 0,D++L):=fun L hL=>g3b hB hL hjl hlt
  have hst:∀ L:List AObj,L[m + 12]? =some (.blk gr (es.map z3x) true true 0)→z8s (D++L) 2 (.agg [.str y.pred, .sl (y.args.map z0l) .no]) (.ptr (B + (m + 12)) gr j 0)=some (.undef,D++L.set (m + 12) (.blk gr ((es.set j y).map z3x) true true 0)):=fun L hL=>g0n hB hL hjl
  have hss:(G.set m (.blk gr (es.map z3x) true true 0)).set m (.blk gr ((es.set j y).map z3x) true true 0)=G.set m (.blk gr ((es.set j y).map z3x) true true 0):=List.set_set ..
  simp only[u6t,z3x] at p1
  simp only[go_sem,u8y,H15,u6t,u7e,q2,q4,q8,q9,q14,q52,q53,q54,q65,q66,q67,hB,f1,f2,hidx,hG',hbG,hge,Option.bind_some,z1i,z0a p1,hst,hss]
  refine⟨by simp[z1f,apart,z0i,z1d,z1h,AOp.isCall,hB,AV.ids,idsL,z0c z2q], ?_⟩
  exact hnx _ ⟨_,q2,q4,q8,q9,q14,q52,q53,q54,q65,q66,rfl,by rw[hse];rfl⟩
 ·clear h2 h4 h8 h9 h14 h52 h53 h54 h65 h66 h67 hGe hG
  rintro f1 ts h clk P ⟨a9,q2,q4,q8,q9,q14,q52,q53,q54,q65,q66,q67,rfl⟩ he hr
  dsimp only at q2 q4 q8 q9 q14 q52 q53 q54 q65 q66 q67
  rw[List.take_length,List.drop_length,List.append_nil]
  simp only[go_sem,u8y,q66,q67,f1]
  exact he _ _ (hQ _ _ _ (by simp[z0b,q2]) (by simp[z0b,q4]) (by simp[z0b,q8]) (by simp[z0b,q9]) (by simp[z0b,q14]) (by simp[z0b,q52]) (by simp[z0b,q53]) (by simp[z0b,q54]))
end
theorem u8g {s:Sys} {x:Tf} {B clk g0 gx g2 g8 g9:Nat} {D R:List AObj} {a5 a6 a7:AObj} {v6:AV} {ts:Tmps} {ks:List Kf} {Q:Post} (hB:D.length=B) (hpl:s.preds.length≤1000) (h2:ts 2= .ptr (B + 0) g0 0 0) (h3:ts 3= .ptr (B + 1) gx 0 0) (h4:ts 4= .ptr (B + 2) g2 0 0) (h6:ts 6=v6) (h8:ts 8= .ptr (B + 3) g8 0 0) (h9:ts 9= .ptr (B + 4) g9 0 0) (h34:ts 34= .sl (s.preds.map z0q) .no) (h35:ts 35= .int .i64 (s.preds.length:Int)) (h36:ts 36= .int .i64 0)
  (hQ:∀ (ts':Tmps) (t:Tip) (a5 a6 a7:AObj) (clk':Nat),ts' 2= .ptr (B + 0) g0 0 0→ts' 4= .ptr (B + 2) g2 0 0→ts' 6=v6→ts' 8= .ptr (B + 3) g8 0 0→ts' 9= .ptr (B + 4) g9 0 0→K Gam B (.exit 0) ks ⟨ts',D++H15 g0 gx g2 g8 g9 s x (.sl ((u6q x s.preds).map z0q) t) (.sl [] .nil) (a5::a6::a7::R),clk'⟩ Q):
  K Gam B (.loop u8z) ks ⟨ts,D++H15 g0 gx g2 g8 g9 s x (.sl [] .nil) (.sl [] .nil) (a5::a6::a7::R),clk⟩ Q:=by
 refine z6z s.preds.length (by omega) (fun i q=>∃ (t:Tip) (a5 a6 a7:AObj),q.ts 2= .ptr (B + 0) g0 0 0∧q.ts 3= .ptr (B + 1) gx 0 0∧q.ts 4= .ptr (B + 2) g2 0 0∧q.ts 6=v6∧q.ts 8= .ptr (B + 3) g8 0 0∧q.ts 9= .ptr (B + 4) g9 0 0∧q.ts 34= .sl (s.preds.map z0q) .no∧q.ts 35= .int .i64 (s.preds.length:Int)∧q.ts 36= .int .i64 (i:Int)∧q.h=D++H15 g0 gx g2 g8 g9 s x (.sl ((u6q x (s.preds.take i)).map z0q) t) (.sl [] .nil) (a5::a6::a7::R)∧z8k B 7 a7 t 3) ⟨.nil,_,_,_,h2,h3,h4,h6,h8,h9,h34,h35,h36,rfl, .inl rfl⟩ ?_ ?_
 ·clear h2 h3 h4 h6 h8 h9 h34 h35 h36
  rintro i hlt f1 f2 ts h clk P ⟨t,a5,a6,a7,q2,q3,q4,q6,q8,q9,q34,q35,q36,rfl,ht⟩ hnx he hr
  dsimp only at q2 q3 q4 q6 q8 q9 q34 q35 q36
  have hix:=fun h=>z6g (l:=s.preds) (i:=i) (h:=h) (t:= .no) (k:= .i64) hlt
  have hkp:=u7i (x:=x) hlt
  have hkl:(u6q x (s.preds.take i)).length≤1000:=Nat.le_trans u6x (by rw[List.length_take];omega)
  generalize s.preds[i]=f at *
  cases hd:decide (f.name=x.pred) with
  | true=>
    rw[if_pos (of_decide_eq_true hd),List.append_nil] at hkp
    simp only[go_sem,u8z,H15,eTf,q2,q3,q4,q6,q8,q9,q34,q35,q36,hB,f1,f2,hix,hd,Bool.not_true]
    exact hnx _ ⟨t,_,_,_,q2,q3,q4,q6,q8,q9,q34,q35,rfl,by rw[hkp];rfl,ht⟩
  | false=>
    rw[if_neg (of_decide_eq_false hd)] at hkp
    have e8:(u6q x (s.preds.take i)).map z0q++[f].map z0q=(u6q x (s.preds.take (i + 1))).map z0q:=by rw[hkp,List.map_append]
    simp only[go_sem,u8z,H15,eTf,q2,q3,q4,q6,q8,q9,q34,q35,q36,hB,f1,hix,hd,Bool.not_false]
    rw[show [AV.agg [.str f.name, .sl (f.args.map nat) .no, .int .i64 (f.result:Int)]]=[f].map z0q from rfl,z0j hB rfl ht z4o z4o (by simp only[List.length_map,List.length_singleton];omega),e8]
    simp only[go_sem,q2,q3,q4,q6,q8,q9,q34,q35,q36,hB,f2]
    exact hnx _ ⟨_,_,_,_,q2,q3,q4,q6,q8,q9,q34,q35,rfl,rfl, .inr (.inr ⟨_,rfl,rfl⟩)⟩
 ·clear h2 h3 h4 h6 h8 h9 h34 h35 h36
  rintro f1 ts h clk P ⟨t,a5,a6,a7,q2,q3,q4,q6,q8,q9,q34,q35,q36,rfl,ht⟩ he hr
  dsimp only at q2 q3 q4 q6 q8 q9 q34 q35 q36
  rw[List.take_length]
  simp only[go_sem,u8z,q35,q36,f1]
  exact he _ _ (hQ _ t _ _ _ _ (by simp[z0b,q2]) (by simp[z0b,q4]) (by simp[z0b,q6]) (by simp[z0b,q8]) (by simp[z0b,q9]))
theorem u7v {s:Sys} {x:Tf} {kp:List Nat} {B clk g0 gx g2 g8 g9:Nat} {D G:List AObj} {a5 a6 a7 a8 a9 a10 a11:AObj} {pv:AV} {ts:Tmps} {ks:List Kf} {Q:Post} (hB:D.length=B) (hcl:s.clauses.length≤1000) (hkl:kp.length≤1000) (hkp:∀ i∈kp,i < s.clauses.length) (hcs:∀ c∈s.clauses,CmpC c) (h2:ts 2= .ptr (B + 0) g0 0 0) (h4:ts 4= .ptr (B + 2) g2 0 0) (h8:ts 8= .ptr (B + 3) g8 0 0) (h9:ts 9= .ptr (B + 4) g9 0 0) (h52:ts 52= .sl (kp.map nat) .no) (h53:ts 53= .int .i64 (kp.length:Int)) (h54:ts 54= .int .i64 0)
  (hQ:∀ (ts':Tmps) (t:Tip) (R:List AObj) (clk':Nat),ts' 4= .ptr (B + 2) g2 0 0→ts' 9= .ptr (B + 4) g9 0 0→K Gam B (.exit 2) ks ⟨ts',D++H15 g0 gx g2 g8 g9 s x pv (.sl ((kp.map fun i=>mC x (u6r s i)).map z0f) t) R,clk'⟩ Q):
  K Gam B (.loop u9u) ks ⟨ts,D++H15 g0 gx g2 g8 g9 s x pv (.sl [] .nil) (a5::a6::a7::a8::a9::a10::a11::G),clk⟩ Q:=by
 refine z6z kp.length (by omega) (fun i q=>∃ (t:Tip) (a8 a9 a10 a11:AObj) (G:List AObj),q.ts 2= .ptr (B + 0) g0 0 0∧q.ts 4= .ptr (B + 2) g2 0 0∧q.ts 8= .ptr (B + 3) g8 0 0∧q.ts 9= .ptr (B + 4) g9 0 0∧q.ts 52= .sl (kp.map nat) .no∧q.ts 53= .int .i64 (kp.length:Int)∧q.ts 54= .int .i64 (i:Int)∧q.h=D++H15 g0 gx g2 g8 g9 s x pv (.sl (((kp.take i).map fun i=>mC x (u6r s i)).map z0f) t) (a5::a6::a7::a8::a9::a10::a11::G)∧z8k B 11 a11 t 5) ⟨.nil,_,_,_,_,_,h2,h4,h8,h9,h52,h53,h54,rfl, .inl rfl⟩ ?_ ?_
 ·clear h2 h4 h8 h9 h52 h53 h54
  rintro i hlt f1 f2 ts h clk P ⟨t,a8,a9,a10,a11,G,q2,q4,q8,q9,q52,q53,q54,rfl,ht⟩ hnx he hr
  dsimp only at q2 q4 q8 q9 q52 q53 q54
  have hkx:=fun h=>q9k (l:=kp) (i:=i) (h:=h) (t:= .no) (k:= .i64) hlt
  have hki:=hkp _ (List.getElem_mem hlt)
  have hst:(kp.take (i + 1)).map (fun i=>mC x (u6r s i))=(kp.take i).map (fun i=>mC x (u6r s i))++[mC x (u6r s kp[i])]:=by
   rw[List.take_succ_eq_append_getElem hlt,List.map_append,List.map_singleton]
  simp only[nat] at hkx
  generalize kp[i]=u at *
  rw[u7a hki] at hst
  have hix:=fun h=>z8l (l:=s.clauses) (i:=u) (h:=h) (t:= .no) (k:= .i64) hki
  have hC:=(hcs _ (List.getElem_mem hki))
  have hS:=hC.small
  generalize s.clauses[u]=c at *
  have hl:((kp.take i).map (fun i=>mC x (u6r s i))).length≤1000:=by rw[List.length_map,List.length_take];omega
  have ha:∀ (L:List AObj) (gen:Nat) (d:Clause),L[11]? =some a11→d=mC x c→z1g (D++L) (B + 11) gen 5 112 false (.sl (((kp.take i).map (fun i=>mC x (u6r s i))).map z0f) t) (.sl [z0f d] .full)=some (.sl (((kp.take (i + 1)).map (fun i=>mC x (u6r s i))).map z0f) (.at (B + 11) gen),D++L.set 11 (.tip gen 5)):=fun L gen d hL hd=>by
   rw[show [z0f d]=[d].map z0f from rfl,z0j hB hL ht z3l z3l (by simp only[List.length_map,List.length_singleton] at hl⊢;omega),hst,hd,List.map_append]
  generalize (kp.take i).map (fun i=>mC x (u6r s i))=acc at *
  generalize (kp.take (i + 1)).map (fun i=>mC x (u6r s i))=acc' at *
  have h39:=fun h clk Q=>g5x (c:=c) (h:=h) (clk:=clk) (Q:=Q) hC.body hS.bargs hS.hargs hS.vars hS.guard
  rw[z0f,z0l] at h39
  simp only[go_sem,u9u,H15,z0x,q2,q4,q8,q9,q52,q53,q54,hB,f1,hkx,hix]
  refine z6f (h39 _ _ _ (fun hb0=> ?_) fun o0 o1 o2 o3 o4 gr c' hne=> ?_)
  ·simp only[go_sem,u7e,q2,q4,q8,q9,q52,q53,q54,hB]
   refine z3f ?_
   simp only[go_sem,u8y,hB,List.length_nil,Int.cast_ofNat_Int,Int.lt_irrefl,decide_false]
   have hd:(⟨c.vars,[],c.guard,c.head⟩:Clause)=mC x c:=by rw[mC,hb0];rfl
   have hbs:∀ h,bsV h (.agg [.sl [] .nil, .sl [] .nil, .sl [] .nil, .str [], .sl [] .nil]) 1 [0] [.agg [.sl (c.vars.map z1b) .no, .sl [] .nil, .sl (c.guard.map eNode) .no, .str c.head.pred, .sl (c.head.args.map z0l) .no]]=some (.sl [z0f ⟨c.vars,[],c.guard,c.head⟩] .full,h):=fun h=>y1v rfl rfl rfl rfl
   simp only[go_sem,q2,q4,q8,q9,q52,q53,q54,hB,hbs]
   rw[ha _ _ _ rfl hd]
   simp only[go_sem,q2,q4,q8,q9,q52,q53,q54,hB,f2]
   exact hnx _ ⟨_,_,_,_,_,_,q2,q4,q8,q9,q52,q53,rfl,rfl, .inr (.inr ⟨_,rfl,rfl⟩)⟩
  ·have e0:∀ (x0 x1 x2 x3 x4 x5 x6 x7 x8 x9 x10 x11:AObj),(D++(x0::x1::x2::x3::x4::x5::x6::x7::x8::x9::x10::x11::G)).length + 5=B + ((G.length + 5) + 12):=fun _ _ _ _ _ _ _ _ _ _ _ _=>by simp[hB];omega
   have e1:∀ (x0 x1 x2 x3 x4 x5 x6 x7 x8 x9 x10 x11:AObj) (M:List AObj),(D++(x0::x1::x2::x3::x4::x5::x6::x7::x8::x9::x10::x11::G))++M=D++(x0::x1::x2::x3::x4::x5::x6::x7::x8::x9::x10::x11::(G++M)):=fun _ _ _ _ _ _ _ _ _ _ _ _ _=>by simp
   have hG:(G++[o0,o1,o2,o3,o4, .blk gr (c.body.map z3x) true true 0])[G.length + 5]? =some (.blk gr (c.body.map z3x) true true 0):=by
    rw[List.getElem?_append_right (by omega),show G.length + 5 - G.length=5 by omega]
    rfl
   rw[e0,e1]
   generalize G++[o0,o1,o2,o3,o4, .blk gr (c.body.map z3x) true true 0]=G' at hG
   generalize G.length + 5=m at hG
   simp only[go_sem,u7e,q2,q4,q8,q9,q52,q53,q54,hB]
   refine u8s (s:=s) (x:=x) (c:=c) (al:=c.body) (v52:= .sl (kp.map nat) .no) (v53:= .int .i64 (kp.length:Int)) (v54:= .int .i64 (i:Int)) hB hC.body hG (by simp[z0b,q2]) (by simp[z0b,q4]) (by simp[z0b,q8]) (by simp[z0b,q9]) (by simp[z0b]) (by simp[z0b,q52]) (by simp[z0b,q53]) (by simp[z0b,q54]) (by simp[z0b]) (by simp[z0b]) (by simp[z0b]) fun ts2 a9 clk2 r2 r4 r8 r9 r14 r52 r53 r54=> ?_
   have hmG:m < G'.length:=by
    rw[List.getElem?_eq_some_iff] at hG
    exact hG.1
   have hG2:(G'.set m (.blk gr ((c.body.map (u6j x.pred x.into)).map z3x) true true 0))[m]? =some (.blk gr ((c.body.map (u6j x.pred x.into)).map z3x) true true 0):=List.getElem?_set_self hmG
   generalize G'.set m (.blk gr ((c.body.map (u6j x.pred x.into)).map z3x) true true 0)=G2 at hG2
   have hbs:∀ L:List AObj,L[m + 12]? =some (.blk gr ((c.body.map (u6j x.pred x.into)).map z3x) true true 0)→bsV (D++L) (.agg [.sl [] .nil, .sl [] .nil, .sl [] .nil, .str [], .sl [] .nil]) 1 [0] [.agg [.sl (c.vars.map z1b) .no, .ob (B + (m + 12)) gr 0 c.body.length, .sl (c.guard.map eNode) .no, .str c.head.pred, .sl (c.head.args.map z0l) .no]]=some (.sl [z0f (mC x c)] .full,D++L.set (m + 12) (.blk gr ((c.body.map (u6j x.pred x.into)).map z3x) true true c.body.length)):=fun L hL=>by
    have:=g3c (v:=c.vars.map z1b) (w:=c.guard.map eNode) (t:= .no) (u:= .no) (p:=c.head.pred) (q:=c.head.args.map z0l) (r:= .no) hB hL
    rw[List.length_map] at this
    exact this
   simp only[go_sem,H15,u7e,r2,r4,r8,r9,r14,r52,r53,r54,hB,hbs,hG2]
   rw[ha _ _ _ rfl rfl]
   simp only[go_sem,r2,r4,r8,r9,r52,r53,r54,hB,f2]
   exact hnx _ ⟨_,_,_,_,_,_,r2,r4,r8,r9,r52,r53,rfl,rfl, .inr (.inr ⟨_,rfl,rfl⟩)⟩
 ·clear h2 h4 h8 h9 h52 h53 h54
  rintro f1 ts h clk P ⟨t,a8,a9,a10,a11,G,q2,q4,q8,q9,q52,q53,q54,rfl,ht⟩ he hr
  dsimp only at q2 q4 q8 q9 q52 q53 q54
  rw[List.take_length]
  simp only[go_sem,u9u,q53,q54,f1]
  exact he _ _ (hQ _ t _ _ (by simp[z0b,q4]) (by simp[z0b,q9]))
theorem g1f {s:Sys} {x:Tf} (hs:SysV s) (hcs:∀ c∈s.clauses,CmpC c) (hx:TfS x):Pure Gam 10 [z0x s,eTf x] (.tup [z0x (u6f s x).1, .int .i64 (u6f s x).2]):=by
 have p37:=g3a hs hcs hx
 have hpl:=hs.pl
 have hcl:=hs.len
 have p38:=y0a (ps:=s.preds) (u:= .no) (by omega) fun f hf=>by have:=(hs.pr.args f hf).1;omega
 simp only[z0x,eTf] at p37
 refine Pure.of rfl g5q rfl rfl rfl (az:=[z0x s,eTf x]) rfl (by simp[idsL,z2c,z6y hx.ok]) fun D B clk T hB hT=> ?_
 by_cases h0:(u6f s x).2=0
 ·have hu:u6v x=true:=by
   cases hu:u6v x with
   | true=>rfl
   | false=>rw[u6k hu] at h0;cases h0
  have hn:MOk s x:=Classical.byContradiction fun hn=>by rw[u6i hu hn] at h0;cases h0
  unfold g3g at p37
  rw[if_pos h0] at p37
  rw[h0] at p37
  rw[u6l hu hn] at hT
  simp only[go_sem,g3m,hB,z0x,eTf,z0a p37,decide_true,Bool.not_true,z0a p38,List.length_map]
  refine u8g (s:=s) (x:=x) (v6:= .sl ((kpI s x.pred s.clauses.length).map nat) .no) hB (by omega) (by simp[z0b]) (by simp[z0b]) (by simp[z0b]) (by simp[z0b]) (by simp[z0b]) (by simp[z0b]) (by simp[z0b]) (by simp[z0b]) (by simp[z0b]) fun ts2 tp a5 a6 a7 clk2 r2 r4 r6 r8 r9=> ?_
  simp only[go_sem,r2,r4,r6,r8,r9,List.length_map]
  refine u7v (s:=s) (x:=x) (kp:=kpI s x.pred s.clauses.length) (G:=[]) hB (by omega) (Nat.le_trans u9n (by omega)) (fun i hi=>g2y hi) hcs (by simp[z0b,r2]) (by simp[z0b,r4]) (by simp[z0b,r8]) (by simp[z0b,r9]) (by simp[z0b]) (by simp[z0b]) (by simp[z0b]) fun ts3 t R clk3 q4 q9=> ?_
  rw[u8q (Nat.le_refl _),List.take_length]
  simp only[go_sem,H15,hB,q4,q9,z0n,z0m,z0g]
  rw[z0h rfl (by simp[z1k,AV.cv,cvL,AV.ids,idsL,z0c z2j,z0c z1z])]
  exact hT _
 ·have hn:(u6f s x).1=x0n:=by
   cases hu:u6v x with
   | false=>rw[u6k hu]
   | true=>
     by_cases hn:MOk s x
     ·rw[u6l hu hn] at h0;exact absurd rfl h0
     ·rw[u6i hu hn]
  rw[hn] at hT
  simp only[go_sem,g3m,hB,z0x,eTf,z0a p37,decide_eq_false h0,Bool.not_false,z0n,z0m,z0g]
  rw[z0h rfl (by simp[z1k,AV.cv,cvL,AV.ids,idsL])]
  exact hT _
def g4z (x y:App):Prop:=y=x∨(x.pred=[80]∧y=⟨[78],x.args⟩)
def g3h (xs ys:List App):Prop:=ys.length=xs.length∧∀ y∈ys,∃ x∈xs,g4z x y
def H10 (a0 a1 a2 a3 a4 a5 a6 a7 a8 a9 a10 a11 ch:AObj) (R:List AObj):List AObj:=a0::a1::a2::a3::a4::a5::a6::a7::a8::a9::a10::a11::ch::R
theorem u8t {l:List Int} {B g i g5 clk:Nat} {D R:List AObj} {c:Clause} {a0 a1 a2 a3 a4 a6 a7 a8 a9 a10 a11:AObj} {v2 v4 v7 v8:AV} {ts:Tmps} {ks:List Kf} {Q:Post} (hl:q7q l) (hB:D.length=B) (hi:i≤l.length) (hb:c.body.length≤1000) (h2:ts 2=v2) (h3:ts 3= .ptr (B + 12) g 0 0) (h4:ts 4=v4) (h5:ts 5= .str [80]) (h7:ts 7=v7) (h8:ts 8=v8) (h9:ts 9= .ptr (B + 5) g5 0 0) (h10:ts 10= .sl [] .nil) (h11:ts 11= .int .i64 0)
  (hQ:∀ (b:List App) (t:Tip) (ts':Tmps) (a6 a7 a8:AObj) (i' clk':Nat),g3h c.body b→i'≤l.length→ts' 2=v2→ts' 3= .ptr (B + 12) g 0 0→ts' 4=v4→ts' 5= .str [80]→ts' 7=v7→ts' 8=v8→ts' 9= .ptr (B + 5) g5 0 0→ts' 10= .sl (b.map z3x) t→K Gam B (.exit 2) ks ⟨ts',D++H10 a0 a1 a2 a3 a4 (.blk g5 [z0f c] false false 0) a6 a7 a8 a9 a10 a11 (z5c g l i') R,clk'⟩ Q):
  K Gam B (.loop u8w) ks ⟨ts,D++H10 a0 a1 a2 a3 a4 (.blk g5 [z0f c] false false 0) a6 a7 a8 a9 a10 a11 (z5c g l i) R,clk⟩ Q:=by
 refine z6z c.body.length (by omega) (fun j q=>∃ (b:List App) (t:Tip) (a6 a7 a8:AObj) (i:Nat),g3h (c.body.take j) b∧i≤l.length∧q.ts 2=v2∧q.ts 3= .ptr (B + 12) g 0 0∧q.ts 4=v4∧q.ts 5= .str [80]∧q.ts 7=v7∧q.ts 8=v8∧q.ts 9= .ptr (B + 5) g5 0 0∧q.ts 10= .sl (b.map z3x) t∧q.ts 11= .int .i64 (j:Int)∧q.h=D++H10 a0 a1 a2 a3 a4 (.blk g5 [z0f c] false false 0) a6 a7 a8 a9 a10 a11 (z5c g l i) R∧z8k B 8 a8 t 2) ⟨[], .nil,_,_,_,_,⟨by simp,by simp⟩,hi,h2,h3,h4,h5,h7,h8,h9,h10,h11,rfl, .inl rfl⟩ ?_ ?_
 ·clear h2 h3 h4 h5 h7 h8 h9 h10 h11 hi
  rintro j hlt f1 f2 ts h clk P ⟨b,t,a6,a7,a8,i,⟨hbl,hb2⟩,hi,q2,q3,q4,q5,q7,q8,q9,q10,q11,rfl,ht⟩ hnx he hr
  dsimp only at q2 q3 q4 q5 q7 q8 q9 q10 q11
  have hix:=fun h=>j1a (l:=c.body) (i:=j) (h:=h) (t:= .no) (k:= .i64) hlt
  have htake:=List.take_succ_eq_append_getElem hlt
  have hblen:b.length≤1000:=by rw[hbl,List.length_take];omega
  have hnew:∀ y,g4z c.body[j] y→g3h (c.body.take (j + 1)) (b++[y]):=fun y hy=>by
   refine⟨by rw[List.length_append,hbl,htake,List.length_append];rfl,fun z hz=> ?_⟩
   rw[List.mem_append,List.mem_singleton] at hz
   rw[htake]
   rcases hz with hz | rfl
   ·obtain⟨x,hx,hxz⟩:=hb2 z hz
    exact⟨x,List.mem_append_left _ hx,hxz⟩
   ·exact⟨_,List.mem_append_right _ List.mem_cons_self,hy⟩
  generalize c.body[j]=x at *
  cases hp:decide (x.pred=[80]) with
  | false=>
    simp only[go_sem,u8w,H10,z0f,z0l,q2,q3,q4,q5,q7,q8,q9,q10,q11,hB,f1,List.length_map,hix,hp]
    rw[show [AV.agg [.str x.pred, .sl (x.args.map z0l) .no]]=[x].map z3x from rfl,z0j hB rfl ht z7h z7h (by simp only[List.length_map,List.length_singleton];omega),←List.map_append]
    simp only[go_sem,hB,q2,q3,q4,q5,q7,q8,q9,q10,q11,f2]
    exact hnx _ ⟨b++[x],_,_,_,_,i,hnew _ (.inl rfl),hi,q2,q3,q4,q5,q7,q8,q9,rfl,rfl,rfl, .inr (.inr ⟨_,rfl,rfl⟩)⟩
  | true=>
    have hp':=of_decide_eq_true hp
    simp only[go_sem,u8w,H10,z0f,z0l,q2,q3,q4,q5,q7,q8,q9,q10,q11,hB,f1,List.length_map,hix,hp]
    refine z1r (k:=12) (z3h hl (by decide) (by decide)) hB rfl hi ?_
    clear hi
    rintro v i ⟨r,rfl,hr1,hr2⟩ hi
    cases hz:decide (r=0) with
    | false=>
      simp only[go_sem,hB,q2,q3,q4,q5,q7,q8,q9,q10,q11,hz]
      rw[show [AV.agg [.str x.pred, .sl (x.args.map z0l) .no]]=[x].map z3x from rfl,z0j hB rfl ht z7h z7h (by simp only[List.length_map,List.length_singleton];omega),←List.map_append]
      simp only[go_sem,hB,q2,q3,q4,q5,q7,q8,q9,q10,q11,f2]
      exact hnx _ ⟨b++[x],_,_,_,_,i,hnew _ (.inl rfl),hi,q2,q3,q4,q5,q7,q8,q9,rfl,rfl,rfl, .inr (.inr ⟨_,rfl,rfl⟩)⟩
    | true=>
      simp only[go_sem,hB,q2,q3,q4,q5,q7,q8,q9,q10,q11,hz]
      rw[show [AV.agg [.str [78], .sl (x.args.map z0l) .no]]=[(⟨[78],x.args⟩:App)].map z3x from rfl,z0j hB rfl ht z7h z7h (by simp only[List.length_map,List.length_singleton];omega),←List.map_append]
      simp only[go_sem,hB,q2,q3,q4,q5,q7,q8,q9,q10,q11,f2]
      exact hnx _ ⟨b++[⟨[78],x.args⟩],_,_,_,_,i,hnew _ (.inr ⟨hp',rfl⟩),hi,q2,q3,q4,q5,q7,q8,q9,rfl,rfl,rfl, .inr (.inr ⟨_,rfl,rfl⟩)⟩
 ·clear h2 h3 h4 h5 h7 h8 h9 h10 h11 hi
  rintro f1 ts h clk P ⟨b,t,a6,a7,a8,i,hb2,hi,q2,q3,q4,q5,q7,q8,q9,q10,q11,rfl,ht⟩ he hr
  dsimp only at q2 q3 q4 q5 q7 q8 q9 q10 q11
  rw[List.take_length] at hb2
  simp only[go_sem,u8w,H10,z0f,z0l,q2,q3,q4,q5,q7,q8,q9,q10,q11,hB,f1,List.length_map]
  exact he _ _ (hQ b t _ _ _ _ i _ hb2 hi (by simp[z0b,q2]) (by simp[z0b,q3]) (by simp[z0b,q4]) (by simp[z0b,q5]) (by simp[z0b,q7]) (by simp[z0b,q8]) (by simp[z0b,q9]) (by simp[z0b,q10]))
section
variable {D L:List AObj} {B k gc n j:Nat} {es:List AV} {c:Clause}
theorem g3d (hB:D.length=B) (hL:L[k]? =some (.blk gc es true true 0)) (he:es[j]? =some (z0f c)) (hj:j < n):z1m (D++L) 5 (.ob (B + k) gc 0 n) (.int .i64 (j:Int))=some (.ptr (B + k) gc j 0,D++L):=by
 have hb:z2a (D++L) (B + k) gc=some (es,true,true,0):=by rw[z6w hB];exact z5z hL
 simp[z1m,hb,he,hj,z0f,AV.cells]
theorem g0o {b:List App} {t:Tip} (hB:D.length=B) (hL:L[k]? =some (.blk gc es true true 0)) (he:es[j]? =some (z0f c)):z8s (D++L) 1 (.sl (b.map z3x) t) (.ptr (B + k) gc j 1)=some (.undef,D++L.set k (.blk gc (es.set j (z0f ⟨c.vars,b,c.guard,c.head⟩)) true true 0)):=by
 have hb:z2a (D++L) (B + k) gc=some (es,true,true,0):=by rw[z6w hB];exact z5z hL
 have hp:pub (D++L) (.sl (b.map z3x) t)=some (.sl (b.map z3x) .no,D++L):=rfl
 rw[q0h,hb]
 simp only[he,if_true,hp]
 simp[AV.def?,AV.cells,w1k,z9z,z9j,z0f,AV.obs,z4k,z5i hB]
end
def g2a (c a:Clause):Prop:=a.vars=c.vars∧a.guard=c.guard∧a.head=c.head∧g3h c.body a.body
def u9o (c a:Clause):Prop:=c.head.pred=[80]∧a=⟨c.vars,c.body,c.guard,⟨[78],c.head.args⟩⟩
theorem u7w {l:List Int} {B g i g1 gc clk:Nat} {D R:List AObj} {cs:List Clause} {a0 a2 a3 a4 a5 a6 a7 a8 a9 a10 a11 r0 r1 r2:AObj} {pv v2:AV} {ts:Tmps} {ks:List Kf} {Q:Post} (hl:q7q l) (hB:D.length=B) (hi:i≤l.length) (hcs:cs.length≤8) (hb:∀ c∈cs,c.body.length≤1000) (h2:ts 2=v2) (h3:ts 3= .ptr (B + 12) g 0 0) (h4:ts 4= .ptr (B + 1) g1 0 0) (h5:ts 5= .str [80]) (h7:ts 7= .sl [] .nil) (h8:ts 8= .int .i64 0)
  (hQ:∀ (acc more:List Clause) (t:Tip) (ts':Tmps) (a5 a6 a7 a8 a9 a10:AObj) (i' clk':Nat),acc.length=cs.length→more.length≤8→(∀ a∈acc,∃ c∈cs,g2a c a)→(∀ a∈more,∃ c∈cs,u9o c a)→ts' 2=v2→ts' 4= .ptr (B + 1) g1 0 0→ts' 7= .sl (more.map z0f) t→K Gam B (.exit 0) ks ⟨ts',D++H10 a0 (.blk g1 [.agg [pv, .ob (B + 16) gc 0 cs.length]] false false 0) a2 a3 a4 a5 a6 a7 a8 a9 a10 a11 (z5c g l i') (r0::r1::r2:: .blk gc (acc.map z0f) true true 0::R),clk'⟩ Q):
  K Gam B (.loop u8x) ks ⟨ts,D++H10 a0 (.blk g1 [.agg [pv, .ob (B + 16) gc 0 cs.length]] false false 0) a2 a3 a4 a5 a6 a7 a8 a9 a10 a11 (z5c g l i) (r0::r1::r2:: .blk gc (cs.map z0f) true true 0::R),clk⟩ Q:=by
 refine z6z cs.length (by omega) (fun j q=>∃ (acc more:List Clause) (t:Tip) (a5 a6 a7 a8 a9 a10:AObj) (i:Nat),acc.length=j∧more.length≤j∧(∀ a∈acc,∃ c∈cs,g2a c a)∧(∀ a∈more,∃ c∈cs,u9o c a)∧i≤l.length∧q.ts 2=v2∧q.ts 3= .ptr (B + 12) g 0 0∧q.ts 4= .ptr (B + 1) g1 0 0∧q.ts 5= .str [80]∧q.ts 7= .sl (more.map z0f) t∧q.ts 8= .int .i64 (j:Int)∧q.h=D++H10 a0 (.blk g1 [.agg [pv, .ob (B + 16) gc 0 cs.length]] false false 0) a2 a3 a4 a5 a6 a7 a8 a9 a10 a11 (z5c g l i) (r0::r1::r2:: .blk gc ((acc++cs.drop j).map z0f) true true 0::R)∧z8k B 10 a10 t 5) ⟨[],[], .nil,_,_,_,_,_,_,_,rfl,by simp,by simp,by simp,hi,h2,h3,h4,h5,h7,h8,rfl, .inl rfl⟩ ?_ ?_
 ·clear h2 h3 h4 h5 h7 h8 hi
  rintro j hlt f1 f2 ts h clk P ⟨acc,more,t,a5,a6,a7,a8,a9,a10,i,hal,hml,hacc,hmore,hi,q2,q3,q4,q5,q7,q8,rfl,ht⟩ hnx he hr
  dsimp only at q2 q3 q4 q5 q7 q8
  have hdr:cs.drop j=cs[j]::cs.drop (j + 1):=List.drop_eq_getElem_cons hlt
  have hmem:=List.getElem_mem hlt
  have hbl:=hb _ hmem
  have hes:((acc++cs.drop j).map z0f)[j]? =some (z0f cs[j]):=by
   rw[hdr,List.getElem?_map,List.getElem?_append_right (by omega),hal,Nat.sub_self]
   rfl
  have hset:∀ a,((acc++cs.drop j).map z0f).set j (z0f a)=((acc++[a])++cs.drop (j + 1)).map z0f:=fun a=>by
   rw[hdr,←List.map_set,List.set_append_right _ _ (by omega),hal,Nat.sub_self,List.set_cons_zero,List.append_assoc]
   rfl
  generalize hE:(acc++cs.drop j).map z0f=es at *
  generalize cs[j]=c at *
  have hidx:∀ L:List AObj,L[16]? =some (.blk gc es true true 0)→z1m (D++L) 5 (.ob (B + 16) gc 0 cs.length) (.int .i64 (j:Int))=some (.ptr (B + 16) gc j 0,D++L):=fun L h=>g3d hB h hes hlt
  have hst:∀ (L:List AObj) (b:List App) (t:Tip),L[16]? =some (.blk gc es true true 0)→z8s (D++L) 1 (.sl (b.map z3x) t) (.ptr (B + 16) gc j 1)=some (.undef,D++L.set 16 (.blk gc (((acc++[(⟨c.vars,b,c.guard,c.head⟩:Clause)])++cs.drop (j + 1)).map z0f) true true 0)):=fun L b t h=>by rw[←hset];exact g0o hB h hes
  have hes':=hes
  rw[z0f,z0l] at hes'
  simp only[go_sem,u8x,H10,q2,q3,q4,q5,q7,q8,hB,f1,hidx,hes',Option.bind_some]
  refine u8t (l:=l) (c:=c) (g5:=_) (v2:=v2) (v4:= .ptr (B + 1) g1 0 0) (v7:= .sl (more.map z0f) t) (v8:= .int .i64 (j:Int)) hl hB hi hbl (by simp[z0b,q2]) (by simp[z0b,q3]) (by simp[z0b,q4]) (by simp[z0b,q5]) (by simp[z0b,q7]) (by simp[z0b,q8]) (by simp[z0b]) (by simp[z0b]) (by simp[z0b]) fun b tb ts2 a6 a7 a8 i2 clk2 hren hi2 r2 r3 r4 r5 r7 r8 r9 r10=> ?_
  have hren':g2a c ⟨c.vars,b,c.guard,c.head⟩:=⟨rfl,rfl,rfl,hren⟩
  have hacc':∀ a∈acc++[(⟨c.vars,b,c.guard,c.head⟩:Clause)],∃ c∈cs,g2a c a:=fun a ha=>by
   rw[List.mem_append,List.mem_singleton] at ha
   rcases ha with ha | rfl
   ·exact hacc a ha
   ·exact⟨c,hmem,hren'⟩
  have hal':(acc++[(⟨c.vars,b,c.guard,c.head⟩:Clause)]).length=j + 1:=by rw[List.length_append,hal];rfl
  cases hp:decide (c.head.pred=[80]) with
  | false=>
    simp only[go_sem,H10,z0f,z0l,hB,r2,r3,r4,r5,r7,r8,r9,r10,hidx,hst,hp,f2]
    exact hnx _ ⟨_,more,t,_,_,_,_,_,_,_,hal',by omega,hacc',hmore,hi2,r2,r3,r4,r5,r7,rfl,rfl,ht⟩
  | true=>
    have hp':=of_decide_eq_true hp
    simp only[go_sem,H10,z0f,z0l,hB,r2,r3,r4,r5,r7,r8,r9,r10,hidx,hst,hp]
    refine z1r (k:=12) (z3h hl (by decide) (by decide)) hB rfl hi2 ?_
    clear hi hi2
    rintro v i ⟨r,rfl,hr1,hr2⟩ hi
    cases hz:decide (0 < r) with
    | false=>
      simp only[go_sem,hB,r2,r3,r4,r5,r7,r8,hz,f2]
      exact hnx _ ⟨_,more,t,_,_,_,_,_,_,_,hal',by omega,hacc',hmore,hi,r2,r3,r4,r5,r7,rfl,rfl,ht⟩
    | true=>
      have hcopy:u9o c ⟨c.vars,c.body,c.guard,⟨[78],c.head.args⟩⟩:=⟨hp',rfl⟩
      simp only[go_sem,hB,r2,r3,r4,r5,r7,r8,r9,hz]
      rw[show [AV.agg [.sl (c.vars.map z1b) .no, .sl (c.body.map z3x) .no, .sl (c.guard.map eNode) .no, .str [78], .sl (c.head.args.map z0l) .no]]=[(⟨c.vars,c.body,c.guard,⟨[78],c.head.args⟩⟩:Clause)].map z0f from rfl,z0j hB rfl ht z3l z3l (by simp only[List.length_map,List.length_singleton];omega),←List.map_append]
      simp only[go_sem,hB,r2,r3,r4,r5,r7,r8,f2]
      refine hnx _ ⟨_,more++[⟨c.vars,c.body,c.guard,⟨[78],c.head.args⟩⟩],_,_,_,_,_,_,_,_,hal',by rw[List.length_append];simp;omega,hacc',fun a ha=> ?_,hi,r2,r3,r4,r5,rfl,rfl,rfl, .inr (.inr ⟨_,rfl,rfl⟩)⟩
      rw[List.mem_append,List.mem_singleton] at ha
      rcases ha with ha | rfl
      ·exact hmore a ha
      ·exact⟨c,hmem,hcopy⟩
 ·clear h2 h3 h4 h5 h7 h8 hi
  rintro f1 ts h clk P ⟨acc,more,t,a5,a6,a7,a8,a9,a10,i,hal,hml,hacc,hmore,hi,q2,q3,q4,q5,q7,q8,rfl,ht⟩ he hr
  dsimp only at q2 q3 q4 q5 q7 q8
  rw[List.drop_length,List.append_nil]
  simp only[go_sem,u8x,H10,q2,q3,q4,q5,q7,q8,hB,f1]
  exact he _ _ (hQ acc more t _ _ _ _ _ _ _ i _ hal (by omega) hacc hmore (by simp[z0b,q2]) (by simp[z0b,q4]) (by simp[z0b,q7]))
section
theorem AppOk.sub {ps qs:List Func} {V:List Var} {a:App} (h:AppOk ps V a) (hs:∀ f∈ps,f∈qs):AppOk qs V a:=by
 obtain⟨f,hf,h1⟩:=h
 exact⟨f,hs f hf,h1⟩
theorem u8u {n:Nat} {f:Func} (hf:f∈u6e.take n) (h:f.name=[80]):f.args=[2]:=by
 have:=List.mem_of_mem_take hf
 simp only[u6e,List.mem_cons,List.not_mem_nil,or_false] at this
 rcases this with rfl | rfl | rfl | rfl | rfl <;> simp_all
theorem AppOk.new {n:Nat} {qs:List Func} {V:List Var} {a:App} (h:AppOk (u6e.take n) V a) (hp:a.pred=[80]) (hq:u6h∈qs):AppOk qs V ⟨[78],a.args⟩:=by
 obtain⟨f,hf,h1,h2,h3⟩:=h
 have hfa:=u8u hf (by rw[←h1,hp])
 refine⟨u6h,hq,rfl, ?_, ?_⟩
 ·rw[hfa] at h2
  exact h2
 ·rw[hfa] at h3
  exact h3
section
variable {n:Nat} {qs:List Func} {c a:Clause}
theorem ClauseOk.ren (h:ClauseOk (u6e.take n) c) (hs:∀ f∈u6e.take n,f∈qs) (hq:u6h∈qs) (hr:g2a c a):ClauseOk qs a:=by
 obtain⟨h1,h2,h3,h4,h5⟩:=h
 obtain⟨e1,e2,e3,hl,hm⟩:=hr
 refine⟨by rw[e1];exact h1,by rw[hl];exact h2,fun b hb=> ?_,by rw[e1,e2];exact h4, ?_⟩
 ·obtain⟨x,hx,rfl | ⟨hp,rfl⟩⟩:=hm b hb
  ·rw[e1];exact (h3 _ hx).sub hs
  ·rw[e1];exact (h3 _ hx).new hp hq
 ·rw[e1,e3]
  exact h5.imp id fun h=>h.sub hs
theorem ClauseOk.copy (h:ClauseOk (u6e.take n) c) (hs:∀ f∈u6e.take n,f∈qs) (hq:u6h∈qs) (hr:u9o c a):ClauseOk qs a:=by
 obtain⟨h1,h2,h3,h4,h5⟩:=h
 obtain⟨hp,rfl⟩:=hr
 refine⟨h1,h2,fun b hb=>(h3 b hb).sub hs,h4, .inr ?_⟩
 rcases h5 with ⟨h5,_⟩ | h5
 ·rw[h5] at hp;cases hp
 ·exact h5.new hp hq
end
theorem g5a {s:Sys} {acc more:List Clause} (hs:SysOk s) (ha:acc.length=s.clauses.length) (hm:more.length≤8) (h1:∀ a∈acc,∃ c∈s.clauses,g2a c a) (h2:∀ a∈more,∃ c∈s.clauses,u9o c a):SysV ⟨s.preds++[u6h],acc++more⟩:=by
 obtain⟨⟨n,_,_,hp⟩,hl,hc⟩:=hs
 have hsub:∀ f∈u6e.take n,f∈s.preds++[u6h]:=fun f hf=>by rw[hp];exact List.mem_append_left _ hf
 have hq:u6h∈s.preds++[u6h]:=by simp
 refine⟨?_,by simp only[List.length_append];omega,fun c hcm=> ?_⟩
 ·show (s.preds++[u6h]).Sublist (u6e++[u6h])
  rw[hp]
  exact (List.take_sublist _ _).append (List.Sublist.refl _)
 ·rw[hp] at hc
  rcases List.mem_append.1 hcm with h | h
  ·obtain⟨d,hd,hr⟩:=h1 c h
   exact (hc d hd).ren hsub hq hr
  ·obtain⟨d,hd,hr⟩:=h2 c h
   exact (hc d hd).copy hsub hq hr
theorem g0p {H:List AObj} {p q:AV} {ps cs:List AV} (h1:z5a H p=some ps) (h2:z5a H q=some cs) (hp:(∃ xs t,p= .sl xs t)∨∃ a b c d,p= .ob a b c d) (hq:(∃ xs t,q= .sl xs t)∨∃ a b c d,q= .ob a b c d):conv H (.agg [p,q])=some (.agg [.sl ps .no, .sl cs .no]):=by
 have key:∀ v xs,z5a H v=some xs→((∃ ys t,v= .sl ys t)∨∃ a b c d,v= .ob a b c d)→conv H v=some (.sl xs .no):=by
  rintro v xs h (⟨ys,t,rfl⟩ | ⟨a,b,c,d,rfl⟩)
  ·simp only[z5a,Option.some.injEq] at h
   subst h
   rfl
  ·simp only[z5a] at h
   simp only[conv,h,Option.map_some]
 simp only[conv,z9t,key p ps h1 hp,key q cs h2 hq,Option.map_some]
end
end Go.Proofs.YtahdahokpjigiaaGreatDoor.Am
