/- Walking: systems are generated whose rows may be written by the caller Walking: clauses are copied whose bodies may be written by the caller Walking: predicates are merged Walking: predicates are merg -/
import Derived.Test.YtdfepmffiampgaaGreatDoorM36
set_option linter.all false
namespace Go.Proofs.YtdfepmffiampgaaGreatDoor.Am
open Go
set_option maxRecDepth 100000
theorem y5b {D L:List AObj} {B k g n r:Nat} {e:Nat} {es:List AV} {fz:Nat} {j:IntKind} (hB:D.length=B) (hk:L[k]? =some (.blk g es true false fz)) (hr:r≤es.length) (he:z5m e es=true):slV (D++L) (some e) (.ob (B + k) g 0 n) none (some (.int j (r:Int))) none=some (.ob (B + k) g 0 r,D++L):=by
 have hb:z1s (D++L) (B + k) g=some (es,true,false,fz):=by rw[z2i hB];exact z2g hk
 simp[slV,z3c,hb,z5l,hr,he]
theorem u5u {zs:List Int} {u:Tip} {h:List AObj} {clk:Nat} {Q:AV→List AObj→Nat→Prop} (hz:∀ z∈zs, -9223372036854775808≤z∧z≤9223372036854775807) (hN:x1x (zs.take 400)) (hQ:∀ s,SysOk s→∀ (cv:AV) (o0 o1 o2 o o4 p0 p1 p2 p3:AObj) (gp fz c:Nat),ClRow h.length 3 cv o s.clauses→fz≤s.preds.length→Q (.agg [.ob (h.length + 9) gp 0 s.preds.length,cv]) (h++[o0,o1,o2,o,o4,p0,p1,p2,p3, .blk gp (z2d.map z1e) true false fz]) c):WC Gam 15 [.sl (z6z zs) u] h clk Q:=by
 have hl:q6i (zs.take 400):=⟨by simp;omega,fun z h=>hz z (List.mem_of_mem_take h)⟩
 generalize hzs:zs.take 400=l at hN hl
 refine z9u rfl g2o rfl rfl rfl (az:=[.sl (z6z zs) .no]) rfl (by simp[idsL,AV.ids,z8k]) fun D B hB hBh=> ?_
 simp only[go_sem,u7m,hB]
 refine j4o fun g c=> ?_
 have e0:∀ (x y:AObj),(D++[x,y, .dead, .dead]).length=B + 4:=fun x y=>by simp[hB]
 have e1:∀ (x y o:AObj),(D++[x,y, .dead, .dead])++[o]=D++[x,y, .dead, .dead,o]:=fun x y o=>by simp
 rw[e0,e1,hzs]
 simp only[go_sem,hB]
 refine z3g (g3r fun p0 p1 p2 p3 gp c2=> ?_)
 have e6:∀ (x y o:AObj),(D++[x,y, .dead, .dead,o]).length + 4=B + 9:=fun x y o=>by simp[hB]
 have e7:∀ (x y o a b c d e:AObj),(D++[x,y, .dead, .dead,o])++[a,b,c,d,e]=D++[x,y, .dead, .dead,o,a,b,c,d,e]:=fun _ _ _ _ _ _ _ _=>by simp
 rw[e6,e7]
 simp only[go_sem,hB]
 refine z1w (k:=4) (z3i hl (by decide) (by decide)) hB rfl (Nat.zero_le _) ?_
 rintro v i ⟨r,rfl,hr1,hr2⟩ hi
 obtain⟨n,rfl⟩:∃ k:Nat,r=k:=⟨r.toNat,by omega⟩
 have e2:IntKind.i64.wrap (2 + (n:Int))=((2 + n:Nat):Int):=by rw[z0f (by omega) (by omega)];omega
 have e3:(z2d.map z1e).take (2 + n)=(z2d.take (2 + n)).map z1e:=List.map_take.symm
 have hlen5:(z2d.map z1e).length=5:=rfl
 have e4:∀ (L:List AObj) (fz:Nat),L[9]? =some (.blk gp (z2d.map z1e) true false fz)→slV (D++L) (some 3) (.ob (B + 9) gp 0 5) none (some (.int .i64 ((2 + n:Nat):Int))) none=some (.ob (B + 9) gp 0 (2 + n),D++L):=fun L fz hk=>y5b hB hk (by rw[hlen5];omega) rfl
 have hpo:=k8h (n:=2 + n) (by omega)
 have hpn:(z2d.take (2 + n)).length=2 + n:=by rw[List.length_take];show min (2 + n) 5=2 + n;omega
 generalize hps:z2d.take (2 + n)=ps at hpo e3 hpn
 simp only[go_sem,hB,e2,Option.map_none]
 rw[e4 _ _ rfl]
 simp only[go_sem,hB]
 refine z1w (k:=4) (z3i hl (by decide) (by decide)) hB rfl hi ?_
 rintro v i2 ⟨r,rfl,hr3,hr4⟩ hi2
 obtain⟨z,rfl⟩:∃ k:Nat,r=k:=⟨r.toNat,by omega⟩
 have e5:IntKind.i64.wrap (1 + (z:Int))=((1 + z:Nat):Int):=by rw[z0f (by omega) (by omega)];omega
 simp only[go_sem,hB,e5]
 refine z1q (fun m s=>∃ (n':Nat) (acc:List Clause) (cv:AV) (i g0 g1 fz:Nat) (x y:AObj),m=n'∧acc.length + n'≤8∧(∀ a∈acc,ClauseOk ps a)∧i≤l.length∧fz≤2 + n∧s.ts 2= .ptr (B + 0) g0 0 0∧s.ts 3= .ptr (B + 4) g 0 0∧s.ts 4= .ptr (B + 1) g1 0 0∧s.ts 5= .int .i64 (n':Int)∧
  s.h=D++[.blk g0 [.agg [.sl [] .nil, .sl [] .nil]] false false 0, .blk g1 [.agg [.ob (B + 9) gp 0 (2 + n),cv]] false false 0,x,y,z3v g l i,p0,p1,p2,p3, .blk gp (z2d.map z1e) true false fz]∧ClRow B 3 cv y acc) (1 + z) ?_ ?_
 ·exact⟨1 + z,[], .sl [] .nil,i2,_,_,0,_,_,rfl,by simp;omega,by simp,hi2,by omega,rfl,rfl,rfl,rfl,rfl, .inl ⟨rfl,rfl⟩⟩
 clear e0 e1 hi hi2 e2 e4
 rintro m ⟨ts,h1,clk⟩ P ⟨n',acc,cv,i,g0,g1,fz,x,y,rfl,hlen,hacc,hi,hfz,h2,h3,h4,h5,rfl,ht⟩ hn he hr
 dsimp only at h2 h3 h4 h5
 have fin:∀ (ts':Tmps) (i' clk':Nat),i'≤l.length→ts' 2= .ptr (B + 0) g0 0 0→ts' 4= .ptr (B + 1) g1 0 0→P (.exit 0) ⟨ts',D++[.blk g0 [.agg [.sl [] .nil, .sl [] .nil]] false false 0, .blk g1 [.agg [.ob (B + 9) gp 0 (2 + n),cv]] false false 0,x,y,z3v g l i',p0,p1,p2,p3, .blk gp (z2d.map z1e) true false fz],clk'⟩:=by
  intro ts' i' clk' hi' q2 q4
  refine he _ _ ?_
  have hcv:cv.def? =true∧cv.cells=[cv]∧cv.one=true:=by
   rcases ht with ⟨rfl,_⟩ | ⟨g',rfl,_⟩ <;> exact⟨rfl,rfl,rfl⟩
  have hst:∀ (g:Nat) (L:List AObj),L[0]? =some (.blk g [.agg [.sl [] .nil, .sl [] .nil]] false false 0)→z4y (D++L) 2 (.agg [.ob (B + 9) gp 0 (2 + n),cv]) (.ptr (B + 0) g 0 0)=some (.undef,D++L.set 0 (.blk g [.agg [.ob (B + 9) gp 0 (2 + n),cv]] false false 0)):=fun g L hL=>by
   have hb:z1s (D++L) (B + 0) g=some ([.agg [.sl [] .nil, .sl [] .nil]],false,false,0):=by rw[z2i hB];exact z2g hL
   rw[q0g (sz:=2) (v:= .agg [.ob (B + 9) gp 0 (2 + n),cv]) hb rfl rfl (by simp[AV.cells,j3u,hcv.2.2]) (by simp[AV.cells]),z1t hB]
   rfl
  simp only[go_sem,q2,q4,hB,hst]
  refine⟨fun _=>by simp,[.agg [.ob (B + 9) gp 0 (2 + n),cv]],_, ?_,rfl, .inr ⟨⟨B + 9,by simp[z1l,AV.ids,idsL],by omega⟩, ?_⟩⟩
  ·simp only[go_sem,q2,hB,z0m,z0l,z0g]
  ·have:=hQ ⟨ps,acc⟩ ⟨⟨2 + n,by omega,by omega,hps.symm⟩,by simp only;omega,hacc⟩ cv (.blk g0 [.agg [.ob (B + 9) gp 0 (2 + n),cv]] false false 0) (.blk g1 [.agg [.ob (B + 9) gp 0 (2 + n),cv]] false false 0) x y (z3v g l i') p0 p1 p2 p3 gp fz
   rw[hpn,←hBh] at this
   exact this _ ht hfz
 by_cases hm:m=0
 ·have hb:decide (0 < (m:Int))=false:=by rw[decide_eq_false_iff_not];omega
  simp only[go_sem,h2,h3,h4,h5,hB,k7q,hb]
  exact fin _ _ _ hi (by simp[z0c,h2]) (by simp[z0c,h4])
 ·have hb:decide (0 < (m:Int))=true:=by rw[decide_eq_true_iff];omega
  obtain⟨n',rfl⟩:∃ n',m=n' + 1:=⟨m - 1,by omega⟩
  have en:IntKind.i64.wrap (((n' + 1:Nat):Int) - 1)=(n':Int):=z5x (by omega)
  simp only[go_sem,h2,h3,h4,h5,hB,k7q,hb]
  refine z1w (k:=4) v9z hB rfl hi ?_
  clear hi
  rintro v i ⟨b,rfl⟩ hi
  simp only[go_sem,h2,h3,h4,h5,hB]
  refine z8i (fun hc=> ?_) (fun hc=> ?_)
  ·simp only[go_sem,h2,h3,h4,h5,hB,z0y]
   refine z1w (k:=4) (z3i hl (by decide) (by decide)) hB rfl hi ?_
   clear hi
   rintro v i ⟨r,rfl,hr5,hr6⟩ hi
   simp only[go_sem,h2,h3,h4,h5,hB]
   have hg53:=fun b=>u2z (l:=l) (q:=b) (u:= .no) hl hN hpo
   rw[←e3] at hg53
   refine k4r (k:=4) (j:=9) (n:=2 + n) (hg53 _) rfl u7q rfl hB rfl rfl (by decide) (by rw[hlen5];omega) hi ?_
   clear hi
   rintro v i ⟨c,rfl,hc⟩ hi
   have hmx:max fz (2 + n)≤2 + n:=by omega
   generalize max fz (2 + n)=fz' at hmx
   have hbs:∀ h s g,bsR h s g (.agg [.sl [] .nil, .sl [] .nil, .sl [] .nil, .str [], .sl [] .nil]) 1 [0] [z0e c]=some (.ob s g 0 1,h.set s (.blk g [z0e c] true false 0)):=fun h s g=>u5t rfl rfl rfl rfl
   simp only[go_sem,h2,h3,h4,h5,hB,hbs]
   rw[q6t (j:=2) (k:=3) (fun _=>z2o) hB rfl rfl ht (by omega) (by omega)]
   simp only[go_sem,h2,h3,h4,h5,hB,en]
   refine⟨by simp[z0v,apart,z0h,z0s,z0w,AOp.isCall,hB], ?_⟩
   refine hn n' _ (by omega) ⟨n',acc++[c],_,i,g0,g1,fz',_,_,rfl,by simp;omega, ?_,hi,hmx,h2,h3,h4,rfl,rfl, .inr ⟨_,rfl,rfl,by simp⟩⟩
   intro a' ha'
   rw[List.mem_append,List.mem_singleton] at ha'
   rcases ha' with ha' | rfl
   ·exact hacc a' ha'
   ·exact hc
  ·simp only[go_sem,h2,h3,h4,h5,hB]
   exact fin _ _ _ hi (by simp[z0c,h2]) (by simp[z0c,h4])
def x2c (c:Clause) (cv:AV):AV:= .agg [.sl (c.vars.map z1h) .no,cv, .sl (c.guard.map eNode) .no, .str c.head.pred, .sl (c.head.args.map z0i) .no]
theorem g3s {c:Clause} {h:List AObj} {clk:Nat} {Q:AV→List AObj→Nat→Prop} (hb:c.body.length≤20000) (hba:∀ a∈c.body,a.args.length≤2 ^ 20∧∀ t∈a.args,t.length≤2 ^ 20) (hh:c.head.args.length≤2 ^ 20∧∀ t∈c.head.args,t.length≤2 ^ 20) (hv:c.vars.length≤2 ^ 20) (hg:c.guard.length≤2 ^ 20)
  (h0:c.body=[]→Q (x2c c (.sl [] .nil)) h clk) (hQ:∀ o0 o1 o2 o3 o4 g c',c.body≠[]→Q (x2c c (.ob (h.length + 5) g 0 c.body.length)) (h++[o0,o1,o2,o3,o4, .blk g (c.body.map z1p) true true 0]) c'):WC Gam 61 [z0e c] h clk Q:=by
 have hp:=v4l hh.1 hh.2
 rw[z1p] at hp
 refine z9u rfl g3k rfl rfl rfl (az:=[z0e c]) rfl (by simp[idsL,z1j]) fun D B hB hBh=> ?_
 simp only[go_sem,u8y,hB,z0e,z0i,z0y,z0a (v4k hv),z0a (k3v hg),z0a hp,List.length_map]
 refine⟨by simp[z0v,apart,z0h,z0s,z0w,AOp.isCall,hB,AV.ids,idsL,z0b z1k,z0b z0x,z0b z1f], ?_⟩
 refine z2y c.body.length (by omega) (fun i q=>∃ (g1 g2:Nat) (cv:AV) (a o3 o4 o5:AObj),q.ts 2= .ptr (B + 1) g1 0 0∧q.ts 3= .ptr (B + 2) g2 0 0∧q.ts 17= .sl (c.body.map z1p) .no∧q.ts 18= .int .i64 (c.body.length:Int)∧q.ts 19= .int .i64 (i:Int)∧q.h=D++[a, .blk g1 [.agg [.sl [] .nil, .sl [] .nil, .sl [] .nil, .str [], .sl [] .nil]] false false 0, .blk g2 [x2c c cv] false false 0,o3,o4,o5]∧y8o z1p B 5 cv o5 (c.body.take i)) ⟨_,_, .sl [] .nil,_,_,_,_,rfl,rfl,rfl,rfl,rfl,rfl, .inl ⟨rfl,by simp⟩⟩ ?_ ?_
 ·rintro i hlt f1 f2 ts h' clk' P ⟨g1,g2,cv,a,o3,o4,o5,q2,q3,q17,q18,q19,rfl,ht⟩ hnx he hr
  dsimp only at q2 q3 q17 q18 q19
  have hix:=fun h=>q2p (l:=c.body) (i:=i) (h:=h) (t:= .no) (k:= .i64) hlt
  have htk:=List.take_succ_eq_append_getElem hlt
  have hpa:=v4l (a:=c.body[i]) (hba _ (List.getElem_mem hlt)).1 (hba _ (List.getElem_mem hlt)).2
  have hbs:∀ h s g,bsR h s g (.agg [.str [], .sl [] .nil]) 1 [0] [.agg [.str c.body[i].pred, .sl (c.body[i].args.map z0i) .no]]=some (.ob s g 0 1,h.set s (.blk g [z1p c.body[i]] true false 0)):=fun h s g=>u5t rfl rfl rfl rfl
  have hcv:cv.ids=[]∨cv.ids=[B + 5]:=by
   rcases ht with ⟨rfl,_⟩ | ⟨g,rfl,_⟩
   ·exact .inl rfl
   ·exact .inr rfl
  rw[z1p] at hpa
  generalize c.body[i]=x at *
  simp only[go_sem,k9a,x2c,q2,q3,q17,q18,q19,hB,z0y,f1,hix,z0a hpa,hbs]
  rw[q6t (j:=4) (k:=5) (fun _=>z3n) hB rfl rfl ht (by rw[List.length_take];omega) (by omega),←htk]
  simp only[go_sem,q2,q3,q17,q18,q19,hB,f2]
  refine⟨?_, ?_⟩
  ·rcases hcv with hcv | hcv <;> simp[z0v,apart,z0h,z0s,z0w,AOp.isCall,hB,AV.ids,idsL,z0b z1f,hcv]
  ·refine hnx _ ⟨g1,g2,_,_,_,_,_,q2,q3,q17,q18,rfl,rfl, .inr ⟨_,rfl,rfl,fun e=> ?_⟩⟩
   have:=congrArg List.length e
   rw[htk] at this
   simp at this
 ·rintro f1 ts h' clk' P ⟨g1,g2,cv,a,o3,o4,o5,q2,q3,q17,q18,q19,rfl,ht⟩ he hr
  dsimp only at q2 q3 q17 q18 q19
  rw[List.take_length] at ht
  simp only[go_sem,k9a,q2,q3,q17,q18,q19,f1]
  refine he _ _ ?_
  have hs:=show cv.def? =true∧cv.cells=[cv]∧cv.one=true by rcases ht with ⟨rfl,_⟩ | ⟨g,rfl,_⟩ <;> exact⟨rfl,rfl,rfl⟩
  have hst:∀ (g:Nat) (L:List AObj),L[1]? =some (.blk g [.agg [.sl [] .nil, .sl [] .nil, .sl [] .nil, .str [], .sl [] .nil]] false false 0)→z4y (D++L) 5 (x2c c cv) (.ptr (B + 1) g 0 0)=some (.undef,D++L.set 1 (.blk g [x2c c cv] false false 0)):=fun g L hL=>by
   have hb:z1s (D++L) (B + 1) g=some ([.agg [.sl [] .nil, .sl [] .nil, .sl [] .nil, .str [], .sl [] .nil]],false,false,0):=by rw[z2i hB];exact z2g hL
   rw[q0g (sz:=5) (v:=x2c c cv) hb rfl rfl (by simp[x2c,AV.cells,x8q,q9y,hs.2.2]) (by simp[AV.cells]),z1t hB]
   rfl
  have hrd:∀ g L,L[2]? =some (.blk g [x2c c cv] false false 0)→z8j (D++L) (some 5) (.ptr (B + 2) g 0 0)=some (x2c c cv,D++L):=fun g L hL=>by
   rw[q9x,z2i hB,z2g hL]
   rfl
  simp only[go_sem,q2,q3,hB,hrd,hst]
  refine⟨fun _=>by simp,[x2c c cv],_, ?_,rfl, ?_⟩
  ·simp only[go_sem,q2,hB,x2c,z0m,z0l,z0g]
  ·rcases ht with ⟨rfl,h00⟩ | ⟨g,rfl,rfl,hne⟩
   ·exact .inl ⟨by simp[z1l,x2c,AV.ids,idsL,z0b z1k,z0b z0x,z0b z1f],h0 h00⟩
   ·subst hBh
    exact .inr ⟨⟨h.length + 5,by simp[z1l,x2c,AV.ids,idsL,z0b z1k,z0b z0x,z0b z1f],by omega⟩,hQ _ _ _ _ _ g _ hne⟩
section
def mC (x:Tf) (c:Clause):Clause:=⟨c.vars,c.body.map (z7p x.pred x.into),c.guard,c.head⟩
theorem j5w {s:Sys} {x:Tf}:∀ {n:Nat},n≤s.clauses.length→(kpI s x.pred n).map (fun i=>mC x (q4l s i))=q4m x (s.clauses.take n)
 | 0,_=>by simp[kpI,q4m]
 | n + 1,h=>by
   have hn:n < s.clauses.length:=by omega
   rw[j5s,x4a hn,List.map_append,j5w (by omega),x5z hn]
   by_cases e:s.clauses[n].head.pred=x.pred
   ·simp[e]
   ·rw[if_neg e,if_neg e,List.map_singleton,q6s hn]
    have:z7p x.pred x.into s.clauses[n].head=s.clauses[n].head:=by simp[z7p,e]
    simp[mC,q0q,this]
section
variable {D L:List AObj} {B k g n j:Nat} {al:List App}
theorem y5c (hB:D.length=B) (hL:L[k]? =some (.blk g (al.map z1p) true true 0)) (hj:j < al.length) (hn:j < n):z1n (D++L) 2 (.ob (B + k) g 0 n) (.int .i64 (j:Int))=some (.ptr (B + k) g j 0,D++L):=by
 have hb:z1s (D++L) (B + k) g=some (al.map z1p,true,true,0):=by rw[z2i hB];exact z2g hL
 simp[z1n,hb,hj,hn,z1p,AV.cells]
theorem v0d {y:App} (hB:D.length=B) (hL:L[k]? =some (.blk g (al.map z1p) true true 0)) (hj:j < al.length):z4y (D++L) 2 (.agg [.str y.pred, .sl (y.args.map z0i) .no]) (.ptr (B + k) g j 0)=some (.undef,D++L.set k (.blk g ((al.set j y).map z1p) true true 0)):=by
 have hb:z1s (D++L) (B + k) g=some (al.map z1p,true,true,0):=by rw[z2i hB];exact z2g hL
 have he:(al.map z1p)[j]? =some (z1p al[j]):=by simp[hj]
 have hp:pub (D++L) (.agg [.str y.pred, .sl (y.args.map z0i) .no])=some (.agg [.str y.pred, .sl (y.args.map z0i) .no],D++L):=rfl
 rw[z6y,hb]
 simp only[he,if_true,hp]
 simp[AV.def?,AV.cells,x8q,q9y,z8a,z7q,z1p,AV.obs,z3y,z1t hB,List.map_set]
theorem y5d {v w:List AV} {t u:Tip} {p:List Nat} {q:List AV} {r:Tip} (hB:D.length=B) (hL:L[k]? =some (.blk g (al.map z1p) true true 0)):bsV (D++L) (.agg [.sl [] .nil, .sl [] .nil, .sl [] .nil, .str [], .sl [] .nil]) 1 [0] [.agg [.sl v t, .ob (B + k) g 0 al.length, .sl w u, .str p, .sl q r]]=some (.sl [.agg [.sl v .no, .sl (al.map z1p) .no, .sl w .no, .str p, .sl q .no]] .full,D++L.set k (.blk g (al.map z1p) true true al.length)):=by
 have hb:z1s (D++L) (B + k) g=some (al.map z1p,true,true,0):=by rw[z2i hB];exact z2g hL
 have hr:q0r (D++L) (B + k) g 0 al.length=some (al.map z1p):=by
  have ht:List.take al.length (al.map z1p)=al.map z1p:=List.take_of_length_le (by simp)
  simp[q0r,hb,ht]
 have hg:(D++L)[B + k]? =some (.blk g (al.map z1p) true true 0):=by rw[z2v hB];exact hL
 simp[bsV,z7h,conv,hr,z4j,AV.def?,AV.cells,z3y,AV.obs,freezeAll,hg,z1t hB]
end
def H15 (g0 gx g2 g8 g9:Nat) (s:Sys) (x:Tf) (pv cv:AV) (R:List AObj):List AObj:= .blk g0 [z1b s] false false 0:: .blk gx [eTf x] false false 0:: .blk g2 [.agg [.sl [] .nil, .sl [] .nil]] false false 0:: .blk g8 [q4o x.pred x.into] false false 0:: .blk g9 [.agg [pv,cv]] false false 0::R
theorem j8v {s:Sys} {x:Tf} {c:Clause} {al:List App} {B clk g0 gx g2 g8 g9 g14 gr m:Nat} {D G:List AObj} {a5 a6 a7 a9 a10 a11:AObj} {pv cv v52 v53 v54:AV} {ts:Tmps} {ks:List Kf} {Q:Post} (hB:D.length=B) (hal:al.length≤20000) (hG:G[m]? =some (.blk gr (al.map z1p) true true 0)) (h2:ts 2= .ptr (B + 0) g0 0 0) (h4:ts 4= .ptr (B + 2) g2 0 0) (h8:ts 8= .ptr (B + 3) g8 0 0) (h9:ts 9= .ptr (B + 4) g9 0 0) (h14:ts 14= .ptr (B + 8) g14 0 0) (h52:ts 52=v52) (h53:ts 53=v53) (h54:ts 54=v54) (h65:ts 65= .ob (B + (m + 12)) gr 0 al.length) (h66:ts 66= .int .i64 (al.length:Int)) (h67:ts 67= .int .i64 0)
  (hQ:∀ (ts':Tmps) (a9:AObj) (clk':Nat),ts' 2= .ptr (B + 0) g0 0 0→ts' 4= .ptr (B + 2) g2 0 0→ts' 8= .ptr (B + 3) g8 0 0→ts' 9= .ptr (B + 4) g9 0 0→ts' 14= .ptr (B + 8) g14 0 0→ts' 52=v52→ts' 53=v53→ts' 54=v54→K Gam B (.exit 4) ks ⟨ts',D++H15 g0 gx g2 g8 g9 s x pv cv (a5::a6::a7:: .blk g14 [x2c c (.ob (B + (m + 12)) gr 0 al.length)] false false 0::a9::a10::a11::G.set m (.blk gr ((al.map (z7p x.pred x.into)).map z1p) true true 0)),clk'⟩ Q):
  K Gam B (.loop x8u) ks ⟨ts,D++H15 g0 gx g2 g8 g9 s x pv cv (a5::a6::a7:: .blk g14 [x2c c (.ob (B + (m + 12)) gr 0 al.length)] false false 0::a9::a10::a11::G),clk⟩ Q:=by
 have hmG:m < G.length:=by
  rw[List.getElem?_eq_some_iff] at hG
  exact hG.1
 have hGe:G=G.set m (.blk gr (al.map z1p) true true 0):=by
  refine List.ext_getElem? fun j=> ?_
  by_cases h:j=m
  ·subst h;rw[hG,List.getElem?_set_self hmG]
  ·rw[List.getElem?_set_ne (fun e=>h e.symm)]
 refine z2y al.length (by omega) (fun j q=>∃ (a9:AObj),q.ts 2= .ptr (B + 0) g0 0 0∧q.ts 4= .ptr (B + 2) g2 0 0∧q.ts 8= .ptr (B + 3) g8 0 0∧q.ts 9= .ptr (B + 4) g9 0 0∧q.ts 14= .ptr (B + 8) g14 0 0∧q.ts 52=v52∧q.ts 53=v53∧q.ts 54=v54∧q.ts 65= .ob (B + (m + 12)) gr 0 al.length∧q.ts 66= .int .i64 (al.length:Int)∧q.ts 67= .int .i64 (j:Int)∧q.h=D++H15 g0 gx g2 g8 g9 s x pv cv (a5::a6::a7:: .blk g14 [x2c c (.ob (B + (m + 12)) gr 0 al.length)] false false 0::a9::a10::a11::G.set m (.blk gr (((al.take j).map (z7p x.pred x.into)++al.drop j).map z1p) true true 0))) ⟨a9,h2,h4,h8,h9,h14,h52,h53,h54,h65,h66,h67,by rw[List.take_zero,List.map_nil,List.nil_append,List.drop_zero,←hGe]⟩ ?_ ?_
 ·clear h2 h4 h8 h9 h14 h52 h53 h54 h65 h66 h67 hGe hG
  rintro j hlt f1 f2 ts h clk P ⟨a9,q2,q4,q8,q9,q14,q52,q53,q54,q65,q66,q67,rfl⟩ hnx he hr
  dsimp only at q2 q4 q8 q9 q14 q52 q53 q54 q65 q66 q67
  have hdr:al.drop j=al[j]::al.drop (j + 1):=List.drop_eq_getElem_cons hlt
  have htk:=List.take_succ_eq_append_getElem hlt
  have hjl:j < ((al.take j).map (z7p x.pred x.into)++al.drop j).length:=by simp;omega
  have hpre:((al.take j).map (z7p x.pred x.into)).length=j:=by simp;omega
  have hge:(((al.take j).map (z7p x.pred x.into)++al.drop j).map z1p)[j]? =some (.agg [.str al[j].pred, .sl (al[j].args.map z0i) .no]):=by
   rw[hdr,List.getElem?_map,List.getElem?_append_right (by omega),hpre,Nat.sub_self]
   rfl
  have hse:((al.take j).map (z7p x.pred x.into)++al.drop j).set j (z7p x.pred x.into al[j])=(al.take (j + 1)).map (z7p x.pred x.into)++al.drop (j + 1):=by
   rw[hdr,List.set_append_right _ _ (by omega),hpre,Nat.sub_self,List.set_cons_zero,htk,List.map_append,List.append_assoc]
   rfl
  have p1:=x9t (p:=x.pred) (q:=x.into) (a:=al[j])
  generalize hE:(al.take j).map (z7p x.pred x.into)++al.drop j=es at *
  generalize hy:z7p x.pred x.into al[j]=y at *
  generalize al[j]=a at *
  have hG':(G.set m (.blk gr (es.map z1p) true true 0))[m]? =some (.blk gr (es.map z1p) true true 0):=List.getElem?_set_self hmG
  have hbG:z1s (G.set m (.blk gr (es.map z1p) true true 0)) m gr=some (es.map z1p,true,true,0):=z2g hG'
  have hidx:∀ L:List AObj,L[m + 12]? =some (.blk gr (es.map z1p) true true 0)→z1n (D++L) 2 (.ob (B + (m + 12)) gr 0 al.length) (.int .i64 (j:Int))=some (.ptr (B + (m + 12)) gr j 0,D++L):=fun L hL=>y5c hB hL hjl hlt
  have hst:∀ L:List AObj,L[m + 12]? =some (.blk gr (es.map z1p) true true 0)→z4y (D++L) 2 (.agg [.str y.pred, .sl (y.args.map z0i) .no]) (.ptr (B + (m + 12)) gr j 0)=some (.undef,D++L.set (m + 12) (.blk gr ((es.set j y).map z1p) true true 0)):=fun L hL=>v0d hB hL hjl
  have hss:(G.set m (.blk gr (es.map z1p) true true 0)).set m (.blk gr ((es.set j y).map z1p) true true 0)=G.set m (.blk gr ((es.set j y).map z1p) true true 0):=List.set_set ..
  simp only[q4o,z1p] at p1
  simp only[go_sem,x8u,H15,q4o,x2c,q2,q4,q8,q9,q14,q52,q53,q54,q65,q66,q67,hB,f1,f2,hidx,hG',hbG,hge,Option.bind_some,z0y,z0a p1,hst,hss]
  refine⟨by simp[z0v,apart,z0h,z0s,z0w,AOp.isCall,hB,AV.ids,idsL,z0b z1f], ?_⟩
  exact hnx _ ⟨_,q2,q4,q8,q9,q14,q52,q53,q54,q65,q66,rfl,by rw[hse];rfl⟩
 ·clear h2 h4 h8 h9 h14 h52 h53 h54 h65 h66 h67 hGe hG
  rintro f1 ts h clk P ⟨a9,q2,q4,q8,q9,q14,q52,q53,q54,q65,q66,q67,rfl⟩ he hr
  dsimp only at q2 q4 q8 q9 q14 q52 q53 q54 q65 q66 q67
  rw[List.take_length,List.drop_length,List.append_nil]
  simp only[go_sem,x8u,q66,q67,f1]
  exact he _ _ (hQ _ _ _ (by simp[z0c,q2]) (by simp[z0c,q4]) (by simp[z0c,q8]) (by simp[z0c,q9]) (by simp[z0c,q14]) (by simp[z0c,q52]) (by simp[z0c,q53]) (by simp[z0c,q54]))
end
theorem j2w {s:Sys} {x:Tf} {B clk g0 gx g2 g8 g9:Nat} {D R:List AObj} {a5 a6 a7:AObj} {v6:AV} {ts:Tmps} {ks:List Kf} {Q:Post} (hB:D.length=B) (hpl:s.preds.length≤1000) (h2:ts 2= .ptr (B + 0) g0 0 0) (h3:ts 3= .ptr (B + 1) gx 0 0) (h4:ts 4= .ptr (B + 2) g2 0 0) (h6:ts 6=v6) (h8:ts 8= .ptr (B + 3) g8 0 0) (h9:ts 9= .ptr (B + 4) g9 0 0) (h34:ts 34= .sl (s.preds.map z1e) .no) (h35:ts 35= .int .i64 (s.preds.length:Int)) (h36:ts 36= .int .i64 0)
  (hQ:∀ (ts':Tmps) (t:Tip) (a5 a6 a7:AObj) (clk':Nat),ts' 2= .ptr (B + 0) g0 0 0→ts' 4= .ptr (B + 2) g2 0 0→ts' 6=v6→ts' 8= .ptr (B + 3) g8 0 0→ts' 9= .ptr (B + 4) g9 0 0→K Gam B (.exit 0) ks ⟨ts',D++H15 g0 gx g2 g8 g9 s x (.sl ((z5e x s.preds).map z1e) t) (.sl [] .nil) (a5::a6::a7::R),clk'⟩ Q):
  K Gam B (.loop j7z) ks ⟨ts,D++H15 g0 gx g2 g8 g9 s x (.sl [] .nil) (.sl [] .nil) (a5::a6::a7::R),clk⟩ Q:=by
 refine z2y s.preds.length (by omega) (fun i q=>∃ (t:Tip) (a5 a6 a7:AObj),q.ts 2= .ptr (B + 0) g0 0 0∧q.ts 3= .ptr (B + 1) gx 0 0∧q.ts 4= .ptr (B + 2) g2 0 0∧q.ts 6=v6∧q.ts 8= .ptr (B + 3) g8 0 0∧q.ts 9= .ptr (B + 4) g9 0 0∧q.ts 34= .sl (s.preds.map z1e) .no∧q.ts 35= .int .i64 (s.preds.length:Int)∧q.ts 36= .int .i64 (i:Int)∧q.h=D++H15 g0 gx g2 g8 g9 s x (.sl ((z5e x (s.preds.take i)).map z1e) t) (.sl [] .nil) (a5::a6::a7::R)∧z7x B 7 a7 t 3) ⟨.nil,_,_,_,h2,h3,h4,h6,h8,h9,h34,h35,h36,rfl, .inl rfl⟩ ?_ ?_
 ·clear h2 h3 h4 h6 h8 h9 h34 h35 h36
  rintro i hlt f1 f2 ts h clk P ⟨t,a5,a6,a7,q2,q3,q4,q6,q8,q9,q34,q35,q36,rfl,ht⟩ hnx he hr
  dsimp only at q2 q3 q4 q6 q8 q9 q34 q35 q36
  have hix:=fun h=>z4u (l:=s.preds) (i:=i) (h:=h) (t:= .no) (k:= .i64) hlt
  have hkp:=x3z (x:=x) hlt
  have hkl:(z5e x (s.preds.take i)).length≤1000:=Nat.le_trans q2s (by rw[List.length_take];omega)
  generalize s.preds[i]=f at *
  cases hd:decide (f.name=x.pred) with
  | true=>
    rw[if_pos (of_decide_eq_true hd),List.append_nil] at hkp
    simp only[go_sem,j7z,H15,eTf,q2,q3,q4,q6,q8,q9,q34,q35,q36,hB,f1,f2,hix,hd,Bool.not_true]
    exact hnx _ ⟨t,_,_,_,q2,q3,q4,q6,q8,q9,q34,q35,rfl,by rw[hkp];rfl,ht⟩
  | false=>
    rw[if_neg (of_decide_eq_false hd)] at hkp
    have e8:(z5e x (s.preds.take i)).map z1e++[f].map z1e=(z5e x (s.preds.take (i + 1))).map z1e:=by rw[hkp,List.map_append]
    simp only[go_sem,j7z,H15,eTf,q2,q3,q4,q6,q8,q9,q34,q35,q36,hB,f1,hix,hd,Bool.not_false]
    rw[show [AV.agg [.str f.name, .sl (f.args.map nat) .no, .int .i64 (f.result:Int)]]=[f].map z1e from rfl,z0k hB rfl ht z4q z4q (by simp only[List.length_map,List.length_singleton];omega),e8]
    simp only[go_sem,q2,q3,q4,q6,q8,q9,q34,q35,q36,hB,f2]
    exact hnx _ ⟨_,_,_,_,q2,q3,q4,q6,q8,q9,q34,q35,rfl,rfl, .inr (.inr ⟨_,rfl,rfl⟩)⟩
 ·clear h2 h3 h4 h6 h8 h9 h34 h35 h36
  rintro f1 ts h clk P ⟨t,a5,a6,a7,q2,q3,q4,q6,q8,q9,q34,q35,q36,rfl,ht⟩ he hr
  dsimp only at q2 q3 q4 q6 q8 q9 q34 q35 q36
  rw[List.take_length]
  simp only[go_sem,j7z,q35,q36,f1]
  exact he _ _ (hQ _ t _ _ _ _ (by simp[z0c,q2]) (by simp[z0c,q4]) (by simp[z0c,q6]) (by simp[z0c,q8]) (by simp[z0c,q9]))
theorem x6g {s:Sys} {x:Tf} {kp:List Nat} {B clk g0 gx g2 g8 g9:Nat} {D G:List AObj} {a5 a6 a7 a8 a9 a10 a11:AObj} {pv:AV} {ts:Tmps} {ks:List Kf} {Q:Post} (hB:D.length=B) (hcl:s.clauses.length≤1000) (hkl:kp.length≤1000) (hkp:∀ i∈kp,i < s.clauses.length) (hcs:∀ c∈s.clauses,CmpC c) (h2:ts 2= .ptr (B + 0) g0 0 0) (h4:ts 4= .ptr (B + 2) g2 0 0) (h8:ts 8= .ptr (B + 3) g8 0 0) (h9:ts 9= .ptr (B + 4) g9 0 0) (h52:ts 52= .sl (kp.map nat) .no) (h53:ts 53= .int .i64 (kp.length:Int)) (h54:ts 54= .int .i64 0)
  (hQ:∀ (ts':Tmps) (t:Tip) (R:List AObj) (clk':Nat),ts' 4= .ptr (B + 2) g2 0 0→ts' 9= .ptr (B + 4) g9 0 0→K Gam B (.exit 2) ks ⟨ts',D++H15 g0 gx g2 g8 g9 s x pv (.sl ((kp.map fun i=>mC x (q4l s i)).map z0e) t) R,clk'⟩ Q):
  K Gam B (.loop j7y) ks ⟨ts,D++H15 g0 gx g2 g8 g9 s x pv (.sl [] .nil) (a5::a6::a7::a8::a9::a10::a11::G),clk⟩ Q:=by
 refine z2y kp.length (by omega) (fun i q=>∃ (t:Tip) (a8 a9 a10 a11:AObj) (G:List AObj),q.ts 2= .ptr (B + 0) g0 0 0∧q.ts 4= .ptr (B + 2) g2 0 0∧q.ts 8= .ptr (B + 3) g8 0 0∧q.ts 9= .ptr (B + 4) g9 0 0∧q.ts 52= .sl (kp.map nat) .no∧q.ts 53= .int .i64 (kp.length:Int)∧q.ts 54= .int .i64 (i:Int)∧q.h=D++H15 g0 gx g2 g8 g9 s x pv (.sl (((kp.take i).map fun i=>mC x (q4l s i)).map z0e) t) (a5::a6::a7::a8::a9::a10::a11::G)∧z7x B 11 a11 t 5) ⟨.nil,_,_,_,_,_,h2,h4,h8,h9,h52,h53,h54,rfl, .inl rfl⟩ ?_ ?_
 ·clear h2 h4 h8 h9 h52 h53 h54
  rintro i hlt f1 f2 ts h clk P ⟨t,a8,a9,a10,a11,G,q2,q4,q8,q9,q52,q53,q54,rfl,ht⟩ hnx he hr
  dsimp only at q2 q4 q8 q9 q52 q53 q54
  have hkx:=fun h=>z7y (l:=kp) (i:=i) (h:=h) (t:= .no) (k:= .i64) hlt
  have hki:=hkp _ (List.getElem_mem hlt)
  have hst:(kp.take (i + 1)).map (fun i=>mC x (q4l s i))=(kp.take i).map (fun i=>mC x (q4l s i))++[mC x (q4l s kp[i])]:=by
   rw[List.take_succ_eq_append_getElem hlt,List.map_append,List.map_singleton]
  simp only[nat] at hkx
  generalize kp[i]=u at *
  rw[q6s hki] at hst
  have hix:=fun h=>z5j (l:=s.clauses) (i:=u) (h:=h) (t:= .no) (k:= .i64) hki
  have hC:=(hcs _ (List.getElem_mem hki))
  have hS:=hC.small
  generalize s.clauses[u]=c at *
  have hl:((kp.take i).map (fun i=>mC x (q4l s i))).length≤1000:=by rw[List.length_map,List.length_take];omega
  have ha:∀ (L:List AObj) (gen:Nat) (d:Clause),L[11]? =some a11→d=mC x c→z0n (D++L) (B + 11) gen 5 112 false (.sl (((kp.take i).map (fun i=>mC x (q4l s i))).map z0e) t) (.sl [z0e d] .full)=some (.sl (((kp.take (i + 1)).map (fun i=>mC x (q4l s i))).map z0e) (.at (B + 11) gen),D++L.set 11 (.tip gen 5)):=fun L gen d hL hd=>by
   rw[show [z0e d]=[d].map z0e from rfl,z0k hB hL ht z2o z2o (by simp only[List.length_map,List.length_singleton] at hl⊢;omega),hst,hd,List.map_append]
  generalize (kp.take i).map (fun i=>mC x (q4l s i))=acc at *
  generalize (kp.take (i + 1)).map (fun i=>mC x (q4l s i))=acc' at *
  have h39:=fun h clk Q=>g3s (c:=c) (h:=h) (clk:=clk) (Q:=Q) hC.body hS.bargs hS.hargs hS.vars hS.guard
  rw[z0e,z0i] at h39
  simp only[go_sem,j7y,H15,z1b,q2,q4,q8,q9,q52,q53,q54,hB,f1,hkx,hix]
  refine z3g (h39 _ _ _ (fun hb0=> ?_) fun o0 o1 o2 o3 o4 gr c' hne=> ?_)
  ·simp only[go_sem,x2c,q2,q4,q8,q9,q52,q53,q54,hB]
   refine z2e ?_
   simp only[go_sem,x8u,hB,List.length_nil,Int.cast_ofNat_Int,Int.lt_irrefl,decide_false]
   have hd:(⟨c.vars,[],c.guard,c.head⟩:Clause)=mC x c:=by rw[mC,hb0];rfl
   have hbs:∀ h,bsV h (.agg [.sl [] .nil, .sl [] .nil, .sl [] .nil, .str [], .sl [] .nil]) 1 [0] [.agg [.sl (c.vars.map z1h) .no, .sl [] .nil, .sl (c.guard.map eNode) .no, .str c.head.pred, .sl (c.head.args.map z0i) .no]]=some (.sl [z0e ⟨c.vars,[],c.guard,c.head⟩] .full,h):=fun h=>y8j rfl rfl rfl rfl
   simp only[go_sem,q2,q4,q8,q9,q52,q53,q54,hB,hbs]
   rw[ha _ _ _ rfl hd]
   simp only[go_sem,q2,q4,q8,q9,q52,q53,q54,hB,f2]
   exact hnx _ ⟨_,_,_,_,_,_,q2,q4,q8,q9,q52,q53,rfl,rfl, .inr (.inr ⟨_,rfl,rfl⟩)⟩
  ·have e0:∀ (x0 x1 x2 x3 x4 x5 x6 x7 x8 x9 x10 x11:AObj),(D++(x0::x1::x2::x3::x4::x5::x6::x7::x8::x9::x10::x11::G)).length + 5=B + ((G.length + 5) + 12):=fun _ _ _ _ _ _ _ _ _ _ _ _=>by simp[hB];omega
   have e1:∀ (x0 x1 x2 x3 x4 x5 x6 x7 x8 x9 x10 x11:AObj) (M:List AObj),(D++(x0::x1::x2::x3::x4::x5::x6::x7::x8::x9::x10::x11::G))++M=D++(x0::x1::x2::x3::x4::x5::x6::x7::x8::x9::x10::x11::(G++M)):=fun _ _ _ _ _ _ _ _ _ _ _ _ _=>by simp
   have hG:(G++[o0,o1,o2,o3,o4, .blk gr (c.body.map z1p) true true 0])[G.length + 5]? =some (.blk gr (c.body.map z1p) true true 0):=by
    rw[List.getElem?_append_right (by omega),show G.length + 5 - G.length=5 by omega]
    rfl
   rw[e0,e1]
   generalize G++[o0,o1,o2,o3,o4, .blk gr (c.body.map z1p) true true 0]=G' at hG
   generalize G.length + 5=m at hG
   simp only[go_sem,x2c,q2,q4,q8,q9,q52,q53,q54,hB]
   refine j8v (s:=s) (x:=x) (c:=c) (al:=c.body) (v52:= .sl (kp.map nat) .no) (v53:= .int .i64 (kp.length:Int)) (v54:= .int .i64 (i:Int)) hB hC.body hG (by simp[z0c,q2]) (by simp[z0c,q4]) (by simp[z0c,q8]) (by simp[z0c,q9]) (by simp[z0c]) (by simp[z0c,q52]) (by simp[z0c,q53]) (by simp[z0c,q54]) (by simp[z0c]) (by simp[z0c]) (by simp[z0c]) fun ts2 a9 clk2 r2 r4 r8 r9 r14 r52 r53 r54=> ?_
   have hmG:m < G'.length:=by
    rw[List.getElem?_eq_some_iff] at hG
    exact hG.1
   have hG2:(G'.set m (.blk gr ((c.body.map (z7p x.pred x.into)).map z1p) true true 0))[m]? =some (.blk gr ((c.body.map (z7p x.pred x.into)).map z1p) true true 0):=List.getElem?_set_self hmG
   generalize G'.set m (.blk gr ((c.body.map (z7p x.pred x.into)).map z1p) true true 0)=G2 at hG2
   have hbs:∀ L:List AObj,L[m + 12]? =some (.blk gr ((c.body.map (z7p x.pred x.into)).map z1p) true true 0)→bsV (D++L) (.agg [.sl [] .nil, .sl [] .nil, .sl [] .nil, .str [], .sl [] .nil]) 1 [0] [.agg [.sl (c.vars.map z1h) .no, .ob (B + (m + 12)) gr 0 c.body.length, .sl (c.guard.map eNode) .no, .str c.head.pred, .sl (c.head.args.map z0i) .no]]=some (.sl [z0e (mC x c)] .full,D++L.set (m + 12) (.blk gr ((c.body.map (z7p x.pred x.into)).map z1p) true true c.body.length)):=fun L hL=>by
    have:=y5d (v:=c.vars.map z1h) (w:=c.guard.map eNode) (t:= .no) (u:= .no) (p:=c.head.pred) (q:=c.head.args.map z0i) (r:= .no) hB hL
    rw[List.length_map] at this
    exact this
   simp only[go_sem,H15,x2c,r2,r4,r8,r9,r14,r52,r53,r54,hB,hbs,hG2]
   rw[ha _ _ _ rfl rfl]
   simp only[go_sem,r2,r4,r8,r9,r52,r53,r54,hB,f2]
   exact hnx _ ⟨_,_,_,_,_,_,r2,r4,r8,r9,r52,r53,rfl,rfl, .inr (.inr ⟨_,rfl,rfl⟩)⟩
 ·clear h2 h4 h8 h9 h52 h53 h54
  rintro f1 ts h clk P ⟨t,a8,a9,a10,a11,G,q2,q4,q8,q9,q52,q53,q54,rfl,ht⟩ he hr
  dsimp only at q2 q4 q8 q9 q52 q53 q54
  rw[List.take_length]
  simp only[go_sem,j7y,q53,q54,f1]
  exact he _ _ (hQ _ t _ _ (by simp[z0c,q4]) (by simp[z0c,q9]))
theorem v4s {s:Sys} {x:Tf} (hs:SysV s) (hcs:∀ c∈s.clauses,CmpC c) (hx:TfS x):Pure Gam 23 [z1b s,eTf x] (.tup [z1b (z2c s x).1, .int .i64 (z2c s x).2]):=by
 have p37:=y4y hs hcs hx
 have hpl:=hs.pl
 have hcl:=hs.len
 have p38:=y4m (ps:=s.preds) (u:= .no) (by omega) fun f hf=>by have:=(hs.pr.args f hf).1;omega
 simp only[z1b,eTf] at p37
 refine Pure.of rfl g1t rfl rfl rfl (az:=[z1b s,eTf x]) rfl (by simp[idsL,z2k,q2o hx.ok]) fun D B clk T hB hT=> ?_
 by_cases h0:(z2c s x).2=0
 ·have hu:q5y x=true:=by
   cases hu:q5y x with
   | true=>rfl
   | false=>rw[z9g hu] at h0;cases h0
  have hn:MOk s x:=Classical.byContradiction fun hn=>by rw[z7f hu hn] at h0;cases h0
  unfold y8n at p37
  rw[if_pos h0] at p37
  rw[h0] at p37
  rw[q2r hu hn] at hT
  simp only[go_sem,u1b,hB,z1b,eTf,z0a p37,decide_true,Bool.not_true,z0a p38,List.length_map]
  refine j2w (s:=s) (x:=x) (v6:= .sl ((kpI s x.pred s.clauses.length).map nat) .no) hB (by omega) (by simp[z0c]) (by simp[z0c]) (by simp[z0c]) (by simp[z0c]) (by simp[z0c]) (by simp[z0c]) (by simp[z0c]) (by simp[z0c]) (by simp[z0c]) fun ts2 tp a5 a6 a7 clk2 r2 r4 r6 r8 r9=> ?_
  simp only[go_sem,r2,r4,r6,r8,r9,List.length_map]
  refine x6g (s:=s) (x:=x) (kp:=kpI s x.pred s.clauses.length) (G:=[]) hB (by omega) (Nat.le_trans k4p (by omega)) (fun i hi=>y4w hi) hcs (by simp[z0c,r2]) (by simp[z0c,r4]) (by simp[z0c,r8]) (by simp[z0c,r9]) (by simp[z0c]) (by simp[z0c]) (by simp[z0c]) fun ts3 t R clk3 q4 q9=> ?_
  rw[j5w (Nat.le_refl _),List.take_length]
  simp only[go_sem,H15,hB,q4,q9,z0m,z0l,z0g]
  rw[z0j rfl (by simp[z1l,AV.cv,cvL,AV.ids,idsL,z0b z2a,z0b z1j])]
  exact hT _
 ·have hn:(z2c s x).1=x2b:=by
   cases hu:q5y x with
   | false=>rw[z9g hu]
   | true=>
     by_cases hn:MOk s x
     ·rw[q2r hu hn] at h0;exact absurd rfl h0
     ·rw[z7f hu hn]
  rw[hn] at hT
  simp only[go_sem,u1b,hB,z1b,eTf,z0a p37,decide_eq_false h0,Bool.not_false,z0m,z0l,z0g]
  rw[z0j rfl (by simp[z1l,AV.cv,cvL,AV.ids,idsL])]
  exact hT _
def u9k (x y:App):Prop:=y=x∨(x.pred=[80]∧y=⟨[78],x.args⟩)
def y8p (xs ys:List App):Prop:=ys.length=xs.length∧∀ y∈ys,∃ x∈xs,u9k x y
def H10 (a0 a1 a2 a3 a4 a5 a6 a7 a8 a9 a10 a11 ch:AObj) (R:List AObj):List AObj:=a0::a1::a2::a3::a4::a5::a6::a7::a8::a9::a10::a11::ch::R
theorem j8w {l:List Int} {B g i g5 clk:Nat} {D R:List AObj} {c:Clause} {a0 a1 a2 a3 a4 a6 a7 a8 a9 a10 a11:AObj} {v2 v4 v7 v8:AV} {ts:Tmps} {ks:List Kf} {Q:Post} (hl:q6i l) (hB:D.length=B) (hi:i≤l.length) (hb:c.body.length≤1000) (h2:ts 2=v2) (h3:ts 3= .ptr (B + 12) g 0 0) (h4:ts 4=v4) (h5:ts 5= .str [80]) (h7:ts 7=v7) (h8:ts 8=v8) (h9:ts 9= .ptr (B + 5) g5 0 0) (h10:ts 10= .sl [] .nil) (h11:ts 11= .int .i64 0)
  (hQ:∀ (b:List App) (t:Tip) (ts':Tmps) (a6 a7 a8:AObj) (i' clk':Nat),y8p c.body b→i'≤l.length→ts' 2=v2→ts' 3= .ptr (B + 12) g 0 0→ts' 4=v4→ts' 5= .str [80]→ts' 7=v7→ts' 8=v8→ts' 9= .ptr (B + 5) g5 0 0→ts' 10= .sl (b.map z1p) t→K Gam B (.exit 2) ks ⟨ts',D++H10 a0 a1 a2 a3 a4 (.blk g5 [z0e c] false false 0) a6 a7 a8 a9 a10 a11 (z3v g l i') R,clk'⟩ Q):
  K Gam B (.loop j1j) ks ⟨ts,D++H10 a0 a1 a2 a3 a4 (.blk g5 [z0e c] false false 0) a6 a7 a8 a9 a10 a11 (z3v g l i) R,clk⟩ Q:=by
 refine z2y c.body.length (by omega) (fun j q=>∃ (b:List App) (t:Tip) (a6 a7 a8:AObj) (i:Nat),y8p (c.body.take j) b∧i≤l.length∧q.ts 2=v2∧q.ts 3= .ptr (B + 12) g 0 0∧q.ts 4=v4∧q.ts 5= .str [80]∧q.ts 7=v7∧q.ts 8=v8∧q.ts 9= .ptr (B + 5) g5 0 0∧q.ts 10= .sl (b.map z1p) t∧q.ts 11= .int .i64 (j:Int)∧q.h=D++H10 a0 a1 a2 a3 a4 (.blk g5 [z0e c] false false 0) a6 a7 a8 a9 a10 a11 (z3v g l i) R∧z7x B 8 a8 t 2) ⟨[], .nil,_,_,_,_,⟨by simp,by simp⟩,hi,h2,h3,h4,h5,h7,h8,h9,h10,h11,rfl, .inl rfl⟩ ?_ ?_
 ·clear h2 h3 h4 h5 h7 h8 h9 h10 h11 hi
  rintro j hlt f1 f2 ts h clk P ⟨b,t,a6,a7,a8,i,⟨hbl,hb2⟩,hi,q2,q3,q4,q5,q7,q8,q9,q10,q11,rfl,ht⟩ hnx he hr
  dsimp only at q2 q3 q4 q5 q7 q8 q9 q10 q11
  have hix:=fun h=>q2p (l:=c.body) (i:=j) (h:=h) (t:= .no) (k:= .i64) hlt
  have htake:=List.take_succ_eq_append_getElem hlt
  have hblen:b.length≤1000:=by rw[hbl,List.length_take];omega
  have hnew:∀ y,u9k c.body[j] y→y8p (c.body.take (j + 1)) (b++[y]):=fun y hy=>by
   refine⟨by rw[List.length_append,hbl,htake,List.length_append];rfl,fun z hz=> ?_⟩
   rw[List.mem_append,List.mem_singleton] at hz
   rw[htake]
   rcases hz with hz | rfl
   ·obtain⟨x,hx,hxz⟩:=hb2 z hz
    exact⟨x,List.mem_append_left _ hx,hxz⟩
   ·exact⟨_,List.mem_append_right _ List.mem_cons_self,hy⟩
  generalize c.body[j]=x at *
  cases hp:decide (x.pred=[80]) with
  | false=>
    simp only[go_sem,j1j,H10,z0e,z0i,q2,q3,q4,q5,q7,q8,q9,q10,q11,hB,f1,List.length_map,hix,hp]
    rw[show [AV.agg [.str x.pred, .sl (x.args.map z0i) .no]]=[x].map z1p from rfl,z0k hB rfl ht z3n z3n (by simp only[List.length_map,List.length_singleton];omega),←List.map_append]
    simp only[go_sem,hB,q2,q3,q4,q5,q7,q8,q9,q10,q11,f2]
    exact hnx _ ⟨b++[x],_,_,_,_,i,hnew _ (.inl rfl),hi,q2,q3,q4,q5,q7,q8,q9,rfl,rfl,rfl, .inr (.inr ⟨_,rfl,rfl⟩)⟩
  | true=>
    have hp':=of_decide_eq_true hp
    simp only[go_sem,j1j,H10,z0e,z0i,q2,q3,q4,q5,q7,q8,q9,q10,q11,hB,f1,List.length_map,hix,hp]
    refine z1w (k:=12) (z3i hl (by decide) (by decide)) hB rfl hi ?_
    clear hi
    rintro v i ⟨r,rfl,hr1,hr2⟩ hi
    cases hz:decide (r=0) with
    | false=>
      simp only[go_sem,hB,q2,q3,q4,q5,q7,q8,q9,q10,q11,hz]
      rw[show [AV.agg [.str x.pred, .sl (x.args.map z0i) .no]]=[x].map z1p from rfl,z0k hB rfl ht z3n z3n (by simp only[List.length_map,List.length_singleton];omega),←List.map_append]
      simp only[go_sem,hB,q2,q3,q4,q5,q7,q8,q9,q10,q11,f2]
      exact hnx _ ⟨b++[x],_,_,_,_,i,hnew _ (.inl rfl),hi,q2,q3,q4,q5,q7,q8,q9,rfl,rfl,rfl, .inr (.inr ⟨_,rfl,rfl⟩)⟩
    | true=>
      simp only[go_sem,hB,q2,q3,q4,q5,q7,q8,q9,q10,q11,hz]
      rw[show [AV.agg [.str [78], .sl (x.args.map z0i) .no]]=[(⟨[78],x.args⟩:App)].map z1p from rfl,z0k hB rfl ht z3n z3n (by simp only[List.length_map,List.length_singleton];omega),←List.map_append]
      simp only[go_sem,hB,q2,q3,q4,q5,q7,q8,q9,q10,q11,f2]
      exact hnx _ ⟨b++[⟨[78],x.args⟩],_,_,_,_,i,hnew _ (.inr ⟨hp',rfl⟩),hi,q2,q3,q4,q5,q7,q8,q9,rfl,rfl,rfl, .inr (.inr ⟨_,rfl,rfl⟩)⟩
 ·clear h2 h3 h4 h5 h7 h8 h9 h10 h11 hi
  rintro f1 ts h clk P ⟨b,t,a6,a7,a8,i,hb2,hi,q2,q3,q4,q5,q7,q8,q9,q10,q11,rfl,ht⟩ he hr
  dsimp only at q2 q3 q4 q5 q7 q8 q9 q10 q11
  rw[List.take_length] at hb2
  simp only[go_sem,j1j,H10,z0e,z0i,q2,q3,q4,q5,q7,q8,q9,q10,q11,hB,f1,List.length_map]
  exact he _ _ (hQ b t _ _ _ _ i _ hb2 hi (by simp[z0c,q2]) (by simp[z0c,q3]) (by simp[z0c,q4]) (by simp[z0c,q5]) (by simp[z0c,q7]) (by simp[z0c,q8]) (by simp[z0c,q9]) (by simp[z0c,q10]))
section
variable {D L:List AObj} {B k gc n j:Nat} {es:List AV} {c:Clause}
theorem y5e (hB:D.length=B) (hL:L[k]? =some (.blk gc es true true 0)) (he:es[j]? =some (z0e c)) (hj:j < n):z1n (D++L) 5 (.ob (B + k) gc 0 n) (.int .i64 (j:Int))=some (.ptr (B + k) gc j 0,D++L):=by
 have hb:z1s (D++L) (B + k) gc=some (es,true,true,0):=by rw[z2i hB];exact z2g hL
 simp[z1n,hb,he,hj,z0e,AV.cells]
theorem v0e {b:List App} {t:Tip} (hB:D.length=B) (hL:L[k]? =some (.blk gc es true true 0)) (he:es[j]? =some (z0e c)):z4y (D++L) 1 (.sl (b.map z1p) t) (.ptr (B + k) gc j 1)=some (.undef,D++L.set k (.blk gc (es.set j (z0e ⟨c.vars,b,c.guard,c.head⟩)) true true 0)):=by
 have hb:z1s (D++L) (B + k) gc=some (es,true,true,0):=by rw[z2i hB];exact z2g hL
 have hp:pub (D++L) (.sl (b.map z1p) t)=some (.sl (b.map z1p) .no,D++L):=rfl
 rw[z6y,hb]
 simp only[he,if_true,hp]
 simp[AV.def?,AV.cells,x8q,z8a,z7q,z0e,AV.obs,z3y,z1t hB]
end
def w4k (c a:Clause):Prop:=a.vars=c.vars∧a.guard=c.guard∧a.head=c.head∧y8p c.body a.body
def k4s (c a:Clause):Prop:=c.head.pred=[80]∧a=⟨c.vars,c.body,c.guard,⟨[78],c.head.args⟩⟩
theorem x6h {l:List Int} {B g i g1 gc clk:Nat} {D R:List AObj} {cs:List Clause} {a0 a2 a3 a4 a5 a6 a7 a8 a9 a10 a11 r0 r1 r2:AObj} {pv v2:AV} {ts:Tmps} {ks:List Kf} {Q:Post} (hl:q6i l) (hB:D.length=B) (hi:i≤l.length) (hcs:cs.length≤8) (hb:∀ c∈cs,c.body.length≤1000) (h2:ts 2=v2) (h3:ts 3= .ptr (B + 12) g 0 0) (h4:ts 4= .ptr (B + 1) g1 0 0) (h5:ts 5= .str [80]) (h7:ts 7= .sl [] .nil) (h8:ts 8= .int .i64 0)
  (hQ:∀ (acc more:List Clause) (t:Tip) (ts':Tmps) (a5 a6 a7 a8 a9 a10:AObj) (i' clk':Nat),acc.length=cs.length→more.length≤8→(∀ a∈acc,∃ c∈cs,w4k c a)→(∀ a∈more,∃ c∈cs,k4s c a)→ts' 2=v2→ts' 4= .ptr (B + 1) g1 0 0→ts' 7= .sl (more.map z0e) t→K Gam B (.exit 0) ks ⟨ts',D++H10 a0 (.blk g1 [.agg [pv, .ob (B + 16) gc 0 cs.length]] false false 0) a2 a3 a4 a5 a6 a7 a8 a9 a10 a11 (z3v g l i') (r0::r1::r2:: .blk gc (acc.map z0e) true true 0::R),clk'⟩ Q):
  K Gam B (.loop j7x) ks ⟨ts,D++H10 a0 (.blk g1 [.agg [pv, .ob (B + 16) gc 0 cs.length]] false false 0) a2 a3 a4 a5 a6 a7 a8 a9 a10 a11 (z3v g l i) (r0::r1::r2:: .blk gc (cs.map z0e) true true 0::R),clk⟩ Q:=by
 refine z2y cs.length (by omega) (fun j q=>∃ (acc more:List Clause) (t:Tip) (a5 a6 a7 a8 a9 a10:AObj) (i:Nat),acc.length=j∧more.length≤j∧(∀ a∈acc,∃ c∈cs,w4k c a)∧(∀ a∈more,∃ c∈cs,k4s c a)∧i≤l.length∧q.ts 2=v2∧q.ts 3= .ptr (B + 12) g 0 0∧q.ts 4= .ptr (B + 1) g1 0 0∧q.ts 5= .str [80]∧q.ts 7= .sl (more.map z0e) t∧q.ts 8= .int .i64 (j:Int)∧q.h=D++H10 a0 (.blk g1 [.agg [pv, .ob (B + 16) gc 0 cs.length]] false false 0) a2 a3 a4 a5 a6 a7 a8 a9 a10 a11 (z3v g l i) (r0::r1::r2:: .blk gc ((acc++cs.drop j).map z0e) true true 0::R)∧z7x B 10 a10 t 5) ⟨[],[], .nil,_,_,_,_,_,_,_,rfl,by simp,by simp,by simp,hi,h2,h3,h4,h5,h7,h8,rfl, .inl rfl⟩ ?_ ?_
 ·clear h2 h3 h4 h5 h7 h8 hi
  rintro j hlt f1 f2 ts h clk P ⟨acc,more,t,a5,a6,a7,a8,a9,a10,i,hal,hml,hacc,hmore,hi,q2,q3,q4,q5,q7,q8,rfl,ht⟩ hnx he hr
  dsimp only at q2 q3 q4 q5 q7 q8
  have hdr:cs.drop j=cs[j]::cs.drop (j + 1):=List.drop_eq_getElem_cons hlt
  have hmem:=List.getElem_mem hlt
  have hbl:=hb _ hmem
  have hes:((acc++cs.drop j).map z0e)[j]? =some (z0e cs[j]):=by
   rw[hdr,List.getElem?_map,List.getElem?_append_right (by omega),hal,Nat.sub_self]
   rfl
  have hset:∀ a,((acc++cs.drop j).map z0e).set j (z0e a)=((acc++[a])++cs.drop (j + 1)).map z0e:=fun a=>by
   rw[hdr,←List.map_set,List.set_append_right _ _ (by omega),hal,Nat.sub_self,List.set_cons_zero,List.append_assoc]
   rfl
  generalize hE:(acc++cs.drop j).map z0e=es at *
  generalize cs[j]=c at *
  have hidx:∀ L:List AObj,L[16]? =some (.blk gc es true true 0)→z1n (D++L) 5 (.ob (B + 16) gc 0 cs.length) (.int .i64 (j:Int))=some (.ptr (B + 16) gc j 0,D++L):=fun L h=>y5e hB h hes hlt
  have hst:∀ (L:List AObj) (b:List App) (t:Tip),L[16]? =some (.blk gc es true true 0)→z4y (D++L) 1 (.sl (b.map z1p) t) (.ptr (B + 16) gc j 1)=some (.undef,D++L.set 16 (.blk gc (((acc++[(⟨c.vars,b,c.guard,c.head⟩:Clause)])++cs.drop (j + 1)).map z0e) true true 0)):=fun L b t h=>by rw[←hset];exact v0e hB h hes
  have hes':=hes
  rw[z0e,z0i] at hes'
  simp only[go_sem,j7x,H10,q2,q3,q4,q5,q7,q8,hB,f1,hidx,hes',Option.bind_some]
  refine j8w (l:=l) (c:=c) (g5:=_) (v2:=v2) (v4:= .ptr (B + 1) g1 0 0) (v7:= .sl (more.map z0e) t) (v8:= .int .i64 (j:Int)) hl hB hi hbl (by simp[z0c,q2]) (by simp[z0c,q3]) (by simp[z0c,q4]) (by simp[z0c,q5]) (by simp[z0c,q7]) (by simp[z0c,q8]) (by simp[z0c]) (by simp[z0c]) (by simp[z0c]) fun b tb ts2 a6 a7 a8 i2 clk2 hren hi2 r2 r3 r4 r5 r7 r8 r9 r10=> ?_
  have hren':w4k c ⟨c.vars,b,c.guard,c.head⟩:=⟨rfl,rfl,rfl,hren⟩
  have hacc':∀ a∈acc++[(⟨c.vars,b,c.guard,c.head⟩:Clause)],∃ c∈cs,w4k c a:=fun a ha=>by
   rw[List.mem_append,List.mem_singleton] at ha
   rcases ha with ha | rfl
   ·exact hacc a ha
   ·exact⟨c,hmem,hren'⟩
  have hal':(acc++[(⟨c.vars,b,c.guard,c.head⟩:Clause)]).length=j + 1:=by rw[List.length_append,hal];rfl
  cases hp:decide (c.head.pred=[80]) with
  | false=>
    simp only[go_sem,H10,z0e,z0i,hB,r2,r3,r4,r5,r7,r8,r9,r10,hidx,hst,hp,f2]
    exact hnx _ ⟨_,more,t,_,_,_,_,_,_,_,hal',by omega,hacc',hmore,hi2,r2,r3,r4,r5,r7,rfl,rfl,ht⟩
  | true=>
    have hp':=of_decide_eq_true hp
    simp only[go_sem,H10,z0e,z0i,hB,r2,r3,r4,r5,r7,r8,r9,r10,hidx,hst,hp]
    refine z1w (k:=12) (z3i hl (by decide) (by decide)) hB rfl hi2 ?_
    clear hi hi2
    rintro v i ⟨r,rfl,hr1,hr2⟩ hi
    cases hz:decide (0 < r) with
    | false=>
      simp only[go_sem,hB,r2,r3,r4,r5,r7,r8,hz,f2]
      exact hnx _ ⟨_,more,t,_,_,_,_,_,_,_,hal',by omega,hacc',hmore,hi,r2,r3,r4,r5,r7,rfl,rfl,ht⟩
    | true=>
      have hcopy:k4s c ⟨c.vars,c.body,c.guard,⟨[78],c.head.args⟩⟩:=⟨hp',rfl⟩
      simp only[go_sem,hB,r2,r3,r4,r5,r7,r8,r9,hz]
      rw[show [AV.agg [.sl (c.vars.map z1h) .no, .sl (c.body.map z1p) .no, .sl (c.guard.map eNode) .no, .str [78], .sl (c.head.args.map z0i) .no]]=[(⟨c.vars,c.body,c.guard,⟨[78],c.head.args⟩⟩:Clause)].map z0e from rfl,z0k hB rfl ht z2o z2o (by simp only[List.length_map,List.length_singleton];omega),←List.map_append]
      simp only[go_sem,hB,r2,r3,r4,r5,r7,r8,f2]
      refine hnx _ ⟨_,more++[⟨c.vars,c.body,c.guard,⟨[78],c.head.args⟩⟩],_,_,_,_,_,_,_,_,hal',by rw[List.length_append];simp;omega,hacc',fun a ha=> ?_,hi,r2,r3,r4,r5,rfl,rfl,rfl, .inr (.inr ⟨_,rfl,rfl⟩)⟩
      rw[List.mem_append,List.mem_singleton] at ha
      rcases ha with ha | rfl
      ·exact hmore a ha
      ·exact⟨c,hmem,hcopy⟩
 ·clear h2 h3 h4 h5 h7 h8 hi
  rintro f1 ts h clk P ⟨acc,more,t,a5,a6,a7,a8,a9,a10,i,hal,hml,hacc,hmore,hi,q2,q3,q4,q5,q7,q8,rfl,ht⟩ he hr
  dsimp only at q2 q3 q4 q5 q7 q8
  rw[List.drop_length,List.append_nil]
  simp only[go_sem,j7x,H10,q2,q3,q4,q5,q7,q8,hB,f1]
  exact he _ _ (hQ acc more t _ _ _ _ _ _ _ i _ hal (by omega) hacc hmore (by simp[z0c,q2]) (by simp[z0c,q4]) (by simp[z0c,q7]))
section
theorem AppOk.sub {ps qs:List Func} {V:List Var} {a:App} (h:AppOk ps V a) (hs:∀ f∈ps,f∈qs):AppOk qs V a:=by
 obtain⟨f,hf,h1⟩:=h
 exact⟨f,hs f hf,h1⟩
theorem j8x {n:Nat} {f:Func} (hf:f∈z2d.take n) (h:f.name=[80]):f.args=[2]:=by
 have:=List.mem_of_mem_take hf
 simp only[z2d,List.mem_cons,List.not_mem_nil,or_false] at this
 rcases this with rfl | rfl | rfl | rfl | rfl <;> simp_all
theorem AppOk.new {n:Nat} {qs:List Func} {V:List Var} {a:App} (h:AppOk (z2d.take n) V a) (hp:a.pred=[80]) (hq:z6r∈qs):AppOk qs V ⟨[78],a.args⟩:=by
 obtain⟨f,hf,h1,h2,h3⟩:=h
 have hfa:=j8x hf (by rw[←h1,hp])
 refine⟨z6r,hq,rfl, ?_, ?_⟩
 ·rw[hfa] at h2
  exact h2
 ·rw[hfa] at h3
  exact h3
section
variable {n:Nat} {qs:List Func} {c a:Clause}
theorem ClauseOk.ren (h:ClauseOk (z2d.take n) c) (hs:∀ f∈z2d.take n,f∈qs) (hq:z6r∈qs) (hr:w4k c a):ClauseOk qs a:=by
 obtain⟨h1,h2,h3,h4,h5⟩:=h
 obtain⟨e1,e2,e3,hl,hm⟩:=hr
 refine⟨by rw[e1];exact h1,by rw[hl];exact h2,fun b hb=> ?_,by rw[e1,e2];exact h4, ?_⟩
 ·obtain⟨x,hx,rfl | ⟨hp,rfl⟩⟩:=hm b hb
  ·rw[e1];exact (h3 _ hx).sub hs
  ·rw[e1];exact (h3 _ hx).new hp hq
 ·rw[e1,e3]
  exact h5.imp id fun h=>h.sub hs
theorem ClauseOk.copy (h:ClauseOk (z2d.take n) c) (hs:∀ f∈z2d.take n,f∈qs) (hq:z6r∈qs) (hr:k4s c a):ClauseOk qs a:=by
 obtain⟨h1,h2,h3,h4,h5⟩:=h
 obtain⟨hp,rfl⟩:=hr
 refine⟨h1,h2,fun b hb=>(h3 b hb).sub hs,h4, .inr ?_⟩
 rcases h5 with ⟨h5,_⟩ | h5
 ·rw[h5] at hp;cases hp
 ·exact h5.new hp hq
end
theorem u9l {s:Sys} {acc more:List Clause} (hs:SysOk s) (ha:acc.length=s.clauses.length) (hm:more.length≤8) (h1:∀ a∈acc,∃ c∈s.clauses,w4k c a) (h2:∀ a∈more,∃ c∈s.clauses,k4s c a):SysV ⟨s.preds++[z6r],acc++more⟩:=by
 obtain⟨⟨n,_,_,hp⟩,hl,hc⟩:=hs
 have hsub:∀ f∈z2d.take n,f∈s.preds++[z6r]:=fun f hf=>by rw[hp];exact List.mem_append_left _ hf
 have hq:z6r∈s.preds++[z6r]:=by simp
 refine⟨?_,by simp only[List.length_append];omega,fun c hcm=> ?_⟩
 ·show (s.preds++[z6r]).Sublist (z2d++[z6r])
  rw[hp]
  exact (List.take_sublist _ _).append (List.Sublist.refl _)
 ·rw[hp] at hc
  rcases List.mem_append.1 hcm with h | h
  ·obtain⟨d,hd,hr⟩:=h1 c h
   exact (hc d hd).ren hsub hq hr
  ·obtain⟨d,hd,hr⟩:=h2 c h
   exact (hc d hd).copy hsub hq hr
theorem v0f {H:List AObj} {p q:AV} {ps cs:List AV} (h1:z4e H p=some ps) (h2:z4e H q=some cs) (hp:(∃ xs t,p= .sl xs t)∨∃ a b c d,p= .ob a b c d) (hq:(∃ xs t,q= .sl xs t)∨∃ a b c d,q= .ob a b c d):conv H (.agg [p,q])=some (.agg [.sl ps .no, .sl cs .no]):=by
 have key:∀ v xs,z4e H v=some xs→((∃ ys t,v= .sl ys t)∨∃ a b c d,v= .ob a b c d)→conv H v=some (.sl xs .no):=by
  rintro v xs h (⟨ys,t,rfl⟩ | ⟨a,b,c,d,rfl⟩)
  ·simp only[z4e,Option.some.injEq] at h
   subst h
   rfl
  ·simp only[z4e] at h
   simp only[conv,h,Option.map_some]
 simp only[conv,z7h,key p ps h1 hp,key q cs h2 hq,Option.map_some]
end
section
def RowAt (B:Nat) (ss:List Nat) (L:List AObj) (v:AV) (xs:List AV):Prop:=(∃ t,v= .sl xs t)∨∃ k∈ss,∃ g n es w fz,v= .ob (B + k) g 0 n∧L[k]? =some (.blk g es true w fz)∧n≤es.length∧es.take n=xs
theorem RowAt.mono {B:Nat} {ss:List Nat} {L L':List AObj} {v:AV} {xs:List AV} (h:RowAt B ss L v xs) (hl:∀ k∈ss,L'[k]? =L[k]?):RowAt B ss L' v xs:=by
 rcases h with h | ⟨k,hk,g,n,es,w,fz,h1,h2,h3⟩
 ·exact .inl h
 ·exact .inr ⟨k,hk,g,n,es,w,fz,h1,by rw[hl k hk];exact h2,h3⟩
theorem RowAt.src {B:Nat} {D L:List AObj} {ss:List Nat} {v:AV} {xs:List AV} (hB:D.length=B) (h:RowAt B ss L v xs):z4e (D++L) v=some xs:=by
 rcases h with ⟨t,rfl⟩ | ⟨k,_,g,n,es,w,fz,rfl,h2,h3,rfl⟩
 ·rfl
 ·have hb:z1s (D++L) (B + k) g=some (es,true,w,fz):=by rw[z2i hB];exact z2g h2
  simp[z4e,q0r,hb,h3]
theorem RowAt.shape {B:Nat} {L:List AObj} {ss:List Nat} {v:AV} {xs:List AV} (h:RowAt B ss L v xs):(∃ xs t,v= .sl xs t)∨∃ a b c d,v= .ob a b c d:=by
 rcases h with ⟨t,rfl⟩ | ⟨k,_,g,n,es,w,fz,rfl,_⟩
 ·exact .inl ⟨_,_,rfl⟩
 ·exact .inr ⟨_,_,_,_,rfl⟩
theorem q2u {v:AV} (h:(∃ xs t,v= .sl xs t)∨∃ a b c d,v= .ob a b c d):v.def? =true∧v.cells=[v]∧v.one=true:=by
 rcases h with ⟨_,_,rfl⟩ | ⟨_,_,_,_,rfl⟩ <;> exact⟨rfl,rfl,rfl⟩
section
variable {D L:List AObj} {B gen d g clk:Nat} {os:List AOper} {ts:Tmps} {ks:List Kf} {Q:Post}
theorem w3q {gp np fz:Nat} {es:List AV} {v:AV} (hB:D.length=B) (h4:4 < L.length) (h22:L[22]? =some (.blk gp es true false fz)) (hes:es.length=5) (hn:np≤5) (hf:fz≤np) (hx:z0o 3 es=true) (hv:z0o 3 [v]=true)
  (hQ:∀ pv a4 pr,RowAt B [4,22] ((L.set 4 a4).set 22 pr) pv (es.take np++[v])→O Gam B .plain (g + 1) os ⟨upd ts d pv,D++(L.set 4 a4).set 22 pr,clk⟩ ks Q):PP Gam B (z0n (D++L) (B + 4) gen 3 48 false (.ob (B + 22) gp 0 np) (.sl [v] .full)) (some d) g os ts clk ks Q:=by
 have hb:z1s (D++L) (B + 22) gp=some (es,true,false,fz):=by rw[z2i hB];exact z2g h22
 have h22':22 < L.length:=by
  rw[List.getElem?_eq_some_iff] at h22
  exact h22.1
 have hgt:¬ 70368744177664 < (np + 1) * 49:=by omega
 by_cases h5:np + 1≤5
 ·have e:z0n (D++L) (B + 4) gen 3 48 false (.ob (B + 22) gp 0 np) (.sl [v] .full)=some (.ob (B + 22) gp 0 (np + 1),D++L.set 22 (.blk gp (es.take np++[v]++es.drop (np + 1)) true false fz)):=by
   simp[z0n,z4e,hv,hb,hx,z1c,hgt,hes,hf,h5,z1t hB]
  have e4:L.set 4 (L[4]'h4)=L:=List.set_getElem_self h4
  rw[e,q4a]
  have:=hQ (.ob (B + 22) gp 0 (np + 1)) (L[4]'h4) (.blk gp (es.take np++[v]++es.drop (np + 1)) true false fz)
  rw[e4] at this
  refine this (.inr ⟨22,by simp,gp,np + 1,_,false,fz,rfl,List.getElem?_set_self h22', ?_, ?_⟩)
  ·simp;omega
  ·rw[List.take_append_of_le_length (by simp;omega),List.take_of_length_le (by simp;omega)]
 ·obtain rfl:np=5:=by omega
  have ht:es.take 5=es:=List.take_of_length_le (by omega)
  have e:z0n (D++L) (B + 4) gen 3 48 false (.ob (B + 22) gp 0 5) (.sl [v] .full)=some (.ob (B + 4) gen 0 6,D++L.set 4 (.blk gen (es.take 5++[v]) true true 0)):=by
   simp[z0n,z4e,hv,hb,hx,z1c,hes,z1t hB]
  have e22:(L.set 4 (.blk gen (es.take 5++[v]) true true 0)).set 22 (.blk gp es true false fz)=L.set 4 (.blk gen (es.take 5++[v]) true true 0):=by
   refine List.ext_getElem? fun j=> ?_
   by_cases hj:j=22
   ·subst hj
    rw[List.getElem?_set_self (by rw[List.length_set];exact h22'),List.getElem?_set_ne (by decide),h22]
   ·rw[List.getElem?_set_ne (fun e=>hj e.symm)]
  rw[e,q4a]
  have:=hQ (.ob (B + 4) gen 0 6) (.blk gen (es.take 5++[v]) true true 0) (.blk gp es true false fz)
  rw[e22] at this
  refine this (.inr ⟨4,by simp,gen,6,_,true,0,rfl,List.getElem?_set_self h4, ?_, ?_⟩)
  ·simp[hes]
  ·rw[List.take_of_length_le (by simp[hes])]
theorem x4c {cv:AV} {acc more:List Clause} {t:Tip} {gc:Nat} (hB:D.length=B) (h11:11 < L.length) (h16:16 < L.length) (hc:(cv= .sl [] .nil∧acc=[]∧more=[])∨(cv= .ob (B + 16) gc 0 acc.length∧acc≠[]∧L[16]? =some (.blk gc (acc.map z0e) true true 0))) (hal:acc.length≤1000) (hml:more.length≤1000)
  (hQ:∀ cv' a11 rc,RowAt B [11,16] ((L.set 16 rc).set 11 a11) cv' ((acc++more).map z0e)→O Gam B .plain (g + 1) os ⟨upd ts d cv',D++(L.set 16 rc).set 11 a11,clk⟩ ks Q):PP Gam B (z0n (D++L) (B + 11) gen 5 112 false cv (.sl (more.map z0e) t)) (some d) g os ts clk ks Q:=by
 have e16:L.set 16 (L[16]'h16)=L:=List.set_getElem_self h16
 have e11:L.set 11 (L[11]'h11)=L:=List.set_getElem_self h11
 have hy:z0o 5 (more.map z0e)=true:=z2o
 have hx:z0o 5 (acc.map z0e)=true:=z2o
 rcases hc with ⟨rfl,rfl,rfl⟩ | ⟨rfl,hne,hr⟩
 ·have e:z0n (D++L) (B + 11) gen 5 112 false (.sl [] .nil) (.sl ([].map z0e) t)=some (.sl [] (.at (B + 11) gen),D++L.set 11 (.tip gen 5)):=by
   simp[z0n,z4e,z1c,z0o,z1t hB]
  rw[e,q4a]
  have:=hQ (.sl [] (.at (B + 11) gen)) (.tip gen 5) (L[16]'h16)
  rw[e16] at this
  exact this (.inl ⟨_,rfl⟩)
 ·have hb:z1s (D++L) (B + 16) gc=some (acc.map z0e,true,true,0):=by rw[z2i hB];exact z2g hr
  have hgt:¬ 70368744177664 < (acc.length + more.length) * 113:=by omega
  have hpos:0 < acc.length:=List.length_pos_iff.2 hne
  have ht:List.take acc.length (acc.map z0e)=acc.map z0e:=List.take_of_length_le (by simp)
  by_cases hm:more=[]
  ·subst hm
   have e:z0n (D++L) (B + 11) gen 5 112 false (.ob (B + 16) gc 0 acc.length) (.sl ([].map z0e) t)=some (.ob (B + 16) gc 0 acc.length,D++L):=by
    have hgt':¬ 70368744177664 < acc.length * 113:=by omega
    simp[z0n,z4e,z1c,z0o,hb,hx,hgt']
   rw[e,q4a]
   have:=hQ (.ob (B + 16) gc 0 acc.length) (L[11]'h11) (L[16]'h16)
   rw[e16,e11] at this
   exact this (.inr ⟨16,by simp,gc,acc.length,_,true,0,rfl,hr,by simp,by rw[List.append_nil];exact ht⟩)
  ·have he:(more.map z0e).isEmpty=false:=by cases more with
    | nil=>exact absurd rfl hm
    | cons a l=>rfl
   have e:z0n (D++L) (B + 11) gen 5 112 false (.ob (B + 16) gc 0 acc.length) (.sl (more.map z0e) t)=some (.ob (B + 11) gen 0 (acc.length + more.length),D++(L.set 16 .dead).set 11 (.blk gen ((acc++more).map z0e) true true 0)):=by
    simp[z0n,z4e,z1c,hb,hx,hy,hgt,he,hm,hpos,ht,z1t hB]
   rw[e,q4a]
   refine hQ _ _ _ (.inr ⟨11,by simp,gen,acc.length + more.length,_,true,0,rfl,List.getElem?_set_self (by rw[List.length_set];exact h11), ?_, ?_⟩)
   ·simp
   ·rw[List.take_of_length_le (by simp)]
end
end
theorem g3t {zs:List Int} {u:Tip} {h:List AObj} {clk:Nat} {Q:AV→List AObj→Nat→Prop} (hz:∀ z∈zs, -9223372036854775808≤z∧z≤9223372036854775807) (hQ:∀ s,SysV s→Q (z1b s) h clk):WC Gam 4 [.sl (z6z zs) u] h clk Q:=by
 have hl:q6i (zs.take 400):=⟨by simp;omega,fun z h=>hz z (List.mem_of_mem_take h)⟩
 have hN:=v4e hl
 refine q3z rfl g1r rfl rfl rfl (az:=[.sl (z6z zs) .no]) rfl (by simp[idsL,AV.ids,z8k]) fun D B T hB hT=> ?_
 have fin:∀ (p q:AV) (s:Sys) (L:List AObj),SysV s→z4e (D++L) p=some (s.preds.map z1e)→z4e (D++L) q=some (s.clauses.map z0e)→((∃ xs t,p= .sl xs t)∨∃ a b c d,p= .ob a b c d)→((∃ xs t,q= .sl xs t)∨∃ a b c d,q= .ob a b c d)→RV [] (some [.agg [p,q]]) (fun v h'=>T v h') (D++L):=fun p q s L hs h1 h2 h3 h4=>
  ⟨_,v0f h1 h2 h3 h4,z2k s,by simp[x3c],hT _ _ (hQ s hs)⟩
 simp only[go_sem,u6o,hB]
 refine j4o fun g c=> ?_
 have e0:∀ x0 x1 x2 x3 x4 x5 x6 x7 x8 x9 x10 x11:AObj,(D++[x0,x1,x2,x3,x4,x5,x6,x7,x8,x9,x10,x11]).length=B + 12:=fun _ _ _ _ _ _ _ _ _ _ _ _=>by simp[hB]
 have e1:∀ x0 x1 x2 x3 x4 x5 x6 x7 x8 x9 x10 x11 o:AObj,(D++[x0,x1,x2,x3,x4,x5,x6,x7,x8,x9,x10,x11])++[o]=D++[x0,x1,x2,x3,x4,x5,x6,x7,x8,x9,x10,x11,o]:=fun _ _ _ _ _ _ _ _ _ _ _ _ _=>by simp
 rw[e0,e1]
 simp only[go_sem,hB]
 refine z3g (u5u hz hN fun s hs cv o0 o1 o2 o o4 p0 p1 p2 p3 gp fz c2 hcl hfz=> ?_)
 clear hN
 have e2:∀ x0 x1 x2 x3 x4 x5 x6 x7 x8 x9 x10 x11 x12:AObj,(D++[x0,x1,x2,x3,x4,x5,x6,x7,x8,x9,x10,x11,x12]).length=B + 13:=fun _ _ _ _ _ _ _ _ _ _ _ _ _=>by simp[hB]
 have e3:∀ (x0 x1 x2 x3 x4 x5 x6 x7 x8 x9 x10 x11 x12:AObj) (L:List AObj),(D++[x0,x1,x2,x3,x4,x5,x6,x7,x8,x9,x10,x11,x12])++L=D++(x0::x1::x2::x3::x4::x5::x6::x7::x8::x9::x10::x11::x12::L):=fun _ _ _ _ _ _ _ _ _ _ _ _ _ _=>by simp
 rw[e2] at hcl
 rw[e2,e3,show B + 13 + 9=B + 22 from rfl]
 generalize zs.take 400=l at hl
 obtain⟨⟨n,hn2,hn5,hp⟩,hsl,hsc⟩:=id hs
 have hpl:s.preds.length=n:=by rw[hp,List.length_take];show min n 5=n;omega
 have hcv:cv.def? =true∧cv.cells=[cv]∧cv.one=true:=by
  rcases hcl with ⟨rfl,_⟩ | ⟨g',rfl,_⟩ <;> exact⟨rfl,rfl,rfl⟩
 have hcs:(∃ xs t,cv= .sl xs t)∨∃ a b c d,cv= .ob a b c d:=by
  rcases hcl with ⟨rfl,_⟩ | ⟨g',rfl,_⟩
  ·exact .inl ⟨_,_,rfl⟩
  ·exact .inr ⟨_,_,_,_,rfl⟩
 have hst:∀ (k g:Nat) (pv w:AV) (L:List AObj),((∃ xs t,pv= .sl xs t)∨∃ a b c d,pv= .ob a b c d)→((∃ xs t,w= .sl xs t)∨∃ a b c d,w= .ob a b c d)→L[k]? =some (.blk g [.agg [.sl [] .nil, .sl [] .nil]] false false 0)→z4y (D++L) 2 (.agg [pv,w]) (.ptr (B + k) g 0 0)=some (.undef,D++L.set k (.blk g [.agg [pv,w]] false false 0)):=fun k g pv w L h1 h2 hL=>by
  have hb:z1s (D++L) (B + k) g=some ([.agg [.sl [] .nil, .sl [] .nil]],false,false,0):=by rw[z2i hB];exact z2g hL
  rw[q0g (sz:=2) (v:= .agg [pv,w]) hb rfl rfl (by simp[AV.cells,(q2u h1).2.2,(q2u h2).2.2]) (by simp[AV.cells]),z1t hB]
  rfl
 obtain⟨es,hes⟩:∃ es,es=z2d.map z1e:=⟨_,rfl⟩
 have hes0:es[0]? =some (.agg [.str [80], .sl [.int .i64 2] .no, .int .i64 1]):=by rw[hes];rfl
 have hes5:es.length=5:=by rw[hes];rfl
 have hesc:z0o 3 es=true:=by rw[hes];exact z4q
 have hest:es.take n=s.preds.map z1e:=by rw[hes,hp,List.map_take]
 rw[←hes]
 have hpi:∀ L:List AObj,L[22]? =some (.blk gp es true false fz)→z1n (D++L) 3 (.ob (B + 22) gp 0 s.preds.length) (.int .i64 0)=some (.ptr (B + 22) gp 0 0,D++L):=fun L hL=>by
  have hb:z1s (D++L) (B + 22) gp=some (es,true,false,fz):=by rw[z2i hB];exact z2g hL
  have h0:0 < s.preds.length:=by omega
  simp[z1n,hb,hes0,AV.cells,h0]
 have hs0:=hst 1 (c2 + 1) (.ob (B + 22) gp 0 s.preds.length) cv
 simp only[go_sem,hB,hst 1 _ _ _ _ (.inr ⟨_,_,_,_,rfl⟩) hcs,hpi,hes0,Option.bind_some]
 refine z1w (k:=12) (z3i hl (by decide) (by decide)) hB rfl (Nat.zero_le _) ?_
 rintro v i ⟨r,rfl,hr1,hr2⟩ hi
 cases hz0:decide (r=0) with
 | true=>
   simp only[go_sem,hB,hz0,hst 0 _ _ _ _ (.inr ⟨_,_,_,_,rfl⟩) hcs,z0m,z0l,z0g]
   refine fin _ _ s _ hs.v ?_ ?_ (.inr ⟨_,_,_,_,rfl⟩) hcs
   ·exact RowAt.src hB (.inr ⟨22,List.mem_singleton.2 rfl,gp,s.preds.length,es,false,fz,rfl,rfl,by omega,by rw[hpl];exact hest⟩)
   ·rcases hcl with ⟨rfl,h0⟩ | ⟨gc,rfl,rfl,_⟩
    ·rw[h0];rfl
    ·exact RowAt.src hB (.inr ⟨16,List.mem_singleton.2 rfl,gc,s.clauses.length,_,true,0,rfl,rfl,by simp,List.take_of_length_le (by simp)⟩)
 | false=>
   simp only[go_sem,hB,hz0,hpi,hes0,Option.bind_some]
   refine w3q hB (by simp) rfl hes5 (by omega) hfz hesc rfl fun pv a4 pr hpr=> ?_
   have hps:=hpr.shape
   have hpe:es.take s.preds.length++[AV.agg [.str [78], .sl [.int .i64 2] .no, .int .i64 1]]=(s.preds++[z6r]).map z1e:=by
    rw[hpl,hest,List.map_append]
    rfl
   rw[hpe] at hpr
   obtain⟨u1,u2,u3⟩:=q2u hps
   simp only[go_sem,hB,u1,u2,u3]
   have tail:∀ (acc more:List Clause) (cv':AV) (L L':List AObj),SysV ⟨s.preds++[z6r],acc++more⟩→RowAt B [4,22] L pv ((s.preds++[z6r]).map z1e)→(∀ k∈[4,22],L'[k]? =L[k]?)→RowAt B [11,16] L' cv' ((acc++more).map z0e)→RV [] (some [.agg [pv,cv']]) (fun v h'=>T v h') (D++L'):=fun acc more cv' L L' hsv h1 h2 h3=>
    fin pv cv' ⟨s.preds++[z6r],acc++more⟩ L' hsv (RowAt.src hB (h1.mono h2)) (RowAt.src hB h3) hps h3.shape
   rcases hcl with ⟨rfl,h0⟩ | ⟨gc,rfl,rfl,hne⟩
   ·refine z2e ?_
    simp only[go_sem,j7x,hB,List.length_nil,Int.cast_ofNat_Int,Int.lt_irrefl,decide_false]
    refine x4c (acc:=[]) (more:=[]) (gc:=0) hB ?_ ?_ (.inl ⟨rfl,rfl,rfl⟩) (Nat.zero_le _) (Nat.zero_le _) fun cv' a11 rc hcr=> ?_
    ·simp
    ·simp
    obtain⟨w1,w2,w3⟩:=q2u hcr.shape
    simp only[go_sem,hB,u1,u2,u3,w1,w2,w3,hst 0 _ _ _ _ hps hcr.shape,z0m,z0l,z0g]
    refine tail [] [] cv' _ _ (u9l hs (by rw[h0]) (by simp) (by simp) (by simp)) hpr ?_ (hcr.mono ?_)
    ·intro k hk
     simp only[List.mem_cons,List.not_mem_nil,or_false] at hk
     rcases hk with rfl | rfl <;> rfl
    ·intro k hk
     simp only[List.mem_cons,List.not_mem_nil,or_false] at hk
     rcases hk with rfl | rfl <;> rfl
   ·refine x6h (l:=l) (cs:=s.clauses) (g:=_) (gc:=gc) (pv:=pv) (v2:= .ptr (B + 0) clk 0 0) hl hB hi hsl (fun c hc=>by have:=(hsc c hc).2.1;omega) (by simp[z0c]) (by simp[z0c]) (by simp[z0c]) (by simp[z0c]) (by simp[z0c]) (by simp[z0c]) fun acc more t ts' a5 a6 a7 a8 a9 a10 i' clk' hal hml hacc hmore q2 q4 q7=> ?_
    have hane:acc≠[]:=fun e=>hne (List.length_eq_zero_iff.1 (by rw[←hal,e];rfl))
    simp only[go_sem,H10,hB,q2,q4,q7]
    refine x4c (gc:=gc) hB (by simp) (by simp) (.inr ⟨by rw[hal],hane,rfl⟩) (by omega) (by omega) fun cv' a11 rc hcr=> ?_
    obtain⟨w1,w2,w3⟩:=q2u hcr.shape
    simp only[go_sem,hB,q2,q4,u1,u2,u3,w1,w2,w3,hst 0 _ _ _ _ hps hcr.shape,z0m,z0l,z0g]
    refine tail acc more cv' _ _ (u9l hs hal hml hacc hmore) hpr ?_ (hcr.mono ?_)
    ·intro k hk
     simp only[List.mem_cons,List.not_mem_nil,or_false] at hk
     rcases hk with rfl | rfl <;> rfl
    ·intro k hk
     simp only[List.mem_cons,List.not_mem_nil,or_false] at hk
     rcases hk with rfl | rfl <;> rfl
end Go.Proofs.YtdfepmffiampgaaGreatDoor.Am
