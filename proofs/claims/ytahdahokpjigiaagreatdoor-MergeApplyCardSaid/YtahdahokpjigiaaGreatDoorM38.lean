/- Walking: a system with a copy of its first predicate Walking: a system with a copy of its first predicate Walking: the reference finds two predicates that match Walking: names to choose from; small va -/
import Derived.Test.YtahdahokpjigiaaGreatDoorM37
set_option linter.all false
namespace Go.Proofs.YtahdahokpjigiaaGreatDoor.Am
open Go
set_option maxRecDepth 100000
section
def RowAt (B:Nat) (ss:List Nat) (L:List AObj) (v:AV) (xs:List AV):Prop:=(∃ t,v= .sl xs t)∨∃ k∈ss,∃ g n es w fz,v= .ob (B + k) g 0 n∧L[k]? =some (.blk g es true w fz)∧n≤es.length∧es.take n=xs
theorem RowAt.mono {B:Nat} {ss:List Nat} {L L':List AObj} {v:AV} {xs:List AV} (h:RowAt B ss L v xs) (hl:∀ k∈ss,L'[k]? =L[k]?):RowAt B ss L' v xs:=by
 rcases h with h | ⟨k,hk,g,n,es,w,fz,h1,h2,h3⟩
 ·exact .inl h
 ·exact .inr ⟨k,hk,g,n,es,w,fz,h1,by rw[hl k hk];exact h2,h3⟩
theorem RowAt.src {B:Nat} {D L:List AObj} {ss:List Nat} {v:AV} {xs:List AV} (hB:D.length=B) (h:RowAt B ss L v xs):z5a (D++L) v=some xs:=by
 rcases h with ⟨t,rfl⟩ | ⟨k,_,g,n,es,w,fz,rfl,h2,h3,rfl⟩
 ·rfl
 ·have hb:z2a (D++L) (B + k) g=some (es,true,w,fz):=by rw[z6w hB];exact z5z h2
  simp[z5a,q7e,hb,h3]
theorem RowAt.shape {B:Nat} {L:List AObj} {ss:List Nat} {v:AV} {xs:List AV} (h:RowAt B ss L v xs):(∃ xs t,v= .sl xs t)∨∃ a b c d,v= .ob a b c d:=by
 rcases h with ⟨t,rfl⟩ | ⟨k,_,g,n,es,w,fz,rfl,_⟩
 ·exact .inl ⟨_,_,rfl⟩
 ·exact .inr ⟨_,_,_,_,rfl⟩
theorem u6p {v:AV} (h:(∃ xs t,v= .sl xs t)∨∃ a b c d,v= .ob a b c d):v.def? =true∧v.cells=[v]∧v.one=true:=by
 rcases h with ⟨_,_,rfl⟩ | ⟨_,_,_,_,rfl⟩ <;> exact⟨rfl,rfl,rfl⟩
section
variable {D L:List AObj} {B gen d g clk:Nat} {os:List AOper} {ts:Tmps} {ks:List Kf} {Q:Post}
theorem g1v {gp np fz:Nat} {es:List AV} {v:AV} (hB:D.length=B) (h4:4 < L.length) (h22:L[22]? =some (.blk gp es true false fz)) (hes:es.length=5) (hn:np≤5) (hf:fz≤np) (hx:z0t 3 es=true) (hv:z0t 3 [v]=true)
  (hQ:∀ pv a4 pr,RowAt B [4,22] ((L.set 4 a4).set 22 pr) pv (es.take np++[v])→O Gam B .plain (g + 1) os ⟨upd ts d pv,D++(L.set 4 a4).set 22 pr,clk⟩ ks Q):PP Gam B (z1g (D++L) (B + 4) gen 3 48 false (.ob (B + 22) gp 0 np) (.sl [v] .full)) (some d) g os ts clk ks Q:=by
 have hb:z2a (D++L) (B + 22) gp=some (es,true,false,fz):=by rw[z6w hB];exact z5z h22
 have h22':22 < L.length:=by
  rw[List.getElem?_eq_some_iff] at h22
  exact h22.1
 have hgt:¬ 70368744177664 < (np + 1) * 49:=by omega
 by_cases h5:np + 1≤5
 ·have e:z1g (D++L) (B + 4) gen 3 48 false (.ob (B + 22) gp 0 np) (.sl [v] .full)=some (.ob (B + 22) gp 0 (np + 1),D++L.set 22 (.blk gp (es.take np++[v]++es.drop (np + 1)) true false fz)):=by
   simp[z1g,z5a,hv,hb,hx,z1c,hgt,hes,hf,h5,z5i hB]
  have e4:L.set 4 (L[4]'h4)=L:=List.set_getElem_self h4
  rw[e,j9d]
  have:=hQ (.ob (B + 22) gp 0 (np + 1)) (L[4]'h4) (.blk gp (es.take np++[v]++es.drop (np + 1)) true false fz)
  rw[e4] at this
  refine this (.inr ⟨22,by simp,gp,np + 1,_,false,fz,rfl,List.getElem?_set_self h22', ?_, ?_⟩)
  ·simp;omega
  ·rw[List.take_append_of_le_length (by simp;omega),List.take_of_length_le (by simp;omega)]
 ·obtain rfl:np=5:=by omega
  have ht:es.take 5=es:=List.take_of_length_le (by omega)
  have e:z1g (D++L) (B + 4) gen 3 48 false (.ob (B + 22) gp 0 5) (.sl [v] .full)=some (.ob (B + 4) gen 0 6,D++L.set 4 (.blk gen (es.take 5++[v]) true true 0)):=by
   simp[z1g,z5a,hv,hb,hx,z1c,hes,z5i hB]
  have e22:(L.set 4 (.blk gen (es.take 5++[v]) true true 0)).set 22 (.blk gp es true false fz)=L.set 4 (.blk gen (es.take 5++[v]) true true 0):=by
   refine List.ext_getElem? fun j=> ?_
   by_cases hj:j=22
   ·subst hj
    rw[List.getElem?_set_self (by rw[List.length_set];exact h22'),List.getElem?_set_ne (by decide),h22]
   ·rw[List.getElem?_set_ne (fun e=>hj e.symm)]
  rw[e,j9d]
  have:=hQ (.ob (B + 4) gen 0 6) (.blk gen (es.take 5++[v]) true true 0) (.blk gp es true false fz)
  rw[e22] at this
  refine this (.inr ⟨4,by simp,gen,6,_,true,0,rfl,List.getElem?_set_self h4, ?_, ?_⟩)
  ·simp[hes]
  ·rw[List.take_of_length_le (by simp[hes])]
theorem u7k {cv:AV} {acc more:List Clause} {t:Tip} {gc:Nat} (hB:D.length=B) (h11:11 < L.length) (h16:16 < L.length) (hc:(cv= .sl [] .nil∧acc=[]∧more=[])∨(cv= .ob (B + 16) gc 0 acc.length∧acc≠[]∧L[16]? =some (.blk gc (acc.map z0f) true true 0))) (hal:acc.length≤1000) (hml:more.length≤1000)
  (hQ:∀ cv' a11 rc,RowAt B [11,16] ((L.set 16 rc).set 11 a11) cv' ((acc++more).map z0f)→O Gam B .plain (g + 1) os ⟨upd ts d cv',D++(L.set 16 rc).set 11 a11,clk⟩ ks Q):PP Gam B (z1g (D++L) (B + 11) gen 5 112 false cv (.sl (more.map z0f) t)) (some d) g os ts clk ks Q:=by
 have e16:L.set 16 (L[16]'h16)=L:=List.set_getElem_self h16
 have e11:L.set 11 (L[11]'h11)=L:=List.set_getElem_self h11
 have hy:z0t 5 (more.map z0f)=true:=z3l
 have hx:z0t 5 (acc.map z0f)=true:=z3l
 rcases hc with ⟨rfl,rfl,rfl⟩ | ⟨rfl,hne,hr⟩
 ·have e:z1g (D++L) (B + 11) gen 5 112 false (.sl [] .nil) (.sl ([].map z0f) t)=some (.sl [] (.at (B + 11) gen),D++L.set 11 (.tip gen 5)):=by
   simp[z1g,z5a,z1c,z0t,z5i hB]
  rw[e,j9d]
  have:=hQ (.sl [] (.at (B + 11) gen)) (.tip gen 5) (L[16]'h16)
  rw[e16] at this
  exact this (.inl ⟨_,rfl⟩)
 ·have hb:z2a (D++L) (B + 16) gc=some (acc.map z0f,true,true,0):=by rw[z6w hB];exact z5z hr
  have hgt:¬ 70368744177664 < (acc.length + more.length) * 113:=by omega
  have hpos:0 < acc.length:=List.length_pos_iff.2 hne
  have ht:List.take acc.length (acc.map z0f)=acc.map z0f:=List.take_of_length_le (by simp)
  by_cases hm:more=[]
  ·subst hm
   have e:z1g (D++L) (B + 11) gen 5 112 false (.ob (B + 16) gc 0 acc.length) (.sl ([].map z0f) t)=some (.ob (B + 16) gc 0 acc.length,D++L):=by
    have hgt':¬ 70368744177664 < acc.length * 113:=by omega
    simp[z1g,z5a,z1c,z0t,hb,hx,hgt']
   rw[e,j9d]
   have:=hQ (.ob (B + 16) gc 0 acc.length) (L[11]'h11) (L[16]'h16)
   rw[e16,e11] at this
   exact this (.inr ⟨16,by simp,gc,acc.length,_,true,0,rfl,hr,by simp,by rw[List.append_nil];exact ht⟩)
  ·have he:(more.map z0f).isEmpty=false:=by cases more with
    | nil=>exact absurd rfl hm
    | cons a l=>rfl
   have e:z1g (D++L) (B + 11) gen 5 112 false (.ob (B + 16) gc 0 acc.length) (.sl (more.map z0f) t)=some (.ob (B + 11) gen 0 (acc.length + more.length),D++(L.set 16 .dead).set 11 (.blk gen ((acc++more).map z0f) true true 0)):=by
    simp[z1g,z5a,z1c,hb,hx,hy,hgt,he,hm,hpos,ht,z5i hB]
   rw[e,j9d]
   refine hQ _ _ _ (.inr ⟨11,by simp,gen,acc.length + more.length,_,true,0,rfl,List.getElem?_set_self (by rw[List.length_set];exact h11), ?_, ?_⟩)
   ·simp
   ·rw[List.take_of_length_le (by simp)]
end
end
theorem g6n {zs:List Int} {u:Tip} {h:List AObj} {clk:Nat} {Q:AV→List AObj→Nat→Prop} (hz:∀ z∈zs, -9223372036854775808≤z∧z≤9223372036854775807) (hQ:∀ s,SysV s→Q (z0x s) h clk):WC Gam 8 [.sl (z9y zs) u] h clk Q:=by
 have hl:q7q (zs.take 400):=⟨by simp;omega,fun z h=>hz z (List.mem_of_mem_take h)⟩
 have hN:=v1d hl
 refine q5x rfl g5p rfl rfl rfl (az:=[.sl (z9y zs) .no]) rfl (by simp[idsL,AV.ids,z8d]) fun D B T hB hT=> ?_
 have fin:∀ (p q:AV) (s:Sys) (L:List AObj),SysV s→z5a (D++L) p=some (s.preds.map z0q)→z5a (D++L) q=some (s.clauses.map z0f)→((∃ xs t,p= .sl xs t)∨∃ a b c d,p= .ob a b c d)→((∃ xs t,q= .sl xs t)∨∃ a b c d,q= .ob a b c d)→RV [] (some [.agg [p,q]]) (fun v h'=>T v h') (D++L):=fun p q s L hs h1 h2 h3 h4=>
  ⟨_,g0p h1 h2 h3 h4,z2c s,by simp[x7a],hT _ _ (hQ s hs)⟩
 simp only[go_sem,g4k,hB]
 refine k1b fun g c=> ?_
 have e0:∀ x0 x1 x2 x3 x4 x5 x6 x7 x8 x9 x10 x11:AObj,(D++[x0,x1,x2,x3,x4,x5,x6,x7,x8,x9,x10,x11]).length=B + 12:=fun _ _ _ _ _ _ _ _ _ _ _ _=>by simp[hB]
 have e1:∀ x0 x1 x2 x3 x4 x5 x6 x7 x8 x9 x10 x11 o:AObj,(D++[x0,x1,x2,x3,x4,x5,x6,x7,x8,x9,x10,x11])++[o]=D++[x0,x1,x2,x3,x4,x5,x6,x7,x8,x9,x10,x11,o]:=fun _ _ _ _ _ _ _ _ _ _ _ _ _=>by simp
 rw[e0,e1]
 simp only[go_sem,hB]
 refine z6f (g3q hz hN fun s hs cv o0 o1 o2 o o4 p0 p1 p2 p3 gp fz c2 hcl hfz=> ?_)
 clear hN
 have e2:∀ x0 x1 x2 x3 x4 x5 x6 x7 x8 x9 x10 x11 x12:AObj,(D++[x0,x1,x2,x3,x4,x5,x6,x7,x8,x9,x10,x11,x12]).length=B + 13:=fun _ _ _ _ _ _ _ _ _ _ _ _ _=>by simp[hB]
 have e3:∀ (x0 x1 x2 x3 x4 x5 x6 x7 x8 x9 x10 x11 x12:AObj) (L:List AObj),(D++[x0,x1,x2,x3,x4,x5,x6,x7,x8,x9,x10,x11,x12])++L=D++(x0::x1::x2::x3::x4::x5::x6::x7::x8::x9::x10::x11::x12::L):=fun _ _ _ _ _ _ _ _ _ _ _ _ _ _=>by simp
 rw[e2] at hcl
 rw[e2,e3,show B + 13 + 9=B + 22 from rfl]
 generalize zs.take 400=l at hl
 obtain⟨⟨n,hn2,hn5,hp⟩,hsl,hsc⟩:=id hs
 have hpl:s.preds.length=n:=by rw[hp,List.length_take];show min n 5=n;omega
 have hcv:cv.def? =true∧cv.cells=[cv]∧cv.one=true:=by
  rcases hcl with ⟨rfl,_⟩ | ⟨g',rfl,_⟩ <;> exact⟨rfl,rfl,rfl⟩
 have hcs:(∃ xs t,cv= .sl xs t)∨∃ a b c d,cv= .ob a b c d:=by
  rcases hcl with ⟨rfl,_⟩ | ⟨g',rfl,_⟩
  ·exact .inl ⟨_,_,rfl⟩
  ·exact .inr ⟨_,_,_,_,rfl⟩
 have hst:∀ (k g:Nat) (pv w:AV) (L:List AObj),((∃ xs t,pv= .sl xs t)∨∃ a b c d,pv= .ob a b c d)→((∃ xs t,w= .sl xs t)∨∃ a b c d,w= .ob a b c d)→L[k]? =some (.blk g [.agg [.sl [] .nil, .sl [] .nil]] false false 0)→z8s (D++L) 2 (.agg [pv,w]) (.ptr (B + k) g 0 0)=some (.undef,D++L.set k (.blk g [.agg [pv,w]] false false 0)):=fun k g pv w L h1 h2 hL=>by
  have hb:z2a (D++L) (B + k) g=some ([.agg [.sl [] .nil, .sl [] .nil]],false,false,0):=by rw[z6w hB];exact z5z hL
  rw[u6y (sz:=2) (v:= .agg [pv,w]) hb rfl rfl (by simp[AV.cells,(u6p h1).2.2,(u6p h2).2.2]) (by simp[AV.cells]),z5i hB]
  rfl
 obtain⟨es,hes⟩:∃ es,es=u6e.map z0q:=⟨_,rfl⟩
 have hes0:es[0]? =some (.agg [.str [80], .sl [.int .i64 2] .no, .int .i64 1]):=by rw[hes];rfl
 have hes5:es.length=5:=by rw[hes];rfl
 have hesc:z0t 3 es=true:=by rw[hes];exact z4o
 have hest:es.take n=s.preds.map z0q:=by rw[hes,hp,List.map_take]
 rw[←hes]
 have hpi:∀ L:List AObj,L[22]? =some (.blk gp es true false fz)→z1m (D++L) 3 (.ob (B + 22) gp 0 s.preds.length) (.int .i64 0)=some (.ptr (B + 22) gp 0 0,D++L):=fun L hL=>by
  have hb:z2a (D++L) (B + 22) gp=some (es,true,false,fz):=by rw[z6w hB];exact z5z hL
  have h0:0 < s.preds.length:=by omega
  simp[z1m,hb,hes0,AV.cells,h0]
 have hs0:=hst 1 (c2 + 1) (.ob (B + 22) gp 0 s.preds.length) cv
 simp only[go_sem,hB,hst 1 _ _ _ _ (.inr ⟨_,_,_,_,rfl⟩) hcs,hpi,hes0,Option.bind_some]
 refine z1r (k:=12) (z3h hl (by decide) (by decide)) hB rfl (Nat.zero_le _) ?_
 rintro v i ⟨r,rfl,hr1,hr2⟩ hi
 cases hz0:decide (r=0) with
 | true=>
   simp only[go_sem,hB,hz0,hst 0 _ _ _ _ (.inr ⟨_,_,_,_,rfl⟩) hcs,z0n,z0m,z0g]
   refine fin _ _ s _ hs.v ?_ ?_ (.inr ⟨_,_,_,_,rfl⟩) hcs
   ·exact RowAt.src hB (.inr ⟨22,List.mem_singleton.2 rfl,gp,s.preds.length,es,false,fz,rfl,rfl,by omega,by rw[hpl];exact hest⟩)
   ·rcases hcl with ⟨rfl,h0⟩ | ⟨gc,rfl,rfl,_⟩
    ·rw[h0];rfl
    ·exact RowAt.src hB (.inr ⟨16,List.mem_singleton.2 rfl,gc,s.clauses.length,_,true,0,rfl,rfl,by simp,List.take_of_length_le (by simp)⟩)
 | false=>
   simp only[go_sem,hB,hz0,hpi,hes0,Option.bind_some]
   refine g1v hB (by simp) rfl hes5 (by omega) hfz hesc rfl fun pv a4 pr hpr=> ?_
   have hps:=hpr.shape
   have hpe:es.take s.preds.length++[AV.agg [.str [78], .sl [.int .i64 2] .no, .int .i64 1]]=(s.preds++[u6h]).map z0q:=by
    rw[hpl,hest,List.map_append]
    rfl
   rw[hpe] at hpr
   obtain⟨u1,u2,u3⟩:=u6p hps
   simp only[go_sem,hB,u1,u2,u3]
   have tail:∀ (acc more:List Clause) (cv':AV) (L L':List AObj),SysV ⟨s.preds++[u6h],acc++more⟩→RowAt B [4,22] L pv ((s.preds++[u6h]).map z0q)→(∀ k∈[4,22],L'[k]? =L[k]?)→RowAt B [11,16] L' cv' ((acc++more).map z0f)→RV [] (some [.agg [pv,cv']]) (fun v h'=>T v h') (D++L'):=fun acc more cv' L L' hsv h1 h2 h3=>
    fin pv cv' ⟨s.preds++[u6h],acc++more⟩ L' hsv (RowAt.src hB (h1.mono h2)) (RowAt.src hB h3) hps h3.shape
   rcases hcl with ⟨rfl,h0⟩ | ⟨gc,rfl,rfl,hne⟩
   ·refine z3f ?_
    simp only[go_sem,u8x,hB,List.length_nil,Int.cast_ofNat_Int,Int.lt_irrefl,decide_false]
    refine u7k (acc:=[]) (more:=[]) (gc:=0) hB ?_ ?_ (.inl ⟨rfl,rfl,rfl⟩) (Nat.zero_le _) (Nat.zero_le _) fun cv' a11 rc hcr=> ?_
    ·simp
    ·simp
    obtain⟨w1,w2,w3⟩:=u6p hcr.shape
    simp only[go_sem,hB,u1,u2,u3,w1,w2,w3,hst 0 _ _ _ _ hps hcr.shape,z0n,z0m,z0g]
    refine tail [] [] cv' _ _ (g5a hs (by rw[h0]) (by simp) (by simp) (by simp)) hpr ?_ (hcr.mono ?_)
    ·intro k hk
     simp only[List.mem_cons,List.not_mem_nil,or_false] at hk
     rcases hk with rfl | rfl <;> rfl
    ·intro k hk
     simp only[List.mem_cons,List.not_mem_nil,or_false] at hk
     rcases hk with rfl | rfl <;> rfl
   ·refine u7w (l:=l) (cs:=s.clauses) (g:=_) (gc:=gc) (pv:=pv) (v2:= .ptr (B + 0) clk 0 0) hl hB hi hsl (fun c hc=>by have:=(hsc c hc).2.1;omega) (by simp[z0b]) (by simp[z0b]) (by simp[z0b]) (by simp[z0b]) (by simp[z0b]) (by simp[z0b]) fun acc more t ts' a5 a6 a7 a8 a9 a10 i' clk' hal hml hacc hmore q2 q4 q7=> ?_
    have hane:acc≠[]:=fun e=>hne (List.length_eq_zero_iff.1 (by rw[←hal,e];rfl))
    simp only[go_sem,H10,hB,q2,q4,q7]
    refine u7k (gc:=gc) hB (by simp) (by simp) (.inr ⟨by rw[hal],hane,rfl⟩) (by omega) (by omega) fun cv' a11 rc hcr=> ?_
    obtain⟨w1,w2,w3⟩:=u6p hcr.shape
    simp only[go_sem,hB,q2,q4,u1,u2,u3,w1,w2,w3,hst 0 _ _ _ _ hps hcr.shape,z0n,z0m,z0g]
    refine tail acc more cv' _ _ (g5a hs hal hml hacc hmore) hpr ?_ (hcr.mono ?_)
    ·intro k hk
     simp only[List.mem_cons,List.not_mem_nil,or_false] at hk
     rcases hk with rfl | rfl <;> rfl
    ·intro k hk
     simp only[List.mem_cons,List.not_mem_nil,or_false] at hk
     rcases hk with rfl | rfl <;> rfl
def tf0 (k:Int) (p q:List Nat):Tf:=⟨k,p,q,0,0,[],[],[]⟩
def u8v (k:Int) (p q:List Nat):AV:= .agg [.int .i64 k, .str p, .str q, .int .i64 0, .int .i64 0, .sl [] .nil, .sl [] .nil, .sl [] .nil]
def u9p (s:Sys) (k:Int) (p q:List Nat):Prop:=(k=0∧p=[]∧q=[])∨(k=6∧∃ f g,f∈s.preds∧g∈s.preds∧f.name=p∧g.name=q∧u6n s f g=true)
theorem g6o {s:Sys} {h:List AObj} {clk:Nat} {Q:AV→List AObj→Nat→Prop} (hs:SysV s) (hcs:∀ c∈s.clauses,CmpC c) (hQ:∀ k p q (e:Int),u9p s k p q→Q (.tup [u8v k p q, .int .i64 e]) h clk):WC Gam 36 [z0x s] h clk Q:=by
 have p28:=k2s hs
 have hpl:=hs.pl
 have hcl:=hs.len
 have hnd:=hs.pr.nodup
 have hpa:∀ f∈s.preds,f.args.length≤20000:=fun f hf=>by have:=(hs.pr.args f hf).1;omega
 have p33:=fun {i k:Nat} (hi:i < s.preds.length) (hk:k < s.preds.length)=>g1d (s:=s) (i:=i) (k:=k) (by omega) hcs hnd hpa (by omega) hi hk
 simp only[z0x,nat] at p28 p33
 refine k8b rfl g5o rfl rfl rfl (az:=[z0x s]) rfl (by simp[idsL,z2c]) fun D B hB hBh=> ?_
 have fin:∀ k p q (e:Int),u9p s k p q→∀ (ts:Tmps) (L:List AObj) (c:Nat),z1s (D++L) ts [.cell 2 (some 8), .tmp 3]=some [u8v k p q, .int .i64 e]→u5y B h D [.cell 2 (some 8), .tmp 3] clk Q .ret ⟨ts,D++L,c⟩:=fun k p q e hf ts L c hr=>⟨fun _=>by simp,[u8v k p q, .int .i64 e],L,hr,rfl, .inl ⟨by simp[z1k,u8v,AV.ids,idsL],hQ k p q e hf⟩⟩
 simp only[go_sem,g4j,hB,z0x,z0a p28,Bool.not_true]
 refine z6z s.preds.length (by omega) (fun i r=>∃ (g0 g1:Nat),r.ts 1= .ptr (B + 0) g0 0 0∧r.ts 2= .ptr (B + 1) g1 0 0∧r.ts 4= .int .i64 (i:Int)∧r.h=D++[.blk g0 [z0x s] false false 0, .blk g1 [u8v 0 [] []] false false 0]) ⟨_,_,rfl,rfl,rfl,rfl⟩ ?_ ?_
 ·rintro i hlt f1 f2 ts h' clk' P ⟨g0,g1,q1,q2,q4,rfl⟩ hnx he hr
  dsimp only at q1 q2 q4
  have hix:=fun h=>z6g (l:=s.preds) (i:=i) (h:=h) (t:= .no) (k:= .i64) hlt
  simp only[go_sem,g1g,hB,z0x,q1,q2,q4,f1,f2,List.length_map]
  refine z0y (fun m r=>∃ j:Nat,j≤s.preds.length∧i + 1≤j∧m=s.preds.length - j∧r.ts 1= .ptr (B + 0) g0 0 0∧r.ts 2= .ptr (B + 1) g1 0 0∧r.ts 4= .int .i64 (i:Int)∧r.ts 5= .int .i64 (j:Int)∧r.h=D++[.blk g0 [z0x s] false false 0, .blk g1 [u8v 0 [] []] false false 0]) (s.preds.length - (i + 1)) ⟨i + 1,by omega,by omega,rfl,by simp[z0b,q1],by simp[z0b,q2],by simp[z0b,q4],by simp[z0b],by simp only[z0x]⟩ ?_
  clear q1 q2 q4
  rintro m ⟨ts,h',clk'⟩ P2 ⟨j,hj,hij,rfl,q1,q2,q4,q5,rfl⟩ hnx2 he2 hr2
  dsimp only at q1 q2 q4 q5
  by_cases hjl:j < s.preds.length
  ·have e1:decide ((j:Int) < (s.preds.length:Int))=true:=by rw[decide_eq_true_iff];omega
   have e2:IntKind.i64.wrap ((j:Int) + 1)=((j + 1:Nat):Int):=z0d (by omega) (by omega)
   have hjx:=fun h=>z6g (l:=s.preds) (i:=j) (h:=h) (t:= .no) (k:= .i64) hjl
   have pm:=p33 hjl hlt
   cases hm:u6n s s.preds[j] s.preds[i] with
   | false=>
     rw[hm] at pm
     simp only[go_sem,u9t,hB,z0x,q1,q2,q4,q5,e1,e2,List.length_map,z0a pm]
     exact hnx2 (s.preds.length - (j + 1)) _ (by omega) ⟨j + 1,by omega,by omega,rfl,q1,q2,q4,rfl,rfl⟩
   | true=>
     rw[hm] at pm
     simp only[go_sem,u9t,hB,z0x,u8v,q1,q2,q4,q5,e1,List.length_map,z0a pm,hix,hjx]
     refine hr2 _ ?_
     simp only[go_sem,]
     refine hr _ ?_
     simp only[go_sem,]
     refine fin 6 s.preds[j].name s.preds[i].name 0 (.inr ⟨rfl,_,_,List.getElem_mem hjl,List.getElem_mem hlt,rfl,rfl,hm⟩) _ _ _ ?_
     simp only[go_sem,hB,u8v,q2,z0n,z0m,z0g]
  ·have e1:decide ((j:Int) < (s.preds.length:Int))=false:=by rw[decide_eq_false_iff_not];omega
   simp only[go_sem,u9t,hB,z0x,q1,q2,q4,q5,e1,List.length_map]
   refine he2 _ _ ?_
   simp only[go_sem,q1,q2,q4,f2]
   exact hnx _ ⟨g0,g1,q1,q2,rfl,by simp only[z0x]⟩
 ·rintro f1 ts h' clk' P ⟨g0,g1,q1,q2,q4,rfl⟩ he hr
  dsimp only at q1 q2 q4
  simp only[go_sem,g1g,hB,z0x,q1,q2,q4,f1,List.length_map]
  refine he _ _ ?_
  simp only[go_sem,hB,u8v,q1,q2]
  refine fin 0 [] [] 8 (.inl ⟨rfl,rfl,rfl⟩) _ _ _ ?_
  simp only[go_sem,hB,u8v,q2,z0n,z0m,z0g]
def q7d:List (List Nat):=[[80],[81],[82],[90],[83],[78],[]]
theorem bs7 {h:List AObj}:bsV h (.str []) 7 [0,1,2,3,4,5,6] [.str [80], .str [81], .str [82], .str [90], .str [83], .str [78], .str []]=some (.sl (z1t q7d) .full,h):=(rfl)
theorem x8e {n:Nat} (hn:n < 7) {h:List AObj} {k:IntKind}:z1m h 1 (.sl (z1t q7d) .full) (.int k (n:Int))=some (.iptr [.str (q7d[n]'hn)] 0,h):=q5k hn
def x8g (a:AV):Prop:=a.cv=a∧a.obs=[]∧a.one=true∧a.ids=[]
theorem SmallV.five {s:Nat} {v:AV} (h:SmallV s v):∃ a b c d e,v= .agg [a,b,c,d,e]∧x8g a∧x8g b∧x8g c∧x8g d∧x8g e:=by
 obtain⟨t,q1,q2,q3,q4,q5,q6,q7,q8⟩:=h
 clear q1 q2
 cases v <;> simp only[AV.cells,List.length_singleton] at q7 <;> try omega
 rename_i cs
 match cs,q7 with
 | [a,b,c,d,e],_=>
   simp only[AV.obs,z4k,List.append_eq_nil_iff,and_true] at q3
   simp only[AV.ids,idsL,List.append_eq_nil_iff,and_true] at q5
   simp only[AV.cv,cvL,AV.agg.injEq,List.cons.injEq,and_true] at q4
   simp only[AV.cells,List.all_cons,List.all_nil,Bool.and_true,Bool.and_eq_true] at q8
   exact⟨a,b,c,d,e,rfl,⟨q4.1,q3.1,q8.1,q5.1⟩,⟨q4.2.1,q3.2.1,q8.2.1,q5.2.1⟩,⟨q4.2.2.1,q3.2.2.1,q8.2.2.1,q5.2.2.1⟩,⟨q4.2.2.2.1,q3.2.2.2.1,q8.2.2.2.1,q5.2.2.2.1⟩,⟨q4.2.2.2.2,q3.2.2.2.2,q8.2.2.2.2,q5.2.2.2.2⟩⟩
def u9q (s:Sys) (y:Tf):Prop:=∃ k p q,y=tf0 k p q∧u9p s k p q
theorem u8h {k:Int} {p q:List Nat}:TfS (tf0 k p q):=⟨Nat.zero_le _,Nat.zero_le _,rfl⟩
theorem g6p {s:Sys} {zs:List Int} {u:Tip} {odd:Bool} {h:List AObj} {clk:Nat} {Q:AV→List AObj→Nat→Prop} (hs:SysV s) (hcs:∀ c∈s.clauses,CmpC c) (hz:∀ z∈zs, -9223372036854775808≤z∧z≤9223372036854775807) (hQ:∀ y,TfS y→(odd=false→u9q s y)→Q (eTf y) h clk):WC Gam 9 [z0x s, .sl (z9y zs) u, .bool odd] h clk Q:=by
 have hl:q7q (zs.take 400):=⟨by simp;omega,fun z h=>hz z (List.mem_of_mem_take h)⟩
 refine q5x rfl g4m rfl rfl rfl (az:=[z0x s, .sl (z9y zs) .no, .bool odd]) rfl (by simp[idsL,z2c,AV.ids,z8d]) fun D B T hB hT=> ?_
 simp only[go_sem,g4l,hB,z0x]
 refine k1b fun g c=> ?_
 have e0:∀ x0 x1 x2 x3 x4 x5 x6 x7 x8 x9:AObj,(D++[x0,x1,x2,x3,x4,x5,x6,x7,x8,x9]).length=B + 10:=fun _ _ _ _ _ _ _ _ _ _=>by simp[hB]
 have e1:∀ x0 x1 x2 x3 x4 x5 x6 x7 x8 x9 o:AObj,(D++[x0,x1,x2,x3,x4,x5,x6,x7,x8,x9])++[o]=D++[x0,x1,x2,x3,x4,x5,x6,x7,x8,x9,o]:=fun _ _ _ _ _ _ _ _ _ _ _=>by simp
 rw[e0,e1]
 generalize zs.take 400=l at hl
 simp only[go_sem,hB]
 have h12:=fun h clk Q=>g6o (s:=s) (h:=h) (clk:=clk) (Q:=Q) hs hcs
 rw[z0x] at h12
 refine z6f (h12 _ _ _ fun k p q e hf=> ?_)
 have fin:∀ y:Tf,TfS y→(odd=false→u9q s y)→∀ (ta tb tc:Tip) (h':List AObj),RV [] (some [.agg [.int .i64 y.kind, .str y.pred, .str y.into, .int .i64 y.clause, .int .i64 y.atom, .sl (z1t y.un) ta, .sl (z1t y.und) tb, .sl y.drops tc]]) (fun v h'=>T v h') h':=by
  intro y hy ho ta tb tc h'
  rw[z2x rfl (by simp[AV.cv,cvL,AV.ids,idsL,z2d,hy.drops])]
  exact hT _ _ (hQ y hy ho)
 cases odd with
 | false=>
   simp only[go_sem,hB,u8v,Bool.not_false,z0n,z0m,z0g]
   exact fin (tf0 k p q) u8h (fun _=>⟨k,p,q,rfl,hf⟩) .nil .nil .nil _
 | true=>
   replace fin:=fun y hy=>fin y hy (fun h=>by cases h)
   simp only[go_sem,hB,u8v,Bool.not_true,bs7]
   refine z1r (k:=10) (z3h hl (by decide) (by decide)) hB rfl (Nat.zero_le _) ?_
   rintro v i ⟨r,rfl,hr1',hr2'⟩ hi
   have hr:r=0∨r=1∨r=2∨r=3∨r=4∨r=5∨r=6∨r=7∨r=8∨r=9:=by omega
   rcases hr with rfl | rfl | rfl | rfl | rfl | rfl | rfl | rfl | rfl | rfl
   ·simp only[go_sem,hB,decide_true,Int.reduceEq]
    refine z1r (k:=10) (z3h hl (by decide) (by decide)) hB rfl hi ?_
    rintro v i2 ⟨r,rfl,_,_⟩ hi2
    simp only[go_sem,hB,z0n,z0m,z0g]
    exact fin {tf0 k p q with kind:=r} u8h .nil .nil .nil _
   ·simp only[go_sem,hB,decide_true,decide_false,Int.reduceEq]
    refine z1r (k:=10) (z3h hl (by decide) (by decide)) hB rfl hi ?_
    rintro v i2 ⟨r,rfl,h1,h2⟩ hi2
    obtain⟨n,rfl⟩:∃ k:Nat,r=k:=⟨r.toNat,by omega⟩
    simp only[go_sem,hB,x8e (n:=n) (by omega),z0n,z0m,z0g]
    exact fin {tf0 k p q with pred:=q7d[n]'(by show n < 7;omega)} u8h .nil .nil .nil _
   ·simp only[go_sem,hB,decide_true,decide_false,Int.reduceEq]
    refine z1r (k:=10) (z3h hl (by decide) (by decide)) hB rfl hi ?_
    rintro v i2 ⟨r,rfl,h1,h2⟩ hi2
    obtain⟨n,rfl⟩:∃ k:Nat,r=k:=⟨r.toNat,by omega⟩
    simp only[go_sem,hB,x8e (n:=n) (by omega),z0n,z0m,z0g]
    exact fin {tf0 k p q with into:=q7d[n]'(by show n < 7;omega)} u8h .nil .nil .nil _
   ·simp only[go_sem,hB,decide_true,decide_false,Int.reduceEq]
    refine z1r (k:=10) (z3h hl (by decide) (by decide)) hB rfl hi ?_
    rintro v i2 ⟨r,rfl,h1,h2⟩ hi2
    simp only[go_sem,hB,z0d (n:=r - 1) (by omega) (by omega)]
    refine z1r (k:=10) (z3h hl (by decide) (by decide)) hB rfl hi2 ?_
    rintro v i3 ⟨r',rfl,h3,h4⟩ hi3
    simp only[go_sem,hB,z0d (n:=r' - 1) (by omega) (by omega),z0n,z0m,z0g]
    exact fin {tf0 k p q with clause:=r - 1,atom:=r' - 1} ⟨Nat.zero_le _,Nat.zero_le _,rfl⟩ .nil .nil .nil _
   ·simp only[go_sem,hB,decide_true,decide_false,Int.reduceEq,z1i]
    refine z1r (k:=10) (z3h hl (by decide) (by decide)) hB rfl hi ?_
    rintro v i2 ⟨r,rfl,h1,h2⟩ hi2
    obtain⟨n,rfl⟩:∃ k:Nat,r=k:=⟨r.toNat,by omega⟩
    have hix:=fun h=>x8e (n:=n) (by omega) (h:=h) (k:= .i64)
    generalize q7d[n]'(by show n < 7;omega)=nm at hix
    simp only[go_sem,hB,hix]
    rw[show [AV.str nm]=z1t [nm] from rfl,append_nil (k:=5) hB rfl z1u (by simp[z1t])]
    simp only[go_sem,hB,z0n,z0m,z0g]
    refine⟨by simp[z1f,apart,z0i,z1d,z1h,AOp.isCall,hB,AV.ids,idsL,z2d], ?_⟩
    exact fin {tf0 k p q with un:=[nm]} ⟨by simp,Nat.zero_le _,rfl⟩ _ .nil .nil _
   ·simp only[go_sem,hB,decide_true,decide_false,Int.reduceEq,z1i]
    refine z1r (k:=10) (z3h hl (by decide) (by decide)) hB rfl hi ?_
    rintro v i2 ⟨r,rfl,h1,h2⟩ hi2
    obtain⟨n,rfl⟩:∃ k:Nat,r=k:=⟨r.toNat,by omega⟩
    have hix:=fun h=>x8e (n:=n) (by omega) (h:=h) (k:= .i64)
    generalize q7d[n]'(by show n < 7;omega)=nm at hix
    simp only[go_sem,hB,hix]
    rw[show [AV.str nm]=z1t [nm] from rfl,append_nil (k:=7) hB rfl z1u (by simp[z1t])]
    simp only[go_sem,hB,z0n,z0m,z0g]
    refine⟨by simp[z1f,apart,z0i,z1d,z1h,AOp.isCall,hB,AV.ids,idsL,z2d], ?_⟩
    exact fin {tf0 k p q with und:=[nm]} ⟨Nat.zero_le _,by simp,rfl⟩ .nil _ .nil _
   ·simp only[go_sem,hB,decide_true,decide_false,Int.reduceEq,z1i]
    refine z1r (k:=10) (z3h hl (by decide) (by decide)) hB rfl hi ?_
    rintro v i2 ⟨r,rfl,h1,h2⟩ hi2
    obtain⟨n,rfl⟩:∃ k:Nat,r=k:=⟨r.toNat,by omega⟩
    have hix:=fun h=>x8e (n:=n) (by omega) (h:=h) (k:= .i64)
    generalize q7d[n]'(by show n < 7;omega)=nm at hix
    simp only[go_sem,hB,hix]
    refine z1r (k:=10) (z3h hl (by decide) (by decide)) hB rfl hi2 ?_
    rintro v i3 ⟨r3,rfl,_,_⟩ hi3
    simp only[go_sem,hB]
    refine z1r (k:=10) (z3h hl (by decide) (by decide)) hB rfl hi3 ?_
    rintro v i4 ⟨r4,rfl,_,_⟩ hi4
    simp only[go_sem,hB]
    refine z1r (k:=10) (z3h hl (by decide) (by decide)) hB rfl hi4 ?_
    rintro v i5 ⟨r5,rfl,h5,h6⟩ hi5
    obtain⟨m,rfl⟩:∃ k:Nat,r5=k:=⟨r5.toNat,by omega⟩
    have hw:IntKind.i64.wrap (1 + (m:Int))=((1 + m:Nat):Int):=by rw[z0d (by omega) (by omega)];omega
    simp only[go_sem,hB,hw]
    refine z1r (k:=10) (k6b (s:=1 + m) hl (by omega) (by omega)) hB rfl hi5 ?_
    rintro v i6 hv hi6
    obtain⟨a,b,c',d,e,rfl,⟨qa1,qa2,qa3,qa4⟩,⟨qb1,qb2,qb3,qb4⟩,⟨qc1,qc2,qc3,qc4⟩,⟨qd1,qd2,qd3,qd4⟩,⟨qe1,qe2,qe3,qe4⟩⟩:=hv.five
    generalize hx:AV.agg [.str nm, .int .i64 r3, .bool (decide (r4=0)),a,b,c',d,e]=w
    have hcells:z0t 8 [w]=true:=by
     subst hx
     simp[z0t,AV.def?,AV.cells,j9n,x3y,x3z,qa3,qb3,qc3,qd3,qe3]
    have hbs:∀ h,bsV h (.agg [.str [], .int .i64 0, .bool false, .int .i64 0, .bool false, .str [], .sl [] .nil, .sl [] .nil]) 1 [0] [w]=some (.sl [w] .full,h):=fun h=>by
     have hwc:w.cv=w:=by subst hx;simp[AV.cv,cvL,qa1,qb1,qc1,qd1,qe1]
     have:=y1v (h:=h) (z:= .agg [.str [], .int .i64 0, .bool false, .int .i64 0, .bool false, .str [], .sl [] .nil, .sl [] .nil]) (v:=w) rfl (by subst hx;simp[AV.obs,z4k,qa2,qb2,qc2,qd2,qe2]) (by rw[hwc];subst hx;rfl) (by rw[hwc];subst hx;rfl)
     rwa [hwc] at this
    have hwo:w.obs=[]:=by subst hx;simp[AV.obs,z4k,qa2,qb2,qc2,qd2,qe2]
    have hwi:w.ids=[]:=by subst hx;simp[AV.ids,idsL,qa4,qb4,qc4,qd4,qe4]
    simp only[go_sem,hB,hx,hbs]
    rw[append_nil (k:=9) hB rfl hcells (by simp)]
    simp only[go_sem,hB,z0n,z0m,z0g]
    refine⟨by simp[z1f,apart,z0i,z1d,z1h,AOp.isCall,hB,AV.ids,idsL,z2d,hwi,hwo], ?_⟩
    exact fin {tf0 k p q with drops:=[w]} ⟨Nat.zero_le _,Nat.zero_le _,by simp[idsL,hwi]⟩ .nil .nil _ _
   ·simp only[go_sem,hB,decide_true,decide_false,Int.reduceEq,List.length_nil,Int.reduceLT,z0n,z0m,z0g]
    exact fin (tf0 k p q) u8h .nil .nil .nil _
   ·simp only[go_sem,hB,decide_true,decide_false,Int.reduceEq,List.length_nil,Int.reduceLT,z0n,z0m,z0g]
    exact fin (tf0 k p q) u8h .nil .nil .nil _
   ·simp only[go_sem,hB,decide_true,decide_false,Int.reduceEq,List.length_nil,Int.reduceLT,z0n,z0m,z0g]
    exact fin (tf0 k p q) u8h .nil .nil .nil _
theorem u9r:Pure Gam 13 [] (.bool true):=Pure.tab (tab:=[([], .bool true)]) rfl rfl rfl
theorem AppOk.len2 {ps:List Func} {V:List Var} {a:App} (h:AppOk ps V a) (hp:PrOk ps):a.args.length≤20000∧∀ t∈a.args,t.length≤20000:=by
 obtain⟨f,hf,_,hl,hz⟩:=h
 have h40:=(hp.args f hf).1
 refine⟨by omega,fun t ht=> ?_⟩
 obtain⟨i,hi,rfl⟩:=List.getElem_of_mem ht
 have hif:i < f.args.length:=by omega
 have hm:(f.args[i],a.args[i])∈f.args.zip a.args:=by
  have:(f.args.zip a.args)[i]? =some (f.args[i],a.args[i]):=by simp[List.getElem?_zip_eq_some,hif,hi]
  exact List.mem_of_getElem? this
 have:=(hz _ hm).2.1
 dsimp only at this
 omega
theorem SysV.cmp {s:Sys} (hs:SysV s):∀ c∈s.clauses,CmpC c:=fun c hc=>by
 obtain⟨hv,hb,hba,hg,hh⟩:=hs.clauses c hc
 refine⟨by have:c.vars.length≤8:=hv.length_le;omega,by omega,by have:=hg.2.1;omega, ?_,fun a ha=>(hba a ha).len2 hs.pr⟩
 rcases hh with ⟨_,h⟩ | h
 ·rw[h];simp
 ·exact h.len2 hs.pr
theorem u8b {s:Sys} {x:Tf}:(u6f s x).1=x0n∨(u6f s x).1=merged s x:=by
 cases hu:u6v x with
 | false=>rw[u6k hu];exact .inl rfl
 | true=>
   by_cases hn:MOk s x
   ·rw[u6l hu hn];exact .inr rfl
   ·rw[u6i hu hn];exact .inl rfl
theorem u9s {s:Sys} {x:Tf} (hs:SysV s):Pure Gam 12 [z0x (u6f s x).1,z0x (u6f s x).1] (.bool true):=by
 have hpl:=hs.pl
 have hcl:=hs.len
 rcases u8b (s:=s) (x:=x) with h | h <;> rw[h]
 ·exact g0y (by simp[x0n]) (by simp[x0n]) (by simp[x0n]) (by simp[x0n])
 ·refine g0y (by have:=u6x (x:=x) (ps:=s.preds);simp only[merged];omega) (fun f hf=>by have:=(hs.pr.args f (List.mem_filter.1 hf).1).1;omega) (by have:=u7d (x:=x) (cs:=s.clauses);simp only[merged];omega) fun c hc=> ?_
  obtain⟨d,hd,rfl⟩:=List.mem_map.1 hc
  exact u7s (hs.cmp d (List.mem_filter.1 hd).1)
theorem g0q {s:Sys} {x:Tf} (h:u9q s x):x.kind=0∨(u6f s x).2=0:=by
 obtain⟨k,p,q,rfl,⟨rfl,_⟩ | ⟨rfl,f,g,hf,hg,h1,h2,h3⟩⟩:=h
 ·exact .inl rfl
 ·refine .inr ?_
  rw[u6l rfl ⟨f,g,hf,hg,h1,h2,h3⟩]
theorem g3e {zs ms:List Int} (hz:∀ z∈zs, -9223372036854775808≤z∧z≤9223372036854775807) (hm:∀ z∈ms, -9223372036854775808≤z∧z≤9223372036854775807):WC Gam 3 [.sl (z9y zs) .no, .sl (z9y ms) .no] [] 0 fun v _ _=>v= .bool true:=by
 refine q5x rfl fn4 rfl rfl rfl (az:=[.sl (z9y zs) .no, .sl (z9y ms) .no]) rfl (by simp[idsL,AV.ids,z8d]) fun D B R hB hR=> ?_
 simp only[go_sem,af4,hB]
 refine z6f (g6n hz fun s hv=> ?_)
 have hc:=hv.cmp
 have hf:∀ (odd:Bool) (h:List AObj) (u:Tip),z0v Gam 9 [z0x s, .sl (z9y ms) u, .bool odd] h=[]:=fun odd h u=>q1e g4m rfl rfl rfl (by simp[cvL,AV.cv,idsL,z2c,AV.ids,z8d,v0y])
 rw[z0x] at hf
 simp only[go_sem,hB,z0x,z1i]
 have h14:=fun odd u h clk Q=>g6p (s:=s) (zs:=ms) (u:=u) (odd:=odd) (h:=h) (clk:=clk) (Q:=Q) hv hc hm
 rw[z0x] at h14
 refine x0g (hf _ _ _) (h14 _ _ _ _ _ fun x hx hx0=> ?_)
 have e0:=g0q (hx0 rfl)
 simp only[go_sem,hB]
 refine x0g (hf _ _ _) (h14 _ _ _ _ _ fun y hy _=> ?_)
 have p1:=g1f hv hc hx
 have p2:=g1e hv hc hx
 have p3:=g1f hv hc hy
 have p4:=g1e hv hc hy
 have p5:=u9s (x:=x) hv
 have p6:=u9s (x:=y) hv
 generalize u6f s x=r1 at *
 generalize u6f s y=r2 at *
 simp only[z0x,eTf] at p1 p2 p3 p4 p5 p6
 simp only[go_sem,hB,eTf]
 refine⟨by simp[z1f,apart,z0i,z1d,z1h,AOp.isCall,hB], ?_⟩
 rcases e0 with e0 | e0
 ·rw[e0] at p1 p2
  simp only[go_sem,hB,z0a p1,z0a p2,z0a p3,z0a p4,z0a p5,z0a p6,z0a u9r,decide_true,decide_false,e0,Int.reduceEq]
  rw[z0e]
  exact hR _ _ rfl
 ·rw[e0] at p1 p2
  cases hk:decide (x.kind=0) with
  | true=>
    simp only[go_sem,hB,z0a p1,z0a p2,z0a p3,z0a p4,z0a p5,z0a p6,z0a u9r,decide_true,decide_false,hk,Int.reduceEq]
    rw[z0e]
    exact hR _ _ rfl
  | false=>
    simp only[go_sem,hB,z0a p1,z0a p2,z0a p3,z0a p4,z0a p5,z0a p6,z0a u9r,decide_true,decide_false,hk,Int.reduceEq]
    rw[z0e]
    exact hR _ _ rfl
end Go.Proofs.YtahdahokpjigiaaGreatDoor.Am
