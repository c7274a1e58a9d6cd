/- Walking: a derivation is made out of others Walking: a derivation is made out of others Walking: derivations are q4f Walking: SliceDerived -/
import Derived.Test.YtkollgjffkdliaaGreatDoorK30
open Bool renaming false_eq_true → j9,not_true → z8
open Int renaming reduceEq → z7
open List renaming append_assoc → u4,append_nil → w9,getElem?_append_right → b0,getElem?_eq_some_iff → x9,getElem?_set_ne → y7,getElem?_set_self → n5,getElem_mem → x8,length_append → k7,length_cons → v5,length_eq_zero_iff → l6,length_map → z6,length_nil → u3,length_pos_iff → l0,length_set → y5,length_singleton → v6,length_take → u7,map_append → v8,mem_append → x4,mem_cons → j6,mem_cons_of_mem → v7,mem_cons_self → j7,mem_iff_getElem → d5,mem_map → w0,mem_of_mem_take → d6,mem_singleton → y3,nil_append → y8,take_length → b7,take_of_length_le → u0
open Nat renaming zero_add → k6
open Option renaming map_some → j5
set_option linter.all false
namespace Go.Proofs.YtkollgjffkdliaaGreatDoor.Am
open Go
set_option maxRecDepth 100000
section
theorem x9i {l:List Int} {f B s g i clk gg:Nat} {args:List AV} {R:AV→Prop} {D L:List AObj} {m:Md} {dst:Option Nat} {os:List AOper} {ts:Tmps} {ks:List Kf} {Q:Post} (hg:GenOk l f args R) (hB:D.length=B) (hs:s < B) (hD:D[s]? =some (chObj g l i)) (hi:i≤l.length)
  (hQ:∀ v i',R v→i'≤l.length→O Gam B (m.add ([s],[s])) (gg + 1) os ⟨z8g ts dst v,D.set s (chObj g l i')++L,clk⟩ ks Q):CK Gam B f (.ptr s g 0 0::args) (D++L) clk m dst gg os ts ks Q:=by
 unfold CK
 have hD':(D++L)[s]? =some (chObj g l i):=by rw[z0m hB hs];exact hD
 obtain⟨_,hf⟩:=hg (D++L) s g i clk (fun _ _ _=>True) hD' hi (fun _ _ _ _=>trivial)
 refine (hg (D++L) s g i clk _ hD' hi fun v i' hi' hv=> ?_).1
 refine j3k (f':=([s],[s])) ?_ ?_ ?_
 ·rw[hf];exact fun x hx=>hx
 ·rw[hf];exact fun x hx=>(List.mem_filter.1 hx).1
 ·rw[q1o hB hs]
  exact hQ v i' hv hi'
def bsS (h:List AObj) (s g:Nat) (z:AV) (n:Nat) (js:List Nat) (vs:List AV):Option (AV×List AObj):=
 if !z.def? then none else match z8f h vs with
  | some ws=>(z4f z.cells.length (List.replicate n z) js ws).map fun es=>(.ob s g 0 n,(freezeAll h (z4u vs)).set s (.blk g es true false 0))
  | none=>none
section
variable {h:List AObj} {base g clk k n:Nat} {ts:Tmps} {z:AV} {qs:List (Nat×AOpd)} {dst:Option Nat} {os:List AOper} {ks:List Kf} {Q:Post}
theorem u1d:prim h base g ts (.buildSlice k true z n qs)=bsS h (base + k) g z n (qs.map (·.1)) (qs.map fun p=>p.2.ev ts):=by
 simp only[prim,bsS,if_true]
 rfl
theorem u1e:O Gam base .plain g (⟨dst, .buildSlice k true z n qs,none⟩::os) ⟨ts,h,clk⟩ ks Q=PP Gam base (bsS h (base + k) g z n (qs.map (·.1)) (qs.map fun p=>p.2.ev ts)) dst g os ts clk ks Q:=by rw[q3u rfl,u1d]
end
theorem u6w {h:List AObj} {s g:Nat} {z v:AV} (hz:z.def? =true) (ho:v.obs=[]) (hd:v.cv.def? =true) (hl:v.cv.cells.length=z.cells.length):bsS h s g z 1 [0] [v]=some (.ob s g 0 1,h.set s (.blk g [v.cv] true false 0)):=by
 have hc:z8f h [v]=some [v.cv]:=by
  have:=q4w (h:=h) (vs:=[v]) (by simp[z4u,ho])
  simpa [cvL] using this
 simp only[bsS,hz,hc,z4f,hd,hl,z4u,ho,freezeAll,z8,j9,if_false,List.length_replicate,Nat.lt_one_iff,and_self,if_true,w9,j5]
 rfl
def v0q (B k:Nat) (cv:AV) (o:AObj) (vs:List Val):Prop:=(cv= .sl [] .nil∧vs=[])∨∃ g,cv= .ob (B + k) g 0 vs.length∧o= .blk g (vs.map eV) true true 0∧vs≠[]
theorem j2g {b:Nat} {D L:List AObj} {B k gen:Nat} {vs:List Val} {w:Val} {cv:AV} {o:AObj} {u:Tip} (hB:D.length=B) (hk:L[k]? =some o) (hc:v0q B k cv o vs) (hl:vs.length≤1000000) (hb:b≤1000):
  z1a (D++L) (B + k) gen 5 b true cv (.sl [eV w] u)=some (.ob (B + k) gen 0 (vs++[w]).length,D++L.set k (.blk gen ((vs++[w]).map eV) true true 0)):=by
 have h1:z0r 5 [eV w]=true:=z8e (l:=[w])
 have h2:z0r 5 (vs.map eV)=true:=z8e
 have ee:(vs++[w]).map eV=vs.map eV++[eV w]:=v8
 have hgt:¬ (vs.length + 1) * (b + 1) > z1e:=by
  have:(vs.length + 1) * (b + 1)≤1000001 * 1001:=Nat.mul_le_mul (by omega) (by omega)
  unfold z1e
  omega
 have h0:z0r 5 []=true:=rfl
 rw[ee]
 rcases hc with ⟨rfl,rfl⟩ | ⟨g',rfl,rfl,hne⟩
 ·simp only[u3,k6,Nat.one_mul] at hgt
  simp only[z1a,z6k,h1,h0,z8,j9,if_false,u3,v6,k6,Nat.one_mul,hgt,decide_false,Bool.or_false,y8,z2o hB,if_true]
  rfl
 ·have hb':z2f (D++L) (B + k) g'=some (vs.map eV,true,true,0):=by rw[z3n hB];exact z2m hk
  have h3:0 < vs.length:=l0.2 hne
  have ht:List.take vs.length (vs.map eV)=vs.map eV:=u0 (by simp)
  simp[z1a,z6k,h1,h2,hb',z2o hB,hgt,h3,ht,Nat.not_lt.1 hgt]
def RowT (B:Nat) (tv:AV) (o4 o7:AObj) (tl:List TN):Prop:=(∃ g,tv= .ob (B + 4) g 0 tl.length∧o4= .blk g (tl.map eTN) true false 0∧0 < tl.length)∨(∃ g,tv= .ob (B + 7) g 0 tl.length∧o7= .blk g (tl.map eTN) true true 0∧0 < tl.length)
theorem x1h {mu:Bool} {b:Nat} {D L:List AObj} {B gen:Nat} {tl ys:List TN} {tv:AV} {o4 o7:AObj} {u:Tip} (hB:D.length=B) (h4:L[4]? =some o4) (h7:L[7]? =some o7) (hc:RowT B tv o4 o7 tl) (hy:ys≠[]) (hl:tl.length≤1000000) (hl2:ys.length≤1000000) (hb:b≤1000):
  z1a (D++L) (B + 7) gen 3 b mu tv (.sl (ys.map eTN) u)=some (.ob (B + 7) gen 0 (tl++ys).length,D++L.set 7 (.blk gen ((tl++ys).map eTN) true true 0)):=by
 have h1:z0r 3 (ys.map eTN)=true:=x9e
 have h2:z0r 3 (tl.map eTN)=true:=x9e
 have hgt:¬ (tl.length + ys.length) * (b + 1) > z1e:=by
  have:(tl.length + ys.length) * (b + 1)≤2000001 * 1001:=Nat.mul_le_mul (by omega) (by omega)
  unfold z1e
  omega
 have hyl:0 < ys.length:=l0.2 hy
 have ht:List.take tl.length (tl.map eTN)=tl.map eTN:=u0 (by simp)
 have hemp:(ys.map eTN).isEmpty=false:=by cases ys with
  | nil=>exact absurd rfl hy
  | cons a l=>rfl
 rw[v8]
 rcases hc with ⟨g,rfl,rfl,h3⟩ | ⟨g,rfl,rfl,h3⟩
 ·have hb':z2f (D++L) (B + 4) g=some (tl.map eTN,true,false,0):=by rw[z3n hB];exact z2m h4
  have hn:¬ tl.length + ys.length≤tl.length:=by omega
  simp[z1a,z6k,h1,h2,hb',z2o hB,hgt,ht,hy,hyl,Nat.not_lt.1 hgt]
 ·have hb':z2f (D++L) (B + 7) g=some (tl.map eTN,true,true,0):=by rw[z3n hB];exact z2m h7
  simp[z1a,z6k,h1,h2,hb',z2o hB,hgt,h3,ht,hy,Nat.not_lt.1 hgt]
def FactM (s:Sys) (K:Nat) (f:Fct):Prop:=f.1=[]∨∃ p∈s.preds,p.name=f.1∧f.2.length=p.args.length∧∀ i (h1:i < p.args.length) (h2:i < f.2.length),VM K p.args[i] f.2[i]
theorem FactM.up {s:Sys} {K K':Nat} {f:Fct} (h:FactM s K f) (hK:K≤K'):FactM s K' f:=by
 rcases h with h | ⟨p,h1,h2,h3,h4⟩
 ·exact .inl h
 ·exact .inr ⟨p,h1,h2,h3,fun i a b=>(h4 i a b).up hK⟩
structure Acc (s:Sys) (K:Nat) (t:List TN) (f:Fct):Prop where
 dt:DT s [f.1] t
 len:t.length≤40
 nodes:∀ x∈t,NodeT s K x
 chk:treeB s t=true
 root:f=headF s (tnAt t 0)
 fact:FactM s K f
theorem NodeT.up {s:Sys} {K K':Nat} {x:TN} (h:NodeT s K x) (hK:K≤K'):NodeT s K' x:=⟨h.cl,h.kids,h.fit.up hK⟩
theorem Acc.up {s:Sys} {K K':Nat} {t:List TN} {f:Fct} (h:Acc s K t f) (hK:K≤K'):Acc s K' t f:=⟨h.dt,h.len,fun x hx=>(h.nodes x hx).up hK,h.chk,h.root,h.fact.up hK⟩
structure DerOk (s:Sys) (K:Nat) (T:List (List TN)) (F:List Fct):Prop where
 len:T.length=F.length
 ok:∀ i (h1:i < T.length) (h2:i < F.length),Acc s K T[i] F[i]
theorem DerOk.snoc {s:Sys} {K K':Nat} {T:List (List TN)} {F:List Fct} {t:List TN} {f:Fct} (h:DerOk s K T F) (hK:K≤K') (ha:Acc s K' t f):DerOk s K' (T++[t]) (F++[f]):=by
 have hl:=h.len
 refine⟨by simp[hl],fun i h1 h2=> ?_⟩
 by_cases hi:i < T.length
 ·rw[List.getElem_append_left hi,List.getElem_append_left (by omega)]
  exact (h.ok i hi (by omega)).up hK
 ·have h3:i=T.length:=by simp at h1;omega
  subst h3
  rw[List.getElem_append_right (by omega),List.getElem_append_right (by omega)]
  simpa [hl] using ha
theorem k4f {ps:List Func} (hp:PrOk ps) {f g:Func} (hf:f∈ps) (hg:g∈ps) (h:f.name=g.name):f=g:=by
 obtain⟨i,hi,rfl⟩:=d5.1 hf
 obtain⟨j,hj,rfl⟩:=d5.1 hg
 have:i=j:=(List.getElem_inj (xs:=ps.map (·.name)) (i:=i) (j:=j) (h₀:=by simpa using hi) (h₁:=by simpa using hj) hp.nodup).1 (by simpa using h)
 subst this
 rfl
theorem v0r {s:Sys} {K:Nat} {V:List Var} {a:App} {f:Fct} (hs:SysV s) (hn:(V.map (·.name)).Nodup) (ha:AppOk s.preds V a) (hf:FactM s K f) (he:f.1=a.pred):Match K V a f:=by
 obtain⟨p,hp,e1,e2,hz⟩:=ha
 rcases hf with hf | ⟨q,hq,f1,f2,f3⟩
 ·exact absurd (by rw[←e1,←he];exact hf) (hs.pr.name p hp)
 obtain rfl:q=p:=k4f hs.pr hq hp (by rw[f1,he,e1])
 have h40:=(hs.pr.args q hq).1
 have key:∀ i (h1:i < q.args.length) (h2:i < a.args.length),GT V q.args[i] 5 66 a.args[i]:=fun i h1 h2=>by
  have hm:(q.args[i],a.args[i])∈q.args.zip a.args:=by
   have:(q.args.zip a.args)[i]? =some (q.args[i],a.args[i]):=by simp[List.getElem?_zip_eq_some,h1,h2]
   exact List.mem_of_getElem? this
  exact hz _ hm
 refine⟨by omega,by omega,fun t ht=> ?_,fun k h1 h2 v hv hi=> ?_⟩
 ·obtain⟨i,hi,rfl⟩:=d5.1 ht
  have:=(key i (by omega) hi).1.pos
  intro h
  rw[h] at this
  simp at this
 ·rw[j8d hn hv (key k (by omega) h1) hi]
  exact f3 k (by omega) h2
end
section
def dO (gd:Nat) (T:List (List TN)) (F:List Fct) (t1 t2:Tip):AObj:= .blk gd [.agg [.sl (T.map z9n) t1, .sl (F.map eF) t2]] false false 0
def TipS (sd sc:Nat) (t1 t2:Tip) (tp:List (Nat×AObj)):Prop:=(t1= .nil∧t2= .nil∧tp=[])∨∃ s1 g1 s2 g2,t1= .at s1 g1∧t2= .at s2 g2∧tp=[(s1, .tip g1 1),(s2, .tip g2 2)]∧s1≠s2∧s1≠sd∧s1≠sc∧s2≠sd∧s2≠sc
structure ExD (B sd sc gd gc:Nat) (l:List Int) (T:List (List TN)) (F:List Fct) (t1 t2:Tip) (tp:List (Nat×AObj)) (i:Nat) (D:List AObj):Prop where
 len:D.length=B
 d:D[sd]? =some (dO gd T F t1 t2)
 c:D[sc]? =some (chObj gc l i)
 tp:Has tp D
 lt:sd < B∧sc < B
theorem TipS.ne {sd sc:Nat} {t1 t2:Tip} {tp:List (Nat×AObj)} (h:TipS sd sc t1 t2 tp):∀ p∈tp,p.1≠sd∧p.1≠sc:=by
 rcases h with ⟨_,_,rfl⟩ | ⟨s1,g1,s2,g2,_,_,rfl,h1,h2,h3,h4,h5⟩
 ·simp
 ·intro p hp
  simp at hp
  rcases hp with rfl | rfl
  ·exact⟨h2,h3⟩
  ·exact⟨h4,h5⟩
section
variable {B sd sc gd gc:Nat} {l:List Int} {T:List (List TN)} {F:List Fct} {t1 t2:Tip} {tp:List (Nat×AObj)} {i:Nat} {D:List AObj}
theorem ExD.set {i':Nat} (h:ExD B sd sc gd gc l T F t1 t2 tp i D) (hne:sd≠sc) (ht:TipS sd sc t1 t2 tp):ExD B sd sc gd gc l T F t1 t2 tp i' (D.set sc (chObj gc l i')):=by
 refine⟨by rw[y5];exact h.len,by rw[y7 (Ne.symm hne)];exact h.d,by rw[n5 (by have:=h.lt.2;have:=h.len;omega)],fun p hp=> ?_,h.lt⟩
 rw[y7 (Ne.symm (ht.ne p hp).2)]
 exact h.tp p hp
theorem ExD.blk (h:ExD B sd sc gd gc l T F t1 t2 tp i D):z2f D sd gd=some ([.agg [.sl (T.map z9n) t1, .sl (F.map eF) t2]],false,false,0):=z2m h.d
end
theorem j5q {l:List (List TN)} {i:Nat} {h:List AObj} {t:Tip} {k:IntKind} (hi:i < l.length):z1v h 1 (.sl (l.map z9n) t) (.int k (i:Int))=some (.iptr [.sl (l[i].map eTN) .no] 0,h):=z3v hi rfl rfl
theorem q8a {l:List Fct} {i:Nat} {h:List AObj} {t:Tip} {k:IntKind} (hi:i < l.length):z1v h 2 (.sl (l.map eF) t) (.int k (i:Int))=some (.iptr [.str l[i].1, .sl (l[i].2.map eV) .no] 0,h):=z3v hi rfl rfl
theorem FitM.snoc {K:Nat} {V:List Var} {vs:List Val} {w:Val} {i:Nat} (hi:i < V.length) (h:FitM K (V.take i) vs) (hw:VM K V[i].sort w):FitM K (V.take (i + 1)) (vs++[w]):=by
 have hl:vs.length=i:=by rw[h.len,u7];omega
 refine⟨by rw[k7,hl,u7];simp;omega,fun j h1 h2=> ?_⟩
 rw[u7] at h1
 by_cases hj:j < i
 ·rw[List.getElem_append_left (by omega)]
  have:=h.ok j (by rw[u7];omega) (by omega)
  simpa [List.getElem_take] using this
 ·obtain rfl:j=i:=by omega
  rw[List.getElem_append_right (by omega)]
  simpa [List.getElem_take,hl] using hw
def w1x (B:Nat) (tv:AV) (o4 o7:AObj) (tl:List TN):Prop:=(∃ g w z,tv= .ob (B + 4) g 0 tl.length∧o4= .blk g (tl.map eTN) true w z)∨(∃ g w z,tv= .ob (B + 7) g 0 tl.length∧o7= .blk g (tl.map eTN) true w z)
theorem RowT.f {B:Nat} {tv:AV} {o4 o7:AObj} {tl:List TN} (h:RowT B tv o4 o7 tl):w1x B tv o4 o7 tl:=by
 rcases h with ⟨g,h1,h2,_⟩ | ⟨g,h1,h2,_⟩
 ·exact .inl ⟨g,_,_,h1,h2⟩
 ·exact .inr ⟨g,_,_,h1,h2⟩
theorem q8b {α β:Type} {f:α→β} {l:List α}:List.take l.length (l.map f)=l.map f:=u0 (by simp)
theorem z7x {L:List AObj} {k:Nat} {o:AObj} (h:L[k]? =some o):L.set k o=L:=by
 refine List.ext_getElem? fun i=> ?_
 rw[List.getElem?_set]
 split
 ·rename_i e
  subst e
  rw[h]
  simp[(x9.1 h).1]
 ·rfl
section
variable {D L:List AObj} {B:Nat} {tv:AV} {o4 o7:AObj} {tl:List TN}
theorem j5r (hB:D.length=B) (h4:L[4]? =some o4) (h7:L[7]? =some o7) (hc:w1x B tv o4 o7 tl):conv (D++L) tv=some (.sl (tl.map eTN) .no):=by
 rcases hc with ⟨g,w,z,rfl,rfl⟩ | ⟨g,w,z,rfl,rfl⟩
 ·simp[conv,q3h,z3n hB,z2m h4,q8b]
 ·simp[conv,q3h,z3n hB,z2m h7,q8b]
theorem x9j (hc:w1x B tv o4 o7 tl) {h:List AObj}:v1e h .sl tv=some (.int .i64 (tl.length:Int),h):=by
 rcases hc with ⟨g,w,z,rfl,rfl⟩ | ⟨g,w,z,rfl,rfl⟩ <;> rfl
theorem x1i (hc:w1x B tv o4 o7 tl):∃ o4' o7',w1x B tv o4' o7' tl∧∀ D L:List AObj,D.length=B→L[4]? =some o4→L[7]? =some o7→freezeAll (D++L) tv.obs=D++(L.set 4 o4').set 7 o7':=by
 rcases hc with ⟨g,w,z,rfl,rfl⟩ | ⟨g,w,z,rfl,rfl⟩
 ·refine⟨.blk g (tl.map eTN) true w (max z (0 + tl.length)),o7, .inl ⟨g,w,_,rfl,rfl⟩,fun D L hB h4 h7=> ?_⟩
  have:(L.set 4 (.blk g (tl.map eTN) true w (max z (0 + tl.length)))).set 7 o7=L.set 4 (.blk g (tl.map eTN) true w (max z (0 + tl.length))):=z7x (by rw[y7 (by omega)];exact h7)
  rw[this]
  simp only[AV.obs,freezeAll,z2u hB,h4,z2o hB]
 ·refine⟨o4, .blk g (tl.map eTN) true w (max z (0 + tl.length)), .inr ⟨g,w,_,rfl,rfl⟩,fun D L hB h4 h7=> ?_⟩
  rw[z7x h4]
  simp only[AV.obs,freezeAll,z2u hB,h7,z2o hB]
theorem w1y (hc:w1x B tv o4 o7 tl):∃ o4' o7',∀ D L:List AObj,D.length=B→L[4]? =some o4→L[7]? =some o7→bsV (D++L) (.sl [] .nil) 1 [0] [tv]=some (.sl [z9n tl] .full,D++(L.set 4 o4').set 7 o7'):=by
 obtain⟨o4',o7',h2,h1⟩:=x1i hc
 refine⟨o4',o7',fun D L hB h4 h7=> ?_⟩
 have hcv:z8f (D++L) [tv]=some [.sl (tl.map eTN) .no]:=by simp only[z8f,j5r hB h4 h7 hc]
 have hob:z4u [tv]=tv.obs:=by simp[z4u]
 unfold bsV
 rw[hcv,hob,h1 D L hB h4 h7]
 rfl
theorem v0s (hc:w1x B tv o4 o7 tl):∀ x∈tv.obs.map (·.1),x=B + 4∨x=B + 7:=by
 rcases hc with ⟨g,w,z,rfl,rfl⟩ | ⟨g,w,z,rfl,rfl⟩ <;> simp[AV.obs]
theorem x3t {esz b gen s g k:Nat} {xs ys:List AV} {u:Tip} (hB:D.length=B) (hs:s < B) (hD:D[s]? =some (.tip g esz)) (hx:z0r esz xs=true) (hy:z0r esz ys=true) (hl:(xs.length + ys.length) * (b + 1)≤2 ^ 46):
  z1a (D++L) (B + k) gen esz b false (.sl xs (.at s g)) (.sl ys u)=some (.sl (xs++ys) (.at (B + k) gen),D.set s .dead++L.set k (.tip gen esz)):=by
 have hgt:¬ (xs.length + ys.length) * (b + 1) > z1e:=by unfold z1e;omega
 have hg:(D++L)[s]? =some (.tip g esz):=by rw[z0m hB hs];exact hD
 have h2:(D.set s .dead).length=B:=by rw[y5];exact hB
 unfold z1a
 simp only[z6k,hy,z8,j9,if_false,hx,Bool.or_false,decide_eq_true_eq,hgt,hg,and_self,if_true,q1o hB hs,z2o h2]
theorem k4g {x:TN} {cv:AV} {o3:AObj} {vals:List Val} (hB:D.length=B) (h3:L[3]? =some o3) (h4:L[4]? =some o4) (h7:L[7]? =some o7) (hc:RowT B tv o4 o7 (x::tl)) (hv:v0q B 3 cv o3 vals):
  ∃ s g o3' o4' o7',z1v (D++L) 3 tv (.int .i64 0)=some (.ptr s g 0 0,D++L)∧z8n (D++L) 1 cv (.ptr s g 0 1)=some (.undef,D++((L.set 3 o3').set 4 o4').set 7 o7')∧RowT B tv o4' o7' (⟨x.cl,vals,x.kids⟩::tl):=by
 have l3:3 < L.length:=(x9.1 h3).1
 have l4:4 < L.length:=(x9.1 h4).1
 have l7:7 < L.length:=(x9.1 h7).1
 rcases hc with ⟨g,rfl,rfl,_⟩ | ⟨g,rfl,rfl,_⟩
 ·rcases hv with ⟨rfl,rfl⟩ | ⟨g3,rfl,rfl,hne⟩
  ·refine⟨B + 4,g,o3, .blk g ((⟨x.cl,[],x.kids⟩::tl:List TN).map eTN) true false 0,o7, ?_, ?_, .inl ⟨g,rfl,rfl,by simp⟩⟩
   ·simp[z1v,z3n hB,z2m h4,eTN,AV.cells]
   ·rw[z7x h3,z7x (L:=L.set 4 _) (by rw[y7 (by omega)];exact h7)]
    rw[z6f,z3n hB,z2m h4]
    simp[pub,conv,AV.obs,freezeAll,AV.def?,AV.cells,AV.one,eTN,z7m,z7l,z2o hB]
  ·refine⟨B + 4,g, .blk g3 (vals.map eV) true true (max 0 (0 + vals.length)), .blk g ((⟨x.cl,vals,x.kids⟩::tl:List TN).map eTN) true false 0,o7, ?_, ?_, .inl ⟨g,rfl,rfl,by simp⟩⟩
   ·simp[z1v,z3n hB,z2m h4,eTN,AV.cells]
   ·rw[z7x (L:=(L.set 3 _).set 4 _) (by rw[y7 (by omega),y7 (by omega)];exact h7)]
    rw[z6f,z3n hB,z2m h4]
    simp[pub,conv,q3h,z3n hB,z2m h3,AV.obs,freezeAll,AV.def?,AV.cells,AV.one,eTN,z7m,z7l,z2o hB,z2u hB,h3,q8b]
 ·rcases hv with ⟨rfl,rfl⟩ | ⟨g3,rfl,rfl,hne⟩
  ·refine⟨B + 7,g,o3,o4, .blk g ((⟨x.cl,[],x.kids⟩::tl:List TN).map eTN) true true 0, ?_, ?_, .inr ⟨g,rfl,rfl,by simp⟩⟩
   ·simp[z1v,z3n hB,z2m h7,eTN,AV.cells]
   ·rw[z7x h3,z7x h4]
    rw[z6f,z3n hB,z2m h7]
    simp[pub,conv,AV.obs,freezeAll,AV.def?,AV.cells,AV.one,eTN,z7m,z7l,z2o hB]
  ·refine⟨B + 7,g, .blk g3 (vals.map eV) true true (max 0 (0 + vals.length)),o4, .blk g ((⟨x.cl,vals,x.kids⟩::tl:List TN).map eTN) true true 0, ?_, ?_, .inr ⟨g,rfl,rfl,by simp⟩⟩
   ·simp[z1v,z3n hB,z2m h7,eTN,AV.cells]
   ·rw[z7x (L:=L.set 3 _) (k:=4) (by rw[y7 (by omega)];exact h4)]
    rw[z6f,z3n hB,z2m h7]
    simp[pub,conv,q3h,z3n hB,z2m h3,AV.obs,freezeAll,AV.def?,AV.cells,AV.one,eTN,z7m,z7l,z2o hB,z2u hB,h3,q8b]
end
theorem y3z {s:Sys} {K:Nat} {l:List Int} {T:List (List TN)} {F:List Fct} {t1 t2:Tip} {tp:List (Nat×AObj)} {sd sc gd gc i ci:Nat} {h:List AObj} {clk:Nat} {Q:AV→List AObj→Nat→Prop} (hs:SysV s) (hl:q7t l) (hK:KOk K) (hci:ci < s.clauses.length) (hTF:DerOk s K T F) (hTn:T.length≤1000) (htp:TipS sd sc t1 t2 tp) (hd:h[sd]? =some (dO gd T F t1 t2)) (hc:h[sc]? =some (chObj gc l i)) (ht:Has tp h) (hi:i≤l.length) (hne:sd≠sc)
  (hQ1:∀ i',i'≤l.length→Q (.tup []) (z4n h ((sd,dO gd T F t1 t2)::(sc,chObj gc l i')::tp)) clk)
  (hQ2:∀ i' tl f,i'≤l.length→DerOk s (K + 5) (T++[tl]) (F++[f])→∀ (J:List AObj) g1 g2 clk',J.length=13→J[10]? =some (.tip g1 1)→J[12]? =some (.tip g2 2)→Q (.tup []) (z4n h ((sd,dO gd (T++[tl]) (F++[f]) (.at (h.length + 10) g1) (.at (h.length + 12) g2))::(sc,chObj gc l i')::tp.map fun p=>(p.1, .dead))++J) clk'):
  WC Gam 31 [.ptr sd gd 0 0,z4e s, .ptr sc gc 0 0, .int .i64 (ci:Int)] h clk Q:=by
 have hsd:sd < h.length:=(x9.1 hd).1
 have hsc:sc < h.length:=(x9.1 hc).1
 have hidd:(dO gd T F t1 t2).ids=tp.map (·.1):=by
  rcases htp with ⟨rfl,rfl,rfl⟩ | ⟨s1,g1,s2,g2,rfl,rfl,rfl,_⟩ <;> simp[-List.map_map,dO,AObj.ids,z0i,AV.ids,z0d fun _=>q7z,q2i]
 have htid:∀ p∈tp,p.2.ids=[]:=by
  rcases htp with ⟨rfl,rfl,rfl⟩ | ⟨s1,g1,s2,g2,rfl,rfl,rfl,_⟩
  ·simp
  ·intro p hp
   simp at hp
   rcases hp with rfl | rfl <;> rfl
 refine j2f (S:=(sd,dO gd T F t1 t2)::(sc,chObj gc l i)::tp) (az:=[.ptr sd gd 0 0,z4e s, .ptr sc gc 0 0, .int .i64 (ci:Int)]) rfl y3t rfl rfl rfl ?_ (Has.cons hd (Has.cons hc ht)) fun D B R hB hBh hD hR=> ?_
 ·have hids:z0i [.ptr sd gd 0 0,z4e s, .ptr sc gc 0 0, .int .i64 (ci:Int)]=[sd,sc]:=by simp[z0i,AV.ids,z4j]
  rw[hids]
  refine⟨by simp, ?_,fun h' hS p hp=> ?_⟩
  ·intro p hp i hi
   rcases j6.1 hp with rfl | hp
   ·rw[hidd] at hi
    simp only[List.map_cons,j6]
    exact .inr (.inr hi)
   ·rcases j6.1 hp with rfl | hp
    ·rw[q1p] at hi;simp at hi
    ·rw[htid p hp] at hi;simp at hi
  ·rw[z8r (by simp) (hS _ j7),hidd]
   refine z5t ?_
   rcases j6.1 hp with rfl | hp
   ·exact .inl (by simp)
   ·rcases j6.1 hp with rfl | hp
    ·exact .inr (by simp)
    ·exact .inr (List.mem_append_left _ (List.mem_map_of_mem hp))
 have hE:ExD B sd sc gd gc l T F t1 t2 tp i D:=⟨hB,hD _ j7,hD _ (v7 _ j7),fun p hp=>hD p (v7 _ (v7 _ hp)),by omega⟩
 clear hD hB hd hc ht
 have hTF1:=hTF.len
 have hcl:=fun h=>z8v (l:=s.clauses) (i:=ci) (h:=h) (t:= .no) (k:= .i64) hci
 obtain⟨c1,c2,c3,c4,c5⟩:=hs.clauses _ (x8 hci)
 have hnd:(s.clauses[ci].vars.map (·.name)).Nodup:=q5q.sublist (c1.map _)
 have hvl:s.clauses[ci].vars.length≤8:=c1.length_le
 generalize hcc:s.clauses[ci]=c at *
 have cut:∀ (D':List AObj) (i':Nat) (L:List AObj) (c:Nat),ExD B sd sc gd gc l T F t1 t2 tp i' D'→i'≤l.length→R (.tup []) (D'++L) c:=by
  intro D' i' L c hE' hi'
  refine hR _ _ _ ((sd,dO gd T F t1 t2)::(sc,chObj gc l i')::tp) rfl ?_ (.inl ⟨?_,hQ1 i' hi'⟩)
  ·exact Has.app (Has.cons hE'.d (Has.cons hE'.c hE'.tp))
  ·intro p hp j hj
   rcases j6.1 hp with rfl | hp
   ·rw[hidd] at hj
    obtain⟨q,hq,rfl⟩:=w0.1 hj
    have:=hE'.tp.lt q hq
    have:=hE'.len
    omega
   ·rcases j6.1 hp with rfl | hp
    ·rw[q1p] at hj;simp at hj
    ·rw[htid p hp] at hj;simp at hj
 have hB:=hE.len
 simp only[go_sem,v4g,hB,z4e,hcl]
 refine z6h c.vars.length (by omega) (fun k q=>∃ (D:List AObj) (g0 g1 i:Nat) (acc:List Val) (cv:AV) (o3:AObj),ExD B sd sc gd gc l T F t1 t2 tp i D∧i≤l.length∧FitM K (c.vars.take k) acc∧v0q B 3 cv o3 acc∧q.ts 0= .ptr sd gd 0 0∧q.ts 2= .ptr sc gc 0 0∧q.ts 3= .int .i64 (ci:Int)∧q.ts 5= .ptr (B + 0) g0 0 0∧q.ts 8= .ptr (B + 1) g1 0 0∧q.ts 9=cv∧q.ts 10= .int .i64 (k:Int)∧q.h=D++[.blk g0 [.agg [.sl (s.preds.map z1m) .no, .sl (s.clauses.map z0j) .no]] false false 0, .blk g1 [.agg [.sl (c.vars.map z2b) .no, .sl (c.body.map z4q) .no, .sl (c.guard.map eNode) .no, .str c.head.pred, .sl (c.head.args.map z0w) .no]] false false 0, .dead,o3, .dead, .dead, .dead, .dead, .dead, .dead, .dead, .dead, .dead]) ⟨D,_,_,i,[],_, .dead,hE,hi,⟨rfl,fun k h1=>by simp at h1⟩, .inl ⟨rfl,rfl⟩,rfl,rfl,rfl,rfl,rfl,rfl,rfl,rfl⟩ ?_ ?_
 ·clear hE hi hB
  rintro k hlt f1 f2 ts h' clk' P ⟨D,g0,g1,i,acc,cv,o3,hE,hi,hf,hrow,q0,q2,q3,q5,q8,q9,q10,rfl⟩ hnx hex hret
  dsimp only at q0 q2 q3 q5 q8 q9 q10
  have hB:=hE.len
  have hy:=fun h=>z6r (l:=c.vars) (i:=k) (h:=h) (t:= .no) (k:= .i64) hlt
  have hvm:c.vars[k]∈z1z:=c1.mem (x8 hlt)
  have hso:=UOk.sort _ hvm
  have hal:acc.length≤8:=by rw[hf.len,u7];omega
  have hsn:=fun w hw=>hf.snoc (w:=w) hlt hw
  simp only[nat] at hy
  generalize c.vars[k]=v at *
  simp only[go_sem,j2a,q0,q2,q3,q5,q8,q9,q10,hB,f1,z6,hy]
  refine x9i (y3c hl hso.1 hso.2) hB hE.lt.2 hE.c hi ?_
  rintro r j2 ⟨w,rfl,hw⟩ hj2
  have hE2:=hE.set (i':=j2) hne htp
  generalize D.set sc (chObj gc l j2)=D2 at *
  have hB2:=hE2.len
  have hwV:=(VM.tiny hw.1 hw.2).up hK.1
  simp only[go_sem,hB2,eV,value,nat,q0,q2,q3,q5,q8,q9,q10]
  rw[show [AV.agg [.int .i64 (w.s:Int), .bool w.b, .str w.t, .sl (z3b (w.l.map fun p=>z0f p.1)) .no, .sl (z3b (w.l.map fun p=>z0f p.2)) .no]]=[eV w] from rfl,j2g hB2 rfl hrow (by omega) (by omega)]
  simp only[go_sem,hB2,q0,q2,q3,q5,q8,q9,q10,f2]
  exact hnx _ ⟨D2,g0,g1,j2,acc++[w],_,_,hE2,hj2,hsn w hwV, .inr ⟨_,rfl,rfl,by simp⟩,q0,q2,q3,q5,q8,rfl,rfl,rfl⟩
 ·clear hE hi hB
  rintro f1 ts h' clk' P ⟨D,g0,g1,i,acc,cv,o3,hE,hi,hf,hrow,q0,q2,q3,q5,q8,q9,q10,rfl⟩ hex hret
  dsimp only at q0 q2 q3 q5 q8 q9 q10
  have hB:=hE.len
  rw[b7] at hf
  simp only[go_sem,j2a,q0,q2,q3,q5,q8,q9,q10,hB,f1,z6]
  refine hex _ _ ?_
  have hbs:∀ (h:List AObj) (s g:Nat),bsS h s g (.agg [.int .i64 0, .sl [] .nil, .int .i64 0]) 1 [0] [.agg [.int .i64 (ci:Int), .sl [] .nil, .int .i64 (c.body.length:Int)]]=some (.ob s g 0 1,h.set s (.blk g ([(⟨ci,[],c.body.length⟩:TN)].map eTN) true false 0)):=fun h s g=>u6w rfl rfl rfl rfl
  simp only[go_sem,q0,q2,q3,q5,q8,q9,hB,z6,u1e,hbs]
  refine z6h c.body.length (by omega) (fun k q=>∃ (D:List AObj) (g0 g1 i:Nat) (vals:List Val) (cv tv:AV) (o3 o4 o6 o7:AObj) (ts:List TN),ExD B sd sc gd gc l T F t1 t2 tp i D∧i≤l.length∧FitM K c.vars vals∧v0q B 3 cv o3 vals∧RowT B tv o4 o7 (⟨ci,[],c.body.length⟩::ts)∧DT s ((c.body.take k).map (·.pred)) ts∧(∀ x∈ts,NodeT s K x)∧ts.length≤40 * k∧q.ts 0= .ptr sd gd 0 0∧q.ts 2= .ptr sc gc 0 0∧q.ts 3= .int .i64 (ci:Int)∧q.ts 5= .ptr (B + 0) g0 0 0∧q.ts 8= .ptr (B + 1) g1 0 0∧q.ts 9=cv∧q.ts 11=tv∧q.ts 12= .int .i64 (k:Int)∧q.h=D++[.blk g0 [.agg [.sl (s.preds.map z1m) .no, .sl (s.clauses.map z0j) .no]] false false 0, .blk g1 [.agg [.sl (c.vars.map z2b) .no, .sl (c.body.map z4q) .no, .sl (c.guard.map eNode) .no, .str c.head.pred, .sl (c.head.args.map z0w) .no]] false false 0, .dead,o3,o4, .dead,o6,o7, .dead, .dead, .dead, .dead, .dead]) ⟨D,g0,g1,i,acc,cv,_,o3,_, .dead, .dead,[],hE,hi,hf,hrow, .inl ⟨_,rfl,rfl,by simp⟩, .nil,by simp,by simp,by simp[z0b,q0],by simp[z0b,q2],by simp[z0b,q3],by simp[z0b,q5],by simp[z0b,q8],by simp[z0b,q9],by simp[z0b],by simp[z0b],rfl⟩ ?_ ?_
  ·clear hE hi hf hrow q0 q2 q3 q5 q8 q9 q10 f1 hbs hB
   rintro k hlt f1 f2 ts h' clk' P ⟨D,g0,g1,i,vals,cv,tv,o3,o4,o6,o7,tl,hE,hi,hf,hrow,hrt,hdt,hno,hlen,q0,q2,q3,q5,q8,q9,q11,q12,rfl⟩ hnx2 hex2 hret2
   dsimp only at q0 q2 q3 q5 q8 q9 q11 q12
   have hB:=hE.len
   have hbd:=hE.blk
   have hab:=c3 _ (x8 hlt)
   have hax:∀ h,z1v h 2 (.sl (c.body.map z4q) .no) (.int .i64 (k:Int))=some (.iptr [.str c.body[k].pred, .sl (c.body[k].args.map z0w) .no] 0,h):=fun h=>z3v hlt rfl rfl
   have htk:(c.body.take (k + 1)).map (·.pred)=(c.body.take k).map (·.pred)++[c.body[k].pred]:=by rw[List.take_succ_eq_append_getElem hlt,v8];rfl
   generalize c.body[k]=a at *
   simp only[go_sem,j1z,q0,q2,q3,q5,q8,q9,q11,q12,hB,f1,z6]
   refine z6h F.length (by omega) (fun m q=>∃ (idx:List Nat) (t':Tip) (o6:AObj),(∀ j∈idx,∃ h:j < F.length,F[j].1=a.pred)∧idx.length≤m∧q.ts 0= .ptr sd gd 0 0∧q.ts 2= .ptr sc gc 0 0∧q.ts 3= .int .i64 (ci:Int)∧q.ts 5= .ptr (B + 0) g0 0 0∧q.ts 8= .ptr (B + 1) g1 0 0∧q.ts 9=cv∧q.ts 11=tv∧q.ts 12= .int .i64 (k:Int)∧q.ts 13= .sl (idx.map nat) t'∧q.ts 14= .int .i64 (m:Int)∧q.h=D++[.blk g0 [.agg [.sl (s.preds.map z1m) .no, .sl (s.clauses.map z0j) .no]] false false 0, .blk g1 [.agg [.sl (c.vars.map z2b) .no, .sl (c.body.map z4q) .no, .sl (c.guard.map eNode) .no, .str c.head.pred, .sl (c.head.args.map z0w) .no]] false false 0, .dead,o3,o4, .dead,o6,o7, .dead, .dead, .dead, .dead, .dead]∧q3e B 6 o6 t' 1) ⟨[], .nil,o6,by simp,by simp,by simp[z0b,q0],by simp[z0b,q2],by simp[z0b,q3],by simp[z0b,q5],by simp[z0b,q8],by simp[z0b,q9],by simp[z0b,q11],by simp[z0b,q12],by simp[z0b],by simp[z0b],rfl, .inl rfl⟩ ?_ ?_
   ·clear q0 q2 q3 q5 q8 q9 q11 q12 f1 f2
    rintro m hml f1 f2 ts h' clk' P ⟨idx,t',o6,hidx,hil,q0,q2,q3,q5,q8,q9,q11,q12,q13,q14,rfl,htip⟩ hnx3 hex3 hret3
    dsimp only at q0 q2 q3 q5 q8 q9 q11 q12 q13 q14
    have hfx:=fun h=>q8a (l:=F) (i:=m) (h:=h) (t:=t2) (k:= .i64) hml
    cases hb:decide (F[m].1=a.pred) with
    | false=>
      simp only[go_sem,x6i,q0,q2,q3,q5,q8,q9,q11,q12,q13,q14,hB,z1y hB hE.lt.1,hbd,f1,f2,z6,hfx,hax,hb]
      exact hnx3 _ ⟨idx,t',o6,hidx,by omega,q0,q2,q3,q5,q8,q9,q11,q12,q13,rfl,rfl,htip⟩
    | true=>
      have e8:idx.map nat++[m].map nat=(idx++[m]).map nat:=by rw[v8]
      simp only[go_sem,x6i,q0,q2,q3,q5,q8,q9,q11,q12,q13,q14,hB,z1y hB hE.lt.1,hbd,f1,z6,hfx,hax,hb]
      rw[show [AV.int .i64 (m:Int)]=[m].map nat from rfl,z1c hB rfl htip (z1u fun _=>⟨rfl,rfl,rfl⟩) (z1u fun _=>⟨rfl,rfl,rfl⟩) (by simp only[z6,v6];omega),e8]
      simp only[go_sem,q0,q2,q3,q5,q8,q9,q11,q12,q13,q14,hB,f2]
      refine hnx3 _ ⟨idx++[m],_,_,fun j hj=> ?_,by simp;omega,q0,q2,q3,q5,q8,q9,q11,q12,rfl,rfl,rfl, .inr (.inr ⟨_,rfl,rfl⟩)⟩
      rcases x4.1 hj with hj | hj
      ·exact hidx j hj
      ·rw[y3.1 hj]
       exact⟨hml,of_decide_eq_true hb⟩
   ·clear q0 q2 q3 q5 q8 q9 q11 q12 f1
    rintro f1 ts h' clk' P ⟨idx,t',o6,hidx,hil,q0,q2,q3,q5,q8,q9,q11,q12,q13,q14,rfl,htip⟩ hex3 hret3
    dsimp only at q0 q2 q3 q5 q8 q9 q11 q12 q13 q14
    have hfl:(F.map eF).length=F.length:=z6 _
    simp only[go_sem,x6i,q0,q2,q3,q5,q8,q9,q11,q12,q13,q14,hB,z1y hB hE.lt.1,hbd,f1,hfl]
    refine hex3 _ _ ?_
    by_cases h0:idx.length=0
    ·have e0:decide ((idx.length:Int)=0)=true:=by rw[r8];omega
     simp only[go_sem,q0,q2,q3,q5,q8,q9,q11,q12,q13,hB,z6,e0]
     refine hret2 _ ?_
     simp only[go_sem,]
     rw[q4e]
     exact cut D i _ _ hE hi
    ·have e0:decide ((idx.length:Int)=0)=false:=by rw[n9];omega
     simp only[go_sem,q0,q2,q3,q5,q8,q9,q11,q12,q13,hB,z6,e0]
     refine x9i (z3u hl (by omega) (by omega)) hB hE.lt.2 hE.c hi ?_
     rintro v j2 ⟨r,rfl,hr1,hr2⟩ hj2
     obtain⟨r,rfl⟩:∃ n:Nat,r=n:=⟨r.toNat,by omega⟩
     have hE2:=hE.set (i':=j2) hne htp
     generalize D.set sc (chObj gc l j2)=D2 at *
     have hB2:=hE2.len
     have hbd2:=hE2.blk
     have hri:r < idx.length:=by omega
     have hnx:=fun h=>q6d (l:=idx) (i:=r) (h:=h) (t:=t') (k:= .i64) hri
     obtain⟨hjF,hjp⟩:=hidx _ (x8 hri)
     simp only[nat] at hnx
     generalize idx[r]=j at *
     have hfx:=fun h=>q8a (l:=F) (i:=j) (h:=h) (t:=t2) (k:= .i64) hjF
     have hjT:j < T.length:=by omega
     have htx:=fun h=>j5q (l:=T) (i:=j) (h:=h) (t:=t1) (k:= .i64) hjT
     have hacc:=hTF.ok j hjT hjF
     have hmat:=v0r hs hnd hab hacc.fact hjp
     have hdt2:=hacc.dt
     rw[hjp] at hdt2
     have htl40:=hacc.len
     have hTne:T[j]≠[]:=fun h=>by
      have:=hdt2.pos
      rw[h] at this
      simp at this
     have hTno:=hacc.nodes
     clear hacc hE hbd hB
     have hk2:k≤1:=by omega
     have hrl:((⟨ci,[],c.body.length⟩:TN)::tl).length≤1000000:=by rw[v5];omega
     have hdt3:=hdt.append hdt2
     rw[←htk] at hdt3
     have hno3:∀ x∈tl++T[j],NodeT s K x:=fun x hx=>(x4.1 hx).elim (hno x) (hTno x)
     have hlen3:(tl++T[j]).length≤40 * (k + 1):=by rw[k7];omega
     rcases hrow with ⟨rfl,rfl⟩ | ⟨g3,rfl,rfl,hvne⟩
     ·have hv0:c.vars=[]:=l6.1 (by have:=hf.len;simpa using this.symm)
      simp only[go_sem,q0,q2,q3,q5,q8,q9,q11,q12,q13,hB2,z1y hB2 hE2.lt.1,hbd2,hnx,hfx,hax]
      refine z6t (w1w (a:=a) (f:=F[j]) hv0 hmat.small ?_)
      simp only[go_sem,q0,q2,q3,q5,q8,q9,q11,q12,q13,hB2,z1y hB2 hE2.lt.1,hbd2,hnx,htx]
      rw[x1h hB2 rfl rfl hrt hTne hrl (by omega) (by omega)]
      simp only[go_sem,q0,q2,q3,q5,q8,q9,q11,q12,q13,hB2,f2]
      exact hnx2 _ ⟨D2,g0,g1,j2,[],_,_,_,_,_,_,tl++T[j],hE2,hj2,hf, .inl ⟨rfl,rfl⟩, .inr ⟨_,rfl,rfl,by simp⟩,hdt3,hno3,hlen3,q0,q2,q3,q5,q8,q9,rfl,rfl,rfl⟩
     ·simp only[go_sem,q0,q2,q3,q5,q8,q9,q11,q12,q13,hB2,z1y hB2 hE2.lt.1,hbd2,hnx,hfx,hax]
      refine z6t (y3y (a:=a) (f:=F[j]) (sv:=B + 3) hmat (by omega) hf (by rw[z2u hB2];rfl) fun vals' hf'=> ?_)
      have hvl2:vals'.length=vals.length:=by rw[hf'.len,hf.len]
      have hvne2:vals'≠[]:=fun h=>hvne (l6.1 (by rw[←hvl2,h];rfl))
      simp only[go_sem,q0,q2,q3,q5,q8,q9,q11,q12,q13,hB2,z1y hB2 hE2.lt.1,hbd2,hnx,htx]
      rw[x1h hB2 rfl rfl hrt hTne hrl (by omega) (by omega)]
      simp only[go_sem,q0,q2,q3,q5,q8,q9,q11,q12,q13,hB2,f2]
      exact hnx2 _ ⟨D2,g0,g1,j2,vals',_,_,_,_,_,_,tl++T[j],hE2,hj2,hf', .inr ⟨_,by rw[hvl2],rfl,hvne2⟩, .inr ⟨_,rfl,rfl,by simp⟩,hdt3,hno3,hlen3,q0,q2,q3,q5,q8,q9,rfl,rfl,rfl⟩
  ·clear hE hi hf hrow q0 q2 q3 q5 q8 q9 q10 f1 hbs hB
   rintro f1 ts h' clk' P ⟨D,g0,g1,i,vals,cv,tv,o3,o4,o6,o7,tl,hE,hi,hf,hrow,hrt,hdt,hno,hlen,q0,q2,q3,q5,q8,q9,q11,q12,rfl⟩ hex2 hret2
   dsimp only at q0 q2 q3 q5 q8 q9 q11 q12
   have hB:=hE.len
   have hbd:=hE.blk
   rw[b7] at hdt
   simp only[go_sem,j1z,q0,q2,q3,q5,q8,q9,q11,q12,hB,f1,z6]
   refine hex2 _ _ ?_
   simp only[go_sem,q0,q2,q3,q5,q8,q9,q11,q12,hB]
   obtain⟨sv,gv,o3',o4',o7',hix0,hst0,hrt2⟩:=k4g (L:=[.blk g0 [.agg [.sl (s.preds.map z1m) .no, .sl (s.clauses.map z0j) .no]] false false 0, .blk g1 [.agg [.sl (c.vars.map z2b) .no, .sl (c.body.map z4q) .no, .sl (c.guard.map eNode) .no, .str c.head.pred, .sl (c.head.args.map z0w) .no]] false false 0, .dead,o3,o4, .dead,o6,o7, .dead, .dead, .dead, .dead, .dead]) hB rfl rfl rfl hrt hrow
   rw[hix0]
   simp only[go_sem,q0,q2,q3,q5,q8,q9,q11,q12,hB,hst0]
   clear hix0 hst0 hrt
   have hrf:=hrt2.f
   clear hrt2
   have hcl2:clOf s ci=c:=by rw[q2h hci,hcc]
   have hx0:NodeT s K ⟨ci,vals,c.body.length⟩:=⟨hci,by show c.body.length=(clOf s ci).body.length;rw[hcl2],by show FitM K (clOf s ci).vars vals;rw[hcl2];exact hf⟩
   have hdt2:DT s [c.head.pred] (⟨ci,vals,c.body.length⟩::tl):=by
    have h2:=DT.cons (s:=s) (x:=⟨ci,vals,c.body.length⟩) (ps:=[]) (rest:=[]) (ks:=tl) hci (by rw[hcc]) (by rw[hcc];exact hdt) .nil
    rw[w9,hcc] at h2
    exact h2
   have hn2:∀ x∈(⟨ci,vals,c.body.length⟩::tl:List TN),NodeT s K x:=fun x hx=>(j6.1 hx).elim (fun e=>e ▸ hx0) (hno x)
   have hln:((⟨ci,vals,c.body.length⟩:TN)::tl).length≤81:=by
    rw[v5]
    have:40 * c.body.length≤80:=by omega
    omega
   have hroot:tnAt ((⟨ci,vals,c.body.length⟩:TN)::tl) 0=⟨ci,vals,c.body.length⟩:=rfl
   have hpos:0 < ((⟨ci,vals,c.body.length⟩:TN)::tl).length:=by simp
   have hfact:FactM s (K + 5) (headF s ⟨ci,vals,c.body.length⟩):=by
    have hM:=(q2z hs hK hx0).2.2.1
    rcases c5 with ⟨h1,h2⟩ | h1
    ·left
     show (clOf s ci).head.pred=[]
     rw[hcl2];exact h1
    ·right
     have h1':AppOk s.preds (clOf s ci).vars (clOf s ci).head:=by rw[hcl2];exact h1
     obtain⟨a1,_,f,a2,a3,a4,a5⟩:=q5r hs.pr hK hM h1'
     exact⟨f,a2,a3.symm,by simpa [x3r,headF] using a4,fun i h1 h2=>a5 i h1 h2⟩
   have hhead:(headF s ⟨ci,vals,c.body.length⟩).1=c.head.pred:=by show (clOf s ci).head.pred=_;rw[hcl2]
   rw[←hhead] at hdt2
   have hgetf:headF s ((⟨ci,vals,c.body.length⟩::tl:List TN)[0]'hpos)=headF s ⟨ci,vals,c.body.length⟩:=rfl
   generalize headF s ⟨ci,vals,c.body.length⟩=f at *
   generalize hTR:(⟨ci,vals,c.body.length⟩::tl:List TN)=tree at *
   by_cases h40:tree.length≤40
   ·have e0:decide ((40:Int) < (tree.length:Int))=false:=by rw[n9];omega
    have hTT:TreeT s K tree:=⟨by omega,hn2,hdt2.tree⟩
    have p82:=x6l (u:= .no) hs hK hTT
    have hpa:∀ L:List AObj,L[4]? =some o4'→L[7]? =some o7'→z1q (D++L) [] 0 [.agg [.sl (s.preds.map z1m) .no, .sl (s.clauses.map z0j) .no],tv]=some [.agg [.sl (s.preds.map z1m) .no, .sl (s.clauses.map z0j) .no], .sl (tree.map eTN) .no]:=fun L h4 h7=>by
     simp only[z1q,List.contains_nil,j9,if_false,j5r hB h4 h7 hrf,conv,z8f,j5]
    rw[z4e] at p82
    have hcvz:cvL [.agg [.sl (s.preds.map z1m) .no, .sl (s.clauses.map z0j) .no], .sl (tree.map eTN) .no]=[.agg [.sl (s.preds.map z1m) .no, .sl (s.clauses.map z0j) .no], .sl (tree.map eTN) .no]:=rfl
    have hobz:z4u [.agg [.sl (s.preds.map z1m) .no, .sl (s.clauses.map z0j) .no], .sl (tree.map eTN) .no]=[]:=rfl
    have hidz:z0i [.agg [.sl (s.preds.map z1m) .no, .sl (s.clauses.map z0j) .no], .sl (tree.map eTN) .no]=[]:=by simp[z0i,AV.ids,z0d z5g,z0d z4b,q1a]
    simp only[go_sem,q0,q2,q3,q5,q8,q9,q11,q12,hB,x9j hrf,e0]
    rw[j1d p82 rfl v4b rfl rfl (hpa _ rfl rfl) hcvz hobz hidz rfl]
    by_cases hb:treeB s tree=true
    ·rw[if_pos hb,if_pos (show (AV.int .i64 0).flat=true from rfl)]
     simp only[go_sem,q0,q2,q3,q5,q8,q9,q11,q12,hB,z7,decide_true,z8]
     have p85:=v0l (u:= .no) hs hK hTT hpos hb
     rw[hgetf,z4e] at p85
     have hle:z0p [] 0 [.agg [.sl (s.preds.map z1m) .no, .sl (s.clauses.map z0j) .no],tv]=tv.obs:=by simp[z0p,AV.obs,z4u]
     obtain⟨o4a,o7a,hrf2,hfz⟩:=x1i hrf
     rw[j1d p85 rfl v4d rfl rfl (hpa _ rfl rfl) hcvz hobz hidz (by simp[AV.ids,z0i,j8a]),if_neg (by simp[AV.flat,x6m,eF,q3a]),hle,hfz _ _ hB rfl rfl]
     clear hfz hrf
     obtain⟨o4b,o7b,hbr⟩:=w1y hrf2
     have hobt:=v0s hrf2
     have hcT:∀ l:List (List TN),z0r 1 (l.map z9n)=true:=fun l=>z1u fun _=>⟨rfl,rfl,rfl⟩
     have hfl2:F.length≤1000:=by omega
     have hacc:Acc s (K + 5) tree f:=⟨hdt2,h40,fun x hx=>(hn2 x hx).up (by omega),hb,by rw[←hgetf];exact congrArg (headF s) (j2e hpos).symm,hfact⟩
     have hder:=hTF.snoc (by omega) hacc
     have hlt:=hE.lt
     have hob2:∀ a b,(a,b)∈tv.obs→a=B + 4∨a=B + 7:=fun a b hab=>hobt a (w0.2 ⟨(a,b),hab,rfl⟩)
     have hit:(z9n tree).ids=[]:=q7z
     have hif:(eF f).ids=[]:=j8a
     have hiT:z0i (T.map z9n)=[]:=z0d fun _=>q7z
     rcases htp with ⟨rfl,rfl,rfl⟩ | ⟨s1,g1',s2,g2',rfl,rfl,rfl,n12,n1d,n1c,n2d,n2c⟩
     ·simp only[go_sem,q0,q2,q3,q5,q8,q9,q11,q12,hB,eF,q3a,z1p,z1y hB hE.lt.1,hbd,hbr D _ hB]
      rw[show [z9n tree]=[tree].map z9n from rfl,z1c hB rfl (.inl rfl) (hcT _) (hcT _) (by simp only[z6,v6];omega),←v8]
      simp only[go_sem,q0,q2,q3,q5,q8,q9,q11,q12,hB,z1y hB hE.lt.1,hbd]
      rw[show [AV.agg [.str f.1, .sl (f.2.map eV) .no]]=[f].map eF from rfl,z1c hB rfl (.inl rfl) z6z z6z (by simp only[z6,v6];omega),←v8]
      simp only[go_sem,q0,q2,q3,q5,q8,q9,q11,q12,hB,z1y hB hE.lt.1,hbd,q1o hB hE.lt.1,j0o hB hE.lt.1,set_set hB hE.lt.1]
      refine⟨?_, ?_⟩
      ·simp[-List.map_map,z1r,apart,z0q,z1n,z1t,AOp.isCall,hB,AV.ids,z0i,hit,hif,hiT,q2i]
       exact⟨fun a b hab=>by have:=hob2 a b hab;omega,by omega,fun a b hab=>by have:=hob2 a b hab;omega⟩
      ·rw[q4e]
       refine hR _ _ _ ((sd,dO gd (T++[tree]) (F++[f]) (.at (B + 10) _) (.at (B + 12) _))::(sc,chObj gc l i)::[]) rfl (Has.cons (by rw[z0m (B:=B) (by rw[y5];exact hB) hlt.1,n5 (by omega)];rfl) (Has.cons (by rw[z0m (B:=B) (by rw[y5];exact hB) hlt.2,y7 hne];exact hE.c) Has.nil)) (.inr ⟨⟨_,j7,B + 10,by simp[dO,AObj.ids,z0i,AV.ids],by omega⟩, ?_⟩)
       rw[List.drop_left' (by rw[y5];exact hB)]
       subst hBh
       exact hQ2 i tree f hi hder _ _ _ _ rfl rfl rfl
     ·have ht1:D[s1]? =some (.tip g1' 1):=hE.tp (s1, .tip g1' 1) (by simp)
      have ht2:D[s2]? =some (.tip g2' 2):=hE.tp (s2, .tip g2' 2) (by simp)
      have l1:s1 < B:=by have:=(x9.1 ht1).1;omega
      have l2:s2 < B:=by have:=(x9.1 ht2).1;omega
      simp only[go_sem,q0,q2,q3,q5,q8,q9,q11,q12,hB,eF,q3a,z1p,z1y hB hE.lt.1,hbd,hbr D _ hB]
      rw[show [z9n tree]=[tree].map z9n from rfl,x3t hB l1 ht1 (hcT _) (hcT _) (by simp only[z6,v6];omega),←v8]
      have hBa:(D.set s1 .dead).length=B:=by rw[y5];exact hB
      have hda:(D.set s1 .dead)[sd]? =D[sd]? :=y7 n1d
      have hca:(D.set s1 .dead)[sc]? =some (chObj gc l i):=by rw[y7 n1c];exact hE.c
      have hba:z2f (D.set s1 .dead) sd gd=some ([.agg [.sl (T.map z9n) (.at s1 g1'), .sl (F.map eF) (.at s2 g2')]],false,false,0):=z2m (by rw[hda];exact hE.d)
      have h1a:(D.set s1 .dead)[s1]? =some .dead:=by rw[n5 (by omega)]
      have h2a:(D.set s1 .dead)[s2]? =some (.tip g2' 2):=by rw[y7 n12];exact ht2
      generalize D.set s1 .dead=Da at *
      simp only[go_sem,q0,q2,q3,q5,q8,q9,q11,q12,hBa,z1y hBa hlt.1,hba]
      rw[show [AV.agg [.str f.1, .sl (f.2.map eV) .no]]=[f].map eF from rfl,x3t hBa l2 h2a z6z z6z (by simp only[z6,v6];omega),←v8]
      have hBb:(Da.set s2 .dead).length=B:=by rw[y5];exact hBa
      have hbb:z2f (Da.set s2 .dead) sd gd=some ([.agg [.sl (T.map z9n) (.at s1 g1'), .sl (F.map eF) (.at s2 g2')]],false,false,0):=z2m (by rw[y7 n2d,hda];exact hE.d)
      have hcb:(Da.set s2 .dead)[sc]? =some (chObj gc l i):=by rw[y7 n2c];exact hca
      have h1b:(Da.set s2 .dead)[s1]? =some .dead:=by rw[y7 (Ne.symm n12)];exact h1a
      have h2b:(Da.set s2 .dead)[s2]? =some .dead:=by rw[n5 (by omega)]
      generalize Da.set s2 .dead=Db at *
      simp only[go_sem,q0,q2,q3,q5,q8,q9,q11,q12,hBb,z1y hBb hlt.1,hbb,q1o hBb hlt.1,j0o hBb hlt.1,set_set hBb hlt.1]
      refine⟨?_, ?_⟩
      ·simp[-List.map_map,z1r,apart,z0q,z1n,z1t,AOp.isCall,hB,AV.ids,z0i,hit,hif,hiT,q2i]
       exact⟨fun a b hab=>by have:=hob2 a b hab;omega,⟨by omega,n1d⟩,fun a b hab=>by have:=hob2 a b hab;omega,by omega⟩
      ·rw[q4e]
       refine hR _ _ _ ((sd,dO gd (T++[tree]) (F++[f]) (.at (B + 10) _) (.at (B + 12) _))::(sc,chObj gc l i)::[(s1, .dead),(s2, .dead)]) rfl (Has.cons (by rw[z0m (B:=B) (by rw[y5];exact hBb) hlt.1,n5 (by omega)];rfl) (Has.cons (by rw[z0m (B:=B) (by rw[y5];exact hBb) hlt.2,y7 hne];exact hcb) (Has.cons (by rw[z0m (B:=B) (by rw[y5];exact hBb) l1,y7 (Ne.symm n1d)];exact h1b) (Has.cons (by rw[z0m (B:=B) (by rw[y5];exact hBb) l2,y7 (Ne.symm n2d)];exact h2b) Has.nil)))) (.inr ⟨⟨_,j7,B + 10,by simp[dO,AObj.ids,z0i,AV.ids],by omega⟩, ?_⟩)
       rw[List.drop_left' (by rw[y5];exact hBb)]
       subst hBh
       exact hQ2 i tree f hi hder _ _ _ _ rfl rfl rfl
    ·rw[if_neg hb,if_pos (show (AV.int .i64 11).flat=true from rfl)]
     simp only[go_sem,q0,q2,q3,q5,q8,q9,q11,q12,hB,z7,decide_false,Bool.not_false]
     rw[q4e]
     exact cut D i _ _ hE hi
   ·have e0:decide ((40:Int) < (tree.length:Int))=true:=by rw[r8];omega
    simp only[go_sem,q0,q2,q3,q5,q8,q9,q11,q12,hB,x9j hrf,e0]
    rw[q4e]
    exact cut D i _ _ hE hi
end
theorem j2h {S:List (Nat×AObj)}:∀ {h:List AObj},Has S h→z4n h S=h:=by
 induction S with
 | nil=>exact fun _=>rfl
 | cons p S ih=>
   intro h hS
   rw[z4n,z7x (hS p j7)]
   exact ih fun q hq=>hS q (v7 _ hq)
theorem x3u {D X:List AObj} {B n:Nat} (hB:D.length=B) (hX:X.length=n):∀ {S:List (Nat×AObj)} {J:List AObj},(∀ p∈S,B + n≤p.1)→∃ J',J'.length=J.length∧z4n (D++(X++J)) S=D++(X++J')
 | [],J,_=>⟨J,rfl,rfl⟩
 | p::S,J,h=>by
   have hp:=h p j7
   obtain⟨J',h1,h2⟩:=x3u hB hX (S:=S) (J:=J.set (p.1 - B - n) p.2) fun q hq=>h q (v7 _ hq)
   refine⟨J',by rw[h1,y5], ?_⟩
   rw[z4n,List.set_append_right _ _ (by omega),List.set_append_right _ _ (by omega),hB,hX]
   exact h2
theorem DerOk.nil {s:Sys} {K:Nat}:DerOk s K [] []:=⟨rfl,fun i h=>by simp at h⟩
theorem y4a {s:Sys} {zs:List Int} {u:Tip} {h:List AObj} {clk:Nat} {Q:AV→List AObj→Nat→Prop} (hs:SysV s) (hz:∀ z∈zs, -9223372036854775808≤z∧z≤9223372036854775807) (hK:∀ n,n≤20→KOk (1 + 5 * n)) (hQ:∀ T F,DerOk s (1 + 5 * T.length) T F→T.length≤20→Q (.agg [.sl (T.map z9n) .no, .sl (F.map eF) .no]) h clk):WC Gam 8 [z4e s, .sl (q4z zs) u] h clk Q:=by
 have hl:q7t (zs.take 400):=⟨by simp;omega,fun z h=>hz z (d6 h)⟩
 refine x4j rfl y3u rfl rfl rfl (az:=[z4e s, .sl (q4z zs) .no]) rfl (by simp[z0i,z4j,AV.ids,q5a]) fun D B R hB hR=> ?_
 have hcl:=hs.len
 simp only[go_sem,v4h,hB,z4e]
 refine v3h fun g c=> ?_
 have e0:∀ a b d:AObj,(D++[a,b,d]).length=B + 3:=fun _ _ _=>by simp[hB]
 have e1:∀ a b d o:AObj,(D++[a,b,d])++[o]=D++[a,b,d,o]:=fun _ _ _ _=>by simp
 rw[e0,e1]
 generalize zs.take 400=l at *
 simp only[go_sem,hB]
 refine z1f (fun m q=>∃ (n j g0 g1 g2:Nat) (o1:AObj) (T:List (List TN)) (F:List Fct) (t1 t2:Tip) (tp:List (Nat×AObj)) (J:List AObj),n≤60∧m=60 - n∧j≤l.length∧DerOk s (1 + 5 * T.length) T F∧T.length≤20∧TipS (B + 2) (B + 3) t1 t2 tp∧(∀ p∈tp,B + 4≤p.1)∧o1= .blk g1 [.agg [.sl [] .nil, .sl [] .nil]] false false 0∧Has tp (D++([.blk g0 [.agg [.sl (s.preds.map z1m) .no, .sl (s.clauses.map z0j) .no]] false false 0,o1,dO g2 T F t1 t2,chObj g l j]++J))∧q.ts 2= .ptr (B + 0) g0 0 0∧q.ts 4= .ptr (B + 1) g1 0 0∧q.ts 5= .ptr (B + 3) g 0 0∧q.ts 6= .ptr (B + 2) g2 0 0∧q.ts 7= .int .i64 (n:Int)∧q.h=D++([.blk g0 [.agg [.sl (s.preds.map z1m) .no, .sl (s.clauses.map z0j) .no]] false false 0,o1,dO g2 T F t1 t2,chObj g l j]++J)) 60 ⟨0,0,_,_,_,_,[],[], .nil, .nil,[],[],by omega,rfl,by omega, .nil,by simp, .inl ⟨rfl,rfl,rfl⟩,by simp,rfl,Has.nil,rfl,rfl,rfl,rfl,rfl,rfl⟩ ?_
 rintro m ⟨ts,h',clk'⟩ P ⟨n,j,g0,g1,g2,o1,T,F,t1,t2,tp,J,hn,rfl,hj,hder,hT20,htp,hfar,rfl,hhas,q2,q4,q5,q6,q7,rfl⟩ hnx hex hret
 dsimp only at q2 q4 q5 q6 q7
 simp only[List.cons_append,y8]
 have hlen:=hder.len
 have fin:∀ (ts':Tmps) (c:Nat),ts' 4= .ptr (B + 1) g1 0 0→ts' 6= .ptr (B + 2) g2 0 0→P (.exit 0) ⟨ts',D++(.blk g0 [.agg [.sl (s.preds.map z1m) .no, .sl (s.clauses.map z0j) .no]] false false 0:: .blk g1 [.agg [.sl [] .nil, .sl [] .nil]] false false 0:: .blk g2 [.agg [.sl (T.map z9n) t1, .sl (F.map eF) t2]] false false 0::chObj g l j::J),c⟩:=by
  intro ts' c r4 r6
  refine hex _ _ ?_
  simp only[go_sem,r4,r6,hB,z0t,z0s,z0g]
  rw[z2y rfl (by simp[-List.map_map,AV.cv,cvL,AV.ids,z0i,z0d fun _=>q7z,q2i])]
  exact hR _ _ (hQ T F hder hT20)
 by_cases h60:n < 60
 ·have e2:decide ((n:Int) < 60)=true:=by rw[r8];omega
  by_cases hc0:0 < s.clauses.length
  ·have e3:decide ((0:Int) < (s.clauses.length:Int))=true:=by rw[r8];omega
   by_cases h20:T.length < 20
   ·have e4:decide ((T.length:Int) < 20)=true:=by rw[r8];omega
    have e6:(s.clauses.length:Int)≠0:=by omega
    have e5:∀ (h:List AObj) (t:ETy),z8b h .rem t (.int .i64 (n:Int)) (.int .i64 (s.clauses.length:Int))=some (.int .i64 ((n % s.clauses.length:Nat):Int),h):=fun h t=>by rw[q1d e6];rfl
    have e7:IntKind.i64.wrap ((n:Int) + 1)=((n + 1:Nat):Int):=z0c (by omega) (by omega)
    have hKT:=hK T.length hT20
    have key:∀ (ci j2:Nat) (ts':Tmps) (c:Nat),ci < s.clauses.length→j2≤l.length→ts' 2= .ptr (B + 0) g0 0 0→ts' 4= .ptr (B + 1) g1 0 0→ts' 5= .ptr (B + 3) g 0 0→ts' 6= .ptr (B + 2) g2 0 0→ts' 7= .int .i64 (n:Int)→WC Gam 31 [.ptr (B + 2) g2 0 0,z4e s, .ptr (B + 3) g 0 0, .int .i64 (ci:Int)] (D++([.blk g0 [.agg [.sl (s.preds.map z1m) .no, .sl (s.clauses.map z0j) .no]] false false 0, .blk g1 [.agg [.sl [] .nil, .sl [] .nil]] false false 0,dO g2 T F t1 t2,chObj g l j2]++J)) c (fun v h' c'=>∀ ts2:Tmps,ts2 2= .ptr (B + 0) g0 0 0→ts2 4= .ptr (B + 1) g1 0 0→ts2 5= .ptr (B + 3) g 0 0→ts2 6= .ptr (B + 2) g2 0 0→ts2 7= .int .i64 ((n + 1:Nat):Int)→∀ c2,P .norm ⟨ts2,h',c2⟩):=by
     intro ci j2 ts' c hci hj2 r2 r4 r5 r6 r7
     have hhas2:∀ j3,Has tp (D++([.blk g0 [.agg [.sl (s.preds.map z1m) .no, .sl (s.clauses.map z0j) .no]] false false 0, .blk g1 [.agg [.sl [] .nil, .sl [] .nil]] false false 0,dO g2 T F t1 t2,chObj g l j3]++J)):=fun j3 p hp=>by
      have h1:=hhas p hp
      have h2:=hfar p hp
      obtain⟨q,hq⟩:∃ q,p.1=B + (q + 4):=⟨p.1 - B - 4,by omega⟩
      rw[hq,z2u hB] at h1⊢
      exact h1
     have hl4:∀ a b c d:AObj,([a,b,c,d]:List AObj).length=4:=fun _ _ _ _=>rfl
     refine y3z (i:=j2) hs hl hKT hci hder (by omega) htp (by rw[z2u hB];rfl) (by rw[z2u hB];rfl) (hhas2 j2) hj2 (by omega) (fun j3 hj3=> ?_) (fun j3 tl f hj3 hder2 J2 k1 k2 c' hJ hJ1 hJ2=> ?_)
     ·intro ts2 s2 s4 s5 s6 s7 c2
      have hset:z4n (D++([.blk g0 [.agg [.sl (s.preds.map z1m) .no, .sl (s.clauses.map z0j) .no]] false false 0, .blk g1 [.agg [.sl [] .nil, .sl [] .nil]] false false 0,dO g2 T F t1 t2,chObj g l j2]++J)) ((B + 2,dO g2 T F t1 t2)::(B + 3,chObj g l j3)::tp)=D++([.blk g0 [.agg [.sl (s.preds.map z1m) .no, .sl (s.clauses.map z0j) .no]] false false 0, .blk g1 [.agg [.sl [] .nil, .sl [] .nil]] false false 0,dO g2 T F t1 t2,chObj g l j3]++J):=by
       rw[z4n,z4n,z2o hB,z2o hB]
       exact j2h (hhas2 j3)
      rw[hset]
      exact hnx (60 - (n + 1)) _ (by omega) ⟨n + 1,j3,g0,g1,g2,_,T,F,t1,t2,tp,J,h60,rfl,hj3,hder,hT20,htp,hfar,rfl,hhas2 j3,s2,s4,s5,s6,s7,rfl⟩
     ·intro ts2 s2 s4 s5 s6 s7 c2
      have hset:∃ J3,J3.length=J.length∧z4n (D++([.blk g0 [.agg [.sl (s.preds.map z1m) .no, .sl (s.clauses.map z0j) .no]] false false 0, .blk g1 [.agg [.sl [] .nil, .sl [] .nil]] false false 0,dO g2 T F t1 t2,chObj g l j2]++J)) ((B + 2,dO g2 (T++[tl]) (F++[f]) (.at ((D++([.blk g0 [.agg [.sl (s.preds.map z1m) .no, .sl (s.clauses.map z0j) .no]] false false 0, .blk g1 [.agg [.sl [] .nil, .sl [] .nil]] false false 0,dO g2 T F t1 t2,chObj g l j2]++J)).length + 10) k1) (.at ((D++([.blk g0 [.agg [.sl (s.preds.map z1m) .no, .sl (s.clauses.map z0j) .no]] false false 0, .blk g1 [.agg [.sl [] .nil, .sl [] .nil]] false false 0,dO g2 T F t1 t2,chObj g l j2]++J)).length + 12) k2))::(B + 3,chObj g l j3)::tp.map fun p=>(p.1, .dead))=D++([.blk g0 [.agg [.sl (s.preds.map z1m) .no, .sl (s.clauses.map z0j) .no]] false false 0, .blk g1 [.agg [.sl [] .nil, .sl [] .nil]] false false 0,dO g2 (T++[tl]) (F++[f]) (.at (B + (4 + J.length) + 10) k1) (.at (B + (4 + J.length) + 12) k2),chObj g l j3]++J3):=by
       have hle:(D++([.blk g0 [.agg [.sl (s.preds.map z1m) .no, .sl (s.clauses.map z0j) .no]] false false 0, .blk g1 [.agg [.sl [] .nil, .sl [] .nil]] false false 0,dO g2 T F t1 t2,chObj g l j2]++J)).length=B + (4 + J.length):=by rw[k7,k7,hB,hl4]
       rw[hle,z4n,z4n,z2o hB,z2o hB]
       obtain⟨J3,h1,h2⟩:=x3u hB (X:=[.blk g0 [.agg [.sl (s.preds.map z1m) .no, .sl (s.clauses.map z0j) .no]] false false 0, .blk g1 [.agg [.sl [] .nil, .sl [] .nil]] false false 0,dO g2 (T++[tl]) (F++[f]) (.at (B + (4 + J.length) + 10) k1) (.at (B + (4 + J.length) + 12) k2),chObj g l j3]) (n:=4) rfl (S:=tp.map fun p=>(p.1, .dead)) (J:=J) (fun p hp=>by
        obtain⟨q,hq,rfl⟩:=w0.1 hp
        exact hfar q hq)
       exact⟨J3,h1,h2⟩
      obtain⟨J3,hJ3,hset⟩:=hset
      rw[hset,u4,u4]
      have hTl:(T++[tl]).length=T.length + 1:=by simp
      refine hnx (60 - (n + 1)) _ (by omega) ⟨n + 1,j3,g0,g1,g2,_,T++[tl],F++[f], .at (B + (4 + J.length) + 10) k1, .at (B + (4 + J.length) + 12) k2,[(B + (4 + J.length) + 10, .tip k1 1),(B + (4 + J.length) + 12, .tip k2 2)],J3++J2,h60,rfl,hj3,by rw[hTl,show 1 + 5 * (T.length + 1)=1 + 5 * T.length + 5 by omega];exact hder2,by omega, .inr ⟨_,_,_,_,rfl,rfl,rfl,by omega,by omega,by omega,by omega,by omega⟩, ?_,rfl, ?_,s2,s4,s5,s6,s7,rfl⟩
      ·intro p hp
       simp at hp
       rcases hp with rfl | rfl <;> dsimp only <;> omega
      ·have hg:∀ (X:List AObj) (i:Nat),X.length=4→(D++(X++(J3++J2)))[B + (4 + J.length) + i]? =J2[i]? :=fun X i hX=>by
        rw[show B + (4 + J.length) + i=B + (4 + (J.length + i)) by omega,z2u hB,b0 (by omega),hX,Nat.add_sub_cancel_left,b0 (by omega),hJ3,Nat.add_sub_cancel_left]
       refine Has.cons ?_ (Has.cons ?_ Has.nil)
       ·exact (hg _ 10 rfl).trans hJ1
       ·exact (hg _ 12 rfl).trans hJ2
    simp only[go_sem,x1f,dO,q2,q4,q5,q6,q7,hB,e2,e3,e4,e5,z6]
    refine z6y (k:=3) k6s hB rfl hj ?_
    rintro v j2 ⟨b,rfl⟩ hj2
    have hml:n % s.clauses.length < s.clauses.length:=Nat.mod_lt _ hc0
    cases b with
    | false=>
      simp only[go_sem,q2,q4,q5,q6,q7,hB]
      obtain⟨k,v,h2,c2,h3,h4⟩:=key _ j2 ts (clk' + 14 + 6 + 2 + 4) hml hj2 q2 q4 q5 q6 q7
      refine⟨k,v,h2,c2,h3, ?_⟩
      simp only[go_sem,q2,q4,q5,q6,q7,e7]
      refine h4 _ ?_ ?_ ?_ ?_ ?_ _
      ·exact q2
      ·exact q4
      ·exact q5
      ·exact q6
      ·exact rfl
    | true=>
      simp only[go_sem,q2,q4,q5,q6,q7,hB,z6]
      refine z6y (k:=3) (z3u hl (by omega) (by omega)) hB rfl hj2 ?_
      rintro v j3 ⟨r,rfl,hr1,hr2⟩ hj3
      obtain⟨r,rfl⟩:∃ n:Nat,r=n:=⟨r.toNat,by omega⟩
      simp only[go_sem,q2,q4,q5,q6,q7,hB]
      obtain⟨k,v,h2,c2,h3,h4⟩:=key r j3 ts (clk' + 14 + 6 + 2 + 6 + 4) (by omega) hj3 q2 q4 q5 q6 q7
      refine⟨k,v,h2,c2,h3, ?_⟩
      simp only[go_sem,q2,q4,q5,q6,q7,e7]
      refine h4 _ ?_ ?_ ?_ ?_ ?_ _
      ·exact q2
      ·exact q4
      ·exact q5
      ·exact q6
      ·exact rfl
   ·have e4:decide ((T.length:Int) < 20)=false:=by rw[n9];omega
    simp only[go_sem,x1f,dO,q2,q4,q5,q6,q7,hB,e2,e3,e4,z6]
    exact fin _ _ q4 q6
  ·have e3:decide ((0:Int) < (s.clauses.length:Int))=false:=by rw[n9];omega
   simp only[go_sem,x1f,dO,q2,q4,q5,q6,q7,hB,e2,e3,z6]
   exact fin _ _ q4 q6
 ·have e2:decide ((n:Int) < 60)=false:=by rw[n9];omega
  simp only[go_sem,x1f,dO,q2,q4,q5,q6,q7,hB,e2,z6]
  exact fin _ _ q4 q6
theorem w1z {s:Sys}:eTf (z7f s)= .agg [.int .i64 2, .str [], .str [], .int .i64 0, .int .i64 0, .sl (z3b (z7f s).un) .no, .sl (z3b (z7f s).und) .no, .sl [] .no]:=(rfl)
theorem j2i {zs ns:List Int} (hz:∀ z∈zs, -9223372036854775808≤z∧z≤9223372036854775807) (hn:∀ z∈ns, -9223372036854775808≤z∧z≤9223372036854775807) (hK:∀ n,n≤20→KOk (1 + 5 * n)):WC Gam 3 [.sl (q4z zs) .no, .sl (q4z ns) .no] [] 0 fun v _ _=>v= .bool true:=by
 refine x4j rfl y3v rfl rfl rfl (az:=[.sl (q4z zs) .no, .sl (q4z ns) .no]) rfl (by simp[z0i,AV.ids,q5a]) fun D B R hB hR=> ?_
 simp only[go_sem,v4i,hB]
 refine z6t (u6i hz (y1d ⟨by rw[u7];omega,fun z hz'=>hz z (d6 hz')⟩) fun s hs=> ?_)
 have hv:=hs.v
 have p1:=y2s hv
 rw[w1z] at p1
 rw[z4e] at p1
 simp only[go_sem,hB,z4e,z0a p1]
 have p79:=fun h clk Q hQ=>y4a (u:= .no) (h:=h) (clk:=clk) (Q:=Q) hv hn hK hQ
 rw[z4e] at p79
 refine z6t (p79 _ _ _ fun T F hder hT20=> ?_)
 simp only[go_sem,hB]
 have hTF:=hder.len
 have hlu:(z7f s).un.length≤1000∧(z7f s).und.length≤1000:=by
  have:=k2u hv
  rw[k7] at this
  omega
 have hKT:=hK _ hT20
 have hsl:∀ l:List (List Nat),(z3b l).length=l.length:=fun l=>z6 _
 refine z6h T.length (by omega) (fun i q=>∃ (g0 g1 g2:Nat),q.ts 5= .ptr (B + 0) g0 0 0∧q.ts 6= .ptr (B + 1) g1 0 0∧q.ts 7= .int .i64 0∧q.ts 8= .ptr (B + 2) g2 0 0∧q.ts 9= .int .i64 (i:Int)∧q.h=D++[.blk g0 [.agg [.sl (s.preds.map z1m) .no, .sl (s.clauses.map z0j) .no]] false false 0, .blk g1 [.agg [.int .i64 2, .str [], .str [], .int .i64 0, .int .i64 0, .sl (z3b (z7f s).un) .no, .sl (z3b (z7f s).und) .no, .sl [] .no]] false false 0, .blk g2 [.agg [.sl (T.map z9n) .no, .sl (F.map eF) .no]] false false 0]) ⟨_,_,_,rfl,rfl,rfl,rfl,rfl,rfl⟩ ?_ ?_
 ·rintro i hlt f1 f2 ts h clk P ⟨g0,g1,g2,q5,q6,q7,q8,q9,rfl⟩ hnx hex hret
  dsimp only at q5 q6 q7 q8 q9
  have hiF:i < F.length:=by omega
  have hacc:=hder.ok i hlt hiF
  have htx:=fun h=>j5q (l:=T) (i:=i) (h:=h) (t:= .no) (k:= .i64) hlt
  have hfx:=fun h=>q8a (l:=F) (i:=i) (h:=h) (t:= .no) (k:= .i64) hiF
  have hTT:TreeT s (1 + 5 * T.length) T[i]:=⟨by have:=hacc.len;omega,hacc.nodes,hacc.dt.tree⟩
  have p84:=v0m (u:= .no) hv hKT hTT hacc.chk
  have hfl:(q1e s T[i]).length≤40:=by unfold q1e;rw[z6];exact hacc.len
  have hpd:∀ f∈q1e s T[i],f.1=[]∨DS s f.1:=fun f hf=>by
   obtain⟨x,hx,rfl⟩:=w0.1 hf
   exact (hacc.dt.der hv).2 x hx
  have hpn:F[i].1=[]→∀ f∈q1e s T[i],f.1=[]∨NS s f.1:=fun h0 f hf=>by
   obtain⟨x,hx,rfl⟩:=w0.1 hf
   refine hacc.dt.need hv (fun p hp=> ?_) x hx
   rw[y3.1 hp]
   exact .inl h0
  have hnd:∀ f∈q1e s T[i],∀ a∈(z7f s).und,¬ a=f.1:=fun f hf a ha e=>by
   obtain⟨h1,h2⟩:=w0u.1 ha
   rcases hpd f hf with h | h
   ·exact hv.name_ne h1 (e.trans h)
   ·exact h2 (e ▸ h)
  have hnn:F[i].1=[]→∀ f∈q1e s T[i],∀ a∈(z7f s).un,¬ a=f.1:=fun h0 f hf a ha e=>by
   obtain⟨h1,_,h2⟩:=y2t.1 ha
   rcases hpn h0 f hf with h | h
   ·exact hv.name_ne h1 (e.trans h)
   ·exact h2 (e ▸ h)
  clear hacc hTT hpd hpn
  rw[z4e] at p84
  generalize q1e s T[i]=fs at *
  generalize (z7f s).un=un at *
  generalize (z7f s).und=und at *
  simp only[go_sem,j2d,q5,q6,q7,q8,q9,hB,f1,z6,htx,z0a p84,z7,decide_true,z8]
  refine z6h fs.length (by omega) (fun k q=>∃ (g0 g1 g2:Nat),q.ts 5= .ptr (B + 0) g0 0 0∧q.ts 6= .ptr (B + 1) g1 0 0∧q.ts 7= .int .i64 0∧q.ts 8= .ptr (B + 2) g2 0 0∧q.ts 9= .int .i64 (i:Int)∧q.ts 10= .sl (fs.map eF) .no∧q.ts 12= .int .i64 (k:Int)∧q.h=D++[.blk g0 [.agg [.sl (s.preds.map z1m) .no, .sl (s.clauses.map z0j) .no]] false false 0, .blk g1 [.agg [.int .i64 2, .str [], .str [], .int .i64 0, .int .i64 0, .sl (z3b un) .no, .sl (z3b und) .no, .sl [] .no]] false false 0, .blk g2 [.agg [.sl (T.map z9n) .no, .sl (F.map eF) .no]] false false 0]) ⟨g0,g1,g2,by simp[z0b,q5],by simp[z0b,q6],by simp[z0b,q7],by simp[z0b,q8],by simp[z0b,q9],by simp[z0b],by simp[z0b],rfl⟩ ?_ ?_
  ·clear q5 q6 q7 q8 q9 f1
   rintro k hkl f1 f3 ts h clk P ⟨g0,g1,g2,q5,q6,q7,q8,q9,q10,q12,rfl⟩ hnx2 hex2 hret2
   dsimp only at q5 q6 q7 q8 q9 q10 q12
   have hkm:=x8 hkl
   have hkx:=fun h=>q8a (l:=fs) (i:=k) (h:=h) (t:= .no) (k:= .i64) hkl
   have hnd':=hnd _ hkm
   have hnn':=fun h0=>hnn h0 _ hkm
   generalize fs[k]=f at *
   simp only[go_sem,j2c,q5,q6,q7,q8,q9,q10,q12,hB,f1,z6]
   refine z6h und.length (by omega) (fun j q=>∃ (g0 g1 g2:Nat),q.ts 5= .ptr (B + 0) g0 0 0∧q.ts 6= .ptr (B + 1) g1 0 0∧q.ts 7= .int .i64 0∧q.ts 8= .ptr (B + 2) g2 0 0∧q.ts 9= .int .i64 (i:Int)∧q.ts 10= .sl (fs.map eF) .no∧q.ts 12= .int .i64 (k:Int)∧q.ts 13= .int .i64 (j:Int)∧q.h=D++[.blk g0 [.agg [.sl (s.preds.map z1m) .no, .sl (s.clauses.map z0j) .no]] false false 0, .blk g1 [.agg [.int .i64 2, .str [], .str [], .int .i64 0, .int .i64 0, .sl (z3b un) .no, .sl (z3b und) .no, .sl [] .no]] false false 0, .blk g2 [.agg [.sl (T.map z9n) .no, .sl (F.map eF) .no]] false false 0]) ⟨g0,g1,g2,by simp[z0b,q5],by simp[z0b,q6],by simp[z0b,q7],by simp[z0b,q8],by simp[z0b,q9],by simp[z0b,q10],by simp[z0b,q12],by simp[z0b],rfl⟩ ?_ ?_
   ·clear q5 q6 q7 q8 q9 q10 q12 f1
    rintro j hjl f1 f4 ts h clk P ⟨g0,g1,g2,q5,q6,q7,q8,q9,q10,q12,q13,rfl⟩ hnx3 hex3 hret3
    dsimp only at q5 q6 q7 q8 q9 q10 q12 q13
    have e1:decide (und[j]=f.1)=false:=decide_eq_false (hnd' _ (x8 hjl))
    simp only[go_sem,j2b,q5,q6,q7,q8,q9,q10,q12,q13,hB,f1,f4,hsl,z9h hjl,hkx,e1]
    exact hnx3 _ ⟨g0,g1,g2,q5,q6,q7,q8,q9,q10,q12,rfl,rfl⟩
   ·clear q5 q6 q7 q8 q9 q10 q12 f1
    rintro f1 ts h clk P ⟨g0,g1,g2,q5,q6,q7,q8,q9,q10,q12,q13,rfl⟩ hex3 hret3
    dsimp only at q5 q6 q7 q8 q9 q10 q12 q13
    simp only[go_sem,j2b,q5,q6,q7,q8,q9,q10,q12,q13,hB,f1,hsl]
    refine hex3 _ _ ?_
    simp only[go_sem,q5,q6,q7,q8,q9,q10,q12,hB]
    by_cases h0:F[i].1=[]
    ·have e0:decide (F[i].1=[])=true:=decide_eq_true h0
     refine z6h un.length (by omega) (fun j q=>∃ (g0 g1 g2:Nat),q.ts 5= .ptr (B + 0) g0 0 0∧q.ts 6= .ptr (B + 1) g1 0 0∧q.ts 7= .int .i64 0∧q.ts 8= .ptr (B + 2) g2 0 0∧q.ts 9= .int .i64 (i:Int)∧q.ts 10= .sl (fs.map eF) .no∧q.ts 12= .int .i64 (k:Int)∧q.ts 14= .int .i64 (j:Int)∧q.h=D++[.blk g0 [.agg [.sl (s.preds.map z1m) .no, .sl (s.clauses.map z0j) .no]] false false 0, .blk g1 [.agg [.int .i64 2, .str [], .str [], .int .i64 0, .int .i64 0, .sl (z3b un) .no, .sl (z3b und) .no, .sl [] .no]] false false 0, .blk g2 [.agg [.sl (T.map z9n) .no, .sl (F.map eF) .no]] false false 0]) ⟨g0,g1,g2,by simp[z0b,q5],by simp[z0b,q6],by simp[z0b,q7],by simp[z0b,q8],by simp[z0b,q9],by simp[z0b,q10],by simp[z0b,q12],by simp[z0b],rfl⟩ ?_ ?_
     ·clear q5 q6 q7 q8 q9 q10 q12 q13 f1
      rintro j hjl f1 f4 ts h clk P ⟨g0,g1,g2,q5,q6,q7,q8,q9,q10,q12,q14,rfl⟩ hnx4 hex4 hret4
      dsimp only at q5 q6 q7 q8 q9 q10 q12 q14
      have e1:decide (un[j]=f.1)=false:=decide_eq_false (hnn' h0 _ (x8 hjl))
      simp only[go_sem,x1g,q5,q6,q7,q8,q9,q10,q12,q14,hB,f1,f4,hsl,z9h hjl,hkx,hfx,e0,e1]
      exact hnx4 _ ⟨g0,g1,g2,q5,q6,q7,q8,q9,q10,q12,rfl,rfl⟩
     ·clear q5 q6 q7 q8 q9 q10 q12 q13 f1
      rintro f1 ts h clk P ⟨g0,g1,g2,q5,q6,q7,q8,q9,q10,q12,q14,rfl⟩ hex4 hret4
      dsimp only at q5 q6 q7 q8 q9 q10 q12 q14
      simp only[go_sem,x1g,q5,q6,q7,q8,q9,q10,q12,q14,hB,f1,hsl]
      refine hex4 _ _ ?_
      simp only[go_sem,q5,q6,q7,q8,q9,q10,q12,hB,f3]
      exact hnx2 _ ⟨g0,g1,g2,q5,q6,q7,q8,q9,q10,rfl,rfl⟩
    ·have e0:decide (F[i].1=[])=false:=decide_eq_false h0
     refine z1f (fun m q=>q.ts 5= .ptr (B + 0) g0 0 0∧q.ts 6= .ptr (B + 1) g1 0 0∧q.ts 7= .int .i64 0∧q.ts 8= .ptr (B + 2) g2 0 0∧q.ts 9= .int .i64 (i:Int)∧q.ts 10= .sl (fs.map eF) .no∧q.ts 12= .int .i64 (k:Int)∧q.ts 14= .int .i64 0∧q.h=D++[.blk g0 [.agg [.sl (s.preds.map z1m) .no, .sl (s.clauses.map z0j) .no]] false false 0, .blk g1 [.agg [.int .i64 2, .str [], .str [], .int .i64 0, .int .i64 0, .sl (z3b un) .no, .sl (z3b und) .no, .sl [] .no]] false false 0, .blk g2 [.agg [.sl (T.map z9n) .no, .sl (F.map eF) .no]] false false 0]) 0 ⟨by simp[z0b,q5],by simp[z0b,q6],by simp[z0b,q7],by simp[z0b,q8],by simp[z0b,q9],by simp[z0b,q10],by simp[z0b,q12],by simp[z0b],rfl⟩ ?_
     clear q5 q6 q7 q8 q9 q10 q12 q13 f1
     rintro m ⟨ts,h,clk⟩ P ⟨q5,q6,q7,q8,q9,q10,q12,q14,rfl⟩ hnx4 hex4 hret4
     dsimp only at q5 q6 q7 q8 q9 q10 q12 q14
     cases hu:decide ((0:Int) < (un.length:Int)) with
     | false=>
       simp only[go_sem,x1g,q5,q6,q7,q8,q9,q10,q12,q14,hB,hsl,hu]
       refine hex4 _ _ ?_
       simp only[go_sem,q5,q6,q7,q8,q9,q10,q12,hB,f3]
       exact hnx2 _ ⟨g0,g1,g2,q5,q6,q7,q8,q9,q10,rfl,rfl⟩
     | true=>
       simp only[go_sem,x1g,q5,q6,q7,q8,q9,q10,q12,q14,hB,hsl,hu,hfx,e0]
       refine hex4 _ _ ?_
       simp only[go_sem,q5,q6,q7,q8,q9,q10,q12,hB,f3]
       exact hnx2 _ ⟨g0,g1,g2,q5,q6,q7,q8,q9,q10,rfl,rfl⟩
  ·clear q5 q6 q7 q8 q9 f1
   rintro f1 ts h clk P ⟨g0,g1,g2,q5,q6,q7,q8,q9,q10,q12,rfl⟩ hex2 hret2
   dsimp only at q5 q6 q7 q8 q9 q10 q12
   simp only[go_sem,j2c,q5,q6,q7,q8,q9,q10,q12,hB,f1,z6]
   refine hex2 _ _ ?_
   simp only[go_sem,q5,q6,q7,q8,q9,hB,f2]
   exact hnx _ ⟨g0,g1,g2,q5,q6,q7,q8,rfl,rfl⟩
 ·rintro f1 ts h clk P ⟨g0,g1,g2,q5,q6,q7,q8,q9,rfl⟩ hex hret
  dsimp only at q5 q6 q7 q8 q9
  simp only[go_sem,j2d,q5,q6,q7,q8,q9,hB,f1,z6]
  refine hex _ _ ?_
  simp only[go_sem,q7,hB,z0a w1n,z7,decide_true]
  rw[z0e]
  exact hR _ _ rfl
end Go.Proofs.YtkollgjffkdliaaGreatDoor.Am
