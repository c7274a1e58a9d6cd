/- Walking: atoms of a clause are checked Walking: variables of a clause are checked Walking: a clause is checked Walking: a clause is checked Walking: systems are checked Walking: which bodies lie withi -/
import Derived.Test.YtmkblnlafljljaaGreatDoorM33
open Nat renaming reduceBEq → z0,reduceAdd → z1,reduceLeDiff → z2,reduceSub → z3
set_option linter.all false
namespace Go.Proofs.YtmkblnlafljljaaGreatDoor.Am
open Go
set_option maxRecDepth 100000
theorem j8k {s:Nat} (h1:1≤s) (h4:s≤4):Pure Gam 138 [nat s] (.bool true):=by
 refine Pure.of rfl y2t rfl rfl rfl rfl rfl fun D B clk T hB hT=> ?_
 have e1:decide ((1:Int)≤(s:Int))=true:=by rw[decide_eq_true_iff];omega
 have e2:decide ((s:Int)≤4)=true:=by rw[decide_eq_true_iff];omega
 simp only[go_sem,z0,w4u,nat,e1,e2]
 rw[z0f]
 exact hT _
def z3u:Nat→List Func→List (AV×AV)
 | _,[]=>[]
 | k,p::ps=>(.str p.name, .int .i64 (k:Int))::z3u (k + 1) ps
theorem x8i {k:Nat} {ps:List Func}:(z3u k ps).length=ps.length:=by
 induction ps generalizing k with
 | nil=>rfl
 | cons p ps ih=>simp[z3u,ih]
theorem k3k {g k:Nat} {ps:List Func}:(AObj.map g (z3u k ps)).ids=[]:=by
 simp only[AObj.ids,List.append_eq_nil_iff]
 induction ps generalizing k with
 | nil=>exact⟨rfl,rfl⟩
 | cons p ps ih=>exact⟨by simpa [z3u,idsL,AV.ids] using (ih (k:=k + 1)).1,by simpa [z3u,idsL,AV.ids] using (ih (k:=k + 1)).2⟩
theorem q1k {a:List Nat}:∀ {ps:List Func} {k:Nat},(∀ p∈ps,p.name≠a)→findKey (.one .str) (.str a) (z3u k ps)=some none
 | [],_,_=>rfl
 | p::ps,k,h=>by
   have hne:decide (a=p.name)=false:=decide_eq_false fun e=>h p List.mem_cons_self e.symm
   simp only[z3u,findKey,AV.eqv,AV.eq1,hne]
   exact q1k fun q hq=>h q (List.mem_cons_of_mem _ hq)
theorem q1l:∀ {ps:List Func} {k j:Nat} {f:Func},(ps.map (·.name)).Nodup→ps[j]? =some f→findKey (.one .str) (.str f.name) (z3u k ps)=some (some (.int .i64 ((k + j:Nat):Int)))
 | [],_,_,_,_,h=>by simp at h
 | p::ps,k,0,f,_,h=>by
   simp at h
   subst h
   simp[z3u,findKey,AV.eqv,AV.eq1]
 | p::ps,k,j + 1,f,hn,h=>by
   rw[List.map_cons,List.nodup_cons] at hn
   simp only[List.getElem?_cons_succ] at h
   have hne:decide (f.name=p.name)=false:=decide_eq_false fun e=>hn.1 (by rw[←e];exact List.mem_map.2 ⟨f,List.mem_of_getElem? h,rfl⟩)
   simp only[z3u,findKey,AV.eqv,AV.eq1,hne]
   rw[q1l hn.2 h,show k + 1 + j=k + (j + 1) by omega]
theorem q8w {a:List Nat} {n:Nat}:∀ {ps:List Func} {k:Nat} {r:List Nat} {q:Nat},(∀ p∈ps,p.name≠a)→n=k + ps.length→z6u (.one .str) (.str a) (.int .i64 (n:Int)) (z3u k ps)=some (z3u k (ps++[⟨a,r,q⟩]))
 | [],k,r,q,_,hn=>by
   simp at hn
   subst hn
   rfl
 | p::ps,k,r,q,h,hn=>by
   have hne:decide (a=p.name)=false:=decide_eq_false fun e=>h p List.mem_cons_self e.symm
   have ih:=q8w (a:=a) (n:=n) (ps:=ps) (k:=k + 1) (r:=r) (q:=q) (fun q hq=>h q (List.mem_cons_of_mem _ hq)) (by simp at hn;omega)
   simp only[List.cons_append,z3u,z6u,AV.eqv,AV.eq1,hne,ih,Option.map_some]
def z4q (gC:Nat) (s:Sys) (sP gP:Nat):AObj:= .blk gC [.agg [.sl (s.preds.map z0p) .no, .sl (s.clauses.map z0e) .no, .mp sP gP, .sl [] .nil]] false false 0
def z8q (gP:Nat) (s:Sys):AObj:= .map gP (z3u 0 s.preds)
theorem q5b {gC sP gP:Nat} {s:Sys}:(z4q gC s sP gP).ids=[sP]:=by
 simp[z4q,AObj.ids,idsL,AV.ids,z0d z2u,z0d z1s]
theorem x1i {gP:Nat} {s:Sys}:(z8q gP s).ids=[]:=k3k
structure PrOk (ps:List Func):Prop where
 nodup:(ps.map (·.name)).Nodup
 args:∀ f∈ps,f.args.length≤40∧∀ s∈f.args,1≤s∧s≤4
 name:∀ f∈ps,f.name≠[]
theorem Cov.atom {sC sP sX:Nat} {oC oP oX:AObj} (hC:oC.ids=[sP]) (hP:oP.ids=[]) (hX:oX.ids=[]):Cov [(sC,oC),(sP,oP),(sX,oX)] [sC,sX]:=by
 refine⟨by simp,by simp[hC,hP,hX],fun h hS p hp=> ?_⟩
 have h1:h[sC]? =some oC:=hS (sC,oC) (by simp)
 have hr:reach h (h.length + 1) [] [sC,sX]=reach h h.length [sC] [sP,sX]:=by rw[z9q (by simp) h1,hC];rfl
 rw[hr]
 simp at hp
 rcases hp with rfl | rfl | rfl
 ·exact z6h (.inl List.mem_cons_self)
 ·exact z6h (.inr List.mem_cons_self)
 ·exact z6h (.inr (List.mem_cons_of_mem _ List.mem_cons_self))
theorem j0m {sC gC sP gP sX gX:Nat} {s:Sys} {a:App} {V:List Var} (hp:PrOk s.preds) (ha:AppOk s.preds V a) (hV:∀ v∈V,v∈z0o):Reads [(sC,z4q gC s sP gP),(sP,z8q gP s),(sX, .map gX (z1e V))] 142 [.ptr sC gC 0 0,z2y a, .mp sX gX] (.bool true):=by
 obtain⟨f,hf,hname,hlen,hargs⟩:=ha
 obtain⟨j,hj⟩:=List.getElem?_of_mem hf
 have hjl:j < s.preds.length:=by
  rw[List.getElem?_eq_some_iff] at hj
  exact hj.1
 refine Reads.of rfl y2o rfl rfl rfl (az:=[.ptr sC gC 0 0,z2y a, .mp sX gX]) rfl (by simpa [idsL,AV.ids,z4g] using Cov.atom q5b (x1i (gP:=gP) (s:=s)) q1j) fun D B clk T hB hS hlt hT=> ?_
 have h1:=hlt (sC,z4q gC s sP gP) (by simp)
 have h2:=hlt (sP,z8q gP s) (by simp)
 have b1:=z6l (g:=gC) (hS (sC,z4q gC s sP gP) (by simp))
 have b2:=j8j (g:=gP) (hS (sP,z8q gP s) (by simp))
 dsimp only at h1 h2 b1 b2
 have hfk:=q1l (k:=0) hp.nodup hj
 rw[Nat.zero_add,←hname] at hfk
 have hpl:=hp.args f hf
 have hix:∀ h,z1t h 3 (.sl (s.preds.map z0p) .no) (.int .i64 (j:Int))=some (.iptr [.str f.name, .sl (f.args.map nat) .no,nat f.result] 0,h):=fun h=>by
  have h2:s.preds[j]=f:=by
   rw[List.getElem?_eq_some_iff] at hj
   exact hj.2
  rw[z7k hjl,h2]
 have e1:decide ((a.args.length:Int)=(f.args.length:Int))=true:=by rw[decide_eq_true_iff];omega
 simp only[go_sem,z0,z1,↓reduceIte,w4q,hB,z2y,z3y hB h1,b1,z3t,x3c hB h2,b2,q8u hfk,x1g,Bool.not_true,List.length_map,hix,e1]
 refine z0t (fun m q=>∃ (i:Nat),i≤a.args.length∧m=a.args.length - i∧q.ts 0= .ptr sC gC 0 0∧q.ts 2= .mp sX gX∧q.ts 7= .int .i64 (j:Int)∧q.ts 40= .sl (a.args.map z0g) .no∧q.ts 41= .int .i64 (a.args.length:Int)∧q.ts 42= .int .i64 (i:Int)∧∃ o,q.h=D++[o]) a.args.length ⟨0,by omega,rfl,rfl,rfl,by simp[z0b],rfl,rfl,rfl,_,rfl⟩ ?_
 rintro m ⟨ts,h,clk⟩ Pq ⟨i,hi,rfl,q0,q2,q7,q40,q41,q42,o,rfl⟩ hnx he hr
 dsimp only at q0 q2 q7 q40 q41 q42
 by_cases hlt':i < a.args.length
 ·have f1:decide ((i:Int) < (a.args.length:Int))=true:=by rw[decide_eq_true_iff];omega
  have f2:IntKind.i64.wrap ((i:Int) + 1)=((i + 1:Nat):Int):=z0c (by omega) (by omega)
  have hia:i < f.args.length:=by omega
  have hix2:∀ h,z1t h 1 (.sl (f.args.map nat) .no) (.int .i64 (i:Int))=some (.iptr [.int .i64 (f.args[i]:Int)] 0,h):=fun h=>q8e hia
  have hz:(f.args[i],a.args[i])∈f.args.zip a.args:=by
   have:(f.args.zip a.args)[i]? =some (f.args[i],a.args[i]):=by simp[List.getElem?_zip_eq_some,hia,hlt']
   exact List.mem_of_getElem? this
  obtain⟨hwf,hsz,hs1,hs4⟩:=hargs _ hz
  dsimp only at hwf hsz hs1 hs4
  have p1:=j8k hs1 hs4
  have p2:=j0l (sX:=sX) (gX:=gX) (u:= .no) hwf hV (by omega) (by omega)
  rw[nat] at p1 p2
  have hix3:∀ h,z1t h 1 (.sl (a.args.map z0g) .no) (.int .i64 (i:Int))=some (.iptr [.sl (a.args[i].map eNode) .no] 0,h):=fun h=>q1x hlt'
  have hh:Has [(sX, .map gX (z1e V))] (D++[o]):=fun p hp'=>hS.app p (by simp at hp';subst hp';simp)
  simp only[go_sem,z0,z1,↓reduceIte,j8d,q0,q2,q7,q40,q41,q42,f1,hB,hix3,z3y hB h1,b1,hix,hix2,z0a p1,Bool.not_true,z0w p2 hh,f2]
  exact hnx (a.args.length - (i + 1)) _ (by omega) ⟨i + 1,hlt',rfl,q0,q2,q7,q40,q41,rfl,o,rfl⟩
 ·have f1:decide ((i:Int) < (a.args.length:Int))=false:=by rw[decide_eq_false_iff_not];omega
  simp only[go_sem,z0,z1,↓reduceIte,j8d,q0,q2,q7,q40,q41,q42,f1]
  refine he _ _ ?_
  simp only[go_sem,z0,z1,↓reduceIte,]
  rw[z0f]
  exact hT _ hS.app
def z4b (l:List (List Nat)):List (AV×AV):=l.map fun a=>(.str a, .bool true)
theorem q8x {a:List Nat}:∀ {l:List (List Nat)},findKey (.one .str) (.str a) (z4b l)=some (if a∈l then some (.bool true) else none)
 | []=>rfl
 | b::l=>by
   have ih:=q8x (a:=a) (l:=l)
   unfold z4b at ih⊢
   simp only[List.map_cons,findKey,AV.eqv,AV.eq1]
   by_cases h:a=b
   ·subst h
    simp
   ·simp only[h,decide_false,ih,List.mem_cons,false_or]
theorem q5c {a:List Nat}:∀ {l:List (List Nat)},a∉l→z6u (.one .str) (.str a) (.bool true) (z4b l)=some (z4b (l++[a]))
 | [],_=>rfl
 | b::l,hn=>by
   rw[List.mem_cons,not_or] at hn
   have ih:=q5c (a:=a) (l:=l) hn.2
   unfold z4b at ih⊢
   simp only[List.map_cons,List.cons_append,z6u,AV.eqv,AV.eq1,hn.1,decide_false,ih,Option.map_some]
theorem q2f {h:List AObj} {z:AV} {a:List Nat} {l:List (List Nat)}:lkV h (.one .str) z false (some (z4b l)) (.str a)=some (q5z false z (if a∈l then some (.bool true) else none),h):=v3g q8x
theorem k3l {sC gC sP gP:Nat} {s:Sys} {V:List Var} {u:Tip} (hp:∀ p∈s.preds,∀ v∈z0o,p.name≠v.name) (hs:V.Sublist z0o):Reads [(sC,z4q gC s sP gP),(sP,z8q gP s)] 140 [.ptr sC gC 0 0, .sl (V.map z1p) u] (.bool true):=by
 have hV:∀ v∈V,v∈z0o:=fun v hv=>hs.mem hv
 have hnd:V.Nodup:=hs.nodup (by decide)
 have hVl:V.length≤8:=hs.length_le
 refine Reads.of rfl y2m rfl rfl rfl (az:=[.ptr sC gC 0 0, .sl (V.map z1p) .no]) rfl (by simpa [idsL,AV.ids,z0d z5x] using Cov.two q5b (x1i (gP:=gP) (s:=s))) fun D B clk T hB hS hlt hT=> ?_
 have h1:=hlt (sC,z4q gC s sP gP) (by simp)
 have h2:=hlt (sP,z8q gP s) (by simp)
 have b1:=z6l (g:=gC) (hS (sC,z4q gC s sP gP) (by simp))
 have b2:=j8j (g:=gP) (hS (sP,z8q gP s) (by simp))
 dsimp only at h1 h2 b1 b2
 simp only[go_sem,z0,z1,z2,z3,reduceCtorEq,↓reduceIte,w4o,hB,List.length_map]
 refine z0t (fun m q=>∃ (i g:Nat) (o:AObj),i≤V.length∧m=V.length - i∧q.ts 0= .ptr sC gC 0 0∧q.ts 5= .mp (B + 0) g∧q.ts 11= .sl (V.map z1p) .no∧q.ts 12= .int .i64 (V.length:Int)∧q.ts 13= .int .i64 (i:Int)∧q.h=D++[.map g (z4b ((V.take i).map (·.name))),o]) V.length ⟨0,_,_,by omega,rfl,rfl,rfl,rfl,rfl,rfl,rfl⟩ ?_
 rintro m ⟨ts,h,clk⟩ Pq ⟨i,g,o,hi,rfl,q0,q5,q11,q12,q13,rfl⟩ hnx he hr
 dsimp only at q0 q5 q11 q12 q13
 by_cases hlt':i < V.length
 ·have f1:decide ((i:Int) < (V.length:Int))=true:=by rw[decide_eq_true_iff];omega
  have f2:IntKind.i64.wrap ((i:Int) + 1)=((i + 1:Nat):Int):=z0c (by omega) (by omega)
  have hv:=List.getElem_mem hlt'
  have hix:∀ h,z1t h 2 (.sl (V.map z1p) .no) (.int .i64 (i:Int))=some (.iptr [.str V[i].name, .int .i64 (V[i].sort:Int)] 0,h):=fun h=>z3k hlt' rfl rfl
  have htake:V.take (i + 1)=V.take i++[V[i]]:=List.take_succ_eq_append_getElem hlt'
  have hnew:V[i].name∉(V.take i).map (·.name):=by
   intro hc
   obtain⟨w,hw,e⟩:=List.mem_map.1 hc
   have:w=V[i]:=x2z (hV w (List.mem_of_mem_take hw)) (hV _ hv) e
   subst this
   have h3:(V.take (i + 1)).Nodup:=hnd.sublist (List.take_sublist _ _)
   rw[htake,List.nodup_append] at h3
   exact h3.2.2 _ hw _ (by simp) rfl
  have hsort:=q4b (hV _ hv)
  have p1:=j8e (hV _ hv)
  have p2:=j8k hsort.1 hsort.2
  rw[nat] at p2
  have hnm:z4b ((V.take (i + 1)).map (·.name))=z4b ((V.take i).map (·.name)++[V[i].name]):=by rw[htake,List.map_append];rfl
  have hfp:=q1k (a:=V[i].name) (k:=0) (ps:=s.preds) fun p hp' e=>hp p hp' _ (hV _ hv) e
  generalize V[i]=v at *
  have hmu:∀ L:List AObj,z5f L 0 g=some (z4b ((V.take i).map (·.name)))→muV (D++L) (.one .str) (.str v.name) (.bool true) (.mp (B + 0) g)=some (.undef,D++L.set 0 (.map g (z4b ((V.take (i + 1)).map (·.name))))):=fun L hL=>by
   rw[hnm]
   exact j0i (v:= .bool true) hB hL rfl (q5c hnew)
  simp only[go_sem,z0,z1,z2,z3,reduceCtorEq,↓reduceIte,j8c,q0,q5,q11,q12,q13,f1,hB,hix,z3y hB h1,b1,z3t,x3c hB h2,b2,q8u hfp,z9t,q2f,hnew,z5y,z0a p1,Bool.not_true,z0a p2,hmu,f2]
  exact hnx (V.length - (i + 1)) _ (by omega) ⟨i + 1,g,_,hlt',rfl,q0,q5,q11,q12,rfl,rfl⟩
 ·have f1:decide ((i:Int) < (V.length:Int))=false:=by rw[decide_eq_false_iff_not];omega
  simp only[go_sem,z0,z1,z2,z3,reduceCtorEq,↓reduceIte,j8c,q0,q5,q11,q12,q13,f1]
  refine he _ _ ?_
  simp only[go_sem,z0,z1,z2,z3,reduceCtorEq,↓reduceIte,]
  rw[z0f]
  exact hT _ hS.app
theorem y2x {V:List Var} {u:Tip} {h:List AObj} {clk:Nat} {Q:AV→List AObj→Nat→Prop} (hs:V.Sublist z0o) (hQ:∀ g o c,Q (.mp h.length g) (h++[.map g (z1e V),o]) c):WC Gam 139 [.sl (V.map z1p) u] h clk Q:=by
 have hnd:V.Nodup:=hs.nodup (by decide)
 have hVl:V.length≤8:=hs.length_le
 refine q8r rfl y2l rfl rfl rfl (az:=[.sl (V.map z1p) .no]) rfl (by simp[idsL,AV.ids,z0d z5x]) fun D B R hB hBh hR=> ?_
 simp only[go_sem,z0,z1,z2,z3,reduceCtorEq,↓reduceIte,w4n,hB,List.length_map]
 refine z0t (fun m q=>∃ (i g:Nat) (o:AObj),i≤V.length∧m=V.length - i∧q.ts 3= .mp (B + 0) g∧q.ts 7= .sl (V.map z1p) .no∧q.ts 8= .int .i64 (V.length:Int)∧q.ts 9= .int .i64 (i:Int)∧q.h=D++[.map g (z1e (V.take i)),o]) V.length ⟨0,_,_,by omega,rfl,rfl,rfl,rfl,rfl,rfl⟩ ?_
 rintro m ⟨ts,h,clk⟩ Pq ⟨i,g,o,hi,rfl,q3,q7,q8,q9,rfl⟩ hnx he hr
 dsimp only at q3 q7 q8 q9
 by_cases hlt':i < V.length
 ·have f1:decide ((i:Int) < (V.length:Int))=true:=by rw[decide_eq_true_iff];omega
  have f2:IntKind.i64.wrap ((i:Int) + 1)=((i + 1:Nat):Int):=z0c (by omega) (by omega)
  have hix:∀ h,z1t h 2 (.sl (V.map z1p) .no) (.int .i64 (i:Int))=some (.iptr [.str V[i].name, .int .i64 (V[i].sort:Int)] 0,h):=fun h=>z3k hlt' rfl rfl
  have htake:V.take (i + 1)=V.take i++[V[i]]:=List.take_succ_eq_append_getElem hlt'
  have hnew:V[i]∉V.take i:=by
   intro hc
   have h3:(V.take (i + 1)).Nodup:=hnd.sublist (List.take_sublist _ _)
   rw[htake,List.nodup_append] at h3
   exact h3.2.2 _ hc _ (by simp) rfl
  generalize V[i]=v at *
  have hput:=x1h hnew
  have hmu:∀ L:List AObj,z5f L 0 g=some (z1e (V.take i))→muV (D++L) (.agg [.str, .int]) (.agg [.str v.name, .int .i64 (v.sort:Int)]) (.bool true) (.mp (B + 0) g)=some (.undef,D++L.set 0 (.map g (z1e (V.take (i + 1))))):=fun L hL=>by
   have hpub:pub (D++L) (.bool true)=some (.bool true,D++L):=rfl
   have he:((AV.agg [.str v.name, .int .i64 (v.sort:Int)]).eqv (.agg [.str, .int]) (.agg [.str v.name, .int .i64 (v.sort:Int)])).isSome=true:=by
    have:=x3d (v:=v) (w:=v)
    rw[show z1p v= .agg [.str v.name, .int .i64 (v.sort:Int)] from rfl] at this
    rw[this]
    rfl
   have hput':z6u (.agg [.str, .int]) (.agg [.str v.name, .int .i64 (v.sort:Int)]) (.bool true) (z1e (V.take i))=some (z1e (V.take (i + 1))):=by rw[htake];exact hput
   simp only[muV,x2h hB,hL,hpub,he,if_true,hput',Option.map_some,z5j hB]
  simp only[go_sem,z0,z1,z2,z3,reduceCtorEq,↓reduceIte,j8b,q3,q7,q8,q9,f1,hB,hix,hmu,f2]
  exact hnx (V.length - (i + 1)) _ (by omega) ⟨i + 1,g,_,hlt',rfl,q3,q7,q8,rfl,rfl⟩
 ·have f1:decide ((i:Int) < (V.length:Int))=false:=by rw[decide_eq_false_iff_not];omega
  have hti:V.take i=V:=List.take_of_length_le (by omega)
  simp only[go_sem,z0,z1,z2,z3,reduceCtorEq,↓reduceIte,j8b,q3,q7,q8,q9,f1]
  refine he _ _ ?_
  simp only[go_sem,z0,z1,z2,z3,reduceCtorEq,↓reduceIte,q3]
  rw[q4f rfl,hti]
  refine hR _ _ ⟨B + 0,by simp[z1o,AV.cv,AV.ids],by omega⟩ fun c=> ?_
  have:=hQ g o c
  rw[←hBh] at this
  exact this
mutual
theorem x3e:∀ (a:AV),a.beq a=true
 | .undef=>rfl
 | .int _ _=>by simp[AV.beq]
 | .bool _=>by simp[AV.beq]
 | .str _=>by simp[AV.beq]
 | .agg cs=>by simp[AV.beq,z8g cs]
 | .tup cs=>by simp[AV.beq,z8g cs]
 | .sl cs _=>by simp[AV.beq,z8g cs]
 | .ob .. =>by simp[AV.beq]
 | .ptr .. =>by simp[AV.beq]
 | .iptr cs _=>by simp[AV.beq,z8g cs]
 | .nilptr=>rfl
 | .mp .. =>by simp[AV.beq]
 | .nilmap=>rfl
 | .fn _ cs=>by simp[AV.beq,z8g cs]
 | .nilfn=>rfl
 | .nilif=>rfl
 | .bwd _ x=>by simp[AV.beq,x3e x]
theorem z8g:∀ (l:List AV),j0s l l=true
 | []=>rfl
 | a::l=>by simp[j0s,x3e a,z8g l]
end
theorem x5s:∀ (l:List (AV×AV)),k4i l l=true
 | []=>rfl
 | a::l=>by simp[k4i,x3e,x5s l]
theorem k3m:∀ (o:AObj),o.beq o=true
 | .dead=>rfl
 | .blk .. =>by simp[AObj.beq,z8g]
 | .tip .. =>by simp[AObj.beq]
 | .map .. =>by simp[AObj.beq,x5s]
theorem x5t {F:List Nat} {h:List AObj}:z3e F h h=(F,[]):=by
 unfold z3e
 simp[k3m]
theorem z6x {f base gg clk:Nat} {args:List AV} {S:List (Nat×AObj)} {h:List AObj} {v:AV} {m:Md} {dst:Option Nat} {os:List AOper} {ts:Tmps} {ks:List Kf} {Q:Post} (hr:Reads S f args v) (hh:Has S h)
  (hO:O Gam base (m.add (S.map (·.1),[])) (gg + 1) os ⟨z8n ts dst v,h,clk⟩ ks Q):CK Gam base f args h clk m dst gg os ts ks Q:=by
 obtain⟨⟨k,hk⟩,hF⟩:=hr h clk hh
 refine⟨k,v,h,clk,hk, ?_⟩
 dsimp only
 rw[x5t]
 exact j6e hF (by simp) hO
theorem z7m {sC gC sP gP:Nat} {s:Sys} {w k:Int}:Reads [(sC,z4q gC s sP gP),(sP,z8q gP s)] 94 [.ptr sC gC 0 0, .bool false, .int .i64 w, .int .i64 k] (.tup []):=by
 refine Reads.of rfl y2j rfl rfl rfl (az:=[.ptr sC gC 0 0, .bool false, .int .i64 w, .int .i64 k]) rfl (by simpa [idsL,AV.ids] using Cov.two q5b (x1i (gP:=gP) (s:=s))) fun D B clk T hB hS hlt hT=> ?_
 simp only[go_sem,z0,w4l]
 rw[z0h rfl rfl]
 exact hT _ hS.app
theorem Cov.five {s2 sC sP s5 sX g2 gC gP g5 gX:Nat} {s:Sys} {V:List Var} (h1:sC < sP) (h2:sP < s2) (h3:s2 < s5) (h4:s5 < sX):Cov [(s2, .blk g2 [.ptr sC gC 0 0] false false 0),(sC,z4q gC s sP gP),(sP,z8q gP s),(s5, .blk g5 [.mp sX gX] false false 0),(sX, .map gX (z1e V))] [s2,s5]:=by
 have i2:(AObj.blk g2 [.ptr sC gC 0 0] false false 0).ids=[sC]:=rfl
 have i5:(AObj.blk g5 [.mp sX gX] false false 0).ids=[sX]:=rfl
 refine⟨by simp,by simp[i2,i5,q5b,x1i,q1j],fun h hS p hp=> ?_⟩
 have a2:h[s2]? =some (.blk g2 [.ptr sC gC 0 0] false false 0):=hS (s2,_) (by simp)
 have aC:h[sC]? =some (z4q gC s sP gP):=hS (sC,z4q gC s sP gP) (by simp)
 have aP:h[sP]? =some (z8q gP s):=hS (sP,z8q gP s) (by simp)
 have a5:h[s5]? =some (.blk g5 [.mp sX gX] false false 0):=hS (s5,_) (by simp)
 have hX:=hS.lt (sX,_) (List.mem_cons_of_mem _ (List.mem_cons_of_mem _ (List.mem_cons_of_mem _ (List.mem_cons_of_mem _ List.mem_cons_self))))
 dsimp only at hX
 obtain⟨m,hm⟩:∃ m,h.length=m + 4:=⟨h.length - 4,by omega⟩
 have hr:reach h (h.length + 1) [] [s2,s5]=reach h (m + 1) [s5,sP,sC,s2] [sX]:=by
  rw[hm,z9q (by simp) a2,i2]
  rw[List.singleton_append,z9q (by simp;omega) aC,q5b]
  rw[List.singleton_append,z9q (by simp;omega) aP,x1i]
  rw[List.nil_append,z9q (by simp;omega) a5,i5]
  rfl
 rw[hr]
 simp at hp
 rcases hp with rfl | rfl | rfl | rfl | rfl <;> exact z6h (by simp)
theorem k3n {s2 sC sP s5 sX g2 gC gP g5 gX:Nat} {s:Sys} {a:App} {V:List Var} (hp:PrOk s.preds) (ha:AppOk s.preds V a) (hV:∀ v∈V,v∈z0o) (h1:sC < sP) (h2:sP < s2) (h3:s2 < s5) (h4:s5 < sX):
  Reads [(s2, .blk g2 [.ptr sC gC 0 0] false false 0),(sC,z4q gC s sP gP),(sP,z8q gP s),(s5, .blk g5 [.mp sX gX] false false 0),(sX, .map gX (z1e V))] 141 [z2y a, .ptr s2 g2 0 0, .ptr s5 g5 0 0] (.bool false):=by
 refine Reads.of rfl y2n rfl rfl rfl (az:=[z2y a, .ptr s2 g2 0 0, .ptr s5 g5 0 0]) rfl (by simpa [idsL,AV.ids,z4g] using Cov.five h1 h2 h3 h4) fun D B clk T hB hS hlt hT=> ?_
 have l2:=hlt (s2, .blk g2 [.ptr sC gC 0 0] false false 0) (by simp)
 have l5:=hlt (s5, .blk g5 [.mp sX gX] false false 0) (by simp)
 have b2:=z6l (g:=g2) (hS (s2, .blk g2 [.ptr sC gC 0 0] false false 0) (by simp))
 have b5:=z6l (g:=g5) (hS (s5, .blk g5 [.mp sX gX] false false 0) (by simp))
 dsimp only at l2 l5 b2 b5
 have hr:=j0m (sC:=sC) (gC:=gC) (sP:=sP) (gP:=gP) (sX:=sX) (gX:=gX) hp ha hV
 have hh:∀ L,Has [(sC,z4q gC s sP gP),(sP,z8q gP s),(sX, .map gX (z1e V))] (D++L):=fun L p hp'=>hS.app p (by simp at hp';rcases hp' with rfl | rfl | rfl <;> simp)
 rw[z2y] at hr
 simp only[go_sem,z0,z2,w4p,hB,z2y,z3y hB l2,b2,z3y hB l5,b5,z0w hr (hh _),Bool.not_true]
 rw[z0f]
 exact hT _ hS.app
theorem q8y {f base gg clk:Nat} {args:List AV} {h:List AObj} {m:Md} {dst:Option Nat} {os:List AOper} {ts:Tmps} {ks:List Kf} {Q:Post} (hf:z0v Gam f args h=[]) (hw:WC Gam f args h clk fun v h' c=>O Gam base (m.add ([],[])) (gg + 1) os ⟨z8n ts dst v,h',c⟩ ks Q):CK Gam base f args h clk m dst gg os ts ks Q:=by
 unfold CK
 rw[hf]
 exact hw
theorem k6l {T:List Nat} {R:AV→List AObj→Prop} {h:List AObj}:RV T (some []) R h=R (.tup []) h:=z0h rfl rfl
theorem k3o {sC gC sP gP i:Nat} {s:Sys} {c:Clause} (hp:PrOk s.preds) (hn:∀ p∈s.preds,∀ v∈z0o,p.name≠v.name) (hc:ClauseOk s.preds c) (hi:s.clauses[i]? =some c) (hlt1:sC < sP):Reads [(sC,z4q gC s sP gP),(sP,z8q gP s)] 95 [.ptr sC gC 0 0, .int .i64 (i:Int)] (.tup []):=by
 obtain⟨hsub,hbl,hbody,hguard,hhead⟩:=hc
 have hV:∀ v∈c.vars,v∈z0o:=fun v hv=>hsub.mem hv
 have hVl:c.vars.length≤8:=hsub.length_le
 refine Reads.of rfl y2k rfl rfl rfl (az:=[.ptr sC gC 0 0, .int .i64 (i:Int)]) rfl (by simpa [idsL,AV.ids] using Cov.two q5b (x1i (gP:=gP) (s:=s))) fun D B clk T hB hS hlt hT=> ?_
 have h1:=hlt (sC,z4q gC s sP gP) (by simp)
 have h2:=hlt (sP,z8q gP s) (by simp)
 have b1:=z6l (g:=gC) (hS (sC,z4q gC s sP gP) (by simp))
 dsimp only at h1 h2 b1
 have hil:i < s.clauses.length:=by
  rw[List.getElem?_eq_some_iff] at hi
  exact hi.1
 have hix:∀ h,z1t h 5 (.sl (s.clauses.map z0e) .no) (.int .i64 (i:Int))=some (.iptr [.sl (c.vars.map z1p) .no, .sl (c.body.map z2y) .no,AV.sl (c.guard.map eNode) .no, .str c.head.pred, .sl (c.head.args.map z0g) .no] 0,h):=fun h=>by
  have h2:s.clauses[i]=c:=by
   rw[List.getElem?_eq_some_iff] at hi
   exact hi.2
  rw[z3k (f:=z0e) hil (cs:=[.sl (c.vars.map z1p) .no, .sl (c.body.map z2y) .no,AV.sl (c.guard.map eNode) .no, .str c.head.pred, .sl (c.head.args.map z0g) .no]) (esz:=5) (by rw[h2];rfl) rfl]
 simp only[go_sem,z0,z1,z2,z3,reduceCtorEq,↓reduceIte,w4m,hB,z3y hB h1,b1,hix]
 refine z6i (y2x hsub fun gX oX c2=> ?_)
 have hlen:∀ a b c:AObj,(D++[a,b,c]).length=B + 3:=fun a b c=>by simp[hB]
 have hS2:∀ L,Has [(sC,z4q gC s sP gP),(sP,z8q gP s)] (D++L):=fun L=>hS.app
 have hSX:∀ a b d L,Has [(B + 3, .map gX (z1e c.vars))] (D++a::b::d:: .map gX (z1e c.vars)::L):=fun _ _ _ _=>x8e hB rfl
 have hS5:∀ g0 g2 b L,Has [(B + 0, .blk g0 [.ptr sC gC 0 0] false false 0),(sC,z4q gC s sP gP),(sP,z8q gP s),(B + 2, .blk g2 [.mp (B + 3) gX] false false 0),(B + 3, .map gX (z1e c.vars))] (D++ .blk g0 [.ptr sC gC 0 0] false false 0::b:: .blk g2 [.mp (B + 3) gX] false false 0:: .map gX (z1e c.vars)::L):=fun g0 g2 b L=>by
  refine Has.cons ?_ (Has.cons (hS2 _ (sC,z4q gC s sP gP) (by simp)) (Has.cons (hS2 _ (sP,z8q gP s) (by simp)) (Has.cons ?_ (Has.cons ?_ Has.nil))))
  ·dsimp only;rw[z5w hB];rfl
  ·dsimp only;rw[z5w hB];rfl
  ·dsimp only;rw[z5w hB];rfl
 have hS3:∀ a b d L,Has [(sC,z4q gC s sP gP),(sP,z8q gP s),(B + 3, .map gX (z1e c.vars))] (D++a::b::d:: .map gX (z1e c.vars)::L):=fun a b d L=>by
  refine Has.cons (hS2 _ (sC,z4q gC s sP gP) (by simp)) (Has.cons (hS2 _ (sP,z8q gP s) (by simp)) (hSX a b d L))
 have hd:∀ N,N=B + 5→sC < N∧sP < N:=fun N hN=>by omega
 simp only[go_sem,z0,z1,z2,z3,reduceCtorEq,↓reduceIte,hB,hlen,List.append_assoc,z1y,z7x]
 refine z6x (k3l hn hsub) (hS2 _) ?_
 simp only[go_sem,z0,z1,z2,z3,reduceCtorEq,↓reduceIte,Bool.not_true]
 refine z6x z7m (hS2 _) ?_
 simp only[go_sem,z0,z1,z2,z3,reduceCtorEq,↓reduceIte,hB]
 refine⟨by simp[z1r,apart,z0q,z1l,z1v,AOp.isCall,hB] <;> omega, ?_⟩
 have r93:∀ g0 g2,Reads [(B + 0, .blk g0 [.ptr sC gC 0 0] false false 0),(sC,z4q gC s sP gP),(sP,z8q gP s),(B + 2, .blk g2 [.mp (B + 3) gX] false false 0),(B + 3, .map gX (z1e c.vars))] 57 [.sl (c.body.map z2y) .no, .fn 141 [.ptr (B + 0) g0 0 0, .ptr (B + 2) g2 0 0]] (.bool false):=fun g0 g2=>by
  have:=x8d (enc:=z2y) (xs:=c.body) (t:= .no) (cap:=[.ptr (B + 0) g0 0 0, .ptr (B + 2) g2 0 0]) (P:=fun _=>false) (fun _=>rfl) (fun _ _=>rfl) z4g (by omega) (by simpa [idsL,AV.ids] using Cov.five (s2:=B + 0) (s5:=B + 2) (sX:=B + 3) (g2:=g0) (g5:=g2) (gC:=gC) (gP:=gP) (gX:=gX) (s:=s) (V:=c.vars) hlt1 (by omega) (by omega) (by omega)) fun a ha=>k3n hp (hbody a ha) hV hlt1 (by omega) (by omega) (by omega)
  have e:(c.body.any fun _=>false)=false:=by simp
  rw[e] at this
  exact this
 simp only[go_sem,z0,z1,z2,z3,reduceCtorEq,↓reduceIte,hB,z1y]
 refine z6x (r93 _ _) (hS5 _ _ _ _) ?_
 simp only[go_sem,z0,z1,z2,z3,reduceCtorEq,↓reduceIte,]
 refine z6x z7m (hS2 _) ?_
 simp only[go_sem,z0,z1,z2,z3,reduceCtorEq,↓reduceIte,hB]
 refine⟨by simp[z1r,apart,z0q,z1l,z1v,AOp.isCall,hB] <;> omega, ?_⟩
 have r175:Reads [(B + 3, .map gX (z1e c.vars))] 143 [.mp (B + 3) gX, .sl (c.guard.map eNode) .no, .int .i64 1] (.bool true):=j0l hguard.1 hV (by have:=hguard.2.1;omega) (by omega)
 simp only[go_sem,z0,z1,z2,z3,reduceCtorEq,↓reduceIte,hB,z1y]
 refine z6x r175 (hSX _ _ _ _) ?_
 simp only[go_sem,z0,z1,z2,z3,reduceCtorEq,↓reduceIte,Bool.not_true]
 refine z6x z7m (hS2 _) ?_
 simp only[go_sem,z0,z1,z2,z3,reduceCtorEq,↓reduceIte,hB]
 refine⟨by simp[z1r,apart,z0q,z1l,z1v,AOp.isCall,hB] <;> omega, ?_⟩
 have e1:decide ((400:Int) < (c.vars.length:Int))=false:=by rw[decide_eq_false_iff_not];omega
 have e2:decide ((8:Int) < (c.body.length:Int))=false:=by rw[decide_eq_false_iff_not];omega
 rcases hhead with ⟨hh1,hh2⟩ | hha
 ·simp only[go_sem,z0,z1,z2,z3,reduceCtorEq,↓reduceIte,hB,hh1,hh2,decide_true,List.length_map,Int.reduceLT,decide_false]
  rw[z0w z7m (hS2 _)]
  simp only[go_sem,z0,z1,z2,z3,reduceCtorEq,↓reduceIte,hB,List.length_map,e1,e2]
  rw[z0w z7m (hS2 _)]
  simp only[go_sem,z0,z1,z2,z3,reduceCtorEq,↓reduceIte,]
  rw[k6l]
  exact hT _ hS.app
 ·have hne:decide (c.head.pred=[])=false:=by
   obtain⟨f,hf,hname,_,_⟩:=hha
   rw[decide_eq_false_iff_not,hname]
   exact hp.name f hf
  have r174:=j0m (sC:=sC) (gC:=gC) (sP:=sP) (gP:=gP) (sX:=B + 3) (gX:=gX) hp hha hV
  rw[z2y] at r174
  simp only[go_sem,z0,z1,z2,z3,reduceCtorEq,↓reduceIte,hB,hne,z1y]
  refine z6x r174 (hS3 _ _ _ _) ?_
  simp only[go_sem,z0,z1,z2,z3,reduceCtorEq,↓reduceIte,Bool.not_true]
  refine z6x z7m (hS2 _) ?_
  simp only[go_sem,z0,z1,z2,z3,reduceCtorEq,↓reduceIte,hB]
  refine⟨by simp[z1r,apart,z0q,z1l,z1v,AOp.isCall,hB] <;> omega, ?_⟩
  simp only[go_sem,z0,z1,z2,z3,reduceCtorEq,↓reduceIte,hB,List.length_map,e1,e2]
  rw[z0w z7m (hS2 _)]
  simp only[go_sem,z0,z1,z2,z3,reduceCtorEq,↓reduceIte,]
  rw[k6l]
  exact hT _ hS.app
structure SysV (s:Sys):Prop where
 preds:s.preds.Sublist allPreds
 len:s.clauses.length≤8
 clauses:∀ c∈s.clauses,ClauseOk s.preds c
theorem SysOk.v {s:Sys} (h:SysOk s):SysV s:=by
 obtain⟨⟨n,_,_,hp⟩,hl,hc⟩:=h
 exact⟨by rw[hp];exact List.take_sublist _ _,hl,hc⟩
theorem SysV.pr {s:Sys} (h:SysV s):PrOk s.preds:=by
 refine⟨(h.preds.map _).nodup (by decide),fun f hf=> ?_,fun f hf=> ?_⟩
 ·have:∀ f∈allPreds,f.args.length≤40∧∀ s∈f.args,1≤s∧s≤4:=by decide
  exact this f (h.preds.mem hf)
 ·have:∀ f∈allPreds,f.name≠[]:=by decide
  exact this f (h.preds.mem hf)
theorem SysV.apart {s:Sys} (h:SysV s):∀ p∈s.preds,∀ v∈z0o,p.name≠v.name:=fun p hp=>by
 have:∀ p∈allPreds,∀ v∈z0o,p.name≠v.name:=by decide
 exact this p (h.preds.mem hp)
theorem y2y {ps:List Func} {u:Tip} {h:List AObj} {clk:Nat} {Q:AV→List AObj→Nat→Prop} (hp:PrOk ps) (hl:ps.length≤1000) (hQ:∀ g o c,Q (.mp h.length g) (h++[.map g (z3u 0 ps),o]) c):WC Gam 90 [.sl (ps.map z0p) u] h clk Q:=by
 refine q8r rfl w4i rfl rfl rfl (az:=[.sl (ps.map z0p) .no]) rfl (by simp[idsL,AV.ids,z0d z2u]) fun D B R hB hBh hR=> ?_
 simp only[go_sem,z0,z1,z2,z3,reduceCtorEq,↓reduceIte,w4h,hB,List.length_map]
 refine z0t (fun m q=>∃ (i g:Nat) (o:AObj),i≤ps.length∧m=ps.length - i∧q.ts 3= .mp (B + 0) g∧q.ts 9= .sl (ps.map z0p) .no∧q.ts 10= .int .i64 (ps.length:Int)∧q.ts 11= .int .i64 (i:Int)∧q.h=D++[.map g (z3u 0 (ps.take i)),o]) ps.length ⟨0,_,_,by omega,rfl,rfl,rfl,rfl,rfl,rfl⟩ ?_
 rintro m ⟨ts,h,clk⟩ Pq ⟨i,g,o,hi,rfl,q3,q9,q10,q11,rfl⟩ hnx he hr
 dsimp only at q3 q9 q10 q11
 by_cases hlt':i < ps.length
 ·have f1:decide ((i:Int) < (ps.length:Int))=true:=by rw[decide_eq_true_iff];omega
  have f2:IntKind.i64.wrap ((i:Int) + 1)=((i + 1:Nat):Int):=z0c (by omega) (by omega)
  have hix:∀ h,z1t h 3 (.sl (ps.map z0p) .no) (.int .i64 (i:Int))=some (.iptr [.str ps[i].name, .sl (ps[i].args.map nat) .no, .int .i64 (ps[i].result:Int)] 0,h):=fun h=>z7k hlt'
  have htake:ps.take (i + 1)=ps.take i++[ps[i]]:=List.take_succ_eq_append_getElem hlt'
  have hnew:∀ p∈ps.take i,p.name≠ps[i].name:=by
   intro p hp' e
   have h3:=hp.nodup
   have h4:((ps.take (i + 1)).map (·.name)).Nodup:=h3.sublist ((List.take_sublist _ _).map _)
   rw[htake,List.map_append,List.nodup_append] at h4
   exact h4.2.2 _ (List.mem_map.2 ⟨p,hp',rfl⟩) _ (by simp) e
  have hput:=q8w (a:=ps[i].name) (n:=i) (ps:=ps.take i) (k:=0) (r:=ps[i].args) (q:=ps[i].result) hnew (by simp;omega)
  have hfk:=q1k (a:=ps[i].name) (k:=0) hnew
  generalize ps[i]=p at *
  have hmu:∀ L:List AObj,z5f L 0 g=some (z3u 0 (ps.take i))→muV (D++L) (.one .str) (.str p.name) (.int .i64 (i:Int)) (.mp (B + 0) g)=some (.undef,D++L.set 0 (.map g (z3u 0 (ps.take (i + 1))))):=fun L hL=>by
   refine j0i (v:= .int .i64 (i:Int)) hB hL rfl ?_
   rw[htake]
   exact hput
  simp only[go_sem,z0,z1,z2,z3,reduceCtorEq,↓reduceIte,j8a,q3,q9,q10,q11,f1,hB,hix,z3t,q8u hfk,z9t,Bool.not_false,hmu,f2]
  exact hnx (ps.length - (i + 1)) _ (by omega) ⟨i + 1,g,_,hlt',rfl,q3,q9,q10,rfl,rfl⟩
 ·have f1:decide ((i:Int) < (ps.length:Int))=false:=by rw[decide_eq_false_iff_not];omega
  have hti:ps.take i=ps:=List.take_of_length_le (by omega)
  simp only[go_sem,z0,z1,z2,z3,reduceCtorEq,↓reduceIte,j8a,q3,q9,q10,q11,f1]
  refine he _ _ ?_
  simp only[go_sem,z0,z1,z2,z3,reduceCtorEq,↓reduceIte,q3]
  rw[q4f rfl,hti]
  refine hR _ _ ⟨B + 0,by simp[z1o,AV.cv,AV.ids],by omega⟩ fun c=> ?_
  have:=hQ g o c
  rw[←hBh] at this
  exact this
theorem v3l {f:Func} (hf:f∈allPreds):Pure Gam 92 [z0p f] (.bool false):=by
 refine Pure.tab (tab:=x8t) rfl rfl ?_
 simp only[allPreds,List.mem_cons,List.not_mem_nil,or_false] at hf
 rcases hf with rfl | rfl | rfl | rfl | rfl <;> rfl
theorem Cov.none:Cov [] []:=⟨by simp,by simp,fun h _ p hp=>by simp at hp⟩
theorem j8l {ps:List Func} (hp:ps.Sublist allPreds):Reads [] 91 [.sl (ps.map z0p) .no, .fn 92 []] (.bool false):=by
 have:=k3b (enc:=z0p) (xs:=ps) (S:=[]) (c:=92) (cap:=[]) (t:= .no) (P:=fun _=>false) (fun _=>rfl) (fun _ _=>rfl) z2u (by have:=hp.length_le;simp[allPreds] at this;omega) Cov.none fun f hf=>(v3l (hp.mem hf)).reads
 have e:(ps.any fun _=>false)=false:=by simp
 rw[e] at this
 exact this
theorem v3m {h:List AObj} {s g:Nat}:k4n h .mp (.mp s g)=((z5f h s g).map fun es=>(.int .i64 (es.length:Int))).map (·,h):=(rfl)
theorem w4y {s:Sys} (hs:SysV s):Pure Gam 44 [z1u s] (.sl [] .no):=by
 have hpr:=hs.pr
 have hpl:s.preds.length≤5:=hs.preds.length_le
 have hcl:=hs.len
 refine Pure.of rfl y8y rfl rfl rfl (az:=[z1u s]) rfl (by simp[idsL,z2r]) fun D B clk T hB hT=> ?_
 simp only[go_sem,z0,z1,z2,z3,reduceCtorEq,↓reduceIte,y5m,hB,z1u,z1y]
 refine q8y ?_ (y2y hpr (by omega) fun gP oP c2=> ?_)
 ·refine q0h (az:=[.sl (s.preds.map z0p) .no]) w4i rfl rfl rfl (by simp[idsL,AV.ids,z0d z2u])
 have hlen:∀ a b:AObj,(D++[a,b]).length=B + 2:=fun a b=>by simp[hB]
 simp only[go_sem,z0,z1,z2,z3,reduceCtorEq,↓reduceIte,hB,hlen,List.append_assoc]
 refine⟨by simp[z1r,apart,z0q,z1l,z1v,AOp.isCall], ?_⟩
 have hS:∀ g a o,Has [(B + 1,z4q g s (B + 2) gP),(B + 2,z8q gP s)] (D++[a, .blk g [.agg [.sl (s.preds.map z0p) .no, .sl (s.clauses.map z0e) .no, .mp (B + 2) gP, .sl [] .nil]] false false 0, .map gP (z3u 0 s.preds),o]):=fun g a o=>by
  refine Has.cons ?_ (Has.cons ?_ Has.nil)
  ·dsimp only;rw[z5w hB];rfl
  ·dsimp only;rw[z5w hB];rfl
 have r118:=j8l hs.preds
 have e1:decide ((s.preds.length:Int) < (s.preds.length:Int))=false:=by rw[decide_eq_false_iff_not];omega
 have e2:decide ((512:Int) < (s.preds.length:Int))=false:=by rw[decide_eq_false_iff_not];omega
 have e3:decide ((2048:Int) < (s.clauses.length:Int))=false:=by rw[decide_eq_false_iff_not];omega
 simp only[v3m,x2h hB,x9q,x9p,Option.map_some,x8i]
 simp only[go_sem,z0,z1,z2,z3,reduceCtorEq,↓reduceIte,hB,List.length_map,e1,z0w r118 Has.nil,decide_false,Int.lt_irrefl]
 rw[z0w z7m (hS _ _ _)]
 simp only[go_sem,z0,z1,z2,z3,reduceCtorEq,↓reduceIte,hB,List.length_map,e2,e3]
 rw[z0w z7m (hS _ _ _)]
 simp only[go_sem,z0,z1,z2,z3,reduceCtorEq,↓reduceIte,hB,List.length_map]
 refine z0t (fun m q=>∃ (i gC:Nat) (a:AObj),i≤s.clauses.length∧m=s.clauses.length - i∧q.ts 3= .ptr (B + 1) gC 0 0∧q.ts 43= .int .i64 (s.clauses.length:Int)∧q.ts 44= .int .i64 (i:Int)∧q.h=D++[a, .blk gC [.agg [.sl (s.preds.map z0p) .no, .sl (s.clauses.map z0e) .no, .mp (B + 2) gP, .sl [] .nil]] false false 0, .map gP (z3u 0 s.preds),oP]) s.clauses.length ⟨0,_,_,by omega,rfl,by simp[z0b],by simp[z0b],by simp[z0b],rfl⟩ ?_
 rintro m ⟨ts,h,clk⟩ Pq ⟨i,gC,a,hi,rfl,q3,q43,q44,rfl⟩ hnx he hr
 dsimp only at q3 q43 q44
 by_cases hlt':i < s.clauses.length
 ·have f1:decide ((i:Int) < (s.clauses.length:Int))=true:=by rw[decide_eq_true_iff];omega
  have f2:IntKind.i64.wrap ((i:Int) + 1)=((i + 1:Nat):Int):=z0c (by omega) (by omega)
  have r122:=k3o (sC:=B + 1) (gC:=gC) (sP:=B + 2) (gP:=gP) (i:=i) (c:=s.clauses[i]) hpr hs.apart (hs.clauses _ (List.getElem_mem hlt')) (by simp[hlt']) (by omega)
  simp only[go_sem,z0,z1,z2,z3,reduceCtorEq,↓reduceIte,v3a,q3,q43,q44,f1,z0w r122 (hS _ _ _),f2]
  exact hnx (s.clauses.length - (i + 1)) _ (by omega) ⟨i + 1,gC,a,hlt',rfl,q3,q43,rfl,rfl⟩
 ·have f1:decide ((i:Int) < (s.clauses.length:Int))=false:=by rw[decide_eq_false_iff_not];omega
  simp only[go_sem,z0,z1,z2,z3,reduceCtorEq,↓reduceIte,v3a,q3,q43,q44,f1]
  refine he _ _ ?_
  simp only[go_sem,z0,z1,z2,z3,reduceCtorEq,↓reduceIte,q3,hB]
  rw[z0h rfl rfl]
  exact hT _
theorem k6m {s:Sys} (hs:SysV s):Pure Gam 18 [z1u s] (.bool true):=by
 have hp:=w4y hs
 rw[z1u] at hp
 refine Pure.of rfl y8x rfl rfl rfl (az:=[z1u s]) rfl (by simp[idsL,z2r]) fun D B clk T hB hT=> ?_
 simp only[go_sem,z0,z2,y5l,hB,z1u,z0a hp,Int.reduceEq,decide_true]
 rw[z0f]
 exact hT _
def z2d (body:List App) (l:List (List Nat)):Bool:=body.all fun a=>decide (a.pred∈l)
inductive Der (cs:List Clause):List Nat→Prop
 | of {c:Clause} (hc:c∈cs) (hh:c.head.pred≠[]) (hb:∀ a∈c.body,Der cs a.pred):Der cs c.head.pred
def q8z (c:Clause) (l:List (List Nat)):Prop:=c.head.pred≠[]→z2d c.body l=true→c.head.pred∈l
theorem z3o {body:List App} {l:List (List Nat)}:z2d body l=true↔∀ a∈body,a.pred∈l:=by simp[z2d]
theorem v3n {cs:List Clause} {l:List (List Nat)} (hc:∀ c∈cs,q8z c l) {a:List Nat} (h:Der cs a):a∈l:=by
 induction h with
 | of hc' hh hb ih=>exact hc _ hc' hh (z3o.2 ih)
def q5d (cs:List Clause) (l:List (List Nat)):Nat:=(cs.filter fun c=>decide (c.head.pred∉l)).length
theorem v3o {cs:List Clause} {l l':List (List Nat)} (h:∀ a∈l,a∈l'):q5d cs l'≤q5d cs l:=by
 unfold q5d
 rw[←List.countP_eq_length_filter,←List.countP_eq_length_filter]
 refine List.countP_mono_left fun c _ hc=> ?_
 simp only[decide_eq_true_eq] at hc⊢
 exact fun h'=>hc (h _ h')
theorem v3p {cs:List Clause} {l:List (List Nat)} {c:Clause} (hc:c∈cs) (hn:c.head.pred∉l):q5d cs (l++[c.head.pred]) < q5d cs l:=by
 unfold q5d
 induction cs with
 | nil=>simp at hc
 | cons d cs ih=>
   have hle:∀ ds:List Clause,(ds.filter fun c'=>decide (c'.head.pred∉l++[c.head.pred])).length≤(ds.filter fun c'=>decide (c'.head.pred∉l)).length:=fun ds=>v3o (cs:=ds) (fun a ha=>List.mem_append_left _ ha)
   rw[List.mem_cons] at hc
   rcases hc with rfl | hc
   ·have:=hle cs
    simp[List.filter_cons,hn]
    simp at this
    omega
   ·have:=ih hc
    simp only[List.filter_cons]
    have h2:=hle [d]
    simp only[List.filter_cons,List.filter_nil] at h2
    split <;> split <;> simp_all <;> omega
theorem z6r {l:List Clause} {i:Nat} {h:List AObj} {t:Tip} {k:IntKind} (hi:i < l.length):z1t h 5 (.sl (l.map z0e) t) (.int k (i:Int))=some (.iptr [.sl (l[i].vars.map z1p) .no, .sl (l[i].body.map z2y) .no, .sl (l[i].guard.map eNode) .no, .str l[i].head.pred, .sl (l[i].head.args.map z0g) .no] 0,h):=z3k hi rfl rfl
inductive Need (cs:List Clause) (Dv:List Nat→Prop):List Nat→Prop
 | query {c:Clause} {a:App} (hc:c∈cs) (hh:c.head.pred=[]) (hb:∀ a∈c.body,Dv a.pred) (ha:a∈c.body):Need cs Dv a.pred
 | of {c:Clause} {a:App} (hc:c∈cs) (hh:Need cs Dv c.head.pred) (hb:∀ a∈c.body,Dv a.pred) (ha:a∈c.body):Need cs Dv a.pred
def q9a (dl:List (List Nat)) (c:Clause) (l:List (List Nat)):Prop:=(c.head.pred=[]∨c.head.pred∈l)→z2d c.body dl=true→z2d c.body l=true
theorem k3p {cs:List Clause} {dl l:List (List Nat)} {Dv:List Nat→Prop} (hd:∀ a,a∈dl↔Dv a) (hc:∀ c∈cs,q9a dl c l) {a:List Nat} (h:Need cs Dv a):a∈l:=by
 induction h with
 | query hc' hh hb ha=>exact z3o.1 (hc _ hc' (.inl hh) (z3o.2 fun a ha=>(hd _).2 (hb a ha))) _ ha
 | of hc' hh hb ha ih=>exact z3o.1 (hc _ hc' (.inr ih) (z3o.2 fun a ha=>(hd _).2 (hb a ha))) _ ha
def q2y (cs:List Clause) (l:List (List Nat)):Nat:=(cs.filter fun c=> !z2d c.body l).length
theorem j0n {cs:List Clause} {l l':List (List Nat)} (h:∀ a∈l,a∈l'):q2y cs l'≤q2y cs l:=by
 unfold q2y
 rw[←List.countP_eq_length_filter,←List.countP_eq_length_filter]
 refine List.countP_mono_left fun c _ hc=> ?_
 simp only[Bool.not_eq_true'] at hc⊢
 cases hw:z2d c.body l with
 | false=>rfl
 | true=>
   have:z2d c.body l'=true:=z3o.2 fun a ha=>h _ (z3o.1 hw a ha)
   rw[this] at hc
   cases hc
theorem k3q {cs:List Clause} {l l':List (List Nat)} {c:Clause} (hc:c∈cs) (hn:z2d c.body l=false) (hn':z2d c.body l'=true) (h:∀ a∈l,a∈l'):q2y cs l' < q2y cs l:=by
 unfold q2y
 induction cs with
 | nil=>simp at hc
 | cons d cs ih=>
   have hle:=j0n (cs:=cs) h
   unfold q2y at hle
   rw[List.mem_cons] at hc
   rcases hc with rfl | hc
   ·simp only[List.filter_cons,hn,hn',Bool.not_true,Bool.not_false,if_true,Bool.false_eq_true,if_false,List.length_cons]
    omega
   ·have:=ih hc
    have h2:=j0n (cs:=[d]) h
    unfold q2y at h2
    simp only[List.filter_cons,List.filter_nil] at h2⊢
    split <;> split <;> simp_all <;> omega
def v3q (l:List (List Nat)) (a:List Nat):List (List Nat):=if a∈l then l else l++[a]
theorem k3r {l:List (List Nat)} {a b:List Nat}:b∈v3q l a↔b∈l∨b=a:=by
 unfold v3q
 split
 ·rename_i h
  constructor
  ·exact .inl
  ·rintro (h2 | rfl)
   ·exact h2
   ·exact h
 ·rw[List.mem_append,List.mem_singleton]
def z8h (l:List (List Nat)) (b:List App):List (List Nat):=b.foldl (fun l a=>v3q l a.pred) l
theorem z7q {b:List App}:∀ {l:List (List Nat)} {x:List Nat},x∈z8h l b↔x∈l∨∃ a∈b,x=a.pred:=by
 induction b with
 | nil=>intro l x;simp[z8h]
 | cons c b ih=>
   intro l x
   have:z8h l (c::b)=z8h (v3q l c.pred) b:=rfl
   rw[this,ih,k3r]
   simp only[List.mem_cons,exists_eq_or_imp,or_assoc]
theorem x8j {b:List App} {l:List (List Nat)} {i:Nat} (hi:i < b.length):z8h l (b.take (i + 1))=v3q (z8h l (b.take i)) b[i].pred:=by
 unfold z8h
 rw[List.take_succ_eq_append_getElem hi,List.foldl_append]
 rfl
structure Tf where
 kind:Int
 pred:List Nat
 into:List Nat
 clause:Int
 atom:Int
 un:List (List Nat)
 und:List (List Nat)
 drops:List AV
def z1m (l:List (List Nat)):List AV:=l.map AV.str
def eTf (x:Tf):AV:= .agg [.int .i64 x.kind, .str x.pred, .str x.into, .int .i64 x.clause, .int .i64 x.atom, .sl (z1m x.un) .no, .sl (z1m x.und) .no, .sl x.drops .no]
theorem z2p {l:List (List Nat)}:idsL (z1m l)=[]:=z0d fun _=>rfl
theorem z1n {l:List (List Nat)}:z0u 1 (z1m l)=true:=z3q fun _=>⟨rfl,rfl,rfl⟩
def q9y (ps:List Func) (dl:List (List Nat)):List (List Nat):=(ps.map (·.name)).filter fun a=>decide (a∉dl)
def j9p (ps:List Func) (dl nl:List (List Nat)):List (List Nat):=(ps.map (·.name)).filter fun a=>decide (a∈dl∧a∉nl)
theorem j8m {ps:List Func} {dl:List (List Nat)}:(q9y ps dl).length≤ps.length:=by
 have:=List.length_filter_le (fun a=>decide (a∉dl)) (ps.map (·.name))
 simpa [q9y] using this
theorem k3s {ps:List Func} {dl nl:List (List Nat)}:(j9p ps dl nl).length≤ps.length:=by
 have:=List.length_filter_le (fun a=>decide (a∈dl∧a∉nl)) (ps.map (·.name))
 simpa [j9p] using this
open Classical in
noncomputable def z1i (s:Sys):Tf:=⟨2,[],[],0,0,(s.preds.map (·.name)).filter fun a=>decide (Der s.clauses a∧¬ Need s.clauses (Der s.clauses) a),(s.preds.map (·.name)).filter fun a=>decide (¬ Der s.clauses a),[]⟩
open Classical in
theorem k3t {s:Sys} {dl:List (List Nat)} (hd:∀ a,a∈dl↔Der s.clauses a):q9y s.preds dl=(z1i s).und:=by
 unfold q9y z1i
 refine List.filter_congr fun a _=> ?_
 rw[Bool.eq_iff_iff,decide_eq_true_iff,decide_eq_true_iff,hd]
open Classical in
theorem v3r {s:Sys} {dl nl:List (List Nat)} (hd:∀ a,a∈dl↔Der s.clauses a) (hn:∀ a,a∈nl↔Need s.clauses (Der s.clauses) a):j9p s.preds dl nl=(z1i s).un:=by
 unfold j9p z1i
 refine List.filter_congr fun a _=> ?_
 rw[Bool.eq_iff_iff,decide_eq_true_iff,decide_eq_true_iff,hd,hn]
theorem q0l {l:List Func} {i:Nat} {h:List AObj} {t:Tip} {k:IntKind} (hi:i < l.length):z1t h 3 (.sl (l.map z0p) t) (.int k (i:Int))=some (.iptr [.str l[i].name, .sl (l[i].args.map nat) .no, .int .i64 (l[i].result:Int)] 0,h):=z7k hi
theorem w4z {l:List (List Nat)} {a:List Nat} {u:Tip} (hl:l.length≤2 ^ 20):∃ r:Int,decide (0≤r)=decide (a∈l)∧Pure Gam 102 [.sl (z1m l) u, .str a] (.int .i64 r):=by
 have key:∀ n,n≤l.length→∃ r:Int,decide (0≤r)=decide (a∈l.drop (l.length - n))∧∀ (D L:List AObj) (B clk:Nat) (ks:List Kf) (ts:Tmps) (Q:Post),ts 0= .sl (z1m l) .no→ts 1= .str a→ts 7= .int .i64 (l.length:Int)→ts 8= .int .i64 ((l.length - n:Nat):Int)→
   (∀ ts' clk',ts' 4= .int .i64 r→K Gam B .ret ks ⟨ts',D++L,clk'⟩ Q)→(r= -1→∀ ts' clk',K Gam B (.exit 0) ks ⟨ts',D++L,clk'⟩ Q)→K Gam B (.loop j7y) ks ⟨ts,D++L,clk⟩ Q:=by
  intro n
  induction n with
  | zero=>
    intro _
    refine⟨-1,by simp,fun D L B clk ks ts Q h0 h1 h7 h8 _ hx=> ?_⟩
    have e1:decide (((l.length - 0:Nat):Int) < (l.length:Int))=false:=by rw[decide_eq_false_iff_not];omega
    refine z2v ?_
    simp only[go_sem,z0,h0,h1,h7,h8,j7y,e1]
    exact hx rfl _ _
  | succ n ih=>
    intro hn
    have hk:l.length - (n + 1) < l.length:=by omega
    have hdr:l.drop (l.length - (n + 1))=l[l.length - (n + 1)]::l.drop (l.length - n):=by
     rw[List.drop_eq_getElem_cons hk]
     congr 2
     omega
    have e1:decide (((l.length - (n + 1):Nat):Int) < (l.length:Int))=true:=by rw[decide_eq_true_iff];omega
    have hidx:∀ h,z1t h 1 (.sl (z1m l) .no) (.int .i64 ((l.length - (n + 1):Nat):Int))=some (.iptr [.str l[l.length - (n + 1)]] 0,h):=fun h=>z5c (e:= .str l[l.length - (n + 1)]) (by simp[z1m,hk]) rfl
    generalize l[l.length - (n + 1)]=x at hdr hidx
    by_cases hax:a=x
    ·subst hax
     refine⟨((l.length - (n + 1):Nat):Int), ?_,fun D L B clk ks ts Q h0 h1 h7 h8 hr _=> ?_⟩
     ·rw[hdr]
      simp
     ·refine z2v ?_
      simp only[go_sem,z0,h0,h1,h7,h8,j7y,e1,hidx,decide_true]
      exact hr _ _ (by simp[z0b])
    ·have e3:decide (a=x)=false:=by rw[decide_eq_false_iff_not];exact hax
     obtain⟨r,h1',h2'⟩:=ih (by omega)
     refine⟨r,by rw[h1',hdr];simp[hax],fun D L B clk ks ts Q h0 h1 h7 h8 hr hx=> ?_⟩
     have e2:IntKind.i64.wrap (((l.length - (n + 1):Nat):Int) + 1)=((l.length - n:Nat):Int):=by rw[z0c (by omega) (by omega)];omega
     refine z2v ?_
     simp only[go_sem,z0,h0,h1,h7,h8,j7y,e1,hidx,e3,e2]
     exact h2' D L B _ ks _ Q (by simp[z0b,h0]) (by simp[z0b,h1]) (by simp[z0b,h7]) (by simp[z0b]) hr hx
 obtain⟨r,h1,h2⟩:=key l.length (Nat.le_refl _)
 rw[Nat.sub_self,List.drop_zero] at h1
 refine⟨r,h1,Pure.of rfl y8r rfl rfl rfl (az:=[.sl (z1m l) .no, .str a]) rfl (by simp[idsL,AV.ids,z2p]) fun D B clk T hB hT=> ?_⟩
 have hsl:(z1m l).length=l.length:=List.length_map _
 simp only[go_sem,z0,y5f,hsl]
 refine h2 D _ B _ _ _ _ (by simp[z0b,z2m]) (by simp[z0b,z6o,z2m]) (by simp[z0b]) (by simp[z0b]) (fun ts' clk' q4=> ?_) (fun hr0 ts' clk'=> ?_)
 ·simp only[go_sem,z0,q4]
  rw[z2h]
  exact hT _
 ·simp only[go_sem,z0,]
  rw[z2h,←hr0]
  exact hT _
theorem x5u {l:List (List Nat)} {a:List Nat} {u:Tip} (hl:l.length≤2 ^ 20):Pure Gam 55 [.sl (z1m l) u, .str a] (.bool (decide (a∈l))):=by
 obtain⟨r,h1,h2⟩:=w4z (a:=a) (u:= .no) hl
 refine Pure.of rfl y8q rfl rfl rfl (az:=[.sl (z1m l) .no, .str a]) rfl (by simp[idsL,AV.ids,z2p]) fun D B clk T hB hT=> ?_
 simp only[go_sem,z0,y5e,z0a h2,h1]
 rw[z0f]
 exact hT _
theorem w5a {ps:List Func} {u:Tip} (hl:ps.length≤1000):Pure Gam 101 [.sl (ps.map z0p) u] (.sl (z1m (ps.map (·.name))) .no):=by
 refine Pure.of rfl y8p rfl rfl rfl (az:=[.sl (ps.map z0p) .no]) rfl (by simp[idsL,AV.ids,z0d z2u]) fun D B clk T hB hT=> ?_
 simp only[go_sem,z0,z1,z2,z3,reduceCtorEq,↓reduceIte,y5d,List.length_map]
 refine z0t (fun m q=>∃ (i:Nat) (t:Tip) (a b o:AObj),i≤ps.length∧m=ps.length - i∧q.ts 3= .sl (z1m ((ps.take i).map (·.name))) t∧q.ts 6= .sl (ps.map z0p) .no∧q.ts 7= .int .i64 (ps.length:Int)∧q.ts 8= .int .i64 (i:Int)∧q.h=D++[a,b,o]∧q3t B 2 o t 1) ps.length ⟨0, .nil,_,_,_,by omega,rfl,rfl,rfl,rfl,rfl,rfl, .inl rfl⟩ ?_
 rintro m ⟨ts,h,clk⟩ P ⟨i,t,a,b,o,hi,rfl,q3,q6,q7,q8,rfl,ht⟩ hnx he hr
 dsimp only at q3 q6 q7 q8
 by_cases hlt:i < ps.length
 ·have f1:decide ((i:Int) < (ps.length:Int))=true:=by rw[decide_eq_true_iff];omega
  have f2:IntKind.i64.wrap ((i:Int) + 1)=((i + 1:Nat):Int):=z0c (by omega) (by omega)
  have hix:=fun h=>q0l (l:=ps) (i:=i) (h:=h) (t:= .no) (k:= .i64) hlt
  have htake:ps.take (i + 1)=ps.take i++[ps[i]]:=List.take_succ_eq_append_getElem hlt
  have e8:z1m ((ps.take i).map (·.name))++z1m [ps[i].name]=z1m ((ps.take (i + 1)).map (·.name)):=by rw[htake,z1m,z1m,z1m,List.map_append,List.map_append];rfl
  generalize ps[i]=f at *
  simp only[go_sem,z0,z1,z2,z3,reduceCtorEq,↓reduceIte,v2x,q3,q6,q7,q8,hB,f1,hix]
  rw[show [AV.str f.name]=z1m [f.name] from rfl,z0s hB rfl ht z1n z1n (by simp only[z1m,List.length_map,List.length_singleton,List.length_take];omega)]
  simp only[go_sem,z0,z1,z2,z3,reduceCtorEq,↓reduceIte,q3,q6,q7,q8,f2,e8]
  exact hnx (ps.length - (i + 1)) _ (by omega) ⟨i + 1,_,_,_,_,hlt,rfl,rfl,q6,q7,rfl,rfl, .inr (.inr ⟨_,rfl,rfl⟩)⟩
 ·have f1:decide ((i:Int) < (ps.length:Int))=false:=by rw[decide_eq_false_iff_not];omega
  have hti:ps.take i=ps:=List.take_of_length_le (by omega)
  rw[hti] at q3
  simp only[go_sem,z0,z1,z2,z3,reduceCtorEq,↓reduceIte,v2x,q3,q6,q7,q8,f1]
  refine he _ _ ?_
  simp only[go_sem,z0,z1,z2,z3,reduceCtorEq,↓reduceIte,q3]
  rw[z3s rfl (by simp[AV.cv,AV.ids,z2p])]
  exact hT _
structure TfOk (x:Tf):Prop where
 un:x.un.length≤2 ^ 18
 und:x.und.length≤2 ^ 18
 drops:idsL x.drops=[]
theorem z8i {x:Tf} (hx:TfOk x):(eTf x).ids=[]:=by simp[eTf,AV.ids,idsL,z2p,hx.drops]
theorem w5b {x:Tf} {a:List Nat} (hx:TfOk x):Pure Gam 30 [eTf x, .str a] (.bool (decide (a∈x.un) || decide (a∈x.und))):=by
 have p1:=x5u (l:=x.un) (a:=a) (u:= .no) (by have:=hx.un;omega)
 have p2:=x5u (l:=x.und) (a:=a) (u:= .no) (by have:=hx.und;omega)
 refine Pure.of rfl y8n rfl rfl rfl (az:=[eTf x, .str a]) rfl (by simp[idsL,AV.ids,z8i hx]) fun D B clk T hB hT=> ?_
 cases h1:decide (a∈x.un) with
 | true=>
   rw[h1] at p1 hT
   simp only[go_sem,z0,y2c,hB,eTf,z0a p1]
   rw[z0f]
   exact hT _
 | false=>
   rw[h1] at p1 hT
   rw[Bool.false_or] at hT
   simp only[go_sem,z0,y2c,hB,eTf,z0a p1,z0a p2]
   rw[z0f]
   exact hT _
theorem j8n {s g:Nat} {x:Tf} {a:App} (hx:TfOk x):Reads [(s, .blk g [eTf x] false false 0)] 54 [z2y a, .ptr s g 0 0] (.bool (decide (a.pred∈x.und))):=by
 have p2:=x5u (l:=x.und) (a:=a.pred) (u:= .no) (by have:=hx.und;omega)
 refine Reads.of rfl y8s rfl rfl rfl (az:=[z2y a, .ptr s g 0 0]) rfl (by simpa [idsL,AV.ids,z4g] using Cov.one (s:=s) (o:= .blk g [eTf x] false false 0) (by simp[AObj.ids,idsL,z8i hx])) fun D B clk T hB hS hlt hT=> ?_
 have h1:=hlt (s, .blk g [eTf x] false false 0) (by simp)
 have b1:=z6l (g:=g) (hS (s, .blk g [eTf x] false false 0) (by simp))
 dsimp only at h1 b1
 rw[eTf] at b1
 simp only[go_sem,z0,z1,↓reduceIte,y5g,hB,z2y,z3y hB h1,b1,z0a p2]
 rw[z0f]
 exact hT _ hS.app
theorem v3s {s g:Nat} {x:Tf} {a:App} (hx:TfOk x):Reads [(s, .blk g [eTf x] false false 0)] 56 [z2y a, .ptr s g 0 0] (.bool (decide (a.pred∈x.un))):=by
 have p2:=x5u (l:=x.un) (a:=a.pred) (u:= .no) (by have:=hx.un;omega)
 refine Reads.of rfl y8t rfl rfl rfl (az:=[z2y a, .ptr s g 0 0]) rfl (by simpa [idsL,AV.ids,z4g] using Cov.one (s:=s) (o:= .blk g [eTf x] false false 0) (by simp[AObj.ids,idsL,z8i hx])) fun D B clk T hB hS hlt hT=> ?_
 have h1:=hlt (s, .blk g [eTf x] false false 0) (by simp)
 have b1:=z6l (g:=g) (hS (s, .blk g [eTf x] false false 0) (by simp))
 dsimp only at h1 b1
 rw[eTf] at b1
 simp only[go_sem,z0,z1,↓reduceIte,y5h,hB,z2y,z3y hB h1,b1,z0a p2]
 rw[z0f]
 exact hT _ hS.app
section
variable {h:List AObj} {base g k:Nat} {ts:Tmps} {z:AV} {dst:Option Nat} {os:List AOper} {clk:Nat} {ks:List Kf} {Q:Post}
def mrV (h:List AObj) (s g:Nat) (z:AV) (bytes:Nat):AV→AV→Option (AV×List AObj)
 | .sl [] .nil, .int _ m=>
   if m=0 then some (.sl [] .nil,h)
   else if 0 < m∧m * (bytes + 1)≤z0z∧z.def? =true then some (.ob s g 0 m.toNat,h.set s (.blk g (List.replicate m.toNat z) true true 0))
   else none
 | _,_=>none
theorem j8o {b:Nat} {x n:AOpd}:O Gam base .plain g (⟨dst, .makeRow k z b x n,none⟩::os) ⟨ts,h,clk⟩ ks Q=PP Gam base (mrV h (base + k) g z b (x.ev ts) (n.ev ts)) dst g os ts clk ks Q:=by
 rw[q2r rfl]
 congr 1
theorem w5c {s b n:Nat} {z:AV} {k:IntKind} (hz:z.def? =true) (h0:0 < n) (hn:(n:Int) * ((b:Int) + 1)≤2 ^ 46):mrV h s g z b (.sl [] .nil) (.int k (n:Int))=some (.ob s g 0 n,h.set s (.blk g (List.replicate n z) true true 0)):=by
 have h1:(0 < (n:Int)∧(n:Int) * (b + 1)≤(z0z:Int)∧z.def? =true):=⟨by omega,by simpa [z0z] using hn,hz⟩
 have h2:¬ (n:Int)=0:=by omega
 simp only[mrV,h2,if_false,if_pos h1,Int.toNat_natCast]
end
attribute [go_sem] j8o
theorem j8p {h:List AObj}:k4n h .cap (.sl [] .nil)=some (.int .i64 0,h):=(rfl)
theorem w5d {h:List AObj}:slV h (some 1) (.sl [] .nil) none (some (.int .i64 0)) none=some (.sl [] .nil,h):=(rfl)
theorem x8k {D:List AObj} {B clk:Nat} (hB:D.length=B):K Gam B q9w.body [] ⟨z9h [.sl [] .nil, .int .i64 0],D++[.dead],clk⟩ (fun e s=>e= .ret∧s.ts 4= .sl [] .nil∧s.h=D++[.dead]):=by
 have e1:decide ((0:Int) < 0)=false:=rfl
 have e2:IntKind.i64.wrap (0 - 0)=0:=by decide
 simp only[go_sem,z0,q9w,hB,e1,j8p,e2]
theorem j2w {D:List AObj} {B clk n:Nat} (hB:D.length=B) (h0:0 < n) (hn:n≤2 ^ 30):K Gam B q9w.body [] ⟨z9h [.sl [] .nil, .int .i64 (n:Int)],D++[.dead],clk⟩ (fun e s=>e= .ret∧∃ g,s.ts 4= .ob (B + 0) g 0 0∧s.h=D++[.blk g (List.replicate n (.str [])) true true 0]):=by
 have e1:decide ((n:Int) < 0)=false:=by rw[decide_eq_false_iff_not];omega
 have e2:IntKind.i64.wrap (0 - 0)=0:=by decide
 have e3:IntKind.i64.wrap ((n:Int) - 0)=(n:Int):=by rw[z0c (by omega) (by omega)];omega
 have e4:decide ((0:Int) < (n:Int))=true:=by rw[decide_eq_true_iff];omega
 have hmr:∀ h s g,mrV h s g (.str []) 16 (.sl [] .nil) (.int .i64 (n:Int))=some (.ob s g 0 n,h.set s (.blk g (List.replicate n (.str [])) true true 0)):=fun h s g=>w5c rfl h0 (by omega)
 have hsl:∀ g,slV (D++[.blk g (List.replicate n (.str [])) true true 0]) (some 1) (.ob (B + 0) g 0 n) none (some (.int .i64 0)) none=some (.ob (B + 0) g 0 0,D++[.blk g (List.replicate n (.str [])) true true 0]):=fun g=>by
  have hb:z2a (D++[.blk g (List.replicate n (AV.str [])) true true 0]) (B + 0) g=some (List.replicate n (.str []),true,true,0):=by rw[z7b hB];simp[z2a]
  have hh:z4e 1 (List.replicate n (AV.str []))=true:=by cases n <;> rfl
  simp only[slV,z2l,hb,z4n,Int.le_refl,if_true,Int.toNat_zero,hh,List.length_replicate]
  simp
 simp only[go_sem,z0,q9w,hB,e1,j8p,e2,e3,e4,w5d,hmr,hsl]
 exact⟨_,rfl,rfl⟩
theorem y2z {n:Nat} {h:List AObj} {clk:Nat} {Q:AV→List AObj→Nat→Prop} (hn:n≤2 ^ 30) (h0:n=0→Q (.sl [] .nil) h clk) (h1:0 < n→∀ g c,Q (.ob h.length g 0 0) (h++[.blk g (List.replicate n (.str [])) true true 0]) c):WC Gam 148 [.sl [] .nil, .int .i64 (n:Int)] h clk Q:=by
 have hp:z1f h q9w.byref 0 [.sl [] .nil, .int .i64 (n:Int)]=some [.sl [] .nil, .int .i64 (n:Int)]:=rfl
 have hl:z0n q9w.byref 0 [.sl [] .nil, .int .i64 (n:Int)]=[]:=rfl
 have hids:idsL [.sl [] .nil, .int .i64 (n:Int)]=[]:=rfl
 have hext:Gam.ext 148=none:=rfl
 have hown:q9w.owned=true:=rfl
 have hres:q9w.results=[.tmp 4]:=rfl
 have hns:List.replicate q9w.nslots AObj.dead=[.dead]:=rfl
 rcases Nat.eq_zero_or_pos n with rfl | hpos
 ·obtain⟨k,e,s,he,rfl,hs4,hsh⟩:=x8k (D:=maskFrom [] 0 h) (clk:=clk) z3v
  refine⟨k, .sl [] .nil,h,clk, ?_,h0 rfl⟩
  unfold z5i z0i
  rw[←hns] at he
  simp only[hext,w4f,hp,hl,freezeAll,hids,reach]
  rw[show ((0:Nat):Int)=0 from rfl]
  simp only[he,hres,z1j,hs4,hown,if_true,Option.map_some,z1o,z5n]
  rfl
 ·obtain⟨k,e,s,he,rfl,g,hs4,hsh⟩:=j2w (D:=maskFrom [] 0 h) (clk:=clk) z3v hpos hn
  refine⟨k, .ob h.length g 0 0,h++[.blk g (List.replicate n (.str [])) true true 0],s.clk, ?_,h1 hpos _ _⟩
  unfold z5i z0i
  rw[←hns] at he
  have hdrop:s.h.drop h.length=[.blk g (List.replicate n (.str [])) true true 0]:=by rw[hsh,List.drop_left' z3v]
  simp only[hext,w4f,hp,hl,freezeAll,hids,reach,he,hres,z1j,hs4,hown,if_true,Option.map_some,z1o,z5n,hdrop,AV.ids,ite_self]
  simp
end Go.Proofs.YtmkblnlafljljaaGreatDoor.Am
