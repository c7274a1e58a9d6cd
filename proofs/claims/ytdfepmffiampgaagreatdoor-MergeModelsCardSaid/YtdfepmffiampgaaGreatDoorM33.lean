/- Walking: terms in a scope Walking: atoms of a clause are checked Walking: variables of a clause are checked Walking: a clause is checked Walking: a clause is checked Walking: systems are checked Walki -/
import Derived.Test.YtdfepmffiampgaaGreatDoorM32
set_option linter.all false
namespace Go.Proofs.YtdfepmffiampgaaGreatDoor.Am
open Go
set_option maxRecDepth 100000
section
variable {U:List Var} [UOk U]
theorem x9o {D:List AObj} {s g:Nat} {es:List (AV×AV)} (h:D[s]? =some (.map g es)):z5s D s g=some es:=by simp[z5s,h]
theorem q4k {D L:List AObj} {B s g:Nat} (hB:D.length=B) (h:s < B):z5s (D++L) s g=z5s D s g:=by
 unfold z5s
 rw[z1a hB h]
def z1r (V:List Var):List (AV×AV):=V.map fun v=>(z1h v, .bool true)
theorem x5v {v w:Var}:(z1h v).eqv (.agg [.str, .int]) (z1h w)=some (decide (v=w)):=by
 have:(decide (v.name=w.name) && (decide ((v.sort:Int)=(w.sort:Int)) && true))=decide (v=w):=by
  rw[Bool.and_true,Bool.eq_iff_iff]
  simp only[Bool.and_eq_true,decide_eq_true_iff]
  constructor
  ·rintro ⟨h1,h2⟩
   cases v;cases w
   simp only[Var.mk.injEq] at h1 h2⊢
   exact⟨h1,by omega⟩
  ·rintro rfl
   exact⟨rfl,rfl⟩
 rw[←this]
 rfl
theorem x0v {v:Var}:∀ {V:List Var},findKey (.agg [.str, .int]) (z1h v) (z1r V)=some (if v∈V then some (.bool true) else none)
 | []=>rfl
 | w::V=>by
   have ih:=x0v (v:=v) (V:=V)
   unfold z1r at ih⊢
   simp only[List.map_cons,findKey,x5v]
   by_cases h:v=w
   ·subst h
    simp
   ·simp only[h,decide_false,ih,List.mem_cons,false_or]
theorem x3v {v:Var}:∀ {V:List Var},v∉V→z6c (.agg [.str, .int]) (z1h v) (.bool true) (z1r V)=some (z1r (V++[v]))
 | [],_=>rfl
 | w::V,hn=>by
   rw[List.mem_cons,not_or] at hn
   have ih:=x3v (v:=v) (V:=V) hn.2
   unfold z1r at ih⊢
   simp only[List.map_cons,List.cons_append,z6c,x5v,hn.1,decide_false,ih,Option.map_some]
theorem q2l {g:Nat} {V:List Var}:(AObj.map g (z1r V)).ids=[]:=by
 simp only[AObj.ids,z1r,List.map_map,List.append_eq_nil_iff]
 constructor
 ·have:(Prod.fst∘fun v:Var=>(z1h v,AV.bool true))=z1h:=rfl
  rw[this]
  exact z0b fun _=>rfl
 ·exact z0b (f:=Prod.snd∘fun v:Var=>(z1h v,AV.bool true)) fun _=>rfl
theorem v4g {h:List AObj} {z:AV} {v:Var} {V:List Var}:lkV h (.agg [.str, .int]) z false (some (z1r V)) (.agg [.str v.name, .int .i64 (v.sort:Int)])=some (q7w false z (if v∈V then some (.bool true) else none),h):=by
 have h1:((z1h v).eqv (.agg [.str, .int]) (z1h v)).isSome=true:=by rw[x5v];rfl
 have h2:=x0v (v:=v) (V:=V)
 rw[show z1h v= .agg [.str v.name, .int .i64 (v.sort:Int)] from rfl] at h1 h2
 simp only[lkV,h1,if_true,h2,Option.map_some]
theorem k9n {s g sX gX:Nat} {v:Var} {V:List Var}:Reads [(s, .blk g [.mp sX gX] false false 0),(sX, .map gX (z1r V))] 261 [z1h v, .ptr s g 0 0] (.bool (!decide (v∈V))):=by
 refine Reads.of rfl u5g rfl rfl rfl (az:=[z1h v, .ptr s g 0 0]) rfl (Cov.two rfl q2l) fun D B clk T hB hS hlt hT=> ?_
 have h1:=hlt (s, .blk g [.mp sX gX] false false 0) (by simp)
 have h2:=hlt (sX, .map gX (z1r V)) (by simp)
 have b1:=z2g (g:=g) (hS (s, .blk g [.mp sX gX] false false 0) (by simp))
 have b2:=x9o (g:=gX) (hS (sX, .map gX (z1r V)) (by simp))
 dsimp only at h1 h2 b1 b2
 by_cases hin:v∈V
 ·simp only[go_sem,w2f,hB,z1h,nat,z3p hB h1,b1,z6n,q4k hB h2,b2,v4g,hin,j2k,Bool.not_true]
  rw[z0d]
  simp only[hin,decide_true,Bool.not_true] at hT
  exact hT _ hS.app
 ·simp only[go_sem,w2f,hB,z1h,nat,z3p hB h1,b1,z6n,q4k hB h2,b2,v4g,hin,q1i,Bool.not_false]
  rw[z0d]
  simp only[hin,decide_false,Bool.not_false] at hT
  exact hT _ hS.app
theorem Cov.mp1 {s g:Nat} {es:List (AV×AV)} (h:(AObj.map g es).ids=[]):Cov [(s, .map g es)] [s]:=Cov.one h
theorem j5m {sX gX s d:Nat} {V:List Var} {t:Term} {u:Tip} (ht:WF V [s] d t) (hV:∀ v∈V,v∈U) (hl:t.length≤20000) (hd:d≤257):Reads [(sX, .map gX (z1r V))] 230 [.mp sX gX, .sl (t.map eNode) u,nat s] (.bool true):=by
 refine Reads.of rfl u5d rfl rfl rfl (az:=[.mp sX gX, .sl (t.map eNode) .no,nat s]) rfl (by simpa [idsL,AV.ids,z0b z0x,nat] using Cov.mp1 q2l) fun D B clk T hB hS hlt hT=> ?_
 have h2:=hlt (sX, .map gX (z1r V)) (by simp)
 have p1:=x5u (u:= .no) ht hV hl hd
 have p2:=j2l (u:= .no) ht hV hl hd
 have p3:=k3r (u:= .no) ht hV hl hd
 rw[nat] at p1
 have hvl:(z3e t []).length≤2 ^ 20:=by
  have:=q0o (t:=t) (acc:=[])
  simp only[List.length_nil] at this
  omega
 have hr:∀ g,Reads [(B + 0, .blk g [.mp sX gX] false false 0),(sX, .map gX (z1r V))] 108 [.sl ((z3e t []).map z1h) .no, .fn 261 [.ptr (B + 0) g 0 0]] (.bool ((z3e t []).any fun v=> !decide (v∈V))):=fun g=>
  j5h (enc:=z1h) (P:=fun v=> !decide (v∈V)) (fun _=>rfl) (fun _ _=>rfl) (fun _=>rfl) hvl (by simpa [idsL,AV.ids] using Cov.two (s:=B + 0) (t:=sX) rfl q2l) fun v _=>k9n
 have e:((z3e t []).any fun v=> !decide (v∈V))=false:=by
  rw[List.any_eq_false]
  intro v hv
  have:=q0n ht.names (acc:=[]) (by simp) v hv
  simp[this]
 rw[e] at hr
 have hh:∀ g,Has [(B + 0, .blk g [.mp sX gX] false false 0),(sX, .map gX (z1r V))] (D++[.blk g [.mp sX gX] false false 0]):=fun g=>by
  refine Has.cons ?_ (Has.cons ?_ Has.nil)
  ·dsimp only;rw[z2v hB];rfl
  ·have:=hS.app (L:=[.blk g [.mp sX gX] false false 0]) (sX, .map gX (z1r V)) (by simp)
   exact this
 simp only[go_sem,y4c,hB,nat,z0a p1,decide_true,Bool.not_true,z0a p2,Int.reduceLT,decide_false,z0a p3]
 rw[z1m (hr _) (hh _)]
 simp only[go_sem,Bool.not_false]
 rw[z0d]
 exact hT _ hS.app
end
theorem k3s {s:Nat} (h1:1≤s) (h4:s≤4):Pure Gam 224 [nat s] (.bool true):=by
 refine Pure.of rfl u5h rfl rfl rfl rfl rfl fun D B clk T hB hT=> ?_
 have e1:decide ((1:Int)≤(s:Int))=true:=by rw[decide_eq_true_iff];omega
 have e2:decide ((s:Int)≤4)=true:=by rw[decide_eq_true_iff];omega
 simp only[go_sem,y4f,nat,e1,e2]
 rw[z0d]
 exact hT _
def z4r:Nat→List Func→List (AV×AV)
 | _,[]=>[]
 | k,p::ps=>(.str p.name, .int .i64 (k:Int))::z4r (k + 1) ps
theorem j2m {k:Nat} {ps:List Func}:(z4r k ps).length=ps.length:=by
 induction ps generalizing k with
 | nil=>rfl
 | cons p ps ih=>simp[z4r,ih]
theorem k9o {g k:Nat} {ps:List Func}:(AObj.map g (z4r k ps)).ids=[]:=by
 simp only[AObj.ids,List.append_eq_nil_iff]
 induction ps generalizing k with
 | nil=>exact⟨rfl,rfl⟩
 | cons p ps ih=>exact⟨by simpa [z4r,idsL,AV.ids] using (ih (k:=k + 1)).1,by simpa [z4r,idsL,AV.ids] using (ih (k:=k + 1)).2⟩
theorem q2m {a:List Nat}:∀ {ps:List Func} {k:Nat},(∀ p∈ps,p.name≠a)→findKey (.one .str) (.str a) (z4r k ps)=some none
 | [],_,_=>rfl
 | p::ps,k,h=>by
   have hne:decide (a=p.name)=false:=decide_eq_false fun e=>h p List.mem_cons_self e.symm
   simp only[z4r,findKey,AV.eqv,AV.eq1,hne]
   exact q2m fun q hq=>h q (List.mem_cons_of_mem _ hq)
theorem q2n:∀ {ps:List Func} {k j:Nat} {f:Func},(ps.map (·.name)).Nodup→ps[j]? =some f→findKey (.one .str) (.str f.name) (z4r k ps)=some (some (.int .i64 ((k + j:Nat):Int)))
 | [],_,_,_,_,h=>by simp at h
 | p::ps,k,0,f,_,h=>by
   simp at h
   subst h
   simp[z4r,findKey,AV.eqv,AV.eq1]
 | p::ps,k,j + 1,f,hn,h=>by
   rw[List.map_cons,List.nodup_cons] at hn
   simp only[List.getElem?_cons_succ] at h
   have hne:decide (f.name=p.name)=false:=decide_eq_false fun e=>hn.1 (by rw[←e];exact List.mem_map.2 ⟨f,List.mem_of_getElem? h,rfl⟩)
   simp only[z4r,findKey,AV.eqv,AV.eq1,hne]
   rw[q2n hn.2 h,show k + 1 + j=k + (j + 1) by omega]
theorem x0w {a:List Nat} {n:Nat}:∀ {ps:List Func} {k:Nat} {r:List Nat} {q:Nat},(∀ p∈ps,p.name≠a)→n=k + ps.length→z6c (.one .str) (.str a) (.int .i64 (n:Int)) (z4r k ps)=some (z4r k (ps++[⟨a,r,q⟩]))
 | [],k,r,q,_,hn=>by
   simp at hn
   subst hn
   rfl
 | p::ps,k,r,q,h,hn=>by
   have hne:decide (a=p.name)=false:=decide_eq_false fun e=>h p List.mem_cons_self e.symm
   have ih:=x0w (a:=a) (n:=n) (ps:=ps) (k:=k + 1) (r:=r) (q:=q) (fun q hq=>h q (List.mem_cons_of_mem _ hq)) (by simp at hn;omega)
   simp only[List.cons_append,z4r,z6c,AV.eqv,AV.eq1,hne,ih,Option.map_some]
def z5q (gC:Nat) (s:Sys) (sP gP:Nat):AObj:= .blk gC [.agg [.sl (s.preds.map z1e) .no, .sl (s.clauses.map z0e) .no, .mp sP gP, .sl [] .nil]] false false 0
def z9k (gP:Nat) (s:Sys):AObj:= .map gP (z4r 0 s.preds)
theorem q6q {gC sP gP:Nat} {s:Sys}:(z5q gC s sP gP).ids=[sP]:=by
 simp[z5q,AObj.ids,idsL,AV.ids,z0b z2a,z0b z1j]
theorem x3w {gP:Nat} {s:Sys}:(z9k gP s).ids=[]:=k9o
structure PrOk (ps:List Func):Prop where
 nodup:(ps.map (·.name)).Nodup
 args:∀ f∈ps,f.args.length≤40∧∀ s∈f.args,1≤s∧s≤4
 name:∀ f∈ps,f.name≠[]
theorem Cov.atom {sC sP sX:Nat} {oC oP oX:AObj} (hC:oC.ids=[sP]) (hP:oP.ids=[]) (hX:oX.ids=[]):Cov [(sC,oC),(sP,oP),(sX,oX)] [sC,sX]:=by
 refine⟨by simp,by simp[hC,hP,hX],fun h hS p hp=> ?_⟩
 have h1:h[sC]? =some oC:=hS (sC,oC) (by simp)
 have hr:reach h (h.length + 1) [] [sC,sX]=reach h h.length [sC] [sP,sX]:=by rw[z9c (by simp) h1,hC];rfl
 rw[hr]
 simp at hp
 rcases hp with rfl | rfl | rfl
 ·exact z4n (.inl List.mem_cons_self)
 ·exact z4n (.inr List.mem_cons_self)
 ·exact z4n (.inr (List.mem_cons_of_mem _ List.mem_cons_self))
theorem j5n {sC gC sP gP sX gX:Nat} {s:Sys} {a:App} {V:List Var} (hp:PrOk s.preds) (ha:AppOk s.preds V a) (hV:∀ v∈V,v∈z2m):Reads [(sC,z5q gC s sP gP),(sP,z9k gP s),(sX, .map gX (z1r V))] 229 [.ptr sC gC 0 0,z1p a, .mp sX gX] (.bool true):=by
 obtain⟨f,hf,hname,hlen,hargs⟩:=ha
 obtain⟨j,hj⟩:=List.getElem?_of_mem hf
 have hjl:j < s.preds.length:=by
  rw[List.getElem?_eq_some_iff] at hj
  exact hj.1
 refine Reads.of rfl u5c rfl rfl rfl (az:=[.ptr sC gC 0 0,z1p a, .mp sX gX]) rfl (by simpa [idsL,AV.ids,z4f] using Cov.atom q6q (x3w (gP:=gP) (s:=s)) q2l) fun D B clk T hB hS hlt hT=> ?_
 have h1:=hlt (sC,z5q gC s sP gP) (by simp)
 have h2:=hlt (sP,z9k gP s) (by simp)
 have b1:=z2g (g:=gC) (hS (sC,z5q gC s sP gP) (by simp))
 have b2:=x9o (g:=gP) (hS (sP,z9k gP s) (by simp))
 dsimp only at h1 h2 b1 b2
 have hfk:=q2n (k:=0) hp.nodup hj
 rw[Nat.zero_add,←hname] at hfk
 have hpl:=hp.args f hf
 have hix:∀ h,z1n h 3 (.sl (s.preds.map z1e) .no) (.int .i64 (j:Int))=some (.iptr [.str f.name, .sl (f.args.map nat) .no,nat f.result] 0,h):=fun h=>by
  have h2:s.preds[j]=f:=by
   rw[List.getElem?_eq_some_iff] at hj
   exact hj.2
  rw[z8l hjl,h2]
 have e1:decide ((a.args.length:Int)=(f.args.length:Int))=true:=by rw[decide_eq_true_iff];omega
 simp only[go_sem,y4b,hB,z1p,z3p hB h1,b1,z6n,q4k hB h2,b2,q3k hfk,q0p,Bool.not_true,List.length_map,hix,e1]
 refine z1q (fun m q=>∃ (i:Nat),i≤a.args.length∧m=a.args.length - i∧q.ts 0= .ptr sC gC 0 0∧q.ts 2= .mp sX gX∧q.ts 7= .int .i64 (j:Int)∧q.ts 40= .sl (a.args.map z0i) .no∧q.ts 41= .int .i64 (a.args.length:Int)∧q.ts 42= .int .i64 (i:Int)∧∃ o,q.h=D++[o]) a.args.length ⟨0,by omega,rfl,rfl,rfl,by simp[z0c],rfl,rfl,rfl,_,rfl⟩ ?_
 rintro m ⟨ts,h,clk⟩ Pq ⟨i,hi,rfl,q0,q2,q7,q40,q41,q42,o,rfl⟩ hnx he hr
 dsimp only at q0 q2 q7 q40 q41 q42
 by_cases hlt':i < a.args.length
 ·have f1:decide ((i:Int) < (a.args.length:Int))=true:=by rw[decide_eq_true_iff];omega
  have f2:IntKind.i64.wrap ((i:Int) + 1)=((i + 1:Nat):Int):=z0f (by omega) (by omega)
  have hia:i < f.args.length:=by omega
  have hix2:∀ h,z1n h 1 (.sl (f.args.map nat) .no) (.int .i64 (i:Int))=some (.iptr [.int .i64 (f.args[i]:Int)] 0,h):=fun h=>z7y hia
  have hz:(f.args[i],a.args[i])∈f.args.zip a.args:=by
   have:(f.args.zip a.args)[i]? =some (f.args[i],a.args[i]):=by simp[List.getElem?_zip_eq_some,hia,hlt']
   exact List.mem_of_getElem? this
  obtain⟨hwf,hsz,hs1,hs4⟩:=hargs _ hz
  dsimp only at hwf hsz hs1 hs4
  have p1:=k3s hs1 hs4
  have p2:=j5m (sX:=sX) (gX:=gX) (u:= .no) hwf hV (by omega) (by omega)
  rw[nat] at p1 p2
  have hix3:∀ h,z1n h 1 (.sl (a.args.map z0i) .no) (.int .i64 (i:Int))=some (.iptr [.sl (a.args[i].map eNode) .no] 0,h):=fun h=>q1e hlt'
  have hh:Has [(sX, .map gX (z1r V))] (D++[o]):=fun p hp'=>hS.app p (by simp at hp';subst hp';simp)
  simp only[go_sem,j5g,q0,q2,q7,q40,q41,q42,f1,hB,hix3,z3p hB h1,b1,hix,hix2,z0a p1,Bool.not_true,z1m p2 hh,f2]
  exact hnx (a.args.length - (i + 1)) _ (by omega) ⟨i + 1,hlt',rfl,q0,q2,q7,q40,q41,rfl,o,rfl⟩
 ·have f1:decide ((i:Int) < (a.args.length:Int))=false:=by rw[decide_eq_false_iff_not];omega
  simp only[go_sem,j5g,q0,q2,q7,q40,q41,q42,f1]
  refine he _ _ ?_
  simp only[go_sem,]
  rw[z0d]
  exact hT _ hS.app
def z5d (l:List (List Nat)):List (AV×AV):=l.map fun a=>(.str a, .bool true)
theorem x0x {a:List Nat}:∀ {l:List (List Nat)},findKey (.one .str) (.str a) (z5d l)=some (if a∈l then some (.bool true) else none)
 | []=>rfl
 | b::l=>by
   have ih:=x0x (a:=a) (l:=l)
   unfold z5d at ih⊢
   simp only[List.map_cons,findKey,AV.eqv,AV.eq1]
   by_cases h:a=b
   ·subst h
    simp
   ·simp only[h,decide_false,ih,List.mem_cons,false_or]
theorem q3f {a:List Nat}:∀ {l:List (List Nat)},a∉l→z6c (.one .str) (.str a) (.bool true) (z5d l)=some (z5d (l++[a]))
 | [],_=>rfl
 | b::l,hn=>by
   rw[List.mem_cons,not_or] at hn
   have ih:=q3f (a:=a) (l:=l) hn.2
   unfold z5d at ih⊢
   simp only[List.map_cons,List.cons_append,z6c,AV.eqv,AV.eq1,hn.1,decide_false,ih,Option.map_some]
theorem k3t {h:List AObj} {z:AV} {a:List Nat} {l:List (List Nat)}:lkV h (.one .str) z false (some (z5d l)) (.str a)=some (q7w false z (if a∈l then some (.bool true) else none),h):=w2i x0x
theorem k9p {sC gC sP gP:Nat} {s:Sys} {V:List Var} {u:Tip} (hp:∀ p∈s.preds,∀ v∈z2m,p.name≠v.name) (hs:V.Sublist z2m):Reads [(sC,z5q gC s sP gP),(sP,z9k gP s)] 226 [.ptr sC gC 0 0, .sl (V.map z1h) u] (.bool true):=by
 have hV:∀ v∈V,v∈z2m:=fun v hv=>hs.mem hv
 have hnd:V.Nodup:=hs.nodup (by decide)
 have hVl:V.length≤8:=hs.length_le
 refine Reads.of rfl u5a rfl rfl rfl (az:=[.ptr sC gC 0 0, .sl (V.map z1h) .no]) rfl (by simpa [idsL,AV.ids,z0b z1k] using Cov.two q6q (x3w (gP:=gP) (s:=s))) fun D B clk T hB hS hlt hT=> ?_
 have h1:=hlt (sC,z5q gC s sP gP) (by simp)
 have h2:=hlt (sP,z9k gP s) (by simp)
 have b1:=z2g (g:=gC) (hS (sC,z5q gC s sP gP) (by simp))
 have b2:=x9o (g:=gP) (hS (sP,z9k gP s) (by simp))
 dsimp only at h1 h2 b1 b2
 simp only[go_sem,y3z,hB,List.length_map]
 refine z1q (fun m q=>∃ (i g:Nat) (o:AObj),i≤V.length∧m=V.length - i∧q.ts 0= .ptr sC gC 0 0∧q.ts 5= .mp (B + 0) g∧q.ts 11= .sl (V.map z1h) .no∧q.ts 12= .int .i64 (V.length:Int)∧q.ts 13= .int .i64 (i:Int)∧q.h=D++[.map g (z5d ((V.take i).map (·.name))),o]) V.length ⟨0,_,_,by omega,rfl,rfl,rfl,rfl,rfl,rfl,rfl⟩ ?_
 rintro m ⟨ts,h,clk⟩ Pq ⟨i,g,o,hi,rfl,q0,q5,q11,q12,q13,rfl⟩ hnx he hr
 dsimp only at q0 q5 q11 q12 q13
 by_cases hlt':i < V.length
 ·have f1:decide ((i:Int) < (V.length:Int))=true:=by rw[decide_eq_true_iff];omega
  have f2:IntKind.i64.wrap ((i:Int) + 1)=((i + 1:Nat):Int):=z0f (by omega) (by omega)
  have hv:=List.getElem_mem hlt'
  have hix:∀ h,z1n h 2 (.sl (V.map z1h) .no) (.int .i64 (i:Int))=some (.iptr [.str V[i].name, .int .i64 (V[i].sort:Int)] 0,h):=fun h=>z3j hlt' rfl rfl
  have htake:V.take (i + 1)=V.take i++[V[i]]:=List.take_succ_eq_append_getElem hlt'
  have hnew:V[i].name∉(V.take i).map (·.name):=by
   intro hc
   obtain⟨w,hw,e⟩:=List.mem_map.1 hc
   have:w=V[i]:=q5v (hV w (List.mem_of_mem_take hw)) (hV _ hv) e
   subst this
   have h3:(V.take (i + 1)).Nodup:=hnd.sublist (List.take_sublist _ _)
   rw[htake,List.nodup_append] at h3
   exact h3.2.2 _ hw _ (by simp) rfl
  have hsort:=q5r (hV _ hv)
  have p1:=j2h (hV _ hv)
  have p2:=k3s hsort.1 hsort.2
  rw[nat] at p2
  have hnm:z5d ((V.take (i + 1)).map (·.name))=z5d ((V.take i).map (·.name)++[V[i].name]):=by rw[htake,List.map_append];rfl
  have hfp:=q2m (a:=V[i].name) (k:=0) (ps:=s.preds) fun p hp' e=>hp p hp' _ (hV _ hv) e
  generalize V[i]=v at *
  have hmu:∀ L:List AObj,z5s L 0 g=some (z5d ((V.take i).map (·.name)))→muV (D++L) (.one .str) (.str v.name) (.bool true) (.mp (B + 0) g)=some (.undef,D++L.set 0 (.map g (z5d ((V.take (i + 1)).map (·.name))))):=fun L hL=>by
   rw[hnm]
   exact x3u (v:= .bool true) hB hL rfl (q3f hnew)
  simp only[go_sem,j5f,q0,q5,q11,q12,q13,f1,hB,hix,z3p hB h1,b1,z6n,q4k hB h2,b2,q3k hfp,z7b,k3t,hnew,q1i,z0a p1,Bool.not_true,z0a p2,hmu,f2]
  exact hnx (V.length - (i + 1)) _ (by omega) ⟨i + 1,g,_,hlt',rfl,q0,q5,q11,q12,rfl,rfl⟩
 ·have f1:decide ((i:Int) < (V.length:Int))=false:=by rw[decide_eq_false_iff_not];omega
  simp only[go_sem,j5f,q0,q5,q11,q12,q13,f1]
  refine he _ _ ?_
  simp only[go_sem,]
  rw[z0d]
  exact hT _ hS.app
theorem u5k {V:List Var} {u:Tip} {h:List AObj} {clk:Nat} {Q:AV→List AObj→Nat→Prop} (hs:V.Sublist z2m) (hQ:∀ g o c,Q (.mp h.length g) (h++[.map g (z1r V),o]) c):WC Gam 225 [.sl (V.map z1h) u] h clk Q:=by
 have hnd:V.Nodup:=hs.nodup (by decide)
 have hVl:V.length≤8:=hs.length_le
 refine x0t rfl u4z rfl rfl rfl (az:=[.sl (V.map z1h) .no]) rfl (by simp[idsL,AV.ids,z0b z1k]) fun D B R hB hBh hR=> ?_
 simp only[go_sem,y3y,hB,List.length_map]
 refine z1q (fun m q=>∃ (i g:Nat) (o:AObj),i≤V.length∧m=V.length - i∧q.ts 3= .mp (B + 0) g∧q.ts 7= .sl (V.map z1h) .no∧q.ts 8= .int .i64 (V.length:Int)∧q.ts 9= .int .i64 (i:Int)∧q.h=D++[.map g (z1r (V.take i)),o]) V.length ⟨0,_,_,by omega,rfl,rfl,rfl,rfl,rfl,rfl⟩ ?_
 rintro m ⟨ts,h,clk⟩ Pq ⟨i,g,o,hi,rfl,q3,q7,q8,q9,rfl⟩ hnx he hr
 dsimp only at q3 q7 q8 q9
 by_cases hlt':i < V.length
 ·have f1:decide ((i:Int) < (V.length:Int))=true:=by rw[decide_eq_true_iff];omega
  have f2:IntKind.i64.wrap ((i:Int) + 1)=((i + 1:Nat):Int):=z0f (by omega) (by omega)
  have hix:∀ h,z1n h 2 (.sl (V.map z1h) .no) (.int .i64 (i:Int))=some (.iptr [.str V[i].name, .int .i64 (V[i].sort:Int)] 0,h):=fun h=>z3j hlt' rfl rfl
  have htake:V.take (i + 1)=V.take i++[V[i]]:=List.take_succ_eq_append_getElem hlt'
  have hnew:V[i]∉V.take i:=by
   intro hc
   have h3:(V.take (i + 1)).Nodup:=hnd.sublist (List.take_sublist _ _)
   rw[htake,List.nodup_append] at h3
   exact h3.2.2 _ hc _ (by simp) rfl
  generalize V[i]=v at *
  have hput:=x3v hnew
  have hmu:∀ L:List AObj,z5s L 0 g=some (z1r (V.take i))→muV (D++L) (.agg [.str, .int]) (.agg [.str v.name, .int .i64 (v.sort:Int)]) (.bool true) (.mp (B + 0) g)=some (.undef,D++L.set 0 (.map g (z1r (V.take (i + 1))))):=fun L hL=>by
   have hpub:pub (D++L) (.bool true)=some (.bool true,D++L):=rfl
   have he:((AV.agg [.str v.name, .int .i64 (v.sort:Int)]).eqv (.agg [.str, .int]) (.agg [.str v.name, .int .i64 (v.sort:Int)])).isSome=true:=by
    have:=x5v (v:=v) (w:=v)
    rw[show z1h v= .agg [.str v.name, .int .i64 (v.sort:Int)] from rfl] at this
    rw[this]
    rfl
   have hput':z6c (.agg [.str, .int]) (.agg [.str v.name, .int .i64 (v.sort:Int)]) (.bool true) (z1r (V.take i))=some (z1r (V.take (i + 1))):=by rw[htake];exact hput
   simp only[muV,x5a hB,hL,hpub,he,if_true,hput',Option.map_some,z1t hB]
  simp only[go_sem,k3j,q3,q7,q8,q9,f1,hB,hix,hmu,f2]
  exact hnx (V.length - (i + 1)) _ (by omega) ⟨i + 1,g,_,hlt',rfl,q3,q7,q8,rfl,rfl⟩
 ·have f1:decide ((i:Int) < (V.length:Int))=false:=by rw[decide_eq_false_iff_not];omega
  have hti:V.take i=V:=List.take_of_length_le (by omega)
  simp only[go_sem,k3j,q3,q7,q8,q9,f1]
  refine he _ _ ?_
  simp only[go_sem,q3]
  rw[q5u rfl,hti]
  refine hR _ _ ⟨B + 0,by simp[z1l,AV.cv,AV.ids],by omega⟩ fun c=> ?_
  have:=hQ g o c
  rw[←hBh] at this
  exact this
mutual
theorem x5w:∀ (a:AV),a.beq a=true
 | .undef=>rfl
 | .int _ _=>by simp[AV.beq]
 | .bool _=>by simp[AV.beq]
 | .str _=>by simp[AV.beq]
 | .agg cs=>by simp[AV.beq,z9d cs]
 | .tup cs=>by simp[AV.beq,z9d cs]
 | .sl cs _=>by simp[AV.beq,z9d cs]
 | .ob .. =>by simp[AV.beq]
 | .ptr .. =>by simp[AV.beq]
 | .iptr cs _=>by simp[AV.beq,z9d cs]
 | .nilptr=>rfl
 | .mp .. =>by simp[AV.beq]
 | .nilmap=>rfl
 | .fn _ cs=>by simp[AV.beq,z9d cs]
 | .nilfn=>rfl
 | .nilif=>rfl
 | .bwd _ x=>by simp[AV.beq,x5w x]
theorem z9d:∀ (l:List AV),j6l l l=true
 | []=>rfl
 | a::l=>by simp[j6l,x5w a,z9d l]
end
theorem x9p:∀ (l:List (AV×AV)),v1z l l=true
 | []=>rfl
 | a::l=>by simp[v1z,x5w,x9p l]
theorem k9q:∀ (o:AObj),o.beq o=true
 | .dead=>rfl
 | .blk .. =>by simp[AObj.beq,z9d]
 | .tip .. =>by simp[AObj.beq]
 | .map .. =>by simp[AObj.beq,x9p]
theorem x9q {F:List Nat} {h:List AObj}:z3z F h h=(F,[]):=by
 unfold z3z
 simp[k9q]
theorem z6i {f base gg clk:Nat} {args:List AV} {S:List (Nat×AObj)} {h:List AObj} {v:AV} {m:Md} {dst:Option Nat} {os:List AOper} {ts:Tmps} {ks:List Kf} {Q:Post} (hr:Reads S f args v) (hh:Has S h)
  (hO:O Gam base (m.add (S.map (·.1),[])) (gg + 1) os ⟨z8c ts dst v,h,clk⟩ ks Q):CK Gam base f args h clk m dst gg os ts ks Q:=by
 obtain⟨⟨k,hk⟩,hF⟩:=hr h clk hh
 refine⟨k,v,h,clk,hk, ?_⟩
 dsimp only
 rw[x9q]
 exact x9a hF (by simp) hO
theorem z8n {sC gC sP gP:Nat} {s:Sys} {w k:Int}:Reads [(sC,z5q gC s sP gP),(sP,z9k gP s)] 171 [.ptr sC gC 0 0, .bool false, .int .i64 w, .int .i64 k] (.tup []):=by
 refine Reads.of rfl u4x rfl rfl rfl (az:=[.ptr sC gC 0 0, .bool false, .int .i64 w, .int .i64 k]) rfl (by simpa [idsL,AV.ids] using Cov.two q6q (x3w (gP:=gP) (s:=s))) fun D B clk T hB hS hlt hT=> ?_
 simp only[go_sem,y3w]
 rw[z0j rfl rfl]
 exact hT _ hS.app
theorem Cov.five {s2 sC sP s5 sX g2 gC gP g5 gX:Nat} {s:Sys} {V:List Var} (h1:sC < sP) (h2:sP < s2) (h3:s2 < s5) (h4:s5 < sX):Cov [(s2, .blk g2 [.ptr sC gC 0 0] false false 0),(sC,z5q gC s sP gP),(sP,z9k gP s),(s5, .blk g5 [.mp sX gX] false false 0),(sX, .map gX (z1r V))] [s2,s5]:=by
 have i2:(AObj.blk g2 [.ptr sC gC 0 0] false false 0).ids=[sC]:=rfl
 have i5:(AObj.blk g5 [.mp sX gX] false false 0).ids=[sX]:=rfl
 refine⟨by simp,by simp[i2,i5,q6q,x3w,q2l],fun h hS p hp=> ?_⟩
 have a2:h[s2]? =some (.blk g2 [.ptr sC gC 0 0] false false 0):=hS (s2,_) (by simp)
 have aC:h[sC]? =some (z5q gC s sP gP):=hS (sC,z5q gC s sP gP) (by simp)
 have aP:h[sP]? =some (z9k gP s):=hS (sP,z9k gP s) (by simp)
 have a5:h[s5]? =some (.blk g5 [.mp sX gX] false false 0):=hS (s5,_) (by simp)
 have hX:=hS.lt (sX,_) (List.mem_cons_of_mem _ (List.mem_cons_of_mem _ (List.mem_cons_of_mem _ (List.mem_cons_of_mem _ List.mem_cons_self))))
 dsimp only at hX
 obtain⟨m,hm⟩:∃ m,h.length=m + 4:=⟨h.length - 4,by omega⟩
 have hr:reach h (h.length + 1) [] [s2,s5]=reach h (m + 1) [s5,sP,sC,s2] [sX]:=by
  rw[hm,z9c (by simp) a2,i2]
  rw[List.singleton_append,z9c (by simp;omega) aC,q6q]
  rw[List.singleton_append,z9c (by simp;omega) aP,x3w]
  rw[List.nil_append,z9c (by simp;omega) a5,i5]
  rfl
 rw[hr]
 simp at hp
 rcases hp with rfl | rfl | rfl | rfl | rfl <;> exact z4n (by simp)
theorem k9r {s2 sC sP s5 sX g2 gC gP g5 gX:Nat} {s:Sys} {a:App} {V:List Var} (hp:PrOk s.preds) (ha:AppOk s.preds V a) (hV:∀ v∈V,v∈z2m) (h1:sC < sP) (h2:sP < s2) (h3:s2 < s5) (h4:s5 < sX):
  Reads [(s2, .blk g2 [.ptr sC gC 0 0] false false 0),(sC,z5q gC s sP gP),(sP,z9k gP s),(s5, .blk g5 [.mp sX gX] false false 0),(sX, .map gX (z1r V))] 228 [z1p a, .ptr s2 g2 0 0, .ptr s5 g5 0 0] (.bool false):=by
 refine Reads.of rfl u5b rfl rfl rfl (az:=[z1p a, .ptr s2 g2 0 0, .ptr s5 g5 0 0]) rfl (by simpa [idsL,AV.ids,z4f] using Cov.five h1 h2 h3 h4) fun D B clk T hB hS hlt hT=> ?_
 have l2:=hlt (s2, .blk g2 [.ptr sC gC 0 0] false false 0) (by simp)
 have l5:=hlt (s5, .blk g5 [.mp sX gX] false false 0) (by simp)
 have b2:=z2g (g:=g2) (hS (s2, .blk g2 [.ptr sC gC 0 0] false false 0) (by simp))
 have b5:=z2g (g:=g5) (hS (s5, .blk g5 [.mp sX gX] false false 0) (by simp))
 dsimp only at l2 l5 b2 b5
 have hr:=j5n (sC:=sC) (gC:=gC) (sP:=sP) (gP:=gP) (sX:=sX) (gX:=gX) hp ha hV
 have hh:∀ L,Has [(sC,z5q gC s sP gP),(sP,z9k gP s),(sX, .map gX (z1r V))] (D++L):=fun L p hp'=>hS.app p (by simp at hp';rcases hp' with rfl | rfl | rfl <;> simp)
 rw[z1p] at hr
 simp only[go_sem,y4a,hB,z1p,z3p hB l2,b2,z3p hB l5,b5,z1m hr (hh _),Bool.not_true]
 rw[z0d]
 exact hT _ hS.app
theorem x0y {f base gg clk:Nat} {args:List AV} {h:List AObj} {m:Md} {dst:Option Nat} {os:List AOper} {ts:Tmps} {ks:List Kf} {Q:Post} (hf:z0z Gam f args h=[]) (hw:WC Gam f args h clk fun v h' c=>O Gam base (m.add ([],[])) (gg + 1) os ⟨z8c ts dst v,h',c⟩ ks Q):CK Gam base f args h clk m dst gg os ts ks Q:=by
 unfold CK
 rw[hf]
 exact hw
theorem v4h {T:List Nat} {R:AV→List AObj→Prop} {h:List AObj}:RV T (some []) R h=R (.tup []) h:=z0j rfl rfl
theorem k9s {sC gC sP gP i:Nat} {s:Sys} {c:Clause} (hp:PrOk s.preds) (hn:∀ p∈s.preds,∀ v∈z2m,p.name≠v.name) (hc:ClauseOk s.preds c) (hi:s.clauses[i]? =some c) (hlt1:sC < sP):Reads [(sC,z5q gC s sP gP),(sP,z9k gP s)] 172 [.ptr sC gC 0 0, .int .i64 (i:Int)] (.tup []):=by
 obtain⟨hsub,hbl,hbody,hguard,hhead⟩:=hc
 have hV:∀ v∈c.vars,v∈z2m:=fun v hv=>hsub.mem hv
 have hVl:c.vars.length≤8:=hsub.length_le
 refine Reads.of rfl u4y rfl rfl rfl (az:=[.ptr sC gC 0 0, .int .i64 (i:Int)]) rfl (by simpa [idsL,AV.ids] using Cov.two q6q (x3w (gP:=gP) (s:=s))) fun D B clk T hB hS hlt hT=> ?_
 have h1:=hlt (sC,z5q gC s sP gP) (by simp)
 have h2:=hlt (sP,z9k gP s) (by simp)
 have b1:=z2g (g:=gC) (hS (sC,z5q gC s sP gP) (by simp))
 dsimp only at h1 h2 b1
 have hil:i < s.clauses.length:=by
  rw[List.getElem?_eq_some_iff] at hi
  exact hi.1
 have hix:∀ h,z1n h 5 (.sl (s.clauses.map z0e) .no) (.int .i64 (i:Int))=some (.iptr [.sl (c.vars.map z1h) .no, .sl (c.body.map z1p) .no,AV.sl (c.guard.map eNode) .no, .str c.head.pred, .sl (c.head.args.map z0i) .no] 0,h):=fun h=>by
  have h2:s.clauses[i]=c:=by
   rw[List.getElem?_eq_some_iff] at hi
   exact hi.2
  rw[z3j (f:=z0e) hil (cs:=[.sl (c.vars.map z1h) .no, .sl (c.body.map z1p) .no,AV.sl (c.guard.map eNode) .no, .str c.head.pred, .sl (c.head.args.map z0i) .no]) (esz:=5) (by rw[h2];rfl) rfl]
 simp only[go_sem,y3x,hB,z3p hB h1,b1,hix]
 refine z3g (u5k hsub fun gX oX c2=> ?_)
 have hlen:∀ a b c:AObj,(D++[a,b,c]).length=B + 3:=fun a b c=>by simp[hB]
 have hS2:∀ L,Has [(sC,z5q gC s sP gP),(sP,z9k gP s)] (D++L):=fun L=>hS.app
 have hSX:∀ a b d L,Has [(B + 3, .map gX (z1r c.vars))] (D++a::b::d:: .map gX (z1r c.vars)::L):=fun _ _ _ _=>x5r hB rfl
 have hS5:∀ g0 g2 b L,Has [(B + 0, .blk g0 [.ptr sC gC 0 0] false false 0),(sC,z5q gC s sP gP),(sP,z9k gP s),(B + 2, .blk g2 [.mp (B + 3) gX] false false 0),(B + 3, .map gX (z1r c.vars))] (D++ .blk g0 [.ptr sC gC 0 0] false false 0::b:: .blk g2 [.mp (B + 3) gX] false false 0:: .map gX (z1r c.vars)::L):=fun g0 g2 b L=>by
  refine Has.cons ?_ (Has.cons (hS2 _ (sC,z5q gC s sP gP) (by simp)) (Has.cons (hS2 _ (sP,z9k gP s) (by simp)) (Has.cons ?_ (Has.cons ?_ Has.nil))))
  ·dsimp only;rw[z2v hB];rfl
  ·dsimp only;rw[z2v hB];rfl
  ·dsimp only;rw[z2v hB];rfl
 have hS3:∀ a b d L,Has [(sC,z5q gC s sP gP),(sP,z9k gP s),(B + 3, .map gX (z1r c.vars))] (D++a::b::d:: .map gX (z1r c.vars)::L):=fun a b d L=>by
  refine Has.cons (hS2 _ (sC,z5q gC s sP gP) (by simp)) (Has.cons (hS2 _ (sP,z9k gP s) (by simp)) (hSX a b d L))
 have hd:∀ N,N=B + 5→sC < N∧sP < N:=fun N hN=>by omega
 simp only[go_sem,hB,hlen,List.append_assoc,z0y,x8p]
 refine z6i (k9p hn hsub) (hS2 _) ?_
 simp only[go_sem,Bool.not_true]
 refine z6i z8n (hS2 _) ?_
 simp only[go_sem,hB]
 refine⟨by simp[z0v,apart,z0h,z0s,z0w,AOp.isCall,hB] <;> omega, ?_⟩
 have r93:∀ g0 g2,Reads [(B + 0, .blk g0 [.ptr sC gC 0 0] false false 0),(sC,z5q gC s sP gP),(sP,z9k gP s),(B + 2, .blk g2 [.mp (B + 3) gX] false false 0),(B + 3, .map gX (z1r c.vars))] 227 [.sl (c.body.map z1p) .no, .fn 228 [.ptr (B + 0) g0 0 0, .ptr (B + 2) g2 0 0]] (.bool false):=fun g0 g2=>by
  have:=w2g (enc:=z1p) (xs:=c.body) (t:= .no) (cap:=[.ptr (B + 0) g0 0 0, .ptr (B + 2) g2 0 0]) (P:=fun _=>false) (fun _=>rfl) (fun _ _=>rfl) z4f (by omega) (by simpa [idsL,AV.ids] using Cov.five (s2:=B + 0) (s5:=B + 2) (sX:=B + 3) (g2:=g0) (g5:=g2) (gC:=gC) (gP:=gP) (gX:=gX) (s:=s) (V:=c.vars) hlt1 (by omega) (by omega) (by omega)) fun a ha=>k9r hp (hbody a ha) hV hlt1 (by omega) (by omega) (by omega)
  have e:(c.body.any fun _=>false)=false:=by simp
  rw[e] at this
  exact this
 simp only[go_sem,hB,z0y]
 refine z6i (r93 _ _) (hS5 _ _ _ _) ?_
 simp only[go_sem,]
 refine z6i z8n (hS2 _) ?_
 simp only[go_sem,hB]
 refine⟨by simp[z0v,apart,z0h,z0s,z0w,AOp.isCall,hB] <;> omega, ?_⟩
 have r175:Reads [(B + 3, .map gX (z1r c.vars))] 230 [.mp (B + 3) gX, .sl (c.guard.map eNode) .no, .int .i64 1] (.bool true):=j5m hguard.1 hV (by have:=hguard.2.1;omega) (by omega)
 simp only[go_sem,hB,z0y]
 refine z6i r175 (hSX _ _ _ _) ?_
 simp only[go_sem,Bool.not_true]
 refine z6i z8n (hS2 _) ?_
 simp only[go_sem,hB]
 refine⟨by simp[z0v,apart,z0h,z0s,z0w,AOp.isCall,hB] <;> omega, ?_⟩
 have e1:decide ((400:Int) < (c.vars.length:Int))=false:=by rw[decide_eq_false_iff_not];omega
 have e2:decide ((8:Int) < (c.body.length:Int))=false:=by rw[decide_eq_false_iff_not];omega
 rcases hhead with ⟨hh1,hh2⟩ | hha
 ·simp only[go_sem,hB,hh1,hh2,decide_true,List.length_map,Int.reduceLT,decide_false]
  rw[z1m z8n (hS2 _)]
  simp only[go_sem,hB,List.length_map,e1,e2]
  rw[z1m z8n (hS2 _)]
  simp only[go_sem,]
  rw[v4h]
  exact hT _ hS.app
 ·have hne:decide (c.head.pred=[])=false:=by
   obtain⟨f,hf,hname,_,_⟩:=hha
   rw[decide_eq_false_iff_not,hname]
   exact hp.name f hf
  have r174:=j5n (sC:=sC) (gC:=gC) (sP:=sP) (gP:=gP) (sX:=B + 3) (gX:=gX) hp hha hV
  rw[z1p] at r174
  simp only[go_sem,hB,hne,z0y]
  refine z6i r174 (hS3 _ _ _ _) ?_
  simp only[go_sem,Bool.not_true]
  refine z6i z8n (hS2 _) ?_
  simp only[go_sem,hB]
  refine⟨by simp[z0v,apart,z0h,z0s,z0w,AOp.isCall,hB] <;> omega, ?_⟩
  simp only[go_sem,hB,List.length_map,e1,e2]
  rw[z1m z8n (hS2 _)]
  simp only[go_sem,]
  rw[v4h]
  exact hT _ hS.app
structure SysV (s:Sys):Prop where
 preds:s.preds.Sublist allPreds
 len:s.clauses.length≤16
 clauses:∀ c∈s.clauses,ClauseOk s.preds c
theorem SysOk.v {s:Sys} (h:SysOk s):SysV s:=by
 obtain⟨⟨n,_,_,hp⟩,hl,hc⟩:=h
 refine⟨by rw[hp];exact (List.take_sublist _ _).trans (List.sublist_append_left z2d [z6r]),by omega,hc⟩
theorem SysV.pr {s:Sys} (h:SysV s):PrOk s.preds:=by
 refine⟨(h.preds.map _).nodup (by decide),fun f hf=> ?_,fun f hf=> ?_⟩
 ·have:∀ f∈allPreds,f.args.length≤40∧∀ s∈f.args,1≤s∧s≤4:=by decide
  exact this f (h.preds.mem hf)
 ·have:∀ f∈allPreds,f.name≠[]:=by decide
  exact this f (h.preds.mem hf)
theorem SysV.apart {s:Sys} (h:SysV s):∀ p∈s.preds,∀ v∈z2m,p.name≠v.name:=fun p hp=>by
 have:∀ p∈allPreds,∀ v∈z2m,p.name≠v.name:=by decide
 exact this p (h.preds.mem hp)
theorem u5l {ps:List Func} {u:Tip} {h:List AObj} {clk:Nat} {Q:AV→List AObj→Nat→Prop} (hp:PrOk ps) (hl:ps.length≤1000) (hQ:∀ g o c,Q (.mp h.length g) (h++[.map g (z4r 0 ps),o]) c):WC Gam 167 [.sl (ps.map z1e) u] h clk Q:=by
 refine x0t rfl y3t rfl rfl rfl (az:=[.sl (ps.map z1e) .no]) rfl (by simp[idsL,AV.ids,z0b z2a]) fun D B R hB hBh hR=> ?_
 simp only[go_sem,y3s,hB,List.length_map]
 refine z1q (fun m q=>∃ (i g:Nat) (o:AObj),i≤ps.length∧m=ps.length - i∧q.ts 3= .mp (B + 0) g∧q.ts 9= .sl (ps.map z1e) .no∧q.ts 10= .int .i64 (ps.length:Int)∧q.ts 11= .int .i64 (i:Int)∧q.h=D++[.map g (z4r 0 (ps.take i)),o]) ps.length ⟨0,_,_,by omega,rfl,rfl,rfl,rfl,rfl,rfl⟩ ?_
 rintro m ⟨ts,h,clk⟩ Pq ⟨i,g,o,hi,rfl,q3,q9,q10,q11,rfl⟩ hnx he hr
 dsimp only at q3 q9 q10 q11
 by_cases hlt':i < ps.length
 ·have f1:decide ((i:Int) < (ps.length:Int))=true:=by rw[decide_eq_true_iff];omega
  have f2:IntKind.i64.wrap ((i:Int) + 1)=((i + 1:Nat):Int):=z0f (by omega) (by omega)
  have hix:∀ h,z1n h 3 (.sl (ps.map z1e) .no) (.int .i64 (i:Int))=some (.iptr [.str ps[i].name, .sl (ps[i].args.map nat) .no, .int .i64 (ps[i].result:Int)] 0,h):=fun h=>z8l hlt'
  have htake:ps.take (i + 1)=ps.take i++[ps[i]]:=List.take_succ_eq_append_getElem hlt'
  have hnew:∀ p∈ps.take i,p.name≠ps[i].name:=by
   intro p hp' e
   have h3:=hp.nodup
   have h4:((ps.take (i + 1)).map (·.name)).Nodup:=h3.sublist ((List.take_sublist _ _).map _)
   rw[htake,List.map_append,List.nodup_append] at h4
   exact h4.2.2 _ (List.mem_map.2 ⟨p,hp',rfl⟩) _ (by simp) e
  have hput:=x0w (a:=ps[i].name) (n:=i) (ps:=ps.take i) (k:=0) (r:=ps[i].args) (q:=ps[i].result) hnew (by simp;omega)
  have hfk:=q2m (a:=ps[i].name) (k:=0) hnew
  generalize ps[i]=p at *
  have hmu:∀ L:List AObj,z5s L 0 g=some (z4r 0 (ps.take i))→muV (D++L) (.one .str) (.str p.name) (.int .i64 (i:Int)) (.mp (B + 0) g)=some (.undef,D++L.set 0 (.map g (z4r 0 (ps.take (i + 1))))):=fun L hL=>by
   refine x3u (v:= .int .i64 (i:Int)) hB hL rfl ?_
   rw[htake]
   exact hput
  simp only[go_sem,j5e,q3,q9,q10,q11,f1,hB,hix,z6n,q3k hfk,z7b,Bool.not_false,hmu,f2]
  exact hnx (ps.length - (i + 1)) _ (by omega) ⟨i + 1,g,_,hlt',rfl,q3,q9,q10,rfl,rfl⟩
 ·have f1:decide ((i:Int) < (ps.length:Int))=false:=by rw[decide_eq_false_iff_not];omega
  have hti:ps.take i=ps:=List.take_of_length_le (by omega)
  simp only[go_sem,j5e,q3,q9,q10,q11,f1]
  refine he _ _ ?_
  simp only[go_sem,q3]
  rw[q5u rfl,hti]
  refine hR _ _ ⟨B + 0,by simp[z1l,AV.cv,AV.ids],by omega⟩ fun c=> ?_
  have:=hQ g o c
  rw[←hBh] at this
  exact this
theorem w2j {f:Func} (hf:f∈allPreds):Pure Gam 169 [z1e f] (.bool false):=by
 refine Pure.tab (tab:=j3c) rfl rfl ?_
 simp only[allPreds,List.mem_cons,List.not_mem_nil,or_false] at hf
 rcases hf with rfl | rfl | rfl | rfl | rfl | rfl <;> rfl
theorem Cov.none:Cov [] []:=⟨by simp,by simp,fun h _ p hp=>by simp at hp⟩
theorem k3u {ps:List Func} (hp:ps.Sublist allPreds):Reads [] 168 [.sl (ps.map z1e) .no, .fn 169 []] (.bool false):=by
 have:=k9g (enc:=z1e) (xs:=ps) (S:=[]) (c:=169) (cap:=[]) (t:= .no) (P:=fun _=>false) (fun _=>rfl) (fun _ _=>rfl) z2a (by have:=hp.length_le;simp[allPreds] at this;omega) Cov.none fun f hf=>(w2j (hp.mem hf)).reads
 have e:(ps.any fun _=>false)=false:=by simp
 rw[e] at this
 exact this
theorem w2k {h:List AObj} {s g:Nat}:v7o h .mp (.mp s g)=((z5s h s g).map fun es=>(.int .i64 (es.length:Int))).map (·,h):=(rfl)
theorem y4k {s:Sys} (hs:SysV s):Pure Gam 104 [z1b s] (.sl [] .no):=by
 have hpr:=hs.pr
 have hpl:s.preds.length≤6:=hs.preds.length_le
 have hcl:=hs.len
 refine Pure.of rfl g3n rfl rfl rfl (az:=[z1b s]) rfl (by simp[idsL,z2k]) fun D B clk T hB hT=> ?_
 simp only[go_sem,u9c,hB,z1b,z0y]
 refine x0y ?_ (u5l hpr (by omega) fun gP oP c2=> ?_)
 ·refine q1c (az:=[.sl (s.preds.map z1e) .no]) y3t rfl rfl rfl (by simp[idsL,AV.ids,z0b z2a])
 have hlen:∀ a b:AObj,(D++[a,b]).length=B + 2:=fun a b=>by simp[hB]
 simp only[go_sem,hB,hlen,List.append_assoc]
 refine⟨by simp[z0v,apart,z0h,z0s,z0w,AOp.isCall], ?_⟩
 have hS:∀ g a o,Has [(B + 1,z5q g s (B + 2) gP),(B + 2,z9k gP s)] (D++[a, .blk g [.agg [.sl (s.preds.map z1e) .no, .sl (s.clauses.map z0e) .no, .mp (B + 2) gP, .sl [] .nil]] false false 0, .map gP (z4r 0 s.preds),o]):=fun g a o=>by
  refine Has.cons ?_ (Has.cons ?_ Has.nil)
  ·dsimp only;rw[z2v hB];rfl
  ·dsimp only;rw[z2v hB];rfl
 have r118:=k3u hs.preds
 have e1:decide ((s.preds.length:Int) < (s.preds.length:Int))=false:=by rw[decide_eq_false_iff_not];omega
 have e2:decide ((512:Int) < (s.preds.length:Int))=false:=by rw[decide_eq_false_iff_not];omega
 have e3:decide ((2048:Int) < (s.clauses.length:Int))=false:=by rw[decide_eq_false_iff_not];omega
 simp only[w2k,x5a hB,j4k,j4j,Option.map_some,j2m]
 simp only[go_sem,hB,List.length_map,e1,z1m r118 Has.nil,decide_false,Int.lt_irrefl]
 rw[z1m z8n (hS _ _ _)]
 simp only[go_sem,hB,List.length_map,e2,e3]
 rw[z1m z8n (hS _ _ _)]
 simp only[go_sem,hB,List.length_map]
 refine z1q (fun m q=>∃ (i gC:Nat) (a:AObj),i≤s.clauses.length∧m=s.clauses.length - i∧q.ts 3= .ptr (B + 1) gC 0 0∧q.ts 43= .int .i64 (s.clauses.length:Int)∧q.ts 44= .int .i64 (i:Int)∧q.h=D++[a, .blk gC [.agg [.sl (s.preds.map z1e) .no, .sl (s.clauses.map z0e) .no, .mp (B + 2) gP, .sl [] .nil]] false false 0, .map gP (z4r 0 s.preds),oP]) s.clauses.length ⟨0,_,_,by omega,rfl,by simp[z0c],by simp[z0c],by simp[z0c],rfl⟩ ?_
 rintro m ⟨ts,h,clk⟩ Pq ⟨i,gC,a,hi,rfl,q3,q43,q44,rfl⟩ hnx he hr
 dsimp only at q3 q43 q44
 by_cases hlt':i < s.clauses.length
 ·have f1:decide ((i:Int) < (s.clauses.length:Int))=true:=by rw[decide_eq_true_iff];omega
  have f2:IntKind.i64.wrap ((i:Int) + 1)=((i + 1:Nat):Int):=z0f (by omega) (by omega)
  have r122:=k9s (sC:=B + 1) (gC:=gC) (sP:=B + 2) (gP:=gP) (i:=i) (c:=s.clauses[i]) hpr hs.apart (hs.clauses _ (List.getElem_mem hlt')) (by simp[hlt']) (by omega)
  simp only[go_sem,k9b,q3,q43,q44,f1,z1m r122 (hS _ _ _),f2]
  exact hnx (s.clauses.length - (i + 1)) _ (by omega) ⟨i + 1,gC,a,hlt',rfl,q3,q43,rfl,rfl⟩
 ·have f1:decide ((i:Int) < (s.clauses.length:Int))=false:=by rw[decide_eq_false_iff_not];omega
  simp only[go_sem,k9b,q3,q43,q44,f1]
  refine he _ _ ?_
  simp only[go_sem,q3,hB]
  rw[z0j rfl rfl]
  exact hT _
theorem v4i {s:Sys} (hs:SysV s):Pure Gam 63 [z1b s] (.bool true):=by
 have hp:=y4k hs
 rw[z1b] at hp
 refine Pure.of rfl g3m rfl rfl rfl (az:=[z1b s]) rfl (by simp[idsL,z2k]) fun D B clk T hB hT=> ?_
 simp only[go_sem,u9b,hB,z1b,z0a hp,Int.reduceEq,decide_true]
 rw[z0d]
 exact hT _
theorem z5j {l:List Clause} {i:Nat} {h:List AObj} {t:Tip} {k:IntKind} (hi:i < l.length):z1n h 5 (.sl (l.map z0e) t) (.int k (i:Int))=some (.iptr [.sl (l[i].vars.map z1h) .no, .sl (l[i].body.map z1p) .no, .sl (l[i].guard.map eNode) .no, .str l[i].head.pred, .sl (l[i].head.args.map z0i) .no] 0,h):=z3j hi rfl rfl
structure Tf where
 kind:Int
 pred:List Nat
 into:List Nat
 clause:Int
 atom:Int
 un:List (List Nat)
 und:List (List Nat)
 drops:List AV
def z3r (l:List (List Nat)):List AV:=l.map AV.str
def eTf (x:Tf):AV:= .agg [.int .i64 x.kind, .str x.pred, .str x.into, .int .i64 x.clause, .int .i64 x.atom, .sl (z3r x.un) .no, .sl (z3r x.und) .no, .sl x.drops .no]
theorem z2u {l:List (List Nat)}:idsL (z3r l)=[]:=z0b fun _=>rfl
theorem z5k {l:List (List Nat)}:z0o 1 (z3r l)=true:=z3x fun _=>⟨rfl,rfl,rfl⟩
theorem z4u {l:List Func} {i:Nat} {h:List AObj} {t:Tip} {k:IntKind} (hi:i < l.length):z1n h 3 (.sl (l.map z1e) t) (.int k (i:Int))=some (.iptr [.str l[i].name, .sl (l[i].args.map nat) .no, .int .i64 (l[i].result:Int)] 0,h):=z8l hi
theorem v4j {ps:List Func} {u:Tip} (hl:ps.length≤1000):Pure Gam 30 [.sl (ps.map z1e) u] (.sl (z3r (ps.map (·.name))) .no):=by
 refine Pure.of rfl g3g rfl rfl rfl (az:=[.sl (ps.map z1e) .no]) rfl (by simp[idsL,AV.ids,z0b z2a]) fun D B clk T hB hT=> ?_
 simp only[go_sem,u8v,List.length_map]
 refine z1q (fun m q=>∃ (i:Nat) (t:Tip) (a b o:AObj),i≤ps.length∧m=ps.length - i∧q.ts 3= .sl (z3r ((ps.take i).map (·.name))) t∧q.ts 6= .sl (ps.map z1e) .no∧q.ts 7= .int .i64 (ps.length:Int)∧q.ts 8= .int .i64 (i:Int)∧q.h=D++[a,b,o]∧z7x B 2 o t 1) ps.length ⟨0, .nil,_,_,_,by omega,rfl,rfl,rfl,rfl,rfl,rfl, .inl rfl⟩ ?_
 rintro m ⟨ts,h,clk⟩ P ⟨i,t,a,b,o,hi,rfl,q3,q6,q7,q8,rfl,ht⟩ hnx he hr
 dsimp only at q3 q6 q7 q8
 by_cases hlt:i < ps.length
 ·have f1:decide ((i:Int) < (ps.length:Int))=true:=by rw[decide_eq_true_iff];omega
  have f2:IntKind.i64.wrap ((i:Int) + 1)=((i + 1:Nat):Int):=z0f (by omega) (by omega)
  have hix:=fun h=>z4u (l:=ps) (i:=i) (h:=h) (t:= .no) (k:= .i64) hlt
  have htake:ps.take (i + 1)=ps.take i++[ps[i]]:=List.take_succ_eq_append_getElem hlt
  have e8:z3r ((ps.take i).map (·.name))++z3r [ps[i].name]=z3r ((ps.take (i + 1)).map (·.name)):=by rw[htake,z3r,z3r,z3r,List.map_append,List.map_append];rfl
  generalize ps[i]=f at *
  simp only[go_sem,k8x,q3,q6,q7,q8,hB,f1,hix]
  rw[show [AV.str f.name]=z3r [f.name] from rfl,z0k hB rfl ht z5k z5k (by simp only[z3r,List.length_map,List.length_singleton,List.length_take];omega)]
  simp only[go_sem,q3,q6,q7,q8,f2,e8]
  exact hnx (ps.length - (i + 1)) _ (by omega) ⟨i + 1,_,_,_,_,hlt,rfl,rfl,q6,q7,rfl,rfl, .inr (.inr ⟨_,rfl,rfl⟩)⟩
 ·have f1:decide ((i:Int) < (ps.length:Int))=false:=by rw[decide_eq_false_iff_not];omega
  have hti:ps.take i=ps:=List.take_of_length_le (by omega)
  rw[hti] at q3
  simp only[go_sem,k8x,q3,q6,q7,q8,f1]
  refine he _ _ ?_
  simp only[go_sem,q3]
  rw[z2q rfl (by simp[AV.cv,AV.ids,z2u])]
  exact hT _
structure TfOk (x:Tf):Prop where
 un:x.un.length≤2 ^ 18
 und:x.und.length≤2 ^ 18
 drops:idsL x.drops=[]
theorem q2o {x:Tf} (hx:TfOk x):(eTf x).ids=[]:=by simp[eTf,AV.ids,idsL,z2u,hx.drops]
theorem x5x {esz b:Nat} {xs:List AV} {t:Tip} (h1:z0o esz xs=true) (h3:idsL xs=[]) (h2:xs.length * (b + 1)≤2 ^ 46):z5o esz b (cvL [.sl xs t])=some (.sl xs .no):=by
 simp only[cvL,AV.cv,z5o]
 rw[if_pos ⟨h1,by rw[h3];rfl,h2⟩]
theorem y4l {xs:List Nat} {t:Tip} (hl:xs.length≤2 ^ 20):Pure Gam 102 [.sl (xs.map nat) t] (.sl (xs.map nat) .no):=Pure.ext (sem:=z5o 1 8) rfl rfl (x5x z4i z6m (by rw[List.length_map];omega))
theorem v4k {xs:List Var} {t:Tip} (hl:xs.length≤2 ^ 20):Pure Gam 66 [.sl (xs.map z1h) t] (.sl (xs.map z1h) .no):=Pure.ext (sem:=z5o 2 24) rfl rfl (x5x z3d (z0b z1k) (by rw[List.length_map];omega))
theorem k3v {xs:Term} {t:Tip} (hl:xs.length≤2 ^ 20):Pure Gam 67 [.sl (xs.map eNode) t] (.sl (xs.map eNode) .no):=Pure.ext (sem:=z5o 5 56) rfl rfl (x5x z2x (z0b z0x) (by rw[List.length_map];omega))
theorem w2l {l:List Term} {u:Tip} (hl:l.length≤2 ^ 20) (hts:∀ t∈l,t.length≤2 ^ 20):Pure Gam 166 [.sl (l.map z0i) u] (.sl (l.map z0i) .no):=by
 refine Pure.of rfl u4u rfl rfl rfl (az:=[.sl (l.map z0i) .no]) rfl (by simp[idsL,AV.ids,z0b z1f]) fun D B clk T hB hT=> ?_
 simp only[go_sem,y3r,List.length_map]
 refine z1q (fun m q=>∃ (i:Nat) (t:Tip) (a o:AObj),i≤l.length∧m=l.length - i∧q.ts 3= .sl ((l.take i).map z0i) t∧q.ts 6= .sl (l.map z0i) .no∧q.ts 7= .int .i64 (l.length:Int)∧q.ts 8= .int .i64 (i:Int)∧q.h=D++[a,o]∧z7x B 1 o t 1) l.length ⟨0, .nil,_,_,by omega,rfl,rfl,rfl,rfl,rfl,rfl, .inl rfl⟩ ?_
 rintro m ⟨ts,h,clk⟩ P ⟨i,t,a,o,hi,rfl,q3,q6,q7,q8,rfl,ht⟩ hnx he hr
 dsimp only at q3 q6 q7 q8
 by_cases hlt:i < l.length
 ·have f1:decide ((i:Int) < (l.length:Int))=true:=by rw[decide_eq_true_iff];omega
  have f2:IntKind.i64.wrap ((i:Int) + 1)=((i + 1:Nat):Int):=z0f (by omega) (by omega)
  have hix:∀ h,z1n h 1 (.sl (l.map z0i) .no) (.int .i64 (i:Int))=some (.iptr [.sl (l[i].map eNode) .no] 0,h):=fun h=>q1e hlt
  have e8:(l.take i).map z0i++[l[i]].map z0i=(l.take (i + 1)).map z0i:=by rw[List.take_succ_eq_append_getElem hlt,List.map_append]
  have hpx:=hts _ (List.getElem_mem hlt)
  generalize l[i]=x at *
  simp only[go_sem,j5d,q3,q6,q7,q8,hB,f1,hix,z0a (k3v hpx)]
  rw[show [AV.sl (x.map eNode) .no]=[x].map z0i from rfl,z0k hB rfl ht z4c z4c (by simp only[List.length_map,List.length_singleton,List.length_take];omega),e8]
  simp only[go_sem,q3,q6,q7,q8,f2]
  exact hnx (l.length - (i + 1)) _ (by omega) ⟨i + 1,_,_,_,hlt,rfl,rfl,q6,q7,rfl,rfl, .inr (.inr ⟨_,rfl,rfl⟩)⟩
 ·have f1:decide ((i:Int) < (l.length:Int))=false:=by rw[decide_eq_false_iff_not];omega
  have hti:l.take i=l:=List.take_of_length_le (by omega)
  rw[hti] at q3
  simp only[go_sem,j5d,q3,q6,q7,q8,f1]
  refine he _ _ ?_
  simp only[go_sem,q3]
  rw[z2q rfl (by simp[AV.cv,AV.ids,z0b z1f])]
  exact hT _
theorem v4l {a:App} (hl:a.args.length≤2 ^ 20) (hts:∀ t∈a.args,t.length≤2 ^ 20):Pure Gam 103 [z1p a] (z1p a):=by
 have hp:=w2l (u:= .no) hl hts
 refine Pure.of rfl g3l rfl rfl rfl (az:=[z1p a]) rfl (by simp[idsL,z4f]) fun D B clk T hB hT=> ?_
 simp only[go_sem,u8z,hB,z1p,z0y,z0a hp,z0m,z0l,z0g]
 refine⟨by simp[z0v,apart,z0h,z0s,z0w,AOp.isCall,hB], ?_⟩
 rw[z2q rfl (by simp[AV.cv,cvL,AV.ids,idsL,z0b z1f])]
 exact hT _
theorem y4m {ps:List Func} {u:Tip} (hl:ps.length≤1000) (hpa:∀ f∈ps,f.args.length≤2 ^ 20):Pure Gam 60 [.sl (ps.map z1e) u] (.sl (ps.map z1e) .no):=by
 refine Pure.of rfl g3j rfl rfl rfl (az:=[.sl (ps.map z1e) .no]) rfl (by simp[idsL,AV.ids,z0b z2a]) fun D B clk T hB hT=> ?_
 simp only[go_sem,u8x,List.length_map]
 refine z1q (fun m q=>∃ (i:Nat) (t:Tip) (a b o:AObj),i≤ps.length∧m=ps.length - i∧q.ts 3= .sl ((ps.take i).map z1e) t∧q.ts 6= .sl (ps.map z1e) .no∧q.ts 7= .int .i64 (ps.length:Int)∧q.ts 8= .int .i64 (i:Int)∧q.h=D++[a,b,o]∧z7x B 2 o t 3) ps.length ⟨0, .nil,_,_,_,by omega,rfl,rfl,rfl,rfl,rfl,rfl, .inl rfl⟩ ?_
 rintro m ⟨ts,h,clk⟩ P ⟨i,t,a,b,o,hi,rfl,q3,q6,q7,q8,rfl,ht⟩ hnx he hr
 dsimp only at q3 q6 q7 q8
 by_cases hlt:i < ps.length
 ·have f1:decide ((i:Int) < (ps.length:Int))=true:=by rw[decide_eq_true_iff];omega
  have f2:IntKind.i64.wrap ((i:Int) + 1)=((i + 1:Nat):Int):=z0f (by omega) (by omega)
  have hix:=fun h=>z4u (l:=ps) (i:=i) (h:=h) (t:= .no) (k:= .i64) hlt
  have e8:(ps.take i).map z1e++[ps[i]].map z1e=(ps.take (i + 1)).map z1e:=by rw[List.take_succ_eq_append_getElem hlt,List.map_append]
  have hpf:=hpa _ (List.getElem_mem hlt)
  generalize ps[i]=f at *
  simp only[go_sem,k8z,q3,q6,q7,q8,hB,f1,hix,z0a (y4l hpf)]
  rw[show [AV.agg [.str f.name, .sl (f.args.map nat) .no, .int .i64 (f.result:Int)]]=[f].map z1e from rfl,z0k hB rfl ht z4q z4q (by simp only[List.length_map,List.length_singleton,List.length_take];omega),e8]
  simp only[go_sem,q3,q6,q7,q8,f2]
  exact hnx (ps.length - (i + 1)) _ (by omega) ⟨i + 1,_,_,_,_,hlt,rfl,rfl,q6,q7,rfl,rfl, .inr (.inr ⟨_,rfl,rfl⟩)⟩
 ·have f1:decide ((i:Int) < (ps.length:Int))=false:=by rw[decide_eq_false_iff_not];omega
  have hti:ps.take i=ps:=List.take_of_length_le (by omega)
  rw[hti] at q3
  simp only[go_sem,k8z,q3,q6,q7,q8,f1]
  refine he _ _ ?_
  simp only[go_sem,q3]
  rw[z2q rfl (by simp[AV.cv,AV.ids,z0b z2a])]
  exact hT _
structure SmallC (c:Clause):Prop where
 body:c.body.length≤2 ^ 20
 bargs:∀ a∈c.body,a.args.length≤2 ^ 20∧∀ t∈a.args,t.length≤2 ^ 20
 hargs:c.head.args.length≤2 ^ 20∧∀ t∈c.head.args,t.length≤2 ^ 20
 vars:c.vars.length≤2 ^ 20
 guard:c.guard.length≤2 ^ 20
theorem j2n {n:Nat} (h1:1≤n) (h4:n≤4):Pure Gam 114 [nat n] (.bool true):=by
 refine Pure.of rfl u2c rfl rfl rfl rfl rfl fun D B clk T hB hT=> ?_
 have e1:decide ((1:Int)≤(n:Int))=true:=by rw[decide_eq_true_iff];omega
 have e2:decide ((n:Int)≤(4:Int))=true:=by rw[decide_eq_true_iff];omega
 simp only[go_sem,y0f,nat,e1,e2]
 rw[z0d]
 exact hT _
theorem k3w {n:Nat}:Pure Gam 266 [nat n] (.bool (decide (n=2∨n=3))):=by
 refine Pure.of rfl u2b rfl rfl rfl rfl rfl fun D B clk T hB hT=> ?_
 by_cases h2:n=2
 ·subst h2
  simp only[go_sem,v9r,nat,Int.cast_ofNat_Int,decide_true]
  rw[z0d]
  exact hT _
 ·have e1:decide ((n:Int)=(2:Int))=false:=by rw[decide_eq_false_iff_not];omega
  have e2:decide ((n:Int)=(3:Int))=decide (n=2∨n=3):=by rw[decide_eq_decide];omega
  simp only[go_sem,v9r,nat,e1,e2]
  rw[z0d]
  exact hT _
theorem w2m {ss:List Nat} {s o:Nat} {u:Tip} (hl:ss.length≤2 ^ 20) (h:∀ x∈ss,x=s):Pure Gam 265 [.sl (ss.map nat) u,nat s,nat o] (nat o):=by
 refine Pure.of rfl u2a rfl rfl rfl (az:=[.sl (ss.map nat) .no,nat s,nat o]) rfl (by simp[idsL,AV.ids,z0b (fun _=>z3q),z3q]) fun D B clk T hB hT=> ?_
 simp only[go_sem,y0e,nat,hB]
 refine z1q (fun m q=>∃ i:Nat,i≤ss.length∧m=ss.length - i∧q.ts 0= .sl (ss.map nat) .no∧q.ts 1=nat s∧q.ts 2=nat o∧q.ts 7= .int .i64 (i:Int)∧q.h=D) ss.length ⟨0,Nat.zero_le _,by omega,rfl,rfl,rfl,rfl,by simp⟩ ?_
 rintro m ⟨ts,h',clk'⟩ Pq ⟨i,hi,rfl,q0,q1,q2,q7,rfl⟩ hnx he hr
 dsimp only at q0 q1 q2 q7
 by_cases hlt:i < ss.length
 ·have f1:decide ((i:Int) < (ss.length:Int))=true:=by rw[decide_eq_true_iff];omega
  have f2:IntKind.i64.wrap ((i:Int) + 1)=((i + 1:Nat):Int):=z0f (by omega) (by omega)
  have f3:ss[i]=s:=h _ (List.getElem_mem hlt)
  simp only[go_sem,j4d,q0,q1,q2,q7,nat,List.length_map,f1,z7y hlt,f3,decide_true,Bool.not_true,f2]
  exact hnx (ss.length - (i + 1)) _ (by omega) ⟨i + 1,hlt,rfl,q0,q1,q2,rfl,rfl⟩
 ·have f1:decide ((i:Int) < (ss.length:Int))=false:=by rw[decide_eq_false_iff_not];omega
  simp only[go_sem,j4d,q0,q1,q2,q7,List.length_map,f1]
  refine he _ _ ?_
  simp only[go_sem,q2]
  rw[z0j rfl rfl]
  exact hT _
theorem w2n {V:List Var} {n:Node} {ss:List Nat} {s:Nat} {ks:Term} (hn:NodeOk V n ss s ks) (hk:n.kids=ss.length):Pure Gam 238 [nat n.op,nat n.kids] (.bool true):=by
 refine Pure.of rfl u1y rfl rfl rfl rfl rfl fun D B clk T hB hT=> ?_
 have e0:∀ k:Nat,decide ((0:Int)≤(k:Int))=true:=fun k=>by rw[decide_eq_true_iff];omega
 have e1:∀ k:Nat,1≤k→decide ((1:Int)≤(k:Int))=true:=fun k h=>by rw[decide_eq_true_iff];omega
 cases hn with
 | bool h=>rcases h with rfl | rfl <;> (simp only[go_sem,q2b,nat,bare,Int.cast_ofNat_Int,Int.reduceEq,decide_true,decide_false];rw[z0d];exact hT _)
 | int h=>simp only[go_sem,q2b,nat,Int.cast_ofNat_Int,Int.reduceEq,decide_true,decide_false];rw[z0d];exact hT _
 | real h=>simp only[go_sem,q2b,nat,Int.cast_ofNat_Int,Int.reduceEq,decide_true,decide_false];rw[z0d];exact hT _
 | var h=>simp only[go_sem,q2b,nat,Int.cast_ofNat_Int,Int.reduceEq,decide_true,decide_false];rw[z0d];exact hT _
 | not=>simp only[go_sem,q2b,nat,bare,Int.cast_ofNat_Int,Int.reduceEq,decide_true,decide_false];rw[z0d];exact hT _
 | andor h=>rcases h with rfl | rfl <;> (simp only[go_sem,q2b,nat,bare,Int.cast_ofNat_Int,Int.reduceEq,decide_true,decide_false,e0];rw[z0d];exact hT _)
 | imp=>simp only[go_sem,q2b,nat,bare,Int.cast_ofNat_Int,Int.reduceEq,decide_true,decide_false];rw[z0d];exact hT _
 | ite h1 h2=>simp only[go_sem,q2b,nat,bare,Int.cast_ofNat_Int,Int.reduceEq,decide_true,decide_false];rw[z0d];exact hT _
 | eq h1 h2=>simp only[go_sem,q2b,nat,bare,Int.cast_ofNat_Int,Int.reduceEq,decide_true,decide_false];rw[z0d];exact hT _
 | cmp h hs=>rcases h with rfl | rfl <;> (simp only[go_sem,q2b,nat,bare,Int.cast_ofNat_Int,Int.reduceEq,decide_true,decide_false];rw[z0d];exact hT _)
 | add h hs=>simp only[go_sem,q2b,nat,bare,Int.cast_ofNat_Int,Int.reduceEq,decide_true,decide_false,e1 _ h];rw[z0d];exact hT _
 | mul hs hn=>simp only[go_sem,q2b,nat,bare,Int.cast_ofNat_Int,Int.reduceEq,decide_true,decide_false];rw[z0d];exact hT _
 | div h h1 h2=>rcases h with rfl | rfl <;> (simp only[go_sem,q2b,nat,Int.cast_ofNat_Int,Int.reduceEq,decide_true,decide_false];rw[z0d];exact hT _)
 | select=>simp only[go_sem,q2b,nat,bare,Int.cast_ofNat_Int,Int.reduceEq,decide_true,decide_false];rw[z0d];exact hT _
 | store=>simp only[go_sem,q2b,nat,bare,Int.cast_ofNat_Int,Int.reduceEq,decide_true,decide_false];rw[z0d];exact hT _
 | const=>simp only[go_sem,q2b,nat,bare,Int.cast_ofNat_Int,Int.reduceEq,decide_true,decide_false];rw[z0d];exact hT _
theorem w2o {V:List Var} {n:Node} {ss:List Nat} {s fi:Nat} {ks:Term} {u:Tip} (hn:NodeOk V n ss s ks) (hl:ss.length≤2 ^ 20) (hf:n.op=15→fi=3):Pure Gam 239 [eNode n,nat fi, .sl (ss.map nat) u] (nat s):=by
 refine Pure.of rfl u1z rfl rfl rfl (az:=[eNode n,nat fi, .sl (ss.map nat) .no]) rfl (by simp[idsL,AV.ids,z0b (fun _=>z3q),z3q,eNode]) fun D B clk T hB hT=> ?_
 have sm:∀ (x o:Nat),(∀ y∈ss,y=x)→Pure Gam 265 [.sl (ss.map nat) .no, .int .i64 (x:Int), .int .i64 (o:Int)] (.int .i64 (o:Int)):=fun x o h=>w2m hl h
 cases hn with
 | bool h=>rcases h with rfl | rfl <;> (simp only[go_sem,q2c,hB,eNode,nat,bare,Int.cast_ofNat_Int,Int.reduceEq,decide_true,decide_false];rw[z0j rfl rfl];exact hT _)
 | int h=>simp only[go_sem,q2c,hB,eNode,nat,Int.cast_ofNat_Int,Int.reduceEq,decide_true,decide_false];rw[z0j rfl rfl];exact hT _
 | real h=>simp only[go_sem,q2c,hB,eNode,nat,Int.cast_ofNat_Int,Int.reduceEq,decide_true,decide_false];rw[z0j rfl rfl];exact hT _
 | var h=>simp only[go_sem,q2c,hB,eNode,nat,Int.cast_ofNat_Int,Int.reduceEq,decide_true,decide_false];rw[z0j rfl rfl];exact hT _
 | not=>
   have p:=sm 1 1 (by simp)
   simp only[List.map_cons,List.map_nil,nat,Int.cast_ofNat_Int] at p
   simp only[go_sem,q2c,hB,eNode,nat,bare,Int.cast_ofNat_Int,Int.reduceEq,decide_true,decide_false,z0a p];rw[z0j rfl rfl];exact hT _
 | andor h=>
   have p:=sm 1 1 (by simp)
   simp only[List.map_replicate,nat,Int.cast_ofNat_Int] at p
   rcases h with rfl | rfl <;> (simp only[go_sem,q2c,hB,eNode,nat,bare,Int.cast_ofNat_Int,Int.reduceEq,decide_true,decide_false,List.map_replicate,z0a p];rw[z0j rfl rfl];exact hT _)
 | imp=>
   have p:=sm 1 1 (by simp)
   simp only[List.map_cons,List.map_nil,nat,Int.cast_ofNat_Int] at p
   simp only[go_sem,q2c,hB,eNode,nat,bare,Int.cast_ofNat_Int,Int.reduceEq,decide_true,decide_false,z0a p];rw[z0j rfl rfl];exact hT _
 | @ite s ks h1 h2=>simp only[go_sem,q2c,hB,eNode,nat,bare,Int.cast_ofNat_Int,Int.reduceEq,decide_true,decide_false,z2s,q0l,x0r];rw[z0j rfl rfl];exact hT _
 | @eq s ks h1 h2=>
   have p:=sm s 1 (by simp)
   simp only[List.map_cons,List.map_nil,nat,Int.cast_ofNat_Int] at p
   simp only[go_sem,q2c,hB,eNode,nat,bare,Int.cast_ofNat_Int,Int.reduceEq,decide_true,decide_false,z2s,z0a p];rw[z0j rfl rfl];exact hT _
 | @cmp o s ks h hs=>
   have p:=sm s 1 (by simp)
   have q:=k3w (n:=s)
   rw[show decide (s=2∨s=3)=true from decide_eq_true hs] at q
   simp only[List.map_cons,List.map_nil,nat,Int.cast_ofNat_Int] at p q
   rcases h with rfl | rfl <;> (simp only[go_sem,q2c,hB,eNode,nat,bare,Int.cast_ofNat_Int,Int.reduceEq,decide_true,decide_false,z2s,z0a q,z0a p];rw[z0j rfl rfl];exact hT _)
 | @add k s ks h hs=>
   obtain⟨k,rfl⟩:∃ j,k=j + 1:=⟨k - 1,by omega⟩
   have p:=sm s s (by simp)
   have q:=k3w (n:=s)
   rw[show decide (s=2∨s=3)=true from decide_eq_true hs] at q
   simp only[List.replicate_succ,List.map_cons,List.map_replicate,nat,Int.cast_ofNat_Int] at p q
   simp only[go_sem,q2c,hB,eNode,nat,bare,Int.cast_ofNat_Int,Int.reduceEq,decide_true,decide_false,List.replicate_succ,List.map_cons,List.map_replicate,z2s,z0a q,z0a p];rw[z0j rfl rfl];exact hT _
 | @mul s m ks hs hm=>
   have p:=sm s s (by simp)
   obtain rfl:=hf rfl
   simp only[List.map_cons,List.map_nil,nat,Int.cast_ofNat_Int] at p
   simp only[go_sem,q2c,hB,eNode,nat,bare,Int.cast_ofNat_Int,Int.reduceEq,decide_true,decide_false,z2s,z0a p];rw[z0j rfl rfl];exact hT _
 | @div o k ks h h1 h2=>
   have p:=sm 2 2 (by simp)
   simp only[List.map_cons,List.map_nil,nat,Int.cast_ofNat_Int] at p
   rcases h with rfl | rfl <;> (simp only[go_sem,q2c,hB,eNode,nat,bare,Int.cast_ofNat_Int,Int.reduceEq,decide_true,decide_false,z0a p];rw[z0j rfl rfl];exact hT _)
 | select=>simp only[go_sem,q2c,hB,eNode,nat,bare,Int.cast_ofNat_Int,Int.reduceEq,decide_true,decide_false,z2s,q0l];rw[z0j rfl rfl];exact hT _
 | store=>simp only[go_sem,q2c,hB,eNode,nat,bare,Int.cast_ofNat_Int,Int.reduceEq,decide_true,decide_false,z2s,q0l,x0r];rw[z0j rfl rfl];exact hT _
 | const=>
   have p:=sm 2 4 (by simp)
   simp only[List.map_cons,List.map_nil,nat,Int.cast_ofNat_Int] at p
   simp only[go_sem,q2c,hB,eNode,nat,bare,Int.cast_ofNat_Int,Int.reduceEq,decide_true,decide_false,z0a p];rw[z0j rfl rfl];exact hT _
theorem x3x {B clk g4:Nat} {D:List AObj} {o0:AObj} {neg:Bool} {A R:List Nat} {v0:AV} {ts:Tmps} {ks:List Kf} {Q:Post} (hd:∀ c∈A,48≤c∧c≤57) (hl:A.length≤20000000) (hB:D.length=B) (h0:ts 0=v0) (h4:ts 4= .ptr (B + 1) g4 0 0) (h5:ts 5= .str (A++47::R)) (h6:ts 6= .int .i64 0) {g2:Nat} (h2:ts 2= .ptr (B + 0) g2 0 0)
  (hQ:∀ (ts':Tmps) (clk':Nat),ts' 0=v0→ts' 2= .ptr (B + 0) g2 0 0→ts' 4= .ptr (B + 1) g4 0 0→ts' 5= .str A→K Gam B (.exit 0) ks ⟨ts',D++[o0, .blk g4 [.agg [.bool neg, .str [], .str R]] false false 0],clk'⟩ Q):K Gam B (.loop q7p) ks ⟨ts,D++[o0, .blk g4 [.agg [.bool neg, .str [], .str [49]]] false false 0],clk⟩ Q:=by
 refine z1q (fun m q=>∃ j:Nat,j≤A.length∧m=A.length - j∧q.ts 0=v0∧q.ts 2= .ptr (B + 0) g2 0 0∧q.ts 4= .ptr (B + 1) g4 0 0∧q.ts 5= .str (A++47::R)∧q.ts 6= .int .i64 (j:Int)∧q.h=D++[o0, .blk g4 [.agg [.bool neg, .str [], .str [49]]] false false 0]) A.length ⟨0,by omega,rfl,h0,h2,h4,h5,h6,rfl⟩ ?_
 clear h0 h2 h4 h5 h6
 rintro m ⟨ts,h,clk⟩ P ⟨j,hj,rfl,h0,h2,h4,h5,h6,rfl⟩ hn he hr
 dsimp only at h0 h2 h4 h5 h6
 have e1:decide ((j:Int) < ((A++47::R).length:Int))=true:=by rw[decide_eq_true_iff];simp;omega
 have e4:IntKind.i64.wrap ((j:Int) + 1)=((j + 1:Nat):Int):=z0f (by omega) (by omega)
 have hlt':j < (A++47::R).length:=by simp;omega
 by_cases hlt:j < A.length
 ·have hc:=hd A[j] (List.getElem_mem hlt)
  have e0:(A++47::R)[j]=A[j]:=List.getElem_append_left hlt
  have e2:decide ((A[j]:Int)=47)=false:=by rw[decide_eq_false_iff_not];omega
  simp only[go_sem,h0,h2,h4,h5,h6,q7p,e1,q2f hlt',e0,e2,e4]
  exact hn (A.length - (j + 1)) _ (by omega) ⟨j + 1,hlt,rfl,h0,h2,h4,h5,rfl,rfl⟩
 ·obtain rfl:j=A.length:=by omega
  have e0:(A++47::R)[A.length]=47:=by simp
  have e5:∀ h,slV h none (.str (A++47::R)) (some (.int .i64 ((A.length + 1:Nat):Int))) none none=some (.str R,h):=fun h=>by
   have h1:(0:Int)≤(A.length:Int) + 1:=by omega
   have h2:(A++47::R).take (A.length + (R.length + 1))=A++47::R:=List.take_of_length_le (by simp)
   have h3:(A++47::R).drop (A.length + 1)=R:=by rw[←List.drop_drop,List.drop_left];rfl
   simp[slV,z3c,z5l,h1,h2,h3]
  have e6:∀ h,slV h none (.str (A++47::R)) none (some (.int .i64 (A.length:Int))) none=some (.str A,h):=fun h=>by simp[slV,z3c,z5l]
  simp only[go_sem,h0,h2,h4,h5,h6,q7p,e1,q2f hlt',e0,e4,e5,e6,hB,z0y,Int.cast_ofNat_Int,decide_true]
  refine⟨by simp[z0v,apart,z0h,z0s,z0w,AOp.isCall,hB], ?_⟩
  refine he _ _ ?_
  exact hQ _ _ (by simp[z0c,h0]) (by simp[z0c,h2]) (by simp[z0c,h4]) (by simp[z0c,h5])
theorem k9t {z:Int} {d:Nat} (hl:(dec z.natAbs).length≤10000000) (h2:2≤d) (hld:(dec d).length≤10000000) (hg:Nat.gcd z.natAbs d=1):Pure Gam 160 [.str (z3k z++47::dec d)] (.tup [x1s (decide (z < 0)) z.natAbs d, .bool true]):=by
 have hdn:=z1u z.natAbs
 have hdne:=z8y z.natAbs
 have hdig:q7q (dec z.natAbs):=⟨hdne,hdn⟩
 have hdig2:q7q (dec d):=⟨z8y d,z1u d⟩
 have hz0:z.natAbs≠0:=fun h=>by rw[h,Nat.gcd_zero_left] at hg;omega
 have hp1:Pure Gam 197 [.str (dec d)] (.bool true):=q6k hdig2 (by omega)
 have hp2:Pure Gam 198 [.str (dec d)] (.str (dec d)):=by have:=q2g hdig2;rwa [z2l] at this
 have hp3:Pure Gam 198 [.str (dec z.natAbs)] (.str (dec z.natAbs)):=by have:=q2g hdig;rwa [z2l] at this
 have hp4:∀ neg:Bool,Pure Gam 216 [.bool neg, .str (dec z.natAbs), .str (dec d)] (x1s neg z.natAbs d):=fun neg=>by
  have:=x5h (neg:=neg) (a:=z.natAbs) (b:=d) (by omega) hl (by omega)
  rw[hg,Nat.div_one,Nat.div_one] at this
  simpa [hz0] using this
 have hp5:∀ neg:Bool,Pure Gam 217 [x1s neg z.natAbs d] (.str (z5c neg z.natAbs d)):=fun neg=>x5i hl (by omega)
 have e1:decide (dec d=[48])=false:=by rw[decide_eq_false_iff_not,q4c];omega
 have e2:decide (dec z.natAbs=dec z.natAbs)=true:=by simp
 have e2':decide (dec d=dec d)=true:=by simp
 have hd1:dec d≠[49]:=fun h=>by rw[x3g] at h;omega
 refine Pure.of rfl y1r rfl rfl rfl rfl rfl fun D B clk T hB hT=> ?_
 by_cases hz:z < 0
 ·have he:z3k z=45::dec z.natAbs:=by rw[z3k,if_pos hz]
  have hdz:decide (z < 0)=true:=by simp[hz]
  rw[he,List.cons_append]
  simp only[go_sem,k2z,hB,z0y,Bool.not_false,z6h,Int.cast_ofNat_Int,x0i,decide_true,decide_false,Int.reduceEq]
  refine⟨by simp[z0v,apart,z0h,z0s,z0w,AOp.isCall,hB], ?_⟩
  refine x3x (v0:= .str (45::(dec z.natAbs++47::dec d))) hdn (by omega) hB rfl rfl rfl rfl rfl ?_
  intro ts2 clk2 q0 q2 q4 q5
  have e3:decide (z5c true z.natAbs d=45::(dec z.natAbs++47::dec d))=true:=by rw[decide_eq_true_iff];simp[z5c];omega
  simp only[go_sem,q0,q2,q4,q5,hB,z0y,z0a (q6k hdig (by omega)),z0a hp1,z0a hp2,z0a hp3,z0a (hp4 true),z0a (hp5 true),e1,e2,e2',e3,Bool.not_true,Bool.not_false,decide_true,decide_false]
  refine⟨by simp[z0v,apart,z0h,z0s,z0w,AOp.isCall,hB], ?_⟩
  rw[z0j rfl rfl]
  rw[hdz] at hT
  exact hT _
 ·have he:z3k z=dec z.natAbs:=by rw[z3k,if_neg hz]
  have hdz:decide (z < 0)=false:=by simp[hz]
  rw[he]
  obtain⟨c,t,hct⟩:=List.exists_cons_of_ne_nil hdne
  have hc:=hdn c (by rw[hct];exact List.mem_cons_self)
  have e0:decide (dec z.natAbs++47::dec d=[])=false:=by simp
  have e00:∀ h k,q5i h (.str (dec z.natAbs++47::dec d)) (.int k 0)=some (.int .u8 (c:Int),h):=fun h k=>by rw[hct];exact z6h
  have ec:decide ((c:Int)=45)=false:=by rw[decide_eq_false_iff_not];omega
  simp only[go_sem,k2z,hB,z0y,Bool.not_false,e0,e00,ec,Int.cast_ofNat_Int,decide_true,decide_false,Int.reduceEq]
  refine x3x (v0:= .str (dec z.natAbs++47::dec d)) hdn (by omega) hB rfl rfl rfl rfl rfl ?_
  intro ts2 clk2 q0 q2 q4 q5
  have e3:decide (z5c false z.natAbs d=dec z.natAbs++47::dec d)=true:=by rw[decide_eq_true_iff];simp[z5c];omega
  simp only[go_sem,q0,q2,q4,q5,hB,z0y,z0a (q6k hdig (by omega)),z0a hp1,z0a hp2,z0a hp3,z0a (hp4 false),z0a (hp5 false),e1,e2,e2',e3,Bool.not_true,Bool.not_false,decide_true,decide_false]
  refine⟨by simp[z0v,apart,z0h,z0s,z0w,AOp.isCall,hB], ?_⟩
  rw[z0j rfl rfl]
  rw[hdz] at hT
  exact hT _
end Go.Proofs.YtdfepmffiampgaaGreatDoor.Am
