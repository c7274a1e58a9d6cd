/- Walking: the names of a term Walking: the names of a term Walking: sorts, variables and functions of a term Walking: terms in a scope Walking: atoms of a clause are checked Walking: variables of a cla -/
import Derived.Test.YtahdahokpjigiaaGreatDoorM32
set_option linter.all false
namespace Go.Proofs.YtahdahokpjigiaaGreatDoor.Am
open Go
set_option maxRecDepth 100000
section
variable {U:List Var} [UOk U]
theorem WF.nodes {V:List Var} {ss:List Nat} {d:Nat} {t:Term} (h:WF V ss d t):∀ n∈t,∃ ss' s' ks,NodeOk V n ss' s' ks:=by
 induction h with
 | nil=>simp
 | cons h1 h2 h3 h4 ih1 ih2=>
   intro n hn
   rw[List.mem_cons,List.mem_append] at hn
   rcases hn with rfl | hn | hn
   ·exact⟨_,_,_,h2⟩
   ·exact ih1 n hn
   ·exact ih2 n hn
theorem NodeOk.name {V:List Var} {n:Node} {ss:List Nat} {s:Nat} {ks:Term} (hn:NodeOk V n ss s ks):n.op≠5∧(n.op=4→∃ v∈V,n.name=v.name∧n.sort=v.sort):=by
 cases hn with
 | var h=>exact⟨by simp,fun _=>⟨_,h,rfl,rfl⟩⟩
 | bool h=>exact⟨by simp[bare];omega,fun e=>by simp[bare] at e;omega⟩
 | andor h=>exact⟨by simp[bare];omega,fun e=>by simp[bare] at e;omega⟩
 | cmp h hs=>exact⟨by simp[bare];omega,fun e=>by simp[bare] at e;omega⟩
 | div h _ _=>exact⟨by simp;omega,fun e=>by simp at e;omega⟩
 | _=>exact⟨by simp[bare],fun e=>by simp[bare] at e⟩
def x0a (V:List Var) (t:Term):Prop:=∀ n∈t,n.op≠5∧(n.op=4→∃ v∈V,n.name=v.name∧n.sort=v.sort)
theorem WF.names {V:List Var} {ss:List Nat} {d:Nat} {t:Term} (h:WF V ss d t):x0a V t:=fun n hn=>by
 obtain⟨_,_,_,h⟩:=h.nodes n hn
 exact h.name
def z2y:Term→List Var→List Var
 | [],acc=>acc
 | n::t,acc=>if n.op=4∧(⟨n.name,n.sort⟩:Var)∉acc then z2y t (acc++[⟨n.name,n.sort⟩]) else z2y t acc
theorem q0p {V:List Var}:∀ {t:Term} {acc:List Var},x0a V t→(∀ v∈acc,v∈V)→∀ v∈z2y t acc,v∈V
 | [],acc,_,ha,v,hv=>ha v hv
 | n::t,acc,hn,ha,v,hv=>by
   have ht:x0a V t:=fun m hm=>hn m (List.mem_cons_of_mem _ hm)
   simp only[z2y] at hv
   split at hv
   ·rename_i hc
    refine q0p ht (fun w hw=> ?_) v hv
    rw[List.mem_append,List.mem_singleton] at hw
    rcases hw with hw | rfl
    ·exact ha w hw
    ·obtain⟨v',hv',e1,e2⟩:=(hn n List.mem_cons_self).2 hc.1
     rw[e1,e2]
     exact hv'
   ·exact q0p ht ha v hv
theorem x4v {t u:Term} {acc:List Var}:z2y (t++u) acc=z2y u (z2y t acc):=by
 induction t generalizing acc with
 | nil=>rfl
 | cons n t ih=>
   simp only[List.cons_append,z2y]
   split
   ·exact ih
   ·exact ih
theorem q0q:∀ {t:Term} {acc:List Var},(z2y t acc).length≤acc.length + t.length
 | [],acc=>Nat.le_refl _
 | n::t,acc=>by
   simp only[z2y,List.length_cons]
   split
   ·have:=q0q (t:=t) (acc:=acc++[⟨n.name,n.sort⟩])
    simp at this
    omega
   ·have:=q0q (t:=t) (acc:=acc)
    omega
theorem x4w {v w:Var} (hv:v∈U) (hw:w∈U) (h:v.name=w.name):v=w:=UOk.inj v hv w hw h
def q2e (acc:List Var):List (AV×AV):=acc.map fun v=>(.str v.name,z1b v)
theorem q7c {v:Var} (hv:v∈U):∀ {acc:List Var},(∀ w∈acc,w∈U)→findKey (.one .str) (.str v.name) (q2e acc)=some (if v∈acc then some (z1b v) else none)
 | [],_=>rfl
 | w::acc,ha=>by
   have ih:=q7c hv (acc:=acc) fun x hx=>ha x (List.mem_cons_of_mem _ hx)
   unfold q2e at ih⊢
   simp only[List.map_cons,findKey,AV.eqv,AV.eq1]
   by_cases h:v=w
   ·subst h
    simp
   ·have hne:decide (v.name=w.name)=false:=decide_eq_false fun e=>h (x4w hv (ha w List.mem_cons_self) e)
    simp only[hne,ih,List.mem_cons,h,false_or]
theorem x0b {v:Var} (hv:v∈U):∀ {acc:List Var},(∀ w∈acc,w∈U)→v∉acc→z7o (.one .str) (.str v.name) (z1b v) (q2e acc)=some (q2e (acc++[v]))
 | [],_,_=>rfl
 | w::acc,ha,hn=>by
   rw[List.mem_cons,not_or] at hn
   have ih:=x0b hv (acc:=acc) (fun x hx=>ha x (List.mem_cons_of_mem _ hx)) hn.2
   have hne:decide (v.name=w.name)=false:=decide_eq_false fun e=>hn.1 (x4w hv (ha w List.mem_cons_self) e)
   unfold q2e at ih⊢
   simp only[List.map_cons,List.cons_append,z7o,AV.eqv,AV.eq1,hne,ih,Option.map_some]
theorem x0c {h:List AObj} {z:AV} {es:List (AV×AV)} {s:List Nat} {r:Option AV} (hf:findKey (.one .str) (.str s) es=some r):lkV h (.one .str) z true (some es) (.str s)=some (q7f true z r,h):=by
 have:((AV.str s).eqv (.one .str) (.str s)).isSome=true:=by simp[AV.eqv,AV.eq1]
 simp only[lkV,this,if_true,hf,Option.map_some]
theorem v8b {h:List AObj} {z:AV} {es:List (AV×AV)} {s:List Nat} {r:Option AV} (hf:findKey (.one .str) (.str s) es=some r):lkV h (.one .str) z false (some es) (.str s)=some (q7f false z r,h):=by
 have:((AV.str s).eqv (.one .str) (.str s)).isSome=true:=by simp[AV.eqv,AV.eq1]
 simp only[lkV,this,if_true,hf,Option.map_some]
theorem x3b {z v:AV}:q7f true z (some v)= .tup [v, .bool true]:=(rfl)
theorem q0r {z:AV}:q7f true z none= .tup [z, .bool false]:=(rfl)
theorem z9c {z v:AV}:q7f false z (some v)=v:=(rfl)
theorem z5k {z:AV}:q7f false z none=z:=(rfl)
theorem z3u {h:List AObj} {s g:Nat}:x5p h (.mp s g)=z5m h s g:=(rfl)
theorem x7x {D L:List AObj} {B k g:Nat} {es es':List (AV×AV)} {s:List Nat} {v:AV} (hB:D.length=B) (hm:z5m L k g=some es) (ho:v.obs=[]) (hp:z7o (.one .str) (.str s) v.cv es=some es'):muV (D++L) (.one .str) (.str s) v (.mp (B + k) g)=some (.undef,D++L.set k (.map g es')):=by
 have hpub:pub (D++L) v=some (v.cv,D++L):=by simp only[pub,q5v ho,Option.map_some,ho,freezeAll]
 have:((AV.str s).eqv (.one .str) (.str s)).isSome=true:=by simp[AV.eqv,AV.eq1]
 simp only[muV,x4d hB,hm,hpub,this,if_true,hp,Option.map_some,z5i hB]
end
section
variable {U:List Var} [UOk U]
def q6e (gV:Nat) (t:Term) (sP gP:Nat):AObj:= .blk gV [.agg [z0l t, .ob sP gP 0 t.length]] false false 0
def j3y (gP:Nat) (P:List Pt):AObj:= .blk gP (P.map ePt) true false 0
def x1h (s sP gV gP:Nat) (t:Term) (P:List Pt):List (Nat×AObj):=[(s,q6e gV t sP gP),(sP,j3y gP P)]
theorem j3z {s sP gV gP:Nat} {t:Term} {P:List Pt}:Cov (x1h s sP gV gP t P) [s]:=by
 refine Cov.two ?_ ?_
 ·simp[q6e,AObj.ids,idsL,AV.ids,z2q]
 ·simp[j3y,AObj.ids,z0c (f:=ePt) fun _=>rfl]
theorem k7i {s sP gV gP:Nat} {t:Term} {P:List Pt} {p:Pt} (hl:t.length≤20000) (hP:P[0]? =some p) (hd:p.depth≤257) (hPl:P.length=t.length):Reads (x1h s sP gV gP t P) 221 [.ptr s gV 0 0] (.bool false):=by
 refine Reads.of rfl y7h rfl rfl rfl rfl j3z fun D B clk T hB hS hlt hT=> ?_
 have h1:=hlt (s,q6e gV t sP gP) (by simp[x1h])
 have h2:=hlt (sP,j3y gP P) (by simp[x1h])
 have b1:=z5z (g:=gV) (hS (s,q6e gV t sP gP) (by simp[x1h]))
 have b2:=z5z (g:=gP) (hS (sP,j3y gP P) (by simp[x1h]))
 dsimp only at h1 h2 b1 b2
 have hpos:0 < t.length:=by
  rw[←hPl]
  rw[List.getElem?_eq_some_iff] at hP
  exact hP.1
 have hg:(P.map ePt)[0]? =some (.agg [.int .i64 (p.sort:Int), .int .i64 (p.depth:Int), .int .i64 (p.fin:Int)]):=x4u hP
 have hix:∀ L,z1m (D++L) 3 (.ob sP gP 0 t.length) (.int .i64 0)=some (.ptr sP gP 0 0,D++L):=fun L=>by
  have:z2a (D++L) sP gP=some (P.map ePt,true,false,0):=by rw[z4e hB h2,b2]
  simp only[z1m,Int.le_refl,if_true,this,Int.toNat_zero,Nat.add_zero,hg]
  rw[if_pos ⟨hpos,rfl⟩]
 have e1:decide ((20000:Int) < (t.length:Int))=false:=by rw[decide_eq_false_iff_not];omega
 have e2:decide ((257:Int) < (p.depth:Int))=false:=by rw[decide_eq_false_iff_not];omega
 simp only[go_sem,w8g,z4e hB h1,b1,z4e hB h2,b2,z0l,List.length_map,e1,hix,hg,e2]
 rw[z0e]
 exact hT _ hS.app
theorem x4x {s sP gV gP:Nat} {t:Term} {P:List Pt} {V:List Var} (hl:t.length≤20000) (hn:x0a V t) (hV:∀ v∈V,v∈U):Reads (x1h s sP gV gP t P) 220 [.ptr s gV 0 0] (.tup [.sl ((z2y t []).map z1b) .no, .sl [] .no, .bool true]):=by
 refine Reads.of rfl y7f rfl rfl rfl rfl j3z fun D B clk T hB hS hlt hT=> ?_
 have h1:=hlt (s,q6e gV t sP gP) (by simp[x1h])
 have b1:=z5z (g:=gV) (hS (s,q6e gV t sP gP) (by simp[x1h]))
 dsimp only at h1 b1
 simp only[go_sem,w8e,hB,z4e hB h1,b1,z0l,List.length_map]
 refine z0y (fun m q=>∃ (i:Nat) (u:Tip) (g0 g1:Nat) (o2 o3 o4 o5 o6 o7 o8 o9 o10 o11:AObj),i≤t.length∧m=t.length - i∧q.ts 5= .mp (B + 0) g0∧q.ts 6= .mp (B + 1) g1∧q.ts 7= .sl ((z2y (t.take i) []).map z1b) u∧q.ts 8= .sl [] .nil∧q.ts 25= .sl (t.map eNode) .no∧q.ts 26= .int .i64 (t.length:Int)∧q.ts 27= .int .i64 (i:Int)∧q.h=D++[.map g0 (q2e (z2y (t.take i) [])), .map g1 [],o2,o3,o4,o5,o6,o7,o8,o9,o10,o11]∧z8k B 5 o5 u 2) t.length ⟨0, .nil,_,_,_,_,_,_,_,_,_,_,_,_,by omega,rfl,rfl,rfl,rfl,rfl,rfl,rfl,rfl,rfl, .inl rfl⟩ ?_
 rintro m ⟨ts,h,clk⟩ Pq ⟨i,u,g0,g1,o2,o3,o4,o5,o6,o7,o8,o9,o10,o11,hi,rfl,q5,q6,q7,q8,q25,q26,q27,rfl,hu⟩ hnx he hr
 dsimp only at q5 q6 q7 q8 q25 q26 q27
 have hacc:∀ v∈z2y (t.take i) [],v∈V:=q0p (fun n hn'=>hn n (List.mem_of_mem_take hn')) (by simp)
 by_cases hlt':i < t.length
 ·have e1:decide ((i:Int) < (t.length:Int))=true:=by rw[decide_eq_true_iff];omega
  have e2:IntKind.i64.wrap ((i:Int) + 1)=((i + 1:Nat):Int):=z0d (by omega) (by omega)
  have hti:t[i]? =some t[i]:=by simp[hlt']
  obtain⟨hn5,hn4⟩:=hn _ (List.getElem_mem hlt')
  have htake:t.take (i + 1)=t.take i++[t[i]]:=List.take_succ_eq_append_getElem hlt'
  generalize t[i]=n at hti hn5 hn4 htake
  have hvo:z2y (t.take (i + 1)) []=if n.op=4∧(⟨n.name,n.sort⟩:Var)∉z2y (t.take i) [] then z2y (t.take i) []++[⟨n.name,n.sort⟩] else z2y (t.take i) []:=by
   rw[htake,x4v]
   simp only[z2y]
  by_cases h4:n.op=4
  ·obtain⟨v,hv,e3,e4⟩:=hn4 h4
   have hfk:=q7c (hV v hv) (acc:=z2y (t.take i) []) fun w hw=>hV w (hacc w hw)
   have hf0:findKey (.one .str) (.str v.name) []=some none:=rfl
   have f4:decide ((n.op:Int)=4)=true:=by rw[decide_eq_true_iff];omega
   have hve:(⟨n.name,n.sort⟩:Var)=v:=by rw[e3,e4]
   rw[hve] at hvo
   by_cases hin:v∈z2y (t.take i) []
   ·rw[if_pos hin] at hfk
    rw[if_neg (fun hc=>hc.2 hin)] at hvo
    simp only[go_sem,x2s,q5,q6,q7,q8,q25,q26,q27,hB,e1,z3a hti,f4,e3,e4,z3u,x0c hfk,x0c hf0,x3b,q0r,z1b,nat,Bool.not_true,decide_true,e2]
    rw[←hvo] at q7⊢
    exact hnx (t.length - (i + 1)) _ (by omega) ⟨i + 1,u,g0,g1,_,_,_,_,_,_,_,_,_,_,hlt',rfl,q5,q6,q7,q8,q25,q26,rfl,rfl,hu⟩
   ·rw[if_neg hin] at hfk
    rw[if_pos ⟨h4,hin⟩] at hvo
    have hput:=x0b (hV v hv) (acc:=z2y (t.take i) []) (fun w hw=>hV w (hacc w hw)) hin
    have hmu:∀ L:List AObj,z5m L 0 g0=some (q2e (z2y (t.take i) []))→muV (D++L) (.one .str) (.str v.name) (.agg [.str v.name, .int .i64 (v.sort:Int)]) (.mp (B + 0) g0)=some (.undef,D++L.set 0 (.map g0 (q2e (z2y (t.take i) []++[v])))):=fun L hL=>x7x (v:=z1b v) hB hL rfl hput
    have hlen:(z2y (t.take i) []).length≤20000:=by
     have:=q0q (t:=t.take i) (acc:=[])
     rw[List.length_take] at this
     simp only[List.length_nil] at this
     omega
    simp only[go_sem,x2s,q5,q6,q7,q8,q25,q26,q27,hB,e1,z3a hti,f4,e3,e4,z3u,x0c hfk,q0r,Bool.not_false,hmu]
    have e8:(z2y (t.take i) []).map z1b++[AV.agg [AV.str v.name,AV.int .i64 (v.sort:Int)]]=(z2y (t.take (i + 1)) []).map z1b:=by rw[hvo,List.map_append];rfl
    rw[show [AV.agg [AV.str v.name,AV.int .i64 (v.sort:Int)]]=[v].map z1b from rfl,z0j hB rfl hu z2e z2e (by simp only[List.length_map,List.length_singleton];omega)]
    simp only[go_sem,q5,q6,q7,q8,q25,q26,q27,hB,z3u,x0c hf0,q0r,decide_true,Bool.not_true,e2,z1b,nat,e8,←hvo]
    exact hnx (t.length - (i + 1)) _ (by omega) ⟨i + 1,_,g0,g1,_,_,_,_,_,_,_,_,_,_,hlt',rfl,q5,q6,rfl,q8,q25,q26,rfl,rfl, .inr (.inr ⟨_,rfl,rfl⟩)⟩
  ·rw[if_neg (fun hc=>h4 hc.1)] at hvo
   have f4:decide ((n.op:Int)=4)=false:=by rw[decide_eq_false_iff_not];omega
   have f5:decide ((n.op:Int)=5)=false:=by rw[decide_eq_false_iff_not];omega
   simp only[go_sem,x2s,q5,q6,q7,q8,q25,q26,q27,hB,e1,z3a hti,f4,f5,e2]
   rw[←hvo] at q7⊢
   exact hnx (t.length - (i + 1)) _ (by omega) ⟨i + 1,u,g0,g1,_,_,_,_,_,_,_,_,_,_,hlt',rfl,q5,q6,q7,q8,q25,q26,rfl,rfl,hu⟩
 ·have e1:decide ((i:Int) < (t.length:Int))=false:=by rw[decide_eq_false_iff_not];omega
  have hti:t.take i=t:=List.take_of_length_le (by omega)
  rw[hti] at q7
  simp only[go_sem,x2s,q5,q6,q7,q8,q25,q26,q27,hB,e1]
  refine he _ _ ?_
  simp only[go_sem,q7,q8]
  rw[z0h rfl (by simp[z1k,AV.cv,cvL,AV.ids,idsL,z0c (f:=z1b) fun _=>rfl])]
  exact hT _ hS.app
end
section
variable {U:List Var} [UOk U]
theorem x4y {D:List AObj} {B:Nat} {t:Term} {gP gV g2:Nat} {P:List Pt} {o3 o4 o5 o6 o7 o8 o9:AObj} (hB:D.length=B):Has (x1h (B + 1) (B + 0) gV gP t P) (z7u D B t gP gV g2 P o3 o4 o5 o6 o7 o8 o9):=by
 refine Has.cons ?_ (Has.cons ?_ Has.nil)
 ·simp only[z7u,z6k hB];rfl
 ·simp only[z7u,z6k hB];rfl
theorem WF.pos {V:List Var} {s d:Nat} {t:Term} (h:WF V [s] d t):0 < t.length:=by
 cases h with
 | cons=>simp
theorem v8c {V:List Var} {s d:Nat} {t:Term} {u:Tip} {h:List AObj} {clk:Nat} {Q:AV→List AObj→Nat→Prop} (ht:WF V [s] d t) (hV:∀ v∈V,v∈U) (hl:t.length≤20000) (hd:d≤257)
  (hQ:∀ gP gV g2 P dep o3 o4 o5 o6 o7 o8 o9 c,P.length=t.length→P[0]? =some ⟨s,dep,t.length⟩→dep≤d→Q (.tup [.ptr (h.length + 1) gV 0 0, .bool true]) (z7u h h.length t gP gV g2 P o3 o4 o5 o6 o7 o8 o9) c):WC Gam 249 [.sl (t.map eNode) u] h clk Q:=by
 refine q9z rfl y7e rfl rfl rfl (az:=[.sl (t.map eNode) .no]) rfl (by simp[idsL,AV.ids,z0c z1y]) fun D B R hB hBh hR=> ?_
 have hpos:=ht.pos
 have e1:decide ((t.length:Int)=0)=false:=by rw[decide_eq_false_iff_not];omega
 have e2:decide ((20000:Int) < (t.length:Int))=false:=by rw[decide_eq_false_iff_not];omega
 simp only[go_sem,w8d,hB,List.length_map,e1,e2,List.append_nil]
 refine z6f (y8q ht hV hl (by omega) fun gP gV g2 P dep o3 o4 o5 o6 o7 o8 o9 c hPl hp hdep=> ?_)
 rw[hB]
 have r1:=k7i (s:=B + 1) (sP:=B + 0) (gV:=gV) (gP:=gP) hl hp (by dsimp only;omega) hPl
 have r2:=x4x (s:=B + 1) (sP:=B + 0) (gV:=gV) (gP:=gP) (P:=P) hl ht.names hV
 have hh:=x4y (t:=t) (gP:=gP) (gV:=gV) (g2:=g2) (P:=P) (o3:=o3) (o4:=o4) (o5:=o5) (o6:=o6) (o7:=o7) (o8:=o8) (o9:=o9) hB
 simp only[go_sem,Bool.not_true,z0w r1 hh,z0w r2 hh]
 rw[q5h rfl]
 have:=fun gP gV g2 c=>hQ gP gV g2 P dep o3 o4 o5 o6 o7 o8 o9 c hPl hp hdep
 simp only[←hBh] at this
 exact hR _ _ ⟨B + 1,by simp[z1k,AV.cv,cvL,AV.ids,idsL],by omega⟩ fun c=>this _ _ _ c
theorem k1t {V:List Var} {s d:Nat} {t:Term} {u:Tip} (ht:WF V [s] d t) (hV:∀ v∈V,v∈U) (hl:t.length≤20000) (hd:d≤257):Pure Gam 180 [.sl (t.map eNode) u] (nat s):=by
 refine Pure.of rfl y7b rfl rfl rfl (az:=[.sl (t.map eNode) .no]) rfl (by simp[idsL,AV.ids,z0c z1y]) fun D B clk T hB hT=> ?_
 simp only[go_sem,w8a,List.append_nil]
 refine z6f (v8c ht hV hl hd fun gP gV g2 P dep o3 o4 o5 o6 o7 o8 o9 c hPl hp hdep=> ?_)
 rw[hB]
 have hix:∀ L,z1m (D++ .blk gP (P.map ePt) true false 0::L) 3 (.ob (B + 0) gP 0 t.length) (.int .i64 0)=some (.ptr (B + 0) gP 0 0,D++ .blk gP (P.map ePt) true false 0::L):=fun L=>q7r (i:=0) hB hp hPl
 simp only[go_sem,Bool.not_true,z7u,hB,hix,x4u hp]
 rw[z2m]
 exact hT _
theorem k1u {V:List Var} {s d:Nat} {t:Term} {u:Tip} (ht:WF V [s] d t) (hV:∀ v∈V,v∈U) (hl:t.length≤20000) (hd:d≤257):Pure Gam 181 [.sl (t.map eNode) u] (.sl [] .no):=by
 refine Pure.of rfl y7c rfl rfl rfl (az:=[.sl (t.map eNode) .no]) rfl (by simp[idsL,AV.ids,z0c z1y]) fun D B clk T hB hT=> ?_
 simp only[go_sem,w8b,List.append_nil]
 refine z6f (v8c ht hV hl hd fun gP gV g2 P dep o3 o4 o5 o6 o7 o8 o9 c hPl hp hdep=> ?_)
 rw[hB]
 have r2:=x4x (s:=B + 1) (sP:=B + 0) (gV:=gV) (gP:=gP) (P:=P) hl ht.names hV
 have hh:=x4y (t:=t) (gP:=gP) (gV:=gV) (g2:=g2) (P:=P) (o3:=o3) (o4:=o4) (o5:=o5) (o6:=o6) (o7:=o7) (o8:=o8) (o9:=o9) hB
 simp only[go_sem,Bool.not_true,z0w r2 hh]
 rw[z0h rfl rfl]
 exact hT _
theorem k1v {V:List Var} {s d:Nat} {t:Term} {u:Tip} (ht:WF V [s] d t) (hV:∀ v∈V,v∈U) (hl:t.length≤20000) (hd:d≤257):Pure Gam 183 [.sl (t.map eNode) u] (.sl ((z2y t []).map z1b) .no):=by
 refine Pure.of rfl y7d rfl rfl rfl (az:=[.sl (t.map eNode) .no]) rfl (by simp[idsL,AV.ids,z0c z1y]) fun D B clk T hB hT=> ?_
 simp only[go_sem,w8c,List.append_nil]
 refine z6f (v8c ht hV hl hd fun gP gV g2 P dep o3 o4 o5 o6 o7 o8 o9 c hPl hp hdep=> ?_)
 rw[hB]
 have r2:=x4x (s:=B + 1) (sP:=B + 0) (gV:=gV) (gP:=gP) (P:=P) hl ht.names hV
 have hh:=x4y (t:=t) (gP:=gP) (gV:=gV) (g2:=g2) (P:=P) (o3:=o3) (o4:=o4) (o5:=o5) (o6:=o6) (o7:=o7) (o8:=o8) (o9:=o9) hB
 simp only[go_sem,Bool.not_true,z0w r2 hh]
 rw[z2x rfl (by simp[AV.cv,AV.ids,z0c (f:=z1b) fun _=>rfl])]
 exact hT _
end
section
variable {U:List Var} [UOk U]
theorem k1w {D:List AObj} {s g:Nat} {es:List (AV×AV)} (h:D[s]? =some (.map g es)):z5m D s g=some es:=by simp[z5m,h]
theorem x4z {D L:List AObj} {B s g:Nat} (hB:D.length=B) (h:s < B):z5m (D++L) s g=z5m D s g:=by
 unfold z5m
 rw[z0u hB h]
def z1l (V:List Var):List (AV×AV):=V.map fun v=>(z1b v, .bool true)
theorem x5a {v w:Var}:(z1b v).eqv (.agg [.str, .int]) (z1b w)=some (decide (v=w)):=by
 have:(decide (v.name=w.name) && (decide ((v.sort:Int)=(w.sort:Int)) && true))=decide (v=w):=by
  rw[Bool.and_true,Bool.eq_iff_iff]
  simp only[Bool.and_eq_true,decide_eq_true_iff]
  constructor
  ·rintro ⟨h1,h2⟩
   cases v;cases w
   simp only[Var.mk.injEq] at h1 h2⊢
   exact⟨h1,by omega⟩
  ·rintro rfl
   exact⟨rfl,rfl⟩
 rw[←this]
 rfl
theorem x0d {v:Var}:∀ {V:List Var},findKey (.agg [.str, .int]) (z1b v) (z1l V)=some (if v∈V then some (.bool true) else none)
 | []=>rfl
 | w::V=>by
   have ih:=x0d (v:=v) (V:=V)
   unfold z1l at ih⊢
   simp only[List.map_cons,findKey,x5a]
   by_cases h:v=w
   ·subst h
    simp
   ·simp only[h,decide_false,ih,List.mem_cons,false_or]
theorem x3c {v:Var}:∀ {V:List Var},v∉V→z7o (.agg [.str, .int]) (z1b v) (.bool true) (z1l V)=some (z1l (V++[v]))
 | [],_=>rfl
 | w::V,hn=>by
   rw[List.mem_cons,not_or] at hn
   have ih:=x3c (v:=v) (V:=V) hn.2
   unfold z1l at ih⊢
   simp only[List.map_cons,List.cons_append,z7o,x5a,hn.1,decide_false,ih,Option.map_some]
theorem q2f {g:Nat} {V:List Var}:(AObj.map g (z1l V)).ids=[]:=by
 simp only[AObj.ids,z1l,List.map_map,List.append_eq_nil_iff]
 constructor
 ·have:(Prod.fst∘fun v:Var=>(z1b v,AV.bool true))=z1b:=rfl
  rw[this]
  exact z0c fun _=>rfl
 ·exact z0c (f:=Prod.snd∘fun v:Var=>(z1b v,AV.bool true)) fun _=>rfl
theorem v1g {h:List AObj} {z:AV} {v:Var} {V:List Var}:lkV h (.agg [.str, .int]) z false (some (z1l V)) (.agg [.str v.name, .int .i64 (v.sort:Int)])=some (q7f false z (if v∈V then some (.bool true) else none),h):=by
 have h1:((z1b v).eqv (.agg [.str, .int]) (z1b v)).isSome=true:=by rw[x5a];rfl
 have h2:=x0d (v:=v) (V:=V)
 rw[show z1b v= .agg [.str v.name, .int .i64 (v.sort:Int)] from rfl] at h1 h2
 simp only[lkV,h1,if_true,h2,Option.map_some]
theorem k7j {s g sX gX:Nat} {v:Var} {V:List Var}:Reads [(s, .blk g [.mp sX gX] false false 0),(sX, .map gX (z1l V))] 320 [z1b v, .ptr s g 0 0] (.bool (!decide (v∈V))):=by
 refine Reads.of rfl y8l rfl rfl rfl (az:=[z1b v, .ptr s g 0 0]) rfl (Cov.two rfl q2f) fun D B clk T hB hS hlt hT=> ?_
 have h1:=hlt (s, .blk g [.mp sX gX] false false 0) (by simp)
 have h2:=hlt (sX, .map gX (z1l V)) (by simp)
 have b1:=z5z (g:=g) (hS (s, .blk g [.mp sX gX] false false 0) (by simp))
 have b2:=k1w (g:=gX) (hS (sX, .map gX (z1l V)) (by simp))
 dsimp only at h1 h2 b1 b2
 by_cases hin:v∈V
 ·simp only[go_sem,v7w,hB,z1b,nat,z4e hB h1,b1,z3u,x4z hB h2,b2,v1g,hin,z9c,Bool.not_true]
  rw[z0e]
  simp only[hin,decide_true,Bool.not_true] at hT
  exact hT _ hS.app
 ·simp only[go_sem,v7w,hB,z1b,nat,z4e hB h1,b1,z3u,x4z hB h2,b2,v1g,hin,z5k,Bool.not_false]
  rw[z0e]
  simp only[hin,decide_false,Bool.not_false] at hT
  exact hT _ hS.app
theorem Cov.mp1 {s g:Nat} {es:List (AV×AV)} (h:(AObj.map g es).ids=[]):Cov [(s, .map g es)] [s]:=Cov.one h
theorem j4a {sX gX s d:Nat} {V:List Var} {t:Term} {u:Tip} (ht:WF V [s] d t) (hV:∀ v∈V,v∈U) (hl:t.length≤20000) (hd:d≤257):Reads [(sX, .map gX (z1l V))] 266 [.mp sX gX, .sl (t.map eNode) u,nat s] (.bool true):=by
 refine Reads.of rfl y8i rfl rfl rfl (az:=[.mp sX gX, .sl (t.map eNode) .no,nat s]) rfl (by simpa [idsL,AV.ids,z0c z1y,nat] using Cov.mp1 q2f) fun D B clk T hB hS hlt hT=> ?_
 have h2:=hlt (sX, .map gX (z1l V)) (by simp)
 have p1:=k1t (u:= .no) ht hV hl hd
 have p2:=k1u (u:= .no) ht hV hl hd
 have p3:=k1v (u:= .no) ht hV hl hd
 rw[nat] at p1
 have hvl:(z2y t []).length≤2 ^ 20:=by
  have:=q0q (t:=t) (acc:=[])
  simp only[List.length_nil] at this
  omega
 have hr:∀ g,Reads [(B + 0, .blk g [.mp sX gX] false false 0),(sX, .map gX (z1l V))] 182 [.sl ((z2y t []).map z1b) .no, .fn 320 [.ptr (B + 0) g 0 0]] (.bool ((z2y t []).any fun v=> !decide (v∈V))):=fun g=>
  j3w (enc:=z1b) (P:=fun v=> !decide (v∈V)) (fun _=>rfl) (fun _ _=>rfl) (fun _=>rfl) hvl (by simpa [idsL,AV.ids] using Cov.two (s:=B + 0) (t:=sX) rfl q2f) fun v _=>k7j
 have e:((z2y t []).any fun v=> !decide (v∈V))=false:=by
  rw[List.any_eq_false]
  intro v hv
  have:=q0p ht.names (acc:=[]) (by simp) v hv
  simp[this]
 rw[e] at hr
 have hh:∀ g,Has [(B + 0, .blk g [.mp sX gX] false false 0),(sX, .map gX (z1l V))] (D++[.blk g [.mp sX gX] false false 0]):=fun g=>by
  refine Has.cons ?_ (Has.cons ?_ Has.nil)
  ·dsimp only;rw[z6k hB];rfl
  ·have:=hS.app (L:=[.blk g [.mp sX gX] false false 0]) (sX, .map gX (z1l V)) (by simp)
   exact this
 simp only[go_sem,w9j,hB,nat,z0a p1,decide_true,Bool.not_true,z0a p2,Int.reduceLT,decide_false,z0a p3]
 rw[z0w (hr _) (hh _)]
 simp only[go_sem,Bool.not_false]
 rw[z0e]
 exact hT _ hS.app
end
theorem k1x {s:Nat} (h1:1≤s) (h4:s≤4):Pure Gam 261 [nat s] (.bool true):=by
 refine Pure.of rfl y8m rfl rfl rfl rfl rfl fun D B clk T hB hT=> ?_
 have e1:decide ((1:Int)≤(s:Int))=true:=by rw[decide_eq_true_iff];omega
 have e2:decide ((s:Int)≤4)=true:=by rw[decide_eq_true_iff];omega
 simp only[go_sem,w9m,nat,e1,e2]
 rw[z0e]
 exact hT _
def z4f:Nat→List Func→List (AV×AV)
 | _,[]=>[]
 | k,p::ps=>(.str p.name, .int .i64 (k:Int))::z4f (k + 1) ps
theorem j0u {k:Nat} {ps:List Func}:(z4f k ps).length=ps.length:=by
 induction ps generalizing k with
 | nil=>rfl
 | cons p ps ih=>simp[z4f,ih]
theorem k7k {g k:Nat} {ps:List Func}:(AObj.map g (z4f k ps)).ids=[]:=by
 simp only[AObj.ids,List.append_eq_nil_iff]
 induction ps generalizing k with
 | nil=>exact⟨rfl,rfl⟩
 | cons p ps ih=>exact⟨by simpa [z4f,idsL,AV.ids] using (ih (k:=k + 1)).1,by simpa [z4f,idsL,AV.ids] using (ih (k:=k + 1)).2⟩
theorem q2g {a:List Nat}:∀ {ps:List Func} {k:Nat},(∀ p∈ps,p.name≠a)→findKey (.one .str) (.str a) (z4f k ps)=some none
 | [],_,_=>rfl
 | p::ps,k,h=>by
   have hne:decide (a=p.name)=false:=decide_eq_false fun e=>h p List.mem_cons_self e.symm
   simp only[z4f,findKey,AV.eqv,AV.eq1,hne]
   exact q2g fun q hq=>h q (List.mem_cons_of_mem _ hq)
theorem q2h:∀ {ps:List Func} {k j:Nat} {f:Func},(ps.map (·.name)).Nodup→ps[j]? =some f→findKey (.one .str) (.str f.name) (z4f k ps)=some (some (.int .i64 ((k + j:Nat):Int)))
 | [],_,_,_,_,h=>by simp at h
 | p::ps,k,0,f,_,h=>by
   simp at h
   subst h
   simp[z4f,findKey,AV.eqv,AV.eq1]
 | p::ps,k,j + 1,f,hn,h=>by
   rw[List.map_cons,List.nodup_cons] at hn
   simp only[List.getElem?_cons_succ] at h
   have hne:decide (f.name=p.name)=false:=decide_eq_false fun e=>hn.1 (by rw[←e];exact List.mem_map.2 ⟨f,List.mem_of_getElem? h,rfl⟩)
   simp only[z4f,findKey,AV.eqv,AV.eq1,hne]
   rw[q2h hn.2 h,show k + 1 + j=k + (j + 1) by omega]
theorem x0e {a:List Nat} {n:Nat}:∀ {ps:List Func} {k:Nat} {r:List Nat} {q:Nat},(∀ p∈ps,p.name≠a)→n=k + ps.length→z7o (.one .str) (.str a) (.int .i64 (n:Int)) (z4f k ps)=some (z4f k (ps++[⟨a,r,q⟩]))
 | [],k,r,q,_,hn=>by
   simp at hn
   subst hn
   rfl
 | p::ps,k,r,q,h,hn=>by
   have hne:decide (a=p.name)=false:=decide_eq_false fun e=>h p List.mem_cons_self e.symm
   have ih:=x0e (a:=a) (n:=n) (ps:=ps) (k:=k + 1) (r:=r) (q:=q) (fun q hq=>h q (List.mem_cons_of_mem _ hq)) (by simp at hn;omega)
   simp only[List.cons_append,z4f,z7o,AV.eqv,AV.eq1,hne,ih,Option.map_some]
def z4z (gC:Nat) (s:Sys) (sP gP:Nat):AObj:= .blk gC [.agg [.sl (s.preds.map z0q) .no, .sl (s.clauses.map z0f) .no, .mp sP gP, .sl [] .nil]] false false 0
def z9i (gP:Nat) (s:Sys):AObj:= .map gP (z4f 0 s.preds)
theorem q6f {gC sP gP:Nat} {s:Sys}:(z4z gC s sP gP).ids=[sP]:=by
 simp[z4z,AObj.ids,idsL,AV.ids,z0c z2j,z0c z1z]
theorem x3d {gP:Nat} {s:Sys}:(z9i gP s).ids=[]:=k7k
structure PrOk (ps:List Func):Prop where
 nodup:(ps.map (·.name)).Nodup
 args:∀ f∈ps,f.args.length≤40∧∀ s∈f.args,1≤s∧s≤4
 name:∀ f∈ps,f.name≠[]
theorem Cov.atom {sC sP sX:Nat} {oC oP oX:AObj} (hC:oC.ids=[sP]) (hP:oP.ids=[]) (hX:oX.ids=[]):Cov [(sC,oC),(sP,oP),(sX,oX)] [sC,sX]:=by
 refine⟨by simp,by simp[hC,hP,hX],fun h hS p hp=> ?_⟩
 have h1:h[sC]? =some oC:=hS (sC,oC) (by simp)
 have hr:reach h (h.length + 1) [] [sC,sX]=reach h h.length [sC] [sP,sX]:=by rw[q0m (by simp) h1,hC];rfl
 rw[hr]
 simp at hp
 rcases hp with rfl | rfl | rfl
 ·exact z6x (.inl List.mem_cons_self)
 ·exact z6x (.inr List.mem_cons_self)
 ·exact z6x (.inr (List.mem_cons_of_mem _ List.mem_cons_self))
theorem j4b {sC gC sP gP sX gX:Nat} {s:Sys} {a:App} {V:List Var} (hp:PrOk s.preds) (ha:AppOk s.preds V a) (hV:∀ v∈V,v∈z2h):Reads [(sC,z4z gC s sP gP),(sP,z9i gP s),(sX, .map gX (z1l V))] 265 [.ptr sC gC 0 0,z3x a, .mp sX gX] (.bool true):=by
 obtain⟨f,hf,hname,hlen,hargs⟩:=ha
 obtain⟨j,hj⟩:=List.getElem?_of_mem hf
 have hjl:j < s.preds.length:=by
  rw[List.getElem?_eq_some_iff] at hj
  exact hj.1
 refine Reads.of rfl y8h rfl rfl rfl (az:=[.ptr sC gC 0 0,z3x a, .mp sX gX]) rfl (by simpa [idsL,AV.ids,z4w] using Cov.atom q6f (x3d (gP:=gP) (s:=s)) q2f) fun D B clk T hB hS hlt hT=> ?_
 have h1:=hlt (sC,z4z gC s sP gP) (by simp)
 have h2:=hlt (sP,z9i gP s) (by simp)
 have b1:=z5z (g:=gC) (hS (sC,z4z gC s sP gP) (by simp))
 have b2:=k1w (g:=gP) (hS (sP,z9i gP s) (by simp))
 dsimp only at h1 h2 b1 b2
 have hfk:=q2h (k:=0) hp.nodup hj
 rw[Nat.zero_add,←hname] at hfk
 have hpl:=hp.args f hf
 have hix:∀ h,z1m h 3 (.sl (s.preds.map z0q) .no) (.int .i64 (j:Int))=some (.iptr [.str f.name, .sl (f.args.map nat) .no,nat f.result] 0,h):=fun h=>by
  have h2:s.preds[j]=f:=by
   rw[List.getElem?_eq_some_iff] at hj
   exact hj.2
  rw[z8e hjl,h2]
 have e1:decide ((a.args.length:Int)=(f.args.length:Int))=true:=by rw[decide_eq_true_iff];omega
 simp only[go_sem,w9i,hB,z3x,z4e hB h1,b1,z3u,x4z hB h2,b2,x0c hfk,x3b,Bool.not_true,List.length_map,hix,e1]
 refine z0y (fun m q=>∃ (i:Nat),i≤a.args.length∧m=a.args.length - i∧q.ts 0= .ptr sC gC 0 0∧q.ts 2= .mp sX gX∧q.ts 7= .int .i64 (j:Int)∧q.ts 40= .sl (a.args.map z0l) .no∧q.ts 41= .int .i64 (a.args.length:Int)∧q.ts 42= .int .i64 (i:Int)∧∃ o,q.h=D++[o]) a.args.length ⟨0,by omega,rfl,rfl,rfl,by simp[z0b],rfl,rfl,rfl,_,rfl⟩ ?_
 rintro m ⟨ts,h,clk⟩ Pq ⟨i,hi,rfl,q0,q2,q7,q40,q41,q42,o,rfl⟩ hnx he hr
 dsimp only at q0 q2 q7 q40 q41 q42
 by_cases hlt':i < a.args.length
 ·have f1:decide ((i:Int) < (a.args.length:Int))=true:=by rw[decide_eq_true_iff];omega
  have f2:IntKind.i64.wrap ((i:Int) + 1)=((i + 1:Nat):Int):=z0d (by omega) (by omega)
  have hia:i < f.args.length:=by omega
  have hix2:∀ h,z1m h 1 (.sl (f.args.map nat) .no) (.int .i64 (i:Int))=some (.iptr [.int .i64 (f.args[i]:Int)] 0,h):=fun h=>q9k hia
  have hz:(f.args[i],a.args[i])∈f.args.zip a.args:=by
   have:(f.args.zip a.args)[i]? =some (f.args[i],a.args[i]):=by simp[List.getElem?_zip_eq_some,hia,hlt']
   exact List.mem_of_getElem? this
  obtain⟨hwf,hsz,hs1,hs4⟩:=hargs _ hz
  dsimp only at hwf hsz hs1 hs4
  have p1:=k1x hs1 hs4
  have p2:=j4a (sX:=sX) (gX:=gX) (u:= .no) hwf hV (by omega) (by omega)
  rw[nat] at p1 p2
  have hix3:∀ h,z1m h 1 (.sl (a.args.map z0l) .no) (.int .i64 (i:Int))=some (.iptr [.sl (a.args[i].map eNode) .no] 0,h):=fun h=>q4u hlt'
  have hh:Has [(sX, .map gX (z1l V))] (D++[o]):=fun p hp'=>hS.app p (by simp at hp';subst hp';simp)
  simp only[go_sem,j3v,q0,q2,q7,q40,q41,q42,f1,hB,hix3,z4e hB h1,b1,hix,hix2,z0a p1,Bool.not_true,z0w p2 hh,f2]
  exact hnx (a.args.length - (i + 1)) _ (by omega) ⟨i + 1,hlt',rfl,q0,q2,q7,q40,q41,rfl,o,rfl⟩
 ·have f1:decide ((i:Int) < (a.args.length:Int))=false:=by rw[decide_eq_false_iff_not];omega
  simp only[go_sem,j3v,q0,q2,q7,q40,q41,q42,f1]
  refine he _ _ ?_
  simp only[go_sem,]
  rw[z0e]
  exact hT _ hS.app
def z3i (l:List (List Nat)):List (AV×AV):=l.map fun a=>(.str a, .bool true)
theorem x0f {a:List Nat}:∀ {l:List (List Nat)},findKey (.one .str) (.str a) (z3i l)=some (if a∈l then some (.bool true) else none)
 | []=>rfl
 | b::l=>by
   have ih:=x0f (a:=a) (l:=l)
   unfold z3i at ih⊢
   simp only[List.map_cons,findKey,AV.eqv,AV.eq1]
   by_cases h:a=b
   ·subst h
    simp
   ·simp only[h,decide_false,ih,List.mem_cons,false_or]
theorem q2v {a:List Nat}:∀ {l:List (List Nat)},a∉l→z7o (.one .str) (.str a) (.bool true) (z3i l)=some (z3i (l++[a]))
 | [],_=>rfl
 | b::l,hn=>by
   rw[List.mem_cons,not_or] at hn
   have ih:=q2v (a:=a) (l:=l) hn.2
   unfold z3i at ih⊢
   simp only[List.map_cons,List.cons_append,z7o,AV.eqv,AV.eq1,hn.1,decide_false,ih,Option.map_some]
theorem q2i {h:List AObj} {z:AV} {a:List Nat} {l:List (List Nat)}:lkV h (.one .str) z false (some (z3i l)) (.str a)=some (q7f false z (if a∈l then some (.bool true) else none),h):=v8b x0f
theorem k7l {sC gC sP gP:Nat} {s:Sys} {V:List Var} {u:Tip} (hp:∀ p∈s.preds,∀ v∈z2h,p.name≠v.name) (hs:V.Sublist z2h):Reads [(sC,z4z gC s sP gP),(sP,z9i gP s)] 263 [.ptr sC gC 0 0, .sl (V.map z1b) u] (.bool true):=by
 have hV:∀ v∈V,v∈z2h:=fun v hv=>hs.mem hv
 have hnd:V.Nodup:=hs.nodup (by decide)
 have hVl:V.length≤8:=hs.length_le
 refine Reads.of rfl y8f rfl rfl rfl (az:=[.ptr sC gC 0 0, .sl (V.map z1b) .no]) rfl (by simpa [idsL,AV.ids,z0c z2b] using Cov.two q6f (x3d (gP:=gP) (s:=s))) fun D B clk T hB hS hlt hT=> ?_
 have h1:=hlt (sC,z4z gC s sP gP) (by simp)
 have h2:=hlt (sP,z9i gP s) (by simp)
 have b1:=z5z (g:=gC) (hS (sC,z4z gC s sP gP) (by simp))
 have b2:=k1w (g:=gP) (hS (sP,z9i gP s) (by simp))
 dsimp only at h1 h2 b1 b2
 simp only[go_sem,w9g,hB,List.length_map]
 refine z0y (fun m q=>∃ (i g:Nat) (o:AObj),i≤V.length∧m=V.length - i∧q.ts 0= .ptr sC gC 0 0∧q.ts 5= .mp (B + 0) g∧q.ts 11= .sl (V.map z1b) .no∧q.ts 12= .int .i64 (V.length:Int)∧q.ts 13= .int .i64 (i:Int)∧q.h=D++[.map g (z3i ((V.take i).map (·.name))),o]) V.length ⟨0,_,_,by omega,rfl,rfl,rfl,rfl,rfl,rfl,rfl⟩ ?_
 rintro m ⟨ts,h,clk⟩ Pq ⟨i,g,o,hi,rfl,q0,q5,q11,q12,q13,rfl⟩ hnx he hr
 dsimp only at q0 q5 q11 q12 q13
 by_cases hlt':i < V.length
 ·have f1:decide ((i:Int) < (V.length:Int))=true:=by rw[decide_eq_true_iff];omega
  have f2:IntKind.i64.wrap ((i:Int) + 1)=((i + 1:Nat):Int):=z0d (by omega) (by omega)
  have hv:=List.getElem_mem hlt'
  have hix:∀ h,z1m h 2 (.sl (V.map z1b) .no) (.int .i64 (i:Int))=some (.iptr [.str V[i].name, .int .i64 (V[i].sort:Int)] 0,h):=fun h=>z2f hlt' rfl rfl
  have htake:V.take (i + 1)=V.take i++[V[i]]:=List.take_succ_eq_append_getElem hlt'
  have hnew:V[i].name∉(V.take i).map (·.name):=by
   intro hc
   obtain⟨w,hw,e⟩:=List.mem_map.1 hc
   have:w=V[i]:=x4w (hV w (List.mem_of_mem_take hw)) (hV _ hv) e
   subst this
   have h3:(V.take (i + 1)).Nodup:=hnd.sublist (List.take_sublist _ _)
   rw[htake,List.nodup_append] at h3
   exact h3.2.2 _ hw _ (by simp) rfl
  have hsort:=q5d (hV _ hv)
  have p1:=j0r (hV _ hv)
  have p2:=k1x hsort.1 hsort.2
  rw[nat] at p2
  have hnm:z3i ((V.take (i + 1)).map (·.name))=z3i ((V.take i).map (·.name)++[V[i].name]):=by rw[htake,List.map_append];rfl
  have hfp:=q2g (a:=V[i].name) (k:=0) (ps:=s.preds) fun p hp' e=>hp p hp' _ (hV _ hv) e
  generalize V[i]=v at *
  have hmu:∀ L:List AObj,z5m L 0 g=some (z3i ((V.take i).map (·.name)))→muV (D++L) (.one .str) (.str v.name) (.bool true) (.mp (B + 0) g)=some (.undef,D++L.set 0 (.map g (z3i ((V.take (i + 1)).map (·.name))))):=fun L hL=>by
   rw[hnm]
   exact x7x (v:= .bool true) hB hL rfl (q2v hnew)
  simp only[go_sem,j3u,q0,q5,q11,q12,q13,f1,hB,hix,z4e hB h1,b1,z3u,x4z hB h2,b2,x0c hfp,q0r,q2i,hnew,z5k,z0a p1,Bool.not_true,z0a p2,hmu,f2]
  exact hnx (V.length - (i + 1)) _ (by omega) ⟨i + 1,g,_,hlt',rfl,q0,q5,q11,q12,rfl,rfl⟩
 ·have f1:decide ((i:Int) < (V.length:Int))=false:=by rw[decide_eq_false_iff_not];omega
  simp only[go_sem,j3u,q0,q5,q11,q12,q13,f1]
  refine he _ _ ?_
  simp only[go_sem,]
  rw[z0e]
  exact hT _ hS.app
theorem y8r {V:List Var} {u:Tip} {h:List AObj} {clk:Nat} {Q:AV→List AObj→Nat→Prop} (hs:V.Sublist z2h) (hQ:∀ g o c,Q (.mp h.length g) (h++[.map g (z1l V),o]) c):WC Gam 262 [.sl (V.map z1b) u] h clk Q:=by
 have hnd:V.Nodup:=hs.nodup (by decide)
 have hVl:V.length≤8:=hs.length_le
 refine q9z rfl y8e rfl rfl rfl (az:=[.sl (V.map z1b) .no]) rfl (by simp[idsL,AV.ids,z0c z2b]) fun D B R hB hBh hR=> ?_
 simp only[go_sem,w9f,hB,List.length_map]
 refine z0y (fun m q=>∃ (i g:Nat) (o:AObj),i≤V.length∧m=V.length - i∧q.ts 3= .mp (B + 0) g∧q.ts 7= .sl (V.map z1b) .no∧q.ts 8= .int .i64 (V.length:Int)∧q.ts 9= .int .i64 (i:Int)∧q.h=D++[.map g (z1l (V.take i)),o]) V.length ⟨0,_,_,by omega,rfl,rfl,rfl,rfl,rfl,rfl⟩ ?_
 rintro m ⟨ts,h,clk⟩ Pq ⟨i,g,o,hi,rfl,q3,q7,q8,q9,rfl⟩ hnx he hr
 dsimp only at q3 q7 q8 q9
 by_cases hlt':i < V.length
 ·have f1:decide ((i:Int) < (V.length:Int))=true:=by rw[decide_eq_true_iff];omega
  have f2:IntKind.i64.wrap ((i:Int) + 1)=((i + 1:Nat):Int):=z0d (by omega) (by omega)
  have hix:∀ h,z1m h 2 (.sl (V.map z1b) .no) (.int .i64 (i:Int))=some (.iptr [.str V[i].name, .int .i64 (V[i].sort:Int)] 0,h):=fun h=>z2f hlt' rfl rfl
  have htake:V.take (i + 1)=V.take i++[V[i]]:=List.take_succ_eq_append_getElem hlt'
  have hnew:V[i]∉V.take i:=by
   intro hc
   have h3:(V.take (i + 1)).Nodup:=hnd.sublist (List.take_sublist _ _)
   rw[htake,List.nodup_append] at h3
   exact h3.2.2 _ hc _ (by simp) rfl
  generalize V[i]=v at *
  have hput:=x3c hnew
  have hmu:∀ L:List AObj,z5m L 0 g=some (z1l (V.take i))→muV (D++L) (.agg [.str, .int]) (.agg [.str v.name, .int .i64 (v.sort:Int)]) (.bool true) (.mp (B + 0) g)=some (.undef,D++L.set 0 (.map g (z1l (V.take (i + 1))))):=fun L hL=>by
   have hpub:pub (D++L) (.bool true)=some (.bool true,D++L):=rfl
   have he:((AV.agg [.str v.name, .int .i64 (v.sort:Int)]).eqv (.agg [.str, .int]) (.agg [.str v.name, .int .i64 (v.sort:Int)])).isSome=true:=by
    have:=x5a (v:=v) (w:=v)
    rw[show z1b v= .agg [.str v.name, .int .i64 (v.sort:Int)] from rfl] at this
    rw[this]
    rfl
   have hput':z7o (.agg [.str, .int]) (.agg [.str v.name, .int .i64 (v.sort:Int)]) (.bool true) (z1l (V.take i))=some (z1l (V.take (i + 1))):=by rw[htake];exact hput
   simp only[muV,x4d hB,hL,hpub,he,if_true,hput',Option.map_some,z5i hB]
  simp only[go_sem,k1o,q3,q7,q8,q9,f1,hB,hix,hmu,f2]
  exact hnx (V.length - (i + 1)) _ (by omega) ⟨i + 1,g,_,hlt',rfl,q3,q7,q8,rfl,rfl⟩
 ·have f1:decide ((i:Int) < (V.length:Int))=false:=by rw[decide_eq_false_iff_not];omega
  have hti:V.take i=V:=List.take_of_length_le (by omega)
  simp only[go_sem,k1o,q3,q7,q8,q9,f1]
  refine he _ _ ?_
  simp only[go_sem,q3]
  rw[q5h rfl,hti]
  refine hR _ _ ⟨B + 0,by simp[z1k,AV.cv,AV.ids],by omega⟩ fun c=> ?_
  have:=hQ g o c
  rw[←hBh] at this
  exact this
mutual
theorem x5b:∀ (a:AV),a.beq a=true
 | .undef=>rfl
 | .int _ _=>by simp[AV.beq]
 | .bool _=>by simp[AV.beq]
 | .str _=>by simp[AV.beq]
 | .agg cs=>by simp[AV.beq,z9d cs]
 | .tup cs=>by simp[AV.beq,z9d cs]
 | .sl cs _=>by simp[AV.beq,z9d cs]
 | .ob .. =>by simp[AV.beq]
 | .ptr .. =>by simp[AV.beq]
 | .iptr cs _=>by simp[AV.beq,z9d cs]
 | .nilptr=>rfl
 | .mp .. =>by simp[AV.beq]
 | .nilmap=>rfl
 | .fn _ cs=>by simp[AV.beq,z9d cs]
 | .nilfn=>rfl
 | .nilif=>rfl
 | .bwd _ x=>by simp[AV.beq,x5b x]
theorem z9d:∀ (l:List AV),j4s l l=true
 | []=>rfl
 | a::l=>by simp[j4s,x5b a,z9d l]
end
theorem x7y:∀ (l:List (AV×AV)),k9f l l=true
 | []=>rfl
 | a::l=>by simp[k9f,x5b,x7y l]
theorem k7m:∀ (o:AObj),o.beq o=true
 | .dead=>rfl
 | .blk .. =>by simp[AObj.beq,z9d]
 | .tip .. =>by simp[AObj.beq]
 | .map .. =>by simp[AObj.beq,x7y]
theorem x7z {F:List Nat} {h:List AObj}:z3p F h h=(F,[]):=by
 unfold z3p
 simp[k7m]
theorem z7r {f base gg clk:Nat} {args:List AV} {S:List (Nat×AObj)} {h:List AObj} {v:AV} {m:Md} {dst:Option Nat} {os:List AOper} {ts:Tmps} {ks:List Kf} {Q:Post} (hr:Reads S f args v) (hh:Has S h)
  (hO:O Gam base (m.add (S.map (·.1),[])) (gg + 1) os ⟨z9f ts dst v,h,clk⟩ ks Q):CK Gam base f args h clk m dst gg os ts ks Q:=by
 obtain⟨⟨k,hk⟩,hF⟩:=hr h clk hh
 refine⟨k,v,h,clk,hk, ?_⟩
 dsimp only
 rw[x7z]
 exact k0d hF (by simp) hO
theorem z8g {sC gC sP gP:Nat} {s:Sys} {w k:Int}:Reads [(sC,z4z gC s sP gP),(sP,z9i gP s)] 202 [.ptr sC gC 0 0, .bool false, .int .i64 w, .int .i64 k] (.tup []):=by
 refine Reads.of rfl y8c rfl rfl rfl (az:=[.ptr sC gC 0 0, .bool false, .int .i64 w, .int .i64 k]) rfl (by simpa [idsL,AV.ids] using Cov.two q6f (x3d (gP:=gP) (s:=s))) fun D B clk T hB hS hlt hT=> ?_
 simp only[go_sem,w9d]
 rw[z0h rfl rfl]
 exact hT _ hS.app
theorem Cov.five {s2 sC sP s5 sX g2 gC gP g5 gX:Nat} {s:Sys} {V:List Var} (h1:sC < sP) (h2:sP < s2) (h3:s2 < s5) (h4:s5 < sX):Cov [(s2, .blk g2 [.ptr sC gC 0 0] false false 0),(sC,z4z gC s sP gP),(sP,z9i gP s),(s5, .blk g5 [.mp sX gX] false false 0),(sX, .map gX (z1l V))] [s2,s5]:=by
 have i2:(AObj.blk g2 [.ptr sC gC 0 0] false false 0).ids=[sC]:=rfl
 have i5:(AObj.blk g5 [.mp sX gX] false false 0).ids=[sX]:=rfl
 refine⟨by simp,by simp[i2,i5,q6f,x3d,q2f],fun h hS p hp=> ?_⟩
 have a2:h[s2]? =some (.blk g2 [.ptr sC gC 0 0] false false 0):=hS (s2,_) (by simp)
 have aC:h[sC]? =some (z4z gC s sP gP):=hS (sC,z4z gC s sP gP) (by simp)
 have aP:h[sP]? =some (z9i gP s):=hS (sP,z9i gP s) (by simp)
 have a5:h[s5]? =some (.blk g5 [.mp sX gX] false false 0):=hS (s5,_) (by simp)
 have hX:=hS.lt (sX,_) (List.mem_cons_of_mem _ (List.mem_cons_of_mem _ (List.mem_cons_of_mem _ (List.mem_cons_of_mem _ List.mem_cons_self))))
 dsimp only at hX
 obtain⟨m,hm⟩:∃ m,h.length=m + 4:=⟨h.length - 4,by omega⟩
 have hr:reach h (h.length + 1) [] [s2,s5]=reach h (m + 1) [s5,sP,sC,s2] [sX]:=by
  rw[hm,q0m (by simp) a2,i2]
  rw[List.singleton_append,q0m (by simp;omega) aC,q6f]
  rw[List.singleton_append,q0m (by simp;omega) aP,x3d]
  rw[List.nil_append,q0m (by simp;omega) a5,i5]
  rfl
 rw[hr]
 simp at hp
 rcases hp with rfl | rfl | rfl | rfl | rfl <;> exact z6x (by simp)
theorem k7n {s2 sC sP s5 sX g2 gC gP g5 gX:Nat} {s:Sys} {a:App} {V:List Var} (hp:PrOk s.preds) (ha:AppOk s.preds V a) (hV:∀ v∈V,v∈z2h) (h1:sC < sP) (h2:sP < s2) (h3:s2 < s5) (h4:s5 < sX):
  Reads [(s2, .blk g2 [.ptr sC gC 0 0] false false 0),(sC,z4z gC s sP gP),(sP,z9i gP s),(s5, .blk g5 [.mp sX gX] false false 0),(sX, .map gX (z1l V))] 264 [z3x a, .ptr s2 g2 0 0, .ptr s5 g5 0 0] (.bool false):=by
 refine Reads.of rfl y8g rfl rfl rfl (az:=[z3x a, .ptr s2 g2 0 0, .ptr s5 g5 0 0]) rfl (by simpa [idsL,AV.ids,z4w] using Cov.five h1 h2 h3 h4) fun D B clk T hB hS hlt hT=> ?_
 have l2:=hlt (s2, .blk g2 [.ptr sC gC 0 0] false false 0) (by simp)
 have l5:=hlt (s5, .blk g5 [.mp sX gX] false false 0) (by simp)
 have b2:=z5z (g:=g2) (hS (s2, .blk g2 [.ptr sC gC 0 0] false false 0) (by simp))
 have b5:=z5z (g:=g5) (hS (s5, .blk g5 [.mp sX gX] false false 0) (by simp))
 dsimp only at l2 l5 b2 b5
 have hr:=j4b (sC:=sC) (gC:=gC) (sP:=sP) (gP:=gP) (sX:=sX) (gX:=gX) hp ha hV
 have hh:∀ L,Has [(sC,z4z gC s sP gP),(sP,z9i gP s),(sX, .map gX (z1l V))] (D++L):=fun L p hp'=>hS.app p (by simp at hp';rcases hp' with rfl | rfl | rfl <;> simp)
 rw[z3x] at hr
 simp only[go_sem,w9h,hB,z3x,z4e hB l2,b2,z4e hB l5,b5,z0w hr (hh _),Bool.not_true]
 rw[z0e]
 exact hT _ hS.app
theorem x0g {f base gg clk:Nat} {args:List AV} {h:List AObj} {m:Md} {dst:Option Nat} {os:List AOper} {ts:Tmps} {ks:List Kf} {Q:Post} (hf:z0v Gam f args h=[]) (hw:WC Gam f args h clk fun v h' c=>O Gam base (m.add ([],[])) (gg + 1) os ⟨z9f ts dst v,h',c⟩ ks Q):CK Gam base f args h clk m dst gg os ts ks Q:=by
 unfold CK
 rw[hf]
 exact hw
theorem v1h {T:List Nat} {R:AV→List AObj→Prop} {h:List AObj}:RV T (some []) R h=R (.tup []) h:=z0h rfl rfl
theorem k7o {sC gC sP gP i:Nat} {s:Sys} {c:Clause} (hp:PrOk s.preds) (hn:∀ p∈s.preds,∀ v∈z2h,p.name≠v.name) (hc:ClauseOk s.preds c) (hi:s.clauses[i]? =some c) (hlt1:sC < sP):Reads [(sC,z4z gC s sP gP),(sP,z9i gP s)] 203 [.ptr sC gC 0 0, .int .i64 (i:Int)] (.tup []):=by
 obtain⟨hsub,hbl,hbody,hguard,hhead⟩:=hc
 have hV:∀ v∈c.vars,v∈z2h:=fun v hv=>hsub.mem hv
 have hVl:c.vars.length≤8:=hsub.length_le
 refine Reads.of rfl y8d rfl rfl rfl (az:=[.ptr sC gC 0 0, .int .i64 (i:Int)]) rfl (by simpa [idsL,AV.ids] using Cov.two q6f (x3d (gP:=gP) (s:=s))) fun D B clk T hB hS hlt hT=> ?_
 have h1:=hlt (sC,z4z gC s sP gP) (by simp)
 have h2:=hlt (sP,z9i gP s) (by simp)
 have b1:=z5z (g:=gC) (hS (sC,z4z gC s sP gP) (by simp))
 dsimp only at h1 h2 b1
 have hil:i < s.clauses.length:=by
  rw[List.getElem?_eq_some_iff] at hi
  exact hi.1
 have hix:∀ h,z1m h 5 (.sl (s.clauses.map z0f) .no) (.int .i64 (i:Int))=some (.iptr [.sl (c.vars.map z1b) .no, .sl (c.body.map z3x) .no,AV.sl (c.guard.map eNode) .no, .str c.head.pred, .sl (c.head.args.map z0l) .no] 0,h):=fun h=>by
  have h2:s.clauses[i]=c:=by
   rw[List.getElem?_eq_some_iff] at hi
   exact hi.2
  rw[z2f (f:=z0f) hil (cs:=[.sl (c.vars.map z1b) .no, .sl (c.body.map z3x) .no,AV.sl (c.guard.map eNode) .no, .str c.head.pred, .sl (c.head.args.map z0l) .no]) (esz:=5) (by rw[h2];rfl) rfl]
 simp only[go_sem,w9e,hB,z4e hB h1,b1,hix]
 refine z6f (y8r hsub fun gX oX c2=> ?_)
 have hlen:∀ a b c:AObj,(D++[a,b,c]).length=B + 3:=fun a b c=>by simp[hB]
 have hS2:∀ L,Has [(sC,z4z gC s sP gP),(sP,z9i gP s)] (D++L):=fun L=>hS.app
 have hSX:∀ a b d L,Has [(B + 3, .map gX (z1l c.vars))] (D++a::b::d:: .map gX (z1l c.vars)::L):=fun _ _ _ _=>x4t hB rfl
 have hS5:∀ g0 g2 b L,Has [(B + 0, .blk g0 [.ptr sC gC 0 0] false false 0),(sC,z4z gC s sP gP),(sP,z9i gP s),(B + 2, .blk g2 [.mp (B + 3) gX] false false 0),(B + 3, .map gX (z1l c.vars))] (D++ .blk g0 [.ptr sC gC 0 0] false false 0::b:: .blk g2 [.mp (B + 3) gX] false false 0:: .map gX (z1l c.vars)::L):=fun g0 g2 b L=>by
  refine Has.cons ?_ (Has.cons (hS2 _ (sC,z4z gC s sP gP) (by simp)) (Has.cons (hS2 _ (sP,z9i gP s) (by simp)) (Has.cons ?_ (Has.cons ?_ Has.nil))))
  ·dsimp only;rw[z6k hB];rfl
  ·dsimp only;rw[z6k hB];rfl
  ·dsimp only;rw[z6k hB];rfl
 have hS3:∀ a b d L,Has [(sC,z4z gC s sP gP),(sP,z9i gP s),(B + 3, .map gX (z1l c.vars))] (D++a::b::d:: .map gX (z1l c.vars)::L):=fun a b d L=>by
  refine Has.cons (hS2 _ (sC,z4z gC s sP gP) (by simp)) (Has.cons (hS2 _ (sP,z9i gP s) (by simp)) (hSX a b d L))
 have hd:∀ N,N=B + 5→sC < N∧sP < N:=fun N hN=>by omega
 simp only[go_sem,hB,hlen,List.append_assoc,z1i,z8t]
 refine z7r (k7l hn hsub) (hS2 _) ?_
 simp only[go_sem,Bool.not_true]
 refine z7r z8g (hS2 _) ?_
 simp only[go_sem,hB]
 refine⟨by simp[z1f,apart,z0i,z1d,z1h,AOp.isCall,hB] <;> omega, ?_⟩
 have r93:∀ g0 g2,Reads [(B + 0, .blk g0 [.ptr sC gC 0 0] false false 0),(sC,z4z gC s sP gP),(sP,z9i gP s),(B + 2, .blk g2 [.mp (B + 3) gX] false false 0),(B + 3, .map gX (z1l c.vars))] 114 [.sl (c.body.map z3x) .no, .fn 264 [.ptr (B + 0) g0 0 0, .ptr (B + 2) g2 0 0]] (.bool false):=fun g0 g2=>by
  have:=j0p (enc:=z3x) (xs:=c.body) (t:= .no) (cap:=[.ptr (B + 0) g0 0 0, .ptr (B + 2) g2 0 0]) (P:=fun _=>false) (fun _=>rfl) (fun _ _=>rfl) z4w (by omega) (by simpa [idsL,AV.ids] using Cov.five (s2:=B + 0) (s5:=B + 2) (sX:=B + 3) (g2:=g0) (g5:=g2) (gC:=gC) (gP:=gP) (gX:=gX) (s:=s) (V:=c.vars) hlt1 (by omega) (by omega) (by omega)) fun a ha=>k7n hp (hbody a ha) hV hlt1 (by omega) (by omega) (by omega)
  have e:(c.body.any fun _=>false)=false:=by simp
  rw[e] at this
  exact this
 simp only[go_sem,hB,z1i]
 refine z7r (r93 _ _) (hS5 _ _ _ _) ?_
 simp only[go_sem,]
 refine z7r z8g (hS2 _) ?_
 simp only[go_sem,hB]
 refine⟨by simp[z1f,apart,z0i,z1d,z1h,AOp.isCall,hB] <;> omega, ?_⟩
 have r175:Reads [(B + 3, .map gX (z1l c.vars))] 266 [.mp (B + 3) gX, .sl (c.guard.map eNode) .no, .int .i64 1] (.bool true):=j4a hguard.1 hV (by have:=hguard.2.1;omega) (by omega)
 simp only[go_sem,hB,z1i]
 refine z7r r175 (hSX _ _ _ _) ?_
 simp only[go_sem,Bool.not_true]
 refine z7r z8g (hS2 _) ?_
 simp only[go_sem,hB]
 refine⟨by simp[z1f,apart,z0i,z1d,z1h,AOp.isCall,hB] <;> omega, ?_⟩
 have e1:decide ((400:Int) < (c.vars.length:Int))=false:=by rw[decide_eq_false_iff_not];omega
 have e2:decide ((8:Int) < (c.body.length:Int))=false:=by rw[decide_eq_false_iff_not];omega
 rcases hhead with ⟨hh1,hh2⟩ | hha
 ·simp only[go_sem,hB,hh1,hh2,decide_true,List.length_map,Int.reduceLT,decide_false]
  rw[z0w z8g (hS2 _)]
  simp only[go_sem,hB,List.length_map,e1,e2]
  rw[z0w z8g (hS2 _)]
  simp only[go_sem,]
  rw[v1h]
  exact hT _ hS.app
 ·have hne:decide (c.head.pred=[])=false:=by
   obtain⟨f,hf,hname,_,_⟩:=hha
   rw[decide_eq_false_iff_not,hname]
   exact hp.name f hf
  have r174:=j4b (sC:=sC) (gC:=gC) (sP:=sP) (gP:=gP) (sX:=B + 3) (gX:=gX) hp hha hV
  rw[z3x] at r174
  simp only[go_sem,hB,hne,z1i]
  refine z7r r174 (hS3 _ _ _ _) ?_
  simp only[go_sem,Bool.not_true]
  refine z7r z8g (hS2 _) ?_
  simp only[go_sem,hB]
  refine⟨by simp[z1f,apart,z0i,z1d,z1h,AOp.isCall,hB] <;> omega, ?_⟩
  simp only[go_sem,hB,List.length_map,e1,e2]
  rw[z0w z8g (hS2 _)]
  simp only[go_sem,]
  rw[v1h]
  exact hT _ hS.app
structure SysV (s:Sys):Prop where
 preds:s.preds.Sublist allPreds
 len:s.clauses.length≤16
 clauses:∀ c∈s.clauses,ClauseOk s.preds c
theorem SysOk.v {s:Sys} (h:SysOk s):SysV s:=by
 obtain⟨⟨n,_,_,hp⟩,hl,hc⟩:=h
 refine⟨by rw[hp];exact (List.take_sublist _ _).trans (List.sublist_append_left u6e [u6h]),by omega,hc⟩
theorem SysV.pr {s:Sys} (h:SysV s):PrOk s.preds:=by
 refine⟨(h.preds.map _).nodup (by decide),fun f hf=> ?_,fun f hf=> ?_⟩
 ·have:∀ f∈allPreds,f.args.length≤40∧∀ s∈f.args,1≤s∧s≤4:=by decide
  exact this f (h.preds.mem hf)
 ·have:∀ f∈allPreds,f.name≠[]:=by decide
  exact this f (h.preds.mem hf)
theorem SysV.apart {s:Sys} (h:SysV s):∀ p∈s.preds,∀ v∈z2h,p.name≠v.name:=fun p hp=>by
 have:∀ p∈allPreds,∀ v∈z2h,p.name≠v.name:=by decide
 exact this p (h.preds.mem hp)
theorem y8s {ps:List Func} {u:Tip} {h:List AObj} {clk:Nat} {Q:AV→List AObj→Nat→Prop} (hp:PrOk ps) (hl:ps.length≤1000) (hQ:∀ g o c,Q (.mp h.length g) (h++[.map g (z4f 0 ps),o]) c):WC Gam 198 [.sl (ps.map z0q) u] h clk Q:=by
 refine q9z rfl w9a rfl rfl rfl (az:=[.sl (ps.map z0q) .no]) rfl (by simp[idsL,AV.ids,z0c z2j]) fun D B R hB hBh hR=> ?_
 simp only[go_sem,w8z,hB,List.length_map]
 refine z0y (fun m q=>∃ (i g:Nat) (o:AObj),i≤ps.length∧m=ps.length - i∧q.ts 3= .mp (B + 0) g∧q.ts 9= .sl (ps.map z0q) .no∧q.ts 10= .int .i64 (ps.length:Int)∧q.ts 11= .int .i64 (i:Int)∧q.h=D++[.map g (z4f 0 (ps.take i)),o]) ps.length ⟨0,_,_,by omega,rfl,rfl,rfl,rfl,rfl,rfl⟩ ?_
 rintro m ⟨ts,h,clk⟩ Pq ⟨i,g,o,hi,rfl,q3,q9,q10,q11,rfl⟩ hnx he hr
 dsimp only at q3 q9 q10 q11
 by_cases hlt':i < ps.length
 ·have f1:decide ((i:Int) < (ps.length:Int))=true:=by rw[decide_eq_true_iff];omega
  have f2:IntKind.i64.wrap ((i:Int) + 1)=((i + 1:Nat):Int):=z0d (by omega) (by omega)
  have hix:∀ h,z1m h 3 (.sl (ps.map z0q) .no) (.int .i64 (i:Int))=some (.iptr [.str ps[i].name, .sl (ps[i].args.map nat) .no, .int .i64 (ps[i].result:Int)] 0,h):=fun h=>z8e hlt'
  have htake:ps.take (i + 1)=ps.take i++[ps[i]]:=List.take_succ_eq_append_getElem hlt'
  have hnew:∀ p∈ps.take i,p.name≠ps[i].name:=by
   intro p hp' e
   have h3:=hp.nodup
   have h4:((ps.take (i + 1)).map (·.name)).Nodup:=h3.sublist ((List.take_sublist _ _).map _)
   rw[htake,List.map_append,List.nodup_append] at h4
   exact h4.2.2 _ (List.mem_map.2 ⟨p,hp',rfl⟩) _ (by simp) e
  have hput:=x0e (a:=ps[i].name) (n:=i) (ps:=ps.take i) (k:=0) (r:=ps[i].args) (q:=ps[i].result) hnew (by simp;omega)
  have hfk:=q2g (a:=ps[i].name) (k:=0) hnew
  generalize ps[i]=p at *
  have hmu:∀ L:List AObj,z5m L 0 g=some (z4f 0 (ps.take i))→muV (D++L) (.one .str) (.str p.name) (.int .i64 (i:Int)) (.mp (B + 0) g)=some (.undef,D++L.set 0 (.map g (z4f 0 (ps.take (i + 1))))):=fun L hL=>by
   refine x7x (v:= .int .i64 (i:Int)) hB hL rfl ?_
   rw[htake]
   exact hput
  simp only[go_sem,j3t,q3,q9,q10,q11,f1,hB,hix,z3u,x0c hfk,q0r,Bool.not_false,hmu,f2]
  exact hnx (ps.length - (i + 1)) _ (by omega) ⟨i + 1,g,_,hlt',rfl,q3,q9,q10,rfl,rfl⟩
 ·have f1:decide ((i:Int) < (ps.length:Int))=false:=by rw[decide_eq_false_iff_not];omega
  have hti:ps.take i=ps:=List.take_of_length_le (by omega)
  simp only[go_sem,j3t,q3,q9,q10,q11,f1]
  refine he _ _ ?_
  simp only[go_sem,q3]
  rw[q5h rfl,hti]
  refine hR _ _ ⟨B + 0,by simp[z1k,AV.cv,AV.ids],by omega⟩ fun c=> ?_
  have:=hQ g o c
  rw[←hBh] at this
  exact this
theorem v8d {f:Func} (hf:f∈allPreds):Pure Gam 200 [z0q f] (.bool false):=by
 refine Pure.tab (tab:=j1s) rfl rfl ?_
 simp only[allPreds,List.mem_cons,List.not_mem_nil,or_false] at hf
 rcases hf with rfl | rfl | rfl | rfl | rfl | rfl <;> rfl
theorem Cov.none:Cov [] []:=⟨by simp,by simp,fun h _ p hp=>by simp at hp⟩
theorem k1y {ps:List Func} (hp:ps.Sublist allPreds):Reads [] 199 [.sl (ps.map z0q) .no, .fn 200 []] (.bool false):=by
 have:=k7c (enc:=z0q) (xs:=ps) (S:=[]) (c:=200) (cap:=[]) (t:= .no) (P:=fun _=>false) (fun _=>rfl) (fun _ _=>rfl) z2j (by have:=hp.length_le;simp[allPreds] at this;omega) Cov.none fun f hf=>(v8d (hp.mem hf)).reads
 have e:(ps.any fun _=>false)=false:=by simp
 rw[e] at this
 exact this
theorem v8e {h:List AObj} {s g:Nat}:k9k h .mp (.mp s g)=((z5m h s g).map fun es=>(.int .i64 (es.length:Int))).map (·,h):=(rfl)
theorem w9q {s:Sys} (hs:SysV s):Pure Gam 132 [z0x s] (.sl [] .no):=by
 have hpr:=hs.pr
 have hpl:s.preds.length≤6:=hs.preds.length_le
 have hcl:=hs.len
 refine Pure.of rfl u5x rfl rfl rfl (az:=[z0x s]) rfl (by simp[idsL,z2c]) fun D B clk T hB hT=> ?_
 simp only[go_sem,u2j,hB,z0x,z1i]
 refine x0g ?_ (y8s hpr (by omega) fun gP oP c2=> ?_)
 ·refine q1e (az:=[.sl (s.preds.map z0q) .no]) w9a rfl rfl rfl (by simp[idsL,AV.ids,z0c z2j])
 have hlen:∀ a b:AObj,(D++[a,b]).length=B + 2:=fun a b=>by simp[hB]
 simp only[go_sem,hB,hlen,List.append_assoc]
 refine⟨by simp[z1f,apart,z0i,z1d,z1h,AOp.isCall], ?_⟩
 have hS:∀ g a o,Has [(B + 1,z4z g s (B + 2) gP),(B + 2,z9i gP s)] (D++[a, .blk g [.agg [.sl (s.preds.map z0q) .no, .sl (s.clauses.map z0f) .no, .mp (B + 2) gP, .sl [] .nil]] false false 0, .map gP (z4f 0 s.preds),o]):=fun g a o=>by
  refine Has.cons ?_ (Has.cons ?_ Has.nil)
  ·dsimp only;rw[z6k hB];rfl
  ·dsimp only;rw[z6k hB];rfl
 have r118:=k1y hs.preds
 have e1:decide ((s.preds.length:Int) < (s.preds.length:Int))=false:=by rw[decide_eq_false_iff_not];omega
 have e2:decide ((512:Int) < (s.preds.length:Int))=false:=by rw[decide_eq_false_iff_not];omega
 have e3:decide ((2048:Int) < (s.clauses.length:Int))=false:=by rw[decide_eq_false_iff_not];omega
 simp only[v8e,x4d hB,j2z,j2y,Option.map_some,j0u]
 simp only[go_sem,hB,List.length_map,e1,z0w r118 Has.nil,decide_false,Int.lt_irrefl]
 rw[z0w z8g (hS _ _ _)]
 simp only[go_sem,hB,List.length_map,e2,e3]
 rw[z0w z8g (hS _ _ _)]
 simp only[go_sem,hB,List.length_map]
 refine z0y (fun m q=>∃ (i gC:Nat) (a:AObj),i≤s.clauses.length∧m=s.clauses.length - i∧q.ts 3= .ptr (B + 1) gC 0 0∧q.ts 43= .int .i64 (s.clauses.length:Int)∧q.ts 44= .int .i64 (i:Int)∧q.h=D++[a, .blk gC [.agg [.sl (s.preds.map z0q) .no, .sl (s.clauses.map z0f) .no, .mp (B + 2) gP, .sl [] .nil]] false false 0, .map gP (z4f 0 s.preds),oP]) s.clauses.length ⟨0,_,_,by omega,rfl,by simp[z0b],by simp[z0b],by simp[z0b],rfl⟩ ?_
 rintro m ⟨ts,h,clk⟩ Pq ⟨i,gC,a,hi,rfl,q3,q43,q44,rfl⟩ hnx he hr
 dsimp only at q3 q43 q44
 by_cases hlt':i < s.clauses.length
 ·have f1:decide ((i:Int) < (s.clauses.length:Int))=true:=by rw[decide_eq_true_iff];omega
  have f2:IntKind.i64.wrap ((i:Int) + 1)=((i + 1:Nat):Int):=z0d (by omega) (by omega)
  have r122:=k7o (sC:=B + 1) (gC:=gC) (sP:=B + 2) (gP:=gP) (i:=i) (c:=s.clauses[i]) hpr hs.apart (hs.clauses _ (List.getElem_mem hlt')) (by simp[hlt']) (by omega)
  simp only[go_sem,k6x,q3,q43,q44,f1,z0w r122 (hS _ _ _),f2]
  exact hnx (s.clauses.length - (i + 1)) _ (by omega) ⟨i + 1,gC,a,hlt',rfl,q3,q43,rfl,rfl⟩
 ·have f1:decide ((i:Int) < (s.clauses.length:Int))=false:=by rw[decide_eq_false_iff_not];omega
  simp only[go_sem,k6x,q3,q43,q44,f1]
  refine he _ _ ?_
  simp only[go_sem,q3,hB]
  rw[z0h rfl rfl]
  exact hT _
theorem k1z {s:Sys} (hs:SysV s):Pure Gam 77 [z0x s] (.bool true):=by
 have hp:=w9q hs
 rw[z0x] at hp
 refine Pure.of rfl u5w rfl rfl rfl (az:=[z0x s]) rfl (by simp[idsL,z2c]) fun D B clk T hB hT=> ?_
 simp only[go_sem,u2i,hB,z0x,z0a hp,Int.reduceEq,decide_true]
 rw[z0e]
 exact hT _
theorem z8l {l:List Clause} {i:Nat} {h:List AObj} {t:Tip} {k:IntKind} (hi:i < l.length):z1m h 5 (.sl (l.map z0f) t) (.int k (i:Int))=some (.iptr [.sl (l[i].vars.map z1b) .no, .sl (l[i].body.map z3x) .no, .sl (l[i].guard.map eNode) .no, .str l[i].head.pred, .sl (l[i].head.args.map z0l) .no] 0,h):=z2f hi rfl rfl
structure Tf where
 kind:Int
 pred:List Nat
 into:List Nat
 clause:Int
 atom:Int
 un:List (List Nat)
 und:List (List Nat)
 drops:List AV
def z1t (l:List (List Nat)):List AV:=l.map AV.str
def eTf (x:Tf):AV:= .agg [.int .i64 x.kind, .str x.pred, .str x.into, .int .i64 x.clause, .int .i64 x.atom, .sl (z1t x.un) .no, .sl (z1t x.und) .no, .sl x.drops .no]
theorem z2d {l:List (List Nat)}:idsL (z1t l)=[]:=z0c fun _=>rfl
theorem z1u {l:List (List Nat)}:z0t 1 (z1t l)=true:=z3o fun _=>⟨rfl,rfl,rfl⟩
theorem z6g {l:List Func} {i:Nat} {h:List AObj} {t:Tip} {k:IntKind} (hi:i < l.length):z1m h 3 (.sl (l.map z0q) t) (.int k (i:Int))=some (.iptr [.str l[i].name, .sl (l[i].args.map nat) .no, .int .i64 (l[i].result:Int)] 0,h):=z8e hi
theorem w9s {ps:List Func} {u:Tip} (hl:ps.length≤1000):Pure Gam 84 [.sl (ps.map z0q) u] (.sl (z1t (ps.map (·.name))) .no):=by
 refine Pure.of rfl u5o rfl rfl rfl (az:=[.sl (ps.map z0q) .no]) rfl (by simp[idsL,AV.ids,z0c z2j]) fun D B clk T hB hT=> ?_
 simp only[go_sem,u1z,List.length_map]
 refine z0y (fun m q=>∃ (i:Nat) (t:Tip) (a b o:AObj),i≤ps.length∧m=ps.length - i∧q.ts 3= .sl (z1t ((ps.take i).map (·.name))) t∧q.ts 6= .sl (ps.map z0q) .no∧q.ts 7= .int .i64 (ps.length:Int)∧q.ts 8= .int .i64 (i:Int)∧q.h=D++[a,b,o]∧z8k B 2 o t 1) ps.length ⟨0, .nil,_,_,_,by omega,rfl,rfl,rfl,rfl,rfl,rfl, .inl rfl⟩ ?_
 rintro m ⟨ts,h,clk⟩ P ⟨i,t,a,b,o,hi,rfl,q3,q6,q7,q8,rfl,ht⟩ hnx he hr
 dsimp only at q3 q6 q7 q8
 by_cases hlt:i < ps.length
 ·have f1:decide ((i:Int) < (ps.length:Int))=true:=by rw[decide_eq_true_iff];omega
  have f2:IntKind.i64.wrap ((i:Int) + 1)=((i + 1:Nat):Int):=z0d (by omega) (by omega)
  have hix:=fun h=>z6g (l:=ps) (i:=i) (h:=h) (t:= .no) (k:= .i64) hlt
  have htake:ps.take (i + 1)=ps.take i++[ps[i]]:=List.take_succ_eq_append_getElem hlt
  have e8:z1t ((ps.take i).map (·.name))++z1t [ps[i].name]=z1t ((ps.take (i + 1)).map (·.name)):=by rw[htake,z1t,z1t,z1t,List.map_append,List.map_append];rfl
  generalize ps[i]=f at *
  simp only[go_sem,k6u,q3,q6,q7,q8,hB,f1,hix]
  rw[show [AV.str f.name]=z1t [f.name] from rfl,z0j hB rfl ht z1u z1u (by simp only[z1t,List.length_map,List.length_singleton,List.length_take];omega)]
  simp only[go_sem,q3,q6,q7,q8,f2,e8]
  exact hnx (ps.length - (i + 1)) _ (by omega) ⟨i + 1,_,_,_,_,hlt,rfl,rfl,q6,q7,rfl,rfl, .inr (.inr ⟨_,rfl,rfl⟩)⟩
 ·have f1:decide ((i:Int) < (ps.length:Int))=false:=by rw[decide_eq_false_iff_not];omega
  have hti:ps.take i=ps:=List.take_of_length_le (by omega)
  rw[hti] at q3
  simp only[go_sem,k6u,q3,q6,q7,q8,f1]
  refine he _ _ ?_
  simp only[go_sem,q3]
  rw[z2x rfl (by simp[AV.cv,AV.ids,z2d])]
  exact hT _
structure TfOk (x:Tf):Prop where
 un:x.un.length≤2 ^ 18
 und:x.und.length≤2 ^ 18
 drops:idsL x.drops=[]
theorem z6y {x:Tf} (hx:TfOk x):(eTf x).ids=[]:=by simp[eTf,AV.ids,idsL,z2d,hx.drops]
theorem x5c {esz b:Nat} {xs:List AV} {t:Tip} (h1:z0t esz xs=true) (h3:idsL xs=[]) (h2:xs.length * (b + 1)≤2 ^ 46):z4y esz b (cvL [.sl xs t])=some (.sl xs .no):=by
 simp only[cvL,AV.cv,z4y]
 rw[if_pos ⟨h1,by rw[h3];rfl,h2⟩]
theorem w9y {xs:List Nat} {t:Tip} (hl:xs.length≤2 ^ 20):Pure Gam 92 [.sl (xs.map nat) t] (.sl (xs.map nat) .no):=Pure.ext (sem:=z4y 1 8) rfl rfl (x5c z3y q5e (by rw[List.length_map];omega))
theorem v1i {xs:List Var} {t:Tip} (hl:xs.length≤2 ^ 20):Pure Gam 93 [.sl (xs.map z1b) t] (.sl (xs.map z1b) .no):=Pure.ext (sem:=z4y 2 24) rfl rfl (x5c z2e (z0c z2b) (by rw[List.length_map];omega))
theorem k2l {xs:Term} {t:Tip} (hl:xs.length≤2 ^ 20):Pure Gam 94 [.sl (xs.map eNode) t] (.sl (xs.map eNode) .no):=Pure.ext (sem:=z4y 5 56) rfl rfl (x5c z6l (z0c z1y) (by rw[List.length_map];omega))
theorem v8l {l:List Term} {u:Tip} (hl:l.length≤2 ^ 20) (hts:∀ t∈l,t.length≤2 ^ 20):Pure Gam 150 [.sl (l.map z0l) u] (.sl (l.map z0l) .no):=by
 refine Pure.of rfl y7z rfl rfl rfl (az:=[.sl (l.map z0l) .no]) rfl (by simp[idsL,AV.ids,z0c z2q]) fun D B clk T hB hT=> ?_
 simp only[go_sem,w8y,List.length_map]
 refine z0y (fun m q=>∃ (i:Nat) (t:Tip) (a o:AObj),i≤l.length∧m=l.length - i∧q.ts 3= .sl ((l.take i).map z0l) t∧q.ts 6= .sl (l.map z0l) .no∧q.ts 7= .int .i64 (l.length:Int)∧q.ts 8= .int .i64 (i:Int)∧q.h=D++[a,o]∧z8k B 1 o t 1) l.length ⟨0, .nil,_,_,by omega,rfl,rfl,rfl,rfl,rfl,rfl, .inl rfl⟩ ?_
 rintro m ⟨ts,h,clk⟩ P ⟨i,t,a,o,hi,rfl,q3,q6,q7,q8,rfl,ht⟩ hnx he hr
 dsimp only at q3 q6 q7 q8
 by_cases hlt:i < l.length
 ·have f1:decide ((i:Int) < (l.length:Int))=true:=by rw[decide_eq_true_iff];omega
  have f2:IntKind.i64.wrap ((i:Int) + 1)=((i + 1:Nat):Int):=z0d (by omega) (by omega)
  have hix:∀ h,z1m h 1 (.sl (l.map z0l) .no) (.int .i64 (i:Int))=some (.iptr [.sl (l[i].map eNode) .no] 0,h):=fun h=>q4u hlt
  have e8:(l.take i).map z0l++[l[i]].map z0l=(l.take (i + 1)).map z0l:=by rw[List.take_succ_eq_append_getElem hlt,List.map_append]
  have hpx:=hts _ (List.getElem_mem hlt)
  generalize l[i]=x at *
  simp only[go_sem,j3s,q3,q6,q7,q8,hB,f1,hix,z0a (k2l hpx)]
  rw[show [AV.sl (x.map eNode) .no]=[x].map z0l from rfl,z0j hB rfl ht z3s z3s (by simp only[List.length_map,List.length_singleton,List.length_take];omega),e8]
  simp only[go_sem,q3,q6,q7,q8,f2]
  exact hnx (l.length - (i + 1)) _ (by omega) ⟨i + 1,_,_,_,hlt,rfl,rfl,q6,q7,rfl,rfl, .inr (.inr ⟨_,rfl,rfl⟩)⟩
 ·have f1:decide ((i:Int) < (l.length:Int))=false:=by rw[decide_eq_false_iff_not];omega
  have hti:l.take i=l:=List.take_of_length_le (by omega)
  rw[hti] at q3
  simp only[go_sem,j3s,q3,q6,q7,q8,f1]
  refine he _ _ ?_
  simp only[go_sem,q3]
  rw[z2x rfl (by simp[AV.cv,AV.ids,z0c z2q])]
  exact hT _
theorem v1j {a:App} (hl:a.args.length≤2 ^ 20) (hts:∀ t∈a.args,t.length≤2 ^ 20):Pure Gam 95 [z3x a] (z3x a):=by
 have hp:=v8l (u:= .no) hl hts
 refine Pure.of rfl u5v rfl rfl rfl (az:=[z3x a]) rfl (by simp[idsL,z4w]) fun D B clk T hB hT=> ?_
 simp only[go_sem,u2g,hB,z3x,z1i,z0a hp,z0n,z0m,z0g]
 refine⟨by simp[z1f,apart,z0i,z1d,z1h,AOp.isCall,hB], ?_⟩
 rw[z2x rfl (by simp[AV.cv,cvL,AV.ids,idsL,z0c z2q])]
 exact hT _
theorem y0a {ps:List Func} {u:Tip} (hl:ps.length≤1000) (hpa:∀ f∈ps,f.args.length≤2 ^ 20):Pure Gam 38 [.sl (ps.map z0q) u] (.sl (ps.map z0q) .no):=by
 refine Pure.of rfl u5t rfl rfl rfl (az:=[.sl (ps.map z0q) .no]) rfl (by simp[idsL,AV.ids,z0c z2j]) fun D B clk T hB hT=> ?_
 simp only[go_sem,u2e,List.length_map]
 refine z0y (fun m q=>∃ (i:Nat) (t:Tip) (a b o:AObj),i≤ps.length∧m=ps.length - i∧q.ts 3= .sl ((ps.take i).map z0q) t∧q.ts 6= .sl (ps.map z0q) .no∧q.ts 7= .int .i64 (ps.length:Int)∧q.ts 8= .int .i64 (i:Int)∧q.h=D++[a,b,o]∧z8k B 2 o t 3) ps.length ⟨0, .nil,_,_,_,by omega,rfl,rfl,rfl,rfl,rfl,rfl, .inl rfl⟩ ?_
 rintro m ⟨ts,h,clk⟩ P ⟨i,t,a,b,o,hi,rfl,q3,q6,q7,q8,rfl,ht⟩ hnx he hr
 dsimp only at q3 q6 q7 q8
 by_cases hlt:i < ps.length
 ·have f1:decide ((i:Int) < (ps.length:Int))=true:=by rw[decide_eq_true_iff];omega
  have f2:IntKind.i64.wrap ((i:Int) + 1)=((i + 1:Nat):Int):=z0d (by omega) (by omega)
  have hix:=fun h=>z6g (l:=ps) (i:=i) (h:=h) (t:= .no) (k:= .i64) hlt
  have e8:(ps.take i).map z0q++[ps[i]].map z0q=(ps.take (i + 1)).map z0q:=by rw[List.take_succ_eq_append_getElem hlt,List.map_append]
  have hpf:=hpa _ (List.getElem_mem hlt)
  generalize ps[i]=f at *
  simp only[go_sem,k6v,q3,q6,q7,q8,hB,f1,hix,z0a (w9y hpf)]
  rw[show [AV.agg [.str f.name, .sl (f.args.map nat) .no, .int .i64 (f.result:Int)]]=[f].map z0q from rfl,z0j hB rfl ht z4o z4o (by simp only[List.length_map,List.length_singleton,List.length_take];omega),e8]
  simp only[go_sem,q3,q6,q7,q8,f2]
  exact hnx (ps.length - (i + 1)) _ (by omega) ⟨i + 1,_,_,_,_,hlt,rfl,rfl,q6,q7,rfl,rfl, .inr (.inr ⟨_,rfl,rfl⟩)⟩
 ·have f1:decide ((i:Int) < (ps.length:Int))=false:=by rw[decide_eq_false_iff_not];omega
  have hti:ps.take i=ps:=List.take_of_length_le (by omega)
  rw[hti] at q3
  simp only[go_sem,k6v,q3,q6,q7,q8,f1]
  refine he _ _ ?_
  simp only[go_sem,q3]
  rw[z2x rfl (by simp[AV.cv,AV.ids,z0c z2j])]
  exact hT _
structure SmallC (c:Clause):Prop where
 body:c.body.length≤2 ^ 20
 bargs:∀ a∈c.body,a.args.length≤2 ^ 20∧∀ t∈a.args,t.length≤2 ^ 20
 hargs:c.head.args.length≤2 ^ 20∧∀ t∈c.head.args,t.length≤2 ^ 20
 vars:c.vars.length≤2 ^ 20
 guard:c.guard.length≤2 ^ 20
end Go.Proofs.YtahdahokpjigiaaGreatDoor.Am
