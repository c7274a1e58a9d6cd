/- Walking: the names of a term Walking: the names of a term Walking: sorts, variables and functions of a term Walking: terms in a scope Walking: atoms of a clause are checked Walking: variables of a cla -/
import Derived.Test.YtkollgjffkdliaaGreatDoorM28
open Bool renaming not_false → j5,not_true → z7
open Int renaming cast_ofNat_Int → z9,reduceEq → z8,reduceLT → d9
open List renaming append_assoc → n0,append_eq_nil_iff → z02,append_nil → u5,cons_append → d4,getElem?_eq_some_iff → k7,getElem_mem → j9,length_map → z6,length_nil → d5,length_singleton → w0,length_take → b6,map_append → v5,map_cons → k8,map_nil → w7,mem_append → j6,mem_cons → y3,mem_cons_of_mem → u0,mem_cons_self → v9,mem_map → y8,mem_of_getElem? → s9,mem_of_mem_take → m9,take_of_length_le → b7,take_sublist → s6,take_succ_eq_append_getElem → w8
open Option renaming map_some → k6
set_option linter.all false
namespace Go.Proofs.YtkollgjffkdliaaGreatDoor.Am
open Go
set_option maxRecDepth 100000
section
variable {U:List Var} [UOk U]
theorem WF.nodes {V:List Var} {ss:List Nat} {d:Nat} {t:Term} (h:WF V ss d t):∀ n∈t,∃ ss' s' ks,NodeOk V n ss' s' ks:=by
 induction h with
 | nil=>simp
 | cons h1 h2 h3 h4 ih1 ih2=>
   intro n hn
   rw[y3,j6] at hn
   rcases hn with rfl | hn | hn
   ·exact⟨_,_,_,h2⟩
   ·exact ih1 n hn
   ·exact ih2 n hn
theorem NodeOk.name {V:List Var} {n:Node} {ss:List Nat} {s:Nat} {ks:Term} (hn:NodeOk V n ss s ks):n.op≠5∧(n.op=4→∃ v∈V,n.name=v.name∧n.sort=v.sort):=by
 cases hn with
 | var h=>exact⟨by simp,fun _=>⟨_,h,rfl,rfl⟩⟩
 | bool h=>exact⟨by simp[bare];omega,fun e=>by simp[bare] at e;omega⟩
 | andor h=>exact⟨by simp[bare];omega,fun e=>by simp[bare] at e;omega⟩
 | cmp h hs=>exact⟨by simp[bare];omega,fun e=>by simp[bare] at e;omega⟩
 | div h _ _=>exact⟨by simp;omega,fun e=>by simp at e;omega⟩
 | _=>exact⟨by simp[bare],fun e=>by simp[bare] at e⟩
def q4t (V:List Var) (t:Term):Prop:=∀ n∈t,n.op≠5∧(n.op=4→∃ v∈V,n.name=v.name∧n.sort=v.sort)
theorem WF.names {V:List Var} {ss:List Nat} {d:Nat} {t:Term} (h:WF V ss d t):q4t V t:=fun n hn=>by
 obtain⟨_,_,_,h⟩:=h.nodes n hn
 exact h.name
def z3b:Term→List Var→List Var
 | [],acc=>acc
 | n::t,acc=>if n.op=4∧(⟨n.name,n.sort⟩:Var)∉acc then z3b t (acc++[⟨n.name,n.sort⟩]) else z3b t acc
theorem q0o {V:List Var}:∀ {t:Term} {acc:List Var},q4t V t→(∀ v∈acc,v∈V)→∀ v∈z3b t acc,v∈V
 | [],acc,_,ha,v,hv=>ha v hv
 | n::t,acc,hn,ha,v,hv=>by
   have ht:q4t V t:=fun m hm=>hn m (u0 _ hm)
   simp only[z3b] at hv
   split at hv
   ·rename_i hc
    refine q0o ht (fun w hw=> ?_) v hv
    rw[j6,List.mem_singleton] at hw
    rcases hw with hw | rfl
    ·exact ha w hw
    ·obtain⟨v',hv',e1,e2⟩:=(hn n v9).2 hc.1
     rw[e1,e2]
     exact hv'
   ·exact q0o ht ha v hv
theorem x6t {t u:Term} {acc:List Var}:z3b (t++u) acc=z3b u (z3b t acc):=by
 induction t generalizing acc with
 | nil=>rfl
 | cons n t ih=>
   simp only[d4,z3b]
   split
   ·exact ih
   ·exact ih
theorem q0p:∀ {t:Term} {acc:List Var},(z3b t acc).length≤acc.length + t.length
 | [],acc=>Nat.le_refl _
 | n::t,acc=>by
   simp only[z3b,List.length_cons]
   split
   ·have:=q0p (t:=t) (acc:=acc++[⟨n.name,n.sort⟩])
    simp at this
    omega
   ·have:=q0p (t:=t) (acc:=acc)
    omega
theorem q6e {v w:Var} (hv:v∈U) (hw:w∈U) (h:v.name=w.name):v=w:=UOk.inj v hv w hw h
def q2n (acc:List Var):List (AV×AV):=acc.map fun v=>(.str v.name,z1k v)
theorem q8e {v:Var} (hv:v∈U):∀ {acc:List Var},(∀ w∈acc,w∈U)→findKey (.one .str) (.str v.name) (q2n acc)=some (if v∈acc then some (z1k v) else none)
 | [],_=>rfl
 | w::acc,ha=>by
   have ih:=q8e hv (acc:=acc) fun x hx=>ha x (u0 _ hx)
   unfold q2n at ih⊢
   simp only[k8,findKey,AV.eqv,AV.eq1]
   by_cases h:v=w
   ·subst h
    simp
   ·have hne:decide (v.name=w.name)=false:=decide_eq_false fun e=>h (q6e hv (ha w v9) e)
    simp only[hne,ih,y3,h,false_or]
theorem x1q {v:Var} (hv:v∈U):∀ {acc:List Var},(∀ w∈acc,w∈U)→v∉acc→z6a (.one .str) (.str v.name) (z1k v) (q2n acc)=some (q2n (acc++[v]))
 | [],_,_=>rfl
 | w::acc,ha,hn=>by
   rw[y3,not_or] at hn
   have ih:=x1q hv (acc:=acc) (fun x hx=>ha x (u0 _ hx)) hn.2
   have hne:decide (v.name=w.name)=false:=decide_eq_false fun e=>hn.1 (q6e hv (ha w v9) e)
   unfold q2n at ih⊢
   simp only[k8,d4,z6a,AV.eqv,AV.eq1,hne,ih,k6]
theorem q3r {h:List AObj} {z:AV} {es:List (AV×AV)} {s:List Nat} {r:Option AV} (hf:findKey (.one .str) (.str s) es=some r):lkV h (.one .str) z true (some es) (.str s)=some (q8j true z r,h):=by
 have:((AV.str s).eqv (.one .str) (.str s)).isSome=true:=by simp[AV.eqv,AV.eq1]
 simp only[lkV,this,if_true,hf,k6]
theorem w4v {h:List AObj} {z:AV} {es:List (AV×AV)} {s:List Nat} {r:Option AV} (hf:findKey (.one .str) (.str s) es=some r):lkV h (.one .str) z false (some es) (.str s)=some (q8j false z r,h):=by
 have:((AV.str s).eqv (.one .str) (.str s)).isSome=true:=by simp[AV.eqv,AV.eq1]
 simp only[lkV,this,if_true,hf,k6]
theorem q0q {z v:AV}:q8j true z (some v)= .tup [v, .bool true]:=(rfl)
theorem z6y {z:AV}:q8j true z none= .tup [z, .bool false]:=(rfl)
theorem j3a {z v:AV}:q8j false z (some v)=v:=(rfl)
theorem q1k {z:AV}:q8j false z none=z:=(rfl)
theorem z6o {h:List AObj} {s g:Nat}:x8b h (.mp s g)=z5k h s g:=(rfl)
theorem x4l {D L:List AObj} {B k g:Nat} {es es':List (AV×AV)} {s:List Nat} {v:AV} (hB:D.length=B) (hm:z5k L k g=some es) (ho:v.obs=[]) (hp:z6a (.one .str) (.str s) v.cv es=some es'):muV (D++L) (.one .str) (.str s) v (.mp (B + k) g)=some (.undef,D++L.set k (.map g es')):=by
 have hpub:pub (D++L) v=some (v.cv,D++L):=by simp only[pub,q4j ho,k6,ho,freezeAll]
 have:((AV.str s).eqv (.one .str) (.str s)).isSome=true:=by simp[AV.eqv,AV.eq1]
 simp only[muV,x5z hB,hm,hpub,this,if_true,hp,k6,z2a hB]
end
section
variable {U:List Var} [UOk U]
def q7c (gV:Nat) (t:Term) (sP gP:Nat):AObj:= .blk gV [.agg [z0k t, .ob sP gP 0 t.length]] false false 0
def j6h (gP:Nat) (P:List Pt):AObj:= .blk gP (P.map ePt) true false 0
def x2t (s sP gV gP:Nat) (t:Term) (P:List Pt):List (Nat×AObj):=[(s,q7c gV t sP gP),(sP,j6h gP P)]
theorem j6i {s sP gV gP:Nat} {t:Term} {P:List Pt}:Cov (x2t s sP gV gP t P) [s]:=by
 refine Cov.two ?_ ?_
 ·simp[q7c,AObj.ids,idsL,AV.ids,z2c]
 ·simp[j6h,AObj.ids,z0c (f:=ePt) fun _=>rfl]
theorem j6j {s sP gV gP:Nat} {t:Term} {P:List Pt} {p:Pt} (hl:t.length≤20000) (hP:P[0]? =some p) (hd:p.depth≤257) (hPl:P.length=t.length):Reads (x2t s sP gV gP t P) 194 [.ptr s gV 0 0] (.bool false):=by
 refine Reads.of rfl u6x rfl rfl rfl rfl j6i fun D B clk T hB hS hlt hT=> ?_
 have h1:=hlt (s,q7c gV t sP gP) (by simp[x2t])
 have h2:=hlt (sP,j6h gP P) (by simp[x2t])
 have b1:=z2g (g:=gV) (hS (s,q7c gV t sP gP) (by simp[x2t]))
 have b2:=z2g (g:=gP) (hS (sP,j6h gP P) (by simp[x2t]))
 dsimp only at h1 h2 b1 b2
 have hpos:0 < t.length:=by
  rw[←hPl]
  rw[k7] at hP
  exact hP.1
 have hg:(P.map ePt)[0]? =some (.agg [.int .i64 (p.sort:Int), .int .i64 (p.depth:Int), .int .i64 (p.fin:Int)]):=x6s hP
 have hix:∀ L,z1m (D++L) 3 (.ob sP gP 0 t.length) (.int .i64 0)=some (.ptr sP gP 0 0,D++L):=fun L=>by
  have:z1u (D++L) sP gP=some (P.map ePt,true,false,0):=by rw[z2x hB h2,b2]
  simp only[z1m,Int.le_refl,if_true,this,Int.toNat_zero,Nat.add_zero,hg]
  rw[if_pos ⟨hpos,rfl⟩]
 have e1:decide ((20000:Int) < (t.length:Int))=false:=by rw[z03];omega
 have e2:decide ((257:Int) < (p.depth:Int))=false:=by rw[z03];omega
 simp only[go_sem,y6m,z2x hB h1,b1,z2x hB h2,b2,z0k,z6,e1,hix,hg,e2]
 rw[z0d]
 exact hT _ hS.app
theorem q8v {s sP gV gP:Nat} {t:Term} {P:List Pt} {V:List Var} (hl:t.length≤20000) (hn:q4t V t) (hV:∀ v∈V,v∈U):Reads (x2t s sP gV gP t P) 193 [.ptr s gV 0 0] (.tup [.sl ((z3b t []).map z1k) .no, .sl [] .no, .bool true]):=by
 refine Reads.of rfl u6v rfl rfl rfl rfl j6i fun D B clk T hB hS hlt hT=> ?_
 have h1:=hlt (s,q7c gV t sP gP) (by simp[x2t])
 have b1:=z2g (g:=gV) (hS (s,q7c gV t sP gP) (by simp[x2t]))
 dsimp only at h1 b1
 simp only[go_sem,y6k,hB,z2x hB h1,b1,z0k,z6]
 refine z1t (fun m q=>∃ (i:Nat) (u:Tip) (g0 g1:Nat) (o2 o3 o4 o5 o6 o7 o8 o9 o10 o11:AObj),i≤t.length∧m=t.length - i∧q.ts 5= .mp (B + 0) g0∧q.ts 6= .mp (B + 1) g1∧q.ts 7= .sl ((z3b (t.take i) []).map z1k) u∧q.ts 8= .sl [] .nil∧q.ts 25= .sl (t.map eNode) .no∧q.ts 26= .int .i64 (t.length:Int)∧q.ts 27= .int .i64 (i:Int)∧q.h=D++[.map g0 (q2n (z3b (t.take i) [])), .map g1 [],o2,o3,o4,o5,o6,o7,o8,o9,o10,o11]∧z8x B 5 o5 u 2) t.length ⟨0, .nil,_,_,_,_,_,_,_,_,_,_,_,_,by omega,rfl,rfl,rfl,rfl,rfl,rfl,rfl,rfl,rfl, .inl rfl⟩ ?_
 rintro m ⟨ts,h,clk⟩ Pq ⟨i,u,g0,g1,o2,o3,o4,o5,o6,o7,o8,o9,o10,o11,hi,rfl,q5,q6,q7,q8,q25,q26,q27,rfl,hu⟩ hnx he hr
 dsimp only at q5 q6 q7 q8 q25 q26 q27
 have hacc:∀ v∈z3b (t.take i) [],v∈V:=q0o (fun n hn'=>hn n (m9 hn')) (by simp)
 by_cases hlt':i < t.length
 ·have e1:decide ((i:Int) < (t.length:Int))=true:=by rw[z04];omega
  have e2:IntKind.i64.wrap ((i:Int) + 1)=((i + 1:Nat):Int):=z0e (by omega) (by omega)
  have hti:t[i]? =some t[i]:=by simp[hlt']
  obtain⟨hn5,hn4⟩:=hn _ (j9 hlt')
  have htake:t.take (i + 1)=t.take i++[t[i]]:=w8 hlt'
  generalize t[i]=n at hti hn5 hn4 htake
  have hvo:z3b (t.take (i + 1)) []=if n.op=4∧(⟨n.name,n.sort⟩:Var)∉z3b (t.take i) [] then z3b (t.take i) []++[⟨n.name,n.sort⟩] else z3b (t.take i) []:=by
   rw[htake,x6t]
   simp only[z3b]
  by_cases h4:n.op=4
  ·obtain⟨v,hv,e3,e4⟩:=hn4 h4
   have hfk:=q8e (hV v hv) (acc:=z3b (t.take i) []) fun w hw=>hV w (hacc w hw)
   have hf0:findKey (.one .str) (.str v.name) []=some none:=rfl
   have f4:decide ((n.op:Int)=4)=true:=by rw[z04];omega
   have hve:(⟨n.name,n.sort⟩:Var)=v:=by rw[e3,e4]
   rw[hve] at hvo
   by_cases hin:v∈z3b (t.take i) []
   ·rw[if_pos hin] at hfk
    rw[if_neg (fun hc=>hc.2 hin)] at hvo
    simp only[go_sem,x4e,q5,q6,q7,q8,q25,q26,q27,hB,e1,z2z hti,f4,e3,e4,z6o,q3r hfk,q3r hf0,q0q,z6y,z1k,nat,z7,decide_true,e2]
    rw[←hvo] at q7⊢
    exact hnx (t.length - (i + 1)) _ (by omega) ⟨i + 1,u,g0,g1,_,_,_,_,_,_,_,_,_,_,hlt',rfl,q5,q6,q7,q8,q25,q26,rfl,rfl,hu⟩
   ·rw[if_neg hin] at hfk
    rw[if_pos ⟨h4,hin⟩] at hvo
    have hput:=x1q (hV v hv) (acc:=z3b (t.take i) []) (fun w hw=>hV w (hacc w hw)) hin
    have hmu:∀ L:List AObj,z5k L 0 g0=some (q2n (z3b (t.take i) []))→muV (D++L) (.one .str) (.str v.name) (.agg [.str v.name, .int .i64 (v.sort:Int)]) (.mp (B + 0) g0)=some (.undef,D++L.set 0 (.map g0 (q2n (z3b (t.take i) []++[v])))):=fun L hL=>x4l (v:=z1k v) hB hL rfl hput
    have hlen:(z3b (t.take i) []).length≤20000:=by
     have:=q0p (t:=t.take i) (acc:=[])
     rw[b6] at this
     simp only[d5] at this
     omega
    simp only[go_sem,x4e,q5,q6,q7,q8,q25,q26,q27,hB,e1,z2z hti,f4,e3,e4,z6o,q3r hfk,z6y,j5,hmu]
    have e8:(z3b (t.take i) []).map z1k++[AV.agg [AV.str v.name,AV.int .i64 (v.sort:Int)]]=(z3b (t.take (i + 1)) []).map z1k:=by rw[hvo,v5];rfl
    rw[show [AV.agg [AV.str v.name,AV.int .i64 (v.sort:Int)]]=[v].map z1k from rfl,z0q hB rfl hu z3w z3w (by simp only[z6,w0];omega)]
    simp only[go_sem,q5,q6,q7,q8,q25,q26,q27,hB,z6o,q3r hf0,z6y,decide_true,z7,e2,z1k,nat,e8,←hvo]
    exact hnx (t.length - (i + 1)) _ (by omega) ⟨i + 1,_,g0,g1,_,_,_,_,_,_,_,_,_,_,hlt',rfl,q5,q6,rfl,q8,q25,q26,rfl,rfl, .inr (.inr ⟨_,rfl,rfl⟩)⟩
  ·rw[if_neg (fun hc=>h4 hc.1)] at hvo
   have f4:decide ((n.op:Int)=4)=false:=by rw[z03];omega
   have f5:decide ((n.op:Int)=5)=false:=by rw[z03];omega
   simp only[go_sem,x4e,q5,q6,q7,q8,q25,q26,q27,hB,e1,z2z hti,f4,f5,e2]
   rw[←hvo] at q7⊢
   exact hnx (t.length - (i + 1)) _ (by omega) ⟨i + 1,u,g0,g1,_,_,_,_,_,_,_,_,_,_,hlt',rfl,q5,q6,q7,q8,q25,q26,rfl,rfl,hu⟩
 ·have e1:decide ((i:Int) < (t.length:Int))=false:=by rw[z03];omega
  have hti:t.take i=t:=b7 (by omega)
  rw[hti] at q7
  simp only[go_sem,x4e,q5,q6,q7,q8,q25,q26,q27,hB,e1]
  refine he _ _ ?_
  simp only[go_sem,q7,q8]
  rw[z0h rfl (by simp[z1j,AV.cv,cvL,AV.ids,idsL,z0c (f:=z1k) fun _=>rfl])]
  exact hT _ hS.app
end
section
variable {U:List Var} [UOk U]
theorem q8w {D:List AObj} {B:Nat} {t:Term} {gP gV g2:Nat} {P:List Pt} {o3 o4 o5 o6 o7 o8 o9:AObj} (hB:D.length=B):Has (x2t (B + 1) (B + 0) gV gP t P) (z8c D B t gP gV g2 P o3 o4 o5 o6 o7 o8 o9):=by
 refine Has.cons ?_ (Has.cons ?_ Has.nil)
 ·simp only[z8c,z2u hB];rfl
 ·simp only[z8c,z2u hB];rfl
theorem WF.pos {V:List Var} {s d:Nat} {t:Term} (h:WF V [s] d t):0 < t.length:=by
 cases h with
 | cons=>simp
theorem v0x {V:List Var} {s d:Nat} {t:Term} {u:Tip} {h:List AObj} {clk:Nat} {Q:AV→List AObj→Nat→Prop} (ht:WF V [s] d t) (hV:∀ v∈V,v∈U) (hl:t.length≤20000) (hd:d≤257)
  (hQ:∀ gP gV g2 P dep o3 o4 o5 o6 o7 o8 o9 c,P.length=t.length→P[0]? =some ⟨s,dep,t.length⟩→dep≤d→Q (.tup [.ptr (h.length + 1) gV 0 0, .bool true]) (z8c h h.length t gP gV g2 P o3 o4 o5 o6 o7 o8 o9) c):WC Gam 226 [.sl (t.map eNode) u] h clk Q:=by
 refine x1p rfl u6u rfl rfl rfl (az:=[.sl (t.map eNode) .no]) rfl (by simp[idsL,AV.ids,z0c z1v]) fun D B R hB hBh hR=> ?_
 have hpos:=ht.pos
 have e1:decide ((t.length:Int)=0)=false:=by rw[z03];omega
 have e2:decide ((20000:Int) < (t.length:Int))=false:=by rw[z03];omega
 simp only[go_sem,y6j,hB,z6,e1,e2,u5]
 refine z4i (y7t ht hV hl (by omega) fun gP gV g2 P dep o3 o4 o5 o6 o7 o8 o9 c hPl hp hdep=> ?_)
 rw[hB]
 have r1:=j6j (s:=B + 1) (sP:=B + 0) (gV:=gV) (gP:=gP) hl hp (by dsimp only;omega) hPl
 have r2:=q8v (s:=B + 1) (sP:=B + 0) (gV:=gV) (gP:=gP) (P:=P) hl ht.names hV
 have hh:=q8w (t:=t) (gP:=gP) (gV:=gV) (g2:=g2) (P:=P) (o3:=o3) (o4:=o4) (o5:=o5) (o6:=o6) (o7:=o7) (o8:=o8) (o9:=o9) hB
 simp only[go_sem,z7,z1g r1 hh,z1g r2 hh]
 rw[q6d rfl]
 have:=fun gP gV g2 c=>hQ gP gV g2 P dep o3 o4 o5 o6 o7 o8 o9 c hPl hp hdep
 simp only[←hBh] at this
 exact hR _ _ ⟨B + 1,by simp[z1j,AV.cv,cvL,AV.ids,idsL],by omega⟩ fun c=>this _ _ _ c
theorem x6u {V:List Var} {s d:Nat} {t:Term} {u:Tip} (ht:WF V [s] d t) (hV:∀ v∈V,v∈U) (hl:t.length≤20000) (hd:d≤257):Pure Gam 157 [.sl (t.map eNode) u] (nat s):=by
 refine Pure.of rfl u6r rfl rfl rfl (az:=[.sl (t.map eNode) .no]) rfl (by simp[idsL,AV.ids,z0c z1v]) fun D B clk T hB hT=> ?_
 simp only[go_sem,y6g,u5]
 refine z4i (v0x ht hV hl hd fun gP gV g2 P dep o3 o4 o5 o6 o7 o8 o9 c hPl hp hdep=> ?_)
 rw[hB]
 have hix:∀ L,z1m (D++ .blk gP (P.map ePt) true false 0::L) 3 (.ob (B + 0) gP 0 t.length) (.int .i64 0)=some (.ptr (B + 0) gP 0 0,D++ .blk gP (P.map ePt) true false 0::L):=fun L=>q8u (i:=0) hB hp hPl
 simp only[go_sem,z7,z8c,hB,hix,x6s hp]
 rw[z2o]
 exact hT _
theorem j3b {V:List Var} {s d:Nat} {t:Term} {u:Tip} (ht:WF V [s] d t) (hV:∀ v∈V,v∈U) (hl:t.length≤20000) (hd:d≤257):Pure Gam 158 [.sl (t.map eNode) u] (.sl [] .no):=by
 refine Pure.of rfl u6s rfl rfl rfl (az:=[.sl (t.map eNode) .no]) rfl (by simp[idsL,AV.ids,z0c z1v]) fun D B clk T hB hT=> ?_
 simp only[go_sem,y6h,u5]
 refine z4i (v0x ht hV hl hd fun gP gV g2 P dep o3 o4 o5 o6 o7 o8 o9 c hPl hp hdep=> ?_)
 rw[hB]
 have r2:=q8v (s:=B + 1) (sP:=B + 0) (gV:=gV) (gP:=gP) (P:=P) hl ht.names hV
 have hh:=q8w (t:=t) (gP:=gP) (gV:=gV) (g2:=g2) (P:=P) (o3:=o3) (o4:=o4) (o5:=o5) (o6:=o6) (o7:=o7) (o8:=o8) (o9:=o9) hB
 simp only[go_sem,z7,z1g r2 hh]
 rw[z0h rfl rfl]
 exact hT _
theorem k5c {V:List Var} {s d:Nat} {t:Term} {u:Tip} (ht:WF V [s] d t) (hV:∀ v∈V,v∈U) (hl:t.length≤20000) (hd:d≤257):Pure Gam 160 [.sl (t.map eNode) u] (.sl ((z3b t []).map z1k) .no):=by
 refine Pure.of rfl u6t rfl rfl rfl (az:=[.sl (t.map eNode) .no]) rfl (by simp[idsL,AV.ids,z0c z1v]) fun D B clk T hB hT=> ?_
 simp only[go_sem,y6i,u5]
 refine z4i (v0x ht hV hl hd fun gP gV g2 P dep o3 o4 o5 o6 o7 o8 o9 c hPl hp hdep=> ?_)
 rw[hB]
 have r2:=q8v (s:=B + 1) (sP:=B + 0) (gV:=gV) (gP:=gP) (P:=P) hl ht.names hV
 have hh:=q8w (t:=t) (gP:=gP) (gV:=gV) (g2:=g2) (P:=P) (o3:=o3) (o4:=o4) (o5:=o5) (o6:=o6) (o7:=o7) (o8:=o8) (o9:=o9) hB
 simp only[go_sem,z7,z1g r2 hh]
 rw[z2n rfl (by simp[AV.cv,AV.ids,z0c (f:=z1k) fun _=>rfl])]
 exact hT _
end
section
variable {U:List Var} [UOk U]
theorem j0k {D:List AObj} {s g:Nat} {es:List (AV×AV)} (h:D[s]? =some (.map g es)):z5k D s g=some es:=by simp[z5k,h]
theorem q4u {D L:List AObj} {B s g:Nat} (hB:D.length=B) (h:s < B):z5k (D++L) s g=z5k D s g:=by
 unfold z5k
 rw[z0w hB h]
def z1q (V:List Var):List (AV×AV):=V.map fun v=>(z1k v, .bool true)
theorem x6v {v w:Var}:(z1k v).eqv (.agg [.str, .int]) (z1k w)=some (decide (v=w)):=by
 have:(decide (v.name=w.name) && (decide ((v.sort:Int)=(w.sort:Int)) && true))=decide (v=w):=by
  rw[Bool.and_true,Bool.eq_iff_iff]
  simp only[Bool.and_eq_true,z04]
  constructor
  ·rintro ⟨h1,h2⟩
   cases v;cases w
   simp only[Var.mk.injEq] at h1 h2⊢
   exact⟨h1,by omega⟩
  ·rintro rfl
   exact⟨rfl,rfl⟩
 rw[←this]
 rfl
theorem x1r {v:Var}:∀ {V:List Var},findKey (.agg [.str, .int]) (z1k v) (z1q V)=some (if v∈V then some (.bool true) else none)
 | []=>rfl
 | w::V=>by
   have ih:=x1r (v:=v) (V:=V)
   unfold z1q at ih⊢
   simp only[k8,findKey,x6v]
   by_cases h:v=w
   ·subst h
    simp
   ·simp only[h,decide_false,ih,y3,false_or]
theorem x4m {v:Var}:∀ {V:List Var},v∉V→z6a (.agg [.str, .int]) (z1k v) (.bool true) (z1q V)=some (z1q (V++[v]))
 | [],_=>rfl
 | w::V,hn=>by
   rw[y3,not_or] at hn
   have ih:=x4m (v:=v) (V:=V) hn.2
   unfold z1q at ih⊢
   simp only[k8,d4,z6a,x6v,hn.1,decide_false,ih,k6]
theorem q2o {g:Nat} {V:List Var}:(AObj.map g (z1q V)).ids=[]:=by
 simp only[AObj.ids,z1q,List.map_map,z02]
 constructor
 ·have:(Prod.fst∘fun v:Var=>(z1k v,AV.bool true))=z1k:=rfl
  rw[this]
  exact z0c fun _=>rfl
 ·exact z0c (f:=Prod.snd∘fun v:Var=>(z1k v,AV.bool true)) fun _=>rfl
theorem v7c {h:List AObj} {z:AV} {v:Var} {V:List Var}:lkV h (.agg [.str, .int]) z false (some (z1q V)) (.agg [.str v.name, .int .i64 (v.sort:Int)])=some (q8j false z (if v∈V then some (.bool true) else none),h):=by
 have h1:((z1k v).eqv (.agg [.str, .int]) (z1k v)).isSome=true:=by rw[x6v];rfl
 have h2:=x1r (v:=v) (V:=V)
 rw[show z1k v= .agg [.str v.name, .int .i64 (v.sort:Int)] from rfl] at h1 h2
 simp only[lkV,h1,if_true,h2,k6]
theorem v0y {s g sX gX:Nat} {v:Var} {V:List Var}:Reads [(s, .blk g [.mp sX gX] false false 0),(sX, .map gX (z1q V))] 256 [z1k v, .ptr s g 0 0] (.bool (!decide (v∈V))):=by
 refine Reads.of rfl u7w rfl rfl rfl (az:=[z1k v, .ptr s g 0 0]) rfl (Cov.two rfl q2o) fun D B clk T hB hS hlt hT=> ?_
 have h1:=hlt (s, .blk g [.mp sX gX] false false 0) (by simp)
 have h2:=hlt (sX, .map gX (z1q V)) (by simp)
 have b1:=z2g (g:=g) (hS (s, .blk g [.mp sX gX] false false 0) (by simp))
 have b2:=j0k (g:=gX) (hS (sX, .map gX (z1q V)) (by simp))
 dsimp only at h1 h2 b1 b2
 by_cases hin:v∈V
 ·simp only[go_sem,w4s,hB,z1k,nat,z2x hB h1,b1,z6o,q4u hB h2,b2,v7c,hin,j3a,z7]
  rw[z0d]
  simp only[hin,decide_true,z7] at hT
  exact hT _ hS.app
 ·simp only[go_sem,w4s,hB,z1k,nat,z2x hB h1,b1,z6o,q4u hB h2,b2,v7c,hin,q1k,j5]
  rw[z0d]
  simp only[hin,decide_false,j5] at hT
  exact hT _ hS.app
theorem Cov.mp1 {s g:Nat} {es:List (AV×AV)} (h:(AObj.map g es).ids=[]):Cov [(s, .map g es)] [s]:=Cov.one h
theorem j6k {sX gX s d:Nat} {V:List Var} {t:Term} {u:Tip} (ht:WF V [s] d t) (hV:∀ v∈V,v∈U) (hl:t.length≤20000) (hd:d≤257):Reads [(sX, .map gX (z1q V))] 204 [.mp sX gX, .sl (t.map eNode) u,nat s] (.bool true):=by
 refine Reads.of rfl u7t rfl rfl rfl (az:=[.mp sX gX, .sl (t.map eNode) .no,nat s]) rfl (by simpa [idsL,AV.ids,z0c z1v,nat] using Cov.mp1 q2o) fun D B clk T hB hS hlt hT=> ?_
 have h2:=hlt (sX, .map gX (z1q V)) (by simp)
 have p1:=x6u (u:= .no) ht hV hl hd
 have p2:=j3b (u:= .no) ht hV hl hd
 have p3:=k5c (u:= .no) ht hV hl hd
 rw[nat] at p1
 have hvl:(z3b t []).length≤2 ^ 20:=by
  have:=q0p (t:=t) (acc:=[])
  simp only[d5] at this
  omega
 have hr:∀ g,Reads [(B + 0, .blk g [.mp sX gX] false false 0),(sX, .map gX (z1q V))] 159 [.sl ((z3b t []).map z1k) .no, .fn 256 [.ptr (B + 0) g 0 0]] (.bool ((z3b t []).any fun v=> !decide (v∈V))):=fun g=>
  j6f (enc:=z1k) (P:=fun v=> !decide (v∈V)) (fun _=>rfl) (fun _ _=>rfl) (fun _=>rfl) hvl (by simpa [idsL,AV.ids] using Cov.two (s:=B + 0) (t:=sX) rfl q2o) fun v _=>v0y
 have e:((z3b t []).any fun v=> !decide (v∈V))=false:=by
  rw[List.any_eq_false]
  intro v hv
  have:=q0o ht.names (acc:=[]) (by simp) v hv
  simp[this]
 rw[e] at hr
 have hh:∀ g,Has [(B + 0, .blk g [.mp sX gX] false false 0),(sX, .map gX (z1q V))] (D++[.blk g [.mp sX gX] false false 0]):=fun g=>by
  refine Has.cons ?_ (Has.cons ?_ Has.nil)
  ·dsimp only;rw[z2u hB];rfl
  ·have:=hS.app (L:=[.blk g [.mp sX gX] false false 0]) (sX, .map gX (z1q V)) (by simp)
   exact this
 simp only[go_sem,y7m,hB,nat,z0a p1,decide_true,z7,z0a p2,d9,decide_false,z0a p3]
 rw[z1g (hr _) (hh _)]
 simp only[go_sem,j5]
 rw[z0d]
 exact hT _ hS.app
end
theorem k5d {s:Nat} (h1:1≤s) (h4:s≤4):Pure Gam 199 [nat s] (.bool true):=by
 refine Pure.of rfl u7x rfl rfl rfl rfl rfl fun D B clk T hB hT=> ?_
 have e1:decide ((1:Int)≤(s:Int))=true:=by rw[z04];omega
 have e2:decide ((s:Int)≤4)=true:=by rw[z04];omega
 simp only[go_sem,y7p,nat,e1,e2]
 rw[z0d]
 exact hT _
def z4f:Nat→List Func→List (AV×AV)
 | _,[]=>[]
 | k,p::ps=>(.str p.name, .int .i64 (k:Int))::z4f (k + 1) ps
theorem j3c {k:Nat} {ps:List Func}:(z4f k ps).length=ps.length:=by
 induction ps generalizing k with
 | nil=>rfl
 | cons p ps ih=>simp[z4f,ih]
theorem v0z {g k:Nat} {ps:List Func}:(AObj.map g (z4f k ps)).ids=[]:=by
 simp only[AObj.ids,z02]
 induction ps generalizing k with
 | nil=>exact⟨rfl,rfl⟩
 | cons p ps ih=>exact⟨by simpa [z4f,idsL,AV.ids] using (ih (k:=k + 1)).1,by simpa [z4f,idsL,AV.ids] using (ih (k:=k + 1)).2⟩
theorem q2p {a:List Nat}:∀ {ps:List Func} {k:Nat},(∀ p∈ps,p.name≠a)→findKey (.one .str) (.str a) (z4f k ps)=some none
 | [],_,_=>rfl
 | p::ps,k,h=>by
   have hne:decide (a=p.name)=false:=decide_eq_false fun e=>h p v9 e.symm
   simp only[z4f,findKey,AV.eqv,AV.eq1,hne]
   exact q2p fun q hq=>h q (u0 _ hq)
theorem q2q:∀ {ps:List Func} {k j:Nat} {f:Func},(ps.map (·.name)).Nodup→ps[j]? =some f→findKey (.one .str) (.str f.name) (z4f k ps)=some (some (.int .i64 ((k + j:Nat):Int)))
 | [],_,_,_,_,h=>by simp at h
 | p::ps,k,0,f,_,h=>by
   simp at h
   subst h
   simp[z4f,findKey,AV.eqv,AV.eq1]
 | p::ps,k,j + 1,f,hn,h=>by
   rw[k8,List.nodup_cons] at hn
   simp only[List.getElem?_cons_succ] at h
   have hne:decide (f.name=p.name)=false:=decide_eq_false fun e=>hn.1 (by rw[←e];exact y8.2 ⟨f,s9 h,rfl⟩)
   simp only[z4f,findKey,AV.eqv,AV.eq1,hne]
   rw[q2q hn.2 h,show k + 1 + j=k + (j + 1) by omega]
theorem x1s {a:List Nat} {n:Nat}:∀ {ps:List Func} {k:Nat} {r:List Nat} {q:Nat},(∀ p∈ps,p.name≠a)→n=k + ps.length→z6a (.one .str) (.str a) (.int .i64 (n:Int)) (z4f k ps)=some (z4f k (ps++[⟨a,r,q⟩]))
 | [],k,r,q,_,hn=>by
   simp at hn
   subst hn
   rfl
 | p::ps,k,r,q,h,hn=>by
   have hne:decide (a=p.name)=false:=decide_eq_false fun e=>h p v9 e.symm
   have ih:=x1s (a:=a) (n:=n) (ps:=ps) (k:=k + 1) (r:=r) (q:=q) (fun q hq=>h q (u0 _ hq)) (by simp at hn;omega)
   simp only[d4,z4f,z6a,AV.eqv,AV.eq1,hne,ih,k6]
def z5h (gC:Nat) (s:Sys) (sP gP:Nat):AObj:= .blk gC [.agg [.sl (s.preds.map z1f) .no, .sl (s.clauses.map z0g) .no, .mp sP gP, .sl [] .nil]] false false 0
def z9n (gP:Nat) (s:Sys):AObj:= .map gP (z4f 0 s.preds)
theorem q7d {gC sP gP:Nat} {s:Sys}:(z5h gC s sP gP).ids=[sP]:=by
 simp[z5h,AObj.ids,idsL,AV.ids,z0c z5g,z0c z5w]
theorem x4n {gP:Nat} {s:Sys}:(z9n gP s).ids=[]:=v0z
structure PrOk (ps:List Func):Prop where
 nodup:(ps.map (·.name)).Nodup
 args:∀ f∈ps,f.args.length≤40∧∀ s∈f.args,1≤s∧s≤4
 name:∀ f∈ps,f.name≠[]
theorem Cov.atom {sC sP sX:Nat} {oC oP oX:AObj} (hC:oC.ids=[sP]) (hP:oP.ids=[]) (hX:oX.ids=[]):Cov [(sC,oC),(sP,oP),(sX,oX)] [sC,sX]:=by
 refine⟨by simp,by simp[hC,hP,hX],fun h hS p hp=> ?_⟩
 have h1:h[sC]? =some oC:=hS (sC,oC) (by simp)
 have hr:reach h (h.length + 1) [] [sC,sX]=reach h h.length [sC] [sP,sX]:=by rw[z9i (by simp) h1,hC];rfl
 rw[hr]
 simp at hp
 rcases hp with rfl | rfl | rfl
 ·exact z4d (.inl v9)
 ·exact z4d (.inr v9)
 ·exact z4d (.inr (u0 _ v9))
theorem j6l {sC gC sP gP sX gX:Nat} {s:Sys} {a:App} {V:List Var} (hp:PrOk s.preds) (ha:AppOk s.preds V a) (hV:∀ v∈V,v∈z1w):Reads [(sC,z5h gC s sP gP),(sP,z9n gP s),(sX, .map gX (z1q V))] 203 [.ptr sC gC 0 0,z2b a, .mp sX gX] (.bool true):=by
 obtain⟨f,hf,hname,hlen,hargs⟩:=ha
 obtain⟨j,hj⟩:=List.getElem?_of_mem hf
 have hjl:j < s.preds.length:=by
  rw[k7] at hj
  exact hj.1
 refine Reads.of rfl u7s rfl rfl rfl (az:=[.ptr sC gC 0 0,z2b a, .mp sX gX]) rfl (by simpa [idsL,AV.ids,z8b] using Cov.atom q7d (x4n (gP:=gP) (s:=s)) q2o) fun D B clk T hB hS hlt hT=> ?_
 have h1:=hlt (sC,z5h gC s sP gP) (by simp)
 have h2:=hlt (sP,z9n gP s) (by simp)
 have b1:=z2g (g:=gC) (hS (sC,z5h gC s sP gP) (by simp))
 have b2:=j0k (g:=gP) (hS (sP,z9n gP s) (by simp))
 dsimp only at h1 h2 b1 b2
 have hfk:=q2q (k:=0) hp.nodup hj
 rw[Nat.zero_add,←hname] at hfk
 have hpl:=hp.args f hf
 have hix:∀ h,z1m h 3 (.sl (s.preds.map z1f) .no) (.int .i64 (j:Int))=some (.iptr [.str f.name, .sl (f.args.map nat) .no,nat f.result] 0,h):=fun h=>by
  have h2:s.preds[j]=f:=by
   rw[k7] at hj
   exact hj.2
  rw[z8q hjl,h2]
 have e1:decide ((a.args.length:Int)=(f.args.length:Int))=true:=by rw[z04];omega
 simp only[go_sem,y7l,hB,z2b,z2x hB h1,b1,z6o,q4u hB h2,b2,q3r hfk,q0q,z7,z6,hix,e1]
 refine z1t (fun m q=>∃ (i:Nat),i≤a.args.length∧m=a.args.length - i∧q.ts 0= .ptr sC gC 0 0∧q.ts 2= .mp sX gX∧q.ts 7= .int .i64 (j:Int)∧q.ts 40= .sl (a.args.map z0k) .no∧q.ts 41= .int .i64 (a.args.length:Int)∧q.ts 42= .int .i64 (i:Int)∧∃ o,q.h=D++[o]) a.args.length ⟨0,by omega,rfl,rfl,rfl,by simp[z0b],rfl,rfl,rfl,_,rfl⟩ ?_
 rintro m ⟨ts,h,clk⟩ Pq ⟨i,hi,rfl,q0,q2,q7,q40,q41,q42,o,rfl⟩ hnx he hr
 dsimp only at q0 q2 q7 q40 q41 q42
 by_cases hlt':i < a.args.length
 ·have f1:decide ((i:Int) < (a.args.length:Int))=true:=by rw[z04];omega
  have f2:IntKind.i64.wrap ((i:Int) + 1)=((i + 1:Nat):Int):=z0e (by omega) (by omega)
  have hia:i < f.args.length:=by omega
  have hix2:∀ h,z1m h 1 (.sl (f.args.map nat) .no) (.int .i64 (i:Int))=some (.iptr [.int .i64 (f.args[i]:Int)] 0,h):=fun h=>q6w hia
  have hz:(f.args[i],a.args[i])∈f.args.zip a.args:=by
   have:(f.args.zip a.args)[i]? =some (f.args[i],a.args[i]):=by simp[List.getElem?_zip_eq_some,hia,hlt']
   exact s9 this
  obtain⟨hwf,hsz,hs1,hs4⟩:=hargs _ hz
  dsimp only at hwf hsz hs1 hs4
  have p1:=k5d hs1 hs4
  have p2:=j6k (sX:=sX) (gX:=gX) (u:= .no) hwf hV (by omega) (by omega)
  rw[nat] at p1 p2
  have hix3:∀ h,z1m h 1 (.sl (a.args.map z0k) .no) (.int .i64 (i:Int))=some (.iptr [.sl (a.args[i].map eNode) .no] 0,h):=fun h=>q5t hlt'
  have hh:Has [(sX, .map gX (z1q V))] (D++[o]):=fun p hp'=>hS.app p (by simp at hp';subst hp';simp)
  simp only[go_sem,j6e,q0,q2,q7,q40,q41,q42,f1,hB,hix3,z2x hB h1,b1,hix,hix2,z0a p1,z7,z1g p2 hh,f2]
  exact hnx (a.args.length - (i + 1)) _ (by omega) ⟨i + 1,hlt',rfl,q0,q2,q7,q40,q41,rfl,o,rfl⟩
 ·have f1:decide ((i:Int) < (a.args.length:Int))=false:=by rw[z03];omega
  simp only[go_sem,j6e,q0,q2,q7,q40,q41,q42,f1]
  refine he _ _ ?_
  simp only[go_sem,]
  rw[z0d]
  exact hT _ hS.app
def z4w (l:List (List Nat)):List (AV×AV):=l.map fun a=>(.str a, .bool true)
theorem x1t {a:List Nat}:∀ {l:List (List Nat)},findKey (.one .str) (.str a) (z4w l)=some (if a∈l then some (.bool true) else none)
 | []=>rfl
 | b::l=>by
   have ih:=x1t (a:=a) (l:=l)
   unfold z4w at ih⊢
   simp only[k8,findKey,AV.eqv,AV.eq1]
   by_cases h:a=b
   ·subst h
    simp
   ·simp only[h,decide_false,ih,y3,false_or]
theorem q3i {a:List Nat}:∀ {l:List (List Nat)},a∉l→z6a (.one .str) (.str a) (.bool true) (z4w l)=some (z4w (l++[a]))
 | [],_=>rfl
 | b::l,hn=>by
   rw[y3,not_or] at hn
   have ih:=q3i (a:=a) (l:=l) hn.2
   unfold z4w at ih⊢
   simp only[k8,d4,z6a,AV.eqv,AV.eq1,hn.1,decide_false,ih,k6]
theorem k5e {h:List AObj} {z:AV} {a:List Nat} {l:List (List Nat)}:lkV h (.one .str) z false (some (z4w l)) (.str a)=some (q8j false z (if a∈l then some (.bool true) else none),h):=w4v x1t
theorem v1a {sC gC sP gP:Nat} {s:Sys} {V:List Var} {u:Tip} (hp:∀ p∈s.preds,∀ v∈z1w,p.name≠v.name) (hs:V.Sublist z1w):Reads [(sC,z5h gC s sP gP),(sP,z9n gP s)] 201 [.ptr sC gC 0 0, .sl (V.map z1k) u] (.bool true):=by
 have hV:∀ v∈V,v∈z1w:=fun v hv=>hs.mem hv
 have hnd:V.Nodup:=hs.nodup (by decide)
 have hVl:V.length≤8:=hs.length_le
 refine Reads.of rfl u7q rfl rfl rfl (az:=[.ptr sC gC 0 0, .sl (V.map z1k) .no]) rfl (by simpa [idsL,AV.ids,z0c z2l] using Cov.two q7d (x4n (gP:=gP) (s:=s))) fun D B clk T hB hS hlt hT=> ?_
 have h1:=hlt (sC,z5h gC s sP gP) (by simp)
 have h2:=hlt (sP,z9n gP s) (by simp)
 have b1:=z2g (g:=gC) (hS (sC,z5h gC s sP gP) (by simp))
 have b2:=j0k (g:=gP) (hS (sP,z9n gP s) (by simp))
 dsimp only at h1 h2 b1 b2
 simp only[go_sem,y7j,hB,z6]
 refine z1t (fun m q=>∃ (i g:Nat) (o:AObj),i≤V.length∧m=V.length - i∧q.ts 0= .ptr sC gC 0 0∧q.ts 5= .mp (B + 0) g∧q.ts 11= .sl (V.map z1k) .no∧q.ts 12= .int .i64 (V.length:Int)∧q.ts 13= .int .i64 (i:Int)∧q.h=D++[.map g (z4w ((V.take i).map (·.name))),o]) V.length ⟨0,_,_,by omega,rfl,rfl,rfl,rfl,rfl,rfl,rfl⟩ ?_
 rintro m ⟨ts,h,clk⟩ Pq ⟨i,g,o,hi,rfl,q0,q5,q11,q12,q13,rfl⟩ hnx he hr
 dsimp only at q0 q5 q11 q12 q13
 by_cases hlt':i < V.length
 ·have f1:decide ((i:Int) < (V.length:Int))=true:=by rw[z04];omega
  have f2:IntKind.i64.wrap ((i:Int) + 1)=((i + 1:Nat):Int):=z0e (by omega) (by omega)
  have hv:=j9 hlt'
  have hix:∀ h,z1m h 2 (.sl (V.map z1k) .no) (.int .i64 (i:Int))=some (.iptr [.str V[i].name, .int .i64 (V[i].sort:Int)] 0,h):=fun h=>z3a hlt' rfl rfl
  have htake:V.take (i + 1)=V.take i++[V[i]]:=w8 hlt'
  have hnew:V[i].name∉(V.take i).map (·.name):=by
   intro hc
   obtain⟨w,hw,e⟩:=y8.1 hc
   have:w=V[i]:=q6e (hV w (m9 hw)) (hV _ hv) e
   subst this
   have h3:(V.take (i + 1)).Nodup:=hnd.sublist (s6 _ _)
   rw[htake,List.nodup_append] at h3
   exact h3.2.2 _ hw _ (by simp) rfl
  have hsort:=q6a (hV _ hv)
  have p1:=j2x (hV _ hv)
  have p2:=k5d hsort.1 hsort.2
  rw[nat] at p2
  have hnm:z4w ((V.take (i + 1)).map (·.name))=z4w ((V.take i).map (·.name)++[V[i].name]):=by rw[htake,v5];rfl
  have hfp:=q2p (a:=V[i].name) (k:=0) (ps:=s.preds) fun p hp' e=>hp p hp' _ (hV _ hv) e
  generalize V[i]=v at *
  have hmu:∀ L:List AObj,z5k L 0 g=some (z4w ((V.take i).map (·.name)))→muV (D++L) (.one .str) (.str v.name) (.bool true) (.mp (B + 0) g)=some (.undef,D++L.set 0 (.map g (z4w ((V.take (i + 1)).map (·.name))))):=fun L hL=>by
   rw[hnm]
   exact x4l (v:= .bool true) hB hL rfl (q3i hnew)
  simp only[go_sem,j6d,q0,q5,q11,q12,q13,f1,hB,hix,z2x hB h1,b1,z6o,q4u hB h2,b2,q3r hfp,z6y,k5e,hnew,q1k,z0a p1,z7,z0a p2,hmu,f2]
  exact hnx (V.length - (i + 1)) _ (by omega) ⟨i + 1,g,_,hlt',rfl,q0,q5,q11,q12,rfl,rfl⟩
 ·have f1:decide ((i:Int) < (V.length:Int))=false:=by rw[z03];omega
  simp only[go_sem,j6d,q0,q5,q11,q12,q13,f1]
  refine he _ _ ?_
  simp only[go_sem,]
  rw[z0d]
  exact hT _ hS.app
theorem u8a {V:List Var} {u:Tip} {h:List AObj} {clk:Nat} {Q:AV→List AObj→Nat→Prop} (hs:V.Sublist z1w) (hQ:∀ g o c,Q (.mp h.length g) (h++[.map g (z1q V),o]) c):WC Gam 200 [.sl (V.map z1k) u] h clk Q:=by
 have hnd:V.Nodup:=hs.nodup (by decide)
 have hVl:V.length≤8:=hs.length_le
 refine x1p rfl u7p rfl rfl rfl (az:=[.sl (V.map z1k) .no]) rfl (by simp[idsL,AV.ids,z0c z2l]) fun D B R hB hBh hR=> ?_
 simp only[go_sem,y7i,hB,z6]
 refine z1t (fun m q=>∃ (i g:Nat) (o:AObj),i≤V.length∧m=V.length - i∧q.ts 3= .mp (B + 0) g∧q.ts 7= .sl (V.map z1k) .no∧q.ts 8= .int .i64 (V.length:Int)∧q.ts 9= .int .i64 (i:Int)∧q.h=D++[.map g (z1q (V.take i)),o]) V.length ⟨0,_,_,by omega,rfl,rfl,rfl,rfl,rfl,rfl⟩ ?_
 rintro m ⟨ts,h,clk⟩ Pq ⟨i,g,o,hi,rfl,q3,q7,q8,q9,rfl⟩ hnx he hr
 dsimp only at q3 q7 q8 q9
 by_cases hlt':i < V.length
 ·have f1:decide ((i:Int) < (V.length:Int))=true:=by rw[z04];omega
  have f2:IntKind.i64.wrap ((i:Int) + 1)=((i + 1:Nat):Int):=z0e (by omega) (by omega)
  have hix:∀ h,z1m h 2 (.sl (V.map z1k) .no) (.int .i64 (i:Int))=some (.iptr [.str V[i].name, .int .i64 (V[i].sort:Int)] 0,h):=fun h=>z3a hlt' rfl rfl
  have htake:V.take (i + 1)=V.take i++[V[i]]:=w8 hlt'
  have hnew:V[i]∉V.take i:=by
   intro hc
   have h3:(V.take (i + 1)).Nodup:=hnd.sublist (s6 _ _)
   rw[htake,List.nodup_append] at h3
   exact h3.2.2 _ hc _ (by simp) rfl
  generalize V[i]=v at *
  have hput:=x4m hnew
  have hmu:∀ L:List AObj,z5k L 0 g=some (z1q (V.take i))→muV (D++L) (.agg [.str, .int]) (.agg [.str v.name, .int .i64 (v.sort:Int)]) (.bool true) (.mp (B + 0) g)=some (.undef,D++L.set 0 (.map g (z1q (V.take (i + 1))))):=fun L hL=>by
   have hpub:pub (D++L) (.bool true)=some (.bool true,D++L):=rfl
   have he:((AV.agg [.str v.name, .int .i64 (v.sort:Int)]).eqv (.agg [.str, .int]) (.agg [.str v.name, .int .i64 (v.sort:Int)])).isSome=true:=by
    have:=x6v (v:=v) (w:=v)
    rw[show z1k v= .agg [.str v.name, .int .i64 (v.sort:Int)] from rfl] at this
    rw[this]
    rfl
   have hput':z6a (.agg [.str, .int]) (.agg [.str v.name, .int .i64 (v.sort:Int)]) (.bool true) (z1q (V.take i))=some (z1q (V.take (i + 1))):=by rw[htake];exact hput
   simp only[muV,x5z hB,hL,hpub,he,if_true,hput',k6,z2a hB]
  simp only[go_sem,k4u,q3,q7,q8,q9,f1,hB,hix,hmu,f2]
  exact hnx (V.length - (i + 1)) _ (by omega) ⟨i + 1,g,_,hlt',rfl,q3,q7,q8,rfl,rfl⟩
 ·have f1:decide ((i:Int) < (V.length:Int))=false:=by rw[z03];omega
  have hti:V.take i=V:=b7 (by omega)
  simp only[go_sem,k4u,q3,q7,q8,q9,f1]
  refine he _ _ ?_
  simp only[go_sem,q3]
  rw[q6d rfl,hti]
  refine hR _ _ ⟨B + 0,by simp[z1j,AV.cv,AV.ids],by omega⟩ fun c=> ?_
  have:=hQ g o c
  rw[←hBh] at this
  exact this
mutual
theorem x6w:∀ (a:AV),a.beq a=true
 | .undef=>rfl
 | .int _ _=>by simp[AV.beq]
 | .bool _=>by simp[AV.beq]
 | .str _=>by simp[AV.beq]
 | .agg cs=>by simp[AV.beq,z9j cs]
 | .tup cs=>by simp[AV.beq,z9j cs]
 | .sl cs _=>by simp[AV.beq,z9j cs]
 | .ob .. =>by simp[AV.beq]
 | .ptr .. =>by simp[AV.beq]
 | .iptr cs _=>by simp[AV.beq,z9j cs]
 | .nilptr=>rfl
 | .mp .. =>by simp[AV.beq]
 | .nilmap=>rfl
 | .fn _ cs=>by simp[AV.beq,z9j cs]
 | .nilfn=>rfl
 | .nilif=>rfl
 | .bwd _ x=>by simp[AV.beq,x6w x]
theorem z9j:∀ (l:List AV),j7y l l=true
 | []=>rfl
 | a::l=>by simp[j7y,x6w a,z9j l]
end
theorem j0l:∀ (l:List (AV×AV)),v4e l l=true
 | []=>rfl
 | a::l=>by simp[v4e,x6w,j0l l]
theorem v1b:∀ (o:AObj),o.beq o=true
 | .dead=>rfl
 | .blk .. =>by simp[AObj.beq,z9j]
 | .tip .. =>by simp[AObj.beq]
 | .map .. =>by simp[AObj.beq,j0l]
theorem j0m {F:List Nat} {h:List AObj}:z3q F h h=(F,[]):=by
 unfold z3q
 simp[v1b]
theorem z6l {f base gg clk:Nat} {args:List AV} {S:List (Nat×AObj)} {h:List AObj} {v:AV} {m:Md} {dst:Option Nat} {os:List AOper} {ts:Tmps} {ks:List Kf} {Q:Post} (hr:Reads S f args v) (hh:Has S h)
  (hO:O Gam base (m.add (S.map (·.1),[])) (gg + 1) os ⟨z8t ts dst v,h,clk⟩ ks Q):CK Gam base f args h clk m dst gg os ts ks Q:=by
 obtain⟨⟨k,hk⟩,hF⟩:=hr h clk hh
 refine⟨k,v,h,clk,hk, ?_⟩
 dsimp only
 rw[j0m]
 exact j4z hF (by simp) hO
theorem z8r {sC gC sP gP:Nat} {s:Sys} {w k:Int}:Reads [(sC,z5h gC s sP gP),(sP,z9n gP s)] 126 [.ptr sC gC 0 0, .bool false, .int .i64 w, .int .i64 k] (.tup []):=by
 refine Reads.of rfl u7n rfl rfl rfl (az:=[.ptr sC gC 0 0, .bool false, .int .i64 w, .int .i64 k]) rfl (by simpa [idsL,AV.ids] using Cov.two q7d (x4n (gP:=gP) (s:=s))) fun D B clk T hB hS hlt hT=> ?_
 simp only[go_sem,y7g]
 rw[z0h rfl rfl]
 exact hT _ hS.app
theorem Cov.five {s2 sC sP s5 sX g2 gC gP g5 gX:Nat} {s:Sys} {V:List Var} (h1:sC < sP) (h2:sP < s2) (h3:s2 < s5) (h4:s5 < sX):Cov [(s2, .blk g2 [.ptr sC gC 0 0] false false 0),(sC,z5h gC s sP gP),(sP,z9n gP s),(s5, .blk g5 [.mp sX gX] false false 0),(sX, .map gX (z1q V))] [s2,s5]:=by
 have i2:(AObj.blk g2 [.ptr sC gC 0 0] false false 0).ids=[sC]:=rfl
 have i5:(AObj.blk g5 [.mp sX gX] false false 0).ids=[sX]:=rfl
 refine⟨by simp,by simp[i2,i5,q7d,x4n,q2o],fun h hS p hp=> ?_⟩
 have a2:h[s2]? =some (.blk g2 [.ptr sC gC 0 0] false false 0):=hS (s2,_) (by simp)
 have aC:h[sC]? =some (z5h gC s sP gP):=hS (sC,z5h gC s sP gP) (by simp)
 have aP:h[sP]? =some (z9n gP s):=hS (sP,z9n gP s) (by simp)
 have a5:h[s5]? =some (.blk g5 [.mp sX gX] false false 0):=hS (s5,_) (by simp)
 have hX:=hS.lt (sX,_) (u0 _ (u0 _ (u0 _ (u0 _ v9))))
 dsimp only at hX
 obtain⟨m,hm⟩:∃ m,h.length=m + 4:=⟨h.length - 4,by omega⟩
 have hr:reach h (h.length + 1) [] [s2,s5]=reach h (m + 1) [s5,sP,sC,s2] [sX]:=by
  rw[hm,z9i (by simp) a2,i2]
  rw[List.singleton_append,z9i (by simp;omega) aC,q7d]
  rw[List.singleton_append,z9i (by simp;omega) aP,x4n]
  rw[List.nil_append,z9i (by simp;omega) a5,i5]
  rfl
 rw[hr]
 simp at hp
 rcases hp with rfl | rfl | rfl | rfl | rfl <;> exact z4d (by simp)
theorem v1c {s2 sC sP s5 sX g2 gC gP g5 gX:Nat} {s:Sys} {a:App} {V:List Var} (hp:PrOk s.preds) (ha:AppOk s.preds V a) (hV:∀ v∈V,v∈z1w) (h1:sC < sP) (h2:sP < s2) (h3:s2 < s5) (h4:s5 < sX):
  Reads [(s2, .blk g2 [.ptr sC gC 0 0] false false 0),(sC,z5h gC s sP gP),(sP,z9n gP s),(s5, .blk g5 [.mp sX gX] false false 0),(sX, .map gX (z1q V))] 202 [z2b a, .ptr s2 g2 0 0, .ptr s5 g5 0 0] (.bool false):=by
 refine Reads.of rfl u7r rfl rfl rfl (az:=[z2b a, .ptr s2 g2 0 0, .ptr s5 g5 0 0]) rfl (by simpa [idsL,AV.ids,z8b] using Cov.five h1 h2 h3 h4) fun D B clk T hB hS hlt hT=> ?_
 have l2:=hlt (s2, .blk g2 [.ptr sC gC 0 0] false false 0) (by simp)
 have l5:=hlt (s5, .blk g5 [.mp sX gX] false false 0) (by simp)
 have b2:=z2g (g:=g2) (hS (s2, .blk g2 [.ptr sC gC 0 0] false false 0) (by simp))
 have b5:=z2g (g:=g5) (hS (s5, .blk g5 [.mp sX gX] false false 0) (by simp))
 dsimp only at l2 l5 b2 b5
 have hr:=j6l (sC:=sC) (gC:=gC) (sP:=sP) (gP:=gP) (sX:=sX) (gX:=gX) hp ha hV
 have hh:∀ L,Has [(sC,z5h gC s sP gP),(sP,z9n gP s),(sX, .map gX (z1q V))] (D++L):=fun L p hp'=>hS.app p (by simp at hp';rcases hp' with rfl | rfl | rfl <;> simp)
 rw[z2b] at hr
 simp only[go_sem,y7k,hB,z2b,z2x hB l2,b2,z2x hB l5,b5,z1g hr (hh _),z7]
 rw[z0d]
 exact hT _ hS.app
theorem k5f {f base gg clk:Nat} {args:List AV} {h:List AObj} {m:Md} {dst:Option Nat} {os:List AOper} {ts:Tmps} {ks:List Kf} {Q:Post} (hf:z0y Gam f args h=[]) (hw:WC Gam f args h clk fun v h' c=>O Gam base (m.add ([],[])) (gg + 1) os ⟨z8t ts dst v,h',c⟩ ks Q):CK Gam base f args h clk m dst gg os ts ks Q:=by
 unfold CK
 rw[hf]
 exact hw
theorem v7d {T:List Nat} {R:AV→List AObj→Prop} {h:List AObj}:RV T (some []) R h=R (.tup []) h:=z0h rfl rfl
theorem v1d {sC gC sP gP i:Nat} {s:Sys} {c:Clause} (hp:PrOk s.preds) (hn:∀ p∈s.preds,∀ v∈z1w,p.name≠v.name) (hc:ClauseOk s.preds c) (hi:s.clauses[i]? =some c) (hlt1:sC < sP):Reads [(sC,z5h gC s sP gP),(sP,z9n gP s)] 127 [.ptr sC gC 0 0, .int .i64 (i:Int)] (.tup []):=by
 obtain⟨hsub,hbl,hbody,hguard,hhead⟩:=hc
 have hV:∀ v∈c.vars,v∈z1w:=fun v hv=>hsub.mem hv
 have hVl:c.vars.length≤8:=hsub.length_le
 refine Reads.of rfl u7o rfl rfl rfl (az:=[.ptr sC gC 0 0, .int .i64 (i:Int)]) rfl (by simpa [idsL,AV.ids] using Cov.two q7d (x4n (gP:=gP) (s:=s))) fun D B clk T hB hS hlt hT=> ?_
 have h1:=hlt (sC,z5h gC s sP gP) (by simp)
 have h2:=hlt (sP,z9n gP s) (by simp)
 have b1:=z2g (g:=gC) (hS (sC,z5h gC s sP gP) (by simp))
 dsimp only at h1 h2 b1
 have hil:i < s.clauses.length:=by
  rw[k7] at hi
  exact hi.1
 have hix:∀ h,z1m h 5 (.sl (s.clauses.map z0g) .no) (.int .i64 (i:Int))=some (.iptr [.sl (c.vars.map z1k) .no, .sl (c.body.map z2b) .no,AV.sl (c.guard.map eNode) .no, .str c.head.pred, .sl (c.head.args.map z0k) .no] 0,h):=fun h=>by
  have h2:s.clauses[i]=c:=by
   rw[k7] at hi
   exact hi.2
  rw[z3a (f:=z0g) hil (cs:=[.sl (c.vars.map z1k) .no, .sl (c.body.map z2b) .no,AV.sl (c.guard.map eNode) .no, .str c.head.pred, .sl (c.head.args.map z0k) .no]) (esz:=5) (by rw[h2];rfl) rfl]
 simp only[go_sem,y7h,hB,z2x hB h1,b1,hix]
 refine z4i (u8a hsub fun gX oX c2=> ?_)
 have hlen:∀ a b c:AObj,(D++[a,b,c]).length=B + 3:=fun a b c=>by simp[hB]
 have hS2:∀ L,Has [(sC,z5h gC s sP gP),(sP,z9n gP s)] (D++L):=fun L=>hS.app
 have hSX:∀ a b d L,Has [(B + 3, .map gX (z1q c.vars))] (D++a::b::d:: .map gX (z1q c.vars)::L):=fun _ _ _ _=>x6r hB rfl
 have hS5:∀ g0 g2 b L,Has [(B + 0, .blk g0 [.ptr sC gC 0 0] false false 0),(sC,z5h gC s sP gP),(sP,z9n gP s),(B + 2, .blk g2 [.mp (B + 3) gX] false false 0),(B + 3, .map gX (z1q c.vars))] (D++ .blk g0 [.ptr sC gC 0 0] false false 0::b:: .blk g2 [.mp (B + 3) gX] false false 0:: .map gX (z1q c.vars)::L):=fun g0 g2 b L=>by
  refine Has.cons ?_ (Has.cons (hS2 _ (sC,z5h gC s sP gP) (by simp)) (Has.cons (hS2 _ (sP,z9n gP s) (by simp)) (Has.cons ?_ (Has.cons ?_ Has.nil))))
  ·dsimp only;rw[z2u hB];rfl
  ·dsimp only;rw[z2u hB];rfl
  ·dsimp only;rw[z2u hB];rfl
 have hS3:∀ a b d L,Has [(sC,z5h gC s sP gP),(sP,z9n gP s),(B + 3, .map gX (z1q c.vars))] (D++a::b::d:: .map gX (z1q c.vars)::L):=fun a b d L=>by
  refine Has.cons (hS2 _ (sC,z5h gC s sP gP) (by simp)) (Has.cons (hS2 _ (sP,z9n gP s) (by simp)) (hSX a b d L))
 have hd:∀ N,N=B + 5→sC < N∧sP < N:=fun N hN=>by omega
 simp only[go_sem,hB,hlen,n0,z1a,x0n]
 refine z6l (v1a hn hsub) (hS2 _) ?_
 simp only[go_sem,z7]
 refine z6l z8r (hS2 _) ?_
 simp only[go_sem,hB]
 refine⟨by simp[z1b,apart,z0j,z0z,z1d,AOp.isCall,hB] <;> omega, ?_⟩
 have r93:∀ g0 g2,Reads [(B + 0, .blk g0 [.ptr sC gC 0 0] false false 0),(sC,z5h gC s sP gP),(sP,z9n gP s),(B + 2, .blk g2 [.mp (B + 3) gX] false false 0),(B + 3, .map gX (z1q c.vars))] 89 [.sl (c.body.map z2b) .no, .fn 202 [.ptr (B + 0) g0 0 0, .ptr (B + 2) g2 0 0]] (.bool false):=fun g0 g2=>by
  have:=w4t (enc:=z2b) (xs:=c.body) (t:= .no) (cap:=[.ptr (B + 0) g0 0 0, .ptr (B + 2) g2 0 0]) (P:=fun _=>false) (fun _=>rfl) (fun _ _=>rfl) z8b (by omega) (by simpa [idsL,AV.ids] using Cov.five (s2:=B + 0) (s5:=B + 2) (sX:=B + 3) (g2:=g0) (g5:=g2) (gC:=gC) (gP:=gP) (gX:=gX) (s:=s) (V:=c.vars) hlt1 (by omega) (by omega) (by omega)) fun a ha=>v1c hp (hbody a ha) hV hlt1 (by omega) (by omega) (by omega)
  have e:(c.body.any fun _=>false)=false:=by simp
  rw[e] at this
  exact this
 simp only[go_sem,hB,z1a]
 refine z6l (r93 _ _) (hS5 _ _ _ _) ?_
 simp only[go_sem,]
 refine z6l z8r (hS2 _) ?_
 simp only[go_sem,hB]
 refine⟨by simp[z1b,apart,z0j,z0z,z1d,AOp.isCall,hB] <;> omega, ?_⟩
 have r175:Reads [(B + 3, .map gX (z1q c.vars))] 204 [.mp (B + 3) gX, .sl (c.guard.map eNode) .no, .int .i64 1] (.bool true):=j6k hguard.1 hV (by have:=hguard.2.1;omega) (by omega)
 simp only[go_sem,hB,z1a]
 refine z6l r175 (hSX _ _ _ _) ?_
 simp only[go_sem,z7]
 refine z6l z8r (hS2 _) ?_
 simp only[go_sem,hB]
 refine⟨by simp[z1b,apart,z0j,z0z,z1d,AOp.isCall,hB] <;> omega, ?_⟩
 have e1:decide ((400:Int) < (c.vars.length:Int))=false:=by rw[z03];omega
 have e2:decide ((8:Int) < (c.body.length:Int))=false:=by rw[z03];omega
 rcases hhead with ⟨hh1,hh2⟩ | hha
 ·simp only[go_sem,hB,hh1,hh2,decide_true,z6,d9,decide_false]
  rw[z1g z8r (hS2 _)]
  simp only[go_sem,hB,z6,e1,e2]
  rw[z1g z8r (hS2 _)]
  simp only[go_sem,]
  rw[v7d]
  exact hT _ hS.app
 ·have hne:decide (c.head.pred=[])=false:=by
   obtain⟨f,hf,hname,_,_⟩:=hha
   rw[z03,hname]
   exact hp.name f hf
  have r174:=j6l (sC:=sC) (gC:=gC) (sP:=sP) (gP:=gP) (sX:=B + 3) (gX:=gX) hp hha hV
  rw[z2b] at r174
  simp only[go_sem,hB,hne,z1a]
  refine z6l r174 (hS3 _ _ _ _) ?_
  simp only[go_sem,z7]
  refine z6l z8r (hS2 _) ?_
  simp only[go_sem,hB]
  refine⟨by simp[z1b,apart,z0j,z0z,z1d,AOp.isCall,hB] <;> omega, ?_⟩
  simp only[go_sem,hB,z6,e1,e2]
  rw[z1g z8r (hS2 _)]
  simp only[go_sem,]
  rw[v7d]
  exact hT _ hS.app
structure SysV (s:Sys):Prop where
 preds:s.preds.Sublist allPreds
 len:s.clauses.length≤16
 clauses:∀ c∈s.clauses,ClauseOk s.preds c
theorem SysOk.v {s:Sys} (h:SysOk s):SysV s:=by
 obtain⟨⟨n,_,_,hp⟩,hl,hc⟩:=h
 refine⟨by rw[hp];exact (s6 _ _).trans (List.sublist_append_left z2d [z6r]),by omega,hc⟩
theorem SysV.pr {s:Sys} (h:SysV s):PrOk s.preds:=by
 refine⟨(h.preds.map _).nodup (by decide),fun f hf=> ?_,fun f hf=> ?_⟩
 ·have:∀ f∈allPreds,f.args.length≤40∧∀ s∈f.args,1≤s∧s≤4:=by decide
  exact this f (h.preds.mem hf)
 ·have:∀ f∈allPreds,f.name≠[]:=by decide
  exact this f (h.preds.mem hf)
theorem SysV.apart {s:Sys} (h:SysV s):∀ p∈s.preds,∀ v∈z1w,p.name≠v.name:=fun p hp=>by
 have:∀ p∈allPreds,∀ v∈z1w,p.name≠v.name:=by decide
 exact this p (h.preds.mem hp)
theorem u8b {ps:List Func} {u:Tip} {h:List AObj} {clk:Nat} {Q:AV→List AObj→Nat→Prop} (hp:PrOk ps) (hl:ps.length≤1000) (hQ:∀ g o c,Q (.mp h.length g) (h++[.map g (z4f 0 ps),o]) c):WC Gam 122 [.sl (ps.map z1f) u] h clk Q:=by
 refine x1p rfl y7d rfl rfl rfl (az:=[.sl (ps.map z1f) .no]) rfl (by simp[idsL,AV.ids,z0c z5g]) fun D B R hB hBh hR=> ?_
 simp only[go_sem,y7c,hB,z6]
 refine z1t (fun m q=>∃ (i g:Nat) (o:AObj),i≤ps.length∧m=ps.length - i∧q.ts 3= .mp (B + 0) g∧q.ts 9= .sl (ps.map z1f) .no∧q.ts 10= .int .i64 (ps.length:Int)∧q.ts 11= .int .i64 (i:Int)∧q.h=D++[.map g (z4f 0 (ps.take i)),o]) ps.length ⟨0,_,_,by omega,rfl,rfl,rfl,rfl,rfl,rfl⟩ ?_
 rintro m ⟨ts,h,clk⟩ Pq ⟨i,g,o,hi,rfl,q3,q9,q10,q11,rfl⟩ hnx he hr
 dsimp only at q3 q9 q10 q11
 by_cases hlt':i < ps.length
 ·have f1:decide ((i:Int) < (ps.length:Int))=true:=by rw[z04];omega
  have f2:IntKind.i64.wrap ((i:Int) + 1)=((i + 1:Nat):Int):=z0e (by omega) (by omega)
  have hix:∀ h,z1m h 3 (.sl (ps.map z1f) .no) (.int .i64 (i:Int))=some (.iptr [.str ps[i].name, .sl (ps[i].args.map nat) .no, .int .i64 (ps[i].result:Int)] 0,h):=fun h=>z8q hlt'
  have htake:ps.take (i + 1)=ps.take i++[ps[i]]:=w8 hlt'
  have hnew:∀ p∈ps.take i,p.name≠ps[i].name:=by
   intro p hp' e
   have h3:=hp.nodup
   have h4:((ps.take (i + 1)).map (·.name)).Nodup:=h3.sublist ((s6 _ _).map _)
   rw[htake,v5,List.nodup_append] at h4
   exact h4.2.2 _ (y8.2 ⟨p,hp',rfl⟩) _ (by simp) e
  have hput:=x1s (a:=ps[i].name) (n:=i) (ps:=ps.take i) (k:=0) (r:=ps[i].args) (q:=ps[i].result) hnew (by simp;omega)
  have hfk:=q2p (a:=ps[i].name) (k:=0) hnew
  generalize ps[i]=p at *
  have hmu:∀ L:List AObj,z5k L 0 g=some (z4f 0 (ps.take i))→muV (D++L) (.one .str) (.str p.name) (.int .i64 (i:Int)) (.mp (B + 0) g)=some (.undef,D++L.set 0 (.map g (z4f 0 (ps.take (i + 1))))):=fun L hL=>by
   refine x4l (v:= .int .i64 (i:Int)) hB hL rfl ?_
   rw[htake]
   exact hput
  simp only[go_sem,j6c,q3,q9,q10,q11,f1,hB,hix,z6o,q3r hfk,z6y,j5,hmu,f2]
  exact hnx (ps.length - (i + 1)) _ (by omega) ⟨i + 1,g,_,hlt',rfl,q3,q9,q10,rfl,rfl⟩
 ·have f1:decide ((i:Int) < (ps.length:Int))=false:=by rw[z03];omega
  have hti:ps.take i=ps:=b7 (by omega)
  simp only[go_sem,j6c,q3,q9,q10,q11,f1]
  refine he _ _ ?_
  simp only[go_sem,q3]
  rw[q6d rfl,hti]
  refine hR _ _ ⟨B + 0,by simp[z1j,AV.cv,AV.ids],by omega⟩ fun c=> ?_
  have:=hQ g o c
  rw[←hBh] at this
  exact this
theorem w4w {f:Func} (hf:f∈allPreds):Pure Gam 124 [z1f f] (.bool false):=by
 refine Pure.tab (tab:=j3x) rfl rfl ?_
 simp only[allPreds,y3,List.not_mem_nil,or_false] at hf
 rcases hf with rfl | rfl | rfl | rfl | rfl | rfl <;> rfl
theorem Cov.none:Cov [] []:=⟨by simp,by simp,fun h _ p hp=>by simp at hp⟩
theorem k5g {ps:List Func} (hp:ps.Sublist allPreds):Reads [] 123 [.sl (ps.map z1f) .no, .fn 124 []] (.bool false):=by
 have:=v0r (enc:=z1f) (xs:=ps) (S:=[]) (c:=124) (cap:=[]) (t:= .no) (P:=fun _=>false) (fun _=>rfl) (fun _ _=>rfl) z5g (by have:=hp.length_le;simp[allPreds] at this;omega) Cov.none fun f hf=>(w4w (hp.mem hf)).reads
 have e:(ps.any fun _=>false)=false:=by simp
 rw[e] at this
 exact this
theorem w4x {h:List AObj} {s g:Nat}:v4k h .mp (.mp s g)=((z5k h s g).map fun es=>(.int .i64 (es.length:Int))).map (·,h):=(rfl)
theorem y7u {s:Sys} (hs:SysV s):Pure Gam 70 [z2i s] (.sl [] .no):=by
 have hpr:=hs.pr
 have hpl:s.preds.length≤6:=hs.preds.length_le
 have hcl:=hs.len
 refine Pure.of rfl g5g rfl rfl rfl (az:=[z2i s]) rfl (by simp[idsL,z3n]) fun D B clk T hB hT=> ?_
 simp only[go_sem,g1k,hB,z2i,z1a]
 refine k5f ?_ (u8b hpr (by omega) fun gP oP c2=> ?_)
 ·refine q5s (az:=[.sl (s.preds.map z1f) .no]) y7d rfl rfl rfl (by simp[idsL,AV.ids,z0c z5g])
 have hlen:∀ a b:AObj,(D++[a,b]).length=B + 2:=fun a b=>by simp[hB]
 simp only[go_sem,hB,hlen,n0]
 refine⟨by simp[z1b,apart,z0j,z0z,z1d,AOp.isCall], ?_⟩
 have hS:∀ g a o,Has [(B + 1,z5h g s (B + 2) gP),(B + 2,z9n gP s)] (D++[a, .blk g [.agg [.sl (s.preds.map z1f) .no, .sl (s.clauses.map z0g) .no, .mp (B + 2) gP, .sl [] .nil]] false false 0, .map gP (z4f 0 s.preds),o]):=fun g a o=>by
  refine Has.cons ?_ (Has.cons ?_ Has.nil)
  ·dsimp only;rw[z2u hB];rfl
  ·dsimp only;rw[z2u hB];rfl
 have r118:=k5g hs.preds
 have e1:decide ((s.preds.length:Int) < (s.preds.length:Int))=false:=by rw[z03];omega
 have e2:decide ((512:Int) < (s.preds.length:Int))=false:=by rw[z03];omega
 have e3:decide ((2048:Int) < (s.clauses.length:Int))=false:=by rw[z03];omega
 simp only[w4x,x5z hB,j4y,j4x,k6,j3c]
 simp only[go_sem,hB,z6,e1,z1g r118 Has.nil,decide_false,Int.lt_irrefl]
 rw[z1g z8r (hS _ _ _)]
 simp only[go_sem,hB,z6,e2,e3]
 rw[z1g z8r (hS _ _ _)]
 simp only[go_sem,hB,z6]
 refine z1t (fun m q=>∃ (i gC:Nat) (a:AObj),i≤s.clauses.length∧m=s.clauses.length - i∧q.ts 3= .ptr (B + 1) gC 0 0∧q.ts 43= .int .i64 (s.clauses.length:Int)∧q.ts 44= .int .i64 (i:Int)∧q.h=D++[a, .blk gC [.agg [.sl (s.preds.map z1f) .no, .sl (s.clauses.map z0g) .no, .mp (B + 2) gP, .sl [] .nil]] false false 0, .map gP (z4f 0 s.preds),oP]) s.clauses.length ⟨0,_,_,by omega,rfl,by simp[z0b],by simp[z0b],by simp[z0b],rfl⟩ ?_
 rintro m ⟨ts,h,clk⟩ Pq ⟨i,gC,a,hi,rfl,q3,q43,q44,rfl⟩ hnx he hr
 dsimp only at q3 q43 q44
 by_cases hlt':i < s.clauses.length
 ·have f1:decide ((i:Int) < (s.clauses.length:Int))=true:=by rw[z04];omega
  have f2:IntKind.i64.wrap ((i:Int) + 1)=((i + 1:Nat):Int):=z0e (by omega) (by omega)
  have r122:=v1d (sC:=B + 1) (gC:=gC) (sP:=B + 2) (gP:=gP) (i:=i) (c:=s.clauses[i]) hpr hs.apart (hs.clauses _ (j9 hlt')) (by simp[hlt']) (by omega)
  simp only[go_sem,v0m,q3,q43,q44,f1,z1g r122 (hS _ _ _),f2]
  exact hnx (s.clauses.length - (i + 1)) _ (by omega) ⟨i + 1,gC,a,hlt',rfl,q3,q43,rfl,rfl⟩
 ·have f1:decide ((i:Int) < (s.clauses.length:Int))=false:=by rw[z03];omega
  simp only[go_sem,v0m,q3,q43,q44,f1]
  refine he _ _ ?_
  simp only[go_sem,q3,hB]
  rw[z0h rfl rfl]
  exact hT _
theorem k5h {s:Sys} (hs:SysV s):Pure Gam 28 [z2i s] (.bool true):=by
 have hp:=y7u hs
 rw[z2i] at hp
 refine Pure.of rfl g5f rfl rfl rfl (az:=[z2i s]) rfl (by simp[idsL,z3n]) fun D B clk T hB hT=> ?_
 simp only[go_sem,g1j,hB,z2i,z0a hp,z8,decide_true]
 rw[z0d]
 exact hT _
theorem q0r {l:List Clause} {i:Nat} {h:List AObj} {t:Tip} {k:IntKind} (hi:i < l.length):z1m h 5 (.sl (l.map z0g) t) (.int k (i:Int))=some (.iptr [.sl (l[i].vars.map z1k) .no, .sl (l[i].body.map z2b) .no, .sl (l[i].guard.map eNode) .no, .str l[i].head.pred, .sl (l[i].head.args.map z0k) .no] 0,h):=z3a hi rfl rfl
structure Tf where
 kind:Int
 pred:List Nat
 into:List Nat
 clause:Int
 atom:Int
 un:List (List Nat)
 und:List (List Nat)
 drops:List AV
def z2s (l:List (List Nat)):List AV:=l.map AV.str
def eTf (x:Tf):AV:= .agg [.int .i64 x.kind, .str x.pred, .str x.into, .int .i64 x.clause, .int .i64 x.atom, .sl (z2s x.un) .no, .sl (z2s x.und) .no, .sl x.drops .no]
theorem z0x {l:List (List Nat)}:idsL (z2s l)=[]:=z0c fun _=>rfl
theorem z0v {l:List (List Nat)}:z0n 1 (z2s l)=true:=z2m fun _=>⟨rfl,rfl,rfl⟩
theorem z7f {l:List Func} {i:Nat} {h:List AObj} {t:Tip} {k:IntKind} (hi:i < l.length):z1m h 3 (.sl (l.map z1f) t) (.int k (i:Int))=some (.iptr [.str l[i].name, .sl (l[i].args.map nat) .no, .int .i64 (l[i].result:Int)] 0,h):=z8q hi
theorem y7v {ps:List Func} {u:Tip} (hl:ps.length≤1000):Pure Gam 114 [.sl (ps.map z1f) u] (.sl (z2s (ps.map (·.name))) .no):=by
 refine Pure.of rfl g4z rfl rfl rfl (az:=[.sl (ps.map z1f) .no]) rfl (by simp[idsL,AV.ids,z0c z5g]) fun D B clk T hB hT=> ?_
 simp only[go_sem,g1d,z6]
 refine z1t (fun m q=>∃ (i:Nat) (t:Tip) (a b o:AObj),i≤ps.length∧m=ps.length - i∧q.ts 3= .sl (z2s ((ps.take i).map (·.name))) t∧q.ts 6= .sl (ps.map z1f) .no∧q.ts 7= .int .i64 (ps.length:Int)∧q.ts 8= .int .i64 (i:Int)∧q.h=D++[a,b,o]∧z8x B 2 o t 1) ps.length ⟨0, .nil,_,_,_,by omega,rfl,rfl,rfl,rfl,rfl,rfl, .inl rfl⟩ ?_
 rintro m ⟨ts,h,clk⟩ P ⟨i,t,a,b,o,hi,rfl,q3,q6,q7,q8,rfl,ht⟩ hnx he hr
 dsimp only at q3 q6 q7 q8
 by_cases hlt:i < ps.length
 ·have f1:decide ((i:Int) < (ps.length:Int))=true:=by rw[z04];omega
  have f2:IntKind.i64.wrap ((i:Int) + 1)=((i + 1:Nat):Int):=z0e (by omega) (by omega)
  have hix:=fun h=>z7f (l:=ps) (i:=i) (h:=h) (t:= .no) (k:= .i64) hlt
  have htake:ps.take (i + 1)=ps.take i++[ps[i]]:=w8 hlt
  have e8:z2s ((ps.take i).map (·.name))++z2s [ps[i].name]=z2s ((ps.take (i + 1)).map (·.name)):=by rw[htake,z2s,z2s,z2s,v5,v5];rfl
  generalize ps[i]=f at *
  simp only[go_sem,v0i,q3,q6,q7,q8,hB,f1,hix]
  rw[show [AV.str f.name]=z2s [f.name] from rfl,z0q hB rfl ht z0v z0v (by simp only[z2s,z6,w0,b6];omega)]
  simp only[go_sem,q3,q6,q7,q8,f2,e8]
  exact hnx (ps.length - (i + 1)) _ (by omega) ⟨i + 1,_,_,_,_,hlt,rfl,rfl,q6,q7,rfl,rfl, .inr (.inr ⟨_,rfl,rfl⟩)⟩
 ·have f1:decide ((i:Int) < (ps.length:Int))=false:=by rw[z03];omega
  have hti:ps.take i=ps:=b7 (by omega)
  rw[hti] at q3
  simp only[go_sem,v0i,q3,q6,q7,q8,f1]
  refine he _ _ ?_
  simp only[go_sem,q3]
  rw[z2n rfl (by simp[AV.cv,AV.ids,z0x])]
  exact hT _
structure TfOk (x:Tf):Prop where
 un:x.un.length≤2 ^ 18
 und:x.und.length≤2 ^ 18
 drops:idsL x.drops=[]
theorem j0n {x:Tf} (hx:TfOk x):(eTf x).ids=[]:=by simp[eTf,AV.ids,idsL,z0x,hx.drops]
theorem x6x {esz b:Nat} {xs:List AV} {t:Tip} (h1:z0n esz xs=true) (h3:idsL xs=[]) (h2:xs.length * (b + 1)≤2 ^ 46):z5e esz b (cvL [.sl xs t])=some (.sl xs .no):=by
 simp only[cvL,AV.cv,z5e]
 rw[if_pos ⟨h1,by rw[h3];rfl,h2⟩]
theorem y7w {xs:List Nat} {t:Tip} (hl:xs.length≤2 ^ 20):Pure Gam 90 [.sl (xs.map nat) t] (.sl (xs.map nat) .no):=Pure.ext (sem:=z5e 1 8) rfl rfl (x6x z4k q3h (by rw[z6];omega))
theorem v7e {xs:List Var} {t:Tip} (hl:xs.length≤2 ^ 20):Pure Gam 91 [.sl (xs.map z1k) t] (.sl (xs.map z1k) .no):=Pure.ext (sem:=z5e 2 24) rfl rfl (x6x z3w (z0c z2l) (by rw[z6];omega))
theorem k5i {xs:Term} {t:Tip} (hl:xs.length≤2 ^ 20):Pure Gam 92 [.sl (xs.map eNode) t] (.sl (xs.map eNode) .no):=Pure.ext (sem:=z5e 5 56) rfl rfl (x6x z4t (z0c z1v) (by rw[z6];omega))
theorem w4y {l:List Term} {u:Tip} (hl:l.length≤2 ^ 20) (hts:∀ t∈l,t.length≤2 ^ 20):Pure Gam 153 [.sl (l.map z0k) u] (.sl (l.map z0k) .no):=by
 refine Pure.of rfl u7k rfl rfl rfl (az:=[.sl (l.map z0k) .no]) rfl (by simp[idsL,AV.ids,z0c z2c]) fun D B clk T hB hT=> ?_
 simp only[go_sem,y7b,z6]
 refine z1t (fun m q=>∃ (i:Nat) (t:Tip) (a o:AObj),i≤l.length∧m=l.length - i∧q.ts 3= .sl ((l.take i).map z0k) t∧q.ts 6= .sl (l.map z0k) .no∧q.ts 7= .int .i64 (l.length:Int)∧q.ts 8= .int .i64 (i:Int)∧q.h=D++[a,o]∧z8x B 1 o t 1) l.length ⟨0, .nil,_,_,by omega,rfl,rfl,rfl,rfl,rfl,rfl, .inl rfl⟩ ?_
 rintro m ⟨ts,h,clk⟩ P ⟨i,t,a,o,hi,rfl,q3,q6,q7,q8,rfl,ht⟩ hnx he hr
 dsimp only at q3 q6 q7 q8
 by_cases hlt:i < l.length
 ·have f1:decide ((i:Int) < (l.length:Int))=true:=by rw[z04];omega
  have f2:IntKind.i64.wrap ((i:Int) + 1)=((i + 1:Nat):Int):=z0e (by omega) (by omega)
  have hix:∀ h,z1m h 1 (.sl (l.map z0k) .no) (.int .i64 (i:Int))=some (.iptr [.sl (l[i].map eNode) .no] 0,h):=fun h=>q5t hlt
  have e8:(l.take i).map z0k++[l[i]].map z0k=(l.take (i + 1)).map z0k:=by rw[w8 hlt,v5]
  have hpx:=hts _ (j9 hlt)
  generalize l[i]=x at *
  simp only[go_sem,j6b,q3,q6,q7,q8,hB,f1,hix,z0a (k5i hpx)]
  rw[show [AV.sl (x.map eNode) .no]=[x].map z0k from rfl,z0q hB rfl ht z4u z4u (by simp only[z6,w0,b6];omega),e8]
  simp only[go_sem,q3,q6,q7,q8,f2]
  exact hnx (l.length - (i + 1)) _ (by omega) ⟨i + 1,_,_,_,hlt,rfl,rfl,q6,q7,rfl,rfl, .inr (.inr ⟨_,rfl,rfl⟩)⟩
 ·have f1:decide ((i:Int) < (l.length:Int))=false:=by rw[z03];omega
  have hti:l.take i=l:=b7 (by omega)
  rw[hti] at q3
  simp only[go_sem,j6b,q3,q6,q7,q8,f1]
  refine he _ _ ?_
  simp only[go_sem,q3]
  rw[z2n rfl (by simp[AV.cv,AV.ids,z0c z2c])]
  exact hT _
theorem v7f {a:App} (hl:a.args.length≤2 ^ 20) (hts:∀ t∈a.args,t.length≤2 ^ 20):Pure Gam 93 [z2b a] (z2b a):=by
 have hp:=w4y (u:= .no) hl hts
 refine Pure.of rfl g5e rfl rfl rfl (az:=[z2b a]) rfl (by simp[idsL,z8b]) fun D B clk T hB hT=> ?_
 simp only[go_sem,g1h,hB,z2b,z1a,z0a hp,z0m,z0l,z0f]
 refine⟨by simp[z1b,apart,z0j,z0z,z1d,AOp.isCall,hB], ?_⟩
 rw[z2n rfl (by simp[AV.cv,cvL,AV.ids,idsL,z0c z2c])]
 exact hT _
theorem y7x {ps:List Func} {u:Tip} (hl:ps.length≤1000) (hpa:∀ f∈ps,f.args.length≤2 ^ 20):Pure Gam 38 [.sl (ps.map z1f) u] (.sl (ps.map z1f) .no):=by
 refine Pure.of rfl g5c rfl rfl rfl (az:=[.sl (ps.map z1f) .no]) rfl (by simp[idsL,AV.ids,z0c z5g]) fun D B clk T hB hT=> ?_
 simp only[go_sem,g1f,z6]
 refine z1t (fun m q=>∃ (i:Nat) (t:Tip) (a b o:AObj),i≤ps.length∧m=ps.length - i∧q.ts 3= .sl ((ps.take i).map z1f) t∧q.ts 6= .sl (ps.map z1f) .no∧q.ts 7= .int .i64 (ps.length:Int)∧q.ts 8= .int .i64 (i:Int)∧q.h=D++[a,b,o]∧z8x B 2 o t 3) ps.length ⟨0, .nil,_,_,_,by omega,rfl,rfl,rfl,rfl,rfl,rfl, .inl rfl⟩ ?_
 rintro m ⟨ts,h,clk⟩ P ⟨i,t,a,b,o,hi,rfl,q3,q6,q7,q8,rfl,ht⟩ hnx he hr
 dsimp only at q3 q6 q7 q8
 by_cases hlt:i < ps.length
 ·have f1:decide ((i:Int) < (ps.length:Int))=true:=by rw[z04];omega
  have f2:IntKind.i64.wrap ((i:Int) + 1)=((i + 1:Nat):Int):=z0e (by omega) (by omega)
  have hix:=fun h=>z7f (l:=ps) (i:=i) (h:=h) (t:= .no) (k:= .i64) hlt
  have e8:(ps.take i).map z1f++[ps[i]].map z1f=(ps.take (i + 1)).map z1f:=by rw[w8 hlt,v5]
  have hpf:=hpa _ (j9 hlt)
  generalize ps[i]=f at *
  simp only[go_sem,v0k,q3,q6,q7,q8,hB,f1,hix,z0a (y7w hpf)]
  rw[show [AV.agg [.str f.name, .sl (f.args.map nat) .no, .int .i64 (f.result:Int)]]=[f].map z1f from rfl,z0q hB rfl ht z7n z7n (by simp only[z6,w0,b6];omega),e8]
  simp only[go_sem,q3,q6,q7,q8,f2]
  exact hnx (ps.length - (i + 1)) _ (by omega) ⟨i + 1,_,_,_,_,hlt,rfl,rfl,q6,q7,rfl,rfl, .inr (.inr ⟨_,rfl,rfl⟩)⟩
 ·have f1:decide ((i:Int) < (ps.length:Int))=false:=by rw[z03];omega
  have hti:ps.take i=ps:=b7 (by omega)
  rw[hti] at q3
  simp only[go_sem,v0k,q3,q6,q7,q8,f1]
  refine he _ _ ?_
  simp only[go_sem,q3]
  rw[z2n rfl (by simp[AV.cv,AV.ids,z0c z5g])]
  exact hT _
structure SmallC (c:Clause):Prop where
 body:c.body.length≤2 ^ 20
 bargs:∀ a∈c.body,a.args.length≤2 ^ 20∧∀ t∈a.args,t.length≤2 ^ 20
 hargs:c.head.args.length≤2 ^ 20∧∀ t∈c.head.args,t.length≤2 ^ 20
 vars:c.vars.length≤2 ^ 20
 guard:c.guard.length≤2 ^ 20
theorem j3d {n:Nat} (h1:1≤n) (h4:n≤4):Pure Gam 169 [nat n] (.bool true):=by
 refine Pure.of rfl u6o rfl rfl rfl rfl rfl fun D B clk T hB hT=> ?_
 have e1:decide ((1:Int)≤(n:Int))=true:=by rw[z04];omega
 have e2:decide ((n:Int)≤(4:Int))=true:=by rw[z04];omega
 simp only[go_sem,y6b,nat,e1,e2]
 rw[z0d]
 exact hT _
theorem k5j {n:Nat}:Pure Gam 303 [nat n] (.bool (decide (n=2∨n=3))):=by
 refine Pure.of rfl u6n rfl rfl rfl rfl rfl fun D B clk T hB hT=> ?_
 by_cases h2:n=2
 ·subst h2
  simp only[go_sem,w3o,nat,z9,decide_true]
  rw[z0d]
  exact hT _
 ·have e1:decide ((n:Int)=(2:Int))=false:=by rw[z03];omega
  have e2:decide ((n:Int)=(3:Int))=decide (n=2∨n=3):=by rw[decide_eq_decide];omega
  simp only[go_sem,w3o,nat,e1,e2]
  rw[z0d]
  exact hT _
theorem w4z {ss:List Nat} {s o:Nat} {u:Tip} (hl:ss.length≤2 ^ 20) (h:∀ x∈ss,x=s):Pure Gam 302 [.sl (ss.map nat) u,nat s,nat o] (nat o):=by
 refine Pure.of rfl u6m rfl rfl rfl (az:=[.sl (ss.map nat) .no,nat s,nat o]) rfl (by simp[idsL,AV.ids,z0c (fun _=>z3j),z3j]) fun D B clk T hB hT=> ?_
 simp only[go_sem,y6a,nat,hB]
 refine z1t (fun m q=>∃ i:Nat,i≤ss.length∧m=ss.length - i∧q.ts 0= .sl (ss.map nat) .no∧q.ts 1=nat s∧q.ts 2=nat o∧q.ts 7= .int .i64 (i:Int)∧q.h=D) ss.length ⟨0,Nat.zero_le _,by omega,rfl,rfl,rfl,rfl,by simp⟩ ?_
 rintro m ⟨ts,h',clk'⟩ Pq ⟨i,hi,rfl,q0,q1,q2,q7,rfl⟩ hnx he hr
 dsimp only at q0 q1 q2 q7
 by_cases hlt:i < ss.length
 ·have f1:decide ((i:Int) < (ss.length:Int))=true:=by rw[z04];omega
  have f2:IntKind.i64.wrap ((i:Int) + 1)=((i + 1:Nat):Int):=z0e (by omega) (by omega)
  have f3:ss[i]=s:=h _ (j9 hlt)
  simp only[go_sem,j5v,q0,q1,q2,q7,nat,z6,f1,q6w hlt,f3,decide_true,z7,f2]
  exact hnx (ss.length - (i + 1)) _ (by omega) ⟨i + 1,hlt,rfl,q0,q1,q2,rfl,rfl⟩
 ·have f1:decide ((i:Int) < (ss.length:Int))=false:=by rw[z03];omega
  simp only[go_sem,j5v,q0,q1,q2,q7,z6,f1]
  refine he _ _ ?_
  simp only[go_sem,q2]
  rw[z0h rfl rfl]
  exact hT _
theorem w5a {V:List Var} {n:Node} {ss:List Nat} {s:Nat} {ks:Term} (hn:NodeOk V n ss s ks) (hk:n.kids=ss.length):Pure Gam 267 [nat n.op,nat n.kids] (.bool true):=by
 refine Pure.of rfl u6k rfl rfl rfl rfl rfl fun D B clk T hB hT=> ?_
 have e0:∀ k:Nat,decide ((0:Int)≤(k:Int))=true:=fun k=>by rw[z04];omega
 have e1:∀ k:Nat,1≤k→decide ((1:Int)≤(k:Int))=true:=fun k h=>by rw[z04];omega
 cases hn with
 | bool h=>rcases h with rfl | rfl <;> (simp only[go_sem,q2h,nat,bare,z9,z8,decide_true,decide_false];rw[z0d];exact hT _)
 | int h=>simp only[go_sem,q2h,nat,z9,z8,decide_true,decide_false];rw[z0d];exact hT _
 | real h=>simp only[go_sem,q2h,nat,z9,z8,decide_true,decide_false];rw[z0d];exact hT _
 | var h=>simp only[go_sem,q2h,nat,z9,z8,decide_true,decide_false];rw[z0d];exact hT _
 | not=>simp only[go_sem,q2h,nat,bare,z9,z8,decide_true,decide_false];rw[z0d];exact hT _
 | andor h=>rcases h with rfl | rfl <;> (simp only[go_sem,q2h,nat,bare,z9,z8,decide_true,decide_false,e0];rw[z0d];exact hT _)
 | imp=>simp only[go_sem,q2h,nat,bare,z9,z8,decide_true,decide_false];rw[z0d];exact hT _
 | ite h1 h2=>simp only[go_sem,q2h,nat,bare,z9,z8,decide_true,decide_false];rw[z0d];exact hT _
 | eq h1 h2=>simp only[go_sem,q2h,nat,bare,z9,z8,decide_true,decide_false];rw[z0d];exact hT _
 | cmp h hs=>rcases h with rfl | rfl <;> (simp only[go_sem,q2h,nat,bare,z9,z8,decide_true,decide_false];rw[z0d];exact hT _)
 | add h hs=>simp only[go_sem,q2h,nat,bare,z9,z8,decide_true,decide_false,e1 _ h];rw[z0d];exact hT _
 | mul hs hn=>simp only[go_sem,q2h,nat,bare,z9,z8,decide_true,decide_false];rw[z0d];exact hT _
 | div h h1 h2=>rcases h with rfl | rfl <;> (simp only[go_sem,q2h,nat,z9,z8,decide_true,decide_false];rw[z0d];exact hT _)
 | select=>simp only[go_sem,q2h,nat,bare,z9,z8,decide_true,decide_false];rw[z0d];exact hT _
 | store=>simp only[go_sem,q2h,nat,bare,z9,z8,decide_true,decide_false];rw[z0d];exact hT _
 | const=>simp only[go_sem,q2h,nat,bare,z9,z8,decide_true,decide_false];rw[z0d];exact hT _
theorem w5b {V:List Var} {n:Node} {ss:List Nat} {s fi:Nat} {ks:Term} {u:Tip} (hn:NodeOk V n ss s ks) (hl:ss.length≤2 ^ 20) (hf:n.op=15→fi=3):Pure Gam 268 [eNode n,nat fi, .sl (ss.map nat) u] (nat s):=by
 refine Pure.of rfl u6l rfl rfl rfl (az:=[eNode n,nat fi, .sl (ss.map nat) .no]) rfl (by simp[idsL,AV.ids,z0c (fun _=>z3j),z3j,eNode]) fun D B clk T hB hT=> ?_
 have sm:∀ (x o:Nat),(∀ y∈ss,y=x)→Pure Gam 302 [.sl (ss.map nat) .no, .int .i64 (x:Int), .int .i64 (o:Int)] (.int .i64 (o:Int)):=fun x o h=>w4z hl h
 cases hn with
 | bool h=>rcases h with rfl | rfl <;> (simp only[go_sem,q2i,hB,eNode,nat,bare,z9,z8,decide_true,decide_false];rw[z0h rfl rfl];exact hT _)
 | int h=>simp only[go_sem,q2i,hB,eNode,nat,z9,z8,decide_true,decide_false];rw[z0h rfl rfl];exact hT _
 | real h=>simp only[go_sem,q2i,hB,eNode,nat,z9,z8,decide_true,decide_false];rw[z0h rfl rfl];exact hT _
 | var h=>simp only[go_sem,q2i,hB,eNode,nat,z9,z8,decide_true,decide_false];rw[z0h rfl rfl];exact hT _
 | not=>
   have p:=sm 1 1 (by simp)
   simp only[k8,w7,nat,z9] at p
   simp only[go_sem,q2i,hB,eNode,nat,bare,z9,z8,decide_true,decide_false,z0a p];rw[z0h rfl rfl];exact hT _
 | andor h=>
   have p:=sm 1 1 (by simp)
   simp only[List.map_replicate,nat,z9] at p
   rcases h with rfl | rfl <;> (simp only[go_sem,q2i,hB,eNode,nat,bare,z9,z8,decide_true,decide_false,List.map_replicate,z0a p];rw[z0h rfl rfl];exact hT _)
 | imp=>
   have p:=sm 1 1 (by simp)
   simp only[k8,w7,nat,z9] at p
   simp only[go_sem,q2i,hB,eNode,nat,bare,z9,z8,decide_true,decide_false,z0a p];rw[z0h rfl rfl];exact hT _
 | @ite s ks h1 h2=>simp only[go_sem,q2i,hB,eNode,nat,bare,z9,z8,decide_true,decide_false,z2p,q0m,x1n];rw[z0h rfl rfl];exact hT _
 | @eq s ks h1 h2=>
   have p:=sm s 1 (by simp)
   simp only[k8,w7,nat,z9] at p
   simp only[go_sem,q2i,hB,eNode,nat,bare,z9,z8,decide_true,decide_false,z2p,z0a p];rw[z0h rfl rfl];exact hT _
 | @cmp o s ks h hs=>
   have p:=sm s 1 (by simp)
   have q:=k5j (n:=s)
   rw[show decide (s=2∨s=3)=true from decide_eq_true hs] at q
   simp only[k8,w7,nat,z9] at p q
   rcases h with rfl | rfl <;> (simp only[go_sem,q2i,hB,eNode,nat,bare,z9,z8,decide_true,decide_false,z2p,z0a q,z0a p];rw[z0h rfl rfl];exact hT _)
 | @add k s ks h hs=>
   obtain⟨k,rfl⟩:∃ j,k=j + 1:=⟨k - 1,by omega⟩
   have p:=sm s s (by simp)
   have q:=k5j (n:=s)
   rw[show decide (s=2∨s=3)=true from decide_eq_true hs] at q
   simp only[List.replicate_succ,k8,List.map_replicate,nat,z9] at p q
   simp only[go_sem,q2i,hB,eNode,nat,bare,z9,z8,decide_true,decide_false,List.replicate_succ,k8,List.map_replicate,z2p,z0a q,z0a p];rw[z0h rfl rfl];exact hT _
 | @mul s m ks hs hm=>
   have p:=sm s s (by simp)
   obtain rfl:=hf rfl
   simp only[k8,w7,nat,z9] at p
   simp only[go_sem,q2i,hB,eNode,nat,bare,z9,z8,decide_true,decide_false,z2p,z0a p];rw[z0h rfl rfl];exact hT _
 | @div o k ks h h1 h2=>
   have p:=sm 2 2 (by simp)
   simp only[k8,w7,nat,z9] at p
   rcases h with rfl | rfl <;> (simp only[go_sem,q2i,hB,eNode,nat,bare,z9,z8,decide_true,decide_false,z0a p];rw[z0h rfl rfl];exact hT _)
 | select=>simp only[go_sem,q2i,hB,eNode,nat,bare,z9,z8,decide_true,decide_false,z2p,q0m];rw[z0h rfl rfl];exact hT _
 | store=>simp only[go_sem,q2i,hB,eNode,nat,bare,z9,z8,decide_true,decide_false,z2p,q0m,x1n];rw[z0h rfl rfl];exact hT _
 | const=>
   have p:=sm 2 4 (by simp)
   simp only[k8,w7,nat,z9] at p
   simp only[go_sem,q2i,hB,eNode,nat,bare,z9,z8,decide_true,decide_false,z0a p];rw[z0h rfl rfl];exact hT _
theorem x4o {B clk g4:Nat} {D:List AObj} {o0:AObj} {neg:Bool} {A R:List Nat} {v0:AV} {ts:Tmps} {ks:List Kf} {Q:Post} (hd:∀ c∈A,48≤c∧c≤57) (hl:A.length≤100000000) (hB:D.length=B) (h0:ts 0=v0) (h4:ts 4= .ptr (B + 1) g4 0 0) (h5:ts 5= .str (A++47::R)) (h6:ts 6= .int .i64 0) {g2:Nat} (h2:ts 2= .ptr (B + 0) g2 0 0)
  (hQ:∀ (ts':Tmps) (clk':Nat),ts' 0=v0→ts' 2= .ptr (B + 0) g2 0 0→ts' 4= .ptr (B + 1) g4 0 0→ts' 5= .str A→K Gam B (.exit 0) ks ⟨ts',D++[o0, .blk g4 [.agg [.bool neg, .str [], .str R]] false false 0],clk'⟩ Q):K Gam B (.loop q8a) ks ⟨ts,D++[o0, .blk g4 [.agg [.bool neg, .str [], .str [49]]] false false 0],clk⟩ Q:=by
 refine z1t (fun m q=>∃ j:Nat,j≤A.length∧m=A.length - j∧q.ts 0=v0∧q.ts 2= .ptr (B + 0) g2 0 0∧q.ts 4= .ptr (B + 1) g4 0 0∧q.ts 5= .str (A++47::R)∧q.ts 6= .int .i64 (j:Int)∧q.h=D++[o0, .blk g4 [.agg [.bool neg, .str [], .str [49]]] false false 0]) A.length ⟨0,by omega,rfl,h0,h2,h4,h5,h6,rfl⟩ ?_
 clear h0 h2 h4 h5 h6
 rintro m ⟨ts,h,clk⟩ P ⟨j,hj,rfl,h0,h2,h4,h5,h6,rfl⟩ hn he hr
 dsimp only at h0 h2 h4 h5 h6
 have e1:decide ((j:Int) < ((A++47::R).length:Int))=true:=by rw[z04];simp;omega
 have e4:IntKind.i64.wrap ((j:Int) + 1)=((j + 1:Nat):Int):=z0e (by omega) (by omega)
 have hlt':j < (A++47::R).length:=by simp;omega
 by_cases hlt:j < A.length
 ·have hc:=hd A[j] (j9 hlt)
  have e0:(A++47::R)[j]=A[j]:=List.getElem_append_left hlt
  have e2:decide ((A[j]:Int)=47)=false:=by rw[z03];omega
  simp only[go_sem,h0,h2,h4,h5,h6,q8a,e1,q1f hlt',e0,e2,e4]
  exact hn (A.length - (j + 1)) _ (by omega) ⟨j + 1,hlt,rfl,h0,h2,h4,h5,rfl,rfl⟩
 ·obtain rfl:j=A.length:=by omega
  have e0:(A++47::R)[A.length]=47:=by simp
  have e5:∀ h,slV h none (.str (A++47::R)) (some (.int .i64 ((A.length + 1:Nat):Int))) none none=some (.str R,h):=fun h=>by
   have h1:(0:Int)≤(A.length:Int) + 1:=by omega
   have h2:(A++47::R).take (A.length + (R.length + 1))=A++47::R:=b7 (by simp)
   have h3:(A++47::R).drop (A.length + 1)=R:=by rw[←List.drop_drop,List.drop_left];rfl
   simp[slV,z2y,z5b,h1,h2,h3]
  have e6:∀ h,slV h none (.str (A++47::R)) none (some (.int .i64 (A.length:Int))) none=some (.str A,h):=fun h=>by simp[slV,z2y,z5b]
  simp only[go_sem,h0,h2,h4,h5,h6,q8a,e1,q1f hlt',e0,e4,e5,e6,hB,z1a,z9,decide_true]
  refine⟨by simp[z1b,apart,z0j,z0z,z1d,AOp.isCall,hB], ?_⟩
  refine he _ _ ?_
  exact hQ _ _ (by simp[z0b,h0]) (by simp[z0b,h2]) (by simp[z0b,h4]) (by simp[z0b,h5])
theorem j6m {z:Int} {d:Nat} (hl:(dec z.natAbs).length≤50000000) (h2:2≤d) (hld:(dec d).length≤50000000) (hg:Nat.gcd z.natAbs d=1):Pure Gam 165 [.str (z0i z++47::dec d)] (.tup [q0a (decide (z < 0)) z.natAbs d, .bool true]):=by
 have hdn:=z1l z.natAbs
 have hdne:=z7x z.natAbs
 have hdig:q8b (dec z.natAbs):=⟨hdne,hdn⟩
 have hdig2:q8b (dec d):=⟨z7x d,z1l d⟩
 have hz0:z.natAbs≠0:=fun h=>by rw[h,Nat.gcd_zero_left] at hg;omega
 have hp1:Pure Gam 207 [.str (dec d)] (.bool true):=q6x hdig2 (by omega)
 have hp2:Pure Gam 208 [.str (dec d)] (.str (dec d)):=by have:=q1g hdig2;rwa [z1s] at this
 have hp3:Pure Gam 208 [.str (dec z.natAbs)] (.str (dec z.natAbs)):=by have:=q1g hdig;rwa [z1s] at this
 have hp4:∀ neg:Bool,Pure Gam 230 [.bool neg, .str (dec z.natAbs), .str (dec d)] (q0a neg z.natAbs d):=fun neg=>by
  have:=x1f (neg:=neg) (a:=z.natAbs) (b:=d) (by omega) hl (by omega)
  rw[hg,Nat.div_one,Nat.div_one] at this
  simpa [hz0] using this
 have hp5:∀ neg:Bool,Pure Gam 231 [q0a neg z.natAbs d] (.str (z3o neg z.natAbs d)):=fun neg=>q6z hl (by omega)
 have e1:decide (dec d=[48])=false:=by rw[z03,q4n];omega
 have e2:decide (dec z.natAbs=dec z.natAbs)=true:=by simp
 have e2':decide (dec d=dec d)=true:=by simp
 have hd1:dec d≠[49]:=fun h=>by rw[x3y] at h;omega
 refine Pure.of rfl y4o rfl rfl rfl rfl rfl fun D B clk T hB hT=> ?_
 by_cases hz:z < 0
 ·have he:z0i z=45::dec z.natAbs:=by rw[z0i,if_pos hz]
  have hdz:decide (z < 0)=true:=by simp[hz]
  rw[he,d4]
  simp only[go_sem,k4f,hB,z1a,j5,z6k,z9,x1b,decide_true,decide_false,z8]
  refine⟨by simp[z1b,apart,z0j,z0z,z1d,AOp.isCall,hB], ?_⟩
  refine x4o (v0:= .str (45::(dec z.natAbs++47::dec d))) hdn (by omega) hB rfl rfl rfl rfl rfl ?_
  intro ts2 clk2 q0 q2 q4 q5
  have e3:decide (z3o true z.natAbs d=45::(dec z.natAbs++47::dec d))=true:=by rw[z04];simp[z3o];omega
  simp only[go_sem,q0,q2,q4,q5,hB,z1a,z0a (q6x hdig (by omega)),z0a hp1,z0a hp2,z0a hp3,z0a (hp4 true),z0a (hp5 true),e1,e2,e2',e3,z7,j5,decide_true,decide_false]
  refine⟨by simp[z1b,apart,z0j,z0z,z1d,AOp.isCall,hB], ?_⟩
  rw[z0h rfl rfl]
  rw[hdz] at hT
  exact hT _
 ·have he:z0i z=dec z.natAbs:=by rw[z0i,if_neg hz]
  have hdz:decide (z < 0)=false:=by simp[hz]
  rw[he]
  obtain⟨c,t,hct⟩:=List.exists_cons_of_ne_nil hdne
  have hc:=hdn c (by rw[hct];exact v9)
  have e0:decide (dec z.natAbs++47::dec d=[])=false:=by simp
  have e00:∀ h k,q4k h (.str (dec z.natAbs++47::dec d)) (.int k 0)=some (.int .u8 (c:Int),h):=fun h k=>by rw[hct];exact z6k
  have ec:decide ((c:Int)=45)=false:=by rw[z03];omega
  simp only[go_sem,k4f,hB,z1a,j5,e0,e00,ec,z9,decide_true,decide_false,z8]
  refine x4o (v0:= .str (dec z.natAbs++47::dec d)) hdn (by omega) hB rfl rfl rfl rfl rfl ?_
  intro ts2 clk2 q0 q2 q4 q5
  have e3:decide (z3o false z.natAbs d=dec z.natAbs++47::dec d)=true:=by rw[z04];simp[z3o];omega
  simp only[go_sem,q0,q2,q4,q5,hB,z1a,z0a (q6x hdig (by omega)),z0a hp1,z0a hp2,z0a hp3,z0a (hp4 false),z0a (hp5 false),e1,e2,e2',e3,z7,j5,decide_true,decide_false]
  refine⟨by simp[z1b,apart,z0j,z0z,z1d,AOp.isCall,hB], ?_⟩
  rw[z0h rfl rfl]
  rw[hdz] at hT
  exact hT _
end Go.Proofs.YtkollgjffkdliaaGreatDoor.Am
