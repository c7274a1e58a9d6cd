/- Walking: the names of a term Walking: sorts, variables and functions of a term Walking: terms in a scope Walking: atoms of a clause are checked Walking: variables of a clause are checked Walking: a cl -/
import Derived.Test.YtkollgjffkdliaaGreatDoorK25
open Bool renaming false_eq_true → j9,not_false → x6,not_true → z8
open Int renaming reduceLT → u6
open List renaming append_assoc → u4,append_eq_nil_iff → n7,append_nil → w9,cons_append → y6,getElem?_eq_some_iff → x9,getElem_mem → x8,length_map → z6,length_nil → u3,map_append → v8,map_cons → j4,mem_append → x4,mem_cons → j6,mem_cons_of_mem → v7,mem_cons_self → j7,mem_map → w0,mem_of_getElem? → m6,mem_of_mem_take → d6,mem_singleton → y3,take_of_length_le → u0,take_succ_eq_append_getElem → w7
open Nat renaming zero_add → k6
open Option renaming map_some → j5
set_option linter.all false
namespace Go.Proofs.YtkollgjffkdliaaGreatDoor.Am
open Go
set_option maxRecDepth 100000
section
variable {U:List Var} [UOk U]
def q6k (gV:Nat) (t:Term) (sP gP:Nat):AObj:= .blk gV [.agg [z0w t, .ob sP gP 0 t.length]] false false 0
def j4p (gP:Nat) (P:List Pt):AObj:= .blk gP (P.map ePt) true false 0
def x1t (s sP gV gP:Nat) (t:Term) (P:List Pt):List (Nat×AObj):=[(s,q6k gV t sP gP),(sP,j4p gP P)]
theorem j4q {s sP gV gP:Nat} {t:Term} {P:List Pt}:Cov (x1t s sP gV gP t P) [s]:=by
 refine Cov.two ?_ ?_
 ·simp[q6k,AObj.ids,z0i,AV.ids,z3z]
 ·simp[j4p,AObj.ids,z0d (f:=ePt) fun _=>rfl]
theorem k8m {s sP gV gP:Nat} {t:Term} {P:List Pt} {p:Pt} (hl:t.length≤20000) (hP:P[0]? =some p) (hd:p.depth≤257) (hPl:P.length=t.length):Reads (x1t s sP gV gP t P) 194 [.ptr s gV 0 0] (.bool false):=by
 refine Reads.of rfl y9r rfl rfl rfl rfl j4q fun D B clk T hB hS hlt hT=> ?_
 have h1:=hlt (s,q6k gV t sP gP) (by simp[x1t])
 have h2:=hlt (sP,j4p gP P) (by simp[x1t])
 have b1:=z2m (g:=gV) (hS (s,q6k gV t sP gP) (by simp[x1t]))
 have b2:=z2m (g:=gP) (hS (sP,j4p gP P) (by simp[x1t]))
 dsimp only at h1 h2 b1 b2
 have hpos:0 < t.length:=by
  rw[←hPl]
  rw[x9] at hP
  exact hP.1
 have hg:(P.map ePt)[0]? =some (.agg [.int .i64 (p.sort:Int), .int .i64 (p.depth:Int), .int .i64 (p.fin:Int)]):=x5l hP
 have hix:∀ L,z1v (D++L) 3 (.ob sP gP 0 t.length) (.int .i64 0)=some (.ptr sP gP 0 0,D++L):=fun L=>by
  have:z2f (D++L) sP gP=some (P.map ePt,true,false,0):=by rw[z1y hB h2,b2]
  simp only[z1v,Int.le_refl,if_true,this,Int.toNat_zero,Nat.add_zero,hg]
  rw[if_pos ⟨hpos,rfl⟩]
 have e1:decide ((20000:Int) < (t.length:Int))=false:=by rw[n9];omega
 have e2:decide ((257:Int) < (p.depth:Int))=false:=by rw[n9];omega
 simp only[go_sem,y1k,z1y hB h1,b1,z1y hB h2,b2,z0w,z6,e1,hix,hg,e2]
 rw[z0e]
 exact hT _ hS.app
theorem x5o {s sP gV gP:Nat} {t:Term} {P:List Pt} {V:List Var} (hl:t.length≤20000) (hn:x0l V t) (hV:∀ v∈V,v∈U):Reads (x1t s sP gV gP t P) 193 [.ptr s gV 0 0] (.tup [.sl ((z3i t []).map z2b) .no, .sl [] .no, .bool true]):=by
 refine Reads.of rfl y9p rfl rfl rfl rfl j4q fun D B clk T hB hS hlt hT=> ?_
 have h1:=hlt (s,q6k gV t sP gP) (by simp[x1t])
 have b1:=z2m (g:=gV) (hS (s,q6k gV t sP gP) (by simp[x1t]))
 dsimp only at h1 b1
 simp only[go_sem,y1i,hB,z1y hB h1,b1,z0w,z6]
 refine z1f (fun m q=>∃ (i:Nat) (u:Tip) (g0 g1:Nat) (o2 o3 o4 o5 o6 o7 o8 o9 o10 o11:AObj),i≤t.length∧m=t.length - i∧q.ts 5= .mp (B + 0) g0∧q.ts 6= .mp (B + 1) g1∧q.ts 7= .sl ((z3i (t.take i) []).map z2b) u∧q.ts 8= .sl [] .nil∧q.ts 25= .sl (t.map eNode) .no∧q.ts 26= .int .i64 (t.length:Int)∧q.ts 27= .int .i64 (i:Int)∧q.h=D++[.map g0 (q1z (z3i (t.take i) [])), .map g1 [],o2,o3,o4,o5,o6,o7,o8,o9,o10,o11]∧q3e B 5 o5 u 2) t.length ⟨0, .nil,_,_,_,_,_,_,_,_,_,_,_,_,by omega,rfl,rfl,rfl,rfl,rfl,rfl,rfl,rfl,rfl, .inl rfl⟩ ?_
 rintro m ⟨ts,h,clk⟩ Pq ⟨i,u,g0,g1,o2,o3,o4,o5,o6,o7,o8,o9,o10,o11,hi,rfl,q5,q6,q7,q8,q25,q26,q27,rfl,hu⟩ hnx he hr
 dsimp only at q5 q6 q7 q8 q25 q26 q27
 have hacc:∀ v∈z3i (t.take i) [],v∈V:=q2v (fun n hn'=>hn n (d6 hn')) (by simp)
 by_cases hlt':i < t.length
 ·have e1:decide ((i:Int) < (t.length:Int))=true:=by rw[r8];omega
  have e2:IntKind.i64.wrap ((i:Int) + 1)=((i + 1:Nat):Int):=z0c (by omega) (by omega)
  have hti:t[i]? =some t[i]:=by simp[hlt']
  obtain⟨hn5,hn4⟩:=hn _ (x8 hlt')
  have htake:t.take (i + 1)=t.take i++[t[i]]:=w7 hlt'
  generalize t[i]=n at hti hn5 hn4 htake
  have hvo:z3i (t.take (i + 1)) []=if n.op=4∧(⟨n.name,n.sort⟩:Var)∉z3i (t.take i) [] then z3i (t.take i) []++[⟨n.name,n.sort⟩] else z3i (t.take i) []:=by
   rw[htake,x5m]
   simp only[z3i]
  by_cases h4:n.op=4
  ·obtain⟨v,hv,e3,e4⟩:=hn4 h4
   have hfk:=q7h (hV v hv) (acc:=z3i (t.take i) []) fun w hw=>hV w (hacc w hw)
   have hf0:findKey (.one .str) (.str v.name) []=some none:=rfl
   have f4:decide ((n.op:Int)=4)=true:=by rw[r8];omega
   have hve:(⟨n.name,n.sort⟩:Var)=v:=by rw[e3,e4]
   rw[hve] at hvo
   by_cases hin:v∈z3i (t.take i) []
   ·rw[if_pos hin] at hfk
    rw[if_neg (fun hc=>hc.2 hin)] at hvo
    simp only[go_sem,x2z,q5,q6,q7,q8,q25,q26,q27,hB,e1,z2s hti,f4,e3,e4,z2p,x0n hfk,x0n hf0,x3g,q0d,z2b,nat,z8,decide_true,e2]
    rw[←hvo] at q7⊢
    exact hnx (t.length - (i + 1)) _ (by omega) ⟨i + 1,u,g0,g1,_,_,_,_,_,_,_,_,_,_,hlt',rfl,q5,q6,q7,q8,q25,q26,rfl,rfl,hu⟩
   ·rw[if_neg hin] at hfk
    rw[if_pos ⟨h4,hin⟩] at hvo
    have hput:=x0m (hV v hv) (acc:=z3i (t.take i) []) (fun w hw=>hV w (hacc w hw)) hin
    have hmu:∀ L:List AObj,z5d L 0 g0=some (q1z (z3i (t.take i) []))→muV (D++L) (.one .str) (.str v.name) (.agg [.str v.name, .int .i64 (v.sort:Int)]) (.mp (B + 0) g0)=some (.undef,D++L.set 0 (.map g0 (q1z (z3i (t.take i) []++[v])))):=fun L hL=>x8y (v:=z2b v) hB hL rfl hput
    have hlen:(z3i (t.take i) []).length≤20000:=by
     have:=q2w (t:=t.take i) (acc:=[])
     rw[List.length_take] at this
     simp only[u3] at this
     omega
    simp only[go_sem,x2z,q5,q6,q7,q8,q25,q26,q27,hB,e1,z2s hti,f4,e3,e4,z2p,x0n hfk,q0d,x6,hmu]
    have e8:(z3i (t.take i) []).map z2b++[AV.agg [AV.str v.name,AV.int .i64 (v.sort:Int)]]=(z3i (t.take (i + 1)) []).map z2b:=by rw[hvo,v8];rfl
    rw[show [AV.agg [AV.str v.name,AV.int .i64 (v.sort:Int)]]=[v].map z2b from rfl,z1c hB rfl hu z5h z5h (by simp only[z6,List.length_singleton];omega)]
    simp only[go_sem,q5,q6,q7,q8,q25,q26,q27,hB,z2p,x0n hf0,q0d,decide_true,z8,e2,z2b,nat,e8,←hvo]
    exact hnx (t.length - (i + 1)) _ (by omega) ⟨i + 1,_,g0,g1,_,_,_,_,_,_,_,_,_,_,hlt',rfl,q5,q6,rfl,q8,q25,q26,rfl,rfl, .inr (.inr ⟨_,rfl,rfl⟩)⟩
  ·rw[if_neg (fun hc=>h4 hc.1)] at hvo
   have f4:decide ((n.op:Int)=4)=false:=by rw[n9];omega
   have f5:decide ((n.op:Int)=5)=false:=by rw[n9];omega
   simp only[go_sem,x2z,q5,q6,q7,q8,q25,q26,q27,hB,e1,z2s hti,f4,f5,e2]
   rw[←hvo] at q7⊢
   exact hnx (t.length - (i + 1)) _ (by omega) ⟨i + 1,u,g0,g1,_,_,_,_,_,_,_,_,_,_,hlt',rfl,q5,q6,q7,q8,q25,q26,rfl,rfl,hu⟩
 ·have e1:decide ((i:Int) < (t.length:Int))=false:=by rw[n9];omega
  have hti:t.take i=t:=u0 (by omega)
  rw[hti] at q7
  simp only[go_sem,x2z,q5,q6,q7,q8,q25,q26,q27,hB,e1]
  refine he _ _ ?_
  simp only[go_sem,q7,q8]
  rw[z0h rfl (by simp[z1k,AV.cv,cvL,AV.ids,z0i,z0d (f:=z2b) fun _=>rfl])]
  exact hT _ hS.app
end
section
variable {U:List Var} [UOk U]
theorem x5p {D:List AObj} {B:Nat} {t:Term} {gP gV g2:Nat} {P:List Pt} {o3 o4 o5 o6 o7 o8 o9:AObj} (hB:D.length=B):Has (x1t (B + 1) (B + 0) gV gP t P) (z7k D B t gP gV g2 P o3 o4 o5 o6 o7 o8 o9):=by
 refine Has.cons ?_ (Has.cons ?_ Has.nil)
 ·simp only[z7k,z2u hB];rfl
 ·simp only[z7k,z2u hB];rfl
theorem WF.pos {V:List Var} {s d:Nat} {t:Term} (h:WF V [s] d t):0 < t.length:=by
 cases h with
 | cons=>simp
theorem w0i {V:List Var} {s d:Nat} {t:Term} {u:Tip} {h:List AObj} {clk:Nat} {Q:AV→List AObj→Nat→Prop} (ht:WF V [s] d t) (hV:∀ v∈V,v∈U) (hl:t.length≤20000) (hd:d≤257)
  (hQ:∀ gP gV g2 P dep o3 o4 o5 o6 o7 o8 o9 c,P.length=t.length→P[0]? =some ⟨s,dep,t.length⟩→dep≤d→Q (.tup [.ptr (h.length + 1) gV 0 0, .bool true]) (z7k h h.length t gP gV g2 P o3 o4 o5 o6 o7 o8 o9) c):WC Gam 226 [.sl (t.map eNode) u] h clk Q:=by
 refine x0k rfl y9o rfl rfl rfl (az:=[.sl (t.map eNode) .no]) rfl (by simp[z0i,AV.ids,z0d z2x]) fun D B R hB hBh hR=> ?_
 have hpos:=ht.pos
 have e1:decide ((t.length:Int)=0)=false:=by rw[n9];omega
 have e2:decide ((20000:Int) < (t.length:Int))=false:=by rw[n9];omega
 simp only[go_sem,y1h,hB,z6,e1,e2,w9]
 refine z6t (u0t ht hV hl (by omega) fun gP gV g2 P dep o3 o4 o5 o6 o7 o8 o9 c hPl hp hdep=> ?_)
 rw[hB]
 have r1:=k8m (s:=B + 1) (sP:=B + 0) (gV:=gV) (gP:=gP) hl hp (by dsimp only;omega) hPl
 have r2:=x5o (s:=B + 1) (sP:=B + 0) (gV:=gV) (gP:=gP) (P:=P) hl ht.names hV
 have hh:=x5p (t:=t) (gP:=gP) (gV:=gV) (g2:=g2) (P:=P) (o3:=o3) (o4:=o4) (o5:=o5) (o6:=o6) (o7:=o7) (o8:=o8) (o9:=o9) hB
 simp only[go_sem,z8,z0u r1 hh,z0u r2 hh]
 rw[q2u rfl]
 have:=fun gP gV g2 c=>hQ gP gV g2 P dep o3 o4 o5 o6 o7 o8 o9 c hPl hp hdep
 simp only[←hBh] at this
 exact hR _ _ ⟨B + 1,by simp[z1k,AV.cv,cvL,AV.ids,z0i],by omega⟩ fun c=>this _ _ _ c
theorem w0j {V:List Var} {s d:Nat} {t:Term} {u:Tip} (ht:WF V [s] d t) (hV:∀ v∈V,v∈U) (hl:t.length≤20000) (hd:d≤257):Pure Gam 157 [.sl (t.map eNode) u] (nat s):=by
 refine Pure.of rfl y9l rfl rfl rfl (az:=[.sl (t.map eNode) .no]) rfl (by simp[z0i,AV.ids,z0d z2x]) fun D B clk T hB hT=> ?_
 simp only[go_sem,y1e,w9]
 refine z6t (w0i ht hV hl hd fun gP gV g2 P dep o3 o4 o5 o6 o7 o8 o9 c hPl hp hdep=> ?_)
 rw[hB]
 have hix:∀ L,z1v (D++ .blk gP (P.map ePt) true false 0::L) 3 (.ob (B + 0) gP 0 t.length) (.int .i64 0)=some (.ptr (B + 0) gP 0 0,D++ .blk gP (P.map ePt) true false 0::L):=fun L=>q7u (i:=0) hB hp hPl
 simp only[go_sem,z8,z7k,hB,hix,x5l hp]
 rw[z2c]
 exact hT _
theorem w0k {V:List Var} {s d:Nat} {t:Term} {u:Tip} (ht:WF V [s] d t) (hV:∀ v∈V,v∈U) (hl:t.length≤20000) (hd:d≤257):Pure Gam 158 [.sl (t.map eNode) u] (.sl [] .no):=by
 refine Pure.of rfl y9m rfl rfl rfl (az:=[.sl (t.map eNode) .no]) rfl (by simp[z0i,AV.ids,z0d z2x]) fun D B clk T hB hT=> ?_
 simp only[go_sem,y1f,w9]
 refine z6t (w0i ht hV hl hd fun gP gV g2 P dep o3 o4 o5 o6 o7 o8 o9 c hPl hp hdep=> ?_)
 rw[hB]
 have r2:=x5o (s:=B + 1) (sP:=B + 0) (gV:=gV) (gP:=gP) (P:=P) hl ht.names hV
 have hh:=x5p (t:=t) (gP:=gP) (gV:=gV) (g2:=g2) (P:=P) (o3:=o3) (o4:=o4) (o5:=o5) (o6:=o6) (o7:=o7) (o8:=o8) (o9:=o9) hB
 simp only[go_sem,z8,z0u r2 hh]
 rw[z0h rfl rfl]
 exact hT _
theorem w0l {V:List Var} {s d:Nat} {t:Term} {u:Tip} (ht:WF V [s] d t) (hV:∀ v∈V,v∈U) (hl:t.length≤20000) (hd:d≤257):Pure Gam 160 [.sl (t.map eNode) u] (.sl ((z3i t []).map z2b) .no):=by
 refine Pure.of rfl y9n rfl rfl rfl (az:=[.sl (t.map eNode) .no]) rfl (by simp[z0i,AV.ids,z0d z2x]) fun D B clk T hB hT=> ?_
 simp only[go_sem,y1g,w9]
 refine z6t (w0i ht hV hl hd fun gP gV g2 P dep o3 o4 o5 o6 o7 o8 o9 c hPl hp hdep=> ?_)
 rw[hB]
 have r2:=x5o (s:=B + 1) (sP:=B + 0) (gV:=gV) (gP:=gP) (P:=P) hl ht.names hV
 have hh:=x5p (t:=t) (gP:=gP) (gV:=gV) (g2:=g2) (P:=P) (o3:=o3) (o4:=o4) (o5:=o5) (o6:=o6) (o7:=o7) (o8:=o8) (o9:=o9) hB
 simp only[go_sem,z8,z0u r2 hh]
 rw[z2y rfl (by simp[AV.cv,AV.ids,z0d (f:=z2b) fun _=>rfl])]
 exact hT _
end
section
variable {U:List Var} [UOk U]
theorem j4r {D:List AObj} {s g:Nat} {es:List (AV×AV)} (h:D[s]? =some (.map g es)):z5d D s g=some es:=by simp[z5d,h]
theorem q6l {D L:List AObj} {B s g:Nat} (hB:D.length=B) (h:s < B):z5d (D++L) s g=z5d D s g:=by
 unfold z5d
 rw[z0m hB h]
def z1l (V:List Var):List (AV×AV):=V.map fun v=>(z2b v, .bool true)
theorem x5q {v w:Var}:(z2b v).eqv (.agg [.str, .int]) (z2b w)=some (decide (v=w)):=by
 have:(decide (v.name=w.name) && (decide ((v.sort:Int)=(w.sort:Int)) && true))=decide (v=w):=by
  rw[Bool.and_true,Bool.eq_iff_iff]
  simp only[Bool.and_eq_true,r8]
  constructor
  ·rintro ⟨h1,h2⟩
   cases v;cases w
   simp only[Var.mk.injEq] at h1 h2⊢
   exact⟨h1,by omega⟩
  ·rintro rfl
   exact⟨rfl,rfl⟩
 rw[←this]
 rfl
theorem x0o {v:Var}:∀ {V:List Var},findKey (.agg [.str, .int]) (z2b v) (z1l V)=some (if v∈V then some (.bool true) else none)
 | []=>rfl
 | w::V=>by
   have ih:=x0o (v:=v) (V:=V)
   unfold z1l at ih⊢
   simp only[j4,findKey,x5q]
   by_cases h:v=w
   ·subst h
    simp
   ·simp only[h,decide_false,ih,j6,false_or]
theorem x3h {v:Var}:∀ {V:List Var},v∉V→z6j (.agg [.str, .int]) (z2b v) (.bool true) (z1l V)=some (z1l (V++[v]))
 | [],_=>rfl
 | w::V,hn=>by
   rw[j6,not_or] at hn
   have ih:=x3h (v:=v) (V:=V) hn.2
   unfold z1l at ih⊢
   simp only[j4,y6,z6j,x5q,hn.1,decide_false,ih,j5]
theorem q2a {g:Nat} {V:List Var}:(AObj.map g (z1l V)).ids=[]:=by
 simp only[AObj.ids,z1l,List.map_map,n7]
 constructor
 ·have:(Prod.fst∘fun v:Var=>(z2b v,AV.bool true))=z2b:=rfl
  rw[this]
  exact z0d fun _=>rfl
 ·exact z0d (f:=Prod.snd∘fun v:Var=>(z2b v,AV.bool true)) fun _=>rfl
theorem v3m {h:List AObj} {z:AV} {v:Var} {V:List Var}:lkV h (.agg [.str, .int]) z false (some (z1l V)) (.agg [.str v.name, .int .i64 (v.sort:Int)])=some (q4f false z (if v∈V then some (.bool true) else none),h):=by
 have h1:((z2b v).eqv (.agg [.str, .int]) (z2b v)).isSome=true:=by rw[x5q];rfl
 have h2:=x0o (v:=v) (V:=V)
 rw[show z2b v= .agg [.str v.name, .int .i64 (v.sort:Int)] from rfl] at h1 h2
 simp only[lkV,h1,if_true,h2,j5]
theorem k8n {s g sX gX:Nat} {v:Var} {V:List Var}:Reads [(s, .blk g [.mp sX gX] false false 0),(sX, .map gX (z1l V))] 256 [z2b v, .ptr s g 0 0] (.bool (!decide (v∈V))):=by
 refine Reads.of rfl u0q rfl rfl rfl (az:=[z2b v, .ptr s g 0 0]) rfl (Cov.two rfl q2a) fun D B clk T hB hS hlt hT=> ?_
 have h1:=hlt (s, .blk g [.mp sX gX] false false 0) (by simp)
 have h2:=hlt (sX, .map gX (z1l V)) (by simp)
 have b1:=z2m (g:=g) (hS (s, .blk g [.mp sX gX] false false 0) (by simp))
 have b2:=j4r (g:=gX) (hS (sX, .map gX (z1l V)) (by simp))
 dsimp only at h1 h2 b1 b2
 by_cases hin:v∈V
 ·simp only[go_sem,w0c,hB,z2b,nat,z1y hB h1,b1,z2p,q6l hB h2,b2,v3m,hin,z5c,z8]
  rw[z0e]
  simp only[hin,decide_true,z8] at hT
  exact hT _ hS.app
 ·simp only[go_sem,w0c,hB,z2b,nat,z1y hB h1,b1,z2p,q6l hB h2,b2,v3m,hin,z3w,x6]
  rw[z0e]
  simp only[hin,decide_false,x6] at hT
  exact hT _ hS.app
theorem Cov.mp1 {s g:Nat} {es:List (AV×AV)} (h:(AObj.map g es).ids=[]):Cov [(s, .map g es)] [s]:=Cov.one h
theorem j4s {sX gX s d:Nat} {V:List Var} {t:Term} {u:Tip} (ht:WF V [s] d t) (hV:∀ v∈V,v∈U) (hl:t.length≤20000) (hd:d≤257):Reads [(sX, .map gX (z1l V))] 204 [.mp sX gX, .sl (t.map eNode) u,nat s] (.bool true):=by
 refine Reads.of rfl u0n rfl rfl rfl (az:=[.mp sX gX, .sl (t.map eNode) .no,nat s]) rfl (by simpa [z0i,AV.ids,z0d z2x,nat] using Cov.mp1 q2a) fun D B clk T hB hS hlt hT=> ?_
 have h2:=hlt (sX, .map gX (z1l V)) (by simp)
 have p1:=w0j (u:= .no) ht hV hl hd
 have p2:=w0k (u:= .no) ht hV hl hd
 have p3:=w0l (u:= .no) ht hV hl hd
 rw[nat] at p1
 have hvl:(z3i t []).length≤2 ^ 20:=by
  have:=q2w (t:=t) (acc:=[])
  simp only[u3] at this
  omega
 have hr:∀ g,Reads [(B + 0, .blk g [.mp sX gX] false false 0),(sX, .map gX (z1l V))] 159 [.sl ((z3i t []).map z2b) .no, .fn 256 [.ptr (B + 0) g 0 0]] (.bool ((z3i t []).any fun v=> !decide (v∈V))):=fun g=>
  k8h (enc:=z2b) (P:=fun v=> !decide (v∈V)) (fun _=>rfl) (fun _ _=>rfl) (fun _=>rfl) hvl (by simpa [z0i,AV.ids] using Cov.two (s:=B + 0) (t:=sX) rfl q2a) fun v _=>k8n
 have e:((z3i t []).any fun v=> !decide (v∈V))=false:=by
  rw[List.any_eq_false]
  intro v hv
  have:=q2v ht.names (acc:=[]) (by simp) v hv
  simp[this]
 rw[e] at hr
 have hh:∀ g,Has [(B + 0, .blk g [.mp sX gX] false false 0),(sX, .map gX (z1l V))] (D++[.blk g [.mp sX gX] false false 0]):=fun g=>by
  refine Has.cons ?_ (Has.cons ?_ Has.nil)
  ·dsimp only;rw[z2u hB];rfl
  ·have:=hS.app (L:=[.blk g [.mp sX gX] false false 0]) (sX, .map gX (z1l V)) (by simp)
   exact this
 simp only[go_sem,y2j,hB,nat,z0a p1,decide_true,z8,z0a p2,u6,decide_false,z0a p3]
 rw[z0u (hr _) (hh _)]
 simp only[go_sem,x6]
 rw[z0e]
 exact hT _ hS.app
end
theorem k2p {s:Nat} (h1:1≤s) (h4:s≤4):Pure Gam 199 [nat s] (.bool true):=by
 refine Pure.of rfl u0r rfl rfl rfl rfl rfl fun D B clk T hB hT=> ?_
 have e1:decide ((1:Int)≤(s:Int))=true:=by rw[r8];omega
 have e2:decide ((s:Int)≤4)=true:=by rw[r8];omega
 simp only[go_sem,y2m,nat,e1,e2]
 rw[z0e]
 exact hT _
def z3x:Nat→List Func→List (AV×AV)
 | _,[]=>[]
 | k,p::ps=>(.str p.name, .int .i64 (k:Int))::z3x (k + 1) ps
theorem j1m {k:Nat} {ps:List Func}:(z3x k ps).length=ps.length:=by
 induction ps generalizing k with
 | nil=>rfl
 | cons p ps ih=>simp[z3x,ih]
theorem k8o {g k:Nat} {ps:List Func}:(AObj.map g (z3x k ps)).ids=[]:=by
 simp only[AObj.ids,n7]
 induction ps generalizing k with
 | nil=>exact⟨rfl,rfl⟩
 | cons p ps ih=>exact⟨by simpa [z3x,z0i,AV.ids] using (ih (k:=k + 1)).1,by simpa [z3x,z0i,AV.ids] using (ih (k:=k + 1)).2⟩
theorem q2b {a:List Nat}:∀ {ps:List Func} {k:Nat},(∀ p∈ps,p.name≠a)→findKey (.one .str) (.str a) (z3x k ps)=some none
 | [],_,_=>rfl
 | p::ps,k,h=>by
   have hne:decide (a=p.name)=false:=decide_eq_false fun e=>h p j7 e.symm
   simp only[z3x,findKey,AV.eqv,AV.eq1,hne]
   exact q2b fun q hq=>h q (v7 _ hq)
theorem q2c:∀ {ps:List Func} {k j:Nat} {f:Func},(ps.map (·.name)).Nodup→ps[j]? =some f→findKey (.one .str) (.str f.name) (z3x k ps)=some (some (.int .i64 ((k + j:Nat):Int)))
 | [],_,_,_,_,h=>by simp at h
 | p::ps,k,0,f,_,h=>by
   simp at h
   subst h
   simp[z3x,findKey,AV.eqv,AV.eq1]
 | p::ps,k,j + 1,f,hn,h=>by
   rw[j4,List.nodup_cons] at hn
   simp only[List.getElem?_cons_succ] at h
   have hne:decide (f.name=p.name)=false:=decide_eq_false fun e=>hn.1 (by rw[←e];exact w0.2 ⟨f,m6 h,rfl⟩)
   simp only[z3x,findKey,AV.eqv,AV.eq1,hne]
   rw[q2c hn.2 h,show k + 1 + j=k + (j + 1) by omega]
theorem x0p {a:List Nat} {n:Nat}:∀ {ps:List Func} {k:Nat} {r:List Nat} {q:Nat},(∀ p∈ps,p.name≠a)→n=k + ps.length→z6j (.one .str) (.str a) (.int .i64 (n:Int)) (z3x k ps)=some (z3x k (ps++[⟨a,r,q⟩]))
 | [],k,r,q,_,hn=>by
   simp at hn
   subst hn
   rfl
 | p::ps,k,r,q,h,hn=>by
   have hne:decide (a=p.name)=false:=decide_eq_false fun e=>h p j7 e.symm
   have ih:=x0p (a:=a) (n:=n) (ps:=ps) (k:=k + 1) (r:=r) (q:=q) (fun q hq=>h q (v7 _ hq)) (by simp at hn;omega)
   simp only[y6,z3x,z6j,AV.eqv,AV.eq1,hne,ih,j5]
def z4s (gC:Nat) (s:Sys) (sP gP:Nat):AObj:= .blk gC [.agg [.sl (s.preds.map z1m) .no, .sl (s.clauses.map z0j) .no, .mp sP gP, .sl [] .nil]] false false 0
def z8y (gP:Nat) (s:Sys):AObj:= .map gP (z3x 0 s.preds)
theorem q6m {gC sP gP:Nat} {s:Sys}:(z4s gC s sP gP).ids=[sP]:=by
 simp[z4s,AObj.ids,z0i,AV.ids,z0d z5g,z0d z4b]
theorem x3i {gP:Nat} {s:Sys}:(z8y gP s).ids=[]:=k8o
structure PrOk (ps:List Func):Prop where
 nodup:(ps.map (·.name)).Nodup
 args:∀ f∈ps,f.args.length≤40∧∀ s∈f.args,1≤s∧s≤4
 name:∀ f∈ps,f.name≠[]
theorem Cov.atom {sC sP sX:Nat} {oC oP oX:AObj} (hC:oC.ids=[sP]) (hP:oP.ids=[]) (hX:oX.ids=[]):Cov [(sC,oC),(sP,oP),(sX,oX)] [sC,sX]:=by
 refine⟨by simp,by simp[hC,hP,hX],fun h hS p hp=> ?_⟩
 have h1:h[sC]? =some oC:=hS (sC,oC) (by simp)
 have hr:reach h (h.length + 1) [] [sC,sX]=reach h h.length [sC] [sP,sX]:=by rw[z8r (by simp) h1,hC];rfl
 rw[hr]
 simp at hp
 rcases hp with rfl | rfl | rfl
 ·exact z5t (.inl j7)
 ·exact z5t (.inr j7)
 ·exact z5t (.inr (v7 _ j7))
theorem j4t {sC gC sP gP sX gX:Nat} {s:Sys} {a:App} {V:List Var} (hp:PrOk s.preds) (ha:AppOk s.preds V a) (hV:∀ v∈V,v∈z1z):Reads [(sC,z4s gC s sP gP),(sP,z8y gP s),(sX, .map gX (z1l V))] 203 [.ptr sC gC 0 0,z4q a, .mp sX gX] (.bool true):=by
 obtain⟨f,hf,hname,hlen,hargs⟩:=ha
 obtain⟨j,hj⟩:=List.getElem?_of_mem hf
 have hjl:j < s.preds.length:=by
  rw[x9] at hj
  exact hj.1
 refine Reads.of rfl u0m rfl rfl rfl (az:=[.ptr sC gC 0 0,z4q a, .mp sX gX]) rfl (by simpa [z0i,AV.ids,z4r] using Cov.atom q6m (x3i (gP:=gP) (s:=s)) q2a) fun D B clk T hB hS hlt hT=> ?_
 have h1:=hlt (sC,z4s gC s sP gP) (by simp)
 have h2:=hlt (sP,z8y gP s) (by simp)
 have b1:=z2m (g:=gC) (hS (sC,z4s gC s sP gP) (by simp))
 have b2:=j4r (g:=gP) (hS (sP,z8y gP s) (by simp))
 dsimp only at h1 h2 b1 b2
 have hfk:=q2c (k:=0) hp.nodup hj
 rw[k6,←hname] at hfk
 have hpl:=hp.args f hf
 have hix:∀ h,z1v h 3 (.sl (s.preds.map z1m) .no) (.int .i64 (j:Int))=some (.iptr [.str f.name, .sl (f.args.map nat) .no,nat f.result] 0,h):=fun h=>by
  have h2:s.preds[j]=f:=by
   rw[x9] at hj
   exact hj.2
  rw[z7u hjl,h2]
 have e1:decide ((a.args.length:Int)=(f.args.length:Int))=true:=by rw[r8];omega
 simp only[go_sem,y2i,hB,z4q,z1y hB h1,b1,z2p,q6l hB h2,b2,x0n hfk,x3g,z8,z6,hix,e1]
 refine z1f (fun m q=>∃ (i:Nat),i≤a.args.length∧m=a.args.length - i∧q.ts 0= .ptr sC gC 0 0∧q.ts 2= .mp sX gX∧q.ts 7= .int .i64 (j:Int)∧q.ts 40= .sl (a.args.map z0w) .no∧q.ts 41= .int .i64 (a.args.length:Int)∧q.ts 42= .int .i64 (i:Int)∧∃ o,q.h=D++[o]) a.args.length ⟨0,by omega,rfl,rfl,rfl,by simp[z0b],rfl,rfl,rfl,_,rfl⟩ ?_
 rintro m ⟨ts,h,clk⟩ Pq ⟨i,hi,rfl,q0,q2,q7,q40,q41,q42,o,rfl⟩ hnx he hr
 dsimp only at q0 q2 q7 q40 q41 q42
 by_cases hlt':i < a.args.length
 ·have f1:decide ((i:Int) < (a.args.length:Int))=true:=by rw[r8];omega
  have f2:IntKind.i64.wrap ((i:Int) + 1)=((i + 1:Nat):Int):=z0c (by omega) (by omega)
  have hia:i < f.args.length:=by omega
  have hix2:∀ h,z1v h 1 (.sl (f.args.map nat) .no) (.int .i64 (i:Int))=some (.iptr [.int .i64 (f.args[i]:Int)] 0,h):=fun h=>q6d hia
  have hz:(f.args[i],a.args[i])∈f.args.zip a.args:=by
   have:(f.args.zip a.args)[i]? =some (f.args[i],a.args[i]):=by simp[List.getElem?_zip_eq_some,hia,hlt']
   exact m6 this
  obtain⟨hwf,hsz,hs1,hs4⟩:=hargs _ hz
  dsimp only at hwf hsz hs1 hs4
  have p1:=k2p hs1 hs4
  have p2:=j4s (sX:=sX) (gX:=gX) (u:= .no) hwf hV (by omega) (by omega)
  rw[nat] at p1 p2
  have hix3:∀ h,z1v h 1 (.sl (a.args.map z0w) .no) (.int .i64 (i:Int))=some (.iptr [.sl (a.args[i].map eNode) .no] 0,h):=fun h=>q5b hlt'
  have hh:Has [(sX, .map gX (z1l V))] (D++[o]):=fun p hp'=>hS.app p (by simp at hp';subst hp';simp)
  simp only[go_sem,j4n,q0,q2,q7,q40,q41,q42,f1,hB,hix3,z1y hB h1,b1,hix,hix2,z0a p1,z8,z0u p2 hh,f2]
  exact hnx (a.args.length - (i + 1)) _ (by omega) ⟨i + 1,hlt',rfl,q0,q2,q7,q40,q41,rfl,o,rfl⟩
 ·have f1:decide ((i:Int) < (a.args.length:Int))=false:=by rw[n9];omega
  simp only[go_sem,j4n,q0,q2,q7,q40,q41,q42,f1]
  refine he _ _ ?_
  simp only[go_sem,]
  rw[z0e]
  exact hT _ hS.app
def z0x (l:List (List Nat)):List (AV×AV):=l.map fun a=>(.str a, .bool true)
theorem x0q {a:List Nat}:∀ {l:List (List Nat)},findKey (.one .str) (.str a) (z0x l)=some (if a∈l then some (.bool true) else none)
 | []=>rfl
 | b::l=>by
   have ih:=x0q (a:=a) (l:=l)
   unfold z0x at ih⊢
   simp only[j4,findKey,AV.eqv,AV.eq1]
   by_cases h:a=b
   ·subst h
    simp
   ·simp only[h,decide_false,ih,j6,false_or]
theorem q2x {a:List Nat}:∀ {l:List (List Nat)},a∉l→z6j (.one .str) (.str a) (.bool true) (z0x l)=some (z0x (l++[a]))
 | [],_=>rfl
 | b::l,hn=>by
   rw[j6,not_or] at hn
   have ih:=q2x (a:=a) (l:=l) hn.2
   unfold z0x at ih⊢
   simp only[j4,y6,z6j,AV.eqv,AV.eq1,hn.1,decide_false,ih,j5]
theorem j1n {g:Nat} {l:List (List Nat)}:(AObj.map g (z0x l)).ids=[]:=by
 simp only[AObj.ids,z0x,List.map_map,n7]
 constructor
 ·exact z0d (f:=Prod.fst∘fun a:List Nat=>(AV.str a,AV.bool true)) fun _=>rfl
 ·exact z0d (f:=Prod.snd∘fun a:List Nat=>(AV.str a,AV.bool true)) fun _=>rfl
theorem z8s {h:List AObj} {z:AV} {a:List Nat} {l:List (List Nat)}:lkV h (.one .str) z false (some (z0x l)) (.str a)=some (q4f false z (if a∈l then some (.bool true) else none),h):=w0h x0q
theorem k8p {sC gC sP gP:Nat} {s:Sys} {V:List Var} {u:Tip} (hp:∀ p∈s.preds,∀ v∈z1z,p.name≠v.name) (hs:V.Sublist z1z):Reads [(sC,z4s gC s sP gP),(sP,z8y gP s)] 201 [.ptr sC gC 0 0, .sl (V.map z2b) u] (.bool true):=by
 have hV:∀ v∈V,v∈z1z:=fun v hv=>hs.mem hv
 have hnd:V.Nodup:=hs.nodup (by decide)
 have hVl:V.length≤8:=hs.length_le
 refine Reads.of rfl u0k rfl rfl rfl (az:=[.ptr sC gC 0 0, .sl (V.map z2b) .no]) rfl (by simpa [z0i,AV.ids,z0d z5z] using Cov.two q6m (x3i (gP:=gP) (s:=s))) fun D B clk T hB hS hlt hT=> ?_
 have h1:=hlt (sC,z4s gC s sP gP) (by simp)
 have h2:=hlt (sP,z8y gP s) (by simp)
 have b1:=z2m (g:=gC) (hS (sC,z4s gC s sP gP) (by simp))
 have b2:=j4r (g:=gP) (hS (sP,z8y gP s) (by simp))
 dsimp only at h1 h2 b1 b2
 simp only[go_sem,y2g,hB,z6]
 refine z1f (fun m q=>∃ (i g:Nat) (o:AObj),i≤V.length∧m=V.length - i∧q.ts 0= .ptr sC gC 0 0∧q.ts 5= .mp (B + 0) g∧q.ts 11= .sl (V.map z2b) .no∧q.ts 12= .int .i64 (V.length:Int)∧q.ts 13= .int .i64 (i:Int)∧q.h=D++[.map g (z0x ((V.take i).map (·.name))),o]) V.length ⟨0,_,_,by omega,rfl,rfl,rfl,rfl,rfl,rfl,rfl⟩ ?_
 rintro m ⟨ts,h,clk⟩ Pq ⟨i,g,o,hi,rfl,q0,q5,q11,q12,q13,rfl⟩ hnx he hr
 dsimp only at q0 q5 q11 q12 q13
 by_cases hlt':i < V.length
 ·have f1:decide ((i:Int) < (V.length:Int))=true:=by rw[r8];omega
  have f2:IntKind.i64.wrap ((i:Int) + 1)=((i + 1:Nat):Int):=z0c (by omega) (by omega)
  have hv:=x8 hlt'
  have hix:∀ h,z1v h 2 (.sl (V.map z2b) .no) (.int .i64 (i:Int))=some (.iptr [.str V[i].name, .int .i64 (V[i].sort:Int)] 0,h):=fun h=>z3v hlt' rfl rfl
  have htake:V.take (i + 1)=V.take i++[V[i]]:=w7 hlt'
  have hnew:V[i].name∉(V.take i).map (·.name):=by
   intro hc
   obtain⟨w,hw,e⟩:=w0.1 hc
   have:w=V[i]:=x5n (hV w (d6 hw)) (hV _ hv) e
   subst this
   have h3:(V.take (i + 1)).Nodup:=hnd.sublist (List.take_sublist _ _)
   rw[htake,List.nodup_append] at h3
   exact h3.2.2 _ hw _ (by simp) rfl
  have hsort:=q5j (hV _ hv)
  have p1:=k2k (hV _ hv)
  have p2:=k2p hsort.1 hsort.2
  rw[nat] at p2
  have hnm:z0x ((V.take (i + 1)).map (·.name))=z0x ((V.take i).map (·.name)++[V[i].name]):=by rw[htake,v8];rfl
  have hfp:=q2b (a:=V[i].name) (k:=0) (ps:=s.preds) fun p hp' e=>hp p hp' _ (hV _ hv) e
  generalize V[i]=v at *
  have hmu:∀ L:List AObj,z5d L 0 g=some (z0x ((V.take i).map (·.name)))→muV (D++L) (.one .str) (.str v.name) (.bool true) (.mp (B + 0) g)=some (.undef,D++L.set 0 (.map g (z0x ((V.take (i + 1)).map (·.name))))):=fun L hL=>by
   rw[hnm]
   exact x8y (v:= .bool true) hB hL rfl (q2x hnew)
  simp only[go_sem,j4m,q0,q5,q11,q12,q13,f1,hB,hix,z1y hB h1,b1,z2p,q6l hB h2,b2,x0n hfp,q0d,z8s,hnew,z3w,z0a p1,z8,z0a p2,hmu,f2]
  exact hnx (V.length - (i + 1)) _ (by omega) ⟨i + 1,g,_,hlt',rfl,q0,q5,q11,q12,rfl,rfl⟩
 ·have f1:decide ((i:Int) < (V.length:Int))=false:=by rw[n9];omega
  simp only[go_sem,j4m,q0,q5,q11,q12,q13,f1]
  refine he _ _ ?_
  simp only[go_sem,]
  rw[z0e]
  exact hT _ hS.app
theorem u0u {V:List Var} {u:Tip} {h:List AObj} {clk:Nat} {Q:AV→List AObj→Nat→Prop} (hs:V.Sublist z1z) (hQ:∀ g o c,Q (.mp h.length g) (h++[.map g (z1l V),o]) c):WC Gam 200 [.sl (V.map z2b) u] h clk Q:=by
 have hnd:V.Nodup:=hs.nodup (by decide)
 have hVl:V.length≤8:=hs.length_le
 refine x0k rfl u0j rfl rfl rfl (az:=[.sl (V.map z2b) .no]) rfl (by simp[z0i,AV.ids,z0d z5z]) fun D B R hB hBh hR=> ?_
 simp only[go_sem,y2f,hB,z6]
 refine z1f (fun m q=>∃ (i g:Nat) (o:AObj),i≤V.length∧m=V.length - i∧q.ts 3= .mp (B + 0) g∧q.ts 7= .sl (V.map z2b) .no∧q.ts 8= .int .i64 (V.length:Int)∧q.ts 9= .int .i64 (i:Int)∧q.h=D++[.map g (z1l (V.take i)),o]) V.length ⟨0,_,_,by omega,rfl,rfl,rfl,rfl,rfl,rfl⟩ ?_
 rintro m ⟨ts,h,clk⟩ Pq ⟨i,g,o,hi,rfl,q3,q7,q8,q9,rfl⟩ hnx he hr
 dsimp only at q3 q7 q8 q9
 by_cases hlt':i < V.length
 ·have f1:decide ((i:Int) < (V.length:Int))=true:=by rw[r8];omega
  have f2:IntKind.i64.wrap ((i:Int) + 1)=((i + 1:Nat):Int):=z0c (by omega) (by omega)
  have hix:∀ h,z1v h 2 (.sl (V.map z2b) .no) (.int .i64 (i:Int))=some (.iptr [.str V[i].name, .int .i64 (V[i].sort:Int)] 0,h):=fun h=>z3v hlt' rfl rfl
  have htake:V.take (i + 1)=V.take i++[V[i]]:=w7 hlt'
  have hnew:V[i]∉V.take i:=by
   intro hc
   have h3:(V.take (i + 1)).Nodup:=hnd.sublist (List.take_sublist _ _)
   rw[htake,List.nodup_append] at h3
   exact h3.2.2 _ hc _ (by simp) rfl
  generalize V[i]=v at *
  have hput:=x3h hnew
  have hmu:∀ L:List AObj,z5d L 0 g=some (z1l (V.take i))→muV (D++L) (.agg [.str, .int]) (.agg [.str v.name, .int .i64 (v.sort:Int)]) (.bool true) (.mp (B + 0) g)=some (.undef,D++L.set 0 (.map g (z1l (V.take (i + 1))))):=fun L hL=>by
   have hpub:pub (D++L) (.bool true)=some (.bool true,D++L):=rfl
   have he:((AV.agg [.str v.name, .int .i64 (v.sort:Int)]).eqv (.agg [.str, .int]) (.agg [.str v.name, .int .i64 (v.sort:Int)])).isSome=true:=by
    have:=x5q (v:=v) (w:=v)
    rw[show z2b v= .agg [.str v.name, .int .i64 (v.sort:Int)] from rfl] at this
    rw[this]
    rfl
   have hput':z6j (.agg [.str, .int]) (.agg [.str v.name, .int .i64 (v.sort:Int)]) (.bool true) (z1l (V.take i))=some (z1l (V.take (i + 1))):=by rw[htake];exact hput
   simp only[muV,x4t hB,hL,hpub,he,if_true,hput',j5,z2o hB]
  simp only[go_sem,k2i,q3,q7,q8,q9,f1,hB,hix,hmu,f2]
  exact hnx (V.length - (i + 1)) _ (by omega) ⟨i + 1,g,_,hlt',rfl,q3,q7,q8,rfl,rfl⟩
 ·have f1:decide ((i:Int) < (V.length:Int))=false:=by rw[n9];omega
  have hti:V.take i=V:=u0 (by omega)
  simp only[go_sem,k2i,q3,q7,q8,q9,f1]
  refine he _ _ ?_
  simp only[go_sem,q3]
  rw[q2u rfl,hti]
  refine hR _ _ ⟨B + 0,by simp[z1k,AV.cv,AV.ids],by omega⟩ fun c=> ?_
  have:=hQ g o c
  rw[←hBh] at this
  exact this
mutual
theorem x5r:∀ (a:AV),a.beq a=true
 | .undef=>rfl
 | .int _ _=>by simp[AV.beq]
 | .bool _=>by simp[AV.beq]
 | .str _=>by simp[AV.beq]
 | .agg cs=>by simp[AV.beq,z8t cs]
 | .tup cs=>by simp[AV.beq,z8t cs]
 | .sl cs _=>by simp[AV.beq,z8t cs]
 | .ob .. =>by simp[AV.beq]
 | .ptr .. =>by simp[AV.beq]
 | .iptr cs _=>by simp[AV.beq,z8t cs]
 | .nilptr=>rfl
 | .mp .. =>by simp[AV.beq]
 | .nilmap=>rfl
 | .fn _ cs=>by simp[AV.beq,z8t cs]
 | .nilfn=>rfl
 | .nilif=>rfl
 | .bwd _ x=>by simp[AV.beq,x5r x]
theorem z8t:∀ (l:List AV),j5u l l=true
 | []=>rfl
 | a::l=>by simp[j5u,x5r a,z8t l]
end
theorem x8z:∀ (l:List (AV×AV)),v0y l l=true
 | []=>rfl
 | a::l=>by simp[v0y,x5r,x8z l]
theorem k8q:∀ (o:AObj),o.beq o=true
 | .dead=>rfl
 | .blk .. =>by simp[AObj.beq,z8t]
 | .tip .. =>by simp[AObj.beq]
 | .map .. =>by simp[AObj.beq,x8z]
theorem x9a {F:List Nat} {h:List AObj}:z3k F h h=(F,[]):=by
 unfold z3k
 simp[k8q]
theorem z7e {f base gg clk:Nat} {args:List AV} {S:List (Nat×AObj)} {h:List AObj} {v:AV} {m:Md} {dst:Option Nat} {os:List AOper} {ts:Tmps} {ks:List Kf} {Q:Post} (hr:Reads S f args v) (hh:Has S h)
  (hO:O Gam base (m.add (S.map (·.1),[])) (gg + 1) os ⟨z8g ts dst v,h,clk⟩ ks Q):CK Gam base f args h clk m dst gg os ts ks Q:=by
 obtain⟨⟨k,hk⟩,hF⟩:=hr h clk hh
 refine⟨k,v,h,clk,hk, ?_⟩
 dsimp only
 rw[x9a]
 exact j3k hF (by simp) hO
theorem z7v {sC gC sP gP:Nat} {s:Sys} {w k:Int}:Reads [(sC,z4s gC s sP gP),(sP,z8y gP s)] 126 [.ptr sC gC 0 0, .bool false, .int .i64 w, .int .i64 k] (.tup []):=by
 refine Reads.of rfl u0h rfl rfl rfl (az:=[.ptr sC gC 0 0, .bool false, .int .i64 w, .int .i64 k]) rfl (by simpa [z0i,AV.ids] using Cov.two q6m (x3i (gP:=gP) (s:=s))) fun D B clk T hB hS hlt hT=> ?_
 simp only[go_sem,y2d]
 rw[z0h rfl rfl]
 exact hT _ hS.app
theorem Cov.five {s2 sC sP s5 sX g2 gC gP g5 gX:Nat} {s:Sys} {V:List Var} (h1:sC < sP) (h2:sP < s2) (h3:s2 < s5) (h4:s5 < sX):Cov [(s2, .blk g2 [.ptr sC gC 0 0] false false 0),(sC,z4s gC s sP gP),(sP,z8y gP s),(s5, .blk g5 [.mp sX gX] false false 0),(sX, .map gX (z1l V))] [s2,s5]:=by
 have i2:(AObj.blk g2 [.ptr sC gC 0 0] false false 0).ids=[sC]:=rfl
 have i5:(AObj.blk g5 [.mp sX gX] false false 0).ids=[sX]:=rfl
 refine⟨by simp,by simp[i2,i5,q6m,x3i,q2a],fun h hS p hp=> ?_⟩
 have a2:h[s2]? =some (.blk g2 [.ptr sC gC 0 0] false false 0):=hS (s2,_) (by simp)
 have aC:h[sC]? =some (z4s gC s sP gP):=hS (sC,z4s gC s sP gP) (by simp)
 have aP:h[sP]? =some (z8y gP s):=hS (sP,z8y gP s) (by simp)
 have a5:h[s5]? =some (.blk g5 [.mp sX gX] false false 0):=hS (s5,_) (by simp)
 have hX:=hS.lt (sX,_) (v7 _ (v7 _ (v7 _ (v7 _ j7))))
 dsimp only at hX
 obtain⟨m,hm⟩:∃ m,h.length=m + 4:=⟨h.length - 4,by omega⟩
 have hr:reach h (h.length + 1) [] [s2,s5]=reach h (m + 1) [s5,sP,sC,s2] [sX]:=by
  rw[hm,z8r (by simp) a2,i2]
  rw[List.singleton_append,z8r (by simp;omega) aC,q6m]
  rw[List.singleton_append,z8r (by simp;omega) aP,x3i]
  rw[List.nil_append,z8r (by simp;omega) a5,i5]
  rfl
 rw[hr]
 simp at hp
 rcases hp with rfl | rfl | rfl | rfl | rfl <;> exact z5t (by simp)
theorem k8r {s2 sC sP s5 sX g2 gC gP g5 gX:Nat} {s:Sys} {a:App} {V:List Var} (hp:PrOk s.preds) (ha:AppOk s.preds V a) (hV:∀ v∈V,v∈z1z) (h1:sC < sP) (h2:sP < s2) (h3:s2 < s5) (h4:s5 < sX):
  Reads [(s2, .blk g2 [.ptr sC gC 0 0] false false 0),(sC,z4s gC s sP gP),(sP,z8y gP s),(s5, .blk g5 [.mp sX gX] false false 0),(sX, .map gX (z1l V))] 202 [z4q a, .ptr s2 g2 0 0, .ptr s5 g5 0 0] (.bool false):=by
 refine Reads.of rfl u0l rfl rfl rfl (az:=[z4q a, .ptr s2 g2 0 0, .ptr s5 g5 0 0]) rfl (by simpa [z0i,AV.ids,z4r] using Cov.five h1 h2 h3 h4) fun D B clk T hB hS hlt hT=> ?_
 have l2:=hlt (s2, .blk g2 [.ptr sC gC 0 0] false false 0) (by simp)
 have l5:=hlt (s5, .blk g5 [.mp sX gX] false false 0) (by simp)
 have b2:=z2m (g:=g2) (hS (s2, .blk g2 [.ptr sC gC 0 0] false false 0) (by simp))
 have b5:=z2m (g:=g5) (hS (s5, .blk g5 [.mp sX gX] false false 0) (by simp))
 dsimp only at l2 l5 b2 b5
 have hr:=j4t (sC:=sC) (gC:=gC) (sP:=sP) (gP:=gP) (sX:=sX) (gX:=gX) hp ha hV
 have hh:∀ L,Has [(sC,z4s gC s sP gP),(sP,z8y gP s),(sX, .map gX (z1l V))] (D++L):=fun L p hp'=>hS.app p (by simp at hp';rcases hp' with rfl | rfl | rfl <;> simp)
 rw[z4q] at hr
 simp only[go_sem,y2h,hB,z4q,z1y hB l2,b2,z1y hB l5,b5,z0u hr (hh _),z8]
 rw[z0e]
 exact hT _ hS.app
theorem k2q {f base gg clk:Nat} {args:List AV} {h:List AObj} {m:Md} {dst:Option Nat} {os:List AOper} {ts:Tmps} {ks:List Kf} {Q:Post} (hf:z0z Gam f args h=[]) (hw:WC Gam f args h clk fun v h' c=>O Gam base (m.add ([],[])) (gg + 1) os ⟨z8g ts dst v,h',c⟩ ks Q):CK Gam base f args h clk m dst gg os ts ks Q:=by
 unfold CK
 rw[hf]
 exact hw
theorem v3n {T:List Nat} {R:AV→List AObj→Prop} {h:List AObj}:RV T (some []) R h=R (.tup []) h:=z0h rfl rfl
theorem k8s {sC gC sP gP i:Nat} {s:Sys} {c:Clause} (hp:PrOk s.preds) (hn:∀ p∈s.preds,∀ v∈z1z,p.name≠v.name) (hc:ClauseOk s.preds c) (hi:s.clauses[i]? =some c) (hlt1:sC < sP):Reads [(sC,z4s gC s sP gP),(sP,z8y gP s)] 127 [.ptr sC gC 0 0, .int .i64 (i:Int)] (.tup []):=by
 obtain⟨hsub,hbl,hbody,hguard,hhead⟩:=hc
 have hV:∀ v∈c.vars,v∈z1z:=fun v hv=>hsub.mem hv
 have hVl:c.vars.length≤8:=hsub.length_le
 refine Reads.of rfl u0i rfl rfl rfl (az:=[.ptr sC gC 0 0, .int .i64 (i:Int)]) rfl (by simpa [z0i,AV.ids] using Cov.two q6m (x3i (gP:=gP) (s:=s))) fun D B clk T hB hS hlt hT=> ?_
 have h1:=hlt (sC,z4s gC s sP gP) (by simp)
 have h2:=hlt (sP,z8y gP s) (by simp)
 have b1:=z2m (g:=gC) (hS (sC,z4s gC s sP gP) (by simp))
 dsimp only at h1 h2 b1
 have hil:i < s.clauses.length:=by
  rw[x9] at hi
  exact hi.1
 have hix:∀ h,z1v h 5 (.sl (s.clauses.map z0j) .no) (.int .i64 (i:Int))=some (.iptr [.sl (c.vars.map z2b) .no, .sl (c.body.map z4q) .no,AV.sl (c.guard.map eNode) .no, .str c.head.pred, .sl (c.head.args.map z0w) .no] 0,h):=fun h=>by
  have h2:s.clauses[i]=c:=by
   rw[x9] at hi
   exact hi.2
  rw[z3v (f:=z0j) hil (cs:=[.sl (c.vars.map z2b) .no, .sl (c.body.map z4q) .no,AV.sl (c.guard.map eNode) .no, .str c.head.pred, .sl (c.head.args.map z0w) .no]) (esz:=5) (by rw[h2];rfl) rfl]
 simp only[go_sem,y2e,hB,z1y hB h1,b1,hix]
 refine z6t (u0u hsub fun gX oX c2=> ?_)
 have hlen:∀ a b c:AObj,(D++[a,b,c]).length=B + 3:=fun a b c=>by simp[hB]
 have hS2:∀ L,Has [(sC,z4s gC s sP gP),(sP,z8y gP s)] (D++L):=fun L=>hS.app
 have hSX:∀ a b d L,Has [(B + 3, .map gX (z1l c.vars))] (D++a::b::d:: .map gX (z1l c.vars)::L):=fun _ _ _ _=>x0h hB rfl
 have hS5:∀ g0 g2 b L,Has [(B + 0, .blk g0 [.ptr sC gC 0 0] false false 0),(sC,z4s gC s sP gP),(sP,z8y gP s),(B + 2, .blk g2 [.mp (B + 3) gX] false false 0),(B + 3, .map gX (z1l c.vars))] (D++ .blk g0 [.ptr sC gC 0 0] false false 0::b:: .blk g2 [.mp (B + 3) gX] false false 0:: .map gX (z1l c.vars)::L):=fun g0 g2 b L=>by
  refine Has.cons ?_ (Has.cons (hS2 _ (sC,z4s gC s sP gP) (by simp)) (Has.cons (hS2 _ (sP,z8y gP s) (by simp)) (Has.cons ?_ (Has.cons ?_ Has.nil))))
  ·dsimp only;rw[z2u hB];rfl
  ·dsimp only;rw[z2u hB];rfl
  ·dsimp only;rw[z2u hB];rfl
 have hS3:∀ a b d L,Has [(sC,z4s gC s sP gP),(sP,z8y gP s),(B + 3, .map gX (z1l c.vars))] (D++a::b::d:: .map gX (z1l c.vars)::L):=fun a b d L=>by
  refine Has.cons (hS2 _ (sC,z4s gC s sP gP) (by simp)) (Has.cons (hS2 _ (sP,z8y gP s) (by simp)) (hSX a b d L))
 have hd:∀ N,N=B + 5→sC < N∧sP < N:=fun N hN=>by omega
 simp only[go_sem,hB,hlen,u4,z1p,x7z]
 refine z7e (k8p hn hsub) (hS2 _) ?_
 simp only[go_sem,z8]
 refine z7e z7v (hS2 _) ?_
 simp only[go_sem,hB]
 refine⟨by simp[z1r,apart,z0q,z1n,z1t,AOp.isCall,hB] <;> omega, ?_⟩
 have r93:∀ g0 g2,Reads [(B + 0, .blk g0 [.ptr sC gC 0 0] false false 0),(sC,z4s gC s sP gP),(sP,z8y gP s),(B + 2, .blk g2 [.mp (B + 3) gX] false false 0),(B + 3, .map gX (z1l c.vars))] 89 [.sl (c.body.map z4q) .no, .fn 202 [.ptr (B + 0) g0 0 0, .ptr (B + 2) g2 0 0]] (.bool false):=fun g0 g2=>by
  have:=k2j (enc:=z4q) (xs:=c.body) (t:= .no) (cap:=[.ptr (B + 0) g0 0 0, .ptr (B + 2) g2 0 0]) (P:=fun _=>false) (fun _=>rfl) (fun _ _=>rfl) z4r (by omega) (by simpa [z0i,AV.ids] using Cov.five (s2:=B + 0) (s5:=B + 2) (sX:=B + 3) (g2:=g0) (g5:=g2) (gC:=gC) (gP:=gP) (gX:=gX) (s:=s) (V:=c.vars) hlt1 (by omega) (by omega) (by omega)) fun a ha=>k8r hp (hbody a ha) hV hlt1 (by omega) (by omega) (by omega)
  have e:(c.body.any fun _=>false)=false:=by simp
  rw[e] at this
  exact this
 simp only[go_sem,hB,z1p]
 refine z7e (r93 _ _) (hS5 _ _ _ _) ?_
 simp only[go_sem,]
 refine z7e z7v (hS2 _) ?_
 simp only[go_sem,hB]
 refine⟨by simp[z1r,apart,z0q,z1n,z1t,AOp.isCall,hB] <;> omega, ?_⟩
 have r175:Reads [(B + 3, .map gX (z1l c.vars))] 204 [.mp (B + 3) gX, .sl (c.guard.map eNode) .no, .int .i64 1] (.bool true):=j4s hguard.1 hV (by have:=hguard.2.1;omega) (by omega)
 simp only[go_sem,hB,z1p]
 refine z7e r175 (hSX _ _ _ _) ?_
 simp only[go_sem,z8]
 refine z7e z7v (hS2 _) ?_
 simp only[go_sem,hB]
 refine⟨by simp[z1r,apart,z0q,z1n,z1t,AOp.isCall,hB] <;> omega, ?_⟩
 have e1:decide ((400:Int) < (c.vars.length:Int))=false:=by rw[n9];omega
 have e2:decide ((8:Int) < (c.body.length:Int))=false:=by rw[n9];omega
 rcases hhead with ⟨hh1,hh2⟩ | hha
 ·simp only[go_sem,hB,hh1,hh2,decide_true,z6,u6,decide_false]
  rw[z0u z7v (hS2 _)]
  simp only[go_sem,hB,z6,e1,e2]
  rw[z0u z7v (hS2 _)]
  simp only[go_sem,]
  rw[v3n]
  exact hT _ hS.app
 ·have hne:decide (c.head.pred=[])=false:=by
   obtain⟨f,hf,hname,_,_⟩:=hha
   rw[n9,hname]
   exact hp.name f hf
  have r174:=j4t (sC:=sC) (gC:=gC) (sP:=sP) (gP:=gP) (sX:=B + 3) (gX:=gX) hp hha hV
  rw[z4q] at r174
  simp only[go_sem,hB,hne,z1p]
  refine z7e r174 (hS3 _ _ _ _) ?_
  simp only[go_sem,z8]
  refine z7e z7v (hS2 _) ?_
  simp only[go_sem,hB]
  refine⟨by simp[z1r,apart,z0q,z1n,z1t,AOp.isCall,hB] <;> omega, ?_⟩
  simp only[go_sem,hB,z6,e1,e2]
  rw[z0u z7v (hS2 _)]
  simp only[go_sem,]
  rw[v3n]
  exact hT _ hS.app
structure SysV (s:Sys):Prop where
 preds:s.preds.Sublist allPreds
 len:s.clauses.length≤16
 clauses:∀ c∈s.clauses,ClauseOk s.preds c
theorem SysOk.v {s:Sys} (h:SysOk s):SysV s:=by
 obtain⟨⟨n,_,_,hp⟩,hl,hc⟩:=h
 refine⟨by rw[hp];exact (List.take_sublist _ _).trans (List.sublist_append_left z5j [v8l]),by omega,hc⟩
theorem SysV.pr {s:Sys} (h:SysV s):PrOk s.preds:=by
 refine⟨(h.preds.map _).nodup (by decide),fun f hf=> ?_,fun f hf=> ?_⟩
 ·have:∀ f∈allPreds,f.args.length≤40∧∀ s∈f.args,1≤s∧s≤4:=by decide
  exact this f (h.preds.mem hf)
 ·have:∀ f∈allPreds,f.name≠[]:=by decide
  exact this f (h.preds.mem hf)
theorem SysV.apart {s:Sys} (h:SysV s):∀ p∈s.preds,∀ v∈z1z,p.name≠v.name:=fun p hp=>by
 have:∀ p∈allPreds,∀ v∈z1z,p.name≠v.name:=by decide
 exact this p (h.preds.mem hp)
theorem u0v {ps:List Func} {u:Tip} {h:List AObj} {clk:Nat} {Q:AV→List AObj→Nat→Prop} (hp:PrOk ps) (hl:ps.length≤1000) (hQ:∀ g o c,Q (.mp h.length g) (h++[.map g (z3x 0 ps),o]) c):WC Gam 122 [.sl (ps.map z1m) u] h clk Q:=by
 refine x0k rfl y2a rfl rfl rfl (az:=[.sl (ps.map z1m) .no]) rfl (by simp[z0i,AV.ids,z0d z5g]) fun D B R hB hBh hR=> ?_
 simp only[go_sem,y1z,hB,z6]
 refine z1f (fun m q=>∃ (i g:Nat) (o:AObj),i≤ps.length∧m=ps.length - i∧q.ts 3= .mp (B + 0) g∧q.ts 9= .sl (ps.map z1m) .no∧q.ts 10= .int .i64 (ps.length:Int)∧q.ts 11= .int .i64 (i:Int)∧q.h=D++[.map g (z3x 0 (ps.take i)),o]) ps.length ⟨0,_,_,by omega,rfl,rfl,rfl,rfl,rfl,rfl⟩ ?_
 rintro m ⟨ts,h,clk⟩ Pq ⟨i,g,o,hi,rfl,q3,q9,q10,q11,rfl⟩ hnx he hr
 dsimp only at q3 q9 q10 q11
 by_cases hlt':i < ps.length
 ·have f1:decide ((i:Int) < (ps.length:Int))=true:=by rw[r8];omega
  have f2:IntKind.i64.wrap ((i:Int) + 1)=((i + 1:Nat):Int):=z0c (by omega) (by omega)
  have hix:∀ h,z1v h 3 (.sl (ps.map z1m) .no) (.int .i64 (i:Int))=some (.iptr [.str ps[i].name, .sl (ps[i].args.map nat) .no, .int .i64 (ps[i].result:Int)] 0,h):=fun h=>z7u hlt'
  have htake:ps.take (i + 1)=ps.take i++[ps[i]]:=w7 hlt'
  have hnew:∀ p∈ps.take i,p.name≠ps[i].name:=by
   intro p hp' e
   have h3:=hp.nodup
   have h4:((ps.take (i + 1)).map (·.name)).Nodup:=h3.sublist ((List.take_sublist _ _).map _)
   rw[htake,v8,List.nodup_append] at h4
   exact h4.2.2 _ (w0.2 ⟨p,hp',rfl⟩) _ (by simp) e
  have hput:=x0p (a:=ps[i].name) (n:=i) (ps:=ps.take i) (k:=0) (r:=ps[i].args) (q:=ps[i].result) hnew (by simp;omega)
  have hfk:=q2b (a:=ps[i].name) (k:=0) hnew
  generalize ps[i]=p at *
  have hmu:∀ L:List AObj,z5d L 0 g=some (z3x 0 (ps.take i))→muV (D++L) (.one .str) (.str p.name) (.int .i64 (i:Int)) (.mp (B + 0) g)=some (.undef,D++L.set 0 (.map g (z3x 0 (ps.take (i + 1))))):=fun L hL=>by
   refine x8y (v:= .int .i64 (i:Int)) hB hL rfl ?_
   rw[htake]
   exact hput
  simp only[go_sem,j4l,q3,q9,q10,q11,f1,hB,hix,z2p,x0n hfk,q0d,x6,hmu,f2]
  exact hnx (ps.length - (i + 1)) _ (by omega) ⟨i + 1,g,_,hlt',rfl,q3,q9,q10,rfl,rfl⟩
 ·have f1:decide ((i:Int) < (ps.length:Int))=false:=by rw[n9];omega
  have hti:ps.take i=ps:=u0 (by omega)
  simp only[go_sem,j4l,q3,q9,q10,q11,f1]
  refine he _ _ ?_
  simp only[go_sem,q3]
  rw[q2u rfl,hti]
  refine hR _ _ ⟨B + 0,by simp[z1k,AV.cv,AV.ids],by omega⟩ fun c=> ?_
  have:=hQ g o c
  rw[←hBh] at this
  exact this
theorem w0m {f:Func} (hf:f∈allPreds):Pure Gam 124 [z1m f] (.bool false):=by
 refine Pure.tab (tab:=j2l) rfl rfl ?_
 simp only[allPreds,j6,List.not_mem_nil,or_false] at hf
 rcases hf with rfl | rfl | rfl | rfl | rfl | rfl <;> rfl
theorem Cov.none:Cov [] []:=⟨by simp,by simp,fun h _ p hp=>by simp at hp⟩
theorem k2r {ps:List Func} (hp:ps.Sublist allPreds):Reads [] 123 [.sl (ps.map z1m) .no, .fn 124 []] (.bool false):=by
 have:=k8f (enc:=z1m) (xs:=ps) (S:=[]) (c:=124) (cap:=[]) (t:= .no) (P:=fun _=>false) (fun _=>rfl) (fun _ _=>rfl) z5g (by have:=hp.length_le;simp[allPreds] at this;omega) Cov.none fun f hf=>(w0m (hp.mem hf)).reads
 have e:(ps.any fun _=>false)=false:=by simp
 rw[e] at this
 exact this
theorem w0n {h:List AObj} {s g:Nat}:v1e h .mp (.mp s g)=((z5d h s g).map fun es=>(.int .i64 (es.length:Int))).map (·,h):=(rfl)
theorem y2q {s:Sys} (hs:SysV s):Pure Gam 70 [z4e s] (.sl [] .no):=by
 have hpr:=hs.pr
 have hpl:s.preds.length≤6:=hs.preds.length_le
 have hcl:=hs.len
 refine Pure.of rfl u6t rfl rfl rfl (az:=[z4e s]) rfl (by simp[z0i,z4j]) fun D B clk T hB hT=> ?_
 simp only[go_sem,u3v,hB,z4e,z1p]
 refine k2q ?_ (u0v hpr (by omega) fun gP oP c2=> ?_)
 ·refine q4x (az:=[.sl (s.preds.map z1m) .no]) y2a rfl rfl rfl (by simp[z0i,AV.ids,z0d z5g])
 have hlen:∀ a b:AObj,(D++[a,b]).length=B + 2:=fun a b=>by simp[hB]
 simp only[go_sem,hB,hlen,u4]
 refine⟨by simp[z1r,apart,z0q,z1n,z1t,AOp.isCall], ?_⟩
 have hS:∀ g a o,Has [(B + 1,z4s g s (B + 2) gP),(B + 2,z8y gP s)] (D++[a, .blk g [.agg [.sl (s.preds.map z1m) .no, .sl (s.clauses.map z0j) .no, .mp (B + 2) gP, .sl [] .nil]] false false 0, .map gP (z3x 0 s.preds),o]):=fun g a o=>by
  refine Has.cons ?_ (Has.cons ?_ Has.nil)
  ·dsimp only;rw[z2u hB];rfl
  ·dsimp only;rw[z2u hB];rfl
 have r118:=k2r hs.preds
 have e1:decide ((s.preds.length:Int) < (s.preds.length:Int))=false:=by rw[n9];omega
 have e2:decide ((512:Int) < (s.preds.length:Int))=false:=by rw[n9];omega
 have e3:decide ((2048:Int) < (s.clauses.length:Int))=false:=by rw[n9];omega
 simp only[w0n,x4t hB,j3j,j3i,j5,j1m]
 simp only[go_sem,hB,z6,e1,z0u r118 Has.nil,decide_false,Int.lt_irrefl]
 rw[z0u z7v (hS _ _ _)]
 simp only[go_sem,hB,z6,e2,e3]
 rw[z0u z7v (hS _ _ _)]
 simp only[go_sem,hB,z6]
 refine z1f (fun m q=>∃ (i gC:Nat) (a:AObj),i≤s.clauses.length∧m=s.clauses.length - i∧q.ts 3= .ptr (B + 1) gC 0 0∧q.ts 43= .int .i64 (s.clauses.length:Int)∧q.ts 44= .int .i64 (i:Int)∧q.h=D++[a, .blk gC [.agg [.sl (s.preds.map z1m) .no, .sl (s.clauses.map z0j) .no, .mp (B + 2) gP, .sl [] .nil]] false false 0, .map gP (z3x 0 s.preds),oP]) s.clauses.length ⟨0,_,_,by omega,rfl,by simp[z0b],by simp[z0b],by simp[z0b],rfl⟩ ?_
 rintro m ⟨ts,h,clk⟩ Pq ⟨i,gC,a,hi,rfl,q3,q43,q44,rfl⟩ hnx he hr
 dsimp only at q3 q43 q44
 by_cases hlt':i < s.clauses.length
 ·have f1:decide ((i:Int) < (s.clauses.length:Int))=true:=by rw[r8];omega
  have f2:IntKind.i64.wrap ((i:Int) + 1)=((i + 1:Nat):Int):=z0c (by omega) (by omega)
  have r122:=k8s (sC:=B + 1) (gC:=gC) (sP:=B + 2) (gP:=gP) (i:=i) (c:=s.clauses[i]) hpr hs.apart (hs.clauses _ (x8 hlt')) (by simp[hlt']) (by omega)
  simp only[go_sem,k8a,q3,q43,q44,f1,z0u r122 (hS _ _ _),f2]
  exact hnx (s.clauses.length - (i + 1)) _ (by omega) ⟨i + 1,gC,a,hlt',rfl,q3,q43,rfl,rfl⟩
 ·have f1:decide ((i:Int) < (s.clauses.length:Int))=false:=by rw[n9];omega
  simp only[go_sem,k8a,q3,q43,q44,f1]
  refine he _ _ ?_
  simp only[go_sem,q3,hB]
  rw[z0h rfl rfl]
  exact hT _
theorem y2r {s:Sys} (hs:SysV s):Pure Gam 28 [z4e s] (.bool true):=by
 have hp:=y2q hs
 rw[z4e] at hp
 refine Pure.of rfl u6s rfl rfl rfl (az:=[z4e s]) rfl (by simp[z0i,z4j]) fun D B clk T hB hT=> ?_
 simp only[go_sem,u3u,hB,z4e,z0a hp,Int.reduceEq,decide_true]
 rw[z0e]
 exact hT _
theorem j4u {s g:Nat} {l:List (List Nat)}:Cov [(s, .map g (z0x l))] [s]:=Cov.one j1n
theorem k8t {s g sM gM:Nat} {a:App} {l:List (List Nat)}:Reads [(s, .blk g [.mp sM gM] false false 0),(sM, .map gM (z0x l))] 128 [z4q a, .ptr s g 0 0] (.bool (!decide (a.pred∈l))):=by
 refine Reads.of rfl u0d rfl rfl rfl (az:=[z4q a, .ptr s g 0 0]) rfl (by simpa [z0i,AV.ids,z4r] using Cov.two (s:=s) (t:=sM) rfl j1n) fun D B clk T hB hS hlt hT=> ?_
 have h1:=hlt (s, .blk g [.mp sM gM] false false 0) (by simp)
 have h2:=hlt (sM, .map gM (z0x l)) (by simp)
 have b1:=z2m (g:=g) (hS (s, .blk g [.mp sM gM] false false 0) (by simp))
 have b2:=j4r (g:=gM) (hS (sM, .map gM (z0x l)) (by simp))
 dsimp only at h1 h2 b1 b2
 by_cases hin:a.pred∈l
 ·simp only[go_sem,w0b,hB,z4q,z1y hB h1,b1,z2p,q6l hB h2,b2,z8s,hin,z5c,z8]
  rw[z0e]
  simp only[hin,decide_true,z8] at hT
  exact hT _ hS.app
 ·simp only[go_sem,w0b,hB,z4q,z1y hB h1,b1,z2p,q6l hB h2,b2,z8s,hin,z3w,x6]
  rw[z0e]
  simp only[hin,decide_false,x6] at hT
  exact hT _ hS.app
def z3y (body:List App) (l:List (List Nat)):Bool:=body.all fun a=>decide (a.pred∈l)
theorem j1o {sM gM:Nat} {body:List App} {l:List (List Nat)} {u:Tip} (hl:body.length≤2 ^ 20):Reads [(sM, .map gM (z0x l))] 71 [.sl (body.map z4q) u, .mp sM gM] (.bool (z3y body l)):=by
 refine Reads.of rfl u6q rfl rfl rfl (az:=[.sl (body.map z4q) .no, .mp sM gM]) rfl (by simpa [z0i,AV.ids,z0d z4r] using j4u) fun D B clk T hB hS hlt hT=> ?_
 have hr:∀ g,Reads [(B + 0, .blk g [.mp sM gM] false false 0),(sM, .map gM (z0x l))] 89 [.sl (body.map z4q) .no, .fn 128 [.ptr (B + 0) g 0 0]] (.bool (body.any fun a=> !decide (a.pred∈l))):=fun g=>
  k2j (enc:=z4q) (P:=fun a=> !decide (a.pred∈l)) (fun _=>rfl) (fun _ _=>rfl) z4r hl (by simpa [z0i,AV.ids] using Cov.two (s:=B + 0) (t:=sM) rfl j1n) fun a _=>k8t
 have hh:∀ g,Has [(B + 0, .blk g [.mp sM gM] false false 0),(sM, .map gM (z0x l))] (D++[.blk g [.mp sM gM] false false 0]):=fun g=>by
  refine Has.cons ?_ (Has.cons (hS.app (sM, .map gM (z0x l)) (by simp)) Has.nil)
  dsimp only;rw[z2u hB];rfl
 have e:(!(body.any fun a=> !decide (a.pred∈l)))=z3y body l:=by
  unfold z3y
  rw[List.not_any_eq_all_not]
  simp
 simp only[go_sem,u3r,hB]
 rw[z0u (hr _) (hh _)]
 simp only[go_sem,e]
 rw[z0e]
 exact hT _ hS.app
inductive Der (cs:List Clause):List Nat→Prop
 | of {c:Clause} (hc:c∈cs) (hh:c.head.pred≠[]) (hb:∀ a∈c.body,Der cs a.pred):Der cs c.head.pred
def x0r (c:Clause) (l:List (List Nat)):Prop:=c.head.pred≠[]→z3y c.body l=true→c.head.pred∈l
theorem z4p {body:List App} {l:List (List Nat)}:z3y body l=true↔∀ a∈body,a.pred∈l:=by simp[z3y]
theorem w0o {cs:List Clause} {l:List (List Nat)} (hc:∀ c∈cs,x0r c l) {a:List Nat} (h:Der cs a):a∈l:=by
 induction h with
 | of hc' hh hb ih=>exact hc _ hc' hh (z4p.2 ih)
def q6n (cs:List Clause) (l:List (List Nat)):Nat:=(cs.filter fun c=>decide (c.head.pred∉l)).length
theorem w0p {cs:List Clause} {l l':List (List Nat)} (h:∀ a∈l,a∈l'):q6n cs l'≤q6n cs l:=by
 unfold q6n
 rw[←List.countP_eq_length_filter,←List.countP_eq_length_filter]
 refine List.countP_mono_left fun c _ hc=> ?_
 simp only[decide_eq_true_eq] at hc⊢
 exact fun h'=>hc (h _ h')
theorem w0q {cs:List Clause} {l:List (List Nat)} {c:Clause} (hc:c∈cs) (hn:c.head.pred∉l):q6n cs (l++[c.head.pred]) < q6n cs l:=by
 unfold q6n
 induction cs with
 | nil=>simp at hc
 | cons d cs ih=>
   have hle:∀ ds:List Clause,(ds.filter fun c'=>decide (c'.head.pred∉l++[c.head.pred])).length≤(ds.filter fun c'=>decide (c'.head.pred∉l)).length:=fun ds=>w0p (cs:=ds) (fun a ha=>List.mem_append_left _ ha)
   rw[j6] at hc
   rcases hc with rfl | hc
   ·have:=hle cs
    simp[List.filter_cons,hn]
    simp at this
    omega
   ·have:=ih hc
    simp only[List.filter_cons]
    have h2:=hle [d]
    simp only[List.filter_cons,List.filter_nil] at h2
    split <;> split <;> simp_all <;> omega
theorem x3j {l:List Clause} {i:Nat} {h:List AObj} {t:Tip} {k:IntKind} (hi:i < l.length):z1v h 5 (.sl (l.map z0j) t) (.int k (i:Int))=some (.iptr [.sl (l[i].vars.map z2b) .no, .sl (l[i].body.map z4q) .no, .sl (l[i].guard.map eNode) .no, .str l[i].head.pred, .sl (l[i].head.args.map z0w) .no] 0,h):=z3v hi rfl rfl
theorem w0r {cs:List Clause} {B clk g0 g:Nat} {D:List AObj} {o0 o2:AObj} {l:List (List Nat)} {ts:Tmps} {ks:List Kf} {Q:Post} (hB:D.length=B) (hcl:cs.length≤2 ^ 20) (hbl:∀ c∈cs,c.body.length≤2 ^ 20) (hD:∀ a∈l,Der cs a) (h1:ts 1= .ptr (B + 0) g0 0 0) (h3:ts 3= .mp (B + 1) g) (h4:ts 4= .bool false) (h10:ts 10= .sl (cs.map z0j) .no) (h11:ts 11= .int .i64 (cs.length:Int)) (h12:ts 12= .int .i64 0)
  (hQ:∀ (ts':Tmps) (l':List (List Nat)) (b:Bool) (o2:AObj) (clk':Nat),(∀ a∈l',Der cs a)→(b=true→q6n cs l' < q6n cs l)→(b=false→l'=l∧∀ c∈cs,x0r c l)→ts' 1= .ptr (B + 0) g0 0 0→ts' 3= .mp (B + 1) g→ts' 4= .bool b→K Gam B (.exit 2) ks ⟨ts',D++[o0, .map g (z0x l'),o2],clk'⟩ Q):
  K Gam B (.loop x5k) ks ⟨ts,D++[o0, .map g (z0x l),o2],clk⟩ Q:=by
 refine z1f (fun m q=>∃ (i:Nat) (l':List (List Nat)) (b:Bool) (o2:AObj),i≤cs.length∧m=cs.length - i∧(∀ a∈l',Der cs a)∧(b=true→q6n cs l' < q6n cs l)∧(b=false→l'=l∧∀ c∈cs.take i,x0r c l)∧q.ts 1= .ptr (B + 0) g0 0 0∧q.ts 3= .mp (B + 1) g∧q.ts 4= .bool b∧q.ts 10= .sl (cs.map z0j) .no∧q.ts 11= .int .i64 (cs.length:Int)∧q.ts 12= .int .i64 (i:Int)∧q.h=D++[o0, .map g (z0x l'),o2]) cs.length ⟨0,l,false,o2,by omega,rfl,hD,by simp,fun _=>⟨rfl,by simp⟩,h1,h3,h4,h10,h11,h12,rfl⟩ ?_
 clear h1 h3 h4 h10 h11 h12
 rintro m ⟨ts,h,clk⟩ P ⟨i,l',b,o2,hi,rfl,hD',hb1,hb2,q1,q3,q4,q10,q11,q12,rfl⟩ hnx he hr
 dsimp only at q1 q3 q4 q10 q11 q12
 by_cases hlt:i < cs.length
 ·have f1:decide ((i:Int) < (cs.length:Int))=true:=by rw[r8];omega
  have f2:IntKind.i64.wrap ((i:Int) + 1)=((i + 1:Nat):Int):=z0c (by omega) (by omega)
  have hmem:=x8 hlt
  have htake:cs.take (i + 1)=cs.take i++[cs[i]]:=w7 hlt
  have hix:=fun h=>x3j (l:=cs) (i:=i) (h:=h) (t:= .no) (k:= .i64) hlt
  have hbody:=hbl _ hmem
  generalize cs[i]=c at hmem htake hix hbody
  have same:x0r c l'→∀ (ts':Tmps) (clk':Nat) (o2:AObj),ts' 1= .ptr (B + 0) g0 0 0→ts' 3= .mp (B + 1) g→ts' 4= .bool b→ts' 10= .sl (cs.map z0j) .no→ts' 11= .int .i64 (cs.length:Int)→ts' 12= .int .i64 ((i + 1:Nat):Int)→P .norm ⟨ts',D++[o0, .map g (z0x l'),o2],clk'⟩:=by
   intro hc ts' clk' o2 r1 r3 r4 r10 r11 r12
   refine hnx (cs.length - (i + 1)) _ (by omega) ⟨i + 1,l',b,o2,hlt,rfl,hD',hb1,fun hbf=> ?_,r1,r3,r4,r10,r11,r12,rfl⟩
   obtain⟨e1,e2⟩:=hb2 hbf
   refine⟨e1,fun d hd=> ?_⟩
   rw[htake,x4,y3] at hd
   rcases hd with hd | rfl
   ·exact e2 d hd
   ·rw[←e1];exact hc
  by_cases hh:c.head.pred=[]
  ·have g1:decide (c.head.pred=[])=true:=by rw[r8];exact hh
   simp only[go_sem,x5k,q1,q3,q4,q10,q11,q12,hB,f1,hix,g1,z8,f2]
   exact same (fun h=>absurd hh h) _ _ _ q1 q3 q4 q10 q11 rfl
  ·have g1:decide (c.head.pred=[])=false:=by rw[n9];exact hh
   by_cases hin:c.head.pred∈l'
   ·simp only[go_sem,x5k,q1,q3,q4,q10,q11,q12,hB,f1,hix,g1,x6,z2p,z8s,hin,z5c,z8,f2]
    exact same (fun _ _=>hin) _ _ _ q1 q3 q4 q10 q11 rfl
   ·have hr:=j1o (sM:=B + 1) (gM:=g) (body:=c.body) (l:=l') (u:= .no) hbody
    have hh2:∀ o2,Has [(B + 1, .map g (z0x l'))] (D++[o0, .map g (z0x l'),o2]):=fun o2=>x0h hB rfl
    cases hw:z3y c.body l' with
    | false=>
      rw[hw] at hr
      simp only[go_sem,x5k,q1,q3,q4,q10,q11,q12,hB,f1,hix,g1,x6,z2p,z8s,hin,z3w,z0u hr (hh2 _),f2]
      exact same (fun _ h=>by rw[hw] at h;cases h) _ _ _ q1 q3 q4 q10 q11 rfl
    | true=>
      rw[hw] at hr
      have hmu:∀ L:List AObj,z5d L 1 g=some (z0x l')→muV (D++L) (.one .str) (.str c.head.pred) (.bool true) (.mp (B + 1) g)=some (.undef,D++L.set 1 (.map g (z0x (l'++[c.head.pred])))):=fun L hL=>x8y (v:= .bool true) hB hL rfl (q2x hin)
      simp only[go_sem,x5k,q1,q3,q4,q10,q11,q12,hB,f1,hix,g1,x6,z2p,z8s,hin,z3w,z0u hr (hh2 _),hmu,f2]
      have hlt2:=w0q hmem hin
      refine hnx (cs.length - (i + 1)) _ (by omega) ⟨i + 1,l'++[c.head.pred],true,_,hlt,rfl,fun a ha=> ?_,fun _=> ?_,by simp,q1,q3,rfl,q10,q11,rfl,rfl⟩
      ·rw[x4,y3] at ha
       rcases ha with ha | rfl
       ·exact hD' a ha
       ·exact .of hmem hh fun a ha=>hD' _ (z4p.1 hw a ha)
      ·cases b with
       | true=>have:=hb1 rfl;omega
       | false=>rw[(hb2 rfl).1] at hlt2⊢;exact hlt2
 ·have f1:decide ((i:Int) < (cs.length:Int))=false:=by rw[n9];omega
  have hti:cs.take i=cs:=u0 (by omega)
  rw[hti] at hb2
  simp only[go_sem,x5k,q1,q3,q4,q10,q11,q12,f1]
  refine he _ _ ?_
  exact hQ _ l' b o2 _ hD' hb1 hb2 (by simp[z0b,q1]) (by simp[z0b,q3]) (by simp[z0b,q4])
theorem u6u {s:Sys} {h:List AObj} {clk:Nat} {Q:AV→List AObj→Nat→Prop} (hcl:s.clauses.length≤2 ^ 20) (hbl:∀ c∈s.clauses,c.body.length≤2 ^ 20) (hQ:∀ g l o0 o2 c,(∀ a,a∈l↔Der s.clauses a)→Q (.mp (h.length + 1) g) (h++[o0, .map g (z0x l),o2]) c):WC Gam 29 [z4e s] h clk Q:=by
 refine x0k rfl u6o rfl rfl rfl (az:=[z4e s]) rfl (by simp[z0i,z4j]) fun D B R hB hBh hR=> ?_
 simp only[go_sem,u3p,hB,z4e]
 refine z1f (fun m q=>∃ (l:List (List Nat)) (b:Bool) (g0 g:Nat) (o2:AObj),m=(if b then q6n s.clauses l + 1 else 0)∧(∀ a∈l,Der s.clauses a)∧(b=false→∀ c∈s.clauses,x0r c l)∧q.ts 1= .ptr (B + 0) g0 0 0∧q.ts 3= .mp (B + 1) g∧q.ts 4= .bool b∧q.h=D++[.blk g0 [.agg [.sl (s.preds.map z1m) .no, .sl (s.clauses.map z0j) .no]] false false 0, .map g (z0x l),o2]) (q6n s.clauses [] + 1) ⟨[],true,_,_,_,rfl,by simp,by simp,rfl,rfl,rfl,rfl⟩ ?_
 rintro m ⟨ts,h,clk⟩ P ⟨l,b,g0,g,o2,rfl,hD,hb,q1,q3,q4,rfl⟩ hnx he hr
 dsimp only at q1 q3 q4
 cases b with
 | true=>
   simp only[go_sem,k7y,q1,q3,q4,hB,z6]
   refine w0r (g0:=g0) hB hcl hbl hD (by simp[z0b,q1]) (by simp[z0b,q3]) (by simp[z0b]) (by simp[z0b]) (by simp[z0b]) (by simp[z0b]) fun ts' l' b o2 clk' hD' hb1 hb2 r1 r3 r4=> ?_
   simp only[go_sem,]
   refine hnx (if b then q6n s.clauses l' + 1 else 0) _ ?_ ⟨l',b,g0,g,o2,rfl,hD',fun hbf=> ?_,r1,r3,r4,rfl⟩
   ·cases b with
    | true=>have:=hb1 rfl;simpa using this
    | false=>simp
   ·obtain⟨e1,e2⟩:=hb2 hbf
    rw[e1];exact e2
 | false=>
   simp only[go_sem,k7y,q1,q3,q4,hB]
   refine he _ _ ?_
   simp only[go_sem,q3]
   rw[q2u rfl]
   refine hR _ _ ⟨B + 1,by simp[z1k,AV.cv,AV.ids],by omega⟩ fun c=> ?_
   have:=hQ g l (.blk g0 [.agg [.sl (s.preds.map z1m) .no, .sl (s.clauses.map z0j) .no]] false false 0) o2 c fun a=>⟨hD a,w0o (hb rfl)⟩
   rw[←hBh] at this
   exact this
theorem k8u {S:List (Nat×AObj)} {f:Nat} {args az:List AV} {h:List AObj} {clk:Nat} {af:AFun} {Q:AV→List AObj→Nat→Prop} (hext:Gam.ext f=none) (hfn:Gam.fn f=some af) (hb:af.byref=[]) (ho:af.owned=false) (hobs:z4u args=[]) (has:cvL args=az) (hC:Cov S (z0i az)) (hS:Has S h)
  (hw:∀ (D:List AObj) (B:Nat) (R:AV→List AObj→Prop),D.length=B→B=h.length→Has S D→(∀ p∈S,p.1 < B)→(∀ v L',(∃ i∈v.ids,B≤i)→(∀ c,Q v (h++L') c)→R v (D++L'))→K Gam B af.body [] ⟨q0f az,D++List.replicate af.nslots .dead,clk⟩ (y4n af.results R)):WC Gam f args h clk Q:=by
 have hp:z1q h af.byref 0 args=some az:=by rw[hb,z2g hobs,has]
 have hl:z0p af.byref 0 args=[]:=by rw[hb];exact z6o hobs
 have hTS:∀ i∈reach h (h.length + 1) [] (z0i az),i∈S.map (·.1):=q1x hS hC.closed (by simp) hC.root
 have hmask:Has S (maskFrom (reach h (h.length + 1) [] (z0i az)) 0 h):=fun p hp'=>by
  rw[q1m (by rw[k6,List.contains_eq_mem];exact decide_eq_true (hC.cover h hS p hp'))]
  exact hS p hp'
 obtain⟨k,e,s1,he,hne,hend⟩:=hw (maskFrom (reach h (h.length + 1) [] (z0i az)) 0 h) h.length (fun v h'=>(∃ i∈v.ids,h.length≤i)∧(∃ L',h'=maskFrom (reach h (h.length + 1) [] (z0i az)) 0 h++L'∧∀ c,Q v (h++L') c)) z4h rfl hmask (fun p hp'=>hS.lt p hp') (fun v L' hi hq=>⟨hi,L',rfl,hq⟩)
 unfold RVG at hend
 split at hend
 ·rename_i vs hr
  obtain⟨hob,⟨i,hi1,hi2⟩,L',hL',hq⟩:=hend
  have hc:=q0q (h:=s1.h) hob
  refine⟨k,(z1k vs).cv,h++L',s1.clk, ?_,hq _⟩
  have hm:z0n (reach h (h.length + 1) [] (z0i az)) 0 h s1.h=h:=by
   refine q6j fun j hj hc'=> ?_
   rw[hL',List.getElem?_append_left (by rw[z4h];exact hj),q1m hc']
  have hdrop:s1.h.drop h.length=L':=by rw[hL',List.drop_left' z4h]
  have hall:(((z1k vs).cv.ids++(List.map (fun i=>(Option.map AObj.ids s1.h[i]?).getD []) (reach h (h.length + 1) [] (z0i az))).flatten).all fun x=>decide (x < h.length))=false:=by
   rw[List.all_eq_false]
   exact⟨i,List.mem_append_left _ hi1,by simp;omega⟩
  unfold z5w z0k
  simp only[hext,hfn,hp,hl,freezeAll,he,ho,j9,if_false,hr,hc,hob,ite_self,hm,hdrop]
  cases e with
  | exit i=>exact absurd rfl (hne i)
  | norm=>simp only[hall,j9,if_false]
  | ret=>simp only[hall,j9,if_false]
 ·exact hend.elim
inductive Need (cs:List Clause) (Dv:List Nat→Prop):List Nat→Prop
 | query {c:Clause} {a:App} (hc:c∈cs) (hh:c.head.pred=[]) (hb:∀ a∈c.body,Dv a.pred) (ha:a∈c.body):Need cs Dv a.pred
 | of {c:Clause} {a:App} (hc:c∈cs) (hh:Need cs Dv c.head.pred) (hb:∀ a∈c.body,Dv a.pred) (ha:a∈c.body):Need cs Dv a.pred
def q2d (dl:List (List Nat)) (c:Clause) (l:List (List Nat)):Prop:=(c.head.pred=[]∨c.head.pred∈l)→z3y c.body dl=true→z3y c.body l=true
theorem k8v {cs:List Clause} {dl l:List (List Nat)} {Dv:List Nat→Prop} (hd:∀ a,a∈dl↔Dv a) (hc:∀ c∈cs,q2d dl c l) {a:List Nat} (h:Need cs Dv a):a∈l:=by
 induction h with
 | query hc' hh hb ha=>exact z4p.1 (hc _ hc' (.inl hh) (z4p.2 fun a ha=>(hd _).2 (hb a ha))) _ ha
 | of hc' hh hb ha ih=>exact z4p.1 (hc _ hc' (.inr ih) (z4p.2 fun a ha=>(hd _).2 (hb a ha))) _ ha
def q4c (cs:List Clause) (l:List (List Nat)):Nat:=(cs.filter fun c=> !z3y c.body l).length
theorem j4v {cs:List Clause} {l l':List (List Nat)} (h:∀ a∈l,a∈l'):q4c cs l'≤q4c cs l:=by
 unfold q4c
 rw[←List.countP_eq_length_filter,←List.countP_eq_length_filter]
 refine List.countP_mono_left fun c _ hc=> ?_
 simp only[Bool.not_eq_true'] at hc⊢
 cases hw:z3y c.body l with
 | false=>rfl
 | true=>
   have:z3y c.body l'=true:=z4p.2 fun a ha=>h _ (z4p.1 hw a ha)
   rw[this] at hc
   cases hc
theorem k8w {cs:List Clause} {l l':List (List Nat)} {c:Clause} (hc:c∈cs) (hn:z3y c.body l=false) (hn':z3y c.body l'=true) (h:∀ a∈l,a∈l'):q4c cs l' < q4c cs l:=by
 unfold q4c
 induction cs with
 | nil=>simp at hc
 | cons d cs ih=>
   have hle:=j4v (cs:=cs) h
   unfold q4c at hle
   rw[j6] at hc
   rcases hc with rfl | hc
   ·simp only[List.filter_cons,hn,hn',z8,x6,if_true,j9,if_false,List.length_cons]
    omega
   ·have:=ih hc
    have h2:=j4v (cs:=[d]) h
    unfold q4c at h2
    simp only[List.filter_cons,List.filter_nil] at h2⊢
    split <;> split <;> simp_all <;> omega
def w0s (l:List (List Nat)) (a:List Nat):List (List Nat):=if a∈l then l else l++[a]
theorem k8x {l:List (List Nat)} {a b:List Nat}:b∈w0s l a↔b∈l∨b=a:=by
 unfold w0s
 split
 ·rename_i h
  constructor
  ·exact .inl
  ·rintro (h2 | rfl)
   ·exact h2
   ·exact h
 ·rw[x4,y3]
theorem j1p {a:List Nat} {l:List (List Nat)}:z6j (.one .str) (.str a) (.bool true) (z0x l)=some (z0x (w0s l a)):=by
 unfold w0s
 split
 ·rename_i h
  induction l with
  | nil=>simp at h
  | cons b l ih=>
    unfold z0x at ih⊢
    simp only[j4,z6j,AV.eqv,AV.eq1]
    by_cases hab:a=b
    ·subst hab
     simp
    ·have:a∈l:=by
      rw[j6] at h
      exact h.resolve_left hab
     simp only[hab,decide_false,ih this,j5]
 ·exact q2x (by assumption)
def z9g (l:List (List Nat)) (b:List App):List (List Nat):=b.foldl (fun l a=>w0s l a.pred) l
theorem q2y {b:List App}:∀ {l:List (List Nat)} {x:List Nat},x∈z9g l b↔x∈l∨∃ a∈b,x=a.pred:=by
 induction b with
 | nil=>intro l x;simp[z9g]
 | cons c b ih=>
   intro l x
   have:z9g l (c::b)=z9g (w0s l c.pred) b:=rfl
   rw[this,ih,k8x]
   simp only[j6,exists_eq_or_imp,or_assoc]
theorem j1q {b:List App} {l:List (List Nat)} {i:Nat} (hi:i < b.length):z9g l (b.take (i + 1))=w0s (z9g l (b.take i)) b[i].pred:=by
 unfold z9g
 rw[w7 hi,List.foldl_append]
 rfl
theorem j4w {body:List App} {B clk g0 g sD gD:Nat} {D:List AObj} {o0 o2 o3:AObj} {l:List (List Nat)} {v14 v15 v16:AV} {ts:Tmps} {ks:List Kf} {Q:Post} (hB:D.length=B) (hbl:body.length≤2 ^ 20) (h1:ts 1= .mp sD gD) (h2:ts 2= .ptr (B + 0) g0 0 0) (h5:ts 5= .mp (B + 1) g) (h14:ts 14=v14) (h15:ts 15=v15) (h16:ts 16=v16) (h46:ts 46= .sl (body.map z4q) .no) (h47:ts 47= .int .i64 (body.length:Int)) (h48:ts 48= .int .i64 0)
  (hQ:∀ (ts':Tmps) (o3:AObj) (clk':Nat),ts' 1= .mp sD gD→ts' 2= .ptr (B + 0) g0 0 0→ts' 5= .mp (B + 1) g→ts' 14=v14→ts' 15=v15→ts' 16=v16→K Gam B (.exit 4) ks ⟨ts',D++[o0, .map g (z0x (z9g l body)),o2,o3],clk'⟩ Q):
  K Gam B (.loop j1i) ks ⟨ts,D++[o0, .map g (z0x l),o2,o3],clk⟩ Q:=by
 refine z1f (fun m q=>∃ (i:Nat) (o3:AObj),i≤body.length∧m=body.length - i∧q.ts 1= .mp sD gD∧q.ts 2= .ptr (B + 0) g0 0 0∧q.ts 5= .mp (B + 1) g∧q.ts 14=v14∧q.ts 15=v15∧q.ts 16=v16∧q.ts 46= .sl (body.map z4q) .no∧q.ts 47= .int .i64 (body.length:Int)∧q.ts 48= .int .i64 (i:Int)∧q.h=D++[o0, .map g (z0x (z9g l (body.take i))),o2,o3]) body.length ⟨0,o3,by omega,rfl,h1,h2,h5,h14,h15,h16,h46,h47,h48,rfl⟩ ?_
 clear h1 h2 h5 h14 h15 h16 h46 h47 h48
 rintro m ⟨ts,h,clk⟩ P ⟨i,o3,hi,rfl,q1,q2,q5,q14,q15,q16,q46,q47,q48,rfl⟩ hnx he hr
 dsimp only at q1 q2 q5 q14 q15 q16 q46 q47 q48
 by_cases hlt:i < body.length
 ·have f1:decide ((i:Int) < (body.length:Int))=true:=by rw[r8];omega
  have f2:IntKind.i64.wrap ((i:Int) + 1)=((i + 1:Nat):Int):=z0c (by omega) (by omega)
  have hix:∀ h,z1v h 2 (.sl (body.map z4q) .no) (.int .i64 (i:Int))=some (.iptr [.str body[i].pred, .sl (body[i].args.map z0w) .no] 0,h):=fun h=>z3v hlt rfl rfl
  have hat:=j1q (l:=l) hlt
  generalize body[i]=a at hix hat
  have hmu:∀ L:List AObj,z5d L 1 g=some (z0x (z9g l (body.take i)))→muV (D++L) (.one .str) (.str a.pred) (.bool true) (.mp (B + 1) g)=some (.undef,D++L.set 1 (.map g (z0x (z9g l (body.take (i + 1)))))):=fun L hL=>by
   rw[hat]
   exact x8y (v:= .bool true) hB hL rfl j1p
  simp only[go_sem,j1i,q1,q2,q5,q14,q15,q16,q46,q47,q48,hB,f1,hix,hmu,f2]
  exact hnx (body.length - (i + 1)) _ (by omega) ⟨i + 1,_,hlt,rfl,q1,q2,q5,q14,q15,q16,q46,q47,rfl,rfl⟩
 ·have f1:decide ((i:Int) < (body.length:Int))=false:=by rw[n9];omega
  have hti:body.take i=body:=u0 (by omega)
  simp only[go_sem,j1i,q1,q2,q5,q14,q15,q16,q46,q47,q48,f1]
  refine he _ _ ?_
  rw[hti]
  exact hQ _ o3 _ (by simp[z0b,q1]) (by simp[z0b,q2]) (by simp[z0b,q5]) (by simp[z0b,q14]) (by simp[z0b,q15]) (by simp[z0b,q16])
theorem k8y {cs:List Clause} {Dv:List Nat→Prop} {dl:List (List Nat)} {B clk g0 g sD gD:Nat} {D:List AObj} {o0 o2 o3:AObj} {l:List (List Nat)} {ts:Tmps} {ks:List Kf} {Q:Post} (hB:D.length=B) (hcl:cs.length≤2 ^ 20) (hbl:∀ c∈cs,c.body.length≤2 ^ 20) (hdl:∀ a,a∈dl↔Dv a) (hS:Has [(sD, .map gD (z0x dl))] D) (hN:∀ a∈l,Need cs Dv a) (h1:ts 1= .mp sD gD) (h2:ts 2= .ptr (B + 0) g0 0 0) (h5:ts 5= .mp (B + 1) g) (h6:ts 6= .bool false) (h14:ts 14= .sl (cs.map z0j) .no) (h15:ts 15= .int .i64 (cs.length:Int)) (h16:ts 16= .int .i64 0)
  (hQ:∀ (ts':Tmps) (l':List (List Nat)) (b:Bool) (o2 o3:AObj) (clk':Nat),(∀ a∈l',Need cs Dv a)→(b=true→q4c cs l' < q4c cs l)→(b=false→l'=l∧∀ c∈cs,q2d dl c l)→ts' 1= .mp sD gD→ts' 2= .ptr (B + 0) g0 0 0→ts' 5= .mp (B + 1) g→ts' 6= .bool b→K Gam B (.exit 2) ks ⟨ts',D++[o0, .map g (z0x l'),o2,o3],clk'⟩ Q):
  K Gam B (.loop q5i) ks ⟨ts,D++[o0, .map g (z0x l),o2,o3],clk⟩ Q:=by
 refine z1f (fun m q=>∃ (i:Nat) (l':List (List Nat)) (b:Bool) (o2 o3:AObj),i≤cs.length∧m=cs.length - i∧(∀ a∈l',Need cs Dv a)∧(∀ a∈l,a∈l')∧(b=true→q4c cs l' < q4c cs l)∧(b=false→l'=l∧∀ c∈cs.take i,q2d dl c l)∧q.ts 1= .mp sD gD∧q.ts 2= .ptr (B + 0) g0 0 0∧q.ts 5= .mp (B + 1) g∧q.ts 6= .bool b∧q.ts 14= .sl (cs.map z0j) .no∧q.ts 15= .int .i64 (cs.length:Int)∧q.ts 16= .int .i64 (i:Int)∧q.h=D++[o0, .map g (z0x l'),o2,o3]) cs.length ⟨0,l,false,o2,o3,by omega,rfl,hN,fun _ h=>h,by simp,fun _=>⟨rfl,by simp⟩,h1,h2,h5,h6,h14,h15,h16,rfl⟩ ?_
 clear h1 h2 h5 h6 h14 h15 h16
 rintro m ⟨ts,h,clk⟩ P ⟨i,l',b,o2,o3,hi,rfl,hN',hll,hb1,hb2,q1,q2,q5,q6,q14,q15,q16,rfl⟩ hnx he hr
 dsimp only at q1 q2 q5 q6 q14 q15 q16
 by_cases hlt:i < cs.length
 ·have f1:decide ((i:Int) < (cs.length:Int))=true:=by rw[r8];omega
  have f2:IntKind.i64.wrap ((i:Int) + 1)=((i + 1:Nat):Int):=z0c (by omega) (by omega)
  have hmem:=x8 hlt
  have htake:cs.take (i + 1)=cs.take i++[cs[i]]:=w7 hlt
  have hix:=fun h=>x3j (l:=cs) (i:=i) (h:=h) (t:= .no) (k:= .i64) hlt
  have hbody:=hbl _ hmem
  generalize cs[i]=c at hmem htake hix hbody
  have same:q2d dl c l'→∀ (ts':Tmps) (clk':Nat) (o2 o3:AObj),ts' 1= .mp sD gD→ts' 2= .ptr (B + 0) g0 0 0→ts' 5= .mp (B + 1) g→ts' 6= .bool b→ts' 14= .sl (cs.map z0j) .no→ts' 15= .int .i64 (cs.length:Int)→ts' 16= .int .i64 ((i + 1:Nat):Int)→P .norm ⟨ts',D++[o0, .map g (z0x l'),o2,o3],clk'⟩:=by
   intro hc ts' clk' o2 o3 r1 r2 r5 r6 r14 r15 r16
   refine hnx (cs.length - (i + 1)) _ (by omega) ⟨i + 1,l',b,o2,o3,hlt,rfl,hN',hll,hb1,fun hbf=> ?_,r1,r2,r5,r6,r14,r15,r16,rfl⟩
   obtain⟨e1,e2⟩:=hb2 hbf
   refine⟨e1,fun d hd=> ?_⟩
   rw[htake,x4,y3] at hd
   rcases hd with hd | rfl
   ·exact e2 d hd
   ·rw[←e1];exact hc
  have hr1:=j1o (sM:=sD) (gM:=gD) (body:=c.body) (l:=dl) (u:= .no) hbody
  have hr2:=j1o (sM:=B + 1) (gM:=g) (body:=c.body) (l:=l') (u:= .no) hbody
  have hh1:∀ L,Has [(sD, .map gD (z0x dl))] (D++L):=fun L=>hS.app
  have hh2:∀ o2 o3,Has [(B + 1, .map g (z0x l'))] (D++[o0, .map g (z0x l'),o2,o3]):=fun o2 o3=>x0h hB rfl
  have rest:(c.head.pred=[]∨c.head.pred∈l')→∀ w1 w2:Bool,z3y c.body dl=w1→z3y c.body l'=w2→q2d dl c l'∨(w1=true∧w2=false):=by
   intro hh w1 w2 e1 e2
   cases w1 with
   | false=>exact .inl fun _ h=>by rw[e1] at h;cases h
   | true=>
     cases w2 with
     | true=>exact .inl fun _ _=>e2
     | false=>exact .inr ⟨rfl,rfl⟩
  have add:(c.head.pred=[]∨c.head.pred∈l')→z3y c.body dl=true→z3y c.body l'=false→∀ (ts':Tmps) (clk':Nat) (o2 o3:AObj),ts' 1= .mp sD gD→ts' 2= .ptr (B + 0) g0 0 0→ts' 5= .mp (B + 1) g→ts' 6= .bool true→ts' 14= .sl (cs.map z0j) .no→ts' 15= .int .i64 (cs.length:Int)→ts' 16= .int .i64 ((i + 1:Nat):Int)→P .norm ⟨ts',D++[o0, .map g (z0x (z9g l' c.body)),o2,o3],clk'⟩:=by
   intro hh e1 e2 ts' clk' o2 o3 r1 r2 r5 r6 r14 r15 r16
   have hin:z3y c.body (z9g l' c.body)=true:=z4p.2 fun a ha=>q2y.2 (.inr ⟨a,ha,rfl⟩)
   have hlt2:=k8w hmem e2 hin fun a ha=>q2y.2 (.inl ha)
   refine hnx (cs.length - (i + 1)) _ (by omega) ⟨i + 1,z9g l' c.body,true,o2,o3,hlt,rfl,fun a ha=> ?_,fun a ha=>q2y.2 (.inl (hll a ha)),fun _=> ?_,by simp,r1,r2,r5,r6,r14,r15,r16,rfl⟩
   ·rcases q2y.1 ha with ha | ⟨b,hb,rfl⟩
    ·exact hN' a ha
    ·have hbd:∀ a∈c.body,Dv a.pred:=fun a ha=>(hdl _).1 (z4p.1 e1 a ha)
     rcases hh with hh | hh
     ·exact .query hmem hh hbd hb
     ·exact .of hmem (hN' _ hh) hbd hb
   ·cases b with
    | true=>have:=hb1 rfl;omega
    | false=>rw[(hb2 rfl).1] at hlt2⊢;exact hlt2
  cases hw1:z3y c.body dl with
  | false=>
    rw[hw1] at hr1
    have hcl':q2d dl c l':=fun _ h=>by rw[hw1] at h;cases h
    by_cases hh:c.head.pred=[]
    ·have g1:decide (c.head.pred=[])=true:=by rw[r8];exact hh
     simp only[go_sem,q5i,q1,q2,q5,q6,q14,q15,q16,hB,f1,hix,g1,z8,z0u hr1 (hh1 _),x6,f2]
     exact same hcl' _ _ _ _ q1 q2 q5 q6 q14 q15 rfl
    ·have g1:decide (c.head.pred=[])=false:=by rw[n9];exact hh
     by_cases hin:c.head.pred∈l'
     ·simp only[go_sem,q5i,q1,q2,q5,q6,q14,q15,q16,hB,f1,hix,g1,z8,z2p,z8s,hin,z5c,z0u hr1 (hh1 _),x6,f2]
      exact same hcl' _ _ _ _ q1 q2 q5 q6 q14 q15 rfl
     ·simp only[go_sem,q5i,q1,q2,q5,q6,q14,q15,q16,hB,f1,hix,g1,z8,z2p,z8s,hin,z3w,z0u hr1 (hh1 _),x6,f2]
      exact same hcl' _ _ _ _ q1 q2 q5 q6 q14 q15 rfl
  | true=>
    rw[hw1] at hr1
    cases hw2:z3y c.body l' with
    | true=>
      rw[hw2] at hr2
      have hcl':q2d dl c l':=fun _ _=>hw2
      by_cases hh:c.head.pred=[]
      ·have g1:decide (c.head.pred=[])=true:=by rw[r8];exact hh
       simp only[go_sem,q5i,q1,q2,q5,q6,q14,q15,q16,hB,f1,hix,g1,z8,z0u hr1 (hh1 _),z0u hr2 (hh2 _ _),x6,f2]
       exact same hcl' _ _ _ _ q1 q2 q5 q6 q14 q15 rfl
      ·have g1:decide (c.head.pred=[])=false:=by rw[n9];exact hh
       by_cases hin:c.head.pred∈l'
       ·simp only[go_sem,q5i,q1,q2,q5,q6,q14,q15,q16,hB,f1,hix,g1,z8,z2p,z8s,hin,z5c,z0u hr1 (hh1 _),z0u hr2 (hh2 _ _),x6,f2]
        exact same hcl' _ _ _ _ q1 q2 q5 q6 q14 q15 rfl
       ·simp only[go_sem,q5i,q1,q2,q5,q6,q14,q15,q16,hB,f1,hix,g1,z8,z2p,z8s,hin,z3w,z0u hr1 (hh1 _),z0u hr2 (hh2 _ _),x6,f2]
        exact same hcl' _ _ _ _ q1 q2 q5 q6 q14 q15 rfl
    | false=>
      rw[hw2] at hr2
      by_cases hh:c.head.pred=[]
      ·have g1:decide (c.head.pred=[])=true:=by rw[r8];exact hh
       simp only[go_sem,q5i,q1,q2,q5,q6,q14,q15,q16,hB,f1,hix,g1,z8,z0u hr1 (hh1 _),z0u hr2 (hh2 _ _),x6,z6]
       refine j4w (sD:=sD) (gD:=gD) (v14:= .sl (cs.map z0j) .no) (v15:= .int .i64 (cs.length:Int)) (v16:= .int .i64 (i:Int)) (g0:=g0) hB hbody (by simp[z0b,q1]) (by simp[z0b,q2]) (by simp[z0b,q5]) (by simp[z0b,q14]) (by simp[z0b,q15]) (by simp[z0b,q16]) (by simp[z0b]) (by simp[z0b]) (by simp[z0b]) fun ts' o3 clk' r1 r2 r5 r14 r15 r16=> ?_
       simp only[go_sem,r16,f2]
       exact add (.inl hh) hw1 hw2 _ _ _ _ r1 r2 r5 rfl r14 r15 rfl
      ·have g1:decide (c.head.pred=[])=false:=by rw[n9];exact hh
       by_cases hin:c.head.pred∈l'
       ·simp only[go_sem,q5i,q1,q2,q5,q6,q14,q15,q16,hB,f1,hix,g1,z8,z2p,z8s,hin,z5c,z0u hr1 (hh1 _),z0u hr2 (hh2 _ _),x6,z6]
        refine j4w (sD:=sD) (gD:=gD) (v14:= .sl (cs.map z0j) .no) (v15:= .int .i64 (cs.length:Int)) (v16:= .int .i64 (i:Int)) (g0:=g0) hB hbody (by simp[z0b,q1]) (by simp[z0b,q2]) (by simp[z0b,q5]) (by simp[z0b,q14]) (by simp[z0b,q15]) (by simp[z0b,q16]) (by simp[z0b]) (by simp[z0b]) (by simp[z0b]) fun ts' o3 clk' r1 r2 r5 r14 r15 r16=> ?_
        simp only[go_sem,r16,f2]
        exact add (.inr hin) hw1 hw2 _ _ _ _ r1 r2 r5 rfl r14 r15 rfl
       ·simp only[go_sem,q5i,q1,q2,q5,q6,q14,q15,q16,hB,f1,hix,g1,z8,z2p,z8s,hin,z3w,z0u hr1 (hh1 _),z0u hr2 (hh2 _ _),x6,f2]
        refine same (fun h=> ?_) _ _ _ _ q1 q2 q5 q6 q14 q15 rfl
        rcases h with h | h
        ·exact absurd h hh
        ·exact absurd h hin
 ·have f1:decide ((i:Int) < (cs.length:Int))=false:=by rw[n9];omega
  have hti:cs.take i=cs:=u0 (by omega)
  rw[hti] at hb2
  simp only[go_sem,q5i,q1,q2,q5,q6,q14,q15,q16,f1]
  refine he _ _ ?_
  exact hQ _ l' b o2 o3 _ hN' hb1 hb2 (by simp[z0b,q1]) (by simp[z0b,q2]) (by simp[z0b,q5]) (by simp[z0b,q6])
theorem u6v {s:Sys} {Dv:List Nat→Prop} {dl:List (List Nat)} {sD gD:Nat} {h:List AObj} {clk:Nat} {Q:AV→List AObj→Nat→Prop} (hcl:s.clauses.length≤2 ^ 20) (hbl:∀ c∈s.clauses,c.body.length≤2 ^ 20) (hdl:∀ a,a∈dl↔Dv a) (hS:Has [(sD, .map gD (z0x dl))] h) (hQ:∀ g l o0 o2 o3 c,(∀ a,a∈l↔Need s.clauses Dv a)→Q (.mp (h.length + 1) g) (h++[o0, .map g (z0x l),o2,o3]) c):WC Gam 30 [z4e s, .mp sD gD] h clk Q:=by
 refine k8u rfl u6p rfl rfl rfl (az:=[z4e s, .mp sD gD]) rfl (by simpa [z0i,z4j,AV.ids] using (j4u (s:=sD) (g:=gD) (l:=dl))) hS fun D B R hB hBh hSD hlt hR=> ?_
 simp only[go_sem,u3q,hB,z4e]
 refine z1f (fun m q=>∃ (l:List (List Nat)) (b:Bool) (g0 g:Nat) (o2 o3:AObj),m=(if b then q4c s.clauses l + 1 else 0)∧(∀ a∈l,Need s.clauses Dv a)∧(b=false→∀ c∈s.clauses,q2d dl c l)∧q.ts 1= .mp sD gD∧q.ts 2= .ptr (B + 0) g0 0 0∧q.ts 5= .mp (B + 1) g∧q.ts 6= .bool b∧q.h=D++[.blk g0 [.agg [.sl (s.preds.map z1m) .no, .sl (s.clauses.map z0j) .no]] false false 0, .map g (z0x l),o2,o3]) (q4c s.clauses [] + 1) ⟨[],true,_,_,_,_,rfl,by simp,by simp,rfl,rfl,rfl,rfl,rfl⟩ ?_
 rintro m ⟨ts,h,clk⟩ P ⟨l,b,g0,g,o2,o3,rfl,hN,hb,q1,q2,q5,q6,rfl⟩ hnx he hr
 dsimp only at q1 q2 q5 q6
 cases b with
 | true=>
   simp only[go_sem,k7z,q1,q2,q5,q6,hB,z6]
   refine k8y (g0:=g0) hB hcl hbl hdl hSD hN (by simp[z0b,q1]) (by simp[z0b,q2]) (by simp[z0b,q5]) (by simp[z0b]) (by simp[z0b]) (by simp[z0b]) (by simp[z0b]) fun ts' l' b o2 o3 clk' hN' hb1 hb2 r1 r2 r5 r6=> ?_
   simp only[go_sem,]
   refine hnx (if b then q4c s.clauses l' + 1 else 0) _ ?_ ⟨l',b,g0,g,o2,o3,rfl,hN',fun hbf=> ?_,r1,r2,r5,r6,rfl⟩
   ·cases b with
    | true=>have:=hb1 rfl;simpa using this
    | false=>simp
   ·obtain⟨e1,e2⟩:=hb2 hbf
    rw[e1];exact e2
 | false=>
   simp only[go_sem,k7z,q1,q2,q5,q6,hB]
   refine he _ _ ?_
   simp only[go_sem,q5]
   rw[q2u rfl]
   refine hR _ _ ⟨B + 1,by simp[z1k,AV.cv,AV.ids],by omega⟩ fun c=> ?_
   have:=hQ g l (.blk g0 [.agg [.sl (s.preds.map z1m) .no, .sl (s.clauses.map z0j) .no]] false false 0) o2 o3 c fun a=>⟨hN a,k8v hdl (hb rfl)⟩
   rw[←hBh] at this
   exact this
end Go.Proofs.YtkollgjffkdliaaGreatDoor.Am
