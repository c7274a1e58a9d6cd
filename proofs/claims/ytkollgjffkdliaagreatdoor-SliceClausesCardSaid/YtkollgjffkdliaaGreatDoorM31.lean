/- Walking: variables of a clause are checked Walking: a clause is checked Walking: a clause is checked Walking: systems are checked Walking: which bodies lie within a set; derivable predicates Walking:  -/
import Derived.Test.YtkollgjffkdliaaGreatDoorM30
set_option linter.all false
namespace Go.Proofs.YtkollgjffkdliaaGreatDoor.Am
open Go
set_option maxRecDepth 100000
def z3i (l:List (List Nat)):List (AV×AV):=l.map fun a=>(.str a, .bool true)
theorem x1v {a:List Nat}:∀ {l:List (List Nat)},findKey (.one .str) (.str a) (z3i l)=some (if a∈l then some (.bool true) else none)
 | []=>rfl
 | b::l=>by
   have ih:=x1v (a:=a) (l:=l)
   unfold z3i at ih⊢
   simp only[List.map_cons,findKey,AV.eqv,AV.eq1]
   by_cases h:a=b
   ·subst h
    simp
   ·simp only[h,decide_false,ih,List.mem_cons,false_or]
theorem q3v {a:List Nat}:∀ {l:List (List Nat)},a∉l→z7t (.one .str) (.str a) (.bool true) (z3i l)=some (z3i (l++[a]))
 | [],_=>rfl
 | b::l,hn=>by
   rw[List.mem_cons,not_or] at hn
   have ih:=q3v (a:=a) (l:=l) hn.2
   unfold z3i at ih⊢
   simp only[List.map_cons,List.cons_append,z7t,AV.eqv,AV.eq1,hn.1,decide_false,ih,Option.map_some]
theorem q3e {h:List AObj} {z:AV} {a:List Nat} {l:List (List Nat)}:lkV h (.one .str) z false (some (z3i l)) (.str a)=some (q8q false z (if a∈l then some (.bool true) else none),h):=w4f x1v
theorem v1s {sC gC sP gP:Nat} {s:Sys} {V:List Var} {u:Tip} (hp:∀ p∈s.preds,∀ v∈z1z,p.name≠v.name) (hs:V.Sublist z1z):Reads [(sC,z5e gC s sP gP),(sP,z9r gP s)] 201 [.ptr sC gC 0 0, .sl (V.map z1h) u] (.bool true):=by
 have hV:∀ v∈V,v∈z1z:=fun v hv=>hs.mem hv
 have hnd:V.Nodup:=hs.nodup (by decide)
 have hVl:V.length≤8:=hs.length_le
 refine Reads.of rfl u5k rfl rfl rfl (az:=[.ptr sC gC 0 0, .sl (V.map z1h) .no]) rfl (by simpa [idsL,AV.ids,z0d z2z] using Cov.two q7g (x4u (gP:=gP) (s:=s))) fun D B clk T hB hS hlt hT=> ?_
 have h1:=hlt (sC,z5e gC s sP gP) (by simp)
 have h2:=hlt (sP,z9r gP s) (by simp)
 have b1:=z5m (g:=gC) (hS (sC,z5e gC s sP gP) (by simp))
 have b2:=k5h (g:=gP) (hS (sP,z9r gP s) (by simp))
 dsimp only at h1 h2 b1 b2
 simp only[go_sem,y6k,hB,List.length_map]
 refine z1f (fun m q=>∃ (i g:Nat) (o:AObj),i≤V.length∧m=V.length - i∧q.ts 0= .ptr sC gC 0 0∧q.ts 5= .mp (B + 0) g∧q.ts 11= .sl (V.map z1h) .no∧q.ts 12= .int .i64 (V.length:Int)∧q.ts 13= .int .i64 (i:Int)∧q.h=D++[.map g (z3i ((V.take i).map (·.name))),o]) V.length ⟨0,_,_,by omega,rfl,rfl,rfl,rfl,rfl,rfl,rfl⟩ ?_
 rintro m ⟨ts,h,clk⟩ Pq ⟨i,g,o,hi,rfl,q0,q5,q11,q12,q13,rfl⟩ hnx he hr
 dsimp only at q0 q5 q11 q12 q13
 by_cases hlt':i < V.length
 ·have f1:decide ((i:Int) < (V.length:Int))=true:=by rw[decide_eq_true_iff];omega
  have f2:IntKind.i64.wrap ((i:Int) + 1)=((i + 1:Nat):Int):=z0c (by omega) (by omega)
  have hv:=List.getElem_mem hlt'
  have hix:∀ h,z1p h 2 (.sl (V.map z1h) .no) (.int .i64 (i:Int))=some (.iptr [.str V[i].name, .int .i64 (V[i].sort:Int)] 0,h):=fun h=>z2d hlt' rfl rfl
  have htake:V.take (i + 1)=V.take i++[V[i]]:=List.take_succ_eq_append_getElem hlt'
  have hnew:V[i].name∉(V.take i).map (·.name):=by
   intro hc
   obtain⟨w,hw,e⟩:=List.mem_map.1 hc
   have:w=V[i]:=x6w (hV w (List.mem_of_mem_take hw)) (hV _ hv) e
   subst this
   have h3:(V.take (i + 1)).Nodup:=hnd.sublist (List.take_sublist _ _)
   rw[htake,List.nodup_append] at h3
   exact h3.2.2 _ hw _ (by simp) rfl
  have hsort:=q6c (hV _ hv)
  have p1:=j3r (hV _ hv)
  have p2:=k5i hsort.1 hsort.2
  rw[nat] at p2
  have hnm:z3i ((V.take (i + 1)).map (·.name))=z3i ((V.take i).map (·.name)++[V[i].name]):=by rw[htake,List.map_append];rfl
  have hfp:=q3c (a:=V[i].name) (k:=0) (ps:=s.preds) fun p hp' e=>hp p hp' _ (hV _ hv) e
  generalize V[i]=v at *
  have hmu:∀ L:List AObj,z5q L 0 g=some (z3i ((V.take i).map (·.name)))→muV (D++L) (.one .str) (.str v.name) (.bool true) (.mp (B + 0) g)=some (.undef,D++L.set 0 (.map g (z3i ((V.take (i + 1)).map (·.name))))):=fun L hL=>by
   rw[hnm]
   exact j0n (v:= .bool true) hB hL rfl (q3v hnew)
  simp only[go_sem,j6s,q0,q5,q11,q12,q13,f1,hB,hix,z3m hB h1,b1,z3v,x6z hB h2,b2,x1s hfp,q1d,q3e,hnew,z5p,z0a p1,Bool.not_true,z0a p2,hmu,f2]
  exact hnx (V.length - (i + 1)) _ (by omega) ⟨i + 1,g,_,hlt',rfl,q0,q5,q11,q12,rfl,rfl⟩
 ·have f1:decide ((i:Int) < (V.length:Int))=false:=by rw[decide_eq_false_iff_not];omega
  simp only[go_sem,j6s,q0,q5,q11,q12,q13,f1]
  refine he _ _ ?_
  simp only[go_sem,]
  rw[z0e]
  exact hT _ hS.app
theorem u5w {V:List Var} {u:Tip} {h:List AObj} {clk:Nat} {Q:AV→List AObj→Nat→Prop} (hs:V.Sublist z1z) (hQ:∀ g o c,Q (.mp h.length g) (h++[.map g (z1s V),o]) c):WC Gam 200 [.sl (V.map z1h) u] h clk Q:=by
 have hnd:V.Nodup:=hs.nodup (by decide)
 have hVl:V.length≤8:=hs.length_le
 refine x1p rfl u5j rfl rfl rfl (az:=[.sl (V.map z1h) .no]) rfl (by simp[idsL,AV.ids,z0d z2z]) fun D B R hB hBh hR=> ?_
 simp only[go_sem,y6j,hB,List.length_map]
 refine z1f (fun m q=>∃ (i g:Nat) (o:AObj),i≤V.length∧m=V.length - i∧q.ts 3= .mp (B + 0) g∧q.ts 7= .sl (V.map z1h) .no∧q.ts 8= .int .i64 (V.length:Int)∧q.ts 9= .int .i64 (i:Int)∧q.h=D++[.map g (z1s (V.take i)),o]) V.length ⟨0,_,_,by omega,rfl,rfl,rfl,rfl,rfl,rfl⟩ ?_
 rintro m ⟨ts,h,clk⟩ Pq ⟨i,g,o,hi,rfl,q3,q7,q8,q9,rfl⟩ hnx he hr
 dsimp only at q3 q7 q8 q9
 by_cases hlt':i < V.length
 ·have f1:decide ((i:Int) < (V.length:Int))=true:=by rw[decide_eq_true_iff];omega
  have f2:IntKind.i64.wrap ((i:Int) + 1)=((i + 1:Nat):Int):=z0c (by omega) (by omega)
  have hix:∀ h,z1p h 2 (.sl (V.map z1h) .no) (.int .i64 (i:Int))=some (.iptr [.str V[i].name, .int .i64 (V[i].sort:Int)] 0,h):=fun h=>z2d hlt' rfl rfl
  have htake:V.take (i + 1)=V.take i++[V[i]]:=List.take_succ_eq_append_getElem hlt'
  have hnew:V[i]∉V.take i:=by
   intro hc
   have h3:(V.take (i + 1)).Nodup:=hnd.sublist (List.take_sublist _ _)
   rw[htake,List.nodup_append] at h3
   exact h3.2.2 _ hc _ (by simp) rfl
  generalize V[i]=v at *
  have hput:=x4t hnew
  have hmu:∀ L:List AObj,z5q L 0 g=some (z1s (V.take i))→muV (D++L) (.agg [.str, .int]) (.agg [.str v.name, .int .i64 (v.sort:Int)]) (.bool true) (.mp (B + 0) g)=some (.undef,D++L.set 0 (.map g (z1s (V.take (i + 1))))):=fun L hL=>by
   have hpub:pub (D++L) (.bool true)=some (.bool true,D++L):=rfl
   have he:((AV.agg [.str v.name, .int .i64 (v.sort:Int)]).eqv (.agg [.str, .int]) (.agg [.str v.name, .int .i64 (v.sort:Int)])).isSome=true:=by
    have:=x7a (v:=v) (w:=v)
    rw[show z1h v= .agg [.str v.name, .int .i64 (v.sort:Int)] from rfl] at this
    rw[this]
    rfl
   have hput':z7t (.agg [.str, .int]) (.agg [.str v.name, .int .i64 (v.sort:Int)]) (.bool true) (z1s (V.take i))=some (z1s (V.take (i + 1))):=by rw[htake];exact hput
   simp only[muV,x6c hB,hL,hpub,he,if_true,hput',Option.map_some,z5l hB]
  simp only[go_sem,k4z,q3,q7,q8,q9,f1,hB,hix,hmu,f2]
  exact hnx (V.length - (i + 1)) _ (by omega) ⟨i + 1,g,_,hlt',rfl,q3,q7,q8,rfl,rfl⟩
 ·have f1:decide ((i:Int) < (V.length:Int))=false:=by rw[decide_eq_false_iff_not];omega
  have hti:V.take i=V:=List.take_of_length_le (by omega)
  simp only[go_sem,k4z,q3,q7,q8,q9,f1]
  refine he _ _ ?_
  simp only[go_sem,q3]
  rw[q6g rfl,hti]
  refine hR _ _ ⟨B + 0,by simp[z1l,AV.cv,AV.ids],by omega⟩ fun c=> ?_
  have:=hQ g o c
  rw[←hBh] at this
  exact this
mutual
theorem x7b:∀ (a:AV),a.beq a=true
 | .undef=>rfl
 | .int _ _=>by simp[AV.beq]
 | .bool _=>by simp[AV.beq]
 | .str _=>by simp[AV.beq]
 | .agg cs=>by simp[AV.beq,z9k cs]
 | .tup cs=>by simp[AV.beq,z9k cs]
 | .sl cs _=>by simp[AV.beq,z9k cs]
 | .ob .. =>by simp[AV.beq]
 | .ptr .. =>by simp[AV.beq]
 | .iptr cs _=>by simp[AV.beq,z9k cs]
 | .nilptr=>rfl
 | .mp .. =>by simp[AV.beq]
 | .nilmap=>rfl
 | .fn _ cs=>by simp[AV.beq,z9k cs]
 | .nilfn=>rfl
 | .nilif=>rfl
 | .bwd _ x=>by simp[AV.beq,x7b x]
theorem z9k:∀ (l:List AV),j8d l l=true
 | []=>rfl
 | a::l=>by simp[j8d,x7b a,z9k l]
end
theorem j0o:∀ (l:List (AV×AV)),v4r l l=true
 | []=>rfl
 | a::l=>by simp[v4r,x7b,j0o l]
theorem v1t:∀ (o:AObj),o.beq o=true
 | .dead=>rfl
 | .blk .. =>by simp[AObj.beq,z9k]
 | .tip .. =>by simp[AObj.beq]
 | .map .. =>by simp[AObj.beq,j0o]
theorem j0p {F:List Nat} {h:List AObj}:z3r F h h=(F,[]):=by
 unfold z3r
 simp[v1t]
theorem z7x {f base gg clk:Nat} {args:List AV} {S:List (Nat×AObj)} {h:List AObj} {v:AV} {m:Md} {dst:Option Nat} {os:List AOper} {ts:Tmps} {ks:List Kf} {Q:Post} (hr:Reads S f args v) (hh:Has S h)
  (hO:O Gam base (m.add (S.map (·.1),[])) (gg + 1) os ⟨z9n ts dst v,h,clk⟩ ks Q):CK Gam base f args h clk m dst gg os ts ks Q:=by
 obtain⟨⟨k,hk⟩,hF⟩:=hr h clk hh
 refine⟨k,v,h,clk,hk, ?_⟩
 dsimp only
 rw[j0p]
 exact k3m hF (by simp) hO
theorem z8p {sC gC sP gP:Nat} {s:Sys} {w k:Int}:Reads [(sC,z5e gC s sP gP),(sP,z9r gP s)] 126 [.ptr sC gC 0 0, .bool false, .int .i64 w, .int .i64 k] (.tup []):=by
 refine Reads.of rfl u5h rfl rfl rfl (az:=[.ptr sC gC 0 0, .bool false, .int .i64 w, .int .i64 k]) rfl (by simpa [idsL,AV.ids] using Cov.two q7g (x4u (gP:=gP) (s:=s))) fun D B clk T hB hS hlt hT=> ?_
 simp only[go_sem,y6h]
 rw[z0g rfl rfl]
 exact hT _ hS.app
theorem Cov.five {s2 sC sP s5 sX g2 gC gP g5 gX:Nat} {s:Sys} {V:List Var} (h1:sC < sP) (h2:sP < s2) (h3:s2 < s5) (h4:s5 < sX):Cov [(s2, .blk g2 [.ptr sC gC 0 0] false false 0),(sC,z5e gC s sP gP),(sP,z9r gP s),(s5, .blk g5 [.mp sX gX] false false 0),(sX, .map gX (z1s V))] [s2,s5]:=by
 have i2:(AObj.blk g2 [.ptr sC gC 0 0] false false 0).ids=[sC]:=rfl
 have i5:(AObj.blk g5 [.mp sX gX] false false 0).ids=[sX]:=rfl
 refine⟨by simp,by simp[i2,i5,q7g,x4u,q3b],fun h hS p hp=> ?_⟩
 have a2:h[s2]? =some (.blk g2 [.ptr sC gC 0 0] false false 0):=hS (s2,_) (by simp)
 have aC:h[sC]? =some (z5e gC s sP gP):=hS (sC,z5e gC s sP gP) (by simp)
 have aP:h[sP]? =some (z9r gP s):=hS (sP,z9r gP s) (by simp)
 have a5:h[s5]? =some (.blk g5 [.mp sX gX] false false 0):=hS (s5,_) (by simp)
 have hX:=hS.lt (sX,_) (List.mem_cons_of_mem _ (List.mem_cons_of_mem _ (List.mem_cons_of_mem _ (List.mem_cons_of_mem _ List.mem_cons_self))))
 dsimp only at hX
 obtain⟨m,hm⟩:∃ m,h.length=m + 4:=⟨h.length - 4,by omega⟩
 have hr:reach h (h.length + 1) [] [s2,s5]=reach h (m + 1) [s5,sP,sC,s2] [sX]:=by
  rw[hm,q0y (by simp) a2,i2]
  rw[List.singleton_append,q0y (by simp;omega) aC,q7g]
  rw[List.singleton_append,q0y (by simp;omega) aP,x4u]
  rw[List.nil_append,q0y (by simp;omega) a5,i5]
  rfl
 rw[hr]
 simp at hp
 rcases hp with rfl | rfl | rfl | rfl | rfl <;> exact z7g (by simp)
theorem v1u {s2 sC sP s5 sX g2 gC gP g5 gX:Nat} {s:Sys} {a:App} {V:List Var} (hp:PrOk s.preds) (ha:AppOk s.preds V a) (hV:∀ v∈V,v∈z1z) (h1:sC < sP) (h2:sP < s2) (h3:s2 < s5) (h4:s5 < sX):
  Reads [(s2, .blk g2 [.ptr sC gC 0 0] false false 0),(sC,z5e gC s sP gP),(sP,z9r gP s),(s5, .blk g5 [.mp sX gX] false false 0),(sX, .map gX (z1s V))] 202 [z3u a, .ptr s2 g2 0 0, .ptr s5 g5 0 0] (.bool false):=by
 refine Reads.of rfl u5l rfl rfl rfl (az:=[z3u a, .ptr s2 g2 0 0, .ptr s5 g5 0 0]) rfl (by simpa [idsL,AV.ids,z6d] using Cov.five h1 h2 h3 h4) fun D B clk T hB hS hlt hT=> ?_
 have l2:=hlt (s2, .blk g2 [.ptr sC gC 0 0] false false 0) (by simp)
 have l5:=hlt (s5, .blk g5 [.mp sX gX] false false 0) (by simp)
 have b2:=z5m (g:=g2) (hS (s2, .blk g2 [.ptr sC gC 0 0] false false 0) (by simp))
 have b5:=z5m (g:=g5) (hS (s5, .blk g5 [.mp sX gX] false false 0) (by simp))
 dsimp only at l2 l5 b2 b5
 have hr:=j6z (sC:=sC) (gC:=gC) (sP:=sP) (gP:=gP) (sX:=sX) (gX:=gX) hp ha hV
 have hh:∀ L,Has [(sC,z5e gC s sP gP),(sP,z9r gP s),(sX, .map gX (z1s V))] (D++L):=fun L p hp'=>hS.app p (by simp at hp';rcases hp' with rfl | rfl | rfl <;> simp)
 rw[z3u] at hr
 simp only[go_sem,y6l,hB,z3u,z3m hB l2,b2,z3m hB l5,b5,z0x hr (hh _),Bool.not_true]
 rw[z0e]
 exact hT _ hS.app
theorem k5j {f base gg clk:Nat} {args:List AV} {h:List AObj} {m:Md} {dst:Option Nat} {os:List AOper} {ts:Tmps} {ks:List Kf} {Q:Post} (hf:z1a Gam f args h=[]) (hw:WC Gam f args h clk fun v h' c=>O Gam base (m.add ([],[])) (gg + 1) os ⟨z9n ts dst v,h',c⟩ ks Q):CK Gam base f args h clk m dst gg os ts ks Q:=by
 unfold CK
 rw[hf]
 exact hw
theorem v7g {T:List Nat} {R:AV→List AObj→Prop} {h:List AObj}:RV T (some []) R h=R (.tup []) h:=z0g rfl rfl
theorem v1v {sC gC sP gP i:Nat} {s:Sys} {c:Clause} (hp:PrOk s.preds) (hn:∀ p∈s.preds,∀ v∈z1z,p.name≠v.name) (hc:ClauseOk s.preds c) (hi:s.clauses[i]? =some c) (hlt1:sC < sP):Reads [(sC,z5e gC s sP gP),(sP,z9r gP s)] 127 [.ptr sC gC 0 0, .int .i64 (i:Int)] (.tup []):=by
 obtain⟨hsub,hbl,hbody,hguard,hhead⟩:=hc
 have hV:∀ v∈c.vars,v∈z1z:=fun v hv=>hsub.mem hv
 have hVl:c.vars.length≤8:=hsub.length_le
 refine Reads.of rfl u5i rfl rfl rfl (az:=[.ptr sC gC 0 0, .int .i64 (i:Int)]) rfl (by simpa [idsL,AV.ids] using Cov.two q7g (x4u (gP:=gP) (s:=s))) fun D B clk T hB hS hlt hT=> ?_
 have h1:=hlt (sC,z5e gC s sP gP) (by simp)
 have h2:=hlt (sP,z9r gP s) (by simp)
 have b1:=z5m (g:=gC) (hS (sC,z5e gC s sP gP) (by simp))
 dsimp only at h1 h2 b1
 have hil:i < s.clauses.length:=by
  rw[List.getElem?_eq_some_iff] at hi
  exact hi.1
 have hix:∀ h,z1p h 5 (.sl (s.clauses.map z0h) .no) (.int .i64 (i:Int))=some (.iptr [.sl (c.vars.map z1h) .no, .sl (c.body.map z3u) .no,AV.sl (c.guard.map eNode) .no, .str c.head.pred, .sl (c.head.args.map z0n) .no] 0,h):=fun h=>by
  have h2:s.clauses[i]=c:=by
   rw[List.getElem?_eq_some_iff] at hi
   exact hi.2
  rw[z2d (f:=z0h) hil (cs:=[.sl (c.vars.map z1h) .no, .sl (c.body.map z3u) .no,AV.sl (c.guard.map eNode) .no, .str c.head.pred, .sl (c.head.args.map z0n) .no]) (esz:=5) (by rw[h2];rfl) rfl]
 simp only[go_sem,y6i,hB,z3m hB h1,b1,hix]
 refine z5x (u5w hsub fun gX oX c2=> ?_)
 have hlen:∀ a b c:AObj,(D++[a,b,c]).length=B + 3:=fun a b c=>by simp[hB]
 have hS2:∀ L,Has [(sC,z5e gC s sP gP),(sP,z9r gP s)] (D++L):=fun L=>hS.app
 have hSX:∀ a b d L,Has [(B + 3, .map gX (z1s c.vars))] (D++a::b::d:: .map gX (z1s c.vars)::L):=fun _ _ _ _=>x6t hB rfl
 have hS5:∀ g0 g2 b L,Has [(B + 0, .blk g0 [.ptr sC gC 0 0] false false 0),(sC,z5e gC s sP gP),(sP,z9r gP s),(B + 2, .blk g2 [.mp (B + 3) gX] false false 0),(B + 3, .map gX (z1s c.vars))] (D++ .blk g0 [.ptr sC gC 0 0] false false 0::b:: .blk g2 [.mp (B + 3) gX] false false 0:: .map gX (z1s c.vars)::L):=fun g0 g2 b L=>by
  refine Has.cons ?_ (Has.cons (hS2 _ (sC,z5e gC s sP gP) (by simp)) (Has.cons (hS2 _ (sP,z9r gP s) (by simp)) (Has.cons ?_ (Has.cons ?_ Has.nil))))
  ·dsimp only;rw[z6c hB];rfl
  ·dsimp only;rw[z6c hB];rfl
  ·dsimp only;rw[z6c hB];rfl
 have hS3:∀ a b d L,Has [(sC,z5e gC s sP gP),(sP,z9r gP s),(B + 3, .map gX (z1s c.vars))] (D++a::b::d:: .map gX (z1s c.vars)::L):=fun a b d L=>by
  refine Has.cons (hS2 _ (sC,z5e gC s sP gP) (by simp)) (Has.cons (hS2 _ (sP,z9r gP s) (by simp)) (hSX a b d L))
 have hd:∀ N,N=B + 5→sC < N∧sP < N:=fun N hN=>by omega
 simp only[go_sem,hB,hlen,List.append_assoc,z1b,z9c]
 refine z7x (v1s hn hsub) (hS2 _) ?_
 simp only[go_sem,Bool.not_true]
 refine z7x z8p (hS2 _) ?_
 simp only[go_sem,hB]
 refine⟨by simp[z1e,apart,z0l,z0z,z1i,AOp.isCall,hB] <;> omega, ?_⟩
 have r93:∀ g0 g2,Reads [(B + 0, .blk g0 [.ptr sC gC 0 0] false false 0),(sC,z5e gC s sP gP),(sP,z9r gP s),(B + 2, .blk g2 [.mp (B + 3) gX] false false 0),(B + 3, .map gX (z1s c.vars))] 89 [.sl (c.body.map z3u) .no, .fn 202 [.ptr (B + 0) g0 0 0, .ptr (B + 2) g2 0 0]] (.bool false):=fun g0 g2=>by
  have:=j3p (enc:=z3u) (xs:=c.body) (t:= .no) (cap:=[.ptr (B + 0) g0 0 0, .ptr (B + 2) g2 0 0]) (P:=fun _=>false) (fun _=>rfl) (fun _ _=>rfl) z6d (by omega) (by simpa [idsL,AV.ids] using Cov.five (s2:=B + 0) (s5:=B + 2) (sX:=B + 3) (g2:=g0) (g5:=g2) (gC:=gC) (gP:=gP) (gX:=gX) (s:=s) (V:=c.vars) hlt1 (by omega) (by omega) (by omega)) fun a ha=>v1u hp (hbody a ha) hV hlt1 (by omega) (by omega) (by omega)
  have e:(c.body.any fun _=>false)=false:=by simp
  rw[e] at this
  exact this
 simp only[go_sem,hB,z1b]
 refine z7x (r93 _ _) (hS5 _ _ _ _) ?_
 simp only[go_sem,]
 refine z7x z8p (hS2 _) ?_
 simp only[go_sem,hB]
 refine⟨by simp[z1e,apart,z0l,z0z,z1i,AOp.isCall,hB] <;> omega, ?_⟩
 have r175:Reads [(B + 3, .map gX (z1s c.vars))] 204 [.mp (B + 3) gX, .sl (c.guard.map eNode) .no, .int .i64 1] (.bool true):=j6y hguard.1 hV (by have:=hguard.2.1;omega) (by omega)
 simp only[go_sem,hB,z1b]
 refine z7x r175 (hSX _ _ _ _) ?_
 simp only[go_sem,Bool.not_true]
 refine z7x z8p (hS2 _) ?_
 simp only[go_sem,hB]
 refine⟨by simp[z1e,apart,z0l,z0z,z1i,AOp.isCall,hB] <;> omega, ?_⟩
 have e1:decide ((400:Int) < (c.vars.length:Int))=false:=by rw[decide_eq_false_iff_not];omega
 have e2:decide ((8:Int) < (c.body.length:Int))=false:=by rw[decide_eq_false_iff_not];omega
 rcases hhead with ⟨hh1,hh2⟩ | hha
 ·simp only[go_sem,hB,hh1,hh2,decide_true,List.length_map,Int.reduceLT,decide_false]
  rw[z0x z8p (hS2 _)]
  simp only[go_sem,hB,List.length_map,e1,e2]
  rw[z0x z8p (hS2 _)]
  simp only[go_sem,]
  rw[v7g]
  exact hT _ hS.app
 ·have hne:decide (c.head.pred=[])=false:=by
   obtain⟨f,hf,hname,_,_⟩:=hha
   rw[decide_eq_false_iff_not,hname]
   exact hp.name f hf
  have r174:=j6z (sC:=sC) (gC:=gC) (sP:=sP) (gP:=gP) (sX:=B + 3) (gX:=gX) hp hha hV
  rw[z3u] at r174
  simp only[go_sem,hB,hne,z1b]
  refine z7x r174 (hS3 _ _ _ _) ?_
  simp only[go_sem,Bool.not_true]
  refine z7x z8p (hS2 _) ?_
  simp only[go_sem,hB]
  refine⟨by simp[z1e,apart,z0l,z0z,z1i,AOp.isCall,hB] <;> omega, ?_⟩
  simp only[go_sem,hB,List.length_map,e1,e2]
  rw[z0x z8p (hS2 _)]
  simp only[go_sem,]
  rw[v7g]
  exact hT _ hS.app
structure SysV (s:Sys):Prop where
 preds:s.preds.Sublist allPreds
 len:s.clauses.length≤16
 clauses:∀ c∈s.clauses,ClauseOk s.preds c
theorem SysOk.v {s:Sys} (h:SysOk s):SysV s:=by
 obtain⟨⟨n,_,_,hp⟩,hl,hc⟩:=h
 refine⟨by rw[hp];exact (List.take_sublist _ _).trans (List.sublist_append_left z5w [w2k]),by omega,hc⟩
theorem SysV.pr {s:Sys} (h:SysV s):PrOk s.preds:=by
 refine⟨(h.preds.map _).nodup (by decide),fun f hf=> ?_,fun f hf=> ?_⟩
 ·have:∀ f∈allPreds,f.args.length≤40∧∀ s∈f.args,1≤s∧s≤4:=by decide
  exact this f (h.preds.mem hf)
 ·have:∀ f∈allPreds,f.name≠[]:=by decide
  exact this f (h.preds.mem hf)
theorem SysV.apart {s:Sys} (h:SysV s):∀ p∈s.preds,∀ v∈z1z,p.name≠v.name:=fun p hp=>by
 have:∀ p∈allPreds,∀ v∈z1z,p.name≠v.name:=by decide
 exact this p (h.preds.mem hp)
theorem u5x {ps:List Func} {u:Tip} {h:List AObj} {clk:Nat} {Q:AV→List AObj→Nat→Prop} (hp:PrOk ps) (hl:ps.length≤1000) (hQ:∀ g o c,Q (.mp h.length g) (h++[.map g (z4e 0 ps),o]) c):WC Gam 122 [.sl (ps.map z0y) u] h clk Q:=by
 refine x1p rfl y6e rfl rfl rfl (az:=[.sl (ps.map z0y) .no]) rfl (by simp[idsL,AV.ids,z0d z4i]) fun D B R hB hBh hR=> ?_
 simp only[go_sem,y6d,hB,List.length_map]
 refine z1f (fun m q=>∃ (i g:Nat) (o:AObj),i≤ps.length∧m=ps.length - i∧q.ts 3= .mp (B + 0) g∧q.ts 9= .sl (ps.map z0y) .no∧q.ts 10= .int .i64 (ps.length:Int)∧q.ts 11= .int .i64 (i:Int)∧q.h=D++[.map g (z4e 0 (ps.take i)),o]) ps.length ⟨0,_,_,by omega,rfl,rfl,rfl,rfl,rfl,rfl⟩ ?_
 rintro m ⟨ts,h,clk⟩ Pq ⟨i,g,o,hi,rfl,q3,q9,q10,q11,rfl⟩ hnx he hr
 dsimp only at q3 q9 q10 q11
 by_cases hlt':i < ps.length
 ·have f1:decide ((i:Int) < (ps.length:Int))=true:=by rw[decide_eq_true_iff];omega
  have f2:IntKind.i64.wrap ((i:Int) + 1)=((i + 1:Nat):Int):=z0c (by omega) (by omega)
  have hix:∀ h,z1p h 3 (.sl (ps.map z0y) .no) (.int .i64 (i:Int))=some (.iptr [.str ps[i].name, .sl (ps[i].args.map nat) .no, .int .i64 (ps[i].result:Int)] 0,h):=fun h=>z8o hlt'
  have htake:ps.take (i + 1)=ps.take i++[ps[i]]:=List.take_succ_eq_append_getElem hlt'
  have hnew:∀ p∈ps.take i,p.name≠ps[i].name:=by
   intro p hp' e
   have h3:=hp.nodup
   have h4:((ps.take (i + 1)).map (·.name)).Nodup:=h3.sublist ((List.take_sublist _ _).map _)
   rw[htake,List.map_append,List.nodup_append] at h4
   exact h4.2.2 _ (List.mem_map.2 ⟨p,hp',rfl⟩) _ (by simp) e
  have hput:=x1u (a:=ps[i].name) (n:=i) (ps:=ps.take i) (k:=0) (r:=ps[i].args) (q:=ps[i].result) hnew (by simp;omega)
  have hfk:=q3c (a:=ps[i].name) (k:=0) hnew
  generalize ps[i]=p at *
  have hmu:∀ L:List AObj,z5q L 0 g=some (z4e 0 (ps.take i))→muV (D++L) (.one .str) (.str p.name) (.int .i64 (i:Int)) (.mp (B + 0) g)=some (.undef,D++L.set 0 (.map g (z4e 0 (ps.take (i + 1))))):=fun L hL=>by
   refine j0n (v:= .int .i64 (i:Int)) hB hL rfl ?_
   rw[htake]
   exact hput
  simp only[go_sem,j6r,q3,q9,q10,q11,f1,hB,hix,z3v,x1s hfk,q1d,Bool.not_false,hmu,f2]
  exact hnx (ps.length - (i + 1)) _ (by omega) ⟨i + 1,g,_,hlt',rfl,q3,q9,q10,rfl,rfl⟩
 ·have f1:decide ((i:Int) < (ps.length:Int))=false:=by rw[decide_eq_false_iff_not];omega
  have hti:ps.take i=ps:=List.take_of_length_le (by omega)
  simp only[go_sem,j6r,q3,q9,q10,q11,f1]
  refine he _ _ ?_
  simp only[go_sem,q3]
  rw[q6g rfl,hti]
  refine hR _ _ ⟨B + 0,by simp[z1l,AV.cv,AV.ids],by omega⟩ fun c=> ?_
  have:=hQ g o c
  rw[←hBh] at this
  exact this
theorem w4h {f:Func} (hf:f∈allPreds):Pure Gam 124 [z0y f] (.bool false):=by
 refine Pure.tab (tab:=j4q) rfl rfl ?_
 simp only[allPreds,List.mem_cons,List.not_mem_nil,or_false] at hf
 rcases hf with rfl | rfl | rfl | rfl | rfl | rfl <;> rfl
theorem Cov.none:Cov [] []:=⟨by simp,by simp,fun h _ p hp=>by simp at hp⟩
theorem k5k {ps:List Func} (hp:ps.Sublist allPreds):Reads [] 123 [.sl (ps.map z0y) .no, .fn 124 []] (.bool false):=by
 have:=v1j (enc:=z0y) (xs:=ps) (S:=[]) (c:=124) (cap:=[]) (t:= .no) (P:=fun _=>false) (fun _=>rfl) (fun _ _=>rfl) z4i (by have:=hp.length_le;simp[allPreds] at this;omega) Cov.none fun f hf=>(w4h (hp.mem hf)).reads
 have e:(ps.any fun _=>false)=false:=by simp
 rw[e] at this
 exact this
theorem w4i {h:List AObj} {s g:Nat}:k8w h .mp (.mp s g)=((z5q h s g).map fun es=>(.int .i64 (es.length:Int))).map (·,h):=(rfl)
theorem y6u {s:Sys} (hs:SysV s):Pure Gam 70 [z2a s] (.sl [] .no):=by
 have hpr:=hs.pr
 have hpl:s.preds.length≤6:=hs.preds.length_le
 have hcl:=hs.len
 refine Pure.of rfl g2v rfl rfl rfl (az:=[z2a s]) rfl (by simp[idsL,z2v]) fun D B clk T hB hT=> ?_
 simp only[go_sem,u9j,hB,z2a,z1b]
 refine k5j ?_ (u5x hpr (by omega) fun gP oP c2=> ?_)
 ·refine q5u (az:=[.sl (s.preds.map z0y) .no]) y6e rfl rfl rfl (by simp[idsL,AV.ids,z0d z4i])
 have hlen:∀ a b:AObj,(D++[a,b]).length=B + 2:=fun a b=>by simp[hB]
 simp only[go_sem,hB,hlen,List.append_assoc]
 refine⟨by simp[z1e,apart,z0l,z0z,z1i,AOp.isCall], ?_⟩
 have hS:∀ g a o,Has [(B + 1,z5e g s (B + 2) gP),(B + 2,z9r gP s)] (D++[a, .blk g [.agg [.sl (s.preds.map z0y) .no, .sl (s.clauses.map z0h) .no, .mp (B + 2) gP, .sl [] .nil]] false false 0, .map gP (z4e 0 s.preds),o]):=fun g a o=>by
  refine Has.cons ?_ (Has.cons ?_ Has.nil)
  ·dsimp only;rw[z6c hB];rfl
  ·dsimp only;rw[z6c hB];rfl
 have r118:=k5k hs.preds
 have e1:decide ((s.preds.length:Int) < (s.preds.length:Int))=false:=by rw[decide_eq_false_iff_not];omega
 have e2:decide ((512:Int) < (s.preds.length:Int))=false:=by rw[decide_eq_false_iff_not];omega
 have e3:decide ((2048:Int) < (s.clauses.length:Int))=false:=by rw[decide_eq_false_iff_not];omega
 simp only[w4i,x6c hB,j5o,j5n,Option.map_some,j3u]
 simp only[go_sem,hB,List.length_map,e1,z0x r118 Has.nil,decide_false,Int.lt_irrefl]
 rw[z0x z8p (hS _ _ _)]
 simp only[go_sem,hB,List.length_map,e2,e3]
 rw[z0x z8p (hS _ _ _)]
 simp only[go_sem,hB,List.length_map]
 refine z1f (fun m q=>∃ (i gC:Nat) (a:AObj),i≤s.clauses.length∧m=s.clauses.length - i∧q.ts 3= .ptr (B + 1) gC 0 0∧q.ts 43= .int .i64 (s.clauses.length:Int)∧q.ts 44= .int .i64 (i:Int)∧q.h=D++[a, .blk gC [.agg [.sl (s.preds.map z0y) .no, .sl (s.clauses.map z0h) .no, .mp (B + 2) gP, .sl [] .nil]] false false 0, .map gP (z4e 0 s.preds),oP]) s.clauses.length ⟨0,_,_,by omega,rfl,by simp[z0b],by simp[z0b],by simp[z0b],rfl⟩ ?_
 rintro m ⟨ts,h,clk⟩ Pq ⟨i,gC,a,hi,rfl,q3,q43,q44,rfl⟩ hnx he hr
 dsimp only at q3 q43 q44
 by_cases hlt':i < s.clauses.length
 ·have f1:decide ((i:Int) < (s.clauses.length:Int))=true:=by rw[decide_eq_true_iff];omega
  have f2:IntKind.i64.wrap ((i:Int) + 1)=((i + 1:Nat):Int):=z0c (by omega) (by omega)
  have r122:=v1v (sC:=B + 1) (gC:=gC) (sP:=B + 2) (gP:=gP) (i:=i) (c:=s.clauses[i]) hpr hs.apart (hs.clauses _ (List.getElem_mem hlt')) (by simp[hlt']) (by omega)
  simp only[go_sem,v1e,q3,q43,q44,f1,z0x r122 (hS _ _ _),f2]
  exact hnx (s.clauses.length - (i + 1)) _ (by omega) ⟨i + 1,gC,a,hlt',rfl,q3,q43,rfl,rfl⟩
 ·have f1:decide ((i:Int) < (s.clauses.length:Int))=false:=by rw[decide_eq_false_iff_not];omega
  simp only[go_sem,v1e,q3,q43,q44,f1]
  refine he _ _ ?_
  simp only[go_sem,q3,hB]
  rw[z0g rfl rfl]
  exact hT _
theorem k5l {s:Sys} (hs:SysV s):Pure Gam 28 [z2a s] (.bool true):=by
 have hp:=y6u hs
 rw[z2a] at hp
 refine Pure.of rfl g2u rfl rfl rfl (az:=[z2a s]) rfl (by simp[idsL,z2v]) fun D B clk T hB hT=> ?_
 simp only[go_sem,u9i,hB,z2a,z0a hp,Int.reduceEq,decide_true]
 rw[z0e]
 exact hT _
def z2j (body:List App) (l:List (List Nat)):Bool:=body.all fun a=>decide (a.pred∈l)
inductive Der (cs:List Clause):List Nat→Prop
 | of {c:Clause} (hc:c∈cs) (hh:c.head.pred≠[]) (hb:∀ a∈c.body,Der cs a.pred):Der cs c.head.pred
def x1w (c:Clause) (l:List (List Nat)):Prop:=c.head.pred≠[]→z2j c.body l=true→c.head.pred∈l
theorem z3z {body:List App} {l:List (List Nat)}:z2j body l=true↔∀ a∈body,a.pred∈l:=by simp[z2j]
theorem w4j {cs:List Clause} {l:List (List Nat)} (hc:∀ c∈cs,x1w c l) {a:List Nat} (h:Der cs a):a∈l:=by
 induction h with
 | of hc' hh hb ih=>exact hc _ hc' hh (z3z.2 ih)
def q7h (cs:List Clause) (l:List (List Nat)):Nat:=(cs.filter fun c=>decide (c.head.pred∉l)).length
theorem w4k {cs:List Clause} {l l':List (List Nat)} (h:∀ a∈l,a∈l'):q7h cs l'≤q7h cs l:=by
 unfold q7h
 rw[←List.countP_eq_length_filter,←List.countP_eq_length_filter]
 refine List.countP_mono_left fun c _ hc=> ?_
 simp only[decide_eq_true_eq] at hc⊢
 exact fun h'=>hc (h _ h')
theorem w4l {cs:List Clause} {l:List (List Nat)} {c:Clause} (hc:c∈cs) (hn:c.head.pred∉l):q7h cs (l++[c.head.pred]) < q7h cs l:=by
 unfold q7h
 induction cs with
 | nil=>simp at hc
 | cons d cs ih=>
   have hle:∀ ds:List Clause,(ds.filter fun c'=>decide (c'.head.pred∉l++[c.head.pred])).length≤(ds.filter fun c'=>decide (c'.head.pred∉l)).length:=fun ds=>w4k (cs:=ds) (fun a ha=>List.mem_append_left _ ha)
   rw[List.mem_cons] at hc
   rcases hc with rfl | hc
   ·have:=hle cs
    simp[List.filter_cons,hn]
    simp at this
    omega
   ·have:=ih hc
    simp only[List.filter_cons]
    have h2:=hle [d]
    simp only[List.filter_cons,List.filter_nil] at h2
    split <;> split <;> simp_all <;> omega
theorem q3w {l:List Clause} {i:Nat} {h:List AObj} {t:Tip} {k:IntKind} (hi:i < l.length):z1p h 5 (.sl (l.map z0h) t) (.int k (i:Int))=some (.iptr [.sl (l[i].vars.map z1h) .no, .sl (l[i].body.map z3u) .no, .sl (l[i].guard.map eNode) .no, .str l[i].head.pred, .sl (l[i].head.args.map z0n) .no] 0,h):=z2d hi rfl rfl
inductive Need (cs:List Clause) (Dv:List Nat→Prop):List Nat→Prop
 | query {c:Clause} {a:App} (hc:c∈cs) (hh:c.head.pred=[]) (hb:∀ a∈c.body,Dv a.pred) (ha:a∈c.body):Need cs Dv a.pred
 | of {c:Clause} {a:App} (hc:c∈cs) (hh:Need cs Dv c.head.pred) (hb:∀ a∈c.body,Dv a.pred) (ha:a∈c.body):Need cs Dv a.pred
def x1x (dl:List (List Nat)) (c:Clause) (l:List (List Nat)):Prop:=(c.head.pred=[]∨c.head.pred∈l)→z2j c.body dl=true→z2j c.body l=true
theorem v1w {cs:List Clause} {dl l:List (List Nat)} {Dv:List Nat→Prop} (hd:∀ a,a∈dl↔Dv a) (hc:∀ c∈cs,x1x dl c l) {a:List Nat} (h:Need cs Dv a):a∈l:=by
 induction h with
 | query hc' hh hb ha=>exact z3z.1 (hc _ hc' (.inl hh) (z3z.2 fun a ha=>(hd _).2 (hb a ha))) _ ha
 | of hc' hh hb ha ih=>exact z3z.1 (hc _ hc' (.inr ih) (z3z.2 fun a ha=>(hd _).2 (hb a ha))) _ ha
def q5a (cs:List Clause) (l:List (List Nat)):Nat:=(cs.filter fun c=> !z2j c.body l).length
theorem j7a {cs:List Clause} {l l':List (List Nat)} (h:∀ a∈l,a∈l'):q5a cs l'≤q5a cs l:=by
 unfold q5a
 rw[←List.countP_eq_length_filter,←List.countP_eq_length_filter]
 refine List.countP_mono_left fun c _ hc=> ?_
 simp only[Bool.not_eq_true'] at hc⊢
 cases hw:z2j c.body l with
 | false=>rfl
 | true=>
   have:z2j c.body l'=true:=z3z.2 fun a ha=>h _ (z3z.1 hw a ha)
   rw[this] at hc
   cases hc
theorem v1x {cs:List Clause} {l l':List (List Nat)} {c:Clause} (hc:c∈cs) (hn:z2j c.body l=false) (hn':z2j c.body l'=true) (h:∀ a∈l,a∈l'):q5a cs l' < q5a cs l:=by
 unfold q5a
 induction cs with
 | nil=>simp at hc
 | cons d cs ih=>
   have hle:=j7a (cs:=cs) h
   unfold q5a at hle
   rw[List.mem_cons] at hc
   rcases hc with rfl | hc
   ·simp only[List.filter_cons,hn,hn',Bool.not_true,Bool.not_false,if_true,Bool.false_eq_true,if_false,List.length_cons]
    omega
   ·have:=ih hc
    have h2:=j7a (cs:=[d]) h
    unfold q5a at h2
    simp only[List.filter_cons,List.filter_nil] at h2⊢
    split <;> split <;> simp_all <;> omega
def w4m (l:List (List Nat)) (a:List Nat):List (List Nat):=if a∈l then l else l++[a]
theorem v1y {l:List (List Nat)} {a b:List Nat}:b∈w4m l a↔b∈l∨b=a:=by
 unfold w4m
 split
 ·rename_i h
  constructor
  ·exact .inl
  ·rintro (h2 | rfl)
   ·exact h2
   ·exact h
 ·rw[List.mem_append,List.mem_singleton]
def z9l (l:List (List Nat)) (b:List App):List (List Nat):=b.foldl (fun l a=>w4m l a.pred) l
theorem z8v {b:List App}:∀ {l:List (List Nat)} {x:List Nat},x∈z9l l b↔x∈l∨∃ a∈b,x=a.pred:=by
 induction b with
 | nil=>intro l x;simp[z9l]
 | cons c b ih=>
   intro l x
   have:z9l l (c::b)=z9l (w4m l c.pred) b:=rfl
   rw[this,ih,v1y]
   simp only[List.mem_cons,exists_eq_or_imp,or_assoc]
theorem j3v {b:List App} {l:List (List Nat)} {i:Nat} (hi:i < b.length):z9l l (b.take (i + 1))=w4m (z9l l (b.take i)) b[i].pred:=by
 unfold z9l
 rw[List.take_succ_eq_append_getElem hi,List.foldl_append]
 rfl
structure Tf where
 kind:Int
 pred:List Nat
 into:List Nat
 clause:Int
 atom:Int
 un:List (List Nat)
 und:List (List Nat)
 drops:List AV
def z1n (l:List (List Nat)):List AV:=l.map AV.str
def eTf (x:Tf):AV:= .agg [.int .i64 x.kind, .str x.pred, .str x.into, .int .i64 x.clause, .int .i64 x.atom, .sl (z1n x.un) .no, .sl (z1n x.und) .no, .sl x.drops .no]
theorem z0q {l:List (List Nat)}:idsL (z1n l)=[]:=z0d fun _=>rfl
theorem z0m {l:List (List Nat)}:z0v 1 (z1n l)=true:=z2t fun _=>⟨rfl,rfl,rfl⟩
def x3a (ps:List Func) (dl:List (List Nat)):List (List Nat):=(ps.map (·.name)).filter fun a=>decide (a∉dl)
def k7o (ps:List Func) (dl nl:List (List Nat)):List (List Nat):=(ps.map (·.name)).filter fun a=>decide (a∈dl∧a∉nl)
theorem k5m {ps:List Func} {dl:List (List Nat)}:(x3a ps dl).length≤ps.length:=by
 have:=List.length_filter_le (fun a=>decide (a∉dl)) (ps.map (·.name))
 simpa [x3a] using this
theorem v1z {ps:List Func} {dl nl:List (List Nat)}:(k7o ps dl nl).length≤ps.length:=by
 have:=List.length_filter_le (fun a=>decide (a∈dl∧a∉nl)) (ps.map (·.name))
 simpa [k7o] using this
open Classical in
noncomputable def z2r (s:Sys):Tf:=⟨2,[],[],0,0,(s.preds.map (·.name)).filter fun a=>decide (Der s.clauses a∧¬ Need s.clauses (Der s.clauses) a),(s.preds.map (·.name)).filter fun a=>decide (¬ Der s.clauses a),[]⟩
open Classical in
theorem v2a {s:Sys} {dl:List (List Nat)} (hd:∀ a,a∈dl↔Der s.clauses a):x3a s.preds dl=(z2r s).und:=by
 unfold x3a z2r
 refine List.filter_congr fun a _=> ?_
 rw[Bool.eq_iff_iff,decide_eq_true_iff,decide_eq_true_iff,hd]
open Classical in
theorem w4n {s:Sys} {dl nl:List (List Nat)} (hd:∀ a,a∈dl↔Der s.clauses a) (hn:∀ a,a∈nl↔Need s.clauses (Der s.clauses) a):k7o s.preds dl nl=(z2r s).un:=by
 unfold k7o z2r
 refine List.filter_congr fun a _=> ?_
 rw[Bool.eq_iff_iff,decide_eq_true_iff,decide_eq_true_iff,hd,hn]
theorem z8q {l:List Func} {i:Nat} {h:List AObj} {t:Tip} {k:IntKind} (hi:i < l.length):z1p h 3 (.sl (l.map z0y) t) (.int k (i:Int))=some (.iptr [.str l[i].name, .sl (l[i].args.map nat) .no, .int .i64 (l[i].result:Int)] 0,h):=z8o hi
theorem y6v {l:List (List Nat)} {a:List Nat} {u:Tip} (hl:l.length≤2 ^ 20):∃ r:Int,decide (0≤r)=decide (a∈l)∧Pure Gam 100 [.sl (z1n l) u, .str a] (.int .i64 r):=by
 have key:∀ n,n≤l.length→∃ r:Int,decide (0≤r)=decide (a∈l.drop (l.length - n))∧∀ (D L:List AObj) (B clk:Nat) (ks:List Kf) (ts:Tmps) (Q:Post),ts 0= .sl (z1n l) .no→ts 1= .str a→ts 7= .int .i64 (l.length:Int)→ts 8= .int .i64 ((l.length - n:Nat):Int)→
   (∀ ts' clk',ts' 4= .int .i64 r→K Gam B .ret ks ⟨ts',D++L,clk'⟩ Q)→(r= -1→∀ ts' clk',K Gam B (.exit 0) ks ⟨ts',D++L,clk'⟩ Q)→K Gam B (.loop k4y) ks ⟨ts,D++L,clk⟩ Q:=by
  intro n
  induction n with
  | zero=>
    intro _
    refine⟨-1,by simp,fun D L B clk ks ts Q h0 h1 h7 h8 _ hx=> ?_⟩
    have e1:decide (((l.length - 0:Nat):Int) < (l.length:Int))=false:=by rw[decide_eq_false_iff_not];omega
    refine z2h ?_
    simp only[go_sem,h0,h1,h7,h8,k4y,e1]
    exact hx rfl _ _
  | succ n ih=>
    intro hn
    have hk:l.length - (n + 1) < l.length:=by omega
    have hdr:l.drop (l.length - (n + 1))=l[l.length - (n + 1)]::l.drop (l.length - n):=by
     rw[List.drop_eq_getElem_cons hk]
     congr 2
     omega
    have e1:decide (((l.length - (n + 1):Nat):Int) < (l.length:Int))=true:=by rw[decide_eq_true_iff];omega
    have hidx:∀ h,z1p h 1 (.sl (z1n l) .no) (.int .i64 ((l.length - (n + 1):Nat):Int))=some (.iptr [.str l[l.length - (n + 1)]] 0,h):=fun h=>z4h (e:= .str l[l.length - (n + 1)]) (by simp[z1n,hk]) rfl
    generalize l[l.length - (n + 1)]=x at hdr hidx
    by_cases hax:a=x
    ·subst hax
     refine⟨((l.length - (n + 1):Nat):Int), ?_,fun D L B clk ks ts Q h0 h1 h7 h8 hr _=> ?_⟩
     ·rw[hdr]
      simp
     ·refine z2h ?_
      simp only[go_sem,h0,h1,h7,h8,k4y,e1,hidx,decide_true]
      exact hr _ _ (by simp[z0b])
    ·have e3:decide (a=x)=false:=by rw[decide_eq_false_iff_not];exact hax
     obtain⟨r,h1',h2'⟩:=ih (by omega)
     refine⟨r,by rw[h1',hdr];simp[hax],fun D L B clk ks ts Q h0 h1 h7 h8 hr hx=> ?_⟩
     have e2:IntKind.i64.wrap (((l.length - (n + 1):Nat):Int) + 1)=((l.length - n:Nat):Int):=by rw[z0c (by omega) (by omega)];omega
     refine z2h ?_
     simp only[go_sem,h0,h1,h7,h8,k4y,e1,hidx,e3,e2]
     exact h2' D L B _ ks _ Q (by simp[z0b,h0]) (by simp[z0b,h1]) (by simp[z0b,h7]) (by simp[z0b]) hr hx
 obtain⟨r,h1,h2⟩:=key l.length (Nat.le_refl _)
 rw[Nat.sub_self,List.drop_zero] at h1
 refine⟨r,h1,Pure.of rfl g2o rfl rfl rfl (az:=[.sl (z1n l) .no, .str a]) rfl (by simp[idsL,AV.ids,z0q]) fun D B clk T hB hT=> ?_⟩
 have hsl:(z1n l).length=l.length:=List.length_map _
 simp only[go_sem,u9b,hsl]
 refine h2 D _ B _ _ _ _ (by simp[z0b,z2y]) (by simp[z0b,z7o,z2y]) (by simp[z0b]) (by simp[z0b]) (fun ts' clk' q4=> ?_) (fun hr0 ts' clk'=> ?_)
 ·simp only[go_sem,q4]
  rw[z2l]
  exact hT _
 ·simp only[go_sem,]
  rw[z2l,←hr0]
  exact hT _
theorem x4v {l:List (List Nat)} {a:List Nat} {u:Tip} (hl:l.length≤2 ^ 20):Pure Gam 47 [.sl (z1n l) u, .str a] (.bool (decide (a∈l))):=by
 obtain⟨r,h1,h2⟩:=y6v (a:=a) (u:= .no) hl
 refine Pure.of rfl g2n rfl rfl rfl (az:=[.sl (z1n l) .no, .str a]) rfl (by simp[idsL,AV.ids,z0q]) fun D B clk T hB hT=> ?_
 simp only[go_sem,u9a,z0a h2,h1]
 rw[z0e]
 exact hT _
theorem y6w {ps:List Func} {u:Tip} (hl:ps.length≤1000):Pure Gam 114 [.sl (ps.map z0y) u] (.sl (z1n (ps.map (·.name))) .no):=by
 refine Pure.of rfl g2m rfl rfl rfl (az:=[.sl (ps.map z0y) .no]) rfl (by simp[idsL,AV.ids,z0d z4i]) fun D B clk T hB hT=> ?_
 simp only[go_sem,u8z,List.length_map]
 refine z1f (fun m q=>∃ (i:Nat) (t:Tip) (a b o:AObj),i≤ps.length∧m=ps.length - i∧q.ts 3= .sl (z1n ((ps.take i).map (·.name))) t∧q.ts 6= .sl (ps.map z0y) .no∧q.ts 7= .int .i64 (ps.length:Int)∧q.ts 8= .int .i64 (i:Int)∧q.h=D++[a,b,o]∧z9p B 2 o t 1) ps.length ⟨0, .nil,_,_,_,by omega,rfl,rfl,rfl,rfl,rfl,rfl, .inl rfl⟩ ?_
 rintro m ⟨ts,h,clk⟩ P ⟨i,t,a,b,o,hi,rfl,q3,q6,q7,q8,rfl,ht⟩ hnx he hr
 dsimp only at q3 q6 q7 q8
 by_cases hlt:i < ps.length
 ·have f1:decide ((i:Int) < (ps.length:Int))=true:=by rw[decide_eq_true_iff];omega
  have f2:IntKind.i64.wrap ((i:Int) + 1)=((i + 1:Nat):Int):=z0c (by omega) (by omega)
  have hix:=fun h=>z8q (l:=ps) (i:=i) (h:=h) (t:= .no) (k:= .i64) hlt
  have htake:ps.take (i + 1)=ps.take i++[ps[i]]:=List.take_succ_eq_append_getElem hlt
  have e8:z1n ((ps.take i).map (·.name))++z1n [ps[i].name]=z1n ((ps.take (i + 1)).map (·.name)):=by rw[htake,z1n,z1n,z1n,List.map_append,List.map_append];rfl
  generalize ps[i]=f at *
  simp only[go_sem,v1b,q3,q6,q7,q8,hB,f1,hix]
  rw[show [AV.str f.name]=z1n [f.name] from rfl,z0s hB rfl ht z0m z0m (by simp only[z1n,List.length_map,List.length_singleton,List.length_take];omega)]
  simp only[go_sem,q3,q6,q7,q8,f2,e8]
  exact hnx (ps.length - (i + 1)) _ (by omega) ⟨i + 1,_,_,_,_,hlt,rfl,rfl,q6,q7,rfl,rfl, .inr (.inr ⟨_,rfl,rfl⟩)⟩
 ·have f1:decide ((i:Int) < (ps.length:Int))=false:=by rw[decide_eq_false_iff_not];omega
  have hti:ps.take i=ps:=List.take_of_length_le (by omega)
  rw[hti] at q3
  simp only[go_sem,v1b,q3,q6,q7,q8,f1]
  refine he _ _ ?_
  simp only[go_sem,q3]
  rw[z2k rfl (by simp[AV.cv,AV.ids,z0q])]
  exact hT _
structure TfOk (x:Tf):Prop where
 un:x.un.length≤2 ^ 18
 und:x.und.length≤2 ^ 18
 drops:idsL x.drops=[]
theorem q1e {x:Tf} (hx:TfOk x):(eTf x).ids=[]:=by simp[eTf,AV.ids,idsL,z0q,hx.drops]
theorem v7h {x:Tf} {a:List Nat} (hx:TfOk x):Pure Gam 39 [eTf x, .str a] (.bool (decide (a∈x.un) || decide (a∈x.und))):=by
 have p1:=x4v (l:=x.un) (a:=a) (u:= .no) (by have:=hx.un;omega)
 have p2:=x4v (l:=x.und) (a:=a) (u:= .no) (by have:=hx.und;omega)
 refine Pure.of rfl g2k rfl rfl rfl (az:=[eTf x, .str a]) rfl (by simp[idsL,AV.ids,q1e hx]) fun D B clk T hB hT=> ?_
 cases h1:decide (a∈x.un) with
 | true=>
   rw[h1] at p1 hT
   simp only[go_sem,u4z,hB,eTf,z0a p1]
   rw[z0e]
   exact hT _
 | false=>
   rw[h1] at p1 hT
   rw[Bool.false_or] at hT
   simp only[go_sem,u4z,hB,eTf,z0a p1,z0a p2]
   rw[z0e]
   exact hT _
theorem k5n {s g:Nat} {x:Tf} {a:App} (hx:TfOk x):Reads [(s, .blk g [eTf x] false false 0)] 87 [z3u a, .ptr s g 0 0] (.bool (decide (a.pred∈x.und))):=by
 have p2:=x4v (l:=x.und) (a:=a.pred) (u:= .no) (by have:=hx.und;omega)
 refine Reads.of rfl g2p rfl rfl rfl (az:=[z3u a, .ptr s g 0 0]) rfl (by simpa [idsL,AV.ids,z6d] using Cov.one (s:=s) (o:= .blk g [eTf x] false false 0) (by simp[AObj.ids,idsL,q1e hx])) fun D B clk T hB hS hlt hT=> ?_
 have h1:=hlt (s, .blk g [eTf x] false false 0) (by simp)
 have b1:=z5m (g:=g) (hS (s, .blk g [eTf x] false false 0) (by simp))
 dsimp only at h1 b1
 rw[eTf] at b1
 simp only[go_sem,u9c,hB,z3u,z3m hB h1,b1,z0a p2]
 rw[z0e]
 exact hT _ hS.app
theorem w4o {s g:Nat} {x:Tf} {a:App} (hx:TfOk x):Reads [(s, .blk g [eTf x] false false 0)] 88 [z3u a, .ptr s g 0 0] (.bool (decide (a.pred∈x.un))):=by
 have p2:=x4v (l:=x.un) (a:=a.pred) (u:= .no) (by have:=hx.un;omega)
 refine Reads.of rfl g2q rfl rfl rfl (az:=[z3u a, .ptr s g 0 0]) rfl (by simpa [idsL,AV.ids,z6d] using Cov.one (s:=s) (o:= .blk g [eTf x] false false 0) (by simp[AObj.ids,idsL,q1e hx])) fun D B clk T hB hS hlt hT=> ?_
 have h1:=hlt (s, .blk g [eTf x] false false 0) (by simp)
 have b1:=z5m (g:=g) (hS (s, .blk g [eTf x] false false 0) (by simp))
 dsimp only at h1 b1
 rw[eTf] at b1
 simp only[go_sem,u9d,hB,z3u,z3m hB h1,b1,z0a p2]
 rw[z0e]
 exact hT _ hS.app
section
variable {h:List AObj} {base g k:Nat} {ts:Tmps} {z:AV} {dst:Option Nat} {os:List AOper} {clk:Nat} {ks:List Kf} {Q:Post}
def mrV (h:List AObj) (s g:Nat) (z:AV) (bytes:Nat):AV→AV→Option (AV×List AObj)
 | .sl [] .nil, .int _ m=>
   if m=0 then some (.sl [] .nil,h)
   else if 0 < m∧m * (bytes + 1)≤z1g∧z.def? =true then some (.ob s g 0 m.toNat,h.set s (.blk g (List.replicate m.toNat z) true true 0))
   else none
 | _,_=>none
theorem k5o {b:Nat} {x n:AOpd}:O Gam base .plain g (⟨dst, .makeRow k z b x n,none⟩::os) ⟨ts,h,clk⟩ ks Q=PP Gam base (mrV h (base + k) g z b (x.ev ts) (n.ev ts)) dst g os ts clk ks Q:=by
 rw[q4d rfl]
 congr 1
theorem y6x {s b n:Nat} {z:AV} {k:IntKind} (hz:z.def? =true) (h0:0 < n) (hn:(n:Int) * ((b:Int) + 1)≤2 ^ 46):mrV h s g z b (.sl [] .nil) (.int k (n:Int))=some (.ob s g 0 n,h.set s (.blk g (List.replicate n z) true true 0)):=by
 have h1:(0 < (n:Int)∧(n:Int) * (b + 1)≤(z1g:Int)∧z.def? =true):=⟨by omega,by simpa [z1g] using hn,hz⟩
 have h2:¬ (n:Int)=0:=by omega
 simp only[mrV,h2,if_false,if_pos h1,Int.toNat_natCast]
end
attribute [go_sem] k5o
theorem k5p {h:List AObj}:k8w h .cap (.sl [] .nil)=some (.int .i64 0,h):=(rfl)
theorem y6y {h:List AObj}:slV h (some 1) (.sl [] .nil) none (some (.int .i64 0)) none=some (.sl [] .nil,h):=(rfl)
theorem j3w {D:List AObj} {B clk:Nat} (hB:D.length=B):K Gam B x2y.body [] ⟨q0m [.sl [] .nil, .int .i64 0],D++[.dead],clk⟩ (fun e s=>e= .ret∧s.ts 4= .sl [] .nil∧s.h=D++[.dead]):=by
 have e1:decide ((0:Int) < 0)=false:=rfl
 have e2:IntKind.i64.wrap (0 - 0)=0:=by decide
 simp only[go_sem,x2y,hB,e1,k5p,e2]
theorem k0i {D:List AObj} {B clk n:Nat} (hB:D.length=B) (h0:0 < n) (hn:n≤2 ^ 30):K Gam B x2y.body [] ⟨q0m [.sl [] .nil, .int .i64 (n:Int)],D++[.dead],clk⟩ (fun e s=>e= .ret∧∃ g,s.ts 4= .ob (B + 0) g 0 0∧s.h=D++[.blk g (List.replicate n (.str [])) true true 0]):=by
 have e1:decide ((n:Int) < 0)=false:=by rw[decide_eq_false_iff_not];omega
 have e2:IntKind.i64.wrap (0 - 0)=0:=by decide
 have e3:IntKind.i64.wrap ((n:Int) - 0)=(n:Int):=by rw[z0c (by omega) (by omega)];omega
 have e4:decide ((0:Int) < (n:Int))=true:=by rw[decide_eq_true_iff];omega
 have hmr:∀ h s g,mrV h s g (.str []) 16 (.sl [] .nil) (.int .i64 (n:Int))=some (.ob s g 0 n,h.set s (.blk g (List.replicate n (.str [])) true true 0)):=fun h s g=>y6x rfl h0 (by omega)
 have hsl:∀ g,slV (D++[.blk g (List.replicate n (.str [])) true true 0]) (some 1) (.ob (B + 0) g 0 n) none (some (.int .i64 0)) none=some (.ob (B + 0) g 0 0,D++[.blk g (List.replicate n (.str [])) true true 0]):=fun g=>by
  have hb:z2g (D++[.blk g (List.replicate n (AV.str [])) true true 0]) (B + 0) g=some (List.replicate n (.str []),true,true,0):=by rw[z7b hB];simp[z2g]
  have hh:z4s 1 (List.replicate n (AV.str []))=true:=by cases n <;> rfl
  simp only[slV,z2w,hb,z5b,Int.le_refl,if_true,Int.toNat_zero,hh,List.length_replicate]
  simp
 simp only[go_sem,x2y,hB,e1,k5p,e2,e3,e4,y6y,hmr,hsl]
 exact⟨_,rfl,rfl⟩
theorem u5y {n:Nat} {h:List AObj} {clk:Nat} {Q:AV→List AObj→Nat→Prop} (hn:n≤2 ^ 30) (h0:n=0→Q (.sl [] .nil) h clk) (h1:0 < n→∀ g c,Q (.ob h.length g 0 0) (h++[.blk g (List.replicate n (.str [])) true true 0]) c):WC Gam 223 [.sl [] .nil, .int .i64 (n:Int)] h clk Q:=by
 have hp:z1v h x2y.byref 0 [.sl [] .nil, .int .i64 (n:Int)]=some [.sl [] .nil, .int .i64 (n:Int)]:=rfl
 have hl:z0u x2y.byref 0 [.sl [] .nil, .int .i64 (n:Int)]=[]:=rfl
 have hids:idsL [.sl [] .nil, .int .i64 (n:Int)]=[]:=rfl
 have hext:Gam.ext 223=none:=rfl
 have hown:x2y.owned=true:=rfl
 have hres:x2y.results=[.tmp 4]:=rfl
 have hns:List.replicate x2y.nslots AObj.dead=[.dead]:=rfl
 rcases Nat.eq_zero_or_pos n with rfl | hpos
 ·obtain⟨k,e,s,he,rfl,hs4,hsh⟩:=j3w (D:=maskFrom [] 0 h) (clk:=clk) z4g
  refine⟨k, .sl [] .nil,h,clk, ?_,h0 rfl⟩
  unfold z5g z0o
  rw[←hns] at he
  simp only[hext,y6b,hp,hl,freezeAll,hids,reach]
  rw[show ((0:Nat):Int)=0 from rfl]
  simp only[he,hres,z1y,hs4,hown,if_true,Option.map_some,z1l,z6i]
  rfl
 ·obtain⟨k,e,s,he,rfl,g,hs4,hsh⟩:=k0i (D:=maskFrom [] 0 h) (clk:=clk) z4g hpos hn
  refine⟨k, .ob h.length g 0 0,h++[.blk g (List.replicate n (.str [])) true true 0],s.clk, ?_,h1 hpos _ _⟩
  unfold z5g z0o
  rw[←hns] at he
  have hdrop:s.h.drop h.length=[.blk g (List.replicate n (.str [])) true true 0]:=by rw[hsh,List.drop_left' z4g]
  simp only[hext,y6b,hp,hl,freezeAll,hids,reach,he,hres,z1y,hs4,hown,if_true,Option.map_some,z1l,z6i,hdrop,AV.ids,ite_self]
  simp
def q6h (l:List (List Nat)):AV:= .sl (z1n l) .no
theorem k5q {l:List (List Nat)}:(q6h l).ids=[]:=by simp[q6h,AV.ids,z0q]
theorem j0q {ls:List (List (List Nat))} {i:Nat} (hi:i < ls.length):(ls.take (i + 1)).flatten=(ls.take i).flatten++ls[i]:=by
 rw[List.take_succ_eq_append_getElem hi,List.flatten_append]
 simp
theorem k5r {ls:List (List (List Nat))} {i:Nat}:(ls.take i).flatten.length≤ls.flatten.length:=by
 have:=congrArg (fun x=>(List.flatten x).length) (List.take_append_drop i ls)
 simp only[List.flatten_append,List.length_append] at this
 omega
def x4w (B n:Nat) (acc:List (List Nat)) (r:AV) (o0 o1:AObj):Prop:=
 (n=0∧acc=[]∧∃ u,r= .sl [] u∧z9p B 0 o0 u 1)∨
 (0 < n∧acc=[]∧∃ g,r= .ob (B + 1) g 0 0∧o1= .blk g (List.replicate n (.str [])) true true 0)∨
 (0 < n∧acc≠[]∧∃ g,r= .ob (B + 0) g 0 acc.length∧o0= .blk g (z1n acc) true true 0)
theorem k5s {D:List AObj} {B n gen:Nat} {acc x:List (List Nat)} {r:AV} {o0:AObj} {L:List AObj} (hB:D.length=B) (hL:L=[o0]∨∃ o1,L=[o0,o1]) (hn:n≤2 ^ 20) (hacc:(acc++x).length≤n) (hst:x4w B n acc r o0 (L.getD 1 .dead)) (hpos:0 < n→L.length=2):
  ∃ r' o0' L',z1k (D++L) (B + 0) gen 1 16 false r (.sl (z1n x) .no)=some (r',D++L')∧(L'=[o0']∨∃ o1,L'=[o0',o1])∧x4w B n (acc++x) r' o0' (L'.getD 1 .dead)∧(0 < n→L'.length=2):=by
 have hlen:(acc++x).length=acc.length + x.length:=List.length_append
 have hsx:(z1n x).length=x.length:=List.length_map _
 have hL0:L[0]? =some o0:=by rcases hL with rfl | ⟨o1,rfl⟩ <;> rfl
 rcases hst with ⟨rfl,rfl,u,rfl,hu⟩ | ⟨h0,rfl,g,rfl,ho1⟩ | ⟨h0,hne,g,rfl,ho0⟩
 ·have hx:x=[]:=by simpa using hacc
  subst hx
  have:=z0s (D:=D) (L:=L) (B:=B) (k:=0) (esz:=1) (b:=16) (gen:=gen) (xs:=[]) (ys:=[]) (t:=u) (u:= .no) (o:=o0) hB hL0 hu rfl rfl (by simp)
  refine⟨.sl [] (.at (B + 0) gen), .tip gen 1,L.set 0 (.tip gen 1),this, ?_, .inl ⟨rfl,rfl,_,rfl, .inr (.inr ⟨gen,rfl,rfl⟩)⟩,fun h=>absurd h (by omega)⟩
  rcases hL with rfl | ⟨o1,rfl⟩
  ·exact .inl rfl
  ·exact .inr ⟨o1,rfl⟩
 ·obtain⟨o1,rfl⟩:∃ o1,L=[o0,o1]:=by
   rcases hL with rfl | h
   ·have:=hpos h0;simp at this
   ·exact h
  simp at ho1
  subst ho1
  have hb:z2g (D++[o0, .blk g (List.replicate n (AV.str [])) true true 0]) (B + 1) g=some (List.replicate n (.str []),true,true,0):=by rw[z7b hB];simp[z2g]
  have hxn:x.length≤n:=by simpa using hacc
  have hgt:¬ x.length * (16 + 1) > z1g:=by unfold z1g;omega
  have hall:z0v 1 (List.replicate n (AV.str []))=true:=by
   have:=z0m (l:=List.replicate n [])
   simpa [z1n] using this
  by_cases hx:x=[]
  ·subst hx
   refine⟨.ob (B + 1) g 0 0,o0,[o0, .blk g (List.replicate n (.str [])) true true 0], ?_, .inr ⟨_,rfl⟩, .inr (.inl ⟨h0,rfl,g,rfl,rfl⟩),fun _=>rfl⟩
   unfold z1k
   simp[z5s,z1n,z0v,hb,hall,z1g]
  ·have hxl:0 < x.length:=List.length_pos_iff.2 hx
   refine⟨.ob (B + 0) gen 0 x.length, .blk gen (z1n x) true true 0,[.blk gen (z1n x) true true 0, .dead], ?_, .inr ⟨_,rfl⟩, .inr (.inr ⟨h0,by simpa using hx,gen,by simp,by simp⟩),fun _=>rfl⟩
   unfold z1k
   have hemp:(z1n x).isEmpty=false:=by cases x with
    | nil=>exact absurd rfl hx
    | cons a x=>rfl
   simp only[z5s,z0m,Bool.not_true,Bool.false_eq_true,if_false,hb,hsx,decide_eq_true_eq,hgt,hall,beq_self_eq_true,decide_false,Bool.or_self,hemp,if_true,Nat.zero_le,Nat.le_refl,List.length_replicate,true_and,h0,List.take_zero,List.nil_append,Nat.zero_add,z5l hB,List.set_cons_succ,List.set_cons_zero]
 ·obtain⟨o1,rfl⟩:∃ o1,L=[o0,o1]:=by
   rcases hL with rfl | h
   ·have:=hpos h0;simp at this
   ·exact h
  subst ho0
  have hb:z2g (D++[.blk g (z1n acc) true true 0,o1]) (B + 0) g=some (z1n acc,true,true,0):=by rw[z7b hB];simp[z2g]
  have hgt:¬ (acc.length + x.length) * (16 + 1) > z1g:=by unfold z1g;omega
  have hsa:(z1n acc).length=acc.length:=List.length_map _
  by_cases hx:x=[]
  ·subst hx
   refine⟨.ob (B + 0) g 0 acc.length, .blk g (z1n acc) true true 0,[.blk g (z1n acc) true true 0,o1], ?_, .inr ⟨_,rfl⟩, .inr (.inr ⟨h0,by simpa using hne,g,by simp,by rw[List.append_nil]⟩),fun _=>rfl⟩
   have:¬ acc.length * (16 + 1) > z1g:=by simpa using hgt
   have hb0:=hb
   rw[Nat.add_zero] at hb0
   unfold z1k
   simp only[z5s,show z1n []=[] from rfl,z0v,Bool.not_true,Bool.false_eq_true,if_false,hb0,List.length_nil,Nat.add_zero,decide_eq_true_eq,this,z0m,beq_self_eq_true,decide_false,Bool.or_self,List.isEmpty_nil,if_true]
  ·have hemp:(z1n x).isEmpty=false:=by cases x with
    | nil=>exact absurd rfl hx
    | cons a x=>rfl
   have hapos:0 < acc.length:=List.length_pos_iff.2 hne
   refine⟨.ob (B + 0) gen 0 (acc++x).length, .blk gen (z1n (acc++x)) true true 0,[.blk gen (z1n (acc++x)) true true 0,o1], ?_, .inr ⟨_,rfl⟩, .inr (.inr ⟨h0,by simp[hne],gen,rfl,rfl⟩),fun _=>rfl⟩
   unfold z1k
   simp only[z5s,z0m,Bool.not_true,Bool.false_eq_true,if_false,hb,hsx,decide_eq_true_eq,hgt,beq_self_eq_true,decide_false,Bool.or_self,hemp,if_true,Nat.zero_le,hsa,Nat.le_refl,true_and,hapos,z5l hB,List.set_cons_zero]
   rw[List.take_of_length_le (by rw[hsa];exact Nat.le_refl _),hlen]
   simp[z1n]
theorem y6z {ls:List (List (List Nat))} {B clk:Nat} {D L:List AObj} {v0:AV} {ts:Tmps} {ks:List Kf} {Q:Post} (hl:ls.length≤1000) (hf:ls.flatten.length≤2 ^ 20) (h0:ts 0=v0) (h3:ts 3= .int .i64 0) (h9:ts 9= .sl (ls.map q6h) .no) (h10:ts 10= .int .i64 (ls.length:Int)) (h11:ts 11= .int .i64 0)
  (hQ:∀ (ts':Tmps) (clk':Nat),ts' 0=v0→ts' 3= .int .i64 (ls.flatten.length:Int)→K Gam B (.exit 0) ks ⟨ts',D++L,clk'⟩ Q):K Gam B (.loop j0m) ks ⟨ts,D++L,clk⟩ Q:=by
 refine z1f (fun m q=>∃ i:Nat,i≤ls.length∧m=ls.length - i∧q.ts 0=v0∧q.ts 3= .int .i64 ((ls.take i).flatten.length:Int)∧q.ts 9= .sl (ls.map q6h) .no∧q.ts 10= .int .i64 (ls.length:Int)∧q.ts 11= .int .i64 (i:Int)∧q.h=D++L) ls.length ⟨0,by omega,rfl,h0,h3,h9,h10,h11,rfl⟩ ?_
 clear h0 h3 h9 h10 h11
 rintro m ⟨ts,h,clk⟩ P ⟨i,hi,rfl,q0,q3,q9,q10,q11,rfl⟩ hnx he hr
 dsimp only at q0 q3 q9 q10 q11
 by_cases hlt:i < ls.length
 ·have f1:decide ((i:Int) < (ls.length:Int))=true:=by rw[decide_eq_true_iff];omega
  have f2:IntKind.i64.wrap ((i:Int) + 1)=((i + 1:Nat):Int):=z0c (by omega) (by omega)
  have hix:∀ h,z1p h 1 (.sl (ls.map q6h) .no) (.int .i64 (i:Int))=some (.iptr [.sl (z1n ls[i]) .no] 0,h):=fun h=>z2d hlt rfl rfl
  have hfl:=j0q hlt
  have hle:=k5r (ls:=ls) (i:=i + 1)
  have hll:=congrArg List.length hfl
  rw[List.length_append] at hll
  have hsl:(z1n ls[i]).length=ls[i].length:=List.length_map _
  generalize ls[i]=x at *
  have f3:IntKind.i64.wrap (((ls.take i).flatten.length:Int) + (x.length:Int))=((ls.take (i + 1)).flatten.length:Int):=by rw[z0c (by omega) (by omega)];omega
  have f4:decide (((ls.take (i + 1)).flatten.length:Int) < 0)=false:=by rw[decide_eq_false_iff_not];omega
  simp only[go_sem,j0m,q0,q3,q9,q10,q11,f1,hix,hsl,f3,f4,f2]
  exact hnx (ls.length - (i + 1)) _ (by omega) ⟨i + 1,hlt,rfl,q0,rfl,q9,q10,rfl,rfl⟩
 ·have f1:decide ((i:Int) < (ls.length:Int))=false:=by rw[decide_eq_false_iff_not];omega
  have hti:ls.take i=ls:=List.take_of_length_le (by omega)
  rw[hti] at q3
  simp only[go_sem,j0m,q0,q3,q9,q10,q11,f1]
  refine he _ _ ?_
  exact hQ _ _ (by simp[z0b,q0]) (by simp[z0b,q3])
theorem k5t {ls:List (List (List Nat))} {B clk:Nat} {D L:List AObj} {r o0:AV×AObj} {ts:Tmps} {ks:List Kf} {Q:Post} (hB:D.length=B) (hl:ls.length≤1000) (hf:ls.flatten.length≤2 ^ 20) (hL:L=[o0.2]∨∃ o1,L=[o0.2,o1]) (hpos:0 < ls.flatten.length→L.length=2) (hst:x4w B ls.flatten.length [] r.1 o0.2 (L.getD 1 .dead)) (h6:ts 6=r.1) (h25:ts 25= .sl (ls.map q6h) .no) (h26:ts 26= .int .i64 (ls.length:Int)) (h27:ts 27= .int .i64 0)
  (hQ:∀ (ts':Tmps) (clk':Nat) (r':AV) (o':AObj) (L':List AObj),(L'=[o']∨∃ o1,L'=[o',o1])→(0 < ls.flatten.length→L'.length=2)→x4w B ls.flatten.length ls.flatten r' o' (L'.getD 1 .dead)→ts' 6=r'→K Gam B (.exit 2) ks ⟨ts',D++L',clk'⟩ Q):K Gam B (.loop x4p) ks ⟨ts,D++L,clk⟩ Q:=by
 refine z1f (fun m q=>∃ (i:Nat) (r:AV) (o:AObj) (L:List AObj),i≤ls.length∧m=ls.length - i∧(L=[o]∨∃ o1,L=[o,o1])∧(0 < ls.flatten.length→L.length=2)∧x4w B ls.flatten.length (ls.take i).flatten r o (L.getD 1 .dead)∧q.ts 6=r∧q.ts 25= .sl (ls.map q6h) .no∧q.ts 26= .int .i64 (ls.length:Int)∧q.ts 27= .int .i64 (i:Int)∧q.h=D++L) ls.length ⟨0,r.1,o0.2,L,by omega,rfl,hL,hpos,hst,h6,h25,h26,h27,rfl⟩ ?_
 clear h6 h25 h26 h27 hst hL hpos
 rintro m ⟨ts,h,clk⟩ P ⟨i,r,o,L,hi,rfl,hL,hpos,hst,q6,q25,q26,q27,rfl⟩ hnx he hr
 dsimp only at q6 q25 q26 q27
 by_cases hlt:i < ls.length
 ·have f1:decide ((i:Int) < (ls.length:Int))=true:=by rw[decide_eq_true_iff];omega
  have f2:IntKind.i64.wrap ((i:Int) + 1)=((i + 1:Nat):Int):=z0c (by omega) (by omega)
  have hix:∀ h,z1p h 1 (.sl (ls.map q6h) .no) (.int .i64 (i:Int))=some (.iptr [.sl (z1n ls[i]) .no] 0,h):=fun h=>z2d hlt rfl rfl
  have hfl:=j0q hlt
  have hle:=k5r (ls:=ls) (i:=i + 1)
  rw[hfl] at hle
  generalize ls[i]=x at *
  simp only[go_sem,x4p,q6,q25,q26,q27,f1,hix]
  obtain⟨r',o',L',hap,hL',hst',hpos'⟩:=k5s (gen:=clk + 1 + 3 + 1 + 1) hB hL hf hle hst hpos
  rw[hap]
  simp only[go_sem,q25,q26,q27,f2]
  rw[←hfl] at hst'
  exact hnx (ls.length - (i + 1)) _ (by omega) ⟨i + 1,r',o',L',hlt,rfl,hL',hpos',hst',by simp[z0b],by simp[z0b,q25],by simp[z0b,q26],by simp[z0b],rfl⟩
 ·have f1:decide ((i:Int) < (ls.length:Int))=false:=by rw[decide_eq_false_iff_not];omega
  have hti:ls.take i=ls:=List.take_of_length_le (by omega)
  rw[hti] at hst
  simp only[go_sem,x4p,q6,q25,q26,q27,f1]
  refine he _ _ ?_
  exact hQ _ _ r o L hL hpos hst (by simp[z0b,q6])
theorem k5u {ls:List (List (List Nat))} {u:Tip} (hl:ls.length≤1000) (hf:ls.flatten.length≤2 ^ 20):Pure Gam 151 [.sl (ls.map q6h) u] (.sl (z1n ls.flatten) .no):=by
 refine Pure.of rfl u5d rfl rfl rfl (az:=[.sl (ls.map q6h) .no]) rfl (by simp[idsL,AV.ids,z0d (f:=q6h) fun _=>k5q]) fun D B clk T hB hT=> ?_
 simp only[go_sem,y6a,List.length_map]
 refine y6z (v0:= .sl (ls.map q6h) .no) hl hf (by simp[z0b,z2y]) (by simp[z0b]) (by simp[z0b]) (by simp[z0b]) (by simp[z0b]) fun ts1 clk1 r0 r3=> ?_
 simp only[go_sem,r0,r3]
 have fin:∀ (L':List AObj) (r':AV) (o':AObj),(L'=[o']∨∃ o1,L'=[o',o1])→(0 < ls.flatten.length→L'.length=2)→x4w B ls.flatten.length ls.flatten r' o' (L'.getD 1 .dead)→RV [] (some [r']) T (D++L'):=by
  intro L' r' o' hL' hpos hst
  rcases hst with ⟨hz,hacc,u,rfl,_⟩ | ⟨h0,hacc,_⟩ | ⟨h0,hne,g,rfl,rfl⟩
  ·rw[hacc] at hT
   exact⟨_,rfl,rfl,rfl,hT _⟩
  ·rw[hacc] at h0;simp at h0
  ·obtain⟨o1,rfl⟩:∃ o1,L'=[.blk g (z1n ls.flatten) true true 0,o1]:=by
    rcases hL' with rfl | h
    ·have:=hpos h0;simp at this
    ·exact h
   have hb:z2g (D++[.blk g (z1n ls.flatten) true true 0,o1]) (B + 0) g=some (z1n ls.flatten,true,true,0):=by rw[z7b hB];simp[z2g]
   have hsl:(z1n ls.flatten).length=ls.flatten.length:=List.length_map _
   refine⟨.sl (z1n ls.flatten) .no, ?_,by simp[AV.ids,z0q],by simp[x9o],hT _⟩
   simp only[z1l,conv,q8p,hb,Nat.zero_add,hsl,Nat.le_refl,if_true,List.drop_zero,Option.map_some]
   rw[List.take_of_length_le (by rw[hsl];exact Nat.le_refl _)]
 refine z5x (u5y (by omega) (fun hz=> ?_) fun hpos g c=> ?_)
 ·simp only[go_sem,r0,r3,List.length_map]
  refine k5t (r:=(.sl [] .nil, .dead)) (o0:=(.undef, .dead)) hB hl hf (.inl rfl) (fun h=>by omega) (.inl ⟨hz,rfl,_,rfl, .inl rfl⟩) (by simp[z0b]) (by simp[z0b]) (by simp[z0b]) (by simp[z0b]) fun ts' clk' r' o' L' hL' hpos' hst' q6=> ?_
  simp only[go_sem,q6]
  exact fin L' r' o' hL' hpos' hst'
 ·have hlen:(D++[AObj.dead]).length=B + 1:=by simp[hB]
  simp only[go_sem,r0,r3,List.length_map,hlen,List.append_assoc]
  refine k5t (r:=(.ob (B + 1) g 0 0, .dead)) (o0:=(.undef, .dead)) hB hl hf (.inr ⟨_,rfl⟩) (fun _=>rfl) (.inr (.inl ⟨hpos,rfl,g,rfl,rfl⟩)) (by simp[z0b]) (by simp[z0b]) (by simp[z0b]) (by simp[z0b]) fun ts' clk' r' o' L' hL' hpos' hst' q6=> ?_
  simp only[go_sem,q6]
  exact fin L' r' o' hL' hpos' hst'
theorem k5v {s:Sys} {fl:List (List Nat)} {B clk g0 g:Nat} {D:List AObj} {ts:Tmps} {ks:List Kf} {Q:Post} (hB:D.length=B) (hpl:s.preds.length≤1000) (hfl:fl.length≤2 ^ 20) (h2:ts 2= .ptr (B + 0) g0 0 0) (h6:ts 6= .mp (B + 1) g) (h11:ts 11= .sl (z1n fl) .no) (h12:ts 12= .int .i64 (fl.length:Int)) (h13:ts 13= .int .i64 0)
  (hok:fl.Nodup→(∀ a∈fl,a∈s.preds.map (·.name))→∀ (ts':Tmps) (clk':Nat),ts' 6= .mp (B + 1) g→K Gam B (.exit 0) ks ⟨ts',D++[.blk g0 [.agg [.sl (s.preds.map z0y) .no, .sl (s.clauses.map z0h) .no]] false false 0, .map g (z3i fl)],clk'⟩ Q)
  (hbad:¬ (fl.Nodup∧∀ a∈fl,a∈s.preds.map (·.name))→∀ (ts':Tmps) (L:List AObj) (clk':Nat),ts' 4= .nilmap→ts' 5= .bool false→K Gam B .ret ks ⟨ts',D++L,clk'⟩ Q):
  K Gam B (.loop j3o) ks ⟨ts,D++[.blk g0 [.agg [.sl (s.preds.map z0y) .no, .sl (s.clauses.map z0h) .no]] false false 0, .map g (z3i [])],clk⟩ Q:=by
 refine z1f (fun m q=>∃ (i:Nat),i≤fl.length∧m=fl.length - i∧(fl.take i).Nodup∧(∀ a∈fl.take i,a∈s.preds.map (·.name))∧q.ts 2= .ptr (B + 0) g0 0 0∧q.ts 6= .mp (B + 1) g∧q.ts 11= .sl (z1n fl) .no∧q.ts 12= .int .i64 (fl.length:Int)∧q.ts 13= .int .i64 (i:Int)∧q.h=D++[.blk g0 [.agg [.sl (s.preds.map z0y) .no, .sl (s.clauses.map z0h) .no]] false false 0, .map g (z3i (fl.take i))]) fl.length ⟨0,by omega,rfl,by simp,by simp,h2,h6,h11,h12,h13,rfl⟩ ?_
 clear h2 h6 h11 h12 h13
 rintro m ⟨ts,h,clk⟩ P ⟨i,hi,rfl,hnd,hin,q2,q6,q11,q12,q13,rfl⟩ hnx he hr
 dsimp only at q2 q6 q11 q12 q13
 by_cases hlt:i < fl.length
 ·have f1:decide ((i:Int) < (fl.length:Int))=true:=by rw[decide_eq_true_iff];omega
  have f2:IntKind.i64.wrap ((i:Int) + 1)=((i + 1:Nat):Int):=z0c (by omega) (by omega)
  have hix:∀ h,z1p h 1 (.sl (z1n fl) .no) (.int .i64 (i:Int))=some (.iptr [.str fl[i]] 0,h):=fun h=>z2d hlt rfl rfl
  have htake:fl.take (i + 1)=fl.take i++[fl[i]]:=List.take_succ_eq_append_getElem hlt
  have hsub:(fl.take (i + 1)).Sublist fl:=List.take_sublist _ _
  have p1:=y6w (ps:=s.preds) (u:= .no) hpl
  have hnl:(s.preds.map (·.name)).length≤2 ^ 20:=by simp;omega
  generalize fl[i]=a at *
  have p2:=x4v (l:=s.preds.map (·.name)) (a:=a) (u:= .no) hnl
  by_cases ha:a∈fl.take i
  ·simp only[go_sem,j3o,q2,q6,q11,q12,q13,hB,f1,hix,z3v,q3e,ha,z9j]
   refine hr _ (hbad (fun h=> ?_) _ _ _ (by simp[z0b]) (by simp[z0b]))
   have:=h.1.sublist hsub
   rw[htake,List.nodup_append] at this
   exact this.2.2 _ ha _ (by simp) rfl
  ·cases hb:decide (a∈s.preds.map (·.name)) with
   | false=>
     rw[hb] at p2
     simp only[go_sem,j3o,q2,q6,q11,q12,q13,hB,f1,hix,z3v,q3e,ha,z5p,z0a p1,z0a p2,Bool.not_false]
     refine hr _ (hbad (fun h=> ?_) _ _ _ (by simp[z0b]) (by simp[z0b]))
     rw[decide_eq_false_iff_not] at hb
     exact hb (h.2 _ (hsub.mem (by rw[htake];simp)))
   | true=>
     rw[hb] at p2
     rw[decide_eq_true_iff] at hb
     have hmu:∀ L:List AObj,z5q L 1 g=some (z3i (fl.take i))→muV (D++L) (.one .str) (.str a) (.bool true) (.mp (B + 1) g)=some (.undef,D++L.set 1 (.map g (z3i (fl.take (i + 1))))):=fun L hL=>by
      rw[htake]
      exact j0n (v:= .bool true) hB hL rfl (q3v ha)
     simp only[go_sem,j3o,q2,q6,q11,q12,q13,hB,f1,hix,z3v,q3e,ha,z5p,z0a p1,z0a p2,Bool.not_true,hmu,f2]
     refine hnx (fl.length - (i + 1)) _ (by omega) ⟨i + 1,hlt,rfl, ?_,fun b hb'=> ?_,q2,q6,q11,q12,rfl,rfl⟩
     ·rw[htake,List.nodup_append]
      refine⟨hnd,by simp,fun x hx y hy=> ?_⟩
      simp at hy
      subst hy
      exact fun e=>ha (e ▸ hx)
     ·rw[htake,List.mem_append,List.mem_singleton] at hb'
      rcases hb' with hb' | rfl
      ·exact hin b hb'
      ·exact hb
 ·have f1:decide ((i:Int) < (fl.length:Int))=false:=by rw[decide_eq_false_iff_not];omega
  have hti:fl.take i=fl:=List.take_of_length_le (by omega)
  rw[hti] at hnd hin
  simp only[go_sem,j3o,q2,q6,q11,q12,q13,f1]
  refine he _ _ ?_
  rw[hti]
  exact hok hnd hin _ _ (by simp[z0b,q6])
theorem u9p {s:Sys} {un und:List (List Nat)} {u:Tip} {h:List AObj} {clk:Nat} {Q:AV→List AObj→Nat→Prop} (hpl:s.preds.length≤1000) (hl:(un++und).length≤2 ^ 20) (hnd:(un++und).Nodup) (hin:∀ a∈un++und,a∈s.preds.map (·.name)) (hQ:∀ g o c,Q (.tup [.mp (h.length + 1) g, .bool true]) (h++[o, .map g (z3i (un++und))]) c):WC Gam 86 [z2a s, .sl [.sl (z1n un) .no, .sl (z1n und) .no] u] h clk Q:=by
 have hp:=k5u (ls:=[un,und]) (u:= .no) (by simp) (by simpa using hl)
 have hfl:[un,und].flatten=un++und:=by simp
 rw[hfl] at hp
 refine x1p rfl u8y rfl rfl rfl (az:=[z2a s, .sl [.sl (z1n un) .no, .sl (z1n und) .no] .no]) rfl (by simp[idsL,z2v,AV.ids,z0q]) fun D B R hB hBh hR=> ?_
 have hsl:(z1n (un++und)).length=(un++und).length:=List.length_map _
 simp only[List.map_cons,List.map_nil,q6h] at hp
 simp only[go_sem,u5b,hB,z2a,z0a hp,hsl]
 refine k5v (fl:=un++und) hB hpl hl (by simp[z0b]) (by simp[z0b]) (by simp[z0b]) (by simp[z0b]) (by simp[z0b]) (fun _ _ ts' clk' r6=> ?_) (fun hc=>absurd ⟨hnd,hin⟩ hc)
 simp only[go_sem,r6]
 rw[q6g rfl]
 refine hR _ _ ⟨B + 1,by simp[z1l,AV.cv,cvL,AV.ids,idsL],by omega⟩ fun c=> ?_
 have:=hQ
 rw[←hBh] at this
 exact this _ _ c
theorem y7a {s:Sys} {x r:Tf} {k:Int} (hs:SysV s) (hx:TfOk x) (hr:TfOk r) (hk:x.kind=k) (h1:r.pred=[]) (h2:r.into=[]) (h3:r.clause=0) (h4:r.atom=0) (h5:r.un=[]) (h6:r.und=[]) (h7:r.drops=[]):Pure Gam 85 [z2a s,eTf x, .int .i64 k,eTf r] (.bool true):=by
 have hp:=k5l hs
 rw[z2a] at hp
 refine Pure.of rfl y9f rfl rfl rfl (az:=[z2a s,eTf x, .int .i64 k,eTf r]) rfl (by simp[idsL,z2v,q1e hx,q1e hr,AV.ids]) fun D B clk T hB hT=> ?_
 have hs0:z1n []=[]:=rfl
 simp only[go_sem,v7d,hB,z2a,eTf,hk,h1,h2,h3,h4,h5,h6,h7,hs0,decide_true,z0a hp,Int.reduceEq]
 rw[z0e]
 exact hT _
end Go.Proofs.YtkollgjffkdliaaGreatDoor.Am
