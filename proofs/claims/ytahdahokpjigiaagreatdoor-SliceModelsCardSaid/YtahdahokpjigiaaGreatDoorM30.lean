/- Walking: a clause is checked Walking: systems are checked Walking: which bodies lie within a set; derivable predicates Walking: derivable predicates Walking: needed predicates Walking: needed predicat -/
import Derived.Test.YtahdahokpjigiaaGreatDoorM29
set_option linter.all false
namespace Go.Proofs.YtahdahokpjigiaaGreatDoor.Am
open Go
set_option maxRecDepth 100000
theorem x0g {f base gg clk:Nat} {args:List AV} {h:List AObj} {m:Md} {dst:Option Nat} {os:List AOper} {ts:Tmps} {ks:List Kf} {Q:Post} (hf:z0v Gam f args h=[]) (hw:WC Gam f args h clk fun v h' c=>O Gam base (m.add ([],[])) (gg + 1) os ⟨z9f ts dst v,h',c⟩ ks Q):CK Gam base f args h clk m dst gg os ts ks Q:=by
 unfold CK
 rw[hf]
 exact hw
theorem v1h {T:List Nat} {R:AV→List AObj→Prop} {h:List AObj}:RV T (some []) R h=R (.tup []) h:=z0h rfl rfl
theorem k7o {sC gC sP gP i:Nat} {s:Sys} {c:Clause} (hp:PrOk s.preds) (hn:∀ p∈s.preds,∀ v∈z2h,p.name≠v.name) (hc:ClauseOk s.preds c) (hi:s.clauses[i]? =some c) (hlt1:sC < sP):Reads [(sC,z4z gC s sP gP),(sP,z9i gP s)] 203 [.ptr sC gC 0 0, .int .i64 (i:Int)] (.tup []):=by
 obtain⟨hsub,hbl,hbody,hguard,hhead⟩:=hc
 have hV:∀ v∈c.vars,v∈z2h:=fun v hv=>hsub.mem hv
 have hVl:c.vars.length≤8:=hsub.length_le
 refine Reads.of rfl y8d rfl rfl rfl (az:=[.ptr sC gC 0 0, .int .i64 (i:Int)]) rfl (by simpa [idsL,AV.ids] using Cov.two q6f (x3d (gP:=gP) (s:=s))) fun D B clk T hB hS hlt hT=> ?_
 have h1:=hlt (sC,z4z gC s sP gP) (by simp)
 have h2:=hlt (sP,z9i gP s) (by simp)
 have b1:=z5z (g:=gC) (hS (sC,z4z gC s sP gP) (by simp))
 dsimp only at h1 h2 b1
 have hil:i < s.clauses.length:=by
  rw[List.getElem?_eq_some_iff] at hi
  exact hi.1
 have hix:∀ h,z1m h 5 (.sl (s.clauses.map z0f) .no) (.int .i64 (i:Int))=some (.iptr [.sl (c.vars.map z1b) .no, .sl (c.body.map z3x) .no,AV.sl (c.guard.map eNode) .no, .str c.head.pred, .sl (c.head.args.map z0l) .no] 0,h):=fun h=>by
  have h2:s.clauses[i]=c:=by
   rw[List.getElem?_eq_some_iff] at hi
   exact hi.2
  rw[z2f (f:=z0f) hil (cs:=[.sl (c.vars.map z1b) .no, .sl (c.body.map z3x) .no,AV.sl (c.guard.map eNode) .no, .str c.head.pred, .sl (c.head.args.map z0l) .no]) (esz:=5) (by rw[h2];rfl) rfl]
 simp only[go_sem,w9e,hB,z4e hB h1,b1,hix]
 refine z6f (y8r hsub fun gX oX c2=> ?_)
 have hlen:∀ a b c:AObj,(D++[a,b,c]).length=B + 3:=fun a b c=>by simp[hB]
 have hS2:∀ L,Has [(sC,z4z gC s sP gP),(sP,z9i gP s)] (D++L):=fun L=>hS.app
 have hSX:∀ a b d L,Has [(B + 3, .map gX (z1l c.vars))] (D++a::b::d:: .map gX (z1l c.vars)::L):=fun _ _ _ _=>x4t hB rfl
 have hS5:∀ g0 g2 b L,Has [(B + 0, .blk g0 [.ptr sC gC 0 0] false false 0),(sC,z4z gC s sP gP),(sP,z9i gP s),(B + 2, .blk g2 [.mp (B + 3) gX] false false 0),(B + 3, .map gX (z1l c.vars))] (D++ .blk g0 [.ptr sC gC 0 0] false false 0::b:: .blk g2 [.mp (B + 3) gX] false false 0:: .map gX (z1l c.vars)::L):=fun g0 g2 b L=>by
  refine Has.cons ?_ (Has.cons (hS2 _ (sC,z4z gC s sP gP) (by simp)) (Has.cons (hS2 _ (sP,z9i gP s) (by simp)) (Has.cons ?_ (Has.cons ?_ Has.nil))))
  ·dsimp only;rw[z6k hB];rfl
  ·dsimp only;rw[z6k hB];rfl
  ·dsimp only;rw[z6k hB];rfl
 have hS3:∀ a b d L,Has [(sC,z4z gC s sP gP),(sP,z9i gP s),(B + 3, .map gX (z1l c.vars))] (D++a::b::d:: .map gX (z1l c.vars)::L):=fun a b d L=>by
  refine Has.cons (hS2 _ (sC,z4z gC s sP gP) (by simp)) (Has.cons (hS2 _ (sP,z9i gP s) (by simp)) (hSX a b d L))
 have hd:∀ N,N=B + 5→sC < N∧sP < N:=fun N hN=>by omega
 simp only[go_sem,hB,hlen,List.append_assoc,z1i,z8t]
 refine z7r (k7l hn hsub) (hS2 _) ?_
 simp only[go_sem,Bool.not_true]
 refine z7r z8g (hS2 _) ?_
 simp only[go_sem,hB]
 refine⟨by simp[z1f,apart,z0i,z1d,z1h,AOp.isCall,hB] <;> omega, ?_⟩
 have r93:∀ g0 g2,Reads [(B + 0, .blk g0 [.ptr sC gC 0 0] false false 0),(sC,z4z gC s sP gP),(sP,z9i gP s),(B + 2, .blk g2 [.mp (B + 3) gX] false false 0),(B + 3, .map gX (z1l c.vars))] 114 [.sl (c.body.map z3x) .no, .fn 264 [.ptr (B + 0) g0 0 0, .ptr (B + 2) g2 0 0]] (.bool false):=fun g0 g2=>by
  have:=j0p (enc:=z3x) (xs:=c.body) (t:= .no) (cap:=[.ptr (B + 0) g0 0 0, .ptr (B + 2) g2 0 0]) (P:=fun _=>false) (fun _=>rfl) (fun _ _=>rfl) z4w (by omega) (by simpa [idsL,AV.ids] using Cov.five (s2:=B + 0) (s5:=B + 2) (sX:=B + 3) (g2:=g0) (g5:=g2) (gC:=gC) (gP:=gP) (gX:=gX) (s:=s) (V:=c.vars) hlt1 (by omega) (by omega) (by omega)) fun a ha=>k7n hp (hbody a ha) hV hlt1 (by omega) (by omega) (by omega)
  have e:(c.body.any fun _=>false)=false:=by simp
  rw[e] at this
  exact this
 simp only[go_sem,hB,z1i]
 refine z7r (r93 _ _) (hS5 _ _ _ _) ?_
 simp only[go_sem,]
 refine z7r z8g (hS2 _) ?_
 simp only[go_sem,hB]
 refine⟨by simp[z1f,apart,z0i,z1d,z1h,AOp.isCall,hB] <;> omega, ?_⟩
 have r175:Reads [(B + 3, .map gX (z1l c.vars))] 266 [.mp (B + 3) gX, .sl (c.guard.map eNode) .no, .int .i64 1] (.bool true):=j4a hguard.1 hV (by have:=hguard.2.1;omega) (by omega)
 simp only[go_sem,hB,z1i]
 refine z7r r175 (hSX _ _ _ _) ?_
 simp only[go_sem,Bool.not_true]
 refine z7r z8g (hS2 _) ?_
 simp only[go_sem,hB]
 refine⟨by simp[z1f,apart,z0i,z1d,z1h,AOp.isCall,hB] <;> omega, ?_⟩
 have e1:decide ((400:Int) < (c.vars.length:Int))=false:=by rw[decide_eq_false_iff_not];omega
 have e2:decide ((8:Int) < (c.body.length:Int))=false:=by rw[decide_eq_false_iff_not];omega
 rcases hhead with ⟨hh1,hh2⟩ | hha
 ·simp only[go_sem,hB,hh1,hh2,decide_true,List.length_map,Int.reduceLT,decide_false]
  rw[z0w z8g (hS2 _)]
  simp only[go_sem,hB,List.length_map,e1,e2]
  rw[z0w z8g (hS2 _)]
  simp only[go_sem,]
  rw[v1h]
  exact hT _ hS.app
 ·have hne:decide (c.head.pred=[])=false:=by
   obtain⟨f,hf,hname,_,_⟩:=hha
   rw[decide_eq_false_iff_not,hname]
   exact hp.name f hf
  have r174:=j4b (sC:=sC) (gC:=gC) (sP:=sP) (gP:=gP) (sX:=B + 3) (gX:=gX) hp hha hV
  rw[z3x] at r174
  simp only[go_sem,hB,hne,z1i]
  refine z7r r174 (hS3 _ _ _ _) ?_
  simp only[go_sem,Bool.not_true]
  refine z7r z8g (hS2 _) ?_
  simp only[go_sem,hB]
  refine⟨by simp[z1f,apart,z0i,z1d,z1h,AOp.isCall,hB] <;> omega, ?_⟩
  simp only[go_sem,hB,List.length_map,e1,e2]
  rw[z0w z8g (hS2 _)]
  simp only[go_sem,]
  rw[v1h]
  exact hT _ hS.app
structure SysV (s:Sys):Prop where
 preds:s.preds.Sublist allPreds
 len:s.clauses.length≤8
 clauses:∀ c∈s.clauses,ClauseOk s.preds c
theorem SysOk.v {s:Sys} (h:SysOk s):SysV s:=by
 obtain⟨⟨n,_,_,hp⟩,hl,hc⟩:=h
 exact⟨by rw[hp];exact List.take_sublist _ _,hl,hc⟩
theorem SysV.pr {s:Sys} (h:SysV s):PrOk s.preds:=by
 refine⟨(h.preds.map _).nodup (by decide),fun f hf=> ?_,fun f hf=> ?_⟩
 ·have:∀ f∈allPreds,f.args.length≤40∧∀ s∈f.args,1≤s∧s≤4:=by decide
  exact this f (h.preds.mem hf)
 ·have:∀ f∈allPreds,f.name≠[]:=by decide
  exact this f (h.preds.mem hf)
theorem SysV.apart {s:Sys} (h:SysV s):∀ p∈s.preds,∀ v∈z2h,p.name≠v.name:=fun p hp=>by
 have:∀ p∈allPreds,∀ v∈z2h,p.name≠v.name:=by decide
 exact this p (h.preds.mem hp)
theorem y8s {ps:List Func} {u:Tip} {h:List AObj} {clk:Nat} {Q:AV→List AObj→Nat→Prop} (hp:PrOk ps) (hl:ps.length≤1000) (hQ:∀ g o c,Q (.mp h.length g) (h++[.map g (z4f 0 ps),o]) c):WC Gam 198 [.sl (ps.map z0q) u] h clk Q:=by
 refine q9z rfl w9a rfl rfl rfl (az:=[.sl (ps.map z0q) .no]) rfl (by simp[idsL,AV.ids,z0c z2j]) fun D B R hB hBh hR=> ?_
 simp only[go_sem,w8z,hB,List.length_map]
 refine z0y (fun m q=>∃ (i g:Nat) (o:AObj),i≤ps.length∧m=ps.length - i∧q.ts 3= .mp (B + 0) g∧q.ts 9= .sl (ps.map z0q) .no∧q.ts 10= .int .i64 (ps.length:Int)∧q.ts 11= .int .i64 (i:Int)∧q.h=D++[.map g (z4f 0 (ps.take i)),o]) ps.length ⟨0,_,_,by omega,rfl,rfl,rfl,rfl,rfl,rfl⟩ ?_
 rintro m ⟨ts,h,clk⟩ Pq ⟨i,g,o,hi,rfl,q3,q9,q10,q11,rfl⟩ hnx he hr
 dsimp only at q3 q9 q10 q11
 by_cases hlt':i < ps.length
 ·have f1:decide ((i:Int) < (ps.length:Int))=true:=by rw[decide_eq_true_iff];omega
  have f2:IntKind.i64.wrap ((i:Int) + 1)=((i + 1:Nat):Int):=z0d (by omega) (by omega)
  have hix:∀ h,z1m h 3 (.sl (ps.map z0q) .no) (.int .i64 (i:Int))=some (.iptr [.str ps[i].name, .sl (ps[i].args.map nat) .no, .int .i64 (ps[i].result:Int)] 0,h):=fun h=>z8e hlt'
  have htake:ps.take (i + 1)=ps.take i++[ps[i]]:=List.take_succ_eq_append_getElem hlt'
  have hnew:∀ p∈ps.take i,p.name≠ps[i].name:=by
   intro p hp' e
   have h3:=hp.nodup
   have h4:((ps.take (i + 1)).map (·.name)).Nodup:=h3.sublist ((List.take_sublist _ _).map _)
   rw[htake,List.map_append,List.nodup_append] at h4
   exact h4.2.2 _ (List.mem_map.2 ⟨p,hp',rfl⟩) _ (by simp) e
  have hput:=x0e (a:=ps[i].name) (n:=i) (ps:=ps.take i) (k:=0) (r:=ps[i].args) (q:=ps[i].result) hnew (by simp;omega)
  have hfk:=q2g (a:=ps[i].name) (k:=0) hnew
  generalize ps[i]=p at *
  have hmu:∀ L:List AObj,z5m L 0 g=some (z4f 0 (ps.take i))→muV (D++L) (.one .str) (.str p.name) (.int .i64 (i:Int)) (.mp (B + 0) g)=some (.undef,D++L.set 0 (.map g (z4f 0 (ps.take (i + 1))))):=fun L hL=>by
   refine x7x (v:= .int .i64 (i:Int)) hB hL rfl ?_
   rw[htake]
   exact hput
  simp only[go_sem,j3t,q3,q9,q10,q11,f1,hB,hix,z3u,x0c hfk,q0r,Bool.not_false,hmu,f2]
  exact hnx (ps.length - (i + 1)) _ (by omega) ⟨i + 1,g,_,hlt',rfl,q3,q9,q10,rfl,rfl⟩
 ·have f1:decide ((i:Int) < (ps.length:Int))=false:=by rw[decide_eq_false_iff_not];omega
  have hti:ps.take i=ps:=List.take_of_length_le (by omega)
  simp only[go_sem,j3t,q3,q9,q10,q11,f1]
  refine he _ _ ?_
  simp only[go_sem,q3]
  rw[q5h rfl,hti]
  refine hR _ _ ⟨B + 0,by simp[z1k,AV.cv,AV.ids],by omega⟩ fun c=> ?_
  have:=hQ g o c
  rw[←hBh] at this
  exact this
theorem v8d {f:Func} (hf:f∈allPreds):Pure Gam 200 [z0q f] (.bool false):=by
 refine Pure.tab (tab:=j1s) rfl rfl ?_
 simp only[allPreds,List.mem_cons,List.not_mem_nil,or_false] at hf
 rcases hf with rfl | rfl | rfl | rfl | rfl <;> rfl
theorem Cov.none:Cov [] []:=⟨by simp,by simp,fun h _ p hp=>by simp at hp⟩
theorem k1y {ps:List Func} (hp:ps.Sublist allPreds):Reads [] 199 [.sl (ps.map z0q) .no, .fn 200 []] (.bool false):=by
 have:=k7c (enc:=z0q) (xs:=ps) (S:=[]) (c:=200) (cap:=[]) (t:= .no) (P:=fun _=>false) (fun _=>rfl) (fun _ _=>rfl) z2j (by have:=hp.length_le;simp[allPreds] at this;omega) Cov.none fun f hf=>(v8d (hp.mem hf)).reads
 have e:(ps.any fun _=>false)=false:=by simp
 rw[e] at this
 exact this
theorem v8e {h:List AObj} {s g:Nat}:k9k h .mp (.mp s g)=((z5m h s g).map fun es=>(.int .i64 (es.length:Int))).map (·,h):=(rfl)
theorem w9q {s:Sys} (hs:SysV s):Pure Gam 132 [z0x s] (.sl [] .no):=by
 have hpr:=hs.pr
 have hpl:s.preds.length≤5:=hs.preds.length_le
 have hcl:=hs.len
 refine Pure.of rfl u5x rfl rfl rfl (az:=[z0x s]) rfl (by simp[idsL,z2c]) fun D B clk T hB hT=> ?_
 simp only[go_sem,u2j,hB,z0x,z1i]
 refine x0g ?_ (y8s hpr (by omega) fun gP oP c2=> ?_)
 ·refine q1e (az:=[.sl (s.preds.map z0q) .no]) w9a rfl rfl rfl (by simp[idsL,AV.ids,z0c z2j])
 have hlen:∀ a b:AObj,(D++[a,b]).length=B + 2:=fun a b=>by simp[hB]
 simp only[go_sem,hB,hlen,List.append_assoc]
 refine⟨by simp[z1f,apart,z0i,z1d,z1h,AOp.isCall], ?_⟩
 have hS:∀ g a o,Has [(B + 1,z4z g s (B + 2) gP),(B + 2,z9i gP s)] (D++[a, .blk g [.agg [.sl (s.preds.map z0q) .no, .sl (s.clauses.map z0f) .no, .mp (B + 2) gP, .sl [] .nil]] false false 0, .map gP (z4f 0 s.preds),o]):=fun g a o=>by
  refine Has.cons ?_ (Has.cons ?_ Has.nil)
  ·dsimp only;rw[z6k hB];rfl
  ·dsimp only;rw[z6k hB];rfl
 have r118:=k1y hs.preds
 have e1:decide ((s.preds.length:Int) < (s.preds.length:Int))=false:=by rw[decide_eq_false_iff_not];omega
 have e2:decide ((512:Int) < (s.preds.length:Int))=false:=by rw[decide_eq_false_iff_not];omega
 have e3:decide ((2048:Int) < (s.clauses.length:Int))=false:=by rw[decide_eq_false_iff_not];omega
 simp only[v8e,x4d hB,j2z,j2y,Option.map_some,j0u]
 simp only[go_sem,hB,List.length_map,e1,z0w r118 Has.nil,decide_false,Int.lt_irrefl]
 rw[z0w z8g (hS _ _ _)]
 simp only[go_sem,hB,List.length_map,e2,e3]
 rw[z0w z8g (hS _ _ _)]
 simp only[go_sem,hB,List.length_map]
 refine z0y (fun m q=>∃ (i gC:Nat) (a:AObj),i≤s.clauses.length∧m=s.clauses.length - i∧q.ts 3= .ptr (B + 1) gC 0 0∧q.ts 43= .int .i64 (s.clauses.length:Int)∧q.ts 44= .int .i64 (i:Int)∧q.h=D++[a, .blk gC [.agg [.sl (s.preds.map z0q) .no, .sl (s.clauses.map z0f) .no, .mp (B + 2) gP, .sl [] .nil]] false false 0, .map gP (z4f 0 s.preds),oP]) s.clauses.length ⟨0,_,_,by omega,rfl,by simp[z0b],by simp[z0b],by simp[z0b],rfl⟩ ?_
 rintro m ⟨ts,h,clk⟩ Pq ⟨i,gC,a,hi,rfl,q3,q43,q44,rfl⟩ hnx he hr
 dsimp only at q3 q43 q44
 by_cases hlt':i < s.clauses.length
 ·have f1:decide ((i:Int) < (s.clauses.length:Int))=true:=by rw[decide_eq_true_iff];omega
  have f2:IntKind.i64.wrap ((i:Int) + 1)=((i + 1:Nat):Int):=z0d (by omega) (by omega)
  have r122:=k7o (sC:=B + 1) (gC:=gC) (sP:=B + 2) (gP:=gP) (i:=i) (c:=s.clauses[i]) hpr hs.apart (hs.clauses _ (List.getElem_mem hlt')) (by simp[hlt']) (by omega)
  simp only[go_sem,k6x,q3,q43,q44,f1,z0w r122 (hS _ _ _),f2]
  exact hnx (s.clauses.length - (i + 1)) _ (by omega) ⟨i + 1,gC,a,hlt',rfl,q3,q43,rfl,rfl⟩
 ·have f1:decide ((i:Int) < (s.clauses.length:Int))=false:=by rw[decide_eq_false_iff_not];omega
  simp only[go_sem,k6x,q3,q43,q44,f1]
  refine he _ _ ?_
  simp only[go_sem,q3,hB]
  rw[z0h rfl rfl]
  exact hT _
theorem k1z {s:Sys} (hs:SysV s):Pure Gam 77 [z0x s] (.bool true):=by
 have hp:=w9q hs
 rw[z0x] at hp
 refine Pure.of rfl u5w rfl rfl rfl (az:=[z0x s]) rfl (by simp[idsL,z2c]) fun D B clk T hB hT=> ?_
 simp only[go_sem,u2i,hB,z0x,z0a hp,Int.reduceEq,decide_true]
 rw[z0e]
 exact hT _
def z2l (body:List App) (l:List (List Nat)):Bool:=body.all fun a=>decide (a.pred∈l)
inductive Der (cs:List Clause):List Nat→Prop
 | of {c:Clause} (hc:c∈cs) (hh:c.head.pred≠[]) (hb:∀ a∈c.body,Der cs a.pred):Der cs c.head.pred
def x0h (c:Clause) (l:List (List Nat)):Prop:=c.head.pred≠[]→z2l c.body l=true→c.head.pred∈l
theorem z3z {body:List App} {l:List (List Nat)}:z2l body l=true↔∀ a∈body,a.pred∈l:=by simp[z2l]
theorem v8f {cs:List Clause} {l:List (List Nat)} (hc:∀ c∈cs,x0h c l) {a:List Nat} (h:Der cs a):a∈l:=by
 induction h with
 | of hc' hh hb ih=>exact hc _ hc' hh (z3z.2 ih)
def q6g (cs:List Clause) (l:List (List Nat)):Nat:=(cs.filter fun c=>decide (c.head.pred∉l)).length
theorem v8g {cs:List Clause} {l l':List (List Nat)} (h:∀ a∈l,a∈l'):q6g cs l'≤q6g cs l:=by
 unfold q6g
 rw[←List.countP_eq_length_filter,←List.countP_eq_length_filter]
 refine List.countP_mono_left fun c _ hc=> ?_
 simp only[decide_eq_true_eq] at hc⊢
 exact fun h'=>hc (h _ h')
theorem v8h {cs:List Clause} {l:List (List Nat)} {c:Clause} (hc:c∈cs) (hn:c.head.pred∉l):q6g cs (l++[c.head.pred]) < q6g cs l:=by
 unfold q6g
 induction cs with
 | nil=>simp at hc
 | cons d cs ih=>
   have hle:∀ ds:List Clause,(ds.filter fun c'=>decide (c'.head.pred∉l++[c.head.pred])).length≤(ds.filter fun c'=>decide (c'.head.pred∉l)).length:=fun ds=>v8g (cs:=ds) (fun a ha=>List.mem_append_left _ ha)
   rw[List.mem_cons] at hc
   rcases hc with rfl | hc
   ·have:=hle cs
    simp[List.filter_cons,hn]
    simp at this
    omega
   ·have:=ih hc
    simp only[List.filter_cons]
    have h2:=hle [d]
    simp only[List.filter_cons,List.filter_nil] at h2
    split <;> split <;> simp_all <;> omega
theorem z8l {l:List Clause} {i:Nat} {h:List AObj} {t:Tip} {k:IntKind} (hi:i < l.length):z1m h 5 (.sl (l.map z0f) t) (.int k (i:Int))=some (.iptr [.sl (l[i].vars.map z1b) .no, .sl (l[i].body.map z3x) .no, .sl (l[i].guard.map eNode) .no, .str l[i].head.pred, .sl (l[i].head.args.map z0l) .no] 0,h):=z2f hi rfl rfl
inductive Need (cs:List Clause) (Dv:List Nat→Prop):List Nat→Prop
 | query {c:Clause} {a:App} (hc:c∈cs) (hh:c.head.pred=[]) (hb:∀ a∈c.body,Dv a.pred) (ha:a∈c.body):Need cs Dv a.pred
 | of {c:Clause} {a:App} (hc:c∈cs) (hh:Need cs Dv c.head.pred) (hb:∀ a∈c.body,Dv a.pred) (ha:a∈c.body):Need cs Dv a.pred
def x0i (dl:List (List Nat)) (c:Clause) (l:List (List Nat)):Prop:=(c.head.pred=[]∨c.head.pred∈l)→z2l c.body dl=true→z2l c.body l=true
theorem k7p {cs:List Clause} {dl l:List (List Nat)} {Dv:List Nat→Prop} (hd:∀ a,a∈dl↔Dv a) (hc:∀ c∈cs,x0i dl c l) {a:List Nat} (h:Need cs Dv a):a∈l:=by
 induction h with
 | query hc' hh hb ha=>exact z3z.1 (hc _ hc' (.inl hh) (z3z.2 fun a ha=>(hd _).2 (hb a ha))) _ ha
 | of hc' hh hb ha ih=>exact z3z.1 (hc _ hc' (.inr ih) (z3z.2 fun a ha=>(hd _).2 (hb a ha))) _ ha
def q3y (cs:List Clause) (l:List (List Nat)):Nat:=(cs.filter fun c=> !z2l c.body l).length
theorem j4c {cs:List Clause} {l l':List (List Nat)} (h:∀ a∈l,a∈l'):q3y cs l'≤q3y cs l:=by
 unfold q3y
 rw[←List.countP_eq_length_filter,←List.countP_eq_length_filter]
 refine List.countP_mono_left fun c _ hc=> ?_
 simp only[Bool.not_eq_true'] at hc⊢
 cases hw:z2l c.body l with
 | false=>rfl
 | true=>
   have:z2l c.body l'=true:=z3z.2 fun a ha=>h _ (z3z.1 hw a ha)
   rw[this] at hc
   cases hc
theorem k7q {cs:List Clause} {l l':List (List Nat)} {c:Clause} (hc:c∈cs) (hn:z2l c.body l=false) (hn':z2l c.body l'=true) (h:∀ a∈l,a∈l'):q3y cs l' < q3y cs l:=by
 unfold q3y
 induction cs with
 | nil=>simp at hc
 | cons d cs ih=>
   have hle:=j4c (cs:=cs) h
   unfold q3y at hle
   rw[List.mem_cons] at hc
   rcases hc with rfl | hc
   ·simp only[List.filter_cons,hn,hn',Bool.not_true,Bool.not_false,if_true,Bool.false_eq_true,if_false,List.length_cons]
    omega
   ·have:=ih hc
    have h2:=j4c (cs:=[d]) h
    unfold q3y at h2
    simp only[List.filter_cons,List.filter_nil] at h2⊢
    split <;> split <;> simp_all <;> omega
def v8i (l:List (List Nat)) (a:List Nat):List (List Nat):=if a∈l then l else l++[a]
theorem k7r {l:List (List Nat)} {a b:List Nat}:b∈v8i l a↔b∈l∨b=a:=by
 unfold v8i
 split
 ·rename_i h
  constructor
  ·exact .inl
  ·rintro (h2 | rfl)
   ·exact h2
   ·exact h
 ·rw[List.mem_append,List.mem_singleton]
def z9e (l:List (List Nat)) (b:List App):List (List Nat):=b.foldl (fun l a=>v8i l a.pred) l
theorem z8m {b:List App}:∀ {l:List (List Nat)} {x:List Nat},x∈z9e l b↔x∈l∨∃ a∈b,x=a.pred:=by
 induction b with
 | nil=>intro l x;simp[z9e]
 | cons c b ih=>
   intro l x
   have:z9e l (c::b)=z9e (v8i l c.pred) b:=rfl
   rw[this,ih,k7r]
   simp only[List.mem_cons,exists_eq_or_imp,or_assoc]
theorem j0v {b:List App} {l:List (List Nat)} {i:Nat} (hi:i < b.length):z9e l (b.take (i + 1))=v8i (z9e l (b.take i)) b[i].pred:=by
 unfold z9e
 rw[List.take_succ_eq_append_getElem hi,List.foldl_append]
 rfl
structure Tf where
 kind:Int
 pred:List Nat
 into:List Nat
 clause:Int
 atom:Int
 un:List (List Nat)
 und:List (List Nat)
 drops:List AV
def z1t (l:List (List Nat)):List AV:=l.map AV.str
def eTf (x:Tf):AV:= .agg [.int .i64 x.kind, .str x.pred, .str x.into, .int .i64 x.clause, .int .i64 x.atom, .sl (z1t x.un) .no, .sl (z1t x.und) .no, .sl x.drops .no]
theorem z2d {l:List (List Nat)}:idsL (z1t l)=[]:=z0c fun _=>rfl
theorem z1u {l:List (List Nat)}:z0t 1 (z1t l)=true:=z3o fun _=>⟨rfl,rfl,rfl⟩
def x1i (ps:List Func) (dl:List (List Nat)):List (List Nat):=(ps.map (·.name)).filter fun a=>decide (a∉dl)
def k3l (ps:List Func) (dl nl:List (List Nat)):List (List Nat):=(ps.map (·.name)).filter fun a=>decide (a∈dl∧a∉nl)
theorem k2a {ps:List Func} {dl:List (List Nat)}:(x1i ps dl).length≤ps.length:=by
 have:=List.length_filter_le (fun a=>decide (a∉dl)) (ps.map (·.name))
 simpa [x1i] using this
theorem k7s {ps:List Func} {dl nl:List (List Nat)}:(k3l ps dl nl).length≤ps.length:=by
 have:=List.length_filter_le (fun a=>decide (a∈dl∧a∉nl)) (ps.map (·.name))
 simpa [k3l] using this
open Classical in
noncomputable def z2s (s:Sys):Tf:=⟨2,[],[],0,0,(s.preds.map (·.name)).filter fun a=>decide (Der s.clauses a∧¬ Need s.clauses (Der s.clauses) a),(s.preds.map (·.name)).filter fun a=>decide (¬ Der s.clauses a),[]⟩
open Classical in
theorem k7t {s:Sys} {dl:List (List Nat)} (hd:∀ a,a∈dl↔Der s.clauses a):x1i s.preds dl=(z2s s).und:=by
 unfold x1i z2s
 refine List.filter_congr fun a _=> ?_
 rw[Bool.eq_iff_iff,decide_eq_true_iff,decide_eq_true_iff,hd]
open Classical in
theorem v8j {s:Sys} {dl nl:List (List Nat)} (hd:∀ a,a∈dl↔Der s.clauses a) (hn:∀ a,a∈nl↔Need s.clauses (Der s.clauses) a):k3l s.preds dl nl=(z2s s).un:=by
 unfold k3l z2s
 refine List.filter_congr fun a _=> ?_
 rw[Bool.eq_iff_iff,decide_eq_true_iff,decide_eq_true_iff,hd,hn]
theorem z6g {l:List Func} {i:Nat} {h:List AObj} {t:Tip} {k:IntKind} (hi:i < l.length):z1m h 3 (.sl (l.map z0q) t) (.int k (i:Int))=some (.iptr [.str l[i].name, .sl (l[i].args.map nat) .no, .int .i64 (l[i].result:Int)] 0,h):=z8e hi
theorem w9r {l:List (List Nat)} {a:List Nat} {u:Tip} (hl:l.length≤2 ^ 20):∃ r:Int,decide (0≤r)=decide (a∈l)∧Pure Gam 83 [.sl (z1t l) u, .str a] (.int .i64 r):=by
 have key:∀ n,n≤l.length→∃ r:Int,decide (0≤r)=decide (a∈l.drop (l.length - n))∧∀ (D L:List AObj) (B clk:Nat) (ks:List Kf) (ts:Tmps) (Q:Post),ts 0= .sl (z1t l) .no→ts 1= .str a→ts 7= .int .i64 (l.length:Int)→ts 8= .int .i64 ((l.length - n:Nat):Int)→
   (∀ ts' clk',ts' 4= .int .i64 r→K Gam B .ret ks ⟨ts',D++L,clk'⟩ Q)→(r= -1→∀ ts' clk',K Gam B (.exit 0) ks ⟨ts',D++L,clk'⟩ Q)→K Gam B (.loop k1n) ks ⟨ts,D++L,clk⟩ Q:=by
  intro n
  induction n with
  | zero=>
    intro _
    refine⟨-1,by simp,fun D L B clk ks ts Q h0 h1 h7 h8 _ hx=> ?_⟩
    have e1:decide (((l.length - 0:Nat):Int) < (l.length:Int))=false:=by rw[decide_eq_false_iff_not];omega
    refine z3f ?_
    simp only[go_sem,h0,h1,h7,h8,k1n,e1]
    exact hx rfl _ _
  | succ n ih=>
    intro hn
    have hk:l.length - (n + 1) < l.length:=by omega
    have hdr:l.drop (l.length - (n + 1))=l[l.length - (n + 1)]::l.drop (l.length - n):=by
     rw[List.drop_eq_getElem_cons hk]
     congr 2
     omega
    have e1:decide (((l.length - (n + 1):Nat):Int) < (l.length:Int))=true:=by rw[decide_eq_true_iff];omega
    have hidx:∀ h,z1m h 1 (.sl (z1t l) .no) (.int .i64 ((l.length - (n + 1):Nat):Int))=some (.iptr [.str l[l.length - (n + 1)]] 0,h):=fun h=>z5q (e:= .str l[l.length - (n + 1)]) (by simp[z1t,hk]) rfl
    generalize l[l.length - (n + 1)]=x at hdr hidx
    by_cases hax:a=x
    ·subst hax
     refine⟨((l.length - (n + 1):Nat):Int), ?_,fun D L B clk ks ts Q h0 h1 h7 h8 hr _=> ?_⟩
     ·rw[hdr]
      simp
     ·refine z3f ?_
      simp only[go_sem,h0,h1,h7,h8,k1n,e1,hidx,decide_true]
      exact hr _ _ (by simp[z0b])
    ·have e3:decide (a=x)=false:=by rw[decide_eq_false_iff_not];exact hax
     obtain⟨r,h1',h2'⟩:=ih (by omega)
     refine⟨r,by rw[h1',hdr];simp[hax],fun D L B clk ks ts Q h0 h1 h7 h8 hr hx=> ?_⟩
     have e2:IntKind.i64.wrap (((l.length - (n + 1):Nat):Int) + 1)=((l.length - n:Nat):Int):=by rw[z0d (by omega) (by omega)];omega
     refine z3f ?_
     simp only[go_sem,h0,h1,h7,h8,k1n,e1,hidx,e3,e2]
     exact h2' D L B _ ks _ Q (by simp[z0b,h0]) (by simp[z0b,h1]) (by simp[z0b,h7]) (by simp[z0b]) hr hx
 obtain⟨r,h1,h2⟩:=key l.length (Nat.le_refl _)
 rw[Nat.sub_self,List.drop_zero] at h1
 refine⟨r,h1,Pure.of rfl u5q rfl rfl rfl (az:=[.sl (z1t l) .no, .str a]) rfl (by simp[idsL,AV.ids,z2d]) fun D B clk T hB hT=> ?_⟩
 have hsl:(z1t l).length=l.length:=List.length_map _
 simp only[go_sem,u2b,hsl]
 refine h2 D _ B _ _ _ _ (by simp[z0b,z2w]) (by simp[z0b,z7g,z2w]) (by simp[z0b]) (by simp[z0b]) (fun ts' clk' q4=> ?_) (fun hr0 ts' clk'=> ?_)
 ·simp only[go_sem,q4]
  rw[z2m]
  exact hT _
 ·simp only[go_sem,]
  rw[z2m,←hr0]
  exact hT _
theorem x3e {l:List (List Nat)} {a:List Nat} {u:Tip} (hl:l.length≤2 ^ 20):Pure Gam 58 [.sl (z1t l) u, .str a] (.bool (decide (a∈l))):=by
 obtain⟨r,h1,h2⟩:=w9r (a:=a) (u:= .no) hl
 refine Pure.of rfl u5p rfl rfl rfl (az:=[.sl (z1t l) .no, .str a]) rfl (by simp[idsL,AV.ids,z2d]) fun D B clk T hB hT=> ?_
 simp only[go_sem,u2a,z0a h2,h1]
 rw[z0e]
 exact hT _
theorem w9s {ps:List Func} {u:Tip} (hl:ps.length≤1000):Pure Gam 84 [.sl (ps.map z0q) u] (.sl (z1t (ps.map (·.name))) .no):=by
 refine Pure.of rfl u5o rfl rfl rfl (az:=[.sl (ps.map z0q) .no]) rfl (by simp[idsL,AV.ids,z0c z2j]) fun D B clk T hB hT=> ?_
 simp only[go_sem,u1z,List.length_map]
 refine z0y (fun m q=>∃ (i:Nat) (t:Tip) (a b o:AObj),i≤ps.length∧m=ps.length - i∧q.ts 3= .sl (z1t ((ps.take i).map (·.name))) t∧q.ts 6= .sl (ps.map z0q) .no∧q.ts 7= .int .i64 (ps.length:Int)∧q.ts 8= .int .i64 (i:Int)∧q.h=D++[a,b,o]∧z8k B 2 o t 1) ps.length ⟨0, .nil,_,_,_,by omega,rfl,rfl,rfl,rfl,rfl,rfl, .inl rfl⟩ ?_
 rintro m ⟨ts,h,clk⟩ P ⟨i,t,a,b,o,hi,rfl,q3,q6,q7,q8,rfl,ht⟩ hnx he hr
 dsimp only at q3 q6 q7 q8
 by_cases hlt:i < ps.length
 ·have f1:decide ((i:Int) < (ps.length:Int))=true:=by rw[decide_eq_true_iff];omega
  have f2:IntKind.i64.wrap ((i:Int) + 1)=((i + 1:Nat):Int):=z0d (by omega) (by omega)
  have hix:=fun h=>z6g (l:=ps) (i:=i) (h:=h) (t:= .no) (k:= .i64) hlt
  have htake:ps.take (i + 1)=ps.take i++[ps[i]]:=List.take_succ_eq_append_getElem hlt
  have e8:z1t ((ps.take i).map (·.name))++z1t [ps[i].name]=z1t ((ps.take (i + 1)).map (·.name)):=by rw[htake,z1t,z1t,z1t,List.map_append,List.map_append];rfl
  generalize ps[i]=f at *
  simp only[go_sem,k6u,q3,q6,q7,q8,hB,f1,hix]
  rw[show [AV.str f.name]=z1t [f.name] from rfl,z0j hB rfl ht z1u z1u (by simp only[z1t,List.length_map,List.length_singleton,List.length_take];omega)]
  simp only[go_sem,q3,q6,q7,q8,f2,e8]
  exact hnx (ps.length - (i + 1)) _ (by omega) ⟨i + 1,_,_,_,_,hlt,rfl,rfl,q6,q7,rfl,rfl, .inr (.inr ⟨_,rfl,rfl⟩)⟩
 ·have f1:decide ((i:Int) < (ps.length:Int))=false:=by rw[decide_eq_false_iff_not];omega
  have hti:ps.take i=ps:=List.take_of_length_le (by omega)
  rw[hti] at q3
  simp only[go_sem,k6u,q3,q6,q7,q8,f1]
  refine he _ _ ?_
  simp only[go_sem,q3]
  rw[z2x rfl (by simp[AV.cv,AV.ids,z2d])]
  exact hT _
structure TfOk (x:Tf):Prop where
 un:x.un.length≤2 ^ 18
 und:x.und.length≤2 ^ 18
 drops:idsL x.drops=[]
theorem z6y {x:Tf} (hx:TfOk x):(eTf x).ids=[]:=by simp[eTf,AV.ids,idsL,z2d,hx.drops]
theorem k2b {x:Tf} {a:List Nat} (hx:TfOk x):Pure Gam 50 [eTf x, .str a] (.bool (decide (a∈x.un) || decide (a∈x.und))):=by
 have p1:=x3e (l:=x.un) (a:=a) (u:= .no) (by have:=hx.un;omega)
 have p2:=x3e (l:=x.und) (a:=a) (u:= .no) (by have:=hx.und;omega)
 refine Pure.of rfl u5m rfl rfl rfl (az:=[eTf x, .str a]) rfl (by simp[idsL,AV.ids,z6y hx]) fun D B clk T hB hT=> ?_
 cases h1:decide (a∈x.un) with
 | true=>
   rw[h1] at p1 hT
   simp only[go_sem,y7u,hB,eTf,z0a p1]
   rw[z0e]
   exact hT _
 | false=>
   rw[h1] at p1 hT
   rw[Bool.false_or] at hT
   simp only[go_sem,y7u,hB,eTf,z0a p1,z0a p2]
   rw[z0e]
   exact hT _
theorem k2c {s g:Nat} {x:Tf} {a:App} (hx:TfOk x):Reads [(s, .blk g [eTf x] false false 0)] 112 [z3x a, .ptr s g 0 0] (.bool (decide (a.pred∈x.und))):=by
 have p2:=x3e (l:=x.und) (a:=a.pred) (u:= .no) (by have:=hx.und;omega)
 refine Reads.of rfl u5r rfl rfl rfl (az:=[z3x a, .ptr s g 0 0]) rfl (by simpa [idsL,AV.ids,z4w] using Cov.one (s:=s) (o:= .blk g [eTf x] false false 0) (by simp[AObj.ids,idsL,z6y hx])) fun D B clk T hB hS hlt hT=> ?_
 have h1:=hlt (s, .blk g [eTf x] false false 0) (by simp)
 have b1:=z5z (g:=g) (hS (s, .blk g [eTf x] false false 0) (by simp))
 dsimp only at h1 b1
 rw[eTf] at b1
 simp only[go_sem,u2c,hB,z3x,z4e hB h1,b1,z0a p2]
 rw[z0e]
 exact hT _ hS.app
theorem v8k {s g:Nat} {x:Tf} {a:App} (hx:TfOk x):Reads [(s, .blk g [eTf x] false false 0)] 113 [z3x a, .ptr s g 0 0] (.bool (decide (a.pred∈x.un))):=by
 have p2:=x3e (l:=x.un) (a:=a.pred) (u:= .no) (by have:=hx.un;omega)
 refine Reads.of rfl u5s rfl rfl rfl (az:=[z3x a, .ptr s g 0 0]) rfl (by simpa [idsL,AV.ids,z4w] using Cov.one (s:=s) (o:= .blk g [eTf x] false false 0) (by simp[AObj.ids,idsL,z6y hx])) fun D B clk T hB hS hlt hT=> ?_
 have h1:=hlt (s, .blk g [eTf x] false false 0) (by simp)
 have b1:=z5z (g:=g) (hS (s, .blk g [eTf x] false false 0) (by simp))
 dsimp only at h1 b1
 rw[eTf] at b1
 simp only[go_sem,u2d,hB,z3x,z4e hB h1,b1,z0a p2]
 rw[z0e]
 exact hT _ hS.app
section
variable {h:List AObj} {base g k:Nat} {ts:Tmps} {z:AV} {dst:Option Nat} {os:List AOper} {clk:Nat} {ks:List Kf} {Q:Post}
def mrV (h:List AObj) (s g:Nat) (z:AV) (bytes:Nat):AV→AV→Option (AV×List AObj)
 | .sl [] .nil, .int _ m=>
   if m=0 then some (.sl [] .nil,h)
   else if 0 < m∧m * (bytes + 1)≤z1c∧z.def? =true then some (.ob s g 0 m.toNat,h.set s (.blk g (List.replicate m.toNat z) true true 0))
   else none
 | _,_=>none
theorem k2d {b:Nat} {x n:AOpd}:O Gam base .plain g (⟨dst, .makeRow k z b x n,none⟩::os) ⟨ts,h,clk⟩ ks Q=PP Gam base (mrV h (base + k) g z b (x.ev ts) (n.ev ts)) dst g os ts clk ks Q:=by
 rw[q3c rfl]
 congr 1
theorem w9t {s b n:Nat} {z:AV} {k:IntKind} (hz:z.def? =true) (h0:0 < n) (hn:(n:Int) * ((b:Int) + 1)≤2 ^ 46):mrV h s g z b (.sl [] .nil) (.int k (n:Int))=some (.ob s g 0 n,h.set s (.blk g (List.replicate n z) true true 0)):=by
 have h1:(0 < (n:Int)∧(n:Int) * (b + 1)≤(z1c:Int)∧z.def? =true):=⟨by omega,by simpa [z1c] using hn,hz⟩
 have h2:¬ (n:Int)=0:=by omega
 simp only[mrV,h2,if_false,if_pos h1,Int.toNat_natCast]
end
attribute [go_sem] k2d
theorem k2e {h:List AObj}:k9k h .cap (.sl [] .nil)=some (.int .i64 0,h):=(rfl)
theorem w9u {h:List AObj}:slV h (some 1) (.sl [] .nil) none (some (.int .i64 0)) none=some (.sl [] .nil,h):=(rfl)
theorem j0w {D:List AObj} {B clk:Nat} (hB:D.length=B):K Gam B x1g.body [] ⟨q0b [.sl [] .nil, .int .i64 0],D++[.dead],clk⟩ (fun e s=>e= .ret∧s.ts 4= .sl [] .nil∧s.h=D++[.dead]):=by
 have e1:decide ((0:Int) < 0)=false:=rfl
 have e2:IntKind.i64.wrap (0 - 0)=0:=by decide
 simp only[go_sem,x1g,hB,e1,k2e,e2]
theorem j6y {D:List AObj} {B clk n:Nat} (hB:D.length=B) (h0:0 < n) (hn:n≤2 ^ 30):K Gam B x1g.body [] ⟨q0b [.sl [] .nil, .int .i64 (n:Int)],D++[.dead],clk⟩ (fun e s=>e= .ret∧∃ g,s.ts 4= .ob (B + 0) g 0 0∧s.h=D++[.blk g (List.replicate n (.str [])) true true 0]):=by
 have e1:decide ((n:Int) < 0)=false:=by rw[decide_eq_false_iff_not];omega
 have e2:IntKind.i64.wrap (0 - 0)=0:=by decide
 have e3:IntKind.i64.wrap ((n:Int) - 0)=(n:Int):=by rw[z0d (by omega) (by omega)];omega
 have e4:decide ((0:Int) < (n:Int))=true:=by rw[decide_eq_true_iff];omega
 have hmr:∀ h s g,mrV h s g (.str []) 16 (.sl [] .nil) (.int .i64 (n:Int))=some (.ob s g 0 n,h.set s (.blk g (List.replicate n (.str [])) true true 0)):=fun h s g=>w9t rfl h0 (by omega)
 have hsl:∀ g,slV (D++[.blk g (List.replicate n (.str [])) true true 0]) (some 1) (.ob (B + 0) g 0 n) none (some (.int .i64 0)) none=some (.ob (B + 0) g 0 0,D++[.blk g (List.replicate n (.str [])) true true 0]):=fun g=>by
  have hb:z2a (D++[.blk g (List.replicate n (AV.str [])) true true 0]) (B + 0) g=some (List.replicate n (.str []),true,true,0):=by rw[z6w hB];simp[z2a]
  have hh:z4l 1 (List.replicate n (AV.str []))=true:=by cases n <;> rfl
  simp only[slV,z2v,hb,z4v,Int.le_refl,if_true,Int.toNat_zero,hh,List.length_replicate]
  simp
 simp only[go_sem,x1g,hB,e1,k2e,e2,e3,e4,w9u,hmr,hsl]
 exact⟨_,rfl,rfl⟩
theorem y8t {n:Nat} {h:List AObj} {clk:Nat} {Q:AV→List AObj→Nat→Prop} (hn:n≤2 ^ 30) (h0:n=0→Q (.sl [] .nil) h clk) (h1:0 < n→∀ g c,Q (.ob h.length g 0 0) (h++[.blk g (List.replicate n (.str [])) true true 0]) c):WC Gam 245 [.sl [] .nil, .int .i64 (n:Int)] h clk Q:=by
 have hp:z1n h x1g.byref 0 [.sl [] .nil, .int .i64 (n:Int)]=some [.sl [] .nil, .int .i64 (n:Int)]:=rfl
 have hl:z0s x1g.byref 0 [.sl [] .nil, .int .i64 (n:Int)]=[]:=rfl
 have hids:idsL [.sl [] .nil, .int .i64 (n:Int)]=[]:=rfl
 have hext:Gam.ext 245=none:=rfl
 have hown:x1g.owned=true:=rfl
 have hres:x1g.results=[.tmp 4]:=rfl
 have hns:List.replicate x1g.nslots AObj.dead=[.dead]:=rfl
 rcases Nat.eq_zero_or_pos n with rfl | hpos
 ·obtain⟨k,e,s,he,rfl,hs4,hsh⟩:=j0w (D:=maskFrom [] 0 h) (clk:=clk) z4g
  refine⟨k, .sl [] .nil,h,clk, ?_,h0 rfl⟩
  unfold z5b z0k
  rw[←hns] at he
  simp only[hext,w8x,hp,hl,freezeAll,hids,reach]
  rw[show ((0:Nat):Int)=0 from rfl]
  simp only[he,hres,z1s,hs4,hown,if_true,Option.map_some,z1k,z5y]
  rfl
 ·obtain⟨k,e,s,he,rfl,g,hs4,hsh⟩:=j6y (D:=maskFrom [] 0 h) (clk:=clk) z4g hpos hn
  refine⟨k, .ob h.length g 0 0,h++[.blk g (List.replicate n (.str [])) true true 0],s.clk, ?_,h1 hpos _ _⟩
  unfold z5b z0k
  rw[←hns] at he
  have hdrop:s.h.drop h.length=[.blk g (List.replicate n (.str [])) true true 0]:=by rw[hsh,List.drop_left' z4g]
  simp only[hext,w8x,hp,hl,freezeAll,hids,reach,he,hres,z1s,hs4,hown,if_true,Option.map_some,z1k,z5y,hdrop,AV.ids,ite_self]
  simp
def q5i (l:List (List Nat)):AV:= .sl (z1t l) .no
theorem k2f {l:List (List Nat)}:(q5i l).ids=[]:=by simp[q5i,AV.ids,z2d]
theorem x8a {ls:List (List (List Nat))} {i:Nat} (hi:i < ls.length):(ls.take (i + 1)).flatten=(ls.take i).flatten++ls[i]:=by
 rw[List.take_succ_eq_append_getElem hi,List.flatten_append]
 simp
theorem k2g {ls:List (List (List Nat))} {i:Nat}:(ls.take i).flatten.length≤ls.flatten.length:=by
 have:=congrArg (fun x=>(List.flatten x).length) (List.take_append_drop i ls)
 simp only[List.flatten_append,List.length_append] at this
 omega
def x3f (B n:Nat) (acc:List (List Nat)) (r:AV) (o0 o1:AObj):Prop:=
 (n=0∧acc=[]∧∃ u,r= .sl [] u∧z8k B 0 o0 u 1)∨
 (0 < n∧acc=[]∧∃ g,r= .ob (B + 1) g 0 0∧o1= .blk g (List.replicate n (.str [])) true true 0)∨
 (0 < n∧acc≠[]∧∃ g,r= .ob (B + 0) g 0 acc.length∧o0= .blk g (z1t acc) true true 0)
theorem k2h {D:List AObj} {B n gen:Nat} {acc x:List (List Nat)} {r:AV} {o0:AObj} {L:List AObj} (hB:D.length=B) (hL:L=[o0]∨∃ o1,L=[o0,o1]) (hn:n≤2 ^ 20) (hacc:(acc++x).length≤n) (hst:x3f B n acc r o0 (L.getD 1 .dead)) (hpos:0 < n→L.length=2):
  ∃ r' o0' L',z1g (D++L) (B + 0) gen 1 16 false r (.sl (z1t x) .no)=some (r',D++L')∧(L'=[o0']∨∃ o1,L'=[o0',o1])∧x3f B n (acc++x) r' o0' (L'.getD 1 .dead)∧(0 < n→L'.length=2):=by
 have hlen:(acc++x).length=acc.length + x.length:=List.length_append
 have hsx:(z1t x).length=x.length:=List.length_map _
 have hL0:L[0]? =some o0:=by rcases hL with rfl | ⟨o1,rfl⟩ <;> rfl
 rcases hst with ⟨rfl,rfl,u,rfl,hu⟩ | ⟨h0,rfl,g,rfl,ho1⟩ | ⟨h0,hne,g,rfl,ho0⟩
 ·have hx:x=[]:=by simpa using hacc
  subst hx
  have:=z0j (D:=D) (L:=L) (B:=B) (k:=0) (esz:=1) (b:=16) (gen:=gen) (xs:=[]) (ys:=[]) (t:=u) (u:= .no) (o:=o0) hB hL0 hu rfl rfl (by simp)
  refine⟨.sl [] (.at (B + 0) gen), .tip gen 1,L.set 0 (.tip gen 1),this, ?_, .inl ⟨rfl,rfl,_,rfl, .inr (.inr ⟨gen,rfl,rfl⟩)⟩,fun h=>absurd h (by omega)⟩
  rcases hL with rfl | ⟨o1,rfl⟩
  ·exact .inl rfl
  ·exact .inr ⟨o1,rfl⟩
 ·obtain⟨o1,rfl⟩:∃ o1,L=[o0,o1]:=by
   rcases hL with rfl | h
   ·have:=hpos h0;simp at this
   ·exact h
  simp at ho1
  subst ho1
  have hb:z2a (D++[o0, .blk g (List.replicate n (AV.str [])) true true 0]) (B + 1) g=some (List.replicate n (.str []),true,true,0):=by rw[z6w hB];simp[z2a]
  have hxn:x.length≤n:=by simpa using hacc
  have hgt:¬ x.length * (16 + 1) > z1c:=by unfold z1c;omega
  have hall:z0t 1 (List.replicate n (AV.str []))=true:=by
   have:=z1u (l:=List.replicate n [])
   simpa [z1t] using this
  by_cases hx:x=[]
  ·subst hx
   refine⟨.ob (B + 1) g 0 0,o0,[o0, .blk g (List.replicate n (.str [])) true true 0], ?_, .inr ⟨_,rfl⟩, .inr (.inl ⟨h0,rfl,g,rfl,rfl⟩),fun _=>rfl⟩
   unfold z1g
   simp[z5a,z1t,z0t,hb,hall,z1c]
  ·have hxl:0 < x.length:=List.length_pos_iff.2 hx
   refine⟨.ob (B + 0) gen 0 x.length, .blk gen (z1t x) true true 0,[.blk gen (z1t x) true true 0, .dead], ?_, .inr ⟨_,rfl⟩, .inr (.inr ⟨h0,by simpa using hx,gen,by simp,by simp⟩),fun _=>rfl⟩
   unfold z1g
   have hemp:(z1t x).isEmpty=false:=by cases x with
    | nil=>exact absurd rfl hx
    | cons a x=>rfl
   simp only[z5a,z1u,Bool.not_true,Bool.false_eq_true,if_false,hb,hsx,decide_eq_true_eq,hgt,hall,beq_self_eq_true,decide_false,Bool.or_self,hemp,if_true,Nat.zero_le,Nat.le_refl,List.length_replicate,true_and,h0,List.take_zero,List.nil_append,Nat.zero_add,z5i hB,List.set_cons_succ,List.set_cons_zero]
 ·obtain⟨o1,rfl⟩:∃ o1,L=[o0,o1]:=by
   rcases hL with rfl | h
   ·have:=hpos h0;simp at this
   ·exact h
  subst ho0
  have hb:z2a (D++[.blk g (z1t acc) true true 0,o1]) (B + 0) g=some (z1t acc,true,true,0):=by rw[z6w hB];simp[z2a]
  have hgt:¬ (acc.length + x.length) * (16 + 1) > z1c:=by unfold z1c;omega
  have hsa:(z1t acc).length=acc.length:=List.length_map _
  by_cases hx:x=[]
  ·subst hx
   refine⟨.ob (B + 0) g 0 acc.length, .blk g (z1t acc) true true 0,[.blk g (z1t acc) true true 0,o1], ?_, .inr ⟨_,rfl⟩, .inr (.inr ⟨h0,by simpa using hne,g,by simp,by rw[List.append_nil]⟩),fun _=>rfl⟩
   have:¬ acc.length * (16 + 1) > z1c:=by simpa using hgt
   have hb0:=hb
   rw[Nat.add_zero] at hb0
   unfold z1g
   simp only[z5a,show z1t []=[] from rfl,z0t,Bool.not_true,Bool.false_eq_true,if_false,hb0,List.length_nil,Nat.add_zero,decide_eq_true_eq,this,z1u,beq_self_eq_true,decide_false,Bool.or_self,List.isEmpty_nil,if_true]
  ·have hemp:(z1t x).isEmpty=false:=by cases x with
    | nil=>exact absurd rfl hx
    | cons a x=>rfl
   have hapos:0 < acc.length:=List.length_pos_iff.2 hne
   refine⟨.ob (B + 0) gen 0 (acc++x).length, .blk gen (z1t (acc++x)) true true 0,[.blk gen (z1t (acc++x)) true true 0,o1], ?_, .inr ⟨_,rfl⟩, .inr (.inr ⟨h0,by simp[hne],gen,rfl,rfl⟩),fun _=>rfl⟩
   unfold z1g
   simp only[z5a,z1u,Bool.not_true,Bool.false_eq_true,if_false,hb,hsx,decide_eq_true_eq,hgt,beq_self_eq_true,decide_false,Bool.or_self,hemp,if_true,Nat.zero_le,hsa,Nat.le_refl,true_and,hapos,z5i hB,List.set_cons_zero]
   rw[List.take_of_length_le (by rw[hsa];exact Nat.le_refl _),hlen]
   simp[z1t]
theorem w9v {ls:List (List (List Nat))} {B clk:Nat} {D L:List AObj} {v0:AV} {ts:Tmps} {ks:List Kf} {Q:Post} (hl:ls.length≤1000) (hf:ls.flatten.length≤2 ^ 20) (h0:ts 0=v0) (h3:ts 3= .int .i64 0) (h9:ts 9= .sl (ls.map q5i) .no) (h10:ts 10= .int .i64 (ls.length:Int)) (h11:ts 11= .int .i64 0)
  (hQ:∀ (ts':Tmps) (clk':Nat),ts' 0=v0→ts' 3= .int .i64 (ls.flatten.length:Int)→K Gam B (.exit 0) ks ⟨ts',D++L,clk'⟩ Q):K Gam B (.loop x7w) ks ⟨ts,D++L,clk⟩ Q:=by
 refine z0y (fun m q=>∃ i:Nat,i≤ls.length∧m=ls.length - i∧q.ts 0=v0∧q.ts 3= .int .i64 ((ls.take i).flatten.length:Int)∧q.ts 9= .sl (ls.map q5i) .no∧q.ts 10= .int .i64 (ls.length:Int)∧q.ts 11= .int .i64 (i:Int)∧q.h=D++L) ls.length ⟨0,by omega,rfl,h0,h3,h9,h10,h11,rfl⟩ ?_
 clear h0 h3 h9 h10 h11
 rintro m ⟨ts,h,clk⟩ P ⟨i,hi,rfl,q0,q3,q9,q10,q11,rfl⟩ hnx he hr
 dsimp only at q0 q3 q9 q10 q11
 by_cases hlt:i < ls.length
 ·have f1:decide ((i:Int) < (ls.length:Int))=true:=by rw[decide_eq_true_iff];omega
  have f2:IntKind.i64.wrap ((i:Int) + 1)=((i + 1:Nat):Int):=z0d (by omega) (by omega)
  have hix:∀ h,z1m h 1 (.sl (ls.map q5i) .no) (.int .i64 (i:Int))=some (.iptr [.sl (z1t ls[i]) .no] 0,h):=fun h=>z2f hlt rfl rfl
  have hfl:=x8a hlt
  have hle:=k2g (ls:=ls) (i:=i + 1)
  have hll:=congrArg List.length hfl
  rw[List.length_append] at hll
  have hsl:(z1t ls[i]).length=ls[i].length:=List.length_map _
  generalize ls[i]=x at *
  have f3:IntKind.i64.wrap (((ls.take i).flatten.length:Int) + (x.length:Int))=((ls.take (i + 1)).flatten.length:Int):=by rw[z0d (by omega) (by omega)];omega
  have f4:decide (((ls.take (i + 1)).flatten.length:Int) < 0)=false:=by rw[decide_eq_false_iff_not];omega
  simp only[go_sem,x7w,q0,q3,q9,q10,q11,f1,hix,hsl,f3,f4,f2]
  exact hnx (ls.length - (i + 1)) _ (by omega) ⟨i + 1,hlt,rfl,q0,rfl,q9,q10,rfl,rfl⟩
 ·have f1:decide ((i:Int) < (ls.length:Int))=false:=by rw[decide_eq_false_iff_not];omega
  have hti:ls.take i=ls:=List.take_of_length_le (by omega)
  rw[hti] at q3
  simp only[go_sem,x7w,q0,q3,q9,q10,q11,f1]
  refine he _ _ ?_
  exact hQ _ _ (by simp[z0b,q0]) (by simp[z0b,q3])
theorem k2i {ls:List (List (List Nat))} {B clk:Nat} {D L:List AObj} {r o0:AV×AObj} {ts:Tmps} {ks:List Kf} {Q:Post} (hB:D.length=B) (hl:ls.length≤1000) (hf:ls.flatten.length≤2 ^ 20) (hL:L=[o0.2]∨∃ o1,L=[o0.2,o1]) (hpos:0 < ls.flatten.length→L.length=2) (hst:x3f B ls.flatten.length [] r.1 o0.2 (L.getD 1 .dead)) (h6:ts 6=r.1) (h25:ts 25= .sl (ls.map q5i) .no) (h26:ts 26= .int .i64 (ls.length:Int)) (h27:ts 27= .int .i64 0)
  (hQ:∀ (ts':Tmps) (clk':Nat) (r':AV) (o':AObj) (L':List AObj),(L'=[o']∨∃ o1,L'=[o',o1])→(0 < ls.flatten.length→L'.length=2)→x3f B ls.flatten.length ls.flatten r' o' (L'.getD 1 .dead)→ts' 6=r'→K Gam B (.exit 2) ks ⟨ts',D++L',clk'⟩ Q):K Gam B (.loop x2y) ks ⟨ts,D++L,clk⟩ Q:=by
 refine z0y (fun m q=>∃ (i:Nat) (r:AV) (o:AObj) (L:List AObj),i≤ls.length∧m=ls.length - i∧(L=[o]∨∃ o1,L=[o,o1])∧(0 < ls.flatten.length→L.length=2)∧x3f B ls.flatten.length (ls.take i).flatten r o (L.getD 1 .dead)∧q.ts 6=r∧q.ts 25= .sl (ls.map q5i) .no∧q.ts 26= .int .i64 (ls.length:Int)∧q.ts 27= .int .i64 (i:Int)∧q.h=D++L) ls.length ⟨0,r.1,o0.2,L,by omega,rfl,hL,hpos,hst,h6,h25,h26,h27,rfl⟩ ?_
 clear h6 h25 h26 h27 hst hL hpos
 rintro m ⟨ts,h,clk⟩ P ⟨i,r,o,L,hi,rfl,hL,hpos,hst,q6,q25,q26,q27,rfl⟩ hnx he hr
 dsimp only at q6 q25 q26 q27
 by_cases hlt:i < ls.length
 ·have f1:decide ((i:Int) < (ls.length:Int))=true:=by rw[decide_eq_true_iff];omega
  have f2:IntKind.i64.wrap ((i:Int) + 1)=((i + 1:Nat):Int):=z0d (by omega) (by omega)
  have hix:∀ h,z1m h 1 (.sl (ls.map q5i) .no) (.int .i64 (i:Int))=some (.iptr [.sl (z1t ls[i]) .no] 0,h):=fun h=>z2f hlt rfl rfl
  have hfl:=x8a hlt
  have hle:=k2g (ls:=ls) (i:=i + 1)
  rw[hfl] at hle
  generalize ls[i]=x at *
  simp only[go_sem,x2y,q6,q25,q26,q27,f1,hix]
  obtain⟨r',o',L',hap,hL',hst',hpos'⟩:=k2h (gen:=clk + 1 + 3 + 1 + 1) hB hL hf hle hst hpos
  rw[hap]
  simp only[go_sem,q25,q26,q27,f2]
  rw[←hfl] at hst'
  exact hnx (ls.length - (i + 1)) _ (by omega) ⟨i + 1,r',o',L',hlt,rfl,hL',hpos',hst',by simp[z0b],by simp[z0b,q25],by simp[z0b,q26],by simp[z0b],rfl⟩
 ·have f1:decide ((i:Int) < (ls.length:Int))=false:=by rw[decide_eq_false_iff_not];omega
  have hti:ls.take i=ls:=List.take_of_length_le (by omega)
  rw[hti] at hst
  simp only[go_sem,x2y,q6,q25,q26,q27,f1]
  refine he _ _ ?_
  exact hQ _ _ r o L hL hpos hst (by simp[z0b,q6])
theorem k2j {ls:List (List (List Nat))} {u:Tip} (hl:ls.length≤1000) (hf:ls.flatten.length≤2 ^ 20):Pure Gam 175 [.sl (ls.map q5i) u] (.sl (z1t ls.flatten) .no):=by
 refine Pure.of rfl y7y rfl rfl rfl (az:=[.sl (ls.map q5i) .no]) rfl (by simp[idsL,AV.ids,z0c (f:=q5i) fun _=>k2f]) fun D B clk T hB hT=> ?_
 simp only[go_sem,w8w,List.length_map]
 refine w9v (v0:= .sl (ls.map q5i) .no) hl hf (by simp[z0b,z2w]) (by simp[z0b]) (by simp[z0b]) (by simp[z0b]) (by simp[z0b]) fun ts1 clk1 r0 r3=> ?_
 simp only[go_sem,r0,r3]
 have fin:∀ (L':List AObj) (r':AV) (o':AObj),(L'=[o']∨∃ o1,L'=[o',o1])→(0 < ls.flatten.length→L'.length=2)→x3f B ls.flatten.length ls.flatten r' o' (L'.getD 1 .dead)→RV [] (some [r']) T (D++L'):=by
  intro L' r' o' hL' hpos hst
  rcases hst with ⟨hz,hacc,u,rfl,_⟩ | ⟨h0,hacc,_⟩ | ⟨h0,hne,g,rfl,rfl⟩
  ·rw[hacc] at hT
   exact⟨_,rfl,rfl,rfl,hT _⟩
  ·rw[hacc] at h0;simp at h0
  ·obtain⟨o1,rfl⟩:∃ o1,L'=[.blk g (z1t ls.flatten) true true 0,o1]:=by
    rcases hL' with rfl | h
    ·have:=hpos h0;simp at this
    ·exact h
   have hb:z2a (D++[.blk g (z1t ls.flatten) true true 0,o1]) (B + 0) g=some (z1t ls.flatten,true,true,0):=by rw[z6w hB];simp[z2a]
   have hsl:(z1t ls.flatten).length=ls.flatten.length:=List.length_map _
   refine⟨.sl (z1t ls.flatten) .no, ?_,by simp[AV.ids,z2d],by simp[x7a],hT _⟩
   simp only[z1k,conv,q7e,hb,Nat.zero_add,hsl,Nat.le_refl,if_true,List.drop_zero,Option.map_some]
   rw[List.take_of_length_le (by rw[hsl];exact Nat.le_refl _)]
 refine z6f (y8t (by omega) (fun hz=> ?_) fun hpos g c=> ?_)
 ·simp only[go_sem,r0,r3,List.length_map]
  refine k2i (r:=(.sl [] .nil, .dead)) (o0:=(.undef, .dead)) hB hl hf (.inl rfl) (fun h=>by omega) (.inl ⟨hz,rfl,_,rfl, .inl rfl⟩) (by simp[z0b]) (by simp[z0b]) (by simp[z0b]) (by simp[z0b]) fun ts' clk' r' o' L' hL' hpos' hst' q6=> ?_
  simp only[go_sem,q6]
  exact fin L' r' o' hL' hpos' hst'
 ·have hlen:(D++[AObj.dead]).length=B + 1:=by simp[hB]
  simp only[go_sem,r0,r3,List.length_map,hlen,List.append_assoc]
  refine k2i (r:=(.ob (B + 1) g 0 0, .dead)) (o0:=(.undef, .dead)) hB hl hf (.inr ⟨_,rfl⟩) (fun _=>rfl) (.inr (.inl ⟨hpos,rfl,g,rfl,rfl⟩)) (by simp[z0b]) (by simp[z0b]) (by simp[z0b]) (by simp[z0b]) fun ts' clk' r' o' L' hL' hpos' hst' q6=> ?_
  simp only[go_sem,q6]
  exact fin L' r' o' hL' hpos' hst'
theorem k2k {s:Sys} {fl:List (List Nat)} {B clk g0 g:Nat} {D:List AObj} {ts:Tmps} {ks:List Kf} {Q:Post} (hB:D.length=B) (hpl:s.preds.length≤1000) (hfl:fl.length≤2 ^ 20) (h2:ts 2= .ptr (B + 0) g0 0 0) (h6:ts 6= .mp (B + 1) g) (h11:ts 11= .sl (z1t fl) .no) (h12:ts 12= .int .i64 (fl.length:Int)) (h13:ts 13= .int .i64 0)
  (hok:fl.Nodup→(∀ a∈fl,a∈s.preds.map (·.name))→∀ (ts':Tmps) (clk':Nat),ts' 6= .mp (B + 1) g→K Gam B (.exit 0) ks ⟨ts',D++[.blk g0 [.agg [.sl (s.preds.map z0q) .no, .sl (s.clauses.map z0f) .no]] false false 0, .map g (z3i fl)],clk'⟩ Q)
  (hbad:¬ (fl.Nodup∧∀ a∈fl,a∈s.preds.map (·.name))→∀ (ts':Tmps) (L:List AObj) (clk':Nat),ts' 4= .nilmap→ts' 5= .bool false→K Gam B .ret ks ⟨ts',D++L,clk'⟩ Q):
  K Gam B (.loop j0o) ks ⟨ts,D++[.blk g0 [.agg [.sl (s.preds.map z0q) .no, .sl (s.clauses.map z0f) .no]] false false 0, .map g (z3i [])],clk⟩ Q:=by
 refine z0y (fun m q=>∃ (i:Nat),i≤fl.length∧m=fl.length - i∧(fl.take i).Nodup∧(∀ a∈fl.take i,a∈s.preds.map (·.name))∧q.ts 2= .ptr (B + 0) g0 0 0∧q.ts 6= .mp (B + 1) g∧q.ts 11= .sl (z1t fl) .no∧q.ts 12= .int .i64 (fl.length:Int)∧q.ts 13= .int .i64 (i:Int)∧q.h=D++[.blk g0 [.agg [.sl (s.preds.map z0q) .no, .sl (s.clauses.map z0f) .no]] false false 0, .map g (z3i (fl.take i))]) fl.length ⟨0,by omega,rfl,by simp,by simp,h2,h6,h11,h12,h13,rfl⟩ ?_
 clear h2 h6 h11 h12 h13
 rintro m ⟨ts,h,clk⟩ P ⟨i,hi,rfl,hnd,hin,q2,q6,q11,q12,q13,rfl⟩ hnx he hr
 dsimp only at q2 q6 q11 q12 q13
 by_cases hlt:i < fl.length
 ·have f1:decide ((i:Int) < (fl.length:Int))=true:=by rw[decide_eq_true_iff];omega
  have f2:IntKind.i64.wrap ((i:Int) + 1)=((i + 1:Nat):Int):=z0d (by omega) (by omega)
  have hix:∀ h,z1m h 1 (.sl (z1t fl) .no) (.int .i64 (i:Int))=some (.iptr [.str fl[i]] 0,h):=fun h=>z2f hlt rfl rfl
  have htake:fl.take (i + 1)=fl.take i++[fl[i]]:=List.take_succ_eq_append_getElem hlt
  have hsub:(fl.take (i + 1)).Sublist fl:=List.take_sublist _ _
  have p1:=w9s (ps:=s.preds) (u:= .no) hpl
  have hnl:(s.preds.map (·.name)).length≤2 ^ 20:=by simp;omega
  generalize fl[i]=a at *
  have p2:=x3e (l:=s.preds.map (·.name)) (a:=a) (u:= .no) hnl
  by_cases ha:a∈fl.take i
  ·simp only[go_sem,j0o,q2,q6,q11,q12,q13,hB,f1,hix,z3u,q2i,ha,z9c]
   refine hr _ (hbad (fun h=> ?_) _ _ _ (by simp[z0b]) (by simp[z0b]))
   have:=h.1.sublist hsub
   rw[htake,List.nodup_append] at this
   exact this.2.2 _ ha _ (by simp) rfl
  ·cases hb:decide (a∈s.preds.map (·.name)) with
   | false=>
     rw[hb] at p2
     simp only[go_sem,j0o,q2,q6,q11,q12,q13,hB,f1,hix,z3u,q2i,ha,z5k,z0a p1,z0a p2,Bool.not_false]
     refine hr _ (hbad (fun h=> ?_) _ _ _ (by simp[z0b]) (by simp[z0b]))
     rw[decide_eq_false_iff_not] at hb
     exact hb (h.2 _ (hsub.mem (by rw[htake];simp)))
   | true=>
     rw[hb] at p2
     rw[decide_eq_true_iff] at hb
     have hmu:∀ L:List AObj,z5m L 1 g=some (z3i (fl.take i))→muV (D++L) (.one .str) (.str a) (.bool true) (.mp (B + 1) g)=some (.undef,D++L.set 1 (.map g (z3i (fl.take (i + 1))))):=fun L hL=>by
      rw[htake]
      exact x7x (v:= .bool true) hB hL rfl (q2v ha)
     simp only[go_sem,j0o,q2,q6,q11,q12,q13,hB,f1,hix,z3u,q2i,ha,z5k,z0a p1,z0a p2,Bool.not_true,hmu,f2]
     refine hnx (fl.length - (i + 1)) _ (by omega) ⟨i + 1,hlt,rfl, ?_,fun b hb'=> ?_,q2,q6,q11,q12,rfl,rfl⟩
     ·rw[htake,List.nodup_append]
      refine⟨hnd,by simp,fun x hx y hy=> ?_⟩
      simp at hy
      subst hy
      exact fun e=>ha (e ▸ hx)
     ·rw[htake,List.mem_append,List.mem_singleton] at hb'
      rcases hb' with hb' | rfl
      ·exact hin b hb'
      ·exact hb
 ·have f1:decide ((i:Int) < (fl.length:Int))=false:=by rw[decide_eq_false_iff_not];omega
  have hti:fl.take i=fl:=List.take_of_length_le (by omega)
  rw[hti] at hnd hin
  simp only[go_sem,j0o,q2,q6,q11,q12,q13,f1]
  refine he _ _ ?_
  rw[hti]
  exact hok hnd hin _ _ (by simp[z0b,q6])
theorem u2p {s:Sys} {un und:List (List Nat)} {u:Tip} {h:List AObj} {clk:Nat} {Q:AV→List AObj→Nat→Prop} (hpl:s.preds.length≤1000) (hl:(un++und).length≤2 ^ 20) (hnd:(un++und).Nodup) (hin:∀ a∈un++und,a∈s.preds.map (·.name)) (hQ:∀ g o c,Q (.tup [.mp (h.length + 1) g, .bool true]) (h++[o, .map g (z3i (un++und))]) c):WC Gam 111 [z0x s, .sl [.sl (z1t un) .no, .sl (z1t und) .no] u] h clk Q:=by
 have hp:=k2j (ls:=[un,und]) (u:= .no) (by simp) (by simpa using hl)
 have hfl:[un,und].flatten=un++und:=by simp
 rw[hfl] at hp
 refine q9z rfl u1y rfl rfl rfl (az:=[z0x s, .sl [.sl (z1t un) .no, .sl (z1t und) .no] .no]) rfl (by simp[idsL,z2c,AV.ids,z2d]) fun D B R hB hBh hR=> ?_
 have hsl:(z1t (un++und)).length=(un++und).length:=List.length_map _
 simp only[List.map_cons,List.map_nil,q5i] at hp
 simp only[go_sem,y7w,hB,z0x,z0a hp,hsl]
 refine k2k (fl:=un++und) hB hpl hl (by simp[z0b]) (by simp[z0b]) (by simp[z0b]) (by simp[z0b]) (by simp[z0b]) (fun _ _ ts' clk' r6=> ?_) (fun hc=>absurd ⟨hnd,hin⟩ hc)
 simp only[go_sem,r6]
 rw[q5h rfl]
 refine hR _ _ ⟨B + 1,by simp[z1k,AV.cv,cvL,AV.ids,idsL],by omega⟩ fun c=> ?_
 have:=hQ
 rw[←hBh] at this
 exact this _ _ c
theorem w9w {s:Sys} {x r:Tf} {k:Int} (hs:SysV s) (hx:TfOk x) (hr:TfOk r) (hk:x.kind=k) (h1:r.pred=[]) (h2:r.into=[]) (h3:r.clause=0) (h4:r.atom=0) (h5:r.un=[]) (h6:r.und=[]) (h7:r.drops=[]):Pure Gam 91 [z0x s,eTf x, .int .i64 k,eTf r] (.bool true):=by
 have hp:=k1z hs
 rw[z0x] at hp
 refine Pure.of rfl y1y rfl rfl rfl (az:=[z0x s,eTf x, .int .i64 k,eTf r]) rfl (by simp[idsL,z2c,z6y hx,z6y hr,AV.ids]) fun D B clk T hB hT=> ?_
 have hs0:z1t []=[]:=rfl
 simp only[go_sem,v1e,hB,z0x,eTf,hk,h1,h2,h3,h4,h5,h6,h7,hs0,decide_true,z0a hp,Int.reduceEq]
 rw[z0e]
 exact hT _
def z5d (un und:List (List Nat)) (c:Clause):Option Bool:=
 if c.head.pred∈und∧(c.body.any fun a=>decide (a.pred∈und))=false then none
 else if c.head.pred∈un++und∨(c.body.any fun a=>decide (a.pred∈und))=true then some false
 else if (c.body.any fun a=>decide (a.pred∈un))=true then none else some true
def z6m (un und:List (List Nat)):List Clause→Nat→List Nat→Option (List Nat)
 | [],_,out=>some out
 | c::cs,i,out=>match z5d un und c with
   | none=>none
   | some true=>z6m un und cs (i + 1) (out++[i])
   | some false=>z6m un und cs (i + 1) out
theorem j4d {cs:List Clause} {x:Tf} {B clk gx gR:Nat} {D:List AObj} {a0 a2 o3 o4 o5 o6 s0:AObj} {ts:Tmps} {ks:List Kf} {Q:Post} (hB:D.length=B) (hcl:cs.length≤2 ^ 18) (hbl:∀ c∈cs,c.body.length≤2 ^ 18) (hx:TfOk x) (h7:ts 7= .mp (B + 8) gR) (h9:ts 9= .fn 112 [.ptr (B + 1) gx 0 0]) (h10:ts 10= .fn 113 [.ptr (B + 1) gx 0 0]) (h11:ts 11= .sl [] .nil) (h38:ts 38= .sl (cs.map z0f) .no) (h39:ts 39= .int .i64 (cs.length:Int)) (h40:ts 40= .int .i64 0)
  (hok:∀ out,z6m x.un x.und cs 0 []=some out→∀ (ts':Tmps) (t:Tip) (L:List AObj) (clk':Nat),ts' 11= .sl (out.map nat) t→K Gam B (.exit 0) ks ⟨ts',D++L,clk'⟩ Q)
  (hbad:z6m x.un x.und cs 0 []=none→∀ (ts':Tmps) (L:List AObj) (clk':Nat),ts' 4= .sl [] .nil→ts' 5= .int .i64 8→K Gam B .ret ks ⟨ts',D++L,clk'⟩ Q):
  K Gam B (.loop q9w) ks ⟨ts,D++[a0, .blk gx [eTf x] false false 0,a2,o3,o4,o5,o6,s0, .map gR (z3i (x.un++x.und))],clk⟩ Q:=by
 refine z0y (fun m q=>∃ (i:Nat) (out:List Nat) (t:Tip) (o3 o4 o5 o6:AObj),i≤cs.length∧m=cs.length - i∧out.length≤i∧z6m x.un x.und (cs.drop i) i out=z6m x.un x.und cs 0 []∧q.ts 7= .mp (B + 8) gR∧q.ts 9= .fn 112 [.ptr (B + 1) gx 0 0]∧q.ts 10= .fn 113 [.ptr (B + 1) gx 0 0]∧q.ts 11= .sl (out.map nat) t∧q.ts 38= .sl (cs.map z0f) .no∧q.ts 39= .int .i64 (cs.length:Int)∧q.ts 40= .int .i64 (i:Int)∧q.h=D++[a0, .blk gx [eTf x] false false 0,a2,o3,o4,o5,o6,s0, .map gR (z3i (x.un++x.und))]∧z8k B 6 o6 t 1) cs.length ⟨0,[], .nil,o3,o4,o5,o6,by omega,rfl,by simp,by simp,h7,h9,h10,h11,h38,h39,h40,rfl, .inl rfl⟩ ?_
 clear h7 h9 h10 h11 h38 h39 h40
 rintro m ⟨ts,h,clk⟩ P ⟨i,out,t,o3,o4,o5,o6,hi,rfl,hout,hk,q7,q9,q10,q11,q38,q39,q40,rfl,ht⟩ hnx he hr
 dsimp only at q7 q9 q10 q11 q38 q39 q40
 by_cases hlt:i < cs.length
 ·have f1:decide ((i:Int) < (cs.length:Int))=true:=by rw[decide_eq_true_iff];omega
  have f2:IntKind.i64.wrap ((i:Int) + 1)=((i + 1:Nat):Int):=z0d (by omega) (by omega)
  have hmem:=List.getElem_mem hlt
  have hdr:cs.drop i=cs[i]::cs.drop (i + 1):=List.drop_eq_getElem_cons hlt
  have hix:=fun h=>z8l (l:=cs) (i:=i) (h:=h) (t:= .no) (k:= .i64) hlt
  have hbody:=hbl _ hmem
  generalize cs[i]=c at hmem hdr hix hbody
  rw[hdr,z6m] at hk
  have oids:(AObj.blk gx [eTf x] false false 0).ids=[]:=by simp[AObj.ids,idsL,z6y hx]
  have hh:∀ a0 a2 o3 o4 o5 o6,Has [(B + 1, .blk gx [eTf x] false false 0)] (D++[a0, .blk gx [eTf x] false false 0,a2,o3,o4,o5,o6,s0, .map gR (z3i (x.un++x.und))]):=fun _ _ _ _ _ _=>x4t hB rfl
  have r1:=j0p (enc:=z3x) (xs:=c.body) (t:= .no) (P:=fun a=>decide (a.pred∈x.und)) (c:=112) (cap:=[.ptr (B + 1) gx 0 0]) (fun _=>rfl) (fun _ _=>rfl) z4w (by omega) (by simpa [idsL,AV.ids] using Cov.one (s:=B + 1) oids) fun a _=>k2c hx
  have r2:=j0p (enc:=z3x) (xs:=c.body) (t:= .no) (P:=fun a=>decide (a.pred∈x.un)) (c:=113) (cap:=[.ptr (B + 1) gx 0 0]) (fun _=>rfl) (fun _ _=>rfl) z4w (by omega) (by simpa [idsL,AV.ids] using Cov.one (s:=B + 1) oids) fun a _=>v8k hx
  have r3:=k2c (s:=B + 1) (g:=gx) (x:=x) (a:=c.head) hx
  rw[z3x] at r3
  cases hw:(c.body.any fun a=>decide (a.pred∈x.und)) with
  | true=>
    have hkc:z5d x.un x.und c=some false:=by
     unfold z5d
     rw[hw]
     simp
    rw[hkc] at hk
    rw[hw] at r1
    cases hu:decide (c.head.pred∈x.und) with
    | true=>
      rw[hu] at r3
      have hin:c.head.pred∈x.un++x.und:=by
       rw[decide_eq_true_iff] at hu
       exact List.mem_append_right _ hu
      simp only[go_sem,q9w,q7,q9,q10,q11,q38,q39,q40,hB,f1,hix,z0w r1 (hh _ _ _ _ _ _),z0w r3 (hh _ _ _ _ _ _),Bool.not_true,z3u,q2i,hin,z9c,f2]
      exact hnx (cs.length - (i + 1)) _ (by omega) ⟨i + 1,out,t,_,_,_,_,hlt,rfl,by omega,hk,q7,q9,q10,q11,q38,q39,rfl,rfl,ht⟩
    | false=>
      rw[hu] at r3
      by_cases hin:c.head.pred∈x.un++x.und
      ·simp only[go_sem,q9w,q7,q9,q10,q11,q38,q39,q40,hB,f1,hix,z0w r1 (hh _ _ _ _ _ _),z0w r3 (hh _ _ _ _ _ _),Bool.not_true,z3u,q2i,hin,z9c,f2]
       exact hnx (cs.length - (i + 1)) _ (by omega) ⟨i + 1,out,t,_,_,_,_,hlt,rfl,by omega,hk,q7,q9,q10,q11,q38,q39,rfl,rfl,ht⟩
      ·simp only[go_sem,q9w,q7,q9,q10,q11,q38,q39,q40,hB,f1,hix,z0w r1 (hh _ _ _ _ _ _),z0w r3 (hh _ _ _ _ _ _),Bool.not_true,z3u,q2i,hin,z5k,f2]
       exact hnx (cs.length - (i + 1)) _ (by omega) ⟨i + 1,out,t,_,_,_,_,hlt,rfl,by omega,hk,q7,q9,q10,q11,q38,q39,rfl,rfl,ht⟩
  | false=>
    rw[hw] at r1
    cases hu:decide (c.head.pred∈x.und) with
    | true=>
      have hkc:z5d x.un x.und c=none:=by
       unfold z5d
       rw[decide_eq_true_iff] at hu
       rw[if_pos ⟨hu,hw⟩]
      rw[hkc] at hk
      rw[hu] at r3
      simp only[go_sem,q9w,q7,q9,q10,q11,q38,q39,q40,hB,f1,hix,z0w r1 (hh _ _ _ _ _ _),z0w r3 (hh _ _ _ _ _ _),Bool.not_false]
      exact hr _ (hbad hk.symm _ _ _ (by simp[z0b]) (by simp[z0b]))
    | false=>
      rw[hu] at r3
      have hnu:¬ c.head.pred∈x.und:=by rwa [decide_eq_false_iff_not] at hu
      by_cases hin:c.head.pred∈x.un++x.und
      ·have hkc:z5d x.un x.und c=some false:=by
        unfold z5d
        rw[if_neg (fun h=>hnu h.1),if_pos (.inl hin)]
       rw[hkc] at hk
       simp only[go_sem,q9w,q7,q9,q10,q11,q38,q39,q40,hB,f1,hix,z0w r1 (hh _ _ _ _ _ _),z0w r3 (hh _ _ _ _ _ _),Bool.not_false,z3u,q2i,hin,z9c,f2]
       exact hnx (cs.length - (i + 1)) _ (by omega) ⟨i + 1,out,t,_,_,_,_,hlt,rfl,by omega,hk,q7,q9,q10,q11,q38,q39,rfl,rfl,ht⟩
      ·cases hn:(c.body.any fun a=>decide (a.pred∈x.un)) with
       | true=>
         have hkc:z5d x.un x.und c=none:=by
          unfold z5d
          rw[if_neg (fun h=>hnu h.1),if_neg (fun h=>h.elim hin (by rw[hw];simp)),if_pos hn]
         rw[hkc] at hk
         rw[hn] at r2
         simp only[go_sem,q9w,q7,q9,q10,q11,q38,q39,q40,hB,f1,hix,z0w r1 (hh _ _ _ _ _ _),z0w r3 (hh _ _ _ _ _ _),Bool.not_false,z3u,q2i,hin,z5k,z0w r2 (hh _ _ _ _ _ _)]
         exact hr _ (hbad hk.symm _ _ _ (by simp[z0b]) (by simp[z0b]))
       | false=>
         have hkc:z5d x.un x.und c=some true:=by
          unfold z5d
          rw[if_neg (fun h=>hnu h.1),if_neg (fun h=>h.elim hin (by rw[hw];simp)),if_neg (by rw[hn];simp)]
         rw[hkc] at hk
         rw[hn] at r2
         simp only[go_sem,q9w,q7,q9,q10,q11,q38,q39,q40,hB,f1,hix,z0w r1 (hh _ _ _ _ _ _),z0w r3 (hh _ _ _ _ _ _),Bool.not_false,z3u,q2i,hin,z5k,z0w r2 (hh _ _ _ _ _ _)]
         have e8:out.map nat++[i].map nat=(out++[i]).map nat:=by rw[List.map_append]
         rw[show [AV.int .i64 (i:Int)]=[i].map nat from rfl,z0j hB rfl ht z3y z3y (by simp only[List.length_map,List.length_singleton];omega),e8]
         simp only[go_sem,q7,q9,q10,q11,q38,q39,q40,f2]
         exact hnx (cs.length - (i + 1)) _ (by omega) ⟨i + 1,out++[i],_,_,_,_,_,hlt,rfl,by simp;omega,hk,q7,q9,q10,rfl,q38,q39,rfl,rfl, .inr (.inr ⟨_,rfl,rfl⟩)⟩
 ·have f1:decide ((i:Int) < (cs.length:Int))=false:=by rw[decide_eq_false_iff_not];omega
  have hdr:cs.drop i=[]:=List.drop_of_length_le (by omega)
  rw[hdr,z6m] at hk
  simp only[go_sem,q9w,q7,q9,q10,q11,q38,q39,q40,f1]
  refine he _ _ ?_
  exact hok out hk.symm _ t _ _ (by simp[z0b,q11])
theorem Pure.cv {f:Nat} {args asx':List AV} {v:AV} {af:AFun} (hp:Pure Gam f asx' v) (hext:Gam.ext f=none) (hfn:Gam.fn f=some af) (hb:af.byref=[]) (hobs:z4k args=[]) (hobs':z4k asx'=[]) (hcv:cvL args=cvL asx'):Pure Gam f args v:=by
 intro h clk
 obtain⟨⟨k,hk⟩,hf⟩:=hp h clk
 refine⟨⟨k, ?_⟩, ?_⟩
 ·unfold z5b z0k at hk⊢
  simp only[hext,hfn,hb,z1j hobs,z1j hobs',z4n hobs,z4n hobs',hcv] at hk⊢
  exact hk
 ·unfold z0v at hf⊢
  simp only[hext,hfn,hb,z1j hobs,z1j hobs',hobs,hobs',hcv] at hf⊢
  exact hf
theorem w9x {s:Sys} {x:Tf} {out:List Nat} (hs:SysV s) (hx:TfOk x) (hk:x.kind=2) (h1:x.pred=[]) (h2:x.into=[]) (h3:x.clause=0) (h4:x.atom=0) (h7:x.drops=[]) (hnd:(x.un++x.und).Nodup) (hin:∀ a∈x.un++x.und,a∈s.preds.map (·.name)) (hl:(x.un++x.und).length≤2 ^ 18) (hkept:z6m x.un x.und s.clauses 0 []=some out):Pure Gam 49 [z0x s,eTf x] (.tup [.sl (out.map nat) .no, .int .i64 0]):=by
 have hp:=w9w (r:={x with un:=[],und:=[]}) hs hx ⟨by simp,by simp,hx.drops⟩ hk h1 h2 h3 h4 rfl rfl h7
 have hpl:s.preds.length≤5:=hs.preds.length_le
 have hbl:∀ c∈s.clauses,c.body.length≤2 ^ 18:=fun c hc=>by have:=(hs.clauses c hc).2.1;omega
 have hcl:s.clauses.length≤2 ^ 18:=by have:=hs.len;omega
 rw[z0x,eTf,eTf] at hp
 have h89:=fun u h clk Q=>u2p (s:=s) (un:=x.un) (und:=x.und) (u:=u) (h:=h) (clk:=clk) (Q:=Q) (by omega) (by omega) hnd hin
 rw[z0x] at h89
 refine Pure.of rfl u1v rfl rfl rfl (az:=[z0x s,eTf x]) rfl (by simp[idsL,z2c,z6y hx]) fun D B clk T hB hT=> ?_
 have hs0:z1t []=[]:=rfl
 simp only[hs0] at hp
 have hp:=Pure.cv (args:=[.agg [.sl (s.preds.map z0q) .no, .sl (s.clauses.map z0f) .no], .agg [.int .i64 x.kind, .str x.pred, .str x.into, .int .i64 x.clause, .int .i64 x.atom, .sl (z1t x.un) .no, .sl (z1t x.und) .no, .sl x.drops .no], .int .i64 2, .agg [.int .i64 x.kind, .str x.pred, .str x.into, .int .i64 x.clause, .int .i64 x.atom, .sl [] .nil, .sl [] .nil, .sl x.drops .no]]) hp rfl y1y rfl rfl rfl rfl
 simp only[go_sem,w8u,hB,z0x,eTf,z8t,z0a hp,Bool.not_true]
 refine z6f (h89 _ _ _ _ fun gR s0 c2=> ?_)
 have hlen7:∀ a0 a1 a2 a3 a4 a5 a6:AObj,(D++[a0,a1,a2,a3,a4,a5,a6]).length=B + 7:=fun _ _ _ _ _ _ _=>by simp[hB]
 simp only[go_sem,hB,hlen7,List.append_assoc,Bool.not_true,List.length_map]
 refine j4d (x:=x) (cs:=s.clauses) (gx:=clk + 1) hB hcl hbl hx (by simp[z0b]) (by simp[z0b]) (by simp[z0b]) (by simp[z0b]) (by simp[z0b]) (by simp[z0b]) (by simp[z0b]) (fun out' ho ts' t L clk' r11=> ?_) (fun hbad=>by rw[hkept] at hbad;cases hbad)
 rw[hkept] at ho
 injection ho with ho
 subst ho
 simp only[go_sem,r11]
 rw[z0h rfl (by simp[z1k,AV.cv,cvL,AV.ids,idsL,q5e])]
 exact hT _
end Go.Proofs.YtahdahokpjigiaaGreatDoor.Am
