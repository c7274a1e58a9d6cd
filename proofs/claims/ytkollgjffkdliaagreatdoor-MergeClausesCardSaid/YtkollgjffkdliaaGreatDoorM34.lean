/- Walking: a clause at values Functions of the abstract machine's program Functions of the abstract machine's program Walking: the definition of a predicate in a model; small functions of merging models -/
import Derived.Test.YtkollgjffkdliaaGreatDoorM33
open Bool renaming false_eq_true → y6,not_false → j5,not_true → z7
open Int renaming reduceNegSucc → z5,reduceOfNat → z4
open List renaming all_eq_true → d6,append_nil → u5,cons_append → d4,drop_zero → d7,getElem?_eq_getElem → u9,getElem?_eq_some_iff → k7,getElem?_map → l6,getElem?_set_ne → l7,getElem?_set_self → s8,getElem_mem → j9,length_map → z6,length_singleton → w0,length_take → b6,map_append → v5,map_cons → k8,mem_append → j6,mem_cons → y3,mem_cons_of_mem → u0,mem_cons_self → v9,mem_map → y8,mem_of_mem_take → m9,mem_singleton → u7,nil_append → d3,take_length → u4,take_sublist → s6,take_succ_eq_append_getElem → w8
open Nat renaming le_refl → j8,zero_add → y4
open Option renaming map_some → k6
set_option linter.all false
namespace Go.Proofs.YtkollgjffkdliaaGreatDoor.Am
open Go
noncomputable section
set_option maxRecDepth 100000
section
def w6j (m:List Def) (p:List Nat) (vs:List Val):Bool:=(z7q (z8e (z5y m p).params vs) (z5y m p).body).b
def q8n (m:List Def) (env:List (List Nat×Val)) (p:List Nat) (args:List Term):Bool:=w6j m p (args.map (z7q env))
def clauseB (m:List Def) (c:Clause) (vs:List Val):Bool:=
 !(z7q (z8e c.vars vs) c.guard).b || ((c.body.any fun a=> !q8n m (z8e c.vars vs) a.pred a.args) || (!decide (c.head.pred=[]) && q8n m (z8e c.vars vs) c.head.pred c.head.args))
def DEv (d:Def):Prop:=d.body.length≤1000
theorem v3a {ps:List Func} {m:List Def} {n:List Nat} (hsh:m.map (·.pred)=ps.map (·.name)) (hn:n∈ps.map (·.name)):∃ k:Nat,∃ h:k < m.length,z9k ps n=(k:Int)∧m[k].pred=n:=by
 obtain⟨k,hk,h1,h2⟩:∃ (i:Nat) (hi:i < ps.length),ps[i].name=n∧z9k ps n=(i:Int):=by
  unfold z9k
  cases e:ps.findIdx? (fun p=>decide (p.name=n)) with
  | some i=>
    rw[List.findIdx?_eq_some_iff_getElem] at e
    obtain⟨hi,h1,_⟩:=e
    exact⟨i,hi,of_decide_eq_true h1,rfl⟩
  | none=>
    rw[List.findIdx?_eq_none_iff] at e
    obtain⟨f,hf,rfl⟩:=y8.1 hn
    have:=e f hf
    simp at this
 have hl:=congrArg List.length hsh
 simp only[z6] at hl
 have hkm:k < m.length:=by omega
 refine⟨k,hkm,h2, ?_⟩
 have:=List.getElem_of_eq hsh (i:=k) (by simpa using hkm)
 simp only[List.getElem_map] at this
 rw[this,h1]
section
variable {s:Sys} {m:List Def} {V:List Var} {env:List (List Nat×Val)}
theorem v8d {ps:List Func} {a:App} (h:AppOk ps V a) (hp:PrOk ps):∃ f∈ps,a.pred=f.name∧a.args.length=f.args.length∧f.args.length≤40∧∀ i (h1:i < a.args.length) (h2:i < f.args.length),u1p 1 V f.args[i] a.args[i]∧a.args[i].length≤66:=by
 obtain⟨f,hf,hn,hl,hz⟩:=h
 refine⟨f,hf,hn,hl,(hp.args f hf).1,fun i h1 h2=> ?_⟩
 have hm:(f.args[i],a.args[i])∈f.args.zip a.args:=by
  have:(f.args.zip a.args)[i]? =some (f.args[i],a.args[i]):=by simp[List.getElem?_zip_eq_some,h1,h2]
  exact List.mem_of_getElem? this
 obtain⟨g1,g2,g3,g4⟩:=hz _ hm
 dsimp only at g1 g2 g3 g4
 exact⟨⟨5,g1,by omega,by omega,by omega,g3⟩,g2⟩
theorem w6k {a:App} (hs:SysV s) (hm:∀ d∈m,DAt d) (hd:∀ d∈m,DEv d) (hsh:m.map (·.pred)=s.preds.map (·.name)) (hV:∀ v∈V,v∈z1w) (he:q7f 1 V env) (hev:∀ p∈env,∃ m s,VOk m s p.2∧m≤330000) (hel:env.length≤1000) (ha:AppOk s.preds V a):
  Pure Gam 55 [z2b a, .sl (env.map eB) .no] (x2c a.pred (a.args.map (z7q env)))∧Pure Gam 54 [z2i s,z9v m,x2c a.pred (a.args.map (z7q env))] (.bool (q8n m env a.pred a.args)):=by
 obtain⟨f,hf,hn,hl,h40,hi⟩:=v8d ha hs.pr
 have hpl:=hs.pl
 refine⟨v2y hV he hev hel (by omega) fun t ht=> ?_, ?_⟩
 ·obtain⟨i,hi1,rfl⟩:=List.mem_iff_getElem.1 ht
  exact⟨_,(hi i hi1 (by omega)).1⟩
 ·obtain⟨j,hj,hp,hjn⟩:=v3a hsh (n:=a.pred) (hn ▸ List.mem_map_of_mem hf)
  have hmj:=j9 hj
  have hdj:=hm _ hmj
  obtain⟨hpar,hsort⟩:=hdj.at (f:=f) (hs.preds.mem hf) (by rw[hjn,hn])
  have hnd:(m.map (·.pred)).Nodup:=by rw[hsh];exact hs.pr.nodup
  have hdef:z5y m a.pred=m[j]:=by rw[←hjn,z9w hj hnd]
  have hplen:m[j].params.length=f.args.length:=by
   have:=congrArg List.length hsort
   simpa using this
  have hfit:FitK 66 m[j].params (a.args.map (z7q env)):=by
   refine⟨by rw[z6];omega,fun i h1 h2=> ?_⟩
   have h3:i < a.args.length:=by simpa using h2
   obtain⟨⟨d,e1,e2,e3,e4,e5⟩,e6⟩:=hi i h3 (by omega)
   have hv:=(q3j he hel e2 e3 e1).2.1
   have hso:m[j].params[i].sort=f.args[i]:=by
    have:=List.getElem_of_eq hsort (i:=i) (by simpa using h1)
    simpa using this
   rw[List.getElem_map,hso]
   exact hv.up (by omega)
  have hbl:=hd _ hmj
  unfold DEv at hbl
  have:=v2z (K:=66) (by omega) hj hp hdj.ok (by omega) (by omega) hfit ⟨8,hdj.ok.wf.1,by omega,by omega,by omega,by omega⟩
  unfold q8n w6j
  rw[hdef]
  exact this
end
theorem w6l:∀ f∈allPreds,f.name≠[]:=by decide
theorem q6l:(z1w.map (·.name)).Nodup:=by decide
theorem q1r {l:List Clause} {i:Nat} {h:List AObj} {t:Tip} {k:IntKind} (hi:i < l.length):z1m h 5 (.sl (l.map z0g) t) (.int k (i:Int))=some (.iptr [.sl (l[i].vars.map z1k) .no, .sl (l[i].body.map z2b) .no, .sl (l[i].guard.map eNode) .no, .str l[i].head.pred, .sl (l[i].head.args.map z0k) .no] 0,h):=z3a hi rfl rfl
theorem j7r {s:Sys} {m:List Def} {vs:List Val} {i:Nat} {w:Tip} (hs:SysV s) (hm:∀ d∈m,DAt d) (hd:∀ d∈m,DEv d) (hsh:z5s s m=true) (hi:i < s.clauses.length) (hf:FitK 1 s.clauses[i].vars vs):Pure Gam 17 [z2i s,z9v m, .int .i64 (i:Int), .sl (vs.map eV) w] (.tup [.bool (clauseB m s.clauses[i] vs), .int .i64 0]):=by
 have hsh':m.map (·.pred)=s.preds.map (·.name):=of_decide_eq_true hsh
 have hpl:=hs.pl
 have hml:m.length≤1000:=by
  have:=congrArg List.length hsh'
  simp only[z6] at this
  omega
 have p19:=k6g hs hm hml
 rw[hsh,z2i,z9v] at p19
 obtain⟨c1,c2,c3,c4,c5⟩:=hs.clauses _ (j9 hi)
 have hx:=fun h=>q1r (l:=s.clauses) (i:=i) (h:=h) (t:= .no) (k:= .i64) hi
 have e0:decide ((i:Int) < 0)=false:=by rw[z03];omega
 have e1:decide ((s.clauses.length:Int)≤(i:Int))=false:=by rw[z03];omega
 generalize s.clauses[i]=c at *
 have hvl:c.vars.length≤8:=c1.length_le
 have hV:∀ v∈c.vars,v∈z1w:=fun v h=>c1.mem h
 have hnd:(c.vars.map (·.name)).Nodup:=q6l.sublist (c1.map _)
 have p20:=v2v (u:= .no) (w:= .no) (by omega) hf (by omega)
 have p21:=j7q (V:=c.vars) (vs:=vs) (u:= .no) (w:= .no) (by omega) hf.len
 have he:=j7o (by omega) hnd hf
 have hev:=j7p (by omega) hf
 have hel:(z8e c.vars vs).length≤1000:=by rw[q2t hf.len];omega
 obtain⟨g1,g2,g3,g4⟩:=c4
 have p22:=j7m (U:=z1w) (u:= .no) (w:= .no) (x:= .nil) hV he hev hel (by omega) (by omega) (by omega) g1
 unfold clauseB
 generalize z8e c.vars vs=env at *
 have hat:=fun a ha=>w6k (a:=a) hs hm hd hsh' hV he hev hel ha
 refine Pure.of rfl y2f rfl rfl rfl (az:=[z2i s,z9v m, .int .i64 (i:Int), .sl (vs.map eV) .no]) rfl (by simp[idsL,z3n,q4w,AV.ids,z5z]) fun D B clk T hB hT=> ?_
 cases hg:(z7q env c.guard).b with
 | false=>
   rw[hg] at p22 hT
   simp only[go_sem,k3c,hB,z2i,z9v,z0a p19,z7,j5,e0,z6,e1,hx,z0a p20,z0a p21,z0a p22]
   rw[z0h rfl rfl]
   simp only[j5,Bool.true_or] at hT
   exact hT _
 | true=>
   rw[hg] at p22 hT
   simp only[z7,Bool.false_or] at hT
   simp only[go_sem,k3c,hB,z2i,z9v,z0a p19,z7,j5,e0,z6,e1,hx,z0a p20,z0a p21,z0a p22]
   refine z3t c.body.length (by omega) (fun j q=>∃ g0 g1 g2:Nat,(∀ a∈c.body.take j,q8n m env a.pred a.args=true)∧q.ts 4= .ptr (B + 0) g0 0 0∧q.ts 5= .ptr (B + 1) g1 0 0∧q.ts 10= .ptr (B + 2) g2 0 0∧q.ts 11= .sl (env.map eB) .no∧q.ts 12= .int .i64 (j:Int)∧q.h=D++[.blk g0 [.agg [.sl (s.preds.map z1f) .no, .sl (s.clauses.map z0g) .no]] false false 0, .blk g1 [.agg [.sl (m.map z5l) .no]] false false 0, .blk g2 [.agg [.sl (c.vars.map z1k) .no, .sl (c.body.map z2b) .no, .sl (c.guard.map eNode) .no, .str c.head.pred, .sl (c.head.args.map z0k) .no]] false false 0]) ⟨_,_,_,by simp,rfl,rfl,rfl,rfl,rfl,rfl⟩ ?_ ?_
   ·rintro j hlt f1 f2 ts h clk P ⟨g0,g1,g2,hall,q4,q5,q10,q11,q12,rfl⟩ hnx hex hr
    dsimp only at q4 q5 q10 q11 q12
    have hy:∀ h,z1m h 2 (.sl (c.body.map z2b) .no) (.int .i64 (j:Int))=some (.iptr [.str c.body[j].pred, .sl (c.body[j].args.map z0k) .no] 0,h):=fun h=>z3a hlt rfl rfl
    obtain⟨p24,p23⟩:=hat _ (c3 _ (j9 hlt))
    simp only[z2b,z2i,z9v,x2c] at p24 p23
    cases hb:q8n m env c.body[j].pred c.body[j].args with
    | false=>
      rw[hb] at p23
      have hres:(c.body.any fun a=> !q8n m env a.pred a.args)=true:=List.any_eq_true.2 ⟨_,j9 hlt,by simp[hb]⟩
      rw[hres,Bool.true_or] at hT
      simp only[go_sem,x0q,q4,q5,q10,q11,q12,hB,f1,z6,z1a,hy,z0a p24,z0a p23,j5]
      refine⟨by simp[-List.map_map,z1b,apart,z0j,z0z,z1d,AOp.isCall,hB,AV.ids,idsL,z5z], ?_⟩
      refine hr _ ?_
      simp only[go_sem,]
      rw[z0h rfl rfl]
      exact hT _
    | true=>
      rw[hb] at p23
      simp only[go_sem,x0q,q4,q5,q10,q11,q12,hB,f1,f2,z6,z1a,hy,z0a p24,z0a p23,z7]
      refine⟨by simp[-List.map_map,z1b,apart,z0j,z0z,z1d,AOp.isCall,hB,AV.ids,idsL,z5z], ?_⟩
      refine hnx _ ⟨g0,g1,g2,fun a ha=> ?_,q4,q5,q10,q11,rfl,rfl⟩
      rw[w8 hlt] at ha
      rcases j6.1 ha with ha | ha
      ·exact hall a ha
      ·rw[u7.1 ha];exact hb
   ·rintro f1 ts h clk P ⟨g0,g1,g2,hall,q4,q5,q10,q11,q12,rfl⟩ hex hr
    dsimp only at q4 q5 q10 q11 q12
    rw[u4] at hall
    have hres:(c.body.any fun a=> !q8n m env a.pred a.args)=false:=List.any_eq_false.2 fun a ha=>by simp[hall a ha]
    rw[hres,Bool.false_or] at hT
    simp only[go_sem,x0q,q4,q5,q10,q11,q12,hB,f1,z6]
    refine hex _ _ ?_
    rcases c5 with ⟨h1,h2⟩ | h1
    ·have e2:decide (c.head.pred=[])=true:=decide_eq_true h1
     rw[e2] at hT
     simp only[go_sem,q4,q5,q10,q11,hB,z1a,e2,z7]
     refine⟨by simp[-List.map_map,z1b,apart,z0j,z0z,z1d,AOp.isCall,hB,AV.ids,idsL,z5z], ?_⟩
     rw[z0h rfl rfl]
     exact hT _
    ·have e2:decide (c.head.pred=[])=false:=decide_eq_false fun e=>by
      obtain⟨f,hf,hn,_⟩:=h1
      have:=w6l _ (hs.preds.mem hf)
      exact this (by rw[←hn,e])
     rw[e2] at hT
     simp only[j5,Bool.true_and] at hT
     obtain⟨p24,p23⟩:=hat _ h1
     simp only[z2b,z2i,z9v,x2c] at p24 p23
     simp only[go_sem,q4,q5,q10,q11,hB,z1a,e2,j5,z0a p24,z0a p23]
     refine⟨by simp[-List.map_map,z1b,apart,z0j,z0z,z1d,AOp.isCall,hB,AV.ids,idsL,z5z], ?_⟩
     rw[z0h rfl rfl]
     exact hT _
end
section
open Sh
def v3b:ACode:=(.seq (.region 1 [N 27 (.binOp .lss (.one .int) (.tmp 26) (.tmp 25))] []) (.seq (.cond (.tmp 27) .skip (.exit 2)) (.seq (.block 3 (.seq (.region 4 [N 28 (.indexAddr none 3 (.tmp 24) (.tmp 26)),N 29 (.load (some 3) (.tmp 28)),N 7 (.alloc 3 (.agg [(.str []),(.sl [] .nil),(.int .i64 0)])),S 3 7 29] []) (.seq (.region 4 [N 30 (.load (some 2) (.tmp 1)),N 31 (.load (some 3) (.tmp 7)),N 32 (.load (some 3) (.tmp 5)),N 33 (.call 59 [(.tmp 30),(.tmp 31),(.tmp 32)])] []) (.cond (.tmp 33) (.seq (.region 7 [A 34 7 0,L 35 34,A 36 5 0,L 37 36,N 38 (.build [(.int .i64 0),(.str []),(.str []),(.int .i64 0),(.int .i64 0),(.sl [] .nil),(.sl [] .nil),(.sl [] .nil)] [(0,1,(I 6)),(1,1,(.tmp 35)),(2,1,(.tmp 37))]),S 8 2 38,N 3 (.move (I 0))] []) .ret) .skip)))) (.region 2 [N 39 (.binOp .add (.one .int) (.tmp 26) (I 1)),M 26 39] []))))
def w6m:ACode:=(.seq (.region 1 [N 16 (.binOp .lss (.one .int) (.tmp 15) (.tmp 14))] []) (.seq (.cond (.tmp 16) .skip (.exit 0)) (.seq (.block 1 (.seq (.region 6 [M 17 15,N 18 (.indexAddr none 3 (.tmp 13) (.tmp 15)),N 19 (.load (some 3) (.tmp 18)),N 5 (.alloc 2 (.agg [(.str []),(.sl [] .nil),(.int .i64 0)])),M 4 17,S 3 5 19] []) (.seq (.region 7 [A 20 1 0,L 21 20,M 22 4,N 23 (.binOp .add (.one .int) (.tmp 22) (I 1)),N 24 (.slice (some 3) (.tmp 21) (some (.tmp 23)) none none),N 25 (.len .sl (.tmp 24)),N 26 (.move (I 0))] []) (.block 2 (.loop v3b))))) (.region 2 [N 40 (.binOp .add (.one .int) (.tmp 15) (I 1)),M 15 40] []))))
def g2a:AFun:=
 {ntmps:=42,nslots:=4,results:=[.cell 2 (some 8), .tmp 3],byref:=[],owned:=false,
  body:=(.seq (.region 3 [N 1 (.box 0 (.tmp 0)),N 2 (.alloc 1 (.agg [(.int .i64 0),(.str []),(.str []),(.int .i64 0),(.int .i64 0),(.sl [] .nil),(.sl [] .nil),(.sl [] .nil)])),N 3 (.move (I 0))] []) (.seq (.seq (.region 3 [N 8 (.load (some 2) (.tmp 1)),N 9 (.call 28 [.tmp 8]),N 10 (.unOp .not (.tmp 9))] []) (.cond (.tmp 10) (.seq (.region 3 [N 11 (.build [(.int .i64 0),(.str []),(.str []),(.int .i64 0),(.int .i64 0),(.sl [] .nil),(.sl [] .nil),(.sl [] .nil)] []),S 8 2 11,N 3 (.move (I 1))] []) .ret) .skip)) (.seq (.seq (.region 4 [A 12 1 0,L 13 12,N 14 (.len .sl (.tmp 13)),N 15 (.move (I 0))] []) (.block 0 (.loop w6m))) (.seq (.region 3 [N 41 (.build [(.int .i64 0),(.str []),(.str []),(.int .i64 0),(.int .i64 0),(.sl [] .nil),(.sl [] .nil),(.sl [] .nil)] []),S 8 2 41,N 3 (.move (I 8))] []) .ret))))}
theorem g5v:Gam.fn 20=some g2a:=by kernel_rfl
end
section
open Sh
set_option maxHeartbeats 0
def v8e:AFun:=(fun (a:AFun) (_:Gam.fn 63=some a)=>a) _ (by conv=>lhs;reduce;simp only[z4,z5])
theorem y9p:Gam.fn 63=some v8e:=by kernel_rfl
def y9q:AFun:=(fun (a:AFun) (_:Gam.fn 117=some a)=>a) _ (by conv=>lhs;reduce;simp only[z4,z5])
def x2d:ACode:=(fun (a:ACode) (_:fl [] (lp y9q 0)=a)=>a) _ (by conv=>lhs;reduce;simp only[z4,z5])
attribute [local irreducible] x2d
def v8f:AFun:=(fun (a:AFun) (_:flF [x2d] y9q=a)=>a) _ (by conv=>lhs;reduce;simp only[z4,z5])
theorem y9r:Gam.fn 117=some v8f:=by kernel_rfl
def v8g:AFun:=(fun (a:AFun) (_:Gam.fn 118=some a)=>a) _ (by conv=>lhs;reduce;simp only[z4,z5])
theorem y9s:Gam.fn 118=some v8g:=by kernel_rfl
def v8h:AFun:=(fun (a:AFun) (_:Gam.fn 65=some a)=>a) _ (by conv=>lhs;reduce;simp only[z4,z5])
theorem y9t:Gam.fn 65=some v8h:=by kernel_rfl
def v8i:AFun:=(fun (a:AFun) (_:Gam.fn 182=some a)=>a) _ (by conv=>lhs;reduce;simp only[z4,z5])
theorem y9u:Gam.fn 182=some v8i:=by kernel_rfl
def v8j:AFun:=(fun (a:AFun) (_:Gam.fn 184=some a)=>a) _ (by conv=>lhs;reduce;simp only[z4,z5])
theorem y9v:Gam.fn 184=some v8j:=by kernel_rfl
def v8k:AFun:=(fun (a:AFun) (_:Gam.fn 185=some a)=>a) _ (by conv=>lhs;reduce;simp only[z4,z5])
theorem y9w:Gam.fn 185=some v8k:=by kernel_rfl
def y9x:AFun:=(fun (a:AFun) (_:Gam.fn 186=some a)=>a) _ (by conv=>lhs;reduce;simp only[z4,z5])
def x7t:ACode:=(fun (a:ACode) (_:fl [] (lp y9x 0)=a)=>a) _ (by conv=>lhs;reduce;simp only[z4,z5])
attribute [local irreducible] x7t
def v8l:AFun:=(fun (a:AFun) (_:flF [x7t] y9x=a)=>a) _ (by conv=>lhs;reduce;simp only[z4,z5])
theorem y9y:Gam.fn 186=some v8l:=by kernel_rfl
def v8m:AFun:=(fun (a:AFun) (_:Gam.fn 187=some a)=>a) _ (by conv=>lhs;reduce;simp only[z4,z5])
theorem y9z:Gam.fn 187=some v8m:=by kernel_rfl
def u0a:AFun:=(fun (a:AFun) (_:Gam.fn 188=some a)=>a) _ (by conv=>lhs;reduce;simp only[z4,z5])
def x2e:ACode:=(fun (a:ACode) (_:fl [] (lp u0a 0)=a)=>a) _ (by conv=>lhs;reduce;simp only[z4,z5])
attribute [local irreducible] x2e
def v8n:AFun:=(fun (a:AFun) (_:flF [x2e] u0a=a)=>a) _ (by conv=>lhs;reduce;simp only[z4,z5])
theorem v8o:Gam.fn 188=some v8n:=by kernel_rfl
def u0b:AFun:=(fun (a:AFun) (_:Gam.fn 241=some a)=>a) _ (by conv=>lhs;reduce;simp only[z4,z5])
def x7u:ACode:=(fun (a:ACode) (_:fl [] (lp u0b 0)=a)=>a) _ (by conv=>lhs;reduce;simp only[z4,z5])
attribute [local irreducible] x7u
def v8p:AFun:=(fun (a:AFun) (_:flF [x7u] u0b=a)=>a) _ (by conv=>lhs;reduce;simp only[z4,z5])
theorem u0c:Gam.fn 241=some v8p:=by kernel_rfl
def v8q:AFun:=(fun (a:AFun) (_:Gam.fn 242=some a)=>a) _ (by conv=>lhs;reduce;simp only[z4,z5])
theorem u0d:Gam.fn 242=some v8q:=by kernel_rfl
def w6n:AFun:=(fun (a:AFun) (_:Gam.fn 115=some a)=>a) _ (by conv=>lhs;reduce;simp only[z4,z5])
def x2f:ACode:=(fun (a:ACode) (_:fl [] (lp w6n 1)=a)=>a) _ (by conv=>lhs;reduce;simp only[z4,z5])
attribute [local irreducible] x2f
def x7v:ACode:=(fun (a:ACode) (_:fl [x2f] (lp w6n 0)=a)=>a) _ (by conv=>lhs;reduce;simp only[z4,z5])
attribute [local irreducible] x7v
def v8r:AFun:=(fun (a:AFun) (_:flF [x7v,x2f] w6n=a)=>a) _ (by conv=>lhs;reduce;simp only[z4,z5])
theorem u0e:Gam.fn 115=some v8r:=by kernel_rfl
def v8s:AFun:=
 {ntmps:=8,nslots:=2,results:=[.tmp 2],byref:=[],owned:=true,
  body:=(.seq (.region 1 [N 2 (.move (.const (.sl [] .nil)))] []) (.seq (.seq (.region 2 [M 3 0,N 4 (.binOp .eql .sl (.tmp 3) (.const (.sl [] .nil)))] []) (.cond (.tmp 4) (.seq (.region 1 [N 2 (.move (.const (.sl [] .nil)))] []) .ret) .skip)) (.seq (.region 4 [N 5 (.buildSlice 0 true (.agg [(.int .i64 0),(.int .i64 0),(.str []),(.str []),(.int .i64 0)]) 0 []),M 6 0,N 7 (.append 1 5 56 true (.tmp 5) (.tmp 6)),M 2 7] []) .ret)))}
theorem u0f:Gam.fn 1048668=some v8s:=by kernel_rfl
end
theorem k6q {s g:Nat} {p:List Nat} {d:Def}:Reads [(s, .blk g [.str p] false false 0)] 118 [z5l d, .ptr s g 0 0] (.bool (decide (d.pred=p))):=by
 refine Reads.of rfl y9s rfl rfl rfl (az:=[z5l d, .ptr s g 0 0]) rfl (by simpa [idsL,AV.ids,z6e] using Cov.one (s:=s) (o:= .blk g [.str p] false false 0) (by simp[AObj.ids,idsL,AV.ids])) fun D B clk T hB hS hlt hT=> ?_
 have h1:=hlt (s, .blk g [.str p] false false 0) (by simp)
 have b1:=z2g (g:=g) (hS (s, .blk g [.str p] false false 0) (by simp))
 dsimp only at h1 b1
 simp only[go_sem,v8g,hB,z5l,z2x hB h1,b1]
 rw[z0d]
 exact hT _ hS.app
theorem k6r {xs:List Def} {S:List (Nat×AObj)} {c:Nat} {cap:List AV} {P:Def→Bool} {t:Tip} (hl:xs.length≤2 ^ 20) (hC:Cov S (idsL cap)) (hP:∀ x∈xs,Reads S c (z5l x::cap) (.bool (P x))) (ha:xs.any P=true):
  ∃ (j:Nat) (hj:j < xs.length),P xs[j]=true∧Reads S 117 [.sl (xs.map z5l) t, .fn c cap] (.int .i64 (j:Int)):=by
 have hC':Cov S (idsL [.sl (xs.map z5l) .no, .fn c cap]):=by
  have:idsL [.sl (xs.map z5l) .no, .fn c cap]=idsL cap:=by simp[idsL,AV.ids,z0c z6e]
  rw[this];exact hC
 have key:∀ n,n≤xs.length→(xs.drop (xs.length - n)).any P=true→∃ (j:Nat) (hj:j < xs.length),P xs[j]=true∧∀ (D L:List AObj) (B clk:Nat) (ks:List Kf) (ts:Tmps) (Q:Post),Has S D→ts 0= .sl (xs.map z5l) .no→ts 1= .fn c cap→ts 7= .int .i64 (xs.length:Int)→ts 8= .int .i64 ((xs.length - n:Nat):Int)→
   (∀ ts' clk',ts' 4= .int .i64 (j:Int)→K Gam B .ret ks ⟨ts',D++L,clk'⟩ Q)→K Gam B (.loop x2d) ks ⟨ts,D++L,clk⟩ Q:=by
  intro n
  induction n with
  | zero=>intro _ h;simp at h
  | succ n ih=>
    intro hn hany
    have hk:xs.length - (n + 1) < xs.length:=by omega
    have hdr:xs.drop (xs.length - (n + 1))=xs[xs.length - (n + 1)]::xs.drop (xs.length - n):=by
     rw[List.drop_eq_getElem_cons hk]
     congr 2
     omega
    have e1:decide (((xs.length - (n + 1):Nat):Int) < (xs.length:Int))=true:=by rw[z04];omega
    have hpx:=hP _ (j9 hk)
    rw[hdr,List.any_cons] at hany
    have hidx:=fun h=>q7h (l:=xs) (i:=xs.length - (n + 1)) (h:=h) (t:= .no) (k:= .i64) hk
    cases hpb:P xs[xs.length - (n + 1)] with
    | true=>
      refine⟨xs.length - (n + 1),hk,hpb,fun D L B clk ks ts Q hS h0 h1 h7 h8 hr=> ?_⟩
      refine z2r ?_
      rw[hpb] at hpx
      rw[z5l] at hpx
      generalize xs[xs.length - (n + 1)]=x at *
      simp only[go_sem,h0,h1,h7,h8,x2d,e1,hidx,z1g hpx hS.app]
      exact hr _ _ (by simp[z0b])
    | false=>
      rw[hpb,Bool.false_or] at hany
      obtain⟨j,hj,h1',h2'⟩:=ih (by omega) hany
      refine⟨j,hj,h1',fun D L B clk ks ts Q hS h0 h1 h7 h8 hr=> ?_⟩
      have e2:IntKind.i64.wrap (((xs.length - (n + 1):Nat):Int) + 1)=((xs.length - n:Nat):Int):=by rw[z0e (by omega) (by omega)];omega
      refine z2r ?_
      rw[hpb] at hpx
      rw[z5l] at hpx
      have hgo:=fun ts q0 q1 q7 q8 clk=>h2' D L B clk ks ts Q hS q0 q1 q7 q8 hr
      generalize xs[xs.length - (n + 1)]=x at *
      simp only[go_sem,h0,h1,h7,h8,x2d,e1,hidx,z1g hpx hS.app,e2]
      exact hgo _ (by simp[z0b,h0]) (by simp[z0b,h1]) (by simp[z0b,h7]) (by simp[z0b]) _
 obtain⟨j,hj,h1,h2⟩:=key xs.length (j8 _) (by rw[Nat.sub_self,d7];exact ha)
 refine⟨j,hj,h1,Reads.of rfl y9r rfl rfl rfl rfl (by simpa [cvL,AV.cv] using hC') fun D B clk T hB hS hlt hT=> ?_⟩
 simp only[go_sem,v8f,z6]
 refine h2 D _ B _ _ _ _ hS (by simp[z0b,z3f]) (by simp[z0b,z7m,z3f]) (by simp[z0b]) (by simp[z0b]) (fun ts' clk' q4=> ?_)
 simp only[go_sem,q4]
 rw[z2o]
 exact hT _ hS.app
theorem j7s {m:List Def} {p:List Nat} (hl:m.length≤1000) (hn:(m.map (·.pred)).Nodup) (hp:p∈m.map (·.pred)):Pure Gam 63 [z9v m, .str p] (z5l (z5y m p)):=by
 have ha:m.any (fun d=>decide (d.pred=p))=true:=by
  obtain⟨d,hd,rfl⟩:=y8.1 hp
  exact List.any_eq_true.2 ⟨d,hd,by simp⟩
 have hr:∀ s g,∃ (j:Nat) (hj:j < m.length),m[j].pred=p∧Reads [(s, .blk g [.str p] false false 0)] 117 [.sl (m.map z5l) .no, .fn 118 [.ptr s g 0 0]] (.int .i64 (j:Int)):=fun s g=>by
  obtain⟨j,hj,h1,h2⟩:=k6r (t:= .no) (S:=[(s, .blk g [.str p] false false 0)]) (c:=118) (cap:=[.ptr s g 0 0]) (P:=fun d=>decide (d.pred=p)) (by omega) (by simpa [idsL,AV.ids] using Cov.one (s:=s) (o:= .blk g [.str p] false false 0) (by simp[AObj.ids,idsL,AV.ids])) (fun d _=>k6q) ha
  exact⟨j,hj,of_decide_eq_true h1,h2⟩
 refine Pure.of rfl y9p rfl rfl rfl (az:=[z9v m, .str p]) rfl (by simp[idsL,AV.ids,q4w]) fun D B clk T hB hT=> ?_
 obtain⟨j,hj,e,hr⟩:=hr (B + 1) (clk + 1)
 have hh:∀ o o',Has [(B + 1, .blk (clk + 1) [.str p] false false 0)] (D++[o, .blk (clk + 1) [.str p] false false 0,o']):=fun o o'=>x6r (k:=1) hB rfl
 have hdx:=fun h=>q7h (l:=m) (i:=j) (h:=h) (t:= .no) (k:= .i64) hj
 have hde:=z9w hj hn
 rw[e] at hde
 rw[hde] at hT
 rw[z5l] at hT
 simp only[go_sem,v8e,hB,z9v,z1a]
 refine z6l hr (hh _ _) ?_
 generalize m[j]=d at *
 simp only[go_sem,hB,hdx,z0m,z0l,z0f]
 refine⟨by simp[z1b,apart,z0j,z0z,z1d,AOp.isCall,hB,AV.ids,idsL,z0c z6e,z0c z2l,z0c z1v], ?_⟩
 rw[z2n rfl (by simp[AV.cv,cvL,AV.ids,idsL,z0c z2l,z0c z1v])]
 exact hT _
def j0w (a b:Term):Term:=bare 7 2::(a++b)
theorem GT.and {V:List Var} {d m1 m2:Nat} {a b:Term} (ha:GT V 1 d m1 a) (hb:GT V 1 d m2 b):GT V 1 (d + 1) (m1 + m2 + 1) (j0w a b):=GT.op2 ha hb (.andor (k:=2) (.inl rfl)) (by omega) (by omega)
def q3x (h:List AObj):List (Nat×AObj)→List AObj
 | []=>h
 | p::S=>q3x (h.set p.1 p.2) S
theorem x4y {hr:List AObj}:∀ {S:List (Nat×AObj)} {h:List AObj},(∀ p∈S,p.1 < h.length)→(∀ p∈S,hr[p.1]? =some p.2)→∀ i,(q3x h S)[i]? =if i∈S.map (·.1) then hr[i]? else h[i]?
 | [],h,_,_,i=>by simp[q3x]
 | p::S,h,hl,hg,i=>by
   rw[q3x,x4y (fun q hq=>by rw[List.length_set];exact hl q (u0 _ hq)) (fun q hq=>hg q (u0 _ hq))]
   by_cases hi:i∈S.map (·.1)
   ·rw[if_pos hi,if_pos (by rw[k8];exact u0 _ hi)]
   ·rw[if_neg hi]
    by_cases hip:i=p.1
    ·subst hip
     rw[if_pos (by rw[k8];exact v9),s8 (hl p v9),hg p v9]
    ·rw[if_neg (by rw[k8,y3];exact fun h=>h.elim hip hi),l7 (Ne.symm hip)]
theorem v8t {S:List (Nat×AObj)} {f:Nat} {args az:List AV} {h:List AObj} {clk:Nat} {af:AFun} {Q:AV→List AObj→Nat→Prop} (hext:Gam.ext f=none) (hfn:Gam.fn f=some af) (hb:af.byref=[]) (ho:af.owned=false) (hobs:z3x args=[]) (has:cvL args=az) (hne0:idsL az≠[]) (hC:Cov S (idsL az)) (hS:Has S h)
  (hw:∀ (D:List AObj) (B:Nat) (R:AV→List AObj→Prop),D.length=B→Has S D→(∀ p∈S,p.1 < B)→(∀ v h' S',S'.map (·.1)=S.map (·.1)→Has S' h'→(∀ p∈S',∀ i∈p.2.ids,i∈S.map (·.1))→Q v (q3x h S') clk→R v h')→K Gam B af.body [] ⟨q0u az,D++List.replicate af.nslots .dead,clk⟩ (k0o (S.map (·.1)) af.results R)):WC Gam f args h clk Q:=by
 have hp:z1i h af.byref 0 args=some az:=by rw[hb,z1p hobs,has]
 have hl:z0p af.byref 0 args=[]:=by rw[hb];exact z4s hobs
 have hTS:∀ i∈reach h (h.length + 1) [] (idsL az),i∈S.map (·.1):=q5z hS hC.closed (by simp) hC.root
 have hST:∀ i∈S.map (·.1),i∈reach h (h.length + 1) [] (idsL az):=fun i hi=>by
  obtain⟨p,hp',rfl⟩:=y8.1 hi
  exact hC.cover h hS p hp'
 have hmask:Has S (maskFrom (reach h (h.length + 1) [] (idsL az)) 0 h):=fun p hp'=>by
  rw[x0k (by rw[y4,List.contains_eq_mem];exact decide_eq_true (hC.cover h hS p hp'))]
  exact hS p hp'
 obtain⟨k,e,s1,he,hend⟩:=hw (maskFrom (reach h (h.length + 1) [] (idsL az)) 0 h) h.length (fun v h'=>∃ S':List (Nat×AObj),S'.map (·.1)=S.map (·.1)∧Has S' h'∧(∀ p∈S',∀ i∈p.2.ids,i∈S.map (·.1))∧Q v (q3x h S') clk) z5f hmask (fun p hp'=>hS.lt p hp') (fun v h' S' h1 h2 h3 h4=>⟨S',h1,h2,h3,h4⟩)
 obtain⟨hne,vs,v,hr,hc,hv,hno,S',h1,h2,h3,hQ⟩:=q8t hend
 refine⟨k,v,q3x h S',clk, ?_,hQ⟩
 have hTne:(reach h (h.length + 1) [] (idsL az)).isEmpty=false:=q9a (.inr hne0)
 generalize hT:reach h (h.length + 1) [] (idsL az)=T at *
 have hlt:∀ p∈S',p.1 < h.length:=fun p hp'=>by
  have:p.1∈S.map (·.1):=by rw[←h1];exact List.mem_map_of_mem hp'
  obtain⟨q,hq,e⟩:=y8.1 this
  rw[←e]
  exact hS.lt q hq
 have hfr:∀ i∈S.map (·.1),(freezeAll s1.h (z1j vs).obs)[i]? =s1.h[i]? :=fun i hi=>by
  refine q3c ?_
  unfold x3v at hno
  rw[d6] at hno⊢
  intro p hp'
  have:=hno p hp'
  rw[Bool.not_eq_true',List.contains_eq_mem,z03] at this⊢
  intro hm
  rw[u7] at hm
  exact this (hm ▸ hi)
 have hm:z0u T 0 h (freezeAll s1.h (z1j vs).obs)=q3x h S':=by
  refine List.ext_getElem? fun i=> ?_
  rw[x4y (hr:=s1.h) hlt h2,h1]
  by_cases hi:i < h.length
  ·rw[q0g,u9 hi,y4]
   dsimp only
   by_cases hk:i∈S.map (·.1)
   ·rw[if_pos hk]
    have hc':T.contains i=true:=by rw[List.contains_eq_mem];exact decide_eq_true (hST i hk)
    obtain⟨p,hp',rfl⟩:=y8.1 (h1 ▸ hk)
    simp[hfr _ hk,h2 p hp',hST _ hk]
   ·rw[if_neg hk]
    have hc':i∉T:=fun hm=>hk (hTS i hm)
    cases (freezeAll s1.h (z1j vs).obs)[i]? <;> simp[hc',hi]
  ·rw[q0g,List.getElem?_eq_none (by omega)]
   dsimp only
   have hk:i∉S.map (·.1):=fun hm=>by
    obtain⟨q,hq,e⟩:=y8.1 hm
    exact hi (e ▸ hS.lt q hq)
   rw[if_neg hk]
 have hall:((v.ids++(List.map (fun i=>(Option.map AObj.ids (freezeAll s1.h (z1j vs).obs)[i]?).getD []) T).flatten).all fun x=>decide (x < h.length))=true:=by
  rw[hv,d3,d6]
  intro x hx
  rw[List.mem_flatten] at hx
  obtain⟨l,hl',hx⟩:=hx
  obtain⟨i,hi,rfl⟩:=y8.1 hl'
  have hik:=hTS i hi
  rw[hfr i hik] at hx
  obtain⟨p,hp',rfl⟩:=y8.1 (h1 ▸ hik)
  rw[h2 p hp'] at hx
  obtain⟨q,hq,e⟩:=y8.1 (h3 p hp' x (by simpa using hx))
  rw[z04,←e]
  exact hS.lt q hq
 unfold z5c z0o
 simp only[hext,hfn,hp,hl,freezeAll,hT,he,ho,y6,if_false,hr,hc,hTne,Bool.and_false,hm]
 cases e with
 | exit i=>exact absurd rfl (hne i)
 | norm=>simp only[hall,if_true]
 | ret=>simp only[hall,if_true]
theorem j3r {f base gg clk:Nat} {args az:List AV} {h:List AObj} {af:AFun} {dst:Option Nat} {os:List AOper} {ts:Tmps} {ks:List Kf} {Q:Post} (hext:Gam.ext f=none) (hfn:Gam.fn f=some af) (hb:af.byref=[]) (hpa:z1i h [] 0 args=some az) (hcv:cvL az=az) (hobs:z3x az=[]) (hne:idsL az≠[])
  (hw:WC Gam f az (freezeAll h (z0p [] 0 args)) clk fun v h' c=>O Gam base .plain (gg + 1) os ⟨z8t ts dst v,h',c⟩ ks Q):CK Gam base f args h clk .plain dst gg os ts ks Q:=by
 obtain⟨k,v,h',c,hc,hq⟩:=hw
 exact⟨k,v,h',c,by rw[j7e hext hfn hb hpa hcv hobs hne];exact hc,hq⟩
section
variable {D L:List AObj} {B k g n j:Nat} {es:List Node} {x:Node}
theorem u0g (hB:D.length=B) (hL:L[k]? =some (.blk g (es.map eNode) true true 0)) (he:es[j]? =some x) (hj:j < n):z1m (D++L) 5 (.ob (B + k) g 0 n) (.int .i64 (j:Int))=some (.ptr (B + k) g j 0,D++L):=by
 have hb:z1u (D++L) (B + k) g=some (es.map eNode,true,true,0):=by rw[z2k hB];exact z2g hL
 have he':(es.map eNode)[j]? =some (eNode x):=by rw[l6,he];rfl
 simp[z1m,hb,he,hj,eNode,AV.cells]
theorem w6o (hB:D.length=B) (hL:L[k]? =some (.blk g (es.map eNode) true true 0)) (he:es[j]? =some x):z5q (D++L) 1 (.str x.name) (.ptr (B + k) g j 2)=some (.undef,D++L):=by
 have hb:z1u (D++L) (B + k) g=some (es.map eNode,true,true,0):=by rw[z2k hB];exact z2g hL
 have he':(es.map eNode)[j]? =some (eNode x):=by rw[l6,he];rfl
 have hp:pub (D++L) (.str x.name)=some (.str x.name,D++L):=rfl
 have hs:(es.map eNode).set j (eNode x)=es.map eNode:=by
  obtain⟨h1,h2⟩:=k7.1 he'
  rw[←h2]
  exact List.set_getElem_self h1
 have hl:L.set k (.blk g (es.map eNode) true true 0)=L:=by
  obtain⟨h1,h2⟩:=k7.1 hL
  rw[←h2]
  exact List.set_getElem_self h1
 rw[z6w,hb]
 simp only[he',if_true,hp]
 have hr:∀ cs,z7t (eNode x) cs= .agg cs:=fun _=>rfl
 have hsp:z8f (eNode x).cells 2 (AV.str x.name).cells=some (eNode x).cells:=rfl
 have hse:AV.agg (eNode x).cells=eNode x:=rfl
 simp only[hsp,k6,hr,hse,hs,z2a hB,hl]
 simp[AV.def?,AV.cells,x5n,AV.obs]
end
theorem v3c {n:List Nat} (h:z8l q1s [.str n]=some (.bool true)):Pure Gam 182 [.str n] (.bool false):=by
 have p:Pure Gam 183 [.str n] (.bool true):=Pure.tab (tab:=q1s) rfl rfl h
 refine Pure.of rfl y9u rfl rfl rfl (az:=[.str n]) rfl (by simp[idsL,AV.ids]) fun D B clk T hB hT=> ?_
 simp only[go_sem,v8i,z0a p,z7]
 rw[z0d]
 exact hT _
theorem v3d {ns:List (List Nat)} {u:Tip} (hns:∀ n∈ns,z8l q1s [.str n]=some (.bool true)) (hl:ns.length≤1000):Pure Gam 241 [.sl (z2s ns) u, .fn 182 []] (.int .i64 (-1)):=by
 have hln:((z2s ns).length:Int)=(ns.length:Int):=by simp[z2s]
 refine Pure.of rfl u0c rfl rfl rfl (az:=[.sl (z2s ns) .no, .fn 182 []]) rfl (by simp[idsL,AV.ids,z0x]) fun D B clk T hB hT=> ?_
 simp only[go_sem,v8p,hln]
 refine z3t ns.length (by omega) (fun i q=>q.ts 0= .sl (z2s ns) .no∧q.ts 1= .fn 182 []∧q.ts 7= .int .i64 (ns.length:Int)∧q.ts 8= .int .i64 (i:Int)) ⟨rfl,rfl,rfl,rfl⟩ ?_ ?_
 ·rintro i hlt f1 f2 ts h clk P ⟨q0,q1,q7,q8⟩ hnx he hr
  dsimp only at q0 q1 q7 q8
  have hix:=fun h=>z7s (l:=ns) (i:=i) (h:=h) (t:= .no) (k:= .i64) hlt
  have p:=v3c (hns _ (j9 hlt))
  generalize ns[i]=a at *
  simp only[go_sem,x7u,q0,q1,q7,q8,f1,f2,hix,z0a p]
  exact hnx _ ⟨q0,q1,q7,rfl⟩
 ·rintro f1 ts h clk P ⟨q0,q1,q7,q8⟩ he hr
  dsimp only at q0 q1 q7 q8
  simp only[go_sem,x7u,q0,q1,q7,q8,f1]
  refine he _ _ ?_
  simp only[go_sem,]
  rw[z2o]
  exact hT _
theorem v3e {ns:List (List Nat)} {u:Tip} (hns:∀ n∈ns,z8l q1s [.str n]=some (.bool true)) (hl:ns.length≤1000):Pure Gam 185 [.sl (z2s ns) u, .fn 182 []] (.bool false):=by
 have p:=v3d (u:= .no) hns hl
 have e:decide ((0:Int)≤ -1)=false:=rfl
 refine Pure.of rfl y9w rfl rfl rfl (az:=[.sl (z2s ns) .no, .fn 182 []]) rfl (by simp[idsL,AV.ids,z0x]) fun D B clk T hB hT=> ?_
 simp only[go_sem,v8k,z0a p,e]
 rw[z0d]
 exact hT _
theorem v3f {ns:List (List Nat)} {u:Tip} (hnd:ns.Nodup) (hl:ns.length≤1000):Pure Gam 186 [.sl (z2s ns) u] (.bool false):=by
 have hln:((z2s ns).length:Int)=(ns.length:Int):=by simp[z2s]
 refine Pure.of rfl y9y rfl rfl rfl (az:=[.sl (z2s ns) .no]) rfl (by simp[idsL,AV.ids,z0x]) fun D B clk T hB hT=> ?_
 simp only[go_sem,v8l,hB,hln]
 refine z3t ns.length (by omega) (fun i q=>∃ g,q.ts 3= .mp (B + 0) g∧q.ts 7= .sl (z2s ns) .no∧q.ts 8= .int .i64 (ns.length:Int)∧q.ts 9= .int .i64 (i:Int)∧q.h=D++[.map g (z4w (ns.take i))]) ⟨_,rfl,rfl,rfl,rfl,rfl⟩ ?_ ?_
 ·rintro i hlt f1 f2 ts h clk P ⟨g,q3,q7,q8,q9,rfl⟩ hnx he hr
  dsimp only at q3 q7 q8 q9
  have hix:=fun h=>z7s (l:=ns) (i:=i) (h:=h) (t:= .no) (k:= .i64) hlt
  have htake:ns.take (i + 1)=ns.take i++[ns[i]]:=w8 hlt
  have hnew:ns[i]∉ns.take i:=by
   intro hc
   have h3:(ns.take (i + 1)).Nodup:=hnd.sublist (s6 _ _)
   rw[htake,List.nodup_append] at h3
   exact h3.2.2 _ hc _ (by simp) rfl
  generalize ns[i]=a at *
  have hmu:∀ L:List AObj,z5k L 0 g=some (z4w (ns.take i))→muV (D++L) (.one .str) (.str a) (.bool true) (.mp (B + 0) g)=some (.undef,D++L.set 0 (.map g (z4w (ns.take (i + 1))))):=fun L hL=>by
   rw[htake]
   exact x4l (v:= .bool true) hB hL rfl (q3i hnew)
  simp only[go_sem,x7t,q3,q7,q8,q9,f1,hB,hix,z6o,k5e,hnew,q1k,hmu,f2]
  exact hnx _ ⟨g,q3,q7,q8,rfl,rfl⟩
 ·rintro f1 ts h clk P ⟨g,q3,q7,q8,q9,rfl⟩ he hr
  dsimp only at q3 q7 q8 q9
  simp only[go_sem,x7t,q3,q7,q8,q9,f1]
  refine he _ _ ?_
  simp only[go_sem,]
  rw[z0d]
  exact hT _
theorem v3g {U V:List Var} [UOk U] {t:Term} {s d:Nat} {u:Tip} (ht:WF V [s] d t) (hV:∀ v∈V,v∈U) (hl:t.length≤20000) (hd:d≤257):Pure Gam 184 [.sl (t.map eNode) u] (.bool true):=by
 refine Pure.of rfl y9v rfl rfl rfl (az:=[.sl (t.map eNode) .no]) rfl (by simp[idsL,AV.ids,z0c z1v]) fun D B clk T hB hT=> ?_
 simp only[go_sem,v8j,u5]
 refine z4i (v0x ht hV hl hd fun gP gV g2 P dep o3 o4 o5 o6 o7 o8 o9 c hPl hp hdep=> ?_)
 simp only[go_sem,]
 rw[z0d]
 exact hT _
section
theorem Cov.three {r a b:Nat} {o p q:AObj} (ho:o.ids=[a,b]) (hp:p.ids=[]) (hq:q.ids=[]):Cov [(r,o),(a,p),(b,q)] [r]:=by
 refine⟨by simp,by simp[ho,hp,hq],fun h hS x hx=> ?_⟩
 have h1:h[r]? =some o:=hS (r,o) (by simp)
 have hr:reach h (h.length + 1) [] [r]=reach h h.length [r] [a,b]:=by rw[z9i (by simp) h1,ho];rfl
 rw[hr]
 simp at hx
 rcases hx with rfl | rfl | rfl
 ·exact z4d (.inl v9)
 ·exact z4d (.inr v9)
 ·exact z4d (.inr (u0 _ v9))
theorem u0h {t:Term} {u:Tip} {h:List AObj} {clk:Nat} {Q:AV→List AObj→Nat→Prop} (h0:0 < t.length) (hl:t.length≤20000) (hQ:∀ g o c,Q (.ob (h.length + 1) g 0 t.length) (h++[o, .blk g (t.map eNode) true true 0]) c):WC Gam 1048668 [.sl (t.map eNode) u] h clk Q:=by
 refine q8z rfl u0f rfl rfl rfl (az:=[.sl (t.map eNode) .no]) rfl (by simp[idsL,AV.ids,z0c z1v]) fun D B hB hBh=> ?_
 have he:∀ h,z7i h .eql .sl (.sl (t.map eNode) .no) (.sl [] .nil)=some (.bool false,h):=fun _=>by
  cases t with
  | nil=>simp at h0
  | cons a t=>rfl
 have hbs:∀ (L:List AObj) (g:Nat),bsR (D++L) (B + 0) g (.agg [.int .i64 0, .int .i64 0, .str [], .str [], .int .i64 0]) 0 [] []=some (.ob (B + 0) g 0 0,D++L.set 0 (.blk g [] true false 0)):=fun L g=>by
  rw[←z2a hB]
  rfl
 have hap:∀ (L:List AObj) (g gen:Nat),L[0]? =some (.blk g [] true false 0)→z0r (D++L) (B + 1) gen 5 56 true (.ob (B + 0) g 0 0) (.sl (t.map eNode) .no)=some (.ob (B + 1) gen 0 t.length,D++L.set 1 (.blk gen (t.map eNode) true true 0)):=fun L g gen hL=>by
  have hb:z1u (D++L) (B + 0) g=some ([],true,false,0):=by rw[z2k hB];exact z2g hL
  have hsr:z4o (D++L) (.sl (t.map eNode) .no)=some (t.map eNode):=rfl
  have hc:z0n 5 (t.map eNode)=true:=z4t
  have h00:z0n 5 []=true:=rfl
  have hn:((t.map eNode).isEmpty)=false:=by
   cases t with
   | nil=>simp at h0
   | cons a t=>rfl
  have hsz:¬ (z1e < t.length * (56 + 1)):=by unfold z1e;omega
  have hle:¬ (t.length≤0):=by omega
  unfold z0r
  simp only[hsr,hc,z7,y6,if_false,hb,z6,h00,gt_iff_lt,y4,hsz,decide_false,Bool.or_self,hn,List.length_nil,hle,j8,if_true,List.take_nil,d3,z2a hB,beq_self_eq_true]
 simp only[go_sem,v8s,hB,he,hbs]
 rw[hap _ _ _ rfl]
 simp only[go_sem,hB]
 refine⟨fun _=>by simp,_,_,rfl,rfl, .inr ⟨⟨B + 1,by simp[z1j,AV.ids,z0b],by omega⟩, ?_⟩⟩
 have:=fun g o c=>hQ g o c
 simp only[←hBh] at this
 exact this _ _ _
theorem u0i {h:List AObj} {clk:Nat} {Q:AV→List AObj→Nat→Prop} (hQ:∀ g0 g1 g2 c,Q (.ptr (h.length + 2) g2 0 0) (h++[.map g0 [], .map g1 [], .blk g2 [.agg [.mp h.length g0, .mp (h.length + 1) g1]] false false 0]) c):WC Gam 187 [] h clk Q:=by
 refine x1p rfl y9z rfl rfl rfl (az:=[]) rfl (by simp[idsL]) fun D B R hB hBh hR=> ?_
 simp only[go_sem,v8m,hB]
 rw[q6d rfl]
 refine hR _ _ ⟨B + 2,by simp[z1j,AV.cv,AV.ids],by omega⟩ fun c=> ?_
 have:=fun g0 g1 g2=>hQ g0 g1 g2 c
 simp only[←hBh] at this
 exact this _ _ _
def z5t (acc:List Var):List (AV×AV):=acc.map fun v=>(.str v.name,nat v.sort)
section
variable {U:List Var} [UOk U]
theorem q8h {v:Var} (hv:v∈U):∀ {acc:List Var},(∀ w∈acc,w∈U)→findKey (.one .str) (.str v.name) (z5t acc)=some (if v∈acc then some (nat v.sort) else none)
 | [],_=>rfl
 | w::acc,ha=>by
   have ih:=q8h hv (acc:=acc) fun x hx=>ha x (u0 _ hx)
   unfold z5t at ih⊢
   simp only[k8,findKey,AV.eqv,AV.eq1]
   by_cases h:v=w
   ·subst h
    simp
   ·have hne:decide (v.name=w.name)=false:=decide_eq_false fun e=>h (q6e hv (ha w v9) e)
    simp only[hne,ih,y3,h,false_or]
theorem x2g {v:Var} (hv:v∈U):∀ {acc:List Var},(∀ w∈acc,w∈U)→v∉acc→z6a (.one .str) (.str v.name) (nat v.sort) (z5t acc)=some (z5t (acc++[v]))
 | [],_,_=>rfl
 | w::acc,ha,hn=>by
   rw[y3,not_or] at hn
   have ih:=x2g hv (acc:=acc) (fun x hx=>ha x (u0 _ hx)) hn.2
   have hne:decide (v.name=w.name)=false:=decide_eq_false fun e=>hn.1 (q6e hv (ha w v9) e)
   unfold z5t at ih⊢
   simp only[k8,d4,z6a,AV.eqv,AV.eq1,hne,ih,k6]
theorem v3h {g:Nat} {l:List Var}:(AObj.map g (z5t l)).ids=[]:=by
 simp only[AObj.ids,z5t,List.map_map,List.append_eq_nil_iff]
 constructor
 ·exact z0c (f:=Prod.fst∘fun v:Var=>(AV.str v.name,nat v.sort)) fun _=>rfl
 ·exact z0c (f:=Prod.snd∘fun v:Var=>(AV.str v.name,nat v.sort)) fun _=>rfl
def q5a (s g gV gF:Nat) (acc:List Var):List (Nat×AObj):=[(s + 2, .blk g [.agg [.mp s gV, .mp (s + 1) gF]] false false 0),(s, .map gV (z5t acc)),(s + 1, .map gF [])]
theorem x2h {s g gV gF:Nat} {acc:List Var}:Cov (q5a s g gV gF acc) [s + 2]:=Cov.three (by simp[AObj.ids,idsL,AV.ids]) v3h rfl
theorem j7t {h:List AObj} {i:Nat} {x:AObj} (hx:h[i]? =some x):h.set i x=h:=by
 obtain⟨h1,h2⟩:=k7.1 hx
 rw[←h2]
 exact List.set_getElem_self h1
theorem q7i {s g gV gF:Nat} {acc acc':List Var} {h:List AObj} (hS:Has (q5a s g gV gF acc) h):q3x h (q5a s g gV gF acc')=h.set s (.map gV (z5t acc')):=by
 have h2:=hS (s + 2, .blk g [.agg [.mp s gV, .mp (s + 1) gF]] false false 0) (by simp[q5a])
 have h1:=hS (s + 1, .map gF []) (by simp[q5a])
 dsimp only at h1 h2
 simp only[q5a,q3x,j7t h2]
 exact j7t (by rw[l7 (by omega)];exact h1)
theorem u0j {D L:List AObj} {B s g:Nat} {es es':List (AV×AV)} {n:List Nat} {v:AV} (hB:D.length=B) (hlt:s < B) (hm:z5k D s g=some es) (ho:v.obs=[]) (hp:z6a (.one .str) (.str n) v.cv es=some es'):muV (D++L) (.one .str) (.str n) v (.mp s g)=some (.undef,D.set s (.map g es')++L):=by
 have hpub:pub (D++L) v=some (v.cv,D++L):=by simp only[pub,q4j ho,k6,ho,freezeAll]
 have:((AV.str n).eqv (.one .str) (.str n)).isSome=true:=by simp[AV.eqv,AV.eq1]
 simp only[muV,q4u hB hlt,hm,hpub,this,if_true,hp,k6]
 rw[List.set_append_left _ _ (by omega)]
def v8u (acc:List Var) (v:Var):List Var:=if v∈acc then acc else acc++[v]
theorem u0k {s g gV gF:Nat} {acc:List Var} {v:Var} {h:List AObj} {clk:Nat} {Q:AV→List AObj→Nat→Prop} (hv:v∈U) (ha:∀ w∈acc,w∈U) (hS:Has (q5a s g gV gF acc) h) (hQ:Q (.bool true) (h.set s (.map gV (z5t (v8u acc v)))) clk):WC Gam 242 [.ptr (s + 2) g 0 0, .str v.name,nat v.sort] h clk Q:=by
 refine v8t (S:=q5a s g gV gF acc) rfl u0d rfl rfl rfl (az:=[.ptr (s + 2) g 0 0, .str v.name,nat v.sort]) rfl (by simp[idsL,AV.ids]) (by simpa [idsL,AV.ids,nat] using x2h) hS fun D B R hB hD hlt hR=> ?_
 have l2:=hlt (s + 2, .blk g [.agg [.mp s gV, .mp (s + 1) gF]] false false 0) (by simp[q5a])
 have l0:=hlt (s, .map gV (z5t acc)) (by simp[q5a])
 have l1:=hlt (s + 1, .map gF []) (by simp[q5a])
 have b2:=z2g (g:=g) (hD (s + 2, .blk g [.agg [.mp s gV, .mp (s + 1) gF]] false false 0) (by simp[q5a]))
 have b0:=j0k (g:=gV) (hD (s, .map gV (z5t acc)) (by simp[q5a]))
 have b1:=j0k (g:=gF) (hD (s + 1, .map gF []) (by simp[q5a]))
 dsimp only at l0 l1 l2 b0 b1 b2
 have hf:findKey (.one .str) (.str v.name) []=some none:=rfl
 have hfk:=q8h hv ha
 simp only[go_sem,v8q,hB,nat,z2x hB l2,b2,z6o,q4u hB l1,b1,q3r hf,z6y,q4u hB l0,b0,q3r hfk]
 by_cases hm:v∈acc
 ·have hadd:v8u acc v=acc:=by rw[v8u,if_pos hm]
  rw[hadd] at hQ
  have hq:=hR (.bool true)
  simp only[go_sem,hm,if_true,q0q,hB,decide_true]
  rw[z0d]
  exact hR _ _ (q5a s g gV gF acc) rfl hD.app x2h.closed (by rw[q7i hS];exact hQ)
 ·have hadd:v8u acc v=acc++[v]:=by rw[v8u,if_neg hm]
  rw[hadd] at hQ
  have hmu:=fun L=>u0j (L:=L) (v:= .int .i64 (v.sort:Int)) hB l0 b0 rfl (x2g hv ha hm)
  simp only[go_sem,hm,if_false,z6y,hB,z2x hB l2,b2,hmu]
  rw[z0d]
  refine hR _ _ (q5a s g gV gF (acc++[v])) rfl (Has.app ?_) x2h.closed (by rw[q7i hS];exact hQ)
  exact Has.cons (by rw[l7 (by omega)];exact hD (s + 2,_) (by simp[q5a])) (Has.cons (by rw[s8 (by omega)]) (Has.cons (by rw[l7 (by omega)];exact hD (s + 1,_) (by simp[q5a])) Has.nil))
theorem w6p {s g gV gF:Nat} {acc acc':List Var} {D:List AObj} (hD:Has (q5a s g gV gF acc) D):Has (q5a s g gV gF acc') (D.set s (.map gV (z5t acc'))):=by
 have hl:=hD.lt (s, .map gV (z5t acc)) (by simp[q5a])
 dsimp only at hl
 exact Has.cons (by rw[l7 (by omega)];exact hD (s + 2,_) (by simp[q5a])) (Has.cons (by rw[s8 (by omega)]) (Has.cons (by rw[l7 (by omega)];exact hD (s + 1,_) (by simp[q5a])) Has.nil))
def z8j:List Node→List Var→List Var
 | [],acc=>acc
 | n::t,acc=>z8j t (if n.op=4 then v8u acc ⟨n.name,n.sort⟩ else acc)
theorem q6m:∀ {a b:List Node} {acc:List Var},z8j (a++b) acc=z8j b (z8j a acc)
 | [],_,_=>rfl
 | n::a,b,acc=>by rw[d4,z8j,z8j,q6m]
theorem x4z {V:List Var}:∀ {t:Term} {acc:List Var},q4t V t→(∀ w∈acc,w∈V)→∀ w∈z8j t acc,w∈V
 | [],_,_,h=>h
 | n::t,acc,hn,h=>by
   rw[z8j]
   refine x4z (fun m hm=>hn m (u0 _ hm)) ?_
   by_cases h4:n.op=4
   ·rw[if_pos h4]
    obtain⟨v,hv,e1,e2⟩:=(hn n v9).2 h4
    have e:(⟨n.name,n.sort⟩:Var)=v:=by rw[e1,e2]
    rw[e,v8u]
    split
    ·exact h
    ·intro w hw
     rcases j6.1 hw with hw | hw
     ·exact h w hw
     ·rw[u7.1 hw];exact hv
   ·rw[if_neg h4];exact h
theorem u0l {s g gV gF:Nat} {V:List Var} {t:Term} {u w:Tip} {h:List AObj} {clk:Nat} {Q:AV→List AObj→Nat→Prop} (hN:q4t V t) (hV:∀ v∈V,v∈U) (hl:t.length≤20000) (hS:Has (q5a s g gV gF []) h) (hQ:Q (.bool true) (h.set s (.map gV (z5t (z8j t [])))) clk):WC Gam 188 [.ptr (s + 2) g 0 0, .sl (t.map eNode) u, .sl [] w] h clk Q:=by
 refine v8t (S:=q5a s g gV gF []) rfl v8o rfl rfl rfl (az:=[.ptr (s + 2) g 0 0, .sl (t.map eNode) .no, .sl [] .no]) rfl (by simp[idsL,AV.ids]) (by simpa [idsL,AV.ids,z0c z1v] using x2h) hS fun D B R hB hD hlt hR=> ?_
 have l2:=hlt (s + 2, .blk g [.agg [.mp s gV, .mp (s + 1) gF]] false false 0) (by simp[q5a])
 have l0:=hlt (s, .map gV []) (by simp[q5a,z5t])
 have l1:=hlt (s + 1, .map gF []) (by simp[q5a])
 dsimp only at l0 l1 l2
 simp only[go_sem,v8n,hB,z6]
 refine z3t t.length (by omega) (fun i q=>∃ (D':List AObj) (o:AObj),D'.length=B∧Has (q5a s g gV gF (z8j (t.take i) [])) D'∧q.ts 0= .ptr (s + 2) g 0 0∧q.ts 1= .sl (t.map eNode) .no∧q.ts 10= .sl (t.map eNode) .no∧q.ts 11= .int .i64 (t.length:Int)∧q.ts 12= .int .i64 (i:Int)∧q.h=D'++[o]) ⟨D,_,hB,hD,rfl,rfl,rfl,rfl,rfl,rfl⟩ ?_ ?_
 ·rintro i hlt' f1 f2 ts h' clk' P ⟨D',o,hB',hD',q0,q1,q10,q11,q12,rfl⟩ hnx he hr
  dsimp only at q0 q1 q10 q11 q12
  have hti:t[i]? =some t[i]:=u9 hlt'
  have htk:t.take (i + 1)=t.take i++[t[i]]:=w8 hlt'
  have hno:=hN t[i] (j9 hlt')
  have hacc:∀ x∈z8j (t.take i) [],x∈U:=fun x hx=>hV x (x4z (fun m hm=>hN m (m9 hm)) (by simp) x hx)
  have hus:z8j (t.take (i + 1)) []=if t[i].op=4 then v8u (z8j (t.take i) []) ⟨t[i].name,t[i].sort⟩ else z8j (t.take i) []:=by
   rw[htk,q6m]
   rfl
  have hix:=fun h=>z2z (h:=h) (u:= .no) (k:= .i64) hti
  generalize t[i]=n at *
  have f5:decide ((n.op:Int)=5)=false:=by rw[z03];have:=hno.1;omega
  by_cases h4:n.op=4
  ·rw[if_pos h4] at hus
   obtain⟨v,hv,e1,e2⟩:=hno.2 h4
   have f4:decide ((n.op:Int)=4)=true:=by rw[z04];omega
   obtain⟨vn,vs⟩:=v
   dsimp only at e1 e2
   subst e1 e2
   have hst:∀ x y:AObj,(D'++[x]).set s y=D'.set s y++[x]:=fun x y=>List.set_append_left _ _ (by omega)
   simp only[go_sem,x2e,q0,q1,q10,q11,q12,hB',f1,hix,f4]
   refine z4i (u0k (v:=⟨n.name,n.sort⟩) (hV _ hv) hacc hD'.app ?_)
   rw[hst]
   simp only[go_sem,z7,q0,q1,q10,q11,q12,f2]
   exact hnx _ ⟨D'.set s (.map gV (z5t (z8j (t.take (i + 1)) []))),_,by rw[List.length_set];exact hB',w6p hD',q0,q1,q10,q11,rfl,by rw[hus]⟩
  ·rw[if_neg h4] at hus
   have f4:decide ((n.op:Int)=4)=false:=by rw[z03];omega
   simp only[go_sem,x2e,q0,q1,q10,q11,q12,hB',f1,f2,hix,f4,f5]
   exact hnx _ ⟨D',_,hB',by rw[hus];exact hD',q0,q1,q10,q11,rfl,rfl⟩
 ·rintro f1 ts h' clk' P ⟨D',o,hB',hD',q0,q1,q10,q11,q12,rfl⟩ he hr
  dsimp only at q0 q1 q10 q11 q12
  rw[u4] at hD'
  simp only[go_sem,x2e,q0,q1,q10,q11,q12,hB',f1]
  refine he _ _ ?_
  simp only[go_sem,]
  rw[z0d]
  exact hR _ _ (q5a s g gV gF (z8j t [])) rfl hD'.app x2h.closed (by rw[q7i hS];exact hQ)
end
end
def x7w (l:List (List Nat)):List (AV×AV):=l.map fun a=>(.str a, .str a)
theorem x5a {a:List Nat}:∀ {l:List (List Nat)},findKey (.one .str) (.str a) (x7w l)=some (if a∈l then some (.str a) else none)
 | []=>rfl
 | b::l=>by
   have ih:=x5a (a:=a) (l:=l)
   unfold x7w at ih⊢
   simp only[k8,findKey,AV.eqv,AV.eq1]
   by_cases h:a=b
   ·subst h
    simp
   ·simp only[h,decide_false,ih,y3,false_or]
theorem j0x {a:List Nat}:∀ {l:List (List Nat)},a∉l→z6a (.one .str) (.str a) (.str a) (x7w l)=some (x7w (l++[a]))
 | [],_=>rfl
 | b::l,hn=>by
   rw[y3,not_or] at hn
   have ih:=j0x (a:=a) (l:=l) hn.2
   unfold x7w at ih⊢
   simp only[k8,d4,z6a,AV.eqv,AV.eq1,hn.1,decide_false,ih,k6]
theorem w6q {D L:List AObj} {B k g j fz:Nat} {es:List Node} {x:Node} (hB:D.length=B) (hL:L[k]? =some (.blk g (es.map eNode) true true fz)) (he:es[j]? =some x):z9e (D++L) (some 5) (.ptr (B + k) g j 0)=some (.agg [.int .i64 (x.op:Int), .int .i64 (x.sort:Int), .str x.name, .str x.num, .int .i64 (x.kids:Int)],D++L):=by
 have hb:z1u (D++L) (B + k) g=some (es.map eNode,true,true,fz):=by rw[z2k hB];exact z2g hL
 have he':(es.map eNode)[j]? =some (eNode x):=by rw[l6,he];rfl
 simp only[z9e,hb,he']
 rfl
theorem u0m {D L:List AObj} {B k g len fz:Nat} {w:Bool} {es:List AV} (hB:D.length=B) (hL:L[k]? =some (.blk g es true w fz)) (hl:es.length=len):q0t (D++L) (B + k) g 0 len=some es:=by
 have hb:z1u (D++L) (B + k) g=some (es,true,w,fz):=by rw[z2k hB];exact z2g hL
 subst hl
 simp only[q0t,hb,y4,j8,if_true,d7,u4]
theorem v3i {U V:List Var} [UOk U] {ns:List (List Nat)} {t:Term} {s d:Nat} {u v w:Tip} (hns:∀ n∈ns,z8l q1s [.str n]=some (.bool true)) (hnd:ns.Nodup) (hnl:ns.length≤1000) (hV:∀ v∈V,v∈U) (htl:t.length≤20000) (hd:d≤256) (ht:WF V [s] d t):Pure Gam 115 [.sl (t.map eNode) u, .sl (z2s ns) v, .sl (z2s ns) w] (.tup [.sl (t.map eNode) .no, .int .i64 0]):=by
 have p1054:=v3g (u:= .no) ht hV htl (by omega)
 have p1055:=v3e (u:= .no) hns hnl
 have p1056:=v3f (u:= .no) hnd hnl
 have p212:=j3b (u:= .no) ht hV htl (by omega)
 have hpos:=ht.pos
 have hln:((z2s ns).length:Int)=(ns.length:Int):=by simp[z2s]
 refine Pure.of rfl u0e rfl rfl rfl (az:=[.sl (t.map eNode) .no, .sl (z2s ns) .no, .sl (z2s ns) .no]) rfl (by simp[idsL,AV.ids,z0x,z0c z1v]) fun D B clk T hB hT=> ?_
 simp only[go_sem,v8r,hB,z0a p1054,z0a p1055,z0a p1056,z7,decide_true,hln]
 refine z3t ns.length (by omega) (fun i q=>∃ (g:Nat),q.ts 0= .sl (t.map eNode) .no∧q.ts 2= .sl (z2s ns) .no∧q.ts 9= .mp (B + 0) g∧q.ts 42= .sl (z2s ns) .no∧q.ts 43= .int .i64 (ns.length:Int)∧q.ts 44= .int .i64 (i:Int)∧q.h=D++[.map g (x7w (ns.take i)), .dead]) ⟨_,rfl,rfl,rfl,rfl,rfl,rfl,rfl⟩ ?_ ?_
 ·rintro i hlt f1 f2 ts h clk P ⟨g,q0,q2,q9,q42,q43,q44,rfl⟩ hnx he hr
  dsimp only at q0 q2 q9 q42 q43 q44
  have hix:=fun h=>z7s (l:=ns) (i:=i) (h:=h) (t:= .no) (k:= .i64) hlt
  have htake:ns.take (i + 1)=ns.take i++[ns[i]]:=w8 hlt
  have hnew:ns[i]∉ns.take i:=by
   intro hc
   have h3:(ns.take (i + 1)).Nodup:=hnd.sublist (s6 _ _)
   rw[htake,List.nodup_append] at h3
   exact h3.2.2 _ hc _ (by simp) rfl
  generalize ns[i]=a at *
  have hmu:∀ L:List AObj,z5k L 0 g=some (x7w (ns.take i))→muV (D++L) (.one .str) (.str a) (.str a) (.mp (B + 0) g)=some (.undef,D++L.set 0 (.map g (x7w (ns.take (i + 1))))):=fun L hL=>by
   rw[htake]
   exact x4l (v:= .str a) hB hL rfl (j0x hnew)
  simp only[go_sem,x7v,q0,q2,q9,q42,q43,q44,f1,hB,hix,hmu,f2]
  exact hnx _ ⟨g,q0,q2,q9,q42,q43,rfl,rfl⟩
 rintro f1 ts h clk P ⟨g,q0,q2,q9,q42,q43,q44,rfl⟩ he hr
 dsimp only at q0 q2 q9 q42 q43 q44
 rw[u4]
 simp only[go_sem,x7v,q0,q2,q9,q42,q43,q44,f1]
 refine he _ _ ?_
 clear he hr f1
 simp only[go_sem,q0]
 refine z4i (u0h hpos htl fun gO o c=> ?_)
 have e0:∀ x y:AObj,(D++[x,y]).length + 1=B + 3:=fun x y=>by simp[hB]
 have e1:∀ x y a b:AObj,(D++[x,y])++[a,b]=D++[x,y,a,b]:=fun _ _ _ _=>by simp
 rw[e0,e1]
 simp only[go_sem,hB]
 refine z3t t.length (by omega) (fun i q=>∃ (o1:AObj),q.ts 0= .sl (t.map eNode) .no∧q.ts 9= .mp (B + 0) g∧q.ts 12= .ob (B + 3) gO 0 t.length∧q.ts 58= .ob (B + 3) gO 0 t.length∧q.ts 59= .int .i64 (t.length:Int)∧q.ts 60= .int .i64 (i:Int)∧q.h=D++[.map g (x7w ns),o1,o, .blk gO (t.map eNode) true true 0]) ⟨_,by simp[z0b,q0],by simp[z0b,q9],by simp[z0b],by simp[z0b],by simp[z0b],by simp[z0b],rfl⟩ ?_ ?_
 ·clear q0 q2 q9 q42 q43 q44
  rintro i hlt f1 f2 ts h clk P ⟨o1,q0,q9,q12,q58,q59,q60,rfl⟩ hnx he hr
  dsimp only at q0 q9 q12 q58 q59 q60
  have hti:t[i]? =some t[i]:=u9 hlt
  have hod:=fun x y z=>u0g (D:=D) (L:=[x,y,z, .blk gO (t.map eNode) true true 0]) (B:=B) (k:=3) (g:=gO) (n:=t.length) (j:=i) hB rfl hti hlt
  have hld:=fun x y z=>w6q (D:=D) (L:=[x,y,z, .blk gO (t.map eNode) true true 0]) (B:=B) (k:=3) (g:=gO) (j:=i) hB rfl hti
  have hst:=fun x y z=>w6o (D:=D) (L:=[x,y,z, .blk gO (t.map eNode) true true 0]) (B:=B) (k:=3) (g:=gO) (j:=i) hB rfl hti
  generalize t[i]=n at *
  have hfk:=x5a (a:=n.name) (l:=ns)
  simp only[go_sem,x2f,q0,q9,q12,q58,q59,q60,hB,f1,hod,hld,z6o,q3r hfk]
  by_cases hm:n.name∈ns
  ·cases h4:decide ((n.op:Int)=4) with
   | false=>
     simp only[go_sem,hm,if_true,q0q,q0,q9,q12,q58,q59,q60,hB,h4,f2]
     exact hnx _ ⟨_,q0,q9,q12,q58,q59,rfl,rfl⟩
   | true=>
     simp only[go_sem,hm,if_true,q0q,q0,q9,q12,q58,q59,q60,hB,h4,hod,hst,f2]
     exact hnx _ ⟨_,q0,q9,q12,q58,q59,rfl,rfl⟩
  ·simp only[go_sem,hm,if_false,z6y,q0,q9,q12,q58,q59,q60,hB,f2]
   exact hnx _ ⟨_,q0,q9,q12,q58,q59,rfl,rfl⟩
 clear q0 q2 q9 q42 q43 q44
 rintro f1 ts h clk P ⟨o1,q0,q9,q12,q58,q59,q60,rfl⟩ he hr
 dsimp only at q0 q9 q12 q58 q59 q60
 simp only[go_sem,x2f,q0,q9,q12,q58,q59,q60,f1]
 refine he _ _ ?_
 clear he hr f1
 simp only[go_sem,q0,q12]
 refine z4i (u0i fun g0 g1 g2 c=> ?_)
 have e2:∀ x y z w:AObj,(D++[x,y,z,w]).length=B + 4:=fun x y z w=>by simp[hB]
 have e3:∀ x y z w a b c:AObj,(D++[x,y,z,w])++[a,b,c]=D++[x,y,z,w,a,b,c]:=fun _ _ _ _ _ _ _=>by simp
 rw[e2,e3]
 simp only[go_sem,q0,q12,z0a p212]
 have hrow:=fun (x y z a b c:AObj) (fz:Nat)=>u0m (D:=D) (L:=[x,y,z, .blk gO (t.map eNode) true true fz,a,b,c]) (B:=B) (k:=3) (g:=gO) (len:=t.length) hB rfl (by simp)
 have hfz:∀ x y z a b c:AObj,freezeAll (D++[x,y,z, .blk gO (t.map eNode) true true 0,a,b,c]) [(B + 3,t.length)]=D++[x,y,z, .blk gO (t.map eNode) true true (max 0 t.length),a,b,c]:=fun x y z a b c=>by
  simp only[freezeAll,z2u hB,z2a hB]
  simp[z2a hB]
 refine j3r (az:=[.ptr (B + 4 + 2) g2 0 0, .sl (t.map eNode) .no, .sl [] .no]) rfl v8o rfl (by simp only[z1i,conv,hrow];rfl) (by simp[cvL,AV.cv]) rfl (by simp[idsL,AV.ids]) ?_
 rw[show ∀ v,z0p [] 0 [.ptr (B + 4 + 2) g2 0 0, .ob (B + 3) gO 0 t.length, .sl [] v]=[(B + 3,t.length)] from fun v=>by simp[z0p,AV.obs],hfz]
 refine u0l (s:=B + 4) (gV:=g0) (gF:=g1) ht.names hV htl ?_ ?_
 ·refine Has.cons ?_ (Has.cons ?_ (Has.cons ?_ Has.nil))
  ·show (D++_)[B + 6]? =_
   rw[z2u hB]
   rfl
  ·rw[z2u hB];rfl
  ·show (D++_)[B + 5]? =_
   rw[z2u hB]
   rfl
 ·rw[z2a hB]
  simp only[go_sem,z7,q12]
  refine⟨.tup [.sl (t.map eNode) .no, .int .i64 0],by simp only[z1j,conv,z8k,hrow,k6],by simp[AV.ids,idsL,z0c z1v],rfl,hT _⟩
section
open Sh
set_option maxHeartbeats 0
def u0n:AFun:=(fun (a:AFun) (_:Gam.fn 116=some a)=>a) _ (by conv=>lhs;reduce;simp only[z4,z5])
def x2i:ACode:=(fun (a:ACode) (_:fl [] (lp u0n 0)=a)=>a) _ (by conv=>lhs;reduce;simp only[z4,z5])
attribute [local irreducible] x2i
def v8v:AFun:=(fun (a:AFun) (_:flF [x2i] u0n=a)=>a) _ (by conv=>lhs;reduce;simp only[z4,z5])
theorem u0o:Gam.fn 116=some v8v:=by kernel_rfl
def u0p:AFun:=(fun (a:AFun) (_:Gam.fn 62=some a)=>a) _ (by conv=>lhs;reduce;simp only[z4,z5])
def x7x:ACode:=(fun (a:ACode) (_:fl [] (lp u0p 0)=a)=>a) _ (by conv=>lhs;reduce;simp only[z4,z5])
attribute [local irreducible] x7x
def v8w:AFun:=(fun (a:AFun) (_:flF [x7x] u0p=a)=>a) _ (by conv=>lhs;reduce;simp only[z4,z5])
theorem u0q:Gam.fn 62=some v8w:=by kernel_rfl
def u0r:AFun:=(fun (a:AFun) (_:Gam.fn 23=some a)=>a) _ (by conv=>lhs;reduce;simp only[z4,z5])
def q7j:ACode:=(fun (a:ACode) (_:fl [] (lp u0r 0)=a)=>a) _ (by conv=>lhs;reduce;simp only[z4,z5])
attribute [local irreducible] q7j
def j7u:AFun:=(fun (a:AFun) (_:flF [q7j] u0r=a)=>a) _ (by conv=>lhs;reduce;simp only[z4,z5])
theorem u0s:Gam.fn 23=some j7u:=by kernel_rfl
end
section
attribute [-go_sem] v1t v1u
theorem v3j {U V:List Var} [UOk U] {a b:Term} {d:Nat} {u:Tip} (hV:∀ v∈V,v∈U) (ha:WF V [1] d a) (hb:WF V [1] d b) (hal:a.length≤9000) (hbl:b.length≤9000) (hd:d≤200):Pure Gam 116 [.agg [.int .i64 7, .int .i64 0, .str [], .str [], .int .i64 0], .sl [z0k a,z0k b] u] (.tup [z0k (j0w a b), .int .i64 0]):=by
 have hn:NodeOk V (bare 7 2) [1,1] 1 (a++b):= .andor (k:=2) (.inl rfl)
 have hw:WF V [1] (d + 1) (j0w a b):=WF.one (ha.append hb) hn rfl
 have hlt:(j0w a b).length=a.length + b.length + 1:=by simp[j0w]
 have pa:=x6u (u:= .no) ha hV (by omega) (by omega)
 have pb:=x6u (u:= .no) hb hV (by omega) (by omega)
 have p249:=k4v hn hV
 have p250:=k4w hn
 have p252:=fun u=>k4x (t:=u) hn (by decide)
 have r2:=fun {s sP gV gP P}=>q8v (s:=s) (sP:=sP) (gV:=gV) (gP:=gP) (P:=P) (t:=j0w a b) (by omega) hw.names hV
 simp only[eNode,nat,bare,Int.cast_ofNat_Int,k8,List.map_nil] at p249 p250 p252 pa pb
 refine Pure.of rfl u0o rfl rfl rfl (az:=[.agg [.int .i64 7, .int .i64 0, .str [], .str [], .int .i64 0], .sl [z0k a,z0k b] .no]) rfl (by simp[idsL,AV.ids,z0k,z0c z1v]) fun D B clk T hB hT=> ?_
 have hix0:∀ h,z1m h 1 (.sl [.sl (a.map eNode) .no, .sl (b.map eNode) .no] .no) (.int .i64 0)=some (.iptr [.sl (a.map eNode) .no] 0,h):=fun _=>rfl
 have hix1:∀ h,z1m h 1 (.sl [.sl (a.map eNode) .no, .sl (b.map eNode) .no] .no) (.int .i64 1)=some (.iptr [.sl (b.map eNode) .no] 0,h):=fun _=>rfl
 have l2:((([AV.sl (a.map eNode) .no, .sl (b.map eNode) .no]:List AV).length:Nat):Int)=2:=rfl
 have e01:decide ((0:Int) < 2)=true:=rfl
 have e12:decide ((1:Int) < 2)=true:=rfl
 have e22:decide ((2:Int) < 2)=false:=rfl
 have w1:IntKind.i64.wrap (0 + 1)=1:=by decide
 have w2:IntKind.i64.wrap (1 + 1)=2:=by decide
 have zy1:decide ((1:Int)=0)=false:=rfl
 have ap1:∀ (L:List AObj) (gen:Nat),L[3]? =some .dead→z0r (D++L) (B + 3) gen 1 8 false (.sl [] .nil) (.sl [.int .i64 1] .full)=some (.sl [.int .i64 1] (.at (B + 3) gen),D++L.set 3 (.tip gen 1)):=fun L gen h=>append_nil (k:=3) hB h (by decide) (by simp)
 have ap2:∀ (L:List AObj) (g gen:Nat),L[3]? =some (.tip g 1)→z0r (D++L) (B + 3) gen 1 8 false (.sl [.int .i64 1] (.at (B + 3) g)) (.sl [.int .i64 1] .full)=some (.sl [.int .i64 1, .int .i64 1] (.at (B + 3) gen),D++L.set 3 (.tip gen 1)):=fun L g gen h=>z0q (k:=3) hB h (.inr (.inr ⟨_,rfl,rfl⟩)) (by decide) (by decide) (by simp)
 obtain⟨ca,hca⟩:∃ ca:Term,ca=bare 7 2::a:=⟨_,rfl⟩
 have hcal:ca.length=a.length + 1:=by simp[hca]
 have at1:∀ (L:List AObj) (gen:Nat),L[4]? =some .dead→z0r (D++L) (B + 4) gen 5 56 false (.sl [.agg [.int .i64 7, .int .i64 0, .str [], .str [], .int .i64 2]] .full) (.sl (a.map eNode) .no)=some (.sl (ca.map eNode) (.at (B + 4) gen),D++L.set 4 (.tip gen 5)):=fun L gen h=>by
  have:=z0q (D:=D) (L:=L) (B:=B) (k:=4) (gen:=gen) (b:=56) (u:= .no) hB h (.inr (.inl rfl)) (z4t (l:=[bare 7 2])) (z4t (l:=a)) (by simp only[z6,w0];omega)
  rw[show [bare 7 2].map eNode++a.map eNode=ca.map eNode from by simp[hca]] at this
  exact this
 have at2:∀ (L:List AObj) (g gen:Nat),L[4]? =some (.tip g 5)→z0r (D++L) (B + 4) gen 5 56 false (.sl (ca.map eNode) (.at (B + 4) g)) (.sl (b.map eNode) .no)=some (.sl ((j0w a b).map eNode) (.at (B + 4) gen),D++L.set 4 (.tip gen 5)):=fun L g gen h=>by
  rw[z0q (k:=4) hB h (.inr (.inr ⟨_,rfl,rfl⟩)) z4t z4t (by simp only[z6];omega)]
  simp[j0w,hca]
 simp only[go_sem,v8v,hB,z0k,l2]
 refine z2r ?_
 simp only[go_sem,x2i,hB,e01,hix0,z0a pa,zy1]
 rw[ap1 _ _ rfl]
 simp only[go_sem,hB]
 rw[at1 _ _ rfl]
 simp only[go_sem,hB,w1]
 refine z2r ?_
 simp only[go_sem,x2i,hB,e12,hix1,z0a pb,zy1]
 rw[ap2 _ _ _ rfl]
 simp only[go_sem,hB]
 rw[at2 _ _ _ rfl]
 simp only[go_sem,hB,w2]
 refine z2r ?_
 have x15:decide ((7:Int)=15)=false:=rfl
 simp only[go_sem,x2i,hB,e22,z0a p249,z0a p250,z7,x15,z0a (p252 _),zy1]
 refine z4i (y7t hw hV (by omega) (by omega) fun gP gV g2 P dep o3 o4 o5 o6 o7 o8 o9 c hPl hp hdep=> ?_)
 have hBx:∀ x0 x1 x2 x3 x4:AObj,(D++[x0,x1,x2,x3,x4]).length=B + 5:=fun _ _ _ _ _=>by simp[hB]
 rw[hBx]
 have r1:=j6j (s:=B + 5 + 1) (sP:=B + 5 + 0) (gV:=gV) (gP:=gP) (t:=j0w a b) (by omega) hp (by dsimp only;omega) hPl
 have r2':=r2 (s:=B + 5 + 1) (sP:=B + 5 + 0) (gV:=gV) (gP:=gP) (P:=P)
 have hh:=fun x0 x1 x2 x3 x4=>q8w (t:=j0w a b) (gP:=gP) (gV:=gV) (g2:=g2) (P:=P) (o3:=o3) (o4:=o4) (o5:=o5) (o6:=o6) (o7:=o7) (o8:=o8) (o9:=o9) (hBx x0 x1 x2 x3 x4)
 simp only[go_sem,z7,z1g r2' (hh _ _ _ _ _),z1g r1 (hh _ _ _ _ _)]
 rw[z0h rfl (by simp[z1j,AV.cv,cvL,AV.ids,idsL,z0c z1v])]
 exact hT _
end
section
attribute [-go_sem] v1t v1u
theorem v3k {d o:Def} (hp:o.params=d.params) (hu:UOk d.params) (hns:∀ n∈d.params.map (·.name),z8l q1s [.str n]=some (.bool true)) (hnd:(d.params.map (·.name)).Nodup) (hl:d.params.length≤20) (hd:GT d.params 1 6 396 d.body) (ho:GT d.params 1 6 396 o.body):Pure Gam 62 [z5l d,z5l o] (.tup [z5l ⟨d.pred,d.params,j0w d.body o.body⟩, .int .i64 0]):=by
 haveI:=hu
 have hdl:=hd.2.1
 have hol:=ho.2.1
 have p1041:=fun u v=>v3i (U:=d.params) (V:=d.params) (u:= .no) (v:=u) (w:=v) hns hnd (by simp;omega) (fun v h=>h) (by omega) (by omega) ho.1
 have p1042:=fun u=>v3j (U:=d.params) (V:=d.params) (u:=u) (fun v h=>h) hd.1 ho.1 (by omega) (by omega) (by omega)
 have p1027:=j7g (d:=d) (u:= .no) (v:= .no) ⟨by omega,by omega⟩
 simp only[z5l,z0k] at p1027 p1042
 refine Pure.of rfl u0q rfl rfl rfl (az:=[z5l d,z5l o]) rfl (by simp[idsL,z6e]) fun D B clk T hB hT=> ?_
 have hcell:(z2s (d.params.map (·.name))).length≤1000:=by simp[z2s];omega
 simp only[go_sem,v8w,hB,z5l,hp,z6]
 refine z3t d.params.length (by omega) (fun i q=>∃ (g0 g1 g2:Nat) (t6 t7:Tip) (o3 o4 o5 o6 o7 o8 o9:AObj),q.ts 2= .ptr (B + 0) g0 0 0∧q.ts 3= .ptr (B + 1) g1 0 0∧q.ts 4= .ptr (B + 2) g2 0 0∧q.ts 6= .sl (z2s ((d.params.take i).map (·.name))) t6∧q.ts 7= .sl (z2s ((d.params.take i).map (·.name))) t7∧q.ts 14= .sl (d.params.map z1k) .no∧q.ts 15= .int .i64 (d.params.length:Int)∧q.ts 16= .int .i64 (i:Int)∧q.h=D++[.blk g0 [.agg [.str d.pred, .sl (d.params.map z1k) .no, .sl (d.body.map eNode) .no]] false false 0, .blk g1 [.agg [.str o.pred, .sl (d.params.map z1k) .no, .sl (o.body.map eNode) .no]] false false 0, .blk g2 [.agg [.str [], .sl [] .nil, .sl [] .nil]] false false 0,o3,o4,o5,o6,o7,o8,o9]∧z8x B 5 o5 t6 1∧z8x B 7 o7 t7 1) ⟨_,_,_, .nil, .nil,_,_,_,_,_,_,_,rfl,rfl,rfl,rfl,rfl,rfl,rfl,rfl,rfl, .inl rfl, .inl rfl⟩ ?_ ?_
 ·rintro i hlt f1 f2 ts h clk P ⟨g0,g1,g2,t6,t7,o3,o4,o5,o6,o7,o8,o9,q2,q3,q4,q6,q7,q14,q15,q16,rfl,ht6,ht7⟩ hnx he hr
  dsimp only at q2 q3 q4 q6 q7 q14 q15 q16
  have hix:∀ h,z1m h 2 (.sl (d.params.map z1k) .no) (.int .i64 (i:Int))=some (.iptr [.str d.params[i].name, .int .i64 (d.params[i].sort:Int)] 0,h):=fun h=>z3a hlt rfl rfl
  have e8:z2s ((d.params.take i).map (·.name))++z2s [d.params[i].name]=z2s ((d.params.take (i + 1)).map (·.name)):=by
   rw[w8 hlt,v5]
   simp[z2s]
  generalize d.params[i]=v at *
  simp only[go_sem,x7x,q2,q3,q4,q6,q7,q14,q15,q16,hB,f1,hix,z1a]
  rw[show [AV.str v.name]=z2s [v.name] from rfl,z0q (k:=5) hB rfl ht6 z0v z0v (by simp[z2s];omega),e8]
  simp only[go_sem,q2,q3,q4,q6,q7,q14,q15,q16,hB,hix]
  rw[show [AV.str v.name]=z2s [v.name] from rfl,z0q (k:=7) hB rfl ht7 z0v z0v (by simp[z2s];omega),e8]
  simp only[go_sem,q2,q3,q4,q6,q7,q14,q15,q16,hB,f2]
  refine⟨by rcases ht6 with rfl | rfl | ⟨_,rfl,_⟩ <;> rcases ht7 with rfl | rfl | ⟨_,rfl,_⟩ <;> simp[z1b,apart,z0j,z0z,z1d,AOp.isCall,hB,AV.ids,idsL,z0x,z0c z2l], ?_⟩
  exact hnx _ ⟨_,_,_,_,_,_,_,_,_,_,_,_,q2,q3,q4,rfl,rfl,q14,q15,rfl,rfl, .inr (.inr ⟨_,rfl,rfl⟩), .inr (.inr ⟨_,rfl,rfl⟩)⟩
 ·rintro f1 ts h clk P ⟨g0,g1,g2,t6,t7,o3,o4,o5,o6,o7,o8,o9,q2,q3,q4,q6,q7,q14,q15,q16,rfl,ht6,ht7⟩ he hr
  dsimp only at q2 q3 q4 q6 q7 q14 q15 q16
  rw[u4] at q6 q7
  simp only[go_sem,x7x,q2,q3,q4,q6,q7,q14,q15,q16,f1]
  refine he _ _ ?_
  simp only[go_sem,q2,q3,q4,q6,q7,hB,z0a (p1041 _ _),z0a p1027,z0a (p1042 _),decide_true]
  rw[z0h rfl (by simp[z1j,AV.cv,cvL,AV.ids,idsL,z0c z1v,z0c z2l])]
  exact hT _
end
theorem v3l {k f:Nat} {args args':List AV} {h:List AObj} {clk:Nat} {af:AFun} (hext:Gam.ext f=none) (hfn:Gam.fn f=some af) (hb:af.byref=[]) (ho:z3x args=[]) (ho':z3x args'=[]) (hc:cvL args=cvL args'):z5c Gam k f args h clk=z5c Gam k f args' h clk:=by
 unfold z5c z0o
 simp only[hext,hfn,hb,z1p ho,z1p ho',z4s ho,z4s ho',hc]
theorem GenOk.cv {l:List Int} {f:Nat} {args args':List AV} {R:AV→Prop} {af:AFun} (hext:Gam.ext f=none) (hfn:Gam.fn f=some af) (hb:af.byref=[]) (ho:z3x args=[]) (ho':z3x args'=[]) (hc:cvL args=cvL args') (hg:GenOk l f args R):GenOk l f args' R:=by
 intro h s g i clk Q hs hi hQ
 have o1:z3x (.ptr s g 0 0::args)=[]:=by simp[z3x,AV.obs,ho]
 have o2:z3x (.ptr s g 0 0::args')=[]:=by simp[z3x,AV.obs,ho']
 have o3:cvL (.ptr s g 0 0::args)=cvL (.ptr s g 0 0::args'):=by simp[cvL,hc]
 obtain⟨h1,h2⟩:=hg h s g i clk Q hs hi hQ
 refine⟨?_, ?_⟩
 ·obtain⟨k,v,h',c,h3,h4⟩:=h1
  exact⟨k,v,h',c,(v3l hext hfn hb o1 o2 o3) ▸ h3,h4⟩
 ·rw[←h2]
  unfold z0y
  simp only[hext,hfn,hb,z1p o1,z1p o2,o1,o2,o3]
theorem v3m {l:List Int} {V:List Var} {u:Tip} (hl:q4y l) (hV:V.length≤400):GenOk l 42 [.int .i64 2, .sl (V.map z1k) u] (x0x V 1 6 396):=by
 have h:=(q2f hl hV (v7a hl) 2 (by omega)).2
 refine GenOk.cv (args:=[nat 2, .sl (V.map z1k) .no]) rfl w2d rfl (by simp[z3x,AV.obs,nat]) (by simp[z3x,AV.obs]) (by simp[cvL,AV.cv,nat]) h
theorem v3n:Pure Gam 41 [.int .i64 0] (.str []):=by
 refine Pure.of rfl y8w rfl rfl rfl (az:=[.int .i64 0]) rfl (by simp[idsL,AV.ids]) fun D B clk T hB hT=> ?_
 simp only[go_sem,v7s,hB,decide_true]
 rw[z2n rfl (by simp[AV.cv,AV.ids])]
 exact hT _
def x7y:List (List Nat):=[[117],[118],[121,48],[121,49],[107],[109],[110],[111],[114],[115],[116],[104]]
theorem g5w {h:List AObj}:bsV h (.str []) 12 [0,1,2,3,4,5,6,7,8,9,10,11] [.str [117], .str [118], .str [121,48], .str [121,49], .str [107], .str [109], .str [110], .str [111], .str [114], .str [115], .str [116], .str [104]]=some (.sl (z2s x7y) .full,h):=(rfl)
theorem v3o {n:Nat} (hn:n < 3) {h:List AObj} {k:IntKind}:z1m h 1 (.sl (z2s x7y) .full) (.int k (n:Int))=some (.iptr [.str (q1w[n]'hn)] 0,h):=by
 rw[z7s (l:=x7y) (by simp[x7y];omega)]
 have:n=0∨n=1∨n=2:=by omega
 rcases this with rfl | rfl | rfl <;> rfl
theorem q2u {f:Func} (hf:f∈allPreds):(z4e f).length=f.args.length∧f.args.length≤3:=by
 have h1:=congrArg List.length (j7h _ hf).2.2.2
 have h2:=(j7h _ hf).2.2.1
 rw[z6] at h1
 omega
theorem x7z {f:Func} (hf:f∈allPreds) {k:Nat} (hk:k < f.args.length) (h3:k < 3):((z4e f).take k).map z1k++[(⟨q1w[k]'h3,f.args[k]⟩:Var)].map z1k=((z4e f).take (k + 1)).map z1k:=by
 have hl:=q2u hf
 rw[w8 (by omega),v5]
 congr 2
 simp[z4e]
 rfl
theorem w6r {s:Sys} {f:Func} {B clk g0 g1 g2 g3 ip g jp i:Nat} {D:List AObj} {a1 a2:AV} {o4 o5 o6 o7 o8 oc:AObj} {ts:Tmps} {ks:List Kf} {Q:Post} (hB:D.length=B) (hf:f∈allPreds) (hi:i < s.preds.length) (hfi:s.preds[i]=f) (h2:ts 2= .ptr (B + 0) g0 0 0) (h4:ts 4= .ptr (B + 1) g1 0 0) (h5:ts 5= .ptr ip g jp 0) (h6:ts 6= .ptr (B + 2) g2 0 0) (h7:ts 7= .int .i64 (i:Int)) (h8:ts 8= .ptr (B + 3) g3 0 0) (h9:ts 9= .int .i64 0) (ht6:z8x B 6 o6 .nil 2)
  (hQ:∀ (ts':Tmps) (t:Tip) (o4 o5 o6:AObj) (clk':Nat),ts' 2= .ptr (B + 0) g0 0 0→ts' 4= .ptr (B + 1) g1 0 0→ts' 5= .ptr ip g jp 0→ts' 6= .ptr (B + 2) g2 0 0→ts' 7= .int .i64 (i:Int)→ts' 8= .ptr (B + 3) g3 0 0→K Gam B (.exit 2) ks ⟨ts',D++[.blk g0 [z2i s] false false 0, .blk g1 [a1] false false 0, .blk g2 [a2] false false 0, .blk g3 [.agg [.str f.name, .sl ((z4e f).map z1k) t, .sl [] .nil]] false false 0,o4,o5,o6,o7,o8,oc],clk'⟩ Q):
  K Gam B (.loop x7o) ks ⟨ts,D++[.blk g0 [z2i s] false false 0, .blk g1 [a1] false false 0, .blk g2 [a2] false false 0, .blk g3 [.agg [.str f.name, .sl [] .nil, .sl [] .nil]] false false 0,o4,o5,o6,o7,o8,oc],clk⟩ Q:=by
 have hl:=q2u hf
 have hix:=fun h=>z7f (l:=s.preds) (i:=i) (h:=h) (t:= .no) (k:= .i64) hi
 rw[hfi] at hix
 refine z3t f.args.length (by omega) (fun k q=>∃ (t:Tip) (o4 o5 o6:AObj),q.ts 2= .ptr (B + 0) g0 0 0∧q.ts 4= .ptr (B + 1) g1 0 0∧q.ts 5= .ptr ip g jp 0∧q.ts 6= .ptr (B + 2) g2 0 0∧q.ts 7= .int .i64 (i:Int)∧q.ts 8= .ptr (B + 3) g3 0 0∧q.ts 9= .int .i64 (k:Int)∧q.h=D++[.blk g0 [z2i s] false false 0, .blk g1 [a1] false false 0, .blk g2 [a2] false false 0, .blk g3 [.agg [.str f.name, .sl (((z4e f).take k).map z1k) t, .sl [] .nil]] false false 0,o4,o5,o6,o7,o8,oc]∧z8x B 6 o6 t 2) ⟨.nil,_,_,_,h2,h4,h5,h6,h7,h8,h9,rfl,ht6⟩ ?_ ?_
 ·clear h2 h4 h5 h6 h7 h8 h9
  rintro k hlt f1 f2 ts h clk P ⟨t,o4,o5,o6,q2,q4,q5,q6,q7,q8,q9,rfl,ht⟩ hnx he hr
  dsimp only at q2 q4 q5 q6 q7 q8 q9
  have h3:k < 3:=by omega
  have e8:=x7z hf hlt h3
  have hn:=fun h=>v3o (k:= .i64) (h:=h) h3
  have hrem:∀ h,z7i h .rem (.one .int) (.int .i64 (k:Int)) (.int .i64 12)=some (.int .i64 (k:Int),h):=fun h=>by
   rw[q1v (by decide),Int.tmod_eq_of_lt (by omega) (by omega)]
  have hquo:∀ h,z7i h .quo (.one .int) (.int .i64 (k:Int)) (.int .i64 12)=some (.int .i64 0,h):=fun h=>by
   rw[q3q (by decide),Int.tdiv_eq_zero_of_lt (by omega) (by omega)]
   rfl
  have hai:∀ h,z1m h 1 (.sl (f.args.map nat) .no) (.int .i64 (k:Int))=some (.iptr [.int .i64 (f.args[k]:Int)] 0,h):=fun h=>z3a hlt rfl rfl
  have ha:∀ h,z7i h .add (.one .str) (.str (q1w[k]'h3)) (.str [])=some (.str (q1w[k]'h3),h):=fun h=>by
   rw[q7z (by
    have:k=0∨k=1∨k=2:=by omega
    rcases this with rfl | rfl | rfl <;> simp[q1w]),u5]
  generalize f.args[k]=so at *
  generalize q1w[k]=nm at *
  simp only[go_sem,x7o,z2i,q2,q4,q5,q6,q7,q8,q9,hB,f1,z1a,z6,hix,g5w,hrem,hquo,hn,hai,z0a v3n,ha]
  rw[show [AV.agg [.str nm, .int .i64 (so:Int)]]=[(⟨nm,so⟩:Var)].map z1k from rfl,z0q hB rfl ht z3w z3w (by simp only[z6,w0,b6];omega),e8]
  simp only[go_sem,q2,q4,q5,q6,q7,q8,q9,hB,f2]
  refine⟨by simp[z1b,apart,z0j,z0z,z1d,AOp.isCall,hB,AV.ids,idsL,z0x,z0c z5g,z0c (fun _=>z3j)], ?_⟩
  exact hnx _ ⟨_,_,_,_,q2,q4,q5,q6,q7,q8,rfl,rfl, .inr (.inr ⟨_,rfl,rfl⟩)⟩
 ·clear h2 h4 h5 h6 h7 h8 h9
  rintro f1 ts h clk P ⟨t,o4,o5,o6,q2,q4,q5,q6,q7,q8,q9,rfl,ht⟩ he hr
  dsimp only at q2 q4 q5 q6 q7 q8 q9
  rw[List.take_of_length_le (Nat.le_of_eq hl.1)]
  simp only[go_sem,x7o,z2i,q2,q4,q5,q6,q7,q8,q9,hB,f1,z1a,z6,hix]
  exact he _ _ (hQ _ t _ _ _ _ (by simp[z0b,q2]) (by simp[z0b,q4]) (by simp[z0b,q5]) (by simp[z0b,q6]) (by simp[z0b,q7]) (by simp[z0b,q8]))
structure ModOk (s:Sys) (m:List Def):Prop where
 defs:∀ d∈m,DOk d
 names:m.map (·.pred)=s.preds.map (·.name)
 nar:∀ d∈m,GT d.params 1 6 396 d.body
theorem v3p {V:List Var} {b:Bool}:GT V 1 6 396 (v2g b):=by
 have h1:GT V 1 1 1 (v2g b):=by
  cases b
  ·exact GT.leaf (.bool (.inr rfl)) rfl (by omega) (by omega)
  ·exact GT.leaf (.bool (.inl rfl)) rfl (by omega) (by omega)
 exact h1.up (by omega) (by omega)
theorem j7v {n:List Nat} {p:List Var} {b:Term}:[AV.agg [.str n, .sl (p.map z1k) .no, .sl (b.map eNode) .no]]=[(⟨n,p,b⟩:Def)].map z5l:=rfl
theorem x2j {α:Type} {P:α→Prop} {l:List α} {a:α} (h:∀ x∈l,P x) (ha:P a):∀ x∈l++[a],P x:=fun x hx=>by
 rw[j6,u7] at hx
 rcases hx with hx | rfl
 ·exact h x hx
 ·exact ha
theorem u0t {s:Sys} {zs:List Int} {u:Tip} {h:List AObj} {clk:Nat} {Q:AV→List AObj→Nat→Prop} (hs:SysV s) (hz:∀ z∈zs, -9223372036854775808≤z∧z≤9223372036854775807) (hQ:∀ m,ModOk s m→Q (z9v m) h clk):WC Gam 13 [z2i s, .sl (q3k zs) u] h clk Q:=by
 have hl:q4y (zs.take 400):=⟨by simp;omega,fun z h=>hz z (m9 h)⟩
 have hpl:=hs.pl
 refine x0l rfl y8v rfl rfl rfl (az:=[z2i s, .sl (q3k zs) .no]) rfl (by simp[idsL,z3n,AV.ids,q3d]) fun D B T hB hT=> ?_
 simp only[go_sem,v7r,hB,z2i]
 refine j5e fun g c=> ?_
 have e0:∀ x0 x1 x2 x3 x4 x5 x6 x7 x8:AObj,(D++[x0,x1,x2,x3,x4,x5,x6,x7,x8]).length=B + 9:=fun _ _ _ _ _ _ _ _ _=>by simp[hB]
 have e1:∀ x0 x1 x2 x3 x4 x5 x6 x7 x8 o:AObj,(D++[x0,x1,x2,x3,x4,x5,x6,x7,x8])++[o]=D++[x0,x1,x2,x3,x4,x5,x6,x7,x8,o]:=fun _ _ _ _ _ _ _ _ _ _=>by simp
 rw[e0,e1]
 clear e0 e1
 generalize zs.take 400=l at hl
 simp only[go_sem,hB]
 refine z3t s.preds.length (by omega) (fun i q=>∃ (g0 g1 g2:Nat) (acc:List Def) (t:Tip) (o3 o4 o5 o6 o7 o8:AObj) (j:Nat),(∀ d∈acc,g1z d)∧acc.map (·.pred)=(s.preds.take i).map (·.name)∧j≤l.length∧q.ts 2= .ptr (B + 0) g0 0 0∧q.ts 4= .ptr (B + 1) g1 0 0∧q.ts 5= .ptr (B + 9) g 0 0∧q.ts 6= .ptr (B + 2) g2 0 0∧q.ts 7= .int .i64 (i:Int)∧q.h=D++[.blk g0 [z2i s] false false 0, .blk g1 [.agg [.sl [] .nil]] false false 0, .blk g2 [.agg [.sl (acc.map z5l) t]] false false 0,o3,o4,o5,o6,o7,o8,z3d g l j]∧z8x B 8 o8 t 3) ⟨_,_,_,[], .nil,_,_,_,_,_,_,0,by simp,by simp,Nat.zero_le _,rfl,rfl,rfl,rfl,rfl,rfl, .inl rfl⟩ ?_ ?_
 ·rintro i hlt f1 f2 ts h clk P ⟨g0,g1,g2,acc,t,o3,o4,o5,o6,o7,o8,j,hacc,hnm,hj,q2,q4,q5,q6,q7,rfl,ht⟩ hnx he hr
  dsimp only at q2 q4 q5 q6 q7
  have hix:=fun h=>z7f (l:=s.preds) (i:=i) (h:=h) (t:= .no) (k:= .i64) hlt
  have hf:=hs.preds.mem (j9 hlt)
  have hal:acc.length≤5:=by
   have:=congrArg List.length hnm
   simp only[z6,b6] at this
   omega
  have hnm1:∀ d:Def,d.pred=s.preds[i].name→(acc++[d]).map (·.pred)=(s.preds.take (i + 1)).map (·.name):=fun d hd=>by
   rw[w8 hlt,v5,v5,hnm,List.map_singleton,List.map_singleton,hd]
  have hpl:=q2u hf
  generalize hfi:s.preds[i]=f at *
  simp only[go_sem,j3o,z2i,q2,q4,q5,q6,q7,hB,f1,z6,hix]
  refine w6r (s:=s) (f:=f) (ip:=B + 9) (g:=g) (jp:=0) hB hf hlt hfi (by simp[z0b,q2]) (by simp[z0b,q4]) (by simp[z0b,q5]) (by simp[z0b,q6]) (by simp[z0b,q7]) (by simp[z0b]) (by simp[z0b]) (.inl rfl) fun ts' u o4 o5 o6 clk' r2 r4 r5 r6 r7 r8=> ?_
  have hG:=v3m (l:=l) (V:=z4e f) (u:=u) hl (by omega)
  simp only[go_sem,z2i,r2,r4,r5,r6,r7,r8,hB]
  refine z4m (k:=9) hG hB rfl hj ?_
  rintro v j2 ⟨b,rfl,hb⟩ hj2
  simp only[go_sem,z0k,r2,r4,r5,r6,r7,r8,hB]
  refine z4m (k:=9) (z3u hl (by decide) (by decide)) hB rfl hj2 ?_
  rintro v j3 ⟨r,rfl,hr1,hr2⟩ hj3
  simp only[go_sem,r2,r4,r5,r6,r7,r8,hB]
  have fin:∀ (b:Term),GT (z4e f) 1 6 396 b→g1z ⟨f.name,z4e f,b⟩:=fun b hb=>⟨⟨f,hf,rfl,rfl,hb.up (by omega) (by omega)⟩,hb⟩
  refine z8p (fun hc=> ?_) (fun hc=> ?_)
  ·simp only[go_sem,r2,r4,r5,r6,r7,r8,hB]
   refine z4m (k:=9) (z3u hl (by decide) (by decide)) hB rfl hj3 ?_
   rintro v j4 ⟨q,rfl,hq1,hq2⟩ hj4
   have p141:Pure Gam 43 [.bool (decide (0 < q))] (.sl ((v2g (decide (0 < q))).map eNode) .no):=x6a
   have hd:=fin _ (v3p (b:=decide (0 < q)))
   generalize v2g (decide (0 < q))=bt at *
   simp only[go_sem,r2,r4,r5,r6,r7,r8,hB,z0a p141]
   rw[j7v (n:=f.name) (p:=z4e f) (b:=bt),z0q hB rfl ht z6z z6z (by simp only[z6,w0];omega),←v5]
   simp only[go_sem,r2,r4,r5,r6,r7,r8,hB,f2]
   exact hnx _ ⟨_,_,_,_,_,_,_,_,_,_,_,j4,x2j hacc hd,hnm1 _ rfl,hj4,r2,r4,r5,r6,rfl,rfl, .inr (.inr ⟨_,rfl,rfl⟩)⟩
  ·simp only[go_sem,r2,r4,r5,r6,r7,r8,hB]
   have hd:=fin _ hb
   rw[j7v (n:=f.name) (p:=z4e f) (b:=b),z0q hB rfl ht z6z z6z (by simp only[z6,w0];omega),←v5]
   simp only[go_sem,r2,r4,r5,r6,r7,r8,hB,f2]
   exact hnx _ ⟨_,_,_,_,_,_,_,_,_,_,_,j3,x2j hacc hd,hnm1 _ rfl,hj3,r2,r4,r5,r6,rfl,rfl, .inr (.inr ⟨_,rfl,rfl⟩)⟩
 ·rintro f1 ts h clk P ⟨g0,g1,g2,acc,t,o3,o4,o5,o6,o7,o8,j,hacc,hnm,hj,q2,q4,q5,q6,q7,rfl,ht⟩ he hr
  dsimp only at q2 q4 q5 q6 q7
  rw[u4] at hnm
  simp only[go_sem,j3o,z2i,q2,q4,q5,q6,q7,hB,f1,z6]
  refine he _ _ ?_
  simp only[go_sem,q2,q4,q6,hB,z0m,z0l,z0f]
  rw[z2n rfl (by simp[AV.cv,cvL,AV.ids,idsL,z0c z6e])]
  exact hT _ _ (hQ acc ⟨fun d hd=>(hacc d hd).1,hnm,fun d hd=>(hacc d hd).2⟩)
theorem v3q {s:Sys} {m:List Def} {u:Tip} (hs:SysV s) (hm:∀ d∈m,DOk d) (hl:m.length≤1000) (hsh:z5s s m=true):Pure Gam 65 [z2i s, .agg [.sl (m.map z5l) u], .int .i64 0] (.tup [z9v m, .int .i64 0]):=by
 have p:=j7i hs hm hl
 rw[hsh] at p
 rw[z2i,z9v] at p
 refine Pure.of rfl y9t rfl rfl rfl (az:=[z2i s,z9v m, .int .i64 0]) rfl (by simp[idsL,z3n,q4w,AV.ids]) fun D B clk T hB hT=> ?_
 rw[z9v] at hT
 simp only[go_sem,v8h,hB,z2i,z9v,decide_true,z7,z0a p,z0m,z0l,z0f]
 rw[z0h rfl (by simp[z1j,AV.cv,cvL,AV.ids,idsL,z0c z6e])]
 exact hT _
theorem j3s {s:Sys} {x:Tf} (h:(z5i s x).2=0):(z5i s x).1=merged s x∧MOk s x:=by
 unfold z5i at h⊢
 split at h
 ·cases h
 ·split at h
  ·cases h
  ·rename_i h1 h2
   rw[if_neg h1,if_neg h2]
   exact⟨rfl,Classical.not_not.1 h2⟩
def k6s (x:Tf) (b:Term) (d:Def):Def:=if d.pred=x.into then ⟨d.pred,d.params,j0w d.body b⟩ else d
def w6s (x:Tf) (m:List Def):List Def:=m.filter fun d=> !decide (d.pred=x.pred)
def q8i (x:Tf) (b:Term) (m:List Def):List Def:=(w6s x m).map (k6s x b)
def k6t (s:Sys) (x:Tf) (m:List Def):List Def×Int:=
 if (z5i s x).2≠0 then ([],(z5i s x).2) else if z5s s m=false then ([],1) else (q8i x (z5y m x.pred).body m,0)
theorem k0l {s:Sys} {x:Tf} {m:List Def} (hsh:m.map (·.pred)=s.preds.map (·.name)):(w6s x m).map (·.pred)=(q6i x s.preds).map (·.name):=by
 have:=congrArg (List.filter fun n=> !decide (n=x.pred)) hsh
 rw[List.filter_map,List.filter_map] at this
 exact this
theorem j0y {x:Tf} {b:Term} {d:Def}:(k6s x b d).pred=d.pred:=by unfold k6s;split <;> rfl
theorem q7k {s:Sys} {x:Tf} {b:Term} {m:List Def} (hsh:m.map (·.pred)=s.preds.map (·.name)):(q8i x b m).map (·.pred)=(q6i x s.preds).map (·.name):=by
 rw[←k0l hsh,q8i,List.map_map]
 exact List.map_congr_left fun d _=>j0y
theorem q4x {d o:Def} (hd:DOk d) (ho:DOk o) (h1:d.pred=[80]) (h2:o.pred=[78]):o.params=d.params:=by
 rw[(hd.at (f:=⟨[80],[2],1⟩) (by decide) h1).1,(ho.at (f:=⟨[78],[2],1⟩) (by decide) h2).1]
 rfl
theorem k6u {x:Tf} {m:List Def} {o:Def} (hx:x.into=[80]) (hm:∀ d∈m,DOk d) (hn:∀ d∈m,GT d.params 1 6 396 d.body) (ho:o∈m) (hop:o.pred=[78]):∀ d∈q8i x o.body m,DOk d:=by
 intro d hd
 obtain⟨e,he,rfl⟩:=y8.1 hd
 have hem:=(List.mem_filter.1 he).1
 unfold k6s
 split
 ·rename_i h
  obtain⟨f,hf,h1,h2,_⟩:=hm e hem
  have hp:=q4x (hm e hem) (hm o ho) (by rw[h,hx]) hop
  have hg:=hn o ho
  rw[hp] at hg
  exact⟨f,hf,h1,h2,((hn e hem).and hg).up (by omega) (by omega)⟩
 ·exact hm e hem
end
end Go.Proofs.YtkollgjffkdliaaGreatDoor.Am
