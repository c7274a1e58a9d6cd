/- Walking: clauses are compared Walking: small values, told exactly Functions of the abstract machine's program Walking: what becomes of a model Walking: models are mapped Walking: models are mapped Wal -/
import Derived.Test.YtkollgjffkdliaaGreatDoorM37
set_option linter.all false
namespace Go.Proofs.YtkollgjffkdliaaGreatDoor.Am
open Go
set_option maxRecDepth 100000
theorem w5x {a b:List Var} {u v:Tip} (hl:a.length≤20000):Pure Gam 56 [.sl (a.map z1h) u, .sl (b.map z1h) v] (.bool (decide (a=b))):=by
 refine Pure.of rfl g3b rfl rfl rfl (az:=[.sl (a.map z1h) .no, .sl (b.map z1h) .no]) rfl (by simp[idsL,AV.ids,z0d z2z]) fun D B clk T hB hT=> ?_
 cases hlen:decide (a.length=b.length) with
 | false=>
   rw[x7y hlen] at hT
   simp only[go_sem,u5z,hB,List.length_map,q3g,hlen,Bool.not_false]
   rw[z0e]
   exact hT _
 | true=>
   have hlen':=of_decide_eq_true hlen
   simp only[go_sem,u5z,hB,List.length_map,q3g,hlen,Bool.not_true]
   refine z6k a.length (by omega) (fun i q=>a.take i=b.take i∧q.ts 0= .sl (a.map z1h) .no∧q.ts 1= .sl (b.map z1h) .no∧q.ts 5= .int .i64 (i:Int)) ⟨by simp,rfl,rfl,rfl⟩ ?_ ?_
   ·rintro i hlt f1 f2 ts h clk P ⟨he0,q0,q1,q5⟩ hnx he hr
    dsimp only at q0 q1 q5
    have hlt2:i < b.length:=by omega
    cases hc:decide (a[i]=b[i]) with
    | true=>
      simp only[go_sem,v2o,q0,q1,q5,f1,f2,List.length_map,z5n hlt,z5n hlt2,nat,k7c,hc,Bool.not_true]
      exact hnx _ ⟨k6r hlt hlt2 he0 (of_decide_eq_true hc),q0,q1,rfl⟩
    | false=>
      simp only[go_sem,v2o,q0,q1,q5,f1,f2,List.length_map,z5n hlt,z5n hlt2,nat,k7c,hc,Bool.not_false]
      refine hr _ ?_
      rw[decide_eq_false fun e:a=b=>of_decide_eq_false hc (by simp only[e])] at hT
      simp only[go_sem,]
      rw[z0e]
      exact hT _
   ·rintro f1 ts h clk P ⟨he0,q0,q1,q5⟩ he hr
    dsimp only at q0 q1 q5
    simp only[go_sem,v2o,q0,q1,q5,f1,List.length_map]
    refine he _ _ ?_
    rw[List.take_length,hlen',List.take_length] at he0
    rw[decide_eq_true he0] at hT
    simp only[go_sem,]
    rw[z0e]
    exact hT _
theorem v4c {a b:List Term} {u v:Tip} (hl:a.length≤20000) (ht:∀ t∈a,t.length≤20000):Pure Gam 109 [.sl (a.map z0n) u, .sl (b.map z0n) v] (.bool (decide (a=b))):=by
 refine Pure.of rfl u6b rfl rfl rfl (az:=[.sl (a.map z0n) .no, .sl (b.map z0n) .no]) rfl (by simp[idsL,AV.ids,z0d z3n]) fun D B clk T hB hT=> ?_
 cases hlen:decide (a.length=b.length) with
 | false=>
   rw[x7y hlen] at hT
   simp only[go_sem,w4x,hB,List.length_map,q3g,hlen,Bool.not_false]
   rw[z0e]
   exact hT _
 | true=>
   have hlen':=of_decide_eq_true hlen
   simp only[go_sem,w4x,hB,List.length_map,q3g,hlen,Bool.not_true]
   refine z6k a.length (by omega) (fun i q=>a.take i=b.take i∧q.ts 0= .sl (a.map z0n) .no∧q.ts 1= .sl (b.map z0n) .no∧q.ts 5= .int .i64 (i:Int)) ⟨by simp,rfl,rfl,rfl⟩ ?_ ?_
   ·rintro i hlt f1 f2 ts h clk P ⟨he0,q0,q1,q5⟩ hnx he hr
    dsimp only at q0 q1 q5
    have hlt2:i < b.length:=by omega
    have hx:∀ h,z1p h 1 (.sl (a.map z0n) .no) (.int .i64 (i:Int))=some (.iptr [.sl (a[i].map eNode) .no] 0,h):=fun h=>q1s hlt
    have hy:∀ h,z1p h 1 (.sl (b.map z0n) .no) (.int .i64 (i:Int))=some (.iptr [.sl (b[i].map eNode) .no] 0,h):=fun h=>q1s hlt2
    have p1:=k7b (t:=a[i]) (u:=b[i]) (v:= .no) (w:= .no) (ht _ (List.getElem_mem hlt))
    cases hc:decide (a[i]=b[i]) with
    | true=>
      rw[hc] at p1
      simp only[go_sem,j0t,q0,q1,q5,f1,f2,List.length_map,hx,hy,z0a p1,Bool.not_true]
      exact hnx _ ⟨k6r hlt hlt2 he0 (of_decide_eq_true hc),q0,q1,rfl⟩
    | false=>
      rw[hc] at p1
      simp only[go_sem,j0t,q0,q1,q5,f1,f2,List.length_map,hx,hy,z0a p1,Bool.not_false]
      refine hr _ ?_
      rw[decide_eq_false fun e:a=b=>of_decide_eq_false hc (by simp only[e])] at hT
      simp only[go_sem,]
      rw[z0e]
      exact hT _
   ·rintro f1 ts h clk P ⟨he0,q0,q1,q5⟩ he hr
    dsimp only at q0 q1 q5
    simp only[go_sem,j0t,q0,q1,q5,f1,List.length_map]
    refine he _ _ ?_
    rw[List.take_length,hlen',List.take_length] at he0
    rw[decide_eq_true he0] at hT
    simp only[go_sem,]
    rw[z0e]
    exact hT _
theorem k7e {a b:App} (ha:a.args.length≤20000∧∀ t∈a.args,t.length≤20000):Pure Gam 58 [z3u a,z3u b] (.bool (decide (a=b))):=by
 have e0:decide (a=b)=(decide (a.pred=b.pred) && decide (a.args=b.args)):=by cases a;cases b;simp
 have p1:=v4c (a:=a.args) (b:=b.args) (u:= .no) (v:= .no) ha.1 ha.2
 rw[e0]
 refine Pure.of rfl g3c rfl rfl rfl (az:=[z3u a,z3u b]) rfl (by simp[idsL,z6d]) fun D B clk T hB hT=> ?_
 cases h:decide (a.pred=b.pred) <;> rw[h] at hT
 ·simp only[go_sem,u6a,hB,z3u,h]
  rw[z0e]
  exact hT _
 ·simp only[go_sem,u6a,hB,z3u,h,z0a p1]
  rw[z0e]
  exact hT _
theorem k7f {c d:Clause} (hc:CmpC c):Pure Gam 18 [z0h c,z0h d] (.bool (decide (c=d))):=by
 have p0:=w5x (a:=c.vars) (b:=d.vars) (u:= .no) (v:= .no) hc.vars
 have p1:=k7b (t:=c.guard) (u:=d.guard) (v:= .no) (w:= .no) hc.guard
 have p2:=k7e (a:=c.head) (b:=d.head) hc.head
 have hcb:=hc.body
 simp only[z3u] at p2
 rw[k7d]
 refine Pure.of rfl g3a rfl rfl rfl (az:=[z0h c,z0h d]) rfl (by simp[idsL,z4k]) fun D B clk T hB hT=> ?_
 cases hv:decide (c.vars=d.vars) with
 | false=>
   rw[hv] at p0 hT
   simp only[go_sem,w6k,hB,z0h,z0n,z0a p0,Bool.not_false]
   rw[z0e]
   exact hT _
 | true=>
 rw[hv] at p0 hT
 cases hl2:decide (c.body.length=d.body.length) with
 | false=>
   rw[x7y hl2,Bool.false_and,Bool.and_false] at hT
   simp only[go_sem,w6k,hB,z0h,z0n,z0a p0,Bool.not_true,List.length_map,q3g,hl2,Bool.not_false]
   rw[z0e]
   exact hT _
 | true=>
 cases hg:decide (c.guard=d.guard) with
 | false=>
   rw[hg,Bool.false_and,Bool.and_false,Bool.and_false] at hT
   rw[hg] at p1
   simp only[go_sem,w6k,hB,z0h,z0n,z0a p0,Bool.not_true,List.length_map,q3g,hl2,z0a p1,Bool.not_false]
   rw[z0e]
   exact hT _
 | true=>
 rw[hg] at p1
 cases hh:decide (c.head=d.head) with
 | false=>
   rw[hh,Bool.and_false,Bool.and_false,Bool.and_false] at hT
   rw[hh] at p2
   simp only[go_sem,w6k,hB,z0h,z0n,z0a p0,Bool.not_true,List.length_map,q3g,hl2,z0a p1,z0a p2,Bool.not_false]
   rw[z0e]
   exact hT _
 | true=>
 rw[hg,hh,Bool.and_true,Bool.and_true,Bool.true_and] at hT
 rw[hh] at p2
 have hlen':=of_decide_eq_true hl2
 simp only[go_sem,w6k,hB,z0h,z0n,z0a p0,Bool.not_true,List.length_map,q3g,hl2,z0a p1,z0a p2]
 refine z6k c.body.length (by omega) (fun i q=>∃ g0 g1:Nat,c.body.take i=d.body.take i∧q.ts 2= .ptr (B + 0) g0 0 0∧q.ts 3= .ptr (B + 1) g1 0 0∧q.ts 5= .int .i64 (i:Int)∧q.h=D++[.blk g0 [.agg [.sl (c.vars.map z1h) .no, .sl (c.body.map z3u) .no, .sl (c.guard.map eNode) .no, .str c.head.pred, .sl (c.head.args.map z0n) .no]] false false 0, .blk g1 [.agg [.sl (d.vars.map z1h) .no, .sl (d.body.map z3u) .no, .sl (d.guard.map eNode) .no, .str d.head.pred, .sl (d.head.args.map z0n) .no]] false false 0]) ⟨_,_,by simp,rfl,rfl,rfl,rfl⟩ ?_ ?_
 ·rintro i hlt f1 f2 ts h clk P ⟨g0,g1,he0,q2,q3,q5,rfl⟩ hnx he hr
  dsimp only at q2 q3 q5
  have hlt2:i < d.body.length:=by omega
  have hx:∀ h,z1p h 2 (.sl (c.body.map z3u) .no) (.int .i64 (i:Int))=some (.iptr [.str c.body[i].pred, .sl (c.body[i].args.map z0n) .no] 0,h):=fun h=>z2d hlt rfl rfl
  have hy:∀ h,z1p h 2 (.sl (d.body.map z3u) .no) (.int .i64 (i:Int))=some (.iptr [.str d.body[i].pred, .sl (d.body[i].args.map z0n) .no] 0,h):=fun h=>z2d hlt2 rfl rfl
  have p4:=k7e (a:=c.body[i]) (b:=d.body[i]) (hc.atoms _ (List.getElem_mem hlt))
  simp only[z3u] at p4
  cases hcc:decide (c.body[i]=d.body[i]) with
  | true=>
    rw[hcc] at p4
    simp only[go_sem,k6d,q2,q3,q5,hB,f1,f2,List.length_map,hx,hy,z0a p4,Bool.not_true]
    exact hnx _ ⟨g0,g1,k6r hlt hlt2 he0 (of_decide_eq_true hcc),q2,q3,rfl,rfl⟩
  | false=>
    rw[hcc] at p4
    simp only[go_sem,k6d,q2,q3,q5,hB,f1,f2,List.length_map,hx,hy,z0a p4,Bool.not_false]
    refine hr _ ?_
    rw[decide_eq_false fun e:c.body=d.body=>of_decide_eq_false hcc (by simp only[e])] at hT
    simp only[go_sem,]
    rw[z0e]
    exact hT _
 ·rintro f1 ts h clk P ⟨g0,g1,he0,q2,q3,q5,rfl⟩ he hr
  dsimp only at q2 q3 q5
  simp only[go_sem,k6d,q2,q3,q5,hB,f1,List.length_map]
  refine he _ _ ?_
  rw[List.take_length,hlen',List.take_length] at he0
  rw[decide_eq_true he0] at hT
  simp only[go_sem,]
  rw[z0e]
  exact hT _
def k7g (s:Nat) (v:AV):Prop:=∃ w:Val,v=eV w∧VOk 1 s w
theorem x2m {z:Int} (h:z.natAbs < 10):(dec z.natAbs).length≤45 * 1:=by rw[z7d h];simp
theorem w5y {s:Nat} (hs:s=2∨s=3) {z:Int} (h1: -2≤z) (h2:z≤3):k7g s (value s false (z0i z) [] []):=by
 refine⟨.num s (z4f z),by simp only[eV,Val.s,Val.b,Val.t,Val.l,z2b];rfl,rfl,hs,x4y,⟨x2m (by omega),by show (dec 1).length≤1;rw[z2f];simp⟩,fun _=>rfl⟩
theorem v4d {k i j:Nat} (hk:k < 3) (hi:i < 3) (hj:j < 3):k7g 4 (v0g k i j):=by
 unfold v0g
 split
 ·refine⟨.arr (k:Int) [], ?_,rfl,x2m (by omega), .nil,by simp,by simp⟩
  simp only[eV,Val.s,Val.b,Val.t,Val.l,z3j (k:=k) (by omega)]
  rfl
 ·rename_i h
  refine⟨.arr (k:Int) [((i:Int),(j:Int))], ?_,rfl,x2m (by omega),List.pairwise_singleton _ _,fun p hp=> ?_,by simp⟩
  ·simp only[eV,Val.s,Val.b,Val.t,Val.l,List.map_cons,List.map_nil,z3j (k:=k) (by omega),z3j (k:=i) (by omega),z3j (k:=j) (by omega)]
   rfl
  ·obtain rfl:=List.mem_singleton.1 hp
   exact⟨by dsimp only;omega,x2m (by dsimp only;omega),x2m (by dsimp only;omega)⟩
theorem y8p {l:List Int} {s:Nat} (hl:q6z l) (h1:1≤s) (h2:s≤4):GenOk l 16 [nat s] (k7g s):=by
 refine GenOk.of rfl u7i rfl rfl rfl rfl rfl fun D B p g i clk T hB hs hD hi hT=> ?_
 obtain rfl | hs23 | rfl:s=1∨(s=2∨s=3)∨s=4:=by omega
 ·simp only[go_sem,w1k,nat,hB,Int.reduceEq,decide_true,decide_false]
  refine z0p (z2x hl (by decide) (by decide)) hB hs hD hi ?_
  rintro v D' i' ⟨r,rfl,hr1,hr2⟩ hB' hD' hi'
  simp only[go_sem,hB',Int.reduceEq,decide_true,decide_false]
  rw[z2k rfl rfl]
  exact hT _ _ i' (by rw[z0w hB' hs];exact hD') hi' ⟨.bool _,rfl,rfl⟩
 ·have e1:decide ((s:Int)=1)=false:=by simp;omega
  have e2:decide ((s:Int)=4)=false:=by simp;omega
  simp only[go_sem,w1k,nat,hB,Int.reduceEq,e1,e2]
  refine z0p (z2x hl (by decide) (by decide)) hB hs hD hi ?_
  rintro v D' i' ⟨r,rfl,hr1,hr2⟩ hB' hD' hi'
  have e3:IntKind.i64.wrap (r - 2)=r - 2:=z0c (by omega) (by omega)
  simp only[go_sem,hB',e3]
  rw[z0a (z8i (by omega) (by omega))]
  simp only[go_sem,hB']
  rw[z2k rfl rfl]
  exact hT _ _ i' (by rw[z0w hB' hs];exact hD') hi' (w5y hs23 (by omega) (by omega))
 ·simp only[go_sem,w1k,nat,hB,Int.reduceEq,decide_true,decide_false]
  refine z0p (z2x hl (by decide) (by decide)) hB hs hD hi ?_
  rintro v D1 i1 ⟨r1,rfl,hr1,hr2⟩ hB1 hD1 hi1
  obtain⟨k,rfl⟩:∃ k:Nat,r1=k:=⟨r1.toNat,by omega⟩
  simp only[go_sem,hB1]
  rw[z0a (z8i (by omega) (by omega)),z3j (by omega)]
  simp only[go_sem,hB1,z1b]
  refine z0p (z2x hl (by decide) (by decide)) hB1 hs hD1 hi1 ?_
  rintro v D2 i2 ⟨r2,rfl,hr3,hr4⟩ hB2 hD2 hi2
  obtain⟨a,rfl⟩:∃ k:Nat,r2=k:=⟨r2.toNat,by omega⟩
  simp only[go_sem,hB2]
  rw[z0a (z8i (by omega) (by omega)),z3j (by omega)]
  simp only[go_sem,hB2]
  refine z0p (z2x hl (by decide) (by decide)) hB2 hs hD2 hi2 ?_
  rintro v D3 i3 ⟨r3,rfl,hr5,hr6⟩ hB3 hD3 hi3
  obtain⟨b,rfl⟩:∃ k:Nat,r3=k:=⟨r3.toNat,by omega⟩
  simp only[go_sem,hB3]
  rw[z0a (z8i (by omega) (by omega)),z3j (by omega)]
  simp only[go_sem,hB3]
  obtain⟨ks,vs,hv⟩:∃ ks vs,v0g k a b=value 4 false [48 + k] ks vs:=by
   unfold v0g
   split <;> exact⟨_,_,rfl⟩
  have hsm:=x9x (k:=k) (i:=a) (j:=b) (by omega) (by omega) (by omega)
  have htab:=x9w (k:=k) (i:=a) (j:=b) (by omega) (by omega) (by omega)
  have hw:=v4d (k:=k) (i:=a) (j:=b) (by omega) (by omega) (by omega)
  rw[hv] at hsm htab hw
  have hp:Pure Gam 49 [.agg [.int .i64 4, .bool false, .str [48 + k], .sl [] .nil, .sl [] .nil], .str [48 + a], .str [48 + b]] _:=Pure.tab (tab:=z6f) rfl rfl htab
  rw[z0a hp]
  simp only[go_sem,hB3,value,nat]
  refine⟨by simp[z1e,apart,z0l,z0z,z1i,AOp.isCall,hB1];omega, ?_⟩
  obtain⟨t,q1,q2,q3,q4,q5,q6⟩:=hsm
  rw[z2k (v:= .agg [.int .i64 4, .bool false, .str [48 + k], .sl ks .no, .sl vs .no]) rfl q5]
  exact hT _ _ i3 (by rw[z0w hB3 hs];exact hD3) hi3 hw
section
open Sh
set_option maxHeartbeats 0
noncomputable def g3l:AFun:=(fun (a:AFun) (_:Gam.fn 4=some a)=>a) _ (by conv=>lhs;reduce;simp only[Int.reduceOfNat,Int.reduceNegSucc])
noncomputable def x7z:ACode:=(fun (a:ACode) (_:fl [] (lp g3l 1)=a)=>a) _ (by conv=>lhs;reduce;simp only[Int.reduceOfNat,Int.reduceNegSucc])
attribute [local irreducible] x7z
noncomputable def j4j:ACode:=(fun (a:ACode) (_:fl [x7z] (lp g3l 0)=a)=>a) _ (by conv=>lhs;reduce;simp only[Int.reduceOfNat,Int.reduceNegSucc])
attribute [local irreducible] j4j
noncomputable def v8g:AFun:=(fun (a:AFun) (_:flF [j4j,x7z] g3l=a)=>a) _ (by conv=>lhs;reduce;simp only[Int.reduceOfNat,Int.reduceNegSucc])
theorem y8q:Gam.fn 4=some v8g:=by kernel_rfl
end
theorem x5f {un und:List (List Nat)} {c:Clause} (h:z7y un und c=some true):c.head.pred∉un∧c.head.pred∉und∧∀ a∈c.body,a.pred∉un∧a.pred∉und:=by
 unfold z7y at h
 split at h
 ·cases h
 ·split at h
  ·cases h
  ·rename_i h1 h2
   split at h
   ·cases h
   ·rename_i h3
    rw[not_or] at h2
    simp only[List.mem_append,not_or,List.any_eq_true,decide_eq_true_eq,not_exists,not_and] at h2 h3
    exact⟨h2.1.1,h2.1.2,fun a ha=>⟨h3 a ha,h2.2 a ha⟩⟩
theorem x5g {x:Tf} {ps:List Func} {f:Func}:f∈z3p x ps↔f∈ps∧f.name∉x.un∧f.name∉x.und:=by
 simp only[z3p,List.mem_filter,Bool.not_eq_true',Bool.or_eq_false_iff,decide_eq_false_iff_not]
theorem AppOk.keepX {x:Tf} {ps:List Func} {V:List Var} {a:App} (h:AppOk ps V a) (h1:a.pred∉x.un) (h2:a.pred∉x.und):AppOk (z3p x ps) V a:=by
 obtain⟨f,hf,hn,hl,ha⟩:=h
 exact⟨f,x5g.2 ⟨hf,hn ▸ h1,hn ▸ h2⟩,hn,hl,ha⟩
theorem k7h {s:Sys} {x:Tf} (hs:SysV s):SysV (z3x x s):=by
 refine⟨List.filter_sublist.trans hs.preds,Nat.le_trans (List.length_filter_le _ _) hs.len,fun c hc=> ?_⟩
 simp only[z3x,z6a,List.mem_filter,decide_eq_true_eq] at hc
 obtain⟨h1,h2,h3⟩:=x5f hc.2
 obtain⟨g1,g2,g3,g4,g5⟩:=hs.clauses c hc.1
 refine⟨g1,g2,fun a ha=>(g3 a ha).keepX (h3 a ha).1 (h3 a ha).2,g4, ?_⟩
 rcases g5 with g5 | g5
 ·exact .inl g5
 ·exact .inr (g5.keepX h1 h2)
theorem w5z:SysV x2b:=⟨List.nil_sublist _,by simp[x2b],by simp[x2b]⟩
theorem j7y {s:Sys} {x:Tf} (hs:SysV s):SysV (z4o s x).1:=by
 rcases j1a (s:=s) (x:=x) with h | h <;> rw[h]
 ·exact w5z
 ·exact k7h hs
theorem j1f {s:Sys} {x:Tf} (h:(z4o s x).2=0):(z4o s x).1=z3x x s:=by
 cases hu:q5c x with
 | false=>rw[z7p hu] at h;cases h
 | true=>
   by_cases hn:q7m s x
   ·cases hk:z7k x.un x.und s.clauses 0 [] with
    | none=>rw[z7q hu hn hk] at h;cases h
    | some out=>rw[z9m hu hn hk]
   ·rw[z6w hu hn] at h;cases h
def q2h (x:Tf) (n:List Nat):Bool:=decide (n∈x.un) || decide (n∈x.und)
def z6q (x:Tf) (m:List Def) (f:Func):Def:=if q2h x f.name=true then x5d f (decide (f.name∈x.un)) else x7t m f.name
noncomputable def j1g (s:Sys) (x:Tf) (m:List Def):List Def×Int:=
 if (z4o s x).2≠0 then ([],(z4o s x).2) else if z7i (z4o s x).1 m=false then ([],1) else (s.preds.map (z6q x m),0)
theorem j4k {x:Tf} {ps:List Func} {i:Nat} (hi:i < ps.length) (hg:q2h x ps[i].name=false):(z3p x ps)[(z3p x (ps.take i)).length]? =some ps[i]∧z3p x (ps.take (i + 1))=z3p x (ps.take i)++[ps[i]]:=by
 have hf:(!(decide (ps[i].name∈x.un) || decide (ps[i].name∈x.und)))=true:=by
  unfold q2h at hg
  rw[hg];rfl
 refine⟨?_, ?_⟩
 ·have e:ps=ps.take i++ps[i]::ps.drop (i + 1):=by rw[←List.drop_eq_getElem_cons hi,List.take_append_drop]
  have:z3p x ps=z3p x (ps.take i)++ps[i]::z3p x (ps.drop (i + 1)):=by
   conv=>lhs;rw[e]
   unfold z3p
   rw[List.filter_append,List.filter_cons,if_pos hf]
  rw[this,List.getElem?_append_right (Nat.le_refl _),Nat.sub_self]
  rfl
 ·unfold z3p
  rw[List.take_succ_eq_append_getElem hi,List.filter_append,List.filter_cons,if_pos hf]
  rfl
theorem k0o {x:Tf} {ps:List Func} {i:Nat} (hi:i < ps.length) (hg:q2h x ps[i].name=true):z3p x (ps.take (i + 1))=z3p x (ps.take i):=by
 unfold q2h at hg
 unfold z3p
 rw[List.take_succ_eq_append_getElem hi,List.filter_append,List.filter_cons,hg]
 simp
theorem k7i {x:Tf} {m:List Def} {ps:List Func} {i:Nat} (hi:i < ps.length):((ps.take i).map (z6q x m)).map z6x++[z6q x m ps[i]].map z6x=((ps.take (i + 1)).map (z6q x m)).map z6x:=by
 rw[List.take_succ_eq_append_getElem hi,List.map_append,List.map_append]
 rfl
theorem j7z {d:Def}:[AV.agg [.str d.pred, .sl (d.params.map z1h) .no, .sl (d.body.map eNode) .no]]=[d].map z6x:=rfl
theorem k7j {s:Sys} {x:Tf} {m:List Def} {B clk g0 gx g3 g5:Nat} {D:List AObj} {o2 o4 o6 o7 o8 o9 o10:AObj} {ts:Tmps} {ks:List Kf} {Q:Post} (hB:D.length=B) (hs:SysV s) (hx:TfS x) (hml:m.length≤1000) (hsh:m.map (·.pred)=(z3p x s.preds).map (·.name)) (h3:ts 3= .ptr (B + 0) g0 0 0) (h4:ts 4= .ptr (B + 1) gx 0 0) (h6:ts 6= .ptr (B + 3) g3 0 0) (h10:ts 10= .ptr (B + 5) g5 0 0) (h11:ts 11= .sl (m.map z6x) .no) (h35:ts 35= .sl (s.preds.map z0y) .no) (h36:ts 36= .int .i64 (s.preds.length:Int)) (h37:ts 37= .int .i64 0)
  (hQ:∀ (ts':Tmps) (t:Tip) (o6 o7 o8 o9 o10:AObj) (clk':Nat),ts' 6= .ptr (B + 3) g3 0 0→ts' 10= .ptr (B + 5) g5 0 0→K Gam B (.exit 1) ks ⟨ts',D++[.blk g0 [z2a s] false false 0, .blk gx [eTf x] false false 0,o2, .blk g3 [.agg [.sl [] .nil]] false false 0,o4, .blk g5 [.agg [.sl ((s.preds.map (z6q x m)).map z6x) t]] false false 0,o6,o7,o8,o9,o10],clk'⟩ Q):
  K Gam B (.loop q7n) ks ⟨ts,D++[.blk g0 [z2a s] false false 0, .blk gx [eTf x] false false 0,o2, .blk g3 [.agg [.sl [] .nil]] false false 0,o4, .blk g5 [.agg [.sl [] .nil]] false false 0,o6,o7,o8,o9,o10],clk⟩ Q:=by
 have hpl:=hs.pl
 have hnd:(m.map (·.pred)).Nodup:=by
  rw[hsh]
  exact hs.pr.nodup.sublist (List.filter_sublist.map _)
 have hlen:m.length=(z3p x s.preds).length:=by simpa using congrArg List.length hsh
 refine z6k s.preds.length (by omega) (fun i q=>∃ (t u:Tip) (o6 o7 o8 o9 o10:AObj),q.ts 3= .ptr (B + 0) g0 0 0∧q.ts 4= .ptr (B + 1) gx 0 0∧q.ts 6= .ptr (B + 3) g3 0 0∧q.ts 10= .ptr (B + 5) g5 0 0∧q.ts 11= .sl ((m.drop (z3p x (s.preds.take i)).length).map z6x) u∧q.ts 35= .sl (s.preds.map z0y) .no∧q.ts 36= .int .i64 (s.preds.length:Int)∧q.ts 37= .int .i64 (i:Int)∧q.h=D++[.blk g0 [z2a s] false false 0, .blk gx [eTf x] false false 0,o2, .blk g3 [.agg [.sl [] .nil]] false false 0,o4, .blk g5 [.agg [.sl (((s.preds.take i).map (z6q x m)).map z6x) t]] false false 0,o6,o7,o8,o9,o10]∧(z9p B 8 o8 t 3∨z9p B 10 o10 t 3)) ⟨.nil,_,_,_,_,_,_,h3,h4,h6,h10,h11,h35,h36,h37,rfl, .inl (.inl rfl)⟩ ?_ ?_
 ·clear h3 h4 h6 h10 h11 h35 h36 h37
  rintro i hlt f1 f2 ts h clk P ⟨t,u,o6,o7,o8,o9,o10,q3,q4,q6,q10,q11,q35,q36,q37,rfl,ht⟩ hnx he hr
  dsimp only at q3 q4 q6 q10 q11 q35 q36 q37
  have hix:=fun h=>z8q (l:=s.preds) (i:=i) (h:=h) (t:= .no) (k:= .i64) hlt
  have e8:=k7i (x:=x) (m:=m) hlt
  have hf:=hs.preds.mem (List.getElem_mem hlt)
  have hal:s.preds[i].args.length≤3:=by
   have h1:=congrArg List.length (x5b _ hf).2.2.2
   have h2:=(x5b _ hf).2.2.1
   simp at h1
   omega
  have p49:=v7h (x:=x) (a:=s.preds[i].name) hx.ok
  have p91:=x4v (l:=x.un) (a:=s.preds[i].name) (u:= .no) (by have:=hx.un;omega)
  have p1018:=v3f (f:=s.preds[i]) (b:=decide (s.preds[i].name∈x.un)) hal
  have hksk:=k0o (x:=x) hlt
  have hksp:=j4k (x:=x) hlt
  rw[eTf] at p49
  cases hg:q2h x s.preds[i].name with
  | true=>
    rw[z0y,z6x,nat] at p1018
    have hbd:z6q x m s.preds[i]=x5d s.preds[i] (decide (s.preds[i].name∈x.un)):=by rw[z6q,if_pos hg]
    have hg':=hg
    unfold q2h at hg'
    rw[hg'] at p49
    rw[hbd] at e8
    have hk:=hksk hg
    rw[←hk] at q11
    generalize x5d s.preds[i] (decide (s.preds[i].name∈x.un))=d at *
    generalize s.preds[i]=f at *
    simp only[go_sem,q7n,z2a,eTf,q3,q4,q6,q10,q11,q35,q36,q37,hB,f1,z1b,hix,z0a p49,z0a p91,z0a p1018]
    rw[j7z]
    refine z8j (q:=10) hB rfl rfl ht z5a z5a (by simp only[List.length_map,List.length_singleton,List.length_take];omega) fun L' hL=> ?_
    rw[e8]
    rcases hL with rfl | rfl
    all_goals
     simp only[go_sem,q3,q4,q6,q10,q11,q35,q36,q37,hB,f2]
     refine⟨by simp[z1e,apart,z0l,z0z,z1i,AOp.isCall,hB,AV.ids,idsL,z0q], ?_⟩
     exact hnx _ ⟨_,u,_,_,_,_,_,q3,q4,q6,q10,q11,q35,q36,rfl,rfl, .inl (.inr (.inr ⟨_,rfl,rfl⟩))⟩
  | false=>
    have hg':=hg
    unfold q2h at hg'
    rw[hg'] at p49
    obtain⟨hat,hk⟩:=hksp hg
    have hj:(z3p x (s.preds.take i)).length < m.length:=by
     rw[hlen]
     rw[List.getElem?_eq_some_iff] at hat
     exact hat.1
    have hname:m[(z3p x (s.preds.take i)).length].pred=s.preds[i].name:=by
     have h1:=congrArg (fun l=>l[(z3p x (s.preds.take i)).length]?) hsh
     simp only[List.getElem?_map,hat,Option.map_some] at h1
     rw[List.getElem?_eq_getElem hj] at h1
     simpa using h1
    have hbd:z6q x m s.preds[i]=m[(z3p x (s.preds.take i)).length]:=by
     rw[z6q,if_neg (by rw[hg];simp),←hname]
     exact q9g hj hnd
    have hkl:(z3p x (s.preds.take (i + 1))).length=(z3p x (s.preds.take i)).length + 1:=by rw[hk];simp
    have hdr:m.drop (z3p x (s.preds.take i)).length=m[(z3p x (s.preds.take i)).length]::m.drop (z3p x (s.preds.take (i + 1))).length:=by rw[hkl];exact List.drop_eq_getElem_cons hj
    rw[hbd] at e8
    rw[hdr] at q11
    generalize m[(z3p x (s.preds.take i)).length]=d at *
    generalize m.drop (z3p x (s.preds.take (i + 1))).length=rest at *
    have hix0:∀ h,z1p h 3 (.sl (z6x d::rest.map z6x) u) (.int .i64 0)=some (.iptr [.str d.pred, .sl (d.params.map z1h) .no, .sl (d.body.map eNode) .no] 0,h):=fun h=>x2h (l:=d::rest) (i:=0) (t:=u) (k:= .i64) (by simp)
    have hcut:∀ h,slV h (some 3) (.sl (z6x d::rest.map z6x) u) (some (.int .i64 1)) none none=some (.sl (rest.map z6x) (if u= .nil then .nil else u),h):=fun h=>x7n (n:=1) (xs:=z6x d::rest.map z6x) (by simp) rfl
    generalize s.preds[i]=f at *
    simp only[go_sem,q7n,z2a,eTf,q3,q4,q6,q10,q11,q35,q36,q37,hB,f1,z1b,hix,z0a p49,hix0]
    rw[j7z]
    refine z8j (q:=8) hB rfl rfl ht.symm z5a z5a (by simp only[List.length_map,List.length_singleton,List.length_take];omega) fun L' hL=> ?_
    rw[e8]
    rcases hL with rfl | rfl
    all_goals
     simp only[go_sem,q3,q4,q6,q10,q11,q35,q36,q37,hB,f2,hcut,Option.map_none]
     refine⟨by simp[z1e,apart,z0l,z0z,z1i,AOp.isCall,hB,AV.ids,idsL,z0q,z0d z8f,z0d z2z,z0d z2i], ?_⟩
     exact hnx _ ⟨_,_,_,_,_,_,_,q3,q4,q6,q10,rfl,q35,q36,rfl,rfl, .inr (.inr (.inr ⟨_,rfl,rfl⟩))⟩
 ·clear h3 h4 h6 h10 h11 h35 h36 h37
  rintro f1 ts h clk P ⟨t,u,o6,o7,o8,o9,o10,q3,q4,q6,q10,q11,q35,q36,q37,rfl,ht⟩ he hr
  dsimp only at q3 q4 q6 q10 q11 q35 q36 q37
  rw[List.take_length]
  simp only[go_sem,q7n,q3,q4,q6,q10,q11,q35,q36,q37,f1]
  exact he _ _ (hQ _ t _ _ _ _ _ _ (by simp[z0b,q6]) (by simp[z0b,q10]))
theorem v4e {s:Sys} {x:Tf} {m:List Def} (hs:SysV s) (hx:TfS x) (hm:∀ d∈m,DOk d) (hml:m.length≤1000):Pure Gam 14 [z2a s,eTf x,q2a m] (.tup [q2a (j1g s x m).1, .int .i64 (j1g s x m).2]):=by
 have p24:=k6j hs hx
 have p1016:=v3b (s:=(z4o s x).1) (m:=m) (j7y hs) hm hml
 have p1017:=v2u (m:=m) hml fun d hd=>(hm d hd).ok.s
 rw[z2a,eTf,z2a] at p24
 rw[z2a,q2a] at p1016
 rw[q2a] at p1017
 have hi:=z0d (l:=s.preds.map (z6q x m)) z8f
 have h0:=j1f (s:=s) (x:=x)
 refine Pure.of rfl y7r rfl rfl rfl (az:=[z2a s,eTf x,q2a m]) rfl (by simp[idsL,z2v,q1e hx.ok,q7o]) fun D B clk T hB hT=> ?_
 unfold j1g at hT
 by_cases he:(z4o s x).2=0
 ·rw[if_neg (not_not_intro he)] at hT
  rw[he] at p24
  cases hsh:z7i (z4o s x).1 m with
  | false=>
    rw[if_pos hsh] at hT
    rw[hsh] at p1016
    simp only[go_sem,j7o,hB,z2a,eTf,q2a,z0a p24,decide_true,Bool.not_true,z0a p1016,Bool.not_false,z0k,z0j,z0f]
    rw[z0g rfl (by simp[z1l,AV.cv,cvL,AV.ids,idsL])]
    exact hT _
  | true=>
    rw[if_neg (by rw[hsh];simp)] at hT
    rw[hsh] at p1016
    have hsh':m.map (·.pred)=(z3p x s.preds).map (·.name):=by
     unfold z7i at hsh
     rw[decide_eq_true_iff,h0 he] at hsh
     exact hsh
    simp only[go_sem,j7o,hB,z2a,eTf,q2a,z0a p24,decide_true,Bool.not_true,z0a p1016,z0a p1017,List.length_map]
    refine k7j (s:=s) (x:=x) (m:=m) hB hs hx hml hsh' rfl rfl rfl rfl rfl rfl rfl rfl fun ts' t o6 o7 o8 o9 o10 clk' r6 r10=> ?_
    simp only[go_sem,r6,r10,hB,z0k,z0j,z0f]
    rw[z0g rfl (by simp[-List.map_map,z1l,AV.cv,cvL,AV.ids,idsL,hi])]
    exact hT _
 ·rw[if_pos he] at hT
  simp only[go_sem,j7o,hB,z2a,eTf,q2a,z0a p24,decide_eq_false he,Bool.not_false,z0k,z0j,z0f]
  rw[z0g rfl (by simp[z1l,AV.cv,cvL,AV.ids,idsL])]
  exact hT _
theorem v4f {k f:Nat} {args args':List AV} {h:List AObj} {clk:Nat} {af:AFun} (hext:Gam.ext f=none) (hfn:Gam.fn f=some af) (hb:af.byref=[]) (ho:z4r args=[]) (ho':z4r args'=[]) (hc:cvL args=cvL args'):z5g Gam k f args h clk=z5g Gam k f args' h clk:=by
 unfold z5g z0o
 simp only[hext,hfn,hb,z1o ho,z1o ho',z4u ho,z4u ho',hc]
theorem GenOk.cv {l:List Int} {f:Nat} {args args':List AV} {R:AV→Prop} {af:AFun} (hext:Gam.ext f=none) (hfn:Gam.fn f=some af) (hb:af.byref=[]) (ho:z4r args=[]) (ho':z4r args'=[]) (hc:cvL args=cvL args') (hg:GenOk l f args R):GenOk l f args' R:=by
 intro h s g i clk Q hs hi hQ
 have o1:z4r (.ptr s g 0 0::args)=[]:=by simp[z4r,AV.obs,ho]
 have o2:z4r (.ptr s g 0 0::args')=[]:=by simp[z4r,AV.obs,ho']
 have o3:cvL (.ptr s g 0 0::args)=cvL (.ptr s g 0 0::args'):=by simp[cvL,hc]
 obtain⟨h1,h2⟩:=hg h s g i clk Q hs hi hQ
 refine⟨?_, ?_⟩
 ·obtain⟨k,v,h',c,h3,h4⟩:=h1
  exact⟨k,v,h',c,(v4f hext hfn hb o1 o2 o3) ▸ h3,h4⟩
 ·rw[←h2]
  unfold z1a
  simp only[hext,hfn,hb,z1o o1,z1o o2,o1,o2,o3]
theorem v4g {l:List Int} {V:List Var} {u:Tip} (hl:q6z l) (hV:V.length≤400):GenOk l 42 [.int .i64 2, .sl (V.map z1h) u] (x0u V 1 6 396):=by
 have h:=(q2s hl hV (v7c hl) 2 (by omega)).2
 refine GenOk.cv (args:=[nat 2, .sl (V.map z1h) .no]) rfl w1n rfl (by simp[z4r,AV.obs,nat]) (by simp[z4r,AV.obs]) (by simp[cvL,AV.cv,nat]) h
theorem v4h:Pure Gam 41 [.int .i64 0] (.str []):=by
 refine Pure.of rfl y7s rfl rfl rfl (az:=[.int .i64 0]) rfl (by simp[idsL,AV.ids]) fun D B clk T hB hT=> ?_
 simp only[go_sem,v7r,hB,decide_true]
 rw[z2k rfl (by simp[AV.cv,AV.ids])]
 exact hT _
def x8a:List (List Nat):=[[117],[118],[121,48],[121,49],[107],[109],[110],[111],[114],[115],[116],[104]]
theorem g3i {h:List AObj}:bsV h (.str []) 12 [0,1,2,3,4,5,6,7,8,9,10,11] [.str [117], .str [118], .str [121,48], .str [121,49], .str [107], .str [109], .str [110], .str [111], .str [114], .str [115], .str [116], .str [104]]=some (.sl (z1n x8a) .full,h):=(rfl)
theorem v4i {n:Nat} (hn:n < 3) {h:List AObj} {k:IntKind}:z1p h 1 (.sl (z1n x8a) .full) (.int k (n:Int))=some (.iptr [.str (q2g[n]'hn)] 0,h):=by
 rw[q0c (l:=x8a) (by simp[x8a];omega)]
 have:n=0∨n=1∨n=2:=by omega
 rcases this with rfl | rfl | rfl <;> rfl
theorem q3j {f:Func} (hf:f∈allPreds):(z4c f).length=f.args.length∧f.args.length≤3:=by
 have h1:=congrArg List.length (x5b _ hf).2.2.2
 have h2:=(x5b _ hf).2.2.1
 rw[List.length_map] at h1
 omega
theorem x8b {f:Func} (hf:f∈allPreds) {k:Nat} (hk:k < f.args.length) (h3:k < 3):((z4c f).take k).map z1h++[(⟨q2g[k]'h3,f.args[k]⟩:Var)].map z1h=((z4c f).take (k + 1)).map z1h:=by
 have hl:=q3j hf
 rw[List.take_succ_eq_append_getElem (by omega),List.map_append]
 congr 2
 simp[z4c]
 rfl
theorem w6a {s:Sys} {f:Func} {B clk g0 g1 g2 g3 ip g jp i:Nat} {D:List AObj} {a1 a2:AV} {o4 o5 o6 o7 o8 oc:AObj} {ts:Tmps} {ks:List Kf} {Q:Post} (hB:D.length=B) (hf:f∈allPreds) (hi:i < s.preds.length) (hfi:s.preds[i]=f) (h2:ts 2= .ptr (B + 0) g0 0 0) (h4:ts 4= .ptr (B + 1) g1 0 0) (h5:ts 5= .ptr ip g jp 0) (h6:ts 6= .ptr (B + 2) g2 0 0) (h7:ts 7= .int .i64 (i:Int)) (h8:ts 8= .ptr (B + 3) g3 0 0) (h9:ts 9= .int .i64 0) (ht6:z9p B 6 o6 .nil 2)
  (hQ:∀ (ts':Tmps) (t:Tip) (o4 o5 o6:AObj) (clk':Nat),ts' 2= .ptr (B + 0) g0 0 0→ts' 4= .ptr (B + 1) g1 0 0→ts' 5= .ptr ip g jp 0→ts' 6= .ptr (B + 2) g2 0 0→ts' 7= .int .i64 (i:Int)→ts' 8= .ptr (B + 3) g3 0 0→K Gam B (.exit 2) ks ⟨ts',D++[.blk g0 [z2a s] false false 0, .blk g1 [a1] false false 0, .blk g2 [a2] false false 0, .blk g3 [.agg [.str f.name, .sl ((z4c f).map z1h) t, .sl [] .nil]] false false 0,o4,o5,o6,o7,o8,oc],clk'⟩ Q):
  K Gam B (.loop x7o) ks ⟨ts,D++[.blk g0 [z2a s] false false 0, .blk g1 [a1] false false 0, .blk g2 [a2] false false 0, .blk g3 [.agg [.str f.name, .sl [] .nil, .sl [] .nil]] false false 0,o4,o5,o6,o7,o8,oc],clk⟩ Q:=by
 have hl:=q3j hf
 have hix:=fun h=>z8q (l:=s.preds) (i:=i) (h:=h) (t:= .no) (k:= .i64) hi
 rw[hfi] at hix
 refine z6k f.args.length (by omega) (fun k q=>∃ (t:Tip) (o4 o5 o6:AObj),q.ts 2= .ptr (B + 0) g0 0 0∧q.ts 4= .ptr (B + 1) g1 0 0∧q.ts 5= .ptr ip g jp 0∧q.ts 6= .ptr (B + 2) g2 0 0∧q.ts 7= .int .i64 (i:Int)∧q.ts 8= .ptr (B + 3) g3 0 0∧q.ts 9= .int .i64 (k:Int)∧q.h=D++[.blk g0 [z2a s] false false 0, .blk g1 [a1] false false 0, .blk g2 [a2] false false 0, .blk g3 [.agg [.str f.name, .sl (((z4c f).take k).map z1h) t, .sl [] .nil]] false false 0,o4,o5,o6,o7,o8,oc]∧z9p B 6 o6 t 2) ⟨.nil,_,_,_,h2,h4,h5,h6,h7,h8,h9,rfl,ht6⟩ ?_ ?_
 ·clear h2 h4 h5 h6 h7 h8 h9
  rintro k hlt f1 f2 ts h clk P ⟨t,o4,o5,o6,q2,q4,q5,q6,q7,q8,q9,rfl,ht⟩ hnx he hr
  dsimp only at q2 q4 q5 q6 q7 q8 q9
  have h3:k < 3:=by omega
  have e8:=x8b hf hlt h3
  have hn:=fun h=>v4i (k:= .i64) (h:=h) h3
  have hrem:∀ h,z7j h .rem (.one .int) (.int .i64 (k:Int)) (.int .i64 12)=some (.int .i64 (k:Int),h):=fun h=>by
   rw[q2f (by decide),Int.tmod_eq_of_lt (by omega) (by omega)]
  have hquo:∀ h,z7j h .quo (.one .int) (.int .i64 (k:Int)) (.int .i64 12)=some (.int .i64 0,h):=fun h=>by
   rw[q4e (by decide),Int.tdiv_eq_zero_of_lt (by omega) (by omega)]
   rfl
  have hai:∀ h,z1p h 1 (.sl (f.args.map nat) .no) (.int .i64 (k:Int))=some (.iptr [.int .i64 (f.args[k]:Int)] 0,h):=fun h=>z2d hlt rfl rfl
  have ha:∀ h,z7j h .add (.one .str) (.str (q2g[k]'h3)) (.str [])=some (.str (q2g[k]'h3),h):=fun h=>by
   rw[q5v (by
    have:k=0∨k=1∨k=2:=by omega
    rcases this with rfl | rfl | rfl <;> simp[q2g]),List.append_nil]
  generalize f.args[k]=so at *
  generalize q2g[k]=nm at *
  simp only[go_sem,x7o,z2a,q2,q4,q5,q6,q7,q8,q9,hB,f1,z1b,List.length_map,hix,g3i,hrem,hquo,hn,hai,z0a v4h,ha]
  rw[show [AV.agg [.str nm, .int .i64 (so:Int)]]=[(⟨nm,so⟩:Var)].map z1h from rfl,z0s hB rfl ht z3e z3e (by simp only[List.length_map,List.length_singleton,List.length_take];omega),e8]
  simp only[go_sem,q2,q4,q5,q6,q7,q8,q9,hB,f2]
  refine⟨by simp[z1e,apart,z0l,z0z,z1i,AOp.isCall,hB,AV.ids,idsL,z0q,z0d z4i,z0d (fun _=>z3h)], ?_⟩
  exact hnx _ ⟨_,_,_,_,q2,q4,q5,q6,q7,q8,rfl,rfl, .inr (.inr ⟨_,rfl,rfl⟩)⟩
 ·clear h2 h4 h5 h6 h7 h8 h9
  rintro f1 ts h clk P ⟨t,o4,o5,o6,q2,q4,q5,q6,q7,q8,q9,rfl,ht⟩ he hr
  dsimp only at q2 q4 q5 q6 q7 q8 q9
  rw[List.take_of_length_le (Nat.le_of_eq hl.1)]
  simp only[go_sem,x7o,z2a,q2,q4,q5,q6,q7,q8,q9,hB,f1,z1b,List.length_map,hix]
  exact he _ _ (hQ _ t _ _ _ _ (by simp[z0b,q2]) (by simp[z0b,q4]) (by simp[z0b,q5]) (by simp[z0b,q6]) (by simp[z0b,q7]) (by simp[z0b,q8]))
structure ModOk (s:Sys) (m:List Def):Prop where
 defs:∀ d∈m,DOk d
 names:m.map (·.pred)=s.preds.map (·.name)
 nar:∀ d∈m,GT d.params 1 6 396 d.body
theorem j8a {V:List Var} {b:Bool}:GT V 1 6 396 (q7p b):=by
 have h1:GT V 1 1 1 (q7p b):=by
  cases b
  ·exact GT.leaf (.bool (.inr rfl)) rfl (by omega) (by omega)
  ·exact GT.leaf (.bool (.inl rfl)) rfl (by omega) (by omega)
 exact h1.up (by omega) (by omega)
theorem j8b {n:List Nat} {p:List Var} {b:Term}:[AV.agg [.str n, .sl (p.map z1h) .no, .sl (b.map eNode) .no]]=[(⟨n,p,b⟩:Def)].map z6x:=rfl
theorem x2n {α:Type} {P:α→Prop} {l:List α} {a:α} (h:∀ x∈l,P x) (ha:P a):∀ x∈l++[a],P x:=fun x hx=>by
 rw[List.mem_append,List.mem_singleton] at hx
 rcases hx with hx | rfl
 ·exact h x hx
 ·exact ha
theorem y8r {s:Sys} {zs:List Int} {u:Tip} {h:List AObj} {clk:Nat} {Q:AV→List AObj→Nat→Prop} (hs:SysV s) (hz:∀ z∈zs, -9223372036854775808≤z∧z≤9223372036854775807) (hQ:∀ m,ModOk s m→Q (q2a m) h clk):WC Gam 13 [z2a s, .sl (q3x zs) u] h clk Q:=by
 have hl:q6z (zs.take 400):=⟨by simp;omega,fun z h=>hz z (List.mem_of_mem_take h)⟩
 have hpl:=hs.pl
 refine q6x rfl y7p rfl rfl rfl (az:=[z2a s, .sl (q3x zs) .no]) rfl (by simp[idsL,z2v,AV.ids,q3r]) fun D B T hB hT=> ?_
 simp only[go_sem,v7q,hB,z2a]
 refine j5t fun g c=> ?_
 have e0:∀ x0 x1 x2 x3 x4 x5 x6 x7 x8:AObj,(D++[x0,x1,x2,x3,x4,x5,x6,x7,x8]).length=B + 9:=fun _ _ _ _ _ _ _ _ _=>by simp[hB]
 have e1:∀ x0 x1 x2 x3 x4 x5 x6 x7 x8 o:AObj,(D++[x0,x1,x2,x3,x4,x5,x6,x7,x8])++[o]=D++[x0,x1,x2,x3,x4,x5,x6,x7,x8,o]:=fun _ _ _ _ _ _ _ _ _ _=>by simp
 rw[e0,e1]
 clear e0 e1
 generalize zs.take 400=l at hl
 simp only[go_sem,hB]
 refine z6k s.preds.length (by omega) (fun i q=>∃ (g0 g1 g2:Nat) (acc:List Def) (t:Tip) (o3 o4 o5 o6 o7 o8:AObj) (j:Nat),(∀ d∈acc,u9z d)∧acc.map (·.pred)=(s.preds.take i).map (·.name)∧j≤l.length∧q.ts 2= .ptr (B + 0) g0 0 0∧q.ts 4= .ptr (B + 1) g1 0 0∧q.ts 5= .ptr (B + 9) g 0 0∧q.ts 6= .ptr (B + 2) g2 0 0∧q.ts 7= .int .i64 (i:Int)∧q.h=D++[.blk g0 [z2a s] false false 0, .blk g1 [.agg [.sl [] .nil]] false false 0, .blk g2 [.agg [.sl (acc.map z6x) t]] false false 0,o3,o4,o5,o6,o7,o8,z4p g l j]∧z9p B 8 o8 t 3) ⟨_,_,_,[], .nil,_,_,_,_,_,_,0,by simp,by simp,Nat.zero_le _,rfl,rfl,rfl,rfl,rfl,rfl, .inl rfl⟩ ?_ ?_
 ·rintro i hlt f1 f2 ts h clk P ⟨g0,g1,g2,acc,t,o3,o4,o5,o6,o7,o8,j,hacc,hnm,hj,q2,q4,q5,q6,q7,rfl,ht⟩ hnx he hr
  dsimp only at q2 q4 q5 q6 q7
  have hix:=fun h=>z8q (l:=s.preds) (i:=i) (h:=h) (t:= .no) (k:= .i64) hlt
  have hf:=hs.preds.mem (List.getElem_mem hlt)
  have hal:acc.length≤5:=by
   have:=congrArg List.length hnm
   simp only[List.length_map,List.length_take] at this
   omega
  have hnm1:∀ d:Def,d.pred=s.preds[i].name→(acc++[d]).map (·.pred)=(s.preds.take (i + 1)).map (·.name):=fun d hd=>by
   rw[List.take_succ_eq_append_getElem hlt,List.map_append,List.map_append,hnm,List.map_singleton,List.map_singleton,hd]
  have hpl:=q3j hf
  generalize hfi:s.preds[i]=f at *
  simp only[go_sem,j4f,z2a,q2,q4,q5,q6,q7,hB,f1,List.length_map,hix]
  refine w6a (s:=s) (f:=f) (ip:=B + 9) (g:=g) (jp:=0) hB hf hlt hfi (by simp[z0b,q2]) (by simp[z0b,q4]) (by simp[z0b,q5]) (by simp[z0b,q6]) (by simp[z0b,q7]) (by simp[z0b]) (by simp[z0b]) (.inl rfl) fun ts' u o4 o5 o6 clk' r2 r4 r5 r6 r7 r8=> ?_
  have hG:=v4g (l:=l) (V:=z4c f) (u:=u) hl (by omega)
  simp only[go_sem,z2a,r2,r4,r5,r6,r7,r8,hB]
  refine z1w (k:=9) hG hB rfl hj ?_
  rintro v j2 ⟨b,rfl,hb⟩ hj2
  simp only[go_sem,z0n,r2,r4,r5,r6,r7,r8,hB]
  refine z1w (k:=9) (z2x hl (by decide) (by decide)) hB rfl hj2 ?_
  rintro v j3 ⟨r,rfl,hr1,hr2⟩ hj3
  simp only[go_sem,r2,r4,r5,r6,r7,r8,hB]
  have fin:∀ (b:Term),GT (z4c f) 1 6 396 b→u9z ⟨f.name,z4c f,b⟩:=fun b hb=>⟨⟨f,hf,rfl,rfl,hb.up (by omega) (by omega)⟩,hb⟩
  refine z8n (fun hc=> ?_) (fun hc=> ?_)
  ·simp only[go_sem,r2,r4,r5,r6,r7,r8,hB]
   refine z1w (k:=9) (z2x hl (by decide) (by decide)) hB rfl hj3 ?_
   rintro v j4 ⟨q,rfl,hq1,hq2⟩ hj4
   have p141:Pure Gam 43 [.bool (decide (0 < q))] (.sl ((q7p (decide (0 < q))).map eNode) .no):=x6d
   have hd:=fin _ (j8a (b:=decide (0 < q)))
   generalize q7p (decide (0 < q))=bt at *
   simp only[go_sem,r2,r4,r5,r6,r7,r8,hB,z0a p141]
   rw[j8b (n:=f.name) (p:=z4c f) (b:=bt),z0s hB rfl ht z5a z5a (by simp only[List.length_map,List.length_singleton];omega),←List.map_append]
   simp only[go_sem,r2,r4,r5,r6,r7,r8,hB,f2]
   exact hnx _ ⟨_,_,_,_,_,_,_,_,_,_,_,j4,x2n hacc hd,hnm1 _ rfl,hj4,r2,r4,r5,r6,rfl,rfl, .inr (.inr ⟨_,rfl,rfl⟩)⟩
  ·simp only[go_sem,r2,r4,r5,r6,r7,r8,hB]
   have hd:=fin _ hb
   rw[j8b (n:=f.name) (p:=z4c f) (b:=b),z0s hB rfl ht z5a z5a (by simp only[List.length_map,List.length_singleton];omega),←List.map_append]
   simp only[go_sem,r2,r4,r5,r6,r7,r8,hB,f2]
   exact hnx _ ⟨_,_,_,_,_,_,_,_,_,_,_,j3,x2n hacc hd,hnm1 _ rfl,hj3,r2,r4,r5,r6,rfl,rfl, .inr (.inr ⟨_,rfl,rfl⟩)⟩
 ·rintro f1 ts h clk P ⟨g0,g1,g2,acc,t,o3,o4,o5,o6,o7,o8,j,hacc,hnm,hj,q2,q4,q5,q6,q7,rfl,ht⟩ he hr
  dsimp only at q2 q4 q5 q6 q7
  rw[List.take_length] at hnm
  simp only[go_sem,j4f,z2a,q2,q4,q5,q6,q7,hB,f1,List.length_map]
  refine he _ _ ?_
  simp only[go_sem,q2,q4,q6,hB,z0k,z0j,z0f]
  rw[z2k rfl (by simp[AV.cv,cvL,AV.ids,idsL,z0d z8f])]
  exact hT _ _ (hQ acc ⟨fun d hd=>(hacc d hd).1,hnm,fun d hd=>(hacc d hd).2⟩)
section
theorem v4j {env:List (List Nat×Val)} {b:Bool}:z8b env (q7p b)= .bool b:=by
 have h:∀ n:Node,n.kids=0→Ev env [n] [nodeF env n []]:=fun n hn=>by
  have:=Ev.cons (env:=env) (n:=n) (ks:=[]) (rest:=[]) .nil (by rw[hn];rfl) .nil
  simpa using this
 unfold q7p
 rw[q9h (h _ rfl)]
 cases b <;> simp[nodeF]
def x2o:List (List Nat):=[[112,48],[112,49],[112,50]]
theorem y8s:∀ n∈x2o,q0d q9l [.str n]=some (.bool true):=fun n hn=>by
 simp only[x2o,List.mem_cons,List.not_mem_nil,or_false] at hn
 rcases hn with rfl | rfl | rfl <;> rfl
theorem w6b:∀ n∈x2o,q0d q2k [.str n]=some (.bool true):=fun n hn=>by
 simp only[x2o,List.mem_cons,List.not_mem_nil,or_false] at hn
 rcases hn with rfl | rfl | rfl <;> rfl
theorem u6m:∀ f∈allPreds,UOk (z5c f.args 0)∧((z5c f.args 0).map (·.name)).Nodup∧(z5c f.args 0).length≤3∧(z5c f.args 0).map (·.sort)=f.args:=by
 intro f hf
 have key:∀ V:List Var,(∀ v∈V,v.name∈x2o∧1≤v.sort∧v.sort≤4)→(∀ v∈V,∀ w∈V,v.name=w.name→v=w)→UOk V:=fun V h1 h2=>⟨fun v hv=>y8s _ (h1 v hv).1,fun v hv=>w6b _ (h1 v hv).1,fun v hv=>(h1 v hv).2,h2⟩
 simp only[allPreds,List.mem_cons,List.not_mem_nil,or_false] at hf
 rcases hf with rfl | rfl | rfl | rfl | rfl | rfl <;> exact⟨key _ (by decide) (by decide),by decide,by decide,rfl⟩
theorem k7k {f:Func} {b:Bool} (hf:f∈allPreds):DAt (x5d f b):=by
 obtain⟨h1,h2,h3,h4⟩:=u6m f hf
 exact⟨f,hf,rfl,h4,⟨h1,h2,by show (z5c f.args 0).length≤20;omega,j8a.up (by omega) (by omega)⟩⟩
section
variable {s:Sys} {x:Tf} {y:List Def}
theorem q6n {f:Func} (hy:y.map (·.pred)=(z3p x s.preds).map (·.name)) (hnd:(y.map (·.pred)).Nodup) (hf:f∈s.preds):(z6q x y f).pred=f.name∧(q2h x f.name=false→z6q x y f=x7t y f.name∧x7t y f.name∈y):=by
 cases hg:q2h x f.name with
 | true=>
   rw[z6q,if_pos hg]
   exact⟨rfl,fun h=>by cases h⟩
 | false=>
   have hm:f.name∈y.map (·.pred):=by
    rw[hy]
    refine List.mem_map_of_mem (x5g.2 ⟨hf, ?_⟩)
    simpa [q2h] using hg
   obtain⟨d,hd,e⟩:=List.mem_map.1 hm
   obtain⟨j,hj,rfl⟩:=List.mem_iff_getElem.1 hd
   rw[z6q,if_neg (by rw[hg];simp),←e,q9g hj hnd]
   exact⟨rfl,fun _=>⟨rfl,hd⟩⟩
theorem x2p (hy:y.map (·.pred)=(z3p x s.preds).map (·.name)) (hnd:(y.map (·.pred)).Nodup):(s.preds.map (z6q x y)).map (·.pred)=s.preds.map (·.name):=by
 rw[List.map_map]
 exact List.map_congr_left fun f hf=>(q6n hy hnd hf).1
theorem v4k (hs:SysV s) (hy:y.map (·.pred)=(z3p x s.preds).map (·.name)) (hnd:(y.map (·.pred)).Nodup) (hd:∀ d∈y,DOk d) (hn:∀ d∈y,GT d.params 1 6 396 d.body):∀ d∈s.preds.map (z6q x y),DAt d∧DEv d:=by
 intro d hd'
 obtain⟨f,hf,rfl⟩:=List.mem_map.1 hd'
 cases hg:q2h x f.name with
 | true=>
   rw[z6q,if_pos hg]
   exact⟨k7k (hs.preds.mem hf),by simp[DEv,x5d,q7p]⟩
 | false=>
   obtain⟨e,hm⟩:=(q6n hy hnd hf).2 hg
   rw[e]
   exact⟨(hd _ hm).dat,by have:=(hn _ hm).2.1;unfold DEv;omega⟩
theorem x5h (hs:SysV s) (hy:y.map (·.pred)=(z3p x s.preds).map (·.name)) (hnd:(y.map (·.pred)).Nodup) {f:Func} (hf:f∈s.preds):x7t (s.preds.map (z6q x y)) f.name=z6q x y f:=by
 obtain⟨i,hi,rfl⟩:=List.mem_iff_getElem.1 hf
 have hsh:=x2p hy hnd
 have hi':i < (s.preds.map (z6q x y)).length:=by simpa using hi
 have h:=q9g hi' (by rw[hsh];exact hs.pr.nodup)
 rw[List.getElem_map,(q6n hy hnd hf).1] at h
 exact h
theorem j1h {env:List (List Nat×Val)} {p:List Nat} {args:List Term} (hs:SysV s) (hy:y.map (·.pred)=(z3p x s.preds).map (·.name)) (hnd:(y.map (·.pred)).Nodup) (hp:p∈s.preds.map (·.name)) (hg:q2h x p=false):q3z (s.preds.map (z6q x y)) env p args=q3z y env p args:=by
 obtain⟨f,hf,rfl⟩:=List.mem_map.1 hp
 unfold q3z v3z
 rw[x5h hs hy hnd hf,((q6n hy hnd hf).2 hg).1]
theorem j1i {env:List (List Nat×Val)} {p:List Nat} {args:List Term} (hs:SysV s) (hy:y.map (·.pred)=(z3p x s.preds).map (·.name)) (hnd:(y.map (·.pred)).Nodup) (hp:p∈s.preds.map (·.name)) (hg:q2h x p=true):q3z (s.preds.map (z6q x y)) env p args=decide (p∈x.un):=by
 obtain⟨f,hf,rfl⟩:=List.mem_map.1 hp
 unfold q3z v3z
 rw[x5h hs hy hnd hf,z6q,if_pos hg]
 show (z8b _ (q7p _)).b=_
 rw[v4j]
 rfl
theorem j8c {α:Type} {p q:α→Bool}:∀ {l:List α},(∀ a∈l,p a=q a)→l.any p=l.any q
 | [],_=>rfl
 | a::l,h=>by rw[List.any_cons,List.any_cons,h a List.mem_cons_self,j8c fun b hb=>h b (List.mem_cons_of_mem _ hb)]
theorem q6o {ps:List Func} {V:List Var} {a:App} (h:AppOk ps V a):a.pred∈ps.map (·.name):=by
 obtain⟨f,hf,hn,_⟩:=h
 exact hn ▸ List.mem_map_of_mem hf
theorem j4l {c:Clause} {vs:List Val} (hs:SysV s) (hc:c∈s.clauses) (hy:y.map (·.pred)=(z3p x s.preds).map (·.name)) (hnd:(y.map (·.pred)).Nodup) (hk:z7y x.un x.und c=some true):q3h (s.preds.map (z6q x y)) c vs=q3h y c vs:=by
 obtain⟨k1,k2,k3⟩:=x5f hk
 obtain⟨c1,c2,c3,c4,c5⟩:=hs.clauses c hc
 unfold q3h
 have e1:(c.body.any fun a=> !q3z (s.preds.map (z6q x y)) (z8c c.vars vs) a.pred a.args)=c.body.any fun a=> !q3z y (z8c c.vars vs) a.pred a.args:=by
  refine j8c fun a ha=> ?_
  rw[j1h hs hy hnd (q6o (c3 a ha)) (by simp[q2h,k3 a ha])]
 rw[e1]
 rcases c5 with ⟨h1,_⟩ | h1
 ·simp[h1]
 ·rw[j1h hs hy hnd (q6o h1) (by simp[q2h,k1,k2])]
theorem j4m {c:Clause} {vs:List Val} (hs:SysV s) (hc:c∈s.clauses) (hy:y.map (·.pred)=(z3p x s.preds).map (·.name)) (hnd:(y.map (·.pred)).Nodup) (hr:q7m s x) (hk:z7y x.un x.und c=some false):q3h (s.preds.map (z6q x y)) c vs=true:=by
 obtain⟨c1,c2,c3,c4,c5⟩:=hs.clauses c hc
 have hdis:∀ n,n∈x.un→n∈x.und→False:=fun n h1 h2=>by
  have:=hr.1
  unfold x7m at this
  exact (List.nodup_append.1 this).2.2 n h1 n h2 rfl
 unfold q3h
 by_cases hb:(c.body.any fun a=>decide (a.pred∈x.und))=true
 ·obtain⟨a,ha,h⟩:=List.any_eq_true.1 hb
  have h:=of_decide_eq_true h
  have:(c.body.any fun a=> !q3z (s.preds.map (z6q x y)) (z8c c.vars vs) a.pred a.args)=true:=List.any_eq_true.2 ⟨a,ha,by
   rw[j1i hs hy hnd (q6o (c3 a ha)) (by simp[q2h,h])]
   simp only[Bool.not_eq_true',decide_eq_false_iff_not]
   exact fun h'=>hdis _ h' h⟩
  rw[this]
  simp
 ·unfold z7y at hk
  have hb':=Bool.eq_false_iff.2 hb
  by_cases hu:c.head.pred∈x.und
  ·rw[if_pos ⟨hu,hb'⟩] at hk;cases hk
  ·rw[if_neg (fun h=>hu h.1)] at hk
   have hun:c.head.pred∈x.un:=by
    refine Classical.byContradiction fun hn=> ?_
    rw[if_neg (by rw[List.mem_append];rintro ((h | h) | h);exact hn h;exact hu h;exact hb h)] at hk
    split at hk <;> cases hk
   rcases c5 with ⟨h1,_⟩ | h1
   ·exact absurd (hr.2 _ (by unfold x7m;rw[List.mem_append];exact .inl hun)) (fun h=>by
     obtain⟨f,hf,e⟩:=List.mem_map.1 h
     exact j4i f (hs.preds.mem hf) (by rw[e,h1]))
   ·have hne:decide (c.head.pred=[])=false:=decide_eq_false fun e=>by
     obtain⟨f,hf,e2⟩:=List.mem_map.1 (q6o h1)
     exact j4i f (hs.preds.mem hf) (by rw[e2,e])
    rw[j1i hs hy hnd (q6o h1) (by simp[q2h,hun]),hne,decide_eq_true hun]
    simp
theorem v4l:∀ {cs:List Clause} {i:Nat} {out res:List Nat},z7k x.un x.und cs i out=some res→∀ c∈cs,z7y x.un x.und c≠none:=by
 intro cs
 induction cs with
 | nil=>intro i out res _ c hc;simp at hc
 | cons a cs ih=>
   intro i out res h c hc
   unfold z7k at h
   cases hk:z7y x.un x.und a with
   | none=>rw[hk] at h;cases h
   | some b=>
     rcases List.mem_cons.1 hc with rfl | hc
     ·rw[hk];simp
     ·cases b <;> rw[hk] at h <;> exact ih h c hc
def kcN (x:Tf) (s:Sys) (i:Nat):Nat:=(z6a x (s.clauses.take i)).length
theorem w6c {i:Nat} (hi:i < s.clauses.length):(z7y x.un x.und s.clauses[i]=some true→kcN x s (i + 1)=kcN x s i + 1∧(z6a x s.clauses)[kcN x s i]? =some s.clauses[i])∧(z7y x.un x.und s.clauses[i]≠some true→kcN x s (i + 1)=kcN x s i):=by
 have ht:s.clauses.take (i + 1)=s.clauses.take i++[s.clauses[i]]:=List.take_succ_eq_append_getElem hi
 have hsp:s.clauses=s.clauses.take i++s.clauses[i]::s.clauses.drop (i + 1):=by rw[←List.drop_eq_getElem_cons hi,List.take_append_drop]
 refine⟨fun h=>⟨?_, ?_⟩,fun h=> ?_⟩
 ·unfold kcN z6a
  rw[ht,List.filter_append,List.filter_cons,if_pos (by simp[h])]
  simp
 ·have:z6a x s.clauses=z6a x (s.clauses.take i)++s.clauses[i]::z6a x (s.clauses.drop (i + 1)):=by
   conv=>lhs;rw[hsp]
   unfold z6a
   rw[List.filter_append,List.filter_cons,if_pos (by simp[h])]
  rw[this,kcN,List.getElem?_append_right (Nat.le_refl _),Nat.sub_self]
  rfl
 ·unfold kcN z6a
  rw[ht,List.filter_append,List.filter_cons,if_neg (by simp[h])]
  simp
end
end
theorem FitK.snoc {K:Nat} {V:List Var} {vs:List Val} {w:Val} {i:Nat} (hi:i < V.length) (h:FitK K (V.take i) vs) (hw:VOk K V[i].sort w):FitK K (V.take (i + 1)) (vs++[w]):=by
 have hl:vs.length=i:=by rw[h.len,List.length_take];omega
 refine⟨by rw[List.length_append,hl,List.length_take];simp;omega,fun j h1 h2=> ?_⟩
 rw[List.length_take] at h1
 by_cases hj:j < i
 ·rw[List.getElem_append_left (by omega)]
  have:=h.ok j (by rw[List.length_take];omega) (by omega)
  simpa [List.getElem_take] using this
 ·obtain rfl:j=i:=by omega
  rw[List.getElem_append_right (by omega)]
  simpa [List.getElem_take,hl] using hw
theorem w6d {l:List Int} {c:Clause} {B g j i:Nat} {clk:Nat} {D:List AObj} {cs:List Clause} {a0:AV} {g0:Nat} {o1 o2 o3 o4 o5 o6:AObj} {ts:Tmps} {ks:List Kf} {Q:Post} (hl:q6z l) (hB:D.length=B) (hj:j≤l.length) (hi:i < cs.length) (hci:cs[i]=c) (hc:c.vars.Sublist z1z)
  (h9:ts 9= .ptr (B + 0) g0 0 0) (h16:ts 16= .ptr (B + 7) g 0 0) (h18:ts 18= .int .i64 (i:Int)) (h19:ts 19= .sl [] .nil) (h20:ts 20= .int .i64 0) {v10 v11 v13 v14 v17:AV} (h11:ts 11=v11) (h13:ts 13=v13) (h14:ts 14=v14) (h17:ts 17=v17) (h10:ts 10=v10)
  (hQ:∀ (vs:List Val) (t:Tip) (ts':Tmps) (o5 o6:AObj) (j' clk':Nat),FitK 1 c.vars vs→j'≤l.length→ts' 9= .ptr (B + 0) g0 0 0→ts' 16= .ptr (B + 7) g 0 0→ts' 18= .int .i64 (i:Int)→ts' 19= .sl (vs.map eV) t→ts' 11=v11→ts' 13=v13→ts' 14=v14→ts' 17=v17→ts' 10=v10→K Gam B (.exit 2) ks ⟨ts',D++[.blk g0 [.agg [a0, .sl (cs.map z0h) .no]] false false 0,o1,o2,o3,o4,o5,o6,z4p g l j'],clk'⟩ Q):
  K Gam B (.loop x7z) ks ⟨ts,D++[.blk g0 [.agg [a0, .sl (cs.map z0h) .no]] false false 0,o1,o2,o3,o4,o5,o6,z4p g l j],clk⟩ Q:=by
 have hvl:c.vars.length≤8:=hc.length_le
 refine z6k c.vars.length (by omega) (fun k q=>∃ (acc:List Val) (t:Tip) (o5 o6:AObj) (j:Nat),FitK 1 (c.vars.take k) acc∧j≤l.length∧q.ts 9= .ptr (B + 0) g0 0 0∧q.ts 16= .ptr (B + 7) g 0 0∧q.ts 18= .int .i64 (i:Int)∧q.ts 19= .sl (acc.map eV) t∧q.ts 20= .int .i64 (k:Int)∧q.ts 11=v11∧q.ts 13=v13∧q.ts 14=v14∧q.ts 17=v17∧q.ts 10=v10∧q.h=D++[.blk g0 [.agg [a0, .sl (cs.map z0h) .no]] false false 0,o1,o2,o3,o4,o5,o6,z4p g l j]∧z9p B 6 o6 t 5) ⟨[], .nil,_,_,_,⟨rfl,fun k h1=>by simp at h1⟩,hj,h9,h16,h18,h19,h20,h11,h13,h14,h17,h10,rfl, .inl rfl⟩ ?_ ?_
 ·clear h9 h16 h18 h19 h20 h11 h13 h14 h17 h10 hj
  rintro k hlt f1 f2 ts h clk P ⟨acc,t,o5,o6,j,hf,hj,q9,q16,q18,q19,q20,q11,q13,q14,q17,q10,rfl,ht⟩ hnx he hr
  dsimp only at q9 q16 q18 q19 q20 q11 q13 q14 q17 q10
  have hx:=fun h=>z7r (l:=cs) (i:=i) (h:=h) (t:= .no) (k:= .i64) hi
  rw[hci] at hx
  have hy:=fun h=>z5n (l:=c.vars) (i:=k) (h:=h) (t:= .no) (k:= .i64) hlt
  have hvm:c.vars[k]∈z1z:=hc.mem (List.getElem_mem hlt)
  have hs:=UOk.sort _ hvm
  have hal:acc.length≤8:=by rw[hf.len,List.length_take];omega
  have hsn:=fun w hw=>hf.snoc (w:=w) hlt hw
  simp only[nat] at hy
  generalize c.vars[k]=v at *
  simp only[go_sem,x7z,q9,q16,q18,q19,q20,hB,f1,List.length_map,hx,hy]
  refine z1w (k:=7) (y8p hl hs.1 hs.2) hB rfl hj ?_
  rintro r j2 ⟨w,rfl,hw⟩ hj2
  simp only[go_sem,hB,eV,value,nat,q9,q16,q18,q19,q20]
  rw[show [AV.agg [.int .i64 (w.s:Int), .bool w.b, .str w.t, .sl (z1n (w.l.map fun p=>z0i p.1)) .no, .sl (z1n (w.l.map fun p=>z0i p.2)) .no]]=[w].map eV from rfl,z0s hB rfl ht z8w z8w (by simp only[List.length_map,List.length_singleton];omega),←List.map_append]
  simp only[go_sem,hB,q9,q16,q18,q19,q20,f2]
  exact hnx _ ⟨acc++[w],_,_,_,j2,hsn w hw,hj2,q9,q16,q18,rfl,rfl,q11,q13,q14,q17,q10,rfl, .inr (.inr ⟨_,rfl,rfl⟩)⟩
 ·clear h9 h16 h18 h19 h20 h11 h13 h14 h17 h10 hj
  rintro f1 ts h clk P ⟨acc,t,o5,o6,j,hf,hj,q9,q16,q18,q19,q20,q11,q13,q14,q17,q10,rfl,ht⟩ he hr
  dsimp only at q9 q16 q18 q19 q20 q11 q13 q14 q17 q10
  have hx:=fun h=>z7r (l:=cs) (i:=i) (h:=h) (t:= .no) (k:= .i64) hi
  rw[hci] at hx
  rw[List.take_length] at hf
  simp only[go_sem,x7z,q9,q16,q18,q19,q20,hB,f1,List.length_map,hx]
  exact he _ _ (hQ acc t _ _ _ _ _ hf hj (by simp[z0b,q9]) (by simp[z0b,q16]) (by simp[z0b,q18]) (by simp[z0b,q19]) (by simp[z0b,q11]) (by simp[z0b,q13]) (by simp[z0b,q14]) (by simp[z0b,q17]) (by simp[z0b,q10]))
theorem w6e {s:Sys} {m:List Def} (hs:SysV s) (h:ModOk s m):m.length≤1000:=by
 have h1:=congrArg List.length h.names
 have h2:=hs.pl
 simp only[List.length_map] at h1
 omega
theorem SysV.cmpS {s:Sys} (hs:SysV s):∀ c∈s.clauses,CmpC c:=fun c hc=>by
 obtain⟨hv,hb,hba,hg,hh⟩:=hs.clauses c hc
 have key:∀ {a:App},AppOk s.preds c.vars a→a.args.length≤20000∧∀ t∈a.args,t.length≤20000:=fun {a} h=>by
  obtain⟨f,_,_,hl,h40,hi⟩:=v8e h hs.pr
  refine⟨by omega,fun t ht=> ?_⟩
  obtain⟨i,hi1,rfl⟩:=List.mem_iff_getElem.1 ht
  have:=(hi i hi1 (by omega)).2
  omega
 refine⟨by have:c.vars.length≤8:=hv.length_le;omega,by omega,by have:=hg.2.1;omega, ?_,fun a ha=>key (hba a ha)⟩
 rcases hh with ⟨_,h⟩ | h
 ·rw[h];simp
 ·exact key h
theorem j4n {zs ms ns:List Int} {odd:Bool} (hz:∀ z∈zs, -9223372036854775808≤z∧z≤9223372036854775807) (hm:∀ z∈ms, -9223372036854775808≤z∧z≤9223372036854775807) (hn:∀ z∈ns, -9223372036854775808≤z∧z≤9223372036854775807):WC Gam 4 [.sl (q3x zs) .no, .sl (q3x ms) .no, .sl (q3x ns) .no, .bool odd] [] 0 fun v _ _=>v= .bool true:=by
 refine q6x rfl y8q rfl rfl rfl (az:=[.sl (q3x zs) .no, .sl (q3x ms) .no, .sl (q3x ns) .no, .bool odd]) rfl (by simp[idsL,AV.ids,q3r]) fun D B R hB hR=> ?_
 simp only[go_sem,v8g,hB]
 refine z5x (g2f hz (v7c ⟨by rw[List.length_take];omega,fun z hz'=>hz z (List.mem_of_mem_take hz')⟩) fun s hs=> ?_)
 have hv:=hs.v
 simp only[go_sem,hB,z2a]
 have h23:=fun odd u h clk Q=>g3g (s:=s) (zs:=ms) (u:=u) (odd:=odd) (h:=h) (clk:=clk) (Q:=Q) hv hm
 rw[z2a] at h23
 refine z5x (h23 _ _ _ _ _ fun x hx _=> ?_)
 have p2:=k6j hv hx
 have hr:=j7y (x:=x) hv
 by_cases he:(z4o s x).2=0
 ·have happ:=j1f he
  obtain⟨hrem,hall⟩:q7m s x∧∀ c∈s.clauses,z7y x.un x.und c≠none:=by
   cases hu:q5c x with
   | false=>rw[z7p hu] at he;cases he
   | true=>
     by_cases hnm:q7m s x
     ·cases hk:z7k x.un x.und s.clauses 0 [] with
      | none=>rw[z7q hu hnm hk] at he;cases he
      | some out=>exact⟨hnm,v4l hk⟩
     ·rw[z6w hu hnm] at he;cases he
  rw[happ,he,z2a,eTf,z2a] at p2
  rw[happ] at hr
  simp only[go_sem,hB,eTf,z0a p2,decide_true,Bool.not_true]
  have hg:=fun {s} (hs:SysV s) u h clk Q=>y8r (s:=s) (zs:=ns) (u:=u) (h:=h) (clk:=clk) (Q:=Q) hs hn
  simp only[z2a] at hg
  refine z5x (hg hr _ _ _ _ fun y hy=> ?_)
  have hyn:y.map (·.pred)=(z3p x s.preds).map (·.name):=hy.names
  have hnd:(y.map (·.pred)).Nodup:=by rw[hyn];exact hv.pr.nodup.sublist (List.filter_sublist.map _)
  have p5:=v4e hv hx hy.defs (w6e hr hy)
  have hys:z7i (z3x x s) y=true:=decide_eq_true hyn
  have hmt:j1g s x y=(s.preds.map (z6q x y),0):=by
   unfold j1g
   rw[if_neg (not_not_intro he),happ,hys,if_neg (by simp)]
  rw[hmt,z2a,eTf,q2a,q2a] at p5
  simp only[go_sem,hB,q2a,z0a p5,decide_true,Bool.not_true]
  refine j5t fun g c=> ?_
  have hzd:=v4k hv hyn hnd hy.defs hy.nar
  have hzs:z7i s (s.preds.map (z6q x y))=true:=decide_eq_true (x2p hyn hnd)
  have hlc:q6z (ms.take 400):=⟨by simp;omega,fun z h=>hm z (List.mem_of_mem_take h)⟩
  have hsame:=fun {c vs} hc hk=>j4l (c:=c) (vs:=vs) hv hc hyn hnd hk
  have hgone:=fun {c vs} hc hk=>j4m (c:=c) (vs:=vs) hv hc hyn hnd hrem hk
  have hcl:=hv.len
  have hkl:(z6a x s.clauses).length≤16:=Nat.le_trans (List.length_filter_le _ _) hcl
  generalize s.preds.map (z6q x y)=z at *
  generalize ms.take 400=l at *
  have e0:∀ a b c d e f h:AObj,(D++[a,b,c,d,e,f,h]).length=B + 7:=fun _ _ _ _ _ _ _=>by simp[hB]
  have e1:∀ a b c d e f h o:AObj,(D++[a,b,c,d,e,f,h])++[o]=D++[a,b,c,d,e,f,h,o]:=fun _ _ _ _ _ _ _ _=>by simp
  rw[e0,e1]
  simp only[go_sem,hB]
  refine z6k s.clauses.length (by omega) (fun i q=>∃ (g0 g2 g3 g4:Nat) (o1 o5 o6:AObj) (v10:AV) (j:Nat),j≤l.length∧q.ts 9= .ptr (B + 0) g0 0 0∧q.ts 10=v10∧q.ts 11= .ptr (B + 2) g2 0 0∧q.ts 13= .ptr (B + 3) g3 0 0∧q.ts 14= .ptr (B + 4) g4 0 0∧q.ts 16= .ptr (B + 7) g 0 0∧q.ts 17= .int .i64 (kcN x s i:Int)∧q.ts 18= .int .i64 (i:Int)∧q.h=D++[.blk g0 [.agg [.sl (s.preds.map z0y) .no, .sl (s.clauses.map z0h) .no]] false false 0,o1, .blk g2 [.agg [.sl ((z3x x s).preds.map z0y) .no, .sl ((z3x x s).clauses.map z0h) .no]] false false 0, .blk g3 [.agg [.sl (y.map z6x) .no]] false false 0, .blk g4 [.agg [.sl (z.map z6x) .no]] false false 0,o5,o6,z4p g l j]) ⟨_,_,_,_,_,_,_,_,0,Nat.zero_le _,rfl,rfl,rfl,rfl,rfl,rfl,rfl,rfl,rfl⟩ ?_ ?_
  ·rintro i hlt f1 f2 ts h clk P ⟨g0,g2,g3,g4,o1,o5,o6,v10,j,hj,q9,q10,q11,q13,q14,q16,q17,q18,rfl⟩ hnx hex hret
   dsimp only at q9 q10 q11 q13 q14 q16 q17 q18
   have hmem:=List.getElem_mem hlt
   have hx1:=fun h=>z7r (l:=s.clauses) (i:=i) (h:=h) (t:= .no) (k:= .i64) hlt
   simp only[go_sem,j4j,q9,q11,q13,q14,q16,q17,q18,hB,f1,List.length_map]
   refine w6d (i:=i) (cs:=s.clauses) (c:=s.clauses[i]) hlc hB hj hlt rfl (hv.clauses _ hmem).1 (by simp[z0b,q9]) (by simp[z0b,q16]) (by simp[z0b,q18]) (by simp[z0b]) (by simp[z0b]) (by simp[z0b,q11];rfl) (by simp[z0b,q13];rfl) (by simp[z0b,q14];rfl) (by simp[z0b,q17];rfl) (by simp[z0b,q10];rfl) fun vs t ts2 o5 o6 j2 clk2 hf hj2 r9 r16 r18 r19 r11 r13 r14 r17 r10=> ?_
   have hac:(z3x x s).clauses=z6a x s.clauses:=rfl
   have pz:=j7x (w:=t) hv (fun d hd=>(hzd d hd).1) (fun d hd=>(hzd d hd).2) hzs hlt hf
   rw[z2a,q2a] at pz
   have hks:=w6c (x:=x) hlt
   have hcmp:=hv.cmpS _ hmem
   cases hk:z7y x.un x.und s.clauses[i] with
   | none=>exact absurd hk (hall _ hmem)
   | some b=>
     cases b with
     | true=>
       obtain⟨hk1,hk2⟩:=hks.1 hk
       obtain⟨hkl2,hkc⟩:=List.getElem?_eq_some_iff.1 hk2
       have hlt3:kcN x s i < (z3x x s).clauses.length:=hkl2
       have hx2:=fun h=>z7r (l:=(z3x x s).clauses) (i:=kcN x s i) (h:=h) (t:= .no) (k:= .i64) hlt3
       have hkc':(z3x x s).clauses[kcN x s i]=s.clauses[i]:=hkc
       have py:=j7x (s:=z3x x s) (m:=y) (vs:=vs) (i:=kcN x s i) (w:=t) hr (fun d hd=>(hy.defs d hd).dat) (fun d hd=>by have:=(hy.nar d hd).2.1;unfold DEv;omega) hys hlt3 (by rw[hkc'];exact hf)
       rw[hkc'] at hx2
       rw[hkc',z2a,q2a] at py
       rw[hsame hmem hk] at pz
       have p43:=k7f (c:=s.clauses[i]) (d:=s.clauses[i]) hcmp
       rw[decide_eq_true rfl] at p43
       simp only[z0h,z0n] at p43
       simp only[hac] at hx2 py
       have f3:decide ((kcN x s i:Int) < ((z6a x s.clauses).length:Int))=true:=by rw[decide_eq_true_iff];omega
       have f4:IntKind.i64.wrap ((kcN x s i:Int) + 1)=((kcN x s (i + 1):Nat):Int):=by rw[hk1];exact z0c (by omega) (by omega)
       cases hb:q3h y s.clauses[i] vs <;> rw[hb] at pz py
       all_goals
        simp only[go_sem,hB,r9,r11,r13,r14,r16,r17,r18,r19,hac,List.length_map,z0a pz,f3,hx1,hx2,z0a p43,z0a py,f4,f2,Int.reduceEq,decide_true,decide_false,Bool.not_true,Bool.not_false]
        exact hnx _ ⟨g0,g2,g3,g4,o1,o5,o6,v10,j2,hj2,r9,r10,r11,r13,r14,r16,rfl,rfl,rfl⟩
     | false=>
       have hk1:=hks.2 (by rw[hk];simp)
       rw[hgone hmem hk] at pz
       by_cases hat:kcN x s i < (z6a x s.clauses).length
       ·have hlt3:kcN x s i < (z3x x s).clauses.length:=hat
        have hx2:=fun h=>z7r (l:=(z3x x s).clauses) (i:=kcN x s i) (h:=h) (t:= .no) (k:= .i64) hlt3
        have hne:s.clauses[i]≠(z3x x s).clauses[kcN x s i]:=fun e=>by
         have hm2:(z3x x s).clauses[kcN x s i]∈z6a x s.clauses:=List.getElem_mem hlt3
         rw[←e] at hm2
         have:=(List.mem_filter.1 hm2).2
         simp[hk] at this
        have p43:=k7f (c:=s.clauses[i]) (d:=(z3x x s).clauses[kcN x s i]) hcmp
        rw[decide_eq_false hne] at p43
        simp only[z0h,z0n] at p43
        have f3:decide ((kcN x s i:Int) < ((z6a x s.clauses).length:Int))=true:=by rw[decide_eq_true_iff];omega
        simp only[hac] at hx2 p43
        simp only[go_sem,hB,r9,r11,r13,r14,r16,r17,r18,r19,hac,List.length_map,z0a pz,f3,hx1,hx2,z0a p43,f2,Int.reduceEq,decide_true,decide_false,Bool.not_true,Bool.not_false]
        exact hnx _ ⟨g0,g2,g3,g4,o1,o5,o6,v10,j2,hj2,r9,r10,r11,r13,r14,r16,by rw[hk1];exact r17,rfl,rfl⟩
       ·have f3:decide ((kcN x s i:Int) < ((z6a x s.clauses).length:Int))=false:=by rw[decide_eq_false_iff_not];omega
        simp only[go_sem,hB,r9,r11,r13,r14,r16,r17,r18,r19,hac,List.length_map,z0a pz,f3,hx1,f2,Int.reduceEq,decide_true,decide_false,Bool.not_true,Bool.not_false]
        exact hnx _ ⟨g0,g2,g3,g4,o1,o5,o6,v10,j2,hj2,r9,r10,r11,r13,r14,r16,by rw[hk1];exact r17,rfl,rfl⟩
  ·rintro f1 ts h clk P ⟨g0,g2,g3,g4,o1,o5,o6,v10,j,hj,q9,q10,q11,q13,q14,q16,q17,q18,rfl⟩ hex hret
   dsimp only at q9 q10 q11 q13 q14 q16 q17 q18
   have hkn:kcN x s s.clauses.length=(z6a x s.clauses).length:=by rw[kcN,List.take_length]
   rw[hkn] at q17
   have hac:(z3x x s).clauses=z6a x s.clauses:=rfl
   simp only[go_sem,j4j,q9,q11,q13,q14,q16,q17,q18,hB,f1,List.length_map]
   refine hex _ _ ?_
   simp only[go_sem,q11,q17,hB,hac,List.length_map,decide_true,z0a k6k]
   rw[z0e]
   exact hR _ _ rfl
 ·rw[z2a,eTf,z2a] at p2
  simp only[go_sem,hB,eTf,z0a p2,decide_eq_false he,Bool.not_false,z0a k6k]
  rw[z0e]
  exact hR _ _ rfl
end Go.Proofs.YtkollgjffkdliaaGreatDoor.Am
