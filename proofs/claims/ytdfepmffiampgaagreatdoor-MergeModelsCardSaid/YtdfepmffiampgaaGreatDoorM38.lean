/- Functions of the abstract machine's program Walking: models are copied and compared Walking: models are shaped for a system Walking: models are shaped for a system Walking: models are shaped for a sys -/
import Derived.Test.YtdfepmffiampgaaGreatDoorM37
set_option linter.all false
namespace Go.Proofs.YtdfepmffiampgaaGreatDoor.Am
open Go
set_option maxRecDepth 100000
section
open Sh
set_option maxHeartbeats 0
noncomputable def q62:AFun:=(fun (a:AFun) (_:Gam.fn 64=some a)=>a) _ (by conv=>lhs;reduce;simp only[Int.reduceOfNat,Int.reduceNegSucc])
noncomputable def v0g:ACode:=(fun (a:ACode) (_:fl [] (lp q62 0)=a)=>a) _ (by conv=>lhs;reduce;simp only[Int.reduceOfNat,Int.reduceNegSucc])
attribute [local irreducible] v0g
noncomputable def u9m:AFun:=(fun (a:AFun) (_:flF [v0g] q62=a)=>a) _ (by conv=>lhs;reduce;simp only[Int.reduceOfNat,Int.reduceNegSucc])
theorem g3u:Gam.fn 64=some u9m:=by kernel_rfl
def x6i:ACode:=(.seq (.seq (.region 9 [M 26 9,A 27 2 0,L 28 27,M 29 7,N 30 (.indexAddr none 3 (.tmp 28) (.tmp 29)),A 31 30 1,L 32 31,N 33 (.len .sl (.tmp 32)),N 34 (.binOp .lss (.one .int) (.tmp 26) (.tmp 33))] []) (.cond (.tmp 34) .skip (.exit 2))) (.seq (.block 3 (.region 25 [A 37 8 1,L 38 37,N 39 (.buildSlice 4 false (.str []) 12 [(0,(.const (.str [117]))),(1,(.const (.str [118]))),(2,(.const (.str [121,48]))),(3,(.const (.str [121,49]))),(4,(.const (.str [107]))),(5,(.const (.str [109]))),(6,(.const (.str [110]))),(7,(.const (.str [111]))),(8,(.const (.str [114]))),(9,(.const (.str [115]))),(10,(.const (.str [116]))),(11,(.const (.str [104])))]),M 40 9,N 41 (.binOp .rem (.one .int) (.tmp 40) (I 12)),N 42 (.indexAddr none 1 (.tmp 39) (.tmp 41)),L 43 42,M 44 9,N 45 (.binOp .quo (.one .int) (.tmp 44) (I 12)),N 46 (.call 20 [.tmp 45]),N 47 (.binOp .add (.one .str) (.tmp 43) (.tmp 46)),A 48 2 0,L 49 48,M 50 7,N 51 (.indexAddr none 3 (.tmp 49) (.tmp 50)),A 52 51 1,L 53 52,M 54 9,N 55 (.indexAddr none 1 (.tmp 53) (.tmp 54)),L 56 55,N 57 (.build [(.str []),(.int .i64 0)] [(0,1,(.tmp 47)),(1,1,(.tmp 56))]),N 58 (.buildSlice 5 false (.agg [(.str []),(.int .i64 0)]) 1 [(0,(.tmp 57))]),N 59 (.append 6 2 24 false (.tmp 38) (.tmp 58)),A 60 8 1,S 1 60 59] [(1,2),(1,9),(2,9),(5,9),(6,9),(2,12),(9,12),(2,14),(9,14),(2,16),(9,16),(2,18),(9,18),(2,19),(9,19),(1,21)])) (.region 3 [M 35 9,N 36 (.binOp .add (.one .int) (.tmp 35) (I 1)),M 9 36] [])))
def j2x:ACode:=(.seq (.seq (.region 5 [M 12 7,A 13 2 0,L 14 13,N 15 (.len .sl (.tmp 14)),N 16 (.binOp .lss (.one .int) (.tmp 12) (.tmp 15))] []) (.cond (.tmp 16) .skip (.exit 0))) (.seq (.block 1 (.seq (.region 9 [A 19 2 0,L 20 19,M 21 7,N 22 (.indexAddr none 3 (.tmp 20) (.tmp 21)),A 23 22 0,L 24 23,N 25 (.build [(.str []),(.sl [] .nil),(.sl [] .nil)] [(0,1,(.tmp 24))]),N 8 (.alloc 3 (.agg [(.str []),(.sl [] .nil),(.sl [] .nil)])),S 3 8 25] []) (.seq (.seq (.region 1 [N 9 (.move (I 0))] []) (.block 2 (.loop x6i))) (.seq (.region 6 [M 61 5,A 62 8 1,L 63 62,N 64 (.call 21 [(.tmp 61),(I 2),(.tmp 63)]),A 65 8 2,S 1 65 64] []) (.seq (.seq (.region 3 [M 66 5,N 67 (.call 16 [(.tmp 66),(I 4)]),N 68 (.binOp .eql (.one .int) (.tmp 67) (I 0))] []) (.cond (.tmp 68) (.region 6 [M 69 5,N 70 (.call 16 [(.tmp 69),(I 3)]),N 71 (.binOp .gtr (.one .int) (.tmp 70) (I 0)),N 72 (.call 22 [.tmp 71]),A 73 8 2,S 1 73 72] []) .skip)) (.region 7 [A 74 6 0,L 75 74,N 76 (.load (some 3) (.tmp 8)),N 77 (.buildSlice 7 false (.agg [(.str []),(.sl [] .nil),(.sl [] .nil)]) 1 [(0,(.tmp 76))]),N 78 (.append 8 3 64 false (.tmp 75) (.tmp 77)),A 79 6 0,S 1 79 78] [])))))) (.region 3 [M 17 7,N 18 (.binOp .add (.one .int) (.tmp 17) (I 1)),M 7 18] [])))
def v4t:AFun:=
 {ntmps:=81,nslots:=9,results:=[.cell 4 (some 1)],byref:=[],owned:=false,
  body:=(.seq (.region 2 [N 2 (.box 0 (.tmp 0)),N 4 (.alloc 1 (.agg [(.sl [] .nil)]))] []) (.seq (.region 3 [M 10 1,N 11 (.call 14 [.tmp 10]),M 5 11] []) (.seq (.region 1 [N 6 (.alloc 2 (.agg [(.sl [] .nil)]))] []) (.seq (.seq (.region 1 [N 7 (.move (I 0))] []) (.block 0 (.loop j2x))) (.seq (.region 2 [N 80 (.load (some 1) (.tmp 6)),S 1 4 80] []) .ret)))))}
theorem v4u:Gam.fn 7=some v4t:=by kernel_rfl
noncomputable def y5f:AFun:=(fun (a:AFun) (_:Gam.fn 12=some a)=>a) _ (by conv=>lhs;reduce;simp only[Int.reduceOfNat,Int.reduceNegSucc])
noncomputable def x6j:ACode:=(fun (a:ACode) (_:fl [] (lp y5f 0)=a)=>a) _ (by conv=>lhs;reduce;simp only[Int.reduceOfNat,Int.reduceNegSucc])
attribute [local irreducible] x6j
noncomputable def v4v:AFun:=(fun (a:AFun) (_:flF [x6j] y5f=a)=>a) _ (by conv=>lhs;reduce;simp only[Int.reduceOfNat,Int.reduceNegSucc])
theorem y5g:Gam.fn 12=some v4v:=by kernel_rfl
noncomputable def v4w:AFun:=(fun (a:AFun) (_:Gam.fn 20=some a)=>a) _ (by conv=>lhs;reduce;simp only[Int.reduceOfNat,Int.reduceNegSucc])
theorem y5h:Gam.fn 20=some v4w:=by kernel_rfl
noncomputable def w3r:AFun:=(fun (a:AFun) (_:Gam.fn 24=some a)=>a) _ (by conv=>lhs;reduce;simp only[Int.reduceOfNat,Int.reduceNegSucc])
noncomputable def x1b:ACode:=(fun (a:ACode) (_:fl [] (lp w3r 1)=a)=>a) _ (by conv=>lhs;reduce;simp only[Int.reduceOfNat,Int.reduceNegSucc])
attribute [local irreducible] x1b
noncomputable def x6k:ACode:=(fun (a:ACode) (_:fl [x1b] (lp w3r 0)=a)=>a) _ (by conv=>lhs;reduce;simp only[Int.reduceOfNat,Int.reduceNegSucc])
attribute [local irreducible] x6k
noncomputable def k4t:AFun:=(fun (a:AFun) (_:flF [x6k,x1b] w3r=a)=>a) _ (by conv=>lhs;reduce;simp only[Int.reduceOfNat,Int.reduceNegSucc])
theorem y5i:Gam.fn 24=some k4t:=by kernel_rfl
noncomputable def w3s:AFun:=(fun (a:AFun) (_:Gam.fn 31=some a)=>a) _ (by conv=>lhs;reduce;simp only[Int.reduceOfNat,Int.reduceNegSucc])
noncomputable def x1c:ACode:=(fun (a:ACode) (_:fl [] (lp w3s 1)=a)=>a) _ (by conv=>lhs;reduce;simp only[Int.reduceOfNat,Int.reduceNegSucc])
attribute [local irreducible] x1c
noncomputable def x1d:ACode:=(fun (a:ACode) (_:fl [x1c] (lp w3s 0)=a)=>a) _ (by conv=>lhs;reduce;simp only[Int.reduceOfNat,Int.reduceNegSucc])
attribute [local irreducible] x1d
noncomputable def k4u:AFun:=(fun (a:AFun) (_:flF [x1d,x1c] w3s=a)=>a) _ (by conv=>lhs;reduce;simp only[Int.reduceOfNat,Int.reduceNegSucc])
theorem y5j:Gam.fn 31=some k4u:=by kernel_rfl
noncomputable def y5k:AFun:=(fun (a:AFun) (_:Gam.fn 73=some a)=>a) _ (by conv=>lhs;reduce;simp only[Int.reduceOfNat,Int.reduceNegSucc])
noncomputable def x6l:ACode:=(fun (a:ACode) (_:fl [] (lp y5k 0)=a)=>a) _ (by conv=>lhs;reduce;simp only[Int.reduceOfNat,Int.reduceNegSucc])
attribute [local irreducible] x6l
noncomputable def v4x:AFun:=(fun (a:AFun) (_:flF [x6l] y5k=a)=>a) _ (by conv=>lhs;reduce;simp only[Int.reduceOfNat,Int.reduceNegSucc])
theorem y5l:Gam.fn 73=some v4x:=by kernel_rfl
noncomputable def v4y:AFun:=(fun (a:AFun) (_:Gam.fn 26=some a)=>a) _ (by conv=>lhs;reduce;simp only[Int.reduceOfNat,Int.reduceNegSucc])
theorem y5m:Gam.fn 26=some v4y:=by kernel_rfl
noncomputable def v4z:AFun:=(fun (a:AFun) (_:Gam.fn 65=some a)=>a) _ (by conv=>lhs;reduce;simp only[Int.reduceOfNat,Int.reduceNegSucc])
theorem y5n:Gam.fn 65=some v4z:=by kernel_rfl
noncomputable def y5o:AFun:=(fun (a:AFun) (_:Gam.fn 72=some a)=>a) _ (by conv=>lhs;reduce;simp only[Int.reduceOfNat,Int.reduceNegSucc])
noncomputable def x6m:ACode:=(fun (a:ACode) (_:fl [] (lp y5o 0)=a)=>a) _ (by conv=>lhs;reduce;simp only[Int.reduceOfNat,Int.reduceNegSucc])
attribute [local irreducible] x6m
noncomputable def v5a:AFun:=(fun (a:AFun) (_:flF [x6m] y5o=a)=>a) _ (by conv=>lhs;reduce;simp only[Int.reduceOfNat,Int.reduceNegSucc])
theorem y5p:Gam.fn 72=some v5a:=by kernel_rfl
noncomputable def y5q:AFun:=(fun (a:AFun) (_:Gam.fn 105=some a)=>a) _ (by conv=>lhs;reduce;simp only[Int.reduceOfNat,Int.reduceNegSucc])
noncomputable def x6n:ACode:=(fun (a:ACode) (_:fl [] (lp y5q 0)=a)=>a) _ (by conv=>lhs;reduce;simp only[Int.reduceOfNat,Int.reduceNegSucc])
attribute [local irreducible] x6n
noncomputable def v5b:AFun:=(fun (a:AFun) (_:flF [x6n] y5q=a)=>a) _ (by conv=>lhs;reduce;simp only[Int.reduceOfNat,Int.reduceNegSucc])
theorem y5r:Gam.fn 105=some v5b:=by kernel_rfl
noncomputable def v5c:AFun:=(fun (a:AFun) (_:Gam.fn 110=some a)=>a) _ (by conv=>lhs;reduce;simp only[Int.reduceOfNat,Int.reduceNegSucc])
theorem y5s:Gam.fn 110=some v5c:=by kernel_rfl
noncomputable def v5d:AFun:=(fun (a:AFun) (_:Gam.fn 111=some a)=>a) _ (by conv=>lhs;reduce;simp only[Int.reduceOfNat,Int.reduceNegSucc])
theorem y5t:Gam.fn 111=some v5d:=by kernel_rfl
noncomputable def v5e:AFun:=(fun (a:AFun) (_:Gam.fn 173=some a)=>a) _ (by conv=>lhs;reduce;simp only[Int.reduceOfNat,Int.reduceNegSucc])
theorem y5u:Gam.fn 173=some v5e:=by kernel_rfl
def j2y:ACode:=(.seq (.region 1 [N 9 (.binOp .lss (.one .int) (.tmp 8) (.tmp 7))] []) (.seq (.cond (.tmp 9) .skip (.exit 0)) (.seq (.block 1 (.seq (.region 2 [M 10 8,M 5 10] []) (.seq (.region 6 [N 11 (.load (some 2) (.tmp 3)),M 12 0,M 13 5,N 14 (.indexAddr none 2 (.tmp 12) (.tmp 13)),N 15 (.load (some 2) (.tmp 14)),N 16 (.binOp .eql (.agg [.str, .int]) (.tmp 11) (.tmp 15))] []) (.cond (.tmp 16) (.seq (.region 2 [M 17 5,M 4 17] []) .ret) .skip)))) (.region 2 [N 18 (.binOp .add (.one .int) (.tmp 8) (I 1)),M 8 18] []))))
def v5f:AFun:=
 {ntmps:=19,nslots:=1,results:=[.tmp 4],byref:=[],owned:=false,
  body:=(.seq (.region 2 [N 3 (.box 0 (.tmp 1)),N 4 (.move (I 0))] []) (.seq (.seq (.region 3 [M 6 0,N 7 (.len .sl (.tmp 6)),N 8 (.move (I 0))] []) (.block 0 (.loop j2y))) (.seq (.region 1 [N 4 (.move (I (-1)))] []) .ret)))}
theorem y5v:Gam.fn 176=some v5f:=by kernel_rfl
end
structure Def where
 pred:List Nat
 params:List Var
 body:Term
def z2b (d:Def):AV:= .agg [.str d.pred, .sl (d.params.map z1h) .no, .sl (d.body.map eNode) .no]
def z4s (m:List Def):AV:= .agg [.sl (m.map z2b) .no]
theorem z1x (d:Def):(z2b d).ids=[]:=by simp[z2b,AV.ids,idsL,z0b z1k,z0b z0x]
theorem z4x (m:List Def):(z4s m).ids=[]:=by simp[z4s,AV.ids,idsL,z0b z1x]
theorem z1y {l:List Def}:z0o 3 (l.map z2b)=true:=z3x fun _=>⟨rfl,rfl,rfl⟩
theorem z7m {l:List Def} {i:Nat} {h:List AObj} {t:Tip} {k:IntKind} (hi:i < l.length):z1n h 3 (.sl (l.map z2b) t) (.int k (i:Int))=some (.iptr [.str l[i].pred, .sl (l[i].params.map z1h) .no, .sl (l[i].body.map eNode) .no] 0,h):=z3j hi rfl rfl
structure DefS (d:Def):Prop where
 params:d.params.length≤20000
 body:d.body.length≤20000
theorem q5z {d:Def} {u v:Tip} (hd:DefS d):Pure Gam 26 [.agg [.str d.pred, .sl (d.params.map z1h) u, .sl (d.body.map eNode) v]] (z2b d):=by
 have h1:=hd.params
 have h2:=hd.body
 refine Pure.of rfl y5m rfl rfl rfl (az:=[z2b d]) rfl (by simp[idsL,z1x]) fun D B clk T hB hT=> ?_
 simp only[go_sem,v4y,hB,z2b,z0y,z0a (v4k (xs:=d.params) (t:= .no) (by omega)),z0a (k3v (xs:=d.body) (t:= .no) (by omega)),z0m,z0l,z0g]
 refine⟨by simp[z0v,apart,z0h,z0s,z0w,AOp.isCall,hB], ?_⟩
 rw[z2q rfl (by simp[AV.cv,cvL,AV.ids,idsL,z0b z1k,z0b z0x])]
 exact hT _
theorem v0h {m:List Def} {u:Tip} (hl:m.length≤1000) (hm:∀ d∈m,DefS d):Pure Gam 73 [.agg [.sl (m.map z2b) u]] (z4s m):=by
 refine Pure.of rfl y5l rfl rfl rfl (az:=[z4s m]) rfl (by simp[idsL,z4x]) fun D B clk T hB hT=> ?_
 simp only[go_sem,v4x,hB,z4s]
 refine z2y m.length (by omega) (fun i q=>∃ (g0 g1 g2:Nat) (t:Tip) (o3 o4 o5 o6 o7:AObj),q.ts 1= .ptr (B + 0) g0 0 0∧q.ts 2= .ptr (B + 1) g1 0 0∧q.ts 3= .ptr (B + 2) g2 0 0∧q.ts 4= .int .i64 (i:Int)∧q.h=D++[.blk g0 [.agg [.sl (m.map z2b) .no]] false false 0, .blk g1 [.agg [.sl [] .nil]] false false 0, .blk g2 [.agg [.sl ((m.take i).map z2b) t]] false false 0,o3,o4,o5,o6,o7]∧z7x B 7 o7 t 3) ⟨_,_,_, .nil,_,_,_,_,_,rfl,rfl,rfl,rfl,rfl, .inl rfl⟩ ?_ ?_
 ·rintro i hlt f1 f2 ts h clk P ⟨g0,g1,g2,t,o3,o4,o5,o6,o7,q1,q2,q3,q4,rfl,ht⟩ hnx he hr
  dsimp only at q1 q2 q3 q4
  have hix:=fun h=>z7m (l:=m) (i:=i) (h:=h) (t:= .no) (k:= .i64) hlt
  have e8:(m.take i).map z2b++[m[i]].map z2b=(m.take (i + 1)).map z2b:=by rw[List.take_succ_eq_append_getElem hlt,List.map_append]
  have hd:=hm _ (List.getElem_mem hlt)
  have h1:=hd.params
  have h2:=hd.body
  generalize m[i]=d at *
  simp only[go_sem,x6l,q1,q2,q3,q4,hB,z0y,f1,hix,List.length_map]
  rw[append_nil hB rfl z3d (by rw[List.length_map];omega)]
  simp only[go_sem,q1,q2,q3,q4,hB]
  rw[append_nil hB rfl z2x (by rw[List.length_map];omega)]
  simp only[go_sem,q1,q2,q3,q4,hB]
  rw[show [AV.agg [.str d.pred, .sl (d.params.map z1h) .no, .sl (d.body.map eNode) .no]]=[d].map z2b from rfl,z0k hB rfl ht z1y z1y (by simp only[List.length_map,List.length_singleton,List.length_take];omega),e8]
  simp only[go_sem,q1,q2,q3,q4,hB,f2]
  refine⟨by simp[z0v,apart,z0h,z0s,z0w,AOp.isCall,hB,AV.ids,idsL,z0b z1x,z0b z1k,z0b z0x], ?_⟩
  exact hnx _ ⟨g0,g1,g2,_,_,_,_,_,_,q1,q2,q3,rfl,rfl, .inr (.inr ⟨_,rfl,rfl⟩)⟩
 ·rintro f1 ts h clk P ⟨g0,g1,g2,t,o3,o4,o5,o6,o7,q1,q2,q3,q4,rfl,ht⟩ he hr
  dsimp only at q1 q2 q3 q4
  rw[List.take_length]
  simp only[go_sem,x6l,q1,q2,q3,q4,hB,f1,List.length_map]
  refine he _ _ ?_
  simp only[go_sem,q1,q2,q3,hB,z0m,z0l,z0g]
  rw[z2q rfl (by simp[AV.cv,cvL,AV.ids,idsL,z0b z1x])]
  exact hT _
theorem j5x {m:List Def} (hl:m.length≤1000) (hm:∀ d∈m,DefS d):Pure Gam 12 [z4s m,z4s m] (.bool true):=by
 refine Pure.of rfl y5g rfl rfl rfl (az:=[z4s m,z4s m]) rfl (by simp[idsL,z4x]) fun D B clk T hB hT=> ?_
 simp only[go_sem,v4v,hB,z4s,List.length_map,decide_true,Bool.not_true]
 refine z2y m.length (by omega) (fun i q=>∃ (g0 g1:Nat),q.ts 2= .ptr (B + 0) g0 0 0∧q.ts 3= .ptr (B + 1) g1 0 0∧q.ts 5= .int .i64 (i:Int)∧q.h=D++[.blk g0 [.agg [.sl (m.map z2b) .no]] false false 0, .blk g1 [.agg [.sl (m.map z2b) .no]] false false 0]) ⟨_,_,rfl,rfl,rfl,rfl⟩ ?_ ?_
 ·rintro i hlt f1 f2 ts h clk P ⟨g0,g1,q2,q3,q5,rfl⟩ hnx he hr
  dsimp only at q2 q3 q5
  have hd:=hm _ (List.getElem_mem hlt)
  have p1:=y4p (u:= .no) (v:= .no) hd.params
  have p2:=y4o (u:= .no) (v:= .no) hd.body
  simp only[go_sem,x6j,q2,q3,q5,hB,List.length_map,f1,f2,z7m hlt,z0a p1,z0a p2,decide_true,Bool.not_true]
  exact hnx _ ⟨g0,g1,q2,q3,rfl,rfl⟩
 ·rintro f1 ts h clk P ⟨g0,g1,q2,q3,q5,rfl⟩ he hr
  dsimp only at q2 q3 q5
  simp only[go_sem,x6j,q2,q3,q5,hB,List.length_map,f1]
  refine he _ _ ?_
  simp only[go_sem,]
  rw[z0d]
  exact hT _
theorem v0i {n:Nat} (h1:1≤n) (h2:n≤4):Pure Gam 173 [.int .i64 (n:Int)] (.bool true):=by
 refine Pure.of rfl y5u rfl rfl rfl rfl rfl fun D B clk T hB hT=> ?_
 have e1:decide ((1:Int)≤(n:Int))=true:=by rw[decide_eq_true_iff];omega
 have e2:decide ((n:Int)≤4)=true:=by rw[decide_eq_true_iff];omega
 simp only[go_sem,v5e,e1,e2]
 rw[z0d]
 exact hT _
theorem v0j {V:List Var} {u:Tip} (hV:UOk V) (hnd:(V.map (·.name)).Nodup) (hl:V.length≤1000):Pure Gam 105 [.sl (V.map z1h) u] (.bool true):=by
 refine Pure.of rfl y5r rfl rfl rfl (az:=[.sl (V.map z1h) .no]) rfl (by simp[idsL,AV.ids,z0b z1k]) fun D B clk T hB hT=> ?_
 simp only[go_sem,v5b,hB,List.length_map]
 refine z2y V.length (by omega) (fun i q=>∃ (g:Nat) (o:AObj),q.ts 3= .mp (B + 0) g∧q.ts 7= .sl (V.map z1h) .no∧q.ts 8= .int .i64 (V.length:Int)∧q.ts 9= .int .i64 (i:Int)∧q.h=D++[.map g (z5d ((V.take i).map (·.name))),o]) ⟨_,_,rfl,rfl,rfl,rfl,rfl⟩ ?_ ?_
 ·rintro i hlt f1 f2 ts h clk P ⟨g,o,q3,q7,q8,q9,rfl⟩ hnx he hr
  dsimp only at q3 q7 q8 q9
  have hv:=List.getElem_mem hlt
  have hix:∀ h,z1n h 2 (.sl (V.map z1h) .no) (.int .i64 (i:Int))=some (.iptr [.str V[i].name, .int .i64 (V[i].sort:Int)] 0,h):=fun h=>z3j hlt rfl rfl
  have htake:V.take (i + 1)=V.take i++[V[i]]:=List.take_succ_eq_append_getElem hlt
  have hnew:V[i].name∉(V.take i).map (·.name):=by
   have h3:((V.take (i + 1)).map (·.name)).Nodup:=hnd.sublist ((List.take_sublist _ _).map _)
   rw[htake,List.map_append,List.nodup_append] at h3
   exact fun hc=>h3.2.2 _ hc _ (by simp) rfl
  have hsort:=hV.sort _ hv
  haveI:=hV
  have p1:=j2h (U:=V) hv
  have p2:=v0i hsort.1 hsort.2
  have hnm:z5d ((V.take (i + 1)).map (·.name))=z5d ((V.take i).map (·.name)++[V[i].name]):=by rw[htake,List.map_append];rfl
  generalize V[i]=v at *
  have hmu:∀ L:List AObj,z5s L 0 g=some (z5d ((V.take i).map (·.name)))→muV (D++L) (.one .str) (.str v.name) (.bool true) (.mp (B + 0) g)=some (.undef,D++L.set 0 (.map g (z5d ((V.take (i + 1)).map (·.name))))):=fun L hL=>by
   rw[hnm]
   exact x3u (v:= .bool true) hB hL rfl (q3f hnew)
  simp only[go_sem,x6n,q3,q7,q8,q9,f1,hB,hix,z6n,k3t,hnew,q1i,z0a p1,Bool.not_true,z0a p2,hmu,f2]
  exact hnx _ ⟨g,_,q3,q7,q8,rfl,rfl⟩
 ·rintro f1 ts h clk P ⟨g,o,q3,q7,q8,q9,rfl⟩ he hr
  dsimp only at q3 q7 q8 q9
  simp only[go_sem,x6n,q3,q7,q8,q9,f1]
  refine he _ _ ?_
  simp only[go_sem,]
  rw[z0d]
  exact hT _
theorem v5g {h:List AObj} {v w:Var}:z6w h .eql (.agg [.str, .int]) (.agg [.str v.name, .int .i64 (v.sort:Int)]) (.agg [.str w.name, .int .i64 (w.sort:Int)])=some (.bool (decide (v=w)),h):=by
 obtain⟨a,x⟩:=v
 obtain⟨b,y⟩:=w
 by_cases h1:a=b <;> by_cases h2:x=y <;> simp[z6w,z4k,AV.eqv,eqL,AV.eq1,h1,h2] <;> omega
theorem v0k {V:List Var} {v:Var} {u:Tip} (hl:V.length≤2 ^ 20) (hv:v∈V):∃ r:Nat,Pure Gam 176 [.sl (V.map z1h) u,z1h v] (.int .i64 (r:Int)):=by
 obtain⟨r,hr0,hat,hne⟩:∃ r,∃ h:r < V.length,V[r]=v∧∀ i (h:i < V.length),i < r→V[i]≠v:=by
  have hr0:V.findIdx (fun w=>decide (w=v)) < V.length:=List.findIdx_lt_length_of_exists ⟨v,hv,by simp⟩
  refine⟨_,hr0, ?_,fun i h hi=> ?_⟩
  ·have:=List.findIdx_getElem (w:=hr0)
   simpa using this
  ·have:=List.not_of_lt_findIdx hi
   simpa using this
 refine⟨r,Pure.of rfl y5v rfl rfl rfl (az:=[.sl (V.map z1h) .no,z1h v]) rfl (by simp[idsL,AV.ids,z0b z1k,z1k]) fun D B clk T hB hT=> ?_⟩
 simp only[go_sem,v5f,hB,z1h,nat,List.length_map]
 refine z2y V.length (by omega) (fun i q=>∃ g:Nat,i≤r∧q.ts 0= .sl (V.map z1h) .no∧q.ts 3= .ptr (B + 0) g 0 0∧q.ts 7= .int .i64 (V.length:Int)∧q.ts 8= .int .i64 (i:Int)∧q.h=D++[.blk g [.agg [.str v.name, .int .i64 (v.sort:Int)]] false false 0]) ⟨_,by omega,rfl,rfl,rfl,rfl,rfl⟩ ?_ ?_
 ·rintro i hlt f1 f2 ts h clk P ⟨g,hi,q0,q3,q7,q8,rfl⟩ hnx he hr
  dsimp only at q0 q3 q7 q8
  have hix:∀ h,z1n h 2 (.sl (V.map z1h) .no) (.int .i64 (i:Int))=some (.iptr [.str V[i].name, .int .i64 (V[i].sort:Int)] 0,h):=fun h=>z3j hlt rfl rfl
  by_cases hir:i=r
  ·subst hir
   rw[hat] at hix
   simp only[go_sem,j2y,q0,q3,q7,q8,hB,f1,hix,v5g,decide_true]
   refine hr _ ?_
   simp only[go_sem,]
   rw[z2r]
   exact hT _
  ·have hn:=hne i hlt (by omega)
   have e2:decide (v=V[i])=false:=by rw[decide_eq_false_iff_not];exact fun e=>hn e.symm
   generalize V[i]=w at hix e2
   simp only[go_sem,j2y,q0,q3,q7,q8,hB,f1,f2,hix,v5g,e2]
   exact hnx _ ⟨g,by omega,q0,q3,q7,rfl,rfl⟩
 ·rintro f1 ts h clk P ⟨g,hi,_⟩ he hr
  omega
theorem v0l {V:List Var} {v:Var} {u:Tip} (hl:V.length≤2 ^ 20) (hv:v∈V):Pure Gam 111 [.sl (V.map z1h) u,z1h v] (.bool true):=by
 obtain⟨r,hp⟩:=v0k (u:= .no) hl hv
 rw[z1h,nat] at hp
 refine Pure.of rfl y5t rfl rfl rfl (az:=[.sl (V.map z1h) .no,z1h v]) rfl (by simp[idsL,AV.ids,z0b z1k,z1k]) fun D B clk T hB hT=> ?_
 have e1:decide ((0:Int)≤(r:Int))=true:=by rw[decide_eq_true_iff];omega
 simp only[go_sem,v5d,hB,z1h,nat,z0a hp,e1]
 rw[z0d]
 exact hT _
structure DefOk (d:Def):Prop where
 u:UOk d.params
 nd:(d.params.map (·.name)).Nodup
 len:d.params.length≤20
 wf:GT d.params 1 8 2000 d.body
theorem DefOk.s {d:Def} (h:DefOk d):DefS d:=⟨by have:=h.len;omega,by have:=h.wf.2.1;omega⟩
theorem k4v {s g:Nat} {d:Def} {v:Var} (hd:DefOk d) (hv:v∈d.params):Reads [(s, .blk g [z2b d] false false 0)] 110 [z1h v, .ptr s g 0 0] (.bool false):=by
 have p2:=v0l (u:= .no) (by have:=hd.len;omega) hv
 rw[z1h,nat] at p2
 refine Reads.of rfl y5s rfl rfl rfl (az:=[z1h v, .ptr s g 0 0]) rfl (by simpa [idsL,AV.ids,z1k] using Cov.one (s:=s) (o:= .blk g [z2b d] false false 0) (by simp[AObj.ids,idsL,z1x])) fun D B clk T hB hS hlt hT=> ?_
 have h1:=hlt (s, .blk g [z2b d] false false 0) (by simp)
 have b1:=z2g (g:=g) (hS (s, .blk g [z2b d] false false 0) (by simp))
 dsimp only at h1 b1
 rw[z2b] at b1
 simp only[go_sem,v5c,hB,z1h,nat,z3p hB h1,b1,z0a p2,Bool.not_true]
 rw[z0d]
 exact hT _ hS.app
theorem v0m {d:Def} (hd:DefOk d):Pure Gam 65 [z2b d] (.bool true):=by
 haveI:=hd.u
 have hbl:=hd.wf.2.1
 have hpl:=hd.len
 have p0:=v0j (u:= .no) hd.u hd.nd (by omega)
 have p1:=x5u (U:=d.params) (u:= .no) hd.wf.1 (fun v h=>h) (by omega) (by omega)
 have p2:=j2l (U:=d.params) (u:= .no) hd.wf.1 (fun v h=>h) (by omega) (by omega)
 have p3:=k3r (U:=d.params) (u:= .no) hd.wf.1 (fun v h=>h) (by omega) (by omega)
 rw[nat] at p1
 have hvl:(z3e d.body []).length≤2 ^ 20:=by
  have:=q0o (t:=d.body) (acc:=[])
  simp only[List.length_nil] at this
  omega
 have hr:∀ s g,Reads [(s, .blk g [z2b d] false false 0)] 108 [.sl ((z3e d.body []).map z1h) .no, .fn 110 [.ptr s g 0 0]] (.bool ((z3e d.body []).any fun _=>false)):=fun s g=>
  j5h (enc:=z1h) (P:=fun _=>false) (fun _=>rfl) (fun _ _=>rfl) (fun _=>rfl) hvl (by simpa [idsL,AV.ids] using Cov.one (s:=s) (o:= .blk g [z2b d] false false 0) (by simp[AObj.ids,idsL,z1x])) fun v hv=>k4v hd (q0n hd.wf.1.names (acc:=[]) (by simp) v hv)
 have e:((z3e d.body []).any fun _=>false)=false:=by simp
 rw[e] at hr
 refine Pure.of rfl y5n rfl rfl rfl (az:=[z2b d]) rfl (by simp[idsL,z1x]) fun D B clk T hB hT=> ?_
 have hh:∀ g,Has [(B + 0, .blk g [z2b d] false false 0)] (D++[.blk g [.agg [.str d.pred, .sl (d.params.map z1h) .no, .sl (d.body.map eNode) .no]] false false 0]):=fun g=>x5r hB rfl
 simp only[go_sem,v4z,hB,z2b,z0a p0,z0a p1,z0a p2,z0a p3,Bool.not_true,Int.cast_ofNat_Int,decide_true,Int.reduceLT,decide_false,List.length_nil]
 rw[z1m (hr _ _) (hh _)]
 simp only[go_sem,Bool.not_false]
 rw[z0d]
 exact hT _
theorem y5w {l:List Nat} {u v:Tip} (hl:l.length≤20000):Pure Gam 64 [.sl (l.map nat) u, .sl (l.map nat) v] (.bool true):=by
 refine Pure.of rfl g3u rfl rfl rfl (az:=[.sl (l.map nat) .no, .sl (l.map nat) .no]) rfl (by simp[idsL,AV.ids,z0b (fun _=>z3q)]) fun D B clk T hB hT=> ?_
 simp only[go_sem,u9m,hB,List.length_map,decide_true,Bool.not_true]
 refine z2y l.length (by omega) (fun i q=>q.ts 0= .sl (l.map nat) .no∧q.ts 1= .sl (l.map nat) .no∧q.ts 12= .int .i64 (l.length:Int)∧q.ts 13= .int .i64 (i:Int)) ⟨rfl,rfl,rfl,rfl⟩ ?_ ?_
 ·rintro i hlt f1 f2 ts h clk P ⟨q0,q1,q12,q13⟩ hnx he hr
  dsimp only at q0 q1 q12 q13
  simp only[go_sem,v0g,q0,q1,q12,q13,hB,f1,f2,z7y hlt,nat,decide_true,Bool.not_true]
  exact hnx _ ⟨q0,q1,q12,rfl⟩
 ·rintro f1 ts h clk P ⟨q0,q1,q12,q13⟩ he hr
  dsimp only at q0 q1 q12 q13
  simp only[go_sem,v0g,q0,q1,q12,q13,hB,f1]
  refine he _ _ ?_
  simp only[go_sem,]
  rw[z0d]
  exact hT _
def q1s:List (List Nat):=[[117],[118],[121,48]]
theorem y5x:∀ n∈q1s,z7w q1o [.str n]=some (.bool true):=fun n hn=>by
 simp only[q1s,List.mem_cons,List.not_mem_nil,or_false] at hn
 rcases hn with rfl | rfl | rfl <;> rfl
theorem w3t:∀ n∈q1s,z7w q1v [.str n]=some (.bool true):=fun n hn=>by
 simp only[q1s,List.mem_cons,List.not_mem_nil,or_false] at hn
 rcases hn with rfl | rfl | rfl <;> rfl
def z4o (f:Func):List Var:=List.zipWith (fun n s=>⟨n,s⟩) q1s f.args
theorem j5y:∀ f∈allPreds,UOk (z4o f)∧((z4o f).map (·.name)).Nodup∧(z4o f).length≤3∧(z4o f).map (·.sort)=f.args:=by
 intro f hf
 have key:∀ V:List Var,(∀ v∈V,v.name∈q1s∧1≤v.sort∧v.sort≤4)→(∀ v∈V,∀ w∈V,v.name=w.name→v=w)→UOk V:=fun V h1 h2=>⟨fun v hv=>y5x _ (h1 v hv).1,fun v hv=>w3t _ (h1 v hv).1,fun v hv=>(h1 v hv).2,h2⟩
 simp only[allPreds,List.mem_cons,List.not_mem_nil,or_false] at hf
 rcases hf with rfl | rfl | rfl | rfl | rfl | rfl <;> exact⟨key _ (by decide) (by decide),by decide,by decide,rfl⟩
theorem q8n:∀ f∈allPreds,∀ g∈allPreds,f.name=g.name→f=g:=by decide
theorem v0n:∀ f∈allPreds,z7w q1v [.str f.name]=some (.bool true):=fun f hf=>by
 simp only[allPreds,List.mem_cons,List.not_mem_nil,or_false] at hf
 rcases hf with rfl | rfl | rfl | rfl | rfl | rfl <;> rfl
def DOk (d:Def):Prop:=∃ f∈allPreds,d.pred=f.name∧d.params=z4o f∧GT d.params 1 8 2000 d.body
def u9n (d:Def):Prop:=DOk d∧GT d.params 1 6 396 d.body
theorem DOk.ok {d:Def} (h:DOk d):DefOk d:=by
 obtain⟨f,hf,_,hp,hg⟩:=h
 obtain⟨h1,h2,h3,_⟩:=j5y f hf
 exact⟨by rw[hp];exact h1,by rw[hp];exact h2,by rw[hp];omega,hg⟩
theorem DOk.at {d:Def} {f:Func} (h:DOk d) (hf:f∈allPreds) (he:d.pred=f.name):d.params=z4o f∧d.params.map (·.sort)=f.args:=by
 obtain⟨g,hg,hn,hp,_⟩:=h
 obtain rfl:=q8n g hg f hf (by rw[←hn,he])
 exact⟨hp,by rw[hp];exact (j5y g hg).2.2.2⟩
def z3b (s:Sys) (m:List Def):Bool:=decide (m.map (·.pred)=s.preds.map (·.name))
theorem x4d {s:Sys} {m:List Def} (h:m.length≠s.preds.length):z3b s m=false:=by
 unfold z3b
 rw[decide_eq_false_iff_not]
 intro e
 have:=congrArg List.length e
 simp at this
 exact h this
theorem x9y {s:Sys} {m:List Def} {i:Nat} (h1:i < m.length) (h2:i < s.preds.length) (h:m[i].pred≠s.preds[i].name):z3b s m=false:=by
 unfold z3b
 rw[decide_eq_false_iff_not]
 intro e
 have:=congrArg (fun l=>l[i]?) e
 simp[h1,h2] at this
 exact h this
theorem x6o {s:Sys} {m:List Def} (hs:SysV s) (hm:∀ d∈m,DOk d) (hl:m.length≤1000):Pure Gam 24 [z1b s,z4s m] (.bool (z3b s m)):=by
 have p31:=v4i hs
 rw[z1b] at p31
 have hpl:=hs.pl
 refine Pure.of rfl y5i rfl rfl rfl (az:=[z1b s,z4s m]) rfl (by simp[idsL,z2k,z4x]) fun D B clk T hB hT=> ?_
 by_cases hlen:m.length=s.preds.length
 ·have e1:decide ((m.length:Int)=(s.preds.length:Int))=true:=by rw[decide_eq_true_iff];omega
  simp only[go_sem,k4t,hB,z1b,z4s,z0a p31,Bool.not_true,List.length_map,e1]
  refine z2y m.length (by omega) (fun i q=>∃ (g0 g1:Nat) (o2 o3 o4 o5 o6:AObj),(m.take i).map (·.pred)=(s.preds.take i).map (·.name)∧q.ts 2= .ptr (B + 0) g0 0 0∧q.ts 3= .ptr (B + 1) g1 0 0∧q.ts 24= .sl (m.map z2b) .no∧q.ts 25= .int .i64 (m.length:Int)∧q.ts 26= .int .i64 (i:Int)∧q.h=D++[.blk g0 [.agg [.sl (s.preds.map z1e) .no, .sl (s.clauses.map z0e) .no]] false false 0, .blk g1 [.agg [.sl (m.map z2b) .no]] false false 0,o2,o3,o4,o5,o6]) ⟨_,_,_,_,_,_,_,by simp,rfl,rfl,rfl,rfl,rfl,rfl⟩ ?_ ?_
  ·rintro i hlt f1 f2 ts h clk P ⟨g0,g1,o2,o3,o4,o5,o6,hpre,q2,q3,q24,q25,q26,rfl⟩ hnx he hr
   dsimp only at q2 q3 q24 q25 q26
   have hlt2:i < s.preds.length:=by omega
   have hixd:=fun h=>z7m (l:=m) (i:=i) (h:=h) (t:= .no) (k:= .i64) hlt
   have hixf:=fun h=>z4u (l:=s.preds) (i:=i) (h:=h) (t:= .no) (k:= .i64) hlt2
   have hd:=hm _ (List.getElem_mem hlt)
   have hf:=hs.preds.mem (List.getElem_mem hlt2)
   have htk:(m.take (i + 1)).map (·.pred)=(m.take i).map (·.pred)++[m[i].pred]:=by rw[List.take_succ_eq_append_getElem hlt,List.map_append];rfl
   have htk2:(s.preds.take (i + 1)).map (·.name)=(s.preds.take i).map (·.name)++[s.preds[i].name]:=by rw[List.take_succ_eq_append_getElem hlt2,List.map_append];rfl
   have hbad:=x9y (s:=s) (m:=m) hlt hlt2
   have p1037:=v0m hd.ok
   rw[z2b] at p1037
   have hdl:=hd.ok.len
   generalize m[i]=d at *
   generalize s.preds[i]=f at *
   simp only[go_sem,x6k,q2,q3,q24,q25,q26,hB,f1,hixd,hixf,List.length_map]
   refine z2y d.params.length (by omega) (fun k q=>∃ (ga gb:Nat) (t:Tip) (o4 o5 o6:AObj),q.ts 2= .ptr (B + 0) g0 0 0∧q.ts 3= .ptr (B + 1) g1 0 0∧q.ts 6= .ptr (B + 2) ga 0 0∧q.ts 7= .ptr (B + 3) gb 0 0∧q.ts 8= .sl (((d.params.take k).map (·.sort)).map nat) t∧q.ts 24= .sl (m.map z2b) .no∧q.ts 25= .int .i64 (m.length:Int)∧q.ts 26= .int .i64 (i:Int)∧q.ts 37= .sl (d.params.map z1h) .no∧q.ts 38= .int .i64 (d.params.length:Int)∧q.ts 39= .int .i64 (k:Int)∧q.h=D++[.blk g0 [.agg [.sl (s.preds.map z1e) .no, .sl (s.clauses.map z0e) .no]] false false 0, .blk g1 [.agg [.sl (m.map z2b) .no]] false false 0, .blk ga [.agg [.str d.pred, .sl (d.params.map z1h) .no, .sl (d.body.map eNode) .no]] false false 0, .blk gb [.agg [.str f.name, .sl (f.args.map nat) .no, .int .i64 (f.result:Int)]] false false 0,o4,o5,o6]∧z7x B 6 o6 t 1) ⟨_,_, .nil,_,_,_,by simp[z0c,q2],by simp[z0c,q3],rfl,rfl,rfl,by simp[z0c,q24],by simp[z0c,q25],by simp[z0c,q26],rfl,rfl,rfl,rfl, .inl rfl⟩ ?_ ?_
   ·clear q2 q3 q24 q25 q26 f1
    rintro k hkl f1 f2' ts h clk P' ⟨ga,gb,t,o4,o5,o6,q2,q3,q6,q7,q8,q24,q25,q26,q37,q38,q39,rfl,ht⟩ hnx' he' hr'
    dsimp only at q2 q3 q6 q7 q8 q24 q25 q26 q37 q38 q39
    have hix:∀ h,z1n h 2 (.sl (d.params.map z1h) .no) (.int .i64 (k:Int))=some (.iptr [.str d.params[k].name, .int .i64 (d.params[k].sort:Int)] 0,h):=fun h=>z3j hkl rfl rfl
    have e8:((d.params.take k).map (·.sort)).map nat++[d.params[k].sort].map nat=((d.params.take (k + 1)).map (·.sort)).map nat:=by rw[List.take_succ_eq_append_getElem hkl,List.map_append,List.map_append];rfl
    generalize d.params[k]=v at *
    simp only[go_sem,x1b,q2,q3,q6,q7,q8,q24,q25,q26,q37,q38,q39,hB,f1,hix]
    rw[show [AV.int .i64 (v.sort:Int)]=[v.sort].map nat from rfl,z0k hB rfl ht z4i z4i (by simp only[List.length_map,List.length_singleton,List.length_take];omega),e8]
    simp only[go_sem,q2,q3,q6,q7,q8,q24,q25,q26,q37,q38,q39,hB,f2']
    exact hnx' _ ⟨ga,gb,_,_,_,_,q2,q3,q6,q7,rfl,q24,q25,q26,q37,q38,rfl,rfl, .inr (.inr ⟨_,rfl,rfl⟩)⟩
   ·clear q2 q3 q24 q25 q26 f1
    rintro f1 ts h clk P' ⟨ga,gb,t,o4,o5,o6,q2,q3,q6,q7,q8,q24,q25,q26,q37,q38,q39,rfl,ht⟩ he' hr'
    dsimp only at q2 q3 q6 q7 q8 q24 q25 q26 q37 q38 q39
    rw[List.take_length] at q8
    simp only[go_sem,x1b,q2,q3,q6,q7,q8,q24,q25,q26,q37,q38,q39,hB,f1]
    refine he' _ _ ?_
    by_cases hname:d.pred=f.name
    ·obtain⟨_,hsorts⟩:=hd.at hf hname
     rw[hsorts] at q8
     have p62:=y5w (l:=f.args) (u:=t) (v:= .no) (by have:=hs.pr;have:=congrArg List.length hsorts;simp at this;omega)
     have en:decide (d.pred=f.name)=true:=decide_eq_true hname
     simp only[go_sem,q2,q3,q6,q7,q8,q24,q25,q26,hB,en,Bool.not_true,z0a p62,z0a p1037,f2]
     exact hnx _ ⟨g0,g1,_,_,_,_,_,by rw[htk,htk2,hpre,hname],q2,q3,q24,q25,rfl,rfl⟩
    ·have en:decide (d.pred=f.name)=false:=decide_eq_false hname
     rw[hbad hname] at hT
     simp only[go_sem,q2,q3,q6,q7,q8,q24,q25,q26,hB,en,Bool.not_false]
     refine hr _ ?_
     simp only[go_sem,]
     rw[z0d]
     exact hT _
  ·rintro f1 ts h clk P ⟨g0,g1,o2,o3,o4,o5,o6,hpre,q2,q3,q24,q25,q26,rfl⟩ he hr
   dsimp only at q2 q3 q24 q25 q26
   rw[List.take_length,hlen,List.take_length] at hpre
   rw[show z3b s m=true from decide_eq_true hpre] at hT
   simp only[go_sem,x6k,q2,q3,q24,q25,q26,hB,f1]
   refine he _ _ ?_
   simp only[go_sem,]
   rw[z0d]
   exact hT _
 ·have e1:decide ((m.length:Int)=(s.preds.length:Int))=false:=by rw[decide_eq_false_iff_not];omega
  rw[x4d hlen] at hT
  simp only[go_sem,k4t,hB,z1b,z4s,z0a p31,Bool.not_true,Bool.not_false,List.length_map,e1]
  rw[z0d]
  exact hT _
theorem x6p {n:List Nat} (h:z7w q1v [.str n]=some (.bool true)):Pure Gam 77 [.str n] (.bool true):=Pure.tab (tab:=q1v) rfl rfl h
theorem k4w {V:List Var} {i:Nat} {h:List AObj} (hi:i < V.length):slV h (some 2) (.sl (V.map z1h) .no) none (some (.int .i64 (i:Int))) none=some (.sl ((V.take i).map z1h) .no,h):=by
 rw[q8h (by rw[List.length_map];omega) (by cases V <;> rfl),if_neg (by rw[List.length_map];omega),List.map_take]
theorem v0o {d:Def} (hn:z7w q1v [.str d.pred]=some (.bool true)) (hd:DefOk d):Pure Gam 72 [z2b d] (.bool true):=by
 haveI:=hd.u
 have hbl:=hd.wf.2.1
 have hpl:=hd.len
 have p1:=x6p hn
 have p2:Pure Gam 113 [.sl (d.body.map eNode) .no, .int .i64 1, .sl (d.params.map z1h) .no] (.bool true):=j2o (U:=d.params) (V:=d.params) (s:=1) (d:=8) (fun v h=>h) (by omega) (by omega) (by omega) hd.wf.1 (by omega)
 have e1:decide ((40:Int) < (d.params.length:Int))=false:=by rw[decide_eq_false_iff_not];omega
 refine Pure.of rfl y5p rfl rfl rfl (az:=[z2b d]) rfl (by simp[idsL,z1x]) fun D B clk T hB hT=> ?_
 simp only[go_sem,v5a,hB,z2b,z0a p1,z0a p2,Bool.not_true,List.length_map,e1]
 refine z2y d.params.length (by omega) (fun i q=>∃ g0:Nat,q.ts 1= .ptr (B + 0) g0 0 0∧q.ts 3= .int .i64 (i:Int)∧q.h=D++[.blk g0 [.agg [.str d.pred, .sl (d.params.map z1h) .no, .sl (d.body.map eNode) .no]] false false 0]) ⟨_,rfl,rfl,rfl⟩ ?_ ?_
 ·rintro i hlt f1 f2 ts h clk P ⟨g0,q1,q3,rfl⟩ hnx he hr
  dsimp only at q1 q3
  have hv:=List.getElem_mem hlt
  have hix:∀ h,z1n h 2 (.sl (d.params.map z1h) .no) (.int .i64 (i:Int))=some (.iptr [.str d.params[i].name, .int .i64 (d.params[i].sort:Int)] 0,h):=fun h=>z3j hlt rfl rfl
  have hno:∀ v∈d.params.take i,v.name≠d.params[i].name:=fun v hv e=>by
   have h3:((d.params.take (i + 1)).map (·.name)).Nodup:=hd.nd.sublist ((List.take_sublist _ _).map _)
   rw[List.take_succ_eq_append_getElem hlt,List.map_append,List.nodup_append] at h3
   exact h3.2.2 _ (List.mem_map.2 ⟨v,hv,rfl⟩) _ (by simp) e
  have hs:=hd.u.sort _ hv
  have p3:=x6p (hd.u.name2 _ hv)
  have p4:=j2n hs.1 hs.2
  have p5:=k4c (V:=d.params.take i) (u:= .no) (by rw[List.length_take];omega) hno
  rw[nat] at p4
  have hcut:=fun h=>k4w (V:=d.params) (h:=h) hlt
  generalize d.params[i]=v at *
  simp only[go_sem,x6m,q1,q3,hB,f1,f2,List.length_map,hix,z0a p3,z0a p4,hcut,z0a p5,Bool.not_true]
  exact hnx _ ⟨g0,q1,rfl,rfl⟩
 ·rintro f1 ts h clk P ⟨g0,q1,q3,rfl⟩ he hr
  dsimp only at q1 q3
  simp only[go_sem,x6m,q1,q3,hB,f1,List.length_map]
  refine he _ _ ?_
  simp only[go_sem,]
  rw[z0d]
  exact hT _
theorem x6q {s:Sys} {m:List Def} (hs:SysV s) (hm:∀ d∈m,DOk d) (hl:m.length≤1000):Pure Gam 31 [z1b s,z4s m] (.bool (z3b s m)):=by
 have p28:=k4d hs
 rw[z1b] at p28
 have hpl:=hs.pl
 refine Pure.of rfl y5j rfl rfl rfl (az:=[z1b s,z4s m]) rfl (by simp[idsL,z2k,z4x]) fun D B clk T hB hT=> ?_
 by_cases hlen:m.length=s.preds.length
 ·have e1:decide ((m.length:Int)=(s.preds.length:Int))=true:=by rw[decide_eq_true_iff];omega
  simp only[go_sem,k4u,hB,z1b,z4s,z0a p28,Bool.not_true,List.length_map,e1]
  refine z2y m.length (by omega) (fun i q=>∃ (g0 g1:Nat) (o2:AObj),(m.take i).map (·.pred)=(s.preds.take i).map (·.name)∧q.ts 2= .ptr (B + 0) g0 0 0∧q.ts 3= .ptr (B + 1) g1 0 0∧q.ts 5= .int .i64 (i:Int)∧q.h=D++[.blk g0 [.agg [.sl (s.preds.map z1e) .no, .sl (s.clauses.map z0e) .no]] false false 0, .blk g1 [.agg [.sl (m.map z2b) .no]] false false 0,o2]) ⟨_,_,_,by simp,rfl,rfl,rfl,rfl⟩ ?_ ?_
  ·rintro i hlt f1 f2 ts h clk P ⟨g0,g1,o2,hpre,q2,q3,q5,rfl⟩ hnx he hr
   dsimp only at q2 q3 q5
   have hlt2:i < s.preds.length:=by omega
   have hixd:=fun h=>z7m (l:=m) (i:=i) (h:=h) (t:= .no) (k:= .i64) hlt
   have hixf:=fun h=>z4u (l:=s.preds) (i:=i) (h:=h) (t:= .no) (k:= .i64) hlt2
   have hd:=hm _ (List.getElem_mem hlt)
   have hf:=hs.preds.mem (List.getElem_mem hlt2)
   have htk:(m.take (i + 1)).map (·.pred)=(m.take i).map (·.pred)++[m[i].pred]:=by rw[List.take_succ_eq_append_getElem hlt,List.map_append];rfl
   have htk2:(s.preds.take (i + 1)).map (·.name)=(s.preds.take i).map (·.name)++[s.preds[i].name]:=by rw[List.take_succ_eq_append_getElem hlt2,List.map_append];rfl
   have hbad:=x9y (s:=s) (m:=m) hlt hlt2
   have hpn:z7w q1v [.str m[i].pred]=some (.bool true):=by
    obtain⟨g,hg,hn,_⟩:=hd
    rw[hn]
    exact v0n g hg
   have p1038:=v0o hpn hd.ok
   rw[z2b] at p1038
   have hdl:=hd.ok.len
   generalize m[i]=d at *
   by_cases hname:d.pred=s.preds[i].name
   ·obtain⟨_,hsorts⟩:=hd.at hf hname
    have hal:d.params.length=s.preds[i].args.length:=by simpa using congrArg List.length hsorts
    have en:decide (d.pred=s.preds[i].name)=true:=decide_eq_true hname
    have el:decide ((d.params.length:Int)=(s.preds[i].args.length:Int))=true:=by rw[decide_eq_true_iff,hal]
    simp only[go_sem,x1d,q2,q3,q5,hB,f1,List.length_map,hixd,hixf,z0a p1038,Bool.not_true,en,el]
    refine z2y d.params.length (by omega) (fun k q=>∃ ga:Nat,q.ts 2= .ptr (B + 0) g0 0 0∧q.ts 3= .ptr (B + 1) g1 0 0∧q.ts 5= .int .i64 (i:Int)∧q.ts 6= .ptr (B + 2) ga 0 0∧q.ts 7= .int .i64 (k:Int)∧q.h=D++[.blk g0 [.agg [.sl (s.preds.map z1e) .no, .sl (s.clauses.map z0e) .no]] false false 0, .blk g1 [.agg [.sl (m.map z2b) .no]] false false 0, .blk ga [.agg [.str d.pred, .sl (d.params.map z1h) .no, .sl (d.body.map eNode) .no]] false false 0]) ⟨_,by simp[z0c,q2],by simp[z0c,q3],by simp[z0c,q5],rfl,rfl,rfl⟩ ?_ ?_
    ·clear q2 q3 q5 f1
     rintro k hkl f1 f2' ts h clk P' ⟨ga,q2,q3,q5,q6,q7,rfl⟩ hnx' he' hr'
     dsimp only at q2 q3 q5 q6 q7
     have hix:∀ h,z1n h 2 (.sl (d.params.map z1h) .no) (.int .i64 (k:Int))=some (.iptr [.str d.params[k].name, .int .i64 (d.params[k].sort:Int)] 0,h):=fun h=>z3j hkl rfl rfl
     have hka:k < s.preds[i].args.length:=by omega
     have hixa:∀ h,z1n h 1 (.sl (s.preds[i].args.map nat) .no) (.int .i64 (k:Int))=some (.iptr [.int .i64 (s.preds[i].args[k]:Int)] 0,h):=fun h=>z3j hka rfl rfl
     have hse:d.params[k].sort=s.preds[i].args[k]:=by
      have:=congrArg (fun l=>l[k]?) hsorts
      simpa [hkl,hka] using this
     rw[←hse] at hixa
     generalize d.params[k]=v at *
     simp only[go_sem,x1c,q2,q3,q5,q6,q7,hB,f1,f2',List.length_map,hix,hixf,hixa,decide_true,Bool.not_true]
     exact hnx' _ ⟨ga,q2,q3,q5,q6,rfl,rfl⟩
    ·clear q2 q3 q5 f1
     rintro f1 ts h clk P' ⟨ga,q2,q3,q5,q6,q7,rfl⟩ he' hr'
     dsimp only at q2 q3 q5 q6 q7
     simp only[go_sem,x1c,q2,q3,q5,q6,q7,hB,f1,List.length_map]
     refine he' _ _ ?_
     simp only[go_sem,q2,q3,q5,q6,q7,hB,f2]
     exact hnx _ ⟨g0,g1,_,by rw[htk,htk2,hpre,hname],q2,q3,rfl,rfl⟩
   ·have en:decide (d.pred=s.preds[i].name)=false:=decide_eq_false hname
    rw[hbad hname] at hT
    simp only[go_sem,x1d,q2,q3,q5,hB,f1,List.length_map,hixd,hixf,z0a p1038,Bool.not_true,Bool.not_false,en]
    refine hr _ ?_
    simp only[go_sem,]
    rw[z0d]
    exact hT _
  ·rintro f1 ts h clk P ⟨g0,g1,o2,hpre,q2,q3,q5,rfl⟩ he hr
   dsimp only at q2 q3 q5
   rw[List.take_length,hlen,List.take_length] at hpre
   rw[show z3b s m=true from decide_eq_true hpre] at hT
   simp only[go_sem,x1d,q2,q3,q5,hB,f1,List.length_map]
   refine he _ _ ?_
   simp only[go_sem,]
   rw[z0d]
   exact hT _
 ·have e1:decide ((m.length:Int)=(s.preds.length:Int))=false:=by rw[decide_eq_false_iff_not];omega
  rw[x4d hlen] at hT
  simp only[go_sem,k4u,hB,z1b,z4s,z0a p28,Bool.not_true,Bool.not_false,List.length_map,e1]
  rw[z0d]
  exact hT _
section
attribute [-go_sem] v0b v0c
def v0p (b:Bool):Term:=[⟨if b then 1 else 2,0,[],[],0⟩]
end
def y5y:Def:=⟨[],[],[]⟩
def z9h (m:List Def) (n:List Nat):Def:=(m.find? fun d=>decide (d.pred=n)).getD y5y
theorem q1m {m:List Def} {j:Nat} (hj:j < m.length) (hn:(m.map (·.pred)).Nodup):z9h m m[j].pred=m[j]:=by
 have:m.find? (fun d=>decide (d.pred=m[j].pred))=some m[j]:=by
  rw[List.find?_eq_some_iff_getElem]
  refine⟨by simp,j,hj,rfl,fun k hk=> ?_⟩
  have hne:m[k].pred≠m[j].pred:=fun e=>by
   have:=(List.getElem_inj (xs:=m.map (·.pred)) (i:=k) (j:=j) (h₀:=by simp;omega) (h₁:=by simpa using hj) hn).1 (by simpa using e)
   omega
  simp[hne]
 rw[z9h,this]
 rfl
theorem x4e {D L:List AObj} {B p q e b gen:Nat} {xs ys:List AV} {t u:Tip} {o o':AObj} (hB:D.length=B) (hp:L[p]? =some o) (hq:L[q]? =some o') (ht:z7x B p o t e∨z7x B q o' t e) (hx:z0o e xs=true) (hy:z0o e ys=true) (hl:(xs.length + ys.length) * (b + 1)≤2 ^ 46):
  ∃ L',(L'=L∨L'=L.set q .dead)∧z0n (D++L) (B + p) gen e b false (.sl xs t) (.sl ys u)=some (.sl (xs++ys) (.at (B + p) gen),D++L'.set p (.tip gen e)):=by
 rcases ht with ht | rfl | rfl | ⟨g,rfl,rfl⟩
 ·exact⟨L, .inl rfl,z0k hB hp ht hx hy hl⟩
 ·exact⟨L, .inl rfl,z0k hB hp (.inl rfl) hx hy hl⟩
 ·exact⟨L, .inl rfl,z0k hB hp (.inr (.inl rfl)) hx hy hl⟩
 ·exact⟨_, .inr rfl,j8u hB hq hx hy hl⟩
theorem y5z {D L:List AObj} {B p q e b gen d g clk:Nat} {xs ys:List AV} {t u:Tip} {o o':AObj} {f:List Nat×List Nat} {m:Md} {os:List AOper} {ts:Tmps} {ks:List Kf} {Q:Post} (hB:D.length=B) (hp:L[p]? =some o) (hq:L[q]? =some o') (ht:z7x B p o t e∨z7x B q o' t e) (hx:z0o e xs=true) (hy:z0o e ys=true) (hl:(xs.length + ys.length) * (b + 1)≤2 ^ 46)
  (hQ:∀ L',(L'=L∨L'=L.set q .dead)→O Gam B (m.add f) (g + 1) os ⟨upd ts d (.sl (xs++ys) (.at (B + p) gen)),D++L'.set p (.tip gen e),clk⟩ ks Q):PO Gam B (z0n (D++L) (B + p) gen e b false (.sl xs t) (.sl ys u)) f m (some d) g os ts clk ks Q:=by
 obtain⟨L',h1,h2⟩:=x4e (b:=b) (gen:=gen) (u:=u) hB hp hq ht hx hy hl
 rw[h2]
 exact hQ L' h1
section
open Sh
set_option maxHeartbeats 0
noncomputable def v5h:AFun:=(fun (a:AFun) (_:Gam.fn 27=some a)=>a) _ (by conv=>lhs;reduce;simp only[Int.reduceOfNat,Int.reduceNegSucc])
theorem y6a:Gam.fn 27=some v5h:=by kernel_rfl
noncomputable def y6b:AFun:=(fun (a:AFun) (_:Gam.fn 68=some a)=>a) _ (by conv=>lhs;reduce;simp only[Int.reduceOfNat,Int.reduceNegSucc])
noncomputable def x1e:ACode:=(fun (a:ACode) (_:fl [] (lp y6b 0)=a)=>a) _ (by conv=>lhs;reduce;simp only[Int.reduceOfNat,Int.reduceNegSucc])
attribute [local irreducible] x1e
noncomputable def v5i:AFun:=(fun (a:AFun) (_:flF [x1e] y6b=a)=>a) _ (by conv=>lhs;reduce;simp only[Int.reduceOfNat,Int.reduceNegSucc])
theorem y6c:Gam.fn 68=some v5i:=by kernel_rfl
noncomputable def v5j:AFun:=(fun (a:AFun) (_:Gam.fn 69=some a)=>a) _ (by conv=>lhs;reduce;simp only[Int.reduceOfNat,Int.reduceNegSucc])
theorem y6d:Gam.fn 69=some v5j:=by kernel_rfl
noncomputable def v5k:AFun:=(fun (a:AFun) (_:Gam.fn 35=some a)=>a) _ (by conv=>lhs;reduce;simp only[Int.reduceOfNat,Int.reduceNegSucc])
theorem y6e:Gam.fn 35=some v5k:=by kernel_rfl
noncomputable def v5l:AFun:=(fun (a:AFun) (_:Gam.fn 33=some a)=>a) _ (by conv=>lhs;reduce;simp only[Int.reduceOfNat,Int.reduceNegSucc])
theorem v5m:Gam.fn 33=some v5l:=by kernel_rfl
noncomputable def y6f:AFun:=(fun (a:AFun) (_:Gam.fn 38=some a)=>a) _ (by conv=>lhs;reduce;simp only[Int.reduceOfNat,Int.reduceNegSucc])
noncomputable def x6r:ACode:=(fun (a:ACode) (_:fl [] (lp y6f 0)=a)=>a) _ (by conv=>lhs;reduce;simp only[Int.reduceOfNat,Int.reduceNegSucc])
attribute [local irreducible] x6r
noncomputable def v5n:AFun:=(fun (a:AFun) (_:flF [x6r] y6f=a)=>a) _ (by conv=>lhs;reduce;simp only[Int.reduceOfNat,Int.reduceNegSucc])
theorem y6g:Gam.fn 38=some v5n:=by kernel_rfl
noncomputable def v5o:AFun:=(fun (a:AFun) (_:Gam.fn 39=some a)=>a) _ (by conv=>lhs;reduce;simp only[Int.reduceOfNat,Int.reduceNegSucc])
theorem y6h:Gam.fn 39=some v5o:=by kernel_rfl
noncomputable def v5p:AFun:=(fun (a:AFun) (_:Gam.fn 116=some a)=>a) _ (by conv=>lhs;reduce;simp only[Int.reduceOfNat,Int.reduceNegSucc])
theorem y6i:Gam.fn 116=some v5p:=by kernel_rfl
noncomputable def v5q:AFun:=(fun (a:AFun) (_:Gam.fn 118=some a)=>a) _ (by conv=>lhs;reduce;simp only[Int.reduceOfNat,Int.reduceNegSucc])
theorem y6j:Gam.fn 118=some v5q:=by kernel_rfl
noncomputable def v5r:AFun:=(fun (a:AFun) (_:Gam.fn 119=some a)=>a) _ (by conv=>lhs;reduce;simp only[Int.reduceOfNat,Int.reduceNegSucc])
theorem y6k:Gam.fn 119=some v5r:=by kernel_rfl
noncomputable def y6l:AFun:=(fun (a:AFun) (_:Gam.fn 120=some a)=>a) _ (by conv=>lhs;reduce;simp only[Int.reduceOfNat,Int.reduceNegSucc])
noncomputable def x6s:ACode:=(fun (a:ACode) (_:fl [] (lp y6l 0)=a)=>a) _ (by conv=>lhs;reduce;simp only[Int.reduceOfNat,Int.reduceNegSucc])
attribute [local irreducible] x6s
noncomputable def v5s:AFun:=(fun (a:AFun) (_:flF [x6s] y6l=a)=>a) _ (by conv=>lhs;reduce;simp only[Int.reduceOfNat,Int.reduceNegSucc])
theorem y6m:Gam.fn 120=some v5s:=by kernel_rfl
noncomputable def v5t:AFun:=(fun (a:AFun) (_:Gam.fn 121=some a)=>a) _ (by conv=>lhs;reduce;simp only[Int.reduceOfNat,Int.reduceNegSucc])
theorem y6n:Gam.fn 121=some v5t:=by kernel_rfl
noncomputable def y6o:AFun:=(fun (a:AFun) (_:Gam.fn 122=some a)=>a) _ (by conv=>lhs;reduce;simp only[Int.reduceOfNat,Int.reduceNegSucc])
noncomputable def x1f:ACode:=(fun (a:ACode) (_:fl [] (lp y6o 0)=a)=>a) _ (by conv=>lhs;reduce;simp only[Int.reduceOfNat,Int.reduceNegSucc])
attribute [local irreducible] x1f
noncomputable def v5u:AFun:=(fun (a:AFun) (_:flF [x1f] y6o=a)=>a) _ (by conv=>lhs;reduce;simp only[Int.reduceOfNat,Int.reduceNegSucc])
theorem v5v:Gam.fn 122=some v5u:=by kernel_rfl
noncomputable def y6p:AFun:=(fun (a:AFun) (_:Gam.fn 180=some a)=>a) _ (by conv=>lhs;reduce;simp only[Int.reduceOfNat,Int.reduceNegSucc])
noncomputable def x6t:ACode:=(fun (a:ACode) (_:fl [] (lp y6p 0)=a)=>a) _ (by conv=>lhs;reduce;simp only[Int.reduceOfNat,Int.reduceNegSucc])
attribute [local irreducible] x6t
noncomputable def v5w:AFun:=(fun (a:AFun) (_:flF [x6t] y6p=a)=>a) _ (by conv=>lhs;reduce;simp only[Int.reduceOfNat,Int.reduceNegSucc])
theorem y6q:Gam.fn 180=some v5w:=by kernel_rfl
noncomputable def v5x:AFun:=(fun (a:AFun) (_:Gam.fn 181=some a)=>a) _ (by conv=>lhs;reduce;simp only[Int.reduceOfNat,Int.reduceNegSucc])
theorem y6r:Gam.fn 181=some v5x:=by kernel_rfl
noncomputable def w3u:AFun:=(fun (a:AFun) (_:Gam.fn 74=some a)=>a) _ (by conv=>lhs;reduce;simp only[Int.reduceOfNat,Int.reduceNegSucc])
noncomputable def x1g:ACode:=(fun (a:ACode) (_:fl [] (lp w3u 1)=a)=>a) _ (by conv=>lhs;reduce;simp only[Int.reduceOfNat,Int.reduceNegSucc])
attribute [local irreducible] x1g
noncomputable def x6u:ACode:=(fun (a:ACode) (_:fl [x1g] (lp w3u 0)=a)=>a) _ (by conv=>lhs;reduce;simp only[Int.reduceOfNat,Int.reduceNegSucc])
attribute [local irreducible] x6u
noncomputable def v5y:AFun:=(fun (a:AFun) (_:flF [x6u,x1g] w3u=a)=>a) _ (by conv=>lhs;reduce;simp only[Int.reduceOfNat,Int.reduceNegSucc])
theorem y6s:Gam.fn 74=some v5y:=by kernel_rfl
noncomputable def k4x:AFun:=(fun (a:AFun) (_:Gam.fn 37=some a)=>a) _ (by conv=>lhs;reduce;simp only[Int.reduceOfNat,Int.reduceNegSucc])
noncomputable def q1n:ACode:=(fun (a:ACode) (_:fl [] (lp k4x 3)=a)=>a) _ (by conv=>lhs;reduce;simp only[Int.reduceOfNat,Int.reduceNegSucc])
attribute [local irreducible] q1n
noncomputable def q6u:ACode:=(fun (a:ACode) (_:fl [q1n] (lp k4x 2)=a)=>a) _ (by conv=>lhs;reduce;simp only[Int.reduceOfNat,Int.reduceNegSucc])
attribute [local irreducible] q6u
noncomputable def x1h:ACode:=(fun (a:ACode) (_:fl [q6u,q1n] (lp k4x 1)=a)=>a) _ (by conv=>lhs;reduce;simp only[Int.reduceOfNat,Int.reduceNegSucc])
attribute [local irreducible] x1h
noncomputable def x6v:ACode:=(fun (a:ACode) (_:fl [x1h,q6u,q1n] (lp k4x 0)=a)=>a) _ (by conv=>lhs;reduce;simp only[Int.reduceOfNat,Int.reduceNegSucc])
attribute [local irreducible] x6v
noncomputable def v5z:AFun:=(fun (a:AFun) (_:flF [x6v,x1h,q6u,q1n] k4x=a)=>a) _ (by conv=>lhs;reduce;simp only[Int.reduceOfNat,Int.reduceNegSucc])
theorem y6t:Gam.fn 37=some v5z:=by kernel_rfl
def v6a:AFun:=
 {ntmps:=8,nslots:=2,results:=[.tmp 2],byref:=[],owned:=true,
  body:=(.seq (.region 1 [N 2 (.move (.const (.sl [] .nil)))] []) (.seq (.seq (.region 2 [M 3 0,N 4 (.binOp .eql .sl (.tmp 3) (.const (.sl [] .nil)))] []) (.cond (.tmp 4) (.seq (.region 1 [N 2 (.move (.const (.sl [] .nil)))] []) .ret) .skip)) (.seq (.region 4 [N 5 (.buildSlice 0 true (.agg [(.int .i64 0),(.int .i64 0),(.str []),(.str []),(.int .i64 0)]) 0 []),M 6 0,N 7 (.append 1 5 56 true (.tmp 5) (.tmp 6)),M 2 7] []) .ret)))}
theorem y6u:Gam.fn 1048643=some v6a:=by kernel_rfl
noncomputable def y6v:AFun:=(fun (a:AFun) (_:Gam.fn 36=some a)=>a) _ (by conv=>lhs;reduce;simp only[Int.reduceOfNat,Int.reduceNegSucc])
noncomputable def x1i:ACode:=(fun (a:ACode) (_:fl [] (lp y6v 0)=a)=>a) _ (by conv=>lhs;reduce;simp only[Int.reduceOfNat,Int.reduceNegSucc])
attribute [local irreducible] x1i
noncomputable def v6b:AFun:=(fun (a:AFun) (_:flF [x1i] y6v=a)=>a) _ (by conv=>lhs;reduce;simp only[Int.reduceOfNat,Int.reduceNegSucc])
theorem y6w:Gam.fn 36=some v6b:=by kernel_rfl
def x1j:ACode:=(.seq (.region 1 [N 10 (.binOp .lss (.one .int) (.tmp 9) (.tmp 8))] []) (.seq (.cond (.tmp 10) .skip (.exit 0)) (.seq (.block 1 (.seq (.region 4 [N 11 (.indexAddr none 3 (.tmp 7) (.tmp 9)),N 12 (.load (some 3) (.tmp 11)),N 5 (.alloc 3 (.agg [(.str []),(.sl [] .nil),(.sl [] .nil)])),S 3 5 12] []) (.region 8 [A 13 3 0,L 14 13,N 15 (.load (some 3) (.tmp 5)),N 16 (.call 26 [.tmp 15]),N 17 (.buildSlice 4 false (.agg [(.str []),(.sl [] .nil),(.sl [] .nil)]) 1 [(0,(.tmp 16))]),N 18 (.append 5 3 64 false (.tmp 14) (.tmp 17)),A 19 3 0,S 1 19 18] [(1,3),(1,4)]))) (.region 2 [N 20 (.binOp .add (.one .int) (.tmp 9) (I 1)),M 9 20] []))))
def j5z:AFun:=
 {ntmps:=22,nslots:=6,results:=[.cell 2 (some 1)],byref:=[],owned:=true,
  body:=(.seq (.region 2 [N 1 (.box 0 (.tmp 0)),N 2 (.alloc 1 (.agg [(.sl [] .nil)]))] []) (.seq (.region 1 [N 3 (.alloc 2 (.agg [(.sl [] .nil)]))] []) (.seq (.seq (.region 4 [A 6 1 0,L 7 6,N 8 (.len .sl (.tmp 7)),N 9 (.move (I 0))] []) (.block 0 (.loop x1j))) (.seq (.region 2 [N 21 (.load (some 1) (.tmp 3)),S 1 2 21] []) .ret))))}
theorem v0q:Gam.fn 1048601=some j5z:=by kernel_rfl
def x1k:ACode:=(.seq (.seq (.region 5 [M 6 4,A 7 1 0,L 8 7,N 9 (.len .sl (.tmp 8)),N 10 (.binOp .lss (.one .int) (.tmp 6) (.tmp 9))] []) (.cond (.tmp 10) .skip (.exit 0))) (.seq (.block 1 (.seq (.region 7 [A 13 1 0,L 14 13,M 15 4,N 16 (.indexAddr none 3 (.tmp 14) (.tmp 15)),N 17 (.load (some 3) (.tmp 16)),N 5 (.alloc 3 (.agg [(.str []),(.sl [] .nil),(.sl [] .nil)])),S 3 5 17] []) (.region 15 [A 18 3 0,L 19 18,A 20 5 0,L 21 20,A 22 5 1,L 23 22,N 24 (.append 4 2 24 false (.const (.sl [] .nil)) (.tmp 23)),A 25 5 2,L 26 25,N 27 (.append 5 5 56 false (.const (.sl [] .nil)) (.tmp 26)),N 28 (.build [(.str []),(.sl [] .nil),(.sl [] .nil)] [(0,1,(.tmp 21)),(1,1,(.tmp 24)),(2,1,(.tmp 27))]),N 29 (.buildSlice 6 true (.agg [(.str []),(.sl [] .nil),(.sl [] .nil)]) 1 [(0,(.tmp 28))]),N 30 (.append 7 3 64 true (.tmp 19) (.tmp 29)),A 31 3 0,S 1 31 30] [(1,6),(3,6),(6,8),(1,9),(3,9),(1,11)]))) (.region 3 [M 11 4,N 12 (.binOp .add (.one .int) (.tmp 11) (I 1)),M 4 12] [])))
def j6a:AFun:=
 {ntmps:=33,nslots:=8,results:=[.cell 2 (some 1)],byref:=[],owned:=true,
  body:=(.seq (.region 2 [N 1 (.box 0 (.tmp 0)),N 2 (.alloc 1 (.agg [(.sl [] .nil)]))] []) (.seq (.region 1 [N 3 (.alloc 2 (.agg [(.sl [] .nil)]))] []) (.seq (.seq (.region 1 [N 4 (.move (I 0))] []) (.block 0 (.loop x1k))) (.seq (.region 2 [N 32 (.load (some 1) (.tmp 3)),S 1 2 32] []) .ret))))}
theorem v0r:Gam.fn 1048649=some j6a:=by kernel_rfl
end
theorem k4y {s g:Nat} {p:List Nat} {d:Def}:Reads [(s, .blk g [.str p] false false 0)] 69 [z2b d, .ptr s g 0 0] (.bool (decide (d.pred=p))):=by
 refine Reads.of rfl y6d rfl rfl rfl (az:=[z2b d, .ptr s g 0 0]) rfl (by simpa [idsL,AV.ids,z1x] using Cov.one (s:=s) (o:= .blk g [.str p] false false 0) (by simp[AObj.ids,idsL,AV.ids])) fun D B clk T hB hS hlt hT=> ?_
 have h1:=hlt (s, .blk g [.str p] false false 0) (by simp)
 have b1:=z2g (g:=g) (hS (s, .blk g [.str p] false false 0) (by simp))
 dsimp only at h1 b1
 simp only[go_sem,v5j,hB,z2b,z3p hB h1,b1]
 rw[z0d]
 exact hT _ hS.app
theorem k4z {xs:List Def} {S:List (Nat×AObj)} {c:Nat} {cap:List AV} {P:Def→Bool} {t:Tip} (hl:xs.length≤2 ^ 20) (hC:Cov S (idsL cap)) (hP:∀ x∈xs,Reads S c (z2b x::cap) (.bool (P x))) (ha:xs.any P=true):
  ∃ (j:Nat) (hj:j < xs.length),P xs[j]=true∧Reads S 68 [.sl (xs.map z2b) t, .fn c cap] (.int .i64 (j:Int)):=by
 have hC':Cov S (idsL [.sl (xs.map z2b) .no, .fn c cap]):=by
  have:idsL [.sl (xs.map z2b) .no, .fn c cap]=idsL cap:=by simp[idsL,AV.ids,z0b z1x]
  rw[this];exact hC
 have key:∀ n,n≤xs.length→(xs.drop (xs.length - n)).any P=true→∃ (j:Nat) (hj:j < xs.length),P xs[j]=true∧∀ (D L:List AObj) (B clk:Nat) (ks:List Kf) (ts:Tmps) (Q:Post),Has S D→ts 0= .sl (xs.map z2b) .no→ts 1= .fn c cap→ts 7= .int .i64 (xs.length:Int)→ts 8= .int .i64 ((xs.length - n:Nat):Int)→
   (∀ ts' clk',ts' 4= .int .i64 (j:Int)→K Gam B .ret ks ⟨ts',D++L,clk'⟩ Q)→K Gam B (.loop x1e) ks ⟨ts,D++L,clk⟩ Q:=by
  intro n
  induction n with
  | zero=>intro _ h;simp at h
  | succ n ih=>
    intro hn hany
    have hk:xs.length - (n + 1) < xs.length:=by omega
    have hdr:xs.drop (xs.length - (n + 1))=xs[xs.length - (n + 1)]::xs.drop (xs.length - n):=by
     rw[List.drop_eq_getElem_cons hk]
     congr 2
     omega
    have e1:decide (((xs.length - (n + 1):Nat):Int) < (xs.length:Int))=true:=by rw[decide_eq_true_iff];omega
    have hpx:=hP _ (List.getElem_mem hk)
    rw[hdr,List.any_cons] at hany
    have hidx:=fun h=>z7m (l:=xs) (i:=xs.length - (n + 1)) (h:=h) (t:= .no) (k:= .i64) hk
    cases hpb:P xs[xs.length - (n + 1)] with
    | true=>
      refine⟨xs.length - (n + 1),hk,hpb,fun D L B clk ks ts Q hS h0 h1 h7 h8 hr=> ?_⟩
      refine z2e ?_
      rw[hpb] at hpx
      rw[z2b] at hpx
      generalize xs[xs.length - (n + 1)]=x at *
      simp only[go_sem,h0,h1,h7,h8,x1e,e1,hidx,z1m hpx hS.app]
      exact hr _ _ (by simp[z0c])
    | false=>
      rw[hpb,Bool.false_or] at hany
      obtain⟨j,hj,h1',h2'⟩:=ih (by omega) hany
      refine⟨j,hj,h1',fun D L B clk ks ts Q hS h0 h1 h7 h8 hr=> ?_⟩
      have e2:IntKind.i64.wrap (((xs.length - (n + 1):Nat):Int) + 1)=((xs.length - n:Nat):Int):=by rw[z0f (by omega) (by omega)];omega
      refine z2e ?_
      rw[hpb] at hpx
      rw[z2b] at hpx
      have hgo:=fun ts q0 q1 q7 q8 clk=>h2' D L B clk ks ts Q hS q0 q1 q7 q8 hr
      generalize xs[xs.length - (n + 1)]=x at *
      simp only[go_sem,h0,h1,h7,h8,x1e,e1,hidx,z1m hpx hS.app,e2]
      exact hgo _ (by simp[z0c,h0]) (by simp[z0c,h1]) (by simp[z0c,h7]) (by simp[z0c]) _
 obtain⟨j,hj,h1,h2⟩:=key xs.length (Nat.le_refl _) (by rw[Nat.sub_self,List.drop_zero];exact ha)
 refine⟨j,hj,h1,Reads.of rfl y6c rfl rfl rfl rfl (by simpa [cvL,AV.cv] using hC') fun D B clk T hB hS hlt hT=> ?_⟩
 simp only[go_sem,v5i,List.length_map]
 refine h2 D _ B _ _ _ _ hS (by simp[z0c,z3l]) (by simp[z0c,z7l,z3l]) (by simp[z0c]) (by simp[z0c]) (fun ts' clk' q4=> ?_)
 simp only[go_sem,q4]
 rw[z2r]
 exact hT _ hS.app
theorem x6w {m:List Def} {p:List Nat} (hl:m.length≤1000) (hn:(m.map (·.pred)).Nodup) (hp:p∈m.map (·.pred)):Pure Gam 27 [z4s m, .str p] (z2b (z9h m p)):=by
 have ha:m.any (fun d=>decide (d.pred=p))=true:=by
  obtain⟨d,hd,rfl⟩:=List.mem_map.1 hp
  exact List.any_eq_true.2 ⟨d,hd,by simp⟩
 have hr:∀ s g,∃ (j:Nat) (hj:j < m.length),m[j].pred=p∧Reads [(s, .blk g [.str p] false false 0)] 68 [.sl (m.map z2b) .no, .fn 69 [.ptr s g 0 0]] (.int .i64 (j:Int)):=fun s g=>by
  obtain⟨j,hj,h1,h2⟩:=k4z (t:= .no) (S:=[(s, .blk g [.str p] false false 0)]) (c:=69) (cap:=[.ptr s g 0 0]) (P:=fun d=>decide (d.pred=p)) (by omega) (by simpa [idsL,AV.ids] using Cov.one (s:=s) (o:= .blk g [.str p] false false 0) (by simp[AObj.ids,idsL,AV.ids])) (fun d _=>k4y) ha
  exact⟨j,hj,of_decide_eq_true h1,h2⟩
 refine Pure.of rfl y6a rfl rfl rfl (az:=[z4s m, .str p]) rfl (by simp[idsL,AV.ids,z4x]) fun D B clk T hB hT=> ?_
 obtain⟨j,hj,e,hr⟩:=hr (B + 1) (clk + 1)
 have hh:∀ o o',Has [(B + 1, .blk (clk + 1) [.str p] false false 0)] (D++[o, .blk (clk + 1) [.str p] false false 0,o']):=fun o o'=>x5r (k:=1) hB rfl
 have hdx:=fun h=>z7m (l:=m) (i:=j) (h:=h) (t:= .no) (k:= .i64) hj
 have hde:=q1m hj hn
 rw[e] at hde
 rw[hde] at hT
 rw[z2b] at hT
 simp only[go_sem,v5h,hB,z4s,z0y]
 refine z6i hr (hh _ _) ?_
 generalize m[j]=d at *
 simp only[go_sem,hB,hdx,z0m,z0l,z0g]
 refine⟨by simp[z0v,apart,z0h,z0s,z0w,AOp.isCall,hB,AV.ids,idsL,z0b z1x,z0b z1k,z0b z0x], ?_⟩
 rw[z2q rfl (by simp[AV.cv,cvL,AV.ids,idsL,z0b z1k,z0b z0x])]
 exact hT _
theorem j6b {V:List Var} {u:Tip} (hl:V.length≤1000):Pure Gam 38 [.sl (V.map z1h) u] (.sl (z3r (V.map (·.name))) .no):=by
 refine Pure.of rfl y6g rfl rfl rfl (az:=[.sl (V.map z1h) .no]) rfl (by simp[idsL,AV.ids,z0b z1k]) fun D B clk T hB hT=> ?_
 simp only[go_sem,v5n,hB,List.length_map]
 refine z2y V.length (by omega) (fun i q=>∃ (t:Tip) (o0 o1:AObj),q.ts 0= .sl (V.map z1h) .no∧q.ts 3= .sl (z3r ((V.take i).map (·.name))) t∧q.ts 4= .int .i64 (i:Int)∧q.h=D++[o0,o1]∧z7x B 1 o1 t 1) ⟨.nil,_,_,rfl,rfl,rfl,rfl, .inl rfl⟩ ?_ ?_
 ·rintro i hlt f1 f2 ts h clk P ⟨t,o0,o1,q0,q3,q4,rfl,ht⟩ hnx he hr
  dsimp only at q0 q3 q4
  have hix:∀ h,z1n h 2 (.sl (V.map z1h) .no) (.int .i64 (i:Int))=some (.iptr [.str V[i].name, .int .i64 (V[i].sort:Int)] 0,h):=fun h=>z3j hlt rfl rfl
  have e8:z3r ((V.take i).map (·.name))++z3r [V[i].name]=z3r ((V.take (i + 1)).map (·.name)):=by
   rw[List.take_succ_eq_append_getElem hlt,List.map_append]
   simp[z3r]
  generalize V[i]=v at *
  simp only[go_sem,x6r,q0,q3,q4,hB,f1,f2,hix,List.length_map]
  rw[show [AV.str v.name]=z3r [v.name] from rfl,z0k hB rfl ht z5k z5k (by simp[z3r];omega),e8]
  simp only[go_sem,q0,q3,q4,hB,f2]
  exact hnx _ ⟨_,_,_,q0,rfl,rfl,rfl, .inr (.inr ⟨_,rfl,rfl⟩)⟩
 ·rintro f1 ts h clk P ⟨t,o0,o1,q0,q3,q4,rfl,ht⟩ he hr
  dsimp only at q0 q3 q4
  rw[List.take_length] at q3
  simp only[go_sem,x6r,q0,q3,q4,hB,f1,List.length_map]
  refine he _ _ ?_
  simp only[go_sem,q3]
  rw[z2q rfl (by simp[AV.cv,AV.ids,z2u])]
  exact hT _
def x1t (a b:Term):Term:=bare 7 2::(a++b)
theorem GT.and {V:List Var} {d m1 m2:Nat} {a b:Term} (ha:GT V 1 d m1 a) (hb:GT V 1 d m2 b):GT V 1 (d + 1) (m1 + m2 + 1) (x1t a b):=GT.op2 ha hb (.andor (k:=2) (.inl rfl)) (by omega) (by omega)
theorem v0s {a b:Term} {u:Tip} (ha:a.length≤20000) (hb:b.length≤20000):Pure Gam 39 [.sl [z0i a,z0i b] u] (z0i (x1t a b)):=by
 have p:=j1r (n:=⟨7,0,[],[],0⟩) (l:=[a,b]) (u:= .no) (by simp) (by simp;omega)
 have e:z0i ({(⟨7,0,[],[],0⟩:Node) with kids:=[a,b].length}::[a,b].flatten)=z0i (x1t a b):=by simp[x1t,bare]
 rw[e] at p
 refine Pure.of rfl y6h rfl rfl rfl (az:=[.sl [z0i a,z0i b] .no]) rfl (by simp[idsL,AV.ids,z0i,z0b z0x]) fun D B clk T hB hT=> ?_
 simp only[eNode,List.map_cons,List.map_nil,nat,Int.cast_ofNat_Int] at p
 simp only[go_sem,v5o,hB,z0a p]
 rw[z2q rfl (by simp[z0i,AV.cv,AV.ids,z0b z0x])]
 exact hT _
def q3l (h:List AObj):List (Nat×AObj)→List AObj
 | []=>h
 | p::S=>q3l (h.set p.1 p.2) S
theorem x4f {hr:List AObj}:∀ {S:List (Nat×AObj)} {h:List AObj},(∀ p∈S,p.1 < h.length)→(∀ p∈S,hr[p.1]? =some p.2)→∀ i,(q3l h S)[i]? =if i∈S.map (·.1) then hr[i]? else h[i]?
 | [],h,_,_,i=>by simp[q3l]
 | p::S,h,hl,hg,i=>by
   rw[q3l,x4f (fun q hq=>by rw[List.length_set];exact hl q (List.mem_cons_of_mem _ hq)) (fun q hq=>hg q (List.mem_cons_of_mem _ hq))]
   by_cases hi:i∈S.map (·.1)
   ·rw[if_pos hi,if_pos (by rw[List.map_cons];exact List.mem_cons_of_mem _ hi)]
   ·rw[if_neg hi]
    by_cases hip:i=p.1
    ·subst hip
     rw[if_pos (by rw[List.map_cons];exact List.mem_cons_self),List.getElem?_set_self (hl p List.mem_cons_self),hg p List.mem_cons_self]
    ·rw[if_neg (by rw[List.map_cons,List.mem_cons];exact fun h=>h.elim hip hi),List.getElem?_set_ne (Ne.symm hip)]
theorem v6c {S:List (Nat×AObj)} {f:Nat} {args az:List AV} {h:List AObj} {clk:Nat} {af:AFun} {Q:AV→List AObj→Nat→Prop} (hext:Gam.ext f=none) (hfn:Gam.fn f=some af) (hb:af.byref=[]) (ho:af.owned=false) (hobs:z3y args=[]) (has:cvL args=az) (hne0:idsL az≠[]) (hC:Cov S (idsL az)) (hS:Has S h)
  (hw:∀ (D:List AObj) (B:Nat) (R:AV→List AObj→Prop),D.length=B→Has S D→(∀ p∈S,p.1 < B)→(∀ v h' S',S'.map (·.1)=S.map (·.1)→Has S' h'→(∀ p∈S',∀ i∈p.2.ids,i∈S.map (·.1))→Q v (q3l h S') clk→R v h')→K Gam B af.body [] ⟨z9z az,D++List.replicate af.nslots .dead,clk⟩ (j9c (S.map (·.1)) af.results R)):WC Gam f args h clk Q:=by
 have hp:z1d h af.byref 0 args=some az:=by rw[hb,z1o hobs,has]
 have hl:z0p af.byref 0 args=[]:=by rw[hb];exact z5a hobs
 have hTS:∀ i∈reach h (h.length + 1) [] (idsL az),i∈S.map (·.1):=q5q hS hC.closed (by simp) hC.root
 have hST:∀ i∈S.map (·.1),i∈reach h (h.length + 1) [] (idsL az):=fun i hi=>by
  obtain⟨p,hp',rfl⟩:=List.mem_map.1 hi
  exact hC.cover h hS p hp'
 have hmask:Has S (maskFrom (reach h (h.length + 1) [] (idsL az)) 0 h):=fun p hp'=>by
  rw[q9u (by rw[Nat.zero_add,List.contains_eq_mem];exact decide_eq_true (hC.cover h hS p hp'))]
  exact hS p hp'
 obtain⟨k,e,s1,he,hend⟩:=hw (maskFrom (reach h (h.length + 1) [] (idsL az)) 0 h) h.length (fun v h'=>∃ S':List (Nat×AObj),S'.map (·.1)=S.map (·.1)∧Has S' h'∧(∀ p∈S',∀ i∈p.2.ids,i∈S.map (·.1))∧Q v (q3l h S') clk) z5b hmask (fun p hp'=>hS.lt p hp') (fun v h' S' h1 h2 h3 h4=>⟨S',h1,h2,h3,h4⟩)
 obtain⟨hne,vs,v,hr,hc,hv,hno,S',h1,h2,h3,hQ⟩:=q8f hend
 refine⟨k,v,q3l h S',clk, ?_,hQ⟩
 have hTne:(reach h (h.length + 1) [] (idsL az)).isEmpty=false:=q8m (.inr hne0)
 generalize hT:reach h (h.length + 1) [] (idsL az)=T at *
 have hlt:∀ p∈S',p.1 < h.length:=fun p hp'=>by
  have:p.1∈S.map (·.1):=by rw[←h1];exact List.mem_map_of_mem hp'
  obtain⟨q,hq,e⟩:=List.mem_map.1 this
  rw[←e]
  exact hS.lt q hq
 have hfr:∀ i∈S.map (·.1),(freezeAll s1.h (z1l vs).obs)[i]? =s1.h[i]? :=fun i hi=>by
  refine q3d ?_
  unfold x3c at hno
  rw[List.all_eq_true] at hno⊢
  intro p hp'
  have:=hno p hp'
  rw[Bool.not_eq_true',List.contains_eq_mem,decide_eq_false_iff_not] at this⊢
  intro hm
  rw[List.mem_singleton] at hm
  exact this (hm ▸ hi)
 have hm:z0r T 0 h (freezeAll s1.h (z1l vs).obs)=q3l h S':=by
  refine List.ext_getElem? fun i=> ?_
  rw[x4f (hr:=s1.h) hlt h2,h1]
  by_cases hi:i < h.length
  ·rw[q0e,List.getElem?_eq_getElem hi,Nat.zero_add]
   dsimp only
   by_cases hk:i∈S.map (·.1)
   ·rw[if_pos hk]
    have hc':T.contains i=true:=by rw[List.contains_eq_mem];exact decide_eq_true (hST i hk)
    obtain⟨p,hp',rfl⟩:=List.mem_map.1 (h1 ▸ hk)
    simp[hfr _ hk,h2 p hp',hST _ hk]
   ·rw[if_neg hk]
    have hc':i∉T:=fun hm=>hk (hTS i hm)
    cases (freezeAll s1.h (z1l vs).obs)[i]? <;> simp[hc',hi]
  ·rw[q0e,List.getElem?_eq_none (by omega)]
   dsimp only
   have hk:i∉S.map (·.1):=fun hm=>by
    obtain⟨q,hq,e⟩:=List.mem_map.1 hm
    exact hi (e ▸ hS.lt q hq)
   rw[if_neg hk]
 have hall:((v.ids++(List.map (fun i=>(Option.map AObj.ids (freezeAll s1.h (z1l vs).obs)[i]?).getD []) T).flatten).all fun x=>decide (x < h.length))=true:=by
  rw[hv,List.nil_append,List.all_eq_true]
  intro x hx
  rw[List.mem_flatten] at hx
  obtain⟨l,hl',hx⟩:=hx
  obtain⟨i,hi,rfl⟩:=List.mem_map.1 hl'
  have hik:=hTS i hi
  rw[hfr i hik] at hx
  obtain⟨p,hp',rfl⟩:=List.mem_map.1 (h1 ▸ hik)
  rw[h2 p hp'] at hx
  obtain⟨q,hq,e⟩:=List.mem_map.1 (h3 p hp' x (by simpa using hx))
  rw[decide_eq_true_iff,←e]
  exact hS.lt q hq
 unfold z5f z0q
 simp only[hext,hfn,hp,hl,freezeAll,hT,he,ho,Bool.false_eq_true,if_false,hr,hc,hTne,Bool.and_false,hm]
 cases e with
 | exit i=>exact absurd rfl (hne i)
 | norm=>simp only[hall,if_true]
 | ret=>simp only[hall,if_true]
theorem j2z {f base gg clk:Nat} {args az:List AV} {h:List AObj} {af:AFun} {dst:Option Nat} {os:List AOper} {ts:Tmps} {ks:List Kf} {Q:Post} (hext:Gam.ext f=none) (hfn:Gam.fn f=some af) (hb:af.byref=[]) (hpa:z1d h [] 0 args=some az) (hcv:cvL az=az) (hobs:z3y az=[]) (hne:idsL az≠[])
  (hw:WC Gam f az (freezeAll h (z0p [] 0 args)) clk fun v h' c=>O Gam base .plain (gg + 1) os ⟨z8c ts dst v,h',c⟩ ks Q):CK Gam base f args h clk .plain dst gg os ts ks Q:=by
 obtain⟨k,v,h',c,hc,hq⟩:=hw
 exact⟨k,v,h',c,by rw[j5v hext hfn hb hpa hcv hobs hne];exact hc,hq⟩
end Go.Proofs.YtdfepmffiampgaaGreatDoor.Am
