/- Walking: terms are equal to themselves Walking: lists of terms and of numbers are equal to themselves Walking: atoms are equal to themselves Walking: loops over indices; systems are equal to themselve -/
import Derived.Test.YtahdahokpjigiaaGreatDoorM34
set_option linter.all false
namespace Go.Proofs.YtahdahokpjigiaaGreatDoor.Am
open Go
set_option maxRecDepth 100000
theorem k2u {n:Int}:Pure Gam 196 [.int .i64 n, .int .i64 n] (.int .i64 0):=by
 refine Pure.of rfl y4o rfl rfl rfl rfl rfl fun D B clk T hB hT=> ?_
 simp only[go_sem,w4z,Int.lt_irrefl,decide_false]
 rw[z0h rfl rfl]
 exact hT _
theorem q2k:∀ a:List Nat,z4u a a=false
 | []=>rfl
 | c::a=>by simp[z4u,q2k a]
theorem v9d {h:List AObj} {t:ETy} {a:List Nat}:z7d h .gtr t (.str a) (.str a)=some (.bool false,h):=by simp[z7d,z4q,q6m,q2k]
theorem v9e {a:List Nat}:Pure Gam 197 [.str a, .str a] (.int .i64 0):=by
 refine Pure.of rfl y4p rfl rfl rfl rfl rfl fun D B clk T hB hT=> ?_
 simp only[go_sem,w5a,q2k,v9d]
 rw[z0h rfl rfl]
 exact hT _
theorem v9f {t:Term} {u v:Tip} (hl:t.length≤20000):Pure Gam 129 [.sl (t.map eNode) u, .sl (t.map eNode) v] (.int .i64 0):=by
 refine Pure.of rfl y4n rfl rfl rfl (az:=[.sl (t.map eNode) .no, .sl (t.map eNode) .no]) rfl (by simp[idsL,z7s]) fun D B clk T hB hT=> ?_
 have ea0:∀ (h:List AObj) (g:Nat),q5j h 5 1 (.ptr (B + 2) g 0 0) (.int .i64 0)=some (.ptr (B + 2) g 0 0,h):=fun _ _=>rfl
 have ea1:∀ (h:List AObj) (g:Nat),q5j h 5 1 (.ptr (B + 2) g 0 0) (.int .i64 1)=some (.ptr (B + 2) g 0 1,h):=fun _ _=>rfl
 have ea2:∀ (h:List AObj) (g:Nat),q5j h 5 1 (.ptr (B + 2) g 0 0) (.int .i64 2)=some (.ptr (B + 2) g 0 2,h):=fun _ _=>rfl
 have ea3:∀ (h:List AObj) (g:Nat),q5j h 5 1 (.ptr (B + 2) g 0 0) (.int .i64 3)=some (.ptr (B + 2) g 0 3,h):=fun _ _=>rfl
 have ea4:∀ (h:List AObj) (g:Nat),q5j h 5 1 (.ptr (B + 2) g 0 0) (.int .i64 4)=some (.ptr (B + 2) g 0 4,h):=fun _ _=>rfl
 simp only[go_sem,w4y,hB]
 refine z0y (fun m q=>∃ (i:Nat) (o0 o1 o2:AObj),i≤t.length∧m=t.length - i∧q.ts 0= .sl (t.map eNode) .no∧q.ts 1= .sl (t.map eNode) .no∧q.ts 5= .int .i64 (i:Int)∧q.h=D++[o0,o1,o2]) t.length ⟨0,_,_,_,by omega,rfl,rfl,rfl,rfl,rfl⟩ ?_
 rintro m ⟨ts,h',clk⟩ P ⟨i,o0,o1,o2,hi,rfl,h0,h1,h5,rfl⟩ hnx he hr
 dsimp only at h0 h1 h5
 by_cases hlt:i < t.length
 ·have f1:decide ((i:Int) < (t.length:Int))=true:=by rw[decide_eq_true_iff];omega
  have f2:IntKind.i64.wrap ((i:Int) + 1)=((i + 1:Nat):Int):=z0d (by omega) (by omega)
  have hti:t[i]? =some t[i]:=List.getElem?_eq_getElem hlt
  generalize t[i]=n at hti
  simp only[go_sem,j2o,h0,h1,h5,hB,List.length_map,f1,f2,z1i,z3a hti,z0a k2u,z0a v9e]
  refine⟨by simp[z1f,apart,z0i,z1d,z1h,AOp.isCall,hB,z7s], ?_⟩
  refine⟨by simp[z1f,apart,z0i,z1d,z1h,AOp.isCall,hB,z7s], ?_⟩
  refine z0y (fun m q=>∃ (k:Nat) (o0 o1:AObj) (g8:Nat),k≤5∧m=5 - k∧q.ts 0= .sl (t.map eNode) .no∧q.ts 1= .sl (t.map eNode) .no∧q.ts 5= .int .i64 (i:Int)∧q.ts 8= .ptr (B + 2) g8 0 0∧q.ts 9= .int .i64 (k:Int)∧q.h=D++[o0,o1, .blk g8 [.agg [.int .i64 0, .int .i64 0, .int .i64 0, .int .i64 0, .int .i64 0]] false false 0]) 5 ⟨0,_,_,_,by omega,rfl,h0,h1,h5,rfl,rfl,rfl⟩ ?_
  clear h0 h1 h5
  rintro m ⟨ts,h',clk⟩ P2 ⟨k,o0,o1,g8,hk5,rfl,r0,r1,r5,r8,r9,rfl⟩ hnx2 he2 hr2
  dsimp only at r0 r1 r5 r8 r9
  have hw:IntKind.i64.wrap ((k:Int) + 1)=((k + 1:Nat):Int):=z0d (by omega) (by omega)
  by_cases hk:k < 5
  ·have e1:decide ((k:Int) < 5)=true:=by rw[decide_eq_true_iff];omega
   have hcase:k=0∨k=1∨k=2∨k=3∨k=4:=by omega
   rcases hcase with rfl | rfl | rfl | rfl | rfl
   ·simp only[Int.cast_ofNat_Int] at r9 hw e1
    simp only[go_sem,q4t,r0,r1,r5,r8,r9,hB,e1,ea0,hw,decide_true,Bool.not_true]
    exact hnx2 (5 - 1) _ (by omega) ⟨1,_,_,g8,by omega,rfl,r0,r1,r5,r8,rfl,rfl⟩
   ·simp only[Int.cast_ofNat_Int] at r9 hw e1
    simp only[go_sem,q4t,r0,r1,r5,r8,r9,hB,e1,ea1,hw,decide_true,Bool.not_true]
    exact hnx2 (5 - 2) _ (by omega) ⟨2,_,_,g8,by omega,rfl,r0,r1,r5,r8,rfl,rfl⟩
   ·simp only[Int.cast_ofNat_Int] at r9 hw e1
    simp only[go_sem,q4t,r0,r1,r5,r8,r9,hB,e1,ea2,hw,decide_true,Bool.not_true]
    exact hnx2 (5 - 3) _ (by omega) ⟨3,_,_,g8,by omega,rfl,r0,r1,r5,r8,rfl,rfl⟩
   ·simp only[Int.cast_ofNat_Int] at r9 hw e1
    simp only[go_sem,q4t,r0,r1,r5,r8,r9,hB,e1,ea3,hw,decide_true,Bool.not_true]
    exact hnx2 (5 - 4) _ (by omega) ⟨4,_,_,g8,by omega,rfl,r0,r1,r5,r8,rfl,rfl⟩
   ·simp only[Int.cast_ofNat_Int] at r9 hw e1
    simp only[go_sem,q4t,r0,r1,r5,r8,r9,hB,e1,ea4,hw,decide_true,Bool.not_true]
    exact hnx2 (5 - 5) _ (by omega) ⟨5,_,_,g8,by omega,rfl,r0,r1,r5,r8,rfl,rfl⟩
  ·have e1:decide ((k:Int) < 5)=false:=by rw[decide_eq_false_iff_not];omega
   simp only[go_sem,q4t,r0,r1,r5,r8,r9,hB,e1]
   refine he2 _ _ ?_
   simp only[go_sem,r0,r1,r5,f2]
   exact hnx (t.length - (i + 1)) _ (by omega) ⟨i + 1,_,_,_,hlt,rfl,r0,r1,rfl,rfl⟩
 ·have f1:decide ((i:Int) < (t.length:Int))=false:=by rw[decide_eq_false_iff_not];omega
  simp only[go_sem,j2o,h0,h1,h5,hB,List.length_map,f1]
  refine he _ _ ?_
  simp only[go_sem,h0,h1,List.length_map,z0a k2u]
  rw[z0h rfl rfl]
  exact hT _
theorem y0f {t:Term} {u v:Tip} (hl:t.length≤20000):Pure Gam 68 [.sl (t.map eNode) u, .sl (t.map eNode) v] (.bool true):=by
 have p1:=v9f (u:= .no) (v:= .no) hl
 refine Pure.of rfl u4q rfl rfl rfl (az:=[.sl (t.map eNode) .no, .sl (t.map eNode) .no]) rfl (by simp[idsL,z7s]) fun D B clk T hB hT=> ?_
 simp only[go_sem,u0f,hB,z0a p1,decide_true]
 rw[z0e]
 exact hT _
theorem g1i {l:List Term} {u v:Tip} (hl:l.length≤20000) (ht:∀ t∈l,t.length≤20000):Pure Gam 130 [.sl (l.map z0l) u, .sl (l.map z0l) v] (.bool true):=by
 refine Pure.of rfl g3r rfl rfl rfl (az:=[.sl (l.map z0l) .no, .sl (l.map z0l) .no]) rfl (by simp[idsL,AV.ids,z0c z2q]) fun D B clk T hB hT=> ?_
 simp only[go_sem,g2l,hB,List.length_map,decide_true,Bool.not_true]
 refine z0y (fun m q=>∃ (i:Nat),i≤l.length∧m=l.length - i∧q.ts 0= .sl (l.map z0l) .no∧q.ts 1= .sl (l.map z0l) .no∧q.ts 5= .int .i64 (i:Int)∧q.h=D) l.length ⟨0,by omega,rfl,rfl,rfl,rfl,by simp⟩ ?_
 rintro m ⟨ts,h',clk⟩ P ⟨i,hi,rfl,h0,h1,h5,rfl⟩ hnx he hr
 dsimp only at h0 h1 h5
 by_cases hlt:i < l.length
 ·have f1:decide ((i:Int) < (l.length:Int))=true:=by rw[decide_eq_true_iff];omega
  have f2:IntKind.i64.wrap ((i:Int) + 1)=((i + 1:Nat):Int):=z0d (by omega) (by omega)
  have p1:=y0f (u:= .no) (v:= .no) (ht _ (List.getElem_mem hlt))
  simp only[go_sem,u8i,h0,h1,h5,hB,List.length_map,f1,f2,q4u hlt,z0l,z0a p1,Bool.not_true]
  exact hnx (l.length - (i + 1)) _ (by omega) ⟨i + 1,hlt,rfl,h0,h1,rfl,rfl⟩
 ·have f1:decide ((i:Int) < (l.length:Int))=false:=by rw[decide_eq_false_iff_not];omega
  simp only[go_sem,u8i,h0,h1,h5,hB,List.length_map,f1]
  refine he _ _ ?_
  simp only[go_sem,]
  rw[z0e]
  exact hT _
theorem g2m {l:List Nat} {u v:Tip} (hl:l.length≤20000):Pure Gam 42 [.sl (l.map nat) u, .sl (l.map nat) v] (.bool true):=by
 refine Pure.of rfl g5u rfl rfl rfl (az:=[.sl (l.map nat) .no, .sl (l.map nat) .no]) rfl (by simp[idsL,AV.ids,z0c (fun _=>z3c)]) fun D B clk T hB hT=> ?_
 simp only[go_sem,g4q,hB,List.length_map,decide_true,Bool.not_true]
 refine z0y (fun m q=>∃ (i:Nat),i≤l.length∧m=l.length - i∧q.ts 0= .sl (l.map nat) .no∧q.ts 1= .sl (l.map nat) .no∧q.ts 5= .int .i64 (i:Int)∧q.h=D) l.length ⟨0,by omega,rfl,rfl,rfl,rfl,by simp⟩ ?_
 rintro m ⟨ts,h',clk⟩ P ⟨i,hi,rfl,h0,h1,h5,rfl⟩ hnx he hr
 dsimp only at h0 h1 h5
 by_cases hlt:i < l.length
 ·have f1:decide ((i:Int) < (l.length:Int))=true:=by rw[decide_eq_true_iff];omega
  have f2:IntKind.i64.wrap ((i:Int) + 1)=((i + 1:Nat):Int):=z0d (by omega) (by omega)
  simp only[go_sem,u9x,h0,h1,h5,hB,List.length_map,f1,f2,q9k hlt,nat,decide_true,Bool.not_true]
  exact hnx (l.length - (i + 1)) _ (by omega) ⟨i + 1,hlt,rfl,h0,h1,rfl,rfl⟩
 ·have f1:decide ((i:Int) < (l.length:Int))=false:=by rw[decide_eq_false_iff_not];omega
  simp only[go_sem,u9x,h0,h1,h5,hB,List.length_map,f1]
  refine he _ _ ?_
  simp only[go_sem,]
  rw[z0e]
  exact hT _
theorem y0g {l:List Var} {u v:Tip} (hl:l.length≤20000):Pure Gam 67 [.sl (l.map z1b) u, .sl (l.map z1b) v] (.bool true):=by
 refine Pure.of rfl u4p rfl rfl rfl (az:=[.sl (l.map z1b) .no, .sl (l.map z1b) .no]) rfl (by simp[idsL,AV.ids,z0c z2b]) fun D B clk T hB hT=> ?_
 simp only[go_sem,u0e,hB,List.length_map,decide_true,Bool.not_true]
 refine z0y (fun m q=>∃ (i:Nat),i≤l.length∧m=l.length - i∧q.ts 0= .sl (l.map z1b) .no∧q.ts 1= .sl (l.map z1b) .no∧q.ts 5= .int .i64 (i:Int)∧q.h=D) l.length ⟨0,by omega,rfl,rfl,rfl,rfl,by simp⟩ ?_
 rintro m ⟨ts,h',clk⟩ P ⟨i,hi,rfl,h0,h1,h5,rfl⟩ hnx he hr
 dsimp only at h0 h1 h5
 by_cases hlt:i < l.length
 ·have f1:decide ((i:Int) < (l.length:Int))=true:=by rw[decide_eq_true_iff];omega
  have f2:IntKind.i64.wrap ((i:Int) + 1)=((i + 1:Nat):Int):=z0d (by omega) (by omega)
  have e3:∀ (h:List AObj) (x:List Nat) (y:Int),z7d h .neq (.agg [.str, .int]) (.agg [.str x, .int .i64 y]) (.agg [.str x, .int .i64 y])=some (.bool false,h):=fun h x y=>by simp[z7d,z4q,AV.eqv,eqL,AV.eq1]
  simp only[go_sem,v5i,h0,h1,h5,hB,List.length_map,f1,f2,z8x hlt,nat,e3,decide_true,Bool.not_true]
  exact hnx (l.length - (i + 1)) _ (by omega) ⟨i + 1,hlt,rfl,h0,h1,rfl,rfl⟩
 ·have f1:decide ((i:Int) < (l.length:Int))=false:=by rw[decide_eq_false_iff_not];omega
  simp only[go_sem,v5i,h0,h1,h5,hB,List.length_map,f1]
  refine he _ _ ?_
  simp only[go_sem,]
  rw[z0e]
  exact hT _
theorem g0x {a:App} (hl:a.args.length≤20000) (ht:∀ t∈a.args,t.length≤20000):Pure Gam 69 [z3x a,z3x a] (.bool true):=by
 have p1:=g1i (u:= .no) (v:= .no) hl ht
 refine Pure.of rfl g5w rfl rfl rfl (az:=[z3x a,z3x a]) rfl (by simp[idsL,z4w]) fun D B clk T hB hT=> ?_
 simp only[go_sem,g4s,hB,z3x,z0a p1,decide_true]
 rw[z0e]
 exact hT _
structure CmpC (c:Clause):Prop where
 vars:c.vars.length≤20000
 body:c.body.length≤20000
 guard:c.guard.length≤20000
 head:c.head.args.length≤20000∧∀ t∈c.head.args,t.length≤20000
 atoms:∀ a∈c.body,a.args.length≤20000∧∀ t∈a.args,t.length≤20000
theorem g2n {c:Clause} (hc:CmpC c):Pure Gam 23 [z0f c,z0f c] (.bool true):=by
 have p1:=y0g (u:= .no) (v:= .no) hc.vars
 have p2:=y0f (u:= .no) (v:= .no) hc.guard
 have p3:=g0x (a:=c.head) hc.head.1 hc.head.2
 simp only[z3x] at p3
 have hbl:=hc.body
 refine Pure.of rfl g5v rfl rfl rfl (az:=[z0f c,z0f c]) rfl (by simp[idsL,z1z]) fun D B clk T hB hT=> ?_
 simp only[go_sem,g4r,hB,z0f,z0l,z0a p1,z0a p2,z0a p3,List.length_map,decide_true,Bool.not_true]
 refine z0y (fun m q=>∃ (i g0 g1:Nat),i≤c.body.length∧m=c.body.length - i∧q.ts 2= .ptr (B + 0) g0 0 0∧q.ts 3= .ptr (B + 1) g1 0 0∧q.ts 5= .int .i64 (i:Int)∧q.h=D++[.blk g0 [.agg [.sl (c.vars.map z1b) .no, .sl (c.body.map z3x) .no, .sl (c.guard.map eNode) .no, .str c.head.pred, .sl (c.head.args.map z0l) .no]] false false 0, .blk g1 [.agg [.sl (c.vars.map z1b) .no, .sl (c.body.map z3x) .no, .sl (c.guard.map eNode) .no, .str c.head.pred, .sl (c.head.args.map z0l) .no]] false false 0]) c.body.length ⟨0,_,_,by omega,rfl,rfl,rfl,rfl,rfl⟩ ?_
 rintro m ⟨ts,h',clk⟩ P ⟨i,g0,g1,hi,rfl,h2,h3,h5,rfl⟩ hnx he hr
 dsimp only at h2 h3 h5
 by_cases hlt:i < c.body.length
 ·have f1:decide ((i:Int) < (c.body.length:Int))=true:=by rw[decide_eq_true_iff];omega
  have f2:IntKind.i64.wrap ((i:Int) + 1)=((i + 1:Nat):Int):=z0d (by omega) (by omega)
  have hja:∀ h,z1m h 2 (.sl (c.body.map z3x) .no) (.int .i64 (i:Int))=some (.iptr [.str c.body[i].pred, .sl (c.body[i].args.map z0l) .no] 0,h):=fun h=>z2f hlt rfl rfl
  have ha:=hc.atoms _ (List.getElem_mem hlt)
  have p4:=g0x (a:=c.body[i]) ha.1 ha.2
  simp only[z3x] at p4
  simp only[go_sem,u9y,h2,h3,h5,hB,List.length_map,f1,f2,hja,z0a p4,Bool.not_true]
  exact hnx (c.body.length - (i + 1)) _ (by omega) ⟨i + 1,g0,g1,hlt,rfl,h2,h3,rfl,rfl⟩
 ·have f1:decide ((i:Int) < (c.body.length:Int))=false:=by rw[decide_eq_false_iff_not];omega
  simp only[go_sem,u9y,h2,h3,h5,hB,List.length_map,f1]
  refine he _ _ ?_
  simp only[go_sem,]
  rw[z0e]
  exact hT _
theorem z6z {base:Nat} {b:ACode} {ks:List Kf} {s:St} {Q:Post} (n:Nat) (hn:n≤2 ^ 62) (J:Nat→St→Prop) (h0:J 0 s)
  (hstep:∀ i,i < n→decide ((i:Int) < (n:Int))=true→IntKind.i64.wrap ((i:Int) + 1)=((i + 1:Nat):Int)→∀ ts h clk (P:Post),J i ⟨ts,h,clk⟩→(∀ s',J (i + 1) s'→P .norm s')→(∀ k s',K Gam base (.exit k) ks s' Q→P (.exit k) s')→(∀ s',K Gam base .ret ks s' Q→P .ret s')→K Gam base b [] ⟨ts,h,clk⟩ P)
  (hend:decide ((n:Int) < (n:Int))=false→∀ ts h clk (P:Post),J n ⟨ts,h,clk⟩→(∀ k s',K Gam base (.exit k) ks s' Q→P (.exit k) s')→(∀ s',K Gam base .ret ks s' Q→P .ret s')→K Gam base b [] ⟨ts,h,clk⟩ P):K Gam base (.loop b) ks s Q:=by
 refine z0y (fun m q=>∃ i:Nat,i≤n∧m=n - i∧J i q) n ⟨0,by omega,rfl,h0⟩ ?_
 rintro m ⟨ts,h,clk⟩ P ⟨i,hi,rfl,hj⟩ hnx he hr
 by_cases hlt:i < n
 ·exact hstep i hlt (by rw[decide_eq_true_iff];omega) (z0d (by omega) (by omega)) ts h clk P hj (fun s' h=>hnx (n - (i + 1)) s' (by omega) ⟨i + 1,hlt,rfl,h⟩) he hr
 ·obtain rfl:i=n:=by omega
  exact hend (by rw[decide_eq_false_iff_not];omega) ts h clk P hj he hr
theorem g0y {s:Sys} (hp:s.preds.length≤1000) (ha:∀ f∈s.preds,f.args.length≤20000) (hl:s.clauses.length≤2 ^ 18) (hc:∀ c∈s.clauses,CmpC c):Pure Gam 12 [z0x s,z0x s] (.bool true):=by
 refine Pure.of rfl g5t rfl rfl rfl (az:=[z0x s,z0x s]) rfl (by simp[idsL,z2c]) fun D B clk T hB hT=> ?_
 simp only[go_sem,g4p,hB,z0x,List.length_map,decide_true,Bool.not_true]
 refine z6z s.preds.length (by omega) (fun i q=>∃ g0 g1,q.ts 2= .ptr (B + 0) g0 0 0∧q.ts 3= .ptr (B + 1) g1 0 0∧q.ts 5= .int .i64 (i:Int)∧q.h=D++[.blk g0 [.agg [.sl (s.preds.map z0q) .no, .sl (s.clauses.map z0f) .no]] false false 0, .blk g1 [.agg [.sl (s.preds.map z0q) .no, .sl (s.clauses.map z0f) .no]] false false 0]) ⟨_,_,rfl,rfl,rfl,rfl⟩ ?_ ?_
 ·rintro i hlt f1 f2 ts h clk P ⟨g0,g1,h2,h3,h5,rfl⟩ hnx he hr
  dsimp only at h2 h3 h5
  have p1:=g2m (u:= .no) (v:= .no) (ha _ (List.getElem_mem hlt))
  simp only[go_sem,u9w,h2,h3,h5,hB,List.length_map,f1,f2,z6g hlt,z0a p1,decide_true,Bool.not_true]
  exact hnx _ ⟨g0,g1,h2,h3,rfl,rfl⟩
 ·rintro f1 ts h clk P ⟨g0,g1,h2,h3,h5,rfl⟩ he hr
  dsimp only at h2 h3 h5
  simp only[go_sem,u9w,h2,h3,h5,hB,List.length_map,f1]
  refine he _ _ ?_
  simp only[go_sem,]
  refine z6z s.clauses.length (by omega) (fun i q=>q.ts 2= .ptr (B + 0) g0 0 0∧q.ts 3= .ptr (B + 1) g1 0 0∧q.ts 6= .int .i64 (i:Int)∧q.h=D++[.blk g0 [.agg [.sl (s.preds.map z0q) .no, .sl (s.clauses.map z0f) .no]] false false 0, .blk g1 [.agg [.sl (s.preds.map z0q) .no, .sl (s.clauses.map z0f) .no]] false false 0]) ⟨by simp[z0b,h2],by simp[z0b,h3],by simp[z0b],rfl⟩ ?_ ?_
  ·clear h2 h3 h5 f1
   rintro i hlt f1 f2 ts h clk P ⟨h2,h3,h6,rfl⟩ hnx he hr
   dsimp only at h2 h3 h6
   have p1:=g2n (hc _ (List.getElem_mem hlt))
   simp only[z0f,z0l] at p1
   simp only[go_sem,u9b,h2,h3,h6,hB,List.length_map,f1,f2,z8l hlt,z0a p1,Bool.not_true]
   exact hnx _ ⟨h2,h3,rfl,rfl⟩
  ·clear h2 h3 h5 f1
   rintro f1 ts h clk P ⟨h2,h3,h6,rfl⟩ he hr
   dsimp only at h2 h3 h6
   simp only[go_sem,u9b,h2,h3,h6,hB,List.length_map,f1]
   refine he _ _ ?_
   simp only[go_sem,]
   rw[z0e]
   exact hT _
theorem j1a {l:List App} {i:Nat} {h:List AObj} {t:Tip} {k:IntKind} (hi:i < l.length):z1m h 2 (.sl (l.map z3x) t) (.int k (i:Int))=some (.iptr [.str l[i].pred, .sl (l[i].args.map z0l) .no] 0,h):=z2f hi rfl rfl
theorem x8c {x:Tf}:decide ((x.drops.length:Int)=0)=decide (x.drops=[]):=by
 cases x.drops with
 | nil=>rfl
 | cons a l=>simp;omega
theorem append_nil {D L:List AObj} {B k esz b gen:Nat} {ys:List AV} {u:Tip} {o:AObj} (hB:D.length=B) (ho:L[k]? =some o) (hy:z0t esz ys=true) (hl:ys.length * (b + 1)≤2 ^ 46):
  z1g (D++L) (B + k) gen esz b false (.sl [] .nil) (.sl ys u)=some (.sl ys (.at (B + k) gen),D++L.set k (.tip gen esz)):=
 z0j (xs:=[]) hB ho (.inl rfl) rfl hy (by simpa using hl)
theorem v9g {l:List Term} {u:Tip} (hl:l.length≤2 ^ 20) (hts:∀ t∈l,t.length≤2 ^ 20):Pure Gam 287 [.sl (l.map z0l) u] (.sl (l.map z0l) .no):=by
 refine Pure.of rfl y4l rfl rfl rfl (az:=[.sl (l.map z0l) .no]) rfl (by simp[idsL,AV.ids,z0c z2q]) fun D B clk T hB hT=> ?_
 simp only[go_sem,w4x,List.length_map]
 refine z6z l.length (by omega) (fun i q=>∃ (t:Tip) (a b o:AObj),q.ts 0= .sl (l.map z0l) .no∧q.ts 3= .sl ((l.take i).map z0l) t∧q.ts 4= .int .i64 (i:Int)∧q.h=D++[a,b,o]∧z8k B 2 o t 1) ⟨.nil,_,_,_,rfl,rfl,rfl,rfl, .inl rfl⟩ ?_ ?_
 ·rintro i hlt f1 f2 ts h clk P ⟨t,a,b,o,q0,q3,q4,rfl,ht⟩ hnx he hr
  dsimp only at q0 q3 q4
  have hix:∀ h,z1m h 1 (.sl (l.map z0l) .no) (.int .i64 (i:Int))=some (.iptr [.sl (l[i].map eNode) .no] 0,h):=fun h=>q4u hlt
  have e8:(l.take i).map z0l++[l[i]].map z0l=(l.take (i + 1)).map z0l:=by rw[List.take_succ_eq_append_getElem hlt,List.map_append]
  have hpx:=hts _ (List.getElem_mem hlt)
  generalize l[i]=x at *
  simp only[go_sem,j2n,q0,q3,q4,hB,f1,hix,List.length_map]
  rw[append_nil hB rfl z6l (by rw[List.length_map];omega)]
  simp only[go_sem,q0,q3,q4,hB]
  rw[show [AV.sl (x.map eNode) .no]=[x].map z0l from rfl,z0j hB rfl ht z3s z3s (by simp only[List.length_map,List.length_singleton,List.length_take];omega),e8]
  simp only[go_sem,q0,q3,q4,f2]
  exact hnx _ ⟨_,_,_,_,q0,rfl,rfl,rfl, .inr (.inr ⟨_,rfl,rfl⟩)⟩
 ·rintro f1 ts h clk P ⟨t,a,b,o,q0,q3,q4,rfl,ht⟩ he hr
  dsimp only at q0 q3 q4
  rw[List.take_length] at q3
  simp only[go_sem,j2n,q0,q3,q4,f1,List.length_map]
  refine he _ _ ?_
  simp only[go_sem,q3]
  rw[z2x rfl (by simp[AV.cv,AV.ids,z0c z2q])]
  exact hT _
theorem k2v {a:App} (hl:a.args.length≤2 ^ 20) (hts:∀ t∈a.args,t.length≤2 ^ 20):Pure Gam 228 [z3x a] (z3x a):=by
 have hp:=v9g (u:= .no) hl hts
 refine Pure.of rfl y4k rfl rfl rfl (az:=[z3x a]) rfl (by simp[idsL,z4w]) fun D B clk T hB hT=> ?_
 simp only[go_sem,w4w,hB,z3x,z1i,z0a hp,z0n,z0m,z0g]
 refine⟨by simp[z1f,apart,z0i,z1d,z1h,AOp.isCall,hB], ?_⟩
 rw[z2x rfl (by simp[AV.cv,cvL,AV.ids,idsL,z0c z2q])]
 exact hT _
theorem v9h {c:Clause} (hc:SmallC c):Pure Gam 152 [z0f c] (z0f c):=by
 have hp:=k2v hc.hargs.1 hc.hargs.2
 have hbl:=hc.body
 have hvl:=hc.vars
 have hgl:=hc.guard
 rw[z3x] at hp
 refine Pure.of rfl y4j rfl rfl rfl (az:=[z0f c]) rfl (by simp[idsL,z1z]) fun D B clk T hB hT=> ?_
 simp only[go_sem,w4v,hB,z0f,z0l,z1i]
 rw[append_nil hB rfl z2e (by rw[List.length_map];omega)]
 simp only[go_sem,hB]
 rw[append_nil hB rfl z6l (by rw[List.length_map];omega)]
 simp only[go_sem,hB,z0a hp]
 refine⟨by simp[z1f,apart,z0i,z1d,z1h,AOp.isCall,hB,AV.ids,idsL,z0c z2b,z0c z1y,z0c z2q], ?_⟩
 refine z6z c.body.length (by omega) (fun i q=>∃ (g0 g1 g2:Nat) (t u1 u2:Tip) (o2 o3 o5 o6:AObj),q.ts 1= .ptr (B + 0) g0 0 0∧q.ts 2= .ptr (B + 1) g1 0 0∧q.ts 3= .ptr (B + 4) g2 0 0∧q.ts 4= .int .i64 (i:Int)∧q.h=D++[.blk g0 [.agg [.sl (c.vars.map z1b) .no, .sl (c.body.map z3x) .no, .sl (c.guard.map eNode) .no, .str c.head.pred, .sl (c.head.args.map z0l) .no]] false false 0, .blk g1 [.agg [.sl [] .nil, .sl [] .nil, .sl [] .nil, .str [], .sl [] .nil]] false false 0,o2,o3, .blk g2 [.agg [.sl (c.vars.map z1b) u1, .sl ((c.body.take i).map z3x) t, .sl (c.guard.map eNode) u2, .str c.head.pred, .sl (c.head.args.map z0l) .no]] false false 0,o5,o6]∧z8k B 6 o6 t 2) ⟨_,_,_, .nil,_,_,_,_,_,_,rfl,rfl,rfl,rfl,rfl, .inl rfl⟩ ?_ ?_
 ·rintro i hlt f1 f2 ts h clk P ⟨g0,g1,g2,t,u1,u2,o2,o3,o5,o6,q1,q2,q3,q4,rfl,ht⟩ hnx he hr
  dsimp only at q1 q2 q3 q4
  have hix:=fun h=>j1a (l:=c.body) (i:=i) (h:=h) (t:= .no) (k:= .i64) hlt
  have e8:(c.body.take i).map z3x++[c.body[i]].map z3x=(c.body.take (i + 1)).map z3x:=by rw[List.take_succ_eq_append_getElem hlt,List.map_append]
  have hpa:=k2v (a:=c.body[i]) (hc.bargs _ (List.getElem_mem hlt)).1 (hc.bargs _ (List.getElem_mem hlt)).2
  rw[z3x] at hpa
  generalize c.body[i]=x at *
  simp only[go_sem,j2m,q1,q2,q3,q4,hB,z1i,f1,hix,z0a hpa,List.length_map]
  rw[show [AV.agg [.str x.pred, .sl (x.args.map z0l) .no]]=[x].map z3x from rfl,z0j hB rfl ht z7h z7h (by simp only[List.length_map,List.length_singleton,List.length_take];omega),e8]
  simp only[go_sem,q1,q2,q3,q4,hB,f2]
  refine⟨by simp[z1f,apart,z0i,z1d,z1h,AOp.isCall,hB,AV.ids,idsL,z0c z2q,z0c z4w], ?_⟩
  exact hnx _ ⟨g0,g1,g2,_,_,_,_,_,_,_,q1,q2,q3,rfl,rfl, .inr (.inr ⟨_,rfl,rfl⟩)⟩
 ·rintro f1 ts h clk P ⟨g0,g1,g2,t,u1,u2,o2,o3,o5,o6,q1,q2,q3,q4,rfl,ht⟩ he hr
  dsimp only at q1 q2 q3 q4
  rw[List.take_length]
  simp only[go_sem,j2m,q1,q2,q3,q4,hB,f1,List.length_map]
  refine he _ _ ?_
  simp only[go_sem,q1,q2,q3,hB,z0n,z0m,z0g]
  rw[z2x rfl (by simp[AV.cv,cvL,AV.ids,idsL,z0c z2b,z0c z1y,z0c z2q,z0c z4w])]
  exact hT _
theorem y0i {s:Sys} {u v:Tip} (hp:s.preds.length≤1000) (ha:∀ f∈s.preds,f.args.length≤2 ^ 20) (hl:s.clauses.length≤2 ^ 18) (hc:∀ c∈s.clauses,SmallC c):Pure Gam 99 [.agg [.sl (s.preds.map z0q) u, .sl (s.clauses.map z0f) v]] (z0x s):=by
 refine Pure.of rfl u4m rfl rfl rfl (az:=[.agg [.sl (s.preds.map z0q) .no, .sl (s.clauses.map z0f) .no]]) rfl (by simp[idsL,AV.ids,z0c z2j,z0c z1z]) fun D B clk T hB hT=> ?_
 simp only[go_sem,y9x,hB,List.length_map]
 refine z6z s.preds.length (by omega) (fun i q=>∃ (g0 g1 g2:Nat) (t:Tip) (o3 o4 o5 o6 o7 o8:AObj),q.ts 1= .ptr (B + 0) g0 0 0∧q.ts 2= .ptr (B + 1) g1 0 0∧q.ts 3= .ptr (B + 2) g2 0 0∧q.ts 4= .int .i64 (i:Int)∧q.h=D++[.blk g0 [.agg [.sl (s.preds.map z0q) .no, .sl (s.clauses.map z0f) .no]] false false 0, .blk g1 [.agg [.sl [] .nil, .sl [] .nil]] false false 0, .blk g2 [.agg [.sl ((s.preds.take i).map z0q) t, .sl [] .nil]] false false 0,o3,o4,o5,o6,o7,o8]∧z8k B 6 o6 t 3) ⟨_,_,_, .nil,_,_,_,_,_,_,rfl,rfl,rfl,rfl,rfl, .inl rfl⟩ ?_ ?_
 ·rintro i hlt f1 f2 ts h clk P ⟨g0,g1,g2,t,o3,o4,o5,o6,o7,o8,q1,q2,q3,q4,rfl,ht⟩ hnx he hr
  dsimp only at q1 q2 q3 q4
  have hix:=fun h=>z6g (l:=s.preds) (i:=i) (h:=h) (t:= .no) (k:= .i64) hlt
  have e8:(s.preds.take i).map z0q++[s.preds[i]].map z0q=(s.preds.take (i + 1)).map z0q:=by rw[List.take_succ_eq_append_getElem hlt,List.map_append]
  have hpf:=ha _ (List.getElem_mem hlt)
  generalize s.preds[i]=f at *
  simp only[go_sem,k5j,q1,q2,q3,q4,hB,f1,hix,List.length_map]
  rw[append_nil hB rfl z3y (by rw[List.length_map];omega)]
  simp only[go_sem,q1,q2,q3,q4,hB]
  rw[show [AV.agg [.str f.name, .sl (f.args.map nat) .no, .int .i64 (f.result:Int)]]=[f].map z0q from rfl,z0j hB rfl ht z4o z4o (by simp only[List.length_map,List.length_singleton,List.length_take];omega),e8]
  simp only[go_sem,q1,q2,q3,q4,hB,f2]
  exact hnx _ ⟨g0,g1,g2,_,_,_,_,_,_,_,q1,q2,q3,rfl,rfl, .inr (.inr ⟨_,rfl,rfl⟩)⟩
 ·rintro f1 ts h clk P ⟨g0,g1,g2,tp,o3,o4,o5,o6,o7,o8,q1,q2,q3,q4,rfl,ht⟩ he hr
  dsimp only at q1 q2 q3 q4
  rw[List.take_length]
  simp only[go_sem,k5j,q1,q2,q3,q4,hB,f1,List.length_map]
  refine he _ _ ?_
  simp only[go_sem,]
  clear ht q4 f1
  refine z6z s.clauses.length (by omega) (fun i q=>∃ (t:Tip) (o3 o4 o5 o6 o7 o8:AObj),q.ts 1= .ptr (B + 0) g0 0 0∧q.ts 2= .ptr (B + 1) g1 0 0∧q.ts 3= .ptr (B + 2) g2 0 0∧q.ts 6= .int .i64 (i:Int)∧q.h=D++[.blk g0 [.agg [.sl (s.preds.map z0q) .no, .sl (s.clauses.map z0f) .no]] false false 0, .blk g1 [.agg [.sl [] .nil, .sl [] .nil]] false false 0, .blk g2 [.agg [.sl (s.preds.map z0q) tp, .sl ((s.clauses.take i).map z0f) t]] false false 0,o3,o4,o5,o6,o7,o8]∧z8k B 8 o8 t 5) ⟨.nil,_,_,_,_,_,_,by simp[z0b,q1],by simp[z0b,q2],by simp[z0b,q3],by simp[z0b],rfl, .inl rfl⟩ ?_ ?_
  ·clear q1 q2 q3
   rintro i hlt f1 f2 ts h clk P ⟨t,o3,o4,o5,o6,o7,o8,q1,q2,q3,q6,rfl,ht⟩ hnx he hr
   dsimp only at q1 q2 q3 q6
   have hix:=fun h=>z8l (l:=s.clauses) (i:=i) (h:=h) (t:= .no) (k:= .i64) hlt
   have e8:(s.clauses.take i).map z0f++[s.clauses[i]].map z0f=(s.clauses.take (i + 1)).map z0f:=by rw[List.take_succ_eq_append_getElem hlt,List.map_append]
   have hpc:=v9h (hc _ (List.getElem_mem hlt))
   rw[z0f,z0l] at hpc
   generalize s.clauses[i]=c at *
   simp only[go_sem,j9t,q1,q2,q3,q6,hB,z1i,f1,hix,z0a hpc,List.length_map]
   rw[show [AV.agg [.sl (c.vars.map z1b) .no, .sl (c.body.map z3x) .no, .sl (c.guard.map eNode) .no, .str c.head.pred, .sl (c.head.args.map z0l) .no]]=[c].map z0f from rfl,z0j hB rfl ht z3l z3l (by simp only[List.length_map,List.length_singleton,List.length_take];omega),e8]
   simp only[go_sem,q1,q2,q3,q6,hB,f2]
   refine⟨by simp[z1f,apart,z0i,z1d,z1h,AOp.isCall,hB,AV.ids,idsL,z0c z2q,z0c z2b,z0c z4w,z0c z1y,z0c z1z], ?_⟩
   exact hnx _ ⟨_,_,_,_,_,_,_,q1,q2,q3,rfl,rfl, .inr (.inr ⟨_,rfl,rfl⟩)⟩
  ·clear q1 q2 q3
   rintro f1 ts h clk P ⟨t,o3,o4,o5,o6,o7,o8,q1,q2,q3,q6,rfl,ht⟩ he hr
   dsimp only at q1 q2 q3 q6
   rw[List.take_length]
   simp only[go_sem,j9t,q1,q2,q3,q6,hB,f1,List.length_map]
   refine he _ _ ?_
   simp only[go_sem,q1,q2,q3,hB,z0n,z0m,z0g]
   rw[z2x rfl (by simp[AV.cv,cvL,AV.ids,idsL,z0c z2j,z0c z1z])]
   exact hT _
def u7e (c:Clause) (cv:AV):AV:= .agg [.sl (c.vars.map z1b) .no,cv, .sl (c.guard.map eNode) .no, .str c.head.pred, .sl (c.head.args.map z0l) .no]
theorem g5x {c:Clause} {h:List AObj} {clk:Nat} {Q:AV→List AObj→Nat→Prop} (hb:c.body.length≤20000) (hba:∀ a∈c.body,a.args.length≤2 ^ 20∧∀ t∈a.args,t.length≤2 ^ 20) (hh:c.head.args.length≤2 ^ 20∧∀ t∈c.head.args,t.length≤2 ^ 20) (hv:c.vars.length≤2 ^ 20) (hg:c.guard.length≤2 ^ 20)
  (h0:c.body=[]→Q (u7e c (.sl [] .nil)) h clk) (hQ:∀ o0 o1 o2 o3 o4 g c',c.body≠[]→Q (u7e c (.ob (h.length + 5) g 0 c.body.length)) (h++[o0,o1,o2,o3,o4, .blk g (c.body.map z3x) true true 0]) c'):WC Gam 39 [z0f c] h clk Q:=by
 have hp:=v1j hh.1 hh.2
 rw[z3x] at hp
 refine k8b rfl u5u rfl rfl rfl (az:=[z0f c]) rfl (by simp[idsL,z1z]) fun D B hB hBh=> ?_
 simp only[go_sem,u2f,hB,z0f,z0l,z1i,z0a (v1i hv),z0a (k2l hg),z0a hp,List.length_map]
 refine⟨by simp[z1f,apart,z0i,z1d,z1h,AOp.isCall,hB,AV.ids,idsL,z0c z2b,z0c z1y,z0c z2q], ?_⟩
 refine z6z c.body.length (by omega) (fun i q=>∃ (g1 g2:Nat) (cv:AV) (a o3 o4 o5:AObj),q.ts 2= .ptr (B + 1) g1 0 0∧q.ts 3= .ptr (B + 2) g2 0 0∧q.ts 17= .sl (c.body.map z3x) .no∧q.ts 18= .int .i64 (c.body.length:Int)∧q.ts 19= .int .i64 (i:Int)∧q.h=D++[a, .blk g1 [.agg [.sl [] .nil, .sl [] .nil, .sl [] .nil, .str [], .sl [] .nil]] false false 0, .blk g2 [u7e c cv] false false 0,o3,o4,o5]∧g3p z3x B 5 cv o5 (c.body.take i)) ⟨_,_, .sl [] .nil,_,_,_,_,rfl,rfl,rfl,rfl,rfl,rfl, .inl ⟨rfl,by simp⟩⟩ ?_ ?_
 ·rintro i hlt f1 f2 ts h' clk' P ⟨g1,g2,cv,a,o3,o4,o5,q2,q3,q17,q18,q19,rfl,ht⟩ hnx he hr
  dsimp only at q2 q3 q17 q18 q19
  have hix:=fun h=>j1a (l:=c.body) (i:=i) (h:=h) (t:= .no) (k:= .i64) hlt
  have htk:=List.take_succ_eq_append_getElem hlt
  have hpa:=v1j (a:=c.body[i]) (hba _ (List.getElem_mem hlt)).1 (hba _ (List.getElem_mem hlt)).2
  have hbs:∀ h s g,bsR h s g (.agg [.str [], .sl [] .nil]) 1 [0] [.agg [.str c.body[i].pred, .sl (c.body[i].args.map z0l) .no]]=some (.ob s g 0 1,h.set s (.blk g [z3x c.body[i]] true false 0)):=fun h s g=>g4o rfl rfl rfl rfl
  have hcv:cv.ids=[]∨cv.ids=[B + 5]:=by
   rcases ht with ⟨rfl,_⟩ | ⟨g,rfl,_⟩
   ·exact .inl rfl
   ·exact .inr rfl
  rw[z3x] at hpa
  generalize c.body[i]=x at *
  simp only[go_sem,k6w,u7e,q2,q3,q17,q18,q19,hB,z1i,f1,hix,z0a hpa,hbs]
  rw[u7f (j:=4) (k:=5) (fun _=>z7h) hB rfl rfl ht (by rw[List.length_take];omega) (by omega),←htk]
  simp only[go_sem,q2,q3,q17,q18,q19,hB,f2]
  refine⟨?_, ?_⟩
  ·rcases hcv with hcv | hcv <;> simp[z1f,apart,z0i,z1d,z1h,AOp.isCall,hB,AV.ids,idsL,z0c z2q,hcv]
  ·refine hnx _ ⟨g1,g2,_,_,_,_,_,q2,q3,q17,q18,rfl,rfl, .inr ⟨_,rfl,rfl,fun e=> ?_⟩⟩
   have:=congrArg List.length e
   rw[htk] at this
   simp at this
 ·rintro f1 ts h' clk' P ⟨g1,g2,cv,a,o3,o4,o5,q2,q3,q17,q18,q19,rfl,ht⟩ he hr
  dsimp only at q2 q3 q17 q18 q19
  rw[List.take_length] at ht
  simp only[go_sem,k6w,q2,q3,q17,q18,q19,f1]
  refine he _ _ ?_
  have hs:=show cv.def? =true∧cv.cells=[cv]∧cv.one=true by rcases ht with ⟨rfl,_⟩ | ⟨g,rfl,_⟩ <;> exact⟨rfl,rfl,rfl⟩
  have hst:∀ (g:Nat) (L:List AObj),L[1]? =some (.blk g [.agg [.sl [] .nil, .sl [] .nil, .sl [] .nil, .str [], .sl [] .nil]] false false 0)→z8s (D++L) 5 (u7e c cv) (.ptr (B + 1) g 0 0)=some (.undef,D++L.set 1 (.blk g [u7e c cv] false false 0)):=fun g L hL=>by
   have hb:z2a (D++L) (B + 1) g=some ([.agg [.sl [] .nil, .sl [] .nil, .sl [] .nil, .str [], .sl [] .nil]],false,false,0):=by rw[z6w hB];exact z5z hL
   rw[u6y (sz:=5) (v:=u7e c cv) hb rfl rfl (by simp[u7e,AV.cells,w1k,j9n,hs.2.2]) (by simp[AV.cells]),z5i hB]
   rfl
  have hrd:∀ g L,L[2]? =some (.blk g [u7e c cv] false false 0)→q1u (D++L) (some 5) (.ptr (B + 2) g 0 0)=some (u7e c cv,D++L):=fun g L hL=>by
   rw[j9h,z6w hB,z5z hL]
   rfl
  simp only[go_sem,q2,q3,hB,hrd,hst]
  refine⟨fun _=>by simp,[u7e c cv],_, ?_,rfl, ?_⟩
  ·simp only[go_sem,q2,hB,u7e,z0n,z0m,z0g]
  ·rcases ht with ⟨rfl,h00⟩ | ⟨g,rfl,rfl,hne⟩
   ·exact .inl ⟨by simp[z1k,u7e,AV.ids,idsL,z0c z2b,z0c z1y,z0c z2q],h0 h00⟩
   ·subst hBh
    exact .inr ⟨⟨h.length + 5,by simp[z1k,u7e,AV.ids,idsL,z0c z2b,z0c z1y,z0c z2q],by omega⟩,hQ _ _ _ _ _ g _ hne⟩
section
open Sh
def u9z:ACode:=(.seq (.region 1 [N 18 (.binOp .lss (.one .int) (.tmp 17) (.tmp 16))] []) (.seq (.cond (.tmp 18) .skip (.exit 0)) (.seq (.block 1 (.seq (.region 5 [M 19 17,N 20 (.indexAddr none 1 (.tmp 15) (.tmp 17)),L 21 20,M 7 19,M 8 21] []) (.seq (.region 5 [M 22 1,M 23 7,N 24 (.indexAddr none 1 (.tmp 22) (.tmp 23)),L 25 24,M 9 25] []) (.seq (.region 5 [M 26 2,M 27 8,M 28 9,N 29 (.callv (.tmp 26) [(.tmp 27),(.tmp 28)]),N 30 (.unOp .not (.tmp 29))] []) (.cond (.tmp 30) (.seq (.region 1 [N 6 (.move (.const (.bool false)))] []) .ret) .skip))))) (.region 2 [N 31 (.binOp .add (.one .int) (.tmp 17) (I 1)),M 17 31] []))))
def g2o:AFun:=
 {ntmps:=32,nslots:=0,results:=[.tmp 6],byref:=[],owned:=false,
  body:=(.seq (.region 1 [N 6 (.move (.const (.bool false)))] []) (.seq (.seq (.region 5 [M 10 0,N 11 (.len .sl (.tmp 10)),M 12 1,N 13 (.len .sl (.tmp 12)),N 14 (.binOp .neq (.one .int) (.tmp 11) (.tmp 13))] []) (.cond (.tmp 14) (.seq (.region 1 [N 6 (.move (.const (.bool false)))] []) .ret) .skip)) (.seq (.seq (.region 3 [M 15 0,N 16 (.len .sl (.tmp 15)),N 17 (.move (I 0))] []) (.block 0 (.loop u9z))) (.seq (.region 1 [N 6 (.move (.const (.bool true)))] []) .ret))))}
theorem g5y:Gam.fn 134=some g2o:=by kernel_rfl
def g4u:AFun:=
 {ntmps:=19,nslots:=0,results:=[.tmp 6],byref:=[],owned:=false,
  body:=(.seq (.region 1 [N 6 (.move (.const (.bool false)))] []) (.seq (.region 13 [N 7 (.load (some 2) (.tmp 2)),A 8 3 1,L 9 8,M 10 0,N 11 (.indexAddr none 5 (.tmp 9) (.tmp 10)),N 12 (.load (some 5) (.tmp 11)),A 13 3 1,L 14 13,M 15 1,N 16 (.indexAddr none 5 (.tmp 14) (.tmp 15)),N 17 (.load (some 5) (.tmp 16)),N 18 (.call 136 [(.tmp 7),(.tmp 12),(.tmp 17)]),M 6 18] []) .ret))}
theorem g5z:Gam.fn 135=some g4u:=by kernel_rfl
def g2p:AFun:=
 {ntmps:=38,nslots:=3,results:=[.tmp 6],byref:=[],owned:=false,
  body:=(.seq (.region 4 [N 3 (.box 0 (.tmp 0)),N 4 (.box 1 (.tmp 1)),N 5 (.box 2 (.tmp 2)),N 6 (.move (.const (.bool false)))] []) (.seq (.region 32 [A 7 4 0,L 8 7,A 9 5 0,L 10 9,N 11 (.call 204 [(.tmp 8),(.tmp 10)]),M 12 11,V 13 (.fieldAddr (.tmp 4) 2) 12,V 14 (.load none (.tmp 13)) 12,V 15 (.fieldAddr (.tmp 5) 2) 12,V 16 (.load none (.tmp 15)) 12,V 17 (.call 205 [(.tmp 14),(.tmp 16)]) 12,N 18 (.pick (.tmp 12) (.tmp 17) (.const (.bool false))),M 19 18,V 20 (.load (some 2) (.tmp 3)) 19,V 21 (.fieldAddr (.tmp 4) 3) 19,V 22 (.load (some 2) (.tmp 21)) 19,V 23 (.call 40 [(.tmp 20),(.tmp 22)]) 19,V 24 (.load (some 2) (.tmp 3)) 19,V 25 (.fieldAddr (.tmp 5) 3) 19,V 26 (.load (some 2) (.tmp 25)) 19,V 27 (.call 40 [(.tmp 24),(.tmp 26)]) 19,V 28 (.call 206 [(.tmp 23),(.tmp 27)]) 19,N 29 (.pick (.tmp 19) (.tmp 28) (.const (.bool false))),M 30 29,V 31 (.fieldAddr (.tmp 4) 1) 30,V 32 (.load none (.tmp 31)) 30,V 33 (.fieldAddr (.tmp 5) 1) 30,V 34 (.load none (.tmp 33)) 30,V 35 (.makeFunc 208 [.tmp 3]) 30,V 36 (.call 207 [(.tmp 32),(.tmp 34),(.tmp 35)]) 30,N 37 (.pick (.tmp 30) (.tmp 36) (.const (.bool false))),M 6 37] [(16,17),(16,19)]) .ret))}
theorem g6a:Gam.fn 136=some g2p:=by kernel_rfl
def g2q:AFun:=
 {ntmps:=13,nslots:=2,results:=[.tmp 5],byref:=[],owned:=false,
  body:=(.seq (.region 3 [N 3 (.box 0 (.tmp 0)),N 4 (.box 1 (.tmp 1)),N 5 (.move (.const (.bool false)))] []) (.seq (.region 8 [N 6 (.load (some 2) (.tmp 2)),N 7 (.load (some 2) (.tmp 3)),N 8 (.call 40 [(.tmp 6),(.tmp 7)]),N 9 (.load (some 2) (.tmp 2)),N 10 (.load (some 2) (.tmp 4)),N 11 (.call 40 [(.tmp 9),(.tmp 10)]),N 12 (.call 206 [(.tmp 8),(.tmp 11)]),M 5 12] [(2,3),(2,4)]) .ret))}
theorem g3s:Gam.fn 208=some g2q:=by kernel_rfl
def g1j:AFun:=
 {ntmps:=17,nslots:=2,results:=[.tmp 4],byref:=[],owned:=false,
  body:=(.seq (.region 3 [N 2 (.box 0 (.tmp 0)),N 3 (.box 1 (.tmp 1)),N 4 (.move (.const (.bool false)))] []) (.seq (.region 13 [A 5 2 0,L 6 5,A 7 3 0,L 8 7,N 9 (.binOp .eql (.one .str) (.tmp 6) (.tmp 8)),M 10 9,V 11 (.fieldAddr (.tmp 2) 1) 10,V 12 (.load none (.tmp 11)) 10,V 13 (.fieldAddr (.tmp 3) 1) 10,V 14 (.load none (.tmp 13)) 10,V 15 (.call 267 [(.tmp 12),(.tmp 14),(.const (.fn 268 []))]) 10,N 16 (.pick (.tmp 10) (.tmp 15) (.const (.bool false))),M 4 16] []) .ret))}
theorem g3t:Gam.fn 206=some g1j:=by kernel_rfl
def g2r:AFun:=
 {ntmps:=8,nslots:=0,results:=[.tmp 4],byref:=[],owned:=false,
  body:=(.seq (.region 1 [N 4 (.move (.const (.bool false)))] []) (.seq (.region 4 [M 5 0,M 6 1,N 7 (.call 205 [(.tmp 5),(.tmp 6)]),M 4 7] []) .ret))}
theorem g3u:Gam.fn 268=some g2r:=by kernel_rfl
def u8j:ACode:=(.seq (.region 1 [N 18 (.binOp .lss (.one .int) (.tmp 17) (.tmp 16))] []) (.seq (.cond (.tmp 18) .skip (.exit 0)) (.seq (.block 1 (.seq (.region 6 [M 19 17,N 20 (.indexAddr none 2 (.tmp 15) (.tmp 17)),N 21 (.load (some 2) (.tmp 20)),N 8 (.alloc 0 (.agg [(.str []),(.sl [] .nil)])),M 7 19,S 2 8 21] []) (.seq (.region 6 [M 22 1,M 23 7,N 24 (.indexAddr none 2 (.tmp 22) (.tmp 23)),N 25 (.load (some 2) (.tmp 24)),N 9 (.alloc 1 (.agg [(.str []),(.sl [] .nil)])),S 2 9 25] []) (.seq (.region 5 [M 26 2,N 27 (.load (some 2) (.tmp 8)),N 28 (.load (some 2) (.tmp 9)),N 29 (.callv (.tmp 26) [(.tmp 27),(.tmp 28)]),N 30 (.unOp .not (.tmp 29))] []) (.cond (.tmp 30) (.seq (.region 1 [N 6 (.move (.const (.bool false)))] []) .ret) .skip))))) (.region 2 [N 31 (.binOp .add (.one .int) (.tmp 17) (I 1)),M 17 31] []))))
def g1k:AFun:=
 {ntmps:=32,nslots:=2,results:=[.tmp 6],byref:=[],owned:=false,
  body:=(.seq (.region 1 [N 6 (.move (.const (.bool false)))] []) (.seq (.seq (.region 5 [M 10 0,N 11 (.len .sl (.tmp 10)),M 12 1,N 13 (.len .sl (.tmp 12)),N 14 (.binOp .neq (.one .int) (.tmp 11) (.tmp 13))] []) (.cond (.tmp 14) (.seq (.region 1 [N 6 (.move (.const (.bool false)))] []) .ret) .skip)) (.seq (.seq (.region 3 [M 15 0,N 16 (.len .sl (.tmp 15)),N 17 (.move (I 0))] []) (.block 0 (.loop u8j))) (.seq (.region 1 [N 6 (.move (.const (.bool true)))] []) .ret))))}
theorem g3v:Gam.fn 207=some g1k:=by kernel_rfl
def g3w:AFun:=
 {ntmps:=14,nslots:=3,results:=[.cell 4 (some 2)],byref:=[],owned:=false,
  body:=(.seq (.region 3 [N 2 (.box 0 (.tmp 0)),N 3 (.box 1 (.tmp 1)),N 4 (.alloc 2 (.agg [(.str []),(.sl [] .nil)]))] []) (.seq (.seq (.region 5 [A 5 3 0,L 6 5,A 7 2 0,L 8 7,N 9 (.binOp .eql (.one .str) (.tmp 6) (.tmp 8))] []) (.cond (.tmp 9) (.region 4 [A 10 2 1,L 11 10,A 12 3 0,S 1 12 11] []) .skip)) (.seq (.region 2 [N 13 (.load (some 2) (.tmp 3)),S 2 4 13] []) .ret)))}
theorem g6b:Gam.fn 40=some g3w:=by kernel_rfl
def g0a:ACode:=(.seq (.seq (.region 4 [M 11 5,M 12 0,N 13 (.len .sl (.tmp 12)),N 14 (.binOp .lss (.one .int) (.tmp 11) (.tmp 13))] []) (.cond (.tmp 14) .skip (.exit 0))) (.seq (.block 1 (.seq (.region 9 [M 17 0,M 18 5,N 19 (.indexAddr none 1 (.tmp 17) (.tmp 18)),L 20 19,M 21 1,M 22 5,N 23 (.indexAddr none 1 (.tmp 21) (.tmp 22)),L 24 23,N 25 (.binOp .neq (.one .int) (.tmp 20) (.tmp 24))] []) (.cond (.tmp 25) (.seq (.region 1 [N 4 (.move (.const (.bool false)))] []) .ret) .skip))) (.region 3 [M 15 5,N 16 (.binOp .add (.one .int) (.tmp 15) (I 1)),M 5 16] [])))
def g3x:AFun:=
 {ntmps:=26,nslots:=0,results:=[.tmp 4],byref:=[],owned:=false,
  body:=(.seq (.region 1 [N 4 (.move (.const (.bool false)))] []) (.seq (.seq (.region 5 [M 6 0,N 7 (.len .sl (.tmp 6)),M 8 1,N 9 (.len .sl (.tmp 8)),N 10 (.binOp .neq (.one .int) (.tmp 7) (.tmp 9))] []) (.cond (.tmp 10) (.seq (.region 1 [N 4 (.move (.const (.bool false)))] []) .ret) .skip)) (.seq (.seq (.region 1 [N 5 (.move (I 0))] []) (.block 0 (.loop g0a))) (.seq (.region 1 [N 4 (.move (.const (.bool true)))] []) .ret))))}
theorem g6c:Gam.fn 148=some g3x:=by kernel_rfl
def g0b:ACode:=(.seq (.seq (.region 5 [M 7 6,A 8 2 1,L 9 8,N 10 (.len .sl (.tmp 9)),N 11 (.binOp .lss (.one .int) (.tmp 7) (.tmp 10))] []) (.cond (.tmp 11) .skip (.exit 0))) (.seq (.block 1 (.seq (.region 9 [A 14 2 1,L 15 14,M 16 6,N 17 (.indexAddr none 5 (.tmp 15) (.tmp 16)),A 18 17 3,A 19 18 0,L 20 19,M 21 1,N 22 (.binOp .eql (.one .str) (.tmp 20) (.tmp 21))] []) (.cond (.tmp 22) (.region 5 [M 23 5,M 24 6,N 25 (.buildSlice 1 false (.int .i64 0) 1 [(0,(.tmp 24))]),N 26 (.append 2 1 8 false (.tmp 23) (.tmp 25)),M 5 26] []) .skip))) (.region 3 [M 12 6,N 13 (.binOp .add (.one .int) (.tmp 12) (I 1)),M 6 13] [])))
def g4v:AFun:=
 {ntmps:=28,nslots:=3,results:=[.tmp 4],byref:=[],owned:=false,
  body:=(.seq (.region 2 [N 2 (.box 0 (.tmp 0)),N 4 (.move (.const (.sl [] .nil)))] []) (.seq (.region 1 [N 5 (.move (.const (.sl [] .nil)))] []) (.seq (.seq (.region 1 [N 6 (.move (I 0))] []) (.block 0 (.loop g0b))) (.seq (.region 2 [M 27 5,M 4 27] []) .ret))))}
theorem g6d:Gam.fn 98=some g4v:=by kernel_rfl
def g1l:ACode:=(.seq (.seq (.region 5 [M 19 8,A 20 3 1,L 21 20,N 22 (.len .sl (.tmp 21)),N 23 (.binOp .lss (.one .int) (.tmp 19) (.tmp 22))] []) (.cond (.tmp 23) .skip (.exit 0))) (.seq (.block 1 (.region 14 [A 26 7 1,L 27 26,A 28 3 1,L 29 28,M 30 8,N 31 (.indexAddr none 2 (.tmp 29) (.tmp 30)),N 32 (.load (some 2) (.tmp 31)),M 33 1,M 34 2,N 35 (.call 151 [(.tmp 32),(.tmp 33),(.tmp 34)]),N 36 (.buildSlice 3 false (.agg [(.str []),(.sl [] .nil)]) 1 [(0,(.tmp 35))]),N 37 (.append 4 2 40 false (.tmp 27) (.tmp 36)),A 38 7 1,S 1 38 37] [(1,9),(1,10)])) (.region 3 [M 24 8,N 25 (.binOp .add (.one .int) (.tmp 24) (I 1)),M 8 25] [])))
def g4w:AFun:=
 {ntmps:=40,nslots:=5,results:=[.cell 6 (some 5)],byref:=[],owned:=false,
  body:=(.seq (.region 2 [N 3 (.box 0 (.tmp 0)),N 6 (.alloc 1 (.agg [(.sl [] .nil),(.sl [] .nil),(.sl [] .nil),(.str []),(.sl [] .nil)]))] []) (.seq (.region 12 [A 9 3 0,L 10 9,A 11 3 2,L 12 11,A 13 3 3,N 14 (.load (some 2) (.tmp 13)),M 15 1,M 16 2,N 17 (.call 151 [(.tmp 14),(.tmp 15),(.tmp 16)]),N 18 (.build [(.sl [] .nil),(.sl [] .nil),(.sl [] .nil),(.str []),(.sl [] .nil)] [(0,1,(.tmp 10)),(2,1,(.tmp 12)),(3,2,(.tmp 17))]),N 7 (.alloc 2 (.agg [(.sl [] .nil),(.sl [] .nil),(.sl [] .nil),(.str []),(.sl [] .nil)])),S 5 7 18] [(1,8),(3,8),(1,10),(3,10),(5,10),(8,10)]) (.seq (.seq (.region 1 [N 8 (.move (I 0))] []) (.block 0 (.loop g1l))) (.seq (.region 2 [N 39 (.load (some 5) (.tmp 7)),S 5 6 39] []) .ret))))}
theorem g6e:Gam.fn 97=some g4w:=by kernel_rfl
def g1m:AFun:=
 {ntmps:=14,nslots:=2,results:=[.cell 6 (some 2)],byref:=[],owned:=false,
  body:=(.seq (.region 2 [N 3 (.box 0 (.tmp 0)),N 6 (.alloc 1 (.agg [(.str []),(.sl [] .nil)]))] []) (.seq (.seq (.region 4 [A 7 3 0,L 8 7,M 9 1,N 10 (.binOp .eql (.one .str) (.tmp 8) (.tmp 9))] []) (.cond (.tmp 10) (.region 3 [M 11 2,A 12 3 0,S 1 12 11] []) .skip)) (.seq (.region 2 [N 13 (.load (some 2) (.tmp 3)),S 2 6 13] []) .ret)))}
theorem g3y:Gam.fn 151=some g1m:=by kernel_rfl
def g0c:ACode:=(.seq (.seq (.region 5 [M 57 6,A 58 2 1,L 59 58,N 60 (.len .sl (.tmp 59)),N 61 (.binOp .lss (.one .int) (.tmp 57) (.tmp 60))] []) (.cond (.tmp 61) .skip (.exit 2))) (.seq (.block 3 (.seq (.region 12 [A 64 2 1,L 65 64,M 66 6,N 67 (.indexAddr none 2 (.tmp 65) (.tmp 66)),N 68 (.load (some 2) (.tmp 67)),A 69 3 1,L 70 69,M 71 6,N 72 (.indexAddr none 2 (.tmp 70) (.tmp 71)),N 73 (.load (some 2) (.tmp 72)),N 74 (.call 227 [(.tmp 68),(.tmp 73)]),N 75 (.unOp .not (.tmp 74))] []) (.cond (.tmp 75) (.seq (.region 1 [N 4 (.move (.const (.bool false)))] []) .ret) .skip))) (.region 3 [M 62 6,N 63 (.binOp .add (.one .int) (.tmp 62) (I 1)),M 6 63] [])))
def g0d:ACode:=(.seq (.seq (.region 5 [M 39 5,A 40 2 0,L 41 40,N 42 (.len .sl (.tmp 41)),N 43 (.binOp .lss (.one .int) (.tmp 39) (.tmp 42))] []) (.cond (.tmp 43) .skip (.exit 0))) (.seq (.block 1 (.seq (.region 11 [A 46 2 0,L 47 46,M 48 5,N 49 (.indexAddr none 2 (.tmp 47) (.tmp 48)),N 50 (.load (some 2) (.tmp 49)),A 51 3 0,L 52 51,M 53 5,N 54 (.indexAddr none 2 (.tmp 52) (.tmp 53)),N 55 (.load (some 2) (.tmp 54)),N 56 (.binOp .neq (.agg [.str, .int]) (.tmp 50) (.tmp 55))] []) (.cond (.tmp 56) (.seq (.region 1 [N 4 (.move (.const (.bool false)))] []) .ret) .skip))) (.region 3 [M 44 5,N 45 (.binOp .add (.one .int) (.tmp 44) (I 1)),M 5 45] [])))
def g1w:AFun:=
 {ntmps:=76,nslots:=2,results:=[.tmp 4],byref:=[],owned:=false,
  body:=(.seq (.region 3 [N 2 (.box 0 (.tmp 0)),N 3 (.box 1 (.tmp 1)),N 4 (.move (.const (.bool false)))] []) (.seq (.seq (.region 32 [A 7 2 0,L 8 7,N 9 (.len .sl (.tmp 8)),A 10 3 0,L 11 10,N 12 (.len .sl (.tmp 11)),N 13 (.binOp .neq (.one .int) (.tmp 9) (.tmp 12)),M 14 13,U 15 (.fieldAddr (.tmp 2) 1) 14,U 16 (.load none (.tmp 15)) 14,U 17 (.len .sl (.tmp 16)) 14,U 18 (.fieldAddr (.tmp 3) 1) 14,U 19 (.load none (.tmp 18)) 14,U 20 (.len .sl (.tmp 19)) 14,U 21 (.binOp .neq (.one .int) (.tmp 17) (.tmp 20)) 14,N 22 (.pick (.tmp 14) (.const (.bool true)) (.tmp 21)),M 23 22,U 24 (.fieldAddr (.tmp 2) 2) 23,U 25 (.load none (.tmp 24)) 23,U 26 (.fieldAddr (.tmp 3) 2) 23,U 27 (.load none (.tmp 26)) 23,U 28 (.call 68 [(.tmp 25),(.tmp 27)]) 23,U 29 (.unOp .not (.tmp 28)) 23,N 30 (.pick (.tmp 23) (.const (.bool true)) (.tmp 29)),M 31 30,U 32 (.fieldAddr (.tmp 2) 3) 31,U 33 (.load (some 2) (.tmp 32)) 31,U 34 (.fieldAddr (.tmp 3) 3) 31,U 35 (.load (some 2) (.tmp 34)) 31,U 36 (.call 227 [(.tmp 33),(.tmp 35)]) 31,U 37 (.unOp .not (.tmp 36)) 31,N 38 (.pick (.tmp 31) (.const (.bool true)) (.tmp 37))] []) (.cond (.tmp 38) (.seq (.region 1 [N 4 (.move (.const (.bool false)))] []) .ret) .skip)) (.seq (.seq (.region 1 [N 5 (.move (I 0))] []) (.block 0 (.loop g0d))) (.seq (.seq (.region 1 [N 6 (.move (I 0))] []) (.block 2 (.loop g0c))) (.seq (.region 1 [N 4 (.move (.const (.bool true)))] []) .ret)))))}
theorem g6f:Gam.fn 149=some g1w:=by kernel_rfl
def u8k:ACode:=(.seq (.seq (.region 5 [M 20 5,A 21 2 1,L 22 21,N 23 (.len .sl (.tmp 22)),N 24 (.binOp .lss (.one .int) (.tmp 20) (.tmp 23))] []) (.cond (.tmp 24) .skip (.exit 0))) (.seq (.block 1 (.seq (.region 12 [A 27 2 1,L 28 27,M 29 5,N 30 (.indexAddr none 1 (.tmp 28) (.tmp 29)),L 31 30,A 32 3 1,L 33 32,M 34 5,N 35 (.indexAddr none 1 (.tmp 33) (.tmp 34)),L 36 35,N 37 (.call 68 [(.tmp 31),(.tmp 36)]),N 38 (.unOp .not (.tmp 37))] []) (.cond (.tmp 38) (.seq (.region 1 [N 4 (.move (.const (.bool false)))] []) .ret) .skip))) (.region 3 [M 25 5,N 26 (.binOp .add (.one .int) (.tmp 25) (I 1)),M 5 26] [])))
def g0e:AFun:=
 {ntmps:=39,nslots:=2,results:=[.tmp 4],byref:=[],owned:=false,
  body:=(.seq (.region 3 [N 2 (.box 0 (.tmp 0)),N 3 (.box 1 (.tmp 1)),N 4 (.move (.const (.bool false)))] []) (.seq (.seq (.region 14 [A 6 2 0,L 7 6,A 8 3 0,L 9 8,N 10 (.binOp .neq (.one .str) (.tmp 7) (.tmp 9)),M 11 10,U 12 (.fieldAddr (.tmp 2) 1) 11,U 13 (.load none (.tmp 12)) 11,U 14 (.len .sl (.tmp 13)) 11,U 15 (.fieldAddr (.tmp 3) 1) 11,U 16 (.load none (.tmp 15)) 11,U 17 (.len .sl (.tmp 16)) 11,U 18 (.binOp .neq (.one .int) (.tmp 14) (.tmp 17)) 11,N 19 (.pick (.tmp 11) (.const (.bool true)) (.tmp 18))] []) (.cond (.tmp 19) (.seq (.region 1 [N 4 (.move (.const (.bool false)))] []) .ret) .skip)) (.seq (.seq (.region 1 [N 5 (.move (I 0))] []) (.block 0 (.loop u8k))) (.seq (.region 1 [N 4 (.move (.const (.bool true)))] []) .ret))))}
theorem g3z:Gam.fn 227=some g0e:=by kernel_rfl
def g0f:ACode:=(.seq (.seq (.region 4 [M 50 9,M 51 7,N 52 (.len .sl (.tmp 51)),N 53 (.binOp .lss (.one .int) (.tmp 50) (.tmp 52))] []) (.cond (.tmp 53) .skip (.exit 0))) (.seq (.block 1 (.seq (.region 44 [A 56 3 1,L 57 56,M 58 7,M 59 9,N 60 (.indexAddr none 1 (.tmp 58) (.tmp 59)),L 61 60,N 62 (.indexAddr none 5 (.tmp 57) (.tmp 61)),N 63 (.load (some 5) (.tmp 62)),A 64 3 0,L 65 64,M 66 1,N 67 (.indexAddr none 3 (.tmp 65) (.tmp 66)),A 68 67 0,L 69 68,A 70 3 0,L 71 70,M 72 2,N 73 (.indexAddr none 3 (.tmp 71) (.tmp 72)),A 74 73 0,L 75 74,N 76 (.call 97 [(.tmp 63),(.tmp 69),(.tmp 75)]),A 77 3 1,L 78 77,M 79 8,M 80 9,N 81 (.indexAddr none 1 (.tmp 79) (.tmp 80)),L 82 81,N 83 (.indexAddr none 5 (.tmp 78) (.tmp 82)),N 84 (.load (some 5) (.tmp 83)),A 85 3 0,L 86 85,M 87 1,N 88 (.indexAddr none 3 (.tmp 86) (.tmp 87)),A 89 88 0,L 90 89,A 91 3 0,L 92 91,M 93 2,N 94 (.indexAddr none 3 (.tmp 92) (.tmp 93)),A 95 94 0,L 96 95,N 97 (.call 97 [(.tmp 84),(.tmp 90),(.tmp 96)]),N 98 (.call 149 [(.tmp 76),(.tmp 97)]),N 99 (.unOp .not (.tmp 98))] [(20,22),(20,25),(20,26),(20,27),(20,28),(20,30),(20,32),(20,34),(20,36),(20,38),(20,40)]) (.cond (.tmp 99) (.seq (.region 1 [N 6 (.move (.const (.bool false)))] []) .ret) .skip))) (.region 3 [M 54 9,N 55 (.binOp .add (.one .int) (.tmp 54) (I 1)),M 9 55] [])))
def g2s:AFun:=
 {ntmps:=100,nslots:=1,results:=[.tmp 6],byref:=[],owned:=false,
  body:=(.seq (.region 2 [N 3 (.box 0 (.tmp 0)),N 6 (.move (.const (.bool false)))] []) (.seq (.seq (.region 19 [M 10 1,M 11 2,N 12 (.binOp .eql (.one .int) (.tmp 10) (.tmp 11)),M 13 12,U 14 (.fieldAddr (.tmp 3) 0) 13,U 15 (.load none (.tmp 14)) 13,U 16 (.move (.tmp 1)) 13,U 17 (.indexAddr none 3 (.tmp 15) (.tmp 16)) 13,U 18 (.fieldAddr (.tmp 17) 1) 13,U 19 (.load none (.tmp 18)) 13,U 20 (.fieldAddr (.tmp 3) 0) 13,U 21 (.load none (.tmp 20)) 13,U 22 (.move (.tmp 2)) 13,U 23 (.indexAddr none 3 (.tmp 21) (.tmp 22)) 13,U 24 (.fieldAddr (.tmp 23) 1) 13,U 25 (.load none (.tmp 24)) 13,U 26 (.call 148 [(.tmp 19),(.tmp 25)]) 13,U 27 (.unOp .not (.tmp 26)) 13,N 28 (.pick (.tmp 13) (.const (.bool true)) (.tmp 27))] []) (.cond (.tmp 28) (.seq (.region 1 [N 6 (.move (.const (.bool false)))] []) .ret) .skip)) (.seq (.region 18 [N 29 (.load (some 2) (.tmp 3)),A 30 3 0,L 31 30,M 32 1,N 33 (.indexAddr none 3 (.tmp 31) (.tmp 32)),A 34 33 0,L 35 34,N 36 (.call 98 [(.tmp 29),(.tmp 35)]),N 37 (.load (some 2) (.tmp 3)),A 38 3 0,L 39 38,M 40 2,N 41 (.indexAddr none 3 (.tmp 39) (.tmp 40)),A 42 41 0,L 43 42,N 44 (.call 98 [(.tmp 37),(.tmp 43)]),M 7 36,M 8 44] [(7,8),(7,10),(7,12),(7,14)]) (.seq (.seq (.region 5 [M 45 7,N 46 (.len .sl (.tmp 45)),M 47 8,N 48 (.len .sl (.tmp 47)),N 49 (.binOp .neq (.one .int) (.tmp 46) (.tmp 48))] []) (.cond (.tmp 49) (.seq (.region 1 [N 6 (.move (.const (.bool false)))] []) .ret) .skip)) (.seq (.seq (.region 1 [N 9 (.move (I 0))] []) (.block 0 (.loop g0f))) (.seq (.region 1 [N 6 (.move (.const (.bool true)))] []) .ret))))))}
theorem g6g:Gam.fn 90=some g2s:=by kernel_rfl
def g0g:ACode:=(.seq (.seq (.region 4 [M 117 15,M 118 13,N 119 (.len .sl (.tmp 118)),N 120 (.binOp .lss (.one .int) (.tmp 117) (.tmp 119))] []) (.cond (.tmp 120) .skip (.exit 4))) (.seq (.block 5 (.region 14 [M 123 11,M 124 13,M 125 15,N 126 (.indexAddr none 1 (.tmp 124) (.tmp 125)),L 127 126,M 128 11,M 129 14,M 130 15,N 131 (.indexAddr none 1 (.tmp 129) (.tmp 130)),L 132 131,N 133 (.indexAddr none 1 (.tmp 128) (.tmp 132)),L 134 133,N 135 (.indexAddr none 1 (.tmp 123) (.tmp 127)),S 1 135 134] [])) (.region 3 [M 121 15,N 122 (.binOp .add (.one .int) (.tmp 121) (I 1)),M 15 122] [])))
def u9c:ACode:=(.seq (.seq (.region 5 [M 71 12,A 72 2 1,L 73 72,N 74 (.len .sl (.tmp 73)),N 75 (.binOp .lss (.one .int) (.tmp 71) (.tmp 74))] []) (.cond (.tmp 75) .skip (.exit 2))) (.seq (.block 3 (.seq (.region 10 [A 78 2 1,L 79 78,M 80 12,N 81 (.indexAddr none 5 (.tmp 79) (.tmp 80)),A 82 81 3,A 83 82 0,L 84 83,A 85 3 1,L 86 85,N 87 (.binOp .neq (.one .str) (.tmp 84) (.tmp 86))] []) (.cond (.tmp 87) (.seq (.region 7 [M 88 11,M 89 12,A 90 9 1,L 91 90,N 92 (.len .sl (.tmp 91)),N 93 (.indexAddr none 1 (.tmp 88) (.tmp 89)),S 1 93 92] []) (.region 16 [A 94 9 1,L 95 94,A 96 2 1,L 97 96,M 98 12,N 99 (.indexAddr none 5 (.tmp 97) (.tmp 98)),N 100 (.load (some 5) (.tmp 99)),A 101 3 1,L 102 101,A 103 3 2,L 104 103,N 105 (.call 97 [(.tmp 100),(.tmp 102),(.tmp 104)]),N 106 (.buildSlice 7 false (.agg [(.sl [] .nil),(.sl [] .nil),(.sl [] .nil),(.str []),(.sl [] .nil)]) 1 [(0,(.tmp 105))]),N 107 (.append 8 5 112 false (.tmp 95) (.tmp 106)),A 108 9 1,S 1 108 107] [(1,11),(1,12)])) .skip))) (.region 3 [M 76 12,N 77 (.binOp .add (.one .int) (.tmp 76) (I 1)),M 12 77] [])))
def u9d:ACode:=(.seq (.seq (.region 5 [M 47 10,A 48 2 0,L 49 48,N 50 (.len .sl (.tmp 49)),N 51 (.binOp .lss (.one .int) (.tmp 47) (.tmp 50))] []) (.cond (.tmp 51) .skip (.exit 0))) (.seq (.block 1 (.seq (.region 3 [M 54 10,M 55 7,N 56 (.binOp .neq (.one .int) (.tmp 54) (.tmp 55))] []) (.cond (.tmp 56) (.region 11 [A 57 9 0,L 58 57,A 59 2 0,L 60 59,M 61 10,N 62 (.indexAddr none 3 (.tmp 60) (.tmp 61)),N 63 (.load (some 3) (.tmp 62)),N 64 (.buildSlice 4 false (.agg [(.str []),(.sl [] .nil),(.int .i64 0)]) 1 [(0,(.tmp 63))]),N 65 (.append 5 3 48 false (.tmp 58) (.tmp 64)),A 66 9 0,S 1 66 65] [(1,7)]) .skip))) (.region 3 [M 52 10,N 53 (.binOp .add (.one .int) (.tmp 52) (I 1)),M 10 53] [])))
def g1x:AFun:=
 {ntmps:=139,nslots:=9,results:=[.cell 4 (some 2), .tmp 5, .tmp 6],byref:=[],owned:=false,
  body:=(.seq (.region 5 [N 2 (.box 0 (.tmp 0)),N 3 (.box 1 (.tmp 1)),N 4 (.alloc 2 (.agg [(.sl [] .nil),(.sl [] .nil)])),N 5 (.move (.const (.sl [] .nil))),N 6 (.move (I 0))] []) (.seq (.seq (.region 8 [N 16 (.load (some 2) (.tmp 2)),N 17 (.call 44 [.tmp 16]),N 18 (.unOp .not (.tmp 17)),M 19 18,U 20 (.load (some 8) (.tmp 3)) 19,U 21 (.call 96 [(.tmp 20),(I 6)]) 19,U 22 (.unOp .not (.tmp 21)) 19,N 23 (.pick (.tmp 19) (.const (.bool true)) (.tmp 22))] []) (.cond (.tmp 23) (.seq (.region 4 [N 24 (.build [(.sl [] .nil),(.sl [] .nil)] []),S 2 4 24,N 5 (.move (.const (.sl [] .nil))),N 6 (.move (I 1))] []) .ret) .skip)) (.seq (.region 10 [N 25 (.load (some 2) (.tmp 2)),A 26 3 1,L 27 26,N 28 (.call 71 [(.tmp 25),(.tmp 27)]),N 29 (.load (some 2) (.tmp 2)),A 30 3 2,L 31 30,N 32 (.call 71 [(.tmp 29),(.tmp 31)]),M 7 28,M 8 32] [(3,4),(3,6)]) (.seq (.seq (.region 13 [M 33 7,N 34 (.binOp .lss (.one .int) (.tmp 33) (I 0)),M 35 34,U 36 (.move (.tmp 8)) 35,U 37 (.binOp .lss (.one .int) (.tmp 36) (I 0)) 35,N 38 (.pick (.tmp 35) (.const (.bool true)) (.tmp 37)),M 39 38,U 40 (.load (some 2) (.tmp 2)) 39,U 41 (.move (.tmp 7)) 39,U 42 (.move (.tmp 8)) 39,U 43 (.call 90 [(.tmp 40),(.tmp 41),(.tmp 42)]) 39,U 44 (.unOp .not (.tmp 43)) 39,N 45 (.pick (.tmp 39) (.const (.bool true)) (.tmp 44))] []) (.cond (.tmp 45) (.seq (.region 4 [N 46 (.build [(.sl [] .nil),(.sl [] .nil)] []),S 2 4 46,N 5 (.move (.const (.sl [] .nil))),N 6 (.move (I 8))] []) .ret) .skip)) (.seq (.region 1 [N 9 (.alloc 3 (.agg [(.sl [] .nil),(.sl [] .nil)]))] []) (.seq (.seq (.region 1 [N 10 (.move (I 0))] []) (.block 0 (.loop u9d))) (.seq (.region 5 [A 67 2 1,L 68 67,N 69 (.len .sl (.tmp 68)),N 70 (.makeSlice 6 (.int .i64 0) 8 (.tmp 69) (.tmp 69)),M 11 70] []) (.seq (.seq (.region 1 [N 12 (.move (I 0))] []) (.block 2 (.loop u9c))) (.seq (.region 10 [N 109 (.load (some 2) (.tmp 2)),A 110 3 1,L 111 110,N 112 (.call 98 [(.tmp 109),(.tmp 111)]),N 113 (.load (some 2) (.tmp 2)),A 114 3 2,L 115 114,N 116 (.call 98 [(.tmp 113),(.tmp 115)]),M 13 112,M 14 116] [(3,4),(3,6)]) (.seq (.seq (.region 1 [N 15 (.move (I 0))] []) (.block 4 (.loop g0g))) (.seq (.region 6 [N 136 (.load (some 2) (.tmp 9)),N 137 (.call 99 [.tmp 136]),M 138 11,S 2 4 137,M 5 138,N 6 (.move (I 0))] []) .ret)))))))))))}
theorem g6h:Gam.fn 41=some g1x:=by kernel_rfl
def g4x:AFun:=
 {ntmps:=18,nslots:=4,results:=[.cell 4 (some 2), .tmp 5],byref:=[],owned:=false,
  body:=(.seq (.region 4 [N 2 (.box 0 (.tmp 0)),N 3 (.box 1 (.tmp 1)),N 4 (.alloc 2 (.agg [(.sl [] .nil),(.sl [] .nil)])),N 5 (.move (I 0))] []) (.seq (.region 11 [N 10 (.load (some 2) (.tmp 2)),N 11 (.load (some 8) (.tmp 3)),N 12 (.call 41 [(.tmp 10),(.tmp 11)]),M 9 12,E 13 9 0,E 14 9 1,E 15 9 2,N 6 (.alloc 3 (.agg [(.sl [] .nil),(.sl [] .nil)])),S 2 6 13,M 7 14,M 8 15] []) (.seq (.region 4 [N 16 (.load (some 2) (.tmp 6)),M 17 8,S 2 4 16,M 5 17] []) .ret)))}
theorem g6i:Gam.fn 11=some g4x:=by kernel_rfl
def g3f:AFun:=
 {ntmps:=40,nslots:=4,results:=[.tmp 6],byref:=[],owned:=false,
  body:=(.seq (.region 4 [N 3 (.box 0 (.tmp 0)),N 4 (.box 1 (.tmp 1)),N 5 (.box 2 (.tmp 2)),N 6 (.move (.const (.bool false)))] []) (.seq (.seq (.region 13 [A 10 4 0,L 11 10,A 12 5 0,L 13 12,N 14 (.binOp .eql (.one .str) (.tmp 11) (.tmp 13)),M 15 14,U 16 (.fieldAddr (.tmp 4) 1) 15,U 17 (.load none (.tmp 16)) 15,U 18 (.fieldAddr (.tmp 5) 1) 15,U 19 (.load none (.tmp 18)) 15,U 20 (.call 120 [(.tmp 17),(.tmp 19)]) 15,U 21 (.unOp .not (.tmp 20)) 15,N 22 (.pick (.tmp 15) (.const (.bool true)) (.tmp 21))] []) (.cond (.tmp 22) (.seq (.region 1 [N 6 (.move (.const (.bool false)))] []) .ret) .skip)) (.seq (.region 7 [A 23 4 0,L 24 23,A 25 5 0,L 26 25,N 27 (.build [(.str []),(.str [])] [(0,1,(.tmp 24)),(1,1,(.tmp 26))]),N 7 (.alloc 3 (.agg [(.str []),(.str [])])),S 2 7 27] []) (.seq (.region 10 [N 28 (.load (some 2) (.tmp 3)),A 29 4 0,L 30 29,N 31 (.call 133 [(.tmp 28),(.tmp 30)]),N 32 (.load (some 2) (.tmp 3)),A 33 5 0,L 34 33,N 35 (.call 133 [(.tmp 32),(.tmp 34)]),M 8 31,M 9 35] [(3,4),(3,6)]) (.seq (.region 5 [M 36 8,M 37 9,N 38 (.makeFunc 135 [(.tmp 7),(.tmp 3)]),N 39 (.call 134 [(.tmp 36),(.tmp 37),(.tmp 38)]),M 6 39] []) .ret)))))}
theorem g6j:Gam.fn 78=some g3f:=by kernel_rfl
def g0h:ACode:=(.seq (.region 1 [N 12 (.binOp .lss (.one .int) (.tmp 11) (.tmp 10))] []) (.seq (.cond (.tmp 12) .skip (.exit 0)) (.seq (.block 1 (.seq (.region 6 [M 13 11,N 14 (.indexAddr none 5 (.tmp 9) (.tmp 11)),N 15 (.load (some 5) (.tmp 14)),N 7 (.alloc 1 (.agg [(.sl [] .nil),(.sl [] .nil),(.sl [] .nil),(.str []),(.sl [] .nil)])),M 6 13,S 5 7 15] []) (.seq (.region 5 [A 16 7 3,A 17 16 0,L 18 17,M 19 1,N 20 (.binOp .eql (.one .str) (.tmp 18) (.tmp 19))] []) (.cond (.tmp 20) (.region 5 [M 21 5,M 22 6,N 23 (.buildSlice 2 false (.int .i64 0) 1 [(0,(.tmp 22))]),N 24 (.append 3 1 8 false (.tmp 21) (.tmp 23)),M 5 24] []) .skip)))) (.region 2 [N 25 (.binOp .add (.one .int) (.tmp 11) (I 1)),M 11 25] []))))
def g4y:AFun:=
 {ntmps:=27,nslots:=4,results:=[.tmp 4],byref:=[],owned:=false,
  body:=(.seq (.region 2 [N 2 (.box 0 (.tmp 0)),N 4 (.move (.const (.sl [] .nil)))] []) (.seq (.region 1 [N 5 (.move (.const (.sl [] .nil)))] []) (.seq (.seq (.region 4 [A 8 2 1,L 9 8,N 10 (.len .sl (.tmp 9)),N 11 (.move (I 0))] []) (.block 0 (.loop g0h))) (.seq (.region 2 [M 26 5,M 4 26] []) .ret))))}
theorem g6k:Gam.fn 133=some g4y:=by kernel_rfl
def g0i:ACode:=(.seq (.region 1 [N 57 (.binOp .lss (.one .int) (.tmp 56) (.tmp 55))] []) (.seq (.cond (.tmp 57) .skip (.exit 0)) (.seq (.block 1 (.seq (.region 6 [M 58 56,N 59 (.indexAddr none 5 (.tmp 54) (.tmp 56)),N 60 (.load (some 5) (.tmp 59)),N 12 (.alloc 3 (.agg [(.sl [] .nil),(.sl [] .nil),(.sl [] .nil),(.str []),(.sl [] .nil)])),M 11 58,S 5 12 60] []) (.seq (.region 6 [A 61 12 3,A 62 61 0,L 63 62,A 64 3 1,L 65 64,N 66 (.binOp .neq (.one .str) (.tmp 63) (.tmp 65))] []) (.cond (.tmp 66) (.region 5 [M 67 10,M 68 11,N 69 (.buildSlice 4 false (.int .i64 0) 1 [(0,(.tmp 68))]),N 70 (.append 5 1 8 false (.tmp 67) (.tmp 69)),M 10 70] []) .skip)))) (.region 2 [N 71 (.binOp .add (.one .int) (.tmp 56) (I 1)),M 56 71] []))))
def g1y:AFun:=
 {ntmps:=73,nslots:=6,results:=[.tmp 4, .tmp 5],byref:=[],owned:=false,
  body:=(.seq (.region 4 [N 2 (.box 0 (.tmp 0)),N 3 (.box 1 (.tmp 1)),N 4 (.move (.const (.sl [] .nil))),N 5 (.move (I 0))] []) (.seq (.region 3 [N 13 (.load (some 8) (.tmp 3)),N 6 (.alloc 2 (.agg [(.int .i64 0),(.str []),(.str []),(.int .i64 0),(.int .i64 0),(.sl [] .nil),(.sl [] .nil),(.sl [] .nil)])),S 8 6 13] []) (.seq (.region 4 [A 14 6 1,⟨none, .store 1 (.tmp 14) (.const (.str [])),none⟩,A 15 6 2,⟨none, .store 1 (.tmp 15) (.const (.str [])),none⟩] []) (.seq (.seq (.region 5 [N 16 (.load (some 2) (.tmp 2)),N 17 (.load (some 8) (.tmp 3)),N 18 (.load (some 8) (.tmp 6)),N 19 (.call 91 [(.tmp 16),(.tmp 17),(I 6),(.tmp 18)]),N 20 (.unOp .not (.tmp 19))] []) (.cond (.tmp 20) (.seq (.region 2 [N 4 (.move (.const (.sl [] .nil))),N 5 (.move (I 1))] []) .ret) .skip)) (.seq (.region 4 [A 21 2 0,L 22 21,N 23 (.call 84 [.tmp 22]),M 7 23] []) (.seq (.region 10 [M 24 7,A 25 3 1,L 26 25,N 27 (.call 83 [(.tmp 24),(.tmp 26)]),M 28 7,A 29 3 2,L 30 29,N 31 (.call 83 [(.tmp 28),(.tmp 30)]),M 8 27,M 9 31] [(3,6)]) (.seq (.seq (.region 21 [M 32 8,N 33 (.binOp .lss (.one .int) (.tmp 32) (I 0)),M 34 33,U 35 (.move (.tmp 9)) 34,U 36 (.binOp .lss (.one .int) (.tmp 35) (I 0)) 34,N 37 (.pick (.tmp 34) (.const (.bool true)) (.tmp 36)),M 38 37,U 39 (.load (some 2) (.tmp 2)) 38,U 40 (.fieldAddr (.tmp 2) 0) 38,U 41 (.load none (.tmp 40)) 38,U 42 (.move (.tmp 8)) 38,U 43 (.indexAddr none 3 (.tmp 41) (.tmp 42)) 38,U 44 (.load (some 3) (.tmp 43)) 38,U 45 (.fieldAddr (.tmp 2) 0) 38,U 46 (.load none (.tmp 45)) 38,U 47 (.move (.tmp 9)) 38,U 48 (.indexAddr none 3 (.tmp 46) (.tmp 47)) 38,U 49 (.load (some 3) (.tmp 48)) 38,U 50 (.call 78 [(.tmp 39),(.tmp 44),(.tmp 49)]) 38,U 51 (.unOp .not (.tmp 50)) 38,N 52 (.pick (.tmp 38) (.const (.bool true)) (.tmp 51))] []) (.cond (.tmp 52) (.seq (.region 2 [N 4 (.move (.const (.sl [] .nil))),N 5 (.move (I 8))] []) .ret) .skip)) (.seq (.region 1 [N 10 (.move (.const (.sl [] .nil)))] []) (.seq (.seq (.region 4 [A 53 2 1,L 54 53,N 55 (.len .sl (.tmp 54)),N 56 (.move (I 0))] []) (.block 0 (.loop g0i))) (.seq (.region 3 [M 72 10,M 4 72,N 5 (.move (I 0))] []) .ret))))))))))}
theorem g6l:Gam.fn 37=some g1y:=by kernel_rfl
end
section
open Sh
def eqC (e:Nat) (ld:Option Nat) (ty:ETy):ACode:=(.seq (.region 1 [N 14 (.binOp .lss (.one .int) (.tmp 13) (.tmp 12))] []) (.seq (.cond (.tmp 14) .skip (.exit 0)) (.seq (.block 1 (.seq (.region 2 [M 15 13,M 5 15] []) (.seq (.region 9 [M 16 0,M 17 5,N 18 (.indexAddr none e (.tmp 16) (.tmp 17)),N 19 (.load ld (.tmp 18)),M 20 1,M 21 5,N 22 (.indexAddr none e (.tmp 20) (.tmp 21)),N 23 (.load ld (.tmp 22)),N 24 (.binOp .neq ty (.tmp 19) (.tmp 23))] []) (.cond (.tmp 24) (.seq (.region 1 [N 4 (.move (.const (.bool false)))] []) .ret) .skip)))) (.region 2 [N 25 (.binOp .add (.one .int) (.tmp 13) (I 1)),M 13 25] []))))
def eqF (e:Nat) (ld:Option Nat) (ty:ETy):AFun:=
 {ntmps:=26,nslots:=0,results:=[.tmp 4],byref:=[],owned:=false,
  body:=(.seq (.region 1 [N 4 (.move (.const (.bool false)))] []) (.seq (.seq (.region 5 [M 6 0,N 7 (.len .sl (.tmp 6)),M 8 1,N 9 (.len .sl (.tmp 8)),N 10 (.binOp .neq (.one .int) (.tmp 7) (.tmp 9))] []) (.cond (.tmp 10) (.seq (.region 1 [N 4 (.move (.const (.bool false)))] []) .ret) .skip)) (.seq (.seq (.region 3 [M 11 0,N 12 (.len .sl (.tmp 11)),N 13 (.move (I 0))] []) (.block 0 (.loop (eqC e ld ty)))) (.seq (.region 1 [N 4 (.move (.const (.bool true)))] []) .ret))))}
theorem g4a:Gam.fn 120=some (eqF 1 none (.one .int)):=by kernel_rfl
theorem g4b:Gam.fn 204=some (eqF 2 (some 2) (.agg [.str, .int])):=by kernel_rfl
theorem g4c:Gam.fn 205=some (eqF 5 (some 5) (.agg [.int, .int, .str, .str, .int])):=by kernel_rfl
theorem g4d:Gam.fn 267=some g2o:=by kernel_rfl
theorem u6u {α:Type} {enc:α→AV} {e i:Nat} {xs:List α} {t:Tip} {k:IntKind} {h:List AObj} (hE:∀ x,(enc x).cells.length=e) (hi:i < xs.length):z1m h e (.sl (xs.map enc) t) (.int k (i:Int))=some (.iptr (enc xs[i]).cells 0,h):=z5q (by simp[hi]) (hE _)
theorem u6g {a b:Nat}:decide ((a:Int)=(b:Int))=decide (a=b):=by
 by_cases h:a=b
 ·simp[h]
 ·rw[decide_eq_false h,decide_eq_false_iff_not];omega
theorem u8r {α:Type} {xs ys:List α} {i:Nat} (hx:i < xs.length) (hy:i < ys.length) (h:xs.take i=ys.take i) (h1:xs[i]=ys[i]):xs.take (i + 1)=ys.take (i + 1):=by
 rw[List.take_succ_eq_append_getElem hx,List.take_succ_eq_append_getElem hy,h,h1]
theorem u8c {α:Type} [DecidableEq α] {enc:α→AV} {f e:Nat} {ld:Option Nat} {ty:ETy} {xs ys:List α} {u v:Tip} (hext:Gam.ext f=none) (hfn:Gam.fn f=some (eqF e ld ty)) (hE:∀ x,(enc x).cells.length=e) (hld:∀ x h,q1u h ld (.iptr (enc x).cells 0)=some (enc x,h)) (hbv:∀ x y h,z7d h .neq ty (enc x) (enc y)=some (.bool (!decide (x=y)),h)) (hid:∀ x,(enc x).ids=[]) (hl:xs.length≤2 ^ 20) (hl2:ys.length≤2 ^ 20):
  Pure Gam f [.sl (xs.map enc) u, .sl (ys.map enc) v] (.bool (decide (xs=ys))):=by
 refine Pure.of hext hfn rfl rfl rfl (az:=[.sl (xs.map enc) .no, .sl (ys.map enc) .no]) rfl (by simp[idsL,AV.ids,z0c hid]) fun D B clk T hB hT=> ?_
 cases hlen:decide (xs.length=ys.length) with
 | true=>
   have hlen':xs.length=ys.length:=of_decide_eq_true hlen
   simp only[go_sem,eqF,hB,List.length_map,u6g,hlen,Bool.not_true]
   refine z6z xs.length (by omega) (fun i q=>xs.take i=ys.take i∧q.ts 0= .sl (xs.map enc) .no∧q.ts 1= .sl (ys.map enc) .no∧q.ts 12= .int .i64 (xs.length:Int)∧q.ts 13= .int .i64 (i:Int)) ⟨by simp,rfl,rfl,rfl,rfl⟩ ?_ ?_
   ·rintro i hlt f1 f2 ts h clk P ⟨he0,q0,q1,q12,q13⟩ hnx he hr
    dsimp only at q0 q1 q12 q13
    have hlt2:i < ys.length:=by omega
    have hx:=fun h=>u6u (enc:=enc) (t:= .no) (k:= .i64) (h:=h) hE hlt
    have hy:=fun h=>u6u (enc:=enc) (t:= .no) (k:= .i64) (h:=h) hE hlt2
    cases hc:decide (xs[i]=ys[i]) with
    | true=>
      simp only[go_sem,eqC,q0,q1,q12,q13,f1,f2,hx,hy,hld,hbv,hc,Bool.not_true]
      exact hnx _ ⟨u8r hlt hlt2 he0 (of_decide_eq_true hc),q0,q1,q12,rfl⟩
    | false=>
      simp only[go_sem,eqC,q0,q1,q12,q13,f1,f2,hx,hy,hld,hbv,hc,Bool.not_false]
      refine hr _ ?_
      rw[decide_eq_false fun e=>of_decide_eq_false hc (by subst e;rfl)] at hT
      simp only[go_sem,]
      rw[z0e]
      exact hT _
   ·rintro f1 ts h clk P ⟨he0,q0,q1,q12,q13⟩ he hr
    dsimp only at q0 q1 q12 q13
    simp only[go_sem,eqC,q0,q1,q12,q13,f1]
    refine he _ _ ?_
    rw[List.take_length,hlen',List.take_length] at he0
    rw[decide_eq_true he0] at hT
    simp only[go_sem,]
    rw[z0e]
    exact hT _
 | false=>
   simp only[go_sem,eqF,hB,List.length_map,u6g,hlen,Bool.not_false]
   rw[decide_eq_false fun e=>of_decide_eq_false hlen (by rw[e])] at hT
   rw[z0e]
   exact hT _
theorem g1n {xs ys:List Nat} {u v:Tip} (hl:xs.length≤2 ^ 20) (hl2:ys.length≤2 ^ 20):Pure Gam 120 [.sl (xs.map nat) u, .sl (ys.map nat) v] (.bool (decide (xs=ys))):=
 u8c rfl g4a (fun _=>rfl) (fun _ _=>rfl) (fun x y h=>by simp only[nat,w0z,u6g]) (fun _=>rfl) hl hl2
theorem g1o {xs ys:List Var} {u v:Tip} (hl:xs.length≤2 ^ 20) (hl2:ys.length≤2 ^ 20):Pure Gam 204 [.sl (xs.map z1b) u, .sl (ys.map z1b) v] (.bool (decide (xs=ys))):=
 u8c rfl g4b (fun _=>rfl) (fun _ _=>rfl) (fun x y h=>by
  obtain⟨a,b⟩:=x
  obtain⟨c,d⟩:=y
  by_cases h1:a=c <;> by_cases h2:b=d <;> simp[z1b,nat,z7d,z4q,AV.eqv,eqL,AV.eq1,h1,h2,Int.ofNat_inj]) (fun _=>rfl) hl hl2
theorem u9e {xs ys:Term} {u v:Tip} (hl:xs.length≤2 ^ 20) (hl2:ys.length≤2 ^ 20):Pure Gam 205 [.sl (xs.map eNode) u, .sl (ys.map eNode) v] (.bool (decide (xs=ys))):=
 u8c rfl g4c (fun _=>rfl) (fun _ _=>rfl) (fun x y h=>by
  obtain⟨a,b,c,d,e⟩:=x
  obtain⟨a',b',c',d',e'⟩:=y
  by_cases h1:a=a' <;> by_cases h2:b=b' <;> by_cases h3:c=c' <;> by_cases h4:d=d' <;> by_cases h5:e=e' <;> simp[eNode,nat,z7d,z4q,AV.eqv,eqL,AV.eq1,h1,h2,h3,h4,h5,Int.ofNat_inj]) (fun _=>rfl) hl hl2
end
end Go.Proofs.YtahdahokpjigiaaGreatDoor.Am
