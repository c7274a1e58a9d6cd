/- Walking: the reference checks a system Walking: the reference of slicing looks names up Walking: the reference's derivable predicates Walking: the reference's needed predicates Walking: terms are equa -/
import Derived.Test.YtkollgjffkdliaaGreatDoorM33
set_option linter.all false
namespace Go.Proofs.YtkollgjffkdliaaGreatDoor.Am
open Go
set_option maxRecDepth 100000
def q6i (h:List AObj) (n esz:Nat) (x ix:AV):Option (AV×List AObj):=match ix with
 | .int _ i=>if 0≤i then match x with
   | .ptr s g k o=>if i.toNat < n then some (.ptr s g k (o + i.toNat * esz),h) else none
   | .iptr cs o=>if i.toNat < n then some (.iptr cs (o + i.toNat * esz),h) else none
   | _=>none
   else none
 | _=>none
theorem w5e {h:List AObj} {base g n esz:Nat} {ts:Tmps} {x ix:AOpd}:prim h base g ts (.indexAddr (some n) esz x ix)=q6i h n esz (x.ev ts) (ix.ev ts):=by
 simp only[prim,q6i]
 cases ix.ev ts <;> try rfl
 cases x.ev ts <;> rfl
theorem w5f {B n esz g clk:Nat} {ts:Tmps} {h:List AObj} {x ix:AOpd} {dst:Option Nat} {os:List AOper} {ks:List Kf} {Q:Post}:O Gam B .plain g (⟨dst,(.indexAddr (some n) esz x ix),none⟩::os) ⟨ts,h,clk⟩ ks Q=PP Gam B (q6i h n esz (x.ev ts) (ix.ev ts)) dst g os ts clk ks Q:=by rw[q4d rfl,w5e]
attribute [go_sem] w5f
theorem w5g {f:Func} (hf:f∈allPreds):Pure Gam 222 [z0y f] (.bool true):=by
 refine Pure.tab (tab:=k0u) rfl rfl ?_
 simp only[allPreds,List.mem_cons,List.not_mem_nil,or_false] at hf
 rcases hf with rfl | rfl | rfl | rfl | rfl | rfl <;> rfl
theorem SysV.pl {s:Sys} (hs:SysV s):s.preds.length≤6:=by have:=hs.preds.length_le;simpa [allPreds] using this
theorem w5h {s:Sys} (hs:SysV s):Pure Gam 146 [z2a s] (.bool true):=by
 have hpl:=hs.pl
 refine Pure.of rfl u3q rfl rfl rfl (az:=[z2a s]) rfl (by simp[idsL,z2v]) fun D B clk T hB hT=> ?_
 simp only[go_sem,y4q,hB,z2a]
 refine z1f (fun m q=>∃ (i g0:Nat),i≤s.preds.length∧m=s.preds.length - i∧q.ts 1= .ptr (B + 0) g0 0 0∧q.ts 3= .int .i64 (i:Int)∧q.h=D++[.blk g0 [.agg [.sl (s.preds.map z0y) .no, .sl (s.clauses.map z0h) .no]] false false 0]) s.preds.length ⟨0,_,by omega,rfl,rfl,rfl,rfl⟩ ?_
 rintro m ⟨ts,h',clk⟩ P ⟨i,g0,hi,rfl,h1,h3,rfl⟩ hnx he hr
 dsimp only at h1 h3
 by_cases hlt:i < s.preds.length
 ·have f1:decide ((i:Int) < (s.preds.length:Int))=true:=by rw[decide_eq_true_iff];omega
  have f2:IntKind.i64.wrap ((i:Int) + 1)=((i + 1:Nat):Int):=z0c (by omega) (by omega)
  have hm:=List.getElem_mem hlt
  have p1:=w5g (hs.preds.mem hm)
  have hres:∀ f∈allPreds,f.result=1:=by decide
  have e1:=hres _ (hs.preds.mem hm)
  have p2:=q8l (s:=s) (nm:=s.preds[i].name) (by omega)
  rw[q5b hlt rfl fun p hpm e=>by
   have h3:=hs.pr.nodup
   have h4:((s.preds.take (i + 1)).map (·.name)).Nodup:=h3.sublist ((List.take_sublist _ _).map _)
   rw[List.take_succ_eq_append_getElem hlt,List.map_append,List.nodup_append] at h4
   exact h4.2.2 _ (List.mem_map.2 ⟨p,hpm,rfl⟩) _ (by simp) e] at p2
  simp only[z0y,z2a,nat] at p1 p2
  rw[e1] at p1
  simp only[Int.cast_ofNat_Int] at p1
  simp only[go_sem,j6f,h1,h3,hB,List.length_map,f1,f2,z8o hlt,e1,nat,z0a p1,z0a p2,Int.cast_ofNat_Int,decide_true,Bool.not_true]
  exact hnx (s.preds.length - (i + 1)) _ (by omega) ⟨i + 1,g0,hlt,rfl,h1,rfl,rfl⟩
 ·have f1:decide ((i:Int) < (s.preds.length:Int))=false:=by rw[decide_eq_false_iff_not];omega
  simp only[go_sem,j6f,h1,h3,hB,List.length_map,f1]
  refine he _ _ ?_
  simp only[go_sem,]
  rw[z0e]
  exact hT _
theorem y7m {s:Sys} (hs:SysV s):Pure Gam 82 [z2a s] (.sl [] .no):=by
 have hpl:=hs.pl
 have hcl:=hs.len
 have p0:=w5h hs
 simp only[z2a] at p0
 refine Pure.of rfl g2h rfl rfl rfl (az:=[z2a s]) rfl (by simp[idsL,z2v]) fun D B clk T hB hT=> ?_
 have ea1:∀ (h:List AObj) (g:Nat),q6i h 7 1 (.ptr (B + 6) g 0 0) (.int .i64 1)=some (.ptr (B + 6) g 0 1,h):=fun _ _=>rfl
 have ea2:∀ (h:List AObj) (g:Nat),q6i h 7 1 (.ptr (B + 6) g 0 0) (.int .i64 2)=some (.ptr (B + 6) g 0 2,h):=fun _ _=>rfl
 have ea3:∀ (h:List AObj) (g:Nat),q6i h 7 1 (.ptr (B + 6) g 0 0) (.int .i64 3)=some (.ptr (B + 6) g 0 3,h):=fun _ _=>rfl
 have ea4:∀ (h:List AObj) (g:Nat),q6i h 7 1 (.ptr (B + 6) g 0 0) (.int .i64 4)=some (.ptr (B + 6) g 0 4,h):=fun _ _=>rfl
 have ea5:∀ (h:List AObj) (g:Nat),q6i h 7 1 (.ptr (B + 6) g 0 0) (.int .i64 5)=some (.ptr (B + 6) g 0 5,h):=fun _ _=>rfl
 have ea6:∀ (h:List AObj) (g:Nat),q6i h 7 1 (.ptr (B + 6) g 0 0) (.int .i64 6)=some (.ptr (B + 6) g 0 6,h):=fun _ _=>rfl
 have f0:decide ((512:Int) < (s.preds.length:Int))=false:=by rw[decide_eq_false_iff_not];omega
 have f00:decide ((2048:Int) < (s.clauses.length:Int))=false:=by rw[decide_eq_false_iff_not];omega
 simp only[go_sem,u8j,hB,z2a,z0a p0,Bool.not_true,List.length_map,f0,f00]
 refine z1f (fun m q=>∃ (i g0:Nat) (o1 o2 o3 o4 o5 o6 o7 o8:AObj),i≤s.clauses.length∧m=s.clauses.length - i∧q.ts 1= .ptr (B + 0) g0 0 0∧q.ts 3= .sl [] .nil∧q.ts 4= .int .i64 (i:Int)∧q.h=D++[.blk g0 [.agg [.sl (s.preds.map z0y) .no, .sl (s.clauses.map z0h) .no]] false false 0,o1,o2,o3,o4,o5,o6,o7,o8]) s.clauses.length ⟨0,_,_,_,_,_,_,_,_,_,by omega,rfl,rfl,rfl,rfl,rfl⟩ ?_
 rintro m ⟨ts,h',clk⟩ P ⟨i,g0,o1,o2,o3,o4,o5,o6,o7,o8,hi,rfl,h1,h3,h4,rfl⟩ hnx he hr
 dsimp only at h1 h3 h4
 by_cases hlt:i < s.clauses.length
 ·have f1:decide ((i:Int) < (s.clauses.length:Int))=true:=by rw[decide_eq_true_iff];omega
  have f2:IntKind.i64.wrap ((i:Int) + 1)=((i + 1:Nat):Int):=z0c (by omega) (by omega)
  have hc:=hs.clauses _ (List.getElem_mem hlt)
  have hix:∀ h,z1p h 5 (.sl (s.clauses.map z0h) .no) (.int .i64 (i:Int))=some (.iptr [.sl (s.clauses[i].vars.map z1h) .no, .sl (s.clauses[i].body.map z3u) .no,z0n s.clauses[i].guard, .str s.clauses[i].head.pred, .sl (s.clauses[i].head.args.map z0n) .no] 0,h):=fun h=>z2d hlt rfl rfl
  generalize s.clauses[i]=c at hc hix
  obtain⟨hv,hb,hbo,hg,hh⟩:=hc
  have hvl:=x1z hv
  have hvm:∀ v∈c.vars,v∈z1z:=fun v h=>hv.mem h
  have p1:=w5d hs hv
  have p2:=j4c hvm (by omega) (by have:=hg.2.1;omega) (by decide) hg.1 (by decide)
  simp only[z2a,nat,z0n,Int.cast_ofNat_Int] at p1 p2
  have p3:∀ a,AppOk s.preds c.vars a→Pure Gam 148 [.agg [.sl (s.preds.map z0y) .no, .sl (s.clauses.map z0h) .no], .agg [.sl (c.vars.map z1h) .no, .sl (c.body.map z3u) .no, .sl (c.guard.map eNode) .no, .str c.head.pred, .sl (c.head.args.map z0n) .no], .agg [.str a.pred, .sl (a.args.map z0n) .no]] (.bool true):=fun a ha=>w5c hs hvm (by omega) ha
  simp only[go_sem,v0r,h1,h3,h4,hB,List.length_map,f1,hix,z0n,z0a p1,Bool.not_true,ea2]
  refine z1f (fun m q=>∃ (j g5 g6:Nat),j≤c.body.length∧m=c.body.length - j∧q.ts 1= .ptr (B + 0) g0 0 0∧q.ts 3= .sl [] .nil∧q.ts 4= .int .i64 (i:Int)∧q.ts 5= .ptr (B + 5) g5 0 0∧q.ts 6= .ptr (B + 6) g6 0 0∧q.ts 7= .int .i64 (j:Int)∧q.h=D++[.blk g0 [.agg [.sl (s.preds.map z0y) .no, .sl (s.clauses.map z0h) .no]] false false 0,o1,o2,o3,o4, .blk g5 [.agg [.sl (c.vars.map z1h) .no, .sl (c.body.map z3u) .no, .sl (c.guard.map eNode) .no, .str c.head.pred, .sl (c.head.args.map z0n) .no]] false false 0, .blk g6 [.agg [.bool false, .bool false, .bool false, .bool false, .bool false, .bool false, .bool false]] false false 0,o7,o8]) c.body.length ⟨0,_,_,by omega,rfl,h1,h3,h4,rfl,rfl,rfl,rfl⟩ ?_
  clear h1 h3 h4
  rintro m ⟨ts,h',clk⟩ P2 ⟨j,g5,g6,hj,rfl,h1,h3,h4,h5,h6,h7,rfl⟩ hnx2 he2 hr2
  dsimp only at h1 h3 h4 h5 h6 h7
  by_cases hltj:j < c.body.length
  ·have e1:decide ((j:Int) < (c.body.length:Int))=true:=by rw[decide_eq_true_iff];omega
   have e2:IntKind.i64.wrap ((j:Int) + 1)=((j + 1:Nat):Int):=z0c (by omega) (by omega)
   have hja:∀ h,z1p h 2 (.sl (c.body.map z3u) .no) (.int .i64 (j:Int))=some (.iptr [.str c.body[j].pred, .sl (c.body[j].args.map z0n) .no] 0,h):=fun h=>z2d hltj rfl rfl
   have p4:=p3 _ (hbo _ (List.getElem_mem hltj))
   simp only[go_sem,k4m,h1,h3,h4,h5,h6,h7,hB,List.length_map,e1,ea3,hja,z0a p4,Bool.not_true,e2]
   exact hnx2 (c.body.length - (j + 1)) _ (by omega) ⟨j + 1,g5,g6,hltj,rfl,h1,h3,h4,h5,h6,rfl,rfl⟩
  ·have e1:decide ((j:Int) < (c.body.length:Int))=false:=by rw[decide_eq_false_iff_not];omega
   simp only[go_sem,k4m,h1,h3,h4,h5,h6,h7,hB,List.length_map,e1]
   refine he2 _ _ ?_
   have g1:decide ((400:Int) < (c.vars.length:Int))=false:=by rw[decide_eq_false_iff_not];omega
   have g2:decide ((8:Int) < (c.body.length:Int))=false:=by rw[decide_eq_false_iff_not];omega
   have last:∀ (ts:Tmps) (clk:Nat),ts 1= .ptr (B + 0) g0 0 0→ts 3= .sl [] .nil→ts 4= .int .i64 (i:Int)→ts 6= .ptr (B + 6) g6 0 0→ts 8= .int .i64 1→K Gam B (.loop q8t) [.block 4, .block 1, .seq (.region 3 [⟨some 35, .move (.tmp 4),none⟩,⟨some 36, .binOp .add (.one .int) (.tmp 35) (.const (.int .i64 1)),none⟩,⟨some 4, .move (.tmp 36),none⟩] [])] ⟨ts,D++[.blk g0 [.agg [.sl (s.preds.map z0y) .no, .sl (s.clauses.map z0h) .no]] false false 0,o1,o2,o3,o4, .blk g5 [.agg [.sl (c.vars.map z1h) .no, .sl (c.body.map z3u) .no, .sl (c.guard.map eNode) .no, .str c.head.pred, .sl (c.head.args.map z0n) .no]] false false 0, .blk g6 [.agg [.bool false, .bool false, .bool false, .bool false, .bool false, .bool false, .bool false]] false false 0,o7,o8],clk⟩ P:=by
    clear h1 h3 h4 h5 h6
    intro ts clk h1 h3 h4 h6 h8
    refine z1f (fun m q=>∃ k:Nat,1≤k∧k≤7∧m=7 - k∧q.ts 1= .ptr (B + 0) g0 0 0∧q.ts 3= .sl [] .nil∧q.ts 4= .int .i64 (i:Int)∧q.ts 6= .ptr (B + 6) g6 0 0∧q.ts 8= .int .i64 (k:Int)∧q.h=D++[.blk g0 [.agg [.sl (s.preds.map z0y) .no, .sl (s.clauses.map z0h) .no]] false false 0,o1,o2,o3,o4, .blk g5 [.agg [.sl (c.vars.map z1h) .no, .sl (c.body.map z3u) .no, .sl (c.guard.map eNode) .no, .str c.head.pred, .sl (c.head.args.map z0n) .no]] false false 0, .blk g6 [.agg [.bool false, .bool false, .bool false, .bool false, .bool false, .bool false, .bool false]] false false 0,o7,o8]) 6 ⟨1,by omega,by omega,rfl,h1,h3,h4,h6,h8,rfl⟩ ?_
    clear h1 h3 h4 h6 h8
    rintro m ⟨ts,h',clk⟩ P3 ⟨k,hk1,hk7,rfl,h1,h3,h4,h6,h8,rfl⟩ hnx3 he3 hr3
    dsimp only at h1 h3 h4 h6 h8
    have step:∀ k:Nat,IntKind.i64.wrap ((k:Int) + 1)=((k + 1:Nat):Int)∨7 < k:=fun k=>by
     by_cases hk:k≤7
     ·exact .inl (z0c (by omega) (by omega))
     ·exact .inr (by omega)
    have hw:=(step k).resolve_right (by omega)
    by_cases hk:k < 7
    ·have e1:decide ((k:Int) < 7)=true:=by rw[decide_eq_true_iff];omega
     have hcase:k=1∨k=2∨k=3∨k=4∨k=5∨k=6:=by omega
     rcases hcase with rfl | rfl | rfl | rfl | rfl | rfl
     ·simp only[Int.cast_ofNat_Int] at h8 hw e1
      simp only[go_sem,q8t,h1,h3,h4,h6,h8,hB,e1,ea1,hw]
      exact hnx3 (7 - 2) _ (by omega) ⟨2,by omega,by omega,rfl,h1,h3,h4,h6,rfl,rfl⟩
     ·simp only[Int.cast_ofNat_Int] at h8 hw e1
      simp only[go_sem,q8t,h1,h3,h4,h6,h8,hB,e1,ea2,hw]
      exact hnx3 (7 - 3) _ (by omega) ⟨3,by omega,by omega,rfl,h1,h3,h4,h6,rfl,rfl⟩
     ·simp only[Int.cast_ofNat_Int] at h8 hw e1
      simp only[go_sem,q8t,h1,h3,h4,h6,h8,hB,e1,ea3,hw]
      exact hnx3 (7 - 4) _ (by omega) ⟨4,by omega,by omega,rfl,h1,h3,h4,h6,rfl,rfl⟩
     ·simp only[Int.cast_ofNat_Int] at h8 hw e1
      simp only[go_sem,q8t,h1,h3,h4,h6,h8,hB,e1,ea4,hw]
      exact hnx3 (7 - 5) _ (by omega) ⟨5,by omega,by omega,rfl,h1,h3,h4,h6,rfl,rfl⟩
     ·simp only[Int.cast_ofNat_Int] at h8 hw e1
      simp only[go_sem,q8t,h1,h3,h4,h6,h8,hB,e1,ea5,hw]
      exact hnx3 (7 - 6) _ (by omega) ⟨6,by omega,by omega,rfl,h1,h3,h4,h6,rfl,rfl⟩
     ·simp only[Int.cast_ofNat_Int] at h8 hw e1
      simp only[go_sem,q8t,h1,h3,h4,h6,h8,hB,e1,ea6,hw]
      exact hnx3 (7 - 7) _ (by omega) ⟨7,by omega,by omega,rfl,h1,h3,h4,h6,rfl,rfl⟩
    ·have e1:decide ((k:Int) < 7)=false:=by rw[decide_eq_false_iff_not];omega
     simp only[go_sem,q8t,h1,h3,h4,h6,h8,hB,e1]
     refine he3 _ _ ?_
     simp only[go_sem,h1,h3,h4,f2]
     exact hnx (s.clauses.length - (i + 1)) _ (by omega) ⟨i + 1,g0,_,_,_,_,_,_,_,_,hlt,rfl,h1,h3,rfl,rfl⟩
   rcases hh with ⟨hp,hargs⟩ | ha
   ·have g3:decide (c.head.pred=[])=true:=by simp[hp]
    simp only[hargs,List.map_nil] at last
    simp only[go_sem,h1,h3,h4,h5,h6,hB,z0a p2,Bool.not_true,Bool.not_false,ea4,ea5,ea6,g1,g2,g3,hargs,List.map_nil,decide_false,Int.lt_irrefl,List.length_map]
    exact last _ _ h1 h3 h4 h6 rfl
   ·obtain⟨f,hf,hpn,hfr⟩:=id ha
    have g3:decide (c.head.pred=[])=false:=by simp[hpn,hs.pr.name f hf]
    have p5:=p3 _ ha
    simp only[go_sem,h1,h3,h4,h5,h6,hB,z0a p2,Bool.not_true,Bool.not_false,ea4,ea5,ea6,g3,g1,g2,z0a p5,List.length_map]
    exact last _ _ h1 h3 h4 h6 rfl
 ·have f1:decide ((i:Int) < (s.clauses.length:Int))=false:=by rw[decide_eq_false_iff_not];omega
  simp only[go_sem,v0r,h1,h3,h4,hB,List.length_map,f1]
  refine he _ _ ?_
  simp only[go_sem,h3]
  rw[z0g rfl rfl]
  exact hT _
theorem v7n {s:Sys} (hs:SysV s):Pure Gam 35 [z2a s] (.bool true):=by
 have p0:=y7m hs
 simp only[z2a] at p0
 refine Pure.of rfl g2g rfl rfl rfl (az:=[z2a s]) rfl (by simp[idsL,z2v]) fun D B clk T hB hT=> ?_
 simp only[go_sem,u8i,hB,z2a,z0a p0,decide_true]
 rw[z0e]
 exact hT _
theorem q0c {l:List (List Nat)} {i:Nat} {h:List AObj} {t:Tip} {k:IntKind} (hi:i < l.length):z1p h 1 (.sl (z1n l) t) (.int k (i:Int))=some (.iptr [.str l[i]] 0,h):=z2d hi rfl rfl
def z1c (ps:List Func) (L:List (List Nat)):List AV:=ps.map fun p=> .bool (decide (p.name∈L))
theorem q3f {ps:List Func} {L:List (List Nat)}:idsL (z1c ps L)=[]:=z0d fun _=>rfl
theorem x2a {ps:List Func} {L:List (List Nat)} {i:Nat} {h:List AObj} {t:Tip} {k:IntKind} (hi:i < ps.length):z1p h 1 (.sl (z1c ps L) t) (.int k (i:Int))=some (.iptr [.bool (decide (ps[i].name∈L))] 0,h):=z2d hi rfl rfl
theorem v7o {s:Sys} {c:Clause} {L:List (List Nat)} {u:Tip} (hs:SysV s) (hb:c.body.length≤1000) (hbo:∀ a∈c.body,AppOk s.preds c.vars a):Pure Gam 150 [z2a s, .sl (z1c s.preds L) u,z0h c] (.bool (c.body.all fun a=>decide (a.pred∈L))):=by
 have hpl:=hs.pl
 refine Pure.of rfl u9v rfl rfl rfl (az:=[z2a s, .sl (z1c s.preds L) .no,z0h c]) rfl (by simp[idsL,AV.ids,z2v,q3f,z4k]) fun D B clk T hB hT=> ?_
 simp only[go_sem,u9u,hB,z2a,z0h,z0n]
 refine z1f (fun m q=>∃ (i g0 g1:Nat),i≤c.body.length∧m=c.body.length - i∧(∀ a∈c.body.take i,a.pred∈L)∧q.ts 1= .sl (z1c s.preds L) .no∧q.ts 3= .ptr (B + 0) g0 0 0∧q.ts 5= .ptr (B + 1) g1 0 0∧q.ts 7= .int .i64 (i:Int)∧q.h=D++[.blk g0 [.agg [.sl (s.preds.map z0y) .no, .sl (s.clauses.map z0h) .no]] false false 0, .blk g1 [.agg [.sl (c.vars.map z1h) .no, .sl (c.body.map z3u) .no, .sl (c.guard.map eNode) .no, .str c.head.pred, .sl (c.head.args.map z0n) .no]] false false 0]) c.body.length ⟨0,_,_,by omega,rfl,by simp,rfl,rfl,rfl,rfl,rfl⟩ ?_
 rintro m ⟨ts,h',clk⟩ P ⟨i,g0,g1,hi,rfl,hno,h1,h3,h5,h7,rfl⟩ hnx he hr
 dsimp only at h1 h3 h5 h7
 by_cases hlt:i < c.body.length
 ·have f1:decide ((i:Int) < (c.body.length:Int))=true:=by rw[decide_eq_true_iff];omega
  have f2:IntKind.i64.wrap ((i:Int) + 1)=((i + 1:Nat):Int):=z0c (by omega) (by omega)
  have hja:∀ h,z1p h 2 (.sl (c.body.map z3u) .no) (.int .i64 (i:Int))=some (.iptr [.str c.body[i].pred, .sl (c.body[i].args.map z0n) .no] 0,h):=fun h=>z2d hlt rfl rfl
  obtain⟨f,hf,hpn,_⟩:=hbo _ (List.getElem_mem hlt)
  obtain⟨k,hk,hkf,hpa⟩:=q1f hs.pr hf
  have p1:=q8l (s:=s) (nm:=c.body[i].pred) (by omega)
  rw[hpn,hpa] at p1
  simp only[z2a] at p1
  have e3:∀ h,z1p h 1 (.sl (z1c s.preds L) .no) (.int .i64 (k:Int))=some (.iptr [.bool (decide (c.body[i].pred∈L))] 0,h):=fun h=>by rw[x2a hk,hkf,hpn]
  by_cases hin:c.body[i].pred∈L
  ·have e2:decide (c.body[i].pred∈L)=true:=by simp[hin]
   rw[e2] at e3
   simp only[go_sem,k6c,h1,h3,h5,h7,hB,List.length_map,f1,f2,hja,hpn,z0a p1,e3,Bool.not_true]
   refine hnx (c.body.length - (i + 1)) _ (by omega) ⟨i + 1,g0,g1,hlt,rfl,fun a ha=> ?_,h1,h3,h5,rfl,rfl⟩
   rw[List.take_succ_eq_append_getElem hlt] at ha
   rcases List.mem_append.1 ha with ha | ha
   ·exact hno a ha
   ·rw[List.mem_singleton.1 ha];exact hin
  ·have e2:decide (c.body[i].pred∈L)=false:=by simp[hin]
   rw[e2] at e3
   simp only[go_sem,k6c,h1,h3,h5,h7,hB,List.length_map,f1,hja,hpn,z0a p1,e3,Bool.not_false]
   refine hr _ ?_
   rw[show (c.body.all fun a=>decide (a.pred∈L))=false from by
    rw[List.all_eq_false]
    exact⟨_,List.getElem_mem hlt,by simp[hin]⟩] at hT
   simp only[go_sem,]
   rw[z0e]
   exact hT _
 ·have f1:decide ((i:Int) < (c.body.length:Int))=false:=by rw[decide_eq_false_iff_not];omega
  rw[List.take_of_length_le (by omega)] at hno
  simp only[go_sem,k6c,h1,h3,h5,h7,hB,List.length_map,f1]
  refine he _ _ ?_
  rw[show (c.body.all fun a=>decide (a.pred∈L))=true from List.all_eq_true.2 fun a ha=>by simp[hno a ha]] at hT
  simp only[go_sem,]
  rw[z0e]
  exact hT _
theorem x4z {D L:List AObj} {B k g i:Nat} {es:List AV} {w:Bool} {b b':Bool} (hB:D.length=B) (hL:L[k]? =some (.blk g es true w 0)) (hi:es[i]? =some (.bool b')):z9z (D++L) 1 (.bool b) (.ptr (B + k) g i 0)=some (.undef,D++L.set k (.blk g (es.set i (.bool b)) true w 0)):=by
 have hb:z2g (D++L) (B + k) g=some (es,true,w,0):=by rw[z7b hB];exact z5m hL
 rw[q0s,hb]
 have hp:pub (D++L) (.bool b)=some (.bool b,D++L):=rfl
 simp only[hi,if_true,hp,j5i,x4b,List.length_singleton,List.all_cons,List.all_nil,x5w,Bool.and_self,true_and,Nat.zero_le,j5q,List.map_nil,List.contains_nil,Bool.not_false,and_self,implies_true,q0k,Nat.zero_add,Nat.le_refl,List.take_zero,List.nil_append,List.drop_succ_cons,List.drop_nil,List.append_nil,Option.map_some,x0r,z9c,z5l hB]
theorem q1g {ps:List Func} {L:List (List Nat)} {k:Nat} (hk:k < ps.length):(z1c ps L)[k]? =some (.bool (decide (ps[k].name∈L))):=by
 simp[z1c,hk]
theorem j0v {ps:List Func} {L:List (List Nat)} {k:Nat} (hn:(ps.map (·.name)).Nodup) (hk:k < ps.length):(z1c ps L).set k (.bool true)=z1c ps (L++[ps[k].name]):=by
 apply List.ext_getElem?
 intro j
 rw[List.getElem?_set]
 by_cases hj:j < ps.length
 ·rw[q1g hj]
  by_cases hkj:k=j
  ·subst hkj
   rw[if_pos rfl,if_pos (by simpa [z1c] using hk),q1g hj,decide_eq_true (by simp)]
  ·rw[if_neg hkj,q1g hj]
   have hne:ps[j].name≠ps[k].name:=fun e=>hkj ((List.getElem_inj (xs:=ps.map (·.name)) (i:=k) (j:=j) (h₀:=by simpa using hk) (h₁:=by simpa using hj) hn).1 (by simpa using e.symm))
   simp[hne]
 ·have h1:(z1c ps (L++[ps[k].name]))[j]? =none:=by simp[z1c];omega
  have h2:(z1c ps L)[j]? =none:=by simp[z1c];omega
  rw[h1,if_neg (by omega),h2]
theorem k6h {s:Sys} {B clk g0 g:Nat} {D:List AObj} {l:List (List Nat)} {ts:Tmps} {ks:List Kf} {Q:Post} (hs:SysV s) (hB:D.length=B) (hD:∀ a∈l,Der s.clauses a) (h1:ts 1= .ptr (B + 0) g0 0 0) (h3:ts 3= .ob (B + 1) g 0 s.preds.length) (h4:ts 4= .bool false) (h5:ts 5= .int .i64 0)
  (hQ:∀ (ts':Tmps) (l':List (List Nat)) (b:Bool) (clk':Nat),(∀ a∈l',Der s.clauses a)→(b=true→q7h s.clauses l' < q7h s.clauses l)→(b=false→l'=l∧∀ c∈s.clauses,x1w c l)→ts' 1= .ptr (B + 0) g0 0 0→ts' 3= .ob (B + 1) g 0 s.preds.length→ts' 4= .bool b→K Gam B (.exit 2) ks ⟨ts',D++[.blk g0 [.agg [.sl (s.preds.map z0y) .no, .sl (s.clauses.map z0h) .no]] false false 0, .blk g (z1c s.preds l') true false 0],clk'⟩ Q):
  K Gam B (.loop j0r) ks ⟨ts,D++[.blk g0 [.agg [.sl (s.preds.map z0y) .no, .sl (s.clauses.map z0h) .no]] false false 0, .blk g (z1c s.preds l) true false 0],clk⟩ Q:=by
 have hcl:=hs.len
 have hpl:=hs.pl
 refine z1f (fun m q=>∃ (i:Nat) (l':List (List Nat)) (b:Bool),i≤s.clauses.length∧m=s.clauses.length - i∧(∀ a∈l',Der s.clauses a)∧(b=true→q7h s.clauses l' < q7h s.clauses l)∧(b=false→l'=l∧∀ c∈s.clauses.take i,x1w c l)∧q.ts 1= .ptr (B + 0) g0 0 0∧q.ts 3= .ob (B + 1) g 0 s.preds.length∧q.ts 4= .bool b∧q.ts 5= .int .i64 (i:Int)∧q.h=D++[.blk g0 [.agg [.sl (s.preds.map z0y) .no, .sl (s.clauses.map z0h) .no]] false false 0, .blk g (z1c s.preds l') true false 0]) s.clauses.length ⟨0,l,false,by omega,rfl,hD,by simp,fun _=>⟨rfl,by simp⟩,h1,h3,h4,h5,rfl⟩ ?_
 clear h1 h3 h4 h5
 rintro m ⟨ts,h,clk⟩ P ⟨i,l',b,hi,rfl,hD',hb1,hb2,q1,q3,q4,q5,rfl⟩ hnx he hr
 dsimp only at q1 q3 q4 q5
 by_cases hlt:i < s.clauses.length
 ·have f1:decide ((i:Int) < (s.clauses.length:Int))=true:=by rw[decide_eq_true_iff];omega
  have f2:IntKind.i64.wrap ((i:Int) + 1)=((i + 1:Nat):Int):=z0c (by omega) (by omega)
  have hmem:=List.getElem_mem hlt
  have htake:s.clauses.take (i + 1)=s.clauses.take i++[s.clauses[i]]:=List.take_succ_eq_append_getElem hlt
  have hix:=fun h=>q3w (l:=s.clauses) (i:=i) (h:=h) (t:= .no) (k:= .i64) hlt
  have hcok:=hs.clauses _ hmem
  generalize s.clauses[i]=c at hmem htake hix hcok
  obtain⟨hv,hbl,hbo,hg,hh⟩:=hcok
  have same:x1w c l'→∀ (ts':Tmps) (clk':Nat),ts' 1= .ptr (B + 0) g0 0 0→ts' 3= .ob (B + 1) g 0 s.preds.length→ts' 4= .bool b→ts' 5= .int .i64 ((i + 1:Nat):Int)→P .norm ⟨ts',D++[.blk g0 [.agg [.sl (s.preds.map z0y) .no, .sl (s.clauses.map z0h) .no]] false false 0, .blk g (z1c s.preds l') true false 0],clk'⟩:=by
   intro hc ts' clk' r1 r3 r4 r5
   refine hnx (s.clauses.length - (i + 1)) _ (by omega) ⟨i + 1,l',b,hlt,rfl,hD',hb1,fun hbf=> ?_,r1,r3,r4,r5,rfl⟩
   obtain⟨e1,e2⟩:=hb2 hbf
   refine⟨e1,fun d hd=> ?_⟩
   rw[htake,List.mem_append,List.mem_singleton] at hd
   rcases hd with hd | rfl
   ·exact e2 d hd
   ·rw[←e1];exact hc
  have p1:=q8l (s:=s) (nm:=c.head.pred) (by omega)
  simp only[z2a] at p1
  rcases hh with ⟨hh,_⟩ | ha
  ·rw[hh,q1y fun p hp=>hs.pr.name p hp] at p1
   simp only[go_sem,j0r,q1,q3,q4,q5,hB,List.length_map,f1,hix,hh,z0a p1,Int.reduceLE,Int.reduceNeg,decide_false,f2]
   exact same (fun h=>absurd hh h) _ _ q1 q3 q4 rfl
  ·obtain⟨f,hf,hpn,_⟩:=ha
   have hne:c.head.pred≠[]:=by rw[hpn];exact hs.pr.name f hf
   obtain⟨k,hk,hkf,hpa⟩:=q1f hs.pr hf
   rw[hpn,hpa] at p1
   have g1:decide ((0:Int)≤(k:Int))=true:=by rw[decide_eq_true_iff];omega
   have hget:(z1c s.preds l')[k]? =some (.bool (decide (c.head.pred∈l'))):=by rw[q1g hk,hkf,hpn]
   have hidx:=q0h (K:= .i64) (D:=D) (B:=B) (k:=1) (g:=g) (w:=false) (L:=[.blk g0 [.agg [.sl (s.preds.map z0y) .no, .sl (s.clauses.map z0h) .no]] false false 0, .blk g (z1c s.preds l') true false 0]) hB rfl hget rfl hk
   by_cases hin:c.head.pred∈l'
   ·rw[decide_eq_true hin] at hget
    simp only[go_sem,j0r,q1,q3,q4,q5,hB,List.length_map,f1,hix,hpn,z0a p1,g1,hidx,hget,Bool.not_true,f2]
    exact same (fun _ _=>hin) _ _ q1 q3 q4 rfl
   ·rw[decide_eq_false hin] at hget
    simp only[go_sem,j0r,q1,q3,q4,q5,hB,List.length_map,f1,hix,hpn,z0a p1,g1,hidx,hget,Bool.not_false]
    have p2:=v7o (L:=l') (u:= .no) hs (by omega) hbo
    have e0:Pure Gam 150 [.agg [.sl (s.preds.map z0y) .no, .sl (s.clauses.map z0h) .no], .sl (z1c s.preds l') .no, .agg [.sl (c.vars.map z1h) .no, .sl (c.body.map z3u) .no, .sl (c.guard.map eNode) .no, .str f.name, .sl (c.head.args.map z0n) .no]] (.bool (z2j c.body l')):=by
     rw[←hpn]
     exact p2
    have hpass:z1v (D++[.blk g0 [.agg [.sl (s.preds.map z0y) .no, .sl (s.clauses.map z0h) .no]] false false 0, .blk g (z1c s.preds l') true false 0]) [] 0 [.agg [.sl (s.preds.map z0y) .no, .sl (s.clauses.map z0h) .no], .ob (B + 1) g 0 s.preds.length, .agg [.sl (c.vars.map z1h) .no, .sl (c.body.map z3u) .no, .sl (c.guard.map eNode) .no, .str f.name, .sl (c.head.args.map z0n) .no]]=some [.agg [.sl (s.preds.map z0y) .no, .sl (s.clauses.map z0h) .no], .sl (z1c s.preds l') .no, .agg [.sl (c.vars.map z1h) .no, .sl (c.body.map z3u) .no, .sl (c.guard.map eNode) .no, .str f.name, .sl (c.head.args.map z0n) .no]]:=by
     have:=z9g (L:=[.blk g0 [.agg [.sl (s.preds.map z0y) .no, .sl (s.clauses.map z0h) .no]] false false 0, .blk g (z1c s.preds l') true false 0]) (k:=1) (g:=g) (w:=false) (len:=s.preds.length) hB rfl (by simp[z1c])
     simp only[z5s] at this
     simp only[z1v,List.contains_nil,Bool.false_eq_true,if_false,conv,q0j,this,Option.map_some]
    have hids:idsL [.agg [.sl (s.preds.map z0y) .no, .sl (s.clauses.map z0h) .no], .sl (z1c s.preds l') .no, .agg [.sl (c.vars.map z1h) .no, .sl (c.body.map z3u) .no, .sl (c.guard.map eNode) .no, .str f.name, .sl (c.head.args.map z0n) .no]]=[]:=by
     simp[idsL,AV.ids,q3f,z0d z4i,z0d z4k,z0d z2z,z0d z6d,z0d z2i,z0d z3n]
    rw[k4u e0 rfl u9v rfl rfl hpass rfl rfl hids rfl,if_pos (show (AV.bool (z2j c.body l')).flat=true from rfl)]
    cases hw:z2j c.body l' with
    | false=>
      simp only[go_sem,q1,q3,q4,q5,hB,f2]
      exact same (fun _ h=>by rw[hw] at h;cases h) _ _ q1 q3 q4 rfl
    | true=>
      have hst:=fun (L:List AObj) (hL:L[1]? =some (.blk g (z1c s.preds l') true false 0))=>x4z (D:=D) (B:=B) (b:=true) hB hL hget
      have hset:=j0v (L:=l') hs.pr.nodup hk
      rw[hkf,←hpn] at hset
      rw[hset] at hst
      simp only[go_sem,q1,q3,q4,q5,hB,f2,hidx,hst]
      have hlt2:=w4l hmem hin
      refine hnx (s.clauses.length - (i + 1)) _ (by omega) ⟨i + 1,l'++[c.head.pred],true,hlt,rfl,fun a ha=> ?_,fun _=> ?_,by simp,q1,q3,rfl,rfl,rfl⟩
      ·rw[List.mem_append,List.mem_singleton] at ha
       rcases ha with ha | rfl
       ·exact hD' a ha
       ·exact .of hmem hne fun a ha=>hD' _ (z3z.1 hw a ha)
      ·cases b with
       | true=>have:=hb1 rfl;omega
       | false=>rw[(hb2 rfl).1] at hlt2⊢;exact hlt2
 ·have f1:decide ((i:Int) < (s.clauses.length:Int))=false:=by rw[decide_eq_false_iff_not];omega
  have hti:s.clauses.take i=s.clauses:=List.take_of_length_le (by omega)
  rw[hti] at hb2
  simp only[go_sem,j0r,q1,q3,q4,q5,hB,List.length_map,f1]
  refine he _ _ ?_
  exact hQ _ l' b _ hD' hb1 hb2 (by simp[z0b,q1]) (by simp[z0b,q3]) (by simp[z0b,q4])
theorem q6j {ps:List Func} {l l':List (List Nat)} (h:∀ a,a∈l↔a∈l'):z1c ps l=z1c ps l':=by
 unfold z1c
 apply List.map_congr_left
 intro p _
 simp[h]
theorem y7n {s:Sys} {l0:List (List Nat)} (hs:SysV s) (h0:∀ a,a∈l0↔Der s.clauses a):Pure Gam 83 [z2a s] (.sl (z1c s.preds l0) .no):=by
 have hpl:=hs.pl
 refine Pure.of rfl g2y rfl rfl rfl (az:=[z2a s]) rfl (by simp[idsL,z2v]) fun D B clk T hB hT=> ?_
 have hrep:List.replicate s.preds.length (AV.bool false)=z1c s.preds []:=by
  unfold z1c
  rw[←List.map_const']
  apply List.map_congr_left
  intro p _
  simp
 simp only[go_sem,u9s,hB,z2a,List.length_map,q5x (z:= .bool false) (n:=s.preds.length) (b:=1) rfl (by omega),hrep]
 refine z1f (fun m q=>∃ (l:List (List Nat)) (b:Bool) (g0 g:Nat),m=(if b then q7h s.clauses l + 1 else 0)∧(∀ a∈l,Der s.clauses a)∧(b=false→∀ c∈s.clauses,x1w c l)∧q.ts 1= .ptr (B + 0) g0 0 0∧q.ts 3= .ob (B + 1) g 0 s.preds.length∧q.ts 4= .bool b∧q.h=D++[.blk g0 [.agg [.sl (s.preds.map z0y) .no, .sl (s.clauses.map z0h) .no]] false false 0, .blk g (z1c s.preds l) true false 0]) (q7h s.clauses [] + 1) ⟨[],true,_,_,rfl,by simp,by simp,rfl,rfl,rfl,rfl⟩ ?_
 rintro m ⟨ts,h,clk⟩ P ⟨l,b,g0,g,rfl,hD,hb,q1,q3,q4,rfl⟩ hnx he hr
 dsimp only at q1 q3 q4
 cases b with
 | true=>
   simp only[go_sem,v2m,q1,q3,q4,hB]
   refine k6h hs hB hD q1 q3 rfl rfl fun ts' l' b clk' hD' hb1 hb2 r1 r3 r4=> ?_
   simp only[go_sem,]
   refine hnx (if b then q7h s.clauses l' + 1 else 0) _ ?_ ⟨l',b,g0,g,rfl,hD',fun hbf=> ?_,r1,r3,r4,rfl⟩
   ·cases b with
    | true=>have:=hb1 rfl;simpa using this
    | false=>simp
   ·obtain⟨e1,e2⟩:=hb2 hbf
    rw[e1];exact e2
 | false=>
   simp only[go_sem,v2m,q1,q3,q4,hB]
   refine he _ _ ?_
   simp only[go_sem,q3]
   have hsrc:=z9g (L:=[.blk g0 [.agg [.sl (s.preds.map z0y) .no, .sl (s.clauses.map z0h) .no]] false false 0, .blk g (z1c s.preds l) true false 0]) (k:=1) (g:=g) (w:=false) (len:=s.preds.length) hB rfl (by simp[z1c])
   simp only[z5s] at hsrc
   rw[q6j (l':=l) fun a=>by rw[h0];exact⟨w4j (hb rfl),hD a⟩] at hT
   refine⟨.sl (z1c s.preds l) .no, ?_,by simp[AV.ids,q3f],rfl,hT _⟩
   simp only[z1l,conv,hsrc,Option.map_some]
theorem j4d {b:List App} {l:List (List Nat)} {i:Nat} (hi:i < b.length):z2j (b.take (i + 1)) l=(z2j (b.take i) l && decide (b[i].pred∈l)):=by
 unfold z2j
 rw[List.take_succ_eq_append_getElem hi,List.all_append]
 simp only[List.all_cons,List.all_nil,Bool.and_true]
theorem x5a {s:Sys} {c:Clause} {B clk g0 g g2 i0:Nat} {D:List AObj} {l:List (List Nat)} {x1:AV} {b0:Bool} {ts:Tmps} {ks:List Kf} {Q:Post} (hs:SysV s) (hbl:c.body.length≤1000) (hbo:∀ a∈c.body,AppOk s.preds c.vars a) (hB:D.length=B) (h1:ts 1=x1) (h2:ts 2= .ptr (B + 0) g0 0 0) (h5:ts 5= .ob (B + 1) g 0 s.preds.length) (h6:ts 6= .bool b0) (h7:ts 7= .int .i64 (i0:Int)) (h8:ts 8= .ptr (B + 2) g2 0 0) (h10:ts 10= .int .i64 0)
  (hQ:∀ (ts':Tmps) (clk':Nat),ts' 1=x1→ts' 2= .ptr (B + 0) g0 0 0→ts' 5= .ob (B + 1) g 0 s.preds.length→ts' 6= .bool (b0 || !z2j c.body l)→ts' 7= .int .i64 (i0:Int)→K Gam B (.exit 4) ks ⟨ts',D++[.blk g0 [.agg [.sl (s.preds.map z0y) .no, .sl (s.clauses.map z0h) .no]] false false 0, .blk g (z1c s.preds (z9l l c.body)) true false 0, .blk g2 [.agg [.sl (c.vars.map z1h) .no, .sl (c.body.map z3u) .no, .sl (c.guard.map eNode) .no, .str c.head.pred, .sl (c.head.args.map z0n) .no]] false false 0],clk'⟩ Q):
  K Gam B (.loop j0s) ks ⟨ts,D++[.blk g0 [.agg [.sl (s.preds.map z0y) .no, .sl (s.clauses.map z0h) .no]] false false 0, .blk g (z1c s.preds l) true false 0, .blk g2 [.agg [.sl (c.vars.map z1h) .no, .sl (c.body.map z3u) .no, .sl (c.guard.map eNode) .no, .str c.head.pred, .sl (c.head.args.map z0n) .no]] false false 0],clk⟩ Q:=by
 have hpl:=hs.pl
 refine z1f (fun m q=>∃ (j:Nat),j≤c.body.length∧m=c.body.length - j∧q.ts 1=x1∧q.ts 2= .ptr (B + 0) g0 0 0∧q.ts 5= .ob (B + 1) g 0 s.preds.length∧q.ts 6= .bool (b0 || !z2j (c.body.take j) l)∧q.ts 7= .int .i64 (i0:Int)∧q.ts 8= .ptr (B + 2) g2 0 0∧q.ts 10= .int .i64 (j:Int)∧q.h=D++[.blk g0 [.agg [.sl (s.preds.map z0y) .no, .sl (s.clauses.map z0h) .no]] false false 0, .blk g (z1c s.preds (z9l l (c.body.take j))) true false 0, .blk g2 [.agg [.sl (c.vars.map z1h) .no, .sl (c.body.map z3u) .no, .sl (c.guard.map eNode) .no, .str c.head.pred, .sl (c.head.args.map z0n) .no]] false false 0]) c.body.length ⟨0,by omega,rfl,h1,h2,h5,by show ts 6=_;rw[h6];simp[z2j],h7,h8,h10,rfl⟩ ?_
 clear h1 h2 h5 h6 h7 h8 h10
 rintro m ⟨ts,h,clk⟩ P ⟨j,hj,rfl,q1,q2,q5,q6,q7,q8,q10,rfl⟩ hnx he hr
 dsimp only at q1 q2 q5 q6 q7 q8 q10
 by_cases hlt:j < c.body.length
 ·have f1:decide ((j:Int) < (c.body.length:Int))=true:=by rw[decide_eq_true_iff];omega
  have f2:IntKind.i64.wrap ((j:Int) + 1)=((j + 1:Nat):Int):=z0c (by omega) (by omega)
  have hja:∀ h,z1p h 2 (.sl (c.body.map z3u) .no) (.int .i64 (j:Int))=some (.iptr [.str c.body[j].pred, .sl (c.body[j].args.map z0n) .no] 0,h):=fun h=>z2d hlt rfl rfl
  obtain⟨f,hf,hpn,_⟩:=hbo _ (List.getElem_mem hlt)
  obtain⟨k,hk,hkf,hpa⟩:=q1f hs.pr hf
  have p1:=q8l (s:=s) (nm:=c.body[j].pred) (by omega)
  rw[hpn,hpa] at p1
  simp only[z2a] at p1
  have hta:=j3v (l:=l) hlt
  have hwt:=j4d (l:=l) hlt
  generalize hl':z9l l (c.body.take j)=l' at *
  have hmem:c.body[j].pred∈l'↔c.body[j].pred∈l∨∃ a∈c.body.take j,a.pred=c.body[j].pred:=by rw[←hl',z8v];simp[eq_comm]
  have hget:(z1c s.preds l')[k]? =some (.bool (decide (c.body[j].pred∈l'))):=by rw[q1g hk,hkf,hpn]
  have hidx:=fun L (hL:L[1]? =some (.blk g (z1c s.preds l') true false 0))=>q0h (K:= .i64) (D:=D) (B:=B) (k:=1) (g:=g) (w:=false) (L:=L) hB hL hget rfl hk
  by_cases hin:c.body[j].pred∈l'
  ·rw[decide_eq_true hin] at hget
   simp only[go_sem,j0s,q1,q2,q5,q6,q7,q8,q10,hB,List.length_map,f1,hja,hpn,z0a p1,hidx,hget,Bool.not_true,f2]
   refine hnx (c.body.length - (j + 1)) _ (by omega) ⟨j + 1,hlt,rfl,q1,q2,q5, ?_,q7,q8,rfl, ?_⟩
   ·have e:(b0 || !z2j (c.body.take (j + 1)) l)=(b0 || !z2j (c.body.take j) l):=by
     rw[hwt]
     rcases hmem.1 hin with h | ⟨a,ha,hap⟩
     ·simp[h]
     ·by_cases h:c.body[j].pred∈l
      ·simp[h]
      ·have:z2j (c.body.take j) l=false:=by
        rw[z2j,List.all_eq_false]
        exact⟨a,ha,by simp[hap,h]⟩
       simp[this]
    rw[e]
    exact q6
   ·rw[hta,w4m,if_pos hin]
  ·rw[decide_eq_false hin] at hget
   have hst:=fun (L:List AObj) (hL:L[1]? =some (.blk g (z1c s.preds l') true false 0))=>x4z (D:=D) (B:=B) (b:=true) hB hL hget
   have hset:=j0v (L:=l') hs.pr.nodup hk
   rw[hkf,←hpn] at hset
   rw[hset] at hst
   simp only[go_sem,j0s,q1,q2,q5,q6,q7,q8,q10,hB,List.length_map,f1,hja,hpn,z0a p1,hidx,hget,Bool.not_false,hst,f2]
   have hnl:c.body[j].pred∉l:=fun h=>hin (hmem.2 (.inl h))
   refine hnx (c.body.length - (j + 1)) _ (by omega) ⟨j + 1,hlt,rfl,q1,q2,q5, ?_,q7,q8,rfl, ?_⟩
   ·rw[hwt]
    simp[hnl,z0b]
   ·rw[hta,w4m,if_neg hin,hpn]
 ·have f1:decide ((j:Int) < (c.body.length:Int))=false:=by rw[decide_eq_false_iff_not];omega
  rw[List.take_of_length_le (by omega)] at q6
  rw[List.take_of_length_le (by omega)]
  simp only[go_sem,j0s,q1,q2,q5,q6,q7,q8,q10,hB,List.length_map,f1]
  refine he _ _ ?_
  exact hQ _ _ (by simp[z0b,q1]) (by simp[z0b,q2]) (by simp[z0b,q5]) (by simp[z0b,q6]) (by simp[z0b,q7])
theorem k0l {s:Sys} {Dv:List Nat→Prop} {dl:List (List Nat)} {B clk g0 g:Nat} {D:List AObj} {o2:AObj} {l:List (List Nat)} {ts:Tmps} {ks:List Kf} {Q:Post} (hs:SysV s) (hB:D.length=B) (hdl:∀ a,a∈dl↔Dv a) (hN:∀ a∈l,Need s.clauses Dv a) (h1:ts 1= .sl (z1c s.preds dl) .no) (h2:ts 2= .ptr (B + 0) g0 0 0) (h5:ts 5= .ob (B + 1) g 0 s.preds.length) (h6:ts 6= .bool false) (h7:ts 7= .int .i64 0)
  (hQ:∀ (ts':Tmps) (l':List (List Nat)) (b:Bool) (o2:AObj) (clk':Nat),(∀ a∈l',Need s.clauses Dv a)→(b=true→q5a s.clauses l' < q5a s.clauses l)→(b=false→l'=l∧∀ c∈s.clauses,x1x dl c l)→ts' 1= .sl (z1c s.preds dl) .no→ts' 2= .ptr (B + 0) g0 0 0→ts' 5= .ob (B + 1) g 0 s.preds.length→ts' 6= .bool b→K Gam B (.exit 2) ks ⟨ts',D++[.blk g0 [.agg [.sl (s.preds.map z0y) .no, .sl (s.clauses.map z0h) .no]] false false 0, .blk g (z1c s.preds l') true false 0,o2],clk'⟩ Q):
  K Gam B (.loop x3b) ks ⟨ts,D++[.blk g0 [.agg [.sl (s.preds.map z0y) .no, .sl (s.clauses.map z0h) .no]] false false 0, .blk g (z1c s.preds l) true false 0,o2],clk⟩ Q:=by
 have hcl:=hs.len
 have hpl:=hs.pl
 refine z1f (fun m q=>∃ (i:Nat) (l':List (List Nat)) (b:Bool) (o2:AObj),i≤s.clauses.length∧m=s.clauses.length - i∧(∀ a∈l',Need s.clauses Dv a)∧(b=true→q5a s.clauses l' < q5a s.clauses l)∧(b=false→l'=l∧∀ c∈s.clauses.take i,x1x dl c l)∧q.ts 1= .sl (z1c s.preds dl) .no∧q.ts 2= .ptr (B + 0) g0 0 0∧q.ts 5= .ob (B + 1) g 0 s.preds.length∧q.ts 6= .bool b∧q.ts 7= .int .i64 (i:Int)∧q.h=D++[.blk g0 [.agg [.sl (s.preds.map z0y) .no, .sl (s.clauses.map z0h) .no]] false false 0, .blk g (z1c s.preds l') true false 0,o2]) s.clauses.length ⟨0,l,false,o2,by omega,rfl,hN,by simp,fun _=>⟨rfl,by simp⟩,h1,h2,h5,h6,h7,rfl⟩ ?_
 clear h1 h2 h5 h6 h7
 rintro m ⟨ts,h,clk⟩ P ⟨i,l',b,o2,hi,rfl,hN',hb1,hb2,q1,q2,q5,q6,q7,rfl⟩ hnx he hr
 dsimp only at q1 q2 q5 q6 q7
 by_cases hlt:i < s.clauses.length
 ·have f1:decide ((i:Int) < (s.clauses.length:Int))=true:=by rw[decide_eq_true_iff];omega
  have f2:IntKind.i64.wrap ((i:Int) + 1)=((i + 1:Nat):Int):=z0c (by omega) (by omega)
  have hmem:=List.getElem_mem hlt
  have htake:s.clauses.take (i + 1)=s.clauses.take i++[s.clauses[i]]:=List.take_succ_eq_append_getElem hlt
  have hix:=fun h=>q3w (l:=s.clauses) (i:=i) (h:=h) (t:= .no) (k:= .i64) hlt
  have hcok:=hs.clauses _ hmem
  generalize s.clauses[i]=c at hmem htake hix hcok
  obtain⟨hv,hbl,hbo,hg,hh⟩:=hcok
  have same:x1x dl c l'→∀ (ts':Tmps) (clk':Nat) (o2:AObj),ts' 1= .sl (z1c s.preds dl) .no→ts' 2= .ptr (B + 0) g0 0 0→ts' 5= .ob (B + 1) g 0 s.preds.length→ts' 6= .bool b→ts' 7= .int .i64 ((i + 1:Nat):Int)→P .norm ⟨ts',D++[.blk g0 [.agg [.sl (s.preds.map z0y) .no, .sl (s.clauses.map z0h) .no]] false false 0, .blk g (z1c s.preds l') true false 0,o2],clk'⟩:=by
   intro hc ts' clk' o2 r1 r2 r5 r6 r7
   refine hnx (s.clauses.length - (i + 1)) _ (by omega) ⟨i + 1,l',b,o2,hlt,rfl,hN',hb1,fun hbf=> ?_,r1,r2,r5,r6,r7,rfl⟩
   obtain⟨e1,e2⟩:=hb2 hbf
   refine⟨e1,fun d hd=> ?_⟩
   rw[htake,List.mem_append,List.mem_singleton] at hd
   rcases hd with hd | rfl
   ·exact e2 d hd
   ·rw[←e1];exact hc
  have add:(c.head.pred=[]∨c.head.pred∈l')→z2j c.body dl=true→z2j c.body l'=false→∀ (ts':Tmps) (clk':Nat) (o2:AObj),ts' 1= .sl (z1c s.preds dl) .no→ts' 2= .ptr (B + 0) g0 0 0→ts' 5= .ob (B + 1) g 0 s.preds.length→ts' 6= .bool true→ts' 7= .int .i64 ((i + 1:Nat):Int)→P .norm ⟨ts',D++[.blk g0 [.agg [.sl (s.preds.map z0y) .no, .sl (s.clauses.map z0h) .no]] false false 0, .blk g (z1c s.preds (z9l l' c.body)) true false 0,o2],clk'⟩:=by
   intro hh e1 e2 ts' clk' o2 r1 r2 r5 r6 r7
   have hin:z2j c.body (z9l l' c.body)=true:=z3z.2 fun a ha=>z8v.2 (.inr ⟨a,ha,rfl⟩)
   have hlt2:=v1x hmem e2 hin fun a ha=>z8v.2 (.inl ha)
   refine hnx (s.clauses.length - (i + 1)) _ (by omega) ⟨i + 1,z9l l' c.body,true,o2,hlt,rfl,fun a ha=> ?_,fun _=> ?_,by simp,r1,r2,r5,r6,r7,rfl⟩
   ·rcases z8v.1 ha with ha | ⟨b,hb,rfl⟩
    ·exact hN' a ha
    ·have hbd:∀ a∈c.body,Dv a.pred:=fun a ha=>(hdl _).1 (z3z.1 e1 a ha)
     rcases hh with hh | hh
     ·exact .query hmem hh hbd hb
     ·exact .of hmem (hN' _ hh) hbd hb
   ·cases b with
    | true=>have:=hb1 rfl;omega
    | false=>rw[(hb2 rfl).1] at hlt2⊢;exact hlt2
  have p1:=q8l (s:=s) (nm:=c.head.pred) (by omega)
  have p2:=v7o (L:=dl) (u:= .no) hs (by omega) hbo
  have e0:Pure Gam 150 [.agg [.sl (s.preds.map z0y) .no, .sl (s.clauses.map z0h) .no], .sl (z1c s.preds dl) .no, .agg [.sl (c.vars.map z1h) .no, .sl (c.body.map z3u) .no, .sl (c.guard.map eNode) .no, .str c.head.pred, .sl (c.head.args.map z0n) .no]] (.bool (z2j c.body dl)):=p2
  simp only[z2a] at p1
  rcases hh with ⟨hh,_⟩ | ha
  ·rw[hh,q1y fun p hp=>hs.pr.name p hp] at p1
   rw[hh] at e0
   cases hw1:z2j c.body dl with
   | false=>
     rw[hw1] at e0
     simp only[go_sem,x3b,q1,q2,q5,q6,q7,hB,List.length_map,f1,hix,z0n,hh,z0a p1,z0a e0,Bool.not_false,f2]
     exact same (fun _ h=>by rw[hw1] at h;cases h) _ _ _ q1 q2 q5 q6 rfl
   | true=>
     rw[hw1] at e0
     simp only[go_sem,x3b,q1,q2,q5,q6,q7,hB,List.length_map,f1,hix,z0n,hh,z0a p1,z0a e0,Bool.not_true,Int.reduceLE,Int.reduceNeg,decide_false]
     rw[←hh]
     refine x5a (x1:= .sl (z1c s.preds dl) .no) (b0:=b) (i0:=i) hs (by omega) hbo hB q1 q2 q5 q6 q7 rfl rfl ?_
     intro ts' clk' r1 r2 r5 r6 r7
     cases hw2:z2j c.body l' with
     | true=>
       rw[hw2] at r6
       rw[q6j (l:=z9l l' c.body) (l':=l') fun a=>by
        rw[z8v]
        exact⟨fun h=>h.elim id fun ⟨x,hx,e⟩=>e ▸ z3z.1 hw2 x hx, .inl⟩]
       simp only[go_sem,r1,r2,r5,r6,r7,f2]
       exact same (fun _ _=>hw2) _ _ _ r1 r2 r5 (by simpa [z0b] using r6) rfl
     | false=>
       rw[hw2] at r6
       simp only[go_sem,r1,r2,r5,r6,r7,f2]
       exact add (.inl hh) hw1 hw2 _ _ _ r1 r2 r5 (by simpa [z0b] using r6) rfl
  ·obtain⟨f,hf,hpn,_⟩:=ha
   have hne:c.head.pred≠[]:=by rw[hpn];exact hs.pr.name f hf
   obtain⟨k,hk,hkf,hpa⟩:=q1f hs.pr hf
   rw[hpn,hpa] at p1
   rw[hpn] at e0
   have g1:decide ((0:Int)≤(k:Int))=true:=by rw[decide_eq_true_iff];omega
   have hget:(z1c s.preds l')[k]? =some (.bool (decide (c.head.pred∈l'))):=by rw[q1g hk,hkf,hpn]
   have hidx:=fun L (hL:L[1]? =some (.blk g (z1c s.preds l') true false 0))=>q0h (K:= .i64) (D:=D) (B:=B) (k:=1) (g:=g) (w:=false) (L:=L) hB hL hget rfl hk
   cases hw1:z2j c.body dl with
   | false=>
     rw[hw1] at e0
     simp only[go_sem,x3b,q1,q2,q5,q6,q7,hB,List.length_map,f1,hix,z0n,hpn,z0a p1,z0a e0,Bool.not_false,f2]
     exact same (fun _ h=>by rw[hw1] at h;cases h) _ _ _ q1 q2 q5 q6 rfl
   | true=>
     rw[hw1] at e0
     by_cases hin:c.head.pred∈l'
     ·rw[decide_eq_true hin] at hget
      simp only[go_sem,x3b,q1,q2,q5,q6,q7,hB,List.length_map,f1,hix,z0n,hpn,z0a p1,z0a e0,g1,hidx,hget,Bool.not_true]
      rw[←hpn]
      refine x5a (x1:= .sl (z1c s.preds dl) .no) (b0:=b) (i0:=i) hs (by omega) hbo hB q1 q2 q5 q6 q7 rfl rfl ?_
      intro ts' clk' r1 r2 r5 r6 r7
      cases hw2:z2j c.body l' with
      | true=>
        rw[hw2] at r6
        rw[q6j (l:=z9l l' c.body) (l':=l') fun a=>by
         rw[z8v]
         exact⟨fun h=>h.elim id fun ⟨x,hx,e⟩=>e ▸ z3z.1 hw2 x hx, .inl⟩]
        simp only[go_sem,r1,r2,r5,r6,r7,f2]
        exact same (fun _ _=>hw2) _ _ _ r1 r2 r5 (by simpa [z0b] using r6) rfl
      | false=>
        rw[hw2] at r6
        simp only[go_sem,r1,r2,r5,r6,r7,f2]
        exact add (.inr hin) hw1 hw2 _ _ _ r1 r2 r5 (by simpa [z0b] using r6) rfl
     ·rw[decide_eq_false hin] at hget
      simp only[go_sem,x3b,q1,q2,q5,q6,q7,hB,List.length_map,f1,hix,z0n,hpn,z0a p1,z0a e0,g1,hidx,hget,Bool.not_true,Bool.not_false,f2]
      refine same (fun h=> ?_) _ _ _ q1 q2 q5 q6 rfl
      rcases h with h | h
      ·exact absurd h hne
      ·exact absurd h hin
 ·have f1:decide ((i:Int) < (s.clauses.length:Int))=false:=by rw[decide_eq_false_iff_not];omega
  have hti:s.clauses.take i=s.clauses:=List.take_of_length_le (by omega)
  rw[hti] at hb2
  simp only[go_sem,x3b,q1,q2,q5,q6,q7,hB,List.length_map,f1]
  refine he _ _ ?_
  exact hQ _ l' b o2 _ hN' hb1 hb2 (by simp[z0b,q1]) (by simp[z0b,q2]) (by simp[z0b,q5]) (by simp[z0b,q6])
theorem y7o {s:Sys} {Dv:List Nat→Prop} {dl n0:List (List Nat)} {u:Tip} (hs:SysV s) (hdl:∀ a,a∈dl↔Dv a) (h0:∀ a,a∈n0↔Need s.clauses Dv a):Pure Gam 84 [z2a s, .sl (z1c s.preds dl) u] (.sl (z1c s.preds n0) .no):=by
 have hpl:=hs.pl
 refine Pure.of rfl g2z rfl rfl rfl (az:=[z2a s, .sl (z1c s.preds dl) .no]) rfl (by simp[idsL,z2v,AV.ids,q3f]) fun D B clk T hB hT=> ?_
 have hrep:List.replicate s.preds.length (AV.bool false)=z1c s.preds []:=by
  unfold z1c
  rw[←List.map_const']
  apply List.map_congr_left
  intro p _
  simp
 simp only[go_sem,u9t,hB,z2a,List.length_map,q5x (z:= .bool false) (n:=s.preds.length) (b:=1) rfl (by omega),hrep]
 refine z1f (fun m q=>∃ (l:List (List Nat)) (b:Bool) (g0 g:Nat) (o2:AObj),m=(if b then q5a s.clauses l + 1 else 0)∧(∀ a∈l,Need s.clauses Dv a)∧(b=false→∀ c∈s.clauses,x1x dl c l)∧q.ts 1= .sl (z1c s.preds dl) .no∧q.ts 2= .ptr (B + 0) g0 0 0∧q.ts 5= .ob (B + 1) g 0 s.preds.length∧q.ts 6= .bool b∧q.h=D++[.blk g0 [.agg [.sl (s.preds.map z0y) .no, .sl (s.clauses.map z0h) .no]] false false 0, .blk g (z1c s.preds l) true false 0,o2]) (q5a s.clauses [] + 1) ⟨[],true,_,_,_,rfl,by simp,by simp,rfl,rfl,rfl,rfl,rfl⟩ ?_
 rintro m ⟨ts,h,clk⟩ P ⟨l,b,g0,g,o2,rfl,hD,hb,q1,q2,q5,q6,rfl⟩ hnx he hr
 dsimp only at q1 q2 q5 q6
 cases b with
 | true=>
   simp only[go_sem,v2n,q1,q2,q5,q6,hB]
   refine k0l hs hB hdl hD q1 q2 q5 rfl rfl fun ts' l' b o2 clk' hD' hb1 hb2 r1 r2 r5 r6=> ?_
   simp only[go_sem,]
   refine hnx (if b then q5a s.clauses l' + 1 else 0) _ ?_ ⟨l',b,g0,g,o2,rfl,hD',fun hbf=> ?_,r1,r2,r5,r6,rfl⟩
   ·cases b with
    | true=>have:=hb1 rfl;simpa using this
    | false=>simp
   ·obtain⟨e1,e2⟩:=hb2 hbf
    rw[e1];exact e2
 | false=>
   simp only[go_sem,v2n,q1,q2,q5,q6,hB]
   refine he _ _ ?_
   simp only[go_sem,q5]
   have hsrc:=z9g (L:=[.blk g0 [.agg [.sl (s.preds.map z0y) .no, .sl (s.clauses.map z0h) .no]] false false 0, .blk g (z1c s.preds l) true false 0,o2]) (k:=1) (g:=g) (w:=false) (len:=s.preds.length) hB rfl (by simp[z1c])
   simp only[z5s] at hsrc
   rw[q6j (l':=l) fun a=>by rw[h0];exact⟨v1w hdl (hb rfl),hD a⟩] at hT
   refine⟨.sl (z1c s.preds l) .no, ?_,by simp[AV.ids,q3f],rfl,hT _⟩
   simp only[z1l,conv,hsrc,Option.map_some]
theorem q8m:∀ a:List Nat,z4d a a=false
 | []=>rfl
 | c::a=>by simp[z4d,q8m a]
structure CmpC (c:Clause):Prop where
 vars:c.vars.length≤20000
 body:c.body.length≤20000
 guard:c.guard.length≤20000
 head:c.head.args.length≤20000∧∀ t∈c.head.args,t.length≤20000
 atoms:∀ a∈c.body,a.args.length≤20000∧∀ t∈a.args,t.length≤20000
theorem z6k {base:Nat} {b:ACode} {ks:List Kf} {s:St} {Q:Post} (n:Nat) (hn:n≤2 ^ 62) (J:Nat→St→Prop) (h0:J 0 s)
  (hstep:∀ i,i < n→decide ((i:Int) < (n:Int))=true→IntKind.i64.wrap ((i:Int) + 1)=((i + 1:Nat):Int)→∀ ts h clk (P:Post),J i ⟨ts,h,clk⟩→(∀ s',J (i + 1) s'→P .norm s')→(∀ k s',K Gam base (.exit k) ks s' Q→P (.exit k) s')→(∀ s',K Gam base .ret ks s' Q→P .ret s')→K Gam base b [] ⟨ts,h,clk⟩ P)
  (hend:decide ((n:Int) < (n:Int))=false→∀ ts h clk (P:Post),J n ⟨ts,h,clk⟩→(∀ k s',K Gam base (.exit k) ks s' Q→P (.exit k) s')→(∀ s',K Gam base .ret ks s' Q→P .ret s')→K Gam base b [] ⟨ts,h,clk⟩ P):K Gam base (.loop b) ks s Q:=by
 refine z1f (fun m q=>∃ i:Nat,i≤n∧m=n - i∧J i q) n ⟨0,by omega,rfl,h0⟩ ?_
 rintro m ⟨ts,h,clk⟩ P ⟨i,hi,rfl,hj⟩ hnx he hr
 by_cases hlt:i < n
 ·exact hstep i hlt (by rw[decide_eq_true_iff];omega) (z0c (by omega) (by omega)) ts h clk P hj (fun s' h=>hnx (n - (i + 1)) s' (by omega) ⟨i + 1,hlt,rfl,h⟩) he hr
 ·obtain rfl:i=n:=by omega
  exact hend (by rw[decide_eq_false_iff_not];omega) ts h clk P hj he hr
theorem q4h {z:Int} (h:(dec z.natAbs).length≤4000000):(z4f z).R:=⟨x4y,h,by show (dec 1).length≤_;rw[z2f];simp⟩
theorem z8r {z:Int} (h:(dec z.natAbs).length≤4000000):Pure Gam 102 [.str (z0i z)] (.bool true):=by
 have:=x7h (q4h h)
 rw[z2b] at this
 exact this
theorem x7j {a b:Int}:k7p (z4f a) (z4f b)=z4f (a - b):=by
 unfold k7p
 rw[v2e,j7h]
 rfl
theorem w5i {a b:Int} (ha:(dec a.natAbs).length≤3999999) (hb:(dec b.natAbs).length≤3999999):(dec (a - b).natAbs).length≤4000000:=by
 have h:=x7e ha hb
 exact Nat.le_trans (z4z (by omega)) h
def v7p (a b:Int):Int:=if a < b then -1 else if a=b then 0 else 1
theorem j7n {a b:Int} (ha:(dec a.natAbs).length≤3999999) (hb:(dec b.natAbs).length≤3999999):Pure Gam 103 [.str (z0i a), .str (z0i b)] (.int .i64 (v7p a b)):=by
 have h:=j7l (q4h (z:=a) (by omega)) (q4h (z:=b) (by omega)) (by rw[x7j];exact q4h (w5i ha hb))
 rw[z2b,z2b,x7j] at h
 have e:q7k (z4f (a - b))=v7p a b:=by
  unfold q7k v7p z4f
  dsimp only
  by_cases h1:a < b
  ·rw[if_neg (by omega),if_pos h1,if_pos (by simp;omega)]
  ·rw[if_neg h1]
   by_cases h2:a=b
   ·rw[if_pos h2,if_pos (by omega)]
   ·rw[if_neg h2,if_neg (by omega),if_neg (by simp;omega)]
 rw[e] at h
 exact h
theorem z1r {α:Type} {l:List α} {f:α→List Nat}:(z1n (l.map f)).length=l.length:=by simp[z1n]
theorem q1z (v:Val):(eV v).ids=[]:=by simp[eV,value,AV.ids,idsL,z0q,nat]
theorem Qn.L.r {q:Qn} {N D:Nat} (h:q.L N D) (hc:q.C) (h1:N≤4000000) (h2:D≤4000000):q.R:=⟨hc,Nat.le_trans h.n h1,Nat.le_trans h.d h2⟩
theorem q4i {z:Int} {l:List (Int×Int)}:eV (.arr z l)= .agg [.int .i64 4, .bool false, .str (z0i z), .sl (z1n (l.map fun p=>z0i p.1)) .no, .sl (z1n (l.map fun p=>z0i p.2)) .no]:=rfl
theorem q6k {t:Nat} {q:Qn}:eV (.num t q)= .agg [.int .i64 (t:Int), .bool false, .str q.text, .sl [] .no, .sl [] .no]:=rfl
theorem z4x {b:Bool}:eV (.bool b)= .agg [.int .i64 1, .bool b, .str [], .sl [] .no, .sl [] .no]:=rfl
theorem z8a {a b:Int} (h:z0i a=z0i b):a=b:=by
 have key:∀ x:Int,x < 0→∀ y:Int,¬ y < 0→z0i x≠z0i y:=fun x hx y hy e=>by
  unfold z0i at e
  rw[if_pos hx,if_neg hy] at e
  have:=z1m y.natAbs 45 (by rw[←e];exact List.mem_cons_self)
  omega
 by_cases ha:a < 0 <;> by_cases hb:b < 0
 ·unfold z0i at h
  rw[if_pos ha,if_pos hb,List.cons.injEq] at h
  have:=x0t h.2
  omega
 ·exact absurd h (key a ha b hb)
 ·exact absurd h.symm (key b hb a ha)
 ·unfold z0i at h
  rw[if_neg ha,if_neg hb] at h
  have:=x0t h
  omega
theorem x7k {l:List (Int×Int)} {i:Nat} {h:List AObj} {t:Tip} (hi:i < l.length):z1p h 1 (.sl (z1n (l.map fun p=>z0i p.1)) t) (.int .i64 (i:Int))=some (.iptr [.str (z0i l[i].1)] 0,h):=by
 have:=q0c (l:=l.map fun p=>z0i p.1) (i:=i) (h:=h) (t:=t) (k:= .i64) (by simpa using hi)
 simpa using this
theorem j4e {l:List (Int×Int)} {i:Nat} {h:List AObj} {t:Tip} (hi:i < l.length):z1p h 1 (.sl (z1n (l.map fun p=>z0i p.2)) t) (.int .i64 (i:Int))=some (.iptr [.str (z0i l[i].2)] 0,h):=by
 have:=q0c (l:=l.map fun p=>z0i p.2) (i:=i) (h:=h) (t:=t) (k:= .i64) (by simpa using hi)
 simpa using this
theorem x7l {m s:Nat} {v:Val} (hm:m≤80000) (h:VOk m s v):Pure Gam 101 [eV v] (.bool true):=by
 refine Pure.of rfl u1r rfl rfl rfl (az:=[eV v]) rfl (by simp[idsL,q1z]) fun D B clk T hB hT=> ?_
 cases v with
 | bool b=>
   simp only[go_sem,k3h,hB,z4x,List.length_nil,Int.cast_ofNat_Int,Int.reduceEq,Int.reduceLT,decide_true,decide_false,Bool.not_true,Bool.not_false]
   rw[z0e]
   exact hT _
 | num t q=>
   obtain⟨rfl,ht,hc,hl,h1⟩:=h
   have hr:=hl.r hc (by omega) (by omega)
   rcases ht with rfl | rfl
   ·have p:=x7h hr
    rw[h1 rfl,decide_eq_true rfl] at p
    simp only[go_sem,k3h,hB,q6k,List.length_nil,Int.cast_ofNat_Int,Int.reduceEq,Int.reduceLT,decide_true,decide_false,Bool.not_true,Bool.not_false,z0a p]
    rw[z0e]
    exact hT _
   ·simp only[go_sem,k3h,hB,q6k,List.length_nil,Int.cast_ofNat_Int,Int.reduceEq,Int.reduceLT,decide_true,decide_false,Bool.not_true,Bool.not_false,z0a (q9e hr)]
    rw[z0e]
    exact hT _
 | arr z l=>
   obtain⟨_,hz,hs,hp,hlm⟩:=h
   simp only[go_sem,k3h,hB,q4i,z1r,Int.cast_ofNat_Int,Int.reduceEq,Int.reduceLT,decide_true,decide_false,Bool.not_true,Bool.not_false,z0a (z8r (z:=z) (by omega))]
   refine z6k l.length (by omega) (fun i q=>∃ (g0:Nat),q.ts 1= .ptr (B + 0) g0 0 0∧q.ts 3= .int .i64 (i:Int)∧q.h=D++[.blk g0 [.agg [.int .i64 4, .bool false, .str (z0i z), .sl (z1n (l.map fun p=>z0i p.1)) .no, .sl (z1n (l.map fun p=>z0i p.2)) .no]] false false 0]) ⟨_,rfl,rfl,rfl⟩ ?_ ?_
   ·rintro i hlt f1 f2 ts h clk P ⟨g0,q1,q3,rfl⟩ hnx he hr
    dsimp only at q1 q3
    obtain⟨n1,n2,n3⟩:=hp _ (List.getElem_mem hlt)
    have e1:decide (z0i l[i].2=z0i z)=false:=decide_eq_false fun e=>n1 (z8a e)
    have hk:=fun h=>x7k (l:=l) (h:=h) (t:= .no) hlt
    have hv:=fun h=>j4e (l:=l) (h:=h) (t:= .no) hlt
    by_cases hi0:i=0
    ·have e2:decide (0 < (i:Int))=false:=by rw[decide_eq_false_iff_not];omega
     simp only[go_sem,j5k,q1,q3,hB,f1,f2,z1r,hk,hv,z0a (z8r (z:=l[i].1) (by omega)),z0a (z8r (z:=l[i].2) (by omega)),Bool.not_true,e1,e2]
     exact hnx _ ⟨g0,q1,rfl,rfl⟩
    ·have e2:decide (0 < (i:Int))=true:=by rw[decide_eq_true_iff];omega
     have e3:IntKind.i64.wrap ((i:Int) - 1)=((i - 1:Nat):Int):=by rw[z0c (by omega) (by omega)];omega
     have hlt':i - 1 < l.length:=by omega
     have hk':=fun h=>x7k (l:=l) (h:=h) (t:= .no) hlt'
     obtain⟨_,n4,_⟩:=hp _ (List.getElem_mem hlt')
     have hord:l[i - 1].1 < l[i].1:=List.pairwise_iff_getElem.1 hs (i - 1) i hlt' hlt (by omega)
     have pc:=j7n (a:=l[i - 1].1) (b:=l[i].1) (by omega) (by omega)
     rw[v7p,if_pos hord] at pc
     simp only[go_sem,j5k,q1,q3,hB,f1,f2,z1r,hk,hv,hk',e3,z0a (z8r (z:=l[i].1) (by omega)),z0a (z8r (z:=l[i].2) (by omega)),z0a pc,Bool.not_true,Bool.not_false,e1,e2,Int.reduceLE,decide_false]
     exact hnx _ ⟨g0,q1,rfl,rfl⟩
   ·rintro f1 ts h clk P ⟨g0,q1,q3,rfl⟩ he hr
    dsimp only at q1 q3
    simp only[go_sem,j5k,q1,q3,hB,f1,z1r]
    refine he _ _ ?_
    simp only[go_sem,hB]
    rw[z0e]
    exact hT _
def q5c (x:Tf):Bool:=decide (x.kind=2) && decide (x.pred=[]) && decide (x.into=[]) && decide (x.clause=0) && decide (x.atom=0) && decide (x.drops=[])
theorem k6i {x:Tf}:decide ((x.drops.length:Int)=0)=decide (x.drops=[]):=by
 cases x.drops with
 | nil=>rfl
 | cons a l=>simp;omega
theorem append_nil {D L:List AObj} {B k esz b gen:Nat} {ys:List AV} {u:Tip} {o:AObj} (hB:D.length=B) (ho:L[k]? =some o) (hy:z0v esz ys=true) (hl:ys.length * (b + 1)≤2 ^ 46):
  z1k (D++L) (B + k) gen esz b false (.sl [] .nil) (.sl ys u)=some (.sl ys (.at (B + k) gen),D++L.set k (.tip gen esz)):=
 z0s (xs:=[]) hB ho (.inl rfl) rfl hy (by simpa using hl)
theorem q7l {D L:List AObj} {B j k esz b gen g:Nat} {xs ys:List AV} {u:Tip} (hB:D.length=B) (ho:L[j]? =some (.tip g esz)) (hx:z0v esz xs=true) (hy:z0v esz ys=true) (hl:(xs.length + ys.length) * (b + 1)≤2 ^ 46):
  z1k (D++L) (B + k) gen esz b false (.sl xs (.at (B + j) g)) (.sl ys u)=some (.sl (xs++ys) (.at (B + k) gen),D++(L.set j .dead).set k (.tip gen esz)):=by
 have hgt:¬ (xs.length + ys.length) * (b + 1) > z1g:=by unfold z1g;omega
 unfold z1k
 simp only[z5s,hy,Bool.not_true,Bool.false_eq_true,if_false,hx,Bool.or_false,decide_eq_true_eq,hgt,z6c hB,ho,and_self,if_true,z5l hB]
structure TfS (x:Tf):Prop where
 un:x.un.length≤100
 und:x.und.length≤100
 drops:idsL x.drops=[]
theorem TfS.ok {x:Tf} (h:TfS x):TfOk x:=⟨by have:=h.un;omega,by have:=h.und;omega,h.drops⟩
def x7m (x:Tf):List (List Nat):=x.un++x.und
theorem TfS.len {x:Tf} (h:TfS x):(x7m x).length≤200:=by
 have h1:=h.un
 have h2:=h.und
 unfold x7m
 rw[List.length_append]
 omega
def q7m (s:Sys) (x:Tf):Prop:=(x7m x).Nodup∧∀ a∈x7m x,a∈s.preds.map (·.name)
def x2b:Sys:=⟨[],[]⟩
open Classical in
noncomputable def z4o (s:Sys) (x:Tf):Sys×Int:=
 if q5c x=false then (x2b,1) else if ¬ q7m s x then (x2b,8) else match z7k x.un x.und s.clauses 0 [] with
  | none=>(x2b,8)
  | some _=>(z3x x s,0)
theorem z7p {s:Sys} {x:Tf} (h:q5c x=false):z4o s x=(x2b,1):=by
 unfold z4o
 rw[if_pos h]
theorem z6w {s:Sys} {x:Tf} (h:q5c x=true) (hn:¬ q7m s x):z4o s x=(x2b,8):=by
 unfold z4o
 rw[if_neg (by rw[h];simp),if_pos hn]
theorem z7q {s:Sys} {x:Tf} (h:q5c x=true) (hn:q7m s x) (hk:z7k x.un x.und s.clauses 0 []=none):z4o s x=(x2b,8):=by
 unfold z4o
 rw[if_neg (by rw[h];simp),if_neg (not_not_intro hn),hk]
theorem z9m {s:Sys} {x:Tf} {out:List Nat} (h:q5c x=true) (hn:q7m s x) (hk:z7k x.un x.und s.clauses 0 []=some out):z4o s x=(z3x x s,0):=by
 unfold z4o
 rw[if_neg (by rw[h];simp),if_neg (not_not_intro hn),hk]
theorem w5j {s:Sys} {x:Tf} (hs:SysV s) (hx:TfOk x):Pure Gam 85 [z2a s,eTf x, .int .i64 2,eTf {x with un:=[],und:=[]}] (.bool (q5c x)):=by
 have hp:=k5l hs
 rw[z2a] at hp
 have hr:TfOk {x with un:=[],und:=[]}:=⟨by simp,by simp,hx.drops⟩
 refine Pure.of rfl y9f rfl rfl rfl (az:=[z2a s,eTf x, .int .i64 2,eTf {x with un:=[],und:=[]}]) rfl (by simp[idsL,z2v,q1e hx,q1e hr,AV.ids]) fun D B clk T hB hT=> ?_
 have hs0:z1n []=[]:=rfl
 unfold q5c at hT
 cases b1:decide (x.kind=2) <;> rw[b1] at hT
 ·simp only[go_sem,v7d,hB,z2a,eTf,b1]
  rw[z0e]
  exact hT _
 cases b2:decide (x.pred=[]) <;> rw[b2] at hT
 ·simp only[go_sem,v7d,hB,z2a,eTf,b1,b2,z0a hp]
  rw[z0e]
  exact hT _
 cases b3:decide (x.into=[]) <;> rw[b3] at hT
 ·simp only[go_sem,v7d,hB,z2a,eTf,b1,b2,b3,z0a hp]
  rw[z0e]
  exact hT _
 cases b4:decide (x.clause=0) <;> rw[b4] at hT
 ·simp only[go_sem,v7d,hB,z2a,eTf,b1,b2,b3,b4,z0a hp]
  rw[z0e]
  exact hT _
 cases b5:decide (x.atom=0) <;> rw[b5] at hT
 ·simp only[go_sem,v7d,hB,z2a,eTf,b1,b2,b3,b4,b5,z0a hp]
  rw[z0e]
  exact hT _
 simp only[go_sem,v7d,hB,z2a,eTf,hs0,b1,b2,b3,b4,b5,z0a hp,decide_true,Int.cast_ofNat_Int,k6i]
 rw[z0e]
 simpa using hT _
theorem w5k {s:Sys} {x:Tf} {u:Tip} (hpl:s.preds.length≤1000) (hx:TfS x) (hn:¬ q7m s x):Pure Gam 86 [z2a s, .sl [.sl (z1n x.un) .no, .sl (z1n x.und) .no] u] (.tup [.nilmap, .bool false]):=by
 have hgl:=hx.len
 unfold x7m at hgl
 have hp:=k5u (ls:=[x.un,x.und]) (u:= .no) (by simp) (by simp only[List.flatten_cons,List.flatten_nil,List.append_nil];omega)
 have hfl:[x.un,x.und].flatten=x.un++x.und:=by simp
 rw[hfl] at hp
 refine Pure.of rfl u8y rfl rfl rfl (az:=[z2a s, .sl [.sl (z1n x.un) .no, .sl (z1n x.und) .no] .no]) rfl (by simp[idsL,z2v,AV.ids,z0q]) fun D B clk T hB hT=> ?_
 have hsl:(z1n (x.un++x.und)).length=(x.un++x.und).length:=List.length_map _
 simp only[List.map_cons,List.map_nil,q6h] at hp
 simp only[go_sem,u5b,hB,z2a,z0a hp,hsl]
 refine k5v (fl:=x.un++x.und) hB hpl (by omega) (by simp[z0b]) (by simp[z0b]) (by simp[z0b]) (by simp[z0b]) (by simp[z0b]) (fun h1 h2 ts' clk' r6=>absurd ⟨h1,h2⟩ hn) (fun _ ts' L clk' r4 r5=> ?_)
 simp only[go_sem,r4,r5]
 rw[z0g rfl (by simp[z1l,AV.cv,cvL,AV.ids,idsL])]
 exact hT _
noncomputable def w5l (s:Sys) (x:Tf):List Nat:=if (z4o s x).2=0 then (z7k x.un x.und s.clauses 0 []).getD [] else []
theorem w5m {s:Sys} {x:Tf} (hs:SysV s) (hx:TfS x):Pure Gam 37 [z2a s,eTf x] (.tup [.sl ((w5l s x).map nat) .no, .int .i64 (z4o s x).2]):=by
 have hp:=w5j hs hx.ok
 have hpl:s.preds.length≤6:=hs.preds.length_le
 have hbl:∀ c∈s.clauses,c.body.length≤2 ^ 18:=fun c hc=>by have:=(hs.clauses c hc).2.1;omega
 have hcl:s.clauses.length≤2 ^ 18:=by have:=hs.len;omega
 have hgl:=hx.len
 unfold x7m at hgl
 rw[z2a,eTf,eTf] at hp
 refine Pure.of rfl u8v rfl rfl rfl (az:=[z2a s,eTf x]) rfl (by simp[idsL,z2v,q1e hx.ok]) fun D B clk T hB hT=> ?_
 have hs0:z1n []=[]:=rfl
 simp only[hs0] at hp
 have hp:=Pure.cv (args:=[.agg [.sl (s.preds.map z0y) .no, .sl (s.clauses.map z0h) .no], .agg [.int .i64 x.kind, .str x.pred, .str x.into, .int .i64 x.clause, .int .i64 x.atom, .sl (z1n x.un) .no, .sl (z1n x.und) .no, .sl x.drops .no], .int .i64 2, .agg [.int .i64 x.kind, .str x.pred, .str x.into, .int .i64 x.clause, .int .i64 x.atom, .sl [] .nil, .sl [] .nil, .sl x.drops .no]]) hp rfl y9f rfl rfl rfl rfl
 unfold w5l at hT
 cases hu:q5c x <;> rw[hu] at hp
 ·rw[z7p hu] at hT
  simp only[go_sem,y5y,hB,z2a,eTf,z9c,z0a hp,Bool.not_false]
  rw[z0g rfl (by simp[z1l,AV.cv,cvL,AV.ids,idsL])]
  exact hT _
 by_cases hn:q7m s x
 ·have h89:=fun u h clk Q=>u9p (s:=s) (un:=x.un) (und:=x.und) (u:=u) (h:=h) (clk:=clk) (Q:=Q) (by omega) (by omega) hn.1 hn.2
  rw[z2a] at h89
  simp only[go_sem,y5y,hB,z2a,eTf,z9c,z0a hp,Bool.not_true]
  refine z5x (h89 _ _ _ _ fun gR s0 c2=> ?_)
  have hlen7:∀ a0 a1 a2 a3 a4 a5 a6:AObj,(D++[a0,a1,a2,a3,a4,a5,a6]).length=B + 7:=fun _ _ _ _ _ _ _=>by simp[hB]
  simp only[go_sem,hB,hlen7,List.append_assoc,Bool.not_true,List.length_map]
  refine j7b (x:=x) (cs:=s.clauses) (gx:=clk + 1) hB hcl hbl hx.ok (by simp[z0b]) (by simp[z0b]) (by simp[z0b]) (by simp[z0b]) (by simp[z0b]) (by simp[z0b]) (by simp[z0b]) (fun out ho ts' t L clk' r11=> ?_) (fun hbad ts' L clk' r4 r5=> ?_)
  ·rw[z9m hu hn ho,if_pos rfl,ho] at hT
   simp only[go_sem,r11]
   rw[z0g rfl (by simp[z1l,AV.cv,cvL,AV.ids,idsL,q6d])]
   exact hT _
  ·rw[z7q hu hn hbad] at hT
   simp only[go_sem,r4,r5]
   rw[z0g rfl (by simp[z1l,AV.cv,cvL,AV.ids,idsL])]
   exact hT _
 ·have p89:=fun u=>w5k (s:=s) (x:=x) (u:=u) (by omega) hx hn
  rw[z2a] at p89
  rw[z6w hu hn] at hT
  simp only[go_sem,y5y,hB,z2a,eTf,z9c,z0a hp,Bool.not_true]
  rw[z0a (p89 _)]
  simp only[go_sem,hB,Bool.not_false]
  rw[z0g rfl (by simp[z1l,AV.cv,cvL,AV.ids,idsL])]
  exact hT _
theorem k6j {s:Sys} {x:Tf} (hs:SysV s) (hx:TfS x):Pure Gam 12 [z2a s,eTf x] (.tup [z2a (z4o s x).1, .int .i64 (z4o s x).2]):=by
 have hp:=w5m hs hx
 by_cases h0:(z4o s x).2=0
 ·have hu:q5c x=true:=by
   cases hu:q5c x with
   | true=>rfl
   | false=>rw[z7p hu] at h0;cases h0
  have hn:q7m s x:=Classical.byContradiction fun hn=>by rw[z6w hu hn] at h0;cases h0
  cases hk:z7k x.un x.und s.clauses 0 [] with
  | none=>rw[z7q hu hn hk] at h0;cases h0
  | some out=>
    rw[z9m hu hn hk]
    unfold q5c at hu
    simp only[Bool.and_eq_true,decide_eq_true_eq] at hu
    obtain⟨⟨⟨⟨⟨h1,h2⟩,h3⟩,h4⟩,h5⟩,h6⟩:=hu
    have:=hx.len
    unfold x7m at this
    exact y7f hs hx.ok h1 h2 h3 h4 h5 h6 hn.1 hn.2 (by omega) hk
 ·have he:(z4o s x).1=x2b:=by
   cases hu:q5c x with
   | false=>rw[z7p hu]
   | true=>
     by_cases hn:q7m s x
     ·cases hk:z7k x.un x.und s.clauses 0 [] with
      | none=>rw[z7q hu hn hk]
      | some out=>rw[z9m hu hn hk] at h0;exact absurd rfl h0
     ·rw[z6w hu hn]
  rw[he]
  unfold w5l at hp
  rw[if_neg h0] at hp
  generalize (z4o s x).2=e at *
  rw[z2a,eTf] at hp
  refine Pure.of rfl u8u rfl rfl rfl (az:=[z2a s,eTf x]) rfl (by simp[idsL,z2v,q1e hx.ok]) fun D B clk T hB hT=> ?_
  simp only[go_sem,u4y,hB,z2a,eTf,z0a hp,decide_eq_false h0,Bool.not_false,z0k,z0j,z0f]
  rw[z0g rfl (by simp[z1l,AV.cv,cvL,AV.ids,idsL])]
  exact hT _
def g3e (B:Nat) (h D:List AObj) (rs:List ARes) (clk:Nat) (Q:AV→List AObj→Nat→Prop):Post:=fun e s=>(∀ i,e≠ .exit i)∧∃ vs L,z1y s.h s.ts rs=some vs∧s.h=D++L∧(((z1l vs).ids=[]∧Q (z1l vs) h clk)∨((∃ i∈(z1l vs).ids,B≤i)∧Q (z1l vs) (h++L) s.clk))
theorem v2r {f:Nat} {args az:List AV} {h:List AObj} {clk:Nat} {af:AFun} {Q:AV→List AObj→Nat→Prop} (hext:Gam.ext f=none) (hfn:Gam.fn f=some af) (hb:af.byref=[]) (ho:af.owned=true) (hobs:z4r args=[]) (has:cvL args=az) (hids:idsL az=[])
  (hw:∀ (D:List AObj) (B:Nat),D.length=B→B=h.length→K Gam B af.body [] ⟨q0m az,D++List.replicate af.nslots .dead,clk⟩ (g3e B h D af.results clk Q)):WC Gam f args h clk Q:=by
 obtain⟨k,e,s,he,hne,vs,L,hr,hL,hq⟩:=hw (maskFrom [] 0 h) h.length z4g rfl
 have hp:z1v h af.byref 0 args=some az:=by rw[hb,z1o hobs,has]
 have hl:z0u af.byref 0 args=[]:=by rw[hb];exact z4u hobs
 have hdrop:s.h.drop h.length=L:=by rw[hL,List.drop_left' z4g]
 rcases hq with ⟨h1,h2⟩ | ⟨⟨i,hi1,hi2⟩,h2⟩
 ·refine⟨k,z1l vs,h,clk, ?_,h2⟩
  unfold z5g z0o
  simp only[hext,hfn,hp,hl,freezeAll,hids,reach,he,hr,ho,if_true,z6i]
  cases e with
  | exit i=>exact absurd rfl (hne i)
  | norm=>simp[h1]
  | ret=>simp[h1]
 ·refine⟨k,z1l vs,h++L,s.clk, ?_,h2⟩
  have hall:(((z1l vs).ids++(List.map (fun i=>(Option.map AObj.ids s.h[i]?).getD []) ([]:List Nat)).flatten).all fun x=>decide (x < h.length))=false:=by
   rw[List.all_eq_false]
   exact⟨i,by simp[hi1],by simp;omega⟩
  unfold z5g z0o
  simp only[hext,hfn,hp,hl,freezeAll,hids,reach,he,hr,ho,if_true,z6i,hall,Bool.false_eq_true,if_false,hdrop]
  cases e with
  | exit i=>exact absurd rfl (hne i)
  | norm=>simp
  | ret=>simp
def TipN (B k:Nat) (o:AObj) (t:Tip) (e:Nat):Prop:=t= .nil∨∃ g,t= .at (B + k) g∧o= .tip g e
theorem TipN.k {B k e:Nat} {o:AObj} {t:Tip} (h:TipN B k o t e):z9p B k o t e:=h.imp id .inr
end Go.Proofs.YtkollgjffkdliaaGreatDoor.Am
