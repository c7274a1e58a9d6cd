/- Walking: the reference checks a system Walking: the reference of slicing looks names up Walking: the reference's derivable predicates Walking: the reference's needed predicates Walking: terms are equa -/
import Derived.Test.YtmkblnlafljljaaGreatDoorM36
open Nat renaming reduceBEq → z0,reduceAdd → z1,reduceLeDiff → z2,reduceSub → z3
set_option linter.all false
namespace Go.Proofs.YtmkblnlafljljaaGreatDoor.Am
open Go
set_option maxRecDepth 100000
def q4i (h:List AObj) (n esz:Nat) (x ix:AV):Option (AV×List AObj):=match ix with
 | .int _ i=>if 0≤i then match x with
   | .ptr s g k o=>if i.toNat < n then some (.ptr s g k (o + i.toNat * esz),h) else none
   | .iptr cs o=>if i.toNat < n then some (.iptr cs (o + i.toNat * esz),h) else none
   | _=>none
   else none
 | _=>none
theorem v4i {h:List AObj} {base g n esz:Nat} {ts:Tmps} {x ix:AOpd}:prim h base g ts (.indexAddr (some n) esz x ix)=q4i h n esz (x.ev ts) (ix.ev ts):=by
 simp only[prim,q4i]
 cases ix.ev ts <;> try rfl
 cases x.ev ts <;> rfl
theorem v4j {B n esz g clk:Nat} {ts:Tmps} {h:List AObj} {x ix:AOpd} {dst:Option Nat} {os:List AOper} {ks:List Kf} {Q:Post}:O Gam B .plain g (⟨dst,(.indexAddr (some n) esz x ix),none⟩::os) ⟨ts,h,clk⟩ ks Q=PP Gam B (q4i h n esz (x.ev ts) (ix.ev ts)) dst g os ts clk ks Q:=by rw[q2r rfl,v4i]
attribute [go_sem] v4j
theorem v4k {f:Func} (hf:f∈allPreds):Pure Gam 127 [z0p f] (.bool true):=by
 refine Pure.tab (tab:=j3e) rfl rfl ?_
 simp only[allPreds,List.mem_cons,List.not_mem_nil,or_false] at hf
 rcases hf with rfl | rfl | rfl | rfl | rfl <;> rfl
theorem SysV.pl {s:Sys} (hs:SysV s):s.preds.length≤5:=by have:=hs.preds.length_le;simpa [allPreds] using this
theorem v4l {s:Sys} (hs:SysV s):Pure Gam 83 [z1u s] (.bool true):=by
 have hpl:=hs.pl
 refine Pure.of rfl w9c rfl rfl rfl (az:=[z1u s]) rfl (by simp[idsL,z2r]) fun D B clk T hB hT=> ?_
 simp only[go_sem,z0,z1,z2,z3,reduceCtorEq,↓reduceIte,w0c,hB,z1u]
 refine z0t (fun m q=>∃ (i g0:Nat),i≤s.preds.length∧m=s.preds.length - i∧q.ts 1= .ptr (B + 0) g0 0 0∧q.ts 3= .int .i64 (i:Int)∧q.h=D++[.blk g0 [.agg [.sl (s.preds.map z0p) .no, .sl (s.clauses.map z0e) .no]] false false 0]) s.preds.length ⟨0,_,by omega,rfl,rfl,rfl,rfl⟩ ?_
 rintro m ⟨ts,h',clk⟩ P ⟨i,g0,hi,rfl,h1,h3,rfl⟩ hnx he hr
 dsimp only at h1 h3
 by_cases hlt:i < s.preds.length
 ·have f1:decide ((i:Int) < (s.preds.length:Int))=true:=by rw[decide_eq_true_iff];omega
  have f2:IntKind.i64.wrap ((i:Int) + 1)=((i + 1:Nat):Int):=z0c (by omega) (by omega)
  have hm:=List.getElem_mem hlt
  have p1:=v4k (hs.preds.mem hm)
  have hres:∀ f∈allPreds,f.result=1:=by decide
  have e1:=hres _ (hs.preds.mem hm)
  have p2:=q5w (s:=s) (nm:=s.preds[i].name) (by omega)
  rw[q2z hlt rfl fun p hpm e=>by
   have h3:=hs.pr.nodup
   have h4:((s.preds.take (i + 1)).map (·.name)).Nodup:=h3.sublist ((List.take_sublist _ _).map _)
   rw[List.take_succ_eq_append_getElem hlt,List.map_append,List.nodup_append] at h4
   exact h4.2.2 _ (List.mem_map.2 ⟨p,hpm,rfl⟩) _ (by simp) e] at p2
  simp only[z0p,z1u,nat] at p1 p2
  rw[e1] at p1
  simp only[Int.cast_ofNat_Int] at p1
  simp only[go_sem,z0,z1,z2,z3,reduceCtorEq,↓reduceIte,j5t,h1,h3,hB,List.length_map,f1,f2,z7k hlt,e1,nat,z0a p1,z0a p2,Int.cast_ofNat_Int,decide_true,Bool.not_true]
  exact hnx (s.preds.length - (i + 1)) _ (by omega) ⟨i + 1,g0,hlt,rfl,h1,rfl,rfl⟩
 ·have f1:decide ((i:Int) < (s.preds.length:Int))=false:=by rw[decide_eq_false_iff_not];omega
  simp only[go_sem,z0,z1,z2,z3,reduceCtorEq,↓reduceIte,j5t,h1,h3,hB,List.length_map,f1]
  refine he _ _ ?_
  simp only[go_sem,z0,z1,z2,z3,reduceCtorEq,↓reduceIte,]
  rw[z0f]
  exact hT _
theorem w5m {s:Sys} (hs:SysV s):Pure Gam 40 [z1u s] (.sl [] .no):=by
 have hpl:=hs.pl
 have hcl:=hs.len
 have p0:=v4l hs
 simp only[z1u] at p0
 refine Pure.of rfl y7s rfl rfl rfl (az:=[z1u s]) rfl (by simp[idsL,z2r]) fun D B clk T hB hT=> ?_
 have ea1:∀ (h:List AObj) (g:Nat),q4i h 7 1 (.ptr (B + 6) g 0 0) (.int .i64 1)=some (.ptr (B + 6) g 0 1,h):=fun _ _=>rfl
 have ea2:∀ (h:List AObj) (g:Nat),q4i h 7 1 (.ptr (B + 6) g 0 0) (.int .i64 2)=some (.ptr (B + 6) g 0 2,h):=fun _ _=>rfl
 have ea3:∀ (h:List AObj) (g:Nat),q4i h 7 1 (.ptr (B + 6) g 0 0) (.int .i64 3)=some (.ptr (B + 6) g 0 3,h):=fun _ _=>rfl
 have ea4:∀ (h:List AObj) (g:Nat),q4i h 7 1 (.ptr (B + 6) g 0 0) (.int .i64 4)=some (.ptr (B + 6) g 0 4,h):=fun _ _=>rfl
 have ea5:∀ (h:List AObj) (g:Nat),q4i h 7 1 (.ptr (B + 6) g 0 0) (.int .i64 5)=some (.ptr (B + 6) g 0 5,h):=fun _ _=>rfl
 have ea6:∀ (h:List AObj) (g:Nat),q4i h 7 1 (.ptr (B + 6) g 0 0) (.int .i64 6)=some (.ptr (B + 6) g 0 6,h):=fun _ _=>rfl
 have f0:decide ((512:Int) < (s.preds.length:Int))=false:=by rw[decide_eq_false_iff_not];omega
 have f00:decide ((2048:Int) < (s.clauses.length:Int))=false:=by rw[decide_eq_false_iff_not];omega
 simp only[go_sem,z0,z1,z2,z3,reduceCtorEq,↓reduceIte,y4n,hB,z1u,z0a p0,Bool.not_true,List.length_map,f0,f00]
 refine z0t (fun m q=>∃ (i g0:Nat) (o1 o2 o3 o4 o5 o6 o7 o8:AObj),i≤s.clauses.length∧m=s.clauses.length - i∧q.ts 1= .ptr (B + 0) g0 0 0∧q.ts 3= .sl [] .nil∧q.ts 4= .int .i64 (i:Int)∧q.h=D++[.blk g0 [.agg [.sl (s.preds.map z0p) .no, .sl (s.clauses.map z0e) .no]] false false 0,o1,o2,o3,o4,o5,o6,o7,o8]) s.clauses.length ⟨0,_,_,_,_,_,_,_,_,_,by omega,rfl,rfl,rfl,rfl,rfl⟩ ?_
 rintro m ⟨ts,h',clk⟩ P ⟨i,g0,o1,o2,o3,o4,o5,o6,o7,o8,hi,rfl,h1,h3,h4,rfl⟩ hnx he hr
 dsimp only at h1 h3 h4
 by_cases hlt:i < s.clauses.length
 ·have f1:decide ((i:Int) < (s.clauses.length:Int))=true:=by rw[decide_eq_true_iff];omega
  have f2:IntKind.i64.wrap ((i:Int) + 1)=((i + 1:Nat):Int):=z0c (by omega) (by omega)
  have hc:=hs.clauses _ (List.getElem_mem hlt)
  have hix:∀ h,z1t h 5 (.sl (s.clauses.map z0e) .no) (.int .i64 (i:Int))=some (.iptr [.sl (s.clauses[i].vars.map z1p) .no, .sl (s.clauses[i].body.map z2y) .no,z0g s.clauses[i].guard, .str s.clauses[i].head.pred, .sl (s.clauses[i].head.args.map z0g) .no] 0,h):=fun h=>z3k hlt rfl rfl
  generalize s.clauses[i]=c at hc hix
  obtain⟨hv,hb,hbo,hg,hh⟩:=hc
  have hvl:=q9d hv
  have hvm:∀ v∈c.vars,v∈z0o:=fun v h=>hv.mem h
  have p1:=v4h hs hv
  have p2:=j9d hvm (by omega) (by have:=hg.2.1;omega) (by decide) hg.1 (by decide)
  simp only[z1u,nat,z0g,Int.cast_ofNat_Int] at p1 p2
  have p3:∀ a,AppOk s.preds c.vars a→Pure Gam 85 [.agg [.sl (s.preds.map z0p) .no, .sl (s.clauses.map z0e) .no], .agg [.sl (c.vars.map z1p) .no, .sl (c.body.map z2y) .no, .sl (c.guard.map eNode) .no, .str c.head.pred, .sl (c.head.args.map z0g) .no], .agg [.str a.pred, .sl (a.args.map z0g) .no]] (.bool true):=fun a ha=>v4g hs hvm (by omega) ha
  simp only[go_sem,z0,z1,z2,z3,reduceCtorEq,↓reduceIte,v0i,h1,h3,h4,hB,List.length_map,f1,hix,z0g,z0a p1,Bool.not_true,ea2]
  refine z0t (fun m q=>∃ (j g5 g6:Nat),j≤c.body.length∧m=c.body.length - j∧q.ts 1= .ptr (B + 0) g0 0 0∧q.ts 3= .sl [] .nil∧q.ts 4= .int .i64 (i:Int)∧q.ts 5= .ptr (B + 5) g5 0 0∧q.ts 6= .ptr (B + 6) g6 0 0∧q.ts 7= .int .i64 (j:Int)∧q.h=D++[.blk g0 [.agg [.sl (s.preds.map z0p) .no, .sl (s.clauses.map z0e) .no]] false false 0,o1,o2,o3,o4, .blk g5 [.agg [.sl (c.vars.map z1p) .no, .sl (c.body.map z2y) .no, .sl (c.guard.map eNode) .no, .str c.head.pred, .sl (c.head.args.map z0g) .no]] false false 0, .blk g6 [.agg [.bool false, .bool false, .bool false, .bool false, .bool false, .bool false, .bool false]] false false 0,o7,o8]) c.body.length ⟨0,_,_,by omega,rfl,h1,h3,h4,rfl,rfl,rfl,rfl⟩ ?_
  clear h1 h3 h4
  rintro m ⟨ts,h',clk⟩ P2 ⟨j,g5,g6,hj,rfl,h1,h3,h4,h5,h6,h7,rfl⟩ hnx2 he2 hr2
  dsimp only at h1 h3 h4 h5 h6 h7
  by_cases hltj:j < c.body.length
  ·have e1:decide ((j:Int) < (c.body.length:Int))=true:=by rw[decide_eq_true_iff];omega
   have e2:IntKind.i64.wrap ((j:Int) + 1)=((j + 1:Nat):Int):=z0c (by omega) (by omega)
   have hja:∀ h,z1t h 2 (.sl (c.body.map z2y) .no) (.int .i64 (j:Int))=some (.iptr [.str c.body[j].pred, .sl (c.body[j].args.map z0g) .no] 0,h):=fun h=>z3k hltj rfl rfl
   have p4:=p3 _ (hbo _ (List.getElem_mem hltj))
   simp only[go_sem,z0,z1,z2,z3,reduceCtorEq,↓reduceIte,v0h,h1,h3,h4,h5,h6,h7,hB,List.length_map,e1,ea3,hja,z0a p4,Bool.not_true,e2]
   exact hnx2 (c.body.length - (j + 1)) _ (by omega) ⟨j + 1,g5,g6,hltj,rfl,h1,h3,h4,h5,h6,rfl,rfl⟩
  ·have e1:decide ((j:Int) < (c.body.length:Int))=false:=by rw[decide_eq_false_iff_not];omega
   simp only[go_sem,z0,z1,z2,z3,reduceCtorEq,↓reduceIte,v0h,h1,h3,h4,h5,h6,h7,hB,List.length_map,e1]
   refine he2 _ _ ?_
   have g1:decide ((400:Int) < (c.vars.length:Int))=false:=by rw[decide_eq_false_iff_not];omega
   have g2:decide ((8:Int) < (c.body.length:Int))=false:=by rw[decide_eq_false_iff_not];omega
   have last:∀ (ts:Tmps) (clk:Nat),ts 1= .ptr (B + 0) g0 0 0→ts 3= .sl [] .nil→ts 4= .int .i64 (i:Int)→ts 6= .ptr (B + 6) g6 0 0→ts 8= .int .i64 1→K Gam B (.loop x2f) [.block 4, .block 1, .seq (.region 3 [⟨some 35, .move (.tmp 4),none⟩,⟨some 36, .binOp .add (.one .int) (.tmp 35) (.const (.int .i64 1)),none⟩,⟨some 4, .move (.tmp 36),none⟩] [])] ⟨ts,D++[.blk g0 [.agg [.sl (s.preds.map z0p) .no, .sl (s.clauses.map z0e) .no]] false false 0,o1,o2,o3,o4, .blk g5 [.agg [.sl (c.vars.map z1p) .no, .sl (c.body.map z2y) .no, .sl (c.guard.map eNode) .no, .str c.head.pred, .sl (c.head.args.map z0g) .no]] false false 0, .blk g6 [.agg [.bool false, .bool false, .bool false, .bool false, .bool false, .bool false, .bool false]] false false 0,o7,o8],clk⟩ P:=by
    clear h1 h3 h4 h5 h6
    intro ts clk h1 h3 h4 h6 h8
    refine z0t (fun m q=>∃ k:Nat,1≤k∧k≤7∧m=7 - k∧q.ts 1= .ptr (B + 0) g0 0 0∧q.ts 3= .sl [] .nil∧q.ts 4= .int .i64 (i:Int)∧q.ts 6= .ptr (B + 6) g6 0 0∧q.ts 8= .int .i64 (k:Int)∧q.h=D++[.blk g0 [.agg [.sl (s.preds.map z0p) .no, .sl (s.clauses.map z0e) .no]] false false 0,o1,o2,o3,o4, .blk g5 [.agg [.sl (c.vars.map z1p) .no, .sl (c.body.map z2y) .no, .sl (c.guard.map eNode) .no, .str c.head.pred, .sl (c.head.args.map z0g) .no]] false false 0, .blk g6 [.agg [.bool false, .bool false, .bool false, .bool false, .bool false, .bool false, .bool false]] false false 0,o7,o8]) 6 ⟨1,by omega,by omega,rfl,h1,h3,h4,h6,h8,rfl⟩ ?_
    clear h1 h3 h4 h6 h8
    rintro m ⟨ts,h',clk⟩ P3 ⟨k,hk1,hk7,rfl,h1,h3,h4,h6,h8,rfl⟩ hnx3 he3 hr3
    dsimp only at h1 h3 h4 h6 h8
    have step:∀ k:Nat,IntKind.i64.wrap ((k:Int) + 1)=((k + 1:Nat):Int)∨7 < k:=fun k=>by
     by_cases hk:k≤7
     ·exact .inl (z0c (by omega) (by omega))
     ·exact .inr (by omega)
    have hw:=(step k).resolve_right (by omega)
    by_cases hk:k < 7
    ·have e1:decide ((k:Int) < 7)=true:=by rw[decide_eq_true_iff];omega
     have hcase:k=1∨k=2∨k=3∨k=4∨k=5∨k=6:=by omega
     rcases hcase with rfl | rfl | rfl | rfl | rfl | rfl
     ·simp only[Int.cast_ofNat_Int] at h8 hw e1
      simp only[go_sem,z0,z1,z2,z3,reduceCtorEq,↓reduceIte,x2f,h1,h3,h4,h6,h8,hB,e1,ea1,hw]
      exact hnx3 (7 - 2) _ (by omega) ⟨2,by omega,by omega,rfl,h1,h3,h4,h6,rfl,rfl⟩
     ·simp only[Int.cast_ofNat_Int] at h8 hw e1
      simp only[go_sem,z0,z1,z2,z3,reduceCtorEq,↓reduceIte,x2f,h1,h3,h4,h6,h8,hB,e1,ea2,hw]
      exact hnx3 (7 - 3) _ (by omega) ⟨3,by omega,by omega,rfl,h1,h3,h4,h6,rfl,rfl⟩
     ·simp only[Int.cast_ofNat_Int] at h8 hw e1
      simp only[go_sem,z0,z1,z2,z3,reduceCtorEq,↓reduceIte,x2f,h1,h3,h4,h6,h8,hB,e1,ea3,hw]
      exact hnx3 (7 - 4) _ (by omega) ⟨4,by omega,by omega,rfl,h1,h3,h4,h6,rfl,rfl⟩
     ·simp only[Int.cast_ofNat_Int] at h8 hw e1
      simp only[go_sem,z0,z1,z2,z3,reduceCtorEq,↓reduceIte,x2f,h1,h3,h4,h6,h8,hB,e1,ea4,hw]
      exact hnx3 (7 - 5) _ (by omega) ⟨5,by omega,by omega,rfl,h1,h3,h4,h6,rfl,rfl⟩
     ·simp only[Int.cast_ofNat_Int] at h8 hw e1
      simp only[go_sem,z0,z1,z2,z3,reduceCtorEq,↓reduceIte,x2f,h1,h3,h4,h6,h8,hB,e1,ea5,hw]
      exact hnx3 (7 - 6) _ (by omega) ⟨6,by omega,by omega,rfl,h1,h3,h4,h6,rfl,rfl⟩
     ·simp only[Int.cast_ofNat_Int] at h8 hw e1
      simp only[go_sem,z0,z1,z2,z3,reduceCtorEq,↓reduceIte,x2f,h1,h3,h4,h6,h8,hB,e1,ea6,hw]
      exact hnx3 (7 - 7) _ (by omega) ⟨7,by omega,by omega,rfl,h1,h3,h4,h6,rfl,rfl⟩
    ·have e1:decide ((k:Int) < 7)=false:=by rw[decide_eq_false_iff_not];omega
     simp only[go_sem,z0,z1,z2,z3,reduceCtorEq,↓reduceIte,x2f,h1,h3,h4,h6,h8,hB,e1]
     refine he3 _ _ ?_
     simp only[go_sem,z0,z1,z2,z3,reduceCtorEq,↓reduceIte,h1,h3,h4,f2]
     exact hnx (s.clauses.length - (i + 1)) _ (by omega) ⟨i + 1,g0,_,_,_,_,_,_,_,_,hlt,rfl,h1,h3,rfl,rfl⟩
   rcases hh with ⟨hp,hargs⟩ | ha
   ·have g3:decide (c.head.pred=[])=true:=by simp[hp]
    simp only[hargs,List.map_nil] at last
    simp only[go_sem,z0,z1,z2,z3,reduceCtorEq,↓reduceIte,h1,h3,h4,h5,h6,hB,z0a p2,Bool.not_true,Bool.not_false,ea4,ea5,ea6,g1,g2,g3,hargs,List.map_nil,decide_false,Int.lt_irrefl,List.length_map]
    exact last _ _ h1 h3 h4 h6 rfl
   ·obtain⟨f,hf,hpn,hfr⟩:=id ha
    have g3:decide (c.head.pred=[])=false:=by simp[hpn,hs.pr.name f hf]
    have p5:=p3 _ ha
    simp only[go_sem,z0,z1,z2,z3,reduceCtorEq,↓reduceIte,h1,h3,h4,h5,h6,hB,z0a p2,Bool.not_true,Bool.not_false,ea4,ea5,ea6,g3,g1,g2,z0a p5,List.length_map]
    exact last _ _ h1 h3 h4 h6 rfl
 ·have f1:decide ((i:Int) < (s.clauses.length:Int))=false:=by rw[decide_eq_false_iff_not];omega
  simp only[go_sem,z0,z1,z2,z3,reduceCtorEq,↓reduceIte,v0i,h1,h3,h4,hB,List.length_map,f1]
  refine he _ _ ?_
  simp only[go_sem,z0,z1,z2,z3,reduceCtorEq,↓reduceIte,h3]
  rw[z0h rfl rfl]
  exact hT _
theorem k6p {s:Sys} (hs:SysV s):Pure Gam 16 [z1u s] (.bool true):=by
 have p0:=w5m hs
 simp only[z1u] at p0
 refine Pure.of rfl y7r rfl rfl rfl (az:=[z1u s]) rfl (by simp[idsL,z2r]) fun D B clk T hB hT=> ?_
 simp only[go_sem,z0,z1,z2,z3,reduceCtorEq,↓reduceIte,y4m,hB,z1u,z0a p0,decide_true]
 rw[z0f]
 exact hT _
theorem q6m {l:List (List Nat)} {i:Nat} {h:List AObj} {t:Tip} {k:IntKind} (hi:i < l.length):z1t h 1 (.sl (z1m l) t) (.int k (i:Int))=some (.iptr [.str l[i]] 0,h):=z3k hi rfl rfl
theorem x5w {l:List (List Nat)} {nm:List Nat} {u:Tip} (hl:l.length≤1000):Pure Gam 63 [.sl (z1m l) u, .str nm] (.bool (decide (nm∈l))):=by
 refine Pure.of rfl y7j rfl rfl rfl (az:=[.sl (z1m l) .no, .str nm]) rfl (by simp[idsL,AV.ids,z2p]) fun D B clk T hB hT=> ?_
 have hsl:(z1m l).length=l.length:=List.length_map _
 simp only[go_sem,z0,z1,z2,z3,reduceCtorEq,↓reduceIte,y4e,hB]
 refine z0t (fun m q=>∃ i:Nat,i≤l.length∧m=l.length - i∧nm∉l.take i∧q.ts 0= .sl (z1m l) .no∧q.ts 1= .str nm∧q.ts 5= .int .i64 (i:Int)∧q.h=D) l.length ⟨0,by omega,rfl,by simp,rfl,rfl,rfl,by simp⟩ ?_
 rintro m ⟨ts,h',clk⟩ P ⟨i,hi,rfl,hno,h0,h1,h5,rfl⟩ hnx he hr
 dsimp only at h0 h1 h5
 by_cases hlt:i < l.length
 ·have f1:decide ((i:Int) < (l.length:Int))=true:=by rw[decide_eq_true_iff];omega
  have f2:IntKind.i64.wrap ((i:Int) + 1)=((i + 1:Nat):Int):=z0c (by omega) (by omega)
  by_cases hnm:l[i]=nm
  ·have e2:decide (l[i]=nm)=true:=by simp[hnm]
   simp only[go_sem,z0,z1,z2,z3,reduceCtorEq,↓reduceIte,k1m,h0,h1,h5,hsl,f1,e2,q6m hlt]
   refine hr _ ?_
   rw[show decide (nm∈l)=true from decide_eq_true (hnm ▸ List.getElem_mem hlt)] at hT
   simp only[go_sem,z0,z1,z2,z3,reduceCtorEq,↓reduceIte,]
   rw[z0f]
   exact hT _
  ·have e2:decide (l[i]=nm)=false:=by simp[hnm]
   simp only[go_sem,z0,z1,z2,z3,reduceCtorEq,↓reduceIte,k1m,h0,h1,h5,hsl,f1,f2,e2,q6m hlt]
   refine hnx (l.length - (i + 1)) _ (by omega) ⟨i + 1,hlt,rfl,fun hm=> ?_,h0,h1,rfl,rfl⟩
   rw[List.take_succ_eq_append_getElem hlt] at hm
   rcases List.mem_append.1 hm with hm | hm
   ·exact hno hm
   ·exact hnm (List.mem_singleton.1 hm).symm
 ·have f1:decide ((i:Int) < (l.length:Int))=false:=by rw[decide_eq_false_iff_not];omega
  rw[List.take_of_length_le (by omega)] at hno
  simp only[go_sem,z0,z1,z2,z3,reduceCtorEq,↓reduceIte,k1m,h0,h1,h5,hsl,f1]
  refine he _ _ ?_
  rw[show decide (nm∈l)=false from decide_eq_false hno] at hT
  simp only[go_sem,z0,z1,z2,z3,reduceCtorEq,↓reduceIte,]
  rw[z0f]
  exact hT _
def z0x (ps:List Func) (L:List (List Nat)):List AV:=ps.map fun p=> .bool (decide (p.name∈L))
theorem q1n {ps:List Func} {L:List (List Nat)}:idsL (z0x ps L)=[]:=z0d fun _=>rfl
theorem q9e {ps:List Func} {L:List (List Nat)} {i:Nat} {h:List AObj} {t:Tip} {k:IntKind} (hi:i < ps.length):z1t h 1 (.sl (z0x ps L) t) (.int k (i:Int))=some (.iptr [.bool (decide (ps[i].name∈L))] 0,h):=z3k hi rfl rfl
theorem k6q {s:Sys} {c:Clause} {L:List (List Nat)} {u:Tip} (hs:SysV s) (hb:c.body.length≤1000) (hbo:∀ a∈c.body,AppOk s.preds c.vars a):Pure Gam 47 [z1u s, .sl (z0x s.preds L) u,z0e c] (.bool (c.body.all fun a=>decide (a.pred∈L))):=by
 have hpl:=hs.pl
 refine Pure.of rfl y4d rfl rfl rfl (az:=[z1u s, .sl (z0x s.preds L) .no,z0e c]) rfl (by simp[idsL,AV.ids,z2r,q1n,z1s]) fun D B clk T hB hT=> ?_
 simp only[go_sem,z0,z1,z2,z3,reduceCtorEq,↓reduceIte,y4c,hB,z1u,z0e,z0g]
 refine z0t (fun m q=>∃ (i g0 g1:Nat),i≤c.body.length∧m=c.body.length - i∧(∀ a∈c.body.take i,a.pred∈L)∧q.ts 1= .sl (z0x s.preds L) .no∧q.ts 3= .ptr (B + 0) g0 0 0∧q.ts 5= .ptr (B + 1) g1 0 0∧q.ts 7= .int .i64 (i:Int)∧q.h=D++[.blk g0 [.agg [.sl (s.preds.map z0p) .no, .sl (s.clauses.map z0e) .no]] false false 0, .blk g1 [.agg [.sl (c.vars.map z1p) .no, .sl (c.body.map z2y) .no, .sl (c.guard.map eNode) .no, .str c.head.pred, .sl (c.head.args.map z0g) .no]] false false 0]) c.body.length ⟨0,_,_,by omega,rfl,by simp,rfl,rfl,rfl,rfl,rfl⟩ ?_
 rintro m ⟨ts,h',clk⟩ P ⟨i,g0,g1,hi,rfl,hno,h1,h3,h5,h7,rfl⟩ hnx he hr
 dsimp only at h1 h3 h5 h7
 by_cases hlt:i < c.body.length
 ·have f1:decide ((i:Int) < (c.body.length:Int))=true:=by rw[decide_eq_true_iff];omega
  have f2:IntKind.i64.wrap ((i:Int) + 1)=((i + 1:Nat):Int):=z0c (by omega) (by omega)
  have hja:∀ h,z1t h 2 (.sl (c.body.map z2y) .no) (.int .i64 (i:Int))=some (.iptr [.str c.body[i].pred, .sl (c.body[i].args.map z0g) .no] 0,h):=fun h=>z3k hlt rfl rfl
  obtain⟨f,hf,hpn,_⟩:=hbo _ (List.getElem_mem hlt)
  obtain⟨k,hk,hkf,hpa⟩:=z9v hs.pr hf
  have p1:=q5w (s:=s) (nm:=c.body[i].pred) (by omega)
  rw[hpn,hpa] at p1
  simp only[z1u] at p1
  have e3:∀ h,z1t h 1 (.sl (z0x s.preds L) .no) (.int .i64 (k:Int))=some (.iptr [.bool (decide (c.body[i].pred∈L))] 0,h):=fun h=>by rw[q9e hk,hkf,hpn]
  by_cases hin:c.body[i].pred∈L
  ·have e2:decide (c.body[i].pred∈L)=true:=by simp[hin]
   rw[e2] at e3
   simp only[go_sem,z0,z1,z2,z3,reduceCtorEq,↓reduceIte,k1l,h1,h3,h5,h7,hB,List.length_map,f1,f2,hja,hpn,z0a p1,e3,Bool.not_true]
   refine hnx (c.body.length - (i + 1)) _ (by omega) ⟨i + 1,g0,g1,hlt,rfl,fun a ha=> ?_,h1,h3,h5,rfl,rfl⟩
   rw[List.take_succ_eq_append_getElem hlt] at ha
   rcases List.mem_append.1 ha with ha | ha
   ·exact hno a ha
   ·rw[List.mem_singleton.1 ha];exact hin
  ·have e2:decide (c.body[i].pred∈L)=false:=by simp[hin]
   rw[e2] at e3
   simp only[go_sem,z0,z1,z2,z3,reduceCtorEq,↓reduceIte,k1l,h1,h3,h5,h7,hB,List.length_map,f1,hja,hpn,z0a p1,e3,Bool.not_false]
   refine hr _ ?_
   rw[show (c.body.all fun a=>decide (a.pred∈L))=false from by
    rw[List.all_eq_false]
    exact⟨_,List.getElem_mem hlt,by simp[hin]⟩] at hT
   simp only[go_sem,z0,z1,z2,z3,reduceCtorEq,↓reduceIte,]
   rw[z0f]
   exact hT _
 ·have f1:decide ((i:Int) < (c.body.length:Int))=false:=by rw[decide_eq_false_iff_not];omega
  rw[List.take_of_length_le (by omega)] at hno
  simp only[go_sem,z0,z1,z2,z3,reduceCtorEq,↓reduceIte,k1l,h1,h3,h5,h7,hB,List.length_map,f1]
  refine he _ _ ?_
  rw[show (c.body.all fun a=>decide (a.pred∈L))=true from List.all_eq_true.2 fun a ha=>by simp[hno a ha]] at hT
  simp only[go_sem,z0,z1,z2,z3,reduceCtorEq,↓reduceIte,]
  rw[z0f]
  exact hT _
theorem x1l {D L:List AObj} {B k g i:Nat} {es:List AV} {w:Bool} {b b':Bool} (hB:D.length=B) (hL:L[k]? =some (.blk g es true w 0)) (hi:es[i]? =some (.bool b')):z8x (D++L) 1 (.bool b) (.ptr (B + k) g i 0)=some (.undef,D++L.set k (.blk g (es.set i (.bool b)) true w 0)):=by
 have hb:z2a (D++L) (B + k) g=some (es,true,w,0):=by rw[z7b hB];exact z6l hL
 rw[q1w,hb]
 have hp:pub (D++L) (.bool b)=some (.bool b,D++L):=rfl
 simp only[hi,if_true,hp,x9l,x0x,List.length_singleton,List.all_cons,List.all_nil,x2b,Bool.and_self,true_and,Nat.zero_le,x9s,List.map_nil,List.contains_nil,Bool.not_false,and_self,implies_true,q0n,Nat.zero_add,Nat.le_refl,List.take_zero,List.nil_append,List.drop_succ_cons,List.drop_nil,List.append_nil,Option.map_some,q8a,z7x,z5j hB]
theorem z9w {ps:List Func} {L:List (List Nat)} {k:Nat} (hk:k < ps.length):(z0x ps L)[k]? =some (.bool (decide (ps[k].name∈L))):=by
 simp[z0x,hk]
theorem x5x {ps:List Func} {L:List (List Nat)} {k:Nat} (hn:(ps.map (·.name)).Nodup) (hk:k < ps.length):(z0x ps L).set k (.bool true)=z0x ps (L++[ps[k].name]):=by
 apply List.ext_getElem?
 intro j
 rw[List.getElem?_set]
 by_cases hj:j < ps.length
 ·rw[z9w hj]
  by_cases hkj:k=j
  ·subst hkj
   rw[if_pos rfl,if_pos (by simpa [z0x] using hk),z9w hj,decide_eq_true (by simp)]
  ·rw[if_neg hkj,z9w hj]
   have hne:ps[j].name≠ps[k].name:=fun e=>hkj ((List.getElem_inj (xs:=ps.map (·.name)) (i:=k) (j:=j) (h₀:=by simpa using hk) (h₁:=by simpa using hj) hn).1 (by simpa using e.symm))
   simp[hne]
 ·have h1:(z0x ps (L++[ps[k].name]))[j]? =none:=by simp[z0x];omega
  have h2:(z0x ps L)[j]? =none:=by simp[z0x];omega
  rw[h1,if_neg (by omega),h2]
theorem j9e {s:Sys} {B clk g0 g:Nat} {D:List AObj} {l:List (List Nat)} {ts:Tmps} {ks:List Kf} {Q:Post} (hs:SysV s) (hB:D.length=B) (hD:∀ a∈l,Der s.clauses a) (h1:ts 1= .ptr (B + 0) g0 0 0) (h3:ts 3= .ob (B + 1) g 0 s.preds.length) (h4:ts 4= .bool false) (h5:ts 5= .int .i64 0)
  (hQ:∀ (ts':Tmps) (l':List (List Nat)) (b:Bool) (clk':Nat),(∀ a∈l',Der s.clauses a)→(b=true→q5d s.clauses l' < q5d s.clauses l)→(b=false→l'=l∧∀ c∈s.clauses,q8z c l)→ts' 1= .ptr (B + 0) g0 0 0→ts' 3= .ob (B + 1) g 0 s.preds.length→ts' 4= .bool b→K Gam B (.exit 2) ks ⟨ts',D++[.blk g0 [.agg [.sl (s.preds.map z0p) .no, .sl (s.clauses.map z0e) .no]] false false 0, .blk g (z0x s.preds l') true false 0],clk'⟩ Q):
  K Gam B (.loop j2c) ks ⟨ts,D++[.blk g0 [.agg [.sl (s.preds.map z0p) .no, .sl (s.clauses.map z0e) .no]] false false 0, .blk g (z0x s.preds l) true false 0],clk⟩ Q:=by
 have hcl:=hs.len
 have hpl:=hs.pl
 refine z0t (fun m q=>∃ (i:Nat) (l':List (List Nat)) (b:Bool),i≤s.clauses.length∧m=s.clauses.length - i∧(∀ a∈l',Der s.clauses a)∧(b=true→q5d s.clauses l' < q5d s.clauses l)∧(b=false→l'=l∧∀ c∈s.clauses.take i,q8z c l)∧q.ts 1= .ptr (B + 0) g0 0 0∧q.ts 3= .ob (B + 1) g 0 s.preds.length∧q.ts 4= .bool b∧q.ts 5= .int .i64 (i:Int)∧q.h=D++[.blk g0 [.agg [.sl (s.preds.map z0p) .no, .sl (s.clauses.map z0e) .no]] false false 0, .blk g (z0x s.preds l') true false 0]) s.clauses.length ⟨0,l,false,by omega,rfl,hD,by simp,fun _=>⟨rfl,by simp⟩,h1,h3,h4,h5,rfl⟩ ?_
 clear h1 h3 h4 h5
 rintro m ⟨ts,h,clk⟩ P ⟨i,l',b,hi,rfl,hD',hb1,hb2,q1,q3,q4,q5,rfl⟩ hnx he hr
 dsimp only at q1 q3 q4 q5
 by_cases hlt:i < s.clauses.length
 ·have f1:decide ((i:Int) < (s.clauses.length:Int))=true:=by rw[decide_eq_true_iff];omega
  have f2:IntKind.i64.wrap ((i:Int) + 1)=((i + 1:Nat):Int):=z0c (by omega) (by omega)
  have hmem:=List.getElem_mem hlt
  have htake:s.clauses.take (i + 1)=s.clauses.take i++[s.clauses[i]]:=List.take_succ_eq_append_getElem hlt
  have hix:=fun h=>z6r (l:=s.clauses) (i:=i) (h:=h) (t:= .no) (k:= .i64) hlt
  have hcok:=hs.clauses _ hmem
  generalize s.clauses[i]=c at hmem htake hix hcok
  obtain⟨hv,hbl,hbo,hg,hh⟩:=hcok
  have same:q8z c l'→∀ (ts':Tmps) (clk':Nat),ts' 1= .ptr (B + 0) g0 0 0→ts' 3= .ob (B + 1) g 0 s.preds.length→ts' 4= .bool b→ts' 5= .int .i64 ((i + 1:Nat):Int)→P .norm ⟨ts',D++[.blk g0 [.agg [.sl (s.preds.map z0p) .no, .sl (s.clauses.map z0e) .no]] false false 0, .blk g (z0x s.preds l') true false 0],clk'⟩:=by
   intro hc ts' clk' r1 r3 r4 r5
   refine hnx (s.clauses.length - (i + 1)) _ (by omega) ⟨i + 1,l',b,hlt,rfl,hD',hb1,fun hbf=> ?_,r1,r3,r4,r5,rfl⟩
   obtain⟨e1,e2⟩:=hb2 hbf
   refine⟨e1,fun d hd=> ?_⟩
   rw[htake,List.mem_append,List.mem_singleton] at hd
   rcases hd with hd | rfl
   ·exact e2 d hd
   ·rw[←e1];exact hc
  have p1:=q5w (s:=s) (nm:=c.head.pred) (by omega)
  simp only[z1u] at p1
  rcases hh with ⟨hh,_⟩ | ha
  ·rw[hh,z8k fun p hp=>hs.pr.name p hp] at p1
   simp only[go_sem,z0,z1,z2,z3,reduceCtorEq,↓reduceIte,j2c,q1,q3,q4,q5,hB,List.length_map,f1,hix,hh,z0a p1,Int.reduceLE,Int.reduceNeg,decide_false,f2]
   exact same (fun h=>absurd hh h) _ _ q1 q3 q4 rfl
  ·obtain⟨f,hf,hpn,_⟩:=ha
   have hne:c.head.pred≠[]:=by rw[hpn];exact hs.pr.name f hf
   obtain⟨k,hk,hkf,hpa⟩:=z9v hs.pr hf
   rw[hpn,hpa] at p1
   have g1:decide ((0:Int)≤(k:Int))=true:=by rw[decide_eq_true_iff];omega
   have hget:(z0x s.preds l')[k]? =some (.bool (decide (c.head.pred∈l'))):=by rw[z9w hk,hkf,hpn]
   have hidx:=z8d (K:= .i64) (D:=D) (B:=B) (k:=1) (g:=g) (w:=false) (L:=[.blk g0 [.agg [.sl (s.preds.map z0p) .no, .sl (s.clauses.map z0e) .no]] false false 0, .blk g (z0x s.preds l') true false 0]) hB rfl hget rfl hk
   by_cases hin:c.head.pred∈l'
   ·rw[decide_eq_true hin] at hget
    simp only[go_sem,z0,z1,z2,z3,reduceCtorEq,↓reduceIte,j2c,q1,q3,q4,q5,hB,List.length_map,f1,hix,hpn,z0a p1,g1,hidx,hget,Bool.not_true,f2]
    exact same (fun _ _=>hin) _ _ q1 q3 q4 rfl
   ·rw[decide_eq_false hin] at hget
    simp only[go_sem,z0,z1,z2,z3,reduceCtorEq,↓reduceIte,j2c,q1,q3,q4,q5,hB,List.length_map,f1,hix,hpn,z0a p1,g1,hidx,hget,Bool.not_false]
    have p2:=k6q (L:=l') (u:= .no) hs (by omega) hbo
    have e0:Pure Gam 47 [.agg [.sl (s.preds.map z0p) .no, .sl (s.clauses.map z0e) .no], .sl (z0x s.preds l') .no, .agg [.sl (c.vars.map z1p) .no, .sl (c.body.map z2y) .no, .sl (c.guard.map eNode) .no, .str f.name, .sl (c.head.args.map z0g) .no]] (.bool (z2d c.body l')):=by
     rw[←hpn]
     exact p2
    have hpass:z1f (D++[.blk g0 [.agg [.sl (s.preds.map z0p) .no, .sl (s.clauses.map z0e) .no]] false false 0, .blk g (z0x s.preds l') true false 0]) [] 0 [.agg [.sl (s.preds.map z0p) .no, .sl (s.clauses.map z0e) .no], .ob (B + 1) g 0 s.preds.length, .agg [.sl (c.vars.map z1p) .no, .sl (c.body.map z2y) .no, .sl (c.guard.map eNode) .no, .str f.name, .sl (c.head.args.map z0g) .no]]=some [.agg [.sl (s.preds.map z0p) .no, .sl (s.clauses.map z0e) .no], .sl (z0x s.preds l') .no, .agg [.sl (c.vars.map z1p) .no, .sl (c.body.map z2y) .no, .sl (c.guard.map eNode) .no, .str f.name, .sl (c.head.args.map z0g) .no]]:=by
     have:=q0j (L:=[.blk g0 [.agg [.sl (s.preds.map z0p) .no, .sl (s.clauses.map z0e) .no]] false false 0, .blk g (z0x s.preds l') true false 0]) (k:=1) (g:=g) (w:=false) (len:=s.preds.length) hB rfl (by simp[z0x])
     simp only[z5g] at this
     simp only[z1f,List.contains_nil,Bool.false_eq_true,if_false,conv,z9f,this,Option.map_some]
    have hids:idsL [.agg [.sl (s.preds.map z0p) .no, .sl (s.clauses.map z0e) .no], .sl (z0x s.preds l') .no, .agg [.sl (c.vars.map z1p) .no, .sl (c.body.map z2y) .no, .sl (c.guard.map eNode) .no, .str f.name, .sl (c.head.args.map z0g) .no]]=[]:=by
     simp[idsL,AV.ids,q1n,z0d z2u,z0d z1s,z0d z5x,z0d z4g,z0d z3r,z0d z2c]
    rw[j7t e0 rfl y4d rfl rfl hpass rfl rfl hids rfl,if_pos (show (AV.bool (z2d c.body l')).flat=true from rfl)]
    cases hw:z2d c.body l' with
    | false=>
      simp only[go_sem,z0,z1,z2,z3,reduceCtorEq,↓reduceIte,q1,q3,q4,q5,hB,f2]
      exact same (fun _ h=>by rw[hw] at h;cases h) _ _ q1 q3 q4 rfl
    | true=>
      have hst:=fun (L:List AObj) (hL:L[1]? =some (.blk g (z0x s.preds l') true false 0))=>x1l (D:=D) (B:=B) (b:=true) hB hL hget
      have hset:=x5x (L:=l') hs.pr.nodup hk
      rw[hkf,←hpn] at hset
      rw[hset] at hst
      simp only[go_sem,z0,z1,z2,z3,reduceCtorEq,↓reduceIte,q1,q3,q4,q5,hB,f2,hidx,hst]
      have hlt2:=v3p hmem hin
      refine hnx (s.clauses.length - (i + 1)) _ (by omega) ⟨i + 1,l'++[c.head.pred],true,hlt,rfl,fun a ha=> ?_,fun _=> ?_,by simp,q1,q3,rfl,rfl,rfl⟩
      ·rw[List.mem_append,List.mem_singleton] at ha
       rcases ha with ha | rfl
       ·exact hD' a ha
       ·exact .of hmem hne fun a ha=>hD' _ (z3o.1 hw a ha)
      ·cases b with
       | true=>have:=hb1 rfl;omega
       | false=>rw[(hb2 rfl).1] at hlt2⊢;exact hlt2
 ·have f1:decide ((i:Int) < (s.clauses.length:Int))=false:=by rw[decide_eq_false_iff_not];omega
  have hti:s.clauses.take i=s.clauses:=List.take_of_length_le (by omega)
  rw[hti] at hb2
  simp only[go_sem,z0,z1,z2,z3,reduceCtorEq,↓reduceIte,j2c,q1,q3,q4,q5,hB,List.length_map,f1]
  refine he _ _ ?_
  exact hQ _ l' b _ hD' hb1 hb2 (by simp[z0b,q1]) (by simp[z0b,q3]) (by simp[z0b,q4])
theorem q4j {ps:List Func} {l l':List (List Nat)} (h:∀ a,a∈l↔a∈l'):z0x ps l=z0x ps l':=by
 unfold z0x
 apply List.map_congr_left
 intro p _
 simp[h]
theorem w5n {s:Sys} {l0:List (List Nat)} (hs:SysV s) (h0:∀ a,a∈l0↔Der s.clauses a):Pure Gam 21 [z1u s] (.sl (z0x s.preds l0) .no):=by
 have hpl:=hs.pl
 refine Pure.of rfl y7e rfl rfl rfl (az:=[z1u s]) rfl (by simp[idsL,z2r]) fun D B clk T hB hT=> ?_
 have hrep:List.replicate s.preds.length (AV.bool false)=z0x s.preds []:=by
  unfold z0x
  rw[←List.map_const']
  apply List.map_congr_left
  intro p _
  simp
 simp only[go_sem,z0,z1,z2,z3,reduceCtorEq,↓reduceIte,y3z,hB,z1u,List.length_map,q3x (z:= .bool false) (n:=s.preds.length) (b:=1) rfl (by omega),hrep]
 refine z0t (fun m q=>∃ (l:List (List Nat)) (b:Bool) (g0 g:Nat),m=(if b then q5d s.clauses l + 1 else 0)∧(∀ a∈l,Der s.clauses a)∧(b=false→∀ c∈s.clauses,q8z c l)∧q.ts 1= .ptr (B + 0) g0 0 0∧q.ts 3= .ob (B + 1) g 0 s.preds.length∧q.ts 4= .bool b∧q.h=D++[.blk g0 [.agg [.sl (s.preds.map z0p) .no, .sl (s.clauses.map z0e) .no]] false false 0, .blk g (z0x s.preds l) true false 0]) (q5d s.clauses [] + 1) ⟨[],true,_,_,rfl,by simp,by simp,rfl,rfl,rfl,rfl⟩ ?_
 rintro m ⟨ts,h,clk⟩ P ⟨l,b,g0,g,rfl,hD,hb,q1,q3,q4,rfl⟩ hnx he hr
 dsimp only at q1 q3 q4
 cases b with
 | true=>
   simp only[go_sem,z0,z1,z2,z3,reduceCtorEq,↓reduceIte,k9x,q1,q3,q4,hB]
   refine j9e hs hB hD q1 q3 rfl rfl fun ts' l' b clk' hD' hb1 hb2 r1 r3 r4=> ?_
   simp only[go_sem,z0,z1,z2,z3,reduceCtorEq,↓reduceIte,]
   refine hnx (if b then q5d s.clauses l' + 1 else 0) _ ?_ ⟨l',b,g0,g,rfl,hD',fun hbf=> ?_,r1,r3,r4,rfl⟩
   ·cases b with
    | true=>have:=hb1 rfl;simpa using this
    | false=>simp
   ·obtain⟨e1,e2⟩:=hb2 hbf
    rw[e1];exact e2
 | false=>
   simp only[go_sem,z0,z1,z2,z3,reduceCtorEq,↓reduceIte,k9x,q1,q3,q4,hB]
   refine he _ _ ?_
   simp only[go_sem,z0,z1,z2,z3,reduceCtorEq,↓reduceIte,q3]
   have hsrc:=q0j (L:=[.blk g0 [.agg [.sl (s.preds.map z0p) .no, .sl (s.clauses.map z0e) .no]] false false 0, .blk g (z0x s.preds l) true false 0]) (k:=1) (g:=g) (w:=false) (len:=s.preds.length) hB rfl (by simp[z0x])
   simp only[z5g] at hsrc
   rw[q4j (l':=l) fun a=>by rw[h0];exact⟨v3n (hb rfl),hD a⟩] at hT
   refine⟨.sl (z0x s.preds l) .no, ?_,by simp[AV.ids,q1n],rfl,hT _⟩
   simp only[z1o,conv,hsrc,Option.map_some]
theorem x8n {b:List App} {l:List (List Nat)} {i:Nat} (hi:i < b.length):z2d (b.take (i + 1)) l=(z2d (b.take i) l && decide (b[i].pred∈l)):=by
 unfold z2d
 rw[List.take_succ_eq_append_getElem hi,List.all_append]
 simp only[List.all_cons,List.all_nil,Bool.and_true]
theorem x1m {s:Sys} {c:Clause} {B clk g0 g g2 i0:Nat} {D:List AObj} {l:List (List Nat)} {x1:AV} {b0:Bool} {ts:Tmps} {ks:List Kf} {Q:Post} (hs:SysV s) (hbl:c.body.length≤1000) (hbo:∀ a∈c.body,AppOk s.preds c.vars a) (hB:D.length=B) (h1:ts 1=x1) (h2:ts 2= .ptr (B + 0) g0 0 0) (h5:ts 5= .ob (B + 1) g 0 s.preds.length) (h6:ts 6= .bool b0) (h7:ts 7= .int .i64 (i0:Int)) (h8:ts 8= .ptr (B + 2) g2 0 0) (h10:ts 10= .int .i64 0)
  (hQ:∀ (ts':Tmps) (clk':Nat),ts' 1=x1→ts' 2= .ptr (B + 0) g0 0 0→ts' 5= .ob (B + 1) g 0 s.preds.length→ts' 6= .bool (b0 || !z2d c.body l)→ts' 7= .int .i64 (i0:Int)→K Gam B (.exit 4) ks ⟨ts',D++[.blk g0 [.agg [.sl (s.preds.map z0p) .no, .sl (s.clauses.map z0e) .no]] false false 0, .blk g (z0x s.preds (z8h l c.body)) true false 0, .blk g2 [.agg [.sl (c.vars.map z1p) .no, .sl (c.body.map z2y) .no, .sl (c.guard.map eNode) .no, .str c.head.pred, .sl (c.head.args.map z0g) .no]] false false 0],clk'⟩ Q):
  K Gam B (.loop j5n) ks ⟨ts,D++[.blk g0 [.agg [.sl (s.preds.map z0p) .no, .sl (s.clauses.map z0e) .no]] false false 0, .blk g (z0x s.preds l) true false 0, .blk g2 [.agg [.sl (c.vars.map z1p) .no, .sl (c.body.map z2y) .no, .sl (c.guard.map eNode) .no, .str c.head.pred, .sl (c.head.args.map z0g) .no]] false false 0],clk⟩ Q:=by
 have hpl:=hs.pl
 refine z0t (fun m q=>∃ (j:Nat),j≤c.body.length∧m=c.body.length - j∧q.ts 1=x1∧q.ts 2= .ptr (B + 0) g0 0 0∧q.ts 5= .ob (B + 1) g 0 s.preds.length∧q.ts 6= .bool (b0 || !z2d (c.body.take j) l)∧q.ts 7= .int .i64 (i0:Int)∧q.ts 8= .ptr (B + 2) g2 0 0∧q.ts 10= .int .i64 (j:Int)∧q.h=D++[.blk g0 [.agg [.sl (s.preds.map z0p) .no, .sl (s.clauses.map z0e) .no]] false false 0, .blk g (z0x s.preds (z8h l (c.body.take j))) true false 0, .blk g2 [.agg [.sl (c.vars.map z1p) .no, .sl (c.body.map z2y) .no, .sl (c.guard.map eNode) .no, .str c.head.pred, .sl (c.head.args.map z0g) .no]] false false 0]) c.body.length ⟨0,by omega,rfl,h1,h2,h5,by show ts 6=_;rw[h6];simp[z2d],h7,h8,h10,rfl⟩ ?_
 clear h1 h2 h5 h6 h7 h8 h10
 rintro m ⟨ts,h,clk⟩ P ⟨j,hj,rfl,q1,q2,q5,q6,q7,q8,q10,rfl⟩ hnx he hr
 dsimp only at q1 q2 q5 q6 q7 q8 q10
 by_cases hlt:j < c.body.length
 ·have f1:decide ((j:Int) < (c.body.length:Int))=true:=by rw[decide_eq_true_iff];omega
  have f2:IntKind.i64.wrap ((j:Int) + 1)=((j + 1:Nat):Int):=z0c (by omega) (by omega)
  have hja:∀ h,z1t h 2 (.sl (c.body.map z2y) .no) (.int .i64 (j:Int))=some (.iptr [.str c.body[j].pred, .sl (c.body[j].args.map z0g) .no] 0,h):=fun h=>z3k hlt rfl rfl
  obtain⟨f,hf,hpn,_⟩:=hbo _ (List.getElem_mem hlt)
  obtain⟨k,hk,hkf,hpa⟩:=z9v hs.pr hf
  have p1:=q5w (s:=s) (nm:=c.body[j].pred) (by omega)
  rw[hpn,hpa] at p1
  simp only[z1u] at p1
  have hta:=x8j (l:=l) hlt
  have hwt:=x8n (l:=l) hlt
  generalize hl':z8h l (c.body.take j)=l' at *
  have hmem:c.body[j].pred∈l'↔c.body[j].pred∈l∨∃ a∈c.body.take j,a.pred=c.body[j].pred:=by rw[←hl',z7q];simp[eq_comm]
  have hget:(z0x s.preds l')[k]? =some (.bool (decide (c.body[j].pred∈l'))):=by rw[z9w hk,hkf,hpn]
  have hidx:=fun L (hL:L[1]? =some (.blk g (z0x s.preds l') true false 0))=>z8d (K:= .i64) (D:=D) (B:=B) (k:=1) (g:=g) (w:=false) (L:=L) hB hL hget rfl hk
  by_cases hin:c.body[j].pred∈l'
  ·rw[decide_eq_true hin] at hget
   simp only[go_sem,z0,z1,z2,z3,reduceCtorEq,↓reduceIte,j5n,q1,q2,q5,q6,q7,q8,q10,hB,List.length_map,f1,hja,hpn,z0a p1,hidx,hget,Bool.not_true,f2]
   refine hnx (c.body.length - (j + 1)) _ (by omega) ⟨j + 1,hlt,rfl,q1,q2,q5, ?_,q7,q8,rfl, ?_⟩
   ·have e:(b0 || !z2d (c.body.take (j + 1)) l)=(b0 || !z2d (c.body.take j) l):=by
     rw[hwt]
     rcases hmem.1 hin with h | ⟨a,ha,hap⟩
     ·simp[h]
     ·by_cases h:c.body[j].pred∈l
      ·simp[h]
      ·have:z2d (c.body.take j) l=false:=by
        rw[z2d,List.all_eq_false]
        exact⟨a,ha,by simp[hap,h]⟩
       simp[this]
    rw[e]
    exact q6
   ·rw[hta,v3q,if_pos hin]
  ·rw[decide_eq_false hin] at hget
   have hst:=fun (L:List AObj) (hL:L[1]? =some (.blk g (z0x s.preds l') true false 0))=>x1l (D:=D) (B:=B) (b:=true) hB hL hget
   have hset:=x5x (L:=l') hs.pr.nodup hk
   rw[hkf,←hpn] at hset
   rw[hset] at hst
   simp only[go_sem,z0,z1,z2,z3,reduceCtorEq,↓reduceIte,j5n,q1,q2,q5,q6,q7,q8,q10,hB,List.length_map,f1,hja,hpn,z0a p1,hidx,hget,Bool.not_false,hst,f2]
   have hnl:c.body[j].pred∉l:=fun h=>hin (hmem.2 (.inl h))
   refine hnx (c.body.length - (j + 1)) _ (by omega) ⟨j + 1,hlt,rfl,q1,q2,q5, ?_,q7,q8,rfl, ?_⟩
   ·rw[hwt]
    simp[hnl,z0b]
   ·rw[hta,v3q,if_neg hin,hpn]
 ·have f1:decide ((j:Int) < (c.body.length:Int))=false:=by rw[decide_eq_false_iff_not];omega
  rw[List.take_of_length_le (by omega)] at q6
  rw[List.take_of_length_le (by omega)]
  simp only[go_sem,z0,z1,z2,z3,reduceCtorEq,↓reduceIte,j5n,q1,q2,q5,q6,q7,q8,q10,hB,List.length_map,f1]
  refine he _ _ ?_
  exact hQ _ _ (by simp[z0b,q1]) (by simp[z0b,q2]) (by simp[z0b,q5]) (by simp[z0b,q6]) (by simp[z0b,q7])
theorem j2y {s:Sys} {Dv:List Nat→Prop} {dl:List (List Nat)} {B clk g0 g:Nat} {D:List AObj} {o2:AObj} {l:List (List Nat)} {ts:Tmps} {ks:List Kf} {Q:Post} (hs:SysV s) (hB:D.length=B) (hdl:∀ a,a∈dl↔Dv a) (hN:∀ a∈l,Need s.clauses Dv a) (h1:ts 1= .sl (z0x s.preds dl) .no) (h2:ts 2= .ptr (B + 0) g0 0 0) (h5:ts 5= .ob (B + 1) g 0 s.preds.length) (h6:ts 6= .bool false) (h7:ts 7= .int .i64 0)
  (hQ:∀ (ts':Tmps) (l':List (List Nat)) (b:Bool) (o2:AObj) (clk':Nat),(∀ a∈l',Need s.clauses Dv a)→(b=true→q2y s.clauses l' < q2y s.clauses l)→(b=false→l'=l∧∀ c∈s.clauses,q9a dl c l)→ts' 1= .sl (z0x s.preds dl) .no→ts' 2= .ptr (B + 0) g0 0 0→ts' 5= .ob (B + 1) g 0 s.preds.length→ts' 6= .bool b→K Gam B (.exit 2) ks ⟨ts',D++[.blk g0 [.agg [.sl (s.preds.map z0p) .no, .sl (s.clauses.map z0e) .no]] false false 0, .blk g (z0x s.preds l') true false 0,o2],clk'⟩ Q):
  K Gam B (.loop x4z) ks ⟨ts,D++[.blk g0 [.agg [.sl (s.preds.map z0p) .no, .sl (s.clauses.map z0e) .no]] false false 0, .blk g (z0x s.preds l) true false 0,o2],clk⟩ Q:=by
 have hcl:=hs.len
 have hpl:=hs.pl
 refine z0t (fun m q=>∃ (i:Nat) (l':List (List Nat)) (b:Bool) (o2:AObj),i≤s.clauses.length∧m=s.clauses.length - i∧(∀ a∈l',Need s.clauses Dv a)∧(b=true→q2y s.clauses l' < q2y s.clauses l)∧(b=false→l'=l∧∀ c∈s.clauses.take i,q9a dl c l)∧q.ts 1= .sl (z0x s.preds dl) .no∧q.ts 2= .ptr (B + 0) g0 0 0∧q.ts 5= .ob (B + 1) g 0 s.preds.length∧q.ts 6= .bool b∧q.ts 7= .int .i64 (i:Int)∧q.h=D++[.blk g0 [.agg [.sl (s.preds.map z0p) .no, .sl (s.clauses.map z0e) .no]] false false 0, .blk g (z0x s.preds l') true false 0,o2]) s.clauses.length ⟨0,l,false,o2,by omega,rfl,hN,by simp,fun _=>⟨rfl,by simp⟩,h1,h2,h5,h6,h7,rfl⟩ ?_
 clear h1 h2 h5 h6 h7
 rintro m ⟨ts,h,clk⟩ P ⟨i,l',b,o2,hi,rfl,hN',hb1,hb2,q1,q2,q5,q6,q7,rfl⟩ hnx he hr
 dsimp only at q1 q2 q5 q6 q7
 by_cases hlt:i < s.clauses.length
 ·have f1:decide ((i:Int) < (s.clauses.length:Int))=true:=by rw[decide_eq_true_iff];omega
  have f2:IntKind.i64.wrap ((i:Int) + 1)=((i + 1:Nat):Int):=z0c (by omega) (by omega)
  have hmem:=List.getElem_mem hlt
  have htake:s.clauses.take (i + 1)=s.clauses.take i++[s.clauses[i]]:=List.take_succ_eq_append_getElem hlt
  have hix:=fun h=>z6r (l:=s.clauses) (i:=i) (h:=h) (t:= .no) (k:= .i64) hlt
  have hcok:=hs.clauses _ hmem
  generalize s.clauses[i]=c at hmem htake hix hcok
  obtain⟨hv,hbl,hbo,hg,hh⟩:=hcok
  have same:q9a dl c l'→∀ (ts':Tmps) (clk':Nat) (o2:AObj),ts' 1= .sl (z0x s.preds dl) .no→ts' 2= .ptr (B + 0) g0 0 0→ts' 5= .ob (B + 1) g 0 s.preds.length→ts' 6= .bool b→ts' 7= .int .i64 ((i + 1:Nat):Int)→P .norm ⟨ts',D++[.blk g0 [.agg [.sl (s.preds.map z0p) .no, .sl (s.clauses.map z0e) .no]] false false 0, .blk g (z0x s.preds l') true false 0,o2],clk'⟩:=by
   intro hc ts' clk' o2 r1 r2 r5 r6 r7
   refine hnx (s.clauses.length - (i + 1)) _ (by omega) ⟨i + 1,l',b,o2,hlt,rfl,hN',hb1,fun hbf=> ?_,r1,r2,r5,r6,r7,rfl⟩
   obtain⟨e1,e2⟩:=hb2 hbf
   refine⟨e1,fun d hd=> ?_⟩
   rw[htake,List.mem_append,List.mem_singleton] at hd
   rcases hd with hd | rfl
   ·exact e2 d hd
   ·rw[←e1];exact hc
  have add:(c.head.pred=[]∨c.head.pred∈l')→z2d c.body dl=true→z2d c.body l'=false→∀ (ts':Tmps) (clk':Nat) (o2:AObj),ts' 1= .sl (z0x s.preds dl) .no→ts' 2= .ptr (B + 0) g0 0 0→ts' 5= .ob (B + 1) g 0 s.preds.length→ts' 6= .bool true→ts' 7= .int .i64 ((i + 1:Nat):Int)→P .norm ⟨ts',D++[.blk g0 [.agg [.sl (s.preds.map z0p) .no, .sl (s.clauses.map z0e) .no]] false false 0, .blk g (z0x s.preds (z8h l' c.body)) true false 0,o2],clk'⟩:=by
   intro hh e1 e2 ts' clk' o2 r1 r2 r5 r6 r7
   have hin:z2d c.body (z8h l' c.body)=true:=z3o.2 fun a ha=>z7q.2 (.inr ⟨a,ha,rfl⟩)
   have hlt2:=k3q hmem e2 hin fun a ha=>z7q.2 (.inl ha)
   refine hnx (s.clauses.length - (i + 1)) _ (by omega) ⟨i + 1,z8h l' c.body,true,o2,hlt,rfl,fun a ha=> ?_,fun _=> ?_,by simp,r1,r2,r5,r6,r7,rfl⟩
   ·rcases z7q.1 ha with ha | ⟨b,hb,rfl⟩
    ·exact hN' a ha
    ·have hbd:∀ a∈c.body,Dv a.pred:=fun a ha=>(hdl _).1 (z3o.1 e1 a ha)
     rcases hh with hh | hh
     ·exact .query hmem hh hbd hb
     ·exact .of hmem (hN' _ hh) hbd hb
   ·cases b with
    | true=>have:=hb1 rfl;omega
    | false=>rw[(hb2 rfl).1] at hlt2⊢;exact hlt2
  have p1:=q5w (s:=s) (nm:=c.head.pred) (by omega)
  have p2:=k6q (L:=dl) (u:= .no) hs (by omega) hbo
  have e0:Pure Gam 47 [.agg [.sl (s.preds.map z0p) .no, .sl (s.clauses.map z0e) .no], .sl (z0x s.preds dl) .no, .agg [.sl (c.vars.map z1p) .no, .sl (c.body.map z2y) .no, .sl (c.guard.map eNode) .no, .str c.head.pred, .sl (c.head.args.map z0g) .no]] (.bool (z2d c.body dl)):=p2
  simp only[z1u] at p1
  rcases hh with ⟨hh,_⟩ | ha
  ·rw[hh,z8k fun p hp=>hs.pr.name p hp] at p1
   rw[hh] at e0
   cases hw1:z2d c.body dl with
   | false=>
     rw[hw1] at e0
     simp only[go_sem,z0,z1,z2,z3,reduceCtorEq,↓reduceIte,x4z,q1,q2,q5,q6,q7,hB,List.length_map,f1,hix,z0g,hh,z0a p1,z0a e0,Bool.not_false,f2]
     exact same (fun _ h=>by rw[hw1] at h;cases h) _ _ _ q1 q2 q5 q6 rfl
   | true=>
     rw[hw1] at e0
     simp only[go_sem,z0,z1,z2,z3,reduceCtorEq,↓reduceIte,x4z,q1,q2,q5,q6,q7,hB,List.length_map,f1,hix,z0g,hh,z0a p1,z0a e0,Bool.not_true,Int.reduceLE,Int.reduceNeg,decide_false]
     rw[←hh]
     refine x1m (x1:= .sl (z0x s.preds dl) .no) (b0:=b) (i0:=i) hs (by omega) hbo hB q1 q2 q5 q6 q7 rfl rfl ?_
     intro ts' clk' r1 r2 r5 r6 r7
     cases hw2:z2d c.body l' with
     | true=>
       rw[hw2] at r6
       rw[q4j (l:=z8h l' c.body) (l':=l') fun a=>by
        rw[z7q]
        exact⟨fun h=>h.elim id fun ⟨x,hx,e⟩=>e ▸ z3o.1 hw2 x hx, .inl⟩]
       simp only[go_sem,z0,z1,z2,z3,reduceCtorEq,↓reduceIte,r1,r2,r5,r6,r7,f2]
       exact same (fun _ _=>hw2) _ _ _ r1 r2 r5 (by simpa [z0b] using r6) rfl
     | false=>
       rw[hw2] at r6
       simp only[go_sem,z0,z1,z2,z3,reduceCtorEq,↓reduceIte,r1,r2,r5,r6,r7,f2]
       exact add (.inl hh) hw1 hw2 _ _ _ r1 r2 r5 (by simpa [z0b] using r6) rfl
  ·obtain⟨f,hf,hpn,_⟩:=ha
   have hne:c.head.pred≠[]:=by rw[hpn];exact hs.pr.name f hf
   obtain⟨k,hk,hkf,hpa⟩:=z9v hs.pr hf
   rw[hpn,hpa] at p1
   rw[hpn] at e0
   have g1:decide ((0:Int)≤(k:Int))=true:=by rw[decide_eq_true_iff];omega
   have hget:(z0x s.preds l')[k]? =some (.bool (decide (c.head.pred∈l'))):=by rw[z9w hk,hkf,hpn]
   have hidx:=fun L (hL:L[1]? =some (.blk g (z0x s.preds l') true false 0))=>z8d (K:= .i64) (D:=D) (B:=B) (k:=1) (g:=g) (w:=false) (L:=L) hB hL hget rfl hk
   cases hw1:z2d c.body dl with
   | false=>
     rw[hw1] at e0
     simp only[go_sem,z0,z1,z2,z3,reduceCtorEq,↓reduceIte,x4z,q1,q2,q5,q6,q7,hB,List.length_map,f1,hix,z0g,hpn,z0a p1,z0a e0,Bool.not_false,f2]
     exact same (fun _ h=>by rw[hw1] at h;cases h) _ _ _ q1 q2 q5 q6 rfl
   | true=>
     rw[hw1] at e0
     by_cases hin:c.head.pred∈l'
     ·rw[decide_eq_true hin] at hget
      simp only[go_sem,z0,z1,z2,z3,reduceCtorEq,↓reduceIte,x4z,q1,q2,q5,q6,q7,hB,List.length_map,f1,hix,z0g,hpn,z0a p1,z0a e0,g1,hidx,hget,Bool.not_true]
      rw[←hpn]
      refine x1m (x1:= .sl (z0x s.preds dl) .no) (b0:=b) (i0:=i) hs (by omega) hbo hB q1 q2 q5 q6 q7 rfl rfl ?_
      intro ts' clk' r1 r2 r5 r6 r7
      cases hw2:z2d c.body l' with
      | true=>
        rw[hw2] at r6
        rw[q4j (l:=z8h l' c.body) (l':=l') fun a=>by
         rw[z7q]
         exact⟨fun h=>h.elim id fun ⟨x,hx,e⟩=>e ▸ z3o.1 hw2 x hx, .inl⟩]
        simp only[go_sem,z0,z1,z2,z3,reduceCtorEq,↓reduceIte,r1,r2,r5,r6,r7,f2]
        exact same (fun _ _=>hw2) _ _ _ r1 r2 r5 (by simpa [z0b] using r6) rfl
      | false=>
        rw[hw2] at r6
        simp only[go_sem,z0,z1,z2,z3,reduceCtorEq,↓reduceIte,r1,r2,r5,r6,r7,f2]
        exact add (.inr hin) hw1 hw2 _ _ _ r1 r2 r5 (by simpa [z0b] using r6) rfl
     ·rw[decide_eq_false hin] at hget
      simp only[go_sem,z0,z1,z2,z3,reduceCtorEq,↓reduceIte,x4z,q1,q2,q5,q6,q7,hB,List.length_map,f1,hix,z0g,hpn,z0a p1,z0a e0,g1,hidx,hget,Bool.not_true,Bool.not_false,f2]
      refine same (fun h=> ?_) _ _ _ q1 q2 q5 q6 rfl
      rcases h with h | h
      ·exact absurd h hne
      ·exact absurd h hin
 ·have f1:decide ((i:Int) < (s.clauses.length:Int))=false:=by rw[decide_eq_false_iff_not];omega
  have hti:s.clauses.take i=s.clauses:=List.take_of_length_le (by omega)
  rw[hti] at hb2
  simp only[go_sem,z0,z1,z2,z3,reduceCtorEq,↓reduceIte,x4z,q1,q2,q5,q6,q7,hB,List.length_map,f1]
  refine he _ _ ?_
  exact hQ _ l' b o2 _ hN' hb1 hb2 (by simp[z0b,q1]) (by simp[z0b,q2]) (by simp[z0b,q5]) (by simp[z0b,q6])
theorem w5o {s:Sys} {Dv:List Nat→Prop} {dl n0:List (List Nat)} {u:Tip} (hs:SysV s) (hdl:∀ a,a∈dl↔Dv a) (h0:∀ a,a∈n0↔Need s.clauses Dv a):Pure Gam 22 [z1u s, .sl (z0x s.preds dl) u] (.sl (z0x s.preds n0) .no):=by
 have hpl:=hs.pl
 refine Pure.of rfl y7f rfl rfl rfl (az:=[z1u s, .sl (z0x s.preds dl) .no]) rfl (by simp[idsL,z2r,AV.ids,q1n]) fun D B clk T hB hT=> ?_
 have hrep:List.replicate s.preds.length (AV.bool false)=z0x s.preds []:=by
  unfold z0x
  rw[←List.map_const']
  apply List.map_congr_left
  intro p _
  simp
 simp only[go_sem,z0,z1,z2,z3,reduceCtorEq,↓reduceIte,y4a,hB,z1u,List.length_map,q3x (z:= .bool false) (n:=s.preds.length) (b:=1) rfl (by omega),hrep]
 refine z0t (fun m q=>∃ (l:List (List Nat)) (b:Bool) (g0 g:Nat) (o2:AObj),m=(if b then q2y s.clauses l + 1 else 0)∧(∀ a∈l,Need s.clauses Dv a)∧(b=false→∀ c∈s.clauses,q9a dl c l)∧q.ts 1= .sl (z0x s.preds dl) .no∧q.ts 2= .ptr (B + 0) g0 0 0∧q.ts 5= .ob (B + 1) g 0 s.preds.length∧q.ts 6= .bool b∧q.h=D++[.blk g0 [.agg [.sl (s.preds.map z0p) .no, .sl (s.clauses.map z0e) .no]] false false 0, .blk g (z0x s.preds l) true false 0,o2]) (q2y s.clauses [] + 1) ⟨[],true,_,_,_,rfl,by simp,by simp,rfl,rfl,rfl,rfl,rfl⟩ ?_
 rintro m ⟨ts,h,clk⟩ P ⟨l,b,g0,g,o2,rfl,hD,hb,q1,q2,q5,q6,rfl⟩ hnx he hr
 dsimp only at q1 q2 q5 q6
 cases b with
 | true=>
   simp only[go_sem,z0,z1,z2,z3,reduceCtorEq,↓reduceIte,k9y,q1,q2,q5,q6,hB]
   refine j2y hs hB hdl hD q1 q2 q5 rfl rfl fun ts' l' b o2 clk' hD' hb1 hb2 r1 r2 r5 r6=> ?_
   simp only[go_sem,z0,z1,z2,z3,reduceCtorEq,↓reduceIte,]
   refine hnx (if b then q2y s.clauses l' + 1 else 0) _ ?_ ⟨l',b,g0,g,o2,rfl,hD',fun hbf=> ?_,r1,r2,r5,r6,rfl⟩
   ·cases b with
    | true=>have:=hb1 rfl;simpa using this
    | false=>simp
   ·obtain⟨e1,e2⟩:=hb2 hbf
    rw[e1];exact e2
 | false=>
   simp only[go_sem,z0,z1,z2,z3,reduceCtorEq,↓reduceIte,k9y,q1,q2,q5,q6,hB]
   refine he _ _ ?_
   simp only[go_sem,z0,z1,z2,z3,reduceCtorEq,↓reduceIte,q5]
   have hsrc:=q0j (L:=[.blk g0 [.agg [.sl (s.preds.map z0p) .no, .sl (s.clauses.map z0e) .no]] false false 0, .blk g (z0x s.preds l) true false 0,o2]) (k:=1) (g:=g) (w:=false) (len:=s.preds.length) hB rfl (by simp[z0x])
   simp only[z5g] at hsrc
   rw[q4j (l':=l) fun a=>by rw[h0];exact⟨k3p hdl (hb rfl),hD a⟩] at hT
   refine⟨.sl (z0x s.preds l) .no, ?_,by simp[AV.ids,q1n],rfl,hT _⟩
   simp only[z1o,conv,hsrc,Option.map_some]
theorem j9f {n:Int}:Pure Gam 150 [.int .i64 n, .int .i64 n] (.int .i64 0):=by
 refine Pure.of rfl w9a rfl rfl rfl rfl rfl fun D B clk T hB hT=> ?_
 simp only[go_sem,z0,z1,z2,z3,reduceCtorEq,↓reduceIte,w0a,Int.lt_irrefl,decide_false]
 rw[z0h rfl rfl]
 exact hT _
theorem q1o:∀ a:List Nat,z4m a a=false
 | []=>rfl
 | c::a=>by simp[z4m,q1o a]
theorem v4m {h:List AObj} {t:ETy} {a:List Nat}:z7j h .gtr t (.str a) (.str a)=some (.bool false,h):=by simp[z7j,z4o,q5g,q1o]
theorem v4n {a:List Nat}:Pure Gam 151 [.str a, .str a] (.int .i64 0):=by
 refine Pure.of rfl w9b rfl rfl rfl rfl rfl fun D B clk T hB hT=> ?_
 simp only[go_sem,z0,z1,z2,z3,reduceCtorEq,↓reduceIte,w0b,q1o,v4m]
 rw[z0h rfl rfl]
 exact hT _
theorem v4o {t:Term} {u v:Tip} (hl:t.length≤20000):Pure Gam 106 [.sl (t.map eNode) u, .sl (t.map eNode) v] (.int .i64 0):=by
 refine Pure.of rfl w8z rfl rfl rfl (az:=[.sl (t.map eNode) .no, .sl (t.map eNode) .no]) rfl (by simp[idsL,z6y]) fun D B clk T hB hT=> ?_
 have ea0:∀ (h:List AObj) (g:Nat),q4i h 5 1 (.ptr (B + 2) g 0 0) (.int .i64 0)=some (.ptr (B + 2) g 0 0,h):=fun _ _=>rfl
 have ea1:∀ (h:List AObj) (g:Nat),q4i h 5 1 (.ptr (B + 2) g 0 0) (.int .i64 1)=some (.ptr (B + 2) g 0 1,h):=fun _ _=>rfl
 have ea2:∀ (h:List AObj) (g:Nat),q4i h 5 1 (.ptr (B + 2) g 0 0) (.int .i64 2)=some (.ptr (B + 2) g 0 2,h):=fun _ _=>rfl
 have ea3:∀ (h:List AObj) (g:Nat),q4i h 5 1 (.ptr (B + 2) g 0 0) (.int .i64 3)=some (.ptr (B + 2) g 0 3,h):=fun _ _=>rfl
 have ea4:∀ (h:List AObj) (g:Nat),q4i h 5 1 (.ptr (B + 2) g 0 0) (.int .i64 4)=some (.ptr (B + 2) g 0 4,h):=fun _ _=>rfl
 simp only[go_sem,z0,z1,z2,z3,reduceCtorEq,↓reduceIte,v9z,hB]
 refine z0t (fun m q=>∃ (i:Nat) (o0 o1 o2:AObj),i≤t.length∧m=t.length - i∧q.ts 0= .sl (t.map eNode) .no∧q.ts 1= .sl (t.map eNode) .no∧q.ts 5= .int .i64 (i:Int)∧q.h=D++[o0,o1,o2]) t.length ⟨0,_,_,_,by omega,rfl,rfl,rfl,rfl,rfl⟩ ?_
 rintro m ⟨ts,h',clk⟩ P ⟨i,o0,o1,o2,hi,rfl,h0,h1,h5,rfl⟩ hnx he hr
 dsimp only at h0 h1 h5
 by_cases hlt:i < t.length
 ·have f1:decide ((i:Int) < (t.length:Int))=true:=by rw[decide_eq_true_iff];omega
  have f2:IntKind.i64.wrap ((i:Int) + 1)=((i + 1:Nat):Int):=z0c (by omega) (by omega)
  have hti:t[i]? =some t[i]:=List.getElem?_eq_getElem hlt
  generalize t[i]=n at hti
  simp only[go_sem,z0,z1,z2,z3,reduceCtorEq,↓reduceIte,j5s,h0,h1,h5,hB,List.length_map,f1,f2,z1y,z2o hti,z0a j9f,z0a v4n]
  refine⟨by simp[z1r,apart,z0q,z1l,z1v,AOp.isCall,hB,z6y], ?_⟩
  refine⟨by simp[z1r,apart,z0q,z1l,z1v,AOp.isCall,hB,z6y], ?_⟩
  refine z0t (fun m q=>∃ (k:Nat) (o0 o1:AObj) (g8:Nat),k≤5∧m=5 - k∧q.ts 0= .sl (t.map eNode) .no∧q.ts 1= .sl (t.map eNode) .no∧q.ts 5= .int .i64 (i:Int)∧q.ts 8= .ptr (B + 2) g8 0 0∧q.ts 9= .int .i64 (k:Int)∧q.h=D++[o0,o1, .blk g8 [.agg [.int .i64 0, .int .i64 0, .int .i64 0, .int .i64 0, .int .i64 0]] false false 0]) 5 ⟨0,_,_,_,by omega,rfl,h0,h1,h5,rfl,rfl,rfl⟩ ?_
  clear h0 h1 h5
  rintro m ⟨ts,h',clk⟩ P2 ⟨k,o0,o1,g8,hk5,rfl,r0,r1,r5,r8,r9,rfl⟩ hnx2 he2 hr2
  dsimp only at r0 r1 r5 r8 r9
  have hw:IntKind.i64.wrap ((k:Int) + 1)=((k + 1:Nat):Int):=z0c (by omega) (by omega)
  by_cases hk:k < 5
  ·have e1:decide ((k:Int) < 5)=true:=by rw[decide_eq_true_iff];omega
   have hcase:k=0∨k=1∨k=2∨k=3∨k=4:=by omega
   rcases hcase with rfl | rfl | rfl | rfl | rfl
   ·simp only[Int.cast_ofNat_Int] at r9 hw e1
    simp only[go_sem,z0,z1,z2,z3,reduceCtorEq,↓reduceIte,q8b,r0,r1,r5,r8,r9,hB,e1,ea0,hw,decide_true,Bool.not_true]
    exact hnx2 (5 - 1) _ (by omega) ⟨1,_,_,g8,by omega,rfl,r0,r1,r5,r8,rfl,rfl⟩
   ·simp only[Int.cast_ofNat_Int] at r9 hw e1
    simp only[go_sem,z0,z1,z2,z3,reduceCtorEq,↓reduceIte,q8b,r0,r1,r5,r8,r9,hB,e1,ea1,hw,decide_true,Bool.not_true]
    exact hnx2 (5 - 2) _ (by omega) ⟨2,_,_,g8,by omega,rfl,r0,r1,r5,r8,rfl,rfl⟩
   ·simp only[Int.cast_ofNat_Int] at r9 hw e1
    simp only[go_sem,z0,z1,z2,z3,reduceCtorEq,↓reduceIte,q8b,r0,r1,r5,r8,r9,hB,e1,ea2,hw,decide_true,Bool.not_true]
    exact hnx2 (5 - 3) _ (by omega) ⟨3,_,_,g8,by omega,rfl,r0,r1,r5,r8,rfl,rfl⟩
   ·simp only[Int.cast_ofNat_Int] at r9 hw e1
    simp only[go_sem,z0,z1,z2,z3,reduceCtorEq,↓reduceIte,q8b,r0,r1,r5,r8,r9,hB,e1,ea3,hw,decide_true,Bool.not_true]
    exact hnx2 (5 - 4) _ (by omega) ⟨4,_,_,g8,by omega,rfl,r0,r1,r5,r8,rfl,rfl⟩
   ·simp only[Int.cast_ofNat_Int] at r9 hw e1
    simp only[go_sem,z0,z1,z2,z3,reduceCtorEq,↓reduceIte,q8b,r0,r1,r5,r8,r9,hB,e1,ea4,hw,decide_true,Bool.not_true]
    exact hnx2 (5 - 5) _ (by omega) ⟨5,_,_,g8,by omega,rfl,r0,r1,r5,r8,rfl,rfl⟩
  ·have e1:decide ((k:Int) < 5)=false:=by rw[decide_eq_false_iff_not];omega
   simp only[go_sem,z0,z1,z2,z3,reduceCtorEq,↓reduceIte,q8b,r0,r1,r5,r8,r9,hB,e1]
   refine he2 _ _ ?_
   simp only[go_sem,z0,z1,z2,z3,reduceCtorEq,↓reduceIte,r0,r1,r5,f2]
   exact hnx (t.length - (i + 1)) _ (by omega) ⟨i + 1,_,_,_,hlt,rfl,r0,r1,rfl,rfl⟩
 ·have f1:decide ((i:Int) < (t.length:Int))=false:=by rw[decide_eq_false_iff_not];omega
  simp only[go_sem,z0,z1,z2,z3,reduceCtorEq,↓reduceIte,j5s,h0,h1,h5,hB,List.length_map,f1]
  refine he _ _ ?_
  simp only[go_sem,z0,z1,z2,z3,reduceCtorEq,↓reduceIte,h0,h1,List.length_map,z0a j9f]
  rw[z0h rfl rfl]
  exact hT _
theorem k6r {t:Term} {u v:Tip} (hl:t.length≤20000):Pure Gam 67 [.sl (t.map eNode) u, .sl (t.map eNode) v] (.bool true):=by
 have p1:=v4o (u:= .no) (v:= .no) hl
 refine Pure.of rfl y7q rfl rfl rfl (az:=[.sl (t.map eNode) .no, .sl (t.map eNode) .no]) rfl (by simp[idsL,z6y]) fun D B clk T hB hT=> ?_
 simp only[go_sem,z0,z1,z2,z3,reduceCtorEq,↓reduceIte,y4l,hB,z0a p1,decide_true]
 rw[z0f]
 exact hT _
theorem v4p {l:List Term} {u v:Tip} (hl:l.length≤20000) (ht:∀ t∈l,t.length≤20000):Pure Gam 107 [.sl (l.map z0g) u, .sl (l.map z0g) v] (.bool true):=by
 refine Pure.of rfl w8y rfl rfl rfl (az:=[.sl (l.map z0g) .no, .sl (l.map z0g) .no]) rfl (by simp[idsL,AV.ids,z0d z2c]) fun D B clk T hB hT=> ?_
 simp only[go_sem,z0,z1,z2,z3,reduceCtorEq,↓reduceIte,v9y,hB,List.length_map,decide_true,Bool.not_true]
 refine z0t (fun m q=>∃ (i:Nat),i≤l.length∧m=l.length - i∧q.ts 0= .sl (l.map z0g) .no∧q.ts 1= .sl (l.map z0g) .no∧q.ts 5= .int .i64 (i:Int)∧q.h=D) l.length ⟨0,by omega,rfl,rfl,rfl,rfl,by simp⟩ ?_
 rintro m ⟨ts,h',clk⟩ P ⟨i,hi,rfl,h0,h1,h5,rfl⟩ hnx he hr
 dsimp only at h0 h1 h5
 by_cases hlt:i < l.length
 ·have f1:decide ((i:Int) < (l.length:Int))=true:=by rw[decide_eq_true_iff];omega
  have f2:IntKind.i64.wrap ((i:Int) + 1)=((i + 1:Nat):Int):=z0c (by omega) (by omega)
  have p1:=k6r (u:= .no) (v:= .no) (ht _ (List.getElem_mem hlt))
  simp only[go_sem,z0,z1,z2,z3,reduceCtorEq,↓reduceIte,j5r,h0,h1,h5,hB,List.length_map,f1,f2,q1x hlt,z0g,z0a p1,Bool.not_true]
  exact hnx (l.length - (i + 1)) _ (by omega) ⟨i + 1,hlt,rfl,h0,h1,rfl,rfl⟩
 ·have f1:decide ((i:Int) < (l.length:Int))=false:=by rw[decide_eq_false_iff_not];omega
  simp only[go_sem,z0,z1,z2,z3,reduceCtorEq,↓reduceIte,j5r,h0,h1,h5,hB,List.length_map,f1]
  refine he _ _ ?_
  simp only[go_sem,z0,z1,z2,z3,reduceCtorEq,↓reduceIte,]
  rw[z0f]
  exact hT _
theorem w5p {l:List Nat} {u v:Tip} (hl:l.length≤20000):Pure Gam 33 [.sl (l.map nat) u, .sl (l.map nat) v] (.bool true):=by
 refine Pure.of rfl y7m rfl rfl rfl (az:=[.sl (l.map nat) .no, .sl (l.map nat) .no]) rfl (by simp[idsL,AV.ids,z0d (fun _=>z3h)]) fun D B clk T hB hT=> ?_
 simp only[go_sem,z0,z1,z2,z3,reduceCtorEq,↓reduceIte,y4h,hB,List.length_map,decide_true,Bool.not_true]
 refine z0t (fun m q=>∃ (i:Nat),i≤l.length∧m=l.length - i∧q.ts 0= .sl (l.map nat) .no∧q.ts 1= .sl (l.map nat) .no∧q.ts 5= .int .i64 (i:Int)∧q.h=D) l.length ⟨0,by omega,rfl,rfl,rfl,rfl,by simp⟩ ?_
 rintro m ⟨ts,h',clk⟩ P ⟨i,hi,rfl,h0,h1,h5,rfl⟩ hnx he hr
 dsimp only at h0 h1 h5
 by_cases hlt:i < l.length
 ·have f1:decide ((i:Int) < (l.length:Int))=true:=by rw[decide_eq_true_iff];omega
  have f2:IntKind.i64.wrap ((i:Int) + 1)=((i + 1:Nat):Int):=z0c (by omega) (by omega)
  simp only[go_sem,z0,z1,z2,z3,reduceCtorEq,↓reduceIte,v0e,h0,h1,h5,hB,List.length_map,f1,f2,q8e hlt,nat,decide_true,Bool.not_true]
  exact hnx (l.length - (i + 1)) _ (by omega) ⟨i + 1,hlt,rfl,h0,h1,rfl,rfl⟩
 ·have f1:decide ((i:Int) < (l.length:Int))=false:=by rw[decide_eq_false_iff_not];omega
  simp only[go_sem,z0,z1,z2,z3,reduceCtorEq,↓reduceIte,v0e,h0,h1,h5,hB,List.length_map,f1]
  refine he _ _ ?_
  simp only[go_sem,z0,z1,z2,z3,reduceCtorEq,↓reduceIte,]
  rw[z0f]
  exact hT _
theorem w5q {l:List Var} {u v:Tip} (hl:l.length≤20000):Pure Gam 66 [.sl (l.map z1p) u, .sl (l.map z1p) v] (.bool true):=by
 refine Pure.of rfl y7o rfl rfl rfl (az:=[.sl (l.map z1p) .no, .sl (l.map z1p) .no]) rfl (by simp[idsL,AV.ids,z0d z5x]) fun D B clk T hB hT=> ?_
 simp only[go_sem,z0,z1,z2,z3,reduceCtorEq,↓reduceIte,y4j,hB,List.length_map,decide_true,Bool.not_true]
 refine z0t (fun m q=>∃ (i:Nat),i≤l.length∧m=l.length - i∧q.ts 0= .sl (l.map z1p) .no∧q.ts 1= .sl (l.map z1p) .no∧q.ts 5= .int .i64 (i:Int)∧q.h=D) l.length ⟨0,by omega,rfl,rfl,rfl,rfl,by simp⟩ ?_
 rintro m ⟨ts,h',clk⟩ P ⟨i,hi,rfl,h0,h1,h5,rfl⟩ hnx he hr
 dsimp only at h0 h1 h5
 by_cases hlt:i < l.length
 ·have f1:decide ((i:Int) < (l.length:Int))=true:=by rw[decide_eq_true_iff];omega
  have f2:IntKind.i64.wrap ((i:Int) + 1)=((i + 1:Nat):Int):=z0c (by omega) (by omega)
  have e3:∀ (h:List AObj) (x:List Nat) (y:Int),z7j h .neq (.agg [.str, .int]) (.agg [.str x, .int .i64 y]) (.agg [.str x, .int .i64 y])=some (.bool false,h):=fun h x y=>by simp[z7j,z4o,AV.eqv,eqL,AV.eq1]
  simp only[go_sem,z0,z1,z2,z3,reduceCtorEq,↓reduceIte,v0g,h0,h1,h5,hB,List.length_map,f1,f2,z8b hlt,nat,e3,decide_true,Bool.not_true]
  exact hnx (l.length - (i + 1)) _ (by omega) ⟨i + 1,hlt,rfl,h0,h1,rfl,rfl⟩
 ·have f1:decide ((i:Int) < (l.length:Int))=false:=by rw[decide_eq_false_iff_not];omega
  simp only[go_sem,z0,z1,z2,z3,reduceCtorEq,↓reduceIte,v0g,h0,h1,h5,hB,List.length_map,f1]
  refine he _ _ ?_
  simp only[go_sem,z0,z1,z2,z3,reduceCtorEq,↓reduceIte,]
  rw[z0f]
  exact hT _
end Go.Proofs.YtmkblnlafljljaaGreatDoor.Am
