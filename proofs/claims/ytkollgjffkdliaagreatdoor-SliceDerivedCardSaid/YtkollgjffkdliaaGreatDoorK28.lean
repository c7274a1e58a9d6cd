/- Walking: the reference checks atoms and variables Walking: the reference checks a system Walking: the reference of slicing looks names up Walking: the reference's derivable predicates Walking: the ref -/
import Derived.Test.YtkollgjffkdliaaGreatDoorK27
open Bool renaming not_false → x6,not_true → z8
open Int renaming cast_ofNat_Int → z9,natAbs_natCast → u5,reduceEq → z7,reduceLT → u6
open List renaming append_nil → w9,getElem_mem → x8,length_append → k7,length_map → z6,length_nil → u3,length_singleton → v6,map_append → v8,map_nil → k8,mem_append → x4,mem_iff_getElem → d5,mem_map → w0,mem_singleton → y3,nil_append → y8,take_length → b7,take_of_length_le → u0,take_succ_eq_append_getElem → w7
open Nat renaming add_zero → b4,gcd → j8,le_refl → x7,le_trans → j1
set_option linter.all false
namespace Go.Proofs.YtkollgjffkdliaaGreatDoor.Am
open Go
set_option maxRecDepth 100000
theorem j7x {ps:List Func} {f:Func} (hp:PrOk ps) (hf:f∈ps):∃ k,∃ h:k < ps.length,ps[k]=f∧x3m ps f.name=(k:Int):=by
 obtain⟨k,hk,rfl⟩:=d5.1 hf
 refine⟨k,hk,rfl,q4d hk rfl fun p hpm e=> ?_⟩
 have h3:=hp.nodup
 have h4:((ps.take (k + 1)).map (·.name)).Nodup:=h3.sublist ((List.take_sublist _ _).map _)
 rw[w7 hk,v8,List.nodup_append] at h4
 exact h4.2.2 _ (w0.2 ⟨p,hpm,rfl⟩) _ (by simp) e
theorem w1g {s:Sys} {c:Clause} {a:App} (hs:SysV s) (hV:∀ v∈c.vars,v∈z1z) (hVl:c.vars.length≤1000) (ha:AppOk s.preds c.vars a):Pure Gam 148 [z4e s,z0j c,z4q a] (.bool true):=by
 obtain⟨f,hf,hpn,hal,hz⟩:=ha
 obtain⟨k,hk,hkf,hpa⟩:=j7x hs.pr hf
 have hfl:=(hs.pr.args f hf).1
 have hpl:s.preds.length≤1000:=by have:=hs.preds.length_le;simp[allPreds] at this;omega
 have p1:=k3g (s:=s) (nm:=a.pred) hpl
 rw[hpn,hpa] at p1
 simp only[z4e] at p1
 refine Pure.of rfl y8x rfl rfl rfl (az:=[z4e s,z0j c,z4q a]) rfl (by simp[z0i,z4j,z4b,z4r]) fun D B clk T hB hT=> ?_
 have e1:decide ((k:Int) < 0)=false:=by rw[n9];omega
 simp only[go_sem,y0r,hB,z4e,z0j,z4q,hpn,z6,z0a p1,e1,hal,z7u hk,hkf,decide_true,z8]
 refine z1f (fun m q=>∃ (i g0 g1 g2:Nat),i≤f.args.length∧m=f.args.length - i∧q.ts 3= .ptr (B + 0) g0 0 0∧q.ts 4= .ptr (B + 1) g1 0 0∧q.ts 5= .ptr (B + 2) g2 0 0∧q.ts 7= .int .i64 (k:Int)∧q.ts 8= .int .i64 (i:Int)∧q.h=D++[.blk g0 [.agg [.sl (s.preds.map z1m) .no, .sl (s.clauses.map z0j) .no]] false false 0, .blk g1 [.agg [.sl (c.vars.map z2b) .no, .sl (c.body.map z4q) .no,z0w c.guard, .str c.head.pred, .sl (c.head.args.map z0w) .no]] false false 0, .blk g2 [.agg [.str f.name, .sl (a.args.map z0w) .no]] false false 0]) f.args.length ⟨0,_,_,_,by omega,rfl,rfl,rfl,rfl,rfl,rfl,rfl⟩ ?_
 rintro m ⟨ts,h',clk⟩ P ⟨i,g0,g1,g2,hi,rfl,h3,h4,h5,h7,h8,rfl⟩ hnx he hr
 dsimp only at h3 h4 h5 h7 h8
 by_cases hlt:i < f.args.length
 ·have f1:decide ((i:Int) < (f.args.length:Int))=true:=by rw[r8];omega
  have f2:IntKind.i64.wrap ((i:Int) + 1)=((i + 1:Nat):Int):=z0c (by omega) (by omega)
  have hlt2:i < a.args.length:=by omega
  have hg:=hz (f.args[i],a.args[i]) (by
   rw[d5]
   exact⟨i,by simp;omega,by simp⟩)
  have p2:=k3f hV hVl (by have:=hg.2.1;omega) (by decide) hg.1 hg.2.2.1
  simp only[nat] at p2
  simp only[go_sem,j4c,h3,h4,h5,h7,h8,hB,z6,hal,f1,f2,q5b hlt2,z7u hk,hkf,q6d hlt,nat,z0a p2,z8]
  exact hnx (f.args.length - (i + 1)) _ (by omega) ⟨i + 1,g0,g1,g2,hlt,rfl,h3,h4,h5,h7,rfl,rfl⟩
 ·have f1:decide ((i:Int) < (f.args.length:Int))=false:=by rw[n9];omega
  simp only[go_sem,j4c,h3,h4,h5,h7,h8,hB,z6,hal,f1]
  refine he _ _ ?_
  simp only[go_sem,]
  rw[z0e]
  exact hT _
theorem x0x {V:List Var} (h:List.Sublist V z1z):V.length≤8:=by have:=h.length_le;simpa [z1z] using this
theorem w1h {s:Sys} {V:List Var} (hs:SysV s) (hV:List.Sublist V z1z):Pure Gam 147 [z4e s, .sl (V.map z2b) .no] (.bool true):=by
 have hVl:=x0x hV
 have hnd:(V.map (·.name)).Nodup:=(hV.map _).nodup (by decide)
 have hpl:s.preds.length≤1000:=by have:=hs.preds.length_le;simp[allPreds] at this;omega
 refine Pure.of rfl y8w rfl rfl rfl (az:=[z4e s, .sl (V.map z2b) .no]) rfl (by simp[z0i,z4j,z5i]) fun D B clk T hB hT=> ?_
 simp only[go_sem,y0q,hB,z4e]
 refine z1f (fun m q=>∃ (i g0:Nat),i≤V.length∧m=V.length - i∧q.ts 1= .sl (V.map z2b) .no∧q.ts 2= .ptr (B + 0) g0 0 0∧q.ts 5= .int .i64 (i:Int)∧q.h=D++[.blk g0 [.agg [.sl (s.preds.map z1m) .no, .sl (s.clauses.map z0j) .no]] false false 0]) V.length ⟨0,_,by omega,rfl,rfl,rfl,rfl,rfl⟩ ?_
 rintro m ⟨ts,h',clk⟩ P ⟨i,g0,hi,rfl,h1,h2,h5,rfl⟩ hnx he hr
 dsimp only at h1 h2 h5
 by_cases hlt:i < V.length
 ·have f1:decide ((i:Int) < (V.length:Int))=true:=by rw[r8];omega
  have f2:IntKind.i64.wrap ((i:Int) + 1)=((i + 1:Nat):Int):=z0c (by omega) (by omega)
  have hv:V[i]∈z1z:=hV.mem (x8 hlt)
  have hnew:∀ v∈V.take i,v.name≠V[i].name:=fun v hv e=>by
   have h4:((V.take (i + 1)).map (·.name)).Nodup:=hnd.sublist ((List.take_sublist _ _).map _)
   rw[w7 hlt,v8,List.nodup_append] at h4
   exact h4.2.2 _ (w0.2 ⟨v,hv,rfl⟩) _ (by simp) e
  have hso:=q5j hv
  have p1:=k3c hv
  have p2:=k2v hso.1 hso.2
  have p3:=w1f (u:= .no) (V:=V.take i) (nm:=V[i].name) (by simp;omega) hnew
  have p4:=k3g (s:=s) (nm:=V[i].name) hpl
  rw[x0w fun p hp=>hs.apart p hp _ hv] at p4
  simp only[nat,z4e] at p2 p4
  have e3:∀ h,slV h (some 2) (.sl (V.map z2b) .no) none (some (.int .i64 (i:Int))) none=some (.sl ((V.take i).map z2b) .no,h):=fun h=>by
   have hh:z5m 2 (V.map z2b)=true:=by cases V <;> rfl
   rw[x4z (by simp;omega) hh,List.map_take];simp
  simp only[go_sem,j4b,h1,h2,h5,hB,z6,f1,f2,z6r hlt,nat,z0a p1,z0a p2,e3,z0a p3,z0a p4,z8,x6,Int.reduceLE,decide_false]
  exact hnx (V.length - (i + 1)) _ (by omega) ⟨i + 1,g0,hlt,rfl,h1,h2,rfl,rfl⟩
 ·have f1:decide ((i:Int) < (V.length:Int))=false:=by rw[n9];omega
  simp only[go_sem,j4b,h1,h2,h5,hB,z6,f1]
  refine he _ _ ?_
  simp only[go_sem,]
  rw[z0e]
  exact hT _
def x5z (h:List AObj) (n esz:Nat) (x ix:AV):Option (AV×List AObj):=match ix with
 | .int _ i=>if 0≤i then match x with
   | .ptr s g k o=>if i.toNat < n then some (.ptr s g k (o + i.toNat * esz),h) else none
   | .iptr cs o=>if i.toNat < n then some (.iptr cs (o + i.toNat * esz),h) else none
   | _=>none
   else none
 | _=>none
theorem w1i {h:List AObj} {base g n esz:Nat} {ts:Tmps} {x ix:AOpd}:prim h base g ts (.indexAddr (some n) esz x ix)=x5z h n esz (x.ev ts) (ix.ev ts):=by
 simp only[prim,x5z]
 cases ix.ev ts <;> try rfl
 cases x.ev ts <;> rfl
theorem w1j {B n esz g clk:Nat} {ts:Tmps} {h:List AObj} {x ix:AOpd} {dst:Option Nat} {os:List AOper} {ks:List Kf} {Q:Post}:O Gam B .plain g (⟨dst,(.indexAddr (some n) esz x ix),none⟩::os) ⟨ts,h,clk⟩ ks Q=PP Gam B (x5z h n esz (x.ev ts) (ix.ev ts)) dst g os ts clk ks Q:=by rw[q3u rfl,w1i]
attribute [go_sem] w1j
theorem w1k {f:Func} (hf:f∈allPreds):Pure Gam 222 [z1m f] (.bool true):=by
 refine Pure.tab (tab:=j8j) rfl rfl ?_
 simp only[allPreds,List.mem_cons,List.not_mem_nil,or_false] at hf
 rcases hf with rfl | rfl | rfl | rfl | rfl | rfl <;> rfl
theorem SysV.pl {s:Sys} (hs:SysV s):s.preds.length≤6:=by have:=hs.preds.length_le;simpa [allPreds] using this
theorem w1l {s:Sys} (hs:SysV s):Pure Gam 146 [z4e s] (.bool true):=by
 have hpl:=hs.pl
 refine Pure.of rfl y8v rfl rfl rfl (az:=[z4e s]) rfl (by simp[z0i,z4j]) fun D B clk T hB hT=> ?_
 simp only[go_sem,y0p,hB,z4e]
 refine z1f (fun m q=>∃ (i g0:Nat),i≤s.preds.length∧m=s.preds.length - i∧q.ts 1= .ptr (B + 0) g0 0 0∧q.ts 3= .int .i64 (i:Int)∧q.h=D++[.blk g0 [.agg [.sl (s.preds.map z1m) .no, .sl (s.clauses.map z0j) .no]] false false 0]) s.preds.length ⟨0,_,by omega,rfl,rfl,rfl,rfl⟩ ?_
 rintro m ⟨ts,h',clk⟩ P ⟨i,g0,hi,rfl,h1,h3,rfl⟩ hnx he hr
 dsimp only at h1 h3
 by_cases hlt:i < s.preds.length
 ·have f1:decide ((i:Int) < (s.preds.length:Int))=true:=by rw[r8];omega
  have f2:IntKind.i64.wrap ((i:Int) + 1)=((i + 1:Nat):Int):=z0c (by omega) (by omega)
  have hm:=x8 hlt
  have p1:=w1k (hs.preds.mem hm)
  have hres:∀ f∈allPreds,f.result=1:=by decide
  have e1:=hres _ (hs.preds.mem hm)
  have p2:=k3g (s:=s) (nm:=s.preds[i].name) (by omega)
  rw[q4d hlt rfl fun p hpm e=>by
   have h3:=hs.pr.nodup
   have h4:((s.preds.take (i + 1)).map (·.name)).Nodup:=h3.sublist ((List.take_sublist _ _).map _)
   rw[w7 hlt,v8,List.nodup_append] at h4
   exact h4.2.2 _ (w0.2 ⟨p,hpm,rfl⟩) _ (by simp) e] at p2
  simp only[z1m,z4e,nat] at p1 p2
  rw[e1] at p1
  simp only[z9] at p1
  simp only[go_sem,j4a,h1,h3,hB,z6,f1,f2,z7u hlt,e1,nat,z0a p1,z0a p2,z9,decide_true,z8]
  exact hnx (s.preds.length - (i + 1)) _ (by omega) ⟨i + 1,g0,hlt,rfl,h1,rfl,rfl⟩
 ·have f1:decide ((i:Int) < (s.preds.length:Int))=false:=by rw[n9];omega
  simp only[go_sem,j4a,h1,h3,hB,z6,f1]
  refine he _ _ ?_
  simp only[go_sem,]
  rw[z0e]
  exact hT _
theorem y2x {s:Sys} (hs:SysV s):Pure Gam 82 [z4e s] (.sl [] .no):=by
 have hpl:=hs.pl
 have hcl:=hs.len
 have p0:=w1l hs
 simp only[z4e] at p0
 refine Pure.of rfl u6k rfl rfl rfl (az:=[z4e s]) rfl (by simp[z0i,z4j]) fun D B clk T hB hT=> ?_
 have ea1:∀ (h:List AObj) (g:Nat),x5z h 7 1 (.ptr (B + 6) g 0 0) (.int .i64 1)=some (.ptr (B + 6) g 0 1,h):=fun _ _=>rfl
 have ea2:∀ (h:List AObj) (g:Nat),x5z h 7 1 (.ptr (B + 6) g 0 0) (.int .i64 2)=some (.ptr (B + 6) g 0 2,h):=fun _ _=>rfl
 have ea3:∀ (h:List AObj) (g:Nat),x5z h 7 1 (.ptr (B + 6) g 0 0) (.int .i64 3)=some (.ptr (B + 6) g 0 3,h):=fun _ _=>rfl
 have ea4:∀ (h:List AObj) (g:Nat),x5z h 7 1 (.ptr (B + 6) g 0 0) (.int .i64 4)=some (.ptr (B + 6) g 0 4,h):=fun _ _=>rfl
 have ea5:∀ (h:List AObj) (g:Nat),x5z h 7 1 (.ptr (B + 6) g 0 0) (.int .i64 5)=some (.ptr (B + 6) g 0 5,h):=fun _ _=>rfl
 have ea6:∀ (h:List AObj) (g:Nat),x5z h 7 1 (.ptr (B + 6) g 0 0) (.int .i64 6)=some (.ptr (B + 6) g 0 6,h):=fun _ _=>rfl
 have f0:decide ((512:Int) < (s.preds.length:Int))=false:=by rw[n9];omega
 have f00:decide ((2048:Int) < (s.clauses.length:Int))=false:=by rw[n9];omega
 simp only[go_sem,u3d,hB,z4e,z0a p0,z8,z6,f0,f00]
 refine z1f (fun m q=>∃ (i g0:Nat) (o1 o2 o3 o4 o5 o6 o7 o8:AObj),i≤s.clauses.length∧m=s.clauses.length - i∧q.ts 1= .ptr (B + 0) g0 0 0∧q.ts 3= .sl [] .nil∧q.ts 4= .int .i64 (i:Int)∧q.h=D++[.blk g0 [.agg [.sl (s.preds.map z1m) .no, .sl (s.clauses.map z0j) .no]] false false 0,o1,o2,o3,o4,o5,o6,o7,o8]) s.clauses.length ⟨0,_,_,_,_,_,_,_,_,_,by omega,rfl,rfl,rfl,rfl,rfl⟩ ?_
 rintro m ⟨ts,h',clk⟩ P ⟨i,g0,o1,o2,o3,o4,o5,o6,o7,o8,hi,rfl,h1,h3,h4,rfl⟩ hnx he hr
 dsimp only at h1 h3 h4
 by_cases hlt:i < s.clauses.length
 ·have f1:decide ((i:Int) < (s.clauses.length:Int))=true:=by rw[r8];omega
  have f2:IntKind.i64.wrap ((i:Int) + 1)=((i + 1:Nat):Int):=z0c (by omega) (by omega)
  have hc:=hs.clauses _ (x8 hlt)
  have hix:∀ h,z1v h 5 (.sl (s.clauses.map z0j) .no) (.int .i64 (i:Int))=some (.iptr [.sl (s.clauses[i].vars.map z2b) .no, .sl (s.clauses[i].body.map z4q) .no,z0w s.clauses[i].guard, .str s.clauses[i].head.pred, .sl (s.clauses[i].head.args.map z0w) .no] 0,h):=fun h=>z3v hlt rfl rfl
  generalize s.clauses[i]=c at hc hix
  obtain⟨hv,hb,hbo,hg,hh⟩:=hc
  have hvl:=x0x hv
  have hvm:∀ v∈c.vars,v∈z1z:=fun v h=>hv.mem h
  have p1:=w1h hs hv
  have p2:=k3f hvm (by omega) (by have:=hg.2.1;omega) (by decide) hg.1 (by decide)
  simp only[z4e,nat,z0w,z9] at p1 p2
  have p3:∀ a,AppOk s.preds c.vars a→Pure Gam 148 [.agg [.sl (s.preds.map z1m) .no, .sl (s.clauses.map z0j) .no], .agg [.sl (c.vars.map z2b) .no, .sl (c.body.map z4q) .no, .sl (c.guard.map eNode) .no, .str c.head.pred, .sl (c.head.args.map z0w) .no], .agg [.str a.pred, .sl (a.args.map z0w) .no]] (.bool true):=fun a ha=>w1g hs hvm (by omega) ha
  simp only[go_sem,k7o,h1,h3,h4,hB,z6,f1,hix,z0w,z0a p1,z8,ea2]
  refine z1f (fun m q=>∃ (j g5 g6:Nat),j≤c.body.length∧m=c.body.length - j∧q.ts 1= .ptr (B + 0) g0 0 0∧q.ts 3= .sl [] .nil∧q.ts 4= .int .i64 (i:Int)∧q.ts 5= .ptr (B + 5) g5 0 0∧q.ts 6= .ptr (B + 6) g6 0 0∧q.ts 7= .int .i64 (j:Int)∧q.h=D++[.blk g0 [.agg [.sl (s.preds.map z1m) .no, .sl (s.clauses.map z0j) .no]] false false 0,o1,o2,o3,o4, .blk g5 [.agg [.sl (c.vars.map z2b) .no, .sl (c.body.map z4q) .no, .sl (c.guard.map eNode) .no, .str c.head.pred, .sl (c.head.args.map z0w) .no]] false false 0, .blk g6 [.agg [.bool false, .bool false, .bool false, .bool false, .bool false, .bool false, .bool false]] false false 0,o7,o8]) c.body.length ⟨0,_,_,by omega,rfl,h1,h3,h4,rfl,rfl,rfl,rfl⟩ ?_
  clear h1 h3 h4
  rintro m ⟨ts,h',clk⟩ P2 ⟨j,g5,g6,hj,rfl,h1,h3,h4,h5,h6,h7,rfl⟩ hnx2 he2 hr2
  dsimp only at h1 h3 h4 h5 h6 h7
  by_cases hltj:j < c.body.length
  ·have e1:decide ((j:Int) < (c.body.length:Int))=true:=by rw[r8];omega
   have e2:IntKind.i64.wrap ((j:Int) + 1)=((j + 1:Nat):Int):=z0c (by omega) (by omega)
   have hja:∀ h,z1v h 2 (.sl (c.body.map z4q) .no) (.int .i64 (j:Int))=some (.iptr [.str c.body[j].pred, .sl (c.body[j].args.map z0w) .no] 0,h):=fun h=>z3v hltj rfl rfl
   have p4:=p3 _ (hbo _ (x8 hltj))
   simp only[go_sem,k1x,h1,h3,h4,h5,h6,h7,hB,z6,e1,ea3,hja,z0a p4,z8,e2]
   exact hnx2 (c.body.length - (j + 1)) _ (by omega) ⟨j + 1,g5,g6,hltj,rfl,h1,h3,h4,h5,h6,rfl,rfl⟩
  ·have e1:decide ((j:Int) < (c.body.length:Int))=false:=by rw[n9];omega
   simp only[go_sem,k1x,h1,h3,h4,h5,h6,h7,hB,z6,e1]
   refine he2 _ _ ?_
   have g1:decide ((400:Int) < (c.vars.length:Int))=false:=by rw[n9];omega
   have g2:decide ((8:Int) < (c.body.length:Int))=false:=by rw[n9];omega
   have last:∀ (ts:Tmps) (clk:Nat),ts 1= .ptr (B + 0) g0 0 0→ts 3= .sl [] .nil→ts 4= .int .i64 (i:Int)→ts 6= .ptr (B + 6) g6 0 0→ts 8= .int .i64 1→K Gam B (.loop q7m) [.block 4, .block 1, .seq (.region 3 [⟨some 35, .move (.tmp 4),none⟩,⟨some 36, .binOp .add (.one .int) (.tmp 35) (.const (.int .i64 1)),none⟩,⟨some 4, .move (.tmp 36),none⟩] [])] ⟨ts,D++[.blk g0 [.agg [.sl (s.preds.map z1m) .no, .sl (s.clauses.map z0j) .no]] false false 0,o1,o2,o3,o4, .blk g5 [.agg [.sl (c.vars.map z2b) .no, .sl (c.body.map z4q) .no, .sl (c.guard.map eNode) .no, .str c.head.pred, .sl (c.head.args.map z0w) .no]] false false 0, .blk g6 [.agg [.bool false, .bool false, .bool false, .bool false, .bool false, .bool false, .bool false]] false false 0,o7,o8],clk⟩ P:=by
    clear h1 h3 h4 h5 h6
    intro ts clk h1 h3 h4 h6 h8
    refine z1f (fun m q=>∃ k:Nat,1≤k∧k≤7∧m=7 - k∧q.ts 1= .ptr (B + 0) g0 0 0∧q.ts 3= .sl [] .nil∧q.ts 4= .int .i64 (i:Int)∧q.ts 6= .ptr (B + 6) g6 0 0∧q.ts 8= .int .i64 (k:Int)∧q.h=D++[.blk g0 [.agg [.sl (s.preds.map z1m) .no, .sl (s.clauses.map z0j) .no]] false false 0,o1,o2,o3,o4, .blk g5 [.agg [.sl (c.vars.map z2b) .no, .sl (c.body.map z4q) .no, .sl (c.guard.map eNode) .no, .str c.head.pred, .sl (c.head.args.map z0w) .no]] false false 0, .blk g6 [.agg [.bool false, .bool false, .bool false, .bool false, .bool false, .bool false, .bool false]] false false 0,o7,o8]) 6 ⟨1,by omega,by omega,rfl,h1,h3,h4,h6,h8,rfl⟩ ?_
    clear h1 h3 h4 h6 h8
    rintro m ⟨ts,h',clk⟩ P3 ⟨k,hk1,hk7,rfl,h1,h3,h4,h6,h8,rfl⟩ hnx3 he3 hr3
    dsimp only at h1 h3 h4 h6 h8
    have step:∀ k:Nat,IntKind.i64.wrap ((k:Int) + 1)=((k + 1:Nat):Int)∨7 < k:=fun k=>by
     by_cases hk:k≤7
     ·exact .inl (z0c (by omega) (by omega))
     ·exact .inr (by omega)
    have hw:=(step k).resolve_right (by omega)
    by_cases hk:k < 7
    ·have e1:decide ((k:Int) < 7)=true:=by rw[r8];omega
     have hcase:k=1∨k=2∨k=3∨k=4∨k=5∨k=6:=by omega
     rcases hcase with rfl | rfl | rfl | rfl | rfl | rfl
     ·simp only[z9] at h8 hw e1
      simp only[go_sem,q7m,h1,h3,h4,h6,h8,hB,e1,ea1,hw]
      exact hnx3 (7 - 2) _ (by omega) ⟨2,by omega,by omega,rfl,h1,h3,h4,h6,rfl,rfl⟩
     ·simp only[z9] at h8 hw e1
      simp only[go_sem,q7m,h1,h3,h4,h6,h8,hB,e1,ea2,hw]
      exact hnx3 (7 - 3) _ (by omega) ⟨3,by omega,by omega,rfl,h1,h3,h4,h6,rfl,rfl⟩
     ·simp only[z9] at h8 hw e1
      simp only[go_sem,q7m,h1,h3,h4,h6,h8,hB,e1,ea3,hw]
      exact hnx3 (7 - 4) _ (by omega) ⟨4,by omega,by omega,rfl,h1,h3,h4,h6,rfl,rfl⟩
     ·simp only[z9] at h8 hw e1
      simp only[go_sem,q7m,h1,h3,h4,h6,h8,hB,e1,ea4,hw]
      exact hnx3 (7 - 5) _ (by omega) ⟨5,by omega,by omega,rfl,h1,h3,h4,h6,rfl,rfl⟩
     ·simp only[z9] at h8 hw e1
      simp only[go_sem,q7m,h1,h3,h4,h6,h8,hB,e1,ea5,hw]
      exact hnx3 (7 - 6) _ (by omega) ⟨6,by omega,by omega,rfl,h1,h3,h4,h6,rfl,rfl⟩
     ·simp only[z9] at h8 hw e1
      simp only[go_sem,q7m,h1,h3,h4,h6,h8,hB,e1,ea6,hw]
      exact hnx3 (7 - 7) _ (by omega) ⟨7,by omega,by omega,rfl,h1,h3,h4,h6,rfl,rfl⟩
    ·have e1:decide ((k:Int) < 7)=false:=by rw[n9];omega
     simp only[go_sem,q7m,h1,h3,h4,h6,h8,hB,e1]
     refine he3 _ _ ?_
     simp only[go_sem,h1,h3,h4,f2]
     exact hnx (s.clauses.length - (i + 1)) _ (by omega) ⟨i + 1,g0,_,_,_,_,_,_,_,_,hlt,rfl,h1,h3,rfl,rfl⟩
   rcases hh with ⟨hp,hargs⟩ | ha
   ·have g3:decide (c.head.pred=[])=true:=by simp[hp]
    simp only[hargs,k8] at last
    simp only[go_sem,h1,h3,h4,h5,h6,hB,z0a p2,z8,x6,ea4,ea5,ea6,g1,g2,g3,hargs,k8,decide_false,Int.lt_irrefl,z6]
    exact last _ _ h1 h3 h4 h6 rfl
   ·obtain⟨f,hf,hpn,hfr⟩:=id ha
    have g3:decide (c.head.pred=[])=false:=by simp[hpn,hs.pr.name f hf]
    have p5:=p3 _ ha
    simp only[go_sem,h1,h3,h4,h5,h6,hB,z0a p2,z8,x6,ea4,ea5,ea6,g3,g1,g2,z0a p5,z6]
    exact last _ _ h1 h3 h4 h6 rfl
 ·have f1:decide ((i:Int) < (s.clauses.length:Int))=false:=by rw[n9];omega
  simp only[go_sem,k7o,h1,h3,h4,hB,z6,f1]
  refine he _ _ ?_
  simp only[go_sem,h3]
  rw[z0h rfl rfl]
  exact hT _
theorem y2y {s:Sys} (hs:SysV s):Pure Gam 35 [z4e s] (.bool true):=by
 have p0:=y2x hs
 simp only[z4e] at p0
 refine Pure.of rfl u6j rfl rfl rfl (az:=[z4e s]) rfl (by simp[z0i,z4j]) fun D B clk T hB hT=> ?_
 simp only[go_sem,u3c,hB,z4e,z0a p0,decide_true]
 rw[z0e]
 exact hT _
theorem z9h {l:List (List Nat)} {i:Nat} {h:List AObj} {t:Tip} {k:IntKind} (hi:i < l.length):z1v h 1 (.sl (z3b l) t) (.int k (i:Int))=some (.iptr [.str l[i]] 0,h):=z3v hi rfl rfl
theorem z6h {base:Nat} {b:ACode} {ks:List Kf} {s:St} {Q:Post} (n:Nat) (hn:n≤2 ^ 62) (J:Nat→St→Prop) (h0:J 0 s)
  (hstep:∀ i,i < n→decide ((i:Int) < (n:Int))=true→IntKind.i64.wrap ((i:Int) + 1)=((i + 1:Nat):Int)→∀ ts h clk (P:Post),J i ⟨ts,h,clk⟩→(∀ s',J (i + 1) s'→P .norm s')→(∀ k s',K Gam base (.exit k) ks s' Q→P (.exit k) s')→(∀ s',K Gam base .ret ks s' Q→P .ret s')→K Gam base b [] ⟨ts,h,clk⟩ P)
  (hend:decide ((n:Int) < (n:Int))=false→∀ ts h clk (P:Post),J n ⟨ts,h,clk⟩→(∀ k s',K Gam base (.exit k) ks s' Q→P (.exit k) s')→(∀ s',K Gam base .ret ks s' Q→P .ret s')→K Gam base b [] ⟨ts,h,clk⟩ P):K Gam base (.loop b) ks s Q:=by
 refine z1f (fun m q=>∃ i:Nat,i≤n∧m=n - i∧J i q) n ⟨0,by omega,rfl,h0⟩ ?_
 rintro m ⟨ts,h,clk⟩ P ⟨i,hi,rfl,hj⟩ hnx he hr
 by_cases hlt:i < n
 ·exact hstep i hlt (by rw[r8];omega) (z0c (by omega) (by omega)) ts h clk P hj (fun s' h=>hnx (n - (i + 1)) s' (by omega) ⟨i + 1,hlt,rfl,h⟩) he hr
 ·obtain rfl:i=n:=by omega
  exact hend (by rw[n9];omega) ts h clk P hj he hr
theorem q3f {z:Int} (h:(dec z.natAbs).length≤20000000):(z3j z).R:=⟨q7i,h,by show (dec 1).length≤_;rw[z2e];simp⟩
theorem z7w {z:Int} (h:(dec z.natAbs).length≤20000000):Pure Gam 102 [.str (z0f z)] (.bool true):=by
 have:=x5x (q3f h)
 rw[z1x] at this
 exact this
theorem x6a {a b:Int}:k4l (z3j a) (z3j b)=z3j (a - b):=by
 unfold k4l
 rw[k9d,x5t]
 rfl
theorem w1m {a b:Int} (ha:(dec a.natAbs).length≤19999999) (hb:(dec b.natAbs).length≤19999999):(dec (a - b).natAbs).length≤20000000:=by
 have h:=x5u ha hb
 exact j1 (z4o (by omega)) h
def v3s (a b:Int):Int:=if a < b then -1 else if a=b then 0 else 1
theorem j5f {a b:Int} (ha:(dec a.natAbs).length≤19999999) (hb:(dec b.natAbs).length≤19999999):Pure Gam 103 [.str (z0f a), .str (z0f b)] (.int .i64 (v3s a b)):=by
 have h:=j5d (q3f (z:=a) (by omega)) (q3f (z:=b) (by omega)) (by rw[x6a];exact q3f (w1m ha hb))
 rw[z1x,z1x,x6a] at h
 have e:q6p (z3j (a - b))=v3s a b:=by
  unfold q6p v3s z3j
  dsimp only
  by_cases h1:a < b
  ·rw[if_neg (by omega),if_pos h1,if_pos (by simp;omega)]
  ·rw[if_neg h1]
   by_cases h2:a=b
   ·rw[if_pos h2,if_pos (by omega)]
   ·rw[if_neg h2,if_neg (by omega),if_neg (by simp;omega)]
 rw[e] at h
 exact h
theorem z1j {α:Type} {l:List α} {f:α→List Nat}:(z3b (l.map f)).length=l.length:=by simp[z3b]
theorem q0x (v:Val):(eV v).ids=[]:=by simp[eV,value,AV.ids,z0i,z1i,nat]
theorem Qn.L.r {q:Qn} {N D:Nat} (h:q.L N D) (hc:q.C) (h1:N≤20000000) (h2:D≤20000000):q.R:=⟨hc,j1 h.n h1,j1 h.d h2⟩
theorem q3g {z:Int} {l:List (Int×Int)}:eV (.arr z l)= .agg [.int .i64 4, .bool false, .str (z0f z), .sl (z3b (l.map fun p=>z0f p.1)) .no, .sl (z3b (l.map fun p=>z0f p.2)) .no]:=rfl
theorem q5n {t:Nat} {q:Qn}:eV (.num t q)= .agg [.int .i64 (t:Int), .bool false, .str q.text, .sl [] .no, .sl [] .no]:=rfl
theorem z4l {b:Bool}:eV (.bool b)= .agg [.int .i64 1, .bool b, .str [], .sl [] .no, .sl [] .no]:=rfl
theorem z7g {a b:Int} (h:z0f a=z0f b):a=b:=by
 have key:∀ x:Int,x < 0→∀ y:Int,¬ y < 0→z0f x≠z0f y:=fun x hx y hy e=>by
  unfold z0f at e
  rw[if_pos hx,if_neg hy] at e
  have:=z1d y.natAbs 45 (by rw[←e];exact List.mem_cons_self)
  omega
 by_cases ha:a < 0 <;> by_cases hb:b < 0
 ·unfold z0f at h
  rw[if_pos ha,if_pos hb,List.cons.injEq] at h
  have:=q9q h.2
  omega
 ·exact absurd h (key a ha b hb)
 ·exact absurd h.symm (key b hb a ha)
 ·unfold z0f at h
  rw[if_neg ha,if_neg hb] at h
  have:=q9q h
  omega
theorem x6b {l:List (Int×Int)} {i:Nat} {h:List AObj} {t:Tip} (hi:i < l.length):z1v h 1 (.sl (z3b (l.map fun p=>z0f p.1)) t) (.int .i64 (i:Int))=some (.iptr [.str (z0f l[i].1)] 0,h):=by
 have:=z9h (l:=l.map fun p=>z0f p.1) (i:=i) (h:=h) (t:=t) (k:= .i64) (by simpa using hi)
 simpa using this
theorem j1t {l:List (Int×Int)} {i:Nat} {h:List AObj} {t:Tip} (hi:i < l.length):z1v h 1 (.sl (z3b (l.map fun p=>z0f p.2)) t) (.int .i64 (i:Int))=some (.iptr [.str (z0f l[i].2)] 0,h):=by
 have:=z9h (l:=l.map fun p=>z0f p.2) (i:=i) (h:=h) (t:=t) (k:= .i64) (by simpa using hi)
 simpa using this
theorem x6c {m s:Nat} {v:Val} (hm:m≤330000) (h:VOk m s v):Pure Gam 101 [eV v] (.bool true):=by
 refine Pure.of rfl y6w rfl rfl rfl (az:=[eV v]) rfl (by simp[z0i,q0x]) fun D B clk T hB hT=> ?_
 cases v with
 | bool b=>
   simp only[go_sem,k0u,hB,z4l,u3,z9,z7,u6,decide_true,decide_false,z8,x6]
   rw[z0e]
   exact hT _
 | num t q=>
   obtain⟨rfl,ht,hc,hl,h1⟩:=h
   have hr:=hl.r hc (by omega) (by omega)
   rcases ht with rfl | rfl
   ·have p:=x5x hr
    rw[h1 rfl,decide_eq_true rfl] at p
    simp only[go_sem,k0u,hB,q5n,u3,z9,z7,u6,decide_true,decide_false,z8,x6,z0a p]
    rw[z0e]
    exact hT _
   ·simp only[go_sem,k0u,hB,q5n,u3,z9,z7,u6,decide_true,decide_false,z8,x6,z0a (q7x hr)]
    rw[z0e]
    exact hT _
 | arr z l=>
   obtain⟨_,hz,hs,hp,hlm⟩:=h
   simp only[go_sem,k0u,hB,q3g,z1j,z9,z7,u6,decide_true,decide_false,z8,x6,z0a (z7w (z:=z) (by omega))]
   refine z6h l.length (by omega) (fun i q=>∃ (g0:Nat),q.ts 1= .ptr (B + 0) g0 0 0∧q.ts 3= .int .i64 (i:Int)∧q.h=D++[.blk g0 [.agg [.int .i64 4, .bool false, .str (z0f z), .sl (z3b (l.map fun p=>z0f p.1)) .no, .sl (z3b (l.map fun p=>z0f p.2)) .no]] false false 0]) ⟨_,rfl,rfl,rfl⟩ ?_ ?_
   ·rintro i hlt f1 f2 ts h clk P ⟨g0,q1,q3,rfl⟩ hnx he hr
    dsimp only at q1 q3
    obtain⟨n1,n2,n3⟩:=hp _ (x8 hlt)
    have e1:decide (z0f l[i].2=z0f z)=false:=decide_eq_false fun e=>n1 (z7g e)
    have hk:=fun h=>x6b (l:=l) (h:=h) (t:= .no) hlt
    have hv:=fun h=>j1t (l:=l) (h:=h) (t:= .no) hlt
    by_cases hi0:i=0
    ·have e2:decide (0 < (i:Int))=false:=by rw[n9];omega
     simp only[go_sem,x8f,q1,q3,hB,f1,f2,z1j,hk,hv,z0a (z7w (z:=l[i].1) (by omega)),z0a (z7w (z:=l[i].2) (by omega)),z8,e1,e2]
     exact hnx _ ⟨g0,q1,rfl,rfl⟩
    ·have e2:decide (0 < (i:Int))=true:=by rw[r8];omega
     have e3:IntKind.i64.wrap ((i:Int) - 1)=((i - 1:Nat):Int):=by rw[z0c (by omega) (by omega)];omega
     have hlt':i - 1 < l.length:=by omega
     have hk':=fun h=>x6b (l:=l) (h:=h) (t:= .no) hlt'
     obtain⟨_,n4,_⟩:=hp _ (x8 hlt')
     have hord:l[i - 1].1 < l[i].1:=List.pairwise_iff_getElem.1 hs (i - 1) i hlt' hlt (by omega)
     have pc:=j5f (a:=l[i - 1].1) (b:=l[i].1) (by omega) (by omega)
     rw[v3s,if_pos hord] at pc
     simp only[go_sem,x8f,q1,q3,hB,f1,f2,z1j,hk,hv,hk',e3,z0a (z7w (z:=l[i].1) (by omega)),z0a (z7w (z:=l[i].2) (by omega)),z0a pc,z8,x6,e1,e2,Int.reduceLE,decide_false]
     exact hnx _ ⟨g0,q1,rfl,rfl⟩
   ·rintro f1 ts h clk P ⟨g0,q1,q3,rfl⟩ he hr
    dsimp only at q1 q3
    simp only[go_sem,x8f,q1,q3,hB,f1,z1j]
    refine he _ _ ?_
    simp only[go_sem,hB]
    rw[z0e]
    exact hT _
theorem append_nil {D L:List AObj} {B k esz b gen:Nat} {ys:List AV} {u:Tip} {o:AObj} (hB:D.length=B) (ho:L[k]? =some o) (hy:z0r esz ys=true) (hl:ys.length * (b + 1)≤2 ^ 46):
  z1a (D++L) (B + k) gen esz b false (.sl [] .nil) (.sl ys u)=some (.sl ys (.at (B + k) gen),D++L.set k (.tip gen esz)):=
 z1c (xs:=[]) hB ho (.inl rfl) rfl hy (by simpa using hl)
theorem j7y {D L:List AObj} {B j k esz b gen g:Nat} {xs ys:List AV} {u:Tip} (hB:D.length=B) (ho:L[j]? =some (.tip g esz)) (hx:z0r esz xs=true) (hy:z0r esz ys=true) (hl:(xs.length + ys.length) * (b + 1)≤2 ^ 46):
  z1a (D++L) (B + k) gen esz b false (.sl xs (.at (B + j) g)) (.sl ys u)=some (.sl (xs++ys) (.at (B + k) gen),D++(L.set j .dead).set k (.tip gen esz)):=by
 have hgt:¬ (xs.length + ys.length) * (b + 1) > z1e:=by unfold z1e;omega
 unfold z1a
 simp only[z6k,hy,z8,Bool.false_eq_true,if_false,hx,Bool.or_false,decide_eq_true_eq,hgt,z2u hB,ho,and_self,if_true,z2o hB]
theorem w1n:Pure Gam 10 [] (.bool true):=Pure.tab (tab:=[([], .bool true)]) rfl rfl rfl
section
open Sh
set_option maxHeartbeats 0
end
theorem j7z {D L:List AObj} {B p q e b gen:Nat} {xs ys:List AV} {t u:Tip} {o o':AObj} (hB:D.length=B) (hp:L[p]? =some o) (hq:L[q]? =some o') (ht:q3e B p o t e∨q3e B q o' t e) (hx:z0r e xs=true) (hy:z0r e ys=true) (hl:(xs.length + ys.length) * (b + 1)≤2 ^ 46):
  ∃ L',(L'=L∨L'=L.set q .dead)∧z1a (D++L) (B + p) gen e b false (.sl xs t) (.sl ys u)=some (.sl (xs++ys) (.at (B + p) gen),D++L'.set p (.tip gen e)):=by
 rcases ht with ht | rfl | rfl | ⟨g,rfl,rfl⟩
 ·exact⟨L, .inl rfl,z1c hB hp ht hx hy hl⟩
 ·exact⟨L, .inl rfl,z1c hB hp (.inl rfl) hx hy hl⟩
 ·exact⟨L, .inl rfl,z1c hB hp (.inr (.inl rfl)) hx hy hl⟩
 ·exact⟨_, .inr rfl,j7y hB hq hx hy hl⟩
theorem z9i {D L:List AObj} {B p q e b gen d g clk:Nat} {xs ys:List AV} {t u:Tip} {o o':AObj} {f:List Nat×List Nat} {m:Md} {os:List AOper} {ts:Tmps} {ks:List Kf} {Q:Post} (hB:D.length=B) (hp:L[p]? =some o) (hq:L[q]? =some o') (ht:q3e B p o t e∨q3e B q o' t e) (hx:z0r e xs=true) (hy:z0r e ys=true) (hl:(xs.length + ys.length) * (b + 1)≤2 ^ 46)
  (hQ:∀ L',(L'=L∨L'=L.set q .dead)→O Gam B (m.add f) (g + 1) os ⟨upd ts d (.sl (xs++ys) (.at (B + p) gen)),D++L'.set p (.tip gen e),clk⟩ ks Q):PO Gam B (z1a (D++L) (B + p) gen e b false (.sl xs t) (.sl ys u)) f m (some d) g os ts clk ks Q:=by
 obtain⟨L',h1,h2⟩:=j7z (b:=b) (gen:=gen) (u:=u) hB hp hq ht hx hy hl
 rw[h2]
 exact hQ L' h1
section
set_option maxHeartbeats 0
def w2f (z k w:Int):List (Int×Int):=if w=z then [] else [(k,w)]
def j1u (z k w:Int) (l:List (Int×Int)) (put:Bool):List (Int×Int):=(l.filter fun p=>decide (p.1 < k))++((if put=true then w2f z k w else [])++l.filter fun p=>decide (k < p.1))
theorem w1o {z k w:Int} {l:List (Int×Int)}:j1u z k w l true=j1s z l k w:=rfl
def q0y (k:Int) (l:List (Int×Int)):Bool:=l.any fun p=>decide (k≤p.1)
theorem k9i {z k w:Int} {l:List (Int×Int)} {i:Nat} (hs:l.Pairwise (fun p q=>p.1 < q.1)) (hi:i < l.length):
  q0y k (l.take (i + 1))=(q0y k (l.take i) || decide (k≤l[i].1))∧j1u z k w (l.take (i + 1)) (q0y k (l.take (i + 1)))=j1u z k w (l.take i) (q0y k (l.take i))++((if q0y k (l.take i)=false∧k≤l[i].1 then w2f z k w else [])++(if l[i].1=k then [] else [l[i]]))∧(q0y k (l.take i)=true→k < l[i].1):=by
 have ht:l.take (i + 1)=l.take i++[l[i]]:=w7 hi
 have h1:q0y k (l.take (i + 1))=(q0y k (l.take i) || decide (k≤l[i].1)):=by rw[ht,q0y,List.any_append];simp[q0y]
 have h3:q0y k (l.take i)=true→k < l[i].1:=fun h=>by
  obtain⟨p,hp,h2⟩:=List.any_eq_true.1 h
  have h2:=of_decide_eq_true h2
  obtain⟨j,hj,rfl⟩:=d5.1 hp
  have hj':j < i:=by simp at hj;omega
  have:=List.pairwise_iff_getElem.1 hs j i (by omega) hi hj'
  simp only[List.getElem_take] at h2
  omega
 refine⟨h1, ?_,h3⟩
 rw[h1,ht]
 unfold j1u
 rw[List.filter_append,List.filter_append]
 cases hp:q0y k (l.take i) with
 | true=>
   have:=h3 hp
   have a1:¬ l[i].1 < k:=by omega
   have a2:l[i].1≠k:=by omega
   simp[this,a1,a2,List.filter_cons]
 | false=>
   have hno:(l.take i).filter (fun p=>decide (k < p.1))=[]:=by
    rw[List.filter_eq_nil_iff]
    intro p hp'
    have:=List.any_eq_false.1 hp p hp'
    simp only[decide_eq_true_eq] at this⊢
    omega
   rw[hno]
   rcases Int.lt_trichotomy l[i].1 k with h | h | h
   ·have a1:¬ k≤l[i].1:=by omega
    have a2:¬ k < l[i].1:=by omega
    have a3:l[i].1≠k:=by omega
    simp[h,a1,a2,a3,List.filter_cons]
   ·have a1:k≤l[i].1:=by omega
    have a2:¬ k < l[i].1:=by omega
    have a3:¬ l[i].1 < k:=by omega
    simp[h,a1,a2,a3,List.filter_cons]
   ·have a1:k≤l[i].1:=by omega
    have a2:¬ l[i].1 < k:=by omega
    have a3:l[i].1≠k:=by omega
    simp[h,a1,a2,a3,List.filter_cons]
theorem k9j {z k w:Int} {l:List (Int×Int)} (h:q0y k l=false):j1u z k w l true=j1u z k w l false++w2f z k w:=by
 have hno:l.filter (fun p=>decide (k < p.1))=[]:=by
  rw[List.filter_eq_nil_iff]
  intro p hp'
  have:=List.any_eq_false.1 h p hp'
  simp only[decide_eq_true_eq] at this⊢
  omega
 unfold j1u
 rw[hno]
 simp
theorem z4t {l:List (Int×Int)} {f:Int×Int→List Nat} {x:List (Int×Int)}:z3b (l.map f)++z3b (x.map f)=z3b ((l++x).map f):=by simp[z3b]
theorem k9k {z k w:Int} {l:List (Int×Int)} {b:Bool}:(j1u z k w l b).length≤2 * l.length + 1:=by
 unfold j1u w2f
 have h1:=List.length_filter_le (fun p:Int×Int=>decide (p.1 < k)) l
 have h2:=List.length_filter_le (fun p:Int×Int=>decide (k < p.1)) l
 simp only[k7]
 split
 ·split <;> simp <;> omega
 ·simp;omega
theorem k9l {m:Nat} {z k w:Int} {l:List (Int×Int)} (hm:m≤330000) (h:VOk m 4 (.arr z l)) (hk:(dec k.natAbs).length≤19999999) (hw:(dec w.natAbs).length≤19999999):Pure Gam 1048625 [eV (.arr z l), .str (z0f k), .str (z0f w)] (.tup [eV (.arr z (j1s z l k w)), .int .i64 0]):=by
 have p1:=x6c hm h
 rw[q3g] at p1
 obtain⟨_,hz,hs,hp,hlm⟩:=h
 refine Pure.of rfl w7z rfl rfl rfl (az:=[eV (.arr z l), .str (z0f k), .str (z0f w)]) rfl (by simp[z0i,q0x,AV.ids]) fun D B clk T hB hT=> ?_
 simp only[go_sem,v3e,hB,q3g,z0a p1,z9,z7,decide_true,decide_false,z8,x6,z0a (z7w (z:=k) (by omega)),z0a (z7w (z:=w) (by omega))]
 refine z6h (l.length + 1) (by omega) (fun i q=>∃ (g0 g1 g2:Nat) (put:Bool) (t u:Tip) (o3 o4 o5 o6 o7 o8 o9 o10:AObj),put=(if i≤l.length then q0y k (l.take i) else true)∧q.ts 1= .str (z0f k)∧q.ts 2= .str (z0f w)∧q.ts 3= .ptr (B + 0) g0 0 0∧q.ts 6= .ptr (B + 1) g1 0 0∧q.ts 7= .int .i64 0∧q.ts 8= .ptr (B + 2) g2 0 0∧q.ts 9= .bool put∧q.ts 10= .int .i64 (i:Int)∧q.h=D++[.blk g0 [.agg [.int .i64 4, .bool false, .str (z0f z), .sl (z3b (l.map fun p=>z0f p.1)) .no, .sl (z3b (l.map fun p=>z0f p.2)) .no]] false false 0, .blk g1 [.agg [.int .i64 0, .bool false, .str [], .sl [] .nil, .sl [] .nil]] false false 0, .blk g2 [.agg [.int .i64 4, .bool false, .str (z0f z), .sl (z3b ((j1u z k w (l.take i) put).map fun p=>z0f p.1)) t, .sl (z3b ((j1u z k w (l.take i) put).map fun p=>z0f p.2)) u]] false false 0,o3,o4,o5,o6,o7,o8,o9,o10]∧(q3e B 4 o4 t 1∨q3e B 8 o8 t 1)∧(q3e B 6 o6 u 1∨q3e B 10 o10 u 1)) ⟨_,_,_,false, .nil, .nil,_,_,_,_,_,_,_,_,by simp[q0y],rfl,rfl,rfl,rfl,rfl,rfl,rfl,rfl,rfl, .inl (.inl rfl), .inl (.inl rfl)⟩ ?_ ?_
 ·rintro i hlt f1 f2 ts h clk P ⟨g0,g1,g2,put,t,u,o3,o4,o5,o6,o7,o8,o9,o10,hput,q1,q2,q3,q6,q7,q8,q9,q10,rfl,ht,hu⟩ hnx he hr
  dsimp only at q1 q2 q3 q6 q7 q8 q9 q10
  have tn:∀ t:Tip,(q3e B 4 o4 t 1∨q3e B 8 o8 t 1)→∀ j,j < 4→∀ x,(x∈match t with | Tip.at s gen=>[s] | _=>[])→¬ x=B + j:=fun t ht j hj x hx=>by
   rcases ht with (rfl | rfl | ⟨g,rfl,_⟩) | (rfl | rfl | ⟨g,rfl,_⟩) <;> simp at hx <;> omega
  have hil:i≤l.length:=by omega
  rw[if_pos hil] at hput
  have f3:decide ((i:Int)≤(l.length:Int))=true:=by rw[r8];omega
  have hol:(j1u z k w (l.take i) put).length≤700000:=j1 k9k (by rw[List.length_take];omega)
  by_cases hlen:i < l.length
  ·have f4:decide ((i:Int) < (l.length:Int))=true:=by rw[r8];omega
   have f5:decide ((i:Int)=(l.length:Int))=false:=by rw[n9];omega
   obtain⟨s1,s2,s3⟩:=k9i (z:=z) (k:=k) (w:=w) hs hlen
   rw[←hput] at s1 s2 s3
   have hk':=fun h=>x6b (l:=l) (h:=h) (t:= .no) hlen
   have hv:=fun h=>j1t (l:=l) (h:=h) (t:= .no) hlen
   obtain⟨n1,n2,n3⟩:=hp _ (x8 hlen)
   have pc:=j5f (a:=l[i].1) (b:=k) (by omega) hk
   have hil2:i + 1≤l.length:=hlen
   generalize l[i]=x at *
   cases put with
   | true=>
     have hx:=s3 rfl
     have s1':q0y k (l.take (i + 1))=true:=by rw[s1];rfl
     have eK:decide (z0f x.1=z0f k)=false:=decide_eq_false fun e=>by have:=z7g e;omega
     rw[s1',if_neg (by simp),if_neg (by omega),y8] at s2
     simp only[go_sem,z7j,q1,q2,q3,q6,q7,q8,q9,q10,hB,f3,f4,z1j,hk',eK,z8,x6,z1p]
     rw[show [AV.str (z0f x.1)]=z3b ([x].map fun p=>z0f p.1) from rfl]
     refine z9i (q:=4) hB rfl rfl ht.symm z0v z0v (by simp only[z1j,v6,k7];omega) fun L1 h1=> ?_
     rw[z4t]
     rcases h1 with rfl | rfl
     all_goals
      simp only[go_sem,q1,q2,q3,q6,q7,q8,q9,q10,hB,hv]
      rw[show [AV.str (z0f x.2)]=z3b ([x].map fun p=>z0f p.2) from rfl]
      refine z9i (q:=6) hB rfl rfl hu.symm z0v z0v (by simp only[z1j,v6,k7];omega) fun L2 h2=> ?_
      rw[z4t]
      rcases h2 with rfl | rfl
      all_goals
       simp only[go_sem,q1,q2,q3,q6,q7,q8,q9,q10,hB,hv,f2]
       refine⟨by simp[z1r,apart,z0q,z1n,z1t,AOp.isCall,hB,AV.ids,z0i,z1i] <;> first | exact⟨tn t ht 2 (by omega),tn t ht 0 (by omega)⟩ | exact tn t ht 2 (by omega) | exact tn t ht 0 (by omega), ?_⟩
       exact hnx _ ⟨g0,g1,g2,true,_,_,_,_,_,_,_,_,_,_,(by rw[if_pos hil2,s1']),q1,q2,q3,q6,q7,q8,q9,rfl,by rw[s2] <;> rfl, .inr (.inr (.inr ⟨_,rfl,rfl⟩)), .inr (.inr (.inr ⟨_,rfl,rfl⟩))⟩
   | false=>
     by_cases hkx:k≤x.1
     ·have s1':q0y k (l.take (i + 1))=true:=by rw[s1,decide_eq_true hkx];rfl
      have e0:decide (0≤v3s x.1 k)=true:=by rw[v3s,if_neg (by omega)];split <;> rfl
      rw[s1',if_pos ⟨rfl,hkx⟩,w2f] at s2
      by_cases hwz:w=z
      ·have eW:decide (z0f w=z0f z)=true:=decide_eq_true (by rw[hwz])
       rw[if_pos hwz,y8] at s2
       by_cases hxk:x.1=k
       ·have eK:decide (z0f x.1=z0f k)=true:=decide_eq_true (by rw[hxk])
        rw[if_pos hxk,w9] at s2
        simp only[go_sem,z7j,q1,q2,q3,q6,q7,q8,q9,q10,hB,f2,f3,f4,f5,z1j,hk',eK,eW,z0a pc,e0,z8,x6]
        exact hnx _ ⟨g0,g1,g2,true,_,_,_,_,_,_,_,_,_,_,(by rw[if_pos hil2,s1']),q1,q2,q3,q6,q7,q8,rfl,rfl,by rw[s2] <;> rfl,ht,hu⟩
       ·have eK:decide (z0f x.1=z0f k)=false:=decide_eq_false fun e=>hxk (z7g e)
        rw[if_neg hxk] at s2
        simp only[go_sem,z7j,q1,q2,q3,q6,q7,q8,q9,q10,hB,f3,f4,f5,z1j,hk',eK,eW,z0a pc,e0,z8,x6,z1p]
        rw[show [AV.str (z0f x.1)]=z3b ([x].map fun p=>z0f p.1) from rfl]
        refine z9i (q:=4) hB rfl rfl ht.symm z0v z0v (by simp only[z1j,v6,k7];omega) fun L1 h1=> ?_
        rw[z4t]
        rcases h1 with rfl | rfl
        all_goals
         simp only[go_sem,q1,q2,q3,q6,q7,q8,q9,q10,hB,hv]
         rw[show [AV.str (z0f x.2)]=z3b ([x].map fun p=>z0f p.2) from rfl]
         refine z9i (q:=6) hB rfl rfl hu.symm z0v z0v (by simp only[z1j,v6,k7];omega) fun L2 h2=> ?_
         rw[z4t]
         rcases h2 with rfl | rfl
         all_goals
          simp only[go_sem,q1,q2,q3,q6,q7,q8,q9,q10,hB,hv,f2]
          refine⟨by simp[z1r,apart,z0q,z1n,z1t,AOp.isCall,hB,AV.ids,z0i,z1i] <;> first | exact⟨tn t ht 2 (by omega),tn t ht 0 (by omega)⟩ | exact tn t ht 2 (by omega) | exact tn t ht 0 (by omega), ?_⟩
          exact hnx _ ⟨g0,g1,g2,true,_,_,_,_,_,_,_,_,_,_,(by rw[if_pos hil2,s1']),q1,q2,q3,q6,q7,q8,rfl,rfl,by rw[s2] <;> rfl, .inr (.inr (.inr ⟨_,rfl,rfl⟩)), .inr (.inr (.inr ⟨_,rfl,rfl⟩))⟩
      ·have eW:decide (z0f w=z0f z)=false:=decide_eq_false fun e=>hwz (z7g e)
       rw[if_neg hwz,←List.append_assoc] at s2
       by_cases hxk:x.1=k
       ·have eK:decide (z0f x.1=z0f k)=true:=decide_eq_true (by rw[hxk])
        rw[if_pos hxk,w9] at s2
        simp only[go_sem,z7j,q1,q2,q3,q6,q7,q8,q9,q10,hB,f3,f4,f5,z1j,hk',eK,eW,z0a pc,e0,z8,x6,z1p]
        rw[show [AV.str (z0f k)]=z3b ([(k,w)].map fun p=>z0f p.1) from rfl]
        refine z9i (q:=8) hB rfl rfl ht z0v z0v (by simp only[z1j,v6,k7];omega) fun L1 h1=> ?_
        rw[z4t]
        rcases h1 with rfl | rfl
        all_goals
         simp only[go_sem,q1,q2,q3,q6,q7,q8,q9,q10,hB,hv]
         rw[show [AV.str (z0f w)]=z3b ([(k,w)].map fun p=>z0f p.2) from rfl]
         refine z9i (q:=10) hB rfl rfl hu z0v z0v (by simp only[z1j,v6,k7];omega) fun L2 h2=> ?_
         rw[z4t]
         rcases h2 with rfl | rfl
         all_goals
          simp only[go_sem,q1,q2,q3,q6,q7,q8,q9,q10,hB,z1p]
          refine⟨by simp[z1r,apart,z0q,z1n,z1t,AOp.isCall,hB,AV.ids,z0i,z1i] <;> first | exact⟨tn t ht 2 (by omega),tn t ht 0 (by omega)⟩ | exact tn t ht 2 (by omega) | exact tn t ht 0 (by omega), ?_⟩
          simp only[go_sem,q1,q2,q3,q6,q7,q8,q9,q10,hB,f2,f4,z1j,hk',eK,z8,x6]
          exact hnx _ ⟨g0,g1,g2,true,_,_,_,_,_,_,_,_,_,_,(by rw[if_pos hil2,s1']),q1,q2,q3,q6,q7,q8,rfl,rfl,by rw[s2] <;> rfl, .inl (.inr (.inr ⟨_,rfl,rfl⟩)), .inl (.inr (.inr ⟨_,rfl,rfl⟩))⟩
       ·have eK:decide (z0f x.1=z0f k)=false:=decide_eq_false fun e=>hxk (z7g e)
        rw[if_neg hxk] at s2
        have hol2:(j1u z k w (l.take i) false++[(k,w)]).length≤700001:=by rw[k7];simp;omega
        simp only[go_sem,z7j,q1,q2,q3,q6,q7,q8,q9,q10,hB,f3,f4,f5,z1j,hk',eK,eW,z0a pc,e0,z8,x6,z1p]
        rw[show [AV.str (z0f k)]=z3b ([(k,w)].map fun p=>z0f p.1) from rfl]
        refine z9i (q:=8) hB rfl rfl ht z0v z0v (by simp only[z1j,v6,k7];omega) fun L1 h1=> ?_
        rw[z4t]
        rcases h1 with rfl | rfl
        all_goals
         simp only[go_sem,q1,q2,q3,q6,q7,q8,q9,q10,hB,hv]
         rw[show [AV.str (z0f w)]=z3b ([(k,w)].map fun p=>z0f p.2) from rfl]
         refine z9i (q:=10) hB rfl rfl hu z0v z0v (by simp only[z1j,v6,k7];omega) fun L2 h2=> ?_
         rw[z4t]
         rcases h2 with rfl | rfl
         all_goals
          simp only[go_sem,q1,q2,q3,q6,q7,q8,q9,q10,hB,z1p]
          refine⟨by simp[z1r,apart,z0q,z1n,z1t,AOp.isCall,hB,AV.ids,z0i,z1i] <;> first | exact⟨tn t ht 2 (by omega),tn t ht 0 (by omega)⟩ | exact tn t ht 2 (by omega) | exact tn t ht 0 (by omega), ?_⟩
          simp only[go_sem,q1,q2,q3,q6,q7,q8,q9,q10,hB,f4,z1j,hk',eK,z8,x6,z1p]
          rw[show [AV.str (z0f x.1)]=z3b ([x].map fun p=>z0f p.1) from rfl]
          refine z9i (q:=4) hB rfl rfl (.inr (.inr (.inr ⟨_,rfl,rfl⟩))) z0v z0v (by simp only[z1j,v6,k7];omega) fun L1 h1=> ?_
          rw[z4t]
          rcases h1 with rfl | rfl
          all_goals
           simp only[go_sem,q1,q2,q3,q6,q7,q8,q9,q10,hB,hv]
           rw[show [AV.str (z0f x.2)]=z3b ([x].map fun p=>z0f p.2) from rfl]
           refine z9i (q:=6) hB rfl rfl (.inr (.inr (.inr ⟨_,rfl,rfl⟩))) z0v z0v (by simp only[z1j,v6,k7];omega) fun L2 h2=> ?_
           rw[z4t]
           rcases h2 with rfl | rfl
           all_goals
            simp only[go_sem,q1,q2,q3,q6,q7,q8,q9,q10,hB,hv,f2]
            refine⟨by simp[z1r,apart,z0q,z1n,z1t,AOp.isCall,hB,AV.ids,z0i,z1i] <;> first | exact⟨tn t ht 2 (by omega),tn t ht 0 (by omega)⟩ | exact tn t ht 2 (by omega) | exact tn t ht 0 (by omega), ?_⟩
            exact hnx _ ⟨g0,g1,g2,true,_,_,_,_,_,_,_,_,_,_,(by rw[if_pos hil2,s1']),q1,q2,q3,q6,q7,q8,rfl,rfl,by rw[s2] <;> rfl, .inr (.inr (.inr ⟨_,rfl,rfl⟩)), .inr (.inr (.inr ⟨_,rfl,rfl⟩))⟩
     ·have s1':q0y k (l.take (i + 1))=false:=by rw[s1,decide_eq_false hkx];rfl
      have eK:decide (z0f x.1=z0f k)=false:=decide_eq_false fun e=>by have:=z7g e;omega
      have e0:decide (0≤v3s x.1 k)=false:=by rw[v3s,if_pos (by omega)];rfl
      rw[s1',if_neg (by omega),if_neg (by omega),y8] at s2
      simp only[go_sem,z7j,q1,q2,q3,q6,q7,q8,q9,q10,hB,f3,f4,f5,z1j,hk',eK,z0a pc,e0,z8,x6,z1p]
      rw[show [AV.str (z0f x.1)]=z3b ([x].map fun p=>z0f p.1) from rfl]
      refine z9i (q:=4) hB rfl rfl ht.symm z0v z0v (by simp only[z1j,v6,k7];omega) fun L1 h1=> ?_
      rw[z4t]
      rcases h1 with rfl | rfl
      all_goals
       simp only[go_sem,q1,q2,q3,q6,q7,q8,q9,q10,hB,hv]
       rw[show [AV.str (z0f x.2)]=z3b ([x].map fun p=>z0f p.2) from rfl]
       refine z9i (q:=6) hB rfl rfl hu.symm z0v z0v (by simp only[z1j,v6,k7];omega) fun L2 h2=> ?_
       rw[z4t]
       rcases h2 with rfl | rfl
       all_goals
        simp only[go_sem,q1,q2,q3,q6,q7,q8,q9,q10,hB,hv,f2]
        refine⟨by simp[z1r,apart,z0q,z1n,z1t,AOp.isCall,hB,AV.ids,z0i,z1i] <;> first | exact⟨tn t ht 2 (by omega),tn t ht 0 (by omega)⟩ | exact tn t ht 2 (by omega) | exact tn t ht 0 (by omega), ?_⟩
        exact hnx _ ⟨g0,g1,g2,false,_,_,_,_,_,_,_,_,_,_,(by rw[if_pos hil2,s1']),q1,q2,q3,q6,q7,q8,q9,rfl,by rw[s2] <;> rfl, .inr (.inr (.inr ⟨_,rfl,rfl⟩)), .inr (.inr (.inr ⟨_,rfl,rfl⟩))⟩
  ·obtain rfl:i=l.length:=by omega
   have f4:decide ((l.length:Int) < (l.length:Int))=false:=by simp
   have f5:decide ((l.length:Int)=(l.length:Int))=true:=by simp
   have hs2:j1u z k w (l.take (l.length + 1)) true=j1u z k w (l.take l.length) true:=by rw[u0 (by omega),u0 (by omega)]
   have hfin:(true=if l.length + 1≤l.length then q0y k (l.take (l.length + 1)) else true):=by rw[if_neg (by omega)]
   cases put with
   | true=>
     have s2:=hs2
     simp only[go_sem,z7j,q1,q2,q3,q6,q7,q8,q9,q10,hB,f2,f3,f4,f5,decide_true,decide_false,z1j,z8,x6]
     exact hnx _ ⟨g0,g1,g2,true,_,_,_,_,_,_,_,_,_,_,hfin,q1,q2,q3,q6,q7,q8,q9,rfl,by rw[s2] <;> rfl,ht,hu⟩
   | false=>
     have s2:=hs2.trans (k9j (z:=z) (w:=w) hput.symm)
     rw[w2f] at s2
     by_cases hwz:w=z
     ·have eW:decide (z0f w=z0f z)=true:=decide_eq_true (by rw[hwz])
      rw[if_pos hwz,w9] at s2
      simp only[go_sem,z7j,q1,q2,q3,q6,q7,q8,q9,q10,hB,f2,f3,f4,f5,decide_true,decide_false,z1j,eW,z8,x6]
      exact hnx _ ⟨g0,g1,g2,true,_,_,_,_,_,_,_,_,_,_,hfin,q1,q2,q3,q6,q7,q8,rfl,rfl,by rw[s2] <;> rfl,ht,hu⟩
     ·have eW:decide (z0f w=z0f z)=false:=decide_eq_false fun e=>hwz (z7g e)
      rw[if_neg hwz] at s2
      have hv:=f5
      simp only[go_sem,z7j,q1,q2,q3,q6,q7,q8,q9,q10,hB,f3,f4,f5,decide_true,decide_false,z1j,eW,z8,x6,z1p]
      rw[show [AV.str (z0f k)]=z3b ([(k,w)].map fun p=>z0f p.1) from rfl]
      refine z9i (q:=8) hB rfl rfl ht z0v z0v (by simp only[z1j,v6,k7];omega) fun L1 h1=> ?_
      rw[z4t]
      rcases h1 with rfl | rfl
      all_goals
       simp only[go_sem,q1,q2,q3,q6,q7,q8,q9,q10,hB,hv]
       rw[show [AV.str (z0f w)]=z3b ([(k,w)].map fun p=>z0f p.2) from rfl]
       refine z9i (q:=10) hB rfl rfl hu z0v z0v (by simp only[z1j,v6,k7];omega) fun L2 h2=> ?_
       rw[z4t]
       rcases h2 with rfl | rfl
       all_goals
        simp only[go_sem,q1,q2,q3,q6,q7,q8,q9,q10,hB,z1p]
        refine⟨by simp[z1r,apart,z0q,z1n,z1t,AOp.isCall,hB,AV.ids,z0i,z1i] <;> first | exact⟨tn t ht 2 (by omega),tn t ht 0 (by omega)⟩ | exact tn t ht 2 (by omega) | exact tn t ht 0 (by omega), ?_⟩
        simp only[go_sem,q1,q2,q3,q6,q7,q8,q9,q10,hB,f2,f4,decide_true,decide_false,z1j,z8,x6]
        exact hnx _ ⟨g0,g1,g2,true,_,_,_,_,_,_,_,_,_,_,hfin,q1,q2,q3,q6,q7,q8,rfl,rfl,by rw[s2] <;> rfl, .inl (.inr (.inr ⟨_,rfl,rfl⟩)), .inl (.inr (.inr ⟨_,rfl,rfl⟩))⟩
 ·rintro f1 ts h clk P ⟨g0,g1,g2,put,t,u,o3,o4,o5,o6,o7,o8,o9,o10,hput,q1,q2,q3,q6,q7,q8,q9,q10,rfl,ht,hu⟩ he hr
  dsimp only at q1 q2 q3 q6 q7 q8 q9 q10
  rw[if_neg (by omega)] at hput
  subst hput
  have f3:decide (((l.length + 1:Nat):Int)≤(l.length:Int))=false:=by rw[n9];omega
  rw[u0 (by omega),w1o]
  simp only[go_sem,z7j,q1,q2,q3,q6,q7,q8,q9,q10,hB,f3,z1j]
  refine he _ _ ?_
  simp only[go_sem,q6,q7,q8,hB,z0t,z0s,z0g]
  rw[z0h rfl (by simp[z1k,AV.cv,cvL,AV.ids,z0i,z1i])]
  exact hT _
end
section
open Sh
set_option maxHeartbeats 0
end
section
open Sh
theorem k3h {a b:Nat}:decide ((a:Int)=(b:Int))=decide (a=b):=by
 by_cases h:a=b
 ·simp[h]
 ·rw[decide_eq_false h,n9];omega
theorem u0y {α:Type} {xs ys:List α} {i:Nat} (hx:i < xs.length) (hy:i < ys.length) (h:xs.take i=ys.take i) (h1:xs[i]=ys[i]):xs.take (i + 1)=ys.take (i + 1):=by
 rw[w7 hx,w7 hy,h,h1]
end
theorem k9m {b:Bool}:Pure Gam 283 [.bool b] (eV (.bool b)):=by
 refine Pure.of rfl w7p rfl rfl rfl rfl rfl fun D B clk T hB hT=> ?_
 rw[z4l] at hT
 simp only[go_sem,v2y,hB,z0t,z0s,z0g]
 rw[z2y rfl (by simp[AV.cv,cvL,AV.ids,z0i])]
 exact hT _
theorem v3t {a b:List (List Nat)} {u v:Tip} (hl:a.length≤2 ^ 40):Pure Gam 257 [.sl (z3b a) u, .sl (z3b b) v] (.bool (decide (a=b))):=by
 refine Pure.of rfl u5r rfl rfl rfl (az:=[.sl (z3b a) .no, .sl (z3b b) .no]) rfl (by simp[z0i,AV.ids,z1i]) fun D B clk T hB hT=> ?_
 have hla:(z3b a).length=a.length:=z6 _
 have hlb:(z3b b).length=b.length:=z6 _
 cases hlen:decide (a.length=b.length) with
 | true=>
   have hlen':a.length=b.length:=of_decide_eq_true hlen
   simp only[go_sem,y6v,hB,hla,hlb,k3h,hlen,z8]
   refine z6h a.length (by omega) (fun i q=>a.take i=b.take i∧q.ts 0= .sl (z3b a) .no∧q.ts 1= .sl (z3b b) .no∧q.ts 5= .int .i64 (i:Int)) ⟨by simp,rfl,rfl,rfl⟩ ?_ ?_
   ·rintro i hlt f1 f2 ts h clk P ⟨he0,q0,q1,q5⟩ hnx he hr
    dsimp only at q0 q1 q5
    have hlt2:i < b.length:=by omega
    cases hc:decide (a[i]=b[i]) with
    | true=>
      simp only[go_sem,k0s,q0,q1,q5,f1,f2,hla,z9h hlt,z9h hlt2,hc,z8]
      exact hnx _ ⟨u0y hlt hlt2 he0 (of_decide_eq_true hc),q0,q1,rfl⟩
    | false=>
      simp only[go_sem,k0s,q0,q1,q5,f1,f2,hla,z9h hlt,z9h hlt2,hc,x6]
      refine hr _ ?_
      rw[decide_eq_false fun e=>of_decide_eq_false hc (by subst e;rfl)] at hT
      simp only[go_sem,]
      rw[z0e]
      exact hT _
   ·rintro f1 ts h clk P ⟨he0,q0,q1,q5⟩ he hr
    dsimp only at q0 q1 q5
    simp only[go_sem,k0s,q0,q1,q5,f1,hla]
    refine he _ _ ?_
    rw[b7,hlen',b7] at he0
    rw[decide_eq_true he0] at hT
    simp only[go_sem,]
    rw[z0e]
    exact hT _
 | false=>
   simp only[go_sem,y6v,hB,hla,hlb,k3h,hlen,x6]
   rw[decide_eq_false fun e=>of_decide_eq_false hlen (by rw[e])] at hT
   rw[z0e]
   exact hT _
theorem v3u {m s:Nat} {a b:Val} (ha:VOk m s a) (hm:m≤330000):Pure Gam 205 [eV a,eV b] (.bool (q6o a b)):=by
 have hl:a.l.length≤330000:=by
  cases a with
  | bool b=>simp[Val.l]
  | num t q=>simp[Val.l]
  | arr z l=>have:=ha.2.2.2.2;simp only[Val.l];omega
 have p1:=v3t (a:=a.l.map fun p=>z0f p.1) (b:=b.l.map fun p=>z0f p.1) (u:= .no) (v:= .no) (by rw[z6];omega)
 have p2:=v3t (a:=a.l.map fun p=>z0f p.2) (b:=b.l.map fun p=>z0f p.2) (u:= .no) (v:= .no) (by rw[z6];omega)
 refine Pure.of rfl u5q rfl rfl rfl (az:=[eV a,eV b]) rfl (by simp[z0i,q0x]) fun D B clk T hB hT=> ?_
 rw[q6o] at hT
 have d1:decide ((a.s:Int)=(b.s:Int))=decide (a.s=b.s):=k3h
 cases c1:decide (a.s=b.s) <;> rw[c1] at hT d1
 ·simp only[go_sem,w2d,hB,eV,value,nat,d1]
  rw[z0e]
  exact hT _
 cases c2:decide (a.b=b.b) <;> rw[c2] at hT
 ·have c2':(a.b==b.b)=false:=by simpa using c2
  simp only[go_sem,w2d,hB,eV,value,nat,d1,c2,c2']
  rw[z0e]
  exact hT _
 have c2':(a.b==b.b)=true:=by simpa using c2
 cases c3:decide (a.t=b.t) <;> rw[c3] at hT
 ·simp only[go_sem,w2d,hB,eV,value,nat,d1,c2,c2',c3]
  rw[z0e]
  exact hT _
 cases c4:decide ((a.l.map fun p=>z0f p.1)=b.l.map fun p=>z0f p.1) <;> rw[c4] at hT p1
 ·simp only[go_sem,w2d,hB,eV,value,nat,d1,c2,c2',c3,z0a p1]
  rw[z0e]
  exact hT _
 simp only[go_sem,w2d,hB,eV,value,nat,d1,c2,c2',c3,z0a p1,z0a p2]
 rw[z0e]
 simpa using hT _
theorem k9n {m s:Nat} {v:Val} (h:VOk m s v) (hm:m≤330000):Pure Gam 174 [eV v] (eV v):=by
 have hl:v.l.length≤330000:=by
  cases v with
  | bool b=>simp[Val.l]
  | num t q=>simp[Val.l]
  | arr z l=>have:=h.2.2.2.2;simp only[Val.l];omega
 refine Pure.of rfl w7n rfl rfl rfl (az:=[eV v]) rfl (by simp[z0i,q0x]) fun D B clk T hB hT=> ?_
 rw[eV,value] at hT
 simp only[go_sem,v2x,hB,eV,value,nat,z1p]
 rw[append_nil hB rfl z0v (by rw[z1j];omega)]
 simp only[go_sem,hB]
 rw[append_nil hB rfl z0v (by rw[z1j];omega)]
 simp only[go_sem,hB,z0t,z0s,z0g]
 refine⟨by simp[z1r,apart,z0q,z1n,z1t,AOp.isCall,hB,AV.ids,z0i,z1i], ?_⟩
 rw[z2y rfl (by simp[AV.cv,cvL,AV.ids,z0i,z1i])]
 exact hT _
theorem k9o {m:Nat} {z i:Int} {l:List (Int×Int)} (hm:m≤330000) (h:VOk m 4 (.arr z l)) (hi:(dec i.natAbs).length≤19999999):Pure Gam 288 [eV (.arr z l), .str (z0f i)] (.str (z0f (atA z l i))):=by
 have p1:=x6c hm h
 rw[q3g] at p1
 obtain⟨_,hz,hs,hp,hlm⟩:=h
 refine Pure.of rfl w7t rfl rfl rfl (az:=[eV (.arr z l), .str (z0f i)]) rfl (by simp[z0i,q0x,AV.ids]) fun D B clk T hB hT=> ?_
 simp only[go_sem,v3b,hB,q3g,z0a p1,z9,z7,decide_true,decide_false,z8,x6,z0a (z7w (z:=i) (by omega))]
 refine z6h l.length (by omega) (fun j q=>∃ g0:Nat,(∀ p∈l.take j,p.1≠i)∧q.ts 1= .str (z0f i)∧q.ts 2= .ptr (B + 0) g0 0 0∧q.ts 5= .int .i64 (j:Int)∧q.h=D++[.blk g0 [.agg [.int .i64 4, .bool false, .str (z0f z), .sl (z3b (l.map fun p=>z0f p.1)) .no, .sl (z3b (l.map fun p=>z0f p.2)) .no]] false false 0]) ⟨_,by simp,rfl,rfl,rfl,rfl⟩ ?_ ?_
 ·rintro j hlt f1 f2 ts h clk P ⟨g0,hno,q1,q2,q5,rfl⟩ hnx he hr
  dsimp only at q1 q2 q5
  have hk:=fun h=>x6b (l:=l) (h:=h) (t:= .no) hlt
  have hv:=fun h=>j1t (l:=l) (h:=h) (t:= .no) hlt
  by_cases hki:l[j].1=i
  ·have e1:decide (z0f l[j].1=z0f i)=true:=decide_eq_true (by rw[hki])
   have hat:atA z l i=l[j].2:=by
    have:l.find? (fun p=>decide (p.1=i))=some l[j]:=by
     rw[List.find?_eq_some_iff_getElem]
     refine⟨by simp[hki],j,hlt,rfl,fun k hk=> ?_⟩
     have:=hno l[k] (List.mem_take_iff_getElem.2 ⟨k,by omega,rfl⟩)
     simp[this]
    rw[atA,this]
    rfl
   rw[hat] at hT
   simp only[go_sem,q9n,q1,q2,q5,hB,f1,z1j,hk,hv,e1]
   refine hr _ ?_
   simp only[go_sem,]
   rw[z2z]
   exact hT _
  ·have e1:decide (z0f l[j].1=z0f i)=false:=decide_eq_false fun e=>hki (z7g e)
   simp only[go_sem,q9n,q1,q2,q5,hB,f1,f2,z1j,hk,hv,e1]
   refine hnx _ ⟨g0,fun p hp=> ?_,q1,q2,rfl,rfl⟩
   rw[w7 hlt] at hp
   rcases x4.1 hp with hp | hp
   ·exact hno p hp
   ·rw[y3.1 hp];exact hki
 ·rintro f1 ts h clk P ⟨g0,hno,q1,q2,q5,rfl⟩ he hr
  dsimp only at q1 q2 q5
  have hat:atA z l i=z:=by
   rw[b7] at hno
   have:l.find? (fun p=>decide (p.1=i))=none:=by
    rw[List.find?_eq_none]
    intro p hp
    simp[hno p hp]
   rw[atA,this]
   rfl
  rw[hat] at hT
  simp only[go_sem,q9n,q1,q2,q5,hB,f1,z1j]
  refine he _ _ ?_
  simp only[go_sem,q2,hB]
  rw[z2z]
  exact hT _
theorem k9p {q:Qn} (h:q.R):Pure Gam 321 [.str q.text] (.str q.text):=by
 refine Pure.of rfl w7x rfl rfl rfl rfl rfl fun D B clk T hB hT=> ?_
 simp only[go_sem,v3d,hB,z0a (q7x h),z8]
 rw[z2z]
 exact hT _
theorem k9q {q:Qn} (h:q.R) (hn:q.neg=false):Pure Gam 313 [.str q.text] (.str q.text):=by
 have e:decide (q6p q < 0)=false:=by
  unfold q6p
  rw[hn]
  split <;> rfl
 refine Pure.of rfl w7w rfl rfl rfl rfl rfl fun D B clk T hB hT=> ?_
 simp only[go_sem,v3c,hB,z0a (x5y h),e,z0a (k9p h)]
 rw[z2z]
 exact hT _
def w1p (x y:Qn):Qn:=q2e (!(x.neg==y.neg)) (x.n * y.d) (x.d * y.n)
theorem k9r {x y:Qn} (hx:x.R) (hy:y.R) (h0:y.n≠0):Pure Gam 301 [.str x.text, .str y.text] (.str (w1p x y).text):=by
 have p1:=z6u hx
 have p2:=z6u hy
 have m1:=z8p (a:=x.n) (b:=y.d) hx.n hy.d
 have m2:=z8p (a:=x.d) (b:=y.n) hx.d hy.n
 have l1:=z6b hx.n hy.d
 have l2:=z6b hx.d hy.n
 have hpos:=Nat.mul_pos hx.c.pos (Nat.pos_of_ne_zero h0)
 have hl:=q7j (neg:= !(x.neg==y.neg)) l1 l2
 have f1:=x5w (neg:= !(x.neg==y.neg)) hpos (by omega) (by omega:(dec (x.d * y.n)).length≤_) (a:=x.n * y.d)
 have f2:=q7w (q:=q2e (!(x.neg==y.neg)) (x.n * y.d) (x.d * y.n)) (by have:=hl.n;omega) (by have:=hl.d;omega)
 have e1:decide (dec y.n=[48])=false:=by rw[z1o];simp[h0]
 unfold w1p
 refine Pure.of rfl w9k rfl rfl rfl rfl rfl fun D B clk T hB hT=> ?_
 simp only[go_sem,v8n,hB]
 rw[z0a p1]
 simp only[go_sem,hB,z9o]
 rw[z0a p2]
 simp only[go_sem,hB,z9o,z8,x6,e1,z1p,z0a m1,z0a m2]
 rw[z0a f1]
 simp only[go_sem,]
 rw[z0a f2]
 simp only[go_sem,]
 refine⟨by simp[z1r,apart,z0q,z1n,z1t,AOp.isCall,hB], ?_⟩
 rw[z2z]
 exact hT _
def x0y (q:Qn):Nat:=q.n / q.d + (if q.neg=true∧q.n % q.d≠0 then 1 else 0)
def k3i (q:Qn):Qn:=⟨q.neg && !decide (x0y q=0),x0y q,1⟩
theorem k9s {q:Qn} (h:q.R):Pure Gam 312 [.str q.text] (.str (k3i q).text):=by
 have hp:=z6u h
 rw[z9o] at hp
 have p2:=x5b (a:=q.n) (b:=q.d) h.c.pos (by have:=h.n;omega) (by have:=h.d;omega)
 have hl1:(dec (q.n / q.d)).length≤20000000:=j1r h.n
 have p3:Pure Gam 280 [.str (dec (q.n / q.d)), .str [49]] (.str (dec (q.n / q.d + 1))):=by
  have:=k1w (a:=q.n / q.d) (b:=1) (by omega) (by rw[z2e];simp)
  rwa [z2e] at this
 have p4:∀ neg m,(dec m).length≤20000001→Pure Gam 231 [.agg [.bool neg, .str (dec m), .str [49]]] (.str (z3g neg m 1)):=fun neg m hm=>by
  have:=q6h (neg:=neg) (n:=m) (d:=1) (by omega) (by rw[z2e];simp)
  rwa [z9o,z2e] at this
 have hl2:(dec (q.n / q.d + 1)).length≤20000001:=x5u (b:=1) hl1 (by rw[z2e];simp)
 refine Pure.of rfl w7v rfl rfl rfl rfl rfl fun D B clk T hB hT=> ?_
 have hT:∀ h',T (.str (z3g (q.neg && !decide (x0y q=0)) (x0y q) 1)) h':=hT
 unfold x0y at hT
 cases hn:q.neg <;> rw[hn] at hT hp
 ·rw[if_neg (by simp),b4,Bool.false_and] at hT
  simp only[go_sem,x8e,hB,z0a hp,z8,z0a p2,z0a (p4 false (q.n / q.d) (by omega))]
  rw[z2z]
  exact hT _
 ·cases hr:decide (q.n % q.d=0) with
  | true=>
    have e1:decide (dec (q.n % q.d)=[48])=true:=by rw[z1o,hr]
    rw[if_neg (by simp only[true_and,Classical.not_not];exact of_decide_eq_true hr),b4,Bool.true_and] at hT
    cases hm:decide (q.n / q.d=0) <;> rw[hm] at hT
    ·have e2:decide (dec (q.n / q.d)=[48])=false:=by rw[z1o,hm]
     simp only[go_sem,x8e,hB,z0a hp,z8,x6,z0a p2,e1,e2,z0a (p4 true (q.n / q.d) (by omega))]
     rw[z2z]
     exact hT _
    ·have e2:decide (dec (q.n / q.d)=[48])=true:=by rw[z1o,hm]
     simp only[go_sem,x8e,hB,z0a hp,z8,x6,z0a p2,e1,e2,z0a (p4 false (q.n / q.d) (by omega))]
     rw[z2z]
     exact hT _
  | false=>
    have e1:decide (dec (q.n % q.d)=[48])=false:=by rw[z1o,hr]
    rw[if_pos ⟨rfl,of_decide_eq_false hr⟩,Bool.true_and,show decide (q.n / q.d + 1=0)=false from rfl] at hT
    have e2:decide (dec (q.n / q.d + 1)=[48])=false:=by rw[z1o];rfl
    simp only[go_sem,x8e,hB,z0a hp,z8,x6,z0a p2,z0a p3,e1,e2,z0a (p4 true (q.n / q.d + 1) hl2)]
    rw[z2z]
    exact hT _
theorem k3j {z:Int} {k:Nat} (h1:1≤k) (h5:k≤5):k3i (w1p (z3j z) (z3j (k:Int)))=z3j (z / (k:Int)):=by
 have hk:decide ((k:Int) < 0)=false:=by simp
 have e:w1p (z3j z) (z3j (k:Int))=q2e (decide (z < 0)) z.natAbs k:=by
  simp only[w1p,z3j,hk,Nat.mul_one,Nat.one_mul,u5]
  cases decide (z < 0) <;> rfl
 rw[e]
 have hg:0 < j8 z.natAbs k:=Nat.gcd_pos_of_pos_right _ (by omega)
 obtain⟨a,ha⟩:=Nat.gcd_dvd_left z.natAbs k
 obtain⟨b,hb⟩:=Nat.gcd_dvd_right z.natAbs k
 have e1:(q2e (decide (z < 0)) z.natAbs k).n / (q2e (decide (z < 0)) z.natAbs k).d=z.natAbs / k:=by
  simp only[q2e]
  generalize j8 z.natAbs k=g at *
  rw[ha,hb,Nat.mul_div_cancel_left _ hg,Nat.mul_div_cancel_left _ hg,Nat.mul_div_mul_left _ _ hg]
 have e2:(q2e (decide (z < 0)) z.natAbs k).n % (q2e (decide (z < 0)) z.natAbs k).d=0↔z.natAbs % k=0:=by
  simp only[q2e]
  generalize j8 z.natAbs k=g at *
  rw[ha,hb,Nat.mul_div_cancel_left _ hg,Nat.mul_div_cancel_left _ hg,Nat.mul_mod_mul_left]
  constructor
  ·intro h;rw[h,Nat.mul_zero]
  ·intro h;exact (Nat.mul_eq_zero.1 h).resolve_left (by omega)
 have e3:(q2e (decide (z < 0)) z.natAbs k).neg=decide (z < 0):=by
  simp only[q2e]
  by_cases hz:z < 0
  ·have:z.natAbs / j8 z.natAbs k≠0:=by
    have:=Nat.div_pos (Nat.gcd_le_left k (show 0 < z.natAbs by omega)) hg
    omega
   simp[hz,this]
  ·simp[hz]
 have e4:x0y (q2e (decide (z < 0)) z.natAbs k)=(z / (k:Int)).natAbs:=by
  unfold x0y
  rw[e1,e3]
  simp only[ne_eq,e2,decide_eq_true_eq]
  rcases (by omega:k=1∨k=2∨k=3∨k=4∨k=5) with rfl | rfl | rfl | rfl | rfl <;> split <;> omega
 unfold k3i z3j
 rw[e4,e3]
 have:(decide (z < 0) && !decide ((z / (k:Int)).natAbs=0))=decide (z / (k:Int) < 0):=by
  by_cases hz:z < 0
  ·have hq:z / (k:Int) < 0:=Int.ediv_neg_of_neg_of_pos hz (by omega)
   have:(z / (k:Int)).natAbs≠0:=by omega
   simp[hz,hq];omega
  ·have hq:¬ z / (k:Int) < 0:=by have:=Int.ediv_nonneg (show 0≤z by omega) (show (0:Int)≤k by omega);omega
   simp[hz,hq]
 rw[this]
theorem y2z {x y:Qn} (hx:(dec x.n).length + (dec y.d).length≤20000000) (hy:(dec x.d).length + (dec y.n).length≤20000000) (h:0 < x.d * y.n):(w1p x y).R:=by
 have hl:=q7j (neg:= !(x.neg==y.neg)) (z6b (x7 (dec x.n).length) (x7 (dec y.d).length)) (z6b (x7 (dec x.d).length) (x7 (dec y.n).length))
 exact⟨j4y h,j1 hl.n hx,j1 hl.d hy⟩
theorem j5g {z:Int} {k:Nat} (hz:(dec z.natAbs).length≤19999990) (h1:1≤k) (h5:k≤5):Pure Gam 286 [.str (z0f z), .str (dec k)] (.str (z0f (z / (k:Int)))):=by
 have hkl:(dec k).length≤1:=by rw[z6p (by omega)];simp
 have ek:(z3j (k:Int)).text=dec k:=by rw[z1x,z0f,if_neg (by omega),u5]
 have hkr:(z3j (k:Int)).R:=q3f (by rw[u5];omega)
 have hzr:(z3j z).R:=q3f (by omega)
 have d1:(dec 1).length=1:=by rw[z2e];rfl
 have hdr:(w1p (z3j z) (z3j (k:Int))).R:=y2z (by show (dec z.natAbs).length + (dec 1).length≤_;omega) (by show (dec 1).length + (dec (k:Int).natAbs).length≤_;rw[u5];omega) (by show 0 < 1 * (k:Int).natAbs;rw[u5];omega)
 have p1:=z7w (z:=z) (by omega)
 have p2:=x5x hkr
 have p3:=k9q hkr (by simp[z3j])
 have p4:=k9r hzr hkr (by show (k:Int).natAbs≠0;rw[u5];omega)
 have p5:=k9s hdr
 have p6:=x5y hkr
 rw[k3j h1 h5,z1x] at p5
 rw[z1x] at p4
 rw[ek] at p2 p3 p4 p6
 rw[show decide ((z3j (k:Int)).d=1)=true from rfl] at p2
 have e1:decide (dec k=[48])=false:=by rw[z1o];simp;omega
 have e2:decide (q6p (z3j (k:Int)) < 0)=false:=by
  unfold q6p z3j
  dsimp only
  rw[if_neg (by omega),if_neg (by simp)]
  rfl
 refine Pure.of rfl w7q rfl rfl rfl rfl rfl fun D B clk T hB hT=> ?_
 simp only[go_sem,v2z,hB,z0a p1,z0a p2,z8,e1,z0a p3,z0a p4,z0a p5,z0a p6,e2]
 rw[z2z]
 exact hT _
theorem k9t {z:Int} {k:Nat} (hz:(dec z.natAbs).length≤19999900) (h1:1≤k) (h5:k≤5):Pure Gam 287 [.str (z0f z), .str (dec k)] (.str (z0f (z % (k:Int)))):=by
 have hkl:(dec k).length≤1:=by rw[z6p (by omega)];simp
 have ek:(z3j (k:Int)).text=dec k:=by rw[z1x,z0f,if_neg (by omega),u5]
 have hkr:(z3j (k:Int)).R:=q3f (by rw[u5];omega)
 have hql:(dec (z / (k:Int)).natAbs).length≤19999900:=j1 (z4o (Int.natAbs_ediv_le_natAbs z k)) hz
 have p1:=j5g (z:=z) (by omega) h1 h5
 have p2:=j5e hkr (q3f (z:=z / (k:Int)) (by omega))
 rw[x5s,ek,z1x,z1x] at p2
 have hml:(dec ((k:Int) * (z / (k:Int))).natAbs).length≤19999901:=by
  rw[Int.natAbs_mul,u5]
  exact j1 (z6b hkl hql) (by omega)
 have p3:=j5c (q3f (z:=z) (by omega)) (q3f (z:=(k:Int) * (z / (k:Int))) (by omega))
 rw[x6a,z1x,z1x,z1x,←Int.emod_def] at p3
 have e1:decide (z0f (z / (k:Int))=[])=false:=by
  rw[n9]
  unfold z0f
  split
  ·simp
  ·exact z7d _
 refine Pure.of rfl w7r rfl rfl rfl rfl rfl fun D B clk T hB hT=> ?_
 simp only[go_sem,v3a,hB,z0a p1,e1,z0a p2,z0a p3]
 rw[z2z]
 exact hT _
section
variable {h:List AObj} {v:Val} {l:List AV} {a b:AV} {t:Tip} {k:IntKind}
theorem q5o:z1v h 5 (.sl (eV v::l) t) (.int k 0)=some (.iptr [nat v.s, .bool v.b, .str v.t, .sl (z3b (v.l.map fun p=>z0f p.1)) .no, .sl (z3b (v.l.map fun p=>z0f p.2)) .no] 0,h):=z4i (i:=0) (e:=eV v) rfl rfl
theorem x6d:z1v h 5 (.sl (a::eV v::l) t) (.int k 1)=some (.iptr [nat v.s, .bool v.b, .str v.t, .sl (z3b (v.l.map fun p=>z0f p.1)) .no, .sl (z3b (v.l.map fun p=>z0f p.2)) .no] 0,h):=z4i (i:=1) (e:=eV v) rfl rfl
theorem y3a:z1v h 5 (.sl (a::b::eV v::l) t) (.int k 2)=some (.iptr [nat v.s, .bool v.b, .str v.t, .sl (z3b (v.l.map fun p=>z0f p.1)) .no, .sl (z3b (v.l.map fun p=>z0f p.2)) .no] 0,h):=z4i (i:=2) (e:=eV v) rfl rfl
theorem x9c {vs:List Val} {i:Nat} (hi:i < vs.length):z1v h 5 (.sl (vs.map eV) t) (.int k (i:Int))=some (.iptr [nat vs[i].s, .bool vs[i].b, .str vs[i].t, .sl (z3b (vs[i].l.map fun p=>z0f p.1)) .no, .sl (z3b (vs[i].l.map fun p=>z0f p.2)) .no] 0,h):=z3v hi rfl rfl
end
theorem z2q {vs:List Val}:z0i (vs.map eV)=[]:=z0d q0x
theorem x1u (b:Bool):Pure Gam 283 [.bool b] (.agg [.int .i64 1, .bool b, .str [], .sl [] .no, .sl [] .no]):=k9m
theorem k3k {v:Val} {u:Tip}:Pure Gam 289 [.int .i64 6, .sl [eV v] u] (eV (.bool (!v.b))):=by
 refine Pure.of rfl k0t rfl rfl rfl (az:=[.int .i64 6, .sl [eV v] .no]) rfl (by simp[z0i,AV.ids,q0x]) fun D B clk T hB hT=> ?_
 rw[z4l] at hT
 simp only[go_sem,x8d,hB,q5o,z7,decide_true,decide_false,z0a (x1u _),z0t,z0s,z0g]
 rw[z2y rfl (by simp[AV.cv,cvL,AV.ids,z0i])]
 exact hT _
theorem k3l {v w:Val} {u:Tip}:Pure Gam 289 [.int .i64 9, .sl [eV v,eV w] u] (eV (.bool (!v.b || w.b))):=by
 refine Pure.of rfl k0t rfl rfl rfl (az:=[.int .i64 9, .sl [eV v,eV w] .no]) rfl (by simp[z0i,AV.ids,q0x]) fun D B clk T hB hT=> ?_
 rw[z4l] at hT
 cases hv:v.b <;> rw[hv] at hT
 ·simp only[go_sem,x8d,hB,q5o,x6d,hv,z7,decide_true,decide_false,x6,z0a (x1u _),z0t,z0s,z0g]
  rw[z2y rfl (by simp[AV.cv,cvL,AV.ids,z0i])]
  exact hT _
 ·simp only[go_sem,x8d,hB,q5o,x6d,hv,z7,decide_true,decide_false,z8,z0a (x1u _),z0t,z0s,z0g]
  rw[z2y rfl (by simp[AV.cv,cvL,AV.ids,z0i])]
  exact hT _
theorem x3n {o:Nat} {vs:List Val} {u:Tip} (ho:o=7∨o=8) (hl:vs.length≤2 ^ 40):Pure Gam 289 [.int .i64 (o:Int), .sl (vs.map eV) u] (eV (.bool (if o=8 then vs.any Val.b else vs.all Val.b))):=by
 refine Pure.of rfl k0t rfl rfl rfl (az:=[.int .i64 (o:Int), .sl (vs.map eV) .no]) rfl (by simp[z0i,AV.ids,z2q]) fun D B clk T hB hT=> ?_
 rw[z4l] at hT
 have o6:decide ((o:Int)=6)=false:=by rw[n9];omega
 have o9:decide ((o:Int)=9)=false:=by rw[n9];omega
 have o7:decide ((o:Int)=7)= !decide (o=8):=by rcases ho with rfl | rfl <;> rfl
 have o8:decide ((o:Int)=8)=decide (o=8):=by rcases ho with rfl | rfl <;> rfl
 simp only[go_sem,x8d,hB,o6,o9]
 refine z6h vs.length (by omega) (fun i q=>∃ g:Nat,(∀ v∈vs.take i,v.b= !decide (o=8))∧q.ts 0= .int .i64 (o:Int)∧q.ts 1= .sl (vs.map eV) .no∧q.ts 4= .ptr (B + 0) g 0 0∧q.ts 5= .int .i64 (i:Int)∧q.h=D++[.blk g [.agg [.int .i64 0, .bool false, .str [], .sl [] .nil, .sl [] .nil]] false false 0]) ⟨_,by simp,rfl,rfl,rfl,rfl,rfl⟩ ?_ ?_
 ·rintro i hlt f1 f2 ts h clk P ⟨g,hno,q0,q1,q4,q5,rfl⟩ hnx he hr
  dsimp only at q0 q1 q4 q5
  have hx:=fun h=>x9c (h:=h) (t:= .no) (k:= .i64) hlt
  by_cases hb:vs[i].b=decide (o=8)
  ·have hres:(if o=8 then vs.any Val.b else vs.all Val.b)=decide (o=8):=by
    split
    ·rename_i h8
     rw[decide_eq_true h8] at hb⊢
     exact List.any_eq_true.2 ⟨_,x8 hlt,hb⟩
    ·rename_i h8
     rw[decide_eq_false h8] at hb⊢
     exact List.all_eq_false.2 ⟨_,x8 hlt,by simp[hb]⟩
   rw[hres] at hT
   have e1:(decide (o=8)==decide (o=8))=true:=by simp
   have e2:decide (decide (o=8)=decide (o=8))=true:=by simp
   simp only[go_sem,q9o,q0,q1,q4,q5,hB,f1,z6,hx,hb,o8,e1,e2,z0a (x1u _)]
   refine hr _ ?_
   simp only[go_sem,q4,hB,z0t,z0s,z0g]
   rw[z2y rfl (by simp[AV.cv,cvL,AV.ids,z0i])]
   exact hT _
  ·have e1:(vs[i].b==decide (o=8))=false:=by simpa using hb
   simp only[go_sem,q9o,q0,q1,q4,q5,hB,f1,f2,z6,hx,o8,e1]
   refine hnx _ ⟨g,fun v hv=> ?_,q0,q1,q4,rfl,rfl⟩
   rw[w7 hlt] at hv
   rcases x4.1 hv with hv | hv
   ·exact hno v hv
   ·rw[y3.1 hv]
    cases h:vs[i].b <;> cases h':decide (o=8) <;> simp[h,h'] at hb⊢
 ·rintro f1 ts h clk P ⟨g,hno,q0,q1,q4,q5,rfl⟩ he hr
  dsimp only at q0 q1 q4 q5
  rw[b7] at hno
  have hres:(if o=8 then vs.any Val.b else vs.all Val.b)= !decide (o=8):=by
   split
   ·rename_i h8
    rw[decide_eq_true h8] at hno⊢
    exact List.any_eq_false.2 fun v hv=>by simp[hno v hv]
   ·rename_i h8
    rw[decide_eq_false h8] at hno⊢
    exact List.all_eq_true.2 fun v hv=>by simp[hno v hv]
  rw[hres] at hT
  simp only[go_sem,q9o,q0,q1,q4,q5,hB,f1,z6]
  refine he _ _ ?_
  simp only[go_sem,q0,q4,hB,o7,z0a (x1u _),z0t,z0s,z0g]
  rw[z2y rfl (by simp[AV.cv,cvL,AV.ids,z0i])]
  exact hT _
end Go.Proofs.YtkollgjffkdliaaGreatDoor.Am
