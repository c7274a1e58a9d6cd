/- Walking: the reference looks predicates and variables up; permitted atoms Walking: the reference checks atoms and variables Walking: the reference checks a system Walking: the reference of slicing loo -/
import Derived.Test.YtahdahokpjigiaaGreatDoorM31
set_option linter.all false
namespace Go.Proofs.YtahdahokpjigiaaGreatDoor.Am
open Go
set_option maxRecDepth 100000
def z4s (ps:List Func) (nm:List Nat):Int:=match ps.findIdx? (fun p=>decide (p.name=nm)) with
 | some i=>(i:Int)
 | none=> -1
theorem q3z {ps:List Func} {nm:List Nat} {i:Nat} (hi:i < ps.length) (h:ps[i].name=nm) (hn:∀ p∈ps.take i,p.name≠nm):z4s ps nm=(i:Int):=by
 have:ps.findIdx? (fun p=>decide (p.name=nm))=some i:=by
  rw[List.findIdx?_eq_some_iff_getElem]
  refine⟨hi,by simp[h],fun j hj=> ?_⟩
  have:=hn ps[j] (List.mem_take_iff_getElem.2 ⟨j,by omega,rfl⟩)
  simp[this]
 rw[z4s,this]
theorem z7i {ps:List Func} {nm:List Nat} (hn:∀ p∈ps,p.name≠nm):z4s ps nm= -1:=by
 have:ps.findIdx? (fun p=>decide (p.name=nm))=none:=by
  rw[List.findIdx?_eq_none_iff]
  intro p hp
  simp[hn p hp]
 rw[z4s,this]
theorem q3e {s:Sys} {nm:List Nat} (hl:s.preds.length≤1000):Pure Gam 71 [z0x s, .str nm] (.int .i64 (z4s s.preds nm)):=by
 refine Pure.of rfl u4t rfl rfl rfl (az:=[z0x s, .str nm]) rfl (by simp[idsL,z2c,AV.ids]) fun D B clk T hB hT=> ?_
 simp only[go_sem,u0o,hB,z0x]
 refine z0y (fun m q=>∃ (i g:Nat),i≤s.preds.length∧m=s.preds.length - i∧(∀ p∈s.preds.take i,p.name≠nm)∧q.ts 1= .str nm∧q.ts 2= .ptr (B + 0) g 0 0∧q.ts 5= .int .i64 (i:Int)∧q.h=D++[.blk g [.agg [.sl (s.preds.map z0q) .no, .sl (s.clauses.map z0f) .no]] false false 0]) s.preds.length ⟨0,_,by omega,rfl,by simp,rfl,rfl,rfl,rfl⟩ ?_
 rintro m ⟨ts,h',clk⟩ P ⟨i,g,hi,rfl,hno,h1,h2,h5,rfl⟩ hnx he hr
 dsimp only at h1 h2 h5
 by_cases hlt:i < s.preds.length
 ·have f1:decide ((i:Int) < (s.preds.length:Int))=true:=by rw[decide_eq_true_iff];omega
  have f2:IntKind.i64.wrap ((i:Int) + 1)=((i + 1:Nat):Int):=z0d (by omega) (by omega)
  have ht:s.preds.take (i + 1)=s.preds.take i++[s.preds[i]]:=List.take_succ_eq_append_getElem hlt
  by_cases hnm:s.preds[i].name=nm
  ·have e2:decide (s.preds[i].name=nm)=true:=by simp[hnm]
   simp only[go_sem,j9y,h1,h2,h5,hB,List.length_map,f1,e2,z8e hlt]
   refine hr _ ?_
   rw[q3z hlt hnm hno] at hT
   simp only[go_sem,]
   rw[z0h rfl rfl]
   exact hT _
  ·have e2:decide (s.preds[i].name=nm)=false:=by simp[hnm]
   simp only[go_sem,j9y,h1,h2,h5,hB,List.length_map,f1,f2,e2,z8e hlt]
   refine hnx (s.preds.length - (i + 1)) _ (by omega) ⟨i + 1,g,hlt,rfl,fun p hp=> ?_,h1,h2,rfl,rfl⟩
   rw[ht] at hp
   rcases List.mem_append.1 hp with hp | hp
   ·exact hno p hp
   ·rw[List.mem_singleton.1 hp];exact hnm
 ·have f1:decide ((i:Int) < (s.preds.length:Int))=false:=by rw[decide_eq_false_iff_not];omega
  rw[List.take_of_length_le (by omega)] at hno
  simp only[go_sem,j9y,h1,h2,h5,hB,List.length_map,f1]
  refine he _ _ ?_
  rw[z7i hno] at hT
  simp only[go_sem,]
  rw[z0h rfl rfl]
  exact hT _
theorem k2r {V:List Var} {nm:List Nat} {u:Tip} (hl:V.length≤1000) (hno:∀ v∈V,v.name≠nm):Pure Gam 192 [.sl (V.map z1b) u, .str nm] (.bool false):=by
 refine Pure.of rfl y5f rfl rfl rfl (az:=[.sl (V.map z1b) .no, .str nm]) rfl (by simp[idsL,z5s,AV.ids,z0c z2b]) fun D B clk T hB hT=> ?_
 simp only[go_sem,w5l,hB]
 refine z0y (fun m q=>∃ (i:Nat),i≤V.length∧m=V.length - i∧q.ts 0= .sl (V.map z1b) .no∧q.ts 1= .str nm∧q.ts 5= .int .i64 (i:Int)∧q.h=D) V.length ⟨0,by omega,rfl,rfl,rfl,rfl,by simp⟩ ?_
 rintro m ⟨ts,h',clk⟩ P ⟨i,hi,rfl,h0,h1,h5,rfl⟩ hnx he hr
 dsimp only at h0 h1 h5
 by_cases hlt:i < V.length
 ·have f1:decide ((i:Int) < (V.length:Int))=true:=by rw[decide_eq_true_iff];omega
  have f2:IntKind.i64.wrap ((i:Int) + 1)=((i + 1:Nat):Int):=z0d (by omega) (by omega)
  have e2:decide (V[i].name=nm)=false:=by simp[hno _ (List.getElem_mem hlt)]
  simp only[go_sem,j2v,h0,h1,h5,hB,List.length_map,f1,f2,e2,z8x hlt]
  exact hnx (V.length - (i + 1)) _ (by omega) ⟨i + 1,hlt,rfl,h0,h1,rfl,rfl⟩
 ·have f1:decide ((i:Int) < (V.length:Int))=false:=by rw[decide_eq_false_iff_not];omega
  simp only[go_sem,j2v,h0,h1,h5,hB,List.length_map,f1]
  refine he _ _ ?_
  simp only[go_sem,]
  rw[z0e]
  exact hT _
theorem z7j {ps:List Func} {f:Func} (hp:PrOk ps) (hf:f∈ps):∃ k,∃ h:k < ps.length,ps[k]=f∧z4s ps f.name=(k:Int):=by
 obtain⟨k,hk,rfl⟩:=List.mem_iff_getElem.1 hf
 refine⟨k,hk,rfl,q3z hk rfl fun p hpm e=> ?_⟩
 have h3:=hp.nodup
 have h4:((ps.take (k + 1)).map (·.name)).Nodup:=h3.sublist ((List.take_sublist _ _).map _)
 rw[List.take_succ_eq_append_getElem hk,List.map_append,List.nodup_append] at h4
 exact h4.2.2 _ (List.mem_map.2 ⟨p,hpm,rfl⟩) _ (by simp) e
theorem v8x {s:Sys} {c:Clause} {a:App} (hs:SysV s) (hV:∀ v∈c.vars,v∈z2h) (hVl:c.vars.length≤1000) (ha:AppOk s.preds c.vars a):Pure Gam 169 [z0x s,z0f c,z3x a] (.bool true):=by
 obtain⟨f,hf,hpn,hal,hz⟩:=ha
 obtain⟨k,hk,hkf,hpa⟩:=z7j hs.pr hf
 have hfl:=(hs.pr.args f hf).1
 have hpl:s.preds.length≤1000:=by have:=hs.preds.length_le;simp[allPreds] at this;omega
 have p1:=q3e (s:=s) (nm:=a.pred) hpl
 rw[hpn,hpa] at p1
 simp only[z0x] at p1
 refine Pure.of rfl y4s rfl rfl rfl (az:=[z0x s,z0f c,z3x a]) rfl (by simp[idsL,z2c,z1z,z4w]) fun D B clk T hB hT=> ?_
 have e1:decide ((k:Int) < 0)=false:=by rw[decide_eq_false_iff_not];omega
 simp only[go_sem,w5d,hB,z0x,z0f,z3x,hpn,List.length_map,z0a p1,e1,hal,z8e hk,hkf,decide_true,Bool.not_true]
 refine z0y (fun m q=>∃ (i g0 g1 g2:Nat),i≤f.args.length∧m=f.args.length - i∧q.ts 3= .ptr (B + 0) g0 0 0∧q.ts 4= .ptr (B + 1) g1 0 0∧q.ts 5= .ptr (B + 2) g2 0 0∧q.ts 7= .int .i64 (k:Int)∧q.ts 8= .int .i64 (i:Int)∧q.h=D++[.blk g0 [.agg [.sl (s.preds.map z0q) .no, .sl (s.clauses.map z0f) .no]] false false 0, .blk g1 [.agg [.sl (c.vars.map z1b) .no, .sl (c.body.map z3x) .no,z0l c.guard, .str c.head.pred, .sl (c.head.args.map z0l) .no]] false false 0, .blk g2 [.agg [.str f.name, .sl (a.args.map z0l) .no]] false false 0]) f.args.length ⟨0,_,_,_,by omega,rfl,rfl,rfl,rfl,rfl,rfl,rfl⟩ ?_
 rintro m ⟨ts,h',clk⟩ P ⟨i,g0,g1,g2,hi,rfl,h3,h4,h5,h7,h8,rfl⟩ hnx he hr
 dsimp only at h3 h4 h5 h7 h8
 by_cases hlt:i < f.args.length
 ·have f1:decide ((i:Int) < (f.args.length:Int))=true:=by rw[decide_eq_true_iff];omega
  have f2:IntKind.i64.wrap ((i:Int) + 1)=((i + 1:Nat):Int):=z0d (by omega) (by omega)
  have hlt2:i < a.args.length:=by omega
  have hg:=hz (f.args[i],a.args[i]) (by
   rw[List.mem_iff_getElem]
   exact⟨i,by simp;omega,by simp⟩)
  have p2:=j0y hV hVl (by have:=hg.2.1;omega) (by decide) hg.1 hg.2.2.1
  simp only[nat] at p2
  simp only[go_sem,j2r,h3,h4,h5,h7,h8,hB,List.length_map,hal,f1,f2,q4u hlt2,z8e hk,hkf,q9k hlt,nat,z0a p2,Bool.not_true]
  exact hnx (f.args.length - (i + 1)) _ (by omega) ⟨i + 1,g0,g1,g2,hlt,rfl,h3,h4,h5,h7,rfl,rfl⟩
 ·have f1:decide ((i:Int) < (f.args.length:Int))=false:=by rw[decide_eq_false_iff_not];omega
  simp only[go_sem,j2r,h3,h4,h5,h7,h8,hB,List.length_map,hal,f1]
  refine he _ _ ?_
  simp only[go_sem,]
  rw[z0e]
  exact hT _
theorem x0k {V:List Var} (h:List.Sublist V z2h):V.length≤8:=by have:=h.length_le;simpa [z2h] using this
theorem v8y {s:Sys} {V:List Var} (hs:SysV s) (hV:List.Sublist V z2h):Pure Gam 168 [z0x s, .sl (V.map z1b) .no] (.bool true):=by
 have hVl:=x0k hV
 have hnd:(V.map (·.name)).Nodup:=(hV.map _).nodup (by decide)
 have hpl:s.preds.length≤1000:=by have:=hs.preds.length_le;simp[allPreds] at this;omega
 refine Pure.of rfl y4r rfl rfl rfl (az:=[z0x s, .sl (V.map z1b) .no]) rfl (by simp[idsL,z2c,z5s]) fun D B clk T hB hT=> ?_
 simp only[go_sem,w5c,hB,z0x]
 refine z0y (fun m q=>∃ (i g0:Nat),i≤V.length∧m=V.length - i∧q.ts 1= .sl (V.map z1b) .no∧q.ts 2= .ptr (B + 0) g0 0 0∧q.ts 5= .int .i64 (i:Int)∧q.h=D++[.blk g0 [.agg [.sl (s.preds.map z0q) .no, .sl (s.clauses.map z0f) .no]] false false 0]) V.length ⟨0,_,by omega,rfl,rfl,rfl,rfl,rfl⟩ ?_
 rintro m ⟨ts,h',clk⟩ P ⟨i,g0,hi,rfl,h1,h2,h5,rfl⟩ hnx he hr
 dsimp only at h1 h2 h5
 by_cases hlt:i < V.length
 ·have f1:decide ((i:Int) < (V.length:Int))=true:=by rw[decide_eq_true_iff];omega
  have f2:IntKind.i64.wrap ((i:Int) + 1)=((i + 1:Nat):Int):=z0d (by omega) (by omega)
  have hv:V[i]∈z2h:=hV.mem (List.getElem_mem hlt)
  have hnew:∀ v∈V.take i,v.name≠V[i].name:=fun v hv e=>by
   have h4:((V.take (i + 1)).map (·.name)).Nodup:=hnd.sublist ((List.take_sublist _ _).map _)
   rw[List.take_succ_eq_append_getElem hlt,List.map_append,List.nodup_append] at h4
   exact h4.2.2 _ (List.mem_map.2 ⟨v,hv,rfl⟩) _ (by simp) e
  have hso:=q5d hv
  have p1:=k2p hv
  have p2:=j0x hso.1 hso.2
  have p3:=k2r (u:= .no) (V:=V.take i) (nm:=V[i].name) (by simp;omega) hnew
  have p4:=q3e (s:=s) (nm:=V[i].name) hpl
  rw[z7i fun p hp=>hs.apart p hp _ hv] at p4
  simp only[nat,z0x] at p2 p4
  have e3:∀ h,slV h (some 2) (.sl (V.map z1b) .no) none (some (.int .i64 (i:Int))) none=some (.sl ((V.take i).map z1b) .no,h):=fun h=>by
   have hh:z4l 2 (V.map z1b)=true:=by cases V <;> rfl
   rw[q4x (by simp;omega) hh,List.map_take];simp
  simp only[go_sem,j2q,h1,h2,h5,hB,List.length_map,f1,f2,z8x hlt,nat,z0a p1,z0a p2,e3,z0a p3,z0a p4,Bool.not_true,Bool.not_false,Int.reduceLE,decide_false]
  exact hnx (V.length - (i + 1)) _ (by omega) ⟨i + 1,g0,hlt,rfl,h1,h2,rfl,rfl⟩
 ·have f1:decide ((i:Int) < (V.length:Int))=false:=by rw[decide_eq_false_iff_not];omega
  simp only[go_sem,j2q,h1,h2,h5,hB,List.length_map,f1]
  refine he _ _ ?_
  simp only[go_sem,]
  rw[z0e]
  exact hT _
def q5j (h:List AObj) (n esz:Nat) (x ix:AV):Option (AV×List AObj):=match ix with
 | .int _ i=>if 0≤i then match x with
   | .ptr s g k o=>if i.toNat < n then some (.ptr s g k (o + i.toNat * esz),h) else none
   | .iptr cs o=>if i.toNat < n then some (.iptr cs (o + i.toNat * esz),h) else none
   | _=>none
   else none
 | _=>none
theorem v8z {h:List AObj} {base g n esz:Nat} {ts:Tmps} {x ix:AOpd}:prim h base g ts (.indexAddr (some n) esz x ix)=q5j h n esz (x.ev ts) (ix.ev ts):=by
 simp only[prim,q5j]
 cases ix.ev ts <;> try rfl
 cases x.ev ts <;> rfl
theorem v9a {B n esz g clk:Nat} {ts:Tmps} {h:List AObj} {x ix:AOpd} {dst:Option Nat} {os:List AOper} {ks:List Kf} {Q:Post}:O Gam B .plain g (⟨dst,(.indexAddr (some n) esz x ix),none⟩::os) ⟨ts,h,clk⟩ ks Q=PP Gam B (q5j h n esz (x.ev ts) (ix.ev ts)) dst g os ts clk ks Q:=by rw[q3c rfl,v8z]
attribute [go_sem] v9a
theorem v9b {f:Func} (hf:f∈allPreds):Pure Gam 243 [z0q f] (.bool true):=by
 refine Pure.tab (tab:=j7k) rfl rfl ?_
 simp only[allPreds,List.mem_cons,List.not_mem_nil,or_false] at hf
 rcases hf with rfl | rfl | rfl | rfl | rfl <;> rfl
theorem SysV.pl {s:Sys} (hs:SysV s):s.preds.length≤5:=by have:=hs.preds.length_le;simpa [allPreds] using this
theorem v9c {s:Sys} (hs:SysV s):Pure Gam 167 [z0x s] (.bool true):=by
 have hpl:=hs.pl
 refine Pure.of rfl y4q rfl rfl rfl (az:=[z0x s]) rfl (by simp[idsL,z2c]) fun D B clk T hB hT=> ?_
 simp only[go_sem,w5b,hB,z0x]
 refine z0y (fun m q=>∃ (i g0:Nat),i≤s.preds.length∧m=s.preds.length - i∧q.ts 1= .ptr (B + 0) g0 0 0∧q.ts 3= .int .i64 (i:Int)∧q.h=D++[.blk g0 [.agg [.sl (s.preds.map z0q) .no, .sl (s.clauses.map z0f) .no]] false false 0]) s.preds.length ⟨0,_,by omega,rfl,rfl,rfl,rfl⟩ ?_
 rintro m ⟨ts,h',clk⟩ P ⟨i,g0,hi,rfl,h1,h3,rfl⟩ hnx he hr
 dsimp only at h1 h3
 by_cases hlt:i < s.preds.length
 ·have f1:decide ((i:Int) < (s.preds.length:Int))=true:=by rw[decide_eq_true_iff];omega
  have f2:IntKind.i64.wrap ((i:Int) + 1)=((i + 1:Nat):Int):=z0d (by omega) (by omega)
  have hm:=List.getElem_mem hlt
  have p1:=v9b (hs.preds.mem hm)
  have hres:∀ f∈allPreds,f.result=1:=by decide
  have e1:=hres _ (hs.preds.mem hm)
  have p2:=q3e (s:=s) (nm:=s.preds[i].name) (by omega)
  rw[q3z hlt rfl fun p hpm e=>by
   have h3:=hs.pr.nodup
   have h4:((s.preds.take (i + 1)).map (·.name)).Nodup:=h3.sublist ((List.take_sublist _ _).map _)
   rw[List.take_succ_eq_append_getElem hlt,List.map_append,List.nodup_append] at h4
   exact h4.2.2 _ (List.mem_map.2 ⟨p,hpm,rfl⟩) _ (by simp) e] at p2
  simp only[z0q,z0x,nat] at p1 p2
  rw[e1] at p1
  simp only[Int.cast_ofNat_Int] at p1
  simp only[go_sem,j2p,h1,h3,hB,List.length_map,f1,f2,z8e hlt,e1,nat,z0a p1,z0a p2,Int.cast_ofNat_Int,decide_true,Bool.not_true]
  exact hnx (s.preds.length - (i + 1)) _ (by omega) ⟨i + 1,g0,hlt,rfl,h1,rfl,rfl⟩
 ·have f1:decide ((i:Int) < (s.preds.length:Int))=false:=by rw[decide_eq_false_iff_not];omega
  simp only[go_sem,j2p,h1,h3,hB,List.length_map,f1]
  refine he _ _ ?_
  simp only[go_sem,]
  rw[z0e]
  exact hT _
theorem y0c {s:Sys} (hs:SysV s):Pure Gam 105 [z0x s] (.sl [] .no):=by
 have hpl:=hs.pl
 have hcl:=hs.len
 have p0:=v9c hs
 simp only[z0x] at p0
 refine Pure.of rfl u4s rfl rfl rfl (az:=[z0x s]) rfl (by simp[idsL,z2c]) fun D B clk T hB hT=> ?_
 have ea1:∀ (h:List AObj) (g:Nat),q5j h 7 1 (.ptr (B + 6) g 0 0) (.int .i64 1)=some (.ptr (B + 6) g 0 1,h):=fun _ _=>rfl
 have ea2:∀ (h:List AObj) (g:Nat),q5j h 7 1 (.ptr (B + 6) g 0 0) (.int .i64 2)=some (.ptr (B + 6) g 0 2,h):=fun _ _=>rfl
 have ea3:∀ (h:List AObj) (g:Nat),q5j h 7 1 (.ptr (B + 6) g 0 0) (.int .i64 3)=some (.ptr (B + 6) g 0 3,h):=fun _ _=>rfl
 have ea4:∀ (h:List AObj) (g:Nat),q5j h 7 1 (.ptr (B + 6) g 0 0) (.int .i64 4)=some (.ptr (B + 6) g 0 4,h):=fun _ _=>rfl
 have ea5:∀ (h:List AObj) (g:Nat),q5j h 7 1 (.ptr (B + 6) g 0 0) (.int .i64 5)=some (.ptr (B + 6) g 0 5,h):=fun _ _=>rfl
 have ea6:∀ (h:List AObj) (g:Nat),q5j h 7 1 (.ptr (B + 6) g 0 0) (.int .i64 6)=some (.ptr (B + 6) g 0 6,h):=fun _ _=>rfl
 have f0:decide ((512:Int) < (s.preds.length:Int))=false:=by rw[decide_eq_false_iff_not];omega
 have f00:decide ((2048:Int) < (s.clauses.length:Int))=false:=by rw[decide_eq_false_iff_not];omega
 simp only[go_sem,u0h,hB,z0x,z0a p0,Bool.not_true,List.length_map,f0,f00]
 refine z0y (fun m q=>∃ (i g0:Nat) (o1 o2 o3 o4 o5 o6 o7 o8:AObj),i≤s.clauses.length∧m=s.clauses.length - i∧q.ts 1= .ptr (B + 0) g0 0 0∧q.ts 3= .sl [] .nil∧q.ts 4= .int .i64 (i:Int)∧q.h=D++[.blk g0 [.agg [.sl (s.preds.map z0q) .no, .sl (s.clauses.map z0f) .no]] false false 0,o1,o2,o3,o4,o5,o6,o7,o8]) s.clauses.length ⟨0,_,_,_,_,_,_,_,_,_,by omega,rfl,rfl,rfl,rfl,rfl⟩ ?_
 rintro m ⟨ts,h',clk⟩ P ⟨i,g0,o1,o2,o3,o4,o5,o6,o7,o8,hi,rfl,h1,h3,h4,rfl⟩ hnx he hr
 dsimp only at h1 h3 h4
 by_cases hlt:i < s.clauses.length
 ·have f1:decide ((i:Int) < (s.clauses.length:Int))=true:=by rw[decide_eq_true_iff];omega
  have f2:IntKind.i64.wrap ((i:Int) + 1)=((i + 1:Nat):Int):=z0d (by omega) (by omega)
  have hc:=hs.clauses _ (List.getElem_mem hlt)
  have hix:∀ h,z1m h 5 (.sl (s.clauses.map z0f) .no) (.int .i64 (i:Int))=some (.iptr [.sl (s.clauses[i].vars.map z1b) .no, .sl (s.clauses[i].body.map z3x) .no,z0l s.clauses[i].guard, .str s.clauses[i].head.pred, .sl (s.clauses[i].head.args.map z0l) .no] 0,h):=fun h=>z2f hlt rfl rfl
  generalize s.clauses[i]=c at hc hix
  obtain⟨hv,hb,hbo,hg,hh⟩:=hc
  have hvl:=x0k hv
  have hvm:∀ v∈c.vars,v∈z2h:=fun v h=>hv.mem h
  have p1:=v8y hs hv
  have p2:=j0y hvm (by omega) (by have:=hg.2.1;omega) (by decide) hg.1 (by decide)
  simp only[z0x,nat,z0l,Int.cast_ofNat_Int] at p1 p2
  have p3:∀ a,AppOk s.preds c.vars a→Pure Gam 169 [.agg [.sl (s.preds.map z0q) .no, .sl (s.clauses.map z0f) .no], .agg [.sl (c.vars.map z1b) .no, .sl (c.body.map z3x) .no, .sl (c.guard.map eNode) .no, .str c.head.pred, .sl (c.head.args.map z0l) .no], .agg [.str a.pred, .sl (a.args.map z0l) .no]] (.bool true):=fun a ha=>v8x hs hvm (by omega) ha
  simp only[go_sem,k5k,h1,h3,h4,hB,List.length_map,f1,hix,z0l,z0a p1,Bool.not_true,ea2]
  refine z0y (fun m q=>∃ (j g5 g6:Nat),j≤c.body.length∧m=c.body.length - j∧q.ts 1= .ptr (B + 0) g0 0 0∧q.ts 3= .sl [] .nil∧q.ts 4= .int .i64 (i:Int)∧q.ts 5= .ptr (B + 5) g5 0 0∧q.ts 6= .ptr (B + 6) g6 0 0∧q.ts 7= .int .i64 (j:Int)∧q.h=D++[.blk g0 [.agg [.sl (s.preds.map z0q) .no, .sl (s.clauses.map z0f) .no]] false false 0,o1,o2,o3,o4, .blk g5 [.agg [.sl (c.vars.map z1b) .no, .sl (c.body.map z3x) .no, .sl (c.guard.map eNode) .no, .str c.head.pred, .sl (c.head.args.map z0l) .no]] false false 0, .blk g6 [.agg [.bool false, .bool false, .bool false, .bool false, .bool false, .bool false, .bool false]] false false 0,o7,o8]) c.body.length ⟨0,_,_,by omega,rfl,h1,h3,h4,rfl,rfl,rfl,rfl⟩ ?_
  clear h1 h3 h4
  rintro m ⟨ts,h',clk⟩ P2 ⟨j,g5,g6,hj,rfl,h1,h3,h4,h5,h6,h7,rfl⟩ hnx2 he2 hr2
  dsimp only at h1 h3 h4 h5 h6 h7
  by_cases hltj:j < c.body.length
  ·have e1:decide ((j:Int) < (c.body.length:Int))=true:=by rw[decide_eq_true_iff];omega
   have e2:IntKind.i64.wrap ((j:Int) + 1)=((j + 1:Nat):Int):=z0d (by omega) (by omega)
   have hja:∀ h,z1m h 2 (.sl (c.body.map z3x) .no) (.int .i64 (j:Int))=some (.iptr [.str c.body[j].pred, .sl (c.body[j].args.map z0l) .no] 0,h):=fun h=>z2f hltj rfl rfl
   have p4:=p3 _ (hbo _ (List.getElem_mem hltj))
   simp only[go_sem,j9x,h1,h3,h4,h5,h6,h7,hB,List.length_map,e1,ea3,hja,z0a p4,Bool.not_true,e2]
   exact hnx2 (c.body.length - (j + 1)) _ (by omega) ⟨j + 1,g5,g6,hltj,rfl,h1,h3,h4,h5,h6,rfl,rfl⟩
  ·have e1:decide ((j:Int) < (c.body.length:Int))=false:=by rw[decide_eq_false_iff_not];omega
   simp only[go_sem,j9x,h1,h3,h4,h5,h6,h7,hB,List.length_map,e1]
   refine he2 _ _ ?_
   have g1:decide ((400:Int) < (c.vars.length:Int))=false:=by rw[decide_eq_false_iff_not];omega
   have g2:decide ((8:Int) < (c.body.length:Int))=false:=by rw[decide_eq_false_iff_not];omega
   have last:∀ (ts:Tmps) (clk:Nat),ts 1= .ptr (B + 0) g0 0 0→ts 3= .sl [] .nil→ts 4= .int .i64 (i:Int)→ts 6= .ptr (B + 6) g6 0 0→ts 8= .int .i64 1→K Gam B (.loop q7j) [.block 4, .block 1, .seq (.region 3 [⟨some 35, .move (.tmp 4),none⟩,⟨some 36, .binOp .add (.one .int) (.tmp 35) (.const (.int .i64 1)),none⟩,⟨some 4, .move (.tmp 36),none⟩] [])] ⟨ts,D++[.blk g0 [.agg [.sl (s.preds.map z0q) .no, .sl (s.clauses.map z0f) .no]] false false 0,o1,o2,o3,o4, .blk g5 [.agg [.sl (c.vars.map z1b) .no, .sl (c.body.map z3x) .no, .sl (c.guard.map eNode) .no, .str c.head.pred, .sl (c.head.args.map z0l) .no]] false false 0, .blk g6 [.agg [.bool false, .bool false, .bool false, .bool false, .bool false, .bool false, .bool false]] false false 0,o7,o8],clk⟩ P:=by
    clear h1 h3 h4 h5 h6
    intro ts clk h1 h3 h4 h6 h8
    refine z0y (fun m q=>∃ k:Nat,1≤k∧k≤7∧m=7 - k∧q.ts 1= .ptr (B + 0) g0 0 0∧q.ts 3= .sl [] .nil∧q.ts 4= .int .i64 (i:Int)∧q.ts 6= .ptr (B + 6) g6 0 0∧q.ts 8= .int .i64 (k:Int)∧q.h=D++[.blk g0 [.agg [.sl (s.preds.map z0q) .no, .sl (s.clauses.map z0f) .no]] false false 0,o1,o2,o3,o4, .blk g5 [.agg [.sl (c.vars.map z1b) .no, .sl (c.body.map z3x) .no, .sl (c.guard.map eNode) .no, .str c.head.pred, .sl (c.head.args.map z0l) .no]] false false 0, .blk g6 [.agg [.bool false, .bool false, .bool false, .bool false, .bool false, .bool false, .bool false]] false false 0,o7,o8]) 6 ⟨1,by omega,by omega,rfl,h1,h3,h4,h6,h8,rfl⟩ ?_
    clear h1 h3 h4 h6 h8
    rintro m ⟨ts,h',clk⟩ P3 ⟨k,hk1,hk7,rfl,h1,h3,h4,h6,h8,rfl⟩ hnx3 he3 hr3
    dsimp only at h1 h3 h4 h6 h8
    have step:∀ k:Nat,IntKind.i64.wrap ((k:Int) + 1)=((k + 1:Nat):Int)∨7 < k:=fun k=>by
     by_cases hk:k≤7
     ·exact .inl (z0d (by omega) (by omega))
     ·exact .inr (by omega)
    have hw:=(step k).resolve_right (by omega)
    by_cases hk:k < 7
    ·have e1:decide ((k:Int) < 7)=true:=by rw[decide_eq_true_iff];omega
     have hcase:k=1∨k=2∨k=3∨k=4∨k=5∨k=6:=by omega
     rcases hcase with rfl | rfl | rfl | rfl | rfl | rfl
     ·simp only[Int.cast_ofNat_Int] at h8 hw e1
      simp only[go_sem,q7j,h1,h3,h4,h6,h8,hB,e1,ea1,hw]
      exact hnx3 (7 - 2) _ (by omega) ⟨2,by omega,by omega,rfl,h1,h3,h4,h6,rfl,rfl⟩
     ·simp only[Int.cast_ofNat_Int] at h8 hw e1
      simp only[go_sem,q7j,h1,h3,h4,h6,h8,hB,e1,ea2,hw]
      exact hnx3 (7 - 3) _ (by omega) ⟨3,by omega,by omega,rfl,h1,h3,h4,h6,rfl,rfl⟩
     ·simp only[Int.cast_ofNat_Int] at h8 hw e1
      simp only[go_sem,q7j,h1,h3,h4,h6,h8,hB,e1,ea3,hw]
      exact hnx3 (7 - 4) _ (by omega) ⟨4,by omega,by omega,rfl,h1,h3,h4,h6,rfl,rfl⟩
     ·simp only[Int.cast_ofNat_Int] at h8 hw e1
      simp only[go_sem,q7j,h1,h3,h4,h6,h8,hB,e1,ea4,hw]
      exact hnx3 (7 - 5) _ (by omega) ⟨5,by omega,by omega,rfl,h1,h3,h4,h6,rfl,rfl⟩
     ·simp only[Int.cast_ofNat_Int] at h8 hw e1
      simp only[go_sem,q7j,h1,h3,h4,h6,h8,hB,e1,ea5,hw]
      exact hnx3 (7 - 6) _ (by omega) ⟨6,by omega,by omega,rfl,h1,h3,h4,h6,rfl,rfl⟩
     ·simp only[Int.cast_ofNat_Int] at h8 hw e1
      simp only[go_sem,q7j,h1,h3,h4,h6,h8,hB,e1,ea6,hw]
      exact hnx3 (7 - 7) _ (by omega) ⟨7,by omega,by omega,rfl,h1,h3,h4,h6,rfl,rfl⟩
    ·have e1:decide ((k:Int) < 7)=false:=by rw[decide_eq_false_iff_not];omega
     simp only[go_sem,q7j,h1,h3,h4,h6,h8,hB,e1]
     refine he3 _ _ ?_
     simp only[go_sem,h1,h3,h4,f2]
     exact hnx (s.clauses.length - (i + 1)) _ (by omega) ⟨i + 1,g0,_,_,_,_,_,_,_,_,hlt,rfl,h1,h3,rfl,rfl⟩
   rcases hh with ⟨hp,hargs⟩ | ha
   ·have g3:decide (c.head.pred=[])=true:=by simp[hp]
    simp only[hargs,List.map_nil] at last
    simp only[go_sem,h1,h3,h4,h5,h6,hB,z0a p2,Bool.not_true,Bool.not_false,ea4,ea5,ea6,g1,g2,g3,hargs,List.map_nil,decide_false,Int.lt_irrefl,List.length_map]
    exact last _ _ h1 h3 h4 h6 rfl
   ·obtain⟨f,hf,hpn,hfr⟩:=id ha
    have g3:decide (c.head.pred=[])=false:=by simp[hpn,hs.pr.name f hf]
    have p5:=p3 _ ha
    simp only[go_sem,h1,h3,h4,h5,h6,hB,z0a p2,Bool.not_true,Bool.not_false,ea4,ea5,ea6,g3,g1,g2,z0a p5,List.length_map]
    exact last _ _ h1 h3 h4 h6 rfl
 ·have f1:decide ((i:Int) < (s.clauses.length:Int))=false:=by rw[decide_eq_false_iff_not];omega
  simp only[go_sem,k5k,h1,h3,h4,hB,List.length_map,f1]
  refine he _ _ ?_
  simp only[go_sem,h3]
  rw[z0h rfl rfl]
  exact hT _
theorem k2s {s:Sys} (hs:SysV s):Pure Gam 44 [z0x s] (.bool true):=by
 have p0:=y0c hs
 simp only[z0x] at p0
 refine Pure.of rfl u4r rfl rfl rfl (az:=[z0x s]) rfl (by simp[idsL,z2c]) fun D B clk T hB hT=> ?_
 simp only[go_sem,u0g,hB,z0x,z0a p0,decide_true]
 rw[z0e]
 exact hT _
theorem q5k {l:List (List Nat)} {i:Nat} {h:List AObj} {t:Tip} {k:IntKind} (hi:i < l.length):z1m h 1 (.sl (z1t l) t) (.int k (i:Int))=some (.iptr [.str l[i]] 0,h):=z2f hi rfl rfl
theorem x3h {l:List (List Nat)} {nm:List Nat} {u:Tip} (hl:l.length≤1000):Pure Gam 73 [.sl (z1t l) u, .str nm] (.bool (decide (nm∈l))):=by
 refine Pure.of rfl u4n rfl rfl rfl (az:=[.sl (z1t l) .no, .str nm]) rfl (by simp[idsL,AV.ids,z2d]) fun D B clk T hB hT=> ?_
 have hsl:(z1t l).length=l.length:=List.length_map _
 simp only[go_sem,u0a,hB]
 refine z0y (fun m q=>∃ i:Nat,i≤l.length∧m=l.length - i∧nm∉l.take i∧q.ts 0= .sl (z1t l) .no∧q.ts 1= .str nm∧q.ts 5= .int .i64 (i:Int)∧q.h=D) l.length ⟨0,by omega,rfl,by simp,rfl,rfl,rfl,by simp⟩ ?_
 rintro m ⟨ts,h',clk⟩ P ⟨i,hi,rfl,hno,h0,h1,h5,rfl⟩ hnx he hr
 dsimp only at h0 h1 h5
 by_cases hlt:i < l.length
 ·have f1:decide ((i:Int) < (l.length:Int))=true:=by rw[decide_eq_true_iff];omega
  have f2:IntKind.i64.wrap ((i:Int) + 1)=((i + 1:Nat):Int):=z0d (by omega) (by omega)
  by_cases hnm:l[i]=nm
  ·have e2:decide (l[i]=nm)=true:=by simp[hnm]
   simp only[go_sem,j9v,h0,h1,h5,hsl,f1,e2,q5k hlt]
   refine hr _ ?_
   rw[show decide (nm∈l)=true from decide_eq_true (hnm ▸ List.getElem_mem hlt)] at hT
   simp only[go_sem,]
   rw[z0e]
   exact hT _
  ·have e2:decide (l[i]=nm)=false:=by simp[hnm]
   simp only[go_sem,j9v,h0,h1,h5,hsl,f1,f2,e2,q5k hlt]
   refine hnx (l.length - (i + 1)) _ (by omega) ⟨i + 1,hlt,rfl,fun hm=> ?_,h0,h1,rfl,rfl⟩
   rw[List.take_succ_eq_append_getElem hlt] at hm
   rcases List.mem_append.1 hm with hm | hm
   ·exact hno hm
   ·exact hnm (List.mem_singleton.1 hm).symm
 ·have f1:decide ((i:Int) < (l.length:Int))=false:=by rw[decide_eq_false_iff_not];omega
  rw[List.take_of_length_le (by omega)] at hno
  simp only[go_sem,j9v,h0,h1,h5,hsl,f1]
  refine he _ _ ?_
  rw[show decide (nm∈l)=false from decide_eq_false hno] at hT
  simp only[go_sem,]
  rw[z0e]
  exact hT _
def z0z (ps:List Func) (L:List (List Nat)):List AV:=ps.map fun p=> .bool (decide (p.name∈L))
theorem q2j {ps:List Func} {L:List (List Nat)}:idsL (z0z ps L)=[]:=z0c fun _=>rfl
theorem x0l {ps:List Func} {L:List (List Nat)} {i:Nat} {h:List AObj} {t:Tip} {k:IntKind} (hi:i < ps.length):z1m h 1 (.sl (z0z ps L) t) (.int k (i:Int))=some (.iptr [.bool (decide (ps[i].name∈L))] 0,h):=z2f hi rfl rfl
theorem v1k {s:Sys} {c:Clause} {L:List (List Nat)} {u:Tip} (hs:SysV s) (hb:c.body.length≤1000) (hbo:∀ a∈c.body,AppOk s.preds c.vars a):Pure Gam 174 [z0x s, .sl (z0z s.preds L) u,z0f c] (.bool (c.body.all fun a=>decide (a.pred∈L))):=by
 have hpl:=hs.pl
 refine Pure.of rfl y9z rfl rfl rfl (az:=[z0x s, .sl (z0z s.preds L) .no,z0f c]) rfl (by simp[idsL,AV.ids,z2c,q2j,z1z]) fun D B clk T hB hT=> ?_
 simp only[go_sem,y9y,hB,z0x,z0f,z0l]
 refine z0y (fun m q=>∃ (i g0 g1:Nat),i≤c.body.length∧m=c.body.length - i∧(∀ a∈c.body.take i,a.pred∈L)∧q.ts 1= .sl (z0z s.preds L) .no∧q.ts 3= .ptr (B + 0) g0 0 0∧q.ts 5= .ptr (B + 1) g1 0 0∧q.ts 7= .int .i64 (i:Int)∧q.h=D++[.blk g0 [.agg [.sl (s.preds.map z0q) .no, .sl (s.clauses.map z0f) .no]] false false 0, .blk g1 [.agg [.sl (c.vars.map z1b) .no, .sl (c.body.map z3x) .no, .sl (c.guard.map eNode) .no, .str c.head.pred, .sl (c.head.args.map z0l) .no]] false false 0]) c.body.length ⟨0,_,_,by omega,rfl,by simp,rfl,rfl,rfl,rfl,rfl⟩ ?_
 rintro m ⟨ts,h',clk⟩ P ⟨i,g0,g1,hi,rfl,hno,h1,h3,h5,h7,rfl⟩ hnx he hr
 dsimp only at h1 h3 h5 h7
 by_cases hlt:i < c.body.length
 ·have f1:decide ((i:Int) < (c.body.length:Int))=true:=by rw[decide_eq_true_iff];omega
  have f2:IntKind.i64.wrap ((i:Int) + 1)=((i + 1:Nat):Int):=z0d (by omega) (by omega)
  have hja:∀ h,z1m h 2 (.sl (c.body.map z3x) .no) (.int .i64 (i:Int))=some (.iptr [.str c.body[i].pred, .sl (c.body[i].args.map z0l) .no] 0,h):=fun h=>z2f hlt rfl rfl
  obtain⟨f,hf,hpn,_⟩:=hbo _ (List.getElem_mem hlt)
  obtain⟨k,hk,hkf,hpa⟩:=z7j hs.pr hf
  have p1:=q3e (s:=s) (nm:=c.body[i].pred) (by omega)
  rw[hpn,hpa] at p1
  simp only[z0x] at p1
  have e3:∀ h,z1m h 1 (.sl (z0z s.preds L) .no) (.int .i64 (k:Int))=some (.iptr [.bool (decide (c.body[i].pred∈L))] 0,h):=fun h=>by rw[x0l hk,hkf,hpn]
  by_cases hin:c.body[i].pred∈L
  ·have e2:decide (c.body[i].pred∈L)=true:=by simp[hin]
   rw[e2] at e3
   simp only[go_sem,j9u,h1,h3,h5,h7,hB,List.length_map,f1,f2,hja,hpn,z0a p1,e3,Bool.not_true]
   refine hnx (c.body.length - (i + 1)) _ (by omega) ⟨i + 1,g0,g1,hlt,rfl,fun a ha=> ?_,h1,h3,h5,rfl,rfl⟩
   rw[List.take_succ_eq_append_getElem hlt] at ha
   rcases List.mem_append.1 ha with ha | ha
   ·exact hno a ha
   ·rw[List.mem_singleton.1 ha];exact hin
  ·have e2:decide (c.body[i].pred∈L)=false:=by simp[hin]
   rw[e2] at e3
   simp only[go_sem,j9u,h1,h3,h5,h7,hB,List.length_map,f1,hja,hpn,z0a p1,e3,Bool.not_false]
   refine hr _ ?_
   rw[show (c.body.all fun a=>decide (a.pred∈L))=false from by
    rw[List.all_eq_false]
    exact⟨_,List.getElem_mem hlt,by simp[hin]⟩] at hT
   simp only[go_sem,]
   rw[z0e]
   exact hT _
 ·have f1:decide ((i:Int) < (c.body.length:Int))=false:=by rw[decide_eq_false_iff_not];omega
  rw[List.take_of_length_le (by omega)] at hno
  simp only[go_sem,j9u,h1,h3,h5,h7,hB,List.length_map,f1]
  refine he _ _ ?_
  rw[show (c.body.all fun a=>decide (a.pred∈L))=true from List.all_eq_true.2 fun a ha=>by simp[hno a ha]] at hT
  simp only[go_sem,]
  rw[z0e]
  exact hT _
theorem x3i {D L:List AObj} {B k g i:Nat} {es:List AV} {w:Bool} {b b':Bool} (hB:D.length=B) (hL:L[k]? =some (.blk g es true w 0)) (hi:es[i]? =some (.bool b')):z8s (D++L) 1 (.bool b) (.ptr (B + k) g i 0)=some (.undef,D++L.set k (.blk g (es.set i (.bool b)) true w 0)):=by
 have hb:z2a (D++L) (B + k) g=some (es,true,w,0):=by rw[z6w hB];exact z5z hL
 rw[q0h,hb]
 have hp:pub (D++L) (.bool b)=some (.bool b,D++L):=rfl
 simp only[hi,if_true,hp,j2k,x2k,List.length_singleton,List.all_cons,List.all_nil,x3z,Bool.and_self,true_and,Nat.zero_le,j3b,List.map_nil,List.contains_nil,Bool.not_false,and_self,implies_true,z9z,Nat.zero_add,Nat.le_refl,List.take_zero,List.nil_append,List.drop_succ_cons,List.drop_nil,List.append_nil,Option.map_some,q9c,z8t,z5i hB]
theorem q0s {ps:List Func} {L:List (List Nat)} {k:Nat} (hk:k < ps.length):(z0z ps L)[k]? =some (.bool (decide (ps[k].name∈L))):=by
 simp[z0z,hk]
theorem x8b {ps:List Func} {L:List (List Nat)} {k:Nat} (hn:(ps.map (·.name)).Nodup) (hk:k < ps.length):(z0z ps L).set k (.bool true)=z0z ps (L++[ps[k].name]):=by
 apply List.ext_getElem?
 intro j
 rw[List.getElem?_set]
 by_cases hj:j < ps.length
 ·rw[q0s hj]
  by_cases hkj:k=j
  ·subst hkj
   rw[if_pos rfl,if_pos (by simpa [z0z] using hk),q0s hj,decide_eq_true (by simp)]
  ·rw[if_neg hkj,q0s hj]
   have hne:ps[j].name≠ps[k].name:=fun e=>hkj ((List.getElem_inj (xs:=ps.map (·.name)) (i:=k) (j:=j) (h₀:=by simpa using hk) (h₁:=by simpa using hj) hn).1 (by simpa using e.symm))
   simp[hne]
 ·have h1:(z0z ps (L++[ps[k].name]))[j]? =none:=by simp[z0z];omega
  have h2:(z0z ps L)[j]? =none:=by simp[z0z];omega
  rw[h1,if_neg (by omega),h2]
theorem k2t {s:Sys} {B clk g0 g:Nat} {D:List AObj} {l:List (List Nat)} {ts:Tmps} {ks:List Kf} {Q:Post} (hs:SysV s) (hB:D.length=B) (hD:∀ a∈l,Der s.clauses a) (h1:ts 1= .ptr (B + 0) g0 0 0) (h3:ts 3= .ob (B + 1) g 0 s.preds.length) (h4:ts 4= .bool false) (h5:ts 5= .int .i64 0)
  (hQ:∀ (ts':Tmps) (l':List (List Nat)) (b:Bool) (clk':Nat),(∀ a∈l',Der s.clauses a)→(b=true→q6g s.clauses l' < q6g s.clauses l)→(b=false→l'=l∧∀ c∈s.clauses,x0h c l)→ts' 1= .ptr (B + 0) g0 0 0→ts' 3= .ob (B + 1) g 0 s.preds.length→ts' 4= .bool b→K Gam B (.exit 2) ks ⟨ts',D++[.blk g0 [.agg [.sl (s.preds.map z0q) .no, .sl (s.clauses.map z0f) .no]] false false 0, .blk g (z0z s.preds l') true false 0],clk'⟩ Q):
  K Gam B (.loop x7f) ks ⟨ts,D++[.blk g0 [.agg [.sl (s.preds.map z0q) .no, .sl (s.clauses.map z0f) .no]] false false 0, .blk g (z0z s.preds l) true false 0],clk⟩ Q:=by
 have hcl:=hs.len
 have hpl:=hs.pl
 refine z0y (fun m q=>∃ (i:Nat) (l':List (List Nat)) (b:Bool),i≤s.clauses.length∧m=s.clauses.length - i∧(∀ a∈l',Der s.clauses a)∧(b=true→q6g s.clauses l' < q6g s.clauses l)∧(b=false→l'=l∧∀ c∈s.clauses.take i,x0h c l)∧q.ts 1= .ptr (B + 0) g0 0 0∧q.ts 3= .ob (B + 1) g 0 s.preds.length∧q.ts 4= .bool b∧q.ts 5= .int .i64 (i:Int)∧q.h=D++[.blk g0 [.agg [.sl (s.preds.map z0q) .no, .sl (s.clauses.map z0f) .no]] false false 0, .blk g (z0z s.preds l') true false 0]) s.clauses.length ⟨0,l,false,by omega,rfl,hD,by simp,fun _=>⟨rfl,by simp⟩,h1,h3,h4,h5,rfl⟩ ?_
 clear h1 h3 h4 h5
 rintro m ⟨ts,h,clk⟩ P ⟨i,l',b,hi,rfl,hD',hb1,hb2,q1,q3,q4,q5,rfl⟩ hnx he hr
 dsimp only at q1 q3 q4 q5
 by_cases hlt:i < s.clauses.length
 ·have f1:decide ((i:Int) < (s.clauses.length:Int))=true:=by rw[decide_eq_true_iff];omega
  have f2:IntKind.i64.wrap ((i:Int) + 1)=((i + 1:Nat):Int):=z0d (by omega) (by omega)
  have hmem:=List.getElem_mem hlt
  have htake:s.clauses.take (i + 1)=s.clauses.take i++[s.clauses[i]]:=List.take_succ_eq_append_getElem hlt
  have hix:=fun h=>z8l (l:=s.clauses) (i:=i) (h:=h) (t:= .no) (k:= .i64) hlt
  have hcok:=hs.clauses _ hmem
  generalize s.clauses[i]=c at hmem htake hix hcok
  obtain⟨hv,hbl,hbo,hg,hh⟩:=hcok
  have same:x0h c l'→∀ (ts':Tmps) (clk':Nat),ts' 1= .ptr (B + 0) g0 0 0→ts' 3= .ob (B + 1) g 0 s.preds.length→ts' 4= .bool b→ts' 5= .int .i64 ((i + 1:Nat):Int)→P .norm ⟨ts',D++[.blk g0 [.agg [.sl (s.preds.map z0q) .no, .sl (s.clauses.map z0f) .no]] false false 0, .blk g (z0z s.preds l') true false 0],clk'⟩:=by
   intro hc ts' clk' r1 r3 r4 r5
   refine hnx (s.clauses.length - (i + 1)) _ (by omega) ⟨i + 1,l',b,hlt,rfl,hD',hb1,fun hbf=> ?_,r1,r3,r4,r5,rfl⟩
   obtain⟨e1,e2⟩:=hb2 hbf
   refine⟨e1,fun d hd=> ?_⟩
   rw[htake,List.mem_append,List.mem_singleton] at hd
   rcases hd with hd | rfl
   ·exact e2 d hd
   ·rw[←e1];exact hc
  have p1:=q3e (s:=s) (nm:=c.head.pred) (by omega)
  simp only[z0x] at p1
  rcases hh with ⟨hh,_⟩ | ha
  ·rw[hh,z7i fun p hp=>hs.pr.name p hp] at p1
   simp only[go_sem,x7f,q1,q3,q4,q5,hB,List.length_map,f1,hix,hh,z0a p1,Int.reduceLE,Int.reduceNeg,decide_false,f2]
   exact same (fun h=>absurd hh h) _ _ q1 q3 q4 rfl
  ·obtain⟨f,hf,hpn,_⟩:=ha
   have hne:c.head.pred≠[]:=by rw[hpn];exact hs.pr.name f hf
   obtain⟨k,hk,hkf,hpa⟩:=z7j hs.pr hf
   rw[hpn,hpa] at p1
   have g1:decide ((0:Int)≤(k:Int))=true:=by rw[decide_eq_true_iff];omega
   have hget:(z0z s.preds l')[k]? =some (.bool (decide (c.head.pred∈l'))):=by rw[q0s hk,hkf,hpn]
   have hidx:=z8z (K:= .i64) (D:=D) (B:=B) (k:=1) (g:=g) (w:=false) (L:=[.blk g0 [.agg [.sl (s.preds.map z0q) .no, .sl (s.clauses.map z0f) .no]] false false 0, .blk g (z0z s.preds l') true false 0]) hB rfl hget rfl hk
   by_cases hin:c.head.pred∈l'
   ·rw[decide_eq_true hin] at hget
    simp only[go_sem,x7f,q1,q3,q4,q5,hB,List.length_map,f1,hix,hpn,z0a p1,g1,hidx,hget,Bool.not_true,f2]
    exact same (fun _ _=>hin) _ _ q1 q3 q4 rfl
   ·rw[decide_eq_false hin] at hget
    simp only[go_sem,x7f,q1,q3,q4,q5,hB,List.length_map,f1,hix,hpn,z0a p1,g1,hidx,hget,Bool.not_false]
    have p2:=v1k (L:=l') (u:= .no) hs (by omega) hbo
    have e0:Pure Gam 174 [.agg [.sl (s.preds.map z0q) .no, .sl (s.clauses.map z0f) .no], .sl (z0z s.preds l') .no, .agg [.sl (c.vars.map z1b) .no, .sl (c.body.map z3x) .no, .sl (c.guard.map eNode) .no, .str f.name, .sl (c.head.args.map z0l) .no]] (.bool (z2l c.body l')):=by
     rw[←hpn]
     exact p2
    have hpass:z1n (D++[.blk g0 [.agg [.sl (s.preds.map z0q) .no, .sl (s.clauses.map z0f) .no]] false false 0, .blk g (z0z s.preds l') true false 0]) [] 0 [.agg [.sl (s.preds.map z0q) .no, .sl (s.clauses.map z0f) .no], .ob (B + 1) g 0 s.preds.length, .agg [.sl (c.vars.map z1b) .no, .sl (c.body.map z3x) .no, .sl (c.guard.map eNode) .no, .str f.name, .sl (c.head.args.map z0l) .no]]=some [.agg [.sl (s.preds.map z0q) .no, .sl (s.clauses.map z0f) .no], .sl (z0z s.preds l') .no, .agg [.sl (c.vars.map z1b) .no, .sl (c.body.map z3x) .no, .sl (c.guard.map eNode) .no, .str f.name, .sl (c.head.args.map z0l) .no]]:=by
     have:=z9a (L:=[.blk g0 [.agg [.sl (s.preds.map z0q) .no, .sl (s.clauses.map z0f) .no]] false false 0, .blk g (z0z s.preds l') true false 0]) (k:=1) (g:=g) (w:=false) (len:=s.preds.length) hB rfl (by simp[z0z])
     simp only[z5a] at this
     simp only[z1n,List.contains_nil,Bool.false_eq_true,if_false,conv,z9t,this,Option.map_some]
    have hids:idsL [.agg [.sl (s.preds.map z0q) .no, .sl (s.clauses.map z0f) .no], .sl (z0z s.preds l') .no, .agg [.sl (c.vars.map z1b) .no, .sl (c.body.map z3x) .no, .sl (c.guard.map eNode) .no, .str f.name, .sl (c.head.args.map z0l) .no]]=[]:=by
     simp[idsL,AV.ids,q2j,z0c z2j,z0c z1z,z0c z2b,z0c z4w,z0c z1y,z0c z2q]
    rw[k1j e0 rfl y9z rfl rfl hpass rfl rfl hids rfl,if_pos (show (AV.bool (z2l c.body l')).flat=true from rfl)]
    cases hw:z2l c.body l' with
    | false=>
      simp only[go_sem,q1,q3,q4,q5,hB,f2]
      exact same (fun _ h=>by rw[hw] at h;cases h) _ _ q1 q3 q4 rfl
    | true=>
      have hst:=fun (L:List AObj) (hL:L[1]? =some (.blk g (z0z s.preds l') true false 0))=>x3i (D:=D) (B:=B) (b:=true) hB hL hget
      have hset:=x8b (L:=l') hs.pr.nodup hk
      rw[hkf,←hpn] at hset
      rw[hset] at hst
      simp only[go_sem,q1,q3,q4,q5,hB,f2,hidx,hst]
      have hlt2:=v8h hmem hin
      refine hnx (s.clauses.length - (i + 1)) _ (by omega) ⟨i + 1,l'++[c.head.pred],true,hlt,rfl,fun a ha=> ?_,fun _=> ?_,by simp,q1,q3,rfl,rfl,rfl⟩
      ·rw[List.mem_append,List.mem_singleton] at ha
       rcases ha with ha | rfl
       ·exact hD' a ha
       ·exact .of hmem hne fun a ha=>hD' _ (z3z.1 hw a ha)
      ·cases b with
       | true=>have:=hb1 rfl;omega
       | false=>rw[(hb2 rfl).1] at hlt2⊢;exact hlt2
 ·have f1:decide ((i:Int) < (s.clauses.length:Int))=false:=by rw[decide_eq_false_iff_not];omega
  have hti:s.clauses.take i=s.clauses:=List.take_of_length_le (by omega)
  rw[hti] at hb2
  simp only[go_sem,x7f,q1,q3,q4,q5,hB,List.length_map,f1]
  refine he _ _ ?_
  exact hQ _ l' b _ hD' hb1 hb2 (by simp[z0b,q1]) (by simp[z0b,q3]) (by simp[z0b,q4])
theorem q5l {ps:List Func} {l l':List (List Nat)} (h:∀ a,a∈l↔a∈l'):z0z ps l=z0z ps l':=by
 unfold z0z
 apply List.map_congr_left
 intro p _
 simp[h]
theorem y0d {s:Sys} {l0:List (List Nat)} (hs:SysV s) (h0:∀ a,a∈l0↔Der s.clauses a):Pure Gam 109 [z0x s] (.sl (z0z s.preds l0) .no):=by
 have hpl:=hs.pl
 refine Pure.of rfl u4i rfl rfl rfl (az:=[z0x s]) rfl (by simp[idsL,z2c]) fun D B clk T hB hT=> ?_
 have hrep:List.replicate s.preds.length (AV.bool false)=z0z s.preds []:=by
  unfold z0z
  rw[←List.map_const']
  apply List.map_congr_left
  intro p _
  simp
 simp only[go_sem,y9v,hB,z0x,List.length_map,q4y (z:= .bool false) (n:=s.preds.length) (b:=1) rfl (by omega),hrep]
 refine z0y (fun m q=>∃ (l:List (List Nat)) (b:Bool) (g0 g:Nat),m=(if b then q6g s.clauses l + 1 else 0)∧(∀ a∈l,Der s.clauses a)∧(b=false→∀ c∈s.clauses,x0h c l)∧q.ts 1= .ptr (B + 0) g0 0 0∧q.ts 3= .ob (B + 1) g 0 s.preds.length∧q.ts 4= .bool b∧q.h=D++[.blk g0 [.agg [.sl (s.preds.map z0q) .no, .sl (s.clauses.map z0f) .no]] false false 0, .blk g (z0z s.preds l) true false 0]) (q6g s.clauses [] + 1) ⟨[],true,_,_,rfl,by simp,by simp,rfl,rfl,rfl,rfl⟩ ?_
 rintro m ⟨ts,h,clk⟩ P ⟨l,b,g0,g,rfl,hD,hb,q1,q3,q4,rfl⟩ hnx he hr
 dsimp only at q1 q3 q4
 cases b with
 | true=>
   simp only[go_sem,k5h,q1,q3,q4,hB]
   refine k2t hs hB hD q1 q3 rfl rfl fun ts' l' b clk' hD' hb1 hb2 r1 r3 r4=> ?_
   simp only[go_sem,]
   refine hnx (if b then q6g s.clauses l' + 1 else 0) _ ?_ ⟨l',b,g0,g,rfl,hD',fun hbf=> ?_,r1,r3,r4,rfl⟩
   ·cases b with
    | true=>have:=hb1 rfl;simpa using this
    | false=>simp
   ·obtain⟨e1,e2⟩:=hb2 hbf
    rw[e1];exact e2
 | false=>
   simp only[go_sem,k5h,q1,q3,q4,hB]
   refine he _ _ ?_
   simp only[go_sem,q3]
   have hsrc:=z9a (L:=[.blk g0 [.agg [.sl (s.preds.map z0q) .no, .sl (s.clauses.map z0f) .no]] false false 0, .blk g (z0z s.preds l) true false 0]) (k:=1) (g:=g) (w:=false) (len:=s.preds.length) hB rfl (by simp[z0z])
   simp only[z5a] at hsrc
   rw[q5l (l':=l) fun a=>by rw[h0];exact⟨v8f (hb rfl),hD a⟩] at hT
   refine⟨.sl (z0z s.preds l) .no, ?_,by simp[AV.ids,q2j],rfl,hT _⟩
   simp only[z1k,conv,hsrc,Option.map_some]
theorem j0z {b:List App} {l:List (List Nat)} {i:Nat} (hi:i < b.length):z2l (b.take (i + 1)) l=(z2l (b.take i) l && decide (b[i].pred∈l)):=by
 unfold z2l
 rw[List.take_succ_eq_append_getElem hi,List.all_append]
 simp only[List.all_cons,List.all_nil,Bool.and_true]
theorem x3j {s:Sys} {c:Clause} {B clk g0 g g2 i0:Nat} {D:List AObj} {l:List (List Nat)} {x1:AV} {b0:Bool} {ts:Tmps} {ks:List Kf} {Q:Post} (hs:SysV s) (hbl:c.body.length≤1000) (hbo:∀ a∈c.body,AppOk s.preds c.vars a) (hB:D.length=B) (h1:ts 1=x1) (h2:ts 2= .ptr (B + 0) g0 0 0) (h5:ts 5= .ob (B + 1) g 0 s.preds.length) (h6:ts 6= .bool b0) (h7:ts 7= .int .i64 (i0:Int)) (h8:ts 8= .ptr (B + 2) g2 0 0) (h10:ts 10= .int .i64 0)
  (hQ:∀ (ts':Tmps) (clk':Nat),ts' 1=x1→ts' 2= .ptr (B + 0) g0 0 0→ts' 5= .ob (B + 1) g 0 s.preds.length→ts' 6= .bool (b0 || !z2l c.body l)→ts' 7= .int .i64 (i0:Int)→K Gam B (.exit 4) ks ⟨ts',D++[.blk g0 [.agg [.sl (s.preds.map z0q) .no, .sl (s.clauses.map z0f) .no]] false false 0, .blk g (z0z s.preds (z9e l c.body)) true false 0, .blk g2 [.agg [.sl (c.vars.map z1b) .no, .sl (c.body.map z3x) .no, .sl (c.guard.map eNode) .no, .str c.head.pred, .sl (c.head.args.map z0l) .no]] false false 0],clk'⟩ Q):
  K Gam B (.loop x7g) ks ⟨ts,D++[.blk g0 [.agg [.sl (s.preds.map z0q) .no, .sl (s.clauses.map z0f) .no]] false false 0, .blk g (z0z s.preds l) true false 0, .blk g2 [.agg [.sl (c.vars.map z1b) .no, .sl (c.body.map z3x) .no, .sl (c.guard.map eNode) .no, .str c.head.pred, .sl (c.head.args.map z0l) .no]] false false 0],clk⟩ Q:=by
 have hpl:=hs.pl
 refine z0y (fun m q=>∃ (j:Nat),j≤c.body.length∧m=c.body.length - j∧q.ts 1=x1∧q.ts 2= .ptr (B + 0) g0 0 0∧q.ts 5= .ob (B + 1) g 0 s.preds.length∧q.ts 6= .bool (b0 || !z2l (c.body.take j) l)∧q.ts 7= .int .i64 (i0:Int)∧q.ts 8= .ptr (B + 2) g2 0 0∧q.ts 10= .int .i64 (j:Int)∧q.h=D++[.blk g0 [.agg [.sl (s.preds.map z0q) .no, .sl (s.clauses.map z0f) .no]] false false 0, .blk g (z0z s.preds (z9e l (c.body.take j))) true false 0, .blk g2 [.agg [.sl (c.vars.map z1b) .no, .sl (c.body.map z3x) .no, .sl (c.guard.map eNode) .no, .str c.head.pred, .sl (c.head.args.map z0l) .no]] false false 0]) c.body.length ⟨0,by omega,rfl,h1,h2,h5,by show ts 6=_;rw[h6];simp[z2l],h7,h8,h10,rfl⟩ ?_
 clear h1 h2 h5 h6 h7 h8 h10
 rintro m ⟨ts,h,clk⟩ P ⟨j,hj,rfl,q1,q2,q5,q6,q7,q8,q10,rfl⟩ hnx he hr
 dsimp only at q1 q2 q5 q6 q7 q8 q10
 by_cases hlt:j < c.body.length
 ·have f1:decide ((j:Int) < (c.body.length:Int))=true:=by rw[decide_eq_true_iff];omega
  have f2:IntKind.i64.wrap ((j:Int) + 1)=((j + 1:Nat):Int):=z0d (by omega) (by omega)
  have hja:∀ h,z1m h 2 (.sl (c.body.map z3x) .no) (.int .i64 (j:Int))=some (.iptr [.str c.body[j].pred, .sl (c.body[j].args.map z0l) .no] 0,h):=fun h=>z2f hlt rfl rfl
  obtain⟨f,hf,hpn,_⟩:=hbo _ (List.getElem_mem hlt)
  obtain⟨k,hk,hkf,hpa⟩:=z7j hs.pr hf
  have p1:=q3e (s:=s) (nm:=c.body[j].pred) (by omega)
  rw[hpn,hpa] at p1
  simp only[z0x] at p1
  have hta:=j0v (l:=l) hlt
  have hwt:=j0z (l:=l) hlt
  generalize hl':z9e l (c.body.take j)=l' at *
  have hmem:c.body[j].pred∈l'↔c.body[j].pred∈l∨∃ a∈c.body.take j,a.pred=c.body[j].pred:=by rw[←hl',z8m];simp[eq_comm]
  have hget:(z0z s.preds l')[k]? =some (.bool (decide (c.body[j].pred∈l'))):=by rw[q0s hk,hkf,hpn]
  have hidx:=fun L (hL:L[1]? =some (.blk g (z0z s.preds l') true false 0))=>z8z (K:= .i64) (D:=D) (B:=B) (k:=1) (g:=g) (w:=false) (L:=L) hB hL hget rfl hk
  by_cases hin:c.body[j].pred∈l'
  ·rw[decide_eq_true hin] at hget
   simp only[go_sem,x7g,q1,q2,q5,q6,q7,q8,q10,hB,List.length_map,f1,hja,hpn,z0a p1,hidx,hget,Bool.not_true,f2]
   refine hnx (c.body.length - (j + 1)) _ (by omega) ⟨j + 1,hlt,rfl,q1,q2,q5, ?_,q7,q8,rfl, ?_⟩
   ·have e:(b0 || !z2l (c.body.take (j + 1)) l)=(b0 || !z2l (c.body.take j) l):=by
     rw[hwt]
     rcases hmem.1 hin with h | ⟨a,ha,hap⟩
     ·simp[h]
     ·by_cases h:c.body[j].pred∈l
      ·simp[h]
      ·have:z2l (c.body.take j) l=false:=by
        rw[z2l,List.all_eq_false]
        exact⟨a,ha,by simp[hap,h]⟩
       simp[this]
    rw[e]
    exact q6
   ·rw[hta,v8i,if_pos hin]
  ·rw[decide_eq_false hin] at hget
   have hst:=fun (L:List AObj) (hL:L[1]? =some (.blk g (z0z s.preds l') true false 0))=>x3i (D:=D) (B:=B) (b:=true) hB hL hget
   have hset:=x8b (L:=l') hs.pr.nodup hk
   rw[hkf,←hpn] at hset
   rw[hset] at hst
   simp only[go_sem,x7g,q1,q2,q5,q6,q7,q8,q10,hB,List.length_map,f1,hja,hpn,z0a p1,hidx,hget,Bool.not_false,hst,f2]
   have hnl:c.body[j].pred∉l:=fun h=>hin (hmem.2 (.inl h))
   refine hnx (c.body.length - (j + 1)) _ (by omega) ⟨j + 1,hlt,rfl,q1,q2,q5, ?_,q7,q8,rfl, ?_⟩
   ·rw[hwt]
    simp[hnl,z0b]
   ·rw[hta,v8i,if_neg hin,hpn]
 ·have f1:decide ((j:Int) < (c.body.length:Int))=false:=by rw[decide_eq_false_iff_not];omega
  rw[List.take_of_length_le (by omega)] at q6
  rw[List.take_of_length_le (by omega)]
  simp only[go_sem,x7g,q1,q2,q5,q6,q7,q8,q10,hB,List.length_map,f1]
  refine he _ _ ?_
  exact hQ _ _ (by simp[z0b,q1]) (by simp[z0b,q2]) (by simp[z0b,q5]) (by simp[z0b,q6]) (by simp[z0b,q7])
theorem j7a {s:Sys} {Dv:List Nat→Prop} {dl:List (List Nat)} {B clk g0 g:Nat} {D:List AObj} {o2:AObj} {l:List (List Nat)} {ts:Tmps} {ks:List Kf} {Q:Post} (hs:SysV s) (hB:D.length=B) (hdl:∀ a,a∈dl↔Dv a) (hN:∀ a∈l,Need s.clauses Dv a) (h1:ts 1= .sl (z0z s.preds dl) .no) (h2:ts 2= .ptr (B + 0) g0 0 0) (h5:ts 5= .ob (B + 1) g 0 s.preds.length) (h6:ts 6= .bool false) (h7:ts 7= .int .i64 0)
  (hQ:∀ (ts':Tmps) (l':List (List Nat)) (b:Bool) (o2:AObj) (clk':Nat),(∀ a∈l',Need s.clauses Dv a)→(b=true→q3y s.clauses l' < q3y s.clauses l)→(b=false→l'=l∧∀ c∈s.clauses,x0i dl c l)→ts' 1= .sl (z0z s.preds dl) .no→ts' 2= .ptr (B + 0) g0 0 0→ts' 5= .ob (B + 1) g 0 s.preds.length→ts' 6= .bool b→K Gam B (.exit 2) ks ⟨ts',D++[.blk g0 [.agg [.sl (s.preds.map z0q) .no, .sl (s.clauses.map z0f) .no]] false false 0, .blk g (z0z s.preds l') true false 0,o2],clk'⟩ Q):
  K Gam B (.loop x1c) ks ⟨ts,D++[.blk g0 [.agg [.sl (s.preds.map z0q) .no, .sl (s.clauses.map z0f) .no]] false false 0, .blk g (z0z s.preds l) true false 0,o2],clk⟩ Q:=by
 have hcl:=hs.len
 have hpl:=hs.pl
 refine z0y (fun m q=>∃ (i:Nat) (l':List (List Nat)) (b:Bool) (o2:AObj),i≤s.clauses.length∧m=s.clauses.length - i∧(∀ a∈l',Need s.clauses Dv a)∧(b=true→q3y s.clauses l' < q3y s.clauses l)∧(b=false→l'=l∧∀ c∈s.clauses.take i,x0i dl c l)∧q.ts 1= .sl (z0z s.preds dl) .no∧q.ts 2= .ptr (B + 0) g0 0 0∧q.ts 5= .ob (B + 1) g 0 s.preds.length∧q.ts 6= .bool b∧q.ts 7= .int .i64 (i:Int)∧q.h=D++[.blk g0 [.agg [.sl (s.preds.map z0q) .no, .sl (s.clauses.map z0f) .no]] false false 0, .blk g (z0z s.preds l') true false 0,o2]) s.clauses.length ⟨0,l,false,o2,by omega,rfl,hN,by simp,fun _=>⟨rfl,by simp⟩,h1,h2,h5,h6,h7,rfl⟩ ?_
 clear h1 h2 h5 h6 h7
 rintro m ⟨ts,h,clk⟩ P ⟨i,l',b,o2,hi,rfl,hN',hb1,hb2,q1,q2,q5,q6,q7,rfl⟩ hnx he hr
 dsimp only at q1 q2 q5 q6 q7
 by_cases hlt:i < s.clauses.length
 ·have f1:decide ((i:Int) < (s.clauses.length:Int))=true:=by rw[decide_eq_true_iff];omega
  have f2:IntKind.i64.wrap ((i:Int) + 1)=((i + 1:Nat):Int):=z0d (by omega) (by omega)
  have hmem:=List.getElem_mem hlt
  have htake:s.clauses.take (i + 1)=s.clauses.take i++[s.clauses[i]]:=List.take_succ_eq_append_getElem hlt
  have hix:=fun h=>z8l (l:=s.clauses) (i:=i) (h:=h) (t:= .no) (k:= .i64) hlt
  have hcok:=hs.clauses _ hmem
  generalize s.clauses[i]=c at hmem htake hix hcok
  obtain⟨hv,hbl,hbo,hg,hh⟩:=hcok
  have same:x0i dl c l'→∀ (ts':Tmps) (clk':Nat) (o2:AObj),ts' 1= .sl (z0z s.preds dl) .no→ts' 2= .ptr (B + 0) g0 0 0→ts' 5= .ob (B + 1) g 0 s.preds.length→ts' 6= .bool b→ts' 7= .int .i64 ((i + 1:Nat):Int)→P .norm ⟨ts',D++[.blk g0 [.agg [.sl (s.preds.map z0q) .no, .sl (s.clauses.map z0f) .no]] false false 0, .blk g (z0z s.preds l') true false 0,o2],clk'⟩:=by
   intro hc ts' clk' o2 r1 r2 r5 r6 r7
   refine hnx (s.clauses.length - (i + 1)) _ (by omega) ⟨i + 1,l',b,o2,hlt,rfl,hN',hb1,fun hbf=> ?_,r1,r2,r5,r6,r7,rfl⟩
   obtain⟨e1,e2⟩:=hb2 hbf
   refine⟨e1,fun d hd=> ?_⟩
   rw[htake,List.mem_append,List.mem_singleton] at hd
   rcases hd with hd | rfl
   ·exact e2 d hd
   ·rw[←e1];exact hc
  have add:(c.head.pred=[]∨c.head.pred∈l')→z2l c.body dl=true→z2l c.body l'=false→∀ (ts':Tmps) (clk':Nat) (o2:AObj),ts' 1= .sl (z0z s.preds dl) .no→ts' 2= .ptr (B + 0) g0 0 0→ts' 5= .ob (B + 1) g 0 s.preds.length→ts' 6= .bool true→ts' 7= .int .i64 ((i + 1:Nat):Int)→P .norm ⟨ts',D++[.blk g0 [.agg [.sl (s.preds.map z0q) .no, .sl (s.clauses.map z0f) .no]] false false 0, .blk g (z0z s.preds (z9e l' c.body)) true false 0,o2],clk'⟩:=by
   intro hh e1 e2 ts' clk' o2 r1 r2 r5 r6 r7
   have hin:z2l c.body (z9e l' c.body)=true:=z3z.2 fun a ha=>z8m.2 (.inr ⟨a,ha,rfl⟩)
   have hlt2:=k7q hmem e2 hin fun a ha=>z8m.2 (.inl ha)
   refine hnx (s.clauses.length - (i + 1)) _ (by omega) ⟨i + 1,z9e l' c.body,true,o2,hlt,rfl,fun a ha=> ?_,fun _=> ?_,by simp,r1,r2,r5,r6,r7,rfl⟩
   ·rcases z8m.1 ha with ha | ⟨b,hb,rfl⟩
    ·exact hN' a ha
    ·have hbd:∀ a∈c.body,Dv a.pred:=fun a ha=>(hdl _).1 (z3z.1 e1 a ha)
     rcases hh with hh | hh
     ·exact .query hmem hh hbd hb
     ·exact .of hmem (hN' _ hh) hbd hb
   ·cases b with
    | true=>have:=hb1 rfl;omega
    | false=>rw[(hb2 rfl).1] at hlt2⊢;exact hlt2
  have p1:=q3e (s:=s) (nm:=c.head.pred) (by omega)
  have p2:=v1k (L:=dl) (u:= .no) hs (by omega) hbo
  have e0:Pure Gam 174 [.agg [.sl (s.preds.map z0q) .no, .sl (s.clauses.map z0f) .no], .sl (z0z s.preds dl) .no, .agg [.sl (c.vars.map z1b) .no, .sl (c.body.map z3x) .no, .sl (c.guard.map eNode) .no, .str c.head.pred, .sl (c.head.args.map z0l) .no]] (.bool (z2l c.body dl)):=p2
  simp only[z0x] at p1
  rcases hh with ⟨hh,_⟩ | ha
  ·rw[hh,z7i fun p hp=>hs.pr.name p hp] at p1
   rw[hh] at e0
   cases hw1:z2l c.body dl with
   | false=>
     rw[hw1] at e0
     simp only[go_sem,x1c,q1,q2,q5,q6,q7,hB,List.length_map,f1,hix,z0l,hh,z0a p1,z0a e0,Bool.not_false,f2]
     exact same (fun _ h=>by rw[hw1] at h;cases h) _ _ _ q1 q2 q5 q6 rfl
   | true=>
     rw[hw1] at e0
     simp only[go_sem,x1c,q1,q2,q5,q6,q7,hB,List.length_map,f1,hix,z0l,hh,z0a p1,z0a e0,Bool.not_true,Int.reduceLE,Int.reduceNeg,decide_false]
     rw[←hh]
     refine x3j (x1:= .sl (z0z s.preds dl) .no) (b0:=b) (i0:=i) hs (by omega) hbo hB q1 q2 q5 q6 q7 rfl rfl ?_
     intro ts' clk' r1 r2 r5 r6 r7
     cases hw2:z2l c.body l' with
     | true=>
       rw[hw2] at r6
       rw[q5l (l:=z9e l' c.body) (l':=l') fun a=>by
        rw[z8m]
        exact⟨fun h=>h.elim id fun ⟨x,hx,e⟩=>e ▸ z3z.1 hw2 x hx, .inl⟩]
       simp only[go_sem,r1,r2,r5,r6,r7,f2]
       exact same (fun _ _=>hw2) _ _ _ r1 r2 r5 (by simpa [z0b] using r6) rfl
     | false=>
       rw[hw2] at r6
       simp only[go_sem,r1,r2,r5,r6,r7,f2]
       exact add (.inl hh) hw1 hw2 _ _ _ r1 r2 r5 (by simpa [z0b] using r6) rfl
  ·obtain⟨f,hf,hpn,_⟩:=ha
   have hne:c.head.pred≠[]:=by rw[hpn];exact hs.pr.name f hf
   obtain⟨k,hk,hkf,hpa⟩:=z7j hs.pr hf
   rw[hpn,hpa] at p1
   rw[hpn] at e0
   have g1:decide ((0:Int)≤(k:Int))=true:=by rw[decide_eq_true_iff];omega
   have hget:(z0z s.preds l')[k]? =some (.bool (decide (c.head.pred∈l'))):=by rw[q0s hk,hkf,hpn]
   have hidx:=fun L (hL:L[1]? =some (.blk g (z0z s.preds l') true false 0))=>z8z (K:= .i64) (D:=D) (B:=B) (k:=1) (g:=g) (w:=false) (L:=L) hB hL hget rfl hk
   cases hw1:z2l c.body dl with
   | false=>
     rw[hw1] at e0
     simp only[go_sem,x1c,q1,q2,q5,q6,q7,hB,List.length_map,f1,hix,z0l,hpn,z0a p1,z0a e0,Bool.not_false,f2]
     exact same (fun _ h=>by rw[hw1] at h;cases h) _ _ _ q1 q2 q5 q6 rfl
   | true=>
     rw[hw1] at e0
     by_cases hin:c.head.pred∈l'
     ·rw[decide_eq_true hin] at hget
      simp only[go_sem,x1c,q1,q2,q5,q6,q7,hB,List.length_map,f1,hix,z0l,hpn,z0a p1,z0a e0,g1,hidx,hget,Bool.not_true]
      rw[←hpn]
      refine x3j (x1:= .sl (z0z s.preds dl) .no) (b0:=b) (i0:=i) hs (by omega) hbo hB q1 q2 q5 q6 q7 rfl rfl ?_
      intro ts' clk' r1 r2 r5 r6 r7
      cases hw2:z2l c.body l' with
      | true=>
        rw[hw2] at r6
        rw[q5l (l:=z9e l' c.body) (l':=l') fun a=>by
         rw[z8m]
         exact⟨fun h=>h.elim id fun ⟨x,hx,e⟩=>e ▸ z3z.1 hw2 x hx, .inl⟩]
        simp only[go_sem,r1,r2,r5,r6,r7,f2]
        exact same (fun _ _=>hw2) _ _ _ r1 r2 r5 (by simpa [z0b] using r6) rfl
      | false=>
        rw[hw2] at r6
        simp only[go_sem,r1,r2,r5,r6,r7,f2]
        exact add (.inr hin) hw1 hw2 _ _ _ r1 r2 r5 (by simpa [z0b] using r6) rfl
     ·rw[decide_eq_false hin] at hget
      simp only[go_sem,x1c,q1,q2,q5,q6,q7,hB,List.length_map,f1,hix,z0l,hpn,z0a p1,z0a e0,g1,hidx,hget,Bool.not_true,Bool.not_false,f2]
      refine same (fun h=> ?_) _ _ _ q1 q2 q5 q6 rfl
      rcases h with h | h
      ·exact absurd h hne
      ·exact absurd h hin
 ·have f1:decide ((i:Int) < (s.clauses.length:Int))=false:=by rw[decide_eq_false_iff_not];omega
  have hti:s.clauses.take i=s.clauses:=List.take_of_length_le (by omega)
  rw[hti] at hb2
  simp only[go_sem,x1c,q1,q2,q5,q6,q7,hB,List.length_map,f1]
  refine he _ _ ?_
  exact hQ _ l' b o2 _ hN' hb1 hb2 (by simp[z0b,q1]) (by simp[z0b,q2]) (by simp[z0b,q5]) (by simp[z0b,q6])
theorem y0e {s:Sys} {Dv:List Nat→Prop} {dl n0:List (List Nat)} {u:Tip} (hs:SysV s) (hdl:∀ a,a∈dl↔Dv a) (h0:∀ a,a∈n0↔Need s.clauses Dv a):Pure Gam 110 [z0x s, .sl (z0z s.preds dl) u] (.sl (z0z s.preds n0) .no):=by
 have hpl:=hs.pl
 refine Pure.of rfl u4j rfl rfl rfl (az:=[z0x s, .sl (z0z s.preds dl) .no]) rfl (by simp[idsL,z2c,AV.ids,q2j]) fun D B clk T hB hT=> ?_
 have hrep:List.replicate s.preds.length (AV.bool false)=z0z s.preds []:=by
  unfold z0z
  rw[←List.map_const']
  apply List.map_congr_left
  intro p _
  simp
 simp only[go_sem,y9w,hB,z0x,List.length_map,q4y (z:= .bool false) (n:=s.preds.length) (b:=1) rfl (by omega),hrep]
 refine z0y (fun m q=>∃ (l:List (List Nat)) (b:Bool) (g0 g:Nat) (o2:AObj),m=(if b then q3y s.clauses l + 1 else 0)∧(∀ a∈l,Need s.clauses Dv a)∧(b=false→∀ c∈s.clauses,x0i dl c l)∧q.ts 1= .sl (z0z s.preds dl) .no∧q.ts 2= .ptr (B + 0) g0 0 0∧q.ts 5= .ob (B + 1) g 0 s.preds.length∧q.ts 6= .bool b∧q.h=D++[.blk g0 [.agg [.sl (s.preds.map z0q) .no, .sl (s.clauses.map z0f) .no]] false false 0, .blk g (z0z s.preds l) true false 0,o2]) (q3y s.clauses [] + 1) ⟨[],true,_,_,_,rfl,by simp,by simp,rfl,rfl,rfl,rfl,rfl⟩ ?_
 rintro m ⟨ts,h,clk⟩ P ⟨l,b,g0,g,o2,rfl,hD,hb,q1,q2,q5,q6,rfl⟩ hnx he hr
 dsimp only at q1 q2 q5 q6
 cases b with
 | true=>
   simp only[go_sem,k5i,q1,q2,q5,q6,hB]
   refine j7a hs hB hdl hD q1 q2 q5 rfl rfl fun ts' l' b o2 clk' hD' hb1 hb2 r1 r2 r5 r6=> ?_
   simp only[go_sem,]
   refine hnx (if b then q3y s.clauses l' + 1 else 0) _ ?_ ⟨l',b,g0,g,o2,rfl,hD',fun hbf=> ?_,r1,r2,r5,r6,rfl⟩
   ·cases b with
    | true=>have:=hb1 rfl;simpa using this
    | false=>simp
   ·obtain⟨e1,e2⟩:=hb2 hbf
    rw[e1];exact e2
 | false=>
   simp only[go_sem,k5i,q1,q2,q5,q6,hB]
   refine he _ _ ?_
   simp only[go_sem,q5]
   have hsrc:=z9a (L:=[.blk g0 [.agg [.sl (s.preds.map z0q) .no, .sl (s.clauses.map z0f) .no]] false false 0, .blk g (z0z s.preds l) true false 0,o2]) (k:=1) (g:=g) (w:=false) (len:=s.preds.length) hB rfl (by simp[z0z])
   simp only[z5a] at hsrc
   rw[q5l (l':=l) fun a=>by rw[h0];exact⟨k7p hdl (hb rfl),hD a⟩] at hT
   refine⟨.sl (z0z s.preds l) .no, ?_,by simp[AV.ids,q2j],rfl,hT _⟩
   simp only[z1k,conv,hsrc,Option.map_some]
theorem k2u {n:Int}:Pure Gam 196 [.int .i64 n, .int .i64 n] (.int .i64 0):=by
 refine Pure.of rfl y4o rfl rfl rfl rfl rfl fun D B clk T hB hT=> ?_
 simp only[go_sem,w4z,Int.lt_irrefl,decide_false]
 rw[z0h rfl rfl]
 exact hT _
theorem q2k:∀ a:List Nat,z4u a a=false
 | []=>rfl
 | c::a=>by simp[z4u,q2k a]
theorem v9d {h:List AObj} {t:ETy} {a:List Nat}:z7d h .gtr t (.str a) (.str a)=some (.bool false,h):=by simp[z7d,z4q,q6m,q2k]
theorem v9e {a:List Nat}:Pure Gam 197 [.str a, .str a] (.int .i64 0):=by
 refine Pure.of rfl y4p rfl rfl rfl rfl rfl fun D B clk T hB hT=> ?_
 simp only[go_sem,w5a,q2k,v9d]
 rw[z0h rfl rfl]
 exact hT _
theorem v9f {t:Term} {u v:Tip} (hl:t.length≤20000):Pure Gam 129 [.sl (t.map eNode) u, .sl (t.map eNode) v] (.int .i64 0):=by
 refine Pure.of rfl y4n rfl rfl rfl (az:=[.sl (t.map eNode) .no, .sl (t.map eNode) .no]) rfl (by simp[idsL,z7s]) fun D B clk T hB hT=> ?_
 have ea0:∀ (h:List AObj) (g:Nat),q5j h 5 1 (.ptr (B + 2) g 0 0) (.int .i64 0)=some (.ptr (B + 2) g 0 0,h):=fun _ _=>rfl
 have ea1:∀ (h:List AObj) (g:Nat),q5j h 5 1 (.ptr (B + 2) g 0 0) (.int .i64 1)=some (.ptr (B + 2) g 0 1,h):=fun _ _=>rfl
 have ea2:∀ (h:List AObj) (g:Nat),q5j h 5 1 (.ptr (B + 2) g 0 0) (.int .i64 2)=some (.ptr (B + 2) g 0 2,h):=fun _ _=>rfl
 have ea3:∀ (h:List AObj) (g:Nat),q5j h 5 1 (.ptr (B + 2) g 0 0) (.int .i64 3)=some (.ptr (B + 2) g 0 3,h):=fun _ _=>rfl
 have ea4:∀ (h:List AObj) (g:Nat),q5j h 5 1 (.ptr (B + 2) g 0 0) (.int .i64 4)=some (.ptr (B + 2) g 0 4,h):=fun _ _=>rfl
 simp only[go_sem,w4y,hB]
 refine z0y (fun m q=>∃ (i:Nat) (o0 o1 o2:AObj),i≤t.length∧m=t.length - i∧q.ts 0= .sl (t.map eNode) .no∧q.ts 1= .sl (t.map eNode) .no∧q.ts 5= .int .i64 (i:Int)∧q.h=D++[o0,o1,o2]) t.length ⟨0,_,_,_,by omega,rfl,rfl,rfl,rfl,rfl⟩ ?_
 rintro m ⟨ts,h',clk⟩ P ⟨i,o0,o1,o2,hi,rfl,h0,h1,h5,rfl⟩ hnx he hr
 dsimp only at h0 h1 h5
 by_cases hlt:i < t.length
 ·have f1:decide ((i:Int) < (t.length:Int))=true:=by rw[decide_eq_true_iff];omega
  have f2:IntKind.i64.wrap ((i:Int) + 1)=((i + 1:Nat):Int):=z0d (by omega) (by omega)
  have hti:t[i]? =some t[i]:=List.getElem?_eq_getElem hlt
  generalize t[i]=n at hti
  simp only[go_sem,j2o,h0,h1,h5,hB,List.length_map,f1,f2,z1i,z3a hti,z0a k2u,z0a v9e]
  refine⟨by simp[z1f,apart,z0i,z1d,z1h,AOp.isCall,hB,z7s], ?_⟩
  refine⟨by simp[z1f,apart,z0i,z1d,z1h,AOp.isCall,hB,z7s], ?_⟩
  refine z0y (fun m q=>∃ (k:Nat) (o0 o1:AObj) (g8:Nat),k≤5∧m=5 - k∧q.ts 0= .sl (t.map eNode) .no∧q.ts 1= .sl (t.map eNode) .no∧q.ts 5= .int .i64 (i:Int)∧q.ts 8= .ptr (B + 2) g8 0 0∧q.ts 9= .int .i64 (k:Int)∧q.h=D++[o0,o1, .blk g8 [.agg [.int .i64 0, .int .i64 0, .int .i64 0, .int .i64 0, .int .i64 0]] false false 0]) 5 ⟨0,_,_,_,by omega,rfl,h0,h1,h5,rfl,rfl,rfl⟩ ?_
  clear h0 h1 h5
  rintro m ⟨ts,h',clk⟩ P2 ⟨k,o0,o1,g8,hk5,rfl,r0,r1,r5,r8,r9,rfl⟩ hnx2 he2 hr2
  dsimp only at r0 r1 r5 r8 r9
  have hw:IntKind.i64.wrap ((k:Int) + 1)=((k + 1:Nat):Int):=z0d (by omega) (by omega)
  by_cases hk:k < 5
  ·have e1:decide ((k:Int) < 5)=true:=by rw[decide_eq_true_iff];omega
   have hcase:k=0∨k=1∨k=2∨k=3∨k=4:=by omega
   rcases hcase with rfl | rfl | rfl | rfl | rfl
   ·simp only[Int.cast_ofNat_Int] at r9 hw e1
    simp only[go_sem,q4t,r0,r1,r5,r8,r9,hB,e1,ea0,hw,decide_true,Bool.not_true]
    exact hnx2 (5 - 1) _ (by omega) ⟨1,_,_,g8,by omega,rfl,r0,r1,r5,r8,rfl,rfl⟩
   ·simp only[Int.cast_ofNat_Int] at r9 hw e1
    simp only[go_sem,q4t,r0,r1,r5,r8,r9,hB,e1,ea1,hw,decide_true,Bool.not_true]
    exact hnx2 (5 - 2) _ (by omega) ⟨2,_,_,g8,by omega,rfl,r0,r1,r5,r8,rfl,rfl⟩
   ·simp only[Int.cast_ofNat_Int] at r9 hw e1
    simp only[go_sem,q4t,r0,r1,r5,r8,r9,hB,e1,ea2,hw,decide_true,Bool.not_true]
    exact hnx2 (5 - 3) _ (by omega) ⟨3,_,_,g8,by omega,rfl,r0,r1,r5,r8,rfl,rfl⟩
   ·simp only[Int.cast_ofNat_Int] at r9 hw e1
    simp only[go_sem,q4t,r0,r1,r5,r8,r9,hB,e1,ea3,hw,decide_true,Bool.not_true]
    exact hnx2 (5 - 4) _ (by omega) ⟨4,_,_,g8,by omega,rfl,r0,r1,r5,r8,rfl,rfl⟩
   ·simp only[Int.cast_ofNat_Int] at r9 hw e1
    simp only[go_sem,q4t,r0,r1,r5,r8,r9,hB,e1,ea4,hw,decide_true,Bool.not_true]
    exact hnx2 (5 - 5) _ (by omega) ⟨5,_,_,g8,by omega,rfl,r0,r1,r5,r8,rfl,rfl⟩
  ·have e1:decide ((k:Int) < 5)=false:=by rw[decide_eq_false_iff_not];omega
   simp only[go_sem,q4t,r0,r1,r5,r8,r9,hB,e1]
   refine he2 _ _ ?_
   simp only[go_sem,r0,r1,r5,f2]
   exact hnx (t.length - (i + 1)) _ (by omega) ⟨i + 1,_,_,_,hlt,rfl,r0,r1,rfl,rfl⟩
 ·have f1:decide ((i:Int) < (t.length:Int))=false:=by rw[decide_eq_false_iff_not];omega
  simp only[go_sem,j2o,h0,h1,h5,hB,List.length_map,f1]
  refine he _ _ ?_
  simp only[go_sem,h0,h1,List.length_map,z0a k2u]
  rw[z0h rfl rfl]
  exact hT _
theorem y0f {t:Term} {u v:Tip} (hl:t.length≤20000):Pure Gam 68 [.sl (t.map eNode) u, .sl (t.map eNode) v] (.bool true):=by
 have p1:=v9f (u:= .no) (v:= .no) hl
 refine Pure.of rfl u4q rfl rfl rfl (az:=[.sl (t.map eNode) .no, .sl (t.map eNode) .no]) rfl (by simp[idsL,z7s]) fun D B clk T hB hT=> ?_
 simp only[go_sem,u0f,hB,z0a p1,decide_true]
 rw[z0e]
 exact hT _
theorem y0g {l:List Var} {u v:Tip} (hl:l.length≤20000):Pure Gam 67 [.sl (l.map z1b) u, .sl (l.map z1b) v] (.bool true):=by
 refine Pure.of rfl u4p rfl rfl rfl (az:=[.sl (l.map z1b) .no, .sl (l.map z1b) .no]) rfl (by simp[idsL,AV.ids,z0c z2b]) fun D B clk T hB hT=> ?_
 simp only[go_sem,u0e,hB,List.length_map,decide_true,Bool.not_true]
 refine z0y (fun m q=>∃ (i:Nat),i≤l.length∧m=l.length - i∧q.ts 0= .sl (l.map z1b) .no∧q.ts 1= .sl (l.map z1b) .no∧q.ts 5= .int .i64 (i:Int)∧q.h=D) l.length ⟨0,by omega,rfl,rfl,rfl,rfl,by simp⟩ ?_
 rintro m ⟨ts,h',clk⟩ P ⟨i,hi,rfl,h0,h1,h5,rfl⟩ hnx he hr
 dsimp only at h0 h1 h5
 by_cases hlt:i < l.length
 ·have f1:decide ((i:Int) < (l.length:Int))=true:=by rw[decide_eq_true_iff];omega
  have f2:IntKind.i64.wrap ((i:Int) + 1)=((i + 1:Nat):Int):=z0d (by omega) (by omega)
  have e3:∀ (h:List AObj) (x:List Nat) (y:Int),z7d h .neq (.agg [.str, .int]) (.agg [.str x, .int .i64 y]) (.agg [.str x, .int .i64 y])=some (.bool false,h):=fun h x y=>by simp[z7d,z4q,AV.eqv,eqL,AV.eq1]
  simp only[go_sem,v5i,h0,h1,h5,hB,List.length_map,f1,f2,z8x hlt,nat,e3,decide_true,Bool.not_true]
  exact hnx (l.length - (i + 1)) _ (by omega) ⟨i + 1,hlt,rfl,h0,h1,rfl,rfl⟩
 ·have f1:decide ((i:Int) < (l.length:Int))=false:=by rw[decide_eq_false_iff_not];omega
  simp only[go_sem,v5i,h0,h1,h5,hB,List.length_map,f1]
  refine he _ _ ?_
  simp only[go_sem,]
  rw[z0e]
  exact hT _
theorem z6z {base:Nat} {b:ACode} {ks:List Kf} {s:St} {Q:Post} (n:Nat) (hn:n≤2 ^ 62) (J:Nat→St→Prop) (h0:J 0 s)
  (hstep:∀ i,i < n→decide ((i:Int) < (n:Int))=true→IntKind.i64.wrap ((i:Int) + 1)=((i + 1:Nat):Int)→∀ ts h clk (P:Post),J i ⟨ts,h,clk⟩→(∀ s',J (i + 1) s'→P .norm s')→(∀ k s',K Gam base (.exit k) ks s' Q→P (.exit k) s')→(∀ s',K Gam base .ret ks s' Q→P .ret s')→K Gam base b [] ⟨ts,h,clk⟩ P)
  (hend:decide ((n:Int) < (n:Int))=false→∀ ts h clk (P:Post),J n ⟨ts,h,clk⟩→(∀ k s',K Gam base (.exit k) ks s' Q→P (.exit k) s')→(∀ s',K Gam base .ret ks s' Q→P .ret s')→K Gam base b [] ⟨ts,h,clk⟩ P):K Gam base (.loop b) ks s Q:=by
 refine z0y (fun m q=>∃ i:Nat,i≤n∧m=n - i∧J i q) n ⟨0,by omega,rfl,h0⟩ ?_
 rintro m ⟨ts,h,clk⟩ P ⟨i,hi,rfl,hj⟩ hnx he hr
 by_cases hlt:i < n
 ·exact hstep i hlt (by rw[decide_eq_true_iff];omega) (z0d (by omega) (by omega)) ts h clk P hj (fun s' h=>hnx (n - (i + 1)) s' (by omega) ⟨i + 1,hlt,rfl,h⟩) he hr
 ·obtain rfl:i=n:=by omega
  exact hend (by rw[decide_eq_false_iff_not];omega) ts h clk P hj he hr
end Go.Proofs.YtahdahokpjigiaaGreatDoor.Am
