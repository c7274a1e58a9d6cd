/- Walking: the transformation is q4f Walking: names in lists Walking: lists of names are joined Walking: lists of names are joined Walking: the set of removed predicates; the kind of a transformation  -/
import Derived.Test.YtkollgjffkdliaaGreatDoorK26
open Bool renaming not_false → x6,not_true → z8
open Int renaming cast_ofNat_Int → z9,natAbs_natCast → u5,reduceEq → z7,reduceLT → u6
open List renaming append_assoc → u4,append_nil → w9,getElem?_eq_getElem → v9,getElem_mem → x8,length_append → k7,length_cons → v5,length_map → z6,length_nil → u3,length_singleton → v6,map_append → v8,map_cons → j4,map_nil → k8,mem_append → x4,mem_cons_self → j7,mem_filter → m0,mem_map → w0,mem_singleton → y3,replicate → x3,replicate_succ → p8,take_of_length_le → u0,take_succ_eq_append_getElem → w7
open Nat renaming gcd → j8,le_refl → x7,le_trans → j1,zero_add → k6
set_option linter.all false
namespace Go.Proofs.YtkollgjffkdliaaGreatDoor.Am
open Go
set_option maxRecDepth 100000
structure Tf where
 kind:Int
 pred:List Nat
 into:List Nat
 clause:Int
 atom:Int
 un:List (List Nat)
 und:List (List Nat)
 drops:List AV
def z3b (l:List (List Nat)):List AV:=l.map AV.str
def eTf (x:Tf):AV:= .agg [.int .i64 x.kind, .str x.pred, .str x.into, .int .i64 x.clause, .int .i64 x.atom, .sl (z3b x.un) .no, .sl (z3b x.und) .no, .sl x.drops .no]
theorem z1i {l:List (List Nat)}:z0i (z3b l)=[]:=z0d fun _=>rfl
theorem z0v {l:List (List Nat)}:z0r 1 (z3b l)=true:=z1u fun _=>⟨rfl,rfl,rfl⟩
def x0s (ps:List Func) (dl:List (List Nat)):List (List Nat):=(ps.map (·.name)).filter fun a=>decide (a∉dl)
def k2s (ps:List Func) (dl nl:List (List Nat)):List (List Nat):=(ps.map (·.name)).filter fun a=>decide (a∈dl∧a∉nl)
theorem k2t {ps:List Func} {dl:List (List Nat)}:(x0s ps dl).length≤ps.length:=by
 have:=List.length_filter_le (fun a=>decide (a∉dl)) (ps.map (·.name))
 simpa [x0s] using this
theorem k8z {ps:List Func} {dl nl:List (List Nat)}:(k2s ps dl nl).length≤ps.length:=by
 have:=List.length_filter_le (fun a=>decide (a∈dl∧a∉nl)) (ps.map (·.name))
 simpa [k2s] using this
open Classical in
noncomputable def z7f (s:Sys):Tf:=⟨2,[],[],0,0,(s.preds.map (·.name)).filter fun a=>decide (Der s.clauses a∧¬ Need s.clauses (Der s.clauses) a),(s.preds.map (·.name)).filter fun a=>decide (¬ Der s.clauses a),[]⟩
open Classical in
theorem k9a {s:Sys} {dl:List (List Nat)} (hd:∀ a,a∈dl↔Der s.clauses a):x0s s.preds dl=(z7f s).und:=by
 unfold x0s z7f
 refine List.filter_congr fun a _=> ?_
 rw[Bool.eq_iff_iff,r8,r8,hd]
open Classical in
theorem w0t {s:Sys} {dl nl:List (List Nat)} (hd:∀ a,a∈dl↔Der s.clauses a) (hn:∀ a,a∈nl↔Need s.clauses (Der s.clauses) a):k2s s.preds dl nl=(z7f s).un:=by
 unfold k2s z7f
 refine List.filter_congr fun a _=> ?_
 rw[Bool.eq_iff_iff,r8,r8,hd,hn]
theorem k9b {l:List Func} {i:Nat} {h:List AObj} {t:Tip} {k:IntKind} (hi:i < l.length):z1v h 3 (.sl (l.map z1m) t) (.int k (i:Int))=some (.iptr [.str l[i].name, .sl (l[i].args.map nat) .no, .int .i64 (l[i].result:Int)] 0,h):=z7u hi
theorem k9c {ps:List Func} {dl nl:List (List Nat)} {B clk gx g1 gD gN:Nat} {D:List AObj} {a0 o1 p o4 o5 o6 o7 d0 d2 n0 n2 n3:AObj} {ts:Tmps} {ks:List Kf} {Q:Post} (hB:D.length=B) (hpl:ps.length≤1000) (h2:ts 2= .ptr (B + 1) g1 0 0) (h4:ts 4= .ptr (B + 2) gx 0 0) (h5:ts 5= .mp (B + 9) gD) (h6:ts 6= .mp (B + 12) gN) (h20:ts 20= .sl (ps.map z1m) .no) (h21:ts 21= .int .i64 (ps.length:Int)) (h22:ts 22= .int .i64 0)
  (hQ:∀ (ts':Tmps) (t1 t2:Tip) (p o4 o5 o6 o7:AObj) (clk':Nat),ts' 2= .ptr (B + 1) g1 0 0→ts' 4= .ptr (B + 2) gx 0 0→K Gam B (.exit 0) ks ⟨ts',D++[a0,o1, .blk gx [.agg [.int .i64 2, .str [], .str [], .int .i64 0, .int .i64 0, .sl (z3b (k2s ps dl nl)) t1, .sl (z3b (x0s ps dl)) t2, .sl [] .nil]] false false 0,p,o4,o5,o6,o7,d0, .map gD (z0x dl),d2,n0, .map gN (z0x nl),n2,n3],clk'⟩ Q):
  K Gam B (.loop j1h) ks ⟨ts,D++[a0,o1, .blk gx [.agg [.int .i64 2, .str [], .str [], .int .i64 0, .int .i64 0, .sl [] .nil, .sl [] .nil, .sl [] .nil]] false false 0,p,o4,o5,o6,o7,d0, .map gD (z0x dl),d2,n0, .map gN (z0x nl),n2,n3],clk⟩ Q:=by
 refine z1f (fun m q=>∃ (i:Nat) (t1 t2:Tip) (p o4 o5 o6 o7:AObj),i≤ps.length∧m=ps.length - i∧q.ts 2= .ptr (B + 1) g1 0 0∧q.ts 4= .ptr (B + 2) gx 0 0∧q.ts 5= .mp (B + 9) gD∧q.ts 6= .mp (B + 12) gN∧q.ts 20= .sl (ps.map z1m) .no∧q.ts 21= .int .i64 (ps.length:Int)∧q.ts 22= .int .i64 (i:Int)∧
  q.h=D++[a0,o1, .blk gx [.agg [.int .i64 2, .str [], .str [], .int .i64 0, .int .i64 0, .sl (z3b (k2s (ps.take i) dl nl)) t1, .sl (z3b (x0s (ps.take i) dl)) t2, .sl [] .nil]] false false 0,p,o4,o5,o6,o7,d0, .map gD (z0x dl),d2,n0, .map gN (z0x nl),n2,n3]∧q3e B 7 o7 t1 1∧q3e B 5 o5 t2 1) ps.length ⟨0, .nil, .nil,p,o4,o5,o6,o7,by omega,rfl,h2,h4,h5,h6,h20,h21,h22,rfl, .inl rfl, .inl rfl⟩ ?_
 clear h2 h4 h5 h6 h20 h21 h22
 rintro m ⟨ts,h,clk⟩ P ⟨i,t1,t2,p,o4,o5,o6,o7,hi,rfl,q2,q4,q5,q6,q20,q21,q22,rfl,ht1,ht2⟩ hnx he hr
 dsimp only at q2 q4 q5 q6 q20 q21 q22
 by_cases hlt:i < ps.length
 ·have f1:decide ((i:Int) < (ps.length:Int))=true:=by rw[r8];omega
  have f2:IntKind.i64.wrap ((i:Int) + 1)=((i + 1:Nat):Int):=z0c (by omega) (by omega)
  have htake:ps.take (i + 1)=ps.take i++[ps[i]]:=w7 hlt
  have hix:=fun h=>k9b (l:=ps) (i:=i) (h:=h) (t:= .no) (k:= .i64) hlt
  have hl1:=k2t (ps:=ps.take i) (dl:=dl)
  have hl2:=k8z (ps:=ps.take i) (dl:=dl) (nl:=nl)
  have hu1:x0s (ps.take (i + 1)) dl=x0s (ps.take i) dl++(if ps[i].name∈dl then [] else [ps[i].name]):=by
   unfold x0s
   rw[htake,v8,List.filter_append]
   congr 1
   by_cases h:ps[i].name∈dl <;> simp[h]
  have hu2:k2s (ps.take (i + 1)) dl nl=k2s (ps.take i) dl nl++(if ps[i].name∈dl∧ps[i].name∉nl then [ps[i].name] else []):=by
   unfold k2s
   rw[htake,v8,List.filter_append]
   congr 1
   by_cases h:ps[i].name∈dl <;> by_cases h':ps[i].name∈nl <;> simp[h,h']
  rw[List.length_take] at hl1 hl2
  generalize ps[i]=f at *
  by_cases hin:f.name∈dl
  ·rw[if_pos hin,w9] at hu1
   by_cases hin2:f.name∈nl
   ·rw[if_neg (fun h=>h.2 hin2),w9] at hu2
    simp only[go_sem,j1h,q2,q4,q5,q6,q20,q21,q22,hB,f1,hix,z2p,z8s,hin,hin2,z5c,z8,f2]
    rw[←hu1,←hu2]
    exact hnx (ps.length - (i + 1)) _ (by omega) ⟨i + 1,t1,t2,_,_,_,_,_,hlt,rfl,q2,q4,q5,q6,q20,q21,rfl,rfl,ht1,ht2⟩
   ·rw[if_pos ⟨hin,hin2⟩] at hu2
    simp only[go_sem,j1h,q2,q4,q5,q6,q20,q21,q22,hB,f1,hix,z2p,z8s,hin,hin2,z5c,z3w,z8,x6]
    rw[show [AV.str f.name]=z3b [f.name] from rfl,z1c hB rfl ht1 z0v z0v (by simp only[z3b,z6,v6];omega)]
    have e8:z3b (k2s (ps.take i) dl nl)++z3b [f.name]=z3b (k2s (ps.take (i + 1)) dl nl):=by rw[hu2,z3b,z3b,z3b,v8]
    simp only[go_sem,q2,q4,q5,q6,q20,q21,q22,hB,f2,e8,←hu1]
    exact hnx (ps.length - (i + 1)) _ (by omega) ⟨i + 1,_,t2,_,_,_,_,_,hlt,rfl,q2,q4,q5,q6,q20,q21,rfl,rfl, .inr (.inr ⟨_,rfl,rfl⟩),ht2⟩
  ·rw[if_neg hin] at hu1
   rw[if_neg (fun h=>hin h.1),w9] at hu2
   simp only[go_sem,j1h,q2,q4,q5,q6,q20,q21,q22,hB,f1,hix,z2p,z8s,hin,z3w,x6]
   rw[show [AV.str f.name]=z3b [f.name] from rfl,z1c hB rfl ht2 z0v z0v (by simp only[z3b,z6,v6];omega)]
   have e8:z3b (x0s (ps.take i) dl)++z3b [f.name]=z3b (x0s (ps.take (i + 1)) dl):=by rw[hu1,z3b,z3b,z3b,v8]
   simp only[go_sem,q2,q4,q5,q6,q20,q21,q22,hB,f2,e8,←hu2]
   exact hnx (ps.length - (i + 1)) _ (by omega) ⟨i + 1,t1,_,_,_,_,_,_,hlt,rfl,q2,q4,q5,q6,q20,q21,rfl,rfl,ht1, .inr (.inr ⟨_,rfl,rfl⟩)⟩
 ·have f1:decide ((i:Int) < (ps.length:Int))=false:=by rw[n9];omega
  have hti:ps.take i=ps:=u0 (by omega)
  simp only[go_sem,j1h,q2,q4,q5,q6,q20,q21,q22,f1]
  refine he _ _ ?_
  rw[hti]
  exact hQ _ t1 t2 _ _ _ _ _ _ (by simp[z0b,q2]) (by simp[z0b,q4])
theorem y2s {s:Sys} (hs:SysV s):Pure Gam 7 [z4e s] (.tup [eTf (z7f s), .int .i64 0]):=by
 have hp31:=y2r hs
 have hbl:∀ c∈s.clauses,c.body.length≤2 ^ 20:=fun c hc=>by have:=(hs.clauses c hc).2.1;omega
 have hcl:s.clauses.length≤2 ^ 20:=by have:=hs.len;omega
 have hpl:s.preds.length≤6:=hs.preds.length_le
 rw[z4e] at hp31
 refine Pure.of rfl u6n rfl rfl rfl (az:=[z4e s]) rfl (by simp[z0i,z4j]) fun D B clk T hB hT=> ?_
 simp only[go_sem,u3o,hB,z4e,z0a hp31,z8]
 have h44:=fun h clk Q=>u6u (s:=s) (h:=h) (clk:=clk) (Q:=Q) hcl hbl
 rw[z4e] at h44
 refine z6t (h44 _ _ _ fun gD dl d0 d2 c2 hdl=> ?_)
 have hlen8:∀ a0 a1 a2 a3 a4 a5 a6 a7:AObj,(D++[a0,a1,a2,a3,a4,a5,a6,a7]).length=B + 8:=fun _ _ _ _ _ _ _ _=>by simp[hB]
 simp only[go_sem,hB,hlen8,u4]
 have h45:=fun sD gD h clk Q=>u6v (s:=s) (dl:=dl) (sD:=sD) (gD:=gD) (h:=h) (clk:=clk) (Q:=Q) hcl hbl hdl
 rw[z4e] at h45
 have hh:∀ a0 a1 a2 a3 a4 a5 a6 a7,Has [(B + 9, .map gD (z0x dl))] (D++[a0,a1,a2,a3,a4,a5,a6,a7,d0, .map gD (z0x dl),d2]):=fun _ _ _ _ _ _ _ _=>x0h hB rfl
 refine z6t (h45 _ _ _ _ _ (hh _ _ _ _ _ _ _ _) fun gN nl n0 n2 n3 c3 hnl=> ?_)
 have hlen11:∀ a0 a1 a2 a3 a4 a5 a6 a7 a8 a9 a10:AObj,(D++[a0,a1,a2,a3,a4,a5,a6,a7,a8,a9,a10]).length=B + 11:=fun _ _ _ _ _ _ _ _ _ _ _=>by simp[hB]
 simp only[go_sem,hB,hlen11,u4,z6]
 refine k9c (ps:=s.preds) (dl:=dl) (nl:=nl) (g1:=clk + 1) hB (by omega) (by simp[z0b]) (by simp[z0b]) (by simp[z0b]) (by simp[z0b]) (by simp[z0b]) (by simp[z0b]) (by simp[z0b]) fun ts' t1 t2 p o4 o5 o6 o7 clk' r2 r4=> ?_
 simp only[go_sem,r2,r4,hB,z0t,z0s,z0g]
 rw[z0h rfl (by simp[z1k,AV.cv,cvL,AV.ids,z0i,z1i])]
 rw[k9a hdl,w0t hdl hnl]
 exact hT _
section
variable {s:Sys}
abbrev DS (s:Sys):List Nat→Prop:=Der s.clauses
abbrev NS (s:Sys):List Nat→Prop:=Need s.clauses (Der s.clauses)
def names (s:Sys):List (List Nat):=s.preds.map (·.name)
open Classical in
theorem y2t {a:List Nat}:a∈(z7f s).un↔a∈names s∧DS s a∧¬ NS s a:=by
 simp[z7f,names,m0]
open Classical in
theorem w0u {a:List Nat}:a∈(z7f s).und↔a∈names s∧¬ DS s a:=by
 simp[z7f,names,m0]
theorem AppOk.name {ps:List Func} {V:List Var} {a:App} (h:AppOk ps V a):a.pred∈ps.map (·.name):=by
 obtain⟨f,hf,hn,_⟩:=h
 rw[hn]
 exact w0.2 ⟨f,hf,rfl⟩
theorem SysV.body (hs:SysV s) {c:Clause} (hc:c∈s.clauses) {a:App} (ha:a∈c.body):a.pred∈names s:=((hs.clauses c hc).2.2.1 a ha).name
theorem SysV.name_ne (hs:SysV s) {a:List Nat} (ha:a∈names s):a≠[]:=by
 obtain⟨f,hf,rfl⟩:=w0.1 ha
 exact hs.pr.name f hf
theorem k2u (hs:SysV s):((z7f s).un++(z7f s).und).length≤12:=by
 have h1:(z7f s).un.length≤s.preds.length:=by
  unfold z7f
  exact j1 (List.length_filter_le _ _) (by rw[z6];exact x7 _)
 have h2:(z7f s).und.length≤s.preds.length:=by
  unfold z7f
  exact j1 (List.length_filter_le _ _) (by rw[z6];exact x7 _)
 have h3:s.preds.length≤6:=hs.preds.length_le
 rw[k7]
 omega
end
theorem k2v {n:Nat} (h1:1≤n) (h4:n≤4):Pure Gam 169 [nat n] (.bool true):=by
 refine Pure.of rfl y9i rfl rfl rfl rfl rfl fun D B clk T hB hT=> ?_
 have e1:decide ((1:Int)≤(n:Int))=true:=by rw[r8];omega
 have e2:decide ((n:Int)≤(4:Int))=true:=by rw[r8];omega
 simp only[go_sem,y0y,nat,e1,e2]
 rw[z0e]
 exact hT _
theorem k2w {n:Nat}:Pure Gam 303 [nat n] (.bool (decide (n=2∨n=3))):=by
 refine Pure.of rfl y9h rfl rfl rfl rfl rfl fun D B clk T hB hT=> ?_
 by_cases h2:n=2
 ·subst h2
  simp only[go_sem,v8z,nat,z9,decide_true]
  rw[z0e]
  exact hT _
 ·have e1:decide ((n:Int)=(2:Int))=false:=by rw[n9];omega
  have e2:decide ((n:Int)=(3:Int))=decide (n=2∨n=3):=by rw[decide_eq_decide];omega
  simp only[go_sem,v8z,nat,e1,e2]
  rw[z0e]
  exact hT _
theorem w0v {ss:List Nat} {s o:Nat} {u:Tip} (hl:ss.length≤2 ^ 20) (h:∀ x∈ss,x=s):Pure Gam 302 [.sl (ss.map nat) u,nat s,nat o] (nat o):=by
 refine Pure.of rfl y9g rfl rfl rfl (az:=[.sl (ss.map nat) .no,nat s,nat o]) rfl (by simp[z0i,AV.ids,z0d (fun _=>z3f),z3f]) fun D B clk T hB hT=> ?_
 simp only[go_sem,y0x,nat,hB]
 refine z1f (fun m q=>∃ i:Nat,i≤ss.length∧m=ss.length - i∧q.ts 0= .sl (ss.map nat) .no∧q.ts 1=nat s∧q.ts 2=nat o∧q.ts 7= .int .i64 (i:Int)∧q.h=D) ss.length ⟨0,Nat.zero_le _,by omega,rfl,rfl,rfl,rfl,by simp⟩ ?_
 rintro m ⟨ts,h',clk'⟩ Pq ⟨i,hi,rfl,q0,q1,q2,q7,rfl⟩ hnx he hr
 dsimp only at q0 q1 q2 q7
 by_cases hlt:i < ss.length
 ·have f1:decide ((i:Int) < (ss.length:Int))=true:=by rw[r8];omega
  have f2:IntKind.i64.wrap ((i:Int) + 1)=((i + 1:Nat):Int):=z0c (by omega) (by omega)
  have f3:ss[i]=s:=h _ (x8 hlt)
  simp only[go_sem,j4f,q0,q1,q2,q7,nat,z6,f1,q6d hlt,f3,decide_true,z8,f2]
  exact hnx (ss.length - (i + 1)) _ (by omega) ⟨i + 1,hlt,rfl,q0,q1,q2,rfl,rfl⟩
 ·have f1:decide ((i:Int) < (ss.length:Int))=false:=by rw[n9];omega
  simp only[go_sem,j4f,q0,q1,q2,q7,z6,f1]
  refine he _ _ ?_
  simp only[go_sem,q2]
  rw[z0h rfl rfl]
  exact hT _
theorem w0w {V:List Var} {n:Node} {ss:List Nat} {s:Nat} {ks:Term} (hn:NodeOk V n ss s ks) (hk:n.kids=ss.length):Pure Gam 267 [nat n.op,nat n.kids] (.bool true):=by
 refine Pure.of rfl y9e rfl rfl rfl rfl rfl fun D B clk T hB hT=> ?_
 have e0:∀ k:Nat,decide ((0:Int)≤(k:Int))=true:=fun k=>by rw[r8];omega
 have e1:∀ k:Nat,1≤k→decide ((1:Int)≤(k:Int))=true:=fun k h=>by rw[r8];omega
 cases hn with
 | bool h=>rcases h with rfl | rfl <;> (simp only[go_sem,q1s,nat,bare,z9,z7,decide_true,decide_false];rw[z0e];exact hT _)
 | int h=>simp only[go_sem,q1s,nat,z9,z7,decide_true,decide_false];rw[z0e];exact hT _
 | real h=>simp only[go_sem,q1s,nat,z9,z7,decide_true,decide_false];rw[z0e];exact hT _
 | var h=>simp only[go_sem,q1s,nat,z9,z7,decide_true,decide_false];rw[z0e];exact hT _
 | not=>simp only[go_sem,q1s,nat,bare,z9,z7,decide_true,decide_false];rw[z0e];exact hT _
 | andor h=>rcases h with rfl | rfl <;> (simp only[go_sem,q1s,nat,bare,z9,z7,decide_true,decide_false,e0];rw[z0e];exact hT _)
 | imp=>simp only[go_sem,q1s,nat,bare,z9,z7,decide_true,decide_false];rw[z0e];exact hT _
 | ite h1 h2=>simp only[go_sem,q1s,nat,bare,z9,z7,decide_true,decide_false];rw[z0e];exact hT _
 | eq h1 h2=>simp only[go_sem,q1s,nat,bare,z9,z7,decide_true,decide_false];rw[z0e];exact hT _
 | cmp h hs=>rcases h with rfl | rfl <;> (simp only[go_sem,q1s,nat,bare,z9,z7,decide_true,decide_false];rw[z0e];exact hT _)
 | add h hs=>simp only[go_sem,q1s,nat,bare,z9,z7,decide_true,decide_false,e1 _ h];rw[z0e];exact hT _
 | mul hs hn=>simp only[go_sem,q1s,nat,bare,z9,z7,decide_true,decide_false];rw[z0e];exact hT _
 | div h h1 h2=>rcases h with rfl | rfl <;> (simp only[go_sem,q1s,nat,z9,z7,decide_true,decide_false];rw[z0e];exact hT _)
 | select=>simp only[go_sem,q1s,nat,bare,z9,z7,decide_true,decide_false];rw[z0e];exact hT _
 | store=>simp only[go_sem,q1s,nat,bare,z9,z7,decide_true,decide_false];rw[z0e];exact hT _
 | const=>simp only[go_sem,q1s,nat,bare,z9,z7,decide_true,decide_false];rw[z0e];exact hT _
theorem w0x {V:List Var} {n:Node} {ss:List Nat} {s fi:Nat} {ks:Term} {u:Tip} (hn:NodeOk V n ss s ks) (hl:ss.length≤2 ^ 20) (hf:n.op=15→fi=3):Pure Gam 268 [eNode n,nat fi, .sl (ss.map nat) u] (nat s):=by
 refine Pure.of rfl y9f rfl rfl rfl (az:=[eNode n,nat fi, .sl (ss.map nat) .no]) rfl (by simp[z0i,AV.ids,z0d (fun _=>z3f),z3f,eNode]) fun D B clk T hB hT=> ?_
 have sm:∀ (x o:Nat),(∀ y∈ss,y=x)→Pure Gam 302 [.sl (ss.map nat) .no, .int .i64 (x:Int), .int .i64 (o:Int)] (.int .i64 (o:Int)):=fun x o h=>w0v hl h
 cases hn with
 | bool h=>rcases h with rfl | rfl <;> (simp only[go_sem,q1t,hB,eNode,nat,bare,z9,z7,decide_true,decide_false];rw[z0h rfl rfl];exact hT _)
 | int h=>simp only[go_sem,q1t,hB,eNode,nat,z9,z7,decide_true,decide_false];rw[z0h rfl rfl];exact hT _
 | real h=>simp only[go_sem,q1t,hB,eNode,nat,z9,z7,decide_true,decide_false];rw[z0h rfl rfl];exact hT _
 | var h=>simp only[go_sem,q1t,hB,eNode,nat,z9,z7,decide_true,decide_false];rw[z0h rfl rfl];exact hT _
 | not=>
   have p:=sm 1 1 (by simp)
   simp only[j4,k8,nat,z9] at p
   simp only[go_sem,q1t,hB,eNode,nat,bare,z9,z7,decide_true,decide_false,z0a p];rw[z0h rfl rfl];exact hT _
 | andor h=>
   have p:=sm 1 1 (by simp)
   simp only[List.map_replicate,nat,z9] at p
   rcases h with rfl | rfl <;> (simp only[go_sem,q1t,hB,eNode,nat,bare,z9,z7,decide_true,decide_false,List.map_replicate,z0a p];rw[z0h rfl rfl];exact hT _)
 | imp=>
   have p:=sm 1 1 (by simp)
   simp only[j4,k8,nat,z9] at p
   simp only[go_sem,q1t,hB,eNode,nat,bare,z9,z7,decide_true,decide_false,z0a p];rw[z0h rfl rfl];exact hT _
 | @ite s ks h1 h2=>simp only[go_sem,q1t,hB,eNode,nat,bare,z9,z7,decide_true,decide_false,z2h,q0b,x0i];rw[z0h rfl rfl];exact hT _
 | @eq s ks h1 h2=>
   have p:=sm s 1 (by simp)
   simp only[j4,k8,nat,z9] at p
   simp only[go_sem,q1t,hB,eNode,nat,bare,z9,z7,decide_true,decide_false,z2h,z0a p];rw[z0h rfl rfl];exact hT _
 | @cmp o s ks h hs=>
   have p:=sm s 1 (by simp)
   have q:=k2w (n:=s)
   rw[show decide (s=2∨s=3)=true from decide_eq_true hs] at q
   simp only[j4,k8,nat,z9] at p q
   rcases h with rfl | rfl <;> (simp only[go_sem,q1t,hB,eNode,nat,bare,z9,z7,decide_true,decide_false,z2h,z0a q,z0a p];rw[z0h rfl rfl];exact hT _)
 | @add k s ks h hs=>
   obtain⟨k,rfl⟩:∃ j,k=j + 1:=⟨k - 1,by omega⟩
   have p:=sm s s (by simp)
   have q:=k2w (n:=s)
   rw[show decide (s=2∨s=3)=true from decide_eq_true hs] at q
   simp only[p8,j4,List.map_replicate,nat,z9] at p q
   simp only[go_sem,q1t,hB,eNode,nat,bare,z9,z7,decide_true,decide_false,p8,j4,List.map_replicate,z2h,z0a q,z0a p];rw[z0h rfl rfl];exact hT _
 | @mul s m ks hs hm=>
   have p:=sm s s (by simp)
   obtain rfl:=hf rfl
   simp only[j4,k8,nat,z9] at p
   simp only[go_sem,q1t,hB,eNode,nat,bare,z9,z7,decide_true,decide_false,z2h,z0a p];rw[z0h rfl rfl];exact hT _
 | @div o k ks h h1 h2=>
   have p:=sm 2 2 (by simp)
   simp only[j4,k8,nat,z9] at p
   rcases h with rfl | rfl <;> (simp only[go_sem,q1t,hB,eNode,nat,bare,z9,z7,decide_true,decide_false,z0a p];rw[z0h rfl rfl];exact hT _)
 | select=>simp only[go_sem,q1t,hB,eNode,nat,bare,z9,z7,decide_true,decide_false,z2h,q0b];rw[z0h rfl rfl];exact hT _
 | store=>simp only[go_sem,q1t,hB,eNode,nat,bare,z9,z7,decide_true,decide_false,z2h,q0b,x0i];rw[z0h rfl rfl];exact hT _
 | const=>
   have p:=sm 2 4 (by simp)
   simp only[j4,k8,nat,z9] at p
   simp only[go_sem,q1t,hB,eNode,nat,bare,z9,z7,decide_true,decide_false,z0a p];rw[z0h rfl rfl];exact hT _
theorem x3k {B clk g4:Nat} {D:List AObj} {o0:AObj} {neg:Bool} {A R:List Nat} {v0:AV} {ts:Tmps} {ks:List Kf} {Q:Post} (hd:∀ c∈A,48≤c∧c≤57) (hl:A.length≤100000000) (hB:D.length=B) (h0:ts 0=v0) (h4:ts 4= .ptr (B + 1) g4 0 0) (h5:ts 5= .str (A++47::R)) (h6:ts 6= .int .i64 0) {g2:Nat} (h2:ts 2= .ptr (B + 0) g2 0 0)
  (hQ:∀ (ts':Tmps) (clk':Nat),ts' 0=v0→ts' 2= .ptr (B + 0) g2 0 0→ts' 4= .ptr (B + 1) g4 0 0→ts' 5= .str A→K Gam B (.exit 0) ks ⟨ts',D++[o0, .blk g4 [.agg [.bool neg, .str [], .str R]] false false 0],clk'⟩ Q):K Gam B (.loop q7e) ks ⟨ts,D++[o0, .blk g4 [.agg [.bool neg, .str [], .str [49]]] false false 0],clk⟩ Q:=by
 refine z1f (fun m q=>∃ j:Nat,j≤A.length∧m=A.length - j∧q.ts 0=v0∧q.ts 2= .ptr (B + 0) g2 0 0∧q.ts 4= .ptr (B + 1) g4 0 0∧q.ts 5= .str (A++47::R)∧q.ts 6= .int .i64 (j:Int)∧q.h=D++[o0, .blk g4 [.agg [.bool neg, .str [], .str [49]]] false false 0]) A.length ⟨0,by omega,rfl,h0,h2,h4,h5,h6,rfl⟩ ?_
 clear h0 h2 h4 h5 h6
 rintro m ⟨ts,h,clk⟩ P ⟨j,hj,rfl,h0,h2,h4,h5,h6,rfl⟩ hn he hr
 dsimp only at h0 h2 h4 h5 h6
 have e1:decide ((j:Int) < ((A++47::R).length:Int))=true:=by rw[r8];simp;omega
 have e4:IntKind.i64.wrap ((j:Int) + 1)=((j + 1:Nat):Int):=z0c (by omega) (by omega)
 have hlt':j < (A++47::R).length:=by simp;omega
 by_cases hlt:j < A.length
 ·have hc:=hd A[j] (x8 hlt)
  have e0:(A++47::R)[j]=A[j]:=List.getElem_append_left hlt
  have e2:decide ((A[j]:Int)=47)=false:=by rw[n9];omega
  simp only[go_sem,h0,h2,h4,h5,h6,q7e,e1,q0s hlt',e0,e2,e4]
  exact hn (A.length - (j + 1)) _ (by omega) ⟨j + 1,hlt,rfl,h0,h2,h4,h5,rfl,rfl⟩
 ·obtain rfl:j=A.length:=by omega
  have e0:(A++47::R)[A.length]=47:=by simp
  have e5:∀ h,slV h none (.str (A++47::R)) (some (.int .i64 ((A.length + 1:Nat):Int))) none none=some (.str R,h):=fun h=>by
   have h1:(0:Int)≤(A.length:Int) + 1:=by omega
   have h2:(A++47::R).take (A.length + (R.length + 1))=A++47::R:=u0 (by simp)
   have h3:(A++47::R).drop (A.length + 1)=R:=by rw[←List.drop_drop,List.drop_left];rfl
   simp[slV,z2v,z4w,h1,h2,h3]
  have e6:∀ h,slV h none (.str (A++47::R)) none (some (.int .i64 (A.length:Int))) none=some (.str A,h):=fun h=>by simp[slV,z2v,z4w]
  simp only[go_sem,h0,h2,h4,h5,h6,q7e,e1,q0s hlt',e0,e4,e5,e6,hB,z1p,z9,decide_true]
  refine⟨by simp[z1r,apart,z0q,z1n,z1t,AOp.isCall,hB], ?_⟩
  refine he _ _ ?_
  exact hQ _ _ (by simp[z0b,h0]) (by simp[z0b,h2]) (by simp[z0b,h4]) (by simp[z0b,h5])
theorem j4x {z:Int} {d:Nat} (hl:(dec z.natAbs).length≤50000000) (h2:2≤d) (hld:(dec d).length≤50000000) (hg:j8 z.natAbs d=1):Pure Gam 165 [.str (z0f z++47::dec d)] (.tup [z9o (decide (z < 0)) z.natAbs d, .bool true]):=by
 have hdn:=z1d z.natAbs
 have hdne:=z7d z.natAbs
 have hdig:q7f (dec z.natAbs):=⟨hdne,hdn⟩
 have hdig2:q7f (dec d):=⟨z7d d,z1d d⟩
 have hz0:z.natAbs≠0:=fun h=>by rw[h,Nat.gcd_zero_left] at hg;omega
 have hp1:Pure Gam 207 [.str (dec d)] (.bool true):=q6e hdig2 (by omega)
 have hp2:Pure Gam 208 [.str (dec d)] (.str (dec d)):=by have:=q0t hdig2;rwa [z1h] at this
 have hp3:Pure Gam 208 [.str (dec z.natAbs)] (.str (dec z.natAbs)):=by have:=q0t hdig;rwa [z1h] at this
 have hp4:∀ neg:Bool,Pure Gam 230 [.bool neg, .str (dec z.natAbs), .str (dec d)] (z9o neg z.natAbs d):=fun neg=>by
  have:=q9z (neg:=neg) (a:=z.natAbs) (b:=d) (by omega) hl (by omega)
  rw[hg,Nat.div_one,Nat.div_one] at this
  simpa [hz0] using this
 have hp5:∀ neg:Bool,Pure Gam 231 [z9o neg z.natAbs d] (.str (z3g neg z.natAbs d)):=fun neg=>q6h hl (by omega)
 have e1:decide (dec d=[48])=false:=by rw[n9,q3w];omega
 have e2:decide (dec z.natAbs=dec z.natAbs)=true:=by simp
 have e2':decide (dec d=dec d)=true:=by simp
 have hd1:dec d≠[49]:=fun h=>by rw[x2t] at h;omega
 refine Pure.of rfl w9l rfl rfl rfl rfl rfl fun D B clk T hB hT=> ?_
 by_cases hz:z < 0
 ·have he:z0f z=45::dec z.natAbs:=by rw[z0f,if_pos hz]
  have hdz:decide (z < 0)=true:=by simp[hz]
  rw[he,List.cons_append]
  simp only[go_sem,k1t,hB,z1p,x6,z5s,z9,q9u,decide_true,decide_false,z7]
  refine⟨by simp[z1r,apart,z0q,z1n,z1t,AOp.isCall,hB], ?_⟩
  refine x3k (v0:= .str (45::(dec z.natAbs++47::dec d))) hdn (by omega) hB rfl rfl rfl rfl rfl ?_
  intro ts2 clk2 q0 q2 q4 q5
  have e3:decide (z3g true z.natAbs d=45::(dec z.natAbs++47::dec d))=true:=by rw[r8];simp[z3g];omega
  simp only[go_sem,q0,q2,q4,q5,hB,z1p,z0a (q6e hdig (by omega)),z0a hp1,z0a hp2,z0a hp3,z0a (hp4 true),z0a (hp5 true),e1,e2,e2',e3,z8,x6,decide_true,decide_false]
  refine⟨by simp[z1r,apart,z0q,z1n,z1t,AOp.isCall,hB], ?_⟩
  rw[z0h rfl rfl]
  rw[hdz] at hT
  exact hT _
 ·have he:z0f z=dec z.natAbs:=by rw[z0f,if_neg hz]
  have hdz:decide (z < 0)=false:=by simp[hz]
  rw[he]
  obtain⟨c,t,hct⟩:=List.exists_cons_of_ne_nil hdne
  have hc:=hdn c (by rw[hct];exact j7)
  have e0:decide (dec z.natAbs++47::dec d=[])=false:=by simp
  have e00:∀ h k,q3t h (.str (dec z.natAbs++47::dec d)) (.int k 0)=some (.int .u8 (c:Int),h):=fun h k=>by rw[hct];exact z5s
  have ec:decide ((c:Int)=45)=false:=by rw[n9];omega
  simp only[go_sem,k1t,hB,z1p,x6,e0,e00,ec,z9,decide_true,decide_false,z7]
  refine x3k (v0:= .str (dec z.natAbs++47::dec d)) hdn (by omega) hB rfl rfl rfl rfl rfl ?_
  intro ts2 clk2 q0 q2 q4 q5
  have e3:decide (z3g false z.natAbs d=dec z.natAbs++47::dec d)=true:=by rw[r8];simp[z3g];omega
  simp only[go_sem,q0,q2,q4,q5,hB,z1p,z0a (q6e hdig (by omega)),z0a hp1,z0a hp2,z0a hp3,z0a (hp4 false),z0a (hp5 false),e1,e2,e2',e3,z8,x6,decide_true,decide_false]
  refine⟨by simp[z1r,apart,z0q,z1n,z1t,AOp.isCall,hB], ?_⟩
  rw[z0h rfl rfl]
  rw[hdz] at hT
  exact hT _
structure Qn where
 neg:Bool
 n:Nat
 d:Nat
def Qn.text (q:Qn):List Nat:=z3g q.neg q.n q.d
structure Qn.C (q:Qn):Prop where
 neg:q.neg=true→q.n≠0
 pos:0 < q.d
 red:j8 q.n q.d=1
def q2e (neg:Bool) (a b:Nat):Qn:=⟨neg && !decide (a / j8 a b=0),a / j8 a b,b / j8 a b⟩
theorem j4y {neg:Bool} {a b:Nat} (hb:0 < b):(q2e neg a b).C:=by
 have hg:0 < j8 a b:=Nat.gcd_pos_of_pos_right _ hb
 refine⟨fun h=> ?_,Nat.div_pos (Nat.gcd_le_right a hb) hg,by simp only[q2e];rw[Nat.gcd_div (Nat.gcd_dvd_left a b) (Nat.gcd_dvd_right a b),Nat.div_self hg]⟩
 simp only[q2e,Bool.and_eq_true,Bool.not_eq_true',n9] at h
 exact h.2
theorem j4z {neg:Bool} {a:Nat}:q2e neg a 1=⟨neg && !decide (a=0),a,1⟩:=by simp[q2e]
def z3j (z:Int):Qn:=⟨decide (z < 0),z.natAbs,1⟩
theorem q7i {z:Int}:(z3j z).C:=⟨by simp[z3j];omega,by simp[z3j],by simp[z3j]⟩
theorem z1x {z:Int}:(z3j z).text=z0f z:=(j4i z).symm
def j8e (x:Qn):Qn:=⟨!x.neg && !decide (x.n=0),x.n,x.d⟩
theorem v3o {x:Qn} (h:x.C):(j8e x).C:=⟨by simp[j8e],h.pos,h.red⟩
def k2x (x y:Qn):Qn:=q2e (!(x.neg==y.neg)) (x.n * y.n) (x.d * y.d)
def x9b (x y:Qn):Qn:=if x.neg=y.neg then q2e x.neg (x.n * y.d + y.n * x.d) (x.d * y.d) else if y.n * x.d≤x.n * y.d then q2e x.neg (x.n * y.d - y.n * x.d) (x.d * y.d) else q2e y.neg (y.n * x.d - x.n * y.d) (x.d * y.d)
def k4l (x y:Qn):Qn:=x9b x (j8e y)
theorem v3p {x y:Qn} (hx:x.C) (hy:y.C):(k2x x y).C:=j4y (Nat.mul_pos hx.pos hy.pos)
theorem k2y {x y:Qn} (hx:x.C) (hy:y.C):(x9b x y).C:=by
 have h:=Nat.mul_pos hx.pos hy.pos
 unfold x9b
 split
 ·exact j4y h
 ·split <;> exact j4y h
theorem x5s {a b:Int}:k2x (z3j a) (z3j b)=z3j (a * b):=by
 simp only[k2x,z3j,Nat.mul_one,j4z,Int.natAbs_mul,Qn.mk.injEq,and_true]
 rcases Int.lt_trichotomy a 0 with ha | ha | ha <;> rcases Int.lt_trichotomy b 0 with hb | hb | hb
 ·have:=Int.mul_pos_of_neg_of_neg ha hb
  have h1:¬ a * b < 0:=by omega
  simp[ha,hb,h1]
 ·subst hb;simp
 ·have:=Int.mul_neg_of_neg_of_pos ha hb
  have h1:¬ b < 0:=by omega
  have h2:a≠0:=by omega
  have h3:b≠0:=by omega
  have h4:¬ a.natAbs * b.natAbs=0:=Nat.mul_ne_zero (by omega) (by omega)
  simp[ha,this,h1,h4]
 ·subst ha;simp
 ·subst ha;simp
 ·subst ha;simp
 ·have:=Int.mul_neg_of_pos_of_neg ha hb
  have h1:¬ a < 0:=by omega
  have h2:a≠0:=by omega
  have h3:b≠0:=by omega
  have h4:¬ a.natAbs * b.natAbs=0:=Nat.mul_ne_zero (by omega) (by omega)
  simp[hb,this,h1,h4]
 ·subst hb;simp
 ·have:=Int.mul_pos ha hb
  have h1:¬ a * b < 0:=by omega
  have h2:¬ a < 0:=by omega
  have h3:¬ b < 0:=by omega
  simp[h1,h2,h3]
theorem k9d {a:Int}:j8e (z3j a)=z3j (-a):=by
 simp only[j8e,z3j,Int.natAbs_neg,Qn.mk.injEq,and_true]
 by_cases h:a < 0
 ·have:¬ -a < 0:=by omega
  simp[h]
  omega
 ·by_cases h0:a=0
  ·subst h0;simp
  ·have: -a < 0:=by omega
   simp[h,h0]
   omega
theorem x5t {a b:Int}:x9b (z3j a) (z3j b)=z3j (a + b):=by
 simp only[x9b,z3j,Nat.mul_one,j4z]
 by_cases ha:a < 0 <;> by_cases hb:b < 0 <;> simp only[ha,hb,decide_true,decide_false,reduceCtorEq,if_true,if_false]
 ·have h1:a + b < 0:=by omega
  have h2:a.natAbs + b.natAbs=(a + b).natAbs:=by omega
  have h3:(a + b).natAbs≠0:=by omega
  simp[h1,h2,h3]
 ·split
  ·have h2:a.natAbs - b.natAbs=(a + b).natAbs:=by omega
   rw[h2]
   by_cases h1:a + b < 0 <;> simp[h1] <;> omega
  ·have h2:b.natAbs - a.natAbs=(a + b).natAbs:=by omega
   rw[h2]
   have h1:¬ a + b < 0:=by omega
   simp[h1]
 ·split
  ·have h2:a.natAbs - b.natAbs=(a + b).natAbs:=by omega
   rw[h2]
   have h1:¬ a + b < 0:=by omega
   simp[h1]
  ·have h2:b.natAbs - a.natAbs=(a + b).natAbs:=by omega
   rw[h2]
   have h1:a + b < 0:=by omega
   simp[h1];omega
 ·have h1:¬ a + b < 0:=by omega
  have h2:a.natAbs + b.natAbs=(a + b).natAbs:=by omega
  simp[h1,h2]
structure Qn.L (q:Qn) (N D:Nat):Prop where
 n:(dec q.n).length≤N
 d:(dec q.d).length≤D
theorem z9m {n k:Nat} (hk:0 < k):(dec n).length≤k↔n < 10 ^ k:=by
 refine⟨fun h=> ?_,z6q hk⟩
 have h1:=z4k (s:=dec n) (z1d n)
 rw[z1h] at h1
 exact Nat.lt_of_lt_of_le h1 (Nat.pow_le_pow_right (by omega) h)
theorem x0t (n:Nat):0 < (dec n).length:=List.length_pos_iff.2 (z7d n)
theorem z6b {a b A B:Nat} (ha:(dec a).length≤A) (hb:(dec b).length≤B):(dec (a * b)).length≤A + B:=by
 have h1:=x0t a
 have h2:=x0t b
 have ha':=(z9m (by omega)).1 ha
 have hb':=(z9m (by omega)).1 hb
 refine (z9m (by omega)).2 ?_
 rw[Nat.pow_add]
 exact Nat.mul_lt_mul'' ha' hb'
theorem x5u {a b A:Nat} (ha:(dec a).length≤A) (hb:(dec b).length≤A):(dec (a + b)).length≤A + 1:=by
 have h1:=x0t a
 have ha':=(z9m (by omega)).1 ha
 have hb':=(z9m (by omega)).1 hb
 refine (z9m (by omega)).2 ?_
 rw[Nat.pow_succ]
 omega
theorem j1r {a b A:Nat} (ha:(dec a).length≤A):(dec (a / b)).length≤A:=j1 (z4o (Nat.div_le_self a b)) ha
theorem x5v {a b A:Nat} (ha:(dec a).length≤A):(dec (a - b)).length≤A:=j1 (z4o (Nat.sub_le a b)) ha
theorem q7j {neg:Bool} {a b N D:Nat} (ha:(dec a).length≤N) (hb:(dec b).length≤D):(q2e neg a b).L N D:=⟨j1r ha,j1r hb⟩
theorem y2u {x y:Qn} {N D N' D':Nat} (hx:x.L N D) (hy:y.L N' D'):(k2x x y).L (N + N') (D + D'):=q7j (z6b hx.n hy.n) (z6b hx.d hy.d)
theorem v3q {x y:Qn} {N D N' D' M:Nat} (hx:x.L N D) (hy:y.L N' D') (h1:N + D'≤M) (h2:N' + D≤M):(x9b x y).L (M + 1) (D + D'):=by
 have a1:=j1 (z6b hx.n hy.d) h1
 have a2:=j1 (z6b hy.n hx.d) h2
 have a3:=z6b hx.d hy.d
 unfold x9b
 split
 ·exact q7j (x5u a1 a2) a3
 ·split
  ·exact q7j (x5v (Nat.le_succ_of_le a1)) a3
  ·exact q7j (x5v (Nat.le_succ_of_le a2)) a3
theorem y2v {x:Qn} {N D:Nat} (h:x.L N D):(j8e x).L N D:=⟨h.n,h.d⟩
section
inductive Val where
 | bool (b:Bool)
 | num (s:Nat) (q:Qn)
 | arr (z:Int) (l:List (Int×Int))
def Val.b:Val→Bool
 | .bool b=>b
 | _=>false
def Val.s:Val→Nat
 | .bool _=>1
 | .num s _=>s
 | .arr _ _=>4
def Val.q:Val→Qn
 | .num _ q=>q
 | .arr z _=>z3j z
 | .bool _=>z3j 0
def Val.t:Val→List Nat
 | .num _ q=>q.text
 | .arr z _=>z0f z
 | .bool _=>[]
def Val.l:Val→List (Int×Int)
 | .arr _ l=>l
 | _=>[]
def eV (v:Val):AV:=value v.s v.b v.t (z3b (v.l.map fun p=>z0f p.1)) (z3b (v.l.map fun p=>z0f p.2))
def Qn.z (q:Qn):Int:=if q.neg then -(q.n:Int) else q.n
theorem Qn.int {q:Qn} (h:q.C) (hd:q.d=1):q=z3j q.z:=by
 obtain⟨neg,n,d⟩:=q
 dsimp only at hd
 subst hd
 have:=h.neg
 cases neg
 ·simp[z3j,Qn.z]
 ·simp[z3j,Qn.z] at *;omega
theorem Qn.z_len {q:Qn}:q.z.natAbs=q.n:=by
 unfold Qn.z
 split <;> omega
def VOk (m s:Nat):Val→Prop
 | .bool _=>s=1
 | .num t q=>s=t∧(t=2∨t=3)∧q.C∧q.L (50 * m) (4 * m)∧(t=2→q.d=1)
 | .arr z l=>s=4∧(dec z.natAbs).length≤50 * m∧l.Pairwise (fun p q=>p.1 < q.1)∧(∀ p∈l,p.2≠z∧(dec p.1.natAbs).length≤50 * m∧(dec p.2.natAbs).length≤50 * m)∧l.length≤m
theorem Qn.L.up {q:Qn} {N D N' D':Nat} (h:q.L N D) (h1:N≤N') (h2:D≤D'):q.L N' D':=⟨j1 h.n h1,j1 h.d h2⟩
theorem VOk.up {m m' s:Nat} {v:Val} (h:VOk m s v) (hm:m≤m'):VOk m' s v:=by
 cases v with
 | bool b=>exact h
 | num t q=>exact⟨h.1,h.2.1,h.2.2.1,h.2.2.2.1.up (by omega) (by omega),h.2.2.2.2⟩
 | arr z l=>exact⟨h.1,by have:=h.2.1;omega,h.2.2.1,fun p hp=>⟨(h.2.2.2.1 p hp).1,by have:=(h.2.2.2.1 p hp).2.1;omega,by have:=(h.2.2.2.1 p hp).2.2;omega⟩,by have:=h.2.2.2.2;omega⟩
theorem VOk.s {m s:Nat} {v:Val} (h:VOk m s v):v.s=s:=by
 cases v with
 | bool b=>exact h.symm
 | num t q=>exact h.1.symm
 | arr z l=>exact h.1.symm
theorem VOk.bool {m:Nat} {v:Val} (h:VOk m 1 v):∃ b,v= .bool b:=by
 cases v with
 | bool b=>exact⟨b,rfl⟩
 | num t q=>have h1:=h.1;have h2:=h.2.1;omega
 | arr z l=>have h1:=h.1;omega
theorem VOk.numb {m s:Nat} {v:Val} (h:VOk m s v) (hs:s=2∨s=3):∃ q,v= .num s q∧q.C∧q.L (50 * m) (4 * m)∧(s=2→q.d=1):=by
 cases v with
 | bool b=>have h1:s=1:=h;omega
 | num t q=>
   obtain⟨rfl,_,h1,h2,h3⟩:=h
   exact⟨q,rfl,h1,h2,h3⟩
 | arr z l=>have h1:=h.1;omega
theorem VOk.int {m:Nat} {v:Val} (h:VOk m 2 v):∃ z:Int,v= .num 2 (z3j z)∧(dec z.natAbs).length≤50 * m:=by
 obtain⟨q,rfl,h1,h2,h3⟩:=h.numb (.inl rfl)
 refine⟨q.z,by rw[←Qn.int h1 (h3 rfl)],by rw[Qn.z_len];exact h2.n⟩
theorem VOk.of_int {m:Nat} {z:Int} (hm:1≤m) (h:(dec z.natAbs).length≤50 * m):VOk m 2 (.num 2 (z3j z)):=⟨rfl, .inl rfl,q7i,⟨h,by show (dec 1).length≤4 * m;rw[z2e];simp;omega⟩,fun _=>rfl⟩
theorem VOk.array {m:Nat} {v:Val} (h:VOk m 4 v):∃ z l,v= .arr z l:=by
 cases v with
 | bool b=>have h1:4=1:=h;omega
 | num t q=>have h1:=h.1;have h2:=h.2.1;omega
 | arr z l=>exact⟨z,l,rfl⟩
inductive VsOk:List Nat→Nat→List Val→Prop
 | nil {M:Nat}:VsOk [] M []
 | cons {m M s:Nat} {ss:List Nat} {v:Val} {vs:List Val} (h:VOk m s v) (hr:VsOk ss M vs):VsOk (s::ss) (m + M) (v::vs)
theorem VsOk.len {ss:List Nat} {M:Nat} {vs:List Val} (h:VsOk ss M vs):vs.length=ss.length:=by
 induction h with
 | nil=>rfl
 | cons h hr ih=>simp[ih]
noncomputable section
open Classical
def k2z (s:Nat) (a:List Nat):Qn:=if h:∃ q:Qn,q.C∧q.text=a∧q.L 45 1∧(s=2→q.d=1) then h.choose else z3j 0
theorem x0u {s:Nat} {a:List Nat} (h:∃ q:Qn,q.C∧q.text=a∧q.L 45 1∧(s=2→q.d=1)):(k2z s a).C∧(k2z s a).text=a∧(k2z s a).L 45 1∧(s=2→(k2z s a).d=1):=by
 unfold k2z
 rw[dif_pos h]
 exact h.choose_spec
def atA (z:Int) (l:List (Int×Int)) (i:Int):Int:=((l.find? fun p=>decide (p.1=i)).map (·.2)).getD z
def j1s (z:Int) (l:List (Int×Int)) (i w:Int):List (Int×Int):=(l.filter fun p=>decide (p.1 < i))++((if w=z then [] else [(i,w)])++l.filter fun p=>decide (i < p.1))
def ltQ (x y:Qn):Bool:=(k4l x y).neg
def leQ (x y:Qn):Bool:=(k4l x y).neg || decide ((k4l x y).n=0)
def at0 (vs:List Val) (i:Nat):Val:=vs.getD i (.bool false)
def k9e (env:List (List Nat×Val)) (n:List Nat):Val:=((env.find? fun p=>decide (p.1=n)).map (·.2)).getD (.bool false)
def q6o (a b:Val):Bool:=decide (a.s=b.s) && (decide (a.b=b.b) && (decide (a.t=b.t) && (decide ((a.l.map fun p=>z0f p.1)=b.l.map fun p=>z0f p.1) && decide ((a.l.map fun p=>z0f p.2)=b.l.map fun p=>z0f p.2))))
def nodeF (env:List (List Nat×Val)) (n:Node) (vs:List Val):Val:=
 if n.op=1∨n.op=2 then .bool (decide (n.op=1))
 else if n.op=3 then .num n.sort (k2z n.sort n.num)
 else if n.op=4 then k9e env n.name
 else if n.op=6 then .bool (!(at0 vs 0).b)
 else if n.op=7 then .bool (vs.all Val.b)
 else if n.op=8 then .bool (vs.any Val.b)
 else if n.op=9 then .bool (!(at0 vs 0).b || (at0 vs 1).b)
 else if n.op=10 then (if (at0 vs 0).b=true then at0 vs 1 else at0 vs 2)
 else if n.op=11 then .bool (q6o (at0 vs 0) (at0 vs 1))
 else if n.op=12 then .bool (leQ (at0 vs 0).q (at0 vs 1).q)
 else if n.op=13 then .bool (ltQ (at0 vs 0).q (at0 vs 1).q)
 else if n.op=14 then .num (at0 vs 0).s (vs.foldl (fun q v=>x9b q v.q) (z3j 0))
 else if n.op=15 then .num (at0 vs 0).s (k2x (at0 vs 0).q (at0 vs 1).q)
 else if n.op=16 then .num 2 (z3j ((at0 vs 0).q.z / (z1g n.num:Int)))
 else if n.op=17 then .num 2 (z3j ((at0 vs 0).q.z % (z1g n.num:Int)))
 else if n.op=18 then .num 2 (z3j (atA (at0 vs 0).q.z (at0 vs 0).l (at0 vs 1).q.z))
 else if n.op=19 then .arr (at0 vs 0).q.z (j1s (at0 vs 0).q.z (at0 vs 0).l (at0 vs 1).q.z (at0 vs 2).q.z)
 else .arr (at0 vs 0).q.z []
end
end
theorem VsOk.rep {k s M:Nat} {vs:List Val} (h:VsOk (x3 k s) M vs):∀ v∈vs,∃ m,VOk m s v∧m≤M:=by
 generalize hs:x3 k s=ss at h
 induction h generalizing k with
 | nil=>simp
 | @cons m M2 s' ss v vs h hr ih=>
   cases k with
   | zero=>simp at hs
   | succ k=>
     rw[p8,List.cons.injEq] at hs
     obtain⟨rfl,hs⟩:=hs
     intro w hw
     rcases List.mem_cons.1 hw with rfl | hw
     ·exact⟨m,h,by omega⟩
     ·obtain⟨m',h1,h2⟩:=ih hs w hw
      exact⟨m',h1,by omega⟩
theorem VsOk.one {s M:Nat} {vs:List Val} (h:VsOk [s] M vs):∃ v,vs=[v]∧VOk M s v:=by
 cases h with
 | @cons m M2 s ss v vs h hr=>
   cases hr
   exact⟨v,rfl,h.up (by omega)⟩
theorem VsOk.two {s t M:Nat} {vs:List Val} (h:VsOk [s,t] M vs):∃ v w m m',vs=[v,w]∧VOk m s v∧VOk m' t w∧m + m'=M:=by
 cases h with
 | @cons m M2 s ss v vs h hr=>
   obtain⟨w,rfl,hw⟩:=hr.one
   exact⟨v,w,m,M2,rfl,h,hw,rfl⟩
theorem VsOk.three {s t u M:Nat} {vs:List Val} (h:VsOk [s,t,u] M vs):∃ v w x m m' m'',vs=[v,w,x]∧VOk m s v∧VOk m' t w∧VOk m'' u x∧m + (m' + m'')=M:=by
 cases h with
 | @cons m M2 s ss v vs h hr=>
   obtain⟨w,x,m',m'',rfl,hw,hx,e⟩:=hr.two
   exact⟨v,w,x,m,m',m'',rfl,h,hw,hx,by omega⟩
def x3l (vs:List Val) (q:Qn):Qn:=vs.foldl (fun q v=>x9b q v.q) q
theorem k3a {s:Nat} (hs:s=2∨s=3):∀ {k M:Nat} {vs:List Val} {q:Qn} {P:Nat},VsOk (x3 k s) M vs→q.C→q.L (50 * P + 2) (4 * P + 1)→(s=2→q.d=1)→(x3l vs q).C∧(x3l vs q).L (50 * (P + M) + 2) (4 * (P + M) + 1)∧(s=2→(x3l vs q).d=1):=by
 intro k
 induction k with
 | zero=>
   intro M vs q P h h1 h2 h3
   cases h
   exact⟨h1,h2.up (by omega) (by omega),h3⟩
 | succ k ih=>
   intro M vs q P h h1 h2 h3
   rw[p8] at h
   cases h with
   | @cons m M2 s ss v vs h hr=>
     obtain⟨r,rfl,r1,r2,r3⟩:=h.numb hs
     have hm:1≤m:=by have:=r2.d;have:=x0t r.d;omega
     have:=ih (q:=x9b q r) (P:=P + m) hr (k2y h1 r1) ((v3q (M:=50 * (P + m) + 1) h2 r2 (by omega) (by omega)).up (by omega) (by omega)) (fun h=>by
      rw[Qn.int h1 (h3 h),Qn.int r1 (r3 h),x5t]
      rfl)
     rw[show P + (m + M2)=P + m + M2 by omega]
     exact this
theorem z8u {z:Int}:(z3j z).z=z:=by
 unfold Qn.z z3j
 by_cases h:z < 0 <;> simp[h] <;> omega
theorem j5a {l:List (Int×Int)} {z i:Int}:atA z l i=z∨∃ p∈l,atA z l i=p.2:=by
 unfold atA
 cases h:l.find? (fun p=>decide (p.1=i)) with
 | none=>exact .inl rfl
 | some p=>exact .inr ⟨p,List.mem_of_find?_eq_some h,rfl⟩
theorem v3r {z i w:Int} {l:List (Int×Int)} {A:Nat} (hl:l.Pairwise (fun p q=>p.1 < q.1)) (hp:∀ p∈l,p.2≠z∧(dec p.1.natAbs).length≤A∧(dec p.2.natAbs).length≤A) (hi:(dec i.natAbs).length≤A) (hw:(dec w.natAbs).length≤A):
  (j1s z l i w).Pairwise (fun p q=>p.1 < q.1)∧(∀ p∈j1s z l i w,p.2≠z∧(dec p.1.natAbs).length≤A∧(dec p.2.natAbs).length≤A)∧(j1s z l i w).length≤l.length + 1:=by
 unfold j1s
 refine⟨?_, ?_, ?_⟩
 ·rw[List.pairwise_append]
  refine⟨hl.sublist List.filter_sublist, ?_, ?_⟩
  ·rw[List.pairwise_append]
   refine⟨by split <;> simp,hl.sublist List.filter_sublist, ?_⟩
   intro a ha b hb
   have h2:=of_decide_eq_true (m0.1 hb).2
   split at ha
   ·simp at ha
   ·rw[y3] at ha
    rw[ha];exact h2
  ·intro a ha b hb
   have h1:=of_decide_eq_true (m0.1 ha).2
   rcases x4.1 hb with hb | hb
   ·split at hb
    ·simp at hb
    ·rw[y3] at hb
     rw[hb];exact h1
   ·have h2:=of_decide_eq_true (m0.1 hb).2
    omega
 ·intro p h
  rcases x4.1 h with h | h
  ·exact hp p (m0.1 h).1
  ·rcases x4.1 h with h | h
   ·split at h
    ·simp at h
    ·rename_i hne
     rw[y3] at h
     rw[h];exact⟨hne,hi,hw⟩
   ·exact hp p (m0.1 h).1
 ·have key:∀ l:List (Int×Int),(l.filter fun p=>decide (p.1 < i)).length + (l.filter fun p=>decide (i < p.1)).length≤l.length:=by
   intro l
   induction l with
   | nil=>simp
   | cons a l ih=>
     simp only[List.filter_cons]
     by_cases h1:a.1 < i
     ·have h2:¬ i < a.1:=by omega
      simp[h1,h2];omega
     ·by_cases h2:i < a.1 <;> simp[h1,h2] <;> omega
  have:=key l
  simp only[k7]
  split <;> simp <;> omega
def q7n (K:Nat) (V:List Var) (env:List (List Nat×Val)):Prop:=1≤K∧∀ v∈V,∃ w,env.find? (fun p=>decide (p.1=v.name))=some (v.name,w)∧VOk K v.sort w
theorem x0v {s:Nat} {a:List Nat} (h:IntS a):∃ q:Qn,q.C∧q.text=a∧q.L 45 1∧(s=2→q.d=1):=by
 obtain⟨z,rfl,hz⟩:=h
 exact⟨z3j z,q7i,z1x,⟨j1 (z6q (k:=40) (by omega) hz) (by omega),by show (dec 1).length≤1;rw[z2e];simp⟩,fun _=>rfl⟩
theorem q7v {a:List Nat} (h:RatS a):∃ q:Qn,q.C∧q.text=a∧q.L 45 1∧(3=2→q.d=1):=by
 rcases h with h | ⟨z,d,rfl,hz,h2,h4,hg⟩
 ·obtain⟨q,h1,h2,h3,_⟩:=x0v (s:=3) h
  exact⟨q,h1,h2,h3,fun h=>by omega⟩
 ·have hz0:z.natAbs≠0:=fun h=>by rw[h,Nat.gcd_zero_left] at hg;omega
  refine⟨⟨decide (z < 0),z.natAbs,d⟩,⟨fun _=>hz0,by show 0 < d;omega,hg⟩, ?_,⟨j1 (z6q (k:=40) (by omega) hz) (by omega),by show (dec d).length≤1;rw[z6p (by omega)];simp⟩,fun h=>by omega⟩
  have hd:d≠1:=by omega
  simp only[Qn.text,z3g,if_neg hd,z0f]
  by_cases h:z < 0 <;> simp[h]
theorem k9f {K:Nat} {V:List Var} {env:List (List Nat×Val)} {n:Node} {ss:List Nat} {s M:Nat} {ks:Term} {vs:List Val} (he:q7n K V env) (hn:NodeOk V n ss s ks) (hv:VsOk ss M vs):VOk (M + K) s (nodeF env n vs):=by
 obtain⟨hK,he⟩:=he
 have l45:∀ {a:List Nat} {s:Nat},(∃ q:Qn,q.C∧q.text=a∧q.L 45 1∧(s=2→q.d=1))→s=2∨s=3→VOk (M + K) s (.num s (k2z s a)):=fun h hs=>by
  obtain⟨h1,_,h3,h4⟩:=x0u h
  exact⟨rfl,hs,h1,h3.up (by omega) (by omega),h4⟩
 cases hn with
 | bool h=>rcases h with rfl | rfl <;> simp[nodeF,bare,VOk]
 | int h=>simpa [nodeF] using l45 (x0v h) (.inl rfl)
 | real h=>simpa [nodeF] using l45 (q7v h) (.inr rfl)
 | @var v ks h=>
   obtain⟨w,hw,hok⟩:=he v h
   have:nodeF env ⟨4,v.sort,v.name,[],0⟩ vs=w:=by simp[nodeF,k9e,hw]
   rw[this]
   exact hok.up (by omega)
 | not=>simp[nodeF,bare,VOk]
 | andor h=>rcases h with rfl | rfl <;> simp[nodeF,bare,VOk]
 | imp=>simp[nodeF,bare,VOk]
 | ite h1 h2=>
   obtain⟨v,w,x,m,m',m'',rfl,hu,hw,hx,e⟩:=hv.three
   by_cases hb:v.b=true
   ·simpa [nodeF,bare,at0,hb] using hw.up (by omega)
   ·simpa [nodeF,bare,at0,hb] using hx.up (by omega)
 | eq h1 h2=>simp[nodeF,bare,VOk]
 | cmp h hs=>rcases h with rfl | rfl <;> simp[nodeF,bare,VOk]
 | @add k s ks h hs=>
   obtain⟨a1,a2,a3⟩:=k3a hs (q:=z3j 0) (P:=0) hv q7i ⟨by show (dec 0).length≤_;rw[z9f];simp,by show (dec 1).length≤_;rw[z2e];simp⟩ fun _=>rfl
   have h0:(at0 vs 0).s=s:=by
    have hl:=hv.len
    cases vs with
    | nil=>simp at hl;omega
    | cons v vs=>
      obtain⟨m,h1,_⟩:=hv.rep v j7
      exact h1.s
   have:nodeF env (bare 14 k) vs= .num s (x3l vs (z3j 0)):=by simp[nodeF,bare,h0,x3l]
   rw[this]
   exact⟨rfl,hs,a1,a2.up (by omega) (by omega),a3⟩
 | @mul s n ks hs hn=>
   obtain⟨v,w,m,m',rfl,hu,hw,e⟩:=hv.two
   obtain⟨q,rfl,q1,q2,q3⟩:=hu.numb hs
   obtain⟨r,rfl,r1,r2,r3⟩:=hw.numb hs
   have:nodeF env (bare 15 2) [.num s q, .num s r]= .num s (k2x q r):=by simp[nodeF,bare,at0,Val.s,Val.q]
   rw[this]
   refine⟨rfl,hs,v3p q1 r1,(y2u q2 r2).up (by omega) (by omega),fun h=> ?_⟩
   rw[Qn.int q1 (q3 h),Qn.int r1 (r3 h),x5s]
   rfl
 | @div o k ks h h1 h2=>
   obtain⟨v,rfl,hu⟩:=hv.one
   obtain⟨z,rfl,hz⟩:=hu.int
   rcases h with rfl | rfl
   ·have:nodeF env ⟨16,0,[],dec k,1⟩ [.num 2 (z3j z)]= .num 2 (z3j (z / (k:Int))):=by simp[nodeF,at0,Val.q,z8u,z1h]
    rw[this]
    refine VOk.of_int (by omega) (j1 (z4o (Int.natAbs_ediv_le_natAbs z k)) (by omega))
   ·have:nodeF env ⟨17,0,[],dec k,1⟩ [.num 2 (z3j z)]= .num 2 (z3j (z % (k:Int))):=by simp[nodeF,at0,Val.q,z8u,z1h]
    rw[this]
    have hk:(z % (k:Int)).natAbs < 10:=by
     have:=Int.emod_nonneg z (show (k:Int)≠0 by omega)
     have:=Int.emod_lt_of_pos z (show (0:Int) < k by omega)
     omega
    refine VOk.of_int (by omega) ?_
    rw[z6p hk]
    simp;omega
 | select=>
   obtain⟨v,w,m,m',rfl,hu,hw,e⟩:=hv.two
   obtain⟨z,l,rfl⟩:=hu.array
   obtain⟨i,rfl,hi⟩:=hw.int
   have:nodeF env (bare 18 2) [.arr z l, .num 2 (z3j i)]= .num 2 (z3j (atA z l i)):=by simp[nodeF,bare,at0,Val.q,Val.l,z8u]
   rw[this]
   refine VOk.of_int (by omega) ?_
   rcases j5a (z:=z) (l:=l) (i:=i) with e' | ⟨p,hp,e'⟩ <;> rw[e']
   ·have:=hu.2.1;omega
   ·have:=(hu.2.2.2.1 p hp).2.2;omega
 | store=>
   obtain⟨v,w,x,m,m',m'',rfl,hu,hw,hx,e⟩:=hv.three
   obtain⟨z,l,rfl⟩:=hu.array
   obtain⟨i,rfl,hi⟩:=hw.int
   obtain⟨j,rfl,hj⟩:=hx.int
   have:nodeF env (bare 19 3) [.arr z l, .num 2 (z3j i), .num 2 (z3j j)]= .arr z (j1s z l i j):=by simp[nodeF,bare,at0,Val.q,Val.l,z8u]
   rw[this]
   obtain⟨p1,p2,p3⟩:=v3r (A:=50 * (M + K)) hu.2.2.1 (fun p hp=>⟨(hu.2.2.2.1 p hp).1,by have:=(hu.2.2.2.1 p hp).2.1;omega,by have:=(hu.2.2.2.1 p hp).2.2;omega⟩) (show (dec i.natAbs).length≤_ by omega) (show (dec j.natAbs).length≤_ by omega)
   exact⟨rfl,by have:=hu.2.1;omega,p1,p2,by have:=hu.2.2.2.2;omega⟩
 | const=>
   obtain⟨v,rfl,hu⟩:=hv.one
   obtain⟨z,rfl,hz⟩:=hu.int
   have:nodeF env (bare 20 1) [.num 2 (z3j z)]= .arr z []:=by simp[nodeF,bare,at0,Val.q,z8u]
   rw[this]
   exact⟨rfl,by omega, .nil,by simp,by simp⟩
inductive Ev (env:List (List Nat×Val)):Term→List Val→Prop
 | nil:Ev env [] []
 | cons {n:Node} {ks rest:Term} {vs ws:List Val}:Ev env ks vs→n.kids=vs.length→Ev env rest ws→Ev env (n::(ks++rest)) (nodeF env n vs::ws)
section
variable {U:List Var} [UOk U]
theorem q0w {z:Int} (h:z.natAbs < 10 ^ 40):(dec z.natAbs).length≤50000000:=by
 have:=z4o (a:=z.natAbs) (b:=10 ^ 40) (by omega)
 have h2:(dec (10 ^ 40)).length=41:=by kernel_rfl
 omega
theorem k3b {a:List Nat} (h:IntS a):Pure Gam 102 [.str a] (.bool true):=by
 obtain⟨z,rfl,hz⟩:=h
 have hp:=q1u (q0w hz)
 rw[z9o,z2e] at hp
 refine Pure.of rfl y1a rfl rfl rfl rfl rfl fun D B clk T hB hT=> ?_
 simp only[go_sem,v9b,hB,z0a hp,decide_true]
 rw[z0e]
 exact hT _
theorem w0y {a:List Nat} (h:RatS a):Pure Gam 164 [.str a] (.bool true):=by
 rcases h with ⟨z,rfl,hz⟩ | ⟨z,d,rfl,hz,h2,h4,hg⟩
 ·have hp:=q1u (q0w hz)
  rw[z9o] at hp
  refine Pure.of rfl v9a rfl rfl rfl rfl rfl fun D B clk T hB hT=> ?_
  simp only[go_sem,k7p,hB,z0a hp]
  rw[z0e]
  exact hT _
 ·have hp:=j4x (q0w hz) h2 (by rw[z6p (by omega)];simp) hg
  rw[z9o] at hp
  refine Pure.of rfl v9a rfl rfl rfl rfl rfl fun D B clk T hB hT=> ?_
  simp only[go_sem,k7p,hB,z0a hp]
  rw[z0e]
  exact hT _
theorem w0z {k:Nat} (h1:1≤k) (h5:k≤5):Pure Gam 166 [.str (dec k)] (.int .i64 1):=by
 have e:z0f (k:Int)=dec k:=by rw[z0f,if_neg (by omega),u5]
 have hp:=q1u (z:=(k:Int)) (q0w (by simp;omega))
 rw[z9o,z2e,e,u5,show decide ((k:Int) < 0)=false by simp] at hp
 have e1:decide (dec k=[48])=false:=by rw[n9,q3w];omega
 refine Pure.of rfl y0w rfl rfl rfl rfl rfl fun D B clk T hB hT=> ?_
 simp only[go_sem,k1y,hB,z0a hp,e1,z8]
 rw[z0h rfl rfl]
 exact hT _
theorem k3c {v:Var} (hv:v∈U):Pure Gam 168 [.str v.name] (.bool true):=Pure.tab (tab:=j2m) rfl rfl (UOk.name2 v hv)
theorem w1a {V:List Var} {n:Node} {ss:List Nat} {s:Nat} {ks:Term} (hV:∀ v∈V,v∈U) (hn:NodeOk V n ss s ks):Pure Gam 266 [eNode n] (.bool true):=by
 refine Pure.of rfl y9d rfl rfl rfl rfl rfl fun D B clk T hB hT=> ?_
 cases hn with
 | bool h=>rcases h with rfl | rfl <;> (simp only[go_sem,x5c,hB,eNode,nat,bare,z9,z7,Int.reduceLE,decide_true,decide_false];rw[z0e];exact hT _)
 | int h=>simp only[go_sem,x5c,hB,eNode,nat,z9,z7,decide_true,decide_false,z0a (k3b h)];rw[z0e];exact hT _
 | real h=>simp only[go_sem,x5c,hB,eNode,nat,z9,z7,decide_true,decide_false,z0a (w0y h)];rw[z0e];exact hT _
 | @var v ks h=>
   have hs:=q5j (hV _ h)
   have p:=k2v hs.1 hs.2
   rw[nat] at p
   simp only[go_sem,x5c,hB,eNode,nat,z9,z7,decide_true,decide_false,z0a (k3c (hV _ h)),z0a p];rw[z0e];exact hT _
 | andor h=>rcases h with rfl | rfl <;> (simp only[go_sem,x5c,hB,eNode,nat,bare,z9,z7,Int.reduceLE,decide_true,decide_false];rw[z0e];exact hT _)
 | cmp h hs=>rcases h with rfl | rfl <;> (simp only[go_sem,x5c,hB,eNode,nat,bare,z9,z7,Int.reduceLE,decide_true,decide_false];rw[z0e];exact hT _)
 | @div o k ks h h1 h5=>
   have e:IntS (dec k):=⟨k,by rw[z0f,if_neg (by omega),u5],by simp;omega⟩
   rcases h with rfl | rfl <;> (simp only[go_sem,x5c,hB,eNode,nat,z9,z7,u6,decide_true,decide_false,z0a (k3b e),z0a (w0z h1 h5)];rw[z0e];exact hT _)
 | _=>simp only[go_sem,x5c,hB,eNode,nat,bare,z9,z7,Int.reduceLE,decide_true,decide_false];rw[z0e];exact hT _
end
theorem Qn.z_neg {q:Qn} (hc:q.C):decide (q.z < 0)=q.neg:=by
 have:=hc.neg
 unfold Qn.z
 cases h:q.neg
 ·simp
 ·simp[h] at this⊢
  omega
theorem Qn.frac {q:Qn} (hc:q.C) (h1:q.d≠1):q.text=z0f q.z++47::dec q.d:=by
 have hz:=Qn.z_neg hc
 have hl:=Qn.z_len (q:=q)
 unfold Qn.text z3g z0f
 rw[if_neg h1,hl]
 cases h:q.neg <;> rw[h] at hz <;> simp only[decide_eq_true_eq,n9] at hz <;> simp[hz]
structure Qn.R (q:Qn):Prop where
 c:q.C
 n:(dec q.n).length≤20000000
 d:(dec q.d).length≤20000000
theorem k9g {q:Qn} (hc:q.C) (hn:(dec q.n).length≤50000000) (hd:(dec q.d).length≤50000000):Pure Gam 165 [.str q.text] (.tup [z9o q.neg q.n q.d, .bool true]):=by
 by_cases h1:q.d=1
 ·have h:=q1u (z:=q.z) (by rw[Qn.z_len];exact hn)
  rw[←z1x] at h
  have e:=Qn.int hc h1
  have e2:z9o q.neg q.n q.d=z9o (decide (q.z < 0)) q.z.natAbs 1:=by rw[Qn.z_neg hc,Qn.z_len,h1]
  have e3:q.text=(z3j q.z).text:=congrArg Qn.text e
  rw[e2,e3]
  exact h
 ·have h2:2≤q.d:=by have:=hc.pos;omega
  have h:=j4x (z:=q.z) (d:=q.d) (by rw[Qn.z_len];exact hn) h2 hd (by rw[Qn.z_len];exact hc.red)
  rw[←Qn.frac hc h1,Qn.z_len,Qn.z_neg hc] at h
  exact h
theorem z6u {q:Qn} (h:q.R):Pure Gam 165 [.str q.text] (.tup [z9o q.neg q.n q.d, .bool true]):=k9g h.c (by have:=h.n;omega) (by have:=h.d;omega)
theorem x5w {neg:Bool} {a b:Nat} (hb:0 < b) (hlen:(dec a).length≤50000000) (hlenb:(dec b).length≤50000000):Pure Gam 230 [.bool neg, .str (dec a), .str (dec b)] (z9o (q2e neg a b).neg (q2e neg a b).n (q2e neg a b).d):=q9z hb hlen hlenb
theorem q7w {q:Qn} (hn:(dec q.n).length≤50000000) (hd:(dec q.d).length≤50000000):Pure Gam 231 [z9o q.neg q.n q.d] (.str q.text):=q6h hn hd
theorem q7x {q:Qn} (h:q.R):Pure Gam 164 [.str q.text] (.bool true):=by
 have hp:=z6u h
 rw[z9o] at hp
 refine Pure.of rfl v9a rfl rfl rfl rfl rfl fun D B clk T hB hT=> ?_
 simp only[go_sem,k7p,hB,z0a hp]
 rw[z0e]
 exact hT _
theorem x5x {q:Qn} (h:q.R):Pure Gam 102 [.str q.text] (.bool (decide (q.d=1))):=by
 have hp:=z6u h
 rw[z9o] at hp
 refine Pure.of rfl y1a rfl rfl rfl rfl rfl fun D B clk T hB hT=> ?_
 simp only[go_sem,v9b,hB,z0a hp,q2s]
 rw[z0e]
 exact hT _
def q6p (q:Qn):Int:=if q.n=0 then 0 else if q.neg=true then -1 else 1
theorem x5y {q:Qn} (h:q.R):Pure Gam 166 [.str q.text] (.int .i64 (q6p q)):=by
 have hp:=z6u h
 rw[z9o] at hp
 refine Pure.of rfl y0w rfl rfl rfl rfl rfl fun D B clk T hB hT=> ?_
 unfold q6p at hT
 by_cases h0:q.n=0
 ·have e1:decide (dec q.n=[48])=true:=by rw[z1o];simp[h0]
  rw[if_pos h0] at hT
  simp only[go_sem,k1y,hB,z0a hp,e1,z8]
  rw[z0h rfl rfl]
  exact hT _
 ·have e1:decide (dec q.n=[48])=false:=by rw[z1o];simp[h0]
  rw[if_neg h0] at hT
  cases hg:q.neg <;> rw[hg] at hT hp
  ·rw[if_neg (by simp)] at hT
   simp only[go_sem,k1y,hB,z0a hp,e1,z8]
   rw[z0h rfl rfl]
   exact hT _
  ·rw[if_pos rfl] at hT
   simp only[go_sem,k1y,hB,z0a hp,e1,z8]
   rw[z0h rfl rfl]
   exact hT _
theorem k9h {q:Qn} (h:q.R):Pure Gam 233 [.str q.text] (.str (j8e q).text):=by
 have hp:=z6u h
 have p2:=q7w (q:=j8e q) (by have:=h.n;show (dec q.n).length≤_;omega) (by have:=h.d;show (dec q.d).length≤_;omega)
 rw[z9o] at hp p2
 have e0:(j8e q).n=q.n:=rfl
 have e1:(j8e q).d=q.d:=rfl
 rw[e0,e1] at p2
 have e2:(j8e q).neg=(!q.neg && !decide (q.n=0)):=rfl
 rw[e2] at p2
 have hz:decide (dec q.n=[48])=decide (q.n=0):=z1o
 refine Pure.of rfl y7a rfl rfl rfl rfl rfl fun D B clk T hB hT=> ?_
 cases hg:q.neg <;> rw[hg] at hp p2
 ·cases h0:decide (q.n=0) <;> rw[h0] at p2 hz
  ·simp only[x6,Bool.and_self] at p2
   simp only[go_sem,k6k,hB,z0a hp,z8,x6,hz,z0a p2]
   rw[z2z]
   exact hT _
  ·simp only[x6,z8,Bool.and_false] at p2
   simp only[go_sem,k6k,hB,z0a hp,z8,x6,hz,z0a p2]
   rw[z2z]
   exact hT _
 ·simp only[z8,Bool.false_and] at p2
  simp only[go_sem,k6k,hB,z0a hp,z8,x6,hz,z0a p2]
  rw[z2z]
  exact hT _
theorem j5b {x y:Qn} (hx:x.R) (hy:y.R):Pure Gam 232 [.str x.text, .str y.text] (.str (x9b x y).text):=by
 have p1:=z6u hx
 have p2:=z6u hy
 have m1:=z8p (a:=x.n) (b:=y.d) hx.n hy.d
 have m2:=z8p (a:=y.n) (b:=x.d) hy.n hx.d
 have m3:=z8p (a:=x.d) (b:=y.d) hx.d hy.d
 have l1:=z6b hx.n hy.d
 have l2:=z6b hy.n hx.d
 have l3:=z6b hx.d hy.d
 have hpos:=Nat.mul_pos hx.c.pos hy.c.pos
 unfold x9b
 generalize x.n * y.d=p at *
 generalize y.n * x.d=q at *
 generalize x.d * y.d=d at *
 refine Pure.of rfl y6z rfl rfl rfl rfl rfl fun D B clk T hB hT=> ?_
 simp only[go_sem,w8c,hB]
 rw[z0a p1]
 simp only[go_sem,hB,z9o]
 rw[z0a p2]
 simp only[go_sem,hB,z9o,z8,x6,z1p,z0a m1,z0a m2,z0a m3]
 refine⟨by simp[z1r,apart,z0q,z1n,z1t,AOp.isCall,hB], ?_⟩
 have la:=x5u (a:=p) (b:=q) (A:=40000000) (by omega) (by omega)
 have ls1:=x5v (a:=p) (b:=q) l1
 have ls2:=x5v (a:=q) (b:=p) l2
 have fin:∀ (neg:Bool) (a:Nat),(dec a).length≤40000001→Pure Gam 230 [.bool neg, .str (dec a), .str (dec d)] (z9o (q2e neg a d).neg (q2e neg a d).n (q2e neg a d).d)∧Pure Gam 231 [z9o (q2e neg a d).neg (q2e neg a d).n (q2e neg a d).d] (.str (q2e neg a d).text):=fun neg a ha=>by
  have hl:=q7j (neg:=neg) ha l3
  exact⟨x5w hpos (by omega) (by omega),q7w (by have:=hl.n;omega) (by have:=hl.d;omega)⟩
 by_cases hn:x.neg=y.neg
 ·have e1:decide (x.neg=y.neg)=true:=decide_eq_true hn
  have e2:(x.neg==y.neg)=true:=by simp[hn]
  rw[if_pos hn] at hT
  obtain⟨f1,f2⟩:=fin x.neg (p + q) la
  simp only[go_sem,hB,e1,e2,z1p,z0a (k1w (a:=p) (b:=q) (by omega) (by omega)),z0a f1,z0a f2]
  refine⟨by simp[z1r,apart,z0q,z1n,z1t,AOp.isCall,hB], ?_⟩
  rw[z2z]
  exact hT _
 ·have e1:decide (x.neg=y.neg)=false:=decide_eq_false hn
  have e2:(x.neg==y.neg)=false:=by simp[hn]
  rw[if_neg hn] at hT
  have hcmp:=k1v (a:=p) (b:=q)
  by_cases hle:q≤p
  ·rw[if_pos hle] at hT
   obtain⟨n,hn1,hn2⟩:∃ n:Int,(if p < q then -1 else if p=q then 0 else 1)=n∧decide (0≤n)=true:=by
    rw[if_neg (by omega)]
    split
    ·exact⟨0,rfl,rfl⟩
    ·exact⟨1,rfl,rfl⟩
   rw[hn1] at hcmp
   obtain⟨f1,f2⟩:=fin x.neg (p - q) (by omega)
   simp only[go_sem,hB,e1,e2,z1p,z0a hcmp,hn2,z0a (j0z (a:=p) (b:=q) hle (by omega) (by omega)),z0a f1,z0a f2]
   refine⟨by simp[z1r,apart,z0q,z1n,z1t,AOp.isCall,hB], ?_⟩
   rw[z2z]
   exact hT _
  ·rw[if_neg hle] at hT
   rw[if_pos (by omega)] at hcmp
   have hn2:decide ((0:Int)≤ -1)=false:=by decide
   obtain⟨f1,f2⟩:=fin y.neg (q - p) (by omega)
   simp only[go_sem,hB,e1,e2,z1p,z0a hcmp,hn2,z0a (j0z (a:=q) (b:=p) (by omega) (by omega) (by omega)),z0a f1,z0a f2]
   refine⟨by simp[z1r,apart,z0q,z1n,z1t,AOp.isCall,hB], ?_⟩
   rw[z2z]
   exact hT _
theorem y2w {x:Qn} (h:x.R):(j8e x).R:=⟨v3o h.c,h.n,h.d⟩
theorem j5c {x y:Qn} (hx:x.R) (hy:y.R):Pure Gam 167 [.str x.text, .str y.text] (.str (k4l x y).text):=by
 refine Pure.of rfl y6y rfl rfl rfl rfl rfl fun D B clk T hB hT=> ?_
 simp only[go_sem,w8b,hB,z0a (k9h hy),z0a (j5b hx (y2w hy))]
 rw[z2z]
 exact hT _
theorem j5d {x y:Qn} (hx:x.R) (hy:y.R) (hs:(k4l x y).R):Pure Gam 103 [.str x.text, .str y.text] (.int .i64 (q6p (k4l x y))):=by
 refine Pure.of rfl y6x rfl rfl rfl rfl rfl fun D B clk T hB hT=> ?_
 simp only[go_sem,w8a,hB,z0a (q7x hx),z0a (q7x hy),z8,z0a (j5c hx hy),z0a (x5y hs)]
 rw[z0h rfl rfl]
 exact hT _
theorem j5e {x y:Qn} (hx:x.R) (hy:y.R):Pure Gam 285 [.str x.text, .str y.text] (.str (k2x x y).text):=by
 have p1:=z6u hx
 have p2:=z6u hy
 have m1:=z8p (a:=x.n) (b:=y.n) hx.n hy.n
 have m2:=z8p (a:=x.d) (b:=y.d) hx.d hy.d
 have l1:=z6b hx.n hy.n
 have l2:=z6b hx.d hy.d
 have hpos:=Nat.mul_pos hx.c.pos hy.c.pos
 have hl:=q7j (neg:= !(x.neg==y.neg)) l1 l2
 have f1:=x5w (neg:= !(x.neg==y.neg)) hpos (by omega) (by omega:(dec (x.d * y.d)).length≤_) (a:=x.n * y.n)
 have f2:=q7w (q:=q2e (!(x.neg==y.neg)) (x.n * y.n) (x.d * y.d)) (by have:=hl.n;omega) (by have:=hl.d;omega)
 unfold k2x
 refine Pure.of rfl w9j rfl rfl rfl rfl rfl fun D B clk T hB hT=> ?_
 simp only[go_sem,v8m,hB]
 rw[z0a p1]
 simp only[go_sem,hB,z9o]
 rw[z0a p2]
 simp only[go_sem,hB,z9o,z8,x6,z1p,z0a m1,z0a m2]
 rw[z0a f1]
 simp only[go_sem,]
 rw[z0a f2]
 simp only[go_sem,]
 refine⟨by simp[z1r,apart,z0q,z1n,z1t,AOp.isCall,hB], ?_⟩
 rw[z2z]
 exact hT _
section
open Sh
set_option maxHeartbeats 0
end
section
variable {U:List Var} [UOk U]
theorem WF.len {V:List Var} {ss:List Nat} {d:Nat} {f:Term} (h:WF V ss d f):ss.length≤f.length:=by
 induction h with
 | nil=>simp
 | cons h1 h2 h3 h4 ih1 ih2=>simp at *;omega
theorem NodeOk.mul_ne {V:List Var} {n:Node} {ss:List Nat} {s:Nat} {ks:Term} (hn:NodeOk V n ss s ks) (h:n.op=15):ss≠[]:=by
 cases hn with
 | mul=>simp
 | bool ho=>simp only[bare] at h;omega
 | andor ho=>simp only[bare] at h;omega
 | cmp ho=>simp only[bare] at h;omega
 | div ho=>dsimp only at h;omega
 | _=>simp[bare] at h
inductive Trees (t:Term) (dep:Nat):Nat→List Nat→Nat→Prop
 | nil {i:Nat}:Trees t dep i [] i
 | cons {i m j s:Nat} {ss:List Nat} (h:Pure Gam 213 [.sl (t.map eNode) .no,nat i,nat dep] (.tup [nat m,nat s])) (hs:1≤s) (hm:m≤t.length) (hr:Trees t dep m ss j):Trees t dep i (s::ss) j
theorem q5m {t:Term}:(AV.sl (t.map eNode) .no).ids=[]:=by simp[AV.ids,z0d z2x]
theorem k3d {V:List Var} {t:Term} {i dep m s:Nat} {n:Node} {ss:List Nat} {ks:Term} (hV:∀ v∈V,v∈U) (htl:t.length≤20000) (hd:dep≤256) (hi:t[i]? =some n) (hn:NodeOk V n ss s ks) (hk:n.kids=ss.length) (hsl:ss.length < t.length) (hm:m≤t.length) (hT:Trees t (dep + 1) (i + 1) ss m)
  (hf:ss≠[]→∃ c,t[i + 1]? =some c∧(n.op=15→c.op=3)):Pure Gam 213 [.sl (t.map eNode) .no,nat i,nat dep] (.tup [nat m,nat s]):=by
 have hit:i < t.length:=(List.getElem?_eq_some_iff.1 hi).1
 refine Pure.of rfl y9b rfl rfl rfl (az:=[.sl (t.map eNode) .no,nat i,nat dep]) rfl (by simp[z0i,q5m,z3f]) fun D B clk T hB hR=> ?_
 have p1:=w1a hV hn
 have p2:=w0w hn hk
 simp only[eNode,nat] at p1 p2
 have e1:decide ((t.length:Int)≤(i:Int))=false:=by rw[n9];omega
 have e2:decide ((256:Int) < (dep:Int))=false:=by rw[n9];omega
 have e3:decide ((t.length:Int) < (n.kids:Int))=false:=by rw[n9];omega
 have e4:IntKind.i64.wrap ((i:Int) + 1)=((i + 1:Nat):Int):=z0c (by omega) (by omega)
 simp only[go_sem,y0u,nat,hB,z6,e1,e2,e3,e4,z2s hi,z0a p1,z0a p2,z8]
 refine z1f (fun r q=>∃ (done left:List Nat) (t8:Tip) (e g0:Nat) (o0 o1:AObj),ss=done++left∧r=left.length∧Trees t (dep + 1) e left m∧e≤t.length∧(∀ x∈done,1≤x)∧q.ts 0= .sl (t.map eNode) .no∧q.ts 1= .int .i64 (i:Int)∧q.ts 2= .int .i64 (dep:Int)∧q.ts 8= .sl (done.map nat) t8∧q.ts 9= .int .i64 (e:Int)∧q.ts 10= .bool true∧q.ts 11= .int .i64 (done.length:Int)∧q.h=D++[o0,o1]∧q3e B 1 o1 t8 1) ss.length ⟨[],ss, .nil,i + 1,0,_,_,rfl,rfl,hT,hit,by simp,rfl,rfl,rfl,rfl,rfl,rfl,rfl,rfl, .inl rfl⟩ ?_
 rintro r ⟨ts,h,clk⟩ P ⟨done,left,t8,e,g0,o0,o1,hss,rfl,hT,he',hdone,q0,q1,q2,q8,q9,q10,q11,rfl,htip⟩ hnx he hr
 dsimp only at q0 q1 q2 q8 q9 q10 q11
 cases hT with
 | nil=>
   obtain rfl:done=ss:=by simpa using hss.symm
   have f1:decide ((done.length:Int) < (n.kids:Int))=false:=by rw[n9];omega
   simp only[go_sem,j4d,q0,q1,q2,q8,q9,q10,q11,f1,z2s hi]
   refine he _ _ ?_
   have p3:∀ fi:Nat,(n.op=15→fi=3)→Pure Gam 268 [eNode n,nat fi, .sl (done.map nat) t8] (nat s):=fun fi h=>w0x hn (by omega) h
   cases hd0:done with
   | nil=>
     have p4:Pure Gam 268 [eNode n, .int .i64 0, .sl (done.map nat) t8] (nat s):=p3 0 fun h15=>absurd hd0 (hn.mul_ne h15)
     rw[hd0] at p4 q8
     simp only[eNode,nat,k8] at p4 q8
     simp only[go_sem,q0,q1,q2,q8,q9,q10,z8,z2s hi,z0a p4,decide_false,u6]
     rw[z0h rfl rfl]
     exact hR _
   | cons x0 d0=>
     obtain⟨c,hc,hc3⟩:=hf (by rw[hd0];simp)
     have p4:=p3 c.op hc3
     have g1:decide ((0:Int) < (done.length:Int))=true:=by rw[r8,hd0];simp
     simp only[eNode,nat] at p4
     simp only[go_sem,q0,q1,q2,q8,q9,q10,z8,z6,g1,e4,z2s hi,z2s hc,z0a p4]
     rw[z0h rfl rfl]
     exact hR _
 | cons hp hs hm' hr'=>
   rename_i m' x left
   have f1:decide ((done.length:Int) < (n.kids:Int))=true:=by rw[r8,hk,hss];simp;omega
   have f2:IntKind.i64.wrap ((dep:Int) + 1)=((dep + 1:Nat):Int):=z0c (by omega) (by omega)
   have f3:decide ((m':Int) < 0)=false:=by rw[n9];omega
   have f4:decide ((0:Int) < (x:Int))=true:=by rw[r8];omega
   have f5:IntKind.i64.wrap ((done.length:Int) + 1)=((done.length + 1:Nat):Int):=z0c (by omega) (by rw[hss] at hsl;simp at hsl;omega)
   simp only[nat] at hp
   simp only[go_sem,j4d,q0,q1,q2,q8,q9,q10,q11,f1,f2,f3,f4,f5,z2s hi,z0a hp]
   have happ:done.map nat++[nat x]=(done++[x]).map nat:=by simp
   rw[show [AV.int .i64 (x:Int)]=[x].map nat from rfl,z1c hB rfl htip z8d z8d (by rw[hss] at hsl;simp at hsl⊢;omega)]
   simp only[go_sem,q0,q1,q2,q8,q9,q10,q11,f5,happ]
   refine hnx left.length _ (by simp) ⟨done++[x],left,_,m',0,_,_,by simp[hss],rfl,hr',hm',fun y hy=> ?_,q0,q1,q2,rfl,rfl,rfl,by rw[k7];rfl,rfl, .inr (.inr ⟨_,rfl,rfl⟩)⟩
   rcases x4.1 hy with hy | hy
   ·exact hdone y hy
   ·rw[y3.1 hy];exact hs
theorem w1b {V:List Var} {t:Term} (hV:∀ v∈V,v∈U) (htl:t.length≤20000) {ss:List Nat} {d:Nat} {f:Term} (h:WF V ss d f):∀ {pre post:Term} {dep:Nat},t=pre++f++post→dep + d≤256→Trees t dep pre.length ss (pre.length + f.length):=by
 induction h with
 | nil=>intro pre post dep ht hd;exact .nil
 | @cons n ss ks s d ss' rest h1 h2 h3 h4 ih1 ih2=>
   intro pre post dep ht hd
   have hl:pre.length + (1 + ks.length + rest.length)≤t.length:=by rw[ht];simp;omega
   have i1:=ih1 (pre:=pre++[n]) (post:=rest++post) (dep:=dep + 1) (by rw[ht];simp) (by omega)
   have i2:=ih2 (pre:=pre++(n::ks)) (post:=post) (dep:=dep) (by rw[ht];simp) (by omega)
   simp only[k7,v5,u3,k6] at i1 i2
   have hw:=h1.len
   have hit:t[pre.length]? =some n:=by rw[ht];simp
   refine .cons (m:=pre.length + (ks.length + 1)) (k3d (ks:=ks) hV htl (by omega) hit h2 h3 (by omega) (by omega) (by rw[show pre.length + (ks.length + 1)=pre.length + 1 + ks.length by omega];exact i1) fun hne=> ?_) (h2.pos hV).1 (by omega) ?_
   ·cases ks with
    | nil=>simp at hw;exact absurd hw hne
    | cons c r=>
      refine⟨c,by rw[ht];simp,fun h15=> ?_⟩
      obtain⟨m,r',he,hm⟩:=h2.mul_num h15
      injection he with he1 he2
      rw[he1]
      exact hm
   ·simp only[v5,k7]
    rw[show pre.length + (ks.length + rest.length + 1)=pre.length + (ks.length + 1) + rest.length by omega]
    exact i2
theorem w1c {V:List Var} {t:Term} {s d:Nat} (hV:∀ v∈V,v∈U) (htl:t.length≤20000) (hd:d≤256) (h:WF V [s] d t):Pure Gam 213 [.sl (t.map eNode) .no, .int .i64 0, .int .i64 0] (.tup [nat t.length,nat s]):=by
 have:=w1b hV htl h (pre:=[]) (post:=[]) (dep:=0) (by simp) (by omega)
 cases this with
 | cons hp hs hm hr=>
   cases hr with
   | nil=>
     rw[u3,k6] at hp
     exact hp
end
section
variable {U:List Var} [UOk U]
theorem u0w:∀ v∈U,∀ w∈U,v.name=w.name→v=w:=UOk.inj
theorem u0x {B clk i:Nat} {H:List AObj} {t:Term} {n:Node} {acc:List Var} {t3:Tip} {ts:Tmps} {ks:List Kf} {Q:Post} (hi:t[i]? =some n) (hl:acc.length≤20000) (hs:∀ v∈acc,v.name=n.name→v.sort=n.sort)
  (h0:ts 0= .sl (t.map eNode) .no) (h3:ts 3= .sl (acc.map z2b) t3) (h4:ts 4= .sl [] .nil) (h5:ts 5= .int .i64 (i:Int)) (h6:ts 6= .bool false) (h7:ts 7= .int .i64 0)
  (hQ:∀ (ts':Tmps) (clk':Nat),ts' 0= .sl (t.map eNode) .no→ts' 3= .sl (acc.map z2b) t3→ts' 4= .sl [] .nil→ts' 5= .int .i64 (i:Int)→ts' 6= .bool (acc.any fun v=>decide (v.name=n.name))→K Gam B (.exit 3) ks ⟨ts',H,clk'⟩ Q):K Gam B (.loop q9y) ks ⟨ts,H,clk⟩ Q:=by
 refine z1f (fun m q=>∃ j:Nat,j≤acc.length∧m=acc.length - j∧q.ts 0= .sl (t.map eNode) .no∧q.ts 3= .sl (acc.map z2b) t3∧q.ts 4= .sl [] .nil∧q.ts 5= .int .i64 (i:Int)∧q.ts 6= .bool ((acc.take j).any fun v=>decide (v.name=n.name))∧q.ts 7= .int .i64 (j:Int)∧q.h=H) acc.length ⟨0,by omega,rfl,h0,h3,h4,h5,h6,h7,rfl⟩ ?_
 clear h0 h3 h4 h5 h6 h7
 rintro m ⟨ts,h,clk⟩ P ⟨j,hj,rfl,h0,h3,h4,h5,h6,h7,rfl⟩ hnx he hr
 dsimp only at h0 h3 h4 h5 h6 h7
 by_cases hlt:j < acc.length
 ·have e1:decide ((j:Int) < (acc.length:Int))=true:=by rw[r8];omega
  have e4:IntKind.i64.wrap ((j:Int) + 1)=((j + 1:Nat):Int):=z0c (by omega) (by omega)
  have ht:acc.take (j + 1)=acc.take j++[acc[j]]:=w7 hlt
  have hsj:=hs acc[j] (x8 hlt)
  by_cases hnm:acc[j].name=n.name
  ·have e2:decide (acc[j].name=n.name)=true:=by simp[hnm]
   have e3:decide (((acc[j].sort:Nat):Int)=((n.sort:Nat):Int))=true:=by rw[r8,hsj hnm]
   simp only[go_sem,h0,h3,h4,h5,h6,h7,q9y,nat,z6,e1,e2,e3,z6r hlt,z2s hi,e4,z8]
   exact hnx (acc.length - (j + 1)) _ (by omega) ⟨j + 1,hlt,rfl,h0,h3,h4,h5,by rw[ht,List.any_append];simp[z0b,hnm],rfl,rfl⟩
  ·have e2:decide (acc[j].name=n.name)=false:=by simp[hnm]
   simp only[go_sem,h0,h3,h4,h5,h6,h7,q9y,nat,z6,e1,e2,z6r hlt,z2s hi,e4]
   exact hnx (acc.length - (j + 1)) _ (by omega) ⟨j + 1,hlt,rfl,h0,h3,h4,h5,by rw[ht,List.any_append];simp[z0b,hnm,h6],rfl,rfl⟩
 ·have e1:decide ((j:Int) < (acc.length:Int))=false:=by rw[n9];omega
  rw[u0 (by omega)] at h6
  simp only[go_sem,h0,h3,h4,h5,h6,h7,q9y,z6,e1]
  refine he _ _ ?_
  exact hQ _ _ (by simp[z0b,h0]) (by simp[z0b,h3]) (by simp[z0b,h4]) (by simp[z0b,h5]) (by simp[z0b,h6])
theorem w1d {V:List Var} {t:Term} (hV:∀ v∈V,v∈U) (htl:t.length≤20000) (hN:x0l V t):Pure Gam 214 [.sl (t.map eNode) .no] (.bool true):=by
 refine Pure.of rfl y9c rfl rfl rfl (az:=[.sl (t.map eNode) .no]) rfl (by simp[z0i,q5m]) fun D B clk T hB hT=> ?_
 simp only[go_sem,y0v,hB]
 refine z1f (fun m q=>∃ (i:Nat) (acc:List Var) (t3:Tip) (o0 o1 o2 o3 o4:AObj),i≤t.length∧m=t.length - i∧acc.length≤i∧(∀ v∈acc,v∈U)∧q.ts 0= .sl (t.map eNode) .no∧q.ts 3= .sl (acc.map z2b) t3∧q.ts 4= .sl [] .nil∧q.ts 5= .int .i64 (i:Int)∧q.h=D++[o0,o1,o2,o3,o4]∧q3e B 1 o1 t3 2) t.length ⟨0,[], .nil,_,_,_,_,_,by omega,rfl,by simp,by simp,rfl,rfl,rfl,rfl,rfl, .inl rfl⟩ ?_
 rintro m ⟨ts,h,clk⟩ P ⟨i,acc,t3,o0,o1,o2,o3,o4,hi,rfl,hal,hacc,h0,h3,h4,h5,rfl,htip⟩ hnx he hr
 dsimp only at h0 h3 h4 h5
 by_cases hlt:i < t.length
 ·have f1:decide ((i:Int) < (t.length:Int))=true:=by rw[r8];omega
  have f2:IntKind.i64.wrap ((i:Int) + 1)=((i + 1:Nat):Int):=z0c (by omega) (by omega)
  have hti:t[i]? =some t[i]:=v9 hlt
  have hno:=hN t[i] (x8 hlt)
  generalize t[i]=n at hti hno
  have f5:decide ((n.op:Int)=5)=false:=by rw[n9];have:=hno.1;omega
  by_cases h44:n.op=4
  ·obtain⟨v,hv,hvn,hvs⟩:=hno.2 h44
   have f4:decide ((n.op:Int)=4)=true:=by rw[r8];omega
   simp only[go_sem,x8o,h0,h3,h4,h5,z6,f1,f4,z2s hti]
   refine u0x hti (by omega) (fun w hw hwn=> ?_) h0 h3 h4 h5 rfl rfl ?_
   ·rw[u0w w (hacc w hw) v (hV v hv) (by rw[hwn,hvn]),hvs]
   clear h0 h3 h4 h5
   intro ts clk h0 h3 h4 h5 h6
   cases hk:acc.any fun v=>decide (v.name=n.name) with
   | true=>
     rw[hk] at h6
     simp only[go_sem,h0,h3,h4,h5,h6,z8,f2]
     exact hnx (t.length - (i + 1)) _ (by omega) ⟨i + 1,acc,_,_,_,_,_,_,hlt,rfl,by omega,hacc,h0,h3,h4,rfl,rfl,htip⟩
   | false=>
     rw[hk] at h6
     have e1:(AV.agg [.str n.name, .int .i64 (n.sort:Int)])=z2b v:=by rw[hvn,hvs];rfl
     simp only[go_sem,h0,h3,h4,h5,h6,x6,f2,z2s hti]
     rw[e1,show [z2b v]=[v].map z2b from rfl,z1c hB rfl htip z5h z5h (by simp only[z6,v6];omega)]
     have happ:acc.map z2b++[z2b v]=(acc++[v]).map z2b:=by simp
     simp only[go_sem,h0,h3,h4,h5,h6,f2,happ]
     exact hnx (t.length - (i + 1)) _ (by omega) ⟨i + 1,acc++[v],_,_,_,_,_,_,hlt,rfl,by simp;omega,fun w hw=>by
      rcases x4.1 hw with hw | hw
      ·exact hacc w hw
      ·rw[y3.1 hw];exact hV v hv,h0,rfl,h4,rfl,rfl, .inr (.inr ⟨_,rfl,rfl⟩)⟩
  ·have f4:decide ((n.op:Int)=4)=false:=by rw[n9];omega
   simp only[go_sem,x8o,h0,h3,h4,h5,z6,f1,f2,f4,f5,z2s hti]
   exact hnx (t.length - (i + 1)) _ (by omega) ⟨i + 1,acc,_,_,_,_,_,_,hlt,rfl,by omega,hacc,h0,h3,h4,rfl,rfl,htip⟩
 ·have f1:decide ((i:Int) < (t.length:Int))=false:=by rw[n9];omega
  simp only[go_sem,x8o,h0,h3,h4,h5,z6,f1]
  refine he _ _ ?_
  simp only[go_sem,h0,h3,h4,h5]
  clear h5 hnx he hr
  refine z1f (fun m q=>∃ j:Nat,j≤acc.length∧m=acc.length - j∧q.ts 3= .sl (acc.map z2b) t3∧q.ts 4= .sl [] .nil∧q.ts 11= .int .i64 (j:Int)∧q.h=D++[o0,o1,o2,o3,o4]) acc.length ⟨0,by omega,rfl,h3,h4,rfl,rfl⟩ ?_
  clear h0 h3 h4
  rintro m ⟨ts,h,clk⟩ P ⟨j,hj,rfl,h3,h4,h11,rfl⟩ hnx he hr
  dsimp only at h3 h4 h11
  by_cases hlt:j < acc.length
  ·have f1:decide ((j:Int) < (acc.length:Int))=true:=by rw[r8];omega
   have f2:IntKind.i64.wrap ((j:Int) + 1)=((j + 1:Nat):Int):=z0c (by omega) (by omega)
   simp only[go_sem,q9x,h3,h4,h11,z6,f1]
   refine z3t ?_
   simp only[go_sem,q9w,h3,h4,h11,decide_false,Int.lt_irrefl,f2]
   exact hnx (acc.length - (j + 1)) _ (by omega) ⟨j + 1,hlt,rfl,h3,h4,rfl,rfl⟩
  ·have f1:decide ((j:Int) < (acc.length:Int))=false:=by rw[n9];omega
   simp only[go_sem,q9x,h3,h4,h11,z6,f1]
   refine he _ _ ?_
   simp only[go_sem,]
   rw[z0e]
   exact hT _
end
section
variable {U:List Var} [UOk U]
theorem k3e {V:List Var} {t:Term} {s d:Nat} (hV:∀ v∈V,v∈U) (htl:t.length≤20000) (hd:d≤256) (h:WF V [s] d t) (hs:1≤s):Pure Gam 144 [z0w t] (nat s):=by
 have p1:=w1c hV htl hd h
 have p2:=w1d hV htl h.names
 refine Pure.of rfl y9a rfl rfl rfl (az:=[.sl (t.map eNode) .no]) rfl (by simp[z0i,q5m]) fun D B clk T hB hT=> ?_
 have e1:decide ((20000:Int) < (t.length:Int))=false:=by rw[n9];omega
 have e2:decide ((s:Int)=0)=false:=by rw[n9];omega
 simp only[nat] at p1
 simp only[go_sem,y0t,hB,z6,e1,e2,z0a p1,z0a p2,decide_true,z8]
 rw[z0h rfl rfl]
 exact hT _
theorem w1e {B clk i s0:Nat} {H:List AObj} {t:Term} {n:Node} {V:List Var} {ts:Tmps} {ks:List Kf} {Q:Post} (hi:t[i]? =some n) (hl:V.length≤20000)
  (h0:ts 0= .sl (t.map eNode) .no) (h1:ts 1= .int .i64 (s0:Int)) (h2:ts 2= .sl (V.map z2b) .no) (h7:ts 7= .int .i64 (i:Int)) (h8:ts 8= .bool false) (h9:ts 9= .int .i64 0)
  (hQ:∀ (ts':Tmps) (clk':Nat),ts' 0= .sl (t.map eNode) .no→ts' 1= .int .i64 (s0:Int)→ts' 2= .sl (V.map z2b) .no→ts' 7= .int .i64 (i:Int)→ts' 8= .bool (V.any fun v=>decide (v.name=n.name) && decide (v.sort=n.sort))→K Gam B (.exit 2) ks ⟨ts',H,clk'⟩ Q):K Gam B (.loop q7g) ks ⟨ts,H,clk⟩ Q:=by
 refine z1f (fun m q=>∃ j:Nat,j≤V.length∧m=V.length - j∧q.ts 0= .sl (t.map eNode) .no∧q.ts 1= .int .i64 (s0:Int)∧q.ts 2= .sl (V.map z2b) .no∧q.ts 7= .int .i64 (i:Int)∧q.ts 8= .bool ((V.take j).any fun v=>decide (v.name=n.name) && decide (v.sort=n.sort))∧q.ts 9= .int .i64 (j:Int)∧q.h=H) V.length ⟨0,by omega,rfl,h0,h1,h2,h7,h8,h9,rfl⟩ ?_
 clear h0 h1 h2 h7 h8 h9
 rintro m ⟨ts,h,clk⟩ P ⟨j,hj,rfl,h0,h1,h2,h7,h8,h9,rfl⟩ hnx he hr
 dsimp only at h0 h1 h2 h7 h8 h9
 by_cases hlt:j < V.length
 ·have e1:decide ((j:Int) < (V.length:Int))=true:=by rw[r8];omega
  have e4:IntKind.i64.wrap ((j:Int) + 1)=((j + 1:Nat):Int):=z0c (by omega) (by omega)
  have ht:V.take (j + 1)=V.take j++[V[j]]:=w7 hlt
  have ha:∀ b,((V.take j).any fun v=>decide (v.name=n.name) && decide (v.sort=n.sort))=b→(b || (decide (V[j].name=n.name) && decide (V[j].sort=n.sort)))=((V.take (j + 1)).any fun v=>decide (v.name=n.name) && decide (v.sort=n.sort)):=fun b hb=>by
   rw[ht,List.any_append,hb]
   simp
  cases hb:(V.take j).any fun v=>decide (v.name=n.name) && decide (v.sort=n.sort) with
  | true=>
    have ha:=ha _ hb
    rw[hb] at h8
    simp only[go_sem,h0,h1,h2,h7,h8,h9,q7g,nat,z6,e1,e4]
    exact hnx (V.length - (j + 1)) _ (by omega) ⟨j + 1,hlt,rfl,h0,h1,h2,h7,by rw[←ha];rfl,rfl,rfl⟩
  | false=>
    have ha:=ha _ hb
    rw[hb] at h8
    by_cases hnm:V[j].name=n.name
    ·have e2:decide (V[j].name=n.name)=true:=by simp[hnm]
     have e3:decide ((V[j].sort:Int)=(n.sort:Int))=decide (V[j].sort=n.sort):=by rw[decide_eq_decide];omega
     simp only[go_sem,h0,h1,h2,h7,h8,h9,q7g,nat,z6,e1,e2,e3,z6r hlt,z2s hi,e4]
     exact hnx (V.length - (j + 1)) _ (by omega) ⟨j + 1,hlt,rfl,h0,h1,h2,h7,by rw[←ha,e2];simp[z0b],rfl,rfl⟩
    ·have e2:decide (V[j].name=n.name)=false:=by simp[hnm]
     simp only[go_sem,h0,h1,h2,h7,h8,h9,q7g,nat,z6,e1,e2,z6r hlt,z2s hi,e4]
     exact hnx (V.length - (j + 1)) _ (by omega) ⟨j + 1,hlt,rfl,h0,h1,h2,h7,by rw[←ha,e2];simp[z0b],rfl,rfl⟩
 ·have e1:decide ((j:Int) < (V.length:Int))=false:=by rw[n9];omega
  rw[u0 (by omega)] at h8
  simp only[go_sem,h0,h1,h2,h7,h8,h9,q7g,z6,e1]
  refine he _ _ ?_
  exact hQ _ _ (by simp[z0b,h0]) (by simp[z0b,h1]) (by simp[z0b,h2]) (by simp[z0b,h7]) (by simp[z0b,h8])
theorem k3f {V:List Var} {t:Term} {s d:Nat} (hV:∀ v∈V,v∈U) (hVl:V.length≤1000) (htl:t.length≤20000) (hd:d≤256) (h:WF V [s] d t) (hs:1≤s):Pure Gam 149 [z0w t,nat s, .sl (V.map z2b) .no] (.bool true):=by
 have p1:=k3e hV htl hd h hs
 have hN:=h.names
 refine Pure.of rfl y8z rfl rfl rfl (az:=[.sl (t.map eNode) .no,nat s, .sl (V.map z2b) .no]) rfl (by simp[z0i,q5m,z3f,z5i]) fun D B clk T hB hT=> ?_
 have e1:decide ((s:Int)=0)=false:=by rw[n9];omega
 simp only[nat,z0w] at p1
 simp only[go_sem,y0s,hB,nat,e1,z0a p1,decide_true,z8]
 refine z1f (fun m q=>∃ i:Nat,i≤t.length∧m=t.length - i∧q.ts 0= .sl (t.map eNode) .no∧q.ts 1= .int .i64 (s:Int)∧q.ts 2= .sl (V.map z2b) .no∧q.ts 7= .int .i64 (i:Int)∧q.h=D) t.length ⟨0,by omega,rfl,rfl,rfl,rfl,rfl,by simp⟩ ?_
 rintro m ⟨ts,h',clk⟩ P ⟨i,hi,rfl,h0,h1,h2,h7,rfl⟩ hnx he hr
 dsimp only at h0 h1 h2 h7
 by_cases hlt:i < t.length
 ·have f1:decide ((i:Int) < (t.length:Int))=true:=by rw[r8];omega
  have f2:IntKind.i64.wrap ((i:Int) + 1)=((i + 1:Nat):Int):=z0c (by omega) (by omega)
  have hti:t[i]? =some t[i]:=v9 hlt
  have hno:=hN t[i] (x8 hlt)
  generalize t[i]=n at hti hno
  have f5:decide ((n.op:Int)=5)=false:=by rw[n9];have:=hno.1;omega
  by_cases h44:n.op=4
  ·obtain⟨v,hv,hvn,hvs⟩:=hno.2 h44
   have f4:decide ((n.op:Int)=4)=true:=by rw[r8];omega
   simp only[go_sem,x8n,h0,h1,h2,h7,z6,f1,f4,f5,z2s hti,z8]
   refine w1e hti (by omega) h0 h1 h2 h7 rfl rfl ?_
   clear h0 h1 h2 h7
   intro ts clk h0 h1 h2 h7 h8
   have hk:(V.any fun v=>decide (v.name=n.name) && decide (v.sort=n.sort))=true:=List.any_eq_true.2 ⟨v,hv,by simp[hvn,hvs]⟩
   rw[hk] at h8
   simp only[go_sem,h0,h1,h2,h7,h8,z8,f2]
   exact hnx (t.length - (i + 1)) _ (by omega) ⟨i + 1,hlt,rfl,h0,h1,h2,rfl,rfl⟩
  ·have f4:decide ((n.op:Int)=4)=false:=by rw[n9];omega
   simp only[go_sem,x8n,h0,h1,h2,h7,z6,f1,f2,f4,f5,z2s hti,x6]
   exact hnx (t.length - (i + 1)) _ (by omega) ⟨i + 1,hlt,rfl,h0,h1,h2,rfl,rfl⟩
 ·have f1:decide ((i:Int) < (t.length:Int))=false:=by rw[n9];omega
  simp only[go_sem,x8n,h0,h1,h2,h7,z6,f1]
  refine he _ _ ?_
  simp only[go_sem,]
  rw[z0e]
  exact hT _
end
def x3m (ps:List Func) (nm:List Nat):Int:=match ps.findIdx? (fun p=>decide (p.name=nm)) with
 | some i=>(i:Int)
 | none=> -1
theorem q4d {ps:List Func} {nm:List Nat} {i:Nat} (hi:i < ps.length) (h:ps[i].name=nm) (hn:∀ p∈ps.take i,p.name≠nm):x3m ps nm=(i:Int):=by
 have:ps.findIdx? (fun p=>decide (p.name=nm))=some i:=by
  rw[List.findIdx?_eq_some_iff_getElem]
  refine⟨hi,by simp[h],fun j hj=> ?_⟩
  have:=hn ps[j] (List.mem_take_iff_getElem.2 ⟨j,by omega,rfl⟩)
  simp[this]
 rw[x3m,this]
theorem x0w {ps:List Func} {nm:List Nat} (hn:∀ p∈ps,p.name≠nm):x3m ps nm= -1:=by
 have:ps.findIdx? (fun p=>decide (p.name=nm))=none:=by
  rw[List.findIdx?_eq_none_iff]
  intro p hp
  simp[hn p hp]
 rw[x3m,this]
theorem k3g {s:Sys} {nm:List Nat} (hl:s.preds.length≤1000):Pure Gam 106 [z4e s, .str nm] (.int .i64 (x3m s.preds nm)):=by
 refine Pure.of rfl u6l rfl rfl rfl (az:=[z4e s, .str nm]) rfl (by simp[z0i,z4j,AV.ids]) fun D B clk T hB hT=> ?_
 simp only[go_sem,u3k,hB,z4e]
 refine z1f (fun m q=>∃ (i g:Nat),i≤s.preds.length∧m=s.preds.length - i∧(∀ p∈s.preds.take i,p.name≠nm)∧q.ts 1= .str nm∧q.ts 2= .ptr (B + 0) g 0 0∧q.ts 5= .int .i64 (i:Int)∧q.h=D++[.blk g [.agg [.sl (s.preds.map z1m) .no, .sl (s.clauses.map z0j) .no]] false false 0]) s.preds.length ⟨0,_,by omega,rfl,by simp,rfl,rfl,rfl,rfl⟩ ?_
 rintro m ⟨ts,h',clk⟩ P ⟨i,g,hi,rfl,hno,h1,h2,h5,rfl⟩ hnx he hr
 dsimp only at h1 h2 h5
 by_cases hlt:i < s.preds.length
 ·have f1:decide ((i:Int) < (s.preds.length:Int))=true:=by rw[r8];omega
  have f2:IntKind.i64.wrap ((i:Int) + 1)=((i + 1:Nat):Int):=z0c (by omega) (by omega)
  have ht:s.preds.take (i + 1)=s.preds.take i++[s.preds[i]]:=w7 hlt
  by_cases hnm:s.preds[i].name=nm
  ·have e2:decide (s.preds[i].name=nm)=true:=by simp[hnm]
   simp only[go_sem,k1z,h1,h2,h5,hB,z6,f1,e2,z7u hlt]
   refine hr _ ?_
   rw[q4d hlt hnm hno] at hT
   simp only[go_sem,]
   rw[z0h rfl rfl]
   exact hT _
  ·have e2:decide (s.preds[i].name=nm)=false:=by simp[hnm]
   simp only[go_sem,k1z,h1,h2,h5,hB,z6,f1,f2,e2,z7u hlt]
   refine hnx (s.preds.length - (i + 1)) _ (by omega) ⟨i + 1,g,hlt,rfl,fun p hp=> ?_,h1,h2,rfl,rfl⟩
   rw[ht] at hp
   rcases x4.1 hp with hp | hp
   ·exact hno p hp
   ·rw[y3.1 hp];exact hnm
 ·have f1:decide ((i:Int) < (s.preds.length:Int))=false:=by rw[n9];omega
  rw[u0 (by omega)] at hno
  simp only[go_sem,k1z,h1,h2,h5,hB,z6,f1]
  refine he _ _ ?_
  rw[x0w hno] at hT
  simp only[go_sem,]
  rw[z0h rfl rfl]
  exact hT _
theorem w1f {V:List Var} {nm:List Nat} {u:Tip} (hl:V.length≤1000) (hno:∀ v∈V,v.name≠nm):Pure Gam 170 [.sl (V.map z2b) u, .str nm] (.bool false):=by
 refine Pure.of rfl y9j rfl rfl rfl (az:=[.sl (V.map z2b) .no, .str nm]) rfl (by simp[z0i,z5i,AV.ids,z0d z5z]) fun D B clk T hB hT=> ?_
 simp only[go_sem,y0z,hB]
 refine z1f (fun m q=>∃ (i:Nat),i≤V.length∧m=V.length - i∧q.ts 0= .sl (V.map z2b) .no∧q.ts 1= .str nm∧q.ts 5= .int .i64 (i:Int)∧q.h=D) V.length ⟨0,by omega,rfl,rfl,rfl,rfl,by simp⟩ ?_
 rintro m ⟨ts,h',clk⟩ P ⟨i,hi,rfl,h0,h1,h5,rfl⟩ hnx he hr
 dsimp only at h0 h1 h5
 by_cases hlt:i < V.length
 ·have f1:decide ((i:Int) < (V.length:Int))=true:=by rw[r8];omega
  have f2:IntKind.i64.wrap ((i:Int) + 1)=((i + 1:Nat):Int):=z0c (by omega) (by omega)
  have e2:decide (V[i].name=nm)=false:=by simp[hno _ (x8 hlt)]
  simp only[go_sem,j4g,h0,h1,h5,hB,z6,f1,f2,e2,z6r hlt]
  exact hnx (V.length - (i + 1)) _ (by omega) ⟨i + 1,hlt,rfl,h0,h1,rfl,rfl⟩
 ·have f1:decide ((i:Int) < (V.length:Int))=false:=by rw[n9];omega
  simp only[go_sem,j4g,h0,h1,h5,hB,z6,f1]
  refine he _ _ ?_
  simp only[go_sem,]
  rw[z0e]
  exact hT _
end Go.Proofs.YtkollgjffkdliaaGreatDoor.Am
