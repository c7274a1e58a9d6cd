/- Walking: lists of names are joined Walking: the set of removed predicates; the kind of a transformation Walking: the clauses that remain Walking: copies with memory of their own Walking: the transform -/
import Derived.Test.YtmkblnlafljljaaGreatDoorM24
import Derived.Test.YtmkblnlafljljaaGreatDoorM34
open Nat renaming reduceBEq → z0,reduceAdd → z1,reduceLeDiff → z2,reduceSub → z3
set_option linter.all false
namespace Go.Proofs.YtmkblnlafljljaaGreatDoor.Am
open Go
set_option maxRecDepth 100000
def q4g (l:List (List Nat)):AV:= .sl (z1m l) .no
theorem j8q {l:List (List Nat)}:(q4g l).ids=[]:=by simp[q4g,AV.ids,z2p]
theorem x5v {ls:List (List (List Nat))} {i:Nat} (hi:i < ls.length):(ls.take (i + 1)).flatten=(ls.take i).flatten++ls[i]:=by
 rw[List.take_succ_eq_append_getElem hi,List.flatten_append]
 simp
theorem j8r {ls:List (List (List Nat))} {i:Nat}:(ls.take i).flatten.length≤ls.flatten.length:=by
 have:=congrArg (fun x=>(List.flatten x).length) (List.take_append_drop i ls)
 simp only[List.flatten_append,List.length_append] at this
 omega
def x1j (B n:Nat) (acc:List (List Nat)) (r:AV) (o0 o1:AObj):Prop:=
 (n=0∧acc=[]∧∃ u,r= .sl [] u∧q3t B 0 o0 u 1)∨
 (0 < n∧acc=[]∧∃ g,r= .ob (B + 1) g 0 0∧o1= .blk g (List.replicate n (.str [])) true true 0)∨
 (0 < n∧acc≠[]∧∃ g,r= .ob (B + 0) g 0 acc.length∧o0= .blk g (z1m acc) true true 0)
theorem j8s {D:List AObj} {B n gen:Nat} {acc x:List (List Nat)} {r:AV} {o0:AObj} {L:List AObj} (hB:D.length=B) (hL:L=[o0]∨∃ o1,L=[o0,o1]) (hn:n≤2 ^ 20) (hacc:(acc++x).length≤n) (hst:x1j B n acc r o0 (L.getD 1 .dead)) (hpos:0 < n→L.length=2):
  ∃ r' o0' L',z1d (D++L) (B + 0) gen 1 16 false r (.sl (z1m x) .no)=some (r',D++L')∧(L'=[o0']∨∃ o1,L'=[o0',o1])∧x1j B n (acc++x) r' o0' (L'.getD 1 .dead)∧(0 < n→L'.length=2):=by
 have hlen:(acc++x).length=acc.length + x.length:=List.length_append
 have hsx:(z1m x).length=x.length:=List.length_map _
 have hL0:L[0]? =some o0:=by rcases hL with rfl | ⟨o1,rfl⟩ <;> rfl
 rcases hst with ⟨rfl,rfl,u,rfl,hu⟩ | ⟨h0,rfl,g,rfl,ho1⟩ | ⟨h0,hne,g,rfl,ho0⟩
 ·have hx:x=[]:=by simpa using hacc
  subst hx
  have:=z0s (D:=D) (L:=L) (B:=B) (k:=0) (esz:=1) (b:=16) (gen:=gen) (xs:=[]) (ys:=[]) (t:=u) (u:= .no) (o:=o0) hB hL0 hu rfl rfl (by simp)
  refine⟨.sl [] (.at (B + 0) gen), .tip gen 1,L.set 0 (.tip gen 1),this, ?_, .inl ⟨rfl,rfl,_,rfl, .inr (.inr ⟨gen,rfl,rfl⟩)⟩,fun h=>absurd h (by omega)⟩
  rcases hL with rfl | ⟨o1,rfl⟩
  ·exact .inl rfl
  ·exact .inr ⟨o1,rfl⟩
 ·obtain⟨o1,rfl⟩:∃ o1,L=[o0,o1]:=by
   rcases hL with rfl | h
   ·have:=hpos h0;simp at this
   ·exact h
  simp at ho1
  subst ho1
  have hb:z2a (D++[o0, .blk g (List.replicate n (AV.str [])) true true 0]) (B + 1) g=some (List.replicate n (.str []),true,true,0):=by rw[z7b hB];simp[z2a]
  have hxn:x.length≤n:=by simpa using hacc
  have hgt:¬ x.length * (16 + 1) > z0z:=by unfold z0z;omega
  have hall:z0u 1 (List.replicate n (AV.str []))=true:=by
   have:=z1n (l:=List.replicate n [])
   simpa [z1m] using this
  by_cases hx:x=[]
  ·subst hx
   refine⟨.ob (B + 1) g 0 0,o0,[o0, .blk g (List.replicate n (.str [])) true true 0], ?_, .inr ⟨_,rfl⟩, .inr (.inl ⟨h0,rfl,g,rfl,rfl⟩),fun _=>rfl⟩
   unfold z1d
   simp[z5g,z1m,z0u,hb,hall,z0z]
  ·have hxl:0 < x.length:=List.length_pos_iff.2 hx
   refine⟨.ob (B + 0) gen 0 x.length, .blk gen (z1m x) true true 0,[.blk gen (z1m x) true true 0, .dead], ?_, .inr ⟨_,rfl⟩, .inr (.inr ⟨h0,by simpa using hx,gen,by simp,by simp⟩),fun _=>rfl⟩
   unfold z1d
   have hemp:(z1m x).isEmpty=false:=by cases x with
    | nil=>exact absurd rfl hx
    | cons a x=>rfl
   simp only[z5g,z1n,Bool.not_true,Bool.false_eq_true,if_false,hb,hsx,decide_eq_true_eq,hgt,hall,beq_self_eq_true,decide_false,Bool.or_self,hemp,if_true,Nat.zero_le,Nat.le_refl,List.length_replicate,true_and,h0,List.take_zero,List.nil_append,Nat.zero_add,z5j hB,List.set_cons_succ,List.set_cons_zero]
 ·obtain⟨o1,rfl⟩:∃ o1,L=[o0,o1]:=by
   rcases hL with rfl | h
   ·have:=hpos h0;simp at this
   ·exact h
  subst ho0
  have hb:z2a (D++[.blk g (z1m acc) true true 0,o1]) (B + 0) g=some (z1m acc,true,true,0):=by rw[z7b hB];simp[z2a]
  have hgt:¬ (acc.length + x.length) * (16 + 1) > z0z:=by unfold z0z;omega
  have hsa:(z1m acc).length=acc.length:=List.length_map _
  by_cases hx:x=[]
  ·subst hx
   refine⟨.ob (B + 0) g 0 acc.length, .blk g (z1m acc) true true 0,[.blk g (z1m acc) true true 0,o1], ?_, .inr ⟨_,rfl⟩, .inr (.inr ⟨h0,by simpa using hne,g,by simp,by rw[List.append_nil]⟩),fun _=>rfl⟩
   have:¬ acc.length * (16 + 1) > z0z:=by simpa using hgt
   have hb0:=hb
   rw[Nat.add_zero] at hb0
   unfold z1d
   simp only[z5g,show z1m []=[] from rfl,z0u,Bool.not_true,Bool.false_eq_true,if_false,hb0,List.length_nil,Nat.add_zero,decide_eq_true_eq,this,z1n,beq_self_eq_true,decide_false,Bool.or_self,List.isEmpty_nil,if_true]
  ·have hemp:(z1m x).isEmpty=false:=by cases x with
    | nil=>exact absurd rfl hx
    | cons a x=>rfl
   have hapos:0 < acc.length:=List.length_pos_iff.2 hne
   refine⟨.ob (B + 0) gen 0 (acc++x).length, .blk gen (z1m (acc++x)) true true 0,[.blk gen (z1m (acc++x)) true true 0,o1], ?_, .inr ⟨_,rfl⟩, .inr (.inr ⟨h0,by simp[hne],gen,rfl,rfl⟩),fun _=>rfl⟩
   unfold z1d
   simp only[z5g,z1n,Bool.not_true,Bool.false_eq_true,if_false,hb,hsx,decide_eq_true_eq,hgt,beq_self_eq_true,decide_false,Bool.or_self,hemp,if_true,Nat.zero_le,hsa,Nat.le_refl,true_and,hapos,z5j hB,List.set_cons_zero]
   rw[List.take_of_length_le (by rw[hsa];exact Nat.le_refl _),hlen]
   simp[z1m]
theorem w5e {ls:List (List (List Nat))} {B clk:Nat} {D L:List AObj} {v0:AV} {ts:Tmps} {ks:List Kf} {Q:Post} (hl:ls.length≤1000) (hf:ls.flatten.length≤2 ^ 20) (h0:ts 0=v0) (h3:ts 3= .int .i64 0) (h9:ts 9= .sl (ls.map q4g) .no) (h10:ts 10= .int .i64 (ls.length:Int)) (h11:ts 11= .int .i64 0)
  (hQ:∀ (ts':Tmps) (clk':Nat),ts' 0=v0→ts' 3= .int .i64 (ls.flatten.length:Int)→K Gam B (.exit 0) ks ⟨ts',D++L,clk'⟩ Q):K Gam B (.loop j0g) ks ⟨ts,D++L,clk⟩ Q:=by
 refine z0t (fun m q=>∃ i:Nat,i≤ls.length∧m=ls.length - i∧q.ts 0=v0∧q.ts 3= .int .i64 ((ls.take i).flatten.length:Int)∧q.ts 9= .sl (ls.map q4g) .no∧q.ts 10= .int .i64 (ls.length:Int)∧q.ts 11= .int .i64 (i:Int)∧q.h=D++L) ls.length ⟨0,by omega,rfl,h0,h3,h9,h10,h11,rfl⟩ ?_
 clear h0 h3 h9 h10 h11
 rintro m ⟨ts,h,clk⟩ P ⟨i,hi,rfl,q0,q3,q9,q10,q11,rfl⟩ hnx he hr
 dsimp only at q0 q3 q9 q10 q11
 by_cases hlt:i < ls.length
 ·have f1:decide ((i:Int) < (ls.length:Int))=true:=by rw[decide_eq_true_iff];omega
  have f2:IntKind.i64.wrap ((i:Int) + 1)=((i + 1:Nat):Int):=z0c (by omega) (by omega)
  have hix:∀ h,z1t h 1 (.sl (ls.map q4g) .no) (.int .i64 (i:Int))=some (.iptr [.sl (z1m ls[i]) .no] 0,h):=fun h=>z3k hlt rfl rfl
  have hfl:=x5v hlt
  have hle:=j8r (ls:=ls) (i:=i + 1)
  have hll:=congrArg List.length hfl
  rw[List.length_append] at hll
  have hsl:(z1m ls[i]).length=ls[i].length:=List.length_map _
  generalize ls[i]=x at *
  have f3:IntKind.i64.wrap (((ls.take i).flatten.length:Int) + (x.length:Int))=((ls.take (i + 1)).flatten.length:Int):=by rw[z0c (by omega) (by omega)];omega
  have f4:decide (((ls.take (i + 1)).flatten.length:Int) < 0)=false:=by rw[decide_eq_false_iff_not];omega
  simp only[go_sem,z0,j0g,q0,q3,q9,q10,q11,f1,hix,hsl,f3,f4,f2]
  exact hnx (ls.length - (i + 1)) _ (by omega) ⟨i + 1,hlt,rfl,q0,rfl,q9,q10,rfl,rfl⟩
 ·have f1:decide ((i:Int) < (ls.length:Int))=false:=by rw[decide_eq_false_iff_not];omega
  have hti:ls.take i=ls:=List.take_of_length_le (by omega)
  rw[hti] at q3
  simp only[go_sem,z0,j0g,q0,q3,q9,q10,q11,f1]
  refine he _ _ ?_
  exact hQ _ _ (by simp[z0b,q0]) (by simp[z0b,q3])
theorem j8t {ls:List (List (List Nat))} {B clk:Nat} {D L:List AObj} {r o0:AV×AObj} {ts:Tmps} {ks:List Kf} {Q:Post} (hB:D.length=B) (hl:ls.length≤1000) (hf:ls.flatten.length≤2 ^ 20) (hL:L=[o0.2]∨∃ o1,L=[o0.2,o1]) (hpos:0 < ls.flatten.length→L.length=2) (hst:x1j B ls.flatten.length [] r.1 o0.2 (L.getD 1 .dead)) (h6:ts 6=r.1) (h25:ts 25= .sl (ls.map q4g) .no) (h26:ts 26= .int .i64 (ls.length:Int)) (h27:ts 27= .int .i64 0)
  (hQ:∀ (ts':Tmps) (clk':Nat) (r':AV) (o':AObj) (L':List AObj),(L'=[o']∨∃ o1,L'=[o',o1])→(0 < ls.flatten.length→L'.length=2)→x1j B ls.flatten.length ls.flatten r' o' (L'.getD 1 .dead)→ts' 6=r'→K Gam B (.exit 2) ks ⟨ts',D++L',clk'⟩ Q):K Gam B (.loop j0f) ks ⟨ts,D++L,clk⟩ Q:=by
 refine z0t (fun m q=>∃ (i:Nat) (r:AV) (o:AObj) (L:List AObj),i≤ls.length∧m=ls.length - i∧(L=[o]∨∃ o1,L=[o,o1])∧(0 < ls.flatten.length→L.length=2)∧x1j B ls.flatten.length (ls.take i).flatten r o (L.getD 1 .dead)∧q.ts 6=r∧q.ts 25= .sl (ls.map q4g) .no∧q.ts 26= .int .i64 (ls.length:Int)∧q.ts 27= .int .i64 (i:Int)∧q.h=D++L) ls.length ⟨0,r.1,o0.2,L,by omega,rfl,hL,hpos,hst,h6,h25,h26,h27,rfl⟩ ?_
 clear h6 h25 h26 h27 hst hL hpos
 rintro m ⟨ts,h,clk⟩ P ⟨i,r,o,L,hi,rfl,hL,hpos,hst,q6,q25,q26,q27,rfl⟩ hnx he hr
 dsimp only at q6 q25 q26 q27
 by_cases hlt:i < ls.length
 ·have f1:decide ((i:Int) < (ls.length:Int))=true:=by rw[decide_eq_true_iff];omega
  have f2:IntKind.i64.wrap ((i:Int) + 1)=((i + 1:Nat):Int):=z0c (by omega) (by omega)
  have hix:∀ h,z1t h 1 (.sl (ls.map q4g) .no) (.int .i64 (i:Int))=some (.iptr [.sl (z1m ls[i]) .no] 0,h):=fun h=>z3k hlt rfl rfl
  have hfl:=x5v hlt
  have hle:=j8r (ls:=ls) (i:=i + 1)
  rw[hfl] at hle
  generalize ls[i]=x at *
  simp only[go_sem,z0,j0f,q6,q25,q26,q27,f1,hix]
  obtain⟨r',o',L',hap,hL',hst',hpos'⟩:=j8s (gen:=clk + 1 + 3 + 1 + 1) hB hL hf hle hst hpos
  rw[hap]
  simp only[go_sem,z0,q25,q26,q27,f2]
  rw[←hfl] at hst'
  exact hnx (ls.length - (i + 1)) _ (by omega) ⟨i + 1,r',o',L',hlt,rfl,hL',hpos',hst',by simp[z0b],by simp[z0b,q25],by simp[z0b,q26],by simp[z0b],rfl⟩
 ·have f1:decide ((i:Int) < (ls.length:Int))=false:=by rw[decide_eq_false_iff_not];omega
  have hti:ls.take i=ls:=List.take_of_length_le (by omega)
  rw[hti] at hst
  simp only[go_sem,z0,j0f,q6,q25,q26,q27,f1]
  refine he _ _ ?_
  exact hQ _ _ r o L hL hpos hst (by simp[z0b,q6])
theorem j8u {ls:List (List (List Nat))} {u:Tip} (hl:ls.length≤1000) (hf:ls.flatten.length≤2 ^ 20):Pure Gam 100 [.sl (ls.map q4g) u] (.sl (z1m ls.flatten) .no):=by
 refine Pure.of rfl y2f rfl rfl rfl (az:=[.sl (ls.map q4g) .no]) rfl (by simp[idsL,AV.ids,z0d (f:=q4g) fun _=>j8q]) fun D B clk T hB hT=> ?_
 simp only[go_sem,z0,w4e,List.length_map]
 refine w5e (v0:= .sl (ls.map q4g) .no) hl hf (by simp[z0b,z2m]) (by simp[z0b]) (by simp[z0b]) (by simp[z0b]) (by simp[z0b]) fun ts1 clk1 r0 r3=> ?_
 simp only[go_sem,z0,r0,r3]
 have fin:∀ (L':List AObj) (r':AV) (o':AObj),(L'=[o']∨∃ o1,L'=[o',o1])→(0 < ls.flatten.length→L'.length=2)→x1j B ls.flatten.length ls.flatten r' o' (L'.getD 1 .dead)→RV [] (some [r']) T (D++L'):=by
  intro L' r' o' hL' hpos hst
  rcases hst with ⟨hz,hacc,u,rfl,_⟩ | ⟨h0,hacc,_⟩ | ⟨h0,hne,g,rfl,rfl⟩
  ·rw[hacc] at hT
   exact⟨_,rfl,rfl,rfl,hT _⟩
  ·rw[hacc] at h0;simp at h0
  ·obtain⟨o1,rfl⟩:∃ o1,L'=[.blk g (z1m ls.flatten) true true 0,o1]:=by
    rcases hL' with rfl | h
    ·have:=hpos h0;simp at this
    ·exact h
   have hb:z2a (D++[.blk g (z1m ls.flatten) true true 0,o1]) (B + 0) g=some (z1m ls.flatten,true,true,0):=by rw[z7b hB];simp[z2a]
   have hsl:(z1m ls.flatten).length=ls.flatten.length:=List.length_map _
   refine⟨.sl (z1m ls.flatten) .no, ?_,by simp[AV.ids,z2p],by simp[x4t],hT _⟩
   simp only[z1o,conv,q5y,hb,Nat.zero_add,hsl,Nat.le_refl,if_true,List.drop_zero,Option.map_some]
   rw[List.take_of_length_le (by rw[hsl];exact Nat.le_refl _)]
 refine z6i (y2z (by omega) (fun hz=> ?_) fun hpos g c=> ?_)
 ·simp only[go_sem,z0,r0,r3,List.length_map]
  refine j8t (r:=(.sl [] .nil, .dead)) (o0:=(.undef, .dead)) hB hl hf (.inl rfl) (fun h=>by omega) (.inl ⟨hz,rfl,_,rfl, .inl rfl⟩) (by simp[z0b]) (by simp[z0b]) (by simp[z0b]) (by simp[z0b]) fun ts' clk' r' o' L' hL' hpos' hst' q6=> ?_
  simp only[go_sem,z0,q6]
  exact fin L' r' o' hL' hpos' hst'
 ·have hlen:(D++[AObj.dead]).length=B + 1:=by simp[hB]
  simp only[go_sem,z0,r0,r3,List.length_map,hlen,List.append_assoc]
  refine j8t (r:=(.ob (B + 1) g 0 0, .dead)) (o0:=(.undef, .dead)) hB hl hf (.inr ⟨_,rfl⟩) (fun _=>rfl) (.inr (.inl ⟨hpos,rfl,g,rfl,rfl⟩)) (by simp[z0b]) (by simp[z0b]) (by simp[z0b]) (by simp[z0b]) fun ts' clk' r' o' L' hL' hpos' hst' q6=> ?_
  simp only[go_sem,z0,q6]
  exact fin L' r' o' hL' hpos' hst'
theorem j8v {s:Sys} {fl:List (List Nat)} {B clk g0 g:Nat} {D:List AObj} {ts:Tmps} {ks:List Kf} {Q:Post} (hB:D.length=B) (hpl:s.preds.length≤1000) (hfl:fl.length≤2 ^ 20) (h2:ts 2= .ptr (B + 0) g0 0 0) (h6:ts 6= .mp (B + 1) g) (h11:ts 11= .sl (z1m fl) .no) (h12:ts 12= .int .i64 (fl.length:Int)) (h13:ts 13= .int .i64 0)
  (hok:fl.Nodup→(∀ a∈fl,a∈s.preds.map (·.name))→∀ (ts':Tmps) (clk':Nat),ts' 6= .mp (B + 1) g→K Gam B (.exit 0) ks ⟨ts',D++[.blk g0 [.agg [.sl (s.preds.map z0p) .no, .sl (s.clauses.map z0e) .no]] false false 0, .map g (z4b fl)],clk'⟩ Q)
  (hbad:¬ (fl.Nodup∧∀ a∈fl,a∈s.preds.map (·.name))→∀ (ts':Tmps) (L:List AObj) (clk':Nat),ts' 4= .nilmap→ts' 5= .bool false→K Gam B .ret ks ⟨ts',D++L,clk'⟩ Q):
  K Gam B (.loop j2r) ks ⟨ts,D++[.blk g0 [.agg [.sl (s.preds.map z0p) .no, .sl (s.clauses.map z0e) .no]] false false 0, .map g (z4b [])],clk⟩ Q:=by
 refine z0t (fun m q=>∃ (i:Nat),i≤fl.length∧m=fl.length - i∧(fl.take i).Nodup∧(∀ a∈fl.take i,a∈s.preds.map (·.name))∧q.ts 2= .ptr (B + 0) g0 0 0∧q.ts 6= .mp (B + 1) g∧q.ts 11= .sl (z1m fl) .no∧q.ts 12= .int .i64 (fl.length:Int)∧q.ts 13= .int .i64 (i:Int)∧q.h=D++[.blk g0 [.agg [.sl (s.preds.map z0p) .no, .sl (s.clauses.map z0e) .no]] false false 0, .map g (z4b (fl.take i))]) fl.length ⟨0,by omega,rfl,by simp,by simp,h2,h6,h11,h12,h13,rfl⟩ ?_
 clear h2 h6 h11 h12 h13
 rintro m ⟨ts,h,clk⟩ P ⟨i,hi,rfl,hnd,hin,q2,q6,q11,q12,q13,rfl⟩ hnx he hr
 dsimp only at q2 q6 q11 q12 q13
 by_cases hlt:i < fl.length
 ·have f1:decide ((i:Int) < (fl.length:Int))=true:=by rw[decide_eq_true_iff];omega
  have f2:IntKind.i64.wrap ((i:Int) + 1)=((i + 1:Nat):Int):=z0c (by omega) (by omega)
  have hix:∀ h,z1t h 1 (.sl (z1m fl) .no) (.int .i64 (i:Int))=some (.iptr [.str fl[i]] 0,h):=fun h=>z3k hlt rfl rfl
  have htake:fl.take (i + 1)=fl.take i++[fl[i]]:=List.take_succ_eq_append_getElem hlt
  have hsub:(fl.take (i + 1)).Sublist fl:=List.take_sublist _ _
  have p1:=w5a (ps:=s.preds) (u:= .no) hpl
  have hnl:(s.preds.map (·.name)).length≤2 ^ 20:=by simp;omega
  generalize fl[i]=a at *
  have p2:=x5u (l:=s.preds.map (·.name)) (a:=a) (u:= .no) hnl
  by_cases ha:a∈fl.take i
  ·simp only[go_sem,z0,z1,↓reduceIte,j2r,q2,q6,q11,q12,q13,hB,f1,hix,z3t,q2f,ha,z8f]
   refine hr _ (hbad (fun h=> ?_) _ _ _ (by simp[z0b]) (by simp[z0b]))
   have:=h.1.sublist hsub
   rw[htake,List.nodup_append] at this
   exact this.2.2 _ ha _ (by simp) rfl
  ·cases hb:decide (a∈s.preds.map (·.name)) with
   | false=>
     rw[hb] at p2
     simp only[go_sem,z0,z1,↓reduceIte,j2r,q2,q6,q11,q12,q13,hB,f1,hix,z3t,q2f,ha,z5y,z0a p1,z0a p2,Bool.not_false]
     refine hr _ (hbad (fun h=> ?_) _ _ _ (by simp[z0b]) (by simp[z0b]))
     rw[decide_eq_false_iff_not] at hb
     exact hb (h.2 _ (hsub.mem (by rw[htake];simp)))
   | true=>
     rw[hb] at p2
     rw[decide_eq_true_iff] at hb
     have hmu:∀ L:List AObj,z5f L 1 g=some (z4b (fl.take i))→muV (D++L) (.one .str) (.str a) (.bool true) (.mp (B + 1) g)=some (.undef,D++L.set 1 (.map g (z4b (fl.take (i + 1))))):=fun L hL=>by
      rw[htake]
      exact j0i (v:= .bool true) hB hL rfl (q5c ha)
     simp only[go_sem,z0,z1,↓reduceIte,j2r,q2,q6,q11,q12,q13,hB,f1,hix,z3t,q2f,ha,z5y,z0a p1,z0a p2,Bool.not_true,hmu,f2]
     refine hnx (fl.length - (i + 1)) _ (by omega) ⟨i + 1,hlt,rfl, ?_,fun b hb'=> ?_,q2,q6,q11,q12,rfl,rfl⟩
     ·rw[htake,List.nodup_append]
      refine⟨hnd,by simp,fun x hx y hy=> ?_⟩
      simp at hy
      subst hy
      exact fun e=>ha (e ▸ hx)
     ·rw[htake,List.mem_append,List.mem_singleton] at hb'
      rcases hb' with hb' | rfl
      ·exact hin b hb'
      ·exact hb
 ·have f1:decide ((i:Int) < (fl.length:Int))=false:=by rw[decide_eq_false_iff_not];omega
  have hti:fl.take i=fl:=List.take_of_length_le (by omega)
  rw[hti] at hnd hin
  simp only[go_sem,z0,z1,↓reduceIte,j2r,q2,q6,q11,q12,q13,f1]
  refine he _ _ ?_
  rw[hti]
  exact hok hnd hin _ _ (by simp[z0b,q6])
theorem y5o {s:Sys} {un und:List (List Nat)} {u:Tip} {h:List AObj} {clk:Nat} {Q:AV→List AObj→Nat→Prop} (hpl:s.preds.length≤1000) (hl:(un++und).length≤2 ^ 20) (hnd:(un++und).Nodup) (hin:∀ a∈un++und,a∈s.preds.map (·.name)) (hQ:∀ g o c,Q (.tup [.mp (h.length + 1) g, .bool true]) (h++[o, .map g (z4b (un++und))]) c):WC Gam 53 [z1u s, .sl [.sl (z1m un) .no, .sl (z1m und) .no] u] h clk Q:=by
 have hp:=j8u (ls:=[un,und]) (u:= .no) (by simp) (by simpa using hl)
 have hfl:[un,und].flatten=un++und:=by simp
 rw[hfl] at hp
 refine q8r rfl y5c rfl rfl rfl (az:=[z1u s, .sl [.sl (z1m un) .no, .sl (z1m und) .no] .no]) rfl (by simp[idsL,z2r,AV.ids,z2p]) fun D B R hB hBh hR=> ?_
 have hsl:(z1m (un++und)).length=(un++und).length:=List.length_map _
 simp only[List.map_cons,List.map_nil,q4g] at hp
 simp only[go_sem,z0,y2e,hB,z1u,z0a hp,hsl]
 refine j8v (fl:=un++und) hB hpl hl (by simp[z0b]) (by simp[z0b]) (by simp[z0b]) (by simp[z0b]) (by simp[z0b]) (fun _ _ ts' clk' r6=> ?_) (fun hc=>absurd ⟨hnd,hin⟩ hc)
 simp only[go_sem,z0,r6]
 rw[q4f rfl]
 refine hR _ _ ⟨B + 1,by simp[z1o,AV.cv,cvL,AV.ids,idsL],by omega⟩ fun c=> ?_
 have:=hQ
 rw[←hBh] at this
 exact this _ _ c
theorem w5f {s:Sys} {x r:Tf} {k:Int} (hs:SysV s) (hx:TfOk x) (hr:TfOk r) (hk:x.kind=k) (h1:r.pred=[]) (h2:r.into=[]) (h3:r.clause=0) (h4:r.atom=0) (h5:r.un=[]) (h6:r.und=[]) (h7:r.drops=[]):Pure Gam 52 [z1u s,eTf x, .int .i64 k,eTf r] (.bool true):=by
 have hp:=k6m hs
 rw[z1u] at hp
 refine Pure.of rfl w6j rfl rfl rfl (az:=[z1u s,eTf x, .int .i64 k,eTf r]) rfl (by simp[idsL,z2r,z8i hx,z8i hr,AV.ids]) fun D B clk T hB hT=> ?_
 have hs0:z1m []=[]:=rfl
 simp only[go_sem,z0,z1,z2,z3,reduceCtorEq,↓reduceIte,k6i,hB,z1u,eTf,hk,h1,h2,h3,h4,h5,h6,h7,hs0,decide_true,z0a hp,Int.reduceEq]
 rw[z0f]
 exact hT _
def z4c (un und:List (List Nat)) (c:Clause):Option Bool:=
 if c.head.pred∈und∧(c.body.any fun a=>decide (a.pred∈und))=false then none
 else if c.head.pred∈un++und∨(c.body.any fun a=>decide (a.pred∈und))=true then some false
 else if (c.body.any fun a=>decide (a.pred∈un))=true then none else some true
def z5p (un und:List (List Nat)):List Clause→Nat→List Nat→Option (List Nat)
 | [],_,out=>some out
 | c::cs,i,out=>match z4c un und c with
   | none=>none
   | some true=>z5p un und cs (i + 1) (out++[i])
   | some false=>z5p un und cs (i + 1) out
theorem j0o {cs:List Clause} {x:Tf} {B clk gx gR:Nat} {D:List AObj} {a0 a2 o3 o4 o5 o6 s0:AObj} {ts:Tmps} {ks:List Kf} {Q:Post} (hB:D.length=B) (hcl:cs.length≤2 ^ 18) (hbl:∀ c∈cs,c.body.length≤2 ^ 18) (hx:TfOk x) (h7:ts 7= .mp (B + 8) gR) (h9:ts 9= .fn 54 [.ptr (B + 1) gx 0 0]) (h10:ts 10= .fn 56 [.ptr (B + 1) gx 0 0]) (h11:ts 11= .sl [] .nil) (h38:ts 38= .sl (cs.map z0e) .no) (h39:ts 39= .int .i64 (cs.length:Int)) (h40:ts 40= .int .i64 0)
  (hok:∀ out,z5p x.un x.und cs 0 []=some out→∀ (ts':Tmps) (t:Tip) (L:List AObj) (clk':Nat),ts' 11= .sl (out.map nat) t→K Gam B (.exit 0) ks ⟨ts',D++L,clk'⟩ Q)
  (hbad:z5p x.un x.und cs 0 []=none→∀ (ts':Tmps) (L:List AObj) (clk':Nat),ts' 4= .sl [] .nil→ts' 5= .int .i64 8→K Gam B .ret ks ⟨ts',D++L,clk'⟩ Q):
  K Gam B (.loop q9v) ks ⟨ts,D++[a0, .blk gx [eTf x] false false 0,a2,o3,o4,o5,o6,s0, .map gR (z4b (x.un++x.und))],clk⟩ Q:=by
 refine z0t (fun m q=>∃ (i:Nat) (out:List Nat) (t:Tip) (o3 o4 o5 o6:AObj),i≤cs.length∧m=cs.length - i∧out.length≤i∧z5p x.un x.und (cs.drop i) i out=z5p x.un x.und cs 0 []∧q.ts 7= .mp (B + 8) gR∧q.ts 9= .fn 54 [.ptr (B + 1) gx 0 0]∧q.ts 10= .fn 56 [.ptr (B + 1) gx 0 0]∧q.ts 11= .sl (out.map nat) t∧q.ts 38= .sl (cs.map z0e) .no∧q.ts 39= .int .i64 (cs.length:Int)∧q.ts 40= .int .i64 (i:Int)∧q.h=D++[a0, .blk gx [eTf x] false false 0,a2,o3,o4,o5,o6,s0, .map gR (z4b (x.un++x.und))]∧q3t B 6 o6 t 1) cs.length ⟨0,[], .nil,o3,o4,o5,o6,by omega,rfl,by simp,by simp,h7,h9,h10,h11,h38,h39,h40,rfl, .inl rfl⟩ ?_
 clear h7 h9 h10 h11 h38 h39 h40
 rintro m ⟨ts,h,clk⟩ P ⟨i,out,t,o3,o4,o5,o6,hi,rfl,hout,hk,q7,q9,q10,q11,q38,q39,q40,rfl,ht⟩ hnx he hr
 dsimp only at q7 q9 q10 q11 q38 q39 q40
 by_cases hlt:i < cs.length
 ·have f1:decide ((i:Int) < (cs.length:Int))=true:=by rw[decide_eq_true_iff];omega
  have f2:IntKind.i64.wrap ((i:Int) + 1)=((i + 1:Nat):Int):=z0c (by omega) (by omega)
  have hmem:=List.getElem_mem hlt
  have hdr:cs.drop i=cs[i]::cs.drop (i + 1):=List.drop_eq_getElem_cons hlt
  have hix:=fun h=>z6r (l:=cs) (i:=i) (h:=h) (t:= .no) (k:= .i64) hlt
  have hbody:=hbl _ hmem
  generalize cs[i]=c at hmem hdr hix hbody
  rw[hdr,z5p] at hk
  have oids:(AObj.blk gx [eTf x] false false 0).ids=[]:=by simp[AObj.ids,idsL,z8i hx]
  have hh:∀ a0 a2 o3 o4 o5 o6,Has [(B + 1, .blk gx [eTf x] false false 0)] (D++[a0, .blk gx [eTf x] false false 0,a2,o3,o4,o5,o6,s0, .map gR (z4b (x.un++x.und))]):=fun _ _ _ _ _ _=>x8e hB rfl
  have r1:=x8d (enc:=z2y) (xs:=c.body) (t:= .no) (P:=fun a=>decide (a.pred∈x.und)) (c:=54) (cap:=[.ptr (B + 1) gx 0 0]) (fun _=>rfl) (fun _ _=>rfl) z4g (by omega) (by simpa [idsL,AV.ids] using Cov.one (s:=B + 1) oids) fun a _=>j8n hx
  have r2:=x8d (enc:=z2y) (xs:=c.body) (t:= .no) (P:=fun a=>decide (a.pred∈x.un)) (c:=56) (cap:=[.ptr (B + 1) gx 0 0]) (fun _=>rfl) (fun _ _=>rfl) z4g (by omega) (by simpa [idsL,AV.ids] using Cov.one (s:=B + 1) oids) fun a _=>v3s hx
  have r3:=j8n (s:=B + 1) (g:=gx) (x:=x) (a:=c.head) hx
  rw[z2y] at r3
  cases hw:(c.body.any fun a=>decide (a.pred∈x.und)) with
  | true=>
    have hkc:z4c x.un x.und c=some false:=by
     unfold z4c
     rw[hw]
     simp
    rw[hkc] at hk
    rw[hw] at r1
    cases hu:decide (c.head.pred∈x.und) with
    | true=>
      rw[hu] at r3
      have hin:c.head.pred∈x.un++x.und:=by
       rw[decide_eq_true_iff] at hu
       exact List.mem_append_right _ hu
      simp only[go_sem,z0,z1,z2,z3,reduceCtorEq,↓reduceIte,q9v,q7,q9,q10,q11,q38,q39,q40,hB,f1,hix,z0w r1 (hh _ _ _ _ _ _),z0w r3 (hh _ _ _ _ _ _),Bool.not_true,z3t,q2f,hin,z8f,f2]
      exact hnx (cs.length - (i + 1)) _ (by omega) ⟨i + 1,out,t,_,_,_,_,hlt,rfl,by omega,hk,q7,q9,q10,q11,q38,q39,rfl,rfl,ht⟩
    | false=>
      rw[hu] at r3
      by_cases hin:c.head.pred∈x.un++x.und
      ·simp only[go_sem,z0,z1,z2,z3,reduceCtorEq,↓reduceIte,q9v,q7,q9,q10,q11,q38,q39,q40,hB,f1,hix,z0w r1 (hh _ _ _ _ _ _),z0w r3 (hh _ _ _ _ _ _),Bool.not_true,z3t,q2f,hin,z8f,f2]
       exact hnx (cs.length - (i + 1)) _ (by omega) ⟨i + 1,out,t,_,_,_,_,hlt,rfl,by omega,hk,q7,q9,q10,q11,q38,q39,rfl,rfl,ht⟩
      ·simp only[go_sem,z0,z1,z2,z3,reduceCtorEq,↓reduceIte,q9v,q7,q9,q10,q11,q38,q39,q40,hB,f1,hix,z0w r1 (hh _ _ _ _ _ _),z0w r3 (hh _ _ _ _ _ _),Bool.not_true,z3t,q2f,hin,z5y,f2]
       exact hnx (cs.length - (i + 1)) _ (by omega) ⟨i + 1,out,t,_,_,_,_,hlt,rfl,by omega,hk,q7,q9,q10,q11,q38,q39,rfl,rfl,ht⟩
  | false=>
    rw[hw] at r1
    cases hu:decide (c.head.pred∈x.und) with
    | true=>
      have hkc:z4c x.un x.und c=none:=by
       unfold z4c
       rw[decide_eq_true_iff] at hu
       rw[if_pos ⟨hu,hw⟩]
      rw[hkc] at hk
      rw[hu] at r3
      simp only[go_sem,z0,z1,z2,z3,reduceCtorEq,↓reduceIte,q9v,q7,q9,q10,q11,q38,q39,q40,hB,f1,hix,z0w r1 (hh _ _ _ _ _ _),z0w r3 (hh _ _ _ _ _ _),Bool.not_false]
      exact hr _ (hbad hk.symm _ _ _ (by simp[z0b]) (by simp[z0b]))
    | false=>
      rw[hu] at r3
      have hnu:¬ c.head.pred∈x.und:=by rwa [decide_eq_false_iff_not] at hu
      by_cases hin:c.head.pred∈x.un++x.und
      ·have hkc:z4c x.un x.und c=some false:=by
        unfold z4c
        rw[if_neg (fun h=>hnu h.1),if_pos (.inl hin)]
       rw[hkc] at hk
       simp only[go_sem,z0,z1,z2,z3,reduceCtorEq,↓reduceIte,q9v,q7,q9,q10,q11,q38,q39,q40,hB,f1,hix,z0w r1 (hh _ _ _ _ _ _),z0w r3 (hh _ _ _ _ _ _),Bool.not_false,z3t,q2f,hin,z8f,f2]
       exact hnx (cs.length - (i + 1)) _ (by omega) ⟨i + 1,out,t,_,_,_,_,hlt,rfl,by omega,hk,q7,q9,q10,q11,q38,q39,rfl,rfl,ht⟩
      ·cases hn:(c.body.any fun a=>decide (a.pred∈x.un)) with
       | true=>
         have hkc:z4c x.un x.und c=none:=by
          unfold z4c
          rw[if_neg (fun h=>hnu h.1),if_neg (fun h=>h.elim hin (by rw[hw];simp)),if_pos hn]
         rw[hkc] at hk
         rw[hn] at r2
         simp only[go_sem,z0,z1,z2,z3,reduceCtorEq,↓reduceIte,q9v,q7,q9,q10,q11,q38,q39,q40,hB,f1,hix,z0w r1 (hh _ _ _ _ _ _),z0w r3 (hh _ _ _ _ _ _),Bool.not_false,z3t,q2f,hin,z5y,z0w r2 (hh _ _ _ _ _ _)]
         exact hr _ (hbad hk.symm _ _ _ (by simp[z0b]) (by simp[z0b]))
       | false=>
         have hkc:z4c x.un x.und c=some true:=by
          unfold z4c
          rw[if_neg (fun h=>hnu h.1),if_neg (fun h=>h.elim hin (by rw[hw];simp)),if_neg (by rw[hn];simp)]
         rw[hkc] at hk
         rw[hn] at r2
         simp only[go_sem,z0,z1,z2,z3,reduceCtorEq,↓reduceIte,q9v,q7,q9,q10,q11,q38,q39,q40,hB,f1,hix,z0w r1 (hh _ _ _ _ _ _),z0w r3 (hh _ _ _ _ _ _),Bool.not_false,z3t,q2f,hin,z5y,z0w r2 (hh _ _ _ _ _ _)]
         have e8:out.map nat++[i].map nat=(out++[i]).map nat:=by rw[List.map_append]
         rw[show [AV.int .i64 (i:Int)]=[i].map nat from rfl,z0s hB rfl ht z4k z4k (by simp only[List.length_map,List.length_singleton];omega),e8]
         simp only[go_sem,z0,z1,z2,z3,reduceCtorEq,↓reduceIte,q7,q9,q10,q11,q38,q39,q40,f2]
         exact hnx (cs.length - (i + 1)) _ (by omega) ⟨i + 1,out++[i],_,_,_,_,_,hlt,rfl,by simp;omega,hk,q7,q9,q10,rfl,q38,q39,rfl,rfl, .inr (.inr ⟨_,rfl,rfl⟩)⟩
 ·have f1:decide ((i:Int) < (cs.length:Int))=false:=by rw[decide_eq_false_iff_not];omega
  have hdr:cs.drop i=[]:=List.drop_of_length_le (by omega)
  rw[hdr,z5p] at hk
  simp only[go_sem,z0,z1,z2,z3,reduceCtorEq,↓reduceIte,q9v,q7,q9,q10,q11,q38,q39,q40,f1]
  refine he _ _ ?_
  exact hok out hk.symm _ t _ _ (by simp[z0b,q11])
theorem Pure.cv {f:Nat} {args asx':List AV} {v:AV} {af:AFun} (hp:Pure Gam f asx' v) (hext:Gam.ext f=none) (hfn:Gam.fn f=some af) (hb:af.byref=[]) (hobs:z4x args=[]) (hobs':z4x asx'=[]) (hcv:cvL args=cvL asx'):Pure Gam f args v:=by
 intro h clk
 obtain⟨⟨k,hk⟩,hf⟩:=hp h clk
 refine⟨⟨k, ?_⟩, ?_⟩
 ·unfold z5i z0i at hk⊢
  simp only[hext,hfn,hb,z1k hobs,z1k hobs',z5b hobs,z5b hobs',hcv] at hk⊢
  exact hk
 ·unfold z0v at hf⊢
  simp only[hext,hfn,hb,z1k hobs,z1k hobs',hobs,hobs',hcv] at hf⊢
  exact hf
theorem w5g {s:Sys} {x:Tf} {out:List Nat} (hs:SysV s) (hx:TfOk x) (hk:x.kind=2) (h1:x.pred=[]) (h2:x.into=[]) (h3:x.clause=0) (h4:x.atom=0) (h7:x.drops=[]) (hnd:(x.un++x.und).Nodup) (hin:∀ a∈x.un++x.und,a∈s.preds.map (·.name)) (hl:(x.un++x.und).length≤2 ^ 18) (hkept:z5p x.un x.und s.clauses 0 []=some out):Pure Gam 28 [z1u s,eTf x] (.tup [.sl (out.map nat) .no, .int .i64 0]):=by
 have hp:=w5f (r:={x with un:=[],und:=[]}) hs hx ⟨by simp,by simp,hx.drops⟩ hk h1 h2 h3 h4 rfl rfl h7
 have hpl:s.preds.length≤5:=hs.preds.length_le
 have hbl:∀ c∈s.clauses,c.body.length≤2 ^ 18:=fun c hc=>by have:=(hs.clauses c hc).2.1;omega
 have hcl:s.clauses.length≤2 ^ 18:=by have:=hs.len;omega
 rw[z1u,eTf,eTf] at hp
 have h89:=fun u h clk Q=>y5o (s:=s) (un:=x.un) (und:=x.und) (u:=u) (h:=h) (clk:=clk) (Q:=Q) (by omega) (by omega) hnd hin
 rw[z1u] at h89
 refine Pure.of rfl y5a rfl rfl rfl (az:=[z1u s,eTf x]) rfl (by simp[idsL,z2r,z8i hx]) fun D B clk T hB hT=> ?_
 have hs0:z1m []=[]:=rfl
 simp only[hs0] at hp
 have hp:=Pure.cv (args:=[.agg [.sl (s.preds.map z0p) .no, .sl (s.clauses.map z0e) .no], .agg [.int .i64 x.kind, .str x.pred, .str x.into, .int .i64 x.clause, .int .i64 x.atom, .sl (z1m x.un) .no, .sl (z1m x.und) .no, .sl x.drops .no], .int .i64 2, .agg [.int .i64 x.kind, .str x.pred, .str x.into, .int .i64 x.clause, .int .i64 x.atom, .sl [] .nil, .sl [] .nil, .sl x.drops .no]]) hp rfl w6j rfl rfl rfl rfl
 simp only[go_sem,z0,z1,z2,z3,reduceCtorEq,↓reduceIte,w4c,hB,z1u,eTf,z7x,z0a hp,Bool.not_true]
 refine z6i (h89 _ _ _ _ fun gR s0 c2=> ?_)
 have hlen7:∀ a0 a1 a2 a3 a4 a5 a6:AObj,(D++[a0,a1,a2,a3,a4,a5,a6]).length=B + 7:=fun _ _ _ _ _ _ _=>by simp[hB]
 simp only[go_sem,z0,z1,z2,z3,reduceCtorEq,↓reduceIte,hB,hlen7,List.append_assoc,Bool.not_true,List.length_map]
 refine j0o (x:=x) (cs:=s.clauses) (gx:=clk + 1) hB hcl hbl hx (by simp[z0b]) (by simp[z0b]) (by simp[z0b]) (by simp[z0b]) (by simp[z0b]) (by simp[z0b]) (by simp[z0b]) (fun out' ho ts' t L clk' r11=> ?_) (fun hbad=>by rw[hkept] at hbad;cases hbad)
 rw[hkept] at ho
 injection ho with ho
 subst ho
 simp only[go_sem,z0,z1,z2,z3,reduceCtorEq,↓reduceIte,r11]
 rw[z0h rfl (by simp[z1o,AV.cv,cvL,AV.ids,idsL,q4c])]
 exact hT _
theorem x3f {esz b:Nat} {xs:List AV} {t:Tip} (h1:z0u esz xs=true) (h3:idsL xs=[]) (h2:xs.length * (b + 1)≤2 ^ 46):z4p esz b (cvL [.sl xs t])=some (.sl xs .no):=by
 simp only[cvL,AV.cv,z4p]
 rw[if_pos ⟨h1,by rw[h3];rfl,h2⟩]
theorem w5h {xs:List Nat} {t:Tip} (hl:xs.length≤2 ^ 20):Pure Gam 58 [.sl (xs.map nat) t] (.sl (xs.map nat) .no):=Pure.ext (sem:=z4p 1 8) rfl rfl (x3f z4k q4c (by rw[List.length_map];omega))
theorem w5i {xs:List Var} {t:Tip} (hl:xs.length≤2 ^ 20):Pure Gam 59 [.sl (xs.map z1p) t] (.sl (xs.map z1p) .no):=Pure.ext (sem:=z4p 2 24) rfl rfl (x3f z3z (z0d z5x) (by rw[List.length_map];omega))
theorem k6n {xs:Term} {t:Tip} (hl:xs.length≤2 ^ 20):Pure Gam 60 [.sl (xs.map eNode) t] (.sl (xs.map eNode) .no):=Pure.ext (sem:=z4p 5 56) rfl rfl (x3f z6p (z0d z3r) (by rw[List.length_map];omega))
theorem v3t {l:List Term} {u:Tip} (hl:l.length≤2 ^ 20) (hts:∀ t∈l,t.length≤2 ^ 20):Pure Gam 104 [.sl (l.map z0g) u] (.sl (l.map z0g) .no):=by
 refine Pure.of rfl y2g rfl rfl rfl (az:=[.sl (l.map z0g) .no]) rfl (by simp[idsL,AV.ids,z0d z2c]) fun D B clk T hB hT=> ?_
 simp only[go_sem,z0,w4g,List.length_map]
 refine z0t (fun m q=>∃ (i:Nat) (t:Tip) (a o:AObj),i≤l.length∧m=l.length - i∧q.ts 3= .sl ((l.take i).map z0g) t∧q.ts 6= .sl (l.map z0g) .no∧q.ts 7= .int .i64 (l.length:Int)∧q.ts 8= .int .i64 (i:Int)∧q.h=D++[a,o]∧q3t B 1 o t 1) l.length ⟨0, .nil,_,_,by omega,rfl,rfl,rfl,rfl,rfl,rfl, .inl rfl⟩ ?_
 rintro m ⟨ts,h,clk⟩ P ⟨i,t,a,o,hi,rfl,q3,q6,q7,q8,rfl,ht⟩ hnx he hr
 dsimp only at q3 q6 q7 q8
 by_cases hlt:i < l.length
 ·have f1:decide ((i:Int) < (l.length:Int))=true:=by rw[decide_eq_true_iff];omega
  have f2:IntKind.i64.wrap ((i:Int) + 1)=((i + 1:Nat):Int):=z0c (by omega) (by omega)
  have hix:∀ h,z1t h 1 (.sl (l.map z0g) .no) (.int .i64 (i:Int))=some (.iptr [.sl (l[i].map eNode) .no] 0,h):=fun h=>q1x hlt
  have e8:(l.take i).map z0g++[l[i]].map z0g=(l.take (i + 1)).map z0g:=by rw[List.take_succ_eq_append_getElem hlt,List.map_append]
  have hpx:=hts _ (List.getElem_mem hlt)
  generalize l[i]=x at *
  simp only[go_sem,z0,j7z,q3,q6,q7,q8,hB,f1,hix,z0a (k6n hpx)]
  rw[show [AV.sl (x.map eNode) .no]=[x].map z0g from rfl,z0s hB rfl ht z3i z3i (by simp only[List.length_map,List.length_singleton,List.length_take];omega),e8]
  simp only[go_sem,z0,q3,q6,q7,q8,f2]
  exact hnx (l.length - (i + 1)) _ (by omega) ⟨i + 1,_,_,_,hlt,rfl,rfl,q6,q7,rfl,rfl, .inr (.inr ⟨_,rfl,rfl⟩)⟩
 ·have f1:decide ((i:Int) < (l.length:Int))=false:=by rw[decide_eq_false_iff_not];omega
  have hti:l.take i=l:=List.take_of_length_le (by omega)
  rw[hti] at q3
  simp only[go_sem,z0,j7z,q3,q6,q7,q8,f1]
  refine he _ _ ?_
  simp only[go_sem,z0,q3]
  rw[z3s rfl (by simp[AV.cv,AV.ids,z0d z2c])]
  exact hT _
theorem k6o {a:App} (hl:a.args.length≤2 ^ 20) (hts:∀ t∈a.args,t.length≤2 ^ 20):Pure Gam 61 [z2y a] (z2y a):=by
 have hp:=v3t (u:= .no) hl hts
 refine Pure.of rfl y8w rfl rfl rfl (az:=[z2y a]) rfl (by simp[idsL,z4g]) fun D B clk T hB hT=> ?_
 simp only[go_sem,z0,z1,z2,z3,reduceCtorEq,↓reduceIte,y5k,hB,z2y,z1y,z0a hp,z1c,z1b,z0j]
 refine⟨by simp[z1r,apart,z0q,z1l,z1v,AOp.isCall,hB], ?_⟩
 rw[z3s rfl (by simp[AV.cv,cvL,AV.ids,idsL,z0d z2c])]
 exact hT _
theorem w5j {c:Clause} (hb:c.body.length≤2 ^ 20) (hba:∀ a∈c.body,a.args.length≤2 ^ 20∧∀ t∈a.args,t.length≤2 ^ 20) (hh:c.head.args.length≤2 ^ 20∧∀ t∈c.head.args,t.length≤2 ^ 20) (hv:c.vars.length≤2 ^ 20) (hg:c.guard.length≤2 ^ 20):Pure Gam 31 [z0e c] (z0e c):=by
 have hp:=k6o hh.1 hh.2
 rw[z2y] at hp
 refine Pure.of rfl y8v rfl rfl rfl (az:=[z0e c]) rfl (by simp[idsL,z1s]) fun D B clk T hB hT=> ?_
 simp only[go_sem,z0,z1,z2,z3,reduceCtorEq,↓reduceIte,y5j,hB,z0e,z0g,z1y,z0a (w5i hv),z0a (k6n hg),z0a hp,List.length_map]
 refine⟨by simp[z1r,apart,z0q,z1l,z1v,AOp.isCall,hB,AV.ids,idsL,z0d z5x,z0d z3r,z0d z2c], ?_⟩
 refine z0t (fun m q=>∃ (i g1 g2:Nat) (t:Tip) (a o3 o4 o5:AObj),i≤c.body.length∧m=c.body.length - i∧q.ts 2= .ptr (B + 1) g1 0 0∧q.ts 3= .ptr (B + 2) g2 0 0∧q.ts 17= .sl (c.body.map z2y) .no∧q.ts 18= .int .i64 (c.body.length:Int)∧q.ts 19= .int .i64 (i:Int)∧q.h=D++[a, .blk g1 [.agg [.sl [] .nil, .sl [] .nil, .sl [] .nil, .str [], .sl [] .nil]] false false 0, .blk g2 [.agg [.sl (c.vars.map z1p) .no, .sl ((c.body.take i).map z2y) t, .sl (c.guard.map eNode) .no, .str c.head.pred, .sl (c.head.args.map z0g) .no]] false false 0,o3,o4,o5]∧q3t B 5 o5 t 2) c.body.length ⟨0,_,_, .nil,_,_,_,_,by omega,rfl,rfl,rfl,rfl,rfl,rfl,rfl, .inl rfl⟩ ?_
 rintro m ⟨ts,h,clk⟩ P ⟨i,g1,g2,t,a,o3,o4,o5,hi,rfl,q2,q3,q17,q18,q19,rfl,ht⟩ hnx he hr
 dsimp only at q2 q3 q17 q18 q19
 by_cases hlt:i < c.body.length
 ·have f1:decide ((i:Int) < (c.body.length:Int))=true:=by rw[decide_eq_true_iff];omega
  have f2:IntKind.i64.wrap ((i:Int) + 1)=((i + 1:Nat):Int):=z0c (by omega) (by omega)
  have hix:∀ h,z1t h 2 (.sl (c.body.map z2y) .no) (.int .i64 (i:Int))=some (.iptr [.str c.body[i].pred, .sl (c.body[i].args.map z0g) .no] 0,h):=fun h=>z3k hlt rfl rfl
  have e8:(c.body.take i).map z2y++[c.body[i]].map z2y=(c.body.take (i + 1)).map z2y:=by rw[List.take_succ_eq_append_getElem hlt,List.map_append]
  have hpa:=k6o (a:=c.body[i]) (hba _ (List.getElem_mem hlt)).1 (hba _ (List.getElem_mem hlt)).2
  rw[z2y] at hpa
  generalize c.body[i]=x at *
  simp only[go_sem,z0,z1,z2,z3,reduceCtorEq,↓reduceIte,v2z,q2,q3,q17,q18,q19,hB,z1y,f1,hix,z0a hpa]
  rw[show [AV.agg [.str x.pred, .sl (x.args.map z0g) .no]]=[x].map z2y from rfl,z0s hB rfl ht z6q z6q (by simp only[List.length_map,List.length_singleton,List.length_take];omega),e8]
  simp only[go_sem,z0,z1,z2,z3,reduceCtorEq,↓reduceIte,q2,q3,q17,q18,q19,hB,f2]
  refine⟨by simp[z1r,apart,z0q,z1l,z1v,AOp.isCall,hB,AV.ids,idsL,z0d z2c], ?_⟩
  exact hnx (c.body.length - (i + 1)) _ (by omega) ⟨i + 1,g1,g2,_,_,_,_,_,hlt,rfl,q2,q3,q17,q18,rfl,rfl, .inr (.inr ⟨_,rfl,rfl⟩)⟩
 ·have f1:decide ((i:Int) < (c.body.length:Int))=false:=by rw[decide_eq_false_iff_not];omega
  have hti:c.body.take i=c.body:=List.take_of_length_le (by omega)
  rw[hti]
  simp only[go_sem,z0,z1,z2,z3,reduceCtorEq,↓reduceIte,v2z,q2,q3,q17,q18,q19,f1]
  refine he _ _ ?_
  simp only[go_sem,z0,z1,z2,z3,reduceCtorEq,↓reduceIte,q2,q3,hB,z1c,z1b,z0j]
  rw[z3s rfl (by simp[AV.cv,cvL,AV.ids,idsL,z0d z5x,z0d z3r,z0d z2c,z0d z4g])]
  exact hT _
theorem w5k {ps:List Func} {u:Tip} (hl:ps.length≤1000) (hpa:∀ f∈ps,f.args.length≤2 ^ 20):Pure Gam 29 [.sl (ps.map z0p) u] (.sl (ps.map z0p) .no):=by
 refine Pure.of rfl y8u rfl rfl rfl (az:=[.sl (ps.map z0p) .no]) rfl (by simp[idsL,AV.ids,z0d z2u]) fun D B clk T hB hT=> ?_
 simp only[go_sem,z0,z1,z2,z3,reduceCtorEq,↓reduceIte,y5i,List.length_map]
 refine z0t (fun m q=>∃ (i:Nat) (t:Tip) (a b o:AObj),i≤ps.length∧m=ps.length - i∧q.ts 3= .sl ((ps.take i).map z0p) t∧q.ts 6= .sl (ps.map z0p) .no∧q.ts 7= .int .i64 (ps.length:Int)∧q.ts 8= .int .i64 (i:Int)∧q.h=D++[a,b,o]∧q3t B 2 o t 3) ps.length ⟨0, .nil,_,_,_,by omega,rfl,rfl,rfl,rfl,rfl,rfl, .inl rfl⟩ ?_
 rintro m ⟨ts,h,clk⟩ P ⟨i,t,a,b,o,hi,rfl,q3,q6,q7,q8,rfl,ht⟩ hnx he hr
 dsimp only at q3 q6 q7 q8
 by_cases hlt:i < ps.length
 ·have f1:decide ((i:Int) < (ps.length:Int))=true:=by rw[decide_eq_true_iff];omega
  have f2:IntKind.i64.wrap ((i:Int) + 1)=((i + 1:Nat):Int):=z0c (by omega) (by omega)
  have hix:=fun h=>q0l (l:=ps) (i:=i) (h:=h) (t:= .no) (k:= .i64) hlt
  have e8:(ps.take i).map z0p++[ps[i]].map z0p=(ps.take (i + 1)).map z0p:=by rw[List.take_succ_eq_append_getElem hlt,List.map_append]
  have hpf:=hpa _ (List.getElem_mem hlt)
  generalize ps[i]=f at *
  simp only[go_sem,z0,z1,z2,z3,reduceCtorEq,↓reduceIte,v2y,q3,q6,q7,q8,hB,f1,hix,z0a (w5h hpf)]
  rw[show [AV.agg [.str f.name, .sl (f.args.map nat) .no, .int .i64 (f.result:Int)]]=[f].map z0p from rfl,z0s hB rfl ht z4h z4h (by simp only[List.length_map,List.length_singleton,List.length_take];omega),e8]
  simp only[go_sem,z0,z1,z2,z3,reduceCtorEq,↓reduceIte,q3,q6,q7,q8,f2]
  exact hnx (ps.length - (i + 1)) _ (by omega) ⟨i + 1,_,_,_,_,hlt,rfl,rfl,q6,q7,rfl,rfl, .inr (.inr ⟨_,rfl,rfl⟩)⟩
 ·have f1:decide ((i:Int) < (ps.length:Int))=false:=by rw[decide_eq_false_iff_not];omega
  have hti:ps.take i=ps:=List.take_of_length_le (by omega)
  rw[hti] at q3
  simp only[go_sem,z0,z1,z2,z3,reduceCtorEq,↓reduceIte,v2y,q3,q6,q7,q8,f1]
  refine he _ _ ?_
  simp only[go_sem,z0,z1,z2,z3,reduceCtorEq,↓reduceIte,q3]
  rw[z3s rfl (by simp[AV.cv,AV.ids,z0d z2u])]
  exact hT _
def z9u (x:Tf) (ps:List Func):List Func:=ps.filter fun f=> !(decide (f.name∈x.un) || decide (f.name∈x.und))
def z6j (x:Tf) (cs:List Clause):List Clause:=cs.filter fun c=>decide (z4c x.un x.und c=some true)
def q1m (x:Tf) (s:Sys):Sys:=⟨z9u x s.preds,z6j x s.clauses⟩
theorem q5e {un und:List (List Nat)}:∀ {cs pre kc:List Clause} {out res:List Nat},(out.map fun i=>(pre++cs)[i]?)=kc.map some→z5p un und cs pre.length out=some res→(res.map fun i=>(pre++cs)[i]?)=(kc++cs.filter fun c=>decide (z4c un und c=some true)).map some
 | [],pre,kc,out,res,h,hk=>by
   simp only[z5p] at hk
   injection hk with hk
   subst hk
   simpa using h
 | c::cs,pre,kc,out,res,h,hk=>by
   have e:pre++c::cs=(pre++[c])++cs:=by simp
   have hl:(pre++[c]).length=pre.length + 1:=by simp
   rw[z5p] at hk
   cases hc:z4c un und c with
   | none=>rw[hc] at hk;cases hk
   | some b=>
     rw[hc] at hk
     rw[e] at h⊢
     cases b with
     | true=>
       dsimp only at hk
       rw[←hl] at hk
       have:=q5e (kc:=kc++[c]) (by rw[List.map_append,List.map_append,h];congr 1;simp) hk
       rw[this]
       simp[List.filter_cons,hc]
     | false=>
       dsimp only at hk
       rw[←hl] at hk
       have:=q5e (kc:=kc) h hk
       rw[this]
       simp[List.filter_cons,hc]
theorem k3u {x:Tf} {cs:List Clause} {out:List Nat} (h:z5p x.un x.und cs 0 []=some out):(out.map fun i=>cs[i]?)=(z6j x cs).map some:=by
 have:=q5e (un:=x.un) (und:=x.und) (cs:=cs) (pre:=[]) (kc:=[]) (out:=[]) (res:=out) rfl h
 simpa [z6j] using this
structure SmallC (c:Clause):Prop where
 body:c.body.length≤2 ^ 20
 bargs:∀ a∈c.body,a.args.length≤2 ^ 20∧∀ t∈a.args,t.length≤2 ^ 20
 hargs:c.head.args.length≤2 ^ 20∧∀ t∈c.head.args,t.length≤2 ^ 20
 vars:c.vars.length≤2 ^ 20
 guard:c.guard.length≤2 ^ 20
theorem k3v {ps:List Func} {x:Tf} {B clk g0 gx gr g8:Nat} {D:List AObj} {v6 s0 rr:AV} {o4 o5 o6 o7 o8:AObj} {ts:Tmps} {ks:List Kf} {Q:Post} (hB:D.length=B) (hpl:ps.length≤1000) (hx:TfOk x) (h2:ts 2= .ptr (B + 0) g0 0 0) (h3:ts 3= .ptr (B + 1) gx 0 0) (h4:ts 4= .ptr (B + 2) gr 0 0) (h6:ts 6=v6) (h8:ts 8= .ptr (B + 3) g8 0 0) (h25:ts 25= .sl (ps.map z0p) .no) (h26:ts 26= .int .i64 (ps.length:Int)) (h27:ts 27= .int .i64 0)
  (hQ:∀ (ts':Tmps) (t:Tip) (o4 o5 o6 o7 o8:AObj) (clk':Nat),ts' 2= .ptr (B + 0) g0 0 0→ts' 3= .ptr (B + 1) gx 0 0→ts' 4= .ptr (B + 2) gr 0 0→ts' 6=v6→ts' 8= .ptr (B + 3) g8 0 0→K Gam B (.exit 0) ks ⟨ts',D++[.blk g0 [s0] false false 0, .blk gx [eTf x] false false 0, .blk gr [rr] false false 0, .blk g8 [.agg [.sl ((z9u x ps).map z0p) t, .sl [] .nil]] false false 0,o4,o5,o6,o7,o8],clk'⟩ Q):
  K Gam B (.loop j7x) ks ⟨ts,D++[.blk g0 [s0] false false 0, .blk gx [eTf x] false false 0, .blk gr [rr] false false 0, .blk g8 [.agg [.sl [] .nil, .sl [] .nil]] false false 0,o4,o5,o6,o7,o8],clk⟩ Q:=by
 refine z0t (fun m q=>∃ (i:Nat) (t:Tip) (o4 o5 o6 o7 o8:AObj),i≤ps.length∧m=ps.length - i∧q.ts 2= .ptr (B + 0) g0 0 0∧q.ts 3= .ptr (B + 1) gx 0 0∧q.ts 4= .ptr (B + 2) gr 0 0∧q.ts 6=v6∧q.ts 8= .ptr (B + 3) g8 0 0∧q.ts 25= .sl (ps.map z0p) .no∧q.ts 26= .int .i64 (ps.length:Int)∧q.ts 27= .int .i64 (i:Int)∧q.h=D++[.blk g0 [s0] false false 0, .blk gx [eTf x] false false 0, .blk gr [rr] false false 0, .blk g8 [.agg [.sl ((z9u x (ps.take i)).map z0p) t, .sl [] .nil]] false false 0,o4,o5,o6,o7,o8]∧q3t B 6 o6 t 3) ps.length ⟨0, .nil,o4,o5,o6,o7,o8,by omega,rfl,h2,h3,h4,h6,h8,h25,h26,h27,rfl, .inl rfl⟩ ?_
 clear h2 h3 h4 h6 h8 h25 h26 h27
 rintro m ⟨ts,h,clk⟩ P ⟨i,t,o4,o5,o6,o7,o8,hi,rfl,q2,q3,q4,q6,q8,q25,q26,q27,rfl,ht⟩ hnx he hr
 dsimp only at q2 q3 q4 q6 q8 q25 q26 q27
 by_cases hlt:i < ps.length
 ·have f1:decide ((i:Int) < (ps.length:Int))=true:=by rw[decide_eq_true_iff];omega
  have f2:IntKind.i64.wrap ((i:Int) + 1)=((i + 1:Nat):Int):=z0c (by omega) (by omega)
  have hix:=fun h=>q0l (l:=ps) (i:=i) (h:=h) (t:= .no) (k:= .i64) hlt
  have hkp:z9u x (ps.take (i + 1))=z9u x (ps.take i)++(if (decide (ps[i].name∈x.un) || decide (ps[i].name∈x.und))=true then [] else [ps[i]]):=by
   unfold z9u
   rw[List.take_succ_eq_append_getElem hlt,List.filter_append]
   congr 1
   cases hb:(decide (ps[i].name∈x.un) || decide (ps[i].name∈x.und)) <;> simp only[List.filter_cons,List.filter_nil,hb,Bool.not_false,Bool.not_true,if_true,Bool.false_eq_true,if_false]
  have hkl:(z9u x (ps.take i)).length≤1000:=by
   have:=List.length_filter_le (fun f:Func=> !(decide (f.name∈x.un) || decide (f.name∈x.und))) (ps.take i)
   rw[List.length_take] at this
   unfold z9u
   omega
  generalize ps[i]=f at *
  have p1:=w5b (x:=x) (a:=f.name) hx
  rw[eTf] at p1
  cases hb:(decide (f.name∈x.un) || decide (f.name∈x.und)) with
  | true=>
    rw[hb] at p1
    rw[hb,if_pos rfl,List.append_nil] at hkp
    simp only[go_sem,z0,z1,z2,z3,reduceCtorEq,↓reduceIte,j7x,q2,q3,q4,q6,q8,q25,q26,q27,hB,f1,hix,eTf,z0a p1,Bool.not_true,f2]
    rw[←hkp]
    exact hnx (ps.length - (i + 1)) _ (by omega) ⟨i + 1,t,_,_,_,_,_,hlt,rfl,q2,q3,q4,q6,q8,q25,q26,rfl,rfl,ht⟩
  | false=>
    rw[hb] at p1
    rw[hb,if_neg (by simp)] at hkp
    have e8:(z9u x (ps.take i)).map z0p++[f].map z0p=(z9u x (ps.take (i + 1))).map z0p:=by rw[hkp,List.map_append]
    simp only[go_sem,z0,z1,z2,z3,reduceCtorEq,↓reduceIte,j7x,q2,q3,q4,q6,q8,q25,q26,q27,hB,f1,hix,eTf,z0a p1,Bool.not_false]
    rw[show [AV.agg [.str f.name, .sl (f.args.map nat) .no, .int .i64 (f.result:Int)]]=[f].map z0p from rfl,z0s hB rfl ht z4h z4h (by simp only[List.length_map,List.length_singleton];omega),e8]
    simp only[go_sem,z0,z1,z2,z3,reduceCtorEq,↓reduceIte,q2,q3,q4,q6,q8,q25,q26,q27,hB,f2]
    exact hnx (ps.length - (i + 1)) _ (by omega) ⟨i + 1,_,_,_,_,_,_,hlt,rfl,q2,q3,q4,q6,q8,q25,q26,rfl,rfl, .inr (.inr ⟨_,rfl,rfl⟩)⟩
 ·have f1:decide ((i:Int) < (ps.length:Int))=false:=by rw[decide_eq_false_iff_not];omega
  have hti:ps.take i=ps:=List.take_of_length_le (by omega)
  simp only[go_sem,z0,z1,z2,z3,reduceCtorEq,↓reduceIte,j7x,q2,q3,q4,q6,q8,q25,q26,q27,f1]
  refine he _ _ ?_
  rw[hti]
  exact hQ _ t _ _ _ _ _ _ (by simp[z0b,q2]) (by simp[z0b,q3]) (by simp[z0b,q4]) (by simp[z0b,q6]) (by simp[z0b,q8])
theorem j2x {cs kc:List Clause} {out:List Nat} {pv:List AV} {tp:Tip} {B clk g0 g8 gr:Nat} {D:List AObj} {pp rr:AV} {o1 o4 o5 o6 o7 o8:AObj} {ts:Tmps} {ks:List Kf} {Q:Post} (hB:D.length=B) (hcl:out.length≤2 ^ 18) (hat:(out.map fun i=>cs[i]?)=kc.map some) (hbl:∀ c∈cs,SmallC c) (h2:ts 2= .ptr (B + 0) g0 0 0) (h4:ts 4= .ptr (B + 2) gr 0 0) (h8:ts 8= .ptr (B + 3) g8 0 0) (h43:ts 43= .sl (out.map nat) .no) (h44:ts 44= .int .i64 (out.length:Int)) (h45:ts 45= .int .i64 0)
  (hQ:∀ (ts':Tmps) (t:Tip) (o4 o5 o6 o7 o8:AObj) (clk':Nat),ts' 4= .ptr (B + 2) gr 0 0→ts' 8= .ptr (B + 3) g8 0 0→K Gam B (.exit 2) ks ⟨ts',D++[.blk g0 [.agg [pp, .sl (cs.map z0e) .no]] false false 0,o1, .blk gr [rr] false false 0, .blk g8 [.agg [.sl pv tp, .sl (kc.map z0e) t]] false false 0,o4,o5,o6,o7,o8],clk'⟩ Q):
  K Gam B (.loop k2w) ks ⟨ts,D++[.blk g0 [.agg [pp, .sl (cs.map z0e) .no]] false false 0,o1, .blk gr [rr] false false 0, .blk g8 [.agg [.sl pv tp, .sl [] .nil]] false false 0,o4,o5,o6,o7,o8],clk⟩ Q:=by
 have hlen:out.length=kc.length:=by simpa using congrArg List.length hat
 refine z0t (fun m q=>∃ (i:Nat) (t:Tip) (o4 o5 o6 o7 o8:AObj),i≤out.length∧m=out.length - i∧q.ts 2= .ptr (B + 0) g0 0 0∧q.ts 4= .ptr (B + 2) gr 0 0∧q.ts 8= .ptr (B + 3) g8 0 0∧q.ts 43= .sl (out.map nat) .no∧q.ts 44= .int .i64 (out.length:Int)∧q.ts 45= .int .i64 (i:Int)∧q.h=D++[.blk g0 [.agg [pp, .sl (cs.map z0e) .no]] false false 0,o1, .blk gr [rr] false false 0, .blk g8 [.agg [.sl pv tp, .sl ((kc.take i).map z0e) t]] false false 0,o4,o5,o6,o7,o8]∧q3t B 8 o8 t 5) out.length ⟨0, .nil,o4,o5,o6,o7,o8,by omega,rfl,h2,h4,h8,h43,h44,h45,rfl, .inl rfl⟩ ?_
 clear h2 h4 h8 h43 h44 h45
 rintro m ⟨ts,h,clk⟩ P ⟨i,t,o4,o5,o6,o7,o8,hi,rfl,q2,q4,q8,q43,q44,q45,rfl,ht⟩ hnx he hr
 dsimp only at q2 q4 q8 q43 q44 q45
 by_cases hlt:i < out.length
 ·have f1:decide ((i:Int) < (out.length:Int))=true:=by rw[decide_eq_true_iff];omega
  have f2:IntKind.i64.wrap ((i:Int) + 1)=((i + 1:Nat):Int):=z0c (by omega) (by omega)
  have hki:i < kc.length:=by omega
  have hci:cs[out[i]]? =some kc[i]:=by
   have:=congrArg (fun l=>l[i]?) hat
   simpa [hlt,hki] using this
  have hol:out[i] < cs.length:=by
   rw[List.getElem?_eq_some_iff] at hci
   exact hci.1
  have hce:cs[out[i]]=kc[i]:=by
   rw[List.getElem?_eq_some_iff] at hci
   exact hci.2
  have hix1:∀ h,z1t h 1 (.sl (out.map nat) .no) (.int .i64 (i:Int))=some (.iptr [.int .i64 (out[i]:Int)] 0,h):=fun h=>z3k hlt rfl rfl
  have hix2:=fun h=>z6r (l:=cs) (i:=out[i]) (h:=h) (t:= .no) (k:= .i64) hol
  rw[hce] at hix2
  have e8:(kc.take i).map z0e++[kc[i]].map z0e=(kc.take (i + 1)).map z0e:=by rw[List.take_succ_eq_append_getElem hki,List.map_append]
  have hb:=hbl _ (List.mem_of_getElem? hci)
  have hp:=w5j (c:=kc[i]) hb.body hb.bargs hb.hargs hb.vars hb.guard
  rw[z0e,z0g] at hp
  generalize out[i]=j at *
  generalize kc[i]=c at *
  simp only[go_sem,z0,z1,z2,z3,reduceCtorEq,↓reduceIte,k2w,q2,q4,q8,q43,q44,q45,hB,z1y,f1,hix1,hix2,z0a hp]
  rw[show [AV.agg [.sl (c.vars.map z1p) .no, .sl (c.body.map z2y) .no, .sl (c.guard.map eNode) .no, .str c.head.pred, .sl (c.head.args.map z0g) .no]]=[c].map z0e from rfl,z0s hB rfl ht z3b z3b (by simp only[List.length_map,List.length_singleton,List.length_take];omega),e8]
  simp only[go_sem,z0,z1,z2,z3,reduceCtorEq,↓reduceIte,q2,q4,q8,q43,q44,q45,hB,f2]
  refine⟨by simp[z1r,apart,z0q,z1l,z1v,AOp.isCall,hB,AV.ids,idsL,z0d z2c,z0d z5x,z0d z4g,z0d z3r,z0d z1s], ?_⟩
  exact hnx (out.length - (i + 1)) _ (by omega) ⟨i + 1,_,_,_,_,_,_,hlt,rfl,q2,q4,q8,q43,q44,rfl,rfl, .inr (.inr ⟨_,rfl,rfl⟩)⟩
 ·have f1:decide ((i:Int) < (out.length:Int))=false:=by rw[decide_eq_false_iff_not];omega
  have hti:kc.take i=kc:=List.take_of_length_le (by omega)
  simp only[go_sem,z0,z1,z2,z3,reduceCtorEq,↓reduceIte,k2w,q2,q4,q8,q43,q44,q45,f1]
  refine he _ _ ?_
  rw[hti]
  exact hQ _ t _ _ _ _ _ _ (by simp[z0b,q4]) (by simp[z0b,q8])
theorem q9b {un und:List (List Nat)}:∀ {cs:List Clause} {i:Nat} {out res:List Nat},z5p un und cs i out=some res→res.length≤out.length + cs.length
 | [],i,out,res,h=>by
   simp only[z5p] at h
   injection h with h
   subst h
   simp
 | c::cs,i,out,res,h=>by
   rw[z5p] at h
   cases hc:z4c un und c with
   | none=>rw[hc] at h;cases h
   | some b=>
     rw[hc] at h
     cases b with
     | true=>
       have:=q9b h
       simp at this⊢
       omega
     | false=>
       have:=q9b h
       simp at this⊢
       omega
theorem AppOk.len {ps:List Func} {V:List Var} {a:App} (h:AppOk ps V a) (hp:PrOk ps):a.args.length≤2 ^ 20∧∀ t∈a.args,t.length≤2 ^ 20:=by
 obtain⟨f,hf,_,hl,hz⟩:=h
 have h40:=(hp.args f hf).1
 refine⟨by omega,fun t ht=> ?_⟩
 obtain⟨i,hi,rfl⟩:=List.getElem_of_mem ht
 have hif:i < f.args.length:=by omega
 have hm:(f.args[i],a.args[i])∈f.args.zip a.args:=by
  have:(f.args.zip a.args)[i]? =some (f.args[i],a.args[i]):=by simp[List.getElem?_zip_eq_some,hif,hi]
  exact List.mem_of_getElem? this
 have:=(hz _ hm).2.1
 dsimp only at this
 omega
theorem SysV.sizes {s:Sys} (hs:SysV s):∀ c∈s.clauses,SmallC c:=fun c hc=>by
 obtain⟨hv,hb,hba,hg,hh⟩:=hs.clauses c hc
 refine⟨by omega,fun a ha=>(hba a ha).len hs.pr, ?_,by have:c.vars.length≤8:=hv.length_le;omega,by have:=hg.2.1;omega⟩
 rcases hh with ⟨_,h⟩ | h
 ·rw[h];simp
 ·exact h.len hs.pr
theorem w5l {s:Sys} {x:Tf} {out:List Nat} (hs:SysV s) (hx:TfOk x) (hk:x.kind=2) (h1:x.pred=[]) (h2:x.into=[]) (h3:x.clause=0) (h4:x.atom=0) (h7:x.drops=[]) (hnd:(x.un++x.und).Nodup) (hin:∀ a∈x.un++x.und,a∈s.preds.map (·.name)) (hl:(x.un++x.und).length≤2 ^ 18) (hkept:z5p x.un x.und s.clauses 0 []=some out):Pure Gam 12 [z1u s,eTf x] (.tup [z1u (q1m x s), .int .i64 0]):=by
 have hp:=w5g hs hx hk h1 h2 h3 h4 h7 hnd hin hl hkept
 have hpl:s.preds.length≤5:=hs.preds.length_le
 have hcl:=hs.len
 have hol:=q9b hkept
 simp only[List.length_nil] at hol
 have hp38:=w5k (ps:=s.preds) (u:= .no) (by omega) fun f hf=>by have:=(hs.pr.args f hf).1;omega
 rw[z1u,eTf] at hp
 refine Pure.of rfl y4z rfl rfl rfl (az:=[z1u s,eTf x]) rfl (by simp[idsL,z2r,z8i hx]) fun D B clk T hB hT=> ?_
 simp only[go_sem,z0,z1,z2,z3,reduceCtorEq,↓reduceIte,y2b,hB,z1u,eTf,z0a hp,Int.reduceEq,decide_true,Bool.not_true,z0a hp38,List.length_map]
 refine k3v (ps:=s.preds) (x:=x) (g0:=clk) (gx:=clk + 1) (gr:=clk + 2) (v6:= .sl (out.map nat) .no) hB (by omega) hx (by simp[z0b]) (by simp[z0b]) (by simp[z0b]) (by simp[z0b]) (by simp[z0b]) (by simp[z0b]) (by simp[z0b]) (by simp[z0b]) fun ts1 t1 o4 o5 o6 o7 o8 clk1 r2 r3 r4 r6 r8=> ?_
 simp only[go_sem,z0,z1,z2,z3,reduceCtorEq,↓reduceIte,r6,List.length_map]
 refine j2x (cs:=s.clauses) (kc:=z6j x s.clauses) (out:=out) (g0:=clk) (gr:=clk + 2) hB (by omega) (k3u hkept) hs.sizes (by simp[z0b,r2]) (by simp[z0b,r4]) (by simp[z0b,r8]) (by simp[z0b]) (by simp[z0b]) (by simp[z0b]) fun ts2 t2 o4 o5 o6 o7 o8 clk2 q4 q8=> ?_
 simp only[go_sem,z0,z1,z2,z3,reduceCtorEq,↓reduceIte,q4,q8,hB,z1c,z1b,z0j]
 rw[z0h rfl (by simp[z1o,AV.cv,cvL,AV.ids,idsL,z0d z2u,z0d z1s])]
 exact hT _
section
variable {s:Sys}
abbrev DS (s:Sys):List Nat→Prop:=Der s.clauses
abbrev NS (s:Sys):List Nat→Prop:=Need s.clauses (Der s.clauses)
def names (s:Sys):List (List Nat):=s.preds.map (·.name)
open Classical in
theorem q4h {a:List Nat}:a∈(z1i s).un↔a∈names s∧DS s a∧¬ NS s a:=by
 simp[z1i,names,List.mem_filter]
open Classical in
theorem z8j {a:List Nat}:a∈(z1i s).und↔a∈names s∧¬ DS s a:=by
 simp[z1i,names,List.mem_filter]
theorem AppOk.name {ps:List Func} {V:List Var} {a:App} (h:AppOk ps V a):a.pred∈ps.map (·.name):=by
 obtain⟨f,hf,hn,_⟩:=h
 rw[hn]
 exact List.mem_map.2 ⟨f,hf,rfl⟩
theorem SysV.body (hs:SysV s) {c:Clause} (hc:c∈s.clauses) {a:App} (ha:a∈c.body):a.pred∈names s:=((hs.clauses c hc).2.2.1 a ha).name
theorem SysV.head (hs:SysV s) {c:Clause} (hc:c∈s.clauses):c.head.pred=[]∨c.head.pred∈names s:=by
 obtain⟨_,_,_,_,hh⟩:=hs.clauses c hc
 rcases hh with ⟨h,_⟩ | h
 ·exact .inl h
 ·exact .inr h.name
theorem SysV.name_ne (hs:SysV s) {a:List Nat} (ha:a∈names s):a≠[]:=by
 obtain⟨f,hf,rfl⟩:=List.mem_map.1 ha
 exact hs.pr.name f hf
theorem Need.name (hs:SysV s) {a:List Nat} (h:NS s a):a∈names s:=by
 cases h with
 | query hc _ _ ha=>exact hs.body hc ha
 | of hc _ _ ha=>exact hs.body hc ha
theorem x8l (hs:SysV s):((z1i s).un++(z1i s).und).Nodup:=by
 have hn:=hs.pr.nodup
 rw[List.nodup_append]
 refine⟨?_, ?_, ?_⟩
 ·unfold z1i;exact hn.sublist List.filter_sublist
 ·unfold z1i;exact hn.sublist List.filter_sublist
 ·rintro a ha b hb rfl
  exact (z8j.1 hb).2 (q4h.1 ha).2.1
theorem k3w:∀ a∈(z1i s).un++(z1i s).und,a∈s.preds.map (·.name):=fun a ha=>by
 rw[List.mem_append] at ha
 rcases ha with ha | ha
 ·exact (q4h.1 ha).1
 ·exact (z8j.1 ha).1
theorem j8w (hs:SysV s):((z1i s).un++(z1i s).und).length≤10:=by
 have h1:(z1i s).un.length≤s.preds.length:=by
  unfold z1i
  exact Nat.le_trans (List.length_filter_le _ _) (by rw[List.length_map];exact Nat.le_refl _)
 have h2:(z1i s).und.length≤s.preds.length:=by
  unfold z1i
  exact Nat.le_trans (List.length_filter_le _ _) (by rw[List.length_map];exact Nat.le_refl _)
 have h3:s.preds.length≤5:=hs.preds.length_le
 rw[List.length_append]
 omega
theorem w6l (hs:SysV s) {c:Clause} (hc:c∈s.clauses):z4c (z1i s).un (z1i s).und c=some true↔(c.head.pred=[]∨(DS s c.head.pred∧NS s c.head.pred))∧∀ a∈c.body,DS s a.pred∧NS s a.pred:=by
 have hb:∀ a∈c.body,a.pred∈names s:=fun a ha=>hs.body hc ha
 constructor
 ·intro h
  unfold z4c at h
  split at h
  ·cases h
  ·rename_i h1
   split at h
   ·cases h
   ·rename_i h2
    split at h
    ·cases h
    ·rename_i h3
     rw[not_or] at h2
     simp only[List.any_eq_true,decide_eq_true_eq,not_exists,not_and] at h2 h3
     have hbody:∀ a∈c.body,DS s a.pred∧NS s a.pred:=fun a ha=>by
      have hd:DS s a.pred:=Classical.byContradiction fun hn=>h2.2 a ha (z8j.2 ⟨hb a ha,hn⟩)
      exact⟨hd,Classical.byContradiction fun hn=>h3 a ha (q4h.2 ⟨hb a ha,hd,hn⟩)⟩
     refine⟨?_,hbody⟩
     rcases hs.head hc with hh | hh
     ·exact .inl hh
     ·right
      have hd:DS s c.head.pred:=Classical.byContradiction fun hn=>h2.1 (List.mem_append_right _ (z8j.2 ⟨hh,hn⟩))
      exact⟨hd,Classical.byContradiction fun hn=>h2.1 (List.mem_append_left _ (q4h.2 ⟨hh,hd,hn⟩))⟩
 ·rintro ⟨hh,hbody⟩
  have h1:c.head.pred∉(z1i s).und:=fun h=>by
   rcases hh with hh | hh
   ·exact hs.name_ne (z8j.1 h).1 hh
   ·exact (z8j.1 h).2 hh.1
  have h2:c.head.pred∉(z1i s).un:=fun h=>by
   rcases hh with hh | hh
   ·exact hs.name_ne (q4h.1 h).1 hh
   ·exact (q4h.1 h).2.2 hh.2
  have h3:(c.body.any fun a=>decide (a.pred∈(z1i s).und))=false:=by
   rw[List.any_eq_false]
   intro a ha
   simp only[decide_eq_true_eq]
   exact fun h=>(z8j.1 h).2 (hbody a ha).1
  have h4:(c.body.any fun a=>decide (a.pred∈(z1i s).un))=false:=by
   rw[List.any_eq_false]
   intro a ha
   simp only[decide_eq_true_eq]
   exact fun h=>(q4h.1 h).2.2 (hbody a ha).2
  unfold z4c
  rw[if_neg (fun h=>h1 h.1),if_neg,if_neg (by rw[h4];simp)]
  rintro (h | h)
  ·rw[List.mem_append] at h
   exact h.elim h2 h1
  ·rw[h3] at h;cases h
theorem j8x (hs:SysV s) {c:Clause} (hc:c∈s.clauses):z4c (z1i s).un (z1i s).und c≠none:=by
 have hb:∀ a∈c.body,a.pred∈names s:=fun a ha=>hs.body hc ha
 intro h
 unfold z4c at h
 split at h
 ·rename_i h1
  rw[List.any_eq_false] at h1
  simp only[decide_eq_true_eq] at h1
  refine (z8j.1 h1.1).2 (.of hc (hs.name_ne (z8j.1 h1.1).1) fun a ha=>Classical.byContradiction fun hn=>h1.2 a ha (z8j.2 ⟨hb a ha,hn⟩))
 ·split at h
  ·cases h
  ·rename_i h1 h2
   split at h
   ·rename_i h3
    rw[not_or] at h2
    simp only[List.any_eq_true,decide_eq_true_eq,not_exists,not_and] at h2 h3
    obtain⟨a,ha,hu⟩:=h3
    have hd:∀ a∈c.body,DS s a.pred:=fun a ha=>Classical.byContradiction fun hn=>h2.2 a ha (z8j.2 ⟨hb a ha,hn⟩)
    refine (q4h.1 hu).2.2 ?_
    rcases hs.head hc with hh | hh
    ·exact .query hc hh hd ha
    ·have hdh:DS s c.head.pred:= .of hc (hs.name_ne hh) hd
     exact .of hc (Classical.byContradiction fun hn=>h2.1 (List.mem_append_left _ (q4h.2 ⟨hh,hdh,hn⟩))) hd ha
   ·cases h
theorem q9c {un und:List (List Nat)}:∀ {cs:List Clause} {i:Nat} {out:List Nat},(∀ c∈cs,z4c un und c≠none)→∃ res,z5p un und cs i out=some res
 | [],_,_,_=>⟨_,rfl⟩
 | c::cs,i,out,h=>by
   have h1:=h c List.mem_cons_self
   have h2:=fun d hd=>h d (List.mem_cons_of_mem _ hd)
   rw[z5p]
   cases hc:z4c un und c with
   | none=>exact absurd hc h1
   | some b=>
     cases b with
     | true=>exact q9c h2
     | false=>exact q9c h2
end
theorem j8y {n:Nat} (h1:1≤n) (h4:n≤4):Pure Gam 128 [nat n] (.bool true):=by
 refine Pure.of rfl w9p rfl rfl rfl rfl rfl fun D B clk T hB hT=> ?_
 have e1:decide ((1:Int)≤(n:Int))=true:=by rw[decide_eq_true_iff];omega
 have e2:decide ((n:Int)≤(4:Int))=true:=by rw[decide_eq_true_iff];omega
 simp only[go_sem,z0,z1,z2,z3,reduceCtorEq,↓reduceIte,w0m,nat,e1,e2]
 rw[z0f]
 exact hT _
theorem j8z {n:Nat}:Pure Gam 194 [nat n] (.bool (decide (n=2∨n=3))):=by
 refine Pure.of rfl w9o rfl rfl rfl rfl rfl fun D B clk T hB hT=> ?_
 by_cases h2:n=2
 ·subst h2
  simp only[go_sem,z0,z1,z2,z3,reduceCtorEq,↓reduceIte,v0j,nat,Int.cast_ofNat_Int,decide_true]
  rw[z0f]
  exact hT _
 ·have e1:decide ((n:Int)=(2:Int))=false:=by rw[decide_eq_false_iff_not];omega
  have e2:decide ((n:Int)=(3:Int))=decide (n=2∨n=3):=by rw[decide_eq_decide];omega
  simp only[go_sem,z0,z1,z2,z3,reduceCtorEq,↓reduceIte,v0j,nat,e1,e2]
  rw[z0f]
  exact hT _
theorem v3u {ss:List Nat} {s o:Nat} {u:Tip} (hl:ss.length≤2 ^ 20) (h:∀ x∈ss,x=s):Pure Gam 193 [.sl (ss.map nat) u,nat s,nat o] (nat o):=by
 refine Pure.of rfl w9n rfl rfl rfl (az:=[.sl (ss.map nat) .no,nat s,nat o]) rfl (by simp[idsL,AV.ids,z0d (fun _=>z3h),z3h]) fun D B clk T hB hT=> ?_
 simp only[go_sem,z0,z1,z2,z3,reduceCtorEq,↓reduceIte,w0l,nat,hB]
 refine z0t (fun m q=>∃ i:Nat,i≤ss.length∧m=ss.length - i∧q.ts 0= .sl (ss.map nat) .no∧q.ts 1=nat s∧q.ts 2=nat o∧q.ts 7= .int .i64 (i:Int)∧q.h=D) ss.length ⟨0,Nat.zero_le _,by omega,rfl,rfl,rfl,rfl,by simp⟩ ?_
 rintro m ⟨ts,h',clk'⟩ Pq ⟨i,hi,rfl,q0,q1,q2,q7,rfl⟩ hnx he hr
 dsimp only at q0 q1 q2 q7
 by_cases hlt:i < ss.length
 ·have f1:decide ((i:Int) < (ss.length:Int))=true:=by rw[decide_eq_true_iff];omega
  have f2:IntKind.i64.wrap ((i:Int) + 1)=((i + 1:Nat):Int):=z0c (by omega) (by omega)
  have f3:ss[i]=s:=h _ (List.getElem_mem hlt)
  simp only[go_sem,z0,z1,z2,z3,reduceCtorEq,↓reduceIte,j5y,q0,q1,q2,q7,nat,List.length_map,f1,q8e hlt,f3,decide_true,Bool.not_true,f2]
  exact hnx (ss.length - (i + 1)) _ (by omega) ⟨i + 1,hlt,rfl,q0,q1,q2,rfl,rfl⟩
 ·have f1:decide ((i:Int) < (ss.length:Int))=false:=by rw[decide_eq_false_iff_not];omega
  simp only[go_sem,z0,z1,z2,z3,reduceCtorEq,↓reduceIte,j5y,q0,q1,q2,q7,List.length_map,f1]
  refine he _ _ ?_
  simp only[go_sem,z0,z1,z2,z3,reduceCtorEq,↓reduceIte,q2]
  rw[z0h rfl rfl]
  exact hT _
end Go.Proofs.YtmkblnlafljljaaGreatDoor.Am
