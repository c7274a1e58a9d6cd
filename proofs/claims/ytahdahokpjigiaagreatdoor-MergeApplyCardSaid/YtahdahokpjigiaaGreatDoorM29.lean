/- Walking: magnitudes are subtracted Walking: magnitudes are divided Walking: greatest common divisors, lowest terms, texts Positional values: plain facts Walking: magnitudes are multiplied Walking: mag -/
import Derived.Test.YtahdahokpjigiaaGreatDoorM28
open Nat renaming reduceBEq → z0,reduceAdd → z1,reduceLeDiff → z2,reduceSub → z3
set_option linter.all false
namespace Go.Proofs.YtahdahokpjigiaaGreatDoor.Am
open Go
set_option maxRecDepth 100000
theorem q4y {h:List AObj} {s g b n:Nat} {z:AV} {k j:IntKind} (hz:z.def? =true) (hn:(n:Int) * ((b:Int) + 1)≤2 ^ 46):msV h s g z b (.int k (n:Int)) (.int j (n:Int))=some (.ob s g 0 n,h.set s (.blk g (List.replicate n z) true false 0)):=by
 have h1:(0≤(n:Int)∧(n:Int)≤n∧(n:Int) * (b + 1)≤(z1c:Int)∧z.def? =true):=by
  refine⟨by omega,by omega, ?_,hz⟩
  simpa [z1c] using hn
 simp only[msV,if_pos h1,Int.toNat_natCast]
theorem j0g {n i:Nat} {x y:AV} {suf:List AV} (hi:i < n):(List.replicate (n - i) x++suf).set (n - 1 - i) y=List.replicate (n - (i + 1)) x++(y::suf):=by
 obtain⟨m,hm⟩:∃ m,n - i=m + 1:=⟨n - i - 1,by omega⟩
 rw[hm,show n - 1 - i=m by omega,show n - (i + 1)=m by omega,List.replicate_succ',List.append_assoc,List.set_append_right _ _ (by simp)]
 simp
theorem q6b {n i:Nat} {x:AV} {suf:List AV} (hi:i < n):(List.replicate (n - i) x++suf)[n - 1 - i]? =some x:=by
 rw[List.getElem?_append_left (by simp;omega),List.getElem?_replicate,if_pos (by omega)]
theorem x2q {A:List Nat} {i:Nat} (hi:i < A.length):z1p (A.drop (A.length - (i + 1)))=(A[A.length - 1 - i] - 48) * 10 ^ i + z1p (A.drop (A.length - i)):=by
 have h1:A.drop (A.length - (i + 1))=A[A.length - 1 - i]::A.drop (A.length - i):=by
  rw[List.drop_eq_getElem_cons (by omega)]
  congr 2 <;> omega
 rw[h1,z4t,List.length_drop,show A.length - (A.length - i)=i by omega]
theorem q2u {c:Nat} (h:48≤c∧c≤57):IntKind.u8.wrap ((c:Int) - 48)=((c - 48:Nat):Int):=by rw[IntWalk.u8_in _ (by omega)];omega
theorem v6w {a b:Nat} (hba:b≤a) (hlen:(dec a).length≤200) (hlenb:(dec b).length≤200):Pure Gam 310 [.str (dec a), .str (dec b)] (.str (dec (a - b))):=by
 refine Pure.of rfl y6k rfl rfl rfl rfl rfl fun D B clk T hB hT=> ?_
 have hda:=z1o a
 have hdb:=z1o b
 have hna:dec a≠[]:=z8v a
 have hlab:(dec b).length≤(dec a).length:=Classical.byContradiction fun h=>by
  have:=z6q (a:=a) (b:=b) (by omega)
  omega
 have hwa:=z2g a
 have hwb:=z2g b
 generalize hA:dec a=A at *
 generalize hBb:dec b=C at *
 simp only[go_sem,w7a,hB,q4y (z:= .int .u8 0) (n:=A.length) (b:=1) rfl (by omega)]
 refine z0y (fun m q=>∃ (i r:Nat) (suf:List Nat) (gr:Nat),i≤A.length∧m=A.length - i∧suf.length=i∧(∀ c∈suf,48≤c∧c≤57)∧r≤1∧z1p suf + z1p (C.drop (C.length - i)) + 0=z1p (A.drop (A.length - i)) + r * 10 ^ i∧
  q.ts 0= .str A∧q.ts 1= .str C∧q.ts 5= .ob (B + 0) gr 0 A.length∧q.ts 6= .int .i64 (r:Int)∧q.ts 7= .int .i64 (i:Int)∧q.h=D++[.blk gr (List.replicate (A.length - i) (.int .u8 0)++bytes suf) true false 0]) A.length ?_ ?_
 ·refine⟨0,0,[],_,by omega,rfl,rfl,by simp,by omega,by simp[z1p],rfl,rfl,rfl,rfl,rfl,by simp[bytes]⟩
 rintro m ⟨ts,h,clk⟩ P ⟨i,r,suf,gr,hi,rfl,hsl,hsd,hr1,hw,h0,h1,h5,h6,h7,rfl⟩ hn he hr
 dsimp only at h0 h1 h5 h6 h7
 by_cases hlt:i < A.length
 ·have e1:decide ((i:Int) < (A.length:Int))=true:=by rw[decide_eq_true_iff];omega
  have ea:IntKind.i64.wrap (IntKind.i64.wrap ((A.length:Int) - 1) - (i:Int))=((A.length - 1 - i:Nat):Int):=by rw[z0d (n:=(A.length:Int) - 1) (by omega) (by omega),z0d (by omega) (by omega)];omega
  have hia:A.length - 1 - i < A.length:=by omega
  have hca:=hda _ (List.getElem_mem hia)
  have hdig:=x2q hlt
  generalize hc:A[A.length - 1 - i]=c at hca hdig
  have hixa:∀ h,q4s h (.str A) (.int .i64 ((A.length - 1 - i:Nat):Int))=some (.int .u8 (c:Int),h):=fun h=>by rw[q1z hia,hc]
  have ec:=q2u hca
  have ei:IntKind.i64.wrap ((i:Int) + 1)=((i + 1:Nat):Int):=z0d (by omega) (by omega)
  have ec2:IntKind.i64.wrap ((c - 48:Nat):Int)=((c - 48:Nat):Int):=z0d (by omega) (by omega)
  have fin:∀ (s:Int) (d:Nat),d≤9→s=((c - 48:Nat):Int) - r - (d:Int)→z1p (C.drop (C.length - (i + 1)))=d * 10 ^ i + z1p (C.drop (C.length - i))→
    ∀ (r':Nat) (e:Nat),((s < 0∧r'=1∧(e:Int)=s + 10)∨(0≤s∧r'=0∧(e:Int)=s))→∀ (ts':Tmps) (clk':Nat),ts' 0= .str A→ts' 1= .str C→ts' 5= .ob (B + 0) gr 0 A.length→ts' 6= .int .i64 (r':Int)→ts' 7= .int .i64 ((i + 1:Nat):Int)→P .norm ⟨ts',D++[.blk gr (List.replicate (A.length - (i + 1)) (.int .u8 0)++bytes ((48 + e)::suf)) true false 0],clk'⟩:=by
   intro s d hd hs hcd r' e hre ts' clk' q0 q1 q5 q6 q7
   refine hn (A.length - (i + 1)) _ (by omega) ⟨i + 1,r',(48 + e)::suf,gr,hlt,rfl,by simp[hsl], ?_,by omega, ?_,q0,q1,q5,q6,q7,rfl⟩
   ·intro c' hc'
    rw[List.mem_cons] at hc'
    rcases hc' with rfl | hc'
    ·omega
    ·exact hsd c' hc'
   ·rw[z4t,hsl,hcd,hdig,Nat.pow_succ,Nat.add_sub_cancel_left]
    have hx:e + d + r=(c - 48) + r' * 10:=by omega
    have:=congrArg (· * 10 ^ i) hx
    simp only[Nat.add_mul] at this
    rw[Nat.mul_assoc] at this
    rw[Nat.mul_comm (10 ^ i) 10]
    omega
  have hstore:∀ (g':Nat) (x:Int),z8s (D++[.blk g' (List.replicate (A.length - i) (.int .u8 0)++bytes suf) true false 0]) 1 (.int .u8 x) (.ptr (B + 0) g' (A.length - 1 - i) 0)=some (.undef,D++[.blk g' (List.replicate (A.length - (i + 1)) (.int .u8 0)++(.int .u8 x::bytes suf)) true false 0]):=fun g' x=>by
   have h:=z8y (K:= .u8) (n:=x) (K':= .u8) (m:=0) (D:=D) (B:=B) (g:=g') (i:=A.length - 1 - i) (es:=List.replicate (A.length - i) (AV.int .u8 0)++bytes suf) (L:=[AObj.blk g' (List.replicate (A.length - i) (AV.int .u8 0)++bytes suf) true false 0]) (k:=0) (w:=false) hB rfl (q6b hlt)
   rw[j0g hlt] at h
   exact h
  have hidx:∀ (g':Nat),z1m (D++[.blk g' (List.replicate (A.length - i) (.int .u8 0)++bytes suf) true false 0]) 1 (.ob (B + 0) g' 0 A.length) (.int .i64 ((A.length - 1 - i:Nat):Int))=some (.ptr (B + 0) g' (A.length - 1 - i) 0,D++[.blk g' (List.replicate (A.length - i) (.int .u8 0)++bytes suf) true false 0]):=fun g'=>
   z8z (L:=[.blk g' (List.replicate (A.length - i) (.int .u8 0)++bytes suf) true false 0]) (k:=0) hB rfl (q6b hlt) rfl (by omega)
  have e8:∀ e:Nat,e≤9→IntKind.u8.wrap (IntKind.i64.wrap (48 + (e:Int)))=((48 + e:Nat):Int):=fun e h=>by rw[z0d (by omega) (by omega),IntWalk.u8_in _ (by omega)];omega
  have hsub1:IntKind.i64.wrap (((c - 48:Nat):Int) - (r:Int))=((c - 48:Nat):Int) - (r:Int):=z0d (by omega) (by omega)
  by_cases hib:i < C.length
  ·have e2:decide ((i:Int) < (C.length:Int))=true:=by rw[decide_eq_true_iff];omega
   have eb:IntKind.i64.wrap (IntKind.i64.wrap ((C.length:Int) - 1) - (i:Int))=((C.length - 1 - i:Nat):Int):=by rw[z0d (n:=(C.length:Int) - 1) (by omega) (by omega),z0d (by omega) (by omega)];omega
   have hic:C.length - 1 - i < C.length:=by omega
   have hcc:=hdb _ (List.getElem_mem hic)
   have hdigb:=x2q hib
   generalize hc2:C[C.length - 1 - i]=d at hcc hdigb
   have hixb:∀ h,q4s h (.str C) (.int .i64 ((C.length - 1 - i:Nat):Int))=some (.int .u8 (d:Int),h):=fun h=>by rw[q1z hic,hc2]
   have ed:=q2u hcc
   have ed2:IntKind.i64.wrap ((d - 48:Nat):Int)=((d - 48:Nat):Int):=z0d (by omega) (by omega)
   have hsub2:IntKind.i64.wrap (((c - 48:Nat):Int) - (r:Int) - ((d - 48:Nat):Int))=((c - 48:Nat):Int) - (r:Int) - ((d - 48:Nat):Int):=z0d (by omega) (by omega)
   have fin':=fin (((c - 48:Nat):Int) - r - ((d - 48:Nat):Int)) (d - 48) (by omega) rfl hdigb
   by_cases hneg:((c - 48:Nat):Int) - (r:Int) - ((d - 48:Nat):Int) < 0
   ·have e3:decide (((c - 48:Nat):Int) - (r:Int) - ((d - 48:Nat):Int) < 0)=true:=by rw[decide_eq_true_iff];exact hneg
    obtain⟨e,he2⟩:∃ e:Nat,(e:Int)=((c - 48:Nat):Int) - (r:Int) - ((d - 48:Nat):Int) + 10:=⟨(((c - 48:Nat):Int) - (r:Int) - ((d - 48:Nat):Int) + 10).toNat,by omega⟩
    have e4:IntKind.i64.wrap (((c - 48:Nat):Int) - (r:Int) - ((d - 48:Nat):Int) + 10)=(e:Int):=by rw[z0d (by omega) (by omega)];omega
    simp only[go_sem,h0,h1,h5,h6,h7,q9m,hB,e1,ea,hixa,ec,ec2,hsub1,e2,eb,hixb,ed,ed2,hsub2,e3,e4,e8 e (by omega),hidx,hstore,ei]
    exact fin' 1 e (.inl ⟨hneg,rfl,he2⟩) _ _ (by simp[z0b,h0]) (by simp[z0b,h1]) (by simp[z0b,h5]) (by simp[z0b]) (by simp[z0b])
   ·have e3:decide (((c - 48:Nat):Int) - (r:Int) - ((d - 48:Nat):Int) < 0)=false:=by rw[decide_eq_false_iff_not];exact hneg
    obtain⟨e,he2⟩:∃ e:Nat,((c - 48:Nat):Int) - (r:Int) - ((d - 48:Nat):Int)=(e:Int):=⟨(((c - 48:Nat):Int) - (r:Int) - ((d - 48:Nat):Int)).toNat,by omega⟩
    rw[he2] at e3
    have hsub2:=hsub2.trans he2
    simp only[go_sem,h0,h1,h5,h6,h7,q9m,hB,e1,ea,hixa,ec,ec2,hsub1,e2,eb,hixb,ed,ed2,hsub2,e3,e8 e (by omega),hidx,hstore,ei]
    exact fin' 0 e (.inr ⟨by omega,rfl,he2.symm⟩) _ _ (by simp[z0b,h0]) (by simp[z0b,h1]) (by simp[z0b,h5]) (by simp[z0b]) (by simp[z0b])
  ·have e2:decide ((i:Int) < (C.length:Int))=false:=by rw[decide_eq_false_iff_not];omega
   have fin':=fin (((c - 48:Nat):Int) - r) 0 (by omega) (by omega) (by rw[show C.length - (i + 1)=0 by omega,show C.length - i=0 by omega];omega)
   by_cases hneg:((c - 48:Nat):Int) - (r:Int) < 0
   ·have e3:decide (((c - 48:Nat):Int) - (r:Int) < 0)=true:=by rw[decide_eq_true_iff];exact hneg
    obtain⟨e,he2⟩:∃ e:Nat,(e:Int)=((c - 48:Nat):Int) - (r:Int) + 10:=⟨(((c - 48:Nat):Int) - (r:Int) + 10).toNat,by omega⟩
    have e4:IntKind.i64.wrap (((c - 48:Nat):Int) - (r:Int) + 10)=(e:Int):=by rw[z0d (by omega) (by omega)];omega
    simp only[go_sem,h0,h1,h5,h6,h7,q9m,hB,e1,ea,hixa,ec,ec2,hsub1,e2,e3,e4,e8 e (by omega),hidx,hstore,ei]
    exact fin' 1 e (.inl ⟨hneg,rfl,he2⟩) _ _ (by simp[z0b,h0]) (by simp[z0b,h1]) (by simp[z0b,h5]) (by simp[z0b]) (by simp[z0b])
   ·have e3:decide (((c - 48:Nat):Int) - (r:Int) < 0)=false:=by rw[decide_eq_false_iff_not];exact hneg
    obtain⟨e,he2⟩:∃ e:Nat,((c - 48:Nat):Int) - (r:Int)=(e:Int):=⟨(((c - 48:Nat):Int) - (r:Int)).toNat,by omega⟩
    rw[he2] at e3
    have hsub1:=hsub1.trans he2
    simp only[go_sem,h0,h1,h5,h6,h7,q9m,hB,e1,ea,hixa,ec,ec2,hsub1,e2,e3,e8 e (by omega),hidx,hstore,ei]
    exact fin' 0 e (.inr ⟨by omega,rfl,he2.symm⟩) _ _ (by simp[z0b,h0]) (by simp[z0b,h1]) (by simp[z0b,h5]) (by simp[z0b]) (by simp[z0b])
 ·have hiA:i=A.length:=by omega
  have e1:decide ((i:Int) < (A.length:Int))=false:=by rw[decide_eq_false_iff_not];omega
  have hwl:=z6e hsd
  have hr0:r=0:=Classical.byContradiction fun h=>by
   have:r=1:=by omega
   subst this
   rw[hiA,Nat.sub_self,List.drop_zero,show C.length - A.length=0 by omega,List.drop_zero,hwa,hwb] at hw
   rw[hsl,hiA] at hwl
   omega
  have hws:z1p suf=a - b:=by
   rw[hiA,Nat.sub_self,List.drop_zero,show C.length - A.length=0 by omega,List.drop_zero,hwa,hwb,hr0] at hw
   omega
  have hsne:suf≠[]:=fun h=>hna (List.length_eq_zero_iff.1 (by rw[←hiA,←hsl,h];rfl))
  simp only[go_sem,h0,h1,h5,h6,h7,q9m,e1]
  refine he _ _ ?_
  have hof:v0w (D++[.blk gr (List.replicate (A.length - i) (.int .u8 0)++bytes suf) true false 0]) (.ob (B + 0) gr 0 A.length)=some (.str suf,D++[.blk gr (List.replicate (A.length - i) (.int .u8 0)++bytes suf) true false 0]):=by
   have hs:=z9a (B:=B) (D:=D) (L:=[.blk gr (List.replicate (A.length - i) (.int .u8 0)++bytes suf) true false 0]) (k:=0) (g:=gr) (len:=A.length) hB rfl (by simp[bytes,hsl];omega)
   simp only[v0w,hs,Option.bind_some]
   rw[show A.length - i=0 by omega,List.replicate_zero,List.nil_append,z8f fun c hc=>by have:=hsd c hc;omega]
   rfl
  simp only[go_sem,h5,hof]
  rw[z0a (q2a ⟨hsne,hsd⟩),hws]
  simp only[go_sem,]
  rw[z9r]
  exact hT _
theorem k6j {B clk r b:Nat} {D:List AObj} {o:AObj} {ts:Tmps} {ks:List Kf} {Q:Post} (hb:0 < b) (hr:r < 10 * b) (hl:(dec r).length≤200) (hlb:(dec b).length≤200) (h1:ts 1= .str (dec b)) (h7:ts 7= .str (dec r)) (h9:ts 9= .int .u8 48)
  (hQ:∀ (ts':Tmps) (clk':Nat),ts' 0=ts 0→ts' 1=ts 1→ts' 6=ts 6→ts' 8=ts 8→ts' 7= .str (dec (r % b))→ts' 9= .int .u8 ((48 + r / b:Nat):Int)→K Gam B (.exit 2) ks ⟨ts',D++[o],clk'⟩ Q):
  K Gam B (.loop x2m) ks ⟨ts,D++[o],clk⟩ Q:=by
 refine z0y (fun m q=>∃ (x d:Nat),m=x∧r=x + d * b∧d≤9∧(dec x).length≤200∧q.ts 0=ts 0∧q.ts 1=ts 1∧q.ts 6=ts 6∧q.ts 8=ts 8∧q.ts 7= .str (dec x)∧q.ts 9= .int .u8 ((48 + d:Nat):Int)∧q.h=D++[o]) r ⟨r,0,rfl,by omega,by omega,hl,rfl,rfl,rfl,rfl,h7,h9,rfl⟩ ?_
 rintro m ⟨ts2,h,clk⟩ P ⟨x,d,rfl,hx,hd,hlx,q0,q1,q6,q8,q7,q9,rfl⟩ hn he hret
 dsimp only at q0 q1 q6 q8 q7 q9
 rw[h1] at q1
 have hcmp:=v6v (a:=m) (b:=b)
 by_cases hlt:m < b
 ·rw[if_pos hlt] at hcmp
  simp only[go_sem,q1,q7,q9,x2m]
  rw[z0a hcmp]
  simp only[go_sem,Int.reduceLE,decide_false]
  refine he _ _ ?_
  have e1:r % b=m:=by rw[hx,Nat.add_mul_mod_self_right,Nat.mod_eq_of_lt hlt]
  have e2:r / b=d:=by rw[hx,Nat.add_mul_div_right _ _ hb,Nat.div_eq_of_lt hlt,Nat.zero_add]
  exact hQ _ _ (by simp[z0b,q0]) (by simp[z0b,q1,h1]) (by simp[z0b,q6]) (by simp[z0b,q8]) (by simp[z0b,q7,e1]) (by simp[z0b,q9,e2])
 ·have hge:∃ n:Int,(if m < b then -1 else if m=b then 0 else 1)=n∧0≤n:=by
   rw[if_neg hlt]
   split
   ·exact⟨0,rfl,by omega⟩
   ·exact⟨1,rfl,by omega⟩
  obtain⟨n,hn1,hn2⟩:=hge
  rw[hn1] at hcmp
  have e1:decide (0≤n)=true:=by rw[decide_eq_true_iff];exact hn2
  have hd9:d + 1≤9:=by
   have:d * b + b≤r:=by omega
   rcases Nat.lt_or_ge d 9 with h | h
   ·omega
   ·have:9 * b≤d * b:=Nat.mul_le_mul_right _ h
    omega
  have e2:IntKind.u8.wrap (((48 + d:Nat):Int) + 1)=((48 + (d + 1):Nat):Int):=by rw[IntWalk.u8_in _ (by omega)];omega
  simp only[go_sem,q1,q7,q9,x2m]
  rw[z0a hcmp]
  simp only[go_sem,e1,q1,q7]
  rw[z0a (v6w (by omega) hlx hlb)]
  simp only[go_sem,q9,e2]
  have hlx':(dec (m - b)).length≤200:=Classical.byContradiction fun h=>by
   have:=z6q (a:=m) (b:=m - b) (by omega)
   omega
  exact hn (m - b) _ (by omega) ⟨m - b,d + 1,rfl,by rw[Nat.add_mul,Nat.one_mul];omega,hd9,hlx',q0,by rw[h1];exact q1,q6,q8,rfl,rfl,rfl⟩
theorem q0k {A:List Nat} {i:Nat} (hi:i < A.length):z1p (A.take (i + 1))=10 * z1p (A.take i) + (A[i] - 48):=by
 rw[List.take_succ_eq_append_getElem hi,q0i]
theorem j3o {n i:Nat} {x:AV} {suf:List AV} (hl:suf.length=i) (hi:i < n):(suf++List.replicate (n - i) x)[i]? =some x:=by
 rw[List.getElem?_append_right (by omega),List.getElem?_replicate,if_pos (by omega)]
theorem k6k {n i:Nat} {x y:AV} {suf:List AV} (hl:suf.length=i) (hi:i < n):(suf++List.replicate (n - i) x).set i y=(suf++[y])++List.replicate (n - (i + 1)) x:=by
 obtain⟨m,hm⟩:∃ m,n - i=m + 1:=⟨n - i - 1,by omega⟩
 rw[hm,show n - (i + 1)=m by omega,List.replicate_succ,List.set_append_right _ _ (by omega),hl,Nat.sub_self,List.set_cons_zero,List.append_assoc]
 rfl
theorem j6n {s:List Nat} {c:Nat}:bytes s++[.int .u8 (c:Int)]=bytes (s++[c]):=by simp[bytes]
theorem q4z {s:List Nat}:(bytes s).length=s.length:=by simp[bytes]
theorem j0h {a b:Nat} (hb:0 < b) (hlen:(dec a).length≤150) (hlenb:(dec b).length≤150):Pure Gam 306 [.str (dec a), .str (dec b)] (.tup [.str (dec (a / b)), .str (dec (a % b))]):=by
 refine Pure.of rfl y6h rfl rfl rfl rfl rfl fun D B clk T hB hT=> ?_
 have hda:=z1o a
 have hna:dec a≠[]:=z8v a
 have hwa:=z2g a
 generalize hA:dec a=A at *
 simp only[go_sem,w6y,hB,q4y (z:= .int .u8 0) (n:=A.length) (b:=1) rfl (by omega)]
 refine z0y (fun m q=>∃ (i:Nat) (qs:List Nat) (gr:Nat),i≤A.length∧m=A.length - i∧qs.length=i∧(∀ c∈qs,48≤c∧c≤57)∧z1p qs=z1p (A.take i) / b∧
  q.ts 0= .str A∧q.ts 1= .str (dec b)∧q.ts 6= .ob (B + 0) gr 0 A.length∧q.ts 7= .str (dec (z1p (A.take i) % b))∧q.ts 8= .int .i64 (i:Int)∧q.h=D++[.blk gr (bytes qs++List.replicate (A.length - i) (.int .u8 0)) true false 0]) A.length ?_ ?_
 ·refine⟨0,[],_,by omega,rfl,rfl,by simp,by simp[z1p],rfl,rfl,rfl, ?_,rfl,by simp[bytes]⟩
  simp[z0b,z1p,q4v]
 rintro m ⟨ts,h,clk⟩ P ⟨i,qs,gr,hi,rfl,hql,hqd,hqw,h0,h1,h6,h7,h8,rfl⟩ hn he hr
 dsimp only at h0 h1 h6 h7 h8
 have hrb:z1p (A.take i) % b < b:=Nat.mod_lt _ hb
 by_cases hlt:i < A.length
 ·have e1:decide ((i:Int) < (A.length:Int))=true:=by rw[decide_eq_true_iff];omega
  have ei:IntKind.i64.wrap ((i:Int) + 1)=((i + 1:Nat):Int):=z0d (by omega) (by omega)
  have hc:=hda A[i] (List.getElem_mem hlt)
  have hsl:∀ h,slV h none (.str A) (some (.int .i64 (i:Int))) (some (.int .i64 ((i + 1:Nat):Int))) none=some (.str [A[i]],h):=fun h=>by
   have:((A.take (i + 1)).drop i)=[A[i]]:=by
    rw[List.take_succ_eq_append_getElem hlt,List.drop_append_of_le_length (by simp;omega)]
    simp
   have hle:i + 1≤A.length:=hlt
   simp only[slV,z2v,z4v,Int.natCast_nonneg,if_true,Int.toNat_natCast,hle,and_true,Nat.le_add_right,this,Option.map_some]
  generalize hR:z1p (A.take i) % b=R at *
  have hRl:(dec R).length≤150:=Classical.byContradiction fun h=>by
   have:=z6q (a:=b) (b:=R) (by omega)
   omega
  have hdig:q7b (dec R++[A[i]]):=⟨by simp,fun c hc'=>by
   rw[List.mem_append,List.mem_singleton] at hc'
   rcases hc' with h | rfl
   ·exact z1o R c h
   ·exact hc⟩
  have hwr:z1p (dec R++[A[i]])=10 * R + (A[i] - 48):=by rw[q0i,z2g]
  have hrl2:(dec (10 * R + (A[i] - 48))).length≤200:=by
   have h1:=z6e (z1o R)
   rw[z2g] at h1
   have h2:10 ^ (dec R).length≤10 ^ 150:=Nat.pow_le_pow_right (by omega) hRl
   exact Nat.le_trans (z8w (k:=151) (by omega) (by rw[Nat.pow_succ];omega)) (by omega)
  simp only[go_sem,h0,h1,h6,h7,h8,j3f,e1,ei,hsl,q3d (a:=dec R) (b:=[A[i]]) (by simp;omega)]
  rw[z0a (q2a hdig),hwr]
  simp only[go_sem,]
  refine k6j hb (by omega) hrl2 (by omega) (by simp[z0b,h1]) rfl rfl ?_
  intro ts2 clk2 q0 q1 q6 q8 q7 q9
  simp only[z0b,z0,cond_true,cond_false,h0,h1,h6,h8] at q0 q1 q6 q8
  have hqd9:(10 * R + (A[i] - 48)) / b≤9:=by
   rw[Nat.div_le_iff_le_mul_add_pred hb];omega
  have hbl:(bytes qs).length=i:=by rw[q4z,hql]
  have hstore:∀ (x:Nat),z8s (D++[.blk gr (bytes qs++List.replicate (A.length - i) (.int .u8 0)) true false 0]) 1 (.int .u8 (x:Int)) (.ptr (B + 0) gr i 0)=some (.undef,D++[.blk gr (bytes (qs++[x])++List.replicate (A.length - (i + 1)) (.int .u8 0)) true false 0]):=fun x=>by
   have h:=z8y (K:= .u8) (n:=x) (K':= .u8) (m:=0) (D:=D) (B:=B) (g:=gr) (i:=i) (es:=bytes qs++List.replicate (A.length - i) (AV.int .u8 0)) (L:=[AObj.blk gr (bytes qs++List.replicate (A.length - i) (AV.int .u8 0)) true false 0]) (k:=0) (w:=false) hB rfl (j3o hbl hlt)
   rw[k6k hbl hlt,j6n] at h
   exact h
  have hidx:z1m (D++[.blk gr (bytes qs++List.replicate (A.length - i) (.int .u8 0)) true false 0]) 1 (.ob (B + 0) gr 0 A.length) (.int .i64 (i:Int))=some (.ptr (B + 0) gr i 0,D++[.blk gr (bytes qs++List.replicate (A.length - i) (.int .u8 0)) true false 0]):=
   z8z (L:=[.blk gr (bytes qs++List.replicate (A.length - i) (.int .u8 0)) true false 0]) (k:=0) hB rfl (j3o hbl hlt) rfl (by omega)
  simp only[go_sem,q0,q1,q6,q8,q7,q9,hidx,hstore,ei]
  have hWA:z1p (A.take i)=b * z1p qs + R:=by rw[hqw,←hR];exact (Nat.div_add_mod _ _).symm
  have e10:10 * z1p (A.take i) + (A[i] - 48)=(10 * R + (A[i] - 48)) + b * (10 * z1p qs):=by
   rw[hWA,Nat.mul_add,←Nat.mul_assoc,Nat.mul_comm 10 b,Nat.mul_assoc]
   omega
  refine hn (A.length - (i + 1)) _ (by omega) ⟨i + 1,qs++[48 + (10 * R + (A[i] - 48)) / b],gr,hlt,rfl,by simp[hql], ?_, ?_,by simp[z0b,q0],by simp[z0b,q1],by simp[z0b,q6], ?_,by simp[z0b],rfl⟩
  ·intro c hc'
   rw[List.mem_append,List.mem_singleton] at hc'
   rcases hc' with h | rfl
   ·exact hqd c h
   ·exact⟨Nat.le_add_right _ _,Nat.add_le_add_left hqd9 48⟩
  ·rw[q0i,q0k hlt,e10,Nat.add_mul_div_left _ _ hb,Nat.add_sub_cancel_left,Nat.add_comm]
  ·rw[q0k hlt,e10,Nat.add_mul_mod_self_left]
   simp[z0b,q7]
 ·have hiA:i=A.length:=by omega
  have e1:decide ((i:Int) < (A.length:Int))=false:=by rw[decide_eq_false_iff_not];omega
  rw[hiA,List.take_length,hwa] at hqw h7
  have hqne:qs≠[]:=fun h=>hna (List.length_eq_zero_iff.1 (by rw[←hiA,←hql,h];rfl))
  have hof:v0w (D++[.blk gr (bytes qs++List.replicate (A.length - i) (.int .u8 0)) true false 0]) (.ob (B + 0) gr 0 A.length)=some (.str qs,D++[.blk gr (bytes qs++List.replicate (A.length - i) (.int .u8 0)) true false 0]):=by
   have hs:=z9a (B:=B) (D:=D) (L:=[.blk gr (bytes qs++List.replicate (A.length - i) (.int .u8 0)) true false 0]) (k:=0) (g:=gr) (len:=A.length) hB rfl (by simp[bytes,hql];omega)
   simp only[v0w,hs,Option.bind_some]
   rw[show A.length - i=0 by omega,List.replicate_zero,List.append_nil,z8f fun c hc=>by have:=hqd c hc;omega]
   rfl
  simp only[go_sem,h0,h1,h6,h7,h8,j3f,e1]
  refine he _ _ ?_
  simp only[go_sem,h0,h1,h6,h7,h8,hof]
  rw[z0a (q2a ⟨hqne,hqd⟩),hqw]
  simp only[go_sem,h7]
  rw[z0h rfl rfl]
  exact hT _
theorem q0l {a b:Nat} (h:a≤b):(dec a).length≤(dec b).length:=Classical.byContradiction fun hc=>by
 have:=z6q (a:=b) (b:=a) (by omega)
 omega
theorem z3t {n:Nat}:decide (dec n=[48])=decide (n=0):=by rw[decide_eq_decide];exact q3s
theorem q6c {n:Nat}:decide (dec n=[49])=decide (n=1):=by rw[decide_eq_decide];exact x2l
theorem v6x {a b:Nat} (hlen:(dec a).length≤150) (hlenb:(dec b).length≤150):Pure Gam 305 [.str (dec a), .str (dec b)] (.str (dec (Nat.gcd a b))):=by
 refine Pure.of rfl y6f rfl rfl rfl rfl rfl fun D B clk T hB hT=> ?_
 simp only[go_sem,w6x]
 refine z0y (fun m q=>∃ x y:Nat,m=y∧Nat.gcd x y=Nat.gcd a b∧(dec x).length≤150∧(dec y).length≤150∧q.ts 0= .str (dec x)∧q.ts 1= .str (dec y)∧q.h=D++[]) b ⟨a,b,rfl,rfl,hlen,hlenb,rfl,rfl,rfl⟩ ?_
 rintro m ⟨ts,h,clk⟩ P ⟨x,y,rfl,hg,hlx,hly,h0,h1,rfl⟩ hn he hr
 dsimp only at h0 h1
 by_cases hy:m=0
 ·subst hy
  have e1:decide (dec 0=[48])=true:=by rw[z3t];rfl
  simp only[go_sem,h0,h1,j3e,e1,Bool.not_true]
  refine he _ _ ?_
  simp only[go_sem,h0]
  rw[z9r]
  rw[Nat.gcd_zero_right] at hg
  rw[hg]
  exact hT _
 ·have e1:decide (dec m=[48])=false:=by rw[z3t];simp[hy]
  have hpos:0 < m:=Nat.pos_of_ne_zero hy
  simp only[go_sem,h0,h1,j3e,e1,Bool.not_false]
  rw[z0a (j0h hpos hlx hly)]
  simp only[go_sem,h0,h1]
  have hlt:=Nat.mod_lt x hpos
  refine hn (x % m) _ hlt ⟨m,x % m,rfl, ?_,hly,Nat.le_trans (q0l (Nat.le_of_lt hlt)) hly,by simp[z0b,h1],rfl,rfl⟩
  rw[←hg,Nat.gcd_comm x m,Nat.gcd_rec m x,Nat.gcd_comm]
def x0y (neg:Bool) (n d:Nat):AV:= .agg [.bool neg, .str (dec n), .str (dec d)]
def z4p (neg:Bool) (n d:Nat):List Nat:=(if neg then [45] else [])++dec n++(if d=1 then [] else 47::dec d)
theorem x4j {neg:Bool} {a b:Nat} (hb:0 < b) (hlen:(dec a).length≤150) (hlenb:(dec b).length≤150):Pure Gam 253 [.bool neg, .str (dec a), .str (dec b)] (x0y (neg && !decide (a / Nat.gcd a b=0)) (a / Nat.gcd a b) (b / Nat.gcd a b)):=by
 refine Pure.of rfl y6d rfl rfl rfl rfl rfl fun D B clk T hB hT=> ?_
 have hg:0 < Nat.gcd a b:=Nat.gcd_pos_of_pos_right _ hb
 have hgl:(dec (Nat.gcd a b)).length≤150:=Nat.le_trans (q0l (Nat.le_of_dvd hb (Nat.gcd_dvd_right a b))) hlenb
 simp only[go_sem,w6w,hB]
 rw[z0a (v6x hlen hlenb)]
 simp only[go_sem,]
 rw[z0a (j0h hg hlen hgl)]
 simp only[go_sem,]
 rw[z0a (j0h hg hlenb hgl)]
 cases neg
 ·simp only[go_sem,hB]
  rw[z2x rfl rfl]
  exact hT _
 ·simp only[go_sem,hB,z3t]
  rw[z2x rfl rfl]
  exact hT _
theorem x4k {neg:Bool} {n d:Nat} (hlen:(dec n).length≤150) (hlend:(dec d).length≤150):Pure Gam 254 [x0y neg n d] (.str (z4p neg n d)):=by
 refine Pure.of rfl y6e rfl rfl rfl rfl rfl fun D B clk T hB hT=> ?_
 have e1:∀ h,z7d h .add (.one .str) (.str [45]) (.str (dec n))=some (.str (45::dec n),h):=fun h=>q3d (by simp;omega)
 have e2:∀ h,z7d h .add (.one .str) (.str [47]) (.str (dec d))=some (.str (47::dec d),h):=fun h=>q3d (by simp;omega)
 have e3:∀ h,z7d h .add (.one .str) (.str (dec n)) (.str (47::dec d))=some (.str (dec n++47::dec d),h):=fun h=>q3d (by simp;omega)
 have e4:∀ h,z7d h .add (.one .str) (.str (45::dec n)) (.str (47::dec d))=some (.str (45::dec n++47::dec d),h):=fun h=>q3d (by simp;omega)
 unfold z4p at hT
 by_cases h1:d=1
 ·have ed:decide (dec d=[49])=true:=by rw[q6c];simp[h1]
  rw[if_pos h1] at hT
  cases neg
  all_goals
   simp only[go_sem,v6k,hB,x0y,e1,e2,e3,e4,ed,Bool.not_true]
   rw[z9r]
   have:=hT
   simp only[Bool.false_eq_true,if_false,if_true,List.nil_append,List.append_nil,List.cons_append] at this
   exact this _
 ·have ed:decide (dec d=[49])=false:=by rw[q6c];simp[h1]
  rw[if_neg h1] at hT
  cases neg
  all_goals
   simp only[go_sem,v6k,hB,x0y,e1,e2,e3,e4,ed,Bool.not_false]
   rw[z9r]
   have:=hT
   simp only[Bool.false_eq_true,if_false,if_true,List.nil_append,List.append_nil,List.cons_append] at this
   exact this _
def x2r (l:List Nat):Nat:=l.foldl (fun a x=>10 * a + x) 0
theorem v6y:∀ (l:List Nat) (a:Nat),l.foldl (fun a x=>10 * a + x) a=a * 10 ^ l.length + x2r l:=by
 intro l
 induction l with
 | nil=>intro a;simp[x2r]
 | cons x l ih=>
   intro a
   have h1:x2r (x::l)=x * 10 ^ l.length + x2r l:=by
    show List.foldl _ _ l=_
    rw[ih]
    simp
   simp only[List.foldl_cons,List.length_cons]
   rw[ih,h1,Nat.pow_succ,Nat.add_mul]
   rw[show 10 * a * 10 ^ l.length=a * (10 ^ l.length * 10) by rw[Nat.mul_comm 10 a,Nat.mul_assoc,Nat.mul_comm 10]]
   omega
theorem q5a {x:Nat} {l:List Nat}:x2r (x::l)=x * 10 ^ l.length + x2r l:=by
 show List.foldl _ _ l=_
 rw[v6y]
 simp
theorem k1e {n:Nat}:x2r (List.replicate n 0)=0:=by
 induction n with
 | zero=>rfl
 | succ n ih=>rw[List.replicate_succ,q5a,ih];simp
theorem j3p:∀ {l:List Nat} {k y:Nat} (h:k < l.length),x2r (l.set k (l[k] + y))=x2r l + y * 10 ^ (l.length - 1 - k)
 | x::l,0,y,_=>by
   simp only[List.set_cons_zero,List.getElem_cons_zero,q5a,List.length_cons,Nat.add_sub_cancel,Nat.sub_zero,Nat.add_mul]
   omega
 | x::l,k + 1,y,h=>by
   have h':k < l.length:=by simpa using h
   have ih:=j3p (y:=y) h'
   simp only[List.set_cons_succ,List.getElem_cons_succ,q5a,List.length_set,List.length_cons,ih]
   rw[show l.length + 1 - 1 - (k + 1)=l.length - 1 - k by omega]
   omega
theorem k1f {l:List Nat} {k:Nat} (h:k < l.length):x2r (l.drop k)=l[k] * 10 ^ (l.length - 1 - k) + x2r (l.drop (k + 1)):=by
 rw[List.drop_eq_getElem_cons h,q5a,List.length_drop]
 rw[show l.length - (k + 1)=l.length - 1 - k by omega]
theorem k6l {l:List Nat} {k x:Nat}:(l.map nat).set k (nat x)=(l.set k x).map nat:=List.map_set.symm
theorem q5b {l:List Nat} {k:Nat} (h:k < l.length):(l.map nat)[k]? =some (.int .i64 (l[k]:Int)):=by simp[h,nat]
theorem k6m {B clk n:Nat} {D:List AObj} {out:List Nat} {g1 g2:Nat} {ts:Tmps} {ks:List Kf} {Q:Post} (hB:D.length=B) (hl:out.length=n) (hn1:1≤n) (hn2:n≤1000) (hb:∀ x∈out,x≤10 ^ 9) (htot:x2r out < 10 ^ n)
  (h5:ts 5= .ob (B + 0) g1 0 n) (h8:ts 8= .ob (B + 1) g2 0 n) (h9:ts 9= .int .i64 0) (h10:ts 10= .int .i64 ((n:Int) - 1))
  (hQ:∀ (suf:List Nat) (ts':Tmps) (clk':Nat),suf.length=n→q7b suf→z1p suf=x2r out→ts' 8= .ob (B + 1) g2 0 n→K Gam B (.exit 4) ks ⟨ts',D++[.blk g1 (out.map nat) true false 0, .blk g2 (bytes suf) true false 0],clk'⟩ Q):
  K Gam B (.loop q9l) ks ⟨ts,D++[.blk g1 (out.map nat) true false 0, .blk g2 (List.replicate n (.int .u8 0)) true false 0],clk⟩ Q:=by
 refine z0y (fun m q=>∃ (i c:Nat) (suf:List Nat),i≤n∧m=n - i∧suf.length=i∧(∀ c∈suf,48≤c∧c≤57)∧c≤10 ^ 9∧z1p suf + c * 10 ^ i=x2r (out.drop (n - i))∧q.ts 5= .ob (B + 0) g1 0 n∧q.ts 8= .ob (B + 1) g2 0 n∧q.ts 9= .int .i64 (c:Int)∧q.ts 10= .int .i64 ((n:Int) - i - 1)∧
  q.h=D++[.blk g1 (out.map nat) true false 0, .blk g2 (List.replicate (n - i) (.int .u8 0)++bytes suf) true false 0]) n ?_ ?_
 ·refine⟨0,0,[],by omega,rfl,rfl,by simp,by omega, ?_,h5,h8,h9,by simpa using h10,by simp[bytes]⟩
  rw[Nat.sub_zero,←hl,List.drop_length]
  simp[z1p,x2r]
 rintro m ⟨ts,h,clk⟩ P ⟨i,c,suf,hi,rfl,hsl,hsd,hc,hw,h5,h8,h9,h10,rfl⟩ hn he hr
 dsimp only at h5 h8 h9 h10
 by_cases hlt:i < n
 ·have hk:n - 1 - i < out.length:=by omega
  have e0:(n:Int) - i - 1=((n - 1 - i:Nat):Int):=by omega
  rw[e0] at h10
  have e1:decide ((0:Int)≤((n - 1 - i:Nat):Int))=true:=by rw[decide_eq_true_iff];omega
  have hx:=hb _ (List.getElem_mem hk)
  have hdr:=k1f hk
  generalize hxx:out[n - 1 - i]=x at hx hdr
  have hidx1:∀ es,z1m (D++[.blk g1 (out.map nat) true false 0, .blk g2 es true false 0]) 1 (.ob (B + 0) g1 0 n) (.int .i64 ((n - 1 - i:Nat):Int))=some (.ptr (B + 0) g1 (n - 1 - i) 0,D++[.blk g1 (out.map nat) true false 0, .blk g2 es true false 0]):=fun es=>
   z8z (L:=[.blk g1 (out.map nat) true false 0, .blk g2 es true false 0]) (k:=0) hB rfl (q5b hk) rfl (by omega)
  have hgetn:(out.map nat)[n - 1 - i]? =some (.int .i64 (x:Int)):=by rw[q5b hk,hxx]
  have hidx2:z1m (D++[.blk g1 (out.map nat) true false 0, .blk g2 (List.replicate (n - i) (.int .u8 0)++bytes suf) true false 0]) 1 (.ob (B + 1) g2 0 n) (.int .i64 ((n - 1 - i:Nat):Int))=some (.ptr (B + 1) g2 (n - 1 - i) 0,D++[.blk g1 (out.map nat) true false 0, .blk g2 (List.replicate (n - i) (.int .u8 0)++bytes suf) true false 0]):=
   z8z (L:=[.blk g1 (out.map nat) true false 0, .blk g2 (List.replicate (n - i) (.int .u8 0)++bytes suf) true false 0]) (k:=1) hB rfl (q6b hlt) rfl (by omega)
  have hstore:∀ (y:Nat),z8s (D++[.blk g1 (out.map nat) true false 0, .blk g2 (List.replicate (n - i) (.int .u8 0)++bytes suf) true false 0]) 1 (.int .u8 (y:Int)) (.ptr (B + 1) g2 (n - 1 - i) 0)=some (.undef,D++[.blk g1 (out.map nat) true false 0, .blk g2 (List.replicate (n - (i + 1)) (.int .u8 0)++bytes (y::suf)) true false 0]):=fun y=>by
   have h:=z8y (K:= .u8) (n:=y) (K':= .u8) (m:=0) (D:=D) (B:=B) (g:=g2) (i:=n - 1 - i) (es:=List.replicate (n - i) (AV.int .u8 0)++bytes suf) (L:=[AObj.blk g1 (out.map nat) true false 0,AObj.blk g2 (List.replicate (n - i) (AV.int .u8 0)++bytes suf) true false 0]) (k:=1) (w:=false) hB rfl (q6b hlt)
   rw[j0g hlt] at h
   exact h
  have e2:IntKind.i64.wrap ((x:Int) + (c:Int))=((x + c:Nat):Int):=by rw[z0d (by omega) (by omega)];omega
  have e3:(((x + c:Nat):Int)).tmod 10=(((x + c) % 10:Nat):Int):=by
   rw[Int.tmod_eq_emod_of_nonneg (by omega)];omega
  have e4:IntKind.i64.wrap ((((x + c:Nat):Int)).tdiv 10)=(((x + c) / 10:Nat):Int):=by
   rw[IntWalk.i64_quo _ _ ⟨by omega,by omega,by omega⟩];omega
  have e5:IntKind.u8.wrap (IntKind.i64.wrap (48 + (((x + c) % 10:Nat):Int)))=((48 + (x + c) % 10:Nat):Int):=by rw[z0d (by omega) (by omega),IntWalk.u8_in _ (by omega)];omega
  have e6:IntKind.i64.wrap (((n - 1 - i:Nat):Int) - 1)=(n:Int) - ((i + 1:Nat):Int) - 1:=by rw[z0d (by omega) (by omega)];omega
  simp only[go_sem,h5,h8,h9,h10,hB,q9l,e1,hidx1,hgetn,e2,q6y (b:=10) (by decide),x2i (b:=10) (by decide),e3,e4,e5,e6,hidx2,hstore]
  refine hn (n - (i + 1)) _ (by omega) ⟨i + 1,(x + c) / 10,(48 + (x + c) % 10)::suf,hlt,rfl,by simp[hsl], ?_,by omega, ?_,by simp[z0b,h5],by simp[z0b,h8],by simp[z0b],by simp[z0b],rfl⟩
  ·intro c' hc'
   rw[List.mem_cons] at hc'
   rcases hc' with rfl | hc'
   ·omega
   ·exact hsd c' hc'
  ·rw[show n - (i + 1)=n - 1 - i by omega,hdr,show n - 1 - i + 1=n - i by omega,←hw,z4t,hsl,hl,show n - 1 - (n - 1 - i)=i by omega,Nat.add_sub_cancel_left,Nat.pow_succ]
   have hdm:=Nat.div_add_mod (x + c) 10
   have:=congrArg (· * 10 ^ i) hdm
   simp only[Nat.add_mul] at this
   rw[Nat.mul_comm (10 ^ i) 10,←Nat.mul_assoc,Nat.mul_comm _ 10]
   omega
 ·have hin:i=n:=by omega
  have e1:decide ((0:Int)≤(n:Int) - i - 1)=false:=by rw[decide_eq_false_iff_not];omega
  rw[hin,Nat.sub_self,List.drop_zero] at hw
  have hc0:c=0:=Classical.byContradiction fun h=>by
   have:1 * 10 ^ n≤c * 10 ^ n:=Nat.mul_le_mul_right _ (by omega)
   omega
  subst hc0
  simp only[go_sem,h5,h8,h9,h10,q9l,e1]
  refine he _ _ ?_
  have hh:List.replicate (n - i) (AV.int .u8 0)++bytes suf=bytes suf:=by rw[show n - i=0 by omega];rfl
  rw[hh]
  exact hQ suf _ _ (by omega) ⟨fun h=>by rw[h] at hsl;simp at hsl;omega,hsd⟩ (by omega) (by simp[z0b,h8])
theorem x7n {C:List Nat} {j:Nat} (hj:j < C.length):z1p (C.take (j + 1)) * 10 ^ (C.length - (j + 1))=z1p (C.take j) * 10 ^ (C.length - j) + (C[j] - 48) * 10 ^ (C.length - (j + 1)):=by
 rw[q0k hj,show C.length - j=(C.length - (j + 1)) + 1 by omega,Nat.pow_succ,Nat.add_mul]
 rw[Nat.mul_comm 10,Nat.mul_assoc,Nat.mul_comm 10]
theorem k6n {B clk i n:Nat} {D:List AObj} {out A C:List Nat} {g1:Nat} {o2:AObj} {ts:Tmps} {ks:List Kf} {Q:Post} (hB:D.length=B) (hl:out.length=n) (hn:n=A.length + C.length) (hA:A.length≤100) (hC:C.length≤100) (hi:i < A.length) (hda:∀ c∈A,48≤c∧c≤57) (hdc:∀ c∈C,48≤c∧c≤57) (hb:∀ x∈out,x≤100 * (100 * i))
  (h0:ts 0= .str A) (h1:ts 1= .str C) (h5:ts 5= .ob (B + 0) g1 0 n) (h6:ts 6= .int .i64 (i:Int)) (h7:ts 7= .int .i64 0)
  (hQ:∀ (out':List Nat) (ts':Tmps) (clk':Nat),out'.length=n→(∀ x∈out',x≤100 * (100 * (i + 1)))→x2r out'=x2r out + (A[i] - 48) * 10 ^ (A.length - (i + 1)) * z1p C→ts' 0= .str A→ts' 1= .str C→ts' 5= .ob (B + 0) g1 0 n→ts' 6= .int .i64 (i:Int)→K Gam B (.exit 2) ks ⟨ts',D++[.blk g1 (out'.map nat) true false 0,o2],clk'⟩ Q):
  K Gam B (.loop x2n) ks ⟨ts,D++[.blk g1 (out.map nat) true false 0,o2],clk⟩ Q:=by
 refine z0y (fun m q=>∃ (j:Nat) (out':List Nat),j≤C.length∧m=C.length - j∧out'.length=n∧(∀ x∈out',x≤100 * (100 * i + j))∧x2r out'=x2r out + (A[i] - 48) * 10 ^ (A.length - (i + 1)) * (z1p (C.take j) * 10 ^ (C.length - j))∧q.ts 0= .str A∧q.ts 1= .str C∧q.ts 5= .ob (B + 0) g1 0 n∧q.ts 6= .int .i64 (i:Int)∧q.ts 7= .int .i64 (j:Int)∧q.h=D++[.blk g1 (out'.map nat) true false 0,o2]) C.length ⟨0,out,by omega,rfl,hl,by simpa using hb,by simp[z1p],h0,h1,h5,h6,h7,rfl⟩ ?_
 clear h0 h1 h5 h6 h7
 rintro m ⟨ts,h,clk⟩ P ⟨j,out',hj,rfl,hl',hb',hw,h0,h1,h5,h6,h7,rfl⟩ hnx he hr
 dsimp only at h0 h1 h5 h6 h7
 by_cases hlt:j < C.length
 ·have e1:decide ((j:Int) < (C.length:Int))=true:=by rw[decide_eq_true_iff];omega
  have ek:IntKind.i64.wrap (IntKind.i64.wrap ((i:Int) + (j:Int)) + 1)=((i + j + 1:Nat):Int):=by rw[z0d (n:=(i:Int) + (j:Int)) (by omega) (by omega),z0d (by omega) (by omega)];omega
  have hk:i + j + 1 < out'.length:=by omega
  have hca:=hda _ (List.getElem_mem hi)
  have hcc:=hdc _ (List.getElem_mem hlt)
  have hx:=hb' _ (List.getElem_mem hk)
  have ea:=q2u hca
  have ec:=q2u hcc
  have ea2:IntKind.i64.wrap ((A[i] - 48:Nat):Int)=((A[i] - 48:Nat):Int):=z0d (by omega) (by omega)
  have ec2:IntKind.i64.wrap ((C[j] - 48:Nat):Int)=((C[j] - 48:Nat):Int):=z0d (by omega) (by omega)
  have hprod:(A[i] - 48) * (C[j] - 48)≤81:=Nat.mul_le_mul (by omega:A[i] - 48≤9) (by omega:C[j] - 48≤9)
  have em:IntKind.i64.wrap (((A[i] - 48:Nat):Int) * ((C[j] - 48:Nat):Int))=(((A[i] - 48) * (C[j] - 48):Nat):Int):=by
   rw[←Int.natCast_mul]
   exact z0d (by omega) (by omega)
  have es:IntKind.i64.wrap ((out'[i + j + 1]:Int) + (((A[i] - 48) * (C[j] - 48):Nat):Int))=((out'[i + j + 1] + (A[i] - 48) * (C[j] - 48):Nat):Int):=by rw[z0d (by omega) (by omega)];omega
  have ej:IntKind.i64.wrap ((j:Int) + 1)=((j + 1:Nat):Int):=z0d (by omega) (by omega)
  have hidx:z1m (D++[.blk g1 (out'.map nat) true false 0,o2]) 1 (.ob (B + 0) g1 0 n) (.int .i64 ((i + j + 1:Nat):Int))=some (.ptr (B + 0) g1 (i + j + 1) 0,D++[.blk g1 (out'.map nat) true false 0,o2]):=
   z8z (L:=[.blk g1 (out'.map nat) true false 0,o2]) (k:=0) hB rfl (q5b hk) rfl (by omega)
  have hstore:∀ y:Nat,z8s (D++[.blk g1 (out'.map nat) true false 0,o2]) 1 (.int .i64 (y:Int)) (.ptr (B + 0) g1 (i + j + 1) 0)=some (.undef,D++[.blk g1 ((out'.set (i + j + 1) y).map nat) true false 0,o2]):=fun y=>by
   have h:=z8y (K:= .i64) (n:=y) (K':= .i64) (m:=(out'[i + j + 1]:Int)) (D:=D) (B:=B) (g:=g1) (i:=i + j + 1) (es:=out'.map nat) (L:=[AObj.blk g1 (out'.map nat) true false 0,o2]) (k:=0) (w:=false) hB rfl (q5b hk)
   rw[show (AV.int .i64 (y:Int))=nat y from rfl,k6l] at h
   exact h
  simp only[go_sem,h0,h1,h5,h6,h7,hB,x2n,e1,ek,hidx,q5b hk,q1z hi,q1z hlt,ea,ec,ea2,ec2,em,es,hstore,ej]
  refine hnx (C.length - (j + 1)) _ (by omega) ⟨j + 1,out'.set (i + j + 1) (out'[i + j + 1] + (A[i] - 48) * (C[j] - 48)),hlt,rfl,by simp[hl'], ?_, ?_,h0,h1,h5,h6,rfl,rfl⟩
  ·intro x hx'
   rcases List.mem_or_eq_of_mem_set hx' with h | rfl
   ·have:=hb' x h
    omega
   ·omega
  ·rw[j3p hk,hw,x7n hlt,Nat.mul_add,hl',show n - 1 - (i + j + 1)=(A.length - (i + 1)) + (C.length - (j + 1)) by omega,Nat.pow_add]
   have:(A[i] - 48) * (C[j] - 48) * (10 ^ (A.length - (i + 1)) * 10 ^ (C.length - (j + 1)))=(A[i] - 48) * 10 ^ (A.length - (i + 1)) * ((C[j] - 48) * 10 ^ (C.length - (j + 1))):=by
    simp only[Nat.mul_assoc,Nat.mul_left_comm]
   omega
 ·have hjC:j=C.length:=by omega
  have e1:decide ((j:Int) < (C.length:Int))=false:=by rw[decide_eq_false_iff_not];omega
  simp only[go_sem,h0,h1,h5,h6,h7,x2n,e1]
  refine he _ _ ?_
  refine hQ out' _ _ hl' (fun x hx=>by have:=hb' x hx;omega) ?_ (by simp[z0b,h0]) (by simp[z0b,h1]) (by simp[z0b,h5]) (by simp[z0b,h6])
  rw[hw,hjC,List.take_length,Nat.sub_self,Nat.pow_zero,Nat.mul_one]
theorem k6o {n:Nat}:List.replicate n (AV.int .i64 0)=(List.replicate n 0).map nat:=by simp[nat]
theorem x4l {a b:Nat} (hlen:(dec a).length≤100) (hlenb:(dec b).length≤100):Pure Gam 307 [.str (dec a), .str (dec b)] (.str (dec (a * b))):=by
 refine Pure.of rfl y6i rfl rfl rfl rfl rfl fun D B clk T hB hT=> ?_
 have hda:=z1o a
 have hdc:=z1o b
 have hna:=List.length_pos_iff.2 (z8v a)
 have hwa:=z2g a
 have hwb:=z2g b
 generalize hA:dec a=A at *
 generalize hC:dec b=C at *
 have en:IntKind.i64.wrap ((A.length:Int) + (C.length:Int))=((A.length + C.length:Nat):Int):=by rw[z0d (by omega) (by omega)];omega
 simp only[go_sem,w6z,hB,en,q4y (z:= .int .i64 0) (n:=A.length + C.length) (b:=8) rfl (by omega),k6o]
 generalize hn:A.length + C.length=n
 refine z0y (fun m q=>∃ (i:Nat) (out:List Nat) (g1:Nat) (o2:AObj),i≤A.length∧m=A.length - i∧out.length=n∧(∀ x∈out,x≤100 * (100 * i))∧x2r out=z1p (A.take i) * 10 ^ (A.length - i) * b∧q.ts 0= .str A∧q.ts 1= .str C∧q.ts 5= .ob (B + 0) g1 0 n∧q.ts 6= .int .i64 (i:Int)∧q.h=D++[.blk g1 (out.map nat) true false 0,o2]) A.length ?_ ?_
 ·refine⟨0,List.replicate n 0,_,_,by omega,rfl,by simp,by simp,by simp[k1e,z1p],rfl,rfl,rfl,rfl,rfl⟩
 rintro m ⟨ts,h,clk⟩ P ⟨i,out,g1,o2,hi,rfl,hl,hb,hw,h0,h1,h5,h6,rfl⟩ hnx he hr
 dsimp only at h0 h1 h5 h6
 by_cases hlt:i < A.length
 ·have e1:decide ((i:Int) < (A.length:Int))=true:=by rw[decide_eq_true_iff];omega
  have ei:IntKind.i64.wrap ((i:Int) + 1)=((i + 1:Nat):Int):=z0d (by omega) (by omega)
  simp only[go_sem,h0,h1,h5,h6,j3g,e1]
  refine k6n (i:=i) (A:=A) (C:=C) hB hl hn.symm hlen hlenb hlt hda hdc hb (by simp[z0b,h0]) (by simp[z0b,h1]) (by simp[z0b,h5]) (by simp[z0b,h6]) rfl ?_
  intro out' ts2 clk2 hl' hb' hw' q0 q1 q5 q6
  simp only[go_sem,q0,q1,q5,q6,ei]
  refine hnx (A.length - (i + 1)) _ (by omega) ⟨i + 1,out',g1,o2,hlt,rfl,hl',hb', ?_,q0,q1,q5,rfl,rfl⟩
  rw[hw',hw,x7n hlt,hwb,Nat.add_mul]
 ·have hiA:i=A.length:=by omega
  have e1:decide ((i:Int) < (A.length:Int))=false:=by rw[decide_eq_false_iff_not];omega
  rw[hiA,List.take_length,hwa,Nat.sub_self,Nat.pow_zero,Nat.mul_one] at hw
  have hlt10:a * b < 10 ^ n:=by
   have h1:=z6e hda
   have h2:=z6e hdc
   rw[hwa] at h1
   rw[hwb] at h2
   rw[←hn,Nat.pow_add]
   rcases Nat.eq_zero_or_pos b with rfl | hbp
   ·simp;exact Nat.mul_pos (Nat.pos_of_ne_zero (by simp)) (Nat.pos_of_ne_zero (by simp))
   ·exact Nat.lt_of_lt_of_le (Nat.mul_lt_mul_of_pos_right h1 hbp) (Nat.mul_le_mul_left _ (Nat.le_of_lt h2))
  have em:IntKind.i64.wrap ((n:Int) - 1)=(n:Int) - 1:=z0d (by omega) (by omega)
  simp only[go_sem,h0,h1,h5,h6,j3g,e1]
  refine he _ _ ?_
  simp only[go_sem,h0,h1,h5,h6,hB,q4y (z:= .int .u8 0) (n:=n) (b:=1) rfl (by omega),em]
  refine k6m (out:=out) hB hl (by omega) (by omega) (fun x hx=>by have:=hb x hx;omega) (by rw[hw];exact hlt10) (by simp[z0b,h5]) rfl rfl rfl ?_
  intro suf ts2 clk2 hsl hsd hsw q8
  have hof:∀ g2,v0w (D++[.blk g1 (out.map nat) true false 0, .blk g2 (bytes suf) true false 0]) (.ob (B + 1) g2 0 n)=some (.str suf,D++[.blk g1 (out.map nat) true false 0, .blk g2 (bytes suf) true false 0]):=fun g2=>by
   have hs:=z9a (B:=B) (D:=D) (L:=[.blk g1 (out.map nat) true false 0, .blk g2 (bytes suf) true false 0]) (k:=1) (g:=g2) (len:=n) hB rfl (by rw[q4z,hsl])
   simp only[v0w,hs,Option.bind_some]
   rw[z8f fun c hc=>by have:=hsd.2 c hc;omega]
   rfl
  simp only[go_sem,q8,hof]
  rw[z0a (q2a hsd),hsw,hw]
  simp only[go_sem,]
  rw[z9r]
  exact hT _
theorem x7o {B clk:Nat} {D L:List AObj} {s:List Nat} {g4:Nat} {v0:AV} {ts:Tmps} {ks:List Kf} {Q:Post} (hd:∀ c∈s,48≤c∧c≤57) (hl:s.length≤1000) (h0:ts 0=v0) (h4:ts 4= .ptr (B + 1) g4 0 0) (h5:ts 5= .str s) (h6:ts 6= .int .i64 0) {g2:Nat} (h2:ts 2= .ptr (B + 0) g2 0 0)
  (hQ:∀ (ts':Tmps) (clk':Nat),ts' 0=v0→ts' 2= .ptr (B + 0) g2 0 0→ts' 4= .ptr (B + 1) g4 0 0→ts' 5= .str s→K Gam B (.exit 0) ks ⟨ts',D++L,clk'⟩ Q):K Gam B (.loop q7a) ks ⟨ts,D++L,clk⟩ Q:=by
 refine z0y (fun m q=>∃ j:Nat,j≤s.length∧m=s.length - j∧q.ts 0=v0∧q.ts 2= .ptr (B + 0) g2 0 0∧q.ts 4= .ptr (B + 1) g4 0 0∧q.ts 5= .str s∧q.ts 6= .int .i64 (j:Int)∧q.h=D++L) s.length ⟨0,by omega,rfl,h0,h2,h4,h5,h6,rfl⟩ ?_
 clear h0 h2 h4 h5 h6
 rintro m ⟨ts,h,clk⟩ P ⟨j,hj,rfl,h0,h2,h4,h5,h6,rfl⟩ hn he hr
 dsimp only at h0 h2 h4 h5 h6
 by_cases hlt:j < s.length
 ·have e1:decide ((j:Int) < (s.length:Int))=true:=by rw[decide_eq_true_iff];omega
  have hc:=hd s[j] (List.getElem_mem hlt)
  have e2:decide ((s[j]:Int)=47)=false:=by rw[decide_eq_false_iff_not];omega
  have e4:IntKind.i64.wrap ((j:Int) + 1)=((j + 1:Nat):Int):=z0d (by omega) (by omega)
  simp only[go_sem,h0,h2,h4,h5,h6,q7a,e1,q1z hlt,e2,e4]
  exact hn (s.length - (j + 1)) _ (by omega) ⟨j + 1,hlt,rfl,h0,h2,h4,h5,rfl,rfl⟩
 ·have e1:decide ((j:Int) < (s.length:Int))=false:=by rw[decide_eq_false_iff_not];omega
  simp only[go_sem,h0,h2,h4,h5,h6,q7a,e1]
  refine he _ _ ?_
  exact hQ _ _ (by simp[z0b,h0]) (by simp[z0b,h2]) (by simp[z0b,h4]) (by simp[z0b,h5])
theorem z3v:dec 1=[49]:=z9q (by omega)
theorem k6p (z:Int):z3d z=z4p (decide (z < 0)) z.natAbs 1:=by
 unfold z3d z4p
 by_cases h:z < 0 <;> simp[h]
theorem q3v {z:Int} (hl:(dec z.natAbs).length≤150):Pure Gam 188 [.str (z3d z)] (.tup [x0y (decide (z < 0)) z.natAbs 1, .bool true]):=by
 have hdn:=z1o z.natAbs
 have hdne:=z8v z.natAbs
 have hdig:q7b (dec z.natAbs):=⟨hdne,hdn⟩
 have hp1:Pure Gam 229 [.str [49]] (.bool true):=q6a ⟨by simp,by simp⟩ (by simp)
 have hp2:Pure Gam 230 [.str [49]] (.str [49]):=by have:=q2a (s:=[49]) ⟨by simp,by simp⟩;rwa [show z1p [49]=1 from rfl,z3v] at this
 have hp3:Pure Gam 230 [.str (dec z.natAbs)] (.str (dec z.natAbs)):=by have:=q2a hdig;rwa [z2g] at this
 have hp4:∀ neg:Bool,(neg=true→z.natAbs≠0)→Pure Gam 253 [.bool neg, .str (dec z.natAbs), .str [49]] (x0y neg z.natAbs 1):=fun neg hneg=>by
  have:=x4j (neg:=neg) (a:=z.natAbs) (b:=1) (by omega) hl (by rw[z3v];simp)
  rw[z3v,Nat.gcd_one_right,Nat.div_one,Nat.div_one] at this
  cases neg
  ·exact this
  ·have h0:=hneg rfl
   simpa [h0] using this
 have hp5:∀ neg:Bool,Pure Gam 254 [x0y neg z.natAbs 1] (.str (z4p neg z.natAbs 1)):=fun neg=>x4k hl (by rw[z3v];simp)
 refine Pure.of rfl w6v rfl rfl rfl rfl rfl fun D B clk T hB hT=> ?_
 by_cases hz:z < 0
 ·have he:z3d z=45::dec z.natAbs:=by rw[z3d,if_pos hz]
  have hdz:decide (z < 0)=true:=by simp[hz]
  rw[he]
  simp only[go_sem,k1c,hB,z1i,Bool.not_false,z6b,Int.cast_ofNat_Int,q9n,decide_true,decide_false,Int.reduceEq]
  refine⟨by simp[z1f,apart,z0i,z1d,z1h,AOp.isCall,hB], ?_⟩
  refine x7o (v0:= .str (45::dec z.natAbs)) hdn (by omega) rfl rfl rfl rfl rfl ?_
  intro ts2 clk2 q0 q2 q4 q5
  have e1:decide (([49]:List Nat)=[48])=false:=rfl
  have e2:decide (dec z.natAbs=dec z.natAbs)=true:=by simp
  have e3:decide (z4p true z.natAbs 1=45::dec z.natAbs)=true:=by simp[z4p]
  simp only[go_sem,q0,q2,q4,q5,hB,z1i,z0a (q6a hdig (by omega)),z0a hp1,z0a hp2,z0a hp3,z0a (hp4 true (by omega)),z0a (hp5 true),e1,e2,e3,Bool.not_true,Bool.not_false,decide_true,decide_false]
  refine⟨by simp[z1f,apart,z0i,z1d,z1h,AOp.isCall,hB], ?_⟩
  rw[z0h rfl rfl]
  rw[hdz] at hT
  have:=hT
  rw[x0y,z3v] at this
  exact this _
 ·have he:z3d z=dec z.natAbs:=by rw[z3d,if_neg hz]
  have hdz:decide (z < 0)=false:=by simp[hz]
  rw[he]
  obtain⟨c,t,hct⟩:=List.exists_cons_of_ne_nil hdne
  have hc:=hdn c (by rw[hct];exact List.mem_cons_self)
  have e0:decide (dec z.natAbs=[])=false:=by simp[hdne]
  have e00:∀ h k,q4s h (.str (dec z.natAbs)) (.int k 0)=some (.int .u8 (c:Int),h):=fun h k=>by rw[hct];exact z6b
  have ec:decide ((c:Int)=45)=false:=by rw[decide_eq_false_iff_not];omega
  simp only[go_sem,k1c,hB,z1i,Bool.not_false,e0,e00,ec,Int.cast_ofNat_Int,decide_true,decide_false,Int.reduceEq]
  refine x7o (v0:= .str (dec z.natAbs)) hdn (by omega) rfl rfl rfl rfl rfl ?_
  intro ts2 clk2 q0 q2 q4 q5
  have e1:decide (([49]:List Nat)=[48])=false:=rfl
  have e2:decide (dec z.natAbs=dec z.natAbs)=true:=by simp
  have e3:decide (z4p false z.natAbs 1=dec z.natAbs)=true:=by simp[z4p]
  simp only[go_sem,q0,q2,q4,q5,hB,z1i,z0a (q6a hdig (by omega)),z0a hp1,z0a hp2,z0a hp3,z0a (hp4 false (by simp)),z0a (hp5 false),e1,e2,e3,Bool.not_true,Bool.not_false,decide_true,decide_false]
  refine⟨by simp[z1f,apart,z0i,z1d,z1h,AOp.isCall,hB], ?_⟩
  rw[z0h rfl rfl]
  rw[hdz] at hT
  have:=hT
  rw[x0y,z3v] at this
  exact this _
theorem k6q {x y:Int}:z4p ((!(decide (x < 0)==decide (y < 0))) && !decide (x.natAbs * y.natAbs=0)) (x.natAbs * y.natAbs) 1=z3d (x * y):=by
 rw[k6p,Int.natAbs_mul]
 congr 1
 rw[Bool.eq_iff_iff]
 simp only[Bool.and_eq_true,Bool.not_eq_true',decide_eq_false_iff_not,decide_eq_true_iff,beq_eq_false_iff_ne,ne_eq,decide_eq_decide]
 rcases Int.lt_trichotomy x 0 with hx | hx | hx <;> rcases Int.lt_trichotomy y 0 with hy | hy | hy
 ·have:=Int.mul_pos_of_neg_of_neg hx hy
  simp[hx,hy];omega
 ·subst hy;simp
 ·have:=Int.mul_neg_of_neg_of_pos hx hy
  have h2:¬ y < 0:=by omega
  simp[hx,h2,this];exact Nat.ne_of_gt (Nat.mul_pos (by omega) (by omega))
 ·subst hx;simp
 ·subst hx;simp
 ·subst hx;simp
 ·have:=Int.mul_neg_of_pos_of_neg hx hy
  have h2:¬ x < 0:=by omega
  simp[hy,h2,this];exact Nat.ne_of_gt (Nat.mul_pos (by omega) (by omega))
 ·subst hy;simp
 ·have:=Int.mul_pos hx hy
  have h2:¬ x < 0:=by omega
  have h3:¬ y < 0:=by omega
  simp[h2,h3];omega
theorem v6z {x y:Int} (hx:(dec x.natAbs).length≤60) (hy:(dec y.natAbs).length≤60) (hxy:(dec (x.natAbs * y.natAbs)).length≤150):Pure Gam 314 [.str (z3d x), .str (z3d y)] (.str (z3d (x * y))):=by
 refine Pure.of rfl y6b rfl rfl rfl rfl rfl fun D B clk T hB hT=> ?_
 have hp1:Pure Gam 307 [.str [49], .str [49]] (.str [49]):=by
  have:=x4l (a:=1) (b:=1) (by rw[z3v];simp) (by rw[z3v];simp)
  rwa [z3v] at this
 have hp2:∀ neg:Bool,Pure Gam 253 [.bool neg, .str (dec (x.natAbs * y.natAbs)), .str [49]] (x0y (neg && !decide (x.natAbs * y.natAbs=0)) (x.natAbs * y.natAbs) 1):=fun neg=>by
  have:=x4j (neg:=neg) (a:=x.natAbs * y.natAbs) (b:=1) (by omega) hxy (by rw[z3v];simp)
  rwa [z3v,Nat.gcd_one_right,Nat.div_one,Nat.div_one] at this
 have hp3:∀ neg:Bool,Pure Gam 254 [x0y neg (x.natAbs * y.natAbs) 1] (.str (z4p neg (x.natAbs * y.natAbs) 1)):=fun neg=>x4k hxy (by rw[z3v];simp)
 simp only[go_sem,w6t,hB]
 rw[z0a (q3v (by omega))]
 simp only[go_sem,hB,x0y,z3v]
 rw[z0a (q3v (by omega))]
 simp only[go_sem,hB,x0y,z3v,Bool.not_true,Bool.not_false,z1i,z0a (x4l (a:=x.natAbs) (b:=y.natAbs) (by omega) (by omega)),z0a hp1]
 rw[z0a (hp2 _)]
 simp only[go_sem,]
 rw[z0a (hp3 _)]
 simp only[go_sem,]
 refine⟨by simp[z1f,apart,z0i,z1d,z1h,AOp.isCall,hB], ?_⟩
 rw[z9r,k6q]
 exact hT _
theorem v7a {x:Int} {d:Nat} (hx:(dec x.natAbs).length≤60) (hd:1≤d) (hd4:d≤4):Pure Gam 332 [.str (z3d x), .str (z3d (d:Int))] (.str (z4p (decide (x < 0) && !decide (x.natAbs / Nat.gcd x.natAbs d=0)) (x.natAbs / Nat.gcd x.natAbs d) (d / Nat.gcd x.natAbs d))):=by
 refine Pure.of rfl y6c rfl rfl rfl rfl rfl fun D B clk T hB hT=> ?_
 have hdl:(dec d).length≤1:=z8w (by omega) (by omega)
 have hp1:Pure Gam 307 [.str (dec x.natAbs), .str [49]] (.str (dec x.natAbs)):=by
  have:=x4l (a:=x.natAbs) (b:=1) (by omega) (by rw[z3v];simp)
  rwa [z3v,Nat.mul_one] at this
 have hp2:Pure Gam 307 [.str [49], .str (dec d)] (.str (dec d)):=by
  have:=x4l (a:=1) (b:=d) (by rw[z3v];simp) (by omega)
  rwa [z3v,Nat.one_mul] at this
 have hdn:((d:Int)).natAbs=d:=Int.natAbs_natCast d
 have hdz:decide ((d:Int) < 0)=false:=by rw[decide_eq_false_iff_not];omega
 have hd0:decide (dec d=[48])=false:=by rw[z3t,decide_eq_false_iff_not];omega
 have hr:=q3v (z:=(d:Int)) (by rw[hdn];omega)
 rw[hdn,hdz] at hr
 have hle1:(dec (x.natAbs / Nat.gcd x.natAbs d)).length≤150:=Nat.le_trans (q0l (Nat.div_le_self _ _)) (by omega)
 have hle2:(dec (d / Nat.gcd x.natAbs d)).length≤150:=Nat.le_trans (q0l (Nat.div_le_self _ _)) (by omega)
 simp only[go_sem,w6u,hB]
 rw[z0a (q3v (by omega))]
 simp only[go_sem,hB,x0y,z3v]
 rw[z0a hr]
 simp only[go_sem,hB,x0y,z3v,Bool.not_true,Bool.not_false,hd0,z1i,z0a hp1,z0a hp2]
 rw[z0a (x4j (by omega) (by omega) (by omega))]
 simp only[go_sem,]
 rw[z0a (x4k hle1 hle2)]
 simp only[go_sem,]
 refine⟨by simp[z1f,apart,z0i,z1d,z1h,AOp.isCall,hB], ?_⟩
 rw[z9r]
 have:=hT
 rw[Bool.not_not]
 exact this _
section
variable {l:List Int}
def u5l (v:AV):Prop:=∃ z:Int,v= .str (z3d z)∧z.natAbs < 10 ^ 26
theorem v1c (hl:q7q l):GenOk l 335 [] u5l:=by
 refine GenOk.of rfl y5r rfl rfl rfl rfl rfl fun D B p g i clk T hB hs hD hi hR=> ?_
 simp only[go_sem,w5y,hB]
 refine z0o (z3h hl (by decide) (by decide)) hB hs hD hi ?_
 clear hB hD hi
 rintro v D i ⟨r,rfl,hr1,hr2⟩ hB hD hi
 obtain h6 | h7 | h8:r=6∨r=7∨(r≠6∧r≠7):=by omega
 ·subst h6
  simp only[go_sem,Int.reduceEq,decide_true,decide_false]
  refine z0o (z3h hl (by decide) (by decide)) hB hs hD hi ?_
  clear hB hD hi
  rintro v D i ⟨r,rfl,hr3,hr4⟩ hB hD hi
  simp only[go_sem,z0d (n:=r - 1000) (by omega) (by omega)]
  rw[z0a (q0j (by omega) (by omega))]
  simp only[go_sem,]
  rw[z9r]
  exact hR _ _ i (by rw[z0u hB hs];exact hD) hi ⟨_,rfl,by omega⟩
 ·subst h7
  simp only[go_sem,Int.reduceEq,decide_true,decide_false]
  refine z0o (z3h hl (by decide) (by decide)) hB hs hD hi ?_
  clear hB hD hi
  rintro v D i ⟨x,rfl,hr3,hr4⟩ hB hD hi
  simp only[go_sem,z0d (n:=x - 549755813888) (by omega) (by omega)]
  rw[z0a (q0j (by omega) (by omega))]
  simp only[go_sem,]
  refine z0o (z3h hl (by decide) (by decide)) hB hs hD hi ?_
  clear hB hD hi
  rintro v D i ⟨y,rfl,hr5,hr6⟩ hB hD hi
  simp only[go_sem,]
  rw[z0a (q0j (by omega) (by omega))]
  have hx:(x - 549755813888).natAbs < 10 ^ 13:=by omega
  have hy:y.natAbs < 10 ^ 13:=by omega
  have hxy:(x - 549755813888).natAbs * y.natAbs < 10 ^ 26:=Nat.lt_of_le_of_lt (Nat.mul_le_mul (Nat.le_sub_one_of_lt hx) (Nat.le_sub_one_of_lt hy)) (by decide)
  simp only[go_sem,]
  rw[z0a (v6z (Nat.le_trans (z8w (k:=13) (by omega) hx) (by omega)) (Nat.le_trans (z8w (k:=13) (by omega) hy) (by omega)) (Nat.le_trans (z8w (k:=26) (by omega) hxy) (by omega)))]
  simp only[go_sem,]
  rw[z9r]
  exact hR _ _ i (by rw[z0u hB hs];exact hD) hi ⟨_,rfl,by rw[Int.natAbs_mul];exact hxy⟩
 ·have e6:decide (r=6)=false:=by simp[h8.1]
  have e7:decide (r=7)=false:=by simp[h8.2]
  simp only[go_sem,e6,e7]
  refine z0o (z3h hl (by decide) (by decide)) hB hs hD hi ?_
  clear hB hD hi
  rintro v D i ⟨r,rfl,hr3,hr4⟩ hB hD hi
  simp only[go_sem,z0d (n:=r - 4) (by omega) (by omega)]
  rw[z0a (q0j (by omega) (by omega))]
  simp only[go_sem,]
  rw[z9r]
  exact hR _ _ i (by rw[z0u hB hs];exact hD) hi ⟨_,rfl,by omega⟩
end
section
variable {l:List Int}
theorem k6r {z:Int} {d:Nat} (hz:z.natAbs < 10 ^ 26) (hd:1≤d) (hd4:d≤4):RatS (z4p (decide (z < 0) && !decide (z.natAbs / Nat.gcd z.natAbs d=0)) (z.natAbs / Nat.gcd z.natAbs d) (d / Nat.gcd z.natAbs d)):=by
 have hg:0 < Nat.gcd z.natAbs d:=Nat.gcd_pos_of_pos_right _ hd
 have hcop:Nat.gcd (z.natAbs / Nat.gcd z.natAbs d) (d / Nat.gcd z.natAbs d)=1:=Nat.gcd_div_gcd_div_gcd_of_pos_right hd
 have h1:z.natAbs / Nat.gcd z.natAbs d≤z.natAbs:=Nat.div_le_self _ _
 have h2:d / Nat.gcd z.natAbs d≤d:=Nat.div_le_self _ _
 have h3:0 < d / Nat.gcd z.natAbs d:=Nat.div_pos (Nat.le_of_dvd hd (Nat.gcd_dvd_right _ _)) hg
 generalize z.natAbs / Nat.gcd z.natAbs d=n at *
 generalize d / Nat.gcd z.natAbs d=e at *
 obtain⟨w,hw,hwn⟩:∃ w:Int,z3d w=(if (decide (z < 0) && !decide (n=0))=true then [45] else [])++dec n∧w.natAbs=n:=by
  by_cases hneg:(decide (z < 0) && !decide (n=0))=true
  ·simp only[Bool.and_eq_true,decide_eq_true_iff,Bool.not_eq_true',decide_eq_false_iff_not] at hneg
   refine⟨-(n:Int), ?_,by omega⟩
   rw[z3d,if_pos (by omega),show (-(n:Int)).natAbs=n by omega]
   simp[hneg.1,hneg.2]
  ·refine⟨(n:Int), ?_,by omega⟩
   rw[if_neg hneg,z3d,if_neg (by omega),Int.natAbs_natCast]
   rfl
 unfold z4p
 rw[←hw]
 by_cases he:e=1
 ·rw[if_pos he,List.append_nil]
  exact .inl (q5z (by omega))
 ·rw[if_neg he]
  exact .inr ⟨w,e,rfl,by omega,by omega,by omega,by rw[hwn];exact hcop⟩
theorem w7z (hl:q7q l):GenOk l 336 [] fun v=>∃ a,v= .str a∧RatS a:=by
 refine GenOk.of rfl y5s rfl rfl rfl rfl rfl fun D B p g i clk T hB hs hD hi hR=> ?_
 simp only[go_sem,w5z,hB]
 refine z0o (v1c hl) hB hs hD hi ?_
 clear hB hD hi
 rintro v D i ⟨z,rfl,hz⟩ hB hD hi
 simp only[go_sem,]
 refine z0o (z3h hl (by decide) (by decide)) hB hs hD hi ?_
 clear hB hD hi
 rintro v D i ⟨r,rfl,hr3,hr4⟩ hB hD hi
 obtain⟨k,rfl⟩:∃ k:Nat,r=k:=⟨r.toNat,by omega⟩
 have e1:IntKind.i64.wrap (1 + (k:Int))=((1 + k:Nat):Int):=by rw[z0d (by omega) (by omega)];omega
 simp only[go_sem,e1]
 rw[z0a (q0j (by omega) (by omega))]
 simp only[go_sem,]
 rw[z0a (v7a (Nat.le_trans (z8w (k:=26) (by omega) hz) (by omega)) (by omega) (by omega))]
 simp only[go_sem,]
 rw[z9r]
 exact hR _ _ i (by rw[z0u hB hs];exact hD) hi ⟨_,rfl,k6r hz (by omega) (by omega)⟩
theorem v1d (hl:q7q l):x1d l:=by
 intro s hs23
 refine GenOk.of rfl y5q rfl rfl rfl rfl rfl fun D B p g i clk T hB hs hD hi hR=> ?_
 rcases hs23 with rfl | rfl
 ·simp only[go_sem,v5p,hB,nat,Int.reduceEq,decide_true,decide_false]
  refine z0o (v1c hl) hB hs hD hi ?_
  clear hB hD hi
  rintro v D i ⟨z,rfl,hz⟩ hB hD hi
  simp only[go_sem,]
  rw[z9r]
  exact hR _ _ i (by rw[z0u hB hs];exact hD) hi ⟨_,rfl, .inl ⟨rfl,q5z (by omega)⟩⟩
 ·simp only[go_sem,v5p,hB,nat,Int.reduceEq,decide_true,decide_false]
  refine z0o (w7z hl) hB hs hD hi ?_
  clear hB hD hi
  rintro v D i ⟨a,rfl,ha⟩ hB hD hi
  simp only[go_sem,]
  rw[z9r]
  exact hR _ _ i (by rw[z0u hB hs];exact hD) hi ⟨_,rfl, .inr ⟨rfl,ha⟩⟩
end
theorem j3q {h:List AObj} {c:Nat} {s:List Nat} {k:IntKind}:slV h none (.str (c::s)) none (some (.int k 1)) none=some (.str [c],h):=by
 simp[slV,z2v,z4v]
theorem j0i {t:List Nat}:Pure Gam 360 [.str (45::t), .str [45]] (.bool true):=by
 refine Pure.of rfl w7g rfl rfl rfl rfl rfl fun D B clk T hB hT=> ?_
 have e1:decide ((1:Int)≤((t.length + 1:Nat):Int))=true:=by rw[decide_eq_true_iff];omega
 simp only[go_sem,v6o,Nat.zero_add,Int.cast_ofNat_Int,e1,j3q,decide_true]
 rw[z0e]
 exact hT _
theorem j0j {c:Nat} {t:List Nat} (hc:c≠45):Pure Gam 360 [.str (c::t), .str [45]] (.bool false):=by
 refine Pure.of rfl w7g rfl rfl rfl rfl rfl fun D B clk T hB hT=> ?_
 have e1:decide ((1:Int)≤((t.length + 1:Nat):Int))=true:=by rw[decide_eq_true_iff];omega
 have e2:decide ([c]=[45])=false:=by simp[hc]
 simp only[go_sem,v6o,Nat.zero_add,Int.cast_ofNat_Int,e1,j3q,e2]
 rw[z0e]
 exact hT _
theorem q9o {t:List Nat}:Pure Gam 322 [.str (45::t), .str [45]] (.tup [.str t, .bool true]):=by
 have hp:Pure Gam 348 [.str (45::t), .str [45]] (.tup [.str t, .bool true]):=by
  refine Pure.of rfl w7f rfl rfl rfl rfl rfl fun D B clk T hB hT=> ?_
  simp only[go_sem,v6n]
  rw[z0a j0i]
  simp only[go_sem,Bool.not_true,Nat.zero_add,Int.cast_ofNat_Int,q9n]
  rw[z0h rfl rfl]
  exact hT _
 refine Pure.of rfl w7e rfl rfl rfl rfl rfl fun D B clk T hB hT=> ?_
 simp only[go_sem,v6m]
 rw[z0a hp]
 simp only[go_sem,]
 rw[z0h rfl rfl]
 exact hT _
theorem q9p {c:Nat} {t:List Nat} (hc:c≠45):Pure Gam 322 [.str (c::t), .str [45]] (.tup [.str (c::t), .bool false]):=by
 have hp:Pure Gam 348 [.str (c::t), .str [45]] (.tup [.str (c::t), .bool false]):=by
  refine Pure.of rfl w7f rfl rfl rfl rfl rfl fun D B clk T hB hT=> ?_
  simp only[go_sem,v6n]
  rw[z0a (j0j hc)]
  simp only[go_sem,Bool.not_false]
  rw[z0h rfl rfl]
  exact hT _
 refine Pure.of rfl w7e rfl rfl rfl rfl rfl fun D B clk T hB hT=> ?_
 simp only[go_sem,v6m]
 rw[z0a hp]
 simp only[go_sem,]
 rw[z0h rfl rfl]
 exact hT _
section
open Sh
set_option maxHeartbeats 0
noncomputable def w8a:AFun:=(fun (a:AFun) (_:Gam.fn 180=some a)=>a) _ (by conv=>lhs;reduce;simp only[Int.reduceOfNat,Int.reduceNegSucc])
theorem y7b:Gam.fn 180=some w8a:=by kernel_rfl
noncomputable def w8b:AFun:=(fun (a:AFun) (_:Gam.fn 181=some a)=>a) _ (by conv=>lhs;reduce;simp only[Int.reduceOfNat,Int.reduceNegSucc])
theorem y7c:Gam.fn 181=some w8b:=by kernel_rfl
noncomputable def w8c:AFun:=(fun (a:AFun) (_:Gam.fn 183=some a)=>a) _ (by conv=>lhs;reduce;simp only[Int.reduceOfNat,Int.reduceNegSucc])
theorem y7d:Gam.fn 183=some w8c:=by kernel_rfl
noncomputable def w8d:AFun:=(fun (a:AFun) (_:Gam.fn 249=some a)=>a) _ (by conv=>lhs;reduce;simp only[Int.reduceOfNat,Int.reduceNegSucc])
theorem y7e:Gam.fn 249=some w8d:=by kernel_rfl
noncomputable def u1r:AFun:=(fun (a:AFun) (_:Gam.fn 220=some a)=>a) _ (by conv=>lhs;reduce;simp only[Int.reduceOfNat,Int.reduceNegSucc])
noncomputable def x2s:ACode:=(fun (a:ACode) (_:fl [] (lp u1r 0)=a)=>a) _ (by conv=>lhs;reduce;simp only[Int.reduceOfNat,Int.reduceNegSucc])
attribute [local irreducible] x2s
noncomputable def w8e:AFun:=(fun (a:AFun) (_:flF [x2s] u1r=a)=>a) _ (by conv=>lhs;reduce;simp only[Int.reduceOfNat,Int.reduceNegSucc])
theorem y7f:Gam.fn 220=some w8e:=by kernel_rfl
noncomputable def u1s:AFun:=(fun (a:AFun) (_:Gam.fn 219=some a)=>a) _ (by conv=>lhs;reduce;simp only[Int.reduceOfNat,Int.reduceNegSucc])
noncomputable def q5c:ACode:=(fun (a:ACode) (_:fl [] (lp u1s 0)=a)=>a) _ (by conv=>lhs;reduce;simp only[Int.reduceOfNat,Int.reduceNegSucc])
attribute [local irreducible] q5c
noncomputable def w8f:AFun:=(fun (a:AFun) (_:flF [q5c] u1s=a)=>a) _ (by conv=>lhs;reduce;simp only[Int.reduceOfNat,Int.reduceNegSucc])
theorem y7g:Gam.fn 219=some w8f:=by kernel_rfl
noncomputable def w8g:AFun:=(fun (a:AFun) (_:Gam.fn 221=some a)=>a) _ (by conv=>lhs;reduce;simp only[Int.reduceOfNat,Int.reduceNegSucc])
theorem y7h:Gam.fn 221=some w8g:=by kernel_rfl
noncomputable def j0k:AFun:=(fun (a:AFun) (_:Gam.fn 216=some a)=>a) _ (by conv=>lhs;reduce;simp only[Int.reduceOfNat,Int.reduceNegSucc])
theorem k1g:Gam.fn 216=some j0k:=by kernel_rfl
noncomputable def x1e:AFun:=(fun (a:AFun) (_:Gam.fn 217=some a)=>a) _ (by conv=>lhs;reduce;simp only[Int.reduceOfNat,Int.reduceNegSucc])
theorem y7i:Gam.fn 217=some x1e:=by kernel_rfl
noncomputable def q2b:AFun:=(fun (a:AFun) (_:Gam.fn 218=some a)=>a) _ (by conv=>lhs;reduce;simp only[Int.reduceOfNat,Int.reduceNegSucc])
theorem y7j:Gam.fn 218=some q2b:=by kernel_rfl
noncomputable def v7b:AFun:=(fun (a:AFun) (_:Gam.fn 275=some a)=>a) _ (by conv=>lhs;reduce;simp only[Int.reduceOfNat,Int.reduceNegSucc])
theorem w8h:Gam.fn 275=some v7b:=by kernel_rfl
noncomputable def w8i:AFun:=(fun (a:AFun) (_:Gam.fn 276=some a)=>a) _ (by conv=>lhs;reduce;simp only[Int.reduceOfNat,Int.reduceNegSucc])
theorem y7k:Gam.fn 276=some w8i:=by kernel_rfl
noncomputable def v7c:AFun:=(fun (a:AFun) (_:Gam.fn 277=some a)=>a) _ (by conv=>lhs;reduce;simp only[Int.reduceOfNat,Int.reduceNegSucc])
theorem y7l:Gam.fn 277=some v7c:=by kernel_rfl
noncomputable def w8j:AFun:=(fun (a:AFun) (_:Gam.fn 278=some a)=>a) _ (by conv=>lhs;reduce;simp only[Int.reduceOfNat,Int.reduceNegSucc])
theorem y7m:Gam.fn 278=some w8j:=by kernel_rfl
noncomputable def w8k:AFun:=(fun (a:AFun) (_:Gam.fn 279=some a)=>a) _ (by conv=>lhs;reduce;simp only[Int.reduceOfNat,Int.reduceNegSucc])
theorem y7n:Gam.fn 279=some w8k:=by kernel_rfl
noncomputable def w8l:AFun:=(fun (a:AFun) (_:Gam.fn 280=some a)=>a) _ (by conv=>lhs;reduce;simp only[Int.reduceOfNat,Int.reduceNegSucc])
theorem y7o:Gam.fn 280=some w8l:=by kernel_rfl
noncomputable def w8m:AFun:=(fun (a:AFun) (_:Gam.fn 324=some a)=>a) _ (by conv=>lhs;reduce;simp only[Int.reduceOfNat,Int.reduceNegSucc])
theorem y7p:Gam.fn 324=some w8m:=by kernel_rfl
noncomputable def w8n:AFun:=(fun (a:AFun) (_:Gam.fn 259=some a)=>a) _ (by conv=>lhs;reduce;simp only[Int.reduceOfNat,Int.reduceNegSucc])
theorem y7q:Gam.fn 259=some w8n:=by kernel_rfl
noncomputable def u1t:AFun:=(fun (a:AFun) (_:Gam.fn 319=some a)=>a) _ (by conv=>lhs;reduce;simp only[Int.reduceOfNat,Int.reduceNegSucc])
noncomputable def x2t:ACode:=(fun (a:ACode) (_:fl [] (lp u1t 0)=a)=>a) _ (by conv=>lhs;reduce;simp only[Int.reduceOfNat,Int.reduceNegSucc])
attribute [local irreducible] x2t
noncomputable def w8o:AFun:=(fun (a:AFun) (_:flF [x2t] u1t=a)=>a) _ (by conv=>lhs;reduce;simp only[Int.reduceOfNat,Int.reduceNegSucc])
theorem y7r:Gam.fn 319=some w8o:=by kernel_rfl
noncomputable def v7d:AFun:=(fun (a:AFun) (_:Gam.fn 281=some a)=>a) _ (by conv=>lhs;reduce;simp only[Int.reduceOfNat,Int.reduceNegSucc])
theorem y7s:Gam.fn 281=some v7d:=by kernel_rfl
end
end Go.Proofs.YtahdahokpjigiaaGreatDoor.Am
