/- Walking: magnitudes are divided Walking: magnitudes are added Functions of the abstract machine's program Walking: greatest common divisors, lowest terms, texts Positional values: plain facts Walking: -/
import Derived.Test.YtkollgjffkdliaaGreatDoorM26
open Nat renaming reduceBEq → z0,reduceAdd → z1,reduceLeDiff → z2,reduceSub → z3
set_option linter.all false
namespace Go.Proofs.YtkollgjffkdliaaGreatDoor.Am
open Go
set_option maxRecDepth 100000
theorem v0p {B clk r b:Nat} {D:List AObj} {o:AObj} {ts:Tmps} {ks:List Kf} {Q:Post} (hb:0 < b) (hr:r < 10 * b) (hl:(dec r).length≤10000100) (hlb:(dec b).length≤10000100) (h1:ts 1= .str (dec b)) (h7:ts 7= .str (dec r)) (h9:ts 9= .int .u8 48)
  (hQ:∀ (ts':Tmps) (clk':Nat),ts' 0=ts 0→ts' 1=ts 1→ts' 6=ts 6→ts' 8=ts 8→ts' 7= .str (dec (r % b))→ts' 9= .int .u8 ((48 + r / b:Nat):Int)→K Gam B (.exit 2) ks ⟨ts',D++[o],clk'⟩ Q):
  K Gam B (.loop x4e) ks ⟨ts,D++[o],clk⟩ Q:=by
 refine z1f (fun m q=>∃ (x d:Nat),m=x∧r=x + d * b∧d≤9∧(dec x).length≤10000100∧q.ts 0=ts 0∧q.ts 1=ts 1∧q.ts 6=ts 6∧q.ts 8=ts 8∧q.ts 7= .str (dec x)∧q.ts 9= .int .u8 ((48 + d:Nat):Int)∧q.h=D++[o]) r ⟨r,0,rfl,by omega,by omega,hl,rfl,rfl,rfl,rfl,h7,h9,rfl⟩ ?_
 rintro m ⟨ts2,h,clk⟩ P ⟨x,d,rfl,hx,hd,hlx,q0,q1,q6,q8,q7,q9,rfl⟩ hn he hret
 dsimp only at q0 q1 q6 q8 q7 q9
 rw[h1] at q1
 have hcmp:=k4k (a:=m) (b:=b)
 by_cases hlt:m < b
 ·rw[if_pos hlt] at hcmp
  simp only[go_sem,q1,q7,q9,x4e]
  rw[z0a hcmp]
  simp only[go_sem,Int.reduceLE,decide_false]
  refine he _ _ ?_
  have e1:r % b=m:=by rw[hx,Nat.add_mul_mod_self_right,Nat.mod_eq_of_lt hlt]
  have e2:r / b=d:=by rw[hx,Nat.add_mul_div_right _ _ hb,Nat.div_eq_of_lt hlt,Nat.zero_add]
  exact hQ _ _ (by simp[z0b,q0]) (by simp[z0b,q1,h1]) (by simp[z0b,q6]) (by simp[z0b,q8]) (by simp[z0b,q7,e1]) (by simp[z0b,q9,e2])
 ·have hge:∃ n:Int,(if m < b then -1 else if m=b then 0 else 1)=n∧0≤n:=by
   rw[if_neg hlt]
   split
   ·exact⟨0,rfl,by omega⟩
   ·exact⟨1,rfl,by omega⟩
  obtain⟨n,hn1,hn2⟩:=hge
  rw[hn1] at hcmp
  have e1:decide (0≤n)=true:=by rw[decide_eq_true_iff];exact hn2
  have hd9:d + 1≤9:=by
   have:d * b + b≤r:=by omega
   rcases Nat.lt_or_ge d 9 with h | h
   ·omega
   ·have:9 * b≤d * b:=Nat.mul_le_mul_right _ h
    omega
  have e2:IntKind.u8.wrap (((48 + d:Nat):Int) + 1)=((48 + (d + 1):Nat):Int):=by rw[IntWalk.u8_in _ (by omega)];omega
  simp only[go_sem,q1,q7,q9,x4e]
  rw[z0a hcmp]
  simp only[go_sem,e1,q1,q7]
  rw[z0a (j3h (by omega) hlx hlb)]
  simp only[go_sem,q9,e2]
  have hlx':(dec (m - b)).length≤10000100:=Classical.byContradiction fun h=>by
   have:=z6v (a:=m) (b:=m - b) (by omega)
   omega
  exact hn (m - b) _ (by omega) ⟨m - b,d + 1,rfl,by rw[Nat.add_mul,Nat.one_mul];omega,hd9,hlx',q0,by rw[h1];exact q1,q6,q8,rfl,rfl,rfl⟩
theorem q0w {A:List Nat} {i:Nat} (hi:i < A.length):z1q (A.take (i + 1))=10 * z1q (A.take i) + (A[i] - 48):=by
 rw[List.take_succ_eq_append_getElem hi,q0u]
theorem j6e {n i:Nat} {x:AV} {suf:List AV} (hl:suf.length=i) (hi:i < n):(suf++List.replicate (n - i) x)[i]? =some x:=by
 rw[List.getElem?_append_right (by omega),List.getElem?_replicate,if_pos (by omega)]
theorem v0q {n i:Nat} {x y:AV} {suf:List AV} (hl:suf.length=i) (hi:i < n):(suf++List.replicate (n - i) x).set i y=(suf++[y])++List.replicate (n - (i + 1)) x:=by
 obtain⟨m,hm⟩:∃ m,n - i=m + 1:=⟨n - i - 1,by omega⟩
 rw[hm,show n - (i + 1)=m by omega,List.replicate_succ,List.set_append_right _ _ (by omega),hl,Nat.sub_self,List.set_cons_zero,List.append_assoc]
 rfl
theorem j9x {s:List Nat} {c:Nat}:bytes s++[.int .u8 (c:Int)]=bytes (s++[c]):=by simp[bytes]
theorem q5y {s:List Nat}:(bytes s).length=s.length:=by simp[bytes]
theorem x6k {a b:Nat} (hb:0 < b) (hlen:(dec a).length≤10000000) (hlenb:(dec b).length≤10000000):Pure Gam 278 [.str (dec a), .str (dec b)] (.tup [.str (dec (a / b)), .str (dec (a % b))]):=by
 refine Pure.of rfl u2w rfl rfl rfl rfl rfl fun D B clk T hB hT=> ?_
 have hda:=z1m a
 have hna:dec a≠[]:=z7w a
 have hwa:=z1u a
 generalize hA:dec a=A at *
 simp only[go_sem,y3p,hB,q5x (z:= .int .u8 0) (n:=A.length) (b:=1) rfl (by omega)]
 refine z1f (fun m q=>∃ (i:Nat) (qs:List Nat) (gr:Nat),i≤A.length∧m=A.length - i∧qs.length=i∧(∀ c∈qs,48≤c∧c≤57)∧z1q qs=z1q (A.take i) / b∧
  q.ts 0= .str A∧q.ts 1= .str (dec b)∧q.ts 6= .ob (B + 0) gr 0 A.length∧q.ts 7= .str (dec (z1q (A.take i) % b))∧q.ts 8= .int .i64 (i:Int)∧q.h=D++[.blk gr (bytes qs++List.replicate (A.length - i) (.int .u8 0)) true false 0]) A.length ?_ ?_
 ·refine⟨0,[],_,by omega,rfl,rfl,by simp,by simp[z1q],rfl,rfl,rfl, ?_,rfl,by simp[bytes]⟩
  simp[z0b,z1q,q0a]
 rintro m ⟨ts,h,clk⟩ P ⟨i,qs,gr,hi,rfl,hql,hqd,hqw,h0,h1,h6,h7,h8,rfl⟩ hn he hr
 dsimp only at h0 h1 h6 h7 h8
 have hrb:z1q (A.take i) % b < b:=Nat.mod_lt _ hb
 by_cases hlt:i < A.length
 ·have e1:decide ((i:Int) < (A.length:Int))=true:=by rw[decide_eq_true_iff];omega
  have ei:IntKind.i64.wrap ((i:Int) + 1)=((i + 1:Nat):Int):=z0c (by omega) (by omega)
  have hc:=hda A[i] (List.getElem_mem hlt)
  have hsl:∀ h,slV h none (.str A) (some (.int .i64 (i:Int))) (some (.int .i64 ((i + 1:Nat):Int))) none=some (.str [A[i]],h):=fun h=>by
   have:((A.take (i + 1)).drop i)=[A[i]]:=by
    rw[List.take_succ_eq_append_getElem hlt,List.drop_append_of_le_length (by simp;omega)]
    simp
   have hle:i + 1≤A.length:=hlt
   simp only[slV,z2w,z5b,Int.natCast_nonneg,if_true,Int.toNat_natCast,hle,and_true,Nat.le_add_right,this,Option.map_some]
  generalize hR:z1q (A.take i) % b=R at *
  have hRl:(dec R).length≤10000000:=Classical.byContradiction fun h=>by
   have:=z6v (a:=b) (b:=R) (by omega)
   omega
  have hdig:q8h (dec R++[A[i]]):=⟨by simp,fun c hc'=>by
   rw[List.mem_append,List.mem_singleton] at hc'
   rcases hc' with h | rfl
   ·exact z1m R c h
   ·exact hc⟩
  have hwr:z1q (dec R++[A[i]])=10 * R + (A[i] - 48):=by rw[q0u,z1u]
  have hrl2:(dec (10 * R + (A[i] - 48))).length≤10000100:=by
   have h1:=z4w (z1m R)
   rw[z1u] at h1
   exact Nat.le_trans (z7e (k:=(dec R).length + 1) (by omega) (by rw[Nat.pow_succ];omega)) (by omega)
  simp only[go_sem,h0,h1,h6,h7,h8,j5v,e1,ei,hsl,q5v (a:=dec R) (b:=[A[i]]) (by simp;omega)]
  rw[z0a (q1u hdig),hwr]
  simp only[go_sem,]
  refine v0p hb (by omega) hrl2 (by omega) (by simp[z0b,h1]) rfl rfl ?_
  intro ts2 clk2 q0 q1 q6 q8 q7 q9
  simp only[z0b,z0,cond_true,cond_false,h0,h1,h6,h8] at q0 q1 q6 q8
  have hqd9:(10 * R + (A[i] - 48)) / b≤9:=by
   rw[Nat.div_le_iff_le_mul_add_pred hb];omega
  have hbl:(bytes qs).length=i:=by rw[q5y,hql]
  have hstore:∀ (x:Nat),z9z (D++[.blk gr (bytes qs++List.replicate (A.length - i) (.int .u8 0)) true false 0]) 1 (.int .u8 (x:Int)) (.ptr (B + 0) gr i 0)=some (.undef,D++[.blk gr (bytes (qs++[x])++List.replicate (A.length - (i + 1)) (.int .u8 0)) true false 0]):=fun x=>by
   have h:=q0v (K:= .u8) (n:=x) (K':= .u8) (m:=0) (D:=D) (B:=B) (g:=gr) (i:=i) (es:=bytes qs++List.replicate (A.length - i) (AV.int .u8 0)) (L:=[AObj.blk gr (bytes qs++List.replicate (A.length - i) (AV.int .u8 0)) true false 0]) (k:=0) (w:=false) hB rfl (j6e hbl hlt)
   rw[v0q hbl hlt,j9x] at h
   exact h
  have hidx:z1p (D++[.blk gr (bytes qs++List.replicate (A.length - i) (.int .u8 0)) true false 0]) 1 (.ob (B + 0) gr 0 A.length) (.int .i64 (i:Int))=some (.ptr (B + 0) gr i 0,D++[.blk gr (bytes qs++List.replicate (A.length - i) (.int .u8 0)) true false 0]):=
   q0h (L:=[.blk gr (bytes qs++List.replicate (A.length - i) (.int .u8 0)) true false 0]) (k:=0) hB rfl (j6e hbl hlt) rfl (by omega)
  simp only[go_sem,q0,q1,q6,q8,q7,q9,hidx,hstore,ei]
  have hWA:z1q (A.take i)=b * z1q qs + R:=by rw[hqw,←hR];exact (Nat.div_add_mod _ _).symm
  have e10:10 * z1q (A.take i) + (A[i] - 48)=(10 * R + (A[i] - 48)) + b * (10 * z1q qs):=by
   rw[hWA,Nat.mul_add,←Nat.mul_assoc,Nat.mul_comm 10 b,Nat.mul_assoc]
   omega
  refine hn (A.length - (i + 1)) _ (by omega) ⟨i + 1,qs++[48 + (10 * R + (A[i] - 48)) / b],gr,hlt,rfl,by simp[hql], ?_, ?_,by simp[z0b,q0],by simp[z0b,q1],by simp[z0b,q6], ?_,by simp[z0b],rfl⟩
  ·intro c hc'
   rw[List.mem_append,List.mem_singleton] at hc'
   rcases hc' with h | rfl
   ·exact hqd c h
   ·exact⟨Nat.le_add_right _ _,Nat.add_le_add_left hqd9 48⟩
  ·rw[q0u,q0w hlt,e10,Nat.add_mul_div_left _ _ hb,Nat.add_sub_cancel_left,Nat.add_comm]
  ·rw[q0w hlt,e10,Nat.add_mul_mod_self_left]
   simp[z0b,q7]
 ·have hiA:i=A.length:=by omega
  have e1:decide ((i:Int) < (A.length:Int))=false:=by rw[decide_eq_false_iff_not];omega
  rw[hiA,List.take_length,hwa] at hqw h7
  have hqne:qs≠[]:=fun h=>hna (List.length_eq_zero_iff.1 (by rw[←hiA,←hql,h];rfl))
  have hof:k7n (D++[.blk gr (bytes qs++List.replicate (A.length - i) (.int .u8 0)) true false 0]) (.ob (B + 0) gr 0 A.length)=some (.str qs,D++[.blk gr (bytes qs++List.replicate (A.length - i) (.int .u8 0)) true false 0]):=by
   have hs:=z9g (B:=B) (D:=D) (L:=[.blk gr (bytes qs++List.replicate (A.length - i) (.int .u8 0)) true false 0]) (k:=0) (g:=gr) (len:=A.length) hB rfl (by simp[bytes,hql];omega)
   simp only[k7n,hs,Option.bind_some]
   rw[show A.length - i=0 by omega,List.replicate_zero,List.append_nil,z7f fun c hc=>by have:=hqd c hc;omega]
   rfl
  simp only[go_sem,h0,h1,h6,h7,h8,j5v,e1]
  refine he _ _ ?_
  simp only[go_sem,h0,h1,h6,h7,h8,hof]
  rw[z0a (q1u ⟨hqne,hqd⟩),hqw]
  simp only[go_sem,h7]
  rw[z0g rfl rfl]
  exact hT _
theorem q0x {A:List Nat} {i:Nat} (hd:∀ c∈A,48≤c∧c≤57):∃ d,d≤9∧z1q (A.drop (A.length - (i + 1)))=d * 10 ^ i + z1q (A.drop (A.length - i))∧(i < A.length→∀ h,(q4u h (.str A) (.int .i64 ((A.length - 1 - i:Nat):Int))=some (.int .u8 ((48 + d:Nat):Int),h)))∧(¬ i < A.length→d=0):=by
 by_cases hi:i < A.length
 ·have hia:A.length - 1 - i < A.length:=by omega
  have hca:=hd _ (List.getElem_mem hia)
  have hdig:=q7c hi
  refine⟨A[A.length - 1 - i] - 48,by omega,hdig,fun _ h=> ?_,fun h=>absurd hi h⟩
  rw[q1t hia,show 48 + (A[A.length - 1 - i] - 48)=A[A.length - 1 - i] by omega]
 ·refine⟨0,by omega, ?_,fun h=>absurd h hi,fun _=>rfl⟩
  rw[show A.length - (i + 1)=0 by omega,show A.length - i=0 by omega]
  omega
theorem k4l {a b:Nat} (hlen:(dec a).length≤10000000) (hlenb:(dec b).length≤10000000):Pure Gam 280 [.str (dec a), .str (dec b)] (.str (dec (a + b))):=by
 refine Pure.of rfl u1w rfl rfl rfl rfl rfl fun D B clk T hB hT=> ?_
 have hda:=z1m a
 have hdb:=z1m b
 have hwa:=z1u a
 have hwb:=z1u b
 generalize hA:dec a=A at *
 generalize hBb:dec b=C at *
 obtain⟨n,hn⟩:∃ n,n=max A.length C.length + 1:=⟨_,rfl⟩
 have hmm:∀ h,mmV h true (.int .i64 (A.length:Int)) (.int .i64 (C.length:Int))=some (.int .i64 ((n - 1:Nat):Int),h):=fun h=>by
  have:(if A.length < C.length then (C.length:Int) else (A.length:Int))=((n - 1:Nat):Int):=by split <;> omega
  simpa [mmV] using this
 have en:IntKind.i64.wrap (((n - 1:Nat):Int) + 1)=(n:Int):=by rw[z0c (by omega) (by omega)];omega
 simp only[go_sem,y2f,hB,hmm,en,q5x (z:= .int .u8 0) (n:=n) (b:=1) rfl (by omega)]
 refine z1f (fun m q=>∃ (i r:Nat) (suf:List Nat) (gr:Nat),i≤n∧m=n - i∧suf.length=i∧(∀ c∈suf,48≤c∧c≤57)∧r≤1∧z1q suf + r * 10 ^ i=z1q (A.drop (A.length - i)) + z1q (C.drop (C.length - i))∧
  q.ts 0= .str A∧q.ts 1= .str C∧q.ts 5= .int .i64 (n:Int)∧q.ts 6= .ob (B + 0) gr 0 n∧q.ts 7= .int .i64 (r:Int)∧q.ts 8= .int .i64 (i:Int)∧q.h=D++[.blk gr (List.replicate (n - i) (.int .u8 0)++bytes suf) true false 0]) n ?_ ?_
 ·refine⟨0,0,[],_,by omega,rfl,rfl,by simp,by omega,by simp[z1q],rfl,rfl,rfl,rfl,rfl,rfl,by simp[bytes]⟩
 rintro m ⟨ts,h,clk⟩ P ⟨i,r,suf,gr,hi,rfl,hsl,hsd,hr1,hw,h0,h1,h5,h6,h7,h8,rfl⟩ hnx he hr
 dsimp only at h0 h1 h5 h6 h7 h8
 by_cases hlt:i < n
 ·have e1:decide ((i:Int) < (n:Int))=true:=by rw[decide_eq_true_iff];omega
  obtain⟨x,hx,hxw,hxi,hx0⟩:=q0x (i:=i) hda
  obtain⟨y,hy,hyw,hyi,hy0⟩:=q0x (i:=i) hdb
  have ei:IntKind.i64.wrap ((i:Int) + 1)=((i + 1:Nat):Int):=z0c (by omega) (by omega)
  have ek:IntKind.i64.wrap (IntKind.i64.wrap ((n:Int) - 1) - (i:Int))=((n - 1 - i:Nat):Int):=by rw[z0c (n:=(n:Int) - 1) (by omega) (by omega),z0c (by omega) (by omega)];omega
  have ud:∀ d:Nat,d≤9→IntKind.u8.wrap (((48 + d:Nat):Int) - 48)=(d:Int):=fun d hd=>by rw[IntWalk.u8_in _ (by omega)];omega
  have wd:∀ d:Nat,d≤30→IntKind.i64.wrap (d:Int)=(d:Int):=fun d hd=>z0c (by omega) (by omega)
  have hstore:∀ (g':Nat) (x:Int),z9z (D++[.blk g' (List.replicate (n - i) (.int .u8 0)++bytes suf) true false 0]) 1 (.int .u8 x) (.ptr (B + 0) g' (n - 1 - i) 0)=some (.undef,D++[.blk g' (List.replicate (n - (i + 1)) (.int .u8 0)++(.int .u8 x::bytes suf)) true false 0]):=fun g' x=>by
   have h:=q0v (K:= .u8) (n:=x) (K':= .u8) (m:=0) (D:=D) (B:=B) (g:=g') (i:=n - 1 - i) (es:=List.replicate (n - i) (AV.int .u8 0)++bytes suf) (L:=[AObj.blk g' (List.replicate (n - i) (AV.int .u8 0)++bytes suf) true false 0]) (k:=0) (w:=false) hB rfl (q2t hlt)
   rw[x6j hlt] at h
   exact h
  have hidx:∀ (g':Nat),z1p (D++[.blk g' (List.replicate (n - i) (.int .u8 0)++bytes suf) true false 0]) 1 (.ob (B + 0) g' 0 n) (.int .i64 ((n - 1 - i:Nat):Int))=some (.ptr (B + 0) g' (n - 1 - i) 0,D++[.blk g' (List.replicate (n - i) (.int .u8 0)++bytes suf) true false 0]):=fun g'=>
   q0h (L:=[.blk g' (List.replicate (n - i) (.int .u8 0)++bytes suf) true false 0]) (k:=0) hB rfl (q2t hlt) rfl (by omega)
  have fin:∀ (ts':Tmps) (clk':Nat),ts' 0= .str A→ts' 1= .str C→ts' 5= .int .i64 (n:Int)→ts' 6= .ob (B + 0) gr 0 n→ts' 7= .int .i64 (((r + x + y) / 10:Nat):Int)→ts' 8= .int .i64 ((i + 1:Nat):Int)→P .norm ⟨ts',D++[.blk gr (List.replicate (n - (i + 1)) (.int .u8 0)++bytes ((48 + (r + x + y) % 10)::suf)) true false 0],clk'⟩:=by
   intro ts' clk' q0 q1 q5 q6 q7 q8
   refine hnx (n - (i + 1)) _ (by omega) ⟨i + 1,(r + x + y) / 10,(48 + (r + x + y) % 10)::suf,gr,hlt,rfl,by simp[hsl], ?_,by omega, ?_,q0,q1,q5,q6,q7,q8,rfl⟩
   ·intro c' hc'
    rw[List.mem_cons] at hc'
    rcases hc' with rfl | hc'
    ·omega
    ·exact hsd c' hc'
   ·rw[z4m,hsl,hxw,hyw,Nat.pow_succ,Nat.add_sub_cancel_left]
    have hdm:=Nat.div_add_mod (r + x + y) 10
    have:=congrArg (· * 10 ^ i) hdm
    simp only[Nat.add_mul] at this
    rw[Nat.mul_comm (10 ^ i) 10,←Nat.mul_assoc,Nat.mul_comm _ 10]
    omega
  have e3:∀ s:Nat,(s:Int).tmod 10=((s % 10:Nat):Int):=fun s=>by rw[Int.tmod_eq_emod_of_nonneg (by omega)];omega
  have e4:∀ s:Nat,s≤30→IntKind.i64.wrap ((s:Int).tdiv 10)=((s / 10:Nat):Int):=fun s hs=>by rw[IntWalk.i64_quo _ _ ⟨by omega,by omega,by omega⟩];omega
  have e5:∀ s:Nat,IntKind.u8.wrap (IntKind.i64.wrap (48 + ((s % 10:Nat):Int)))=((48 + s % 10:Nat):Int):=fun s=>by rw[z0c (by omega) (by omega),IntWalk.u8_in _ (by omega)];omega
  have es:∀ p q:Nat,p + q≤30→IntKind.i64.wrap ((p:Int) + (q:Int))=((p + q:Nat):Int):=fun p q h=>by rw[z0c (by omega) (by omega)];omega
  by_cases hia:i < A.length
  ·have f1:decide ((i:Int) < (A.length:Int))=true:=by rw[decide_eq_true_iff];omega
   have ea:IntKind.i64.wrap (IntKind.i64.wrap ((A.length:Int) - 1) - (i:Int))=((A.length - 1 - i:Nat):Int):=by rw[z0c (n:=(A.length:Int) - 1) (by omega) (by omega),z0c (by omega) (by omega)];omega
   by_cases hib:i < C.length
   ·have f2:decide ((i:Int) < (C.length:Int))=true:=by rw[decide_eq_true_iff];omega
    have eb:IntKind.i64.wrap (IntKind.i64.wrap ((C.length:Int) - 1) - (i:Int))=((C.length - 1 - i:Nat):Int):=by rw[z0c (n:=(C.length:Int) - 1) (by omega) (by omega),z0c (by omega) (by omega)];omega
    simp only[go_sem,h0,h1,h5,h6,h7,h8,x4c,hB,e1,f1,f2,ea,eb,hxi hia,hyi hib,ud x hx,ud y hy,wd x (by omega),wd y (by omega),es r x (by omega),es (r + x) y (by omega),ek,q2f (b:=10) (by decide),q4e (b:=10) (by decide),e3,e4 (r + x + y) (by omega),e5,hidx,hstore,ei]
    exact fin _ _ (by simp[z0b,h0]) (by simp[z0b,h1]) (by simp[z0b,h5]) (by simp[z0b,h6]) (by simp[z0b]) (by simp[z0b])
   ·have f2:decide ((i:Int) < (C.length:Int))=false:=by rw[decide_eq_false_iff_not];omega
    obtain rfl:=hy0 hib
    simp only[go_sem,h0,h1,h5,h6,h7,h8,x4c,hB,e1,f1,f2,ea,hxi hia,ud x hx,wd x (by omega),es r x (by omega),ek,q2f (b:=10) (by decide),q4e (b:=10) (by decide),e3,e4 (r + x) (by omega),e5,hidx,hstore,ei]
    exact fin _ _ (by simp[z0b,h0]) (by simp[z0b,h1]) (by simp[z0b,h5]) (by simp[z0b,h6]) (by simp[z0b]) (by simp[z0b])
  ·have f1:decide ((i:Int) < (A.length:Int))=false:=by rw[decide_eq_false_iff_not];omega
   obtain rfl:=hx0 hia
   by_cases hib:i < C.length
   ·have f2:decide ((i:Int) < (C.length:Int))=true:=by rw[decide_eq_true_iff];omega
    have eb:IntKind.i64.wrap (IntKind.i64.wrap ((C.length:Int) - 1) - (i:Int))=((C.length - 1 - i:Nat):Int):=by rw[z0c (n:=(C.length:Int) - 1) (by omega) (by omega),z0c (by omega) (by omega)];omega
    simp only[go_sem,h0,h1,h5,h6,h7,h8,x4c,hB,e1,f1,f2,eb,hyi hib,ud y hy,wd y (by omega),es r y (by omega),ek,q2f (b:=10) (by decide),q4e (b:=10) (by decide),e3,e4 (r + y) (by omega),e5,hidx,hstore,ei]
    exact fin _ _ (by simp[z0b,h0]) (by simp[z0b,h1]) (by simp[z0b,h5]) (by simp[z0b,h6]) (by simp[z0b]) (by simp[z0b])
   ·have f2:decide ((i:Int) < (C.length:Int))=false:=by rw[decide_eq_false_iff_not];omega
    obtain rfl:=hy0 hib
    simp only[go_sem,h0,h1,h5,h6,h7,h8,x4c,hB,e1,f1,f2,ek,q2f (b:=10) (by decide),q4e (b:=10) (by decide),e3,e4 r (by omega),e5,hidx,hstore,ei]
    exact fin _ _ (by simp[z0b,h0]) (by simp[z0b,h1]) (by simp[z0b,h5]) (by simp[z0b,h6]) (by simp[z0b]) (by simp[z0b])
 ·have hin:i=n:=by omega
  have e1:decide ((i:Int) < (n:Int))=false:=by rw[decide_eq_false_iff_not];omega
  rw[show A.length - i=0 by omega,show C.length - i=0 by omega,List.drop_zero,List.drop_zero,hwa,hwb] at hw
  have hr0:r=0:=Classical.byContradiction fun h=>by
   obtain rfl:r=1:=by omega
   have h1:=z4w hda
   have h2:=z4w hdb
   rw[hwa] at h1
   rw[hwb] at h2
   have h3:10 ^ A.length≤10 ^ (n - 1):=Nat.pow_le_pow_right (by omega) (by omega)
   have h4:10 ^ C.length≤10 ^ (n - 1):=Nat.pow_le_pow_right (by omega) (by omega)
   rw[show i=(n - 1) + 1 by omega,Nat.pow_succ] at hw
   omega
  have hws:z1q suf=a + b:=by rw[hr0] at hw;omega
  have hsne:suf≠[]:=fun h=>by rw[h] at hsl;simp at hsl;omega
  simp only[go_sem,h0,h1,h5,h6,h7,h8,x4c,e1]
  refine he _ _ ?_
  have hof:k7n (D++[.blk gr (List.replicate (n - i) (.int .u8 0)++bytes suf) true false 0]) (.ob (B + 0) gr 0 n)=some (.str suf,D++[.blk gr (List.replicate (n - i) (.int .u8 0)++bytes suf) true false 0]):=by
   have hs:=z9g (B:=B) (D:=D) (L:=[.blk gr (List.replicate (n - i) (.int .u8 0)++bytes suf) true false 0]) (k:=0) (g:=gr) (len:=n) hB rfl (by simp[bytes,hsl];omega)
   simp only[k7n,hs,Option.bind_some]
   rw[show n - i=0 by omega,List.replicate_zero,List.nil_append,z7f fun c hc=>by have:=hsd c hc;omega]
   rfl
  simp only[go_sem,h6,hof]
  rw[z0a (q1u ⟨hsne,hsd⟩),hws]
  simp only[go_sem,]
  rw[z3f]
  exact hT _
section
open Sh
set_option maxHeartbeats 0
noncomputable def u8i:AFun:=(fun (a:AFun) (_:Gam.fn 35=some a)=>a) _ (by conv=>lhs;reduce;simp only[Int.reduceOfNat,Int.reduceNegSucc])
theorem g2g:Gam.fn 35=some u8i:=by kernel_rfl
noncomputable def q59:AFun:=(fun (a:AFun) (_:Gam.fn 82=some a)=>a) _ (by conv=>lhs;reduce;simp only[Int.reduceOfNat,Int.reduceNegSucc])
noncomputable def q8t:ACode:=(fun (a:ACode) (_:fl [] (lp q59 2)=a)=>a) _ (by conv=>lhs;reduce;simp only[Int.reduceOfNat,Int.reduceNegSucc])
attribute [local irreducible] q8t
noncomputable def k4m:ACode:=(fun (a:ACode) (_:fl [q8t] (lp q59 1)=a)=>a) _ (by conv=>lhs;reduce;simp only[Int.reduceOfNat,Int.reduceNegSucc])
attribute [local irreducible] k4m
noncomputable def v0r:ACode:=(fun (a:ACode) (_:fl [k4m,q8t] (lp q59 0)=a)=>a) _ (by conv=>lhs;reduce;simp only[Int.reduceOfNat,Int.reduceNegSucc])
attribute [local irreducible] v0r
noncomputable def u8j:AFun:=(fun (a:AFun) (_:flF [v0r,k4m,q8t] q59=a)=>a) _ (by conv=>lhs;reduce;simp only[Int.reduceOfNat,Int.reduceNegSucc])
theorem g2h:Gam.fn 82=some u8j:=by kernel_rfl
noncomputable def u8k:AFun:=(fun (a:AFun) (_:Gam.fn 146=some a)=>a) _ (by conv=>lhs;reduce;simp only[Int.reduceOfNat,Int.reduceNegSucc])
noncomputable def j6f:ACode:=(fun (a:ACode) (_:fl [] (lp u8k 0)=a)=>a) _ (by conv=>lhs;reduce;simp only[Int.reduceOfNat,Int.reduceNegSucc])
attribute [local irreducible] j6f
noncomputable def y4q:AFun:=(fun (a:AFun) (_:flF [j6f] u8k=a)=>a) _ (by conv=>lhs;reduce;simp only[Int.reduceOfNat,Int.reduceNegSucc])
theorem u3q:Gam.fn 146=some y4q:=by kernel_rfl
noncomputable def u8l:AFun:=(fun (a:AFun) (_:Gam.fn 147=some a)=>a) _ (by conv=>lhs;reduce;simp only[Int.reduceOfNat,Int.reduceNegSucc])
noncomputable def j6g:ACode:=(fun (a:ACode) (_:fl [] (lp u8l 0)=a)=>a) _ (by conv=>lhs;reduce;simp only[Int.reduceOfNat,Int.reduceNegSucc])
attribute [local irreducible] j6g
noncomputable def y4r:AFun:=(fun (a:AFun) (_:flF [j6g] u8l=a)=>a) _ (by conv=>lhs;reduce;simp only[Int.reduceOfNat,Int.reduceNegSucc])
theorem u3r:Gam.fn 147=some y4r:=by kernel_rfl
noncomputable def u8m:AFun:=(fun (a:AFun) (_:Gam.fn 148=some a)=>a) _ (by conv=>lhs;reduce;simp only[Int.reduceOfNat,Int.reduceNegSucc])
noncomputable def j6h:ACode:=(fun (a:ACode) (_:fl [] (lp u8m 0)=a)=>a) _ (by conv=>lhs;reduce;simp only[Int.reduceOfNat,Int.reduceNegSucc])
attribute [local irreducible] j6h
noncomputable def y4s:AFun:=(fun (a:AFun) (_:flF [j6h] u8m=a)=>a) _ (by conv=>lhs;reduce;simp only[Int.reduceOfNat,Int.reduceNegSucc])
theorem u3s:Gam.fn 148=some y4s:=by kernel_rfl
noncomputable def u3t:AFun:=(fun (a:AFun) (_:Gam.fn 149=some a)=>a) _ (by conv=>lhs;reduce;simp only[Int.reduceOfNat,Int.reduceNegSucc])
noncomputable def q8i:ACode:=(fun (a:ACode) (_:fl [] (lp u3t 1)=a)=>a) _ (by conv=>lhs;reduce;simp only[Int.reduceOfNat,Int.reduceNegSucc])
attribute [local irreducible] q8i
noncomputable def j0b:ACode:=(fun (a:ACode) (_:fl [q8i] (lp u3t 0)=a)=>a) _ (by conv=>lhs;reduce;simp only[Int.reduceOfNat,Int.reduceNegSucc])
attribute [local irreducible] j0b
noncomputable def y4t:AFun:=(fun (a:AFun) (_:flF [j0b,q8i] u3t=a)=>a) _ (by conv=>lhs;reduce;simp only[Int.reduceOfNat,Int.reduceNegSucc])
theorem u3u:Gam.fn 149=some y4t:=by kernel_rfl
noncomputable def y4u:AFun:=(fun (a:AFun) (_:Gam.fn 144=some a)=>a) _ (by conv=>lhs;reduce;simp only[Int.reduceOfNat,Int.reduceNegSucc])
theorem u3v:Gam.fn 144=some y4u:=by kernel_rfl
noncomputable def u8n:AFun:=(fun (a:AFun) (_:Gam.fn 213=some a)=>a) _ (by conv=>lhs;reduce;simp only[Int.reduceOfNat,Int.reduceNegSucc])
noncomputable def j6i:ACode:=(fun (a:ACode) (_:fl [] (lp u8n 0)=a)=>a) _ (by conv=>lhs;reduce;simp only[Int.reduceOfNat,Int.reduceNegSucc])
attribute [local irreducible] j6i
noncomputable def y4v:AFun:=(fun (a:AFun) (_:flF [j6i] u8n=a)=>a) _ (by conv=>lhs;reduce;simp only[Int.reduceOfNat,Int.reduceNegSucc])
theorem u3w:Gam.fn 213=some y4v:=by kernel_rfl
noncomputable def w6j:AFun:=(fun (a:AFun) (_:Gam.fn 214=some a)=>a) _ (by conv=>lhs;reduce;simp only[Int.reduceOfNat,Int.reduceNegSucc])
noncomputable def x1a:ACode:=(fun (a:ACode) (_:fl [] (lp w6j 4)=a)=>a) _ (by conv=>lhs;reduce;simp only[Int.reduceOfNat,Int.reduceNegSucc])
attribute [local irreducible] x1a
noncomputable def x1b:ACode:=(fun (a:ACode) (_:fl [x1a] (lp w6j 3)=a)=>a) _ (by conv=>lhs;reduce;simp only[Int.reduceOfNat,Int.reduceNegSucc])
attribute [local irreducible] x1b
noncomputable def j6j:ACode:=(fun (a:ACode) (_:fl [x1b,x1a] (lp w6j 2)=a)=>a) _ (by conv=>lhs;reduce;simp only[Int.reduceOfNat,Int.reduceNegSucc])
attribute [local irreducible] j6j
noncomputable def x1c:ACode:=(fun (a:ACode) (_:fl [j6j,x1b,x1a] (lp w6j 1)=a)=>a) _ (by conv=>lhs;reduce;simp only[Int.reduceOfNat,Int.reduceNegSucc])
attribute [local irreducible] x1c
noncomputable def j0c:ACode:=(fun (a:ACode) (_:fl [x1c,j6j,x1b,x1a] (lp w6j 0)=a)=>a) _ (by conv=>lhs;reduce;simp only[Int.reduceOfNat,Int.reduceNegSucc])
attribute [local irreducible] j0c
noncomputable def y4w:AFun:=(fun (a:AFun) (_:flF [j0c,x1c,j6j,x1b,x1a] w6j=a)=>a) _ (by conv=>lhs;reduce;simp only[Int.reduceOfNat,Int.reduceNegSucc])
theorem u3x:Gam.fn 214=some y4w:=by kernel_rfl
noncomputable def k4n:AFun:=(fun (a:AFun) (_:Gam.fn 166=some a)=>a) _ (by conv=>lhs;reduce;simp only[Int.reduceOfNat,Int.reduceNegSucc])
theorem y4x:Gam.fn 166=some k4n:=by kernel_rfl
noncomputable def x6l:AFun:=(fun (a:AFun) (_:Gam.fn 266=some a)=>a) _ (by conv=>lhs;reduce;simp only[Int.reduceOfNat,Int.reduceNegSucc])
theorem u3y:Gam.fn 266=some x6l:=by kernel_rfl
noncomputable def q2u:AFun:=(fun (a:AFun) (_:Gam.fn 267=some a)=>a) _ (by conv=>lhs;reduce;simp only[Int.reduceOfNat,Int.reduceNegSucc])
theorem u3z:Gam.fn 267=some q2u:=by kernel_rfl
noncomputable def q2v:AFun:=(fun (a:AFun) (_:Gam.fn 268=some a)=>a) _ (by conv=>lhs;reduce;simp only[Int.reduceOfNat,Int.reduceNegSucc])
theorem u4a:Gam.fn 268=some q2v:=by kernel_rfl
noncomputable def u8o:AFun:=(fun (a:AFun) (_:Gam.fn 302=some a)=>a) _ (by conv=>lhs;reduce;simp only[Int.reduceOfNat,Int.reduceNegSucc])
noncomputable def j6k:ACode:=(fun (a:ACode) (_:fl [] (lp u8o 0)=a)=>a) _ (by conv=>lhs;reduce;simp only[Int.reduceOfNat,Int.reduceNegSucc])
attribute [local irreducible] j6k
noncomputable def y4y:AFun:=(fun (a:AFun) (_:flF [j6k] u8o=a)=>a) _ (by conv=>lhs;reduce;simp only[Int.reduceOfNat,Int.reduceNegSucc])
theorem u4b:Gam.fn 302=some y4y:=by kernel_rfl
noncomputable def w2y:AFun:=(fun (a:AFun) (_:Gam.fn 303=some a)=>a) _ (by conv=>lhs;reduce;simp only[Int.reduceOfNat,Int.reduceNegSucc])
theorem u4c:Gam.fn 303=some w2y:=by kernel_rfl
noncomputable def y4z:AFun:=(fun (a:AFun) (_:Gam.fn 169=some a)=>a) _ (by conv=>lhs;reduce;simp only[Int.reduceOfNat,Int.reduceNegSucc])
theorem u4d:Gam.fn 169=some y4z:=by kernel_rfl
noncomputable def u8p:AFun:=(fun (a:AFun) (_:Gam.fn 170=some a)=>a) _ (by conv=>lhs;reduce;simp only[Int.reduceOfNat,Int.reduceNegSucc])
noncomputable def j6l:ACode:=(fun (a:ACode) (_:fl [] (lp u8p 0)=a)=>a) _ (by conv=>lhs;reduce;simp only[Int.reduceOfNat,Int.reduceNegSucc])
attribute [local irreducible] j6l
noncomputable def y5a:AFun:=(fun (a:AFun) (_:flF [j6l] u8p=a)=>a) _ (by conv=>lhs;reduce;simp only[Int.reduceOfNat,Int.reduceNegSucc])
theorem u4e:Gam.fn 170=some y5a:=by kernel_rfl
noncomputable def v0s:AFun:=(fun (a:AFun) (_:Gam.fn 164=some a)=>a) _ (by conv=>lhs;reduce;simp only[Int.reduceOfNat,Int.reduceNegSucc])
theorem w2z:Gam.fn 164=some v0s:=by kernel_rfl
noncomputable def w3a:AFun:=(fun (a:AFun) (_:Gam.fn 102=some a)=>a) _ (by conv=>lhs;reduce;simp only[Int.reduceOfNat,Int.reduceNegSucc])
theorem y5b:Gam.fn 102=some w3a:=by kernel_rfl
noncomputable def y5c:AFun:=(fun (a:AFun) (_:Gam.fn 171=some a)=>a) _ (by conv=>lhs;reduce;simp only[Int.reduceOfNat,Int.reduceNegSucc])
theorem u4f:Gam.fn 171=some y5c:=by kernel_rfl
noncomputable def q82:AFun:=(fun (a:AFun) (_:Gam.fn 106=some a)=>a) _ (by conv=>lhs;reduce;simp only[Int.reduceOfNat,Int.reduceNegSucc])
noncomputable def k4o:ACode:=(fun (a:ACode) (_:fl [] (lp q82 0)=a)=>a) _ (by conv=>lhs;reduce;simp only[Int.reduceOfNat,Int.reduceNegSucc])
attribute [local irreducible] k4o
noncomputable def u8q:AFun:=(fun (a:AFun) (_:flF [k4o] q82=a)=>a) _ (by conv=>lhs;reduce;simp only[Int.reduceOfNat,Int.reduceNegSucc])
theorem g2i:Gam.fn 106=some u8q:=by kernel_rfl
end
theorem z4z {a b:Nat} (h:a≤b):(dec a).length≤(dec b).length:=Classical.byContradiction fun hc=>by
 have:=z6v (a:=b) (b:=a) (by omega)
 omega
theorem z1t {n:Nat}:decide (dec n=[48])=decide (n=0):=by rw[decide_eq_decide];exact q4v
theorem q3u {n:Nat}:decide (dec n=[49])=decide (n=1):=by rw[decide_eq_decide];exact x4d
theorem w3b {a b:Nat} (hlen:(dec a).length≤10000000) (hlenb:(dec b).length≤10000000):Pure Gam 277 [.str (dec a), .str (dec b)] (.str (dec (Nat.gcd a b))):=by
 refine Pure.of rfl u2u rfl rfl rfl rfl rfl fun D B clk T hB hT=> ?_
 simp only[go_sem,y3o]
 refine z1f (fun m q=>∃ x y:Nat,m=y∧Nat.gcd x y=Nat.gcd a b∧(dec x).length≤10000000∧(dec y).length≤10000000∧q.ts 0= .str (dec x)∧q.ts 1= .str (dec y)∧q.h=D++[]) b ⟨a,b,rfl,rfl,hlen,hlenb,rfl,rfl,rfl⟩ ?_
 rintro m ⟨ts,h,clk⟩ P ⟨x,y,rfl,hg,hlx,hly,h0,h1,rfl⟩ hn he hr
 dsimp only at h0 h1
 by_cases hy:m=0
 ·subst hy
  have e1:decide (dec 0=[48])=true:=by rw[z1t];rfl
  simp only[go_sem,h0,h1,j5u,e1,Bool.not_true]
  refine he _ _ ?_
  simp only[go_sem,h0]
  rw[z3f]
  rw[Nat.gcd_zero_right] at hg
  rw[hg]
  exact hT _
 ·have e1:decide (dec m=[48])=false:=by rw[z1t];simp[hy]
  have hpos:0 < m:=Nat.pos_of_ne_zero hy
  simp only[go_sem,h0,h1,j5u,e1,Bool.not_false]
  rw[z0a (x6k hpos hlx hly)]
  simp only[go_sem,h0,h1]
  have hlt:=Nat.mod_lt x hpos
  refine hn (x % m) _ hlt ⟨m,x % m,rfl, ?_,hly,Nat.le_trans (z4z (Nat.le_of_lt hlt)) hly,by simp[z0b,h1],rfl,rfl⟩
  rw[←hg,Nat.gcd_comm x m,Nat.gcd_rec m x,Nat.gcd_comm]
def q0i (neg:Bool) (n d:Nat):AV:= .agg [.bool neg, .str (dec n), .str (dec d)]
def z3o (neg:Bool) (n d:Nat):List Nat:=(if neg then [45] else [])++dec n++(if d=1 then [] else 47::dec d)
theorem x1d {neg:Bool} {a b:Nat} (hb:0 < b) (hlen:(dec a).length≤10000000) (hlenb:(dec b).length≤10000000):Pure Gam 230 [.bool neg, .str (dec a), .str (dec b)] (q0i (neg && !decide (a / Nat.gcd a b=0)) (a / Nat.gcd a b) (b / Nat.gcd a b)):=by
 refine Pure.of rfl u2s rfl rfl rfl rfl rfl fun D B clk T hB hT=> ?_
 have hg:0 < Nat.gcd a b:=Nat.gcd_pos_of_pos_right _ hb
 have hgl:(dec (Nat.gcd a b)).length≤10000000:=Nat.le_trans (z4z (Nat.le_of_dvd hb (Nat.gcd_dvd_right a b))) hlenb
 simp only[go_sem,y3n,hB]
 rw[z0a (w3b hlen hlenb)]
 simp only[go_sem,]
 rw[z0a (x6k hg hlen hgl)]
 simp only[go_sem,]
 rw[z0a (x6k hg hlenb hgl)]
 cases neg
 ·simp only[go_sem,hB]
  rw[z2k rfl rfl]
  exact hT _
 ·simp only[go_sem,hB,z1t]
  rw[z2k rfl rfl]
  exact hT _
theorem q7d {neg:Bool} {n d:Nat} (hlen:(dec n).length≤10000000) (hlend:(dec d).length≤10000000):Pure Gam 231 [q0i neg n d] (.str (z3o neg n d)):=by
 refine Pure.of rfl u2t rfl rfl rfl rfl rfl fun D B clk T hB hT=> ?_
 have e1:∀ h,z7j h .add (.one .str) (.str [45]) (.str (dec n))=some (.str (45::dec n),h):=fun h=>q5v (by simp;omega)
 have e2:∀ h,z7j h .add (.one .str) (.str [47]) (.str (dec d))=some (.str (47::dec d),h):=fun h=>q5v (by simp;omega)
 have e3:∀ h,z7j h .add (.one .str) (.str (dec n)) (.str (47::dec d))=some (.str (dec n++47::dec d),h):=fun h=>q5v (by simp;omega)
 have e4:∀ h,z7j h .add (.one .str) (.str (45::dec n)) (.str (47::dec d))=some (.str (45::dec n++47::dec d),h):=fun h=>q5v (by simp;omega)
 unfold z3o at hT
 by_cases h1:d=1
 ·have ed:decide (dec d=[49])=true:=by rw[q3u];simp[h1]
  rw[if_pos h1] at hT
  cases neg
  all_goals
   simp only[go_sem,w2n,hB,q0i,e1,e2,e3,e4,ed,Bool.not_true]
   rw[z3f]
   have:=hT
   simp only[Bool.false_eq_true,if_false,if_true,List.nil_append,List.append_nil,List.cons_append] at this
   exact this _
 ·have ed:decide (dec d=[49])=false:=by rw[q3u];simp[h1]
  rw[if_neg h1] at hT
  cases neg
  all_goals
   simp only[go_sem,w2n,hB,q0i,e1,e2,e3,e4,ed,Bool.not_false]
   rw[z3f]
   have:=hT
   simp only[Bool.false_eq_true,if_false,if_true,List.nil_append,List.append_nil,List.cons_append] at this
   exact this _
def x4i (l:List Nat):Nat:=l.foldl (fun a x=>10 * a + x) 0
theorem w3c:∀ (l:List Nat) (a:Nat),l.foldl (fun a x=>10 * a + x) a=a * 10 ^ l.length + x4i l:=by
 intro l
 induction l with
 | nil=>intro a;simp[x4i]
 | cons x l ih=>
   intro a
   have h1:x4i (x::l)=x * 10 ^ l.length + x4i l:=by
    show List.foldl _ _ l=_
    rw[ih]
    simp
   simp only[List.foldl_cons,List.length_cons]
   rw[ih,h1,Nat.pow_succ,Nat.add_mul]
   rw[show 10 * a * 10 ^ l.length=a * (10 ^ l.length * 10) by rw[Nat.mul_comm 10 a,Nat.mul_assoc,Nat.mul_comm 10]]
   omega
theorem q5z {x:Nat} {l:List Nat}:x4i (x::l)=x * 10 ^ l.length + x4i l:=by
 show List.foldl _ _ l=_
 rw[w3c]
 simp
theorem k4p {n:Nat}:x4i (List.replicate n 0)=0:=by
 induction n with
 | zero=>rfl
 | succ n ih=>rw[List.replicate_succ,q5z,ih];simp
theorem j6m:∀ {l:List Nat} {k y:Nat} (h:k < l.length),x4i (l.set k (l[k] + y))=x4i l + y * 10 ^ (l.length - 1 - k)
 | x::l,0,y,_=>by
   simp only[List.set_cons_zero,List.getElem_cons_zero,q5z,List.length_cons,Nat.add_sub_cancel,Nat.sub_zero,Nat.add_mul]
   omega
 | x::l,k + 1,y,h=>by
   have h':k < l.length:=by simpa using h
   have ih:=j6m (y:=y) h'
   simp only[List.set_cons_succ,List.getElem_cons_succ,q5z,List.length_set,List.length_cons,ih]
   rw[show l.length + 1 - 1 - (k + 1)=l.length - 1 - k by omega]
   omega
theorem k4q {l:List Nat} {k:Nat} (h:k < l.length):x4i (l.drop k)=l[k] * 10 ^ (l.length - 1 - k) + x4i (l.drop (k + 1)):=by
 rw[List.drop_eq_getElem_cons h,q5z,List.length_drop]
 rw[show l.length - (k + 1)=l.length - 1 - k by omega]
theorem v0t {l:List Nat} {k x:Nat}:(l.map nat).set k (nat x)=(l.set k x).map nat:=List.map_set.symm
theorem q6a {l:List Nat} {k:Nat} (h:k < l.length):(l.map nat)[k]? =some (.int .i64 (l[k]:Int)):=by simp[h,nat]
theorem v0u {B clk n:Nat} {D:List AObj} {out:List Nat} {g1 g2:Nat} {ts:Tmps} {ks:List Kf} {Q:Post} (hB:D.length=B) (hl:out.length=n) (hn1:1≤n) (hn2:n≤10000000) (hb:∀ x∈out,x≤10 ^ 17) (htot:x4i out < 10 ^ n)
  (h5:ts 5= .ob (B + 0) g1 0 n) (h8:ts 8= .ob (B + 1) g2 0 n) (h9:ts 9= .int .i64 0) (h10:ts 10= .int .i64 ((n:Int) - 1))
  (hQ:∀ (suf:List Nat) (ts':Tmps) (clk':Nat),suf.length=n→q8h suf→z1q suf=x4i out→ts' 8= .ob (B + 1) g2 0 n→K Gam B (.exit 4) ks ⟨ts',D++[.blk g1 (out.map nat) true false 0, .blk g2 (bytes suf) true false 0],clk'⟩ Q):
  K Gam B (.loop x0x) ks ⟨ts,D++[.blk g1 (out.map nat) true false 0, .blk g2 (List.replicate n (.int .u8 0)) true false 0],clk⟩ Q:=by
 refine z1f (fun m q=>∃ (i c:Nat) (suf:List Nat),i≤n∧m=n - i∧suf.length=i∧(∀ c∈suf,48≤c∧c≤57)∧c≤10 ^ 17∧z1q suf + c * 10 ^ i=x4i (out.drop (n - i))∧q.ts 5= .ob (B + 0) g1 0 n∧q.ts 8= .ob (B + 1) g2 0 n∧q.ts 9= .int .i64 (c:Int)∧q.ts 10= .int .i64 ((n:Int) - i - 1)∧
  q.h=D++[.blk g1 (out.map nat) true false 0, .blk g2 (List.replicate (n - i) (.int .u8 0)++bytes suf) true false 0]) n ?_ ?_
 ·refine⟨0,0,[],by omega,rfl,rfl,by simp,by omega, ?_,h5,h8,h9,by simpa using h10,by simp[bytes]⟩
  rw[Nat.sub_zero,←hl,List.drop_length]
  simp[z1q,x4i]
 rintro m ⟨ts,h,clk⟩ P ⟨i,c,suf,hi,rfl,hsl,hsd,hc,hw,h5,h8,h9,h10,rfl⟩ hn he hr
 dsimp only at h5 h8 h9 h10
 by_cases hlt:i < n
 ·have hk:n - 1 - i < out.length:=by omega
  have e0:(n:Int) - i - 1=((n - 1 - i:Nat):Int):=by omega
  rw[e0] at h10
  have e1:decide ((0:Int)≤((n - 1 - i:Nat):Int))=true:=by rw[decide_eq_true_iff];omega
  have hx:=hb _ (List.getElem_mem hk)
  have hdr:=k4q hk
  generalize hxx:out[n - 1 - i]=x at hx hdr
  have hidx1:∀ es,z1p (D++[.blk g1 (out.map nat) true false 0, .blk g2 es true false 0]) 1 (.ob (B + 0) g1 0 n) (.int .i64 ((n - 1 - i:Nat):Int))=some (.ptr (B + 0) g1 (n - 1 - i) 0,D++[.blk g1 (out.map nat) true false 0, .blk g2 es true false 0]):=fun es=>
   q0h (L:=[.blk g1 (out.map nat) true false 0, .blk g2 es true false 0]) (k:=0) hB rfl (q6a hk) rfl (by omega)
  have hgetn:(out.map nat)[n - 1 - i]? =some (.int .i64 (x:Int)):=by rw[q6a hk,hxx]
  have hidx2:z1p (D++[.blk g1 (out.map nat) true false 0, .blk g2 (List.replicate (n - i) (.int .u8 0)++bytes suf) true false 0]) 1 (.ob (B + 1) g2 0 n) (.int .i64 ((n - 1 - i:Nat):Int))=some (.ptr (B + 1) g2 (n - 1 - i) 0,D++[.blk g1 (out.map nat) true false 0, .blk g2 (List.replicate (n - i) (.int .u8 0)++bytes suf) true false 0]):=
   q0h (L:=[.blk g1 (out.map nat) true false 0, .blk g2 (List.replicate (n - i) (.int .u8 0)++bytes suf) true false 0]) (k:=1) hB rfl (q2t hlt) rfl (by omega)
  have hstore:∀ (y:Nat),z9z (D++[.blk g1 (out.map nat) true false 0, .blk g2 (List.replicate (n - i) (.int .u8 0)++bytes suf) true false 0]) 1 (.int .u8 (y:Int)) (.ptr (B + 1) g2 (n - 1 - i) 0)=some (.undef,D++[.blk g1 (out.map nat) true false 0, .blk g2 (List.replicate (n - (i + 1)) (.int .u8 0)++bytes (y::suf)) true false 0]):=fun y=>by
   have h:=q0v (K:= .u8) (n:=y) (K':= .u8) (m:=0) (D:=D) (B:=B) (g:=g2) (i:=n - 1 - i) (es:=List.replicate (n - i) (AV.int .u8 0)++bytes suf) (L:=[AObj.blk g1 (out.map nat) true false 0,AObj.blk g2 (List.replicate (n - i) (AV.int .u8 0)++bytes suf) true false 0]) (k:=1) (w:=false) hB rfl (q2t hlt)
   rw[x6j hlt] at h
   exact h
  have e2:IntKind.i64.wrap ((x:Int) + (c:Int))=((x + c:Nat):Int):=by rw[z0c (by omega) (by omega)];omega
  have e3:(((x + c:Nat):Int)).tmod 10=(((x + c) % 10:Nat):Int):=by
   rw[Int.tmod_eq_emod_of_nonneg (by omega)];omega
  have e4:IntKind.i64.wrap ((((x + c:Nat):Int)).tdiv 10)=(((x + c) / 10:Nat):Int):=by
   rw[IntWalk.i64_quo _ _ ⟨by omega,by omega,by omega⟩];omega
  have e5:IntKind.u8.wrap (IntKind.i64.wrap (48 + (((x + c) % 10:Nat):Int)))=((48 + (x + c) % 10:Nat):Int):=by rw[z0c (by omega) (by omega),IntWalk.u8_in _ (by omega)];omega
  have e6:IntKind.i64.wrap (((n - 1 - i:Nat):Int) - 1)=(n:Int) - ((i + 1:Nat):Int) - 1:=by rw[z0c (by omega) (by omega)];omega
  simp only[go_sem,h5,h8,h9,h10,hB,x0x,e1,hidx1,hgetn,e2,q2f (b:=10) (by decide),q4e (b:=10) (by decide),e3,e4,e5,e6,hidx2,hstore]
  refine hn (n - (i + 1)) _ (by omega) ⟨i + 1,(x + c) / 10,(48 + (x + c) % 10)::suf,hlt,rfl,by simp[hsl], ?_,by omega, ?_,by simp[z0b,h5],by simp[z0b,h8],by simp[z0b],by simp[z0b],rfl⟩
  ·intro c' hc'
   rw[List.mem_cons] at hc'
   rcases hc' with rfl | hc'
   ·omega
   ·exact hsd c' hc'
  ·rw[show n - (i + 1)=n - 1 - i by omega,hdr,show n - 1 - i + 1=n - i by omega,←hw,z4m,hsl,hl,show n - 1 - (n - 1 - i)=i by omega,Nat.add_sub_cancel_left,Nat.pow_succ]
   have hdm:=Nat.div_add_mod (x + c) 10
   have:=congrArg (· * 10 ^ i) hdm
   simp only[Nat.add_mul] at this
   rw[Nat.mul_comm (10 ^ i) 10,←Nat.mul_assoc,Nat.mul_comm _ 10]
   omega
 ·have hin:i=n:=by omega
  have e1:decide ((0:Int)≤(n:Int) - i - 1)=false:=by rw[decide_eq_false_iff_not];omega
  rw[hin,Nat.sub_self,List.drop_zero] at hw
  have hc0:c=0:=Classical.byContradiction fun h=>by
   have:1 * 10 ^ n≤c * 10 ^ n:=Nat.mul_le_mul_right _ (by omega)
   omega
  subst hc0
  simp only[go_sem,h5,h8,h9,h10,x0x,e1]
  refine he _ _ ?_
  have hh:List.replicate (n - i) (AV.int .u8 0)++bytes suf=bytes suf:=by rw[show n - i=0 by omega];rfl
  rw[hh]
  exact hQ suf _ _ (by omega) ⟨fun h=>by rw[h] at hsl;simp at hsl;omega,hsd⟩ (by omega) (by simp[z0b,h8])
theorem j0d {C:List Nat} {j:Nat} (hj:j < C.length):z1q (C.take (j + 1)) * 10 ^ (C.length - (j + 1))=z1q (C.take j) * 10 ^ (C.length - j) + (C[j] - 48) * 10 ^ (C.length - (j + 1)):=by
 rw[q0w hj,show C.length - j=(C.length - (j + 1)) + 1 by omega,Nat.pow_succ,Nat.add_mul]
 rw[Nat.mul_comm 10,Nat.mul_assoc,Nat.mul_comm 10]
theorem v0v {B clk i n:Nat} {D:List AObj} {out A C:List Nat} {g1:Nat} {o2:AObj} {ts:Tmps} {ks:List Kf} {Q:Post} (hB:D.length=B) (hl:out.length=n) (hn:n=A.length + C.length) (hA:A.length≤4000000) (hC:C.length≤4000000) (hi:i < A.length) (hda:∀ c∈A,48≤c∧c≤57) (hdc:∀ c∈C,48≤c∧c≤57) (hb:∀ x∈out,x≤100 * (4000000 * i))
  (h0:ts 0= .str A) (h1:ts 1= .str C) (h5:ts 5= .ob (B + 0) g1 0 n) (h6:ts 6= .int .i64 (i:Int)) (h7:ts 7= .int .i64 0)
  (hQ:∀ (out':List Nat) (ts':Tmps) (clk':Nat),out'.length=n→(∀ x∈out',x≤100 * (4000000 * (i + 1)))→x4i out'=x4i out + (A[i] - 48) * 10 ^ (A.length - (i + 1)) * z1q C→ts' 0= .str A→ts' 1= .str C→ts' 5= .ob (B + 0) g1 0 n→ts' 6= .int .i64 (i:Int)→K Gam B (.exit 2) ks ⟨ts',D++[.blk g1 (out'.map nat) true false 0,o2],clk'⟩ Q):
  K Gam B (.loop x4f) ks ⟨ts,D++[.blk g1 (out.map nat) true false 0,o2],clk⟩ Q:=by
 refine z1f (fun m q=>∃ (j:Nat) (out':List Nat),j≤C.length∧m=C.length - j∧out'.length=n∧(∀ x∈out',x≤100 * (4000000 * i + j))∧x4i out'=x4i out + (A[i] - 48) * 10 ^ (A.length - (i + 1)) * (z1q (C.take j) * 10 ^ (C.length - j))∧q.ts 0= .str A∧q.ts 1= .str C∧q.ts 5= .ob (B + 0) g1 0 n∧q.ts 6= .int .i64 (i:Int)∧q.ts 7= .int .i64 (j:Int)∧q.h=D++[.blk g1 (out'.map nat) true false 0,o2]) C.length ⟨0,out,by omega,rfl,hl,by simpa using hb,by simp[z1q],h0,h1,h5,h6,h7,rfl⟩ ?_
 clear h0 h1 h5 h6 h7
 rintro m ⟨ts,h,clk⟩ P ⟨j,out',hj,rfl,hl',hb',hw,h0,h1,h5,h6,h7,rfl⟩ hnx he hr
 dsimp only at h0 h1 h5 h6 h7
 by_cases hlt:j < C.length
 ·have e1:decide ((j:Int) < (C.length:Int))=true:=by rw[decide_eq_true_iff];omega
  have ek:IntKind.i64.wrap (IntKind.i64.wrap ((i:Int) + (j:Int)) + 1)=((i + j + 1:Nat):Int):=by rw[z0c (n:=(i:Int) + (j:Int)) (by omega) (by omega),z0c (by omega) (by omega)];omega
  have hk:i + j + 1 < out'.length:=by omega
  have hca:=hda _ (List.getElem_mem hi)
  have hcc:=hdc _ (List.getElem_mem hlt)
  have hx:=hb' _ (List.getElem_mem hk)
  have ea:=q3t hca
  have ec:=q3t hcc
  have ea2:IntKind.i64.wrap ((A[i] - 48:Nat):Int)=((A[i] - 48:Nat):Int):=z0c (by omega) (by omega)
  have ec2:IntKind.i64.wrap ((C[j] - 48:Nat):Int)=((C[j] - 48:Nat):Int):=z0c (by omega) (by omega)
  have hprod:(A[i] - 48) * (C[j] - 48)≤81:=Nat.mul_le_mul (by omega:A[i] - 48≤9) (by omega:C[j] - 48≤9)
  have em:IntKind.i64.wrap (((A[i] - 48:Nat):Int) * ((C[j] - 48:Nat):Int))=(((A[i] - 48) * (C[j] - 48):Nat):Int):=by
   rw[←Int.natCast_mul]
   exact z0c (by omega) (by omega)
  have es:IntKind.i64.wrap ((out'[i + j + 1]:Int) + (((A[i] - 48) * (C[j] - 48):Nat):Int))=((out'[i + j + 1] + (A[i] - 48) * (C[j] - 48):Nat):Int):=by rw[z0c (by omega) (by omega)];omega
  have ej:IntKind.i64.wrap ((j:Int) + 1)=((j + 1:Nat):Int):=z0c (by omega) (by omega)
  have hidx:z1p (D++[.blk g1 (out'.map nat) true false 0,o2]) 1 (.ob (B + 0) g1 0 n) (.int .i64 ((i + j + 1:Nat):Int))=some (.ptr (B + 0) g1 (i + j + 1) 0,D++[.blk g1 (out'.map nat) true false 0,o2]):=
   q0h (L:=[.blk g1 (out'.map nat) true false 0,o2]) (k:=0) hB rfl (q6a hk) rfl (by omega)
  have hstore:∀ y:Nat,z9z (D++[.blk g1 (out'.map nat) true false 0,o2]) 1 (.int .i64 (y:Int)) (.ptr (B + 0) g1 (i + j + 1) 0)=some (.undef,D++[.blk g1 ((out'.set (i + j + 1) y).map nat) true false 0,o2]):=fun y=>by
   have h:=q0v (K:= .i64) (n:=y) (K':= .i64) (m:=(out'[i + j + 1]:Int)) (D:=D) (B:=B) (g:=g1) (i:=i + j + 1) (es:=out'.map nat) (L:=[AObj.blk g1 (out'.map nat) true false 0,o2]) (k:=0) (w:=false) hB rfl (q6a hk)
   rw[show (AV.int .i64 (y:Int))=nat y from rfl,v0t] at h
   exact h
  simp only[go_sem,h0,h1,h5,h6,h7,hB,x4f,e1,ek,hidx,q6a hk,q1t hi,q1t hlt,ea,ec,ea2,ec2,em,es,hstore,ej]
  refine hnx (C.length - (j + 1)) _ (by omega) ⟨j + 1,out'.set (i + j + 1) (out'[i + j + 1] + (A[i] - 48) * (C[j] - 48)),hlt,rfl,by simp[hl'], ?_, ?_,h0,h1,h5,h6,rfl,rfl⟩
  ·intro x hx'
   rcases List.mem_or_eq_of_mem_set hx' with h | rfl
   ·have:=hb' x h
    omega
   ·omega
  ·rw[j6m hk,hw,j0d hlt,Nat.mul_add,hl',show n - 1 - (i + j + 1)=(A.length - (i + 1)) + (C.length - (j + 1)) by omega,Nat.pow_add]
   have:(A[i] - 48) * (C[j] - 48) * (10 ^ (A.length - (i + 1)) * 10 ^ (C.length - (j + 1)))=(A[i] - 48) * 10 ^ (A.length - (i + 1)) * ((C[j] - 48) * 10 ^ (C.length - (j + 1))):=by
    simp only[Nat.mul_assoc,Nat.mul_left_comm]
   omega
 ·have hjC:j=C.length:=by omega
  have e1:decide ((j:Int) < (C.length:Int))=false:=by rw[decide_eq_false_iff_not];omega
  simp only[go_sem,h0,h1,h5,h6,h7,x4f,e1]
  refine he _ _ ?_
  refine hQ out' _ _ hl' (fun x hx=>by have:=hb' x hx;omega) ?_ (by simp[z0b,h0]) (by simp[z0b,h1]) (by simp[z0b,h5]) (by simp[z0b,h6])
  rw[hw,hjC,List.take_length,Nat.sub_self,Nat.pow_zero,Nat.mul_one]
theorem v0w {n:Nat}:List.replicate n (AV.int .i64 0)=(List.replicate n 0).map nat:=by simp[nat]
theorem z9h {a b:Nat} (hlen:(dec a).length≤4000000) (hlenb:(dec b).length≤4000000):Pure Gam 279 [.str (dec a), .str (dec b)] (.str (dec (a * b))):=by
 refine Pure.of rfl u2x rfl rfl rfl rfl rfl fun D B clk T hB hT=> ?_
 have hda:=z1m a
 have hdc:=z1m b
 have hna:=List.length_pos_iff.2 (z7w a)
 have hwa:=z1u a
 have hwb:=z1u b
 generalize hA:dec a=A at *
 generalize hC:dec b=C at *
 have en:IntKind.i64.wrap ((A.length:Int) + (C.length:Int))=((A.length + C.length:Nat):Int):=by rw[z0c (by omega) (by omega)];omega
 simp only[go_sem,y3q,hB,en,q5x (z:= .int .i64 0) (n:=A.length + C.length) (b:=8) rfl (by omega),v0w]
 generalize hn:A.length + C.length=n
 refine z1f (fun m q=>∃ (i:Nat) (out:List Nat) (g1:Nat) (o2:AObj),i≤A.length∧m=A.length - i∧out.length=n∧(∀ x∈out,x≤100 * (4000000 * i))∧x4i out=z1q (A.take i) * 10 ^ (A.length - i) * b∧q.ts 0= .str A∧q.ts 1= .str C∧q.ts 5= .ob (B + 0) g1 0 n∧q.ts 6= .int .i64 (i:Int)∧q.h=D++[.blk g1 (out.map nat) true false 0,o2]) A.length ?_ ?_
 ·refine⟨0,List.replicate n 0,_,_,by omega,rfl,by simp,by simp,by simp[k4p,z1q],rfl,rfl,rfl,rfl,rfl⟩
 rintro m ⟨ts,h,clk⟩ P ⟨i,out,g1,o2,hi,rfl,hl,hb,hw,h0,h1,h5,h6,rfl⟩ hnx he hr
 dsimp only at h0 h1 h5 h6
 by_cases hlt:i < A.length
 ·have e1:decide ((i:Int) < (A.length:Int))=true:=by rw[decide_eq_true_iff];omega
  have ei:IntKind.i64.wrap ((i:Int) + 1)=((i + 1:Nat):Int):=z0c (by omega) (by omega)
  simp only[go_sem,h0,h1,h5,h6,j5w,e1]
  refine v0v (i:=i) (A:=A) (C:=C) hB hl hn.symm hlen hlenb hlt hda hdc hb (by simp[z0b,h0]) (by simp[z0b,h1]) (by simp[z0b,h5]) (by simp[z0b,h6]) rfl ?_
  intro out' ts2 clk2 hl' hb' hw' q0 q1 q5 q6
  simp only[go_sem,q0,q1,q5,q6,ei]
  refine hnx (A.length - (i + 1)) _ (by omega) ⟨i + 1,out',g1,o2,hlt,rfl,hl',hb', ?_,q0,q1,q5,rfl,rfl⟩
  rw[hw',hw,j0d hlt,hwb,Nat.add_mul]
 ·have hiA:i=A.length:=by omega
  have e1:decide ((i:Int) < (A.length:Int))=false:=by rw[decide_eq_false_iff_not];omega
  rw[hiA,List.take_length,hwa,Nat.sub_self,Nat.pow_zero,Nat.mul_one] at hw
  have hlt10:a * b < 10 ^ n:=by
   have h1:=z4w hda
   have h2:=z4w hdc
   rw[hwa] at h1
   rw[hwb] at h2
   rw[←hn,Nat.pow_add]
   rcases Nat.eq_zero_or_pos b with rfl | hbp
   ·simp;exact Nat.mul_pos (Nat.pos_of_ne_zero (by simp)) (Nat.pos_of_ne_zero (by simp))
   ·exact Nat.lt_of_lt_of_le (Nat.mul_lt_mul_of_pos_right h1 hbp) (Nat.mul_le_mul_left _ (Nat.le_of_lt h2))
  have em:IntKind.i64.wrap ((n:Int) - 1)=(n:Int) - 1:=z0c (by omega) (by omega)
  simp only[go_sem,h0,h1,h5,h6,j5w,e1]
  refine he _ _ ?_
  simp only[go_sem,h0,h1,h5,h6,hB,q5x (z:= .int .u8 0) (n:=n) (b:=1) rfl (by omega),em]
  refine v0u (out:=out) hB hl (by omega) (by omega) (fun x hx=>by have:=hb x hx;omega) (by rw[hw];exact hlt10) (by simp[z0b,h5]) rfl rfl rfl ?_
  intro suf ts2 clk2 hsl hsd hsw q8
  have hof:∀ g2,k7n (D++[.blk g1 (out.map nat) true false 0, .blk g2 (bytes suf) true false 0]) (.ob (B + 1) g2 0 n)=some (.str suf,D++[.blk g1 (out.map nat) true false 0, .blk g2 (bytes suf) true false 0]):=fun g2=>by
   have hs:=z9g (B:=B) (D:=D) (L:=[.blk g1 (out.map nat) true false 0, .blk g2 (bytes suf) true false 0]) (k:=1) (g:=g2) (len:=n) hB rfl (by rw[q5y,hsl])
   simp only[k7n,hs,Option.bind_some]
   rw[z7f fun c hc=>by have:=hsd.2 c hc;omega]
   rfl
  simp only[go_sem,q8,hof]
  rw[z0a (q1u hsd),hsw,hw]
  simp only[go_sem,]
  rw[z3f]
  exact hT _
theorem j0e {B clk:Nat} {D L:List AObj} {s:List Nat} {g4:Nat} {v0:AV} {ts:Tmps} {ks:List Kf} {Q:Post} (hd:∀ c∈s,48≤c∧c≤57) (hl:s.length≤20000000) (h0:ts 0=v0) (h4:ts 4= .ptr (B + 1) g4 0 0) (h5:ts 5= .str s) (h6:ts 6= .int .i64 0) {g2:Nat} (h2:ts 2= .ptr (B + 0) g2 0 0)
  (hQ:∀ (ts':Tmps) (clk':Nat),ts' 0=v0→ts' 2= .ptr (B + 0) g2 0 0→ts' 4= .ptr (B + 1) g4 0 0→ts' 5= .str s→K Gam B (.exit 0) ks ⟨ts',D++L,clk'⟩ Q):K Gam B (.loop q8g) ks ⟨ts,D++L,clk⟩ Q:=by
 refine z1f (fun m q=>∃ j:Nat,j≤s.length∧m=s.length - j∧q.ts 0=v0∧q.ts 2= .ptr (B + 0) g2 0 0∧q.ts 4= .ptr (B + 1) g4 0 0∧q.ts 5= .str s∧q.ts 6= .int .i64 (j:Int)∧q.h=D++L) s.length ⟨0,by omega,rfl,h0,h2,h4,h5,h6,rfl⟩ ?_
 clear h0 h2 h4 h5 h6
 rintro m ⟨ts,h,clk⟩ P ⟨j,hj,rfl,h0,h2,h4,h5,h6,rfl⟩ hn he hr
 dsimp only at h0 h2 h4 h5 h6
 by_cases hlt:j < s.length
 ·have e1:decide ((j:Int) < (s.length:Int))=true:=by rw[decide_eq_true_iff];omega
  have hc:=hd s[j] (List.getElem_mem hlt)
  have e2:decide ((s[j]:Int)=47)=false:=by rw[decide_eq_false_iff_not];omega
  have e4:IntKind.i64.wrap ((j:Int) + 1)=((j + 1:Nat):Int):=z0c (by omega) (by omega)
  simp only[go_sem,h0,h2,h4,h5,h6,q8g,e1,q1t hlt,e2,e4]
  exact hn (s.length - (j + 1)) _ (by omega) ⟨j + 1,hlt,rfl,h0,h2,h4,h5,rfl,rfl⟩
 ·have e1:decide ((j:Int) < (s.length:Int))=false:=by rw[decide_eq_false_iff_not];omega
  simp only[go_sem,h0,h2,h4,h5,h6,q8g,e1]
  refine he _ _ ?_
  exact hQ _ _ (by simp[z0b,h0]) (by simp[z0b,h2]) (by simp[z0b,h4]) (by simp[z0b,h5])
theorem z2f:dec 1=[49]:=z7d (by omega)
theorem j6n (z:Int):z0i z=z3o (decide (z < 0)) z.natAbs 1:=by
 unfold z0i z3o
 by_cases h:z < 0 <;> simp[h]
theorem q2w {z:Int} (hl:(dec z.natAbs).length≤10000000):Pure Gam 165 [.str (z0i z)] (.tup [q0i (decide (z < 0)) z.natAbs 1, .bool true]):=by
 have hdn:=z1m z.natAbs
 have hdne:=z7w z.natAbs
 have hdig:q8h (dec z.natAbs):=⟨hdne,hdn⟩
 have hp1:Pure Gam 207 [.str [49]] (.bool true):=q7b ⟨by simp,by simp⟩ (by simp)
 have hp2:Pure Gam 208 [.str [49]] (.str [49]):=by have:=q1u (s:=[49]) ⟨by simp,by simp⟩;rwa [show z1q [49]=1 from rfl,z2f] at this
 have hp3:Pure Gam 208 [.str (dec z.natAbs)] (.str (dec z.natAbs)):=by have:=q1u hdig;rwa [z1u] at this
 have hp4:∀ neg:Bool,(neg=true→z.natAbs≠0)→Pure Gam 230 [.bool neg, .str (dec z.natAbs), .str [49]] (q0i neg z.natAbs 1):=fun neg hneg=>by
  have:=x1d (neg:=neg) (a:=z.natAbs) (b:=1) (by omega) hl (by rw[z2f];simp)
  rw[z2f,Nat.gcd_one_right,Nat.div_one,Nat.div_one] at this
  cases neg
  ·exact this
  ·have h0:=hneg rfl
   simpa [h0] using this
 have hp5:∀ neg:Bool,Pure Gam 231 [q0i neg z.natAbs 1] (.str (z3o neg z.natAbs 1)):=fun neg=>q7d hl (by rw[z2f];simp)
 refine Pure.of rfl y3m rfl rfl rfl rfl rfl fun D B clk T hB hT=> ?_
 by_cases hz:z < 0
 ·have he:z0i z=45::dec z.natAbs:=by rw[z0i,if_pos hz]
  have hdz:decide (z < 0)=true:=by simp[hz]
  rw[he]
  simp only[go_sem,k4i,hB,z1b,Bool.not_false,z6j,Int.cast_ofNat_Int,x0z,decide_true,decide_false,Int.reduceEq]
  refine⟨by simp[z1e,apart,z0l,z0z,z1i,AOp.isCall,hB], ?_⟩
  refine j0e (v0:= .str (45::dec z.natAbs)) hdn (by omega) rfl rfl rfl rfl rfl ?_
  intro ts2 clk2 q0 q2 q4 q5
  have e1:decide (([49]:List Nat)=[48])=false:=rfl
  have e2:decide (dec z.natAbs=dec z.natAbs)=true:=by simp
  have e3:decide (z3o true z.natAbs 1=45::dec z.natAbs)=true:=by simp[z3o]
  simp only[go_sem,q0,q2,q4,q5,hB,z1b,z0a (q7b hdig (by omega)),z0a hp1,z0a hp2,z0a hp3,z0a (hp4 true (by omega)),z0a (hp5 true),e1,e2,e3,Bool.not_true,Bool.not_false,decide_true,decide_false]
  refine⟨by simp[z1e,apart,z0l,z0z,z1i,AOp.isCall,hB], ?_⟩
  rw[z0g rfl rfl]
  rw[hdz] at hT
  have:=hT
  rw[q0i,z2f] at this
  exact this _
 ·have he:z0i z=dec z.natAbs:=by rw[z0i,if_neg hz]
  have hdz:decide (z < 0)=false:=by simp[hz]
  rw[he]
  obtain⟨c,t,hct⟩:=List.exists_cons_of_ne_nil hdne
  have hc:=hdn c (by rw[hct];exact List.mem_cons_self)
  have e0:decide (dec z.natAbs=[])=false:=by simp[hdne]
  have e00:∀ h k,q4u h (.str (dec z.natAbs)) (.int k 0)=some (.int .u8 (c:Int),h):=fun h k=>by rw[hct];exact z6j
  have ec:decide ((c:Int)=45)=false:=by rw[decide_eq_false_iff_not];omega
  simp only[go_sem,k4i,hB,z1b,Bool.not_false,e0,e00,ec,Int.cast_ofNat_Int,decide_true,decide_false,Int.reduceEq]
  refine j0e (v0:= .str (dec z.natAbs)) hdn (by omega) rfl rfl rfl rfl rfl ?_
  intro ts2 clk2 q0 q2 q4 q5
  have e1:decide (([49]:List Nat)=[48])=false:=rfl
  have e2:decide (dec z.natAbs=dec z.natAbs)=true:=by simp
  have e3:decide (z3o false z.natAbs 1=dec z.natAbs)=true:=by simp[z3o]
  simp only[go_sem,q0,q2,q4,q5,hB,z1b,z0a (q7b hdig (by omega)),z0a hp1,z0a hp2,z0a hp3,z0a (hp4 false (by simp)),z0a (hp5 false),e1,e2,e3,Bool.not_true,Bool.not_false,decide_true,decide_false]
  refine⟨by simp[z1e,apart,z0l,z0z,z1i,AOp.isCall,hB], ?_⟩
  rw[z0g rfl rfl]
  rw[hdz] at hT
  have:=hT
  rw[q0i,z2f] at this
  exact this _
theorem v0x {x y:Int}:z3o ((!(decide (x < 0)==decide (y < 0))) && !decide (x.natAbs * y.natAbs=0)) (x.natAbs * y.natAbs) 1=z0i (x * y):=by
 rw[j6n,Int.natAbs_mul]
 congr 1
 rw[Bool.eq_iff_iff]
 simp only[Bool.and_eq_true,Bool.not_eq_true',decide_eq_false_iff_not,decide_eq_true_iff,beq_eq_false_iff_ne,ne_eq,decide_eq_decide]
 rcases Int.lt_trichotomy x 0 with hx | hx | hx <;> rcases Int.lt_trichotomy y 0 with hy | hy | hy
 ·have:=Int.mul_pos_of_neg_of_neg hx hy
  simp[hx,hy];omega
 ·subst hy;simp
 ·have:=Int.mul_neg_of_neg_of_pos hx hy
  have h2:¬ y < 0:=by omega
  simp[hx,h2,this];exact Nat.ne_of_gt (Nat.mul_pos (by omega) (by omega))
 ·subst hx;simp
 ·subst hx;simp
 ·subst hx;simp
 ·have:=Int.mul_neg_of_pos_of_neg hx hy
  have h2:¬ x < 0:=by omega
  simp[hy,h2,this];exact Nat.ne_of_gt (Nat.mul_pos (by omega) (by omega))
 ·subst hy;simp
 ·have:=Int.mul_pos hx hy
  have h2:¬ x < 0:=by omega
  have h3:¬ y < 0:=by omega
  simp[h2,h3];omega
theorem w3d {x y:Int} (hx:(dec x.natAbs).length≤4000000) (hy:(dec y.natAbs).length≤4000000) (hxy:(dec (x.natAbs * y.natAbs)).length≤10000000):Pure Gam 285 [.str (z0i x), .str (z0i y)] (.str (z0i (x * y))):=by
 refine Pure.of rfl y3k rfl rfl rfl rfl rfl fun D B clk T hB hT=> ?_
 have hp1:Pure Gam 279 [.str [49], .str [49]] (.str [49]):=by
  have:=z9h (a:=1) (b:=1) (by rw[z2f];simp) (by rw[z2f];simp)
  rwa [z2f] at this
 have hp2:∀ neg:Bool,Pure Gam 230 [.bool neg, .str (dec (x.natAbs * y.natAbs)), .str [49]] (q0i (neg && !decide (x.natAbs * y.natAbs=0)) (x.natAbs * y.natAbs) 1):=fun neg=>by
  have:=x1d (neg:=neg) (a:=x.natAbs * y.natAbs) (b:=1) (by omega) hxy (by rw[z2f];simp)
  rwa [z2f,Nat.gcd_one_right,Nat.div_one,Nat.div_one] at this
 have hp3:∀ neg:Bool,Pure Gam 231 [q0i neg (x.natAbs * y.natAbs) 1] (.str (z3o neg (x.natAbs * y.natAbs) 1)):=fun neg=>q7d hxy (by rw[z2f];simp)
 simp only[go_sem,w2l,hB]
 rw[z0a (q2w (by omega))]
 simp only[go_sem,hB,q0i,z2f]
 rw[z0a (q2w (by omega))]
 simp only[go_sem,hB,q0i,z2f,Bool.not_true,Bool.not_false,z1b,z0a (z9h (a:=x.natAbs) (b:=y.natAbs) (by omega) (by omega)),z0a hp1]
 rw[z0a (hp2 _)]
 simp only[go_sem,]
 rw[z0a (hp3 _)]
 simp only[go_sem,]
 refine⟨by simp[z1e,apart,z0l,z0z,z1i,AOp.isCall,hB], ?_⟩
 rw[z3f,v0x]
 exact hT _
theorem w3e {x:Int} {d:Nat} (hx:(dec x.natAbs).length≤4000000) (hd:1≤d) (hd4:d≤4):Pure Gam 301 [.str (z0i x), .str (z0i (d:Int))] (.str (z3o (decide (x < 0) && !decide (x.natAbs / Nat.gcd x.natAbs d=0)) (x.natAbs / Nat.gcd x.natAbs d) (d / Nat.gcd x.natAbs d))):=by
 refine Pure.of rfl y3l rfl rfl rfl rfl rfl fun D B clk T hB hT=> ?_
 have hdl:(dec d).length≤1:=z7e (by omega) (by omega)
 have hp1:Pure Gam 279 [.str (dec x.natAbs), .str [49]] (.str (dec x.natAbs)):=by
  have:=z9h (a:=x.natAbs) (b:=1) (by omega) (by rw[z2f];simp)
  rwa [z2f,Nat.mul_one] at this
 have hp2:Pure Gam 279 [.str [49], .str (dec d)] (.str (dec d)):=by
  have:=z9h (a:=1) (b:=d) (by rw[z2f];simp) (by omega)
  rwa [z2f,Nat.one_mul] at this
 have hdn:((d:Int)).natAbs=d:=Int.natAbs_natCast d
 have hdz:decide ((d:Int) < 0)=false:=by rw[decide_eq_false_iff_not];omega
 have hd0:decide (dec d=[48])=false:=by rw[z1t,decide_eq_false_iff_not];omega
 have hr:=q2w (z:=(d:Int)) (by rw[hdn];omega)
 rw[hdn,hdz] at hr
 have hle1:(dec (x.natAbs / Nat.gcd x.natAbs d)).length≤10000000:=Nat.le_trans (z4z (Nat.div_le_self _ _)) (by omega)
 have hle2:(dec (d / Nat.gcd x.natAbs d)).length≤10000000:=Nat.le_trans (z4z (Nat.div_le_self _ _)) (by omega)
 simp only[go_sem,w2m,hB]
 rw[z0a (q2w (by omega))]
 simp only[go_sem,hB,q0i,z2f]
 rw[z0a hr]
 simp only[go_sem,hB,q0i,z2f,Bool.not_true,Bool.not_false,hd0,z1b,z0a hp1,z0a hp2]
 rw[z0a (x1d (by omega) (by omega) (by omega))]
 simp only[go_sem,]
 rw[z0a (q7d hle1 hle2)]
 simp only[go_sem,]
 refine⟨by simp[z1e,apart,z0l,z0z,z1i,AOp.isCall,hB], ?_⟩
 rw[z3f]
 have:=hT
 rw[Bool.not_not]
 exact this _
section
variable {l:List Int}
def g2j (v:AV):Prop:=∃ z:Int,v= .str (z0i z)∧z.natAbs < 10 ^ 26
theorem v7b (hl:q6z l):GenOk l 305 [] g2j:=by
 refine GenOk.of rfl u2h rfl rfl rfl rfl rfl fun D B p g i clk T hB hs hD hi hR=> ?_
 simp only[go_sem,y2q,hB]
 refine z0p (z2x hl (by decide) (by decide)) hB hs hD hi ?_
 clear hB hD hi
 rintro v D i ⟨r,rfl,hr1,hr2⟩ hB hD hi
 obtain h6 | h7 | h8:r=6∨r=7∨(r≠6∧r≠7):=by omega
 ·subst h6
  simp only[go_sem,Int.reduceEq,decide_true,decide_false]
  refine z0p (z2x hl (by decide) (by decide)) hB hs hD hi ?_
  clear hB hD hi
  rintro v D i ⟨r,rfl,hr3,hr4⟩ hB hD hi
  simp only[go_sem,z0c (n:=r - 1000) (by omega) (by omega)]
  rw[z0a (z8i (by omega) (by omega))]
  simp only[go_sem,]
  rw[z3f]
  exact hR _ _ i (by rw[z0w hB hs];exact hD) hi ⟨_,rfl,by omega⟩
 ·subst h7
  simp only[go_sem,Int.reduceEq,decide_true,decide_false]
  refine z0p (z2x hl (by decide) (by decide)) hB hs hD hi ?_
  clear hB hD hi
  rintro v D i ⟨x,rfl,hr3,hr4⟩ hB hD hi
  simp only[go_sem,z0c (n:=x - 549755813888) (by omega) (by omega)]
  rw[z0a (z8i (by omega) (by omega))]
  simp only[go_sem,]
  refine z0p (z2x hl (by decide) (by decide)) hB hs hD hi ?_
  clear hB hD hi
  rintro v D i ⟨y,rfl,hr5,hr6⟩ hB hD hi
  simp only[go_sem,]
  rw[z0a (z8i (by omega) (by omega))]
  have hx:(x - 549755813888).natAbs < 10 ^ 13:=by omega
  have hy:y.natAbs < 10 ^ 13:=by omega
  have hxy:(x - 549755813888).natAbs * y.natAbs < 10 ^ 26:=Nat.lt_of_le_of_lt (Nat.mul_le_mul (Nat.le_sub_one_of_lt hx) (Nat.le_sub_one_of_lt hy)) (by decide)
  simp only[go_sem,]
  rw[z0a (w3d (Nat.le_trans (z7e (k:=13) (by omega) hx) (by omega)) (Nat.le_trans (z7e (k:=13) (by omega) hy) (by omega)) (Nat.le_trans (z7e (k:=26) (by omega) hxy) (by omega)))]
  simp only[go_sem,]
  rw[z3f]
  exact hR _ _ i (by rw[z0w hB hs];exact hD) hi ⟨_,rfl,by rw[Int.natAbs_mul];exact hxy⟩
 ·have e6:decide (r=6)=false:=by simp[h8.1]
  have e7:decide (r=7)=false:=by simp[h8.2]
  simp only[go_sem,e6,e7]
  refine z0p (z2x hl (by decide) (by decide)) hB hs hD hi ?_
  clear hB hD hi
  rintro v D i ⟨r,rfl,hr3,hr4⟩ hB hD hi
  simp only[go_sem,z0c (n:=r - 4) (by omega) (by omega)]
  rw[z0a (z8i (by omega) (by omega))]
  simp only[go_sem,]
  rw[z3f]
  exact hR _ _ i (by rw[z0w hB hs];exact hD) hi ⟨_,rfl,by omega⟩
end
section
variable {l:List Int}
theorem v0y {z:Int} {d:Nat} (hz:z.natAbs < 10 ^ 26) (hd:1≤d) (hd4:d≤4):RatS (z3o (decide (z < 0) && !decide (z.natAbs / Nat.gcd z.natAbs d=0)) (z.natAbs / Nat.gcd z.natAbs d) (d / Nat.gcd z.natAbs d)):=by
 have hg:0 < Nat.gcd z.natAbs d:=Nat.gcd_pos_of_pos_right _ hd
 have hcop:Nat.gcd (z.natAbs / Nat.gcd z.natAbs d) (d / Nat.gcd z.natAbs d)=1:=Nat.gcd_div_gcd_div_gcd_of_pos_right hd
 have h1:z.natAbs / Nat.gcd z.natAbs d≤z.natAbs:=Nat.div_le_self _ _
 have h2:d / Nat.gcd z.natAbs d≤d:=Nat.div_le_self _ _
 have h3:0 < d / Nat.gcd z.natAbs d:=Nat.div_pos (Nat.le_of_dvd hd (Nat.gcd_dvd_right _ _)) hg
 generalize z.natAbs / Nat.gcd z.natAbs d=n at *
 generalize d / Nat.gcd z.natAbs d=e at *
 obtain⟨w,hw,hwn⟩:∃ w:Int,z0i w=(if (decide (z < 0) && !decide (n=0))=true then [45] else [])++dec n∧w.natAbs=n:=by
  by_cases hneg:(decide (z < 0) && !decide (n=0))=true
  ·simp only[Bool.and_eq_true,decide_eq_true_iff,Bool.not_eq_true',decide_eq_false_iff_not] at hneg
   refine⟨-(n:Int), ?_,by omega⟩
   rw[z0i,if_pos (by omega),show (-(n:Int)).natAbs=n by omega]
   simp[hneg.1,hneg.2]
  ·refine⟨(n:Int), ?_,by omega⟩
   rw[if_neg hneg,z0i,if_neg (by omega),Int.natAbs_natCast]
   rfl
 unfold z3o
 rw[←hw]
 by_cases he:e=1
 ·rw[if_pos he,List.append_nil]
  exact .inl (q7a (by omega))
 ·rw[if_neg he]
  exact .inr ⟨w,e,rfl,by omega,by omega,by omega,by rw[hwn];exact hcop⟩
theorem y5d (hl:q6z l):GenOk l 306 [] fun v=>∃ a,v= .str a∧RatS a:=by
 refine GenOk.of rfl u2i rfl rfl rfl rfl rfl fun D B p g i clk T hB hs hD hi hR=> ?_
 simp only[go_sem,y2r,hB]
 refine z0p (v7b hl) hB hs hD hi ?_
 clear hB hD hi
 rintro v D i ⟨z,rfl,hz⟩ hB hD hi
 simp only[go_sem,]
 refine z0p (z2x hl (by decide) (by decide)) hB hs hD hi ?_
 clear hB hD hi
 rintro v D i ⟨r,rfl,hr3,hr4⟩ hB hD hi
 obtain⟨k,rfl⟩:∃ k:Nat,r=k:=⟨r.toNat,by omega⟩
 have e1:IntKind.i64.wrap (1 + (k:Int))=((1 + k:Nat):Int):=by rw[z0c (by omega) (by omega)];omega
 simp only[go_sem,e1]
 rw[z0a (z8i (by omega) (by omega))]
 simp only[go_sem,]
 rw[z0a (w3e (Nat.le_trans (z7e (k:=26) (by omega) hz) (by omega)) (by omega) (by omega))]
 simp only[go_sem,]
 rw[z3f]
 exact hR _ _ i (by rw[z0w hB hs];exact hD) hi ⟨_,rfl,v0y hz (by omega) (by omega)⟩
theorem v7c (hl:q6z l):x2v l:=by
 intro s hs23
 refine GenOk.of rfl u2g rfl rfl rfl rfl rfl fun D B p g i clk T hB hs hD hi hR=> ?_
 rcases hs23 with rfl | rfl
 ·simp only[go_sem,w1p,hB,nat,Int.reduceEq,decide_true,decide_false]
  refine z0p (v7b hl) hB hs hD hi ?_
  clear hB hD hi
  rintro v D i ⟨z,rfl,hz⟩ hB hD hi
  simp only[go_sem,]
  rw[z3f]
  exact hR _ _ i (by rw[z0w hB hs];exact hD) hi ⟨_,rfl, .inl ⟨rfl,q7a (by omega)⟩⟩
 ·simp only[go_sem,w1p,hB,nat,Int.reduceEq,decide_true,decide_false]
  refine z0p (y5d hl) hB hs hD hi ?_
  clear hB hD hi
  rintro v D i ⟨a,rfl,ha⟩ hB hD hi
  simp only[go_sem,]
  rw[z3f]
  exact hR _ _ i (by rw[z0w hB hs];exact hD) hi ⟨_,rfl, .inr ⟨rfl,ha⟩⟩
end
end Go.Proofs.YtkollgjffkdliaaGreatDoor.Am
