/- Walking: the reference's small tests of terms Walking: the reference's arities and sorts of nodes Walking: the reference's sorts of nodes Walking: fractions are read Walking: the reference's tests of  -/
import Derived.Test.YtahdahokpjigiaaGreatDoorM33
set_option linter.all false
namespace Go.Proofs.YtahdahokpjigiaaGreatDoor.Am
open Go
set_option maxRecDepth 100000
theorem j0x {n:Nat} (h1:1≤n) (h4:n≤4):Pure Gam 191 [nat n] (.bool true):=by
 refine Pure.of rfl y5e rfl rfl rfl rfl rfl fun D B clk T hB hT=> ?_
 have e1:decide ((1:Int)≤(n:Int))=true:=by rw[decide_eq_true_iff];omega
 have e2:decide ((n:Int)≤(4:Int))=true:=by rw[decide_eq_true_iff];omega
 simp only[go_sem,w5k,nat,e1,e2]
 rw[z0e]
 exact hT _
theorem k2n {n:Nat}:Pure Gam 334 [nat n] (.bool (decide (n=2∨n=3))):=by
 refine Pure.of rfl y5d rfl rfl rfl rfl rfl fun D B clk T hB hT=> ?_
 by_cases h2:n=2
 ·subst h2
  simp only[go_sem,v5j,nat,Int.cast_ofNat_Int,decide_true]
  rw[z0e]
  exact hT _
 ·have e1:decide ((n:Int)=(2:Int))=false:=by rw[decide_eq_false_iff_not];omega
  have e2:decide ((n:Int)=(3:Int))=decide (n=2∨n=3):=by rw[decide_eq_decide];omega
  simp only[go_sem,v5j,nat,e1,e2]
  rw[z0e]
  exact hT _
theorem v8m {ss:List Nat} {s o:Nat} {u:Tip} (hl:ss.length≤2 ^ 20) (h:∀ x∈ss,x=s):Pure Gam 333 [.sl (ss.map nat) u,nat s,nat o] (nat o):=by
 refine Pure.of rfl y5c rfl rfl rfl (az:=[.sl (ss.map nat) .no,nat s,nat o]) rfl (by simp[idsL,AV.ids,z0c (fun _=>z3c),z3c]) fun D B clk T hB hT=> ?_
 simp only[go_sem,w5j,nat,hB]
 refine z0y (fun m q=>∃ i:Nat,i≤ss.length∧m=ss.length - i∧q.ts 0= .sl (ss.map nat) .no∧q.ts 1=nat s∧q.ts 2=nat o∧q.ts 7= .int .i64 (i:Int)∧q.h=D) ss.length ⟨0,Nat.zero_le _,by omega,rfl,rfl,rfl,rfl,by simp⟩ ?_
 rintro m ⟨ts,h',clk'⟩ Pq ⟨i,hi,rfl,q0,q1,q2,q7,rfl⟩ hnx he hr
 dsimp only at q0 q1 q2 q7
 by_cases hlt:i < ss.length
 ·have f1:decide ((i:Int) < (ss.length:Int))=true:=by rw[decide_eq_true_iff];omega
  have f2:IntKind.i64.wrap ((i:Int) + 1)=((i + 1:Nat):Int):=z0d (by omega) (by omega)
  have f3:ss[i]=s:=h _ (List.getElem_mem hlt)
  simp only[go_sem,j2u,q0,q1,q2,q7,nat,List.length_map,f1,q9k hlt,f3,decide_true,Bool.not_true,f2]
  exact hnx (ss.length - (i + 1)) _ (by omega) ⟨i + 1,hlt,rfl,q0,q1,q2,rfl,rfl⟩
 ·have f1:decide ((i:Int) < (ss.length:Int))=false:=by rw[decide_eq_false_iff_not];omega
  simp only[go_sem,j2u,q0,q1,q2,q7,List.length_map,f1]
  refine he _ _ ?_
  simp only[go_sem,q2]
  rw[z0h rfl rfl]
  exact hT _
theorem v8n {V:List Var} {n:Node} {ss:List Nat} {s:Nat} {ks:Term} (hn:NodeOk V n ss s ks) (hk:n.kids=ss.length):Pure Gam 297 [nat n.op,nat n.kids] (.bool true):=by
 refine Pure.of rfl y5a rfl rfl rfl rfl rfl fun D B clk T hB hT=> ?_
 have e0:∀ k:Nat,decide ((0:Int)≤(k:Int))=true:=fun k=>by rw[decide_eq_true_iff];omega
 have e1:∀ k:Nat,1≤k→decide ((1:Int)≤(k:Int))=true:=fun k h=>by rw[decide_eq_true_iff];omega
 cases hn with
 | bool h=>rcases h with rfl | rfl <;> (simp only[go_sem,q1v,nat,bare,Int.cast_ofNat_Int,Int.reduceEq,decide_true,decide_false];rw[z0e];exact hT _)
 | int h=>simp only[go_sem,q1v,nat,Int.cast_ofNat_Int,Int.reduceEq,decide_true,decide_false];rw[z0e];exact hT _
 | real h=>simp only[go_sem,q1v,nat,Int.cast_ofNat_Int,Int.reduceEq,decide_true,decide_false];rw[z0e];exact hT _
 | var h=>simp only[go_sem,q1v,nat,Int.cast_ofNat_Int,Int.reduceEq,decide_true,decide_false];rw[z0e];exact hT _
 | not=>simp only[go_sem,q1v,nat,bare,Int.cast_ofNat_Int,Int.reduceEq,decide_true,decide_false];rw[z0e];exact hT _
 | andor h=>rcases h with rfl | rfl <;> (simp only[go_sem,q1v,nat,bare,Int.cast_ofNat_Int,Int.reduceEq,decide_true,decide_false,e0];rw[z0e];exact hT _)
 | imp=>simp only[go_sem,q1v,nat,bare,Int.cast_ofNat_Int,Int.reduceEq,decide_true,decide_false];rw[z0e];exact hT _
 | ite h1 h2=>simp only[go_sem,q1v,nat,bare,Int.cast_ofNat_Int,Int.reduceEq,decide_true,decide_false];rw[z0e];exact hT _
 | eq h1 h2=>simp only[go_sem,q1v,nat,bare,Int.cast_ofNat_Int,Int.reduceEq,decide_true,decide_false];rw[z0e];exact hT _
 | cmp h hs=>rcases h with rfl | rfl <;> (simp only[go_sem,q1v,nat,bare,Int.cast_ofNat_Int,Int.reduceEq,decide_true,decide_false];rw[z0e];exact hT _)
 | add h hs=>simp only[go_sem,q1v,nat,bare,Int.cast_ofNat_Int,Int.reduceEq,decide_true,decide_false,e1 _ h];rw[z0e];exact hT _
 | mul hs hn=>simp only[go_sem,q1v,nat,bare,Int.cast_ofNat_Int,Int.reduceEq,decide_true,decide_false];rw[z0e];exact hT _
 | div h h1 h2=>rcases h with rfl | rfl <;> (simp only[go_sem,q1v,nat,Int.cast_ofNat_Int,Int.reduceEq,decide_true,decide_false];rw[z0e];exact hT _)
 | select=>simp only[go_sem,q1v,nat,bare,Int.cast_ofNat_Int,Int.reduceEq,decide_true,decide_false];rw[z0e];exact hT _
 | store=>simp only[go_sem,q1v,nat,bare,Int.cast_ofNat_Int,Int.reduceEq,decide_true,decide_false];rw[z0e];exact hT _
 | const=>simp only[go_sem,q1v,nat,bare,Int.cast_ofNat_Int,Int.reduceEq,decide_true,decide_false];rw[z0e];exact hT _
theorem v8o {V:List Var} {n:Node} {ss:List Nat} {s fi:Nat} {ks:Term} {u:Tip} (hn:NodeOk V n ss s ks) (hl:ss.length≤2 ^ 20) (hf:n.op=15→fi=3):Pure Gam 298 [eNode n,nat fi, .sl (ss.map nat) u] (nat s):=by
 refine Pure.of rfl y5b rfl rfl rfl (az:=[eNode n,nat fi, .sl (ss.map nat) .no]) rfl (by simp[idsL,AV.ids,z0c (fun _=>z3c),z3c,eNode]) fun D B clk T hB hT=> ?_
 have sm:∀ (x o:Nat),(∀ y∈ss,y=x)→Pure Gam 333 [.sl (ss.map nat) .no, .int .i64 (x:Int), .int .i64 (o:Int)] (.int .i64 (o:Int)):=fun x o h=>v8m hl h
 cases hn with
 | bool h=>rcases h with rfl | rfl <;> (simp only[go_sem,q1w,hB,eNode,nat,bare,Int.cast_ofNat_Int,Int.reduceEq,decide_true,decide_false];rw[z0h rfl rfl];exact hT _)
 | int h=>simp only[go_sem,q1w,hB,eNode,nat,Int.cast_ofNat_Int,Int.reduceEq,decide_true,decide_false];rw[z0h rfl rfl];exact hT _
 | real h=>simp only[go_sem,q1w,hB,eNode,nat,Int.cast_ofNat_Int,Int.reduceEq,decide_true,decide_false];rw[z0h rfl rfl];exact hT _
 | var h=>simp only[go_sem,q1w,hB,eNode,nat,Int.cast_ofNat_Int,Int.reduceEq,decide_true,decide_false];rw[z0h rfl rfl];exact hT _
 | not=>
   have p:=sm 1 1 (by simp)
   simp only[List.map_cons,List.map_nil,nat,Int.cast_ofNat_Int] at p
   simp only[go_sem,q1w,hB,eNode,nat,bare,Int.cast_ofNat_Int,Int.reduceEq,decide_true,decide_false,z0a p];rw[z0h rfl rfl];exact hT _
 | andor h=>
   have p:=sm 1 1 (by simp)
   simp only[List.map_replicate,nat,Int.cast_ofNat_Int] at p
   rcases h with rfl | rfl <;> (simp only[go_sem,q1w,hB,eNode,nat,bare,Int.cast_ofNat_Int,Int.reduceEq,decide_true,decide_false,List.map_replicate,z0a p];rw[z0h rfl rfl];exact hT _)
 | imp=>
   have p:=sm 1 1 (by simp)
   simp only[List.map_cons,List.map_nil,nat,Int.cast_ofNat_Int] at p
   simp only[go_sem,q1w,hB,eNode,nat,bare,Int.cast_ofNat_Int,Int.reduceEq,decide_true,decide_false,z0a p];rw[z0h rfl rfl];exact hT _
 | @ite s ks h1 h2=>simp only[go_sem,q1w,hB,eNode,nat,bare,Int.cast_ofNat_Int,Int.reduceEq,decide_true,decide_false,z2n,q0n,q9x];rw[z0h rfl rfl];exact hT _
 | @eq s ks h1 h2=>
   have p:=sm s 1 (by simp)
   simp only[List.map_cons,List.map_nil,nat,Int.cast_ofNat_Int] at p
   simp only[go_sem,q1w,hB,eNode,nat,bare,Int.cast_ofNat_Int,Int.reduceEq,decide_true,decide_false,z2n,z0a p];rw[z0h rfl rfl];exact hT _
 | @cmp o s ks h hs=>
   have p:=sm s 1 (by simp)
   have q:=k2n (n:=s)
   rw[show decide (s=2∨s=3)=true from decide_eq_true hs] at q
   simp only[List.map_cons,List.map_nil,nat,Int.cast_ofNat_Int] at p q
   rcases h with rfl | rfl <;> (simp only[go_sem,q1w,hB,eNode,nat,bare,Int.cast_ofNat_Int,Int.reduceEq,decide_true,decide_false,z2n,z0a q,z0a p];rw[z0h rfl rfl];exact hT _)
 | @add k s ks h hs=>
   obtain⟨k,rfl⟩:∃ j,k=j + 1:=⟨k - 1,by omega⟩
   have p:=sm s s (by simp)
   have q:=k2n (n:=s)
   rw[show decide (s=2∨s=3)=true from decide_eq_true hs] at q
   simp only[List.replicate_succ,List.map_cons,List.map_replicate,nat,Int.cast_ofNat_Int] at p q
   simp only[go_sem,q1w,hB,eNode,nat,bare,Int.cast_ofNat_Int,Int.reduceEq,decide_true,decide_false,List.replicate_succ,List.map_cons,List.map_replicate,z2n,z0a q,z0a p];rw[z0h rfl rfl];exact hT _
 | @mul s m ks hs hm=>
   have p:=sm s s (by simp)
   obtain rfl:=hf rfl
   simp only[List.map_cons,List.map_nil,nat,Int.cast_ofNat_Int] at p
   simp only[go_sem,q1w,hB,eNode,nat,bare,Int.cast_ofNat_Int,Int.reduceEq,decide_true,decide_false,z2n,z0a p];rw[z0h rfl rfl];exact hT _
 | @div o k ks h h1 h2=>
   have p:=sm 2 2 (by simp)
   simp only[List.map_cons,List.map_nil,nat,Int.cast_ofNat_Int] at p
   rcases h with rfl | rfl <;> (simp only[go_sem,q1w,hB,eNode,nat,bare,Int.cast_ofNat_Int,Int.reduceEq,decide_true,decide_false,z0a p];rw[z0h rfl rfl];exact hT _)
 | select=>simp only[go_sem,q1w,hB,eNode,nat,bare,Int.cast_ofNat_Int,Int.reduceEq,decide_true,decide_false,z2n,q0n];rw[z0h rfl rfl];exact hT _
 | store=>simp only[go_sem,q1w,hB,eNode,nat,bare,Int.cast_ofNat_Int,Int.reduceEq,decide_true,decide_false,z2n,q0n,q9x];rw[z0h rfl rfl];exact hT _
 | const=>
   have p:=sm 2 4 (by simp)
   simp only[List.map_cons,List.map_nil,nat,Int.cast_ofNat_Int] at p
   simp only[go_sem,q1w,hB,eNode,nat,bare,Int.cast_ofNat_Int,Int.reduceEq,decide_true,decide_false,z0a p];rw[z0h rfl rfl];exact hT _
theorem x3g {B clk g4:Nat} {D:List AObj} {o0:AObj} {neg:Bool} {A R:List Nat} {v0:AV} {ts:Tmps} {ks:List Kf} {Q:Post} (hd:∀ c∈A,48≤c∧c≤57) (hl:A.length≤1000) (hB:D.length=B) (h0:ts 0=v0) (h4:ts 4= .ptr (B + 1) g4 0 0) (h5:ts 5= .str (A++47::R)) (h6:ts 6= .int .i64 0) {g2:Nat} (h2:ts 2= .ptr (B + 0) g2 0 0)
  (hQ:∀ (ts':Tmps) (clk':Nat),ts' 0=v0→ts' 2= .ptr (B + 0) g2 0 0→ts' 4= .ptr (B + 1) g4 0 0→ts' 5= .str A→K Gam B (.exit 0) ks ⟨ts',D++[o0, .blk g4 [.agg [.bool neg, .str [], .str R]] false false 0],clk'⟩ Q):K Gam B (.loop q7a) ks ⟨ts,D++[o0, .blk g4 [.agg [.bool neg, .str [], .str [49]]] false false 0],clk⟩ Q:=by
 refine z0y (fun m q=>∃ j:Nat,j≤A.length∧m=A.length - j∧q.ts 0=v0∧q.ts 2= .ptr (B + 0) g2 0 0∧q.ts 4= .ptr (B + 1) g4 0 0∧q.ts 5= .str (A++47::R)∧q.ts 6= .int .i64 (j:Int)∧q.h=D++[o0, .blk g4 [.agg [.bool neg, .str [], .str [49]]] false false 0]) A.length ⟨0,by omega,rfl,h0,h2,h4,h5,h6,rfl⟩ ?_
 clear h0 h2 h4 h5 h6
 rintro m ⟨ts,h,clk⟩ P ⟨j,hj,rfl,h0,h2,h4,h5,h6,rfl⟩ hn he hr
 dsimp only at h0 h2 h4 h5 h6
 have e1:decide ((j:Int) < ((A++47::R).length:Int))=true:=by rw[decide_eq_true_iff];simp;omega
 have e4:IntKind.i64.wrap ((j:Int) + 1)=((j + 1:Nat):Int):=z0d (by omega) (by omega)
 have hlt':j < (A++47::R).length:=by simp;omega
 by_cases hlt:j < A.length
 ·have hc:=hd A[j] (List.getElem_mem hlt)
  have e0:(A++47::R)[j]=A[j]:=List.getElem_append_left hlt
  have e2:decide ((A[j]:Int)=47)=false:=by rw[decide_eq_false_iff_not];omega
  simp only[go_sem,h0,h2,h4,h5,h6,q7a,e1,q1z hlt',e0,e2,e4]
  exact hn (A.length - (j + 1)) _ (by omega) ⟨j + 1,hlt,rfl,h0,h2,h4,h5,rfl,rfl⟩
 ·obtain rfl:j=A.length:=by omega
  have e0:(A++47::R)[A.length]=47:=by simp
  have e5:∀ h,slV h none (.str (A++47::R)) (some (.int .i64 ((A.length + 1:Nat):Int))) none none=some (.str R,h):=fun h=>by
   have h1:(0:Int)≤(A.length:Int) + 1:=by omega
   have h2:(A++47::R).take (A.length + (R.length + 1))=A++47::R:=List.take_of_length_le (by simp)
   have h3:(A++47::R).drop (A.length + 1)=R:=by rw[←List.drop_drop,List.drop_left];rfl
   simp[slV,z2v,z4v,h1,h2,h3]
  have e6:∀ h,slV h none (.str (A++47::R)) none (some (.int .i64 (A.length:Int))) none=some (.str A,h):=fun h=>by simp[slV,z2v,z4v]
  simp only[go_sem,h0,h2,h4,h5,h6,q7a,e1,q1z hlt',e0,e4,e5,e6,hB,z1i,Int.cast_ofNat_Int,decide_true]
  refine⟨by simp[z1f,apart,z0i,z1d,z1h,AOp.isCall,hB], ?_⟩
  refine he _ _ ?_
  exact hQ _ _ (by simp[z0b,h0]) (by simp[z0b,h2]) (by simp[z0b,h4]) (by simp[z0b,h5])
theorem k7w {z:Int} {d:Nat} (hl:(dec z.natAbs).length≤150) (h2:2≤d) (h4:d≤4) (hg:Nat.gcd z.natAbs d=1):Pure Gam 188 [.str (z3d z++47::dec d)] (.tup [x0y (decide (z < 0)) z.natAbs d, .bool true]):=by
 have hdn:=z1o z.natAbs
 have hdne:=z8v z.natAbs
 have hdig:q7b (dec z.natAbs):=⟨hdne,hdn⟩
 have hdig2:q7b (dec d):=⟨z8v d,z1o d⟩
 have hld:(dec d).length≤1:=by rw[z9q (by omega)];simp
 have hz0:z.natAbs≠0:=fun h=>by rw[h,Nat.gcd_zero_left] at hg;omega
 have hp1:Pure Gam 229 [.str (dec d)] (.bool true):=q6a hdig2 (by omega)
 have hp2:Pure Gam 230 [.str (dec d)] (.str (dec d)):=by have:=q2a hdig2;rwa [z2g] at this
 have hp3:Pure Gam 230 [.str (dec z.natAbs)] (.str (dec z.natAbs)):=by have:=q2a hdig;rwa [z2g] at this
 have hp4:∀ neg:Bool,Pure Gam 253 [.bool neg, .str (dec z.natAbs), .str (dec d)] (x0y neg z.natAbs d):=fun neg=>by
  have:=x4j (neg:=neg) (a:=z.natAbs) (b:=d) (by omega) hl (by omega)
  rw[hg,Nat.div_one,Nat.div_one] at this
  simpa [hz0] using this
 have hp5:∀ neg:Bool,Pure Gam 254 [x0y neg z.natAbs d] (.str (z4p neg z.natAbs d)):=fun neg=>x4k hl (by omega)
 have e1:decide (dec d=[48])=false:=by rw[decide_eq_false_iff_not,q3s];omega
 have e2:decide (dec z.natAbs=dec z.natAbs)=true:=by simp
 have e2':decide (dec d=dec d)=true:=by simp
 have hd1:dec d≠[49]:=fun h=>by rw[x2l] at h;omega
 refine Pure.of rfl w6v rfl rfl rfl rfl rfl fun D B clk T hB hT=> ?_
 by_cases hz:z < 0
 ·have he:z3d z=45::dec z.natAbs:=by rw[z3d,if_pos hz]
  have hdz:decide (z < 0)=true:=by simp[hz]
  rw[he,List.cons_append]
  simp only[go_sem,k1c,hB,z1i,Bool.not_false,z6b,Int.cast_ofNat_Int,q9n,decide_true,decide_false,Int.reduceEq]
  refine⟨by simp[z1f,apart,z0i,z1d,z1h,AOp.isCall,hB], ?_⟩
  refine x3g (v0:= .str (45::(dec z.natAbs++47::dec d))) hdn (by omega) hB rfl rfl rfl rfl rfl ?_
  intro ts2 clk2 q0 q2 q4 q5
  have e3:decide (z4p true z.natAbs d=45::(dec z.natAbs++47::dec d))=true:=by rw[decide_eq_true_iff];simp[z4p];omega
  simp only[go_sem,q0,q2,q4,q5,hB,z1i,z0a (q6a hdig (by omega)),z0a hp1,z0a hp2,z0a hp3,z0a (hp4 true),z0a (hp5 true),e1,e2,e2',e3,Bool.not_true,Bool.not_false,decide_true,decide_false]
  refine⟨by simp[z1f,apart,z0i,z1d,z1h,AOp.isCall,hB], ?_⟩
  rw[z0h rfl rfl]
  rw[hdz] at hT
  exact hT _
 ·have he:z3d z=dec z.natAbs:=by rw[z3d,if_neg hz]
  have hdz:decide (z < 0)=false:=by simp[hz]
  rw[he]
  obtain⟨c,t,hct⟩:=List.exists_cons_of_ne_nil hdne
  have hc:=hdn c (by rw[hct];exact List.mem_cons_self)
  have e0:decide (dec z.natAbs++47::dec d=[])=false:=by simp
  have e00:∀ h k,q4s h (.str (dec z.natAbs++47::dec d)) (.int k 0)=some (.int .u8 (c:Int),h):=fun h k=>by rw[hct];exact z6b
  have ec:decide ((c:Int)=45)=false:=by rw[decide_eq_false_iff_not];omega
  simp only[go_sem,k1c,hB,z1i,Bool.not_false,e0,e00,ec,Int.cast_ofNat_Int,decide_true,decide_false,Int.reduceEq]
  refine x3g (v0:= .str (dec z.natAbs++47::dec d)) hdn (by omega) hB rfl rfl rfl rfl rfl ?_
  intro ts2 clk2 q0 q2 q4 q5
  have e3:decide (z4p false z.natAbs d=dec z.natAbs++47::dec d)=true:=by rw[decide_eq_true_iff];simp[z4p];omega
  simp only[go_sem,q0,q2,q4,q5,hB,z1i,z0a (q6a hdig (by omega)),z0a hp1,z0a hp2,z0a hp3,z0a (hp4 false),z0a (hp5 false),e1,e2,e2',e3,Bool.not_true,Bool.not_false,decide_true,decide_false]
  refine⟨by simp[z1f,apart,z0i,z1d,z1h,AOp.isCall,hB], ?_⟩
  rw[z0h rfl rfl]
  rw[hdz] at hT
  exact hT _
section
variable {U:List Var} [UOk U]
theorem q1h {z:Int} (h:z.natAbs < 10 ^ 40):(dec z.natAbs).length≤150:=by
 have:=q0l (a:=z.natAbs) (b:=10 ^ 40) (by omega)
 have h2:(dec (10 ^ 40)).length=41:=by kernel_rfl
 omega
theorem k2o {a:List Nat} (h:IntS a):Pure Gam 124 [.str a] (.bool true):=by
 obtain⟨z,rfl,hz⟩:=h
 have hp:=q3v (q1h hz)
 rw[x0y,z3v] at hp
 refine Pure.of rfl y5g rfl rfl rfl rfl rfl fun D B clk T hB hT=> ?_
 simp only[go_sem,w5n,hB,z0a hp,decide_true]
 rw[z0e]
 exact hT _
theorem v8p {a:List Nat} (h:RatS a):Pure Gam 187 [.str a] (.bool true):=by
 rcases h with ⟨z,rfl,hz⟩ | ⟨z,d,rfl,hz,h2,h4,hg⟩
 ·have hp:=q3v (q1h hz)
  rw[x0y] at hp
  refine Pure.of rfl w5m rfl rfl rfl rfl rfl fun D B clk T hB hT=> ?_
  simp only[go_sem,v5k,hB,z0a hp]
  rw[z0e]
  exact hT _
 ·have hp:=k7w (q1h hz) h2 h4 hg
  rw[x0y] at hp
  refine Pure.of rfl w5m rfl rfl rfl rfl rfl fun D B clk T hB hT=> ?_
  simp only[go_sem,v5k,hB,z0a hp]
  rw[z0e]
  exact hT _
theorem v8q {k:Nat} (h1:1≤k) (h5:k≤5):Pure Gam 189 [.str (dec k)] (.int .i64 1):=by
 have e:z3d (k:Int)=dec k:=by rw[z3d,if_neg (by omega),Int.natAbs_natCast]
 have hp:=q3v (z:=(k:Int)) (q1h (by simp;omega))
 rw[x0y,z3v,e,Int.natAbs_natCast,show decide ((k:Int) < 0)=false by simp] at hp
 have e1:decide (dec k=[48])=false:=by rw[decide_eq_false_iff_not,q3s];omega
 refine Pure.of rfl y4y rfl rfl rfl rfl rfl fun D B clk T hB hT=> ?_
 simp only[go_sem,w5i,hB,z0a hp,e1,Bool.not_true]
 rw[z0h rfl rfl]
 exact hT _
theorem k2p {v:Var} (hv:v∈U):Pure Gam 144 [.str v.name] (.bool true):=Pure.tab (tab:=q2y) rfl rfl (UOk.name2 v hv)
theorem v8r {V:List Var} {n:Node} {ss:List Nat} {s:Nat} {ks:Term} (hV:∀ v∈V,v∈U) (hn:NodeOk V n ss s ks):Pure Gam 296 [eNode n] (.bool true):=by
 refine Pure.of rfl y4z rfl rfl rfl rfl rfl fun D B clk T hB hT=> ?_
 cases hn with
 | bool h=>rcases h with rfl | rfl <;> (simp only[go_sem,x4c,hB,eNode,nat,bare,Int.cast_ofNat_Int,Int.reduceEq,Int.reduceLE,decide_true,decide_false];rw[z0e];exact hT _)
 | int h=>simp only[go_sem,x4c,hB,eNode,nat,Int.cast_ofNat_Int,Int.reduceEq,decide_true,decide_false,z0a (k2o h)];rw[z0e];exact hT _
 | real h=>simp only[go_sem,x4c,hB,eNode,nat,Int.cast_ofNat_Int,Int.reduceEq,decide_true,decide_false,z0a (v8p h)];rw[z0e];exact hT _
 | @var v ks h=>
   have hs:=q5d (hV _ h)
   have p:=j0x hs.1 hs.2
   rw[nat] at p
   simp only[go_sem,x4c,hB,eNode,nat,Int.cast_ofNat_Int,Int.reduceEq,decide_true,decide_false,z0a (k2p (hV _ h)),z0a p];rw[z0e];exact hT _
 | andor h=>rcases h with rfl | rfl <;> (simp only[go_sem,x4c,hB,eNode,nat,bare,Int.cast_ofNat_Int,Int.reduceEq,Int.reduceLE,decide_true,decide_false];rw[z0e];exact hT _)
 | cmp h hs=>rcases h with rfl | rfl <;> (simp only[go_sem,x4c,hB,eNode,nat,bare,Int.cast_ofNat_Int,Int.reduceEq,Int.reduceLE,decide_true,decide_false];rw[z0e];exact hT _)
 | @div o k ks h h1 h5=>
   have e:IntS (dec k):=⟨k,by rw[z3d,if_neg (by omega),Int.natAbs_natCast],by simp;omega⟩
   rcases h with rfl | rfl <;> (simp only[go_sem,x4c,hB,eNode,nat,Int.cast_ofNat_Int,Int.reduceEq,Int.reduceLT,decide_true,decide_false,z0a (k2o e),z0a (v8q h1 h5)];rw[z0e];exact hT _)
 | _=>simp only[go_sem,x4c,hB,eNode,nat,bare,Int.cast_ofNat_Int,Int.reduceEq,Int.reduceLE,decide_true,decide_false];rw[z0e];exact hT _
end
section
variable {U:List Var} [UOk U]
theorem WF.len {V:List Var} {ss:List Nat} {d:Nat} {f:Term} (h:WF V ss d f):ss.length≤f.length:=by
 induction h with
 | nil=>simp
 | cons h1 h2 h3 h4 ih1 ih2=>simp at *;omega
theorem NodeOk.mul_ne {V:List Var} {n:Node} {ss:List Nat} {s:Nat} {ks:Term} (hn:NodeOk V n ss s ks) (h:n.op=15):ss≠[]:=by
 cases hn with
 | mul=>simp
 | bool ho=>simp only[bare] at h;omega
 | andor ho=>simp only[bare] at h;omega
 | cmp ho=>simp only[bare] at h;omega
 | div ho=>dsimp only at h;omega
 | _=>simp[bare] at h
inductive Trees (t:Term) (dep:Nat):Nat→List Nat→Nat→Prop
 | nil {i:Nat}:Trees t dep i [] i
 | cons {i m j s:Nat} {ss:List Nat} (h:Pure Gam 235 [.sl (t.map eNode) .no,nat i,nat dep] (.tup [nat m,nat s])) (hs:1≤s) (hm:m≤t.length) (hr:Trees t dep m ss j):Trees t dep i (s::ss) j
theorem z7s {t:Term}:(AV.sl (t.map eNode) .no).ids=[]:=by simp[AV.ids,z0c z1y]
theorem k2q {V:List Var} {t:Term} {i dep m s:Nat} {n:Node} {ss:List Nat} {ks:Term} (hV:∀ v∈V,v∈U) (htl:t.length≤20000) (hd:dep≤256) (hi:t[i]? =some n) (hn:NodeOk V n ss s ks) (hk:n.kids=ss.length) (hsl:ss.length < t.length) (hm:m≤t.length) (hT:Trees t (dep + 1) (i + 1) ss m)
  (hf:ss≠[]→∃ c,t[i + 1]? =some c∧(n.op=15→c.op=3)):Pure Gam 235 [.sl (t.map eNode) .no,nat i,nat dep] (.tup [nat m,nat s]):=by
 have hit:i < t.length:=(List.getElem?_eq_some_iff.1 hi).1
 refine Pure.of rfl y4w rfl rfl rfl (az:=[.sl (t.map eNode) .no,nat i,nat dep]) rfl (by simp[idsL,z7s,z3c]) fun D B clk T hB hR=> ?_
 have p1:=v8r hV hn
 have p2:=v8n hn hk
 simp only[eNode,nat] at p1 p2
 have e1:decide ((t.length:Int)≤(i:Int))=false:=by rw[decide_eq_false_iff_not];omega
 have e2:decide ((256:Int) < (dep:Int))=false:=by rw[decide_eq_false_iff_not];omega
 have e3:decide ((t.length:Int) < (n.kids:Int))=false:=by rw[decide_eq_false_iff_not];omega
 have e4:IntKind.i64.wrap ((i:Int) + 1)=((i + 1:Nat):Int):=z0d (by omega) (by omega)
 simp only[go_sem,w5g,nat,hB,List.length_map,e1,e2,e3,e4,z3a hi,z0a p1,z0a p2,Bool.not_true]
 refine z0y (fun r q=>∃ (done left:List Nat) (t8:Tip) (e g0:Nat) (o0 o1:AObj),ss=done++left∧r=left.length∧Trees t (dep + 1) e left m∧e≤t.length∧(∀ x∈done,1≤x)∧q.ts 0= .sl (t.map eNode) .no∧q.ts 1= .int .i64 (i:Int)∧q.ts 2= .int .i64 (dep:Int)∧q.ts 8= .sl (done.map nat) t8∧q.ts 9= .int .i64 (e:Int)∧q.ts 10= .bool true∧q.ts 11= .int .i64 (done.length:Int)∧q.h=D++[o0,o1]∧z8k B 1 o1 t8 1) ss.length ⟨[],ss, .nil,i + 1,0,_,_,rfl,rfl,hT,hit,by simp,rfl,rfl,rfl,rfl,rfl,rfl,rfl,rfl, .inl rfl⟩ ?_
 rintro r ⟨ts,h,clk⟩ P ⟨done,left,t8,e,g0,o0,o1,hss,rfl,hT,he',hdone,q0,q1,q2,q8,q9,q10,q11,rfl,htip⟩ hnx he hr
 dsimp only at q0 q1 q2 q8 q9 q10 q11
 cases hT with
 | nil=>
   obtain rfl:done=ss:=by simpa using hss.symm
   have f1:decide ((done.length:Int) < (n.kids:Int))=false:=by rw[decide_eq_false_iff_not];omega
   simp only[go_sem,j2s,q0,q1,q2,q8,q9,q10,q11,f1,z3a hi]
   refine he _ _ ?_
   have p3:∀ fi:Nat,(n.op=15→fi=3)→Pure Gam 298 [eNode n,nat fi, .sl (done.map nat) t8] (nat s):=fun fi h=>v8o hn (by omega) h
   cases hd0:done with
   | nil=>
     have p4:Pure Gam 298 [eNode n, .int .i64 0, .sl (done.map nat) t8] (nat s):=p3 0 fun h15=>absurd hd0 (hn.mul_ne h15)
     rw[hd0] at p4 q8
     simp only[eNode,nat,List.map_nil] at p4 q8
     simp only[go_sem,q0,q1,q2,q8,q9,q10,Bool.not_true,z3a hi,z0a p4,decide_false,Int.reduceLT]
     rw[z0h rfl rfl]
     exact hR _
   | cons x0 d0=>
     obtain⟨c,hc,hc3⟩:=hf (by rw[hd0];simp)
     have p4:=p3 c.op hc3
     have g1:decide ((0:Int) < (done.length:Int))=true:=by rw[decide_eq_true_iff,hd0];simp
     simp only[eNode,nat] at p4
     simp only[go_sem,q0,q1,q2,q8,q9,q10,Bool.not_true,List.length_map,g1,e4,z3a hi,z3a hc,z0a p4]
     rw[z0h rfl rfl]
     exact hR _
 | cons hp hs hm' hr'=>
   rename_i m' x left
   have f1:decide ((done.length:Int) < (n.kids:Int))=true:=by rw[decide_eq_true_iff,hk,hss];simp;omega
   have f2:IntKind.i64.wrap ((dep:Int) + 1)=((dep + 1:Nat):Int):=z0d (by omega) (by omega)
   have f3:decide ((m':Int) < 0)=false:=by rw[decide_eq_false_iff_not];omega
   have f4:decide ((0:Int) < (x:Int))=true:=by rw[decide_eq_true_iff];omega
   have f5:IntKind.i64.wrap ((done.length:Int) + 1)=((done.length + 1:Nat):Int):=z0d (by omega) (by rw[hss] at hsl;simp at hsl;omega)
   simp only[nat] at hp
   simp only[go_sem,j2s,q0,q1,q2,q8,q9,q10,q11,f1,f2,f3,f4,f5,z3a hi,z0a hp]
   have happ:done.map nat++[nat x]=(done++[x]).map nat:=by simp
   rw[show [AV.int .i64 (x:Int)]=[x].map nat from rfl,z0j hB rfl htip z3y z3y (by rw[hss] at hsl;simp at hsl⊢;omega)]
   simp only[go_sem,q0,q1,q2,q8,q9,q10,q11,f5,happ]
   refine hnx left.length _ (by simp) ⟨done++[x],left,_,m',0,_,_,by simp[hss],rfl,hr',hm',fun y hy=> ?_,q0,q1,q2,rfl,rfl,rfl,by rw[List.length_append];rfl,rfl, .inr (.inr ⟨_,rfl,rfl⟩)⟩
   rcases List.mem_append.1 hy with hy | hy
   ·exact hdone y hy
   ·rw[List.mem_singleton.1 hy];exact hs
theorem v8s {V:List Var} {t:Term} (hV:∀ v∈V,v∈U) (htl:t.length≤20000) {ss:List Nat} {d:Nat} {f:Term} (h:WF V ss d f):∀ {pre post:Term} {dep:Nat},t=pre++f++post→dep + d≤256→Trees t dep pre.length ss (pre.length + f.length):=by
 induction h with
 | nil=>intro pre post dep ht hd;exact .nil
 | @cons n ss ks s d ss' rest h1 h2 h3 h4 ih1 ih2=>
   intro pre post dep ht hd
   have hl:pre.length + (1 + ks.length + rest.length)≤t.length:=by rw[ht];simp;omega
   have i1:=ih1 (pre:=pre++[n]) (post:=rest++post) (dep:=dep + 1) (by rw[ht];simp) (by omega)
   have i2:=ih2 (pre:=pre++(n::ks)) (post:=post) (dep:=dep) (by rw[ht];simp) (by omega)
   simp only[List.length_append,List.length_cons,List.length_nil,Nat.zero_add] at i1 i2
   have hw:=h1.len
   have hit:t[pre.length]? =some n:=by rw[ht];simp
   refine .cons (m:=pre.length + (ks.length + 1)) (k2q (ks:=ks) hV htl (by omega) hit h2 h3 (by omega) (by omega) (by rw[show pre.length + (ks.length + 1)=pre.length + 1 + ks.length by omega];exact i1) fun hne=> ?_) (h2.pos hV).1 (by omega) ?_
   ·cases ks with
    | nil=>simp at hw;exact absurd hw hne
    | cons c r=>
      refine⟨c,by rw[ht];simp,fun h15=> ?_⟩
      obtain⟨m,r',he,hm⟩:=h2.mul_num h15
      injection he with he1 he2
      rw[he1]
      exact hm
   ·simp only[List.length_cons,List.length_append]
    rw[show pre.length + (ks.length + rest.length + 1)=pre.length + (ks.length + 1) + rest.length by omega]
    exact i2
theorem v8t {V:List Var} {t:Term} {s d:Nat} (hV:∀ v∈V,v∈U) (htl:t.length≤20000) (hd:d≤256) (h:WF V [s] d t):Pure Gam 235 [.sl (t.map eNode) .no, .int .i64 0, .int .i64 0] (.tup [nat t.length,nat s]):=by
 have:=v8s hV htl h (pre:=[]) (post:=[]) (dep:=0) (by simp) (by omega)
 cases this with
 | cons hp hs hm hr=>
   cases hr with
   | nil=>
     rw[List.length_nil,Nat.zero_add] at hp
     exact hp
end
section
variable {U:List Var} [UOk U]
theorem y8u:∀ v∈U,∀ w∈U,v.name=w.name→v=w:=UOk.inj
theorem y8v {B clk i:Nat} {H:List AObj} {t:Term} {n:Node} {acc:List Var} {t3:Tip} {ts:Tmps} {ks:List Kf} {Q:Post} (hi:t[i]? =some n) (hl:acc.length≤20000) (hs:∀ v∈acc,v.name=n.name→v.sort=n.sort)
  (h0:ts 0= .sl (t.map eNode) .no) (h3:ts 3= .sl (acc.map z1b) t3) (h4:ts 4= .sl [] .nil) (h5:ts 5= .int .i64 (i:Int)) (h6:ts 6= .bool false) (h7:ts 7= .int .i64 0)
  (hQ:∀ (ts':Tmps) (clk':Nat),ts' 0= .sl (t.map eNode) .no→ts' 3= .sl (acc.map z1b) t3→ts' 4= .sl [] .nil→ts' 5= .int .i64 (i:Int)→ts' 6= .bool (acc.any fun v=>decide (v.name=n.name))→K Gam B (.exit 3) ks ⟨ts',H,clk'⟩ Q):K Gam B (.loop q9f) ks ⟨ts,H,clk⟩ Q:=by
 refine z0y (fun m q=>∃ j:Nat,j≤acc.length∧m=acc.length - j∧q.ts 0= .sl (t.map eNode) .no∧q.ts 3= .sl (acc.map z1b) t3∧q.ts 4= .sl [] .nil∧q.ts 5= .int .i64 (i:Int)∧q.ts 6= .bool ((acc.take j).any fun v=>decide (v.name=n.name))∧q.ts 7= .int .i64 (j:Int)∧q.h=H) acc.length ⟨0,by omega,rfl,h0,h3,h4,h5,h6,h7,rfl⟩ ?_
 clear h0 h3 h4 h5 h6 h7
 rintro m ⟨ts,h,clk⟩ P ⟨j,hj,rfl,h0,h3,h4,h5,h6,h7,rfl⟩ hnx he hr
 dsimp only at h0 h3 h4 h5 h6 h7
 by_cases hlt:j < acc.length
 ·have e1:decide ((j:Int) < (acc.length:Int))=true:=by rw[decide_eq_true_iff];omega
  have e4:IntKind.i64.wrap ((j:Int) + 1)=((j + 1:Nat):Int):=z0d (by omega) (by omega)
  have ht:acc.take (j + 1)=acc.take j++[acc[j]]:=List.take_succ_eq_append_getElem hlt
  have hsj:=hs acc[j] (List.getElem_mem hlt)
  by_cases hnm:acc[j].name=n.name
  ·have e2:decide (acc[j].name=n.name)=true:=by simp[hnm]
   have e3:decide (((acc[j].sort:Nat):Int)=((n.sort:Nat):Int))=true:=by rw[decide_eq_true_iff,hsj hnm]
   simp only[go_sem,h0,h3,h4,h5,h6,h7,q9f,nat,List.length_map,e1,e2,e3,z8x hlt,z3a hi,e4,Bool.not_true]
   exact hnx (acc.length - (j + 1)) _ (by omega) ⟨j + 1,hlt,rfl,h0,h3,h4,h5,by rw[ht,List.any_append];simp[z0b,hnm],rfl,rfl⟩
  ·have e2:decide (acc[j].name=n.name)=false:=by simp[hnm]
   simp only[go_sem,h0,h3,h4,h5,h6,h7,q9f,nat,List.length_map,e1,e2,z8x hlt,z3a hi,e4]
   exact hnx (acc.length - (j + 1)) _ (by omega) ⟨j + 1,hlt,rfl,h0,h3,h4,h5,by rw[ht,List.any_append];simp[z0b,hnm,h6],rfl,rfl⟩
 ·have e1:decide ((j:Int) < (acc.length:Int))=false:=by rw[decide_eq_false_iff_not];omega
  rw[List.take_of_length_le (by omega)] at h6
  simp only[go_sem,h0,h3,h4,h5,h6,h7,q9f,List.length_map,e1]
  refine he _ _ ?_
  exact hQ _ _ (by simp[z0b,h0]) (by simp[z0b,h3]) (by simp[z0b,h4]) (by simp[z0b,h5]) (by simp[z0b,h6])
theorem v8u {V:List Var} {t:Term} (hV:∀ v∈V,v∈U) (htl:t.length≤20000) (hN:x0a V t):Pure Gam 146 [.sl (t.map eNode) .no] (.bool true):=by
 refine Pure.of rfl y4x rfl rfl rfl (az:=[.sl (t.map eNode) .no]) rfl (by simp[idsL,z7s]) fun D B clk T hB hT=> ?_
 simp only[go_sem,w5h,hB]
 refine z0y (fun m q=>∃ (i:Nat) (acc:List Var) (t3:Tip) (o0 o1 o2 o3 o4:AObj),i≤t.length∧m=t.length - i∧acc.length≤i∧(∀ v∈acc,v∈U)∧q.ts 0= .sl (t.map eNode) .no∧q.ts 3= .sl (acc.map z1b) t3∧q.ts 4= .sl [] .nil∧q.ts 5= .int .i64 (i:Int)∧q.h=D++[o0,o1,o2,o3,o4]∧z8k B 1 o1 t3 2) t.length ⟨0,[], .nil,_,_,_,_,_,by omega,rfl,by simp,by simp,rfl,rfl,rfl,rfl,rfl, .inl rfl⟩ ?_
 rintro m ⟨ts,h,clk⟩ P ⟨i,acc,t3,o0,o1,o2,o3,o4,hi,rfl,hal,hacc,h0,h3,h4,h5,rfl,htip⟩ hnx he hr
 dsimp only at h0 h3 h4 h5
 by_cases hlt:i < t.length
 ·have f1:decide ((i:Int) < (t.length:Int))=true:=by rw[decide_eq_true_iff];omega
  have f2:IntKind.i64.wrap ((i:Int) + 1)=((i + 1:Nat):Int):=z0d (by omega) (by omega)
  have hti:t[i]? =some t[i]:=List.getElem?_eq_getElem hlt
  have hno:=hN t[i] (List.getElem_mem hlt)
  generalize t[i]=n at hti hno
  have f5:decide ((n.op:Int)=5)=false:=by rw[decide_eq_false_iff_not];have:=hno.1;omega
  by_cases h44:n.op=4
  ·obtain⟨v,hv,hvn,hvs⟩:=hno.2 h44
   have f4:decide ((n.op:Int)=4)=true:=by rw[decide_eq_true_iff];omega
   simp only[go_sem,x7i,h0,h3,h4,h5,List.length_map,f1,f4,z3a hti]
   refine y8v hti (by omega) (fun w hw hwn=> ?_) h0 h3 h4 h5 rfl rfl ?_
   ·rw[y8u w (hacc w hw) v (hV v hv) (by rw[hwn,hvn]),hvs]
   clear h0 h3 h4 h5
   intro ts clk h0 h3 h4 h5 h6
   cases hk:acc.any fun v=>decide (v.name=n.name) with
   | true=>
     rw[hk] at h6
     simp only[go_sem,h0,h3,h4,h5,h6,Bool.not_true,f2]
     exact hnx (t.length - (i + 1)) _ (by omega) ⟨i + 1,acc,_,_,_,_,_,_,hlt,rfl,by omega,hacc,h0,h3,h4,rfl,rfl,htip⟩
   | false=>
     rw[hk] at h6
     have e1:(AV.agg [.str n.name, .int .i64 (n.sort:Int)])=z1b v:=by rw[hvn,hvs];rfl
     simp only[go_sem,h0,h3,h4,h5,h6,Bool.not_false,f2,z3a hti]
     rw[e1,show [z1b v]=[v].map z1b from rfl,z0j hB rfl htip z2e z2e (by simp only[List.length_map,List.length_singleton];omega)]
     have happ:acc.map z1b++[z1b v]=(acc++[v]).map z1b:=by simp
     simp only[go_sem,h0,h3,h4,h5,h6,f2,happ]
     exact hnx (t.length - (i + 1)) _ (by omega) ⟨i + 1,acc++[v],_,_,_,_,_,_,hlt,rfl,by simp;omega,fun w hw=>by
      rcases List.mem_append.1 hw with hw | hw
      ·exact hacc w hw
      ·rw[List.mem_singleton.1 hw];exact hV v hv,h0,rfl,h4,rfl,rfl, .inr (.inr ⟨_,rfl,rfl⟩)⟩
  ·have f4:decide ((n.op:Int)=4)=false:=by rw[decide_eq_false_iff_not];omega
   simp only[go_sem,x7i,h0,h3,h4,h5,List.length_map,f1,f2,f4,f5,z3a hti]
   exact hnx (t.length - (i + 1)) _ (by omega) ⟨i + 1,acc,_,_,_,_,_,_,hlt,rfl,by omega,hacc,h0,h3,h4,rfl,rfl,htip⟩
 ·have f1:decide ((i:Int) < (t.length:Int))=false:=by rw[decide_eq_false_iff_not];omega
  simp only[go_sem,x7i,h0,h3,h4,h5,List.length_map,f1]
  refine he _ _ ?_
  simp only[go_sem,h0,h3,h4,h5]
  clear h5 hnx he hr
  refine z0y (fun m q=>∃ j:Nat,j≤acc.length∧m=acc.length - j∧q.ts 3= .sl (acc.map z1b) t3∧q.ts 4= .sl [] .nil∧q.ts 11= .int .i64 (j:Int)∧q.h=D++[o0,o1,o2,o3,o4]) acc.length ⟨0,by omega,rfl,h3,h4,rfl,rfl⟩ ?_
  clear h0 h3 h4
  rintro m ⟨ts,h,clk⟩ P ⟨j,hj,rfl,h3,h4,h11,rfl⟩ hnx he hr
  dsimp only at h3 h4 h11
  by_cases hlt:j < acc.length
  ·have f1:decide ((j:Int) < (acc.length:Int))=true:=by rw[decide_eq_true_iff];omega
   have f2:IntKind.i64.wrap ((j:Int) + 1)=((j + 1:Nat):Int):=z0d (by omega) (by omega)
   simp only[go_sem,q9e,h3,h4,h11,List.length_map,f1]
   refine z3f ?_
   simp only[go_sem,q9d,h3,h4,h11,decide_false,Int.lt_irrefl,f2]
   exact hnx (acc.length - (j + 1)) _ (by omega) ⟨j + 1,hlt,rfl,h3,h4,rfl,rfl⟩
  ·have f1:decide ((j:Int) < (acc.length:Int))=false:=by rw[decide_eq_false_iff_not];omega
   simp only[go_sem,q9e,h3,h4,h11,List.length_map,f1]
   refine he _ _ ?_
   simp only[go_sem,]
   rw[z0e]
   exact hT _
end
section
variable {U:List Var} [UOk U]
theorem v8v {V:List Var} {t:Term} {s d:Nat} (hV:∀ v∈V,v∈U) (htl:t.length≤20000) (hd:d≤256) (h:WF V [s] d t) (hs:1≤s):Pure Gam 165 [z0l t] (nat s):=by
 have p1:=v8t hV htl hd h
 have p2:=v8u hV htl h.names
 refine Pure.of rfl y4v rfl rfl rfl (az:=[.sl (t.map eNode) .no]) rfl (by simp[idsL,z7s]) fun D B clk T hB hT=> ?_
 have e1:decide ((20000:Int) < (t.length:Int))=false:=by rw[decide_eq_false_iff_not];omega
 have e2:decide ((s:Int)=0)=false:=by rw[decide_eq_false_iff_not];omega
 simp only[nat] at p1
 simp only[go_sem,w5f,hB,List.length_map,e1,e2,z0a p1,z0a p2,decide_true,Bool.not_true]
 rw[z0h rfl rfl]
 exact hT _
theorem v8w {B clk i s0:Nat} {H:List AObj} {t:Term} {n:Node} {V:List Var} {ts:Tmps} {ks:List Kf} {Q:Post} (hi:t[i]? =some n) (hl:V.length≤20000)
  (h0:ts 0= .sl (t.map eNode) .no) (h1:ts 1= .int .i64 (s0:Int)) (h2:ts 2= .sl (V.map z1b) .no) (h7:ts 7= .int .i64 (i:Int)) (h8:ts 8= .bool false) (h9:ts 9= .int .i64 0)
  (hQ:∀ (ts':Tmps) (clk':Nat),ts' 0= .sl (t.map eNode) .no→ts' 1= .int .i64 (s0:Int)→ts' 2= .sl (V.map z1b) .no→ts' 7= .int .i64 (i:Int)→ts' 8= .bool (V.any fun v=>decide (v.name=n.name) && decide (v.sort=n.sort))→K Gam B (.exit 2) ks ⟨ts',H,clk'⟩ Q):K Gam B (.loop q6z) ks ⟨ts,H,clk⟩ Q:=by
 refine z0y (fun m q=>∃ j:Nat,j≤V.length∧m=V.length - j∧q.ts 0= .sl (t.map eNode) .no∧q.ts 1= .int .i64 (s0:Int)∧q.ts 2= .sl (V.map z1b) .no∧q.ts 7= .int .i64 (i:Int)∧q.ts 8= .bool ((V.take j).any fun v=>decide (v.name=n.name) && decide (v.sort=n.sort))∧q.ts 9= .int .i64 (j:Int)∧q.h=H) V.length ⟨0,by omega,rfl,h0,h1,h2,h7,h8,h9,rfl⟩ ?_
 clear h0 h1 h2 h7 h8 h9
 rintro m ⟨ts,h,clk⟩ P ⟨j,hj,rfl,h0,h1,h2,h7,h8,h9,rfl⟩ hnx he hr
 dsimp only at h0 h1 h2 h7 h8 h9
 by_cases hlt:j < V.length
 ·have e1:decide ((j:Int) < (V.length:Int))=true:=by rw[decide_eq_true_iff];omega
  have e4:IntKind.i64.wrap ((j:Int) + 1)=((j + 1:Nat):Int):=z0d (by omega) (by omega)
  have ht:V.take (j + 1)=V.take j++[V[j]]:=List.take_succ_eq_append_getElem hlt
  have ha:∀ b,((V.take j).any fun v=>decide (v.name=n.name) && decide (v.sort=n.sort))=b→(b || (decide (V[j].name=n.name) && decide (V[j].sort=n.sort)))=((V.take (j + 1)).any fun v=>decide (v.name=n.name) && decide (v.sort=n.sort)):=fun b hb=>by
   rw[ht,List.any_append,hb]
   simp
  cases hb:(V.take j).any fun v=>decide (v.name=n.name) && decide (v.sort=n.sort) with
  | true=>
    have ha:=ha _ hb
    rw[hb] at h8
    simp only[go_sem,h0,h1,h2,h7,h8,h9,q6z,nat,List.length_map,e1,e4]
    exact hnx (V.length - (j + 1)) _ (by omega) ⟨j + 1,hlt,rfl,h0,h1,h2,h7,by rw[←ha];rfl,rfl,rfl⟩
  | false=>
    have ha:=ha _ hb
    rw[hb] at h8
    by_cases hnm:V[j].name=n.name
    ·have e2:decide (V[j].name=n.name)=true:=by simp[hnm]
     have e3:decide ((V[j].sort:Int)=(n.sort:Int))=decide (V[j].sort=n.sort):=by rw[decide_eq_decide];omega
     simp only[go_sem,h0,h1,h2,h7,h8,h9,q6z,nat,List.length_map,e1,e2,e3,z8x hlt,z3a hi,e4]
     exact hnx (V.length - (j + 1)) _ (by omega) ⟨j + 1,hlt,rfl,h0,h1,h2,h7,by rw[←ha,e2];simp[z0b],rfl,rfl⟩
    ·have e2:decide (V[j].name=n.name)=false:=by simp[hnm]
     simp only[go_sem,h0,h1,h2,h7,h8,h9,q6z,nat,List.length_map,e1,e2,z8x hlt,z3a hi,e4]
     exact hnx (V.length - (j + 1)) _ (by omega) ⟨j + 1,hlt,rfl,h0,h1,h2,h7,by rw[←ha,e2];simp[z0b],rfl,rfl⟩
 ·have e1:decide ((j:Int) < (V.length:Int))=false:=by rw[decide_eq_false_iff_not];omega
  rw[List.take_of_length_le (by omega)] at h8
  simp only[go_sem,h0,h1,h2,h7,h8,h9,q6z,List.length_map,e1]
  refine he _ _ ?_
  exact hQ _ _ (by simp[z0b,h0]) (by simp[z0b,h1]) (by simp[z0b,h2]) (by simp[z0b,h7]) (by simp[z0b,h8])
theorem j0y {V:List Var} {t:Term} {s d:Nat} (hV:∀ v∈V,v∈U) (hVl:V.length≤1000) (htl:t.length≤20000) (hd:d≤256) (h:WF V [s] d t) (hs:1≤s):Pure Gam 170 [z0l t,nat s, .sl (V.map z1b) .no] (.bool true):=by
 have p1:=v8v hV htl hd h hs
 have hN:=h.names
 refine Pure.of rfl y4u rfl rfl rfl (az:=[.sl (t.map eNode) .no,nat s, .sl (V.map z1b) .no]) rfl (by simp[idsL,z7s,z3c,z5s]) fun D B clk T hB hT=> ?_
 have e1:decide ((s:Int)=0)=false:=by rw[decide_eq_false_iff_not];omega
 simp only[nat,z0l] at p1
 simp only[go_sem,w5e,hB,nat,e1,z0a p1,decide_true,Bool.not_true]
 refine z0y (fun m q=>∃ i:Nat,i≤t.length∧m=t.length - i∧q.ts 0= .sl (t.map eNode) .no∧q.ts 1= .int .i64 (s:Int)∧q.ts 2= .sl (V.map z1b) .no∧q.ts 7= .int .i64 (i:Int)∧q.h=D) t.length ⟨0,by omega,rfl,rfl,rfl,rfl,rfl,by simp⟩ ?_
 rintro m ⟨ts,h',clk⟩ P ⟨i,hi,rfl,h0,h1,h2,h7,rfl⟩ hnx he hr
 dsimp only at h0 h1 h2 h7
 by_cases hlt:i < t.length
 ·have f1:decide ((i:Int) < (t.length:Int))=true:=by rw[decide_eq_true_iff];omega
  have f2:IntKind.i64.wrap ((i:Int) + 1)=((i + 1:Nat):Int):=z0d (by omega) (by omega)
  have hti:t[i]? =some t[i]:=List.getElem?_eq_getElem hlt
  have hno:=hN t[i] (List.getElem_mem hlt)
  generalize t[i]=n at hti hno
  have f5:decide ((n.op:Int)=5)=false:=by rw[decide_eq_false_iff_not];have:=hno.1;omega
  by_cases h44:n.op=4
  ·obtain⟨v,hv,hvn,hvs⟩:=hno.2 h44
   have f4:decide ((n.op:Int)=4)=true:=by rw[decide_eq_true_iff];omega
   simp only[go_sem,x7h,h0,h1,h2,h7,List.length_map,f1,f4,f5,z3a hti,Bool.not_true]
   refine v8w hti (by omega) h0 h1 h2 h7 rfl rfl ?_
   clear h0 h1 h2 h7
   intro ts clk h0 h1 h2 h7 h8
   have hk:(V.any fun v=>decide (v.name=n.name) && decide (v.sort=n.sort))=true:=List.any_eq_true.2 ⟨v,hv,by simp[hvn,hvs]⟩
   rw[hk] at h8
   simp only[go_sem,h0,h1,h2,h7,h8,Bool.not_true,f2]
   exact hnx (t.length - (i + 1)) _ (by omega) ⟨i + 1,hlt,rfl,h0,h1,h2,rfl,rfl⟩
  ·have f4:decide ((n.op:Int)=4)=false:=by rw[decide_eq_false_iff_not];omega
   simp only[go_sem,x7h,h0,h1,h2,h7,List.length_map,f1,f2,f4,f5,z3a hti,Bool.not_false]
   exact hnx (t.length - (i + 1)) _ (by omega) ⟨i + 1,hlt,rfl,h0,h1,h2,rfl,rfl⟩
 ·have f1:decide ((i:Int) < (t.length:Int))=false:=by rw[decide_eq_false_iff_not];omega
  simp only[go_sem,x7h,h0,h1,h2,h7,List.length_map,f1]
  refine he _ _ ?_
  simp only[go_sem,]
  rw[z0e]
  exact hT _
end
def z4s (ps:List Func) (nm:List Nat):Int:=match ps.findIdx? (fun p=>decide (p.name=nm)) with
 | some i=>(i:Int)
 | none=> -1
theorem q3z {ps:List Func} {nm:List Nat} {i:Nat} (hi:i < ps.length) (h:ps[i].name=nm) (hn:∀ p∈ps.take i,p.name≠nm):z4s ps nm=(i:Int):=by
 have:ps.findIdx? (fun p=>decide (p.name=nm))=some i:=by
  rw[List.findIdx?_eq_some_iff_getElem]
  refine⟨hi,by simp[h],fun j hj=> ?_⟩
  have:=hn ps[j] (List.mem_take_iff_getElem.2 ⟨j,by omega,rfl⟩)
  simp[this]
 rw[z4s,this]
theorem z7i {ps:List Func} {nm:List Nat} (hn:∀ p∈ps,p.name≠nm):z4s ps nm= -1:=by
 have:ps.findIdx? (fun p=>decide (p.name=nm))=none:=by
  rw[List.findIdx?_eq_none_iff]
  intro p hp
  simp[hn p hp]
 rw[z4s,this]
theorem q3e {s:Sys} {nm:List Nat} (hl:s.preds.length≤1000):Pure Gam 71 [z0x s, .str nm] (.int .i64 (z4s s.preds nm)):=by
 refine Pure.of rfl u4t rfl rfl rfl (az:=[z0x s, .str nm]) rfl (by simp[idsL,z2c,AV.ids]) fun D B clk T hB hT=> ?_
 simp only[go_sem,u0o,hB,z0x]
 refine z0y (fun m q=>∃ (i g:Nat),i≤s.preds.length∧m=s.preds.length - i∧(∀ p∈s.preds.take i,p.name≠nm)∧q.ts 1= .str nm∧q.ts 2= .ptr (B + 0) g 0 0∧q.ts 5= .int .i64 (i:Int)∧q.h=D++[.blk g [.agg [.sl (s.preds.map z0q) .no, .sl (s.clauses.map z0f) .no]] false false 0]) s.preds.length ⟨0,_,by omega,rfl,by simp,rfl,rfl,rfl,rfl⟩ ?_
 rintro m ⟨ts,h',clk⟩ P ⟨i,g,hi,rfl,hno,h1,h2,h5,rfl⟩ hnx he hr
 dsimp only at h1 h2 h5
 by_cases hlt:i < s.preds.length
 ·have f1:decide ((i:Int) < (s.preds.length:Int))=true:=by rw[decide_eq_true_iff];omega
  have f2:IntKind.i64.wrap ((i:Int) + 1)=((i + 1:Nat):Int):=z0d (by omega) (by omega)
  have ht:s.preds.take (i + 1)=s.preds.take i++[s.preds[i]]:=List.take_succ_eq_append_getElem hlt
  by_cases hnm:s.preds[i].name=nm
  ·have e2:decide (s.preds[i].name=nm)=true:=by simp[hnm]
   simp only[go_sem,j9y,h1,h2,h5,hB,List.length_map,f1,e2,z8e hlt]
   refine hr _ ?_
   rw[q3z hlt hnm hno] at hT
   simp only[go_sem,]
   rw[z0h rfl rfl]
   exact hT _
  ·have e2:decide (s.preds[i].name=nm)=false:=by simp[hnm]
   simp only[go_sem,j9y,h1,h2,h5,hB,List.length_map,f1,f2,e2,z8e hlt]
   refine hnx (s.preds.length - (i + 1)) _ (by omega) ⟨i + 1,g,hlt,rfl,fun p hp=> ?_,h1,h2,rfl,rfl⟩
   rw[ht] at hp
   rcases List.mem_append.1 hp with hp | hp
   ·exact hno p hp
   ·rw[List.mem_singleton.1 hp];exact hnm
 ·have f1:decide ((i:Int) < (s.preds.length:Int))=false:=by rw[decide_eq_false_iff_not];omega
  rw[List.take_of_length_le (by omega)] at hno
  simp only[go_sem,j9y,h1,h2,h5,hB,List.length_map,f1]
  refine he _ _ ?_
  rw[z7i hno] at hT
  simp only[go_sem,]
  rw[z0h rfl rfl]
  exact hT _
theorem k2r {V:List Var} {nm:List Nat} {u:Tip} (hl:V.length≤1000) (hno:∀ v∈V,v.name≠nm):Pure Gam 192 [.sl (V.map z1b) u, .str nm] (.bool false):=by
 refine Pure.of rfl y5f rfl rfl rfl (az:=[.sl (V.map z1b) .no, .str nm]) rfl (by simp[idsL,z5s,AV.ids,z0c z2b]) fun D B clk T hB hT=> ?_
 simp only[go_sem,w5l,hB]
 refine z0y (fun m q=>∃ (i:Nat),i≤V.length∧m=V.length - i∧q.ts 0= .sl (V.map z1b) .no∧q.ts 1= .str nm∧q.ts 5= .int .i64 (i:Int)∧q.h=D) V.length ⟨0,by omega,rfl,rfl,rfl,rfl,by simp⟩ ?_
 rintro m ⟨ts,h',clk⟩ P ⟨i,hi,rfl,h0,h1,h5,rfl⟩ hnx he hr
 dsimp only at h0 h1 h5
 by_cases hlt:i < V.length
 ·have f1:decide ((i:Int) < (V.length:Int))=true:=by rw[decide_eq_true_iff];omega
  have f2:IntKind.i64.wrap ((i:Int) + 1)=((i + 1:Nat):Int):=z0d (by omega) (by omega)
  have e2:decide (V[i].name=nm)=false:=by simp[hno _ (List.getElem_mem hlt)]
  simp only[go_sem,j2v,h0,h1,h5,hB,List.length_map,f1,f2,e2,z8x hlt]
  exact hnx (V.length - (i + 1)) _ (by omega) ⟨i + 1,hlt,rfl,h0,h1,rfl,rfl⟩
 ·have f1:decide ((i:Int) < (V.length:Int))=false:=by rw[decide_eq_false_iff_not];omega
  simp only[go_sem,j2v,h0,h1,h5,hB,List.length_map,f1]
  refine he _ _ ?_
  simp only[go_sem,]
  rw[z0e]
  exact hT _
theorem z7j {ps:List Func} {f:Func} (hp:PrOk ps) (hf:f∈ps):∃ k,∃ h:k < ps.length,ps[k]=f∧z4s ps f.name=(k:Int):=by
 obtain⟨k,hk,rfl⟩:=List.mem_iff_getElem.1 hf
 refine⟨k,hk,rfl,q3z hk rfl fun p hpm e=> ?_⟩
 have h3:=hp.nodup
 have h4:((ps.take (k + 1)).map (·.name)).Nodup:=h3.sublist ((List.take_sublist _ _).map _)
 rw[List.take_succ_eq_append_getElem hk,List.map_append,List.nodup_append] at h4
 exact h4.2.2 _ (List.mem_map.2 ⟨p,hpm,rfl⟩) _ (by simp) e
theorem v8x {s:Sys} {c:Clause} {a:App} (hs:SysV s) (hV:∀ v∈c.vars,v∈z2h) (hVl:c.vars.length≤1000) (ha:AppOk s.preds c.vars a):Pure Gam 169 [z0x s,z0f c,z3x a] (.bool true):=by
 obtain⟨f,hf,hpn,hal,hz⟩:=ha
 obtain⟨k,hk,hkf,hpa⟩:=z7j hs.pr hf
 have hfl:=(hs.pr.args f hf).1
 have hpl:s.preds.length≤1000:=by have:=hs.preds.length_le;simp[allPreds] at this;omega
 have p1:=q3e (s:=s) (nm:=a.pred) hpl
 rw[hpn,hpa] at p1
 simp only[z0x] at p1
 refine Pure.of rfl y4s rfl rfl rfl (az:=[z0x s,z0f c,z3x a]) rfl (by simp[idsL,z2c,z1z,z4w]) fun D B clk T hB hT=> ?_
 have e1:decide ((k:Int) < 0)=false:=by rw[decide_eq_false_iff_not];omega
 simp only[go_sem,w5d,hB,z0x,z0f,z3x,hpn,List.length_map,z0a p1,e1,hal,z8e hk,hkf,decide_true,Bool.not_true]
 refine z0y (fun m q=>∃ (i g0 g1 g2:Nat),i≤f.args.length∧m=f.args.length - i∧q.ts 3= .ptr (B + 0) g0 0 0∧q.ts 4= .ptr (B + 1) g1 0 0∧q.ts 5= .ptr (B + 2) g2 0 0∧q.ts 7= .int .i64 (k:Int)∧q.ts 8= .int .i64 (i:Int)∧q.h=D++[.blk g0 [.agg [.sl (s.preds.map z0q) .no, .sl (s.clauses.map z0f) .no]] false false 0, .blk g1 [.agg [.sl (c.vars.map z1b) .no, .sl (c.body.map z3x) .no,z0l c.guard, .str c.head.pred, .sl (c.head.args.map z0l) .no]] false false 0, .blk g2 [.agg [.str f.name, .sl (a.args.map z0l) .no]] false false 0]) f.args.length ⟨0,_,_,_,by omega,rfl,rfl,rfl,rfl,rfl,rfl,rfl⟩ ?_
 rintro m ⟨ts,h',clk⟩ P ⟨i,g0,g1,g2,hi,rfl,h3,h4,h5,h7,h8,rfl⟩ hnx he hr
 dsimp only at h3 h4 h5 h7 h8
 by_cases hlt:i < f.args.length
 ·have f1:decide ((i:Int) < (f.args.length:Int))=true:=by rw[decide_eq_true_iff];omega
  have f2:IntKind.i64.wrap ((i:Int) + 1)=((i + 1:Nat):Int):=z0d (by omega) (by omega)
  have hlt2:i < a.args.length:=by omega
  have hg:=hz (f.args[i],a.args[i]) (by
   rw[List.mem_iff_getElem]
   exact⟨i,by simp;omega,by simp⟩)
  have p2:=j0y hV hVl (by have:=hg.2.1;omega) (by decide) hg.1 hg.2.2.1
  simp only[nat] at p2
  simp only[go_sem,j2r,h3,h4,h5,h7,h8,hB,List.length_map,hal,f1,f2,q4u hlt2,z8e hk,hkf,q9k hlt,nat,z0a p2,Bool.not_true]
  exact hnx (f.args.length - (i + 1)) _ (by omega) ⟨i + 1,g0,g1,g2,hlt,rfl,h3,h4,h5,h7,rfl,rfl⟩
 ·have f1:decide ((i:Int) < (f.args.length:Int))=false:=by rw[decide_eq_false_iff_not];omega
  simp only[go_sem,j2r,h3,h4,h5,h7,h8,hB,List.length_map,hal,f1]
  refine he _ _ ?_
  simp only[go_sem,]
  rw[z0e]
  exact hT _
theorem x0k {V:List Var} (h:List.Sublist V z2h):V.length≤8:=by have:=h.length_le;simpa [z2h] using this
theorem v8y {s:Sys} {V:List Var} (hs:SysV s) (hV:List.Sublist V z2h):Pure Gam 168 [z0x s, .sl (V.map z1b) .no] (.bool true):=by
 have hVl:=x0k hV
 have hnd:(V.map (·.name)).Nodup:=(hV.map _).nodup (by decide)
 have hpl:s.preds.length≤1000:=by have:=hs.preds.length_le;simp[allPreds] at this;omega
 refine Pure.of rfl y4r rfl rfl rfl (az:=[z0x s, .sl (V.map z1b) .no]) rfl (by simp[idsL,z2c,z5s]) fun D B clk T hB hT=> ?_
 simp only[go_sem,w5c,hB,z0x]
 refine z0y (fun m q=>∃ (i g0:Nat),i≤V.length∧m=V.length - i∧q.ts 1= .sl (V.map z1b) .no∧q.ts 2= .ptr (B + 0) g0 0 0∧q.ts 5= .int .i64 (i:Int)∧q.h=D++[.blk g0 [.agg [.sl (s.preds.map z0q) .no, .sl (s.clauses.map z0f) .no]] false false 0]) V.length ⟨0,_,by omega,rfl,rfl,rfl,rfl,rfl⟩ ?_
 rintro m ⟨ts,h',clk⟩ P ⟨i,g0,hi,rfl,h1,h2,h5,rfl⟩ hnx he hr
 dsimp only at h1 h2 h5
 by_cases hlt:i < V.length
 ·have f1:decide ((i:Int) < (V.length:Int))=true:=by rw[decide_eq_true_iff];omega
  have f2:IntKind.i64.wrap ((i:Int) + 1)=((i + 1:Nat):Int):=z0d (by omega) (by omega)
  have hv:V[i]∈z2h:=hV.mem (List.getElem_mem hlt)
  have hnew:∀ v∈V.take i,v.name≠V[i].name:=fun v hv e=>by
   have h4:((V.take (i + 1)).map (·.name)).Nodup:=hnd.sublist ((List.take_sublist _ _).map _)
   rw[List.take_succ_eq_append_getElem hlt,List.map_append,List.nodup_append] at h4
   exact h4.2.2 _ (List.mem_map.2 ⟨v,hv,rfl⟩) _ (by simp) e
  have hso:=q5d hv
  have p1:=k2p hv
  have p2:=j0x hso.1 hso.2
  have p3:=k2r (u:= .no) (V:=V.take i) (nm:=V[i].name) (by simp;omega) hnew
  have p4:=q3e (s:=s) (nm:=V[i].name) hpl
  rw[z7i fun p hp=>hs.apart p hp _ hv] at p4
  simp only[nat,z0x] at p2 p4
  have e3:∀ h,slV h (some 2) (.sl (V.map z1b) .no) none (some (.int .i64 (i:Int))) none=some (.sl ((V.take i).map z1b) .no,h):=fun h=>by
   have hh:z4l 2 (V.map z1b)=true:=by cases V <;> rfl
   rw[q4x (by simp;omega) hh,List.map_take];simp
  simp only[go_sem,j2q,h1,h2,h5,hB,List.length_map,f1,f2,z8x hlt,nat,z0a p1,z0a p2,e3,z0a p3,z0a p4,Bool.not_true,Bool.not_false,Int.reduceLE,decide_false]
  exact hnx (V.length - (i + 1)) _ (by omega) ⟨i + 1,g0,hlt,rfl,h1,h2,rfl,rfl⟩
 ·have f1:decide ((i:Int) < (V.length:Int))=false:=by rw[decide_eq_false_iff_not];omega
  simp only[go_sem,j2q,h1,h2,h5,hB,List.length_map,f1]
  refine he _ _ ?_
  simp only[go_sem,]
  rw[z0e]
  exact hT _
def q5j (h:List AObj) (n esz:Nat) (x ix:AV):Option (AV×List AObj):=match ix with
 | .int _ i=>if 0≤i then match x with
   | .ptr s g k o=>if i.toNat < n then some (.ptr s g k (o + i.toNat * esz),h) else none
   | .iptr cs o=>if i.toNat < n then some (.iptr cs (o + i.toNat * esz),h) else none
   | _=>none
   else none
 | _=>none
theorem v8z {h:List AObj} {base g n esz:Nat} {ts:Tmps} {x ix:AOpd}:prim h base g ts (.indexAddr (some n) esz x ix)=q5j h n esz (x.ev ts) (ix.ev ts):=by
 simp only[prim,q5j]
 cases ix.ev ts <;> try rfl
 cases x.ev ts <;> rfl
theorem v9a {B n esz g clk:Nat} {ts:Tmps} {h:List AObj} {x ix:AOpd} {dst:Option Nat} {os:List AOper} {ks:List Kf} {Q:Post}:O Gam B .plain g (⟨dst,(.indexAddr (some n) esz x ix),none⟩::os) ⟨ts,h,clk⟩ ks Q=PP Gam B (q5j h n esz (x.ev ts) (ix.ev ts)) dst g os ts clk ks Q:=by rw[q3c rfl,v8z]
attribute [go_sem] v9a
theorem v9b {f:Func} (hf:f∈allPreds):Pure Gam 243 [z0q f] (.bool true):=by
 refine Pure.tab (tab:=j7k) rfl rfl ?_
 simp only[allPreds,List.mem_cons,List.not_mem_nil,or_false] at hf
 rcases hf with rfl | rfl | rfl | rfl | rfl | rfl <;> rfl
theorem SysV.pl {s:Sys} (hs:SysV s):s.preds.length≤6:=by have:=hs.preds.length_le;simpa [allPreds] using this
theorem v9c {s:Sys} (hs:SysV s):Pure Gam 167 [z0x s] (.bool true):=by
 have hpl:=hs.pl
 refine Pure.of rfl y4q rfl rfl rfl (az:=[z0x s]) rfl (by simp[idsL,z2c]) fun D B clk T hB hT=> ?_
 simp only[go_sem,w5b,hB,z0x]
 refine z0y (fun m q=>∃ (i g0:Nat),i≤s.preds.length∧m=s.preds.length - i∧q.ts 1= .ptr (B + 0) g0 0 0∧q.ts 3= .int .i64 (i:Int)∧q.h=D++[.blk g0 [.agg [.sl (s.preds.map z0q) .no, .sl (s.clauses.map z0f) .no]] false false 0]) s.preds.length ⟨0,_,by omega,rfl,rfl,rfl,rfl⟩ ?_
 rintro m ⟨ts,h',clk⟩ P ⟨i,g0,hi,rfl,h1,h3,rfl⟩ hnx he hr
 dsimp only at h1 h3
 by_cases hlt:i < s.preds.length
 ·have f1:decide ((i:Int) < (s.preds.length:Int))=true:=by rw[decide_eq_true_iff];omega
  have f2:IntKind.i64.wrap ((i:Int) + 1)=((i + 1:Nat):Int):=z0d (by omega) (by omega)
  have hm:=List.getElem_mem hlt
  have p1:=v9b (hs.preds.mem hm)
  have hres:∀ f∈allPreds,f.result=1:=by decide
  have e1:=hres _ (hs.preds.mem hm)
  have p2:=q3e (s:=s) (nm:=s.preds[i].name) (by omega)
  rw[q3z hlt rfl fun p hpm e=>by
   have h3:=hs.pr.nodup
   have h4:((s.preds.take (i + 1)).map (·.name)).Nodup:=h3.sublist ((List.take_sublist _ _).map _)
   rw[List.take_succ_eq_append_getElem hlt,List.map_append,List.nodup_append] at h4
   exact h4.2.2 _ (List.mem_map.2 ⟨p,hpm,rfl⟩) _ (by simp) e] at p2
  simp only[z0q,z0x,nat] at p1 p2
  rw[e1] at p1
  simp only[Int.cast_ofNat_Int] at p1
  simp only[go_sem,j2p,h1,h3,hB,List.length_map,f1,f2,z8e hlt,e1,nat,z0a p1,z0a p2,Int.cast_ofNat_Int,decide_true,Bool.not_true]
  exact hnx (s.preds.length - (i + 1)) _ (by omega) ⟨i + 1,g0,hlt,rfl,h1,rfl,rfl⟩
 ·have f1:decide ((i:Int) < (s.preds.length:Int))=false:=by rw[decide_eq_false_iff_not];omega
  simp only[go_sem,j2p,h1,h3,hB,List.length_map,f1]
  refine he _ _ ?_
  simp only[go_sem,]
  rw[z0e]
  exact hT _
theorem y0c {s:Sys} (hs:SysV s):Pure Gam 105 [z0x s] (.sl [] .no):=by
 have hpl:=hs.pl
 have hcl:=hs.len
 have p0:=v9c hs
 simp only[z0x] at p0
 refine Pure.of rfl u4s rfl rfl rfl (az:=[z0x s]) rfl (by simp[idsL,z2c]) fun D B clk T hB hT=> ?_
 have ea1:∀ (h:List AObj) (g:Nat),q5j h 7 1 (.ptr (B + 6) g 0 0) (.int .i64 1)=some (.ptr (B + 6) g 0 1,h):=fun _ _=>rfl
 have ea2:∀ (h:List AObj) (g:Nat),q5j h 7 1 (.ptr (B + 6) g 0 0) (.int .i64 2)=some (.ptr (B + 6) g 0 2,h):=fun _ _=>rfl
 have ea3:∀ (h:List AObj) (g:Nat),q5j h 7 1 (.ptr (B + 6) g 0 0) (.int .i64 3)=some (.ptr (B + 6) g 0 3,h):=fun _ _=>rfl
 have ea4:∀ (h:List AObj) (g:Nat),q5j h 7 1 (.ptr (B + 6) g 0 0) (.int .i64 4)=some (.ptr (B + 6) g 0 4,h):=fun _ _=>rfl
 have ea5:∀ (h:List AObj) (g:Nat),q5j h 7 1 (.ptr (B + 6) g 0 0) (.int .i64 5)=some (.ptr (B + 6) g 0 5,h):=fun _ _=>rfl
 have ea6:∀ (h:List AObj) (g:Nat),q5j h 7 1 (.ptr (B + 6) g 0 0) (.int .i64 6)=some (.ptr (B + 6) g 0 6,h):=fun _ _=>rfl
 have f0:decide ((512:Int) < (s.preds.length:Int))=false:=by rw[decide_eq_false_iff_not];omega
 have f00:decide ((2048:Int) < (s.clauses.length:Int))=false:=by rw[decide_eq_false_iff_not];omega
 simp only[go_sem,u0h,hB,z0x,z0a p0,Bool.not_true,List.length_map,f0,f00]
 refine z0y (fun m q=>∃ (i g0:Nat) (o1 o2 o3 o4 o5 o6 o7 o8:AObj),i≤s.clauses.length∧m=s.clauses.length - i∧q.ts 1= .ptr (B + 0) g0 0 0∧q.ts 3= .sl [] .nil∧q.ts 4= .int .i64 (i:Int)∧q.h=D++[.blk g0 [.agg [.sl (s.preds.map z0q) .no, .sl (s.clauses.map z0f) .no]] false false 0,o1,o2,o3,o4,o5,o6,o7,o8]) s.clauses.length ⟨0,_,_,_,_,_,_,_,_,_,by omega,rfl,rfl,rfl,rfl,rfl⟩ ?_
 rintro m ⟨ts,h',clk⟩ P ⟨i,g0,o1,o2,o3,o4,o5,o6,o7,o8,hi,rfl,h1,h3,h4,rfl⟩ hnx he hr
 dsimp only at h1 h3 h4
 by_cases hlt:i < s.clauses.length
 ·have f1:decide ((i:Int) < (s.clauses.length:Int))=true:=by rw[decide_eq_true_iff];omega
  have f2:IntKind.i64.wrap ((i:Int) + 1)=((i + 1:Nat):Int):=z0d (by omega) (by omega)
  have hc:=hs.clauses _ (List.getElem_mem hlt)
  have hix:∀ h,z1m h 5 (.sl (s.clauses.map z0f) .no) (.int .i64 (i:Int))=some (.iptr [.sl (s.clauses[i].vars.map z1b) .no, .sl (s.clauses[i].body.map z3x) .no,z0l s.clauses[i].guard, .str s.clauses[i].head.pred, .sl (s.clauses[i].head.args.map z0l) .no] 0,h):=fun h=>z2f hlt rfl rfl
  generalize s.clauses[i]=c at hc hix
  obtain⟨hv,hb,hbo,hg,hh⟩:=hc
  have hvl:=x0k hv
  have hvm:∀ v∈c.vars,v∈z2h:=fun v h=>hv.mem h
  have p1:=v8y hs hv
  have p2:=j0y hvm (by omega) (by have:=hg.2.1;omega) (by decide) hg.1 (by decide)
  simp only[z0x,nat,z0l,Int.cast_ofNat_Int] at p1 p2
  have p3:∀ a,AppOk s.preds c.vars a→Pure Gam 169 [.agg [.sl (s.preds.map z0q) .no, .sl (s.clauses.map z0f) .no], .agg [.sl (c.vars.map z1b) .no, .sl (c.body.map z3x) .no, .sl (c.guard.map eNode) .no, .str c.head.pred, .sl (c.head.args.map z0l) .no], .agg [.str a.pred, .sl (a.args.map z0l) .no]] (.bool true):=fun a ha=>v8x hs hvm (by omega) ha
  simp only[go_sem,k5k,h1,h3,h4,hB,List.length_map,f1,hix,z0l,z0a p1,Bool.not_true,ea2]
  refine z0y (fun m q=>∃ (j g5 g6:Nat),j≤c.body.length∧m=c.body.length - j∧q.ts 1= .ptr (B + 0) g0 0 0∧q.ts 3= .sl [] .nil∧q.ts 4= .int .i64 (i:Int)∧q.ts 5= .ptr (B + 5) g5 0 0∧q.ts 6= .ptr (B + 6) g6 0 0∧q.ts 7= .int .i64 (j:Int)∧q.h=D++[.blk g0 [.agg [.sl (s.preds.map z0q) .no, .sl (s.clauses.map z0f) .no]] false false 0,o1,o2,o3,o4, .blk g5 [.agg [.sl (c.vars.map z1b) .no, .sl (c.body.map z3x) .no, .sl (c.guard.map eNode) .no, .str c.head.pred, .sl (c.head.args.map z0l) .no]] false false 0, .blk g6 [.agg [.bool false, .bool false, .bool false, .bool false, .bool false, .bool false, .bool false]] false false 0,o7,o8]) c.body.length ⟨0,_,_,by omega,rfl,h1,h3,h4,rfl,rfl,rfl,rfl⟩ ?_
  clear h1 h3 h4
  rintro m ⟨ts,h',clk⟩ P2 ⟨j,g5,g6,hj,rfl,h1,h3,h4,h5,h6,h7,rfl⟩ hnx2 he2 hr2
  dsimp only at h1 h3 h4 h5 h6 h7
  by_cases hltj:j < c.body.length
  ·have e1:decide ((j:Int) < (c.body.length:Int))=true:=by rw[decide_eq_true_iff];omega
   have e2:IntKind.i64.wrap ((j:Int) + 1)=((j + 1:Nat):Int):=z0d (by omega) (by omega)
   have hja:∀ h,z1m h 2 (.sl (c.body.map z3x) .no) (.int .i64 (j:Int))=some (.iptr [.str c.body[j].pred, .sl (c.body[j].args.map z0l) .no] 0,h):=fun h=>z2f hltj rfl rfl
   have p4:=p3 _ (hbo _ (List.getElem_mem hltj))
   simp only[go_sem,j9x,h1,h3,h4,h5,h6,h7,hB,List.length_map,e1,ea3,hja,z0a p4,Bool.not_true,e2]
   exact hnx2 (c.body.length - (j + 1)) _ (by omega) ⟨j + 1,g5,g6,hltj,rfl,h1,h3,h4,h5,h6,rfl,rfl⟩
  ·have e1:decide ((j:Int) < (c.body.length:Int))=false:=by rw[decide_eq_false_iff_not];omega
   simp only[go_sem,j9x,h1,h3,h4,h5,h6,h7,hB,List.length_map,e1]
   refine he2 _ _ ?_
   have g1:decide ((400:Int) < (c.vars.length:Int))=false:=by rw[decide_eq_false_iff_not];omega
   have g2:decide ((8:Int) < (c.body.length:Int))=false:=by rw[decide_eq_false_iff_not];omega
   have last:∀ (ts:Tmps) (clk:Nat),ts 1= .ptr (B + 0) g0 0 0→ts 3= .sl [] .nil→ts 4= .int .i64 (i:Int)→ts 6= .ptr (B + 6) g6 0 0→ts 8= .int .i64 1→K Gam B (.loop q7j) [.block 4, .block 1, .seq (.region 3 [⟨some 35, .move (.tmp 4),none⟩,⟨some 36, .binOp .add (.one .int) (.tmp 35) (.const (.int .i64 1)),none⟩,⟨some 4, .move (.tmp 36),none⟩] [])] ⟨ts,D++[.blk g0 [.agg [.sl (s.preds.map z0q) .no, .sl (s.clauses.map z0f) .no]] false false 0,o1,o2,o3,o4, .blk g5 [.agg [.sl (c.vars.map z1b) .no, .sl (c.body.map z3x) .no, .sl (c.guard.map eNode) .no, .str c.head.pred, .sl (c.head.args.map z0l) .no]] false false 0, .blk g6 [.agg [.bool false, .bool false, .bool false, .bool false, .bool false, .bool false, .bool false]] false false 0,o7,o8],clk⟩ P:=by
    clear h1 h3 h4 h5 h6
    intro ts clk h1 h3 h4 h6 h8
    refine z0y (fun m q=>∃ k:Nat,1≤k∧k≤7∧m=7 - k∧q.ts 1= .ptr (B + 0) g0 0 0∧q.ts 3= .sl [] .nil∧q.ts 4= .int .i64 (i:Int)∧q.ts 6= .ptr (B + 6) g6 0 0∧q.ts 8= .int .i64 (k:Int)∧q.h=D++[.blk g0 [.agg [.sl (s.preds.map z0q) .no, .sl (s.clauses.map z0f) .no]] false false 0,o1,o2,o3,o4, .blk g5 [.agg [.sl (c.vars.map z1b) .no, .sl (c.body.map z3x) .no, .sl (c.guard.map eNode) .no, .str c.head.pred, .sl (c.head.args.map z0l) .no]] false false 0, .blk g6 [.agg [.bool false, .bool false, .bool false, .bool false, .bool false, .bool false, .bool false]] false false 0,o7,o8]) 6 ⟨1,by omega,by omega,rfl,h1,h3,h4,h6,h8,rfl⟩ ?_
    clear h1 h3 h4 h6 h8
    rintro m ⟨ts,h',clk⟩ P3 ⟨k,hk1,hk7,rfl,h1,h3,h4,h6,h8,rfl⟩ hnx3 he3 hr3
    dsimp only at h1 h3 h4 h6 h8
    have step:∀ k:Nat,IntKind.i64.wrap ((k:Int) + 1)=((k + 1:Nat):Int)∨7 < k:=fun k=>by
     by_cases hk:k≤7
     ·exact .inl (z0d (by omega) (by omega))
     ·exact .inr (by omega)
    have hw:=(step k).resolve_right (by omega)
    by_cases hk:k < 7
    ·have e1:decide ((k:Int) < 7)=true:=by rw[decide_eq_true_iff];omega
     have hcase:k=1∨k=2∨k=3∨k=4∨k=5∨k=6:=by omega
     rcases hcase with rfl | rfl | rfl | rfl | rfl | rfl
     ·simp only[Int.cast_ofNat_Int] at h8 hw e1
      simp only[go_sem,q7j,h1,h3,h4,h6,h8,hB,e1,ea1,hw]
      exact hnx3 (7 - 2) _ (by omega) ⟨2,by omega,by omega,rfl,h1,h3,h4,h6,rfl,rfl⟩
     ·simp only[Int.cast_ofNat_Int] at h8 hw e1
      simp only[go_sem,q7j,h1,h3,h4,h6,h8,hB,e1,ea2,hw]
      exact hnx3 (7 - 3) _ (by omega) ⟨3,by omega,by omega,rfl,h1,h3,h4,h6,rfl,rfl⟩
     ·simp only[Int.cast_ofNat_Int] at h8 hw e1
      simp only[go_sem,q7j,h1,h3,h4,h6,h8,hB,e1,ea3,hw]
      exact hnx3 (7 - 4) _ (by omega) ⟨4,by omega,by omega,rfl,h1,h3,h4,h6,rfl,rfl⟩
     ·simp only[Int.cast_ofNat_Int] at h8 hw e1
      simp only[go_sem,q7j,h1,h3,h4,h6,h8,hB,e1,ea4,hw]
      exact hnx3 (7 - 5) _ (by omega) ⟨5,by omega,by omega,rfl,h1,h3,h4,h6,rfl,rfl⟩
     ·simp only[Int.cast_ofNat_Int] at h8 hw e1
      simp only[go_sem,q7j,h1,h3,h4,h6,h8,hB,e1,ea5,hw]
      exact hnx3 (7 - 6) _ (by omega) ⟨6,by omega,by omega,rfl,h1,h3,h4,h6,rfl,rfl⟩
     ·simp only[Int.cast_ofNat_Int] at h8 hw e1
      simp only[go_sem,q7j,h1,h3,h4,h6,h8,hB,e1,ea6,hw]
      exact hnx3 (7 - 7) _ (by omega) ⟨7,by omega,by omega,rfl,h1,h3,h4,h6,rfl,rfl⟩
    ·have e1:decide ((k:Int) < 7)=false:=by rw[decide_eq_false_iff_not];omega
     simp only[go_sem,q7j,h1,h3,h4,h6,h8,hB,e1]
     refine he3 _ _ ?_
     simp only[go_sem,h1,h3,h4,f2]
     exact hnx (s.clauses.length - (i + 1)) _ (by omega) ⟨i + 1,g0,_,_,_,_,_,_,_,_,hlt,rfl,h1,h3,rfl,rfl⟩
   rcases hh with ⟨hp,hargs⟩ | ha
   ·have g3:decide (c.head.pred=[])=true:=by simp[hp]
    simp only[hargs,List.map_nil] at last
    simp only[go_sem,h1,h3,h4,h5,h6,hB,z0a p2,Bool.not_true,Bool.not_false,ea4,ea5,ea6,g1,g2,g3,hargs,List.map_nil,decide_false,Int.lt_irrefl,List.length_map]
    exact last _ _ h1 h3 h4 h6 rfl
   ·obtain⟨f,hf,hpn,hfr⟩:=id ha
    have g3:decide (c.head.pred=[])=false:=by simp[hpn,hs.pr.name f hf]
    have p5:=p3 _ ha
    simp only[go_sem,h1,h3,h4,h5,h6,hB,z0a p2,Bool.not_true,Bool.not_false,ea4,ea5,ea6,g3,g1,g2,z0a p5,List.length_map]
    exact last _ _ h1 h3 h4 h6 rfl
 ·have f1:decide ((i:Int) < (s.clauses.length:Int))=false:=by rw[decide_eq_false_iff_not];omega
  simp only[go_sem,k5k,h1,h3,h4,hB,List.length_map,f1]
  refine he _ _ ?_
  simp only[go_sem,h3]
  rw[z0h rfl rfl]
  exact hT _
theorem k2s {s:Sys} (hs:SysV s):Pure Gam 44 [z0x s] (.bool true):=by
 have p0:=y0c hs
 simp only[z0x] at p0
 refine Pure.of rfl u4r rfl rfl rfl (az:=[z0x s]) rfl (by simp[idsL,z2c]) fun D B clk T hB hT=> ?_
 simp only[go_sem,u0g,hB,z0x,z0a p0,decide_true]
 rw[z0e]
 exact hT _
theorem q5k {l:List (List Nat)} {i:Nat} {h:List AObj} {t:Tip} {k:IntKind} (hi:i < l.length):z1m h 1 (.sl (z1t l) t) (.int k (i:Int))=some (.iptr [.str l[i]] 0,h):=z2f hi rfl rfl
end Go.Proofs.YtahdahokpjigiaaGreatDoor.Am
