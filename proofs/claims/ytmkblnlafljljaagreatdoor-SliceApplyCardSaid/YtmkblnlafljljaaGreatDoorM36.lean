/- Walking: the reference's arities and sorts of nodes Walking: the reference's sorts of nodes Walking: fractions are read Walking: the reference's tests of numbers and of the fields of nodes Walking: th -/
import Derived.Test.YtmkblnlafljljaaGreatDoorM35
open Nat renaming reduceBEq → z0,reduceAdd → z1,reduceLeDiff → z2,reduceSub → z3
set_option linter.all false
namespace Go.Proofs.YtmkblnlafljljaaGreatDoor.Am
open Go
set_option maxRecDepth 100000
theorem v3v {V:List Var} {n:Node} {ss:List Nat} {s:Nat} {ks:Term} (hn:NodeOk V n ss s ks) (hk:n.kids=ss.length):Pure Gam 163 [nat n.op,nat n.kids] (.bool true):=by
 refine Pure.of rfl w9l rfl rfl rfl rfl rfl fun D B clk T hB hT=> ?_
 have e0:∀ k:Nat,decide ((0:Int)≤(k:Int))=true:=fun k=>by rw[decide_eq_true_iff];omega
 have e1:∀ k:Nat,1≤k→decide ((1:Int)≤(k:Int))=true:=fun k h=>by rw[decide_eq_true_iff];omega
 cases hn with
 | bool h=>rcases h with rfl | rfl <;> (simp only[go_sem,z0,z1,z2,z3,reduceCtorEq,↓reduceIte,q1a,nat,bare,Int.cast_ofNat_Int,Int.reduceEq,decide_true,decide_false];rw[z0f];exact hT _)
 | int h=>simp only[go_sem,z0,z1,z2,z3,reduceCtorEq,↓reduceIte,q1a,nat,Int.cast_ofNat_Int,Int.reduceEq,decide_true,decide_false];rw[z0f];exact hT _
 | real h=>simp only[go_sem,z0,z1,z2,z3,reduceCtorEq,↓reduceIte,q1a,nat,Int.cast_ofNat_Int,Int.reduceEq,decide_true,decide_false];rw[z0f];exact hT _
 | var h=>simp only[go_sem,z0,z1,z2,z3,reduceCtorEq,↓reduceIte,q1a,nat,Int.cast_ofNat_Int,Int.reduceEq,decide_true,decide_false];rw[z0f];exact hT _
 | not=>simp only[go_sem,z0,z1,z2,z3,reduceCtorEq,↓reduceIte,q1a,nat,bare,Int.cast_ofNat_Int,Int.reduceEq,decide_true,decide_false];rw[z0f];exact hT _
 | andor h=>rcases h with rfl | rfl <;> (simp only[go_sem,z0,z1,z2,z3,reduceCtorEq,↓reduceIte,q1a,nat,bare,Int.cast_ofNat_Int,Int.reduceEq,decide_true,decide_false,e0];rw[z0f];exact hT _)
 | imp=>simp only[go_sem,z0,z1,z2,z3,reduceCtorEq,↓reduceIte,q1a,nat,bare,Int.cast_ofNat_Int,Int.reduceEq,decide_true,decide_false];rw[z0f];exact hT _
 | ite h1 h2=>simp only[go_sem,z0,z1,z2,z3,reduceCtorEq,↓reduceIte,q1a,nat,bare,Int.cast_ofNat_Int,Int.reduceEq,decide_true,decide_false];rw[z0f];exact hT _
 | eq h1 h2=>simp only[go_sem,z0,z1,z2,z3,reduceCtorEq,↓reduceIte,q1a,nat,bare,Int.cast_ofNat_Int,Int.reduceEq,decide_true,decide_false];rw[z0f];exact hT _
 | cmp h hs=>rcases h with rfl | rfl <;> (simp only[go_sem,z0,z1,z2,z3,reduceCtorEq,↓reduceIte,q1a,nat,bare,Int.cast_ofNat_Int,Int.reduceEq,decide_true,decide_false];rw[z0f];exact hT _)
 | add h hs=>simp only[go_sem,z0,z1,z2,z3,reduceCtorEq,↓reduceIte,q1a,nat,bare,Int.cast_ofNat_Int,Int.reduceEq,decide_true,decide_false,e1 _ h];rw[z0f];exact hT _
 | mul hs hn=>simp only[go_sem,z0,z1,z2,z3,reduceCtorEq,↓reduceIte,q1a,nat,bare,Int.cast_ofNat_Int,Int.reduceEq,decide_true,decide_false];rw[z0f];exact hT _
 | div h h1 h2=>rcases h with rfl | rfl <;> (simp only[go_sem,z0,z1,z2,z3,reduceCtorEq,↓reduceIte,q1a,nat,Int.cast_ofNat_Int,Int.reduceEq,decide_true,decide_false];rw[z0f];exact hT _)
 | select=>simp only[go_sem,z0,z1,z2,z3,reduceCtorEq,↓reduceIte,q1a,nat,bare,Int.cast_ofNat_Int,Int.reduceEq,decide_true,decide_false];rw[z0f];exact hT _
 | store=>simp only[go_sem,z0,z1,z2,z3,reduceCtorEq,↓reduceIte,q1a,nat,bare,Int.cast_ofNat_Int,Int.reduceEq,decide_true,decide_false];rw[z0f];exact hT _
 | const=>simp only[go_sem,z0,z1,z2,z3,reduceCtorEq,↓reduceIte,q1a,nat,bare,Int.cast_ofNat_Int,Int.reduceEq,decide_true,decide_false];rw[z0f];exact hT _
theorem v3w {V:List Var} {n:Node} {ss:List Nat} {s fi:Nat} {ks:Term} {u:Tip} (hn:NodeOk V n ss s ks) (hl:ss.length≤2 ^ 20) (hf:n.op=15→fi=3):Pure Gam 164 [eNode n,nat fi, .sl (ss.map nat) u] (nat s):=by
 refine Pure.of rfl w9m rfl rfl rfl (az:=[eNode n,nat fi, .sl (ss.map nat) .no]) rfl (by simp[idsL,AV.ids,z0d (fun _=>z3h),z3h,eNode]) fun D B clk T hB hT=> ?_
 have sm:∀ (x o:Nat),(∀ y∈ss,y=x)→Pure Gam 193 [.sl (ss.map nat) .no, .int .i64 (x:Int), .int .i64 (o:Int)] (.int .i64 (o:Int)):=fun x o h=>v3u hl h
 cases hn with
 | bool h=>rcases h with rfl | rfl <;> (simp only[go_sem,z0,z1,z2,z3,reduceCtorEq,↓reduceIte,q1b,hB,eNode,nat,bare,Int.cast_ofNat_Int,Int.reduceEq,decide_true,decide_false];rw[z0h rfl rfl];exact hT _)
 | int h=>simp only[go_sem,z0,z1,z2,z3,reduceCtorEq,↓reduceIte,q1b,hB,eNode,nat,Int.cast_ofNat_Int,Int.reduceEq,decide_true,decide_false];rw[z0h rfl rfl];exact hT _
 | real h=>simp only[go_sem,z0,z1,z2,z3,reduceCtorEq,↓reduceIte,q1b,hB,eNode,nat,Int.cast_ofNat_Int,Int.reduceEq,decide_true,decide_false];rw[z0h rfl rfl];exact hT _
 | var h=>simp only[go_sem,z0,z1,z2,z3,reduceCtorEq,↓reduceIte,q1b,hB,eNode,nat,Int.cast_ofNat_Int,Int.reduceEq,decide_true,decide_false];rw[z0h rfl rfl];exact hT _
 | not=>
   have p:=sm 1 1 (by simp)
   simp only[List.map_cons,List.map_nil,nat,Int.cast_ofNat_Int] at p
   simp only[go_sem,z0,z1,z2,z3,reduceCtorEq,↓reduceIte,q1b,hB,eNode,nat,bare,Int.cast_ofNat_Int,Int.reduceEq,decide_true,decide_false,z0a p];rw[z0h rfl rfl];exact hT _
 | andor h=>
   have p:=sm 1 1 (by simp)
   simp only[List.map_replicate,nat,Int.cast_ofNat_Int] at p
   rcases h with rfl | rfl <;> (simp only[go_sem,z0,z1,z2,z3,reduceCtorEq,↓reduceIte,q1b,hB,eNode,nat,bare,Int.cast_ofNat_Int,Int.reduceEq,decide_true,decide_false,List.map_replicate,z0a p];rw[z0h rfl rfl];exact hT _)
 | imp=>
   have p:=sm 1 1 (by simp)
   simp only[List.map_cons,List.map_nil,nat,Int.cast_ofNat_Int] at p
   simp only[go_sem,z0,z1,z2,z3,reduceCtorEq,↓reduceIte,q1b,hB,eNode,nat,bare,Int.cast_ofNat_Int,Int.reduceEq,decide_true,decide_false,z0a p];rw[z0h rfl rfl];exact hT _
 | @ite s ks h1 h2=>simp only[go_sem,z0,z1,z2,z3,reduceCtorEq,↓reduceIte,q1b,hB,eNode,nat,bare,Int.cast_ofNat_Int,Int.reduceEq,decide_true,decide_false,z2e,z9r,q8p];rw[z0h rfl rfl];exact hT _
 | @eq s ks h1 h2=>
   have p:=sm s 1 (by simp)
   simp only[List.map_cons,List.map_nil,nat,Int.cast_ofNat_Int] at p
   simp only[go_sem,z0,z1,z2,z3,reduceCtorEq,↓reduceIte,q1b,hB,eNode,nat,bare,Int.cast_ofNat_Int,Int.reduceEq,decide_true,decide_false,z2e,z0a p];rw[z0h rfl rfl];exact hT _
 | @cmp o s ks h hs=>
   have p:=sm s 1 (by simp)
   have q:=j8z (n:=s)
   rw[show decide (s=2∨s=3)=true from decide_eq_true hs] at q
   simp only[List.map_cons,List.map_nil,nat,Int.cast_ofNat_Int] at p q
   rcases h with rfl | rfl <;> (simp only[go_sem,z0,z1,z2,z3,reduceCtorEq,↓reduceIte,q1b,hB,eNode,nat,bare,Int.cast_ofNat_Int,Int.reduceEq,decide_true,decide_false,z2e,z0a q,z0a p];rw[z0h rfl rfl];exact hT _)
 | @add k s ks h hs=>
   obtain⟨k,rfl⟩:∃ j,k=j + 1:=⟨k - 1,by omega⟩
   have p:=sm s s (by simp)
   have q:=j8z (n:=s)
   rw[show decide (s=2∨s=3)=true from decide_eq_true hs] at q
   simp only[List.replicate_succ,List.map_cons,List.map_replicate,nat,Int.cast_ofNat_Int] at p q
   simp only[go_sem,z0,z1,z2,z3,reduceCtorEq,↓reduceIte,q1b,hB,eNode,nat,bare,Int.cast_ofNat_Int,Int.reduceEq,decide_true,decide_false,List.replicate_succ,List.map_cons,List.map_replicate,z2e,z0a q,z0a p];rw[z0h rfl rfl];exact hT _
 | @mul s m ks hs hm=>
   have p:=sm s s (by simp)
   obtain rfl:=hf rfl
   simp only[List.map_cons,List.map_nil,nat,Int.cast_ofNat_Int] at p
   simp only[go_sem,z0,z1,z2,z3,reduceCtorEq,↓reduceIte,q1b,hB,eNode,nat,bare,Int.cast_ofNat_Int,Int.reduceEq,decide_true,decide_false,z2e,z0a p];rw[z0h rfl rfl];exact hT _
 | @div o k ks h h1 h2=>
   have p:=sm 2 2 (by simp)
   simp only[List.map_cons,List.map_nil,nat,Int.cast_ofNat_Int] at p
   rcases h with rfl | rfl <;> (simp only[go_sem,z0,z1,z2,z3,reduceCtorEq,↓reduceIte,q1b,hB,eNode,nat,bare,Int.cast_ofNat_Int,Int.reduceEq,decide_true,decide_false,z0a p];rw[z0h rfl rfl];exact hT _)
 | select=>simp only[go_sem,z0,z1,z2,z3,reduceCtorEq,↓reduceIte,q1b,hB,eNode,nat,bare,Int.cast_ofNat_Int,Int.reduceEq,decide_true,decide_false,z2e,z9r];rw[z0h rfl rfl];exact hT _
 | store=>simp only[go_sem,z0,z1,z2,z3,reduceCtorEq,↓reduceIte,q1b,hB,eNode,nat,bare,Int.cast_ofNat_Int,Int.reduceEq,decide_true,decide_false,z2e,z9r,q8p];rw[z0h rfl rfl];exact hT _
 | const=>
   have p:=sm 2 4 (by simp)
   simp only[List.map_cons,List.map_nil,nat,Int.cast_ofNat_Int] at p
   simp only[go_sem,z0,z1,z2,z3,reduceCtorEq,↓reduceIte,q1b,hB,eNode,nat,bare,Int.cast_ofNat_Int,Int.reduceEq,decide_true,decide_false,z0a p];rw[z0h rfl rfl];exact hT _
theorem x1k {B clk g4:Nat} {D:List AObj} {o0:AObj} {neg:Bool} {A R:List Nat} {v0:AV} {ts:Tmps} {ks:List Kf} {Q:Post} (hd:∀ c∈A,48≤c∧c≤57) (hl:A.length≤1000) (hB:D.length=B) (h0:ts 0=v0) (h4:ts 4= .ptr (B + 1) g4 0 0) (h5:ts 5= .str (A++47::R)) (h6:ts 6= .int .i64 0) {g2:Nat} (h2:ts 2= .ptr (B + 0) g2 0 0)
  (hQ:∀ (ts':Tmps) (clk':Nat),ts' 0=v0→ts' 2= .ptr (B + 0) g2 0 0→ts' 4= .ptr (B + 1) g4 0 0→ts' 5= .str A→K Gam B (.exit 0) ks ⟨ts',D++[o0, .blk g4 [.agg [.bool neg, .str [], .str R]] false false 0],clk'⟩ Q):K Gam B (.loop q8f) ks ⟨ts,D++[o0, .blk g4 [.agg [.bool neg, .str [], .str [49]]] false false 0],clk⟩ Q:=by
 refine z0t (fun m q=>∃ j:Nat,j≤A.length∧m=A.length - j∧q.ts 0=v0∧q.ts 2= .ptr (B + 0) g2 0 0∧q.ts 4= .ptr (B + 1) g4 0 0∧q.ts 5= .str (A++47::R)∧q.ts 6= .int .i64 (j:Int)∧q.h=D++[o0, .blk g4 [.agg [.bool neg, .str [], .str [49]]] false false 0]) A.length ⟨0,by omega,rfl,h0,h2,h4,h5,h6,rfl⟩ ?_
 clear h0 h2 h4 h5 h6
 rintro m ⟨ts,h,clk⟩ P ⟨j,hj,rfl,h0,h2,h4,h5,h6,rfl⟩ hn he hr
 dsimp only at h0 h2 h4 h5 h6
 have e1:decide ((j:Int) < ((A++47::R).length:Int))=true:=by rw[decide_eq_true_iff];simp;omega
 have e4:IntKind.i64.wrap ((j:Int) + 1)=((j + 1:Nat):Int):=z0c (by omega) (by omega)
 have hlt':j < (A++47::R).length:=by simp;omega
 by_cases hlt:j < A.length
 ·have hc:=hd A[j] (List.getElem_mem hlt)
  have e0:(A++47::R)[j]=A[j]:=List.getElem_append_left hlt
  have e2:decide ((A[j]:Int)=47)=false:=by rw[decide_eq_false_iff_not];omega
  simp only[go_sem,z0,z1,z2,z3,reduceCtorEq,↓reduceIte,h0,h2,h4,h5,h6,q8f,e1,q1d hlt',e0,e2,e4]
  exact hn (A.length - (j + 1)) _ (by omega) ⟨j + 1,hlt,rfl,h0,h2,h4,h5,rfl,rfl⟩
 ·obtain rfl:j=A.length:=by omega
  have e0:(A++47::R)[A.length]=47:=by simp
  have e5:∀ h,slV h none (.str (A++47::R)) (some (.int .i64 ((A.length + 1:Nat):Int))) none none=some (.str R,h):=fun h=>by
   have h1:(0:Int)≤(A.length:Int) + 1:=by omega
   have h2:(A++47::R).take (A.length + (R.length + 1))=A++47::R:=List.take_of_length_le (by simp)
   have h3:(A++47::R).drop (A.length + 1)=R:=by rw[←List.drop_drop,List.drop_left];rfl
   simp[slV,z2l,z4n,h1,h2,h3]
  have e6:∀ h,slV h none (.str (A++47::R)) none (some (.int .i64 (A.length:Int))) none=some (.str A,h):=fun h=>by simp[slV,z2l,z4n]
  simp only[go_sem,z0,z1,z2,z3,reduceCtorEq,↓reduceIte,h0,h2,h4,h5,h6,q8f,e1,q1d hlt',e0,e4,e5,e6,hB,z1y,Int.cast_ofNat_Int,decide_true]
  refine⟨by simp[z1r,apart,z0q,z1l,z1v,AOp.isCall,hB], ?_⟩
  refine he _ _ ?_
  exact hQ _ _ (by simp[z0b,h0]) (by simp[z0b,h2]) (by simp[z0b,h4]) (by simp[z0b,h5])
theorem k3x {z:Int} {d:Nat} (hl:(dec z.natAbs).length≤150) (h2:2≤d) (h4:d≤4) (hg:Nat.gcd z.natAbs d=1):Pure Gam 145 [.str (z2s z++47::dec d)] (.tup [q9n (decide (z < 0)) z.natAbs d, .bool true]):=by
 have hdn:=z1g z.natAbs
 have hdne:=z7z z.natAbs
 have hdig:q5s (dec z.natAbs):=⟨hdne,hdn⟩
 have hdig2:q5s (dec d):=⟨z7z d,z1g d⟩
 have hld:(dec d).length≤1:=by rw[z8z (by omega)];simp
 have hz0:z.natAbs≠0:=fun h=>by rw[h,Nat.gcd_zero_left] at hg;omega
 have hp1:Pure Gam 109 [.str (dec d)] (.bool true):=q4w hdig2 (by omega)
 have hp2:Pure Gam 110 [.str (dec d)] (.str (dec d)):=by have:=q1e hdig2;rwa [z2b] at this
 have hp3:Pure Gam 110 [.str (dec z.natAbs)] (.str (dec z.natAbs)):=by have:=q1e hdig;rwa [z2b] at this
 have hp4:∀ neg:Bool,Pure Gam 182 [.bool neg, .str (dec z.natAbs), .str (dec d)] (q9n neg z.natAbs d):=fun neg=>by
  have:=x2n (neg:=neg) (a:=z.natAbs) (b:=d) (by omega) hl (by omega)
  rw[hg,Nat.div_one,Nat.div_one] at this
  simpa [hz0] using this
 have hp5:∀ neg:Bool,Pure Gam 183 [q9n neg z.natAbs d] (.str (z4i neg z.natAbs d)):=fun neg=>x2o hl (by omega)
 have e1:decide (dec d=[48])=false:=by rw[decide_eq_false_iff_not,q2s];omega
 have e2:decide (dec z.natAbs=dec z.natAbs)=true:=by simp
 have e2':decide (dec d=dec d)=true:=by simp
 have hd1:dec d≠[49]:=fun h=>by rw[x0z] at h;omega
 refine Pure.of rfl w1z rfl rfl rfl rfl rfl fun D B clk T hB hT=> ?_
 by_cases hz:z < 0
 ·have he:z2s z=45::dec z.natAbs:=by rw[z2s,if_pos hz]
  have hdz:decide (z < 0)=true:=by simp[hz]
  rw[he,List.cons_append]
  simp only[go_sem,z0,z1,z2,z3,reduceCtorEq,↓reduceIte,j7d,hB,z1y,Bool.not_false,z5o,Int.cast_ofNat_Int,q8g,decide_true,decide_false,Int.reduceEq]
  refine⟨by simp[z1r,apart,z0q,z1l,z1v,AOp.isCall,hB], ?_⟩
  refine x1k (v0:= .str (45::(dec z.natAbs++47::dec d))) hdn (by omega) hB rfl rfl rfl rfl rfl ?_
  intro ts2 clk2 q0 q2 q4 q5
  have e3:decide (z4i true z.natAbs d=45::(dec z.natAbs++47::dec d))=true:=by rw[decide_eq_true_iff];simp[z4i];omega
  simp only[go_sem,z0,z1,z2,z3,reduceCtorEq,↓reduceIte,q0,q2,q4,q5,hB,z1y,z0a (q4w hdig (by omega)),z0a hp1,z0a hp2,z0a hp3,z0a (hp4 true),z0a (hp5 true),e1,e2,e2',e3,Bool.not_true,Bool.not_false,decide_true,decide_false]
  refine⟨by simp[z1r,apart,z0q,z1l,z1v,AOp.isCall,hB], ?_⟩
  rw[z0h rfl rfl]
  rw[hdz] at hT
  exact hT _
 ·have he:z2s z=dec z.natAbs:=by rw[z2s,if_neg hz]
  have hdz:decide (z < 0)=false:=by simp[hz]
  rw[he]
  obtain⟨c,t,hct⟩:=List.exists_cons_of_ne_nil hdne
  have hc:=hdn c (by rw[hct];exact List.mem_cons_self)
  have e0:decide (dec z.natAbs++47::dec d=[])=false:=by simp
  have e00:∀ h k,q3s h (.str (dec z.natAbs++47::dec d)) (.int k 0)=some (.int .u8 (c:Int),h):=fun h k=>by rw[hct];exact z5o
  have ec:decide ((c:Int)=45)=false:=by rw[decide_eq_false_iff_not];omega
  simp only[go_sem,z0,z1,z2,z3,reduceCtorEq,↓reduceIte,j7d,hB,z1y,Bool.not_false,e0,e00,ec,Int.cast_ofNat_Int,decide_true,decide_false,Int.reduceEq]
  refine x1k (v0:= .str (dec z.natAbs++47::dec d)) hdn (by omega) hB rfl rfl rfl rfl rfl ?_
  intro ts2 clk2 q0 q2 q4 q5
  have e3:decide (z4i false z.natAbs d=dec z.natAbs++47::dec d)=true:=by rw[decide_eq_true_iff];simp[z4i];omega
  simp only[go_sem,z0,z1,z2,z3,reduceCtorEq,↓reduceIte,q0,q2,q4,q5,hB,z1y,z0a (q4w hdig (by omega)),z0a hp1,z0a hp2,z0a hp3,z0a (hp4 false),z0a (hp5 false),e1,e2,e2',e3,Bool.not_true,Bool.not_false,decide_true,decide_false]
  refine⟨by simp[z1r,apart,z0q,z1l,z1v,AOp.isCall,hB], ?_⟩
  rw[z0h rfl rfl]
  rw[hdz] at hT
  exact hT _
theorem q0m {z:Int} (h:z.natAbs < 10 ^ 40):(dec z.natAbs).length≤150:=by
 have:=z9p (a:=z.natAbs) (b:=10 ^ 40) (by omega)
 have h2:(dec (10 ^ 40)).length=41:=by kernel_rfl
 omega
theorem j9a {a:List Nat} (h:IntS a):Pure Gam 98 [.str a] (.bool true):=by
 obtain⟨z,rfl,hz⟩:=h
 have hp:=q2v (q0m hz)
 rw[q9n,z3l] at hp
 refine Pure.of rfl w9r rfl rfl rfl rfl rfl fun D B clk T hB hT=> ?_
 simp only[go_sem,z0,z1,z2,z3,reduceCtorEq,↓reduceIte,w0p,hB,z0a hp,decide_true]
 rw[z0f]
 exact hT _
theorem v3x {a:List Nat} (h:RatS a):Pure Gam 144 [.str a] (.bool true):=by
 rcases h with ⟨z,rfl,hz⟩ | ⟨z,d,rfl,hz,h2,h4,hg⟩
 ·have hp:=q2v (q0m hz)
  rw[q9n] at hp
  refine Pure.of rfl w0o rfl rfl rfl rfl rfl fun D B clk T hB hT=> ?_
  simp only[go_sem,z0,z1,z2,z3,reduceCtorEq,↓reduceIte,v0k,hB,z0a hp]
  rw[z0f]
  exact hT _
 ·have hp:=k3x (q0m hz) h2 h4 hg
  rw[q9n] at hp
  refine Pure.of rfl w0o rfl rfl rfl rfl rfl fun D B clk T hB hT=> ?_
  simp only[go_sem,z0,z1,z2,z3,reduceCtorEq,↓reduceIte,v0k,hB,z0a hp]
  rw[z0f]
  exact hT _
theorem v3y {k:Nat} (h1:1≤k) (h5:k≤5):Pure Gam 146 [.str (dec k)] (.int .i64 1):=by
 have e:z2s (k:Int)=dec k:=by rw[z2s,if_neg (by omega),Int.natAbs_natCast]
 have hp:=q2v (z:=(k:Int)) (q0m (by simp;omega))
 rw[q9n,z3l,e,Int.natAbs_natCast,show decide ((k:Int) < 0)=false by simp] at hp
 have e1:decide (dec k=[48])=false:=by rw[decide_eq_false_iff_not,q2s];omega
 refine Pure.of rfl w9j rfl rfl rfl rfl rfl fun D B clk T hB hT=> ?_
 simp only[go_sem,z0,z1,z2,z3,reduceCtorEq,↓reduceIte,w0k,hB,z0a hp,e1,Bool.not_true]
 rw[z0h rfl rfl]
 exact hT _
theorem j9b {v:Var} (hv:v∈z0o):Pure Gam 112 [.str v.name] (.bool true):=by
 refine Pure.tab (tab:=j3d) rfl rfl ?_
 simp only[z0o,List.mem_cons,List.not_mem_nil,or_false] at hv
 rcases hv with rfl | rfl | rfl | rfl | rfl | rfl | rfl | rfl <;> rfl
theorem v3z {V:List Var} {n:Node} {ss:List Nat} {s:Nat} {ks:Term} (hV:∀ v∈V,v∈z0o) (hn:NodeOk V n ss s ks):Pure Gam 162 [eNode n] (.bool true):=by
 refine Pure.of rfl w9k rfl rfl rfl rfl rfl fun D B clk T hB hT=> ?_
 cases hn with
 | bool h=>rcases h with rfl | rfl <;> (simp only[go_sem,z0,z1,z2,z3,reduceCtorEq,↓reduceIte,x2g,hB,eNode,nat,bare,Int.cast_ofNat_Int,Int.reduceEq,Int.reduceLE,decide_true,decide_false];rw[z0f];exact hT _)
 | int h=>simp only[go_sem,z0,z1,z2,z3,reduceCtorEq,↓reduceIte,x2g,hB,eNode,nat,Int.cast_ofNat_Int,Int.reduceEq,decide_true,decide_false,z0a (j9a h)];rw[z0f];exact hT _
 | real h=>simp only[go_sem,z0,z1,z2,z3,reduceCtorEq,↓reduceIte,x2g,hB,eNode,nat,Int.cast_ofNat_Int,Int.reduceEq,decide_true,decide_false,z0a (v3x h)];rw[z0f];exact hT _
 | @var v ks h=>
   have hs:=q4b (hV _ h)
   have p:=j8y hs.1 hs.2
   rw[nat] at p
   simp only[go_sem,z0,z1,z2,z3,reduceCtorEq,↓reduceIte,x2g,hB,eNode,nat,Int.cast_ofNat_Int,Int.reduceEq,decide_true,decide_false,z0a (j9b (hV _ h)),z0a p];rw[z0f];exact hT _
 | andor h=>rcases h with rfl | rfl <;> (simp only[go_sem,z0,z1,z2,z3,reduceCtorEq,↓reduceIte,x2g,hB,eNode,nat,bare,Int.cast_ofNat_Int,Int.reduceEq,Int.reduceLE,decide_true,decide_false];rw[z0f];exact hT _)
 | cmp h hs=>rcases h with rfl | rfl <;> (simp only[go_sem,z0,z1,z2,z3,reduceCtorEq,↓reduceIte,x2g,hB,eNode,nat,bare,Int.cast_ofNat_Int,Int.reduceEq,Int.reduceLE,decide_true,decide_false];rw[z0f];exact hT _)
 | @div o k ks h h1 h5=>
   have e:IntS (dec k):=⟨k,by rw[z2s,if_neg (by omega),Int.natAbs_natCast],by simp;omega⟩
   rcases h with rfl | rfl <;> (simp only[go_sem,z0,z1,z2,z3,reduceCtorEq,↓reduceIte,x2g,hB,eNode,nat,Int.cast_ofNat_Int,Int.reduceEq,Int.reduceLT,decide_true,decide_false,z0a (j9a e),z0a (v3y h1 h5)];rw[z0f];exact hT _)
 | _=>simp only[go_sem,z0,z1,z2,z3,reduceCtorEq,↓reduceIte,x2g,hB,eNode,nat,bare,Int.cast_ofNat_Int,Int.reduceEq,Int.reduceLE,decide_true,decide_false];rw[z0f];exact hT _
theorem WF.len {V:List Var} {ss:List Nat} {d:Nat} {f:Term} (h:WF V ss d f):ss.length≤f.length:=by
 induction h with
 | nil=>simp
 | cons h1 h2 h3 h4 ih1 ih2=>simp at *;omega
theorem NodeOk.mul_ne {V:List Var} {n:Node} {ss:List Nat} {s:Nat} {ks:Term} (hn:NodeOk V n ss s ks) (h:n.op=15):ss≠[]:=by
 cases hn with
 | mul=>simp
 | bool ho=>simp only[bare] at h;omega
 | andor ho=>simp only[bare] at h;omega
 | cmp ho=>simp only[bare] at h;omega
 | div ho=>dsimp only at h;omega
 | _=>simp[bare] at h
inductive Trees (t:Term) (dep:Nat):Nat→List Nat→Nat→Prop
 | nil {i:Nat}:Trees t dep i [] i
 | cons {i m j s:Nat} {ss:List Nat} (h:Pure Gam 117 [.sl (t.map eNode) .no,nat i,nat dep] (.tup [nat m,nat s])) (hs:1≤s) (hm:m≤t.length) (hr:Trees t dep m ss j):Trees t dep i (s::ss) j
theorem z6y {t:Term}:(AV.sl (t.map eNode) .no).ids=[]:=by simp[AV.ids,z0d z3r]
theorem j9c {V:List Var} {t:Term} {i dep m s:Nat} {n:Node} {ss:List Nat} {ks:Term} (hV:∀ v∈V,v∈z0o) (htl:t.length≤20000) (hd:dep≤256) (hi:t[i]? =some n) (hn:NodeOk V n ss s ks) (hk:n.kids=ss.length) (hsl:ss.length < t.length) (hm:m≤t.length) (hT:Trees t (dep + 1) (i + 1) ss m)
  (hf:ss≠[]→∃ c,t[i + 1]? =some c∧(n.op=15→c.op=3)):Pure Gam 117 [.sl (t.map eNode) .no,nat i,nat dep] (.tup [nat m,nat s]):=by
 have hit:i < t.length:=(List.getElem?_eq_some_iff.1 hi).1
 refine Pure.of rfl w9h rfl rfl rfl (az:=[.sl (t.map eNode) .no,nat i,nat dep]) rfl (by simp[idsL,z6y,z3h]) fun D B clk T hB hR=> ?_
 have p1:=v3z hV hn
 have p2:=v3v hn hk
 simp only[eNode,nat] at p1 p2
 have e1:decide ((t.length:Int)≤(i:Int))=false:=by rw[decide_eq_false_iff_not];omega
 have e2:decide ((256:Int) < (dep:Int))=false:=by rw[decide_eq_false_iff_not];omega
 have e3:decide ((t.length:Int) < (n.kids:Int))=false:=by rw[decide_eq_false_iff_not];omega
 have e4:IntKind.i64.wrap ((i:Int) + 1)=((i + 1:Nat):Int):=z0c (by omega) (by omega)
 simp only[go_sem,z0,z1,z2,z3,reduceCtorEq,↓reduceIte,w0h,nat,hB,List.length_map,e1,e2,e3,e4,z2o hi,z0a p1,z0a p2,Bool.not_true]
 refine z0t (fun r q=>∃ (done left:List Nat) (t8:Tip) (e g0:Nat) (o0 o1:AObj),ss=done++left∧r=left.length∧Trees t (dep + 1) e left m∧e≤t.length∧(∀ x∈done,1≤x)∧q.ts 0= .sl (t.map eNode) .no∧q.ts 1= .int .i64 (i:Int)∧q.ts 2= .int .i64 (dep:Int)∧q.ts 8= .sl (done.map nat) t8∧q.ts 9= .int .i64 (e:Int)∧q.ts 10= .bool true∧q.ts 11= .int .i64 (done.length:Int)∧q.h=D++[o0,o1]∧q3t B 1 o1 t8 1) ss.length ⟨[],ss, .nil,i + 1,0,_,_,rfl,rfl,hT,hit,by simp,rfl,rfl,rfl,rfl,rfl,rfl,rfl,rfl, .inl rfl⟩ ?_
 rintro r ⟨ts,h,clk⟩ P ⟨done,left,t8,e,g0,o0,o1,hss,rfl,hT,he',hdone,q0,q1,q2,q8,q9,q10,q11,rfl,htip⟩ hnx he hr
 dsimp only at q0 q1 q2 q8 q9 q10 q11
 cases hT with
 | nil=>
   obtain rfl:done=ss:=by simpa using hss.symm
   have f1:decide ((done.length:Int) < (n.kids:Int))=false:=by rw[decide_eq_false_iff_not];omega
   simp only[go_sem,z0,z1,z2,z3,reduceCtorEq,↓reduceIte,j5w,q0,q1,q2,q8,q9,q10,q11,f1,z2o hi]
   refine he _ _ ?_
   have p3:∀ fi:Nat,(n.op=15→fi=3)→Pure Gam 164 [eNode n,nat fi, .sl (done.map nat) t8] (nat s):=fun fi h=>v3w hn (by omega) h
   cases hd0:done with
   | nil=>
     have p4:Pure Gam 164 [eNode n, .int .i64 0, .sl (done.map nat) t8] (nat s):=p3 0 fun h15=>absurd hd0 (hn.mul_ne h15)
     rw[hd0] at p4 q8
     simp only[eNode,nat,List.map_nil] at p4 q8
     simp only[go_sem,z0,z1,z2,z3,reduceCtorEq,↓reduceIte,q0,q1,q2,q8,q9,q10,Bool.not_true,z2o hi,z0a p4,decide_false,Int.reduceLT]
     rw[z0h rfl rfl]
     exact hR _
   | cons x0 d0=>
     obtain⟨c,hc,hc3⟩:=hf (by rw[hd0];simp)
     have p4:=p3 c.op hc3
     have g1:decide ((0:Int) < (done.length:Int))=true:=by rw[decide_eq_true_iff,hd0];simp
     simp only[eNode,nat] at p4
     simp only[go_sem,z0,z1,z2,z3,reduceCtorEq,↓reduceIte,q0,q1,q2,q8,q9,q10,Bool.not_true,List.length_map,g1,e4,z2o hi,z2o hc,z0a p4]
     rw[z0h rfl rfl]
     exact hR _
 | cons hp hs hm' hr'=>
   rename_i m' x left
   have f1:decide ((done.length:Int) < (n.kids:Int))=true:=by rw[decide_eq_true_iff,hk,hss];simp;omega
   have f2:IntKind.i64.wrap ((dep:Int) + 1)=((dep + 1:Nat):Int):=z0c (by omega) (by omega)
   have f3:decide ((m':Int) < 0)=false:=by rw[decide_eq_false_iff_not];omega
   have f4:decide ((0:Int) < (x:Int))=true:=by rw[decide_eq_true_iff];omega
   have f5:IntKind.i64.wrap ((done.length:Int) + 1)=((done.length + 1:Nat):Int):=z0c (by omega) (by rw[hss] at hsl;simp at hsl;omega)
   simp only[nat] at hp
   simp only[go_sem,z0,z1,z2,z3,reduceCtorEq,↓reduceIte,j5w,q0,q1,q2,q8,q9,q10,q11,f1,f2,f3,f4,f5,z2o hi,z0a hp]
   have happ:done.map nat++[nat x]=(done++[x]).map nat:=by simp
   rw[show [AV.int .i64 (x:Int)]=[x].map nat from rfl,z0s hB rfl htip z4k z4k (by rw[hss] at hsl;simp at hsl⊢;omega)]
   simp only[go_sem,z0,z1,z2,z3,reduceCtorEq,↓reduceIte,q0,q1,q2,q8,q9,q10,q11,f5,happ]
   refine hnx left.length _ (by simp) ⟨done++[x],left,_,m',0,_,_,by simp[hss],rfl,hr',hm',fun y hy=> ?_,q0,q1,q2,rfl,rfl,rfl,by rw[List.length_append];rfl,rfl, .inr (.inr ⟨_,rfl,rfl⟩)⟩
   rcases List.mem_append.1 hy with hy | hy
   ·exact hdone y hy
   ·rw[List.mem_singleton.1 hy];exact hs
theorem v4a {V:List Var} {t:Term} (hV:∀ v∈V,v∈z0o) (htl:t.length≤20000) {ss:List Nat} {d:Nat} {f:Term} (h:WF V ss d f):∀ {pre post:Term} {dep:Nat},t=pre++f++post→dep + d≤256→Trees t dep pre.length ss (pre.length + f.length):=by
 induction h with
 | nil=>intro pre post dep ht hd;exact .nil
 | @cons n ss ks s d ss' rest h1 h2 h3 h4 ih1 ih2=>
   intro pre post dep ht hd
   have hl:pre.length + (1 + ks.length + rest.length)≤t.length:=by rw[ht];simp;omega
   have i1:=ih1 (pre:=pre++[n]) (post:=rest++post) (dep:=dep + 1) (by rw[ht];simp) (by omega)
   have i2:=ih2 (pre:=pre++(n::ks)) (post:=post) (dep:=dep) (by rw[ht];simp) (by omega)
   simp only[List.length_append,List.length_cons,List.length_nil,Nat.zero_add] at i1 i2
   have hw:=h1.len
   have hit:t[pre.length]? =some n:=by rw[ht];simp
   refine .cons (m:=pre.length + (ks.length + 1)) (j9c (ks:=ks) hV htl (by omega) hit h2 h3 (by omega) (by omega) (by rw[show pre.length + (ks.length + 1)=pre.length + 1 + ks.length by omega];exact i1) fun hne=> ?_) (h2.pos hV).1 (by omega) ?_
   ·cases ks with
    | nil=>simp at hw;exact absurd hw hne
    | cons c r=>
      refine⟨c,by rw[ht];simp,fun h15=> ?_⟩
      obtain⟨m,r',he,hm⟩:=h2.mul_num h15
      injection he with he1 he2
      rw[he1]
      exact hm
   ·simp only[List.length_cons,List.length_append]
    rw[show pre.length + (ks.length + rest.length + 1)=pre.length + (ks.length + 1) + rest.length by omega]
    exact i2
theorem v4b {V:List Var} {t:Term} {s d:Nat} (hV:∀ v∈V,v∈z0o) (htl:t.length≤20000) (hd:d≤256) (h:WF V [s] d t):Pure Gam 117 [.sl (t.map eNode) .no, .int .i64 0, .int .i64 0] (.tup [nat t.length,nat s]):=by
 have:=v4a hV htl h (pre:=[]) (post:=[]) (dep:=0) (by simp) (by omega)
 cases this with
 | cons hp hs hm hr=>
   cases hr with
   | nil=>
     rw[List.length_nil,Nat.zero_add] at hp
     exact hp
theorem x8m:∀ v∈z0o,∀ w∈z0o,v.name=w.name→v=w:=by decide
theorem y3a {B clk i:Nat} {H:List AObj} {t:Term} {n:Node} {acc:List Var} {t3:Tip} {ts:Tmps} {ks:List Kf} {Q:Post} (hi:t[i]? =some n) (hl:acc.length≤20000) (hs:∀ v∈acc,v.name=n.name→v.sort=n.sort)
  (h0:ts 0= .sl (t.map eNode) .no) (h3:ts 3= .sl (acc.map z1p) t3) (h4:ts 4= .sl [] .nil) (h5:ts 5= .int .i64 (i:Int)) (h6:ts 6= .bool false) (h7:ts 7= .int .i64 0)
  (hQ:∀ (ts':Tmps) (clk':Nat),ts' 0= .sl (t.map eNode) .no→ts' 3= .sl (acc.map z1p) t3→ts' 4= .sl [] .nil→ts' 5= .int .i64 (i:Int)→ts' 6= .bool (acc.any fun v=>decide (v.name=n.name))→K Gam B (.exit 3) ks ⟨ts',H,clk'⟩ Q):K Gam B (.loop x5a) ks ⟨ts,H,clk⟩ Q:=by
 refine z0t (fun m q=>∃ j:Nat,j≤acc.length∧m=acc.length - j∧q.ts 0= .sl (t.map eNode) .no∧q.ts 3= .sl (acc.map z1p) t3∧q.ts 4= .sl [] .nil∧q.ts 5= .int .i64 (i:Int)∧q.ts 6= .bool ((acc.take j).any fun v=>decide (v.name=n.name))∧q.ts 7= .int .i64 (j:Int)∧q.h=H) acc.length ⟨0,by omega,rfl,h0,h3,h4,h5,h6,h7,rfl⟩ ?_
 clear h0 h3 h4 h5 h6 h7
 rintro m ⟨ts,h,clk⟩ P ⟨j,hj,rfl,h0,h3,h4,h5,h6,h7,rfl⟩ hnx he hr
 dsimp only at h0 h3 h4 h5 h6 h7
 by_cases hlt:j < acc.length
 ·have e1:decide ((j:Int) < (acc.length:Int))=true:=by rw[decide_eq_true_iff];omega
  have e4:IntKind.i64.wrap ((j:Int) + 1)=((j + 1:Nat):Int):=z0c (by omega) (by omega)
  have ht:acc.take (j + 1)=acc.take j++[acc[j]]:=List.take_succ_eq_append_getElem hlt
  have hsj:=hs acc[j] (List.getElem_mem hlt)
  by_cases hnm:acc[j].name=n.name
  ·have e2:decide (acc[j].name=n.name)=true:=by simp[hnm]
   have e3:decide (((acc[j].sort:Nat):Int)=((n.sort:Nat):Int))=true:=by rw[decide_eq_true_iff,hsj hnm]
   simp only[go_sem,z0,z1,z2,z3,reduceCtorEq,↓reduceIte,h0,h3,h4,h5,h6,h7,x5a,nat,List.length_map,e1,e2,e3,z8b hlt,z2o hi,e4,Bool.not_true]
   exact hnx (acc.length - (j + 1)) _ (by omega) ⟨j + 1,hlt,rfl,h0,h3,h4,h5,by rw[ht,List.any_append];simp[z0b,hnm],rfl,rfl⟩
  ·have e2:decide (acc[j].name=n.name)=false:=by simp[hnm]
   simp only[go_sem,z0,z1,z2,z3,reduceCtorEq,↓reduceIte,h0,h3,h4,h5,h6,h7,x5a,nat,List.length_map,e1,e2,z8b hlt,z2o hi,e4]
   exact hnx (acc.length - (j + 1)) _ (by omega) ⟨j + 1,hlt,rfl,h0,h3,h4,h5,by rw[ht,List.any_append];simp[z0b,hnm,h6],rfl,rfl⟩
 ·have e1:decide ((j:Int) < (acc.length:Int))=false:=by rw[decide_eq_false_iff_not];omega
  rw[List.take_of_length_le (by omega)] at h6
  simp only[go_sem,z0,z1,z2,z3,reduceCtorEq,↓reduceIte,h0,h3,h4,h5,h6,h7,x5a,List.length_map,e1]
  refine he _ _ ?_
  exact hQ _ _ (by simp[z0b,h0]) (by simp[z0b,h3]) (by simp[z0b,h4]) (by simp[z0b,h5]) (by simp[z0b,h6])
theorem v4c {V:List Var} {t:Term} (hV:∀ v∈V,v∈z0o) (htl:t.length≤20000) (hN:q8s V t):Pure Gam 118 [.sl (t.map eNode) .no] (.bool true):=by
 refine Pure.of rfl w9i rfl rfl rfl (az:=[.sl (t.map eNode) .no]) rfl (by simp[idsL,z6y]) fun D B clk T hB hT=> ?_
 simp only[go_sem,z0,z1,z2,z3,reduceCtorEq,↓reduceIte,w0j,hB]
 refine z0t (fun m q=>∃ (i:Nat) (acc:List Var) (t3:Tip) (o0 o1 o2 o3 o4:AObj),i≤t.length∧m=t.length - i∧acc.length≤i∧(∀ v∈acc,v∈z0o)∧q.ts 0= .sl (t.map eNode) .no∧q.ts 3= .sl (acc.map z1p) t3∧q.ts 4= .sl [] .nil∧q.ts 5= .int .i64 (i:Int)∧q.h=D++[o0,o1,o2,o3,o4]∧q3t B 1 o1 t3 2) t.length ⟨0,[], .nil,_,_,_,_,_,by omega,rfl,by simp,by simp,rfl,rfl,rfl,rfl,rfl, .inl rfl⟩ ?_
 rintro m ⟨ts,h,clk⟩ P ⟨i,acc,t3,o0,o1,o2,o3,o4,hi,rfl,hal,hacc,h0,h3,h4,h5,rfl,htip⟩ hnx he hr
 dsimp only at h0 h3 h4 h5
 by_cases hlt:i < t.length
 ·have f1:decide ((i:Int) < (t.length:Int))=true:=by rw[decide_eq_true_iff];omega
  have f2:IntKind.i64.wrap ((i:Int) + 1)=((i + 1:Nat):Int):=z0c (by omega) (by omega)
  have hti:t[i]? =some t[i]:=List.getElem?_eq_getElem hlt
  have hno:=hN t[i] (List.getElem_mem hlt)
  generalize t[i]=n at hti hno
  have f5:decide ((n.op:Int)=5)=false:=by rw[decide_eq_false_iff_not];have:=hno.1;omega
  by_cases h44:n.op=4
  ·obtain⟨v,hv,hvn,hvs⟩:=hno.2 h44
   have f4:decide ((n.op:Int)=4)=true:=by rw[decide_eq_true_iff];omega
   simp only[go_sem,z0,z1,z2,z3,reduceCtorEq,↓reduceIte,x9o,h0,h3,h4,h5,List.length_map,f1,f4,z2o hti]
   refine y3a hti (by omega) (fun w hw hwn=> ?_) h0 h3 h4 h5 rfl rfl ?_
   ·rw[x8m w (hacc w hw) v (hV v hv) (by rw[hwn,hvn]),hvs]
   clear h0 h3 h4 h5
   intro ts clk h0 h3 h4 h5 h6
   cases hk:acc.any fun v=>decide (v.name=n.name) with
   | true=>
     rw[hk] at h6
     simp only[go_sem,z0,z1,z2,z3,reduceCtorEq,↓reduceIte,h0,h3,h4,h5,h6,Bool.not_true,f2]
     exact hnx (t.length - (i + 1)) _ (by omega) ⟨i + 1,acc,_,_,_,_,_,_,hlt,rfl,by omega,hacc,h0,h3,h4,rfl,rfl,htip⟩
   | false=>
     rw[hk] at h6
     have e1:(AV.agg [.str n.name, .int .i64 (n.sort:Int)])=z1p v:=by rw[hvn,hvs];rfl
     simp only[go_sem,z0,z1,z2,z3,reduceCtorEq,↓reduceIte,h0,h3,h4,h5,h6,Bool.not_false,f2,z2o hti]
     rw[e1,show [z1p v]=[v].map z1p from rfl,z0s hB rfl htip z3z z3z (by simp only[List.length_map,List.length_singleton];omega)]
     have happ:acc.map z1p++[z1p v]=(acc++[v]).map z1p:=by simp
     simp only[go_sem,z0,z1,z2,z3,reduceCtorEq,↓reduceIte,h0,h3,h4,h5,h6,f2,happ]
     exact hnx (t.length - (i + 1)) _ (by omega) ⟨i + 1,acc++[v],_,_,_,_,_,_,hlt,rfl,by simp;omega,fun w hw=>by
      rcases List.mem_append.1 hw with hw | hw
      ·exact hacc w hw
      ·rw[List.mem_singleton.1 hw];exact hV v hv,h0,rfl,h4,rfl,rfl, .inr (.inr ⟨_,rfl,rfl⟩)⟩
  ·have f4:decide ((n.op:Int)=4)=false:=by rw[decide_eq_false_iff_not];omega
   simp only[go_sem,z0,z1,z2,z3,reduceCtorEq,↓reduceIte,x9o,h0,h3,h4,h5,List.length_map,f1,f2,f4,f5,z2o hti]
   exact hnx (t.length - (i + 1)) _ (by omega) ⟨i + 1,acc,_,_,_,_,_,_,hlt,rfl,by omega,hacc,h0,h3,h4,rfl,rfl,htip⟩
 ·have f1:decide ((i:Int) < (t.length:Int))=false:=by rw[decide_eq_false_iff_not];omega
  simp only[go_sem,z0,z1,z2,z3,reduceCtorEq,↓reduceIte,x9o,h0,h3,h4,h5,List.length_map,f1]
  refine he _ _ ?_
  simp only[go_sem,z0,z1,z2,z3,reduceCtorEq,↓reduceIte,h0,h3,h4,h5]
  clear h5 hnx he hr
  refine z0t (fun m q=>∃ j:Nat,j≤acc.length∧m=acc.length - j∧q.ts 3= .sl (acc.map z1p) t3∧q.ts 4= .sl [] .nil∧q.ts 11= .int .i64 (j:Int)∧q.h=D++[o0,o1,o2,o3,o4]) acc.length ⟨0,by omega,rfl,h3,h4,rfl,rfl⟩ ?_
  clear h0 h3 h4
  rintro m ⟨ts,h,clk⟩ P ⟨j,hj,rfl,h3,h4,h11,rfl⟩ hnx he hr
  dsimp only at h3 h4 h11
  by_cases hlt:j < acc.length
  ·have f1:decide ((j:Int) < (acc.length:Int))=true:=by rw[decide_eq_true_iff];omega
   have f2:IntKind.i64.wrap ((j:Int) + 1)=((j + 1:Nat):Int):=z0c (by omega) (by omega)
   simp only[go_sem,z0,z1,z2,z3,reduceCtorEq,↓reduceIte,j5x,h3,h4,h11,List.length_map,f1]
   refine z2v ?_
   simp only[go_sem,z0,z1,z2,z3,reduceCtorEq,↓reduceIte,k5z,h3,h4,h11,decide_false,Int.lt_irrefl,f2]
   exact hnx (acc.length - (j + 1)) _ (by omega) ⟨j + 1,hlt,rfl,h3,h4,rfl,rfl⟩
  ·have f1:decide ((j:Int) < (acc.length:Int))=false:=by rw[decide_eq_false_iff_not];omega
   simp only[go_sem,z0,z1,z2,z3,reduceCtorEq,↓reduceIte,j5x,h3,h4,h11,List.length_map,f1]
   refine he _ _ ?_
   simp only[go_sem,z0,z1,z2,z3,reduceCtorEq,↓reduceIte,]
   rw[z0f]
   exact hT _
theorem v4d {V:List Var} {t:Term} {s d:Nat} (hV:∀ v∈V,v∈z0o) (htl:t.length≤20000) (hd:d≤256) (h:WF V [s] d t) (hs:1≤s):Pure Gam 81 [z0g t] (nat s):=by
 have p1:=v4b hV htl hd h
 have p2:=v4c hV htl h.names
 refine Pure.of rfl w9g rfl rfl rfl (az:=[.sl (t.map eNode) .no]) rfl (by simp[idsL,z6y]) fun D B clk T hB hT=> ?_
 have e1:decide ((20000:Int) < (t.length:Int))=false:=by rw[decide_eq_false_iff_not];omega
 have e2:decide ((s:Int)=0)=false:=by rw[decide_eq_false_iff_not];omega
 simp only[nat] at p1
 simp only[go_sem,z0,z1,z2,z3,reduceCtorEq,↓reduceIte,w0g,hB,List.length_map,e1,e2,z0a p1,z0a p2,decide_true,Bool.not_true]
 rw[z0h rfl rfl]
 exact hT _
theorem v4e {B clk i s0:Nat} {H:List AObj} {t:Term} {n:Node} {V:List Var} {ts:Tmps} {ks:List Kf} {Q:Post} (hi:t[i]? =some n) (hl:V.length≤20000)
  (h0:ts 0= .sl (t.map eNode) .no) (h1:ts 1= .int .i64 (s0:Int)) (h2:ts 2= .sl (V.map z1p) .no) (h7:ts 7= .int .i64 (i:Int)) (h8:ts 8= .bool false) (h9:ts 9= .int .i64 0)
  (hQ:∀ (ts':Tmps) (clk':Nat),ts' 0= .sl (t.map eNode) .no→ts' 1= .int .i64 (s0:Int)→ts' 2= .sl (V.map z1p) .no→ts' 7= .int .i64 (i:Int)→ts' 8= .bool (V.any fun v=>decide (v.name=n.name) && decide (v.sort=n.sort))→K Gam B (.exit 2) ks ⟨ts',H,clk'⟩ Q):K Gam B (.loop x0y) ks ⟨ts,H,clk⟩ Q:=by
 refine z0t (fun m q=>∃ j:Nat,j≤V.length∧m=V.length - j∧q.ts 0= .sl (t.map eNode) .no∧q.ts 1= .int .i64 (s0:Int)∧q.ts 2= .sl (V.map z1p) .no∧q.ts 7= .int .i64 (i:Int)∧q.ts 8= .bool ((V.take j).any fun v=>decide (v.name=n.name) && decide (v.sort=n.sort))∧q.ts 9= .int .i64 (j:Int)∧q.h=H) V.length ⟨0,by omega,rfl,h0,h1,h2,h7,h8,h9,rfl⟩ ?_
 clear h0 h1 h2 h7 h8 h9
 rintro m ⟨ts,h,clk⟩ P ⟨j,hj,rfl,h0,h1,h2,h7,h8,h9,rfl⟩ hnx he hr
 dsimp only at h0 h1 h2 h7 h8 h9
 by_cases hlt:j < V.length
 ·have e1:decide ((j:Int) < (V.length:Int))=true:=by rw[decide_eq_true_iff];omega
  have e4:IntKind.i64.wrap ((j:Int) + 1)=((j + 1:Nat):Int):=z0c (by omega) (by omega)
  have ht:V.take (j + 1)=V.take j++[V[j]]:=List.take_succ_eq_append_getElem hlt
  have ha:∀ b,((V.take j).any fun v=>decide (v.name=n.name) && decide (v.sort=n.sort))=b→(b || (decide (V[j].name=n.name) && decide (V[j].sort=n.sort)))=((V.take (j + 1)).any fun v=>decide (v.name=n.name) && decide (v.sort=n.sort)):=fun b hb=>by
   rw[ht,List.any_append,hb]
   simp
  cases hb:(V.take j).any fun v=>decide (v.name=n.name) && decide (v.sort=n.sort) with
  | true=>
    have ha:=ha _ hb
    rw[hb] at h8
    simp only[go_sem,z0,z1,z2,z3,reduceCtorEq,↓reduceIte,h0,h1,h2,h7,h8,h9,x0y,nat,List.length_map,e1,e4]
    exact hnx (V.length - (j + 1)) _ (by omega) ⟨j + 1,hlt,rfl,h0,h1,h2,h7,by rw[←ha];rfl,rfl,rfl⟩
  | false=>
    have ha:=ha _ hb
    rw[hb] at h8
    by_cases hnm:V[j].name=n.name
    ·have e2:decide (V[j].name=n.name)=true:=by simp[hnm]
     have e3:decide ((V[j].sort:Int)=(n.sort:Int))=decide (V[j].sort=n.sort):=by rw[decide_eq_decide];omega
     simp only[go_sem,z0,z1,z2,z3,reduceCtorEq,↓reduceIte,h0,h1,h2,h7,h8,h9,x0y,nat,List.length_map,e1,e2,e3,z8b hlt,z2o hi,e4]
     exact hnx (V.length - (j + 1)) _ (by omega) ⟨j + 1,hlt,rfl,h0,h1,h2,h7,by rw[←ha,e2];simp[z0b],rfl,rfl⟩
    ·have e2:decide (V[j].name=n.name)=false:=by simp[hnm]
     simp only[go_sem,z0,z1,z2,z3,reduceCtorEq,↓reduceIte,h0,h1,h2,h7,h8,h9,x0y,nat,List.length_map,e1,e2,z8b hlt,z2o hi,e4]
     exact hnx (V.length - (j + 1)) _ (by omega) ⟨j + 1,hlt,rfl,h0,h1,h2,h7,by rw[←ha,e2];simp[z0b],rfl,rfl⟩
 ·have e1:decide ((j:Int) < (V.length:Int))=false:=by rw[decide_eq_false_iff_not];omega
  rw[List.take_of_length_le (by omega)] at h8
  simp only[go_sem,z0,z1,z2,z3,reduceCtorEq,↓reduceIte,h0,h1,h2,h7,h8,h9,x0y,List.length_map,e1]
  refine he _ _ ?_
  exact hQ _ _ (by simp[z0b,h0]) (by simp[z0b,h1]) (by simp[z0b,h2]) (by simp[z0b,h7]) (by simp[z0b,h8])
theorem j9d {V:List Var} {t:Term} {s d:Nat} (hV:∀ v∈V,v∈z0o) (hVl:V.length≤1000) (htl:t.length≤20000) (hd:d≤256) (h:WF V [s] d t) (hs:1≤s):Pure Gam 86 [z0g t,nat s, .sl (V.map z1p) .no] (.bool true):=by
 have p1:=v4d hV htl hd h hs
 have hN:=h.names
 refine Pure.of rfl w9f rfl rfl rfl (az:=[.sl (t.map eNode) .no,nat s, .sl (V.map z1p) .no]) rfl (by simp[idsL,z6y,z3h,z5e]) fun D B clk T hB hT=> ?_
 have e1:decide ((s:Int)=0)=false:=by rw[decide_eq_false_iff_not];omega
 simp only[nat,z0g] at p1
 simp only[go_sem,z0,z1,z2,z3,reduceCtorEq,↓reduceIte,w0f,hB,nat,e1,z0a p1,decide_true,Bool.not_true]
 refine z0t (fun m q=>∃ i:Nat,i≤t.length∧m=t.length - i∧q.ts 0= .sl (t.map eNode) .no∧q.ts 1= .int .i64 (s:Int)∧q.ts 2= .sl (V.map z1p) .no∧q.ts 7= .int .i64 (i:Int)∧q.h=D) t.length ⟨0,by omega,rfl,rfl,rfl,rfl,rfl,by simp⟩ ?_
 rintro m ⟨ts,h',clk⟩ P ⟨i,hi,rfl,h0,h1,h2,h7,rfl⟩ hnx he hr
 dsimp only at h0 h1 h2 h7
 by_cases hlt:i < t.length
 ·have f1:decide ((i:Int) < (t.length:Int))=true:=by rw[decide_eq_true_iff];omega
  have f2:IntKind.i64.wrap ((i:Int) + 1)=((i + 1:Nat):Int):=z0c (by omega) (by omega)
  have hti:t[i]? =some t[i]:=List.getElem?_eq_getElem hlt
  have hno:=hN t[i] (List.getElem_mem hlt)
  generalize t[i]=n at hti hno
  have f5:decide ((n.op:Int)=5)=false:=by rw[decide_eq_false_iff_not];have:=hno.1;omega
  by_cases h44:n.op=4
  ·obtain⟨v,hv,hvn,hvs⟩:=hno.2 h44
   have f4:decide ((n.op:Int)=4)=true:=by rw[decide_eq_true_iff];omega
   simp only[go_sem,z0,z1,z2,z3,reduceCtorEq,↓reduceIte,x9n,h0,h1,h2,h7,List.length_map,f1,f4,f5,z2o hti,Bool.not_true]
   refine v4e hti (by omega) h0 h1 h2 h7 rfl rfl ?_
   clear h0 h1 h2 h7
   intro ts clk h0 h1 h2 h7 h8
   have hk:(V.any fun v=>decide (v.name=n.name) && decide (v.sort=n.sort))=true:=List.any_eq_true.2 ⟨v,hv,by simp[hvn,hvs]⟩
   rw[hk] at h8
   simp only[go_sem,z0,z1,z2,z3,reduceCtorEq,↓reduceIte,h0,h1,h2,h7,h8,Bool.not_true,f2]
   exact hnx (t.length - (i + 1)) _ (by omega) ⟨i + 1,hlt,rfl,h0,h1,h2,rfl,rfl⟩
  ·have f4:decide ((n.op:Int)=4)=false:=by rw[decide_eq_false_iff_not];omega
   simp only[go_sem,z0,z1,z2,z3,reduceCtorEq,↓reduceIte,x9n,h0,h1,h2,h7,List.length_map,f1,f2,f4,f5,z2o hti,Bool.not_false]
   exact hnx (t.length - (i + 1)) _ (by omega) ⟨i + 1,hlt,rfl,h0,h1,h2,rfl,rfl⟩
 ·have f1:decide ((i:Int) < (t.length:Int))=false:=by rw[decide_eq_false_iff_not];omega
  simp only[go_sem,z0,z1,z2,z3,reduceCtorEq,↓reduceIte,x9n,h0,h1,h2,h7,List.length_map,f1]
  refine he _ _ ?_
  simp only[go_sem,z0,z1,z2,z3,reduceCtorEq,↓reduceIte,]
  rw[z0f]
  exact hT _
def q5v (ps:List Func) (nm:List Nat):Int:=match ps.findIdx? (fun p=>decide (p.name=nm)) with
 | some i=>(i:Int)
 | none=> -1
theorem q2z {ps:List Func} {nm:List Nat} {i:Nat} (hi:i < ps.length) (h:ps[i].name=nm) (hn:∀ p∈ps.take i,p.name≠nm):q5v ps nm=(i:Int):=by
 have:ps.findIdx? (fun p=>decide (p.name=nm))=some i:=by
  rw[List.findIdx?_eq_some_iff_getElem]
  refine⟨hi,by simp[h],fun j hj=> ?_⟩
  have:=hn ps[j] (List.mem_take_iff_getElem.2 ⟨j,by omega,rfl⟩)
  simp[this]
 rw[q5v,this]
theorem z8k {ps:List Func} {nm:List Nat} (hn:∀ p∈ps,p.name≠nm):q5v ps nm= -1:=by
 have:ps.findIdx? (fun p=>decide (p.name=nm))=none:=by
  rw[List.findIdx?_eq_none_iff]
  intro p hp
  simp[hn p hp]
 rw[q5v,this]
theorem q5w {s:Sys} {nm:List Nat} (hl:s.preds.length≤1000):Pure Gam 46 [z1u s, .str nm] (.int .i64 (q5v s.preds nm)):=by
 refine Pure.of rfl y7t rfl rfl rfl (az:=[z1u s, .str nm]) rfl (by simp[idsL,z2r,AV.ids]) fun D B clk T hB hT=> ?_
 simp only[go_sem,z0,z1,z2,z3,reduceCtorEq,↓reduceIte,y4o,hB,z1u]
 refine z0t (fun m q=>∃ (i g:Nat),i≤s.preds.length∧m=s.preds.length - i∧(∀ p∈s.preds.take i,p.name≠nm)∧q.ts 1= .str nm∧q.ts 2= .ptr (B + 0) g 0 0∧q.ts 5= .int .i64 (i:Int)∧q.h=D++[.blk g [.agg [.sl (s.preds.map z0p) .no, .sl (s.clauses.map z0e) .no]] false false 0]) s.preds.length ⟨0,_,by omega,rfl,by simp,rfl,rfl,rfl,rfl⟩ ?_
 rintro m ⟨ts,h',clk⟩ P ⟨i,g,hi,rfl,hno,h1,h2,h5,rfl⟩ hnx he hr
 dsimp only at h1 h2 h5
 by_cases hlt:i < s.preds.length
 ·have f1:decide ((i:Int) < (s.preds.length:Int))=true:=by rw[decide_eq_true_iff];omega
  have f2:IntKind.i64.wrap ((i:Int) + 1)=((i + 1:Nat):Int):=z0c (by omega) (by omega)
  have ht:s.preds.take (i + 1)=s.preds.take i++[s.preds[i]]:=List.take_succ_eq_append_getElem hlt
  by_cases hnm:s.preds[i].name=nm
  ·have e2:decide (s.preds[i].name=nm)=true:=by simp[hnm]
   simp only[go_sem,z0,z1,z2,z3,reduceCtorEq,↓reduceIte,k1o,h1,h2,h5,hB,List.length_map,f1,e2,z7k hlt]
   refine hr _ ?_
   rw[q2z hlt hnm hno] at hT
   simp only[go_sem,z0,z1,z2,z3,reduceCtorEq,↓reduceIte,]
   rw[z0h rfl rfl]
   exact hT _
  ·have e2:decide (s.preds[i].name=nm)=false:=by simp[hnm]
   simp only[go_sem,z0,z1,z2,z3,reduceCtorEq,↓reduceIte,k1o,h1,h2,h5,hB,List.length_map,f1,f2,e2,z7k hlt]
   refine hnx (s.preds.length - (i + 1)) _ (by omega) ⟨i + 1,g,hlt,rfl,fun p hp=> ?_,h1,h2,rfl,rfl⟩
   rw[ht] at hp
   rcases List.mem_append.1 hp with hp | hp
   ·exact hno p hp
   ·rw[List.mem_singleton.1 hp];exact hnm
 ·have f1:decide ((i:Int) < (s.preds.length:Int))=false:=by rw[decide_eq_false_iff_not];omega
  rw[List.take_of_length_le (by omega)] at hno
  simp only[go_sem,z0,z1,z2,z3,reduceCtorEq,↓reduceIte,k1o,h1,h2,h5,hB,List.length_map,f1]
  refine he _ _ ?_
  rw[z8k hno] at hT
  simp only[go_sem,z0,z1,z2,z3,reduceCtorEq,↓reduceIte,]
  rw[z0h rfl rfl]
  exact hT _
theorem v4f {V:List Var} {nm:List Nat} {u:Tip} (hl:V.length≤1000) (hno:∀ v∈V,v.name≠nm):Pure Gam 114 [.sl (V.map z1p) u, .str nm] (.bool false):=by
 refine Pure.of rfl w9q rfl rfl rfl (az:=[.sl (V.map z1p) .no, .str nm]) rfl (by simp[idsL,z5e,AV.ids,z0d z5x]) fun D B clk T hB hT=> ?_
 simp only[go_sem,z0,z1,z2,z3,reduceCtorEq,↓reduceIte,w0n,hB]
 refine z0t (fun m q=>∃ (i:Nat),i≤V.length∧m=V.length - i∧q.ts 0= .sl (V.map z1p) .no∧q.ts 1= .str nm∧q.ts 5= .int .i64 (i:Int)∧q.h=D) V.length ⟨0,by omega,rfl,rfl,rfl,rfl,by simp⟩ ?_
 rintro m ⟨ts,h',clk⟩ P ⟨i,hi,rfl,h0,h1,h5,rfl⟩ hnx he hr
 dsimp only at h0 h1 h5
 by_cases hlt:i < V.length
 ·have f1:decide ((i:Int) < (V.length:Int))=true:=by rw[decide_eq_true_iff];omega
  have f2:IntKind.i64.wrap ((i:Int) + 1)=((i + 1:Nat):Int):=z0c (by omega) (by omega)
  have e2:decide (V[i].name=nm)=false:=by simp[hno _ (List.getElem_mem hlt)]
  simp only[go_sem,z0,z1,z2,z3,reduceCtorEq,↓reduceIte,j5z,h0,h1,h5,hB,List.length_map,f1,f2,e2,z8b hlt]
  exact hnx (V.length - (i + 1)) _ (by omega) ⟨i + 1,hlt,rfl,h0,h1,rfl,rfl⟩
 ·have f1:decide ((i:Int) < (V.length:Int))=false:=by rw[decide_eq_false_iff_not];omega
  simp only[go_sem,z0,z1,z2,z3,reduceCtorEq,↓reduceIte,j5z,h0,h1,h5,hB,List.length_map,f1]
  refine he _ _ ?_
  simp only[go_sem,z0,z1,z2,z3,reduceCtorEq,↓reduceIte,]
  rw[z0f]
  exact hT _
theorem z9v {ps:List Func} {f:Func} (hp:PrOk ps) (hf:f∈ps):∃ k,∃ h:k < ps.length,ps[k]=f∧q5v ps f.name=(k:Int):=by
 obtain⟨k,hk,rfl⟩:=List.mem_iff_getElem.1 hf
 refine⟨k,hk,rfl,q2z hk rfl fun p hpm e=> ?_⟩
 have h3:=hp.nodup
 have h4:((ps.take (k + 1)).map (·.name)).Nodup:=h3.sublist ((List.take_sublist _ _).map _)
 rw[List.take_succ_eq_append_getElem hk,List.map_append,List.nodup_append] at h4
 exact h4.2.2 _ (List.mem_map.2 ⟨p,hpm,rfl⟩) _ (by simp) e
theorem v4g {s:Sys} {c:Clause} {a:App} (hs:SysV s) (hV:∀ v∈c.vars,v∈z0o) (hVl:c.vars.length≤1000) (ha:AppOk s.preds c.vars a):Pure Gam 85 [z1u s,z0e c,z2y a] (.bool true):=by
 obtain⟨f,hf,hpn,hal,hz⟩:=ha
 obtain⟨k,hk,hkf,hpa⟩:=z9v hs.pr hf
 have hfl:=(hs.pr.args f hf).1
 have hpl:s.preds.length≤1000:=by have:=hs.preds.length_le;simp[allPreds] at this;omega
 have p1:=q5w (s:=s) (nm:=a.pred) hpl
 rw[hpn,hpa] at p1
 simp only[z1u] at p1
 refine Pure.of rfl w9e rfl rfl rfl (az:=[z1u s,z0e c,z2y a]) rfl (by simp[idsL,z2r,z1s,z4g]) fun D B clk T hB hT=> ?_
 have e1:decide ((k:Int) < 0)=false:=by rw[decide_eq_false_iff_not];omega
 simp only[go_sem,z0,z1,z2,z3,reduceCtorEq,↓reduceIte,w0e,hB,z1u,z0e,z2y,hpn,List.length_map,z0a p1,e1,hal,z7k hk,hkf,decide_true,Bool.not_true]
 refine z0t (fun m q=>∃ (i g0 g1 g2:Nat),i≤f.args.length∧m=f.args.length - i∧q.ts 3= .ptr (B + 0) g0 0 0∧q.ts 4= .ptr (B + 1) g1 0 0∧q.ts 5= .ptr (B + 2) g2 0 0∧q.ts 7= .int .i64 (k:Int)∧q.ts 8= .int .i64 (i:Int)∧q.h=D++[.blk g0 [.agg [.sl (s.preds.map z0p) .no, .sl (s.clauses.map z0e) .no]] false false 0, .blk g1 [.agg [.sl (c.vars.map z1p) .no, .sl (c.body.map z2y) .no,z0g c.guard, .str c.head.pred, .sl (c.head.args.map z0g) .no]] false false 0, .blk g2 [.agg [.str f.name, .sl (a.args.map z0g) .no]] false false 0]) f.args.length ⟨0,_,_,_,by omega,rfl,rfl,rfl,rfl,rfl,rfl,rfl⟩ ?_
 rintro m ⟨ts,h',clk⟩ P ⟨i,g0,g1,g2,hi,rfl,h3,h4,h5,h7,h8,rfl⟩ hnx he hr
 dsimp only at h3 h4 h5 h7 h8
 by_cases hlt:i < f.args.length
 ·have f1:decide ((i:Int) < (f.args.length:Int))=true:=by rw[decide_eq_true_iff];omega
  have f2:IntKind.i64.wrap ((i:Int) + 1)=((i + 1:Nat):Int):=z0c (by omega) (by omega)
  have hlt2:i < a.args.length:=by omega
  have hg:=hz (f.args[i],a.args[i]) (by
   rw[List.mem_iff_getElem]
   exact⟨i,by simp;omega,by simp⟩)
  have p2:=j9d hV hVl (by have:=hg.2.1;omega) (by decide) hg.1 hg.2.2.1
  simp only[nat] at p2
  simp only[go_sem,z0,z1,z2,z3,reduceCtorEq,↓reduceIte,j5v,h3,h4,h5,h7,h8,hB,List.length_map,hal,f1,f2,q1x hlt2,z7k hk,hkf,q8e hlt,nat,z0a p2,Bool.not_true]
  exact hnx (f.args.length - (i + 1)) _ (by omega) ⟨i + 1,g0,g1,g2,hlt,rfl,h3,h4,h5,h7,rfl,rfl⟩
 ·have f1:decide ((i:Int) < (f.args.length:Int))=false:=by rw[decide_eq_false_iff_not];omega
  simp only[go_sem,z0,z1,z2,z3,reduceCtorEq,↓reduceIte,j5v,h3,h4,h5,h7,h8,hB,List.length_map,hal,f1]
  refine he _ _ ?_
  simp only[go_sem,z0,z1,z2,z3,reduceCtorEq,↓reduceIte,]
  rw[z0f]
  exact hT _
theorem q9d {V:List Var} (h:List.Sublist V z0o):V.length≤8:=by have:=h.length_le;simpa [z0o] using this
theorem v4h {s:Sys} {V:List Var} (hs:SysV s) (hV:List.Sublist V z0o):Pure Gam 84 [z1u s, .sl (V.map z1p) .no] (.bool true):=by
 have hVl:=q9d hV
 have hnd:(V.map (·.name)).Nodup:=(hV.map _).nodup (by decide)
 have hpl:s.preds.length≤1000:=by have:=hs.preds.length_le;simp[allPreds] at this;omega
 refine Pure.of rfl w9d rfl rfl rfl (az:=[z1u s, .sl (V.map z1p) .no]) rfl (by simp[idsL,z2r,z5e]) fun D B clk T hB hT=> ?_
 simp only[go_sem,z0,z1,z2,z3,reduceCtorEq,↓reduceIte,w0d,hB,z1u]
 refine z0t (fun m q=>∃ (i g0:Nat),i≤V.length∧m=V.length - i∧q.ts 1= .sl (V.map z1p) .no∧q.ts 2= .ptr (B + 0) g0 0 0∧q.ts 5= .int .i64 (i:Int)∧q.h=D++[.blk g0 [.agg [.sl (s.preds.map z0p) .no, .sl (s.clauses.map z0e) .no]] false false 0]) V.length ⟨0,_,by omega,rfl,rfl,rfl,rfl,rfl⟩ ?_
 rintro m ⟨ts,h',clk⟩ P ⟨i,g0,hi,rfl,h1,h2,h5,rfl⟩ hnx he hr
 dsimp only at h1 h2 h5
 by_cases hlt:i < V.length
 ·have f1:decide ((i:Int) < (V.length:Int))=true:=by rw[decide_eq_true_iff];omega
  have f2:IntKind.i64.wrap ((i:Int) + 1)=((i + 1:Nat):Int):=z0c (by omega) (by omega)
  have hv:V[i]∈z0o:=hV.mem (List.getElem_mem hlt)
  have hnew:∀ v∈V.take i,v.name≠V[i].name:=fun v hv e=>by
   have h4:((V.take (i + 1)).map (·.name)).Nodup:=hnd.sublist ((List.take_sublist _ _).map _)
   rw[List.take_succ_eq_append_getElem hlt,List.map_append,List.nodup_append] at h4
   exact h4.2.2 _ (List.mem_map.2 ⟨v,hv,rfl⟩) _ (by simp) e
  have hso:=q4b hv
  have p1:=j9b hv
  have p2:=j8y hso.1 hso.2
  have p3:=v4f (u:= .no) (V:=V.take i) (nm:=V[i].name) (by simp;omega) hnew
  have p4:=q5w (s:=s) (nm:=V[i].name) hpl
  rw[z8k fun p hp=>hs.apart p hp _ hv] at p4
  simp only[nat,z1u] at p2 p4
  have e3:∀ h,slV h (some 2) (.sl (V.map z1p) .no) none (some (.int .i64 (i:Int))) none=some (.sl ((V.take i).map z1p) .no,h):=fun h=>by
   have hh:z4e 2 (V.map z1p)=true:=by cases V <;> rfl
   rw[q6k (by simp;omega) hh,List.map_take];simp
  simp only[go_sem,z0,z1,z2,z3,reduceCtorEq,↓reduceIte,j5u,h1,h2,h5,hB,List.length_map,f1,f2,z8b hlt,nat,z0a p1,z0a p2,e3,z0a p3,z0a p4,Bool.not_true,Bool.not_false,Int.reduceLE,decide_false]
  exact hnx (V.length - (i + 1)) _ (by omega) ⟨i + 1,g0,hlt,rfl,h1,h2,rfl,rfl⟩
 ·have f1:decide ((i:Int) < (V.length:Int))=false:=by rw[decide_eq_false_iff_not];omega
  simp only[go_sem,z0,z1,z2,z3,reduceCtorEq,↓reduceIte,j5u,h1,h2,h5,hB,List.length_map,f1]
  refine he _ _ ?_
  simp only[go_sem,z0,z1,z2,z3,reduceCtorEq,↓reduceIte,]
  rw[z0f]
  exact hT _
end Go.Proofs.YtmkblnlafljljaaGreatDoor.Am
