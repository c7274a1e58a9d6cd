/- Walking: the program's numbers Functions of the abstract machine's program Walking: the program's numbers Walking: a number is cut at its slash Walking: a number is cut at its slash Walking: a number  -/
import Derived.Test.YtkollgjffkdliaaGreatDoorM27
open Nat renaming reduceBEq → z0,reduceAdd → z1,reduceLeDiff → z2,reduceSub → z3
set_option linter.all false
namespace Go.Proofs.YtkollgjffkdliaaGreatDoor.Am
open Go
set_option maxRecDepth 100000
theorem j6o {h:List AObj} {c:Nat} {s:List Nat} {k:IntKind}:slV h none (.str (c::s)) none (some (.int k 1)) none=some (.str [c],h):=by
 simp[slV,z2w,z5b]
theorem j3i {t:List Nat}:Pure Gam 328 [.str (45::t), .str [45]] (.bool true):=by
 refine Pure.of rfl y3x rfl rfl rfl rfl rfl fun D B clk T hB hT=> ?_
 have e1:decide ((1:Int)≤((t.length + 1:Nat):Int))=true:=by rw[decide_eq_true_iff];omega
 simp only[go_sem,w2r,Nat.zero_add,Int.cast_ofNat_Int,e1,j6o,decide_true]
 rw[z0e]
 exact hT _
theorem j3j {c:Nat} {t:List Nat} (hc:c≠45):Pure Gam 328 [.str (c::t), .str [45]] (.bool false):=by
 refine Pure.of rfl y3x rfl rfl rfl rfl rfl fun D B clk T hB hT=> ?_
 have e1:decide ((1:Int)≤((t.length + 1:Nat):Int))=true:=by rw[decide_eq_true_iff];omega
 have e2:decide ([c]=[45])=false:=by simp[hc]
 simp only[go_sem,w2r,Nat.zero_add,Int.cast_ofNat_Int,e1,j6o,e2]
 rw[z0e]
 exact hT _
theorem x1e {t:List Nat}:Pure Gam 291 [.str (45::t), .str [45]] (.tup [.str t, .bool true]):=by
 have hp:Pure Gam 316 [.str (45::t), .str [45]] (.tup [.str t, .bool true]):=by
  refine Pure.of rfl y3w rfl rfl rfl rfl rfl fun D B clk T hB hT=> ?_
  simp only[go_sem,w2q]
  rw[z0a j3i]
  simp only[go_sem,Bool.not_true,Nat.zero_add,Int.cast_ofNat_Int,x0z]
  rw[z0g rfl rfl]
  exact hT _
 refine Pure.of rfl y3v rfl rfl rfl rfl rfl fun D B clk T hB hT=> ?_
 simp only[go_sem,w2p]
 rw[z0a hp]
 simp only[go_sem,]
 rw[z0g rfl rfl]
 exact hT _
theorem x1f {c:Nat} {t:List Nat} (hc:c≠45):Pure Gam 291 [.str (c::t), .str [45]] (.tup [.str (c::t), .bool false]):=by
 have hp:Pure Gam 316 [.str (c::t), .str [45]] (.tup [.str (c::t), .bool false]):=by
  refine Pure.of rfl y3w rfl rfl rfl rfl rfl fun D B clk T hB hT=> ?_
  simp only[go_sem,w2q]
  rw[z0a (j3j hc)]
  simp only[go_sem,Bool.not_false]
  rw[z0g rfl rfl]
  exact hT _
 refine Pure.of rfl y3v rfl rfl rfl rfl rfl fun D B clk T hB hT=> ?_
 simp only[go_sem,w2p]
 rw[z0a hp]
 simp only[go_sem,]
 rw[z0g rfl rfl]
 exact hT _
section
open Sh
set_option maxHeartbeats 0
noncomputable def y5e:AFun:=(fun (a:AFun) (_:Gam.fn 157=some a)=>a) _ (by conv=>lhs;reduce;simp only[Int.reduceOfNat,Int.reduceNegSucc])
theorem u4g:Gam.fn 157=some y5e:=by kernel_rfl
noncomputable def y5f:AFun:=(fun (a:AFun) (_:Gam.fn 158=some a)=>a) _ (by conv=>lhs;reduce;simp only[Int.reduceOfNat,Int.reduceNegSucc])
theorem u4h:Gam.fn 158=some y5f:=by kernel_rfl
noncomputable def y5g:AFun:=(fun (a:AFun) (_:Gam.fn 160=some a)=>a) _ (by conv=>lhs;reduce;simp only[Int.reduceOfNat,Int.reduceNegSucc])
theorem u4i:Gam.fn 160=some y5g:=by kernel_rfl
noncomputable def y5h:AFun:=(fun (a:AFun) (_:Gam.fn 226=some a)=>a) _ (by conv=>lhs;reduce;simp only[Int.reduceOfNat,Int.reduceNegSucc])
theorem u4j:Gam.fn 226=some y5h:=by kernel_rfl
noncomputable def u8r:AFun:=(fun (a:AFun) (_:Gam.fn 193=some a)=>a) _ (by conv=>lhs;reduce;simp only[Int.reduceOfNat,Int.reduceNegSucc])
noncomputable def x4j:ACode:=(fun (a:ACode) (_:fl [] (lp u8r 0)=a)=>a) _ (by conv=>lhs;reduce;simp only[Int.reduceOfNat,Int.reduceNegSucc])
attribute [local irreducible] x4j
noncomputable def y5i:AFun:=(fun (a:AFun) (_:flF [x4j] u8r=a)=>a) _ (by conv=>lhs;reduce;simp only[Int.reduceOfNat,Int.reduceNegSucc])
theorem u4k:Gam.fn 193=some y5i:=by kernel_rfl
noncomputable def u8s:AFun:=(fun (a:AFun) (_:Gam.fn 192=some a)=>a) _ (by conv=>lhs;reduce;simp only[Int.reduceOfNat,Int.reduceNegSucc])
noncomputable def q6b:ACode:=(fun (a:ACode) (_:fl [] (lp u8s 0)=a)=>a) _ (by conv=>lhs;reduce;simp only[Int.reduceOfNat,Int.reduceNegSucc])
attribute [local irreducible] q6b
noncomputable def y5j:AFun:=(fun (a:AFun) (_:flF [q6b] u8s=a)=>a) _ (by conv=>lhs;reduce;simp only[Int.reduceOfNat,Int.reduceNegSucc])
theorem u4l:Gam.fn 192=some y5j:=by kernel_rfl
noncomputable def y5k:AFun:=(fun (a:AFun) (_:Gam.fn 194=some a)=>a) _ (by conv=>lhs;reduce;simp only[Int.reduceOfNat,Int.reduceNegSucc])
theorem u4m:Gam.fn 194=some y5k:=by kernel_rfl
noncomputable def j3k:AFun:=(fun (a:AFun) (_:Gam.fn 189=some a)=>a) _ (by conv=>lhs;reduce;simp only[Int.reduceOfNat,Int.reduceNegSucc])
theorem k4r:Gam.fn 189=some j3k:=by kernel_rfl
noncomputable def x2w:AFun:=(fun (a:AFun) (_:Gam.fn 190=some a)=>a) _ (by conv=>lhs;reduce;simp only[Int.reduceOfNat,Int.reduceNegSucc])
theorem u4n:Gam.fn 190=some x2w:=by kernel_rfl
noncomputable def q2x:AFun:=(fun (a:AFun) (_:Gam.fn 191=some a)=>a) _ (by conv=>lhs;reduce;simp only[Int.reduceOfNat,Int.reduceNegSucc])
theorem u4o:Gam.fn 191=some q2x:=by kernel_rfl
noncomputable def w3f:AFun:=(fun (a:AFun) (_:Gam.fn 245=some a)=>a) _ (by conv=>lhs;reduce;simp only[Int.reduceOfNat,Int.reduceNegSucc])
theorem y5l:Gam.fn 245=some w3f:=by kernel_rfl
noncomputable def y5m:AFun:=(fun (a:AFun) (_:Gam.fn 246=some a)=>a) _ (by conv=>lhs;reduce;simp only[Int.reduceOfNat,Int.reduceNegSucc])
theorem u4p:Gam.fn 246=some y5m:=by kernel_rfl
noncomputable def w3g:AFun:=(fun (a:AFun) (_:Gam.fn 247=some a)=>a) _ (by conv=>lhs;reduce;simp only[Int.reduceOfNat,Int.reduceNegSucc])
theorem u4q:Gam.fn 247=some w3g:=by kernel_rfl
noncomputable def y5n:AFun:=(fun (a:AFun) (_:Gam.fn 248=some a)=>a) _ (by conv=>lhs;reduce;simp only[Int.reduceOfNat,Int.reduceNegSucc])
theorem u4r:Gam.fn 248=some y5n:=by kernel_rfl
noncomputable def y5o:AFun:=(fun (a:AFun) (_:Gam.fn 249=some a)=>a) _ (by conv=>lhs;reduce;simp only[Int.reduceOfNat,Int.reduceNegSucc])
theorem u4s:Gam.fn 249=some y5o:=by kernel_rfl
noncomputable def y5p:AFun:=(fun (a:AFun) (_:Gam.fn 250=some a)=>a) _ (by conv=>lhs;reduce;simp only[Int.reduceOfNat,Int.reduceNegSucc])
theorem u4t:Gam.fn 250=some y5p:=by kernel_rfl
noncomputable def y5q:AFun:=(fun (a:AFun) (_:Gam.fn 293=some a)=>a) _ (by conv=>lhs;reduce;simp only[Int.reduceOfNat,Int.reduceNegSucc])
theorem u4u:Gam.fn 293=some y5q:=by kernel_rfl
noncomputable def y5r:AFun:=(fun (a:AFun) (_:Gam.fn 197=some a)=>a) _ (by conv=>lhs;reduce;simp only[Int.reduceOfNat,Int.reduceNegSucc])
theorem u4v:Gam.fn 197=some y5r:=by kernel_rfl
noncomputable def u8t:AFun:=(fun (a:AFun) (_:Gam.fn 255=some a)=>a) _ (by conv=>lhs;reduce;simp only[Int.reduceOfNat,Int.reduceNegSucc])
noncomputable def x4k:ACode:=(fun (a:ACode) (_:fl [] (lp u8t 0)=a)=>a) _ (by conv=>lhs;reduce;simp only[Int.reduceOfNat,Int.reduceNegSucc])
attribute [local irreducible] x4k
noncomputable def y5s:AFun:=(fun (a:AFun) (_:flF [x4k] u8t=a)=>a) _ (by conv=>lhs;reduce;simp only[Int.reduceOfNat,Int.reduceNegSucc])
theorem u4w:Gam.fn 255=some y5s:=by kernel_rfl
noncomputable def w3h:AFun:=(fun (a:AFun) (_:Gam.fn 251=some a)=>a) _ (by conv=>lhs;reduce;simp only[Int.reduceOfNat,Int.reduceNegSucc])
theorem u4x:Gam.fn 251=some w3h:=by kernel_rfl
end
theorem x1g {s:List Nat} {i:Nat} {h:List AObj} {t:Tip} {k:IntKind} (hi:i < s.length):z1p h 1 (.sl (bytes s) t) (.int k (i:Int))=some (.iptr [.int .u8 (s[i]:Int)] 0,h):=z4h (e:= .int .u8 (s[i]:Int)) (by simp[bytes,hi]) rfl
theorem q7e {n:Nat} (hl:(dec n).length≤1000):Pure Gam 292 [.str (dec n)] (.bool true):=by
 refine Pure.of rfl u3c rfl rfl rfl rfl rfl fun D B clk T hB hT=> ?_
 have hd:=z1m n
 have hb:(dec n).map (fun (b:Nat)=>AV.int .u8 (Int.ofNat b))=bytes (dec n):=rfl
 simp only[go_sem,y3y,hb,q5y]
 refine z1f (fun m q=>∃ j:Nat,j≤(dec n).length∧m=(dec n).length - j∧q.ts 0= .str (dec n)∧q.ts 6= .sl (bytes (dec n)) .no∧q.ts 7= .int .i64 ((dec n).length:Int)∧q.ts 8= .int .i64 (j:Int)∧q.h=D++[]) (dec n).length ⟨0,by omega,rfl,rfl,rfl,rfl,rfl,rfl⟩ ?_
 rintro m ⟨ts,h,clk⟩ P ⟨j,hj,rfl,h0,h6,h7,h8,rfl⟩ hn he hr
 dsimp only at h0 h6 h7 h8
 by_cases hlt:j < (dec n).length
 ·have e1:decide ((j:Int) < ((dec n).length:Int))=true:=by rw[decide_eq_true_iff];omega
  have hc:=hd _ (List.getElem_mem hlt)
  have e2:decide (((dec n)[j]:Int) < 48)=false:=by rw[decide_eq_false_iff_not];omega
  have e3:decide ((57:Int) < ((dec n)[j]:Int))=false:=by rw[decide_eq_false_iff_not];omega
  have e4:IntKind.i64.wrap ((j:Int) + 1)=((j + 1:Nat):Int):=z0c (by omega) (by omega)
  simp only[go_sem,h0,h6,h7,h8,j5y,e1,x1g hlt,e2,e3,e4]
  exact hn ((dec n).length - (j + 1)) _ (by omega) ⟨j + 1,hlt,rfl,h0,h6,h7,rfl,rfl⟩
 ·have e1:decide ((j:Int) < ((dec n).length:Int))=false:=by rw[decide_eq_false_iff_not];omega
  simp only[go_sem,h0,h6,h7,h8,j5y,e1]
  refine he _ _ ?_
  rcases Nat.eq_zero_or_pos n with rfl | hpos
  ·have e2:decide (dec 0=[48])=true:=by rw[z1t];rfl
   simp only[go_sem,h0,e2,Bool.not_true]
   rw[z0e]
   exact hT _
  ·obtain⟨c,t,hct,hc1,hc2⟩:=j5r hpos
   have e2:decide (dec n=[48])=false:=by rw[z1t,decide_eq_false_iff_not];omega
   have e3:decide (dec n=[])=false:=by simp[z7w n]
   have e4:∀ h k,q4u h (.str (dec n)) (.int k 0)=some (.int .u8 (c:Int),h):=fun h k=>by rw[hct];exact z6j
   have e5:decide ((c:Int)=48)=false:=by rw[decide_eq_false_iff_not];omega
   simp only[go_sem,h0,e2,e3,e4,e5,Bool.not_false,Bool.not_true]
   rw[z0e]
   exact hT _
theorem k4s {z:Int} (hl:(dec z.natAbs).length≤1000):Pure Gam 247 [.str (z0i z)] (.bool true):=by
 refine Pure.of rfl u4q rfl rfl rfl rfl rfl fun D B clk T hB hT=> ?_
 by_cases hz:z < 0
 ·have e1:decide (dec z.natAbs=[48])=false:=by rw[z1t,decide_eq_false_iff_not];omega
  rw[z0i,if_pos hz]
  simp only[go_sem,w3g]
  rw[z0a x1e]
  simp only[go_sem,]
  rw[z0a (q7e hl)]
  simp only[go_sem,e1,Bool.not_false]
  rw[z0e]
  exact hT _
 ·obtain⟨c,t,hct⟩:=List.exists_cons_of_ne_nil (z7w z.natAbs)
  have hc:=z1m z.natAbs c (by rw[hct];exact List.mem_cons_self)
  have hp:Pure Gam 291 [.str (dec z.natAbs), .str [45]] (.tup [.str (dec z.natAbs), .bool false]):=by rw[hct];exact x1f (by omega)
  rw[z0i,if_neg hz]
  simp only[go_sem,w3g]
  rw[z0a hp]
  simp only[go_sem,]
  rw[z0a (q7e hl)]
  simp only[go_sem,Bool.not_false]
  rw[z0e]
  exact hT _
theorem Pure.ext {f:Nat} {args:List AV} {sem:List AV→Option AV} {v:AV} (hext:Gam.ext f=some sem) (hobs:z4r args=[]) (hv:sem (cvL args)=some v):Pure Gam f args v:=by
 intro h clk
 constructor
 ·refine⟨0, ?_⟩
  unfold z5g z0o
  simp only[hext,z1o hobs,z4u hobs,List.isEmpty_nil,if_true,hv,Option.map_some]
 ·unfold z1a
  simp only[hext,hobs,List.map_nil,List.append_nil]
def q2y (s:List Nat):Int:=match s.findIdx? (fun (b:Nat)=>decide ((b:Int)=47)) with
 | some i=>(i:Int)
 | none=> -1
theorem w3i {s:List Nat}:Pure Gam 354 [.str s, .int .u8 47] (.int .i64 (q2y s)):=Pure.ext (sem:=x3f) rfl rfl (by simp[cvL,AV.cv,x3f,q2y];rfl)
theorem k4t {c:Nat} {t:List Nat} (hc:c≠47):Pure Gam 334 [.str (c::t), .str [47]] (.int .i64 (q2y (c::t))):=by
 have h292:Pure Gam 344 [.str (c::t), .int .u8 47] (.int .i64 (q2y (c::t))):=by
  refine Pure.of rfl u3e rfl rfl rfl rfl rfl fun D B clk T hB hT=> ?_
  simp only[go_sem,y4e]
  rw[z0a w3i]
  simp only[go_sem,]
  rw[z2l]
  exact hT _
 refine Pure.of rfl u3d rfl rfl rfl rfl rfl fun D B clk T hB hT=> ?_
 have e2:decide ([47]=c::t)=false:=by rw[decide_eq_false_iff_not];intro h;injection h with h1 _;exact hc h1.symm
 simp only[go_sem,y4d,Nat.zero_add,Int.cast_ofNat_Int,Int.reduceEq,decide_true,decide_false,Bool.not_false,e2,z6j]
 rw[z0a h292]
 simp only[go_sem,]
 rw[z2l]
 exact hT _
theorem j9y {s:List Nat} (hd:∀ c∈s,c≠47):q2y s= -1:=by
 unfold q2y
 rw[List.findIdx?_eq_none_iff.2 fun c hc=>by have:=hd c hc;simp;omega]
theorem v0z {s r:List Nat} (hd:∀ c∈s,c≠47):q2y (s++47::r)=(s.length:Int):=by
 have h:(s++47::r).findIdx? (fun (b:Nat)=>decide ((b:Int)=47))=some s.length:=by
  induction s with
  | nil=>simp[List.findIdx?_cons]
  | cons c s ih=>
    have hc:=hd c List.mem_cons_self
    have:=ih fun d hd'=>hd d (List.mem_cons_of_mem _ hd')
    rw[List.cons_append,List.findIdx?_cons,this]
    have:decide ((c:Int)=47)=false:=by rw[decide_eq_false_iff_not];omega
    simp[this]
 unfold q2y
 rw[h]
theorem j0f {s:List Nat} (hne:s≠[]) (hd:∀ c∈s,c≠47):Pure Gam 322 [.str s, .str [47]] (.tup [.str s, .str [], .bool false]):=by
 obtain⟨c,t,rfl⟩:=List.exists_cons_of_ne_nil hne
 have hp:Pure Gam 329 [.str (c::t), .str [47]] (.tup [.str (c::t), .str [], .bool false]):=by
  refine Pure.of rfl y4c rfl rfl rfl rfl rfl fun D B clk T hB hT=> ?_
  simp only[go_sem,w2v]
  rw[z0a (k4t (hd c List.mem_cons_self)),j9y hd]
  simp only[go_sem,Int.reduceLE,decide_false]
  rw[z0g rfl rfl]
  exact hT _
 refine Pure.of rfl y4b rfl rfl rfl rfl rfl fun D B clk T hB hT=> ?_
 simp only[go_sem,w2u]
 rw[z0a hp]
 simp only[go_sem,]
 rw[z0g rfl rfl]
 exact hT _
theorem j9z {s r:List Nat} (hne:s≠[]) (hd:∀ c∈s,c≠47) (hl:s.length≤1000):Pure Gam 322 [.str (s++47::r), .str [47]] (.tup [.str s, .str r, .bool true]):=by
 obtain⟨c,t,hs⟩:=List.exists_cons_of_ne_nil hne
 have hi:Pure Gam 334 [.str (s++47::r), .str [47]] (.int .i64 (s.length:Int)):=by
  rw[←v0z (r:=r) hd,hs]
  exact k4t (hd c (by rw[hs];exact List.mem_cons_self))
 have hp:Pure Gam 329 [.str (s++47::r), .str [47]] (.tup [.str s, .str r, .bool true]):=by
  refine Pure.of rfl y4c rfl rfl rfl rfl rfl fun D B clk T hB hT=> ?_
  have e1:decide (0≤(s.length:Int))=true:=by rw[decide_eq_true_iff];omega
  have e2:IntKind.i64.wrap ((s.length:Int) + 1)=((s.length + 1:Nat):Int):=z0c (by omega) (by omega)
  have e3:(s++47::r).take s.length=s:=List.take_left
  have e4:(s++47::r).drop (s.length + 1)=r:=by rw[List.drop_append,Nat.add_sub_cancel_left,List.drop_of_length_le (by omega)];rfl
  have h1:∀ h,slV h none (.str (s++47::r)) none (some (.int .i64 (s.length:Int))) none=some (.str s,h):=fun h=>by rw[y4p (by simp),e3]
  have h2:∀ h,slV h none (.str (s++47::r)) (some (.int .i64 ((s.length + 1:Nat):Int))) none none=some (.str r,h):=fun h=>by rw[v0m (by simp),e4]
  simp only[go_sem,w2v]
  rw[z0a hi]
  simp only[go_sem,e1,Nat.zero_add,Int.cast_ofNat_Int,e2,h1,h2]
  rw[z0g rfl rfl]
  exact hT _
 refine Pure.of rfl y4b rfl rfl rfl rfl rfl fun D B clk T hB hT=> ?_
 simp only[go_sem,w2u]
 rw[z0a hp]
 simp only[go_sem,]
 rw[z0g rfl rfl]
 exact hT _
def nl (n:Nat):List Nat:=if n=0 then [] else n % 1000000000::nl (n / 1000000000)
termination_by n
decreasing_by omega
theorem z9i:nl 0=[]:=by rw[nl,if_pos rfl]
theorem x1h {n:Nat} (h:0 < n):nl n=n % 1000000000::nl (n / 1000000000):=by rw[nl,if_neg (by omega)]
theorem x6m {n:Nat} (h:0 < n) (h2:n < 1000000000):nl n=[n]:=by
 rw[x1h h,Nat.mod_eq_of_lt h2,Nat.div_eq_of_lt h2,z9i]
def z8d:List Nat→Nat
 | []=>0
 | x::l=>x + 1000000000 * z8d l
theorem q4y (n:Nat):z8d (nl n)=n:=by
 induction n using Nat.strongRecOn with
 | ind n ih=>
   rcases Nat.eq_zero_or_pos n with rfl | h
   ·rw[z9i];rfl
   ·rw[x1h h,z8d,ih _ (by omega)]
    omega
theorem w3j (n:Nat):∀ x∈nl n,x < 1000000000:=by
 induction n using Nat.strongRecOn with
 | ind n ih=>
   rcases Nat.eq_zero_or_pos n with rfl | h
   ·rw[z9i];simp
   ·rw[x1h h]
    intro x hx
    rw[List.mem_cons] at hx
    rcases hx with rfl | hx
    ·omega
    ·exact ih _ (by omega) x hx
theorem q4z {a b:List Nat}:z8d (a++b)=z8d a + 1000000000 ^ a.length * z8d b:=by
 induction a with
 | nil=>simp[z8d]
 | cons x a ih=>
   simp only[List.cons_append,z8d,ih,List.length_cons,Nat.pow_succ]
   rw[Nat.mul_add,←Nat.mul_assoc,Nat.mul_comm (1000000000 ^ a.length) 1000000000]
   omega
theorem w3k {l:List Nat} (h:∀ x∈l,x < 1000000000):z8d l < 1000000000 ^ l.length:=by
 induction l with
 | nil=>simp[z8d]
 | cons x l ih=>
   have h1:=ih fun y hy=>h y (List.mem_cons_of_mem _ hy)
   have h2:=h x List.mem_cons_self
   simp only[z8d,List.length_cons,Nat.pow_succ]
   omega
theorem w3l {l:List Nat} (h:∀ x∈l,x < 1000000000) (hc:∀ l',l≠l'++[0]):nl (z8d l)=l:=by
 induction l with
 | nil=>exact z9i
 | cons x l ih=>
   have hx:=h x List.mem_cons_self
   have hl:nl (z8d l)=l:=ih (fun y hy=>h y (List.mem_cons_of_mem _ hy)) fun l' e=>hc (x::l') (by rw[e];rfl)
   have hpos:0 < x + 1000000000 * z8d l:=by
    rcases Nat.eq_zero_or_pos (z8d l) with h0 | h0
    ·rw[h0,z9i] at hl
     have:x≠0:=fun e=>hc [] (by rw[e,←hl];rfl)
     omega
    ·omega
   rw[z8d,x1h hpos]
   congr 1
   ·omega
   ·rw[show (x + 1000000000 * z8d l) / 1000000000=z8d l by omega,hl]
theorem y5t {n k:Nat} (h:n < 1000000000 ^ k):(nl n).length≤k:=by
 induction k generalizing n with
 | zero=>
   have:n=0:=by simpa using h
   rw[this,z9i];simp
 | succ k ih=>
   rcases Nat.eq_zero_or_pos n with rfl | hp
   ·rw[z9i];simp
   ·rw[x1h hp,List.length_cons]
    have:=ih (n:=n / 1000000000) (by rw[Nat.pow_succ] at h;omega)
    omega
theorem x4l:∀ {os:List (Nat×Nat)} {h:List AObj},(freezeAll h os).length=h.length
 | [],_=>rfl
 | o::os,h=>by
   simp only[freezeAll]
   rw[x4l]
   split
   ·rw[List.length_set]
   ·rfl
theorem k0a {f:Nat} {args az:List AV} {h:List AObj} {clk:Nat} {v:AV} {af:AFun} (hp:Pure Gam f az v) (hext:Gam.ext f=none) (hfn:Gam.fn f=some af) (hb:af.byref=[]) (ho:af.owned=false) (hpa:z1v h [] 0 args=some az) (hcv:cvL az=az) (hobs:z4r az=[]) (hids:idsL az=[]) (hv:v.ids=[]):
  ∃ k,z5g Gam k f args h clk=some (v,if v.flat then h else freezeAll h (z0u [] 0 args),clk):=by
 obtain⟨⟨k,hk⟩,_⟩:=hp (freezeAll h (z0u [] 0 args)) clk
 refine⟨k, ?_⟩
 have hpa2:z1v (freezeAll h (z0u [] 0 args)) [] 0 az=some az:=by rw[z1o hobs,hcv]
 have hl2:z0u [] 0 az=[]:=z4u hobs
 unfold z5g z0o at hk⊢
 simp only[hext,hfn,hb,hpa,hpa2,hl2,hids,reach,freezeAll,x4l,z4g,ho,Bool.false_eq_true,if_false] at hk⊢
 generalize z4a Gam k h.length af.body _=E at hk⊢
 match E,hk with
 | none,hk=>cases hk
 | some (.exit i,s),hk=>cases hk
 | some (.norm,s),hk=>
   simp only at hk⊢
   generalize z1y s.h s.ts af.results=R at hk⊢
   cases R with
   | none=>cases hk
   | some vs=>
     simp only at hk⊢
     generalize conv s.h (z1l vs)=W at hk⊢
     cases W with
     | none=>cases hk
     | some w=>
       simp only at hk⊢
       have hw:w=v:=by
        revert hk
        generalize List.all _ _=b
        cases b
        ·intro hk
         simp only[Bool.false_eq_true,if_false,Option.some.injEq,Prod.mk.injEq] at hk
         exact hk.1
        ·intro hk
         simp only[if_true,Option.some.injEq,Prod.mk.injEq] at hk
         exact hk.1
       subst hw
       simp only[hv,List.isEmpty_nil,Bool.and_true,List.map_nil,List.flatten_nil,List.append_nil,List.all_nil,if_true,z6i]
 | some (.ret,s),hk=>
   simp only at hk⊢
   generalize z1y s.h s.ts af.results=R at hk⊢
   cases R with
   | none=>cases hk
   | some vs=>
     simp only at hk⊢
     generalize conv s.h (z1l vs)=W at hk⊢
     cases W with
     | none=>cases hk
     | some w=>
       simp only at hk⊢
       have hw:w=v:=by
        revert hk
        generalize List.all _ _=b
        cases b
        ·intro hk
         simp only[Bool.false_eq_true,if_false,Option.some.injEq,Prod.mk.injEq] at hk
         exact hk.1
        ·intro hk
         simp only[if_true,Option.some.injEq,Prod.mk.injEq] at hk
         exact hk.1
       subst hw
       simp only[hv,List.isEmpty_nil,Bool.and_true,List.map_nil,List.flatten_nil,List.append_nil,List.all_nil,if_true,z6i]
theorem k4u {f base gg clk:Nat} {args az:List AV} {h:List AObj} {v:AV} {af:AFun} {dst:Option Nat} {os:List AOper} {ts:Tmps} {ks:List Kf} {Q:Post} (hp:Pure Gam f az v) (hext:Gam.ext f=none) (hfn:Gam.fn f=some af) (hb:af.byref=[]) (ho:af.owned=false) (hpa:z1v h [] 0 args=some az) (hcv:cvL az=az) (hobs:z4r az=[]) (hids:idsL az=[]) (hv:v.ids=[]):
  CK Gam base f args h clk .plain dst gg os ts ks Q=O Gam base .plain (gg + 1) os ⟨z9n ts dst v,if v.flat then h else freezeAll h (z0u [] 0 args),clk⟩ ks Q:=by
 obtain⟨k,hk⟩:=k0a (clk:=clk) hp hext hfn hb ho hpa hcv hobs hids hv
 unfold CK
 apply propext
 constructor
 ·rintro ⟨k',v',h',c,hc,hq⟩
  have:=x0m hk hc
  simp only[Prod.mk.injEq] at this
  obtain⟨rfl,rfl,rfl⟩:=this
  exact hq
 ·intro hq
  exact⟨k,_,_,_,hk,hq⟩
def z3w (x:Nat):AV:= .int .u32 (x:Int)
theorem z3k {l:List Nat}:idsL (l.map z3w)=[]:=z0d fun _=>rfl
theorem x1i {l:List Nat}:z0v 1 (l.map z3w)=true:=z2t fun _=>⟨rfl,rfl,rfl⟩
theorem x6n {T:List Nat} {l:List Nat} {t:Tip} {R:AV→List AObj→Prop} {h:List AObj}:RV T (some [.sl (l.map z3w) t]) R h=R (.sl (l.map z3w) .no) h:=z2k rfl (by simp[AV.cv,AV.ids,z3k])
theorem x1j {T:List Nat} {l l':List Nat} {t t':Tip} {R:AV→List AObj→Prop} {h:List AObj}:RV T (some [.sl (l.map z3w) t, .sl (l'.map z3w) t']) R h=R (.tup [.sl (l.map z3w) .no, .sl (l'.map z3w) .no]) h:=z0g rfl (by simp[z1l,AV.cv,cvL,AV.ids,idsL,z3k])
theorem q1w {l:List Nat} {i:Nat} {h:List AObj} {t:Tip} {k:IntKind} (hi:i < l.length):z1p h 1 (.sl (l.map z3w) t) (.int k (i:Int))=some (.iptr [.int .u32 (l[i]:Int)] 0,h):=z4h (e:= .int .u32 (l[i]:Int)) (by simp[z3w,hi]) rfl
theorem w3m {l:List Nat} {n:Nat} {h:List AObj} (hn:n≤l.length):slV h (some 1) (.sl (l.map z3w) .no) none (some (.int .i64 (n:Int))) none=some (.sl ((l.take n).map z3w) .no,h):=by
 have hh:z4s 1 (l.map z3w)=true:=by cases l <;> rfl
 have hn':n≤(l.map z3w).length:=by rw[List.length_map];exact hn
 simp[slV,z2w,z5b,hh,hn]
theorem x2x {l:List Nat} {n:Nat} (hn:n < l.length) (h0:l[n]=0):z8d (l.take (n + 1))=z8d (l.take n):=by
 rw[List.take_succ_eq_append_getElem hn,q4z,h0]
 simp[z8d]
theorem j3l {l:List Nat} {t:Tip} (hb:∀ x∈l,x < 1000000000) (hl:l.length≤1000):Pure Gam 332 [.sl (l.map z3w) t] (.sl ((nl (z8d l)).map z3w) .no):=by
 refine Pure.of rfl y4m rfl rfl rfl (az:=[.sl (l.map z3w) .no]) rfl (by simp[idsL,AV.ids,AV.cv,z3k]) fun D B clk T hB hT=> ?_
 simp only[go_sem,y4l,List.length_map]
 refine z1f (fun m q=>m≤l.length∧z8d (l.take m)=z8d l∧q.ts 0= .sl (l.map z3w) .no∧q.ts 3= .int .i64 (m:Int)∧q.h=D++[]) l.length ⟨Nat.le_refl _,by rw[List.take_length],rfl,rfl,rfl⟩ ?_
 rintro m ⟨ts,h,clk⟩ P ⟨hm,hv,h0,h3,rfl⟩ hn he hr
 dsimp only at h0 h3
 have fin:nl (z8d l)=l.take m→∀ (ts':Tmps) (clk':Nat),ts' 0= .sl (l.map z3w) .no→ts' 3= .int .i64 (m:Int)→P (.exit 0) ⟨ts',D++[],clk'⟩:=by
  intro hc ts' clk' q0 q3
  refine he _ _ ?_
  simp only[go_sem,q0,q3,w3m hm]
  rw[x6n,←hc]
  exact hT _
 rcases Nat.eq_zero_or_pos m with rfl | hpos
 ·have e1:decide ((0:Int) < 0)=false:=rfl
  simp only[go_sem,h0,h3,j0a,e1]
  exact fin (by rw[←hv,List.take_zero];exact z9i) _ _ h0 h3
 ·have e1:decide ((0:Int) < (m:Int))=true:=by rw[decide_eq_true_iff];omega
  have e2:IntKind.i64.wrap ((m:Int) - 1)=((m - 1:Nat):Int):=by rw[z0c (by omega) (by omega)];omega
  have hlt:m - 1 < l.length:=by omega
  by_cases hz:l[m - 1]=0
  ·have e3:decide (((l[m - 1]:Nat):Int)=0)=true:=by rw[decide_eq_true_iff];omega
   simp only[go_sem,h0,h3,j0a,e1,e2,q1w hlt,e3]
   refine hn (m - 1) _ (by omega) ⟨by omega, ?_,h0,rfl,rfl⟩
   rw[←hv,←x2x hlt hz,show m - 1 + 1=m by omega]
  ·have e3:decide (((l[m - 1]:Nat):Int)=0)=false:=by rw[decide_eq_false_iff_not];omega
   simp only[go_sem,h0,h3,j0a,e1,e2,q1w hlt,e3]
   refine fin ?_ _ _ h0 h3
   rw[←hv]
   refine w3l (fun x hx=>hb x (List.mem_of_mem_take hx)) fun l' e=>hz ?_
   have h1:l.take m=l.take (m - 1)++[l[m - 1]]:=by
    have:=List.take_succ_eq_append_getElem hlt
    rwa [show m - 1 + 1=m by omega] at this
   rw[h1] at e
   have:=List.append_inj' e rfl
   simpa using this.2
theorem u64_in {n:Int} (h1:0≤n) (h2:n≤18446744073709551615):IntKind.u64.wrap n=n:=IntWalk.u64_in _ ⟨h1,h2⟩
theorem u32_in {n:Int} (h1:0≤n) (h2:n≤4294967295):IntKind.u32.wrap n=n:=IntWalk.u32_in _ ⟨h1,h2⟩
theorem x4m (l:List Nat) (k:Nat):z8d l=z8d (l.take k) + 1000000000 ^ (l.take k).length * z8d (l.drop k):=by
 rw[←q4z,List.take_append_drop]
theorem j0g {a b:List Nat} {k:Nat} (ha:∀ x∈a,x < 1000000000) (hl:a.length=b.length) (hka:k < a.length) (hkb:k < b.length) (hd:a.drop (k + 1)=b.drop (k + 1)) (h:a[k] < b[k]):z8d a < z8d b:=by
 rw[x4m a k,x4m b k,List.drop_eq_getElem_cons hka,List.drop_eq_getElem_cons hkb,hd]
 have h1:(a.take k).length=k:=by simp;omega
 have h2:(b.take k).length=k:=by simp;omega
 have h3:=w3k (l:=a.take k) fun x hx=>ha x (List.mem_of_mem_take hx)
 rw[h1] at h3
 rw[h1,h2]
 have h4:1000000000 ^ k * (1 + z8d (a[k]::b.drop (k + 1)))≤1000000000 ^ k * z8d (b[k]::b.drop (k + 1)):=Nat.mul_le_mul_left _ (by simp only[z8d];omega)
 rw[Nat.mul_add] at h4
 omega
theorem j0h {x y:Nat} (h:x≤y):(nl x).length≤(nl y).length:=by
 induction y using Nat.strongRecOn generalizing x with
 | ind y ih=>
   rcases Nat.eq_zero_or_pos x with rfl | hx
   ·rw[z9i];simp
   ·rw[x1h hx,x1h (n:=y) (by omega),List.length_cons,List.length_cons]
    have:=ih (y / 1000000000) (by omega) (x:=x / 1000000000) (Nat.div_le_div_right h)
    omega
theorem z2h {base:Nat} {b:ACode} {ks:List Kf} {s:St} {Q:Post} (h:K Gam base b (.seq (.loop b)::ks) s Q):K Gam base (.loop b) ks s Q:=by
 rw[←v9e] at h
 have:∀ Q,W Gam base (.seq b (.loop b)) s Q=W Gam base (.loop b) s Q:=fun Q=>by
  apply propext
  constructor
  ·rintro ⟨k,e,s',h,hq⟩
   cases k with
   | zero=>cases h
   | succ k=>exact⟨k + 1,e,s',h,hq⟩
  ·rintro ⟨k,e,s',h,hq⟩
   cases k with
   | zero=>cases h
   | succ k=>exact⟨k + 1,e,s',h,hq⟩
 rw[w6w this] at h
 exact h
theorem z2m {h:List AObj} {K k:IntKind} {n:Int} {xs:List AV} {t:Tip}:z1p h 1 (.sl (.int K n::xs) t) (.int k 0)=some (.iptr [.int K n] 0,h):=z4h (i:=0) (e:= .int K n) rfl rfl
theorem w3n {x y:Nat} (hx:(nl x).length≤1000) (hy:(nl y).length≤1000):∃ r:Int,(r < 0↔x < y)∧(r=0↔x=y)∧Pure Gam 340 [.sl ((nl x).map z3w) .no, .sl ((nl y).map z3w) .no] (.int .i64 r):=by
 have hbx:=w3j x
 have hby:=w3j y
 by_cases hl:(nl x).length=(nl y).length
 ·
  have e1:decide (((nl x).length:Int)=((nl y).length:Int))=true:=by rw[decide_eq_true_iff];omega
  have key:∀ m,m≤(nl x).length→(nl x).drop m=(nl y).drop m→∃ r:Int,(r < 0↔x < y)∧(r=0↔x=y)∧∀ (D:List AObj) (B clk:Nat) (T:AV→List AObj→Prop) (ks:List Kf) (ts:Tmps) (Q:Post),ts 0= .sl ((nl x).map z3w) .no→ts 1= .sl ((nl y).map z3w) .no→ts 5= .int .i64 ((m:Int) - 1)→
    (∀ ts' clk',ts' 4= .int .i64 r→K Gam B .ret ks ⟨ts',D++[],clk'⟩ Q)→(r=0→∀ ts' clk',K Gam B (.exit 0) ks ⟨ts',D++[],clk'⟩ Q)→K Gam B (.loop x4h) ks ⟨ts,D++[],clk⟩ Q:=by
   intro m
   induction m with
   | zero=>
     intro _ hd
     have hxy:x=y:=by
      rw[List.drop_zero,List.drop_zero] at hd
      rw[←q4y x,←q4y y,hd]
     refine⟨0,by omega,by simp[hxy],fun D B clk T ks ts Q h0 h1 h5 _ hx=> ?_⟩
     refine z1f (fun _ q=>q.ts 5= .int .i64 (-1)∧q.h=D++[]) 0 ⟨by simpa using h5,rfl⟩ ?_
     rintro m ⟨ts,h,clk⟩ P ⟨h5,rfl⟩ hn he hr
     dsimp only at h5
     simp only[go_sem,h5,x4h,Int.reduceLE,Int.reduceNeg,decide_false]
     exact he _ _ (hx rfl _ _)
   | succ m ih=>
     intro hm hd
     have hkx:m < (nl x).length:=by omega
     have hky:m < (nl y).length:=by omega
     have e2:decide ((0:Int)≤((m + 1:Nat):Int) - 1)=true:=by rw[decide_eq_true_iff];omega
     have e3:((m + 1:Nat):Int) - 1=(m:Int):=by omega
     have e4:decide ((0:Int)≤(m:Int))=true:=by rw[decide_eq_true_iff];omega
     have hxm:=hbx _ (List.getElem_mem hkx)
     have hym:=hby _ (List.getElem_mem hky)
     have w1:∀ z:Nat,z < 1000000000→IntKind.i64.wrap (z:Int)=(z:Int):=fun z hz=>z0c (by omega) (by omega)
     have w2:=w1 _ hxm
     have w3:=w1 _ hym
     by_cases hne:(nl x)[m]=(nl y)[m]
     ·obtain⟨r,h1,h2,h3⟩:=ih (by omega) (by rw[List.drop_eq_getElem_cons hkx,List.drop_eq_getElem_cons hky,hd,hne])
      refine⟨r,h1,h2,fun D B clk T ks ts Q q0 q1 q5 hr hx=> ?_⟩
      rw[e3] at q5
      have e5:decide (((nl x)[m]:Int)=((nl y)[m]:Int))=true:=by rw[decide_eq_true_iff];omega
      have e6:IntKind.i64.wrap ((m:Int) - 1)=(m:Int) - 1:=z0c (by omega) (by omega)
      refine z2h ?_
      simp only[go_sem,q0,q1,q5,x4h,e4,q1w hkx,q1w hky,e5,Bool.not_true,e6]
      exact h3 D B _ T ks _ Q (by simp[z0b,q0]) (by simp[z0b,q1]) (by simp[z0b]) hr hx
     ·refine⟨((nl x)[m]:Int) - ((nl y)[m]:Int), ?_, ?_,fun D B clk T ks ts Q q0 q1 q5 hr hx=> ?_⟩
      ·constructor
       ·intro h
        have:=j0g hbx hl hkx hky hd (by omega)
        rwa [q4y,q4y] at this
       ·intro h
        refine Classical.byContradiction fun hc=> ?_
        have:=j0g hby hl.symm hky hkx hd.symm (by omega)
        rw[q4y,q4y] at this
        omega
      ·constructor
       ·intro h;omega
       ·intro h;subst h;omega
      ·rw[e3] at q5
       have e5:decide (((nl x)[m]:Int)=((nl y)[m]:Int))=false:=by rw[decide_eq_false_iff_not];omega
       have e6:IntKind.i64.wrap (((nl x)[m]:Int) - ((nl y)[m]:Int))=((nl x)[m]:Int) - ((nl y)[m]:Int):=z0c (by omega) (by omega)
       refine z2h ?_
       simp only[go_sem,q0,q1,q5,x4h,e4,q1w hkx,q1w hky,e5,Bool.not_false,w2,w3,e6]
       exact hr _ _ (by simp[z0b])
  obtain⟨r,h1,h2,h3⟩:=key (nl x).length (Nat.le_refl _) (by rw[List.drop_length,hl,List.drop_length])
  refine⟨r,h1,h2,Pure.of rfl y4n rfl rfl rfl (az:=[.sl ((nl x).map z3w) .no, .sl ((nl y).map z3w) .no]) rfl (by simp[idsL,AV.ids,AV.cv,z3k]) fun D B clk T hB hT=> ?_⟩
  have e2:IntKind.i64.wrap (((nl x).length:Int) - 1)=((nl x).length:Int) - 1:=z0c (by omega) (by omega)
  have e3:IntKind.i64.wrap (((nl y).length:Int) - 1)=((nl x).length:Int) - 1:=by rw[z0c (by omega) (by omega)];omega
  simp only[go_sem,w2x,List.length_map,e1,Bool.not_true,e2]
  refine h3 D B _ T _ _ _ (by simp[z0b,z2y]) (by simp[z0b,z7o,z2y]) (by simp[z0b]) (fun ts' clk' q4=> ?_) (fun hr0 ts' clk'=> ?_)
  ·simp only[go_sem,q4]
   rw[z2l]
   exact hT _
  ·simp only[go_sem,]
   rw[z2l,←hr0]
   exact hT _
 ·have e1:decide (((nl x).length:Int)=((nl y).length:Int))=false:=by rw[decide_eq_false_iff_not];omega
  have e2:IntKind.i64.wrap (((nl x).length:Int) - ((nl y).length:Int))=((nl x).length:Int) - ((nl y).length:Int):=z0c (by omega) (by omega)
  refine⟨((nl x).length:Int) - ((nl y).length:Int), ?_, ?_,Pure.of rfl y4n rfl rfl rfl (az:=[.sl ((nl x).map z3w) .no, .sl ((nl y).map z3w) .no]) rfl (by simp[idsL,AV.ids,AV.cv,z3k]) fun D B clk T hB hT=> ?_⟩
  ·constructor
   ·intro h
    refine Classical.byContradiction fun hc=> ?_
    have:=j0h (x:=y) (y:=x) (by omega)
    omega
   ·intro h
    have:=j0h (x:=x) (y:=y) (by omega)
    omega
  ·constructor
   ·intro h;omega
   ·intro h;subst h;omega
  ·simp only[go_sem,w2x,List.length_map,e1,Bool.not_false,e2]
   rw[z2l]
   exact hT _
theorem w3o {l:List Nat}:Pure Gam 327 [.sl (l.map z3w) .no] (.bool (decide (l=[1]))):=by
 refine Pure.of rfl u3m rfl rfl rfl (az:=[.sl (l.map z3w) .no]) rfl (by simp[idsL,AV.ids,AV.cv,z3k]) fun D B clk T hB hT=> ?_
 match l with
 | []=>
   simp only[go_sem,v0l,List.map_nil,Int.cast_ofNat_Int,Int.reduceEq,decide_false]
   rw[z0e]
   exact hT _
 | [x]=>
   have e:decide ((x:Int)=1)=decide ([x]=[1]):=by rw[decide_eq_decide];simp;omega
   simp only[go_sem,v0l,z3w,List.map_cons,List.map_nil,Nat.zero_add,Int.cast_ofNat_Int,decide_true,z2m,e]
   rw[z0e]
   exact hT _
 | x::y::l=>
   have e:decide (((l.length + 1 + 1:Nat):Int)=1)=false:=by rw[decide_eq_false_iff_not];omega
   have e2:decide (x::y::l=[1])=false:=by simp
   rw[e2] at hT
   simp only[go_sem,v0l,List.length_map,List.map_cons,e]
   rw[z0e]
   exact hT _
theorem k4v {l:List Nat} {k:Nat} (h:k < l.length):z8d (l.drop k)=l[k] + 1000000000 * z8d (l.drop (k + 1)):=by
 rw[List.drop_eq_getElem_cons h,z8d]
theorem k0b {D L:List AObj} {B k g n:Nat} {es:List AV} {w:Bool} (hB:D.length=B) (hL:L[k]? =some (.blk g es true w 0)):freezeAll (D++L) [(B + k,n)]=D++L.set k (.blk g es true w n):=by
 have hg:(D++L)[B + k]? =some (.blk g es true w 0):=by rw[z6c hB];exact hL
 simp only[freezeAll,hg,z5l hB,Nat.zero_max]
theorem w3p {la:List Nat} {b:Nat} (ha:∀ x∈la,x < 1000000000) (hl:la.length≤1000) (hb0:0 < b) (hb:b < 1000000000):Pure Gam 341 [.sl (la.map z3w) .no, .int .u32 (b:Int)] (.tup [.sl ((nl (z8d la / b)).map z3w) .no, .sl ((nl (z8d la % b)).map z3w) .no]):=by
 refine Pure.of rfl u3p rfl rfl rfl (az:=[.sl (la.map z3w) .no, .int .u32 (b:Int)]) rfl (by simp[idsL,AV.ids,AV.cv,z3k]) fun D B clk T hB hT=> ?_
 have e0:IntKind.i64.wrap ((la.length:Int) - 1)=(la.length:Int) - 1:=z0c (by omega) (by omega)
 have hms:∀ h s g,msV h s g (.int .u32 0) 4 (.int .i64 (la.length:Int)) (.int .i64 (la.length:Int))=some (.ob s g 0 la.length,h.set s (.blk g (List.replicate la.length (.int .u32 0)) true false 0)):=fun h s g=>q5x rfl (by omega)
 simp only[go_sem,y4o,List.length_map,hB,hms,e0]
 generalize hgr:clk + 2 + 2=gr
 refine z1f (fun m q=>∃ (i r:Nat) (qs:List Nat),i≤la.length∧m=la.length - i∧qs.length=i∧(∀ x∈qs,x < 1000000000)∧r < b∧z8d (la.drop (la.length - i))=b * z8d qs + r∧q.ts 0= .sl (la.map z3w) .no∧q.ts 1= .int .u32 (b:Int)∧q.ts 6= .ob (B + 0) gr 0 la.length∧q.ts 7= .int .u64 (r:Int)∧q.ts 8= .int .i64 ((la.length:Int) - i - 1)∧
  q.h=D++[.blk gr (List.replicate (la.length - i) (.int .u32 0)++qs.map z3w) true false 0, .dead]) la.length ?_ ?_
 ·refine⟨0,0,[],by omega,rfl,rfl,by simp,hb0,by simp[z8d],rfl,rfl, ?_,rfl,by simp[z0b],by simp⟩
  subst hgr;rfl
 rintro m ⟨ts,h,clk⟩ P ⟨i,r,qs,hi,rfl,hql,hqb,hr,hw,h0,h1,h6,h7,h8,rfl⟩ hn he hrt
 dsimp only at h0 h1 h6 h7 h8
 by_cases hlt:i < la.length
 ·have hk:la.length - 1 - i < la.length:=by omega
  have e1:(la.length:Int) - i - 1=((la.length - 1 - i:Nat):Int):=by omega
  rw[e1] at h8
  have e2:decide ((0:Int)≤((la.length - 1 - i:Nat):Int))=true:=by rw[decide_eq_true_iff];omega
  have hx:=ha _ (List.getElem_mem hk)
  have hdr:=k4v hk
  generalize hxx:la[la.length - 1 - i]=x at hx hdr
  rw[show la.length - 1 - i + 1=la.length - i by omega,hw] at hdr
  have hv:r * 1000000000 + x < b * 1000000000:=by
   have:(r + 1) * 1000000000≤b * 1000000000:=Nat.mul_le_mul_right _ hr
   omega
  have hv2:b * 1000000000 < 1000000000 * 1000000000:=Nat.mul_lt_mul_of_pos_right hb (by omega)
  have hquo:(r * 1000000000 + x) / b < 1000000000:=(Nat.div_lt_iff_lt_mul hb0).2 (by rw[Nat.mul_comm 1000000000 b];exact hv)
  have hrem:(r * 1000000000 + x) % b < b:=Nat.mod_lt _ hb0
  have hdm:=Nat.div_add_mod (r * 1000000000 + x) b
  generalize hq:(r * 1000000000 + x) / b=y at hquo hdm
  generalize hz:(r * 1000000000 + x) % b=z at hrem hdm
  have hidx0:∀ h,z1p h 1 (.sl (la.map z3w) .no) (.int .i64 ((la.length - 1 - i:Nat):Int))=some (.iptr [.int .u32 (x:Int)] 0,h):=fun h=>by rw[q1w hk,hxx]
  have w1:IntKind.u64.wrap ((r:Int) * 1000000000)=((r * 1000000000:Nat):Int):=by rw[u64_in (by omega) (by omega)];omega
  have w2:IntKind.u64.wrap (x:Int)=(x:Int):=u64_in (by omega) (by omega)
  have w3:IntKind.u64.wrap (((r * 1000000000:Nat):Int) + (x:Int))=((r * 1000000000 + x:Nat):Int):=by rw[u64_in (by omega) (by omega)];omega
  have w4:IntKind.u64.wrap (b:Int)=(b:Int):=u64_in (by omega) (by omega)
  have w5:IntKind.u32.wrap (IntKind.u64.wrap ((((r * 1000000000 + x:Nat):Int)).tdiv (b:Int)))=(y:Int):=by
   rw[IntWalk.up_tdiv rfl rfl,hq,u64_in (by omega) (by omega),u32_in (by omega) (by omega)]
  have w6:(((r * 1000000000 + x:Nat):Int)).tmod (b:Int)=(z:Int):=by rw[IntWalk.up_tmod rfl rfl,hz]
  have hbn:(b:Int)≠0:=by omega
  have hidx:z1p (D++[.blk gr (List.replicate (la.length - i) (.int .u32 0)++qs.map z3w) true false 0, .dead]) 1 (.ob (B + 0) gr 0 la.length) (.int .i64 ((la.length - 1 - i:Nat):Int))=some (.ptr (B + 0) gr (la.length - 1 - i) 0,D++[.blk gr (List.replicate (la.length - i) (.int .u32 0)++qs.map z3w) true false 0, .dead]):=
   q0h (L:=[.blk gr (List.replicate (la.length - i) (.int .u32 0)++qs.map z3w) true false 0, .dead]) (k:=0) hB rfl (q2t hlt) rfl (by omega)
  have hstore:z9z (D++[.blk gr (List.replicate (la.length - i) (.int .u32 0)++qs.map z3w) true false 0, .dead]) 1 (.int .u32 (y:Int)) (.ptr (B + 0) gr (la.length - 1 - i) 0)=some (.undef,D++[.blk gr (List.replicate (la.length - (i + 1)) (.int .u32 0)++(y::qs).map z3w) true false 0, .dead]):=by
   have h:=q0v (K:= .u32) (n:=y) (K':= .u32) (m:=0) (D:=D) (B:=B) (g:=gr) (i:=la.length - 1 - i) (es:=List.replicate (la.length - i) (AV.int .u32 0)++qs.map z3w) (L:=[AObj.blk gr (List.replicate (la.length - i) (AV.int .u32 0)++qs.map z3w) true false 0, .dead]) (k:=0) (w:=false) hB rfl (q2t hlt)
   rw[x6j hlt] at h
   exact h
  have e6:IntKind.i64.wrap (((la.length - 1 - i:Nat):Int) - 1)=(la.length:Int) - ((i + 1:Nat):Int) - 1:=by rw[z0c (by omega) (by omega)];omega
  simp only[go_sem,h0,h1,h6,h7,h8,hB,j6d,e2,hidx0,w1,w2,w3,w4,q4e hbn,q2f hbn,w5,w6,hidx,hstore,e6]
  refine hn (la.length - (i + 1)) _ (by omega) ⟨i + 1,z,y::qs,hlt,rfl,by simp[hql], ?_,hrem, ?_,by simp[z0b,h0],by simp[z0b,h1],by simp[z0b,h6],by simp[z0b],by simp[z0b],rfl⟩
  ·intro c hc
   rw[List.mem_cons] at hc
   rcases hc with rfl | hc
   ·exact hquo
   ·exact hqb c hc
  ·rw[show la.length - (i + 1)=la.length - 1 - i by omega,hdr,z8d]
   have:b * (y + 1000000000 * z8d qs)=b * y + 1000000000 * (b * z8d qs):=by rw[Nat.mul_add,Nat.mul_left_comm]
   rw[this]
   omega
 ·have hin:i=la.length:=by omega
  have e1:decide ((0:Int)≤(la.length:Int) - i - 1)=false:=by rw[decide_eq_false_iff_not];omega
  rw[hin,Nat.sub_self,List.drop_zero] at hw
  have hh:List.replicate (la.length - i) (AV.int .u32 0)++qs.map z3w=qs.map z3w:=by rw[show la.length - i=0 by omega];rfl
  have hq1:z8d la / b=z8d qs:=by
   rw[hw,Nat.add_comm,Nat.add_mul_div_left _ _ hb0,Nat.div_eq_of_lt hr,Nat.zero_add]
  have hq2:z8d la % b=r:=by
   rw[hw,Nat.add_comm,Nat.add_mul_mod_self_left,Nat.mod_eq_of_lt hr]
  have hp1:=j3l (t:= .no) hqb (by omega)
  have hp2:Pure Gam 332 [.sl [.int .u32 (r:Int)] .full] (.sl ((nl r).map z3w) .no):=by
   have:=j3l (l:=[r]) (t:= .full) (by intro x hx;simp at hx;omega) (by simp)
   simpa [z8d,z3w] using this
  have w1:IntKind.u32.wrap (r:Int)=(r:Int):=u32_in (by omega) (by omega)
  have hpa:z1v (D++[.blk gr (qs.map z3w) true false 0, .dead]) [] 0 [.ob (B + 0) gr 0 la.length]=some [.sl (qs.map z3w) .no]:=by
   have:=z9g (L:=[.blk gr (qs.map z3w) true false 0, .dead]) (k:=0) (g:=gr) (w:=false) (len:=la.length) hB rfl (by simp;omega)
   simp only[z5s] at this
   simp only[z1v,List.contains_nil,Bool.false_eq_true,if_false,conv,this,Option.map_some]
  have hfr:freezeAll (D++[.blk gr (qs.map z3w) true false 0, .dead]) (z0u [] 0 [.ob (B + 0) gr 0 la.length])=D++[.blk gr (qs.map z3w) true false la.length, .dead]:=by
   have:=k0b (L:=[.blk gr (qs.map z3w) true false 0, .dead]) (k:=0) (g:=gr) (w:=false) (n:=0 + la.length) hB rfl
   rw[Nat.zero_add] at this
   simpa [z0u,AV.obs] using this
  have hck:∀ {base gg clk dst os ts ks Q},CK Gam base 332 [.ob (B + 0) gr 0 la.length] (D++[.blk gr (qs.map z3w) true false 0, .dead]) clk .plain dst gg os ts ks Q=O Gam base .plain (gg + 1) os ⟨z9n ts dst (.sl ((nl (z8d qs)).map z3w) .no),D++[.blk gr (qs.map z3w) true false la.length, .dead],clk⟩ ks Q:=by
   intro base gg clk dst os ts ks Q
   rw[k4u hp1 rfl y4m rfl rfl hpa (by simp[cvL,AV.cv]) rfl (by simp[idsL,AV.ids,z3k]) (by simp[AV.ids,z3k])]
   rw[hfr]
   rfl
  rw[hh]
  simp only[go_sem,h0,h1,h6,h7,h8,hB,j6d,e1]
  refine he _ _ ?_
  simp only[go_sem,h0,h1,h6,h7,h8,hB,hck,w1,z0a hp2]
  rw[x1j,←hq1,←hq2]
  exact hT _
theorem k4w {l:List Nat} {x:Nat} {h:List AObj} {t:Tip} {k:IntKind} (hl:l=[x]):z1p h 1 (.sl (l.map z3w) t) (.int k 0)=some (.iptr [.int .u32 (x:Int)] 0,h):=by
 subst hl
 exact z2m
theorem w3q {x y:Nat} (hx:(nl x).length≤1000) (hy0:0 < y) (hy:y < 1000000000):Pure Gam 333 [.sl ((nl x).map z3w) .no, .sl ((nl y).map z3w) .no] (.tup [.sl ((nl (x / y)).map z3w) .no, .sl ((nl (x % y)).map z3w) .no]):=by
 have hny:=x6m hy0 hy
 obtain⟨r,hr1,hr2,hp⟩:=w3n (x:=x) (y:=y) hx (by rw[hny];simp)
 have hq:=w3p (la:=nl x) (b:=y) (w3j x) hx hy0 hy
 rw[q4y] at hq
 refine Pure.of rfl u3o rfl rfl rfl (az:=[.sl ((nl x).map z3w) .no, .sl ((nl y).map z3w) .no]) rfl (by simp[idsL,AV.ids,AV.cv,z3k]) fun D B clk T hB hT=> ?_
 by_cases hlt:x < y
 ·have e1:decide (r < 0)=true:=by rw[decide_eq_true_iff];omega
  rw[Nat.div_eq_of_lt hlt,Nat.mod_eq_of_lt hlt,z9i] at hT
  simp only[go_sem,w2w,z0a hp,e1]
  have:= @x1j [] [] (nl x) .nil .no T (D++[.dead, .dead, .dead, .dead])
  simp only[List.map_nil] at this
  rw[this]
  exact hT _
 ·have e1:decide (r < 0)=false:=by rw[decide_eq_false_iff_not];omega
  have e2:decide (((nl y).length:Int)=1)=true:=by rw[hny];rfl
  simp only[go_sem,w2w,z0a hp,e1,List.length_map,e2,k4w hny,z0a hq]
  rw[x1j]
  exact hT _
theorem w3r {x y:Nat} (hx:(nl x).length≤1000) (hy:y < 1000000000):Pure Gam 326 [.sl ((nl x).map z3w) .no, .sl ((nl y).map z3w) .no] (.sl ((nl (Nat.gcd x y)).map z3w) .no):=by
 refine Pure.of rfl u3l rfl rfl rfl (az:=[.sl ((nl x).map z3w) .no, .sl ((nl y).map z3w) .no]) rfl (by simp[idsL,AV.ids,AV.cv,z3k]) fun D B clk T hB hT=> ?_
 simp only[go_sem,y4k]
 refine z1f (fun m q=>∃ x':Nat,m < 1000000000∧(nl x').length≤1000∧Nat.gcd x' m=Nat.gcd x y∧q.ts 0= .sl ((nl x').map z3w) .no∧q.ts 1= .sl ((nl m).map z3w) .no∧q.h=D++[]) y ⟨x,hy,hx,rfl,rfl,rfl,rfl⟩ ?_
 rintro m ⟨ts,h,clk⟩ P ⟨x',hm,hx',hg,h0,h1,rfl⟩ hn he hr
 dsimp only at h0 h1
 rcases Nat.eq_zero_or_pos m with rfl | hpos
 ·have e1:decide ((0:Int) < ((nl 0).length:Int))=false:=by rw[z9i];rfl
  simp only[go_sem,h0,h1,j6c,List.length_map,e1]
  refine he _ _ ?_
  simp only[go_sem,h0]
  rw[x6n]
  rw[Nat.gcd_zero_right] at hg
  rw[hg]
  exact hT _
 ·have hnm:=x6m hpos hm
  have e1:decide ((0:Int) < ((nl m).length:Int))=true:=by rw[hnm];rfl
  simp only[go_sem,h0,h1,j6c,List.length_map,e1,z0a (w3q hx' hpos hm)]
  refine hn (x' % m) _ (Nat.mod_lt _ hpos) ⟨m,Nat.lt_trans (Nat.mod_lt _ hpos) hm,by rw[hnm];simp, ?_,rfl,rfl,rfl⟩
  rw[←hg,Nat.gcd_comm x' m,Nat.gcd_rec m x',Nat.gcd_comm]
theorem j0i {a b:List Nat}:z1q (a++b)=z1q a * 10 ^ b.length + z1q b:=by
 induction a with
 | nil=>simp[z1q]
 | cons c a ih=>rw[List.cons_append,z4m,z4m,ih,List.length_append,Nat.pow_add,Nat.add_mul,Nat.mul_assoc];omega
theorem v1a {B clk:Nat} {H:List AObj} {c:List Nat} {v0 v3 v4:AV} {ts:Tmps} {ks:List Kf} {Q:Post} (hd:∀ x∈c,48≤x∧x≤57) (hl:c.length≤9) (h0:ts 0=v0) (h3:ts 3=v3) (h4:ts 4=v4) (h5:ts 5= .int .u32 0) (h20:ts 20= .sl (bytes c) .no) (h21:ts 21= .int .i64 (c.length:Int)) (h22:ts 22= .int .i64 0)
  (hQ:∀ (ts':Tmps) (clk':Nat),ts' 0=v0→ts' 3=v3→ts' 4=v4→ts' 5= .int .u32 (z1q c:Int)→K Gam B (.exit 2) ks ⟨ts',H,clk'⟩ Q):K Gam B (.loop x4g) ks ⟨ts,H,clk⟩ Q:=by
 refine z1f (fun m q=>∃ j:Nat,j≤c.length∧m=c.length - j∧q.ts 0=v0∧q.ts 3=v3∧q.ts 4=v4∧q.ts 5= .int .u32 (z1q (c.take j):Int)∧q.ts 20= .sl (bytes c) .no∧q.ts 21= .int .i64 (c.length:Int)∧q.ts 22= .int .i64 (j:Int)∧q.h=H) c.length ⟨0,by omega,rfl,h0,h3,h4,h5,h20,h21,h22,rfl⟩ ?_
 clear h0 h3 h4 h5 h20 h21 h22
 rintro m ⟨ts,h,clk⟩ P ⟨j,hj,rfl,h0,h3,h4,h5,h20,h21,h22,rfl⟩ hn he hr
 dsimp only at h0 h3 h4 h5 h20 h21 h22
 by_cases hlt:j < c.length
 ·have e1:decide ((j:Int) < (c.length:Int))=true:=by rw[decide_eq_true_iff];omega
  have hc:=hd c[j] (List.getElem_mem hlt)
  have hw:=q0w hlt
  have hb:=z4w (s:=c.take (j + 1)) fun x hx=>hd x (List.mem_of_mem_take hx)
  have hb2:10 ^ (c.take (j + 1)).length≤10 ^ 9:=Nat.pow_le_pow_right (by omega) (by rw[List.length_take];omega)
  have e2:IntKind.u8.wrap ((c[j]:Int) - 48)=((c[j] - 48:Nat):Int):=q3t hc
  have e3:IntKind.u32.wrap ((c[j] - 48:Nat):Int)=((c[j] - 48:Nat):Int):=u32_in (by omega) (by omega)
  have e4:IntKind.u32.wrap ((z1q (c.take j):Int) * 10)=((z1q (c.take j) * 10:Nat):Int):=by rw[u32_in (by omega) (by omega)];omega
  have e5:IntKind.u32.wrap (((z1q (c.take j) * 10:Nat):Int) + ((c[j] - 48:Nat):Int))=(z1q (c.take (j + 1)):Int):=by rw[u32_in (by omega) (by omega),hw];omega
  have e6:IntKind.i64.wrap ((j:Int) + 1)=((j + 1:Nat):Int):=z0c (by omega) (by omega)
  simp only[go_sem,h0,h3,h4,h5,h20,h21,h22,x4g,e1,x1g hlt,e2,e3,e4,e5,e6]
  exact hn (c.length - (j + 1)) _ (by omega) ⟨j + 1,hlt,rfl,h0,h3,h4,rfl,h20,h21,rfl,rfl⟩
 ·have e1:decide ((j:Int) < (c.length:Int))=false:=by rw[decide_eq_false_iff_not];omega
  have hjc:j=c.length:=by omega
  rw[hjc,List.take_length] at h5
  simp only[go_sem,h0,h3,h4,h5,h20,h21,h22,x4g,e1]
  refine he _ _ ?_
  exact hQ _ _ (by simp[z0b,h0]) (by simp[z0b,h3]) (by simp[z0b,h4]) (by simp[z0b,h5])
theorem w3s {h:List AObj} {s:List Nat} {i j:Nat} {k k':IntKind} (hij:i≤j) (hj:j≤s.length):slV h none (.str s) (some (.int k (i:Int))) (some (.int k' (j:Int))) none=some (.str ((s.take j).drop i),h):=by
 simp[slV,z2w,z5b,hij,hj]
theorem w3t {s:List Nat} (hd:∀ x∈s,48≤x∧x≤57) (hl:s.length≤1000):Pure Gam 325 [.str s] (.sl ((nl (z1q s)).map z3w) .no):=by
 refine Pure.of rfl u3k rfl rfl rfl rfl rfl fun D B clk T hB hT=> ?_
 simp only[go_sem,y4j,hB]
 refine z1f (fun m q=>∃ (j:Nat) (acc:List Nat) (t:Tip) (a o:AObj),m=(s.length + 9) - 9 * j∧9 * j≤s.length + 8∧acc.length=j∧(∀ x∈acc,x < 1000000000)∧z8d acc=z1q (s.drop (s.length - 9 * j))∧q.ts 0= .str s∧q.ts 3= .sl (acc.map z3w) t∧q.ts 4= .int .i64 ((s.length:Int) - 9 * j)∧q.h=D++[a,o]∧z9p B 1 o t 1) (s.length + 9) ⟨0,[], .nil,_,_,rfl,by omega,rfl,by simp,by simp[z8d,z1q],rfl,rfl,by simp[z0b],rfl, .inl rfl⟩ ?_
 rintro m ⟨ts,h,clk⟩ P ⟨j,acc,t,a,o,rfl,hj,hal,hab,hv,h0,h3,h4,rfl,ht⟩ hn he hr
 dsimp only at h0 h3 h4
 by_cases hlt:9 * j < s.length
 ·have e1:decide ((0:Int) < (s.length:Int) - 9 * j)=true:=by rw[decide_eq_true_iff];omega
  have e0:(s.length:Int) - 9 * j=((s.length - 9 * j:Nat):Int):=by omega
  have e2:IntKind.i64.wrap ((s.length:Int) - 9 * j - 9)=(s.length:Int) - 9 * j - 9:=z0c (by omega) (by omega)
  have e3:(if (0:Int) > (s.length:Int) - 9 * j - 9 then (0:Int) else (s.length:Int) - 9 * j - 9)=((s.length - 9 * j - 9:Nat):Int):=by
   split <;> omega
  have hsl:∀ h,slV h none (.str s) (some (.int .i64 ((s.length - 9 * j - 9:Nat):Int))) (some (.int .i64 ((s.length:Int) - 9 * j))) none=some (.str ((s.take (s.length - 9 * j)).drop (s.length - 9 * j - 9)),h):=fun h=>by
   rw[e0]
   exact w3s (by omega) (by omega)
  generalize hcc:(s.take (s.length - 9 * j)).drop (s.length - 9 * j - 9)=c at hsl
  have hcl:c.length=s.length - 9 * j - (s.length - 9 * j - 9):=by rw[←hcc];simp
  have hcd:∀ x∈c,48≤x∧x≤57:=fun x hx=>by
   rw[←hcc] at hx
   exact hd x (List.mem_of_mem_take (List.mem_of_mem_drop hx))
  have hcw:=z4w hcd
  have hcw9:10 ^ c.length≤10 ^ 9:=Nat.pow_le_pow_right (by omega) (by omega)
  have hsuf:s.drop (s.length - 9 * j - 9)=c++s.drop (s.length - 9 * j):=by
   rw[←hcc,←List.drop_append_of_le_length (by simp),List.take_append_drop]
  have htb:∀ s':List Nat,(s'.map fun (b:Nat)=>AV.int .u8 (Int.ofNat b))=bytes s':=fun _=>rfl
  have hbl:(bytes c).length=c.length:=by simp[bytes]
  simp only[go_sem,h0,h3,h4,j6b,e1,e2,e3,hsl,htb,hbl]
  refine v1a (v0:= .str s) (v3:= .sl (acc.map z3w) t) (v4:= .int .i64 ((s.length:Int) - 9 * j)) hcd (by omega) (by simp[z0b,h0]) (by simp[z0b,h3]) (by simp[z0b,h4]) (by simp[z0b]) (by simp[z0b]) (by simp[z0b]) (by simp[z0b]) fun ts' clk' q0 q3 q4 q5=> ?_
  simp only[go_sem,q0,q3,q4,q5]
  rw[show [AV.int .u32 (z1q c:Int)]=[z1q c].map z3w from rfl,z0s hB rfl ht x1i x1i (by simp only[List.length_map,List.length_singleton];omega)]
  simp only[go_sem,q0,q3,q4,q5,e2,←List.map_append]
  refine hn (s.length + 9 - 9 * (j + 1)) _ (by omega) ⟨j + 1,acc++[z1q c],_,_,_,rfl,by omega,by simp[hal], ?_, ?_,by simp[z0b,q0],by simp[z0b], ?_,rfl, .inr (.inr ⟨_,rfl,rfl⟩)⟩
  ·intro x hx
   rw[List.mem_append] at hx
   rcases hx with hx | hx
   ·exact hab x hx
   ·simp at hx;omega
  ·rw[show s.length - 9 * (j + 1)=s.length - 9 * j - 9 by omega,hsuf,j0i,q4z,hv,hal]
   have:(s.drop (s.length - 9 * j)).length=9 * j:=by simp;omega
   rw[this,Nat.pow_mul]
   simp only[z8d,Nat.mul_zero,Nat.add_zero]
   rw[Nat.mul_comm (z1q c)]
   have:(10 ^ 9:Nat)=1000000000:=by decide
   rw[this]
   omega
  ·simp only[z0b,z0,cond_true,cond_false]
   congr 1
   omega
 ·have e1:decide ((0:Int) < (s.length:Int) - 9 * j)=false:=by rw[decide_eq_false_iff_not];omega
  rw[show s.length - 9 * j=0 by omega,List.drop_zero] at hv
  have hp:=j3l (l:=acc) (t:=t) hab (by omega)
  rw[hv] at hp
  simp only[go_sem,h0,h3,h4,j6b,e1]
  refine he _ _ ?_
  simp only[go_sem,h3,z0a hp]
  rw[x6n]
  exact hT _
theorem j0j {h:List AObj}:z7j h .neq .iface .nilif .nilif=some (.bool false,h):=(rfl)
theorem y5u {h:List AObj}:z7j h .shl (.one .int) (.int .u64 1) (.int .u64 64)=some (.int .u64 0,h):=by
 have:IntKind.u64.wrap (2 ^ min 64 IntKind.u64.bits)=0:=by decide
 simp[z7j,z4q,q8v,this]
theorem y5v {h:List AObj}:z7j h .shl (.one .int) (.int .u64 1) (.int .u64 63)=some (.int .u64 9223372036854775808,h):=by
 have:IntKind.u64.wrap (2 ^ min 63 IntKind.u64.bits)=9223372036854775808:=by decide
 simp[z7j,z4q,q8v,this]
theorem w3u {n:Nat} (hn:n < 1000000000):Pure Gam 335 [.str (dec n), .int .i64 10, .int .i64 64] (.tup [.int .u64 (n:Int), .nilif]):=by
 refine Pure.of rfl u3h rfl rfl rfl rfl rfl fun D B clk T hB hT=> ?_
 have hd:=z1m n
 have hl:(dec n).length≤9:=z7e (by omega) hn
 have e1:decide (dec n=[])=false:=by simp[z7w n]
 have w1:IntKind.u64.wrap 64=64:=by decide
 have w2:IntKind.u64.wrap (0 - 1)=18446744073709551615:=by decide
 have htb:((dec n).map fun (b:Nat)=>AV.int .u8 (Int.ofNat b))=bytes (dec n):=rfl
 simp only[go_sem,y4h,e1,Int.reduceEq,Int.reduceLE,Int.reduceLT,decide_true,decide_false,w1,y5u,w2,htb,q5y]
 refine z1f (fun m q=>∃ j:Nat,j≤(dec n).length∧m=(dec n).length - j∧q.ts 1= .int .i64 10∧q.ts 8= .bool false∧q.ts 10= .int .u64 1844674407370955162∧q.ts 11= .int .u64 18446744073709551615∧q.ts 12= .bool false∧q.ts 13= .int .u64 (z1q ((dec n).take j):Int)∧q.ts 99= .sl (bytes (dec n)) .no∧q.ts 100= .int .i64 ((dec n).length:Int)∧q.ts 101= .int .i64 (j:Int)∧q.h=D++[]) (dec n).length ⟨0,by omega,rfl,rfl,rfl,rfl,rfl,rfl,rfl,rfl,rfl,rfl,rfl⟩ ?_
 rintro m ⟨ts,h,clk⟩ P ⟨j,hj,rfl,h1,h8,h10,h11,h12,h13,h99,h100,h101,rfl⟩ hn' he hr
 dsimp only at h1 h8 h10 h11 h12 h13 h99 h100 h101
 by_cases hlt:j < (dec n).length
 ·have f1:decide ((j:Int) < ((dec n).length:Int))=true:=by rw[decide_eq_true_iff];omega
  have hc:=hd _ (List.getElem_mem hlt)
  have hw:=q0w hlt
  have hb:=z4w (s:=(dec n).take (j + 1)) fun x hx=>hd x (List.mem_of_mem_take hx)
  have hb2:10 ^ ((dec n).take (j + 1)).length≤10 ^ 9:=Nat.pow_le_pow_right (by omega) (by rw[List.length_take];omega)
  generalize hcc:(dec n)[j]=c at hc hw
  have hidx:∀ h,z1p h 1 (.sl (bytes (dec n)) .no) (.int .i64 (j:Int))=some (.iptr [.int .u8 (c:Int)] 0,h):=fun h=>by rw[x1g hlt,hcc]
  have f2:decide ((c:Int)=95)=false:=by rw[decide_eq_false_iff_not];omega
  have f3:decide ((48:Int)≤(c:Int))=true:=by rw[decide_eq_true_iff];omega
  have f4:decide ((c:Int)≤57)=true:=by rw[decide_eq_true_iff];omega
  have f5:IntKind.u8.wrap ((c:Int) - 48)=((c - 48:Nat):Int):=q3t hc
  have f6:IntKind.u8.wrap 10=10:=by decide
  have f7:decide ((10:Int)≤((c - 48:Nat):Int))=false:=by rw[decide_eq_false_iff_not];omega
  have f8:decide ((1844674407370955162:Int)≤(z1q ((dec n).take j):Int))=false:=by rw[decide_eq_false_iff_not];omega
  have f9:IntKind.u64.wrap 10=10:=by decide
  have f10:IntKind.u64.wrap ((z1q ((dec n).take j):Int) * 10)=((z1q ((dec n).take j) * 10:Nat):Int):=by rw[u64_in (by omega) (by omega)];omega
  have f11:IntKind.u64.wrap ((c - 48:Nat):Int)=((c - 48:Nat):Int):=u64_in (by omega) (by omega)
  have f12:IntKind.u64.wrap (((z1q ((dec n).take j) * 10:Nat):Int) + ((c - 48:Nat):Int))=(z1q ((dec n).take (j + 1)):Int):=by rw[u64_in (by omega) (by omega),hw];omega
  have f13:decide ((z1q ((dec n).take (j + 1)):Int) < ((z1q ((dec n).take j) * 10:Nat):Int))=false:=by rw[decide_eq_false_iff_not];omega
  have f14:decide ((18446744073709551615:Int) < (z1q ((dec n).take (j + 1)):Int))=false:=by rw[decide_eq_false_iff_not];omega
  have f15:IntKind.i64.wrap ((j:Int) + 1)=((j + 1:Nat):Int):=z0c (by omega) (by omega)
  simp only[go_sem,h1,h8,h10,h11,h12,h13,h99,h100,h101,j5z,f1,hidx,f2,f3,f4,f5,f6,f7,f8,f9,f10,f11,f12,f13,f14,f15]
  exact hn' ((dec n).length - (j + 1)) _ (by omega) ⟨j + 1,hlt,rfl,h1,h8,h10,h11,h12,rfl,h99,h100,rfl,rfl⟩
 ·have f1:decide ((j:Int) < ((dec n).length:Int))=false:=by rw[decide_eq_false_iff_not];omega
  have hjc:j=(dec n).length:=by omega
  rw[hjc,List.take_length,z1u] at h13
  simp only[go_sem,h1,h8,h10,h11,h12,h13,h99,h100,h101,j5z,f1]
  refine he _ _ ?_
  simp only[go_sem,h12,h13]
  rw[z0g rfl rfl]
  exact hT _
theorem w3v {n:Nat} (hn:n < 1000000000):Pure Gam 330 [.str (dec n), .int .i64 10, .int .i64 64] (.tup [.int .i64 (n:Int), .nilif]):=by
 refine Pure.of rfl u3g rfl rfl rfl rfl rfl fun D B clk T hB hT=> ?_
 obtain⟨c,t,hct⟩:=List.exists_cons_of_ne_nil (z7w n)
 have hc:=z1m n c (by rw[hct];exact List.mem_cons_self)
 have e1:decide (dec n=[])=false:=by simp[z7w n]
 have e2:∀ h k,q4u h (.str (dec n)) (.int k 0)=some (.int .u8 (c:Int),h):=fun h k=>by rw[hct];exact z6j
 have e3:decide ((c:Int)=43)=false:=by rw[decide_eq_false_iff_not];omega
 have e4:decide ((c:Int)=45)=false:=by rw[decide_eq_false_iff_not];omega
 have e5:IntKind.i64.wrap (64 - 1)=63:=by decide
 have e6:IntKind.u64.wrap 63=63:=by decide
 have e7:decide ((9223372036854775808:Int)≤(n:Int))=false:=by rw[decide_eq_false_iff_not];omega
 have e8:IntKind.i64.wrap (n:Int)=(n:Int):=z0c (by omega) (by omega)
 simp only[go_sem,y4g,e1,e2,e3,e4,z0a (w3u hn),j0j,Int.reduceEq,decide_false,e5,e6,y5v,Bool.not_false,e7,e8]
 rw[z0g rfl rfl]
 exact hT _
theorem x6o {n:Nat} (hn:n < 1000000000):Pure Gam 323 [.str (dec n), .int .i64 10, .int .i64 64] (.tup [.int .i64 (n:Int), .nilif]):=by
 refine Pure.of rfl u3f rfl rfl rfl rfl rfl fun D B clk T hB hT=> ?_
 simp only[go_sem,y4f,z0a (w3v hn),j0j]
 rw[z0g rfl rfl]
 exact hT _
theorem w3w {a b:Nat} (hb:b < 2 ^ 62):Pure Gam 324 [.int .i64 (a:Int), .int .i64 (b:Int)] (.int .i64 (Nat.gcd a b:Int)):=by
 refine Pure.of rfl u3i rfl rfl rfl rfl rfl fun D B clk T hB hT=> ?_
 simp only[go_sem,y4i]
 refine z1f (fun m q=>∃ x:Nat,m < 2 ^ 62∧Nat.gcd x m=Nat.gcd a b∧q.ts 0= .int .i64 (x:Int)∧q.ts 1= .int .i64 (m:Int)∧q.h=D++[]) b ⟨a,hb,rfl,rfl,rfl,rfl⟩ ?_
 rintro m ⟨ts,h,clk⟩ P ⟨x,hm,hg,h0,h1,rfl⟩ hn he hr
 dsimp only at h0 h1
 rcases Nat.eq_zero_or_pos m with rfl | hpos
 ·simp only[go_sem,h0,h1,j6a,decide_true,Bool.not_true]
  refine he _ _ ?_
  simp only[go_sem,h0]
  rw[z2l]
  rw[Nat.gcd_zero_right] at hg
  rw[hg]
  exact hT _
 ·have e1:decide ((m:Int)=0)=false:=by rw[decide_eq_false_iff_not];omega
  have e2:((x:Int)).tmod (m:Int)=((x % m:Nat):Int):=IntWalk.up_tmod rfl rfl
  simp only[go_sem,h0,h1,j6a,e1,Bool.not_false,q2f (b:=(m:Int)) (by omega),e2]
  have hlt:=Nat.mod_lt x hpos
  refine hn (x % m) _ hlt ⟨m,by omega, ?_,rfl,rfl,rfl⟩
  rw[←hg,Nat.gcd_comm x m,Nat.gcd_rec m x,Nat.gcd_comm]
def j0k (n:Nat):Option Nat→List Nat
 | none=>dec n
 | some d=>dec n++47::dec d
def x6p (neg:Bool) (n:Nat) (d:Option Nat):List Nat:=if neg then 45::j0k n d else j0k n d
structure NumT (neg:Bool) (n:Nat) (d:Option Nat):Prop where
 pos:neg=true→n≠0
 len:n < 10 ^ 40
 den:∀ k,d=some k→2≤k∧k≤4∧Nat.gcd n k=1
theorem RatS.text {a:List Nat} (h:RatS a):∃ neg n d,a=x6p neg n d∧NumT neg n d:=by
 rcases h with ⟨z,rfl,h⟩ | ⟨z,d,rfl,h,h2,h4,hg⟩
 ·refine⟨decide (z < 0),z.natAbs,none, ?_,⟨fun hz=> ?_,h,by simp⟩⟩
  ·unfold z0i x6p j0k
   by_cases hz:z < 0 <;> simp[hz]
  ·simp at hz;omega
 ·refine⟨decide (z < 0),z.natAbs,some d, ?_,⟨fun hz=> ?_,h,fun k hk=>by injection hk with hk;subst hk;exact⟨h2,h4,hg⟩⟩⟩
  ·unfold z0i x6p j0k
   by_cases hz:z < 0 <;> simp[hz]
  ·simp at hz;omega
def w3x:Option Nat→List Nat
 | none=>[]
 | some d=>dec d
theorem y5w {n:Nat}:∀ c∈dec n,c≠47:=fun c hc=>by have:=z1m n c hc;omega
theorem x6q {neg:Bool} {n:Nat} {d:Option Nat}:Pure Gam 291 [.str (x6p neg n d), .str [45]] (.tup [.str (j0k n d), .bool neg]):=by
 cases neg
 ·obtain⟨c,t,hct⟩:=List.exists_cons_of_ne_nil (z7w n)
  have hc:=z1m n c (by rw[hct];exact List.mem_cons_self)
  have hb:∃ t',j0k n d=c::t':=by cases d <;> simp[j0k,hct]
  obtain⟨t',ht⟩:=hb
  simp only[x6p,Bool.false_eq_true,if_false,ht]
  exact x1f (by omega)
 ·exact x1e
theorem x6r {n:Nat} {d:Option Nat} (hl:(dec n).length≤1000):Pure Gam 322 [.str (j0k n d), .str [47]] (.tup [.str (dec n), .str (w3x d), .bool d.isSome]):=by
 cases d
 ·exact j0f (z7w n) y5w
 ·exact j9z (z7w n) y5w hl
theorem x1k {d:Nat} (h:d≤4):(dec d).length≤1:=by rw[z7d (by omega)];simp
theorem j3m {neg:Bool} {n:Nat} {d:Option Nat} (hl:(dec n).length≤1000) (h9:9 < (dec n).length):Pure Gam 314 [.str (x6p neg n d)] (.tup [.agg [.int .i64 0, .int .i64 0], .bool false]):=by
 refine Pure.of rfl y3z rfl rfl rfl rfl rfl fun D B clk T hB hT=> ?_
 have e1:decide ((9:Int) < ((dec n).length:Int))=true:=by rw[decide_eq_true_iff];omega
 simp only[go_sem,w2s,hB,z0a x6q,z0a (x6r hl),e1,z0k,z0j,z0f]
 rw[z0g rfl rfl]
 exact hT _
theorem x6s {neg:Bool} {n:Nat} {d:Option Nat} (ht:NumT neg n d) (h9:(dec n).length≤9) (hn:n < 1000000000):∃ p q:Int,Pure Gam 314 [.str (x6p neg n d)] (.tup [.agg [.int .i64 p, .int .i64 q], .bool true]):=by
 refine⟨if neg then IntKind.i64.wrap (0 - (n:Int)) else n,(d.getD 1:Nat), ?_⟩
 refine Pure.of rfl y3z rfl rfl rfl rfl rfl fun D B clk T hB hT=> ?_
 have e1:decide ((9:Int) < ((dec n).length:Int))=false:=by rw[decide_eq_false_iff_not];omega
 have hden:(w3x d).length≤1:=by
  cases d with
  | none=>simp[w3x]
  | some k=>exact x1k (ht.den k rfl).2.1
 have e2:decide ((9:Int) < ((w3x d).length:Int))=false:=by rw[decide_eq_false_iff_not];omega
 have hp1:=q7e (n:=n) (by omega)
 have e3:decide (dec n=[48])=decide (n=0):=z1t
 simp only[go_sem,w2s,hB,z0a x6q,z0a (x6r (n:=n) (d:=d) (by omega)),e1,e2,z0a hp1,Bool.not_true,e3]
 have hfin:∀ (r:Int),r=(if neg then IntKind.i64.wrap (0 - (n:Int)) else n)→∀ h',T (.tup [.agg [.int .i64 r, .int .i64 (d.getD 1:Nat)], .bool true]) h':=fun r hr h'=>hr ▸ hT h'
 rcases Nat.eq_zero_or_pos n with rfl | hpos
 ·have hneg:neg=false:=by cases neg with
   | false=>rfl
   | true=>exact absurd rfl (ht.pos rfl)
  have hd0:d=none:=by cases d with
   | none=>rfl
   | some k=>have:=ht.den k rfl;rw[Nat.gcd_zero_left] at this;omega
  subst hneg;subst hd0
  simp only[go_sem,decide_true,Option.isSome_none,z0a (x6o (n:=0) (by omega)),hB,z0k,z0j,z0f]
  rw[z0g rfl rfl]
  exact hfin _ rfl _
 ·have e4:decide (n=0)=false:=by rw[decide_eq_false_iff_not];omega
  simp only[go_sem,e4,z0a (x6o hn)]
  cases d with
  | none=>
    cases neg
    ·simp only[go_sem,Option.isSome_none,hB,z0k,z0j,z0f]
     rw[z0g rfl rfl]
     exact hfin _ rfl _
    ·simp only[go_sem,Option.isSome_none,hB,z0k,z0j,z0f]
     rw[z0g rfl rfl]
     exact hfin _ rfl _
  | some k=>
    obtain⟨hk2,hk4,hg⟩:=ht.den k rfl
    have hp2:=q7e (n:=k) (by have:=x1k hk4;omega)
    have e5:decide ((k:Int) < 2)=false:=by rw[decide_eq_false_iff_not];omega
    have hp3:=w3w (a:=n) (b:=k) (by omega)
    rw[hg] at hp3
    cases neg
    ·simp only[go_sem,Option.isSome_some,w3x,z0a hp2,Bool.not_true,z0a (x6o (n:=k) (by omega)),e5,z0a hp3,decide_true,hB,z0k,z0j,z0f]
     rw[z0g rfl rfl]
     exact hfin _ rfl _
    ·simp only[go_sem,Option.isSome_some,w3x,z0a hp2,Bool.not_true,z0a (x6o (n:=k) (by omega)),e5,z0a hp3,decide_true,hB,z0k,z0j,z0f]
     rw[z0g rfl rfl]
     exact hfin _ rfl _
end Go.Proofs.YtkollgjffkdliaaGreatDoor.Am
