/- Walking: numbers are generated Walking: the program's numbers Functions of the abstract machine's program Walking: the program's numbers Walking: a number is cut at its slash Walking: a number is cut  -/
import Derived.Test.YtkollgjffkdliaaGreatDoorK23
open Bool renaming false_eq_true → j9,not_eq_true' → d9,not_false → x6,not_true → z8
open Int renaming cast_ofNat_Int → z9,reduceEq → z7,reduceNegSucc → z5,reduceOfNat → z4
open List renaming all_eq_true → y9,append_nil → w9,cons_append → y6,drop_eq_getElem_cons → b6,drop_zero → u9,exists_cons_of_ne_nil → m9,getElem_mem → x8,length_cons → v5,length_map → z6,length_take → u7,map_cons → j4,map_nil → k8,mem_append → x4,mem_cons → j6,mem_cons_of_mem → v7,mem_cons_self → j7,mem_map → w0,mem_of_mem_take → d6,nil_append → y8,replicate → x3,take_length → b7,take_succ_eq_append_getElem → w7
open Nat renaming eq_zero_or_pos → d7,gcd → j8,le_refl → x7,mul_comm → u1,pow_le_pow_right → b9,pow_succ → b8,zero_add → k6
open Option renaming getD_some → d4,map_some → j5
open Nat renaming reduceBEq → z0,reduceAdd → z1,reduceLeDiff → z2,reduceSub → z3
set_option linter.all false
namespace Go.Proofs.YtkollgjffkdliaaGreatDoor.Am
open Go
noncomputable section
set_option maxRecDepth 100000
section
variable {l:List Int}
theorem k7v {z:Int} {d:Nat} (hz:z.natAbs < 10 ^ 26) (hd:1≤d) (hd4:d≤4):RatS (z3g (decide (z < 0) && !decide (z.natAbs / j8 z.natAbs d=0)) (z.natAbs / j8 z.natAbs d) (d / j8 z.natAbs d)):=by
 have hg:0 < j8 z.natAbs d:=Nat.gcd_pos_of_pos_right _ hd
 have hcop:j8 (z.natAbs / j8 z.natAbs d) (d / j8 z.natAbs d)=1:=Nat.gcd_div_gcd_div_gcd_of_pos_right hd
 have h1:z.natAbs / j8 z.natAbs d≤z.natAbs:=Nat.div_le_self _ _
 have h2:d / j8 z.natAbs d≤d:=Nat.div_le_self _ _
 have h3:0 < d / j8 z.natAbs d:=Nat.div_pos (Nat.le_of_dvd hd (Nat.gcd_dvd_right _ _)) hg
 generalize z.natAbs / j8 z.natAbs d=n at *
 generalize d / j8 z.natAbs d=e at *
 obtain⟨w,hw,hwn⟩:∃ w:Int,z0f w=(if (decide (z < 0) && !decide (n=0))=true then [45] else [])++dec n∧w.natAbs=n:=by
  by_cases hneg:(decide (z < 0) && !decide (n=0))=true
  ·simp only[Bool.and_eq_true,r8,d9,n9] at hneg
   refine⟨-(n:Int), ?_,by omega⟩
   rw[z0f,if_pos (by omega),show (-(n:Int)).natAbs=n by omega]
   simp[hneg.1,hneg.2]
  ·refine⟨(n:Int), ?_,by omega⟩
   rw[if_neg hneg,z0f,if_neg (by omega),Int.natAbs_natCast]
   rfl
 unfold z3g
 rw[←hw]
 by_cases he:e=1
 ·rw[if_pos he,w9]
  exact .inl (q6c (by omega))
 ·rw[if_neg he]
  exact .inr ⟨w,e,rfl,by omega,by omega,by omega,by rw[hwn];exact hcop⟩
theorem y1c (hl:q7t l):GenOk l 306 [] fun v=>∃ a,v= .str a∧RatS a:=by
 refine GenOk.of rfl y7n rfl rfl rfl rfl rfl fun D B p g i clk T hB hs hD hi hR=> ?_
 simp only[go_sem,w8q,hB]
 refine z0l (v3k hl) hB hs hD hi ?_
 clear hB hD hi
 rintro v D i ⟨z,rfl,hz⟩ hB hD hi
 simp only[go_sem,]
 refine z0l (z3u hl (by decide) (by decide)) hB hs hD hi ?_
 clear hB hD hi
 rintro v D i ⟨r,rfl,hr3,hr4⟩ hB hD hi
 obtain⟨k,rfl⟩:∃ k:Nat,r=k:=⟨r.toNat,by omega⟩
 have e1:IntKind.i64.wrap (1 + (k:Int))=((1 + k:Nat):Int):=by rw[z0c (by omega) (by omega)];omega
 simp only[go_sem,e1]
 rw[z0a (z7p (by omega) (by omega))]
 simp only[go_sem,]
 rw[z0a (v9f (Nat.le_trans (z6q (k:=26) (by omega) hz) (by omega)) (by omega) (by omega))]
 simp only[go_sem,]
 rw[z2z]
 exact hR _ _ i (by rw[z0m hB hs];exact hD) hi ⟨_,rfl,k7v hz (by omega) (by omega)⟩
theorem y1d (hl:q7t l):x1q l:=by
 intro s hs23
 refine GenOk.of rfl y7l rfl rfl rfl rfl rfl fun D B p g i clk T hB hs hD hi hR=> ?_
 rcases hs23 with rfl | rfl
 ·simp only[go_sem,v7r,hB,nat,z7,decide_true,decide_false]
  refine z0l (v3k hl) hB hs hD hi ?_
  clear hB hD hi
  rintro v D i ⟨z,rfl,hz⟩ hB hD hi
  simp only[go_sem,]
  rw[z2z]
  exact hR _ _ i (by rw[z0m hB hs];exact hD) hi ⟨_,rfl, .inl ⟨rfl,q6c (by omega)⟩⟩
 ·simp only[go_sem,v7r,hB,nat,z7,decide_true,decide_false]
  refine z0l (y1c hl) hB hs hD hi ?_
  clear hB hD hi
  rintro v D i ⟨a,rfl,ha⟩ hB hD hi
  simp only[go_sem,]
  rw[z2z]
  exact hR _ _ i (by rw[z0m hB hs];exact hD) hi ⟨_,rfl, .inr ⟨rfl,ha⟩⟩
end
theorem j4j {h:List AObj} {c:Nat} {s:List Nat} {k:IntKind}:slV h none (.str (c::s)) none (some (.int k 1)) none=some (.str [c],h):=by
 simp[slV,z2v,z4w]
theorem j1a {t:List Nat}:Pure Gam 328 [.str (45::t), .str [45]] (.bool true):=by
 refine Pure.of rfl w9w rfl rfl rfl rfl rfl fun D B clk T hB hT=> ?_
 have e1:decide ((1:Int)≤((t.length + 1:Nat):Int))=true:=by rw[r8];omega
 simp only[go_sem,v8s,k6,z9,e1,j4j,decide_true]
 rw[z0e]
 exact hT _
theorem j1b {c:Nat} {t:List Nat} (hc:c≠45):Pure Gam 328 [.str (c::t), .str [45]] (.bool false):=by
 refine Pure.of rfl w9w rfl rfl rfl rfl rfl fun D B clk T hB hT=> ?_
 have e1:decide ((1:Int)≤((t.length + 1:Nat):Int))=true:=by rw[r8];omega
 have e2:decide ([c]=[45])=false:=by simp[hc]
 simp only[go_sem,v8s,k6,z9,e1,j4j,e2]
 rw[z0e]
 exact hT _
theorem x0a {t:List Nat}:Pure Gam 291 [.str (45::t), .str [45]] (.tup [.str t, .bool true]):=by
 have hp:Pure Gam 316 [.str (45::t), .str [45]] (.tup [.str t, .bool true]):=by
  refine Pure.of rfl w9v rfl rfl rfl rfl rfl fun D B clk T hB hT=> ?_
  simp only[go_sem,v8r]
  rw[z0a j1a]
  simp only[go_sem,z8,k6,z9,q9u]
  rw[z0h rfl rfl]
  exact hT _
 refine Pure.of rfl w9u rfl rfl rfl rfl rfl fun D B clk T hB hT=> ?_
 simp only[go_sem,v8q]
 rw[z0a hp]
 simp only[go_sem,]
 rw[z0h rfl rfl]
 exact hT _
theorem x0b {c:Nat} {t:List Nat} (hc:c≠45):Pure Gam 291 [.str (c::t), .str [45]] (.tup [.str (c::t), .bool false]):=by
 have hp:Pure Gam 316 [.str (c::t), .str [45]] (.tup [.str (c::t), .bool false]):=by
  refine Pure.of rfl w9v rfl rfl rfl rfl rfl fun D B clk T hB hT=> ?_
  simp only[go_sem,v8r]
  rw[z0a (j1b hc)]
  simp only[go_sem,x6]
  rw[z0h rfl rfl]
  exact hT _
 refine Pure.of rfl w9u rfl rfl rfl rfl rfl fun D B clk T hB hT=> ?_
 simp only[go_sem,v8q]
 rw[z0a hp]
 simp only[go_sem,]
 rw[z0h rfl rfl]
 exact hT _
section
open Sh
set_option maxHeartbeats 0
def y1e:AFun:=(fun (a:AFun) (_:Gam.fn 157=some a)=>a) _ (by conv=>lhs;reduce;simp only[z4,z5])
theorem y9l:Gam.fn 157=some y1e:=by kernel_rfl
def y1f:AFun:=(fun (a:AFun) (_:Gam.fn 158=some a)=>a) _ (by conv=>lhs;reduce;simp only[z4,z5])
theorem y9m:Gam.fn 158=some y1f:=by kernel_rfl
def y1g:AFun:=(fun (a:AFun) (_:Gam.fn 160=some a)=>a) _ (by conv=>lhs;reduce;simp only[z4,z5])
theorem y9n:Gam.fn 160=some y1g:=by kernel_rfl
def y1h:AFun:=(fun (a:AFun) (_:Gam.fn 226=some a)=>a) _ (by conv=>lhs;reduce;simp only[z4,z5])
theorem y9o:Gam.fn 226=some y1h:=by kernel_rfl
def u3l:AFun:=(fun (a:AFun) (_:Gam.fn 193=some a)=>a) _ (by conv=>lhs;reduce;simp only[z4,z5])
def x2z:ACode:=(fun (a:ACode) (_:fl [] (lp u3l 0)=a)=>a) _ (by conv=>lhs;reduce;simp only[z4,z5])
attribute [local irreducible] x2z
def y1i:AFun:=(fun (a:AFun) (_:flF [x2z] u3l=a)=>a) _ (by conv=>lhs;reduce;simp only[z4,z5])
theorem y9p:Gam.fn 193=some y1i:=by kernel_rfl
def u3m:AFun:=(fun (a:AFun) (_:Gam.fn 192=some a)=>a) _ (by conv=>lhs;reduce;simp only[z4,z5])
def q5h:ACode:=(fun (a:ACode) (_:fl [] (lp u3m 0)=a)=>a) _ (by conv=>lhs;reduce;simp only[z4,z5])
attribute [local irreducible] q5h
def y1j:AFun:=(fun (a:AFun) (_:flF [q5h] u3m=a)=>a) _ (by conv=>lhs;reduce;simp only[z4,z5])
theorem y9q:Gam.fn 192=some y1j:=by kernel_rfl
def y1k:AFun:=(fun (a:AFun) (_:Gam.fn 194=some a)=>a) _ (by conv=>lhs;reduce;simp only[z4,z5])
theorem y9r:Gam.fn 194=some y1k:=by kernel_rfl
def j1c:AFun:=(fun (a:AFun) (_:Gam.fn 189=some a)=>a) _ (by conv=>lhs;reduce;simp only[z4,z5])
theorem k2c:Gam.fn 189=some j1c:=by kernel_rfl
def x1r:AFun:=(fun (a:AFun) (_:Gam.fn 190=some a)=>a) _ (by conv=>lhs;reduce;simp only[z4,z5])
theorem y9s:Gam.fn 190=some x1r:=by kernel_rfl
def q1v:AFun:=(fun (a:AFun) (_:Gam.fn 191=some a)=>a) _ (by conv=>lhs;reduce;simp only[z4,z5])
theorem y9t:Gam.fn 191=some q1v:=by kernel_rfl
def v9g:AFun:=(fun (a:AFun) (_:Gam.fn 245=some a)=>a) _ (by conv=>lhs;reduce;simp only[z4,z5])
theorem y1l:Gam.fn 245=some v9g:=by kernel_rfl
def y1m:AFun:=(fun (a:AFun) (_:Gam.fn 246=some a)=>a) _ (by conv=>lhs;reduce;simp only[z4,z5])
theorem y9u:Gam.fn 246=some y1m:=by kernel_rfl
def v9h:AFun:=(fun (a:AFun) (_:Gam.fn 247=some a)=>a) _ (by conv=>lhs;reduce;simp only[z4,z5])
theorem y9v:Gam.fn 247=some v9h:=by kernel_rfl
def y1n:AFun:=(fun (a:AFun) (_:Gam.fn 248=some a)=>a) _ (by conv=>lhs;reduce;simp only[z4,z5])
theorem y9w:Gam.fn 248=some y1n:=by kernel_rfl
def y1o:AFun:=(fun (a:AFun) (_:Gam.fn 249=some a)=>a) _ (by conv=>lhs;reduce;simp only[z4,z5])
theorem y9x:Gam.fn 249=some y1o:=by kernel_rfl
def y1p:AFun:=(fun (a:AFun) (_:Gam.fn 250=some a)=>a) _ (by conv=>lhs;reduce;simp only[z4,z5])
theorem y9y:Gam.fn 250=some y1p:=by kernel_rfl
def y1q:AFun:=(fun (a:AFun) (_:Gam.fn 293=some a)=>a) _ (by conv=>lhs;reduce;simp only[z4,z5])
theorem y9z:Gam.fn 293=some y1q:=by kernel_rfl
def y1r:AFun:=(fun (a:AFun) (_:Gam.fn 197=some a)=>a) _ (by conv=>lhs;reduce;simp only[z4,z5])
theorem u0a:Gam.fn 197=some y1r:=by kernel_rfl
def u3n:AFun:=(fun (a:AFun) (_:Gam.fn 255=some a)=>a) _ (by conv=>lhs;reduce;simp only[z4,z5])
def x3a:ACode:=(fun (a:ACode) (_:fl [] (lp u3n 0)=a)=>a) _ (by conv=>lhs;reduce;simp only[z4,z5])
attribute [local irreducible] x3a
def y1s:AFun:=(fun (a:AFun) (_:flF [x3a] u3n=a)=>a) _ (by conv=>lhs;reduce;simp only[z4,z5])
theorem u0b:Gam.fn 255=some y1s:=by kernel_rfl
def v9i:AFun:=(fun (a:AFun) (_:Gam.fn 251=some a)=>a) _ (by conv=>lhs;reduce;simp only[z4,z5])
theorem u0c:Gam.fn 251=some v9i:=by kernel_rfl
end
theorem x0c {s:List Nat} {i:Nat} {h:List AObj} {t:Tip} {k:IntKind} (hi:i < s.length):z1v h 1 (.sl (bytes s) t) (.int k (i:Int))=some (.iptr [.int .u8 (s[i]:Int)] 0,h):=z4i (e:= .int .u8 (s[i]:Int)) (by simp[bytes,hi]) rfl
theorem q6i {n:Nat} (hl:(dec n).length≤1000):Pure Gam 292 [.str (dec n)] (.bool true):=by
 refine Pure.of rfl y8h rfl rfl rfl rfl rfl fun D B clk T hB hT=> ?_
 have hd:=z1d n
 have hb:(dec n).map (fun (b:Nat)=>AV.int .u8 (Int.ofNat b))=bytes (dec n):=rfl
 simp only[go_sem,w9x,hb,q5e]
 refine z1f (fun m q=>∃ j:Nat,j≤(dec n).length∧m=(dec n).length - j∧q.ts 0= .str (dec n)∧q.ts 6= .sl (bytes (dec n)) .no∧q.ts 7= .int .i64 ((dec n).length:Int)∧q.ts 8= .int .i64 (j:Int)∧q.h=D++[]) (dec n).length ⟨0,by omega,rfl,rfl,rfl,rfl,rfl,rfl⟩ ?_
 rintro m ⟨ts,h,clk⟩ P ⟨j,hj,rfl,h0,h6,h7,h8,rfl⟩ hn he hr
 dsimp only at h0 h6 h7 h8
 by_cases hlt:j < (dec n).length
 ·have e1:decide ((j:Int) < ((dec n).length:Int))=true:=by rw[r8];omega
  have hc:=hd _ (x8 hlt)
  have e2:decide (((dec n)[j]:Int) < 48)=false:=by rw[n9];omega
  have e3:decide ((57:Int) < ((dec n)[j]:Int))=false:=by rw[n9];omega
  have e4:IntKind.i64.wrap ((j:Int) + 1)=((j + 1:Nat):Int):=z0c (by omega) (by omega)
  simp only[go_sem,h0,h6,h7,h8,j3t,e1,x0c hlt,e2,e3,e4]
  exact hn ((dec n).length - (j + 1)) _ (by omega) ⟨j + 1,hlt,rfl,h0,h6,h7,rfl,rfl⟩
 ·have e1:decide ((j:Int) < ((dec n).length:Int))=false:=by rw[n9];omega
  simp only[go_sem,h0,h6,h7,h8,j3t,e1]
  refine he _ _ ?_
  rcases d7 n with rfl | hpos
  ·have e2:decide (dec 0=[48])=true:=by rw[z1o];rfl
   simp only[go_sem,h0,e2,z8]
   rw[z0e]
   exact hT _
  ·obtain⟨c,t,hct,hc1,hc2⟩:=j3n hpos
   have e2:decide (dec n=[48])=false:=by rw[z1o,n9];omega
   have e3:decide (dec n=[])=false:=by simp[z7d n]
   have e4:∀ h k,q3t h (.str (dec n)) (.int k 0)=some (.int .u8 (c:Int),h):=fun h k=>by rw[hct];exact z5s
   have e5:decide ((c:Int)=48)=false:=by rw[n9];omega
   simp only[go_sem,h0,e2,e3,e4,e5,x6,z8]
   rw[z0e]
   exact hT _
theorem k2d {z:Int} (hl:(dec z.natAbs).length≤1000):Pure Gam 247 [.str (z0f z)] (.bool true):=by
 refine Pure.of rfl y9v rfl rfl rfl rfl rfl fun D B clk T hB hT=> ?_
 by_cases hz:z < 0
 ·have e1:decide (dec z.natAbs=[48])=false:=by rw[z1o,n9];omega
  rw[z0f,if_pos hz]
  simp only[go_sem,v9h]
  rw[z0a x0a]
  simp only[go_sem,]
  rw[z0a (q6i hl)]
  simp only[go_sem,e1,x6]
  rw[z0e]
  exact hT _
 ·obtain⟨c,t,hct⟩:=m9 (z7d z.natAbs)
  have hc:=z1d z.natAbs c (by rw[hct];exact j7)
  have hp:Pure Gam 291 [.str (dec z.natAbs), .str [45]] (.tup [.str (dec z.natAbs), .bool false]):=by rw[hct];exact x0b (by omega)
  rw[z0f,if_neg hz]
  simp only[go_sem,v9h]
  rw[z0a hp]
  simp only[go_sem,]
  rw[z0a (q6i hl)]
  simp only[go_sem,x6]
  rw[z0e]
  exact hT _
theorem Pure.ext {f:Nat} {args:List AV} {sem:List AV→Option AV} {v:AV} (hext:Gam.ext f=some sem) (hobs:z4u args=[]) (hv:sem (cvL args)=some v):Pure Gam f args v:=by
 intro h clk
 constructor
 ·refine⟨0, ?_⟩
  unfold z5w z0k
  simp only[hext,z2g hobs,z6o hobs,List.isEmpty_nil,if_true,hv,j5]
 ·unfold z0z
  simp only[hext,hobs,k8,w9]
def q1w (s:List Nat):Int:=match s.findIdx? (fun (b:Nat)=>decide ((b:Int)=47)) with
 | some i=>(i:Int)
 | none=> -1
theorem v9j {s:List Nat}:Pure Gam 354 [.str s, .int .u8 47] (.int .i64 (q1w s)):=Pure.ext (sem:=x1x) rfl rfl (by simp[cvL,AV.cv,x1x,q1w];rfl)
theorem k2e {c:Nat} {t:List Nat} (hc:c≠47):Pure Gam 334 [.str (c::t), .str [47]] (.int .i64 (q1w (c::t))):=by
 have h292:Pure Gam 344 [.str (c::t), .int .u8 47] (.int .i64 (q1w (c::t))):=by
  refine Pure.of rfl y8j rfl rfl rfl rfl rfl fun D B clk T hB hT=> ?_
  simp only[go_sem,y0d]
  rw[z0a v9j]
  simp only[go_sem,]
  rw[z2c]
  exact hT _
 refine Pure.of rfl y8i rfl rfl rfl rfl rfl fun D B clk T hB hT=> ?_
 have e2:decide ([47]=c::t)=false:=by rw[n9];intro h;injection h with h1 _;exact hc h1.symm
 simp only[go_sem,y0c,k6,z9,z7,decide_true,decide_false,x6,e2,z5s]
 rw[z0a h292]
 simp only[go_sem,]
 rw[z2c]
 exact hT _
theorem j7p {s:List Nat} (hd:∀ c∈s,c≠47):q1w s= -1:=by
 unfold q1w
 rw[List.findIdx?_eq_none_iff.2 fun c hc=>by have:=hd c hc;simp;omega]
theorem k7w {s r:List Nat} (hd:∀ c∈s,c≠47):q1w (s++47::r)=(s.length:Int):=by
 have h:(s++47::r).findIdx? (fun (b:Nat)=>decide ((b:Int)=47))=some s.length:=by
  induction s with
  | nil=>simp[List.findIdx?_cons]
  | cons c s ih=>
    have hc:=hd c j7
    have:=ih fun d hd'=>hd d (v7 _ hd')
    rw[y6,List.findIdx?_cons,this]
    have:decide ((c:Int)=47)=false:=by rw[n9];omega
    simp[this]
 unfold q1w
 rw[h]
theorem x8r {s:List Nat} (hne:s≠[]) (hd:∀ c∈s,c≠47):Pure Gam 322 [.str s, .str [47]] (.tup [.str s, .str [], .bool false]):=by
 obtain⟨c,t,rfl⟩:=m9 hne
 have hp:Pure Gam 329 [.str (c::t), .str [47]] (.tup [.str (c::t), .str [], .bool false]):=by
  refine Pure.of rfl y0b rfl rfl rfl rfl rfl fun D B clk T hB hT=> ?_
  simp only[go_sem,v8w]
  rw[z0a (k2e (hd c j7)),j7p hd]
  simp only[go_sem,Int.reduceLE,decide_false]
  rw[z0h rfl rfl]
  exact hT _
 refine Pure.of rfl y0a rfl rfl rfl rfl rfl fun D B clk T hB hT=> ?_
 simp only[go_sem,v8v]
 rw[z0a hp]
 simp only[go_sem,]
 rw[z0h rfl rfl]
 exact hT _
theorem j7q {s r:List Nat} (hne:s≠[]) (hd:∀ c∈s,c≠47) (hl:s.length≤1000):Pure Gam 322 [.str (s++47::r), .str [47]] (.tup [.str s, .str r, .bool true]):=by
 obtain⟨c,t,hs⟩:=m9 hne
 have hi:Pure Gam 334 [.str (s++47::r), .str [47]] (.int .i64 (s.length:Int)):=by
  rw[←k7w (r:=r) hd,hs]
  exact k2e (hd c (by rw[hs];exact j7))
 have hp:Pure Gam 329 [.str (s++47::r), .str [47]] (.tup [.str s, .str r, .bool true]):=by
  refine Pure.of rfl y0b rfl rfl rfl rfl rfl fun D B clk T hB hT=> ?_
  have e1:decide (0≤(s.length:Int))=true:=by rw[r8];omega
  have e2:IntKind.i64.wrap ((s.length:Int) + 1)=((s.length + 1:Nat):Int):=z0c (by omega) (by omega)
  have e3:(s++47::r).take s.length=s:=List.take_left
  have e4:(s++47::r).drop (s.length + 1)=r:=by rw[List.drop_append,Nat.add_sub_cancel_left,List.drop_of_length_le (by omega)];rfl
  have h1:∀ h,slV h none (.str (s++47::r)) none (some (.int .i64 (s.length:Int))) none=some (.str s,h):=fun h=>by rw[y0o (by simp),e3]
  have h2:∀ h,slV h none (.str (s++47::r)) (some (.int .i64 ((s.length + 1:Nat):Int))) none none=some (.str r,h):=fun h=>by rw[k7j (by simp),e4]
  simp only[go_sem,v8w]
  rw[z0a hi]
  simp only[go_sem,e1,k6,z9,e2,h1,h2]
  rw[z0h rfl rfl]
  exact hT _
 refine Pure.of rfl y0a rfl rfl rfl rfl rfl fun D B clk T hB hT=> ?_
 simp only[go_sem,v8v]
 rw[z0a hp]
 simp only[go_sem,]
 rw[z0h rfl rfl]
 exact hT _
def nl (n:Nat):List Nat:=if n=0 then [] else n % 1000000000::nl (n / 1000000000)
termination_by n
decreasing_by omega
theorem z8q:nl 0=[]:=by rw[nl,if_pos rfl]
theorem x0d {n:Nat} (h:0 < n):nl n=n % 1000000000::nl (n / 1000000000):=by rw[nl,if_neg (by omega)]
theorem x5d {n:Nat} (h:0 < n) (h2:n < 1000000000):nl n=[n]:=by
 rw[x0d h,Nat.mod_eq_of_lt h2,Nat.div_eq_of_lt h2,z8q]
def z7i:List Nat→Nat
 | []=>0
 | x::l=>x + 1000000000 * z7i l
theorem q4a (n:Nat):z7i (nl n)=n:=by
 induction n using Nat.strongRecOn with
 | ind n ih=>
   rcases d7 n with rfl | h
   ·rw[z8q];rfl
   ·rw[x0d h,z7i,ih _ (by omega)]
    omega
theorem v9k (n:Nat):∀ x∈nl n,x < 1000000000:=by
 induction n using Nat.strongRecOn with
 | ind n ih=>
   rcases d7 n with rfl | h
   ·rw[z8q];simp
   ·rw[x0d h]
    intro x hx
    rw[j6] at hx
    rcases hx with rfl | hx
    ·omega
    ·exact ih _ (by omega) x hx
theorem q4b {a b:List Nat}:z7i (a++b)=z7i a + 1000000000 ^ a.length * z7i b:=by
 induction a with
 | nil=>simp[z7i]
 | cons x a ih=>
   simp only[y6,z7i,ih,v5,b8]
   rw[Nat.mul_add,←Nat.mul_assoc,u1 (1000000000 ^ a.length) 1000000000]
   omega
theorem v9l {l:List Nat} (h:∀ x∈l,x < 1000000000):z7i l < 1000000000 ^ l.length:=by
 induction l with
 | nil=>simp[z7i]
 | cons x l ih=>
   have h1:=ih fun y hy=>h y (v7 _ hy)
   have h2:=h x j7
   simp only[z7i,v5,b8]
   omega
theorem v9m {l:List Nat} (h:∀ x∈l,x < 1000000000) (hc:∀ l',l≠l'++[0]):nl (z7i l)=l:=by
 induction l with
 | nil=>exact z8q
 | cons x l ih=>
   have hx:=h x j7
   have hl:nl (z7i l)=l:=ih (fun y hy=>h y (v7 _ hy)) fun l' e=>hc (x::l') (by rw[e];rfl)
   have hpos:0 < x + 1000000000 * z7i l:=by
    rcases d7 (z7i l) with h0 | h0
    ·rw[h0,z8q] at hl
     have:x≠0:=fun e=>hc [] (by rw[e,←hl];rfl)
     omega
    ·omega
   rw[z7i,x0d hpos]
   congr 1
   ·omega
   ·rw[show (x + 1000000000 * z7i l) / 1000000000=z7i l by omega,hl]
theorem y1t {n k:Nat} (h:n < 1000000000 ^ k):(nl n).length≤k:=by
 induction k generalizing n with
 | zero=>
   have:n=0:=by simpa using h
   rw[this,z8q];simp
 | succ k ih=>
   rcases d7 n with rfl | hp
   ·rw[z8q];simp
   ·rw[x0d hp,v5]
    have:=ih (n:=n / 1000000000) (by rw[b8] at h;omega)
    omega
theorem x3b:∀ {os:List (Nat×Nat)} {h:List AObj},(freezeAll h os).length=h.length
 | [],_=>rfl
 | o::os,h=>by
   simp only[freezeAll]
   rw[x3b]
   split
   ·rw[List.length_set]
   ·rfl
theorem j7r {f:Nat} {args az:List AV} {h:List AObj} {clk:Nat} {v:AV} {af:AFun} (hp:Pure Gam f az v) (hext:Gam.ext f=none) (hfn:Gam.fn f=some af) (hb:af.byref=[]) (ho:af.owned=false) (hpa:z1q h [] 0 args=some az) (hcv:cvL az=az) (hobs:z4u az=[]) (hids:z0i az=[]) (hv:v.ids=[]):
  ∃ k,z5w Gam k f args h clk=some (v,if v.flat then h else freezeAll h (z0p [] 0 args),clk):=by
 obtain⟨⟨k,hk⟩,_⟩:=hp (freezeAll h (z0p [] 0 args)) clk
 refine⟨k, ?_⟩
 have hpa2:z1q (freezeAll h (z0p [] 0 args)) [] 0 az=some az:=by rw[z2g hobs,hcv]
 have hl2:z0p [] 0 az=[]:=z6o hobs
 unfold z5w z0k at hk⊢
 simp only[hext,hfn,hb,hpa,hpa2,hl2,hids,reach,freezeAll,x3b,z4h,ho,j9,if_false] at hk⊢
 generalize z3q Gam k h.length af.body _=E at hk⊢
 match E,hk with
 | none,hk=>cases hk
 | some (.exit i,s),hk=>cases hk
 | some (.norm,s),hk=>
   simp only at hk⊢
   generalize z1s s.h s.ts af.results=R at hk⊢
   cases R with
   | none=>cases hk
   | some vs=>
     simp only at hk⊢
     generalize conv s.h (z1k vs)=W at hk⊢
     cases W with
     | none=>cases hk
     | some w=>
       simp only at hk⊢
       have hw:w=v:=by
        revert hk
        generalize List.all _ _=b
        cases b
        ·intro hk
         simp only[j9,if_false,Option.some.injEq,Prod.mk.injEq] at hk
         exact hk.1
        ·intro hk
         simp only[if_true,Option.some.injEq,Prod.mk.injEq] at hk
         exact hk.1
       subst hw
       simp only[hv,List.isEmpty_nil,Bool.and_true,k8,List.flatten_nil,w9,List.all_nil,if_true,z9w]
 | some (.ret,s),hk=>
   simp only at hk⊢
   generalize z1s s.h s.ts af.results=R at hk⊢
   cases R with
   | none=>cases hk
   | some vs=>
     simp only at hk⊢
     generalize conv s.h (z1k vs)=W at hk⊢
     cases W with
     | none=>cases hk
     | some w=>
       simp only at hk⊢
       have hw:w=v:=by
        revert hk
        generalize List.all _ _=b
        cases b
        ·intro hk
         simp only[j9,if_false,Option.some.injEq,Prod.mk.injEq] at hk
         exact hk.1
        ·intro hk
         simp only[if_true,Option.some.injEq,Prod.mk.injEq] at hk
         exact hk.1
       subst hw
       simp only[hv,List.isEmpty_nil,Bool.and_true,k8,List.flatten_nil,w9,List.all_nil,if_true,z9w]
theorem j1d {f base gg clk:Nat} {args az:List AV} {h:List AObj} {v:AV} {af:AFun} {dst:Option Nat} {os:List AOper} {ts:Tmps} {ks:List Kf} {Q:Post} (hp:Pure Gam f az v) (hext:Gam.ext f=none) (hfn:Gam.fn f=some af) (hb:af.byref=[]) (ho:af.owned=false) (hpa:z1q h [] 0 args=some az) (hcv:cvL az=az) (hobs:z4u az=[]) (hids:z0i az=[]) (hv:v.ids=[]):
  CK Gam base f args h clk .plain dst gg os ts ks Q=O Gam base .plain (gg + 1) os ⟨z8g ts dst v,if v.flat then h else freezeAll h (z0p [] 0 args),clk⟩ ks Q:=by
 obtain⟨k,hk⟩:=j7r (clk:=clk) hp hext hfn hb ho hpa hcv hobs hids hv
 unfold CK
 apply propext
 constructor
 ·rintro ⟨k',v',h',c,hc,hq⟩
  have:=q9g hk hc
  simp only[Prod.mk.injEq] at this
  obtain⟨rfl,rfl,rfl⟩:=this
  exact hq
 ·intro hq
  exact⟨k,_,_,_,hk,hq⟩
def z3s (x:Nat):AV:= .int .u32 (x:Int)
theorem z3d {l:List Nat}:z0i (l.map z3s)=[]:=z0d fun _=>rfl
theorem x0e {l:List Nat}:z0r 1 (l.map z3s)=true:=z1u fun _=>⟨rfl,rfl,rfl⟩
theorem x5e {T:List Nat} {l:List Nat} {t:Tip} {R:AV→List AObj→Prop} {h:List AObj}:RV T (some [.sl (l.map z3s) t]) R h=R (.sl (l.map z3s) .no) h:=z2y rfl (by simp[AV.cv,AV.ids,z3d])
theorem x0f {T:List Nat} {l l':List Nat} {t t':Tip} {R:AV→List AObj→Prop} {h:List AObj}:RV T (some [.sl (l.map z3s) t, .sl (l'.map z3s) t']) R h=R (.tup [.sl (l.map z3s) .no, .sl (l'.map z3s) .no]) h:=z0h rfl (by simp[z1k,AV.cv,cvL,AV.ids,z0i,z3d])
theorem q0v {l:List Nat} {i:Nat} {h:List AObj} {t:Tip} {k:IntKind} (hi:i < l.length):z1v h 1 (.sl (l.map z3s) t) (.int k (i:Int))=some (.iptr [.int .u32 (l[i]:Int)] 0,h):=z4i (e:= .int .u32 (l[i]:Int)) (by simp[z3s,hi]) rfl
theorem v9n {l:List Nat} {n:Nat} {h:List AObj} (hn:n≤l.length):slV h (some 1) (.sl (l.map z3s) .no) none (some (.int .i64 (n:Int))) none=some (.sl ((l.take n).map z3s) .no,h):=by
 have hh:z5m 1 (l.map z3s)=true:=by cases l <;> rfl
 have hn':n≤(l.map z3s).length:=by rw[z6];exact hn
 simp[slV,z2v,z4w,hh,hn]
theorem x1s {l:List Nat} {n:Nat} (hn:n < l.length) (h0:l[n]=0):z7i (l.take (n + 1))=z7i (l.take n):=by
 rw[w7 hn,q4b,h0]
 simp[z7i]
theorem j1e {l:List Nat} {t:Tip} (hb:∀ x∈l,x < 1000000000) (hl:l.length≤1000):Pure Gam 332 [.sl (l.map z3s) t] (.sl ((nl (z7i l)).map z3s) .no):=by
 refine Pure.of rfl y0l rfl rfl rfl (az:=[.sl (l.map z3s) .no]) rfl (by simp[z0i,AV.ids,AV.cv,z3d]) fun D B clk T hB hT=> ?_
 simp only[go_sem,y0k,z6]
 refine z1f (fun m q=>m≤l.length∧z7i (l.take m)=z7i l∧q.ts 0= .sl (l.map z3s) .no∧q.ts 3= .int .i64 (m:Int)∧q.h=D++[]) l.length ⟨x7 _,by rw[b7],rfl,rfl,rfl⟩ ?_
 rintro m ⟨ts,h,clk⟩ P ⟨hm,hv,h0,h3,rfl⟩ hn he hr
 dsimp only at h0 h3
 have fin:nl (z7i l)=l.take m→∀ (ts':Tmps) (clk':Nat),ts' 0= .sl (l.map z3s) .no→ts' 3= .int .i64 (m:Int)→P (.exit 0) ⟨ts',D++[],clk'⟩:=by
  intro hc ts' clk' q0 q3
  refine he _ _ ?_
  simp only[go_sem,q0,q3,v9n hm]
  rw[x5e,←hc]
  exact hT _
 rcases d7 m with rfl | hpos
 ·have e1:decide ((0:Int) < 0)=false:=rfl
  simp only[go_sem,h0,h3,x8m,e1]
  exact fin (by rw[←hv,List.take_zero];exact z8q) _ _ h0 h3
 ·have e1:decide ((0:Int) < (m:Int))=true:=by rw[r8];omega
  have e2:IntKind.i64.wrap ((m:Int) - 1)=((m - 1:Nat):Int):=by rw[z0c (by omega) (by omega)];omega
  have hlt:m - 1 < l.length:=by omega
  by_cases hz:l[m - 1]=0
  ·have e3:decide (((l[m - 1]:Nat):Int)=0)=true:=by rw[r8];omega
   simp only[go_sem,h0,h3,x8m,e1,e2,q0v hlt,e3]
   refine hn (m - 1) _ (by omega) ⟨by omega, ?_,h0,rfl,rfl⟩
   rw[←hv,←x1s hlt hz,show m - 1 + 1=m by omega]
  ·have e3:decide (((l[m - 1]:Nat):Int)=0)=false:=by rw[n9];omega
   simp only[go_sem,h0,h3,x8m,e1,e2,q0v hlt,e3]
   refine fin ?_ _ _ h0 h3
   rw[←hv]
   refine v9m (fun x hx=>hb x (d6 hx)) fun l' e=>hz ?_
   have h1:l.take m=l.take (m - 1)++[l[m - 1]]:=by
    have:=w7 hlt
    rwa [show m - 1 + 1=m by omega] at this
   rw[h1] at e
   have:=List.append_inj' e rfl
   simpa using this.2
theorem u64_in {n:Int} (h1:0≤n) (h2:n≤18446744073709551615):IntKind.u64.wrap n=n:=IntWalk.u64_in _ ⟨h1,h2⟩
theorem u32_in {n:Int} (h1:0≤n) (h2:n≤4294967295):IntKind.u32.wrap n=n:=IntWalk.u32_in _ ⟨h1,h2⟩
theorem x3c (l:List Nat) (k:Nat):z7i l=z7i (l.take k) + 1000000000 ^ (l.take k).length * z7i (l.drop k):=by
 rw[←q4b,List.take_append_drop]
theorem x8s {a b:List Nat} {k:Nat} (ha:∀ x∈a,x < 1000000000) (hl:a.length=b.length) (hka:k < a.length) (hkb:k < b.length) (hd:a.drop (k + 1)=b.drop (k + 1)) (h:a[k] < b[k]):z7i a < z7i b:=by
 rw[x3c a k,x3c b k,b6 hka,b6 hkb,hd]
 have h1:(a.take k).length=k:=by simp;omega
 have h2:(b.take k).length=k:=by simp;omega
 have h3:=v9l (l:=a.take k) fun x hx=>ha x (d6 hx)
 rw[h1] at h3
 rw[h1,h2]
 have h4:1000000000 ^ k * (1 + z7i (a[k]::b.drop (k + 1)))≤1000000000 ^ k * z7i (b[k]::b.drop (k + 1)):=Nat.mul_le_mul_left _ (by simp only[z7i];omega)
 rw[Nat.mul_add] at h4
 omega
theorem x8t {x y:Nat} (h:x≤y):(nl x).length≤(nl y).length:=by
 induction y using Nat.strongRecOn generalizing x with
 | ind y ih=>
   rcases d7 x with rfl | hx
   ·rw[z8q];simp
   ·rw[x0d hx,x0d (n:=y) (by omega),v5,v5]
    have:=ih (y / 1000000000) (by omega) (x:=x / 1000000000) (Nat.div_le_div_right h)
    omega
theorem z3t {base:Nat} {b:ACode} {ks:List Kf} {s:St} {Q:Post} (h:K Gam base b (.seq (.loop b)::ks) s Q):K Gam base (.loop b) ks s Q:=by
 rw[←v5g] at h
 have:∀ Q,W Gam base (.seq b (.loop b)) s Q=W Gam base (.loop b) s Q:=fun Q=>by
  apply propext
  constructor
  ·rintro ⟨k,e,s',h,hq⟩
   cases k with
   | zero=>cases h
   | succ k=>exact⟨k + 1,e,s',h,hq⟩
  ·rintro ⟨k,e,s',h,hq⟩
   cases k with
   | zero=>cases h
   | succ k=>exact⟨k + 1,e,s',h,hq⟩
 rw[w2q this] at h
 exact h
theorem z2h {h:List AObj} {K k:IntKind} {n:Int} {xs:List AV} {t:Tip}:z1v h 1 (.sl (.int K n::xs) t) (.int k 0)=some (.iptr [.int K n] 0,h):=z4i (i:=0) (e:= .int K n) rfl rfl
theorem v9o {x y:Nat} (hx:(nl x).length≤1000) (hy:(nl y).length≤1000):∃ r:Int,(r < 0↔x < y)∧(r=0↔x=y)∧Pure Gam 340 [.sl ((nl x).map z3s) .no, .sl ((nl y).map z3s) .no] (.int .i64 r):=by
 have hbx:=v9k x
 have hby:=v9k y
 by_cases hl:(nl x).length=(nl y).length
 ·
  have e1:decide (((nl x).length:Int)=((nl y).length:Int))=true:=by rw[r8];omega
  have key:∀ m,m≤(nl x).length→(nl x).drop m=(nl y).drop m→∃ r:Int,(r < 0↔x < y)∧(r=0↔x=y)∧∀ (D:List AObj) (B clk:Nat) (T:AV→List AObj→Prop) (ks:List Kf) (ts:Tmps) (Q:Post),ts 0= .sl ((nl x).map z3s) .no→ts 1= .sl ((nl y).map z3s) .no→ts 5= .int .i64 ((m:Int) - 1)→
    (∀ ts' clk',ts' 4= .int .i64 r→K Gam B .ret ks ⟨ts',D++[],clk'⟩ Q)→(r=0→∀ ts' clk',K Gam B (.exit 0) ks ⟨ts',D++[],clk'⟩ Q)→K Gam B (.loop x2x) ks ⟨ts,D++[],clk⟩ Q:=by
   intro m
   induction m with
   | zero=>
     intro _ hd
     have hxy:x=y:=by
      rw[u9,u9] at hd
      rw[←q4a x,←q4a y,hd]
     refine⟨0,by omega,by simp[hxy],fun D B clk T ks ts Q h0 h1 h5 _ hx=> ?_⟩
     refine z1f (fun _ q=>q.ts 5= .int .i64 (-1)∧q.h=D++[]) 0 ⟨by simpa using h5,rfl⟩ ?_
     rintro m ⟨ts,h,clk⟩ P ⟨h5,rfl⟩ hn he hr
     dsimp only at h5
     simp only[go_sem,h5,x2x,Int.reduceLE,Int.reduceNeg,decide_false]
     exact he _ _ (hx rfl _ _)
   | succ m ih=>
     intro hm hd
     have hkx:m < (nl x).length:=by omega
     have hky:m < (nl y).length:=by omega
     have e2:decide ((0:Int)≤((m + 1:Nat):Int) - 1)=true:=by rw[r8];omega
     have e3:((m + 1:Nat):Int) - 1=(m:Int):=by omega
     have e4:decide ((0:Int)≤(m:Int))=true:=by rw[r8];omega
     have hxm:=hbx _ (x8 hkx)
     have hym:=hby _ (x8 hky)
     have w1:∀ z:Nat,z < 1000000000→IntKind.i64.wrap (z:Int)=(z:Int):=fun z hz=>z0c (by omega) (by omega)
     have w2:=w1 _ hxm
     have w3:=w1 _ hym
     by_cases hne:(nl x)[m]=(nl y)[m]
     ·obtain⟨r,h1,h2,h3⟩:=ih (by omega) (by rw[b6 hkx,b6 hky,hd,hne])
      refine⟨r,h1,h2,fun D B clk T ks ts Q q0 q1 q5 hr hx=> ?_⟩
      rw[e3] at q5
      have e5:decide (((nl x)[m]:Int)=((nl y)[m]:Int))=true:=by rw[r8];omega
      have e6:IntKind.i64.wrap ((m:Int) - 1)=(m:Int) - 1:=z0c (by omega) (by omega)
      refine z3t ?_
      simp only[go_sem,q0,q1,q5,x2x,e4,q0v hkx,q0v hky,e5,z8,e6]
      exact h3 D B _ T ks _ Q (by simp[z0b,q0]) (by simp[z0b,q1]) (by simp[z0b]) hr hx
     ·refine⟨((nl x)[m]:Int) - ((nl y)[m]:Int), ?_, ?_,fun D B clk T ks ts Q q0 q1 q5 hr hx=> ?_⟩
      ·constructor
       ·intro h
        have:=x8s hbx hl hkx hky hd (by omega)
        rwa [q4a,q4a] at this
       ·intro h
        refine Classical.byContradiction fun hc=> ?_
        have:=x8s hby hl.symm hky hkx hd.symm (by omega)
        rw[q4a,q4a] at this
        omega
      ·constructor
       ·intro h;omega
       ·intro h;subst h;omega
      ·rw[e3] at q5
       have e5:decide (((nl x)[m]:Int)=((nl y)[m]:Int))=false:=by rw[n9];omega
       have e6:IntKind.i64.wrap (((nl x)[m]:Int) - ((nl y)[m]:Int))=((nl x)[m]:Int) - ((nl y)[m]:Int):=z0c (by omega) (by omega)
       refine z3t ?_
       simp only[go_sem,q0,q1,q5,x2x,e4,q0v hkx,q0v hky,e5,x6,w2,w3,e6]
       exact hr _ _ (by simp[z0b])
  obtain⟨r,h1,h2,h3⟩:=key (nl x).length (x7 _) (by rw[List.drop_length,hl,List.drop_length])
  refine⟨r,h1,h2,Pure.of rfl y0m rfl rfl rfl (az:=[.sl ((nl x).map z3s) .no, .sl ((nl y).map z3s) .no]) rfl (by simp[z0i,AV.ids,AV.cv,z3d]) fun D B clk T hB hT=> ?_⟩
  have e2:IntKind.i64.wrap (((nl x).length:Int) - 1)=((nl x).length:Int) - 1:=z0c (by omega) (by omega)
  have e3:IntKind.i64.wrap (((nl y).length:Int) - 1)=((nl x).length:Int) - 1:=by rw[z0c (by omega) (by omega)];omega
  simp only[go_sem,v8y,z6,e1,z8,e2]
  refine h3 D B _ T _ _ _ (by simp[z0b,z3p]) (by simp[z0b,z8c,z3p]) (by simp[z0b]) (fun ts' clk' q4=> ?_) (fun hr0 ts' clk'=> ?_)
  ·simp only[go_sem,q4]
   rw[z2c]
   exact hT _
  ·simp only[go_sem,]
   rw[z2c,←hr0]
   exact hT _
 ·have e1:decide (((nl x).length:Int)=((nl y).length:Int))=false:=by rw[n9];omega
  have e2:IntKind.i64.wrap (((nl x).length:Int) - ((nl y).length:Int))=((nl x).length:Int) - ((nl y).length:Int):=z0c (by omega) (by omega)
  refine⟨((nl x).length:Int) - ((nl y).length:Int), ?_, ?_,Pure.of rfl y0m rfl rfl rfl (az:=[.sl ((nl x).map z3s) .no, .sl ((nl y).map z3s) .no]) rfl (by simp[z0i,AV.ids,AV.cv,z3d]) fun D B clk T hB hT=> ?_⟩
  ·constructor
   ·intro h
    refine Classical.byContradiction fun hc=> ?_
    have:=x8t (x:=y) (y:=x) (by omega)
    omega
   ·intro h
    have:=x8t (x:=x) (y:=y) (by omega)
    omega
  ·constructor
   ·intro h;omega
   ·intro h;subst h;omega
  ·simp only[go_sem,v8y,z6,e1,x6,e2]
   rw[z2c]
   exact hT _
theorem v9p {l:List Nat}:Pure Gam 327 [.sl (l.map z3s) .no] (.bool (decide (l=[1]))):=by
 refine Pure.of rfl y8r rfl rfl rfl (az:=[.sl (l.map z3s) .no]) rfl (by simp[z0i,AV.ids,AV.cv,z3d]) fun D B clk T hB hT=> ?_
 match l with
 | []=>
   simp only[go_sem,k7i,k8,z9,z7,decide_false]
   rw[z0e]
   exact hT _
 | [x]=>
   have e:decide ((x:Int)=1)=decide ([x]=[1]):=by rw[decide_eq_decide];simp;omega
   simp only[go_sem,k7i,z3s,j4,k8,k6,z9,decide_true,z2h,e]
   rw[z0e]
   exact hT _
 | x::y::l=>
   have e:decide (((l.length + 1 + 1:Nat):Int)=1)=false:=by rw[n9];omega
   have e2:decide (x::y::l=[1])=false:=by simp
   rw[e2] at hT
   simp only[go_sem,k7i,z6,j4,e]
   rw[z0e]
   exact hT _
theorem k2f {l:List Nat} {k:Nat} (h:k < l.length):z7i (l.drop k)=l[k] + 1000000000 * z7i (l.drop (k + 1)):=by
 rw[b6 h,z7i]
theorem j7s {D L:List AObj} {B k g n:Nat} {es:List AV} {w:Bool} (hB:D.length=B) (hL:L[k]? =some (.blk g es true w 0)):freezeAll (D++L) [(B + k,n)]=D++L.set k (.blk g es true w n):=by
 have hg:(D++L)[B + k]? =some (.blk g es true w 0):=by rw[z2u hB];exact hL
 simp only[freezeAll,hg,z2o hB,Nat.zero_max]
theorem v9q {la:List Nat} {b:Nat} (ha:∀ x∈la,x < 1000000000) (hl:la.length≤1000) (hb0:0 < b) (hb:b < 1000000000):Pure Gam 341 [.sl (la.map z3s) .no, .int .u32 (b:Int)] (.tup [.sl ((nl (z7i la / b)).map z3s) .no, .sl ((nl (z7i la % b)).map z3s) .no]):=by
 refine Pure.of rfl y8u rfl rfl rfl (az:=[.sl (la.map z3s) .no, .int .u32 (b:Int)]) rfl (by simp[z0i,AV.ids,AV.cv,z3d]) fun D B clk T hB hT=> ?_
 have e0:IntKind.i64.wrap ((la.length:Int) - 1)=(la.length:Int) - 1:=z0c (by omega) (by omega)
 have hms:∀ h s g,msV h s g (.int .u32 0) 4 (.int .i64 (la.length:Int)) (.int .i64 (la.length:Int))=some (.ob s g 0 la.length,h.set s (.blk g (x3 la.length (.int .u32 0)) true false 0)):=fun h s g=>q9v rfl (by omega)
 simp only[go_sem,y0n,z6,hB,hms,e0]
 generalize hgr:clk + 2 + 2=gr
 refine z1f (fun m q=>∃ (i r:Nat) (qs:List Nat),i≤la.length∧m=la.length - i∧qs.length=i∧(∀ x∈qs,x < 1000000000)∧r < b∧z7i (la.drop (la.length - i))=b * z7i qs + r∧q.ts 0= .sl (la.map z3s) .no∧q.ts 1= .int .u32 (b:Int)∧q.ts 6= .ob (B + 0) gr 0 la.length∧q.ts 7= .int .u64 (r:Int)∧q.ts 8= .int .i64 ((la.length:Int) - i - 1)∧
  q.h=D++[.blk gr (x3 (la.length - i) (.int .u32 0)++qs.map z3s) true false 0, .dead]) la.length ?_ ?_
 ·refine⟨0,0,[],by omega,rfl,rfl,by simp,hb0,by simp[z7i],rfl,rfl, ?_,rfl,by simp[z0b],by simp⟩
  subst hgr;rfl
 rintro m ⟨ts,h,clk⟩ P ⟨i,r,qs,hi,rfl,hql,hqb,hr,hw,h0,h1,h6,h7,h8,rfl⟩ hn he hrt
 dsimp only at h0 h1 h6 h7 h8
 by_cases hlt:i < la.length
 ·have hk:la.length - 1 - i < la.length:=by omega
  have e1:(la.length:Int) - i - 1=((la.length - 1 - i:Nat):Int):=by omega
  rw[e1] at h8
  have e2:decide ((0:Int)≤((la.length - 1 - i:Nat):Int))=true:=by rw[r8];omega
  have hx:=ha _ (x8 hk)
  have hdr:=k2f hk
  generalize hxx:la[la.length - 1 - i]=x at hx hdr
  rw[show la.length - 1 - i + 1=la.length - i by omega,hw] at hdr
  have hv:r * 1000000000 + x < b * 1000000000:=by
   have:(r + 1) * 1000000000≤b * 1000000000:=Nat.mul_le_mul_right _ hr
   omega
  have hv2:b * 1000000000 < 1000000000 * 1000000000:=Nat.mul_lt_mul_of_pos_right hb (by omega)
  have hquo:(r * 1000000000 + x) / b < 1000000000:=(Nat.div_lt_iff_lt_mul hb0).2 (by rw[u1 1000000000 b];exact hv)
  have hrem:(r * 1000000000 + x) % b < b:=Nat.mod_lt _ hb0
  have hdm:=Nat.div_add_mod (r * 1000000000 + x) b
  generalize hq:(r * 1000000000 + x) / b=y at hquo hdm
  generalize hz:(r * 1000000000 + x) % b=z at hrem hdm
  have hidx0:∀ h,z1v h 1 (.sl (la.map z3s) .no) (.int .i64 ((la.length - 1 - i:Nat):Int))=some (.iptr [.int .u32 (x:Int)] 0,h):=fun h=>by rw[q0v hk,hxx]
  have w1:IntKind.u64.wrap ((r:Int) * 1000000000)=((r * 1000000000:Nat):Int):=by rw[u64_in (by omega) (by omega)];omega
  have w2:IntKind.u64.wrap (x:Int)=(x:Int):=u64_in (by omega) (by omega)
  have w3:IntKind.u64.wrap (((r * 1000000000:Nat):Int) + (x:Int))=((r * 1000000000 + x:Nat):Int):=by rw[u64_in (by omega) (by omega)];omega
  have w4:IntKind.u64.wrap (b:Int)=(b:Int):=u64_in (by omega) (by omega)
  have w5:IntKind.u32.wrap (IntKind.u64.wrap ((((r * 1000000000 + x:Nat):Int)).tdiv (b:Int)))=(y:Int):=by
   rw[IntWalk.up_tdiv rfl rfl,hq,u64_in (by omega) (by omega),u32_in (by omega) (by omega)]
  have w6:(((r * 1000000000 + x:Nat):Int)).tmod (b:Int)=(z:Int):=by rw[IntWalk.up_tmod rfl rfl,hz]
  have hbn:(b:Int)≠0:=by omega
  have hidx:z1v (D++[.blk gr (x3 (la.length - i) (.int .u32 0)++qs.map z3s) true false 0, .dead]) 1 (.ob (B + 0) gr 0 la.length) (.int .i64 ((la.length - 1 - i:Nat):Int))=some (.ptr (B + 0) gr (la.length - 1 - i) 0,D++[.blk gr (x3 (la.length - i) (.int .u32 0)++qs.map z3s) true false 0, .dead]):=
   q3z (L:=[.blk gr (x3 (la.length - i) (.int .u32 0)++qs.map z3s) true false 0, .dead]) (k:=0) hB rfl (q1r hlt) rfl (by omega)
  have hstore:z8n (D++[.blk gr (x3 (la.length - i) (.int .u32 0)++qs.map z3s) true false 0, .dead]) 1 (.int .u32 (y:Int)) (.ptr (B + 0) gr (la.length - 1 - i) 0)=some (.undef,D++[.blk gr (x3 (la.length - (i + 1)) (.int .u32 0)++(y::qs).map z3s) true false 0, .dead]):=by
   have h:=z9y (K:= .u32) (n:=y) (K':= .u32) (m:=0) (D:=D) (B:=B) (g:=gr) (i:=la.length - 1 - i) (es:=x3 (la.length - i) (AV.int .u32 0)++qs.map z3s) (L:=[AObj.blk gr (x3 (la.length - i) (AV.int .u32 0)++qs.map z3s) true false 0, .dead]) (k:=0) (w:=false) hB rfl (q1r hlt)
   rw[x5a hlt] at h
   exact h
  have e6:IntKind.i64.wrap (((la.length - 1 - i:Nat):Int) - 1)=(la.length:Int) - ((i + 1:Nat):Int) - 1:=by rw[z0c (by omega) (by omega)];omega
  simp only[go_sem,h0,h1,h6,h7,h8,hB,j3y,e2,hidx0,w1,w2,w3,w4,q4y hbn,q1d hbn,w5,w6,hidx,hstore,e6]
  refine hn (la.length - (i + 1)) _ (by omega) ⟨i + 1,z,y::qs,hlt,rfl,by simp[hql], ?_,hrem, ?_,by simp[z0b,h0],by simp[z0b,h1],by simp[z0b,h6],by simp[z0b],by simp[z0b],rfl⟩
  ·intro c hc
   rw[j6] at hc
   rcases hc with rfl | hc
   ·exact hquo
   ·exact hqb c hc
  ·rw[show la.length - (i + 1)=la.length - 1 - i by omega,hdr,z7i]
   have:b * (y + 1000000000 * z7i qs)=b * y + 1000000000 * (b * z7i qs):=by rw[Nat.mul_add,Nat.mul_left_comm]
   rw[this]
   omega
 ·have hin:i=la.length:=by omega
  have e1:decide ((0:Int)≤(la.length:Int) - i - 1)=false:=by rw[n9];omega
  rw[hin,Nat.sub_self,u9] at hw
  have hh:x3 (la.length - i) (AV.int .u32 0)++qs.map z3s=qs.map z3s:=by rw[show la.length - i=0 by omega];rfl
  have hq1:z7i la / b=z7i qs:=by
   rw[hw,Nat.add_comm,Nat.add_mul_div_left _ _ hb0,Nat.div_eq_of_lt hr,k6]
  have hq2:z7i la % b=r:=by
   rw[hw,Nat.add_comm,Nat.add_mul_mod_self_left,Nat.mod_eq_of_lt hr]
  have hp1:=j1e (t:= .no) hqb (by omega)
  have hp2:Pure Gam 332 [.sl [.int .u32 (r:Int)] .full] (.sl ((nl r).map z3s) .no):=by
   have:=j1e (l:=[r]) (t:= .full) (by intro x hx;simp at hx;omega) (by simp)
   simpa [z7i,z3s] using this
  have w1:IntKind.u32.wrap (r:Int)=(r:Int):=u32_in (by omega) (by omega)
  have hpa:z1q (D++[.blk gr (qs.map z3s) true false 0, .dead]) [] 0 [.ob (B + 0) gr 0 la.length]=some [.sl (qs.map z3s) .no]:=by
   have:=q6f (L:=[.blk gr (qs.map z3s) true false 0, .dead]) (k:=0) (g:=gr) (w:=false) (len:=la.length) hB rfl (by simp;omega)
   simp only[z6k] at this
   simp only[z1q,List.contains_nil,j9,if_false,conv,this,j5]
  have hfr:freezeAll (D++[.blk gr (qs.map z3s) true false 0, .dead]) (z0p [] 0 [.ob (B + 0) gr 0 la.length])=D++[.blk gr (qs.map z3s) true false la.length, .dead]:=by
   have:=j7s (L:=[.blk gr (qs.map z3s) true false 0, .dead]) (k:=0) (g:=gr) (w:=false) (n:=0 + la.length) hB rfl
   rw[k6] at this
   simpa [z0p,AV.obs] using this
  have hck:∀ {base gg clk dst os ts ks Q},CK Gam base 332 [.ob (B + 0) gr 0 la.length] (D++[.blk gr (qs.map z3s) true false 0, .dead]) clk .plain dst gg os ts ks Q=O Gam base .plain (gg + 1) os ⟨z8g ts dst (.sl ((nl (z7i qs)).map z3s) .no),D++[.blk gr (qs.map z3s) true false la.length, .dead],clk⟩ ks Q:=by
   intro base gg clk dst os ts ks Q
   rw[j1d hp1 rfl y0l rfl rfl hpa (by simp[cvL,AV.cv]) rfl (by simp[z0i,AV.ids,z3d]) (by simp[AV.ids,z3d])]
   rw[hfr]
   rfl
  rw[hh]
  simp only[go_sem,h0,h1,h6,h7,h8,hB,j3y,e1]
  refine he _ _ ?_
  simp only[go_sem,h0,h1,h6,h7,h8,hB,hck,w1,z0a hp2]
  rw[x0f,←hq1,←hq2]
  exact hT _
theorem k2g {l:List Nat} {x:Nat} {h:List AObj} {t:Tip} {k:IntKind} (hl:l=[x]):z1v h 1 (.sl (l.map z3s) t) (.int k 0)=some (.iptr [.int .u32 (x:Int)] 0,h):=by
 subst hl
 exact z2h
theorem v9r {x y:Nat} (hx:(nl x).length≤1000) (hy0:0 < y) (hy:y < 1000000000):Pure Gam 333 [.sl ((nl x).map z3s) .no, .sl ((nl y).map z3s) .no] (.tup [.sl ((nl (x / y)).map z3s) .no, .sl ((nl (x % y)).map z3s) .no]):=by
 have hny:=x5d hy0 hy
 obtain⟨r,hr1,hr2,hp⟩:=v9o (x:=x) (y:=y) hx (by rw[hny];simp)
 have hq:=v9q (la:=nl x) (b:=y) (v9k x) hx hy0 hy
 rw[q4a] at hq
 refine Pure.of rfl y8t rfl rfl rfl (az:=[.sl ((nl x).map z3s) .no, .sl ((nl y).map z3s) .no]) rfl (by simp[z0i,AV.ids,AV.cv,z3d]) fun D B clk T hB hT=> ?_
 by_cases hlt:x < y
 ·have e1:decide (r < 0)=true:=by rw[r8];omega
  rw[Nat.div_eq_of_lt hlt,Nat.mod_eq_of_lt hlt,z8q] at hT
  simp only[go_sem,v8x,z0a hp,e1]
  have:= @x0f [] [] (nl x) .nil .no T (D++[.dead, .dead, .dead, .dead])
  simp only[k8] at this
  rw[this]
  exact hT _
 ·have e1:decide (r < 0)=false:=by rw[n9];omega
  have e2:decide (((nl y).length:Int)=1)=true:=by rw[hny];rfl
  simp only[go_sem,v8x,z0a hp,e1,z6,e2,k2g hny,z0a hq]
  rw[x0f]
  exact hT _
theorem v9s {x y:Nat} (hx:(nl x).length≤1000) (hy:y < 1000000000):Pure Gam 326 [.sl ((nl x).map z3s) .no, .sl ((nl y).map z3s) .no] (.sl ((nl (j8 x y)).map z3s) .no):=by
 refine Pure.of rfl y8q rfl rfl rfl (az:=[.sl ((nl x).map z3s) .no, .sl ((nl y).map z3s) .no]) rfl (by simp[z0i,AV.ids,AV.cv,z3d]) fun D B clk T hB hT=> ?_
 simp only[go_sem,y0j]
 refine z1f (fun m q=>∃ x':Nat,m < 1000000000∧(nl x').length≤1000∧j8 x' m=j8 x y∧q.ts 0= .sl ((nl x').map z3s) .no∧q.ts 1= .sl ((nl m).map z3s) .no∧q.h=D++[]) y ⟨x,hy,hx,rfl,rfl,rfl,rfl⟩ ?_
 rintro m ⟨ts,h,clk⟩ P ⟨x',hm,hx',hg,h0,h1,rfl⟩ hn he hr
 dsimp only at h0 h1
 rcases d7 m with rfl | hpos
 ·have e1:decide ((0:Int) < ((nl 0).length:Int))=false:=by rw[z8q];rfl
  simp only[go_sem,h0,h1,j3x,z6,e1]
  refine he _ _ ?_
  simp only[go_sem,h0]
  rw[x5e]
  rw[Nat.gcd_zero_right] at hg
  rw[hg]
  exact hT _
 ·have hnm:=x5d hpos hm
  have e1:decide ((0:Int) < ((nl m).length:Int))=true:=by rw[hnm];rfl
  simp only[go_sem,h0,h1,j3x,z6,e1,z0a (v9r hx' hpos hm)]
  refine hn (x' % m) _ (Nat.mod_lt _ hpos) ⟨m,Nat.lt_trans (Nat.mod_lt _ hpos) hm,by rw[hnm];simp, ?_,rfl,rfl,rfl⟩
  rw[←hg,Nat.gcd_comm x' m,Nat.gcd_rec m x',Nat.gcd_comm]
theorem x8u {a b:List Nat}:z1g (a++b)=z1g a * 10 ^ b.length + z1g b:=by
 induction a with
 | nil=>simp[z1g]
 | cons c a ih=>rw[y6,z4c,z4c,ih,List.length_append,Nat.pow_add,Nat.add_mul,Nat.mul_assoc];omega
theorem k7x {B clk:Nat} {H:List AObj} {c:List Nat} {v0 v3 v4:AV} {ts:Tmps} {ks:List Kf} {Q:Post} (hd:∀ x∈c,48≤x∧x≤57) (hl:c.length≤9) (h0:ts 0=v0) (h3:ts 3=v3) (h4:ts 4=v4) (h5:ts 5= .int .u32 0) (h20:ts 20= .sl (bytes c) .no) (h21:ts 21= .int .i64 (c.length:Int)) (h22:ts 22= .int .i64 0)
  (hQ:∀ (ts':Tmps) (clk':Nat),ts' 0=v0→ts' 3=v3→ts' 4=v4→ts' 5= .int .u32 (z1g c:Int)→K Gam B (.exit 2) ks ⟨ts',H,clk'⟩ Q):K Gam B (.loop x2w) ks ⟨ts,H,clk⟩ Q:=by
 refine z1f (fun m q=>∃ j:Nat,j≤c.length∧m=c.length - j∧q.ts 0=v0∧q.ts 3=v3∧q.ts 4=v4∧q.ts 5= .int .u32 (z1g (c.take j):Int)∧q.ts 20= .sl (bytes c) .no∧q.ts 21= .int .i64 (c.length:Int)∧q.ts 22= .int .i64 (j:Int)∧q.h=H) c.length ⟨0,by omega,rfl,h0,h3,h4,h5,h20,h21,h22,rfl⟩ ?_
 clear h0 h3 h4 h5 h20 h21 h22
 rintro m ⟨ts,h,clk⟩ P ⟨j,hj,rfl,h0,h3,h4,h5,h20,h21,h22,rfl⟩ hn he hr
 dsimp only at h0 h3 h4 h5 h20 h21 h22
 by_cases hlt:j < c.length
 ·have e1:decide ((j:Int) < (c.length:Int))=true:=by rw[r8];omega
  have hc:=hd c[j] (x8 hlt)
  have hw:=z9z hlt
  have hb:=z4k (s:=c.take (j + 1)) fun x hx=>hd x (d6 hx)
  have hb2:10 ^ (c.take (j + 1)).length≤10 ^ 9:=b9 (by omega) (by rw[u7];omega)
  have e2:IntKind.u8.wrap ((c[j]:Int) - 48)=((c[j] - 48:Nat):Int):=q2r hc
  have e3:IntKind.u32.wrap ((c[j] - 48:Nat):Int)=((c[j] - 48:Nat):Int):=u32_in (by omega) (by omega)
  have e4:IntKind.u32.wrap ((z1g (c.take j):Int) * 10)=((z1g (c.take j) * 10:Nat):Int):=by rw[u32_in (by omega) (by omega)];omega
  have e5:IntKind.u32.wrap (((z1g (c.take j) * 10:Nat):Int) + ((c[j] - 48:Nat):Int))=(z1g (c.take (j + 1)):Int):=by rw[u32_in (by omega) (by omega),hw];omega
  have e6:IntKind.i64.wrap ((j:Int) + 1)=((j + 1:Nat):Int):=z0c (by omega) (by omega)
  simp only[go_sem,h0,h3,h4,h5,h20,h21,h22,x2w,e1,x0c hlt,e2,e3,e4,e5,e6]
  exact hn (c.length - (j + 1)) _ (by omega) ⟨j + 1,hlt,rfl,h0,h3,h4,rfl,h20,h21,rfl,rfl⟩
 ·have e1:decide ((j:Int) < (c.length:Int))=false:=by rw[n9];omega
  have hjc:j=c.length:=by omega
  rw[hjc,b7] at h5
  simp only[go_sem,h0,h3,h4,h5,h20,h21,h22,x2w,e1]
  refine he _ _ ?_
  exact hQ _ _ (by simp[z0b,h0]) (by simp[z0b,h3]) (by simp[z0b,h4]) (by simp[z0b,h5])
theorem v9t {h:List AObj} {s:List Nat} {i j:Nat} {k k':IntKind} (hij:i≤j) (hj:j≤s.length):slV h none (.str s) (some (.int k (i:Int))) (some (.int k' (j:Int))) none=some (.str ((s.take j).drop i),h):=by
 simp[slV,z2v,z4w,hij,hj]
theorem v9u {s:List Nat} (hd:∀ x∈s,48≤x∧x≤57) (hl:s.length≤1000):Pure Gam 325 [.str s] (.sl ((nl (z1g s)).map z3s) .no):=by
 refine Pure.of rfl y8p rfl rfl rfl rfl rfl fun D B clk T hB hT=> ?_
 simp only[go_sem,y0i,hB]
 refine z1f (fun m q=>∃ (j:Nat) (acc:List Nat) (t:Tip) (a o:AObj),m=(s.length + 9) - 9 * j∧9 * j≤s.length + 8∧acc.length=j∧(∀ x∈acc,x < 1000000000)∧z7i acc=z1g (s.drop (s.length - 9 * j))∧q.ts 0= .str s∧q.ts 3= .sl (acc.map z3s) t∧q.ts 4= .int .i64 ((s.length:Int) - 9 * j)∧q.h=D++[a,o]∧q3e B 1 o t 1) (s.length + 9) ⟨0,[], .nil,_,_,rfl,by omega,rfl,by simp,by simp[z7i,z1g],rfl,rfl,by simp[z0b],rfl, .inl rfl⟩ ?_
 rintro m ⟨ts,h,clk⟩ P ⟨j,acc,t,a,o,rfl,hj,hal,hab,hv,h0,h3,h4,rfl,ht⟩ hn he hr
 dsimp only at h0 h3 h4
 by_cases hlt:9 * j < s.length
 ·have e1:decide ((0:Int) < (s.length:Int) - 9 * j)=true:=by rw[r8];omega
  have e0:(s.length:Int) - 9 * j=((s.length - 9 * j:Nat):Int):=by omega
  have e2:IntKind.i64.wrap ((s.length:Int) - 9 * j - 9)=(s.length:Int) - 9 * j - 9:=z0c (by omega) (by omega)
  have e3:(if (0:Int) > (s.length:Int) - 9 * j - 9 then (0:Int) else (s.length:Int) - 9 * j - 9)=((s.length - 9 * j - 9:Nat):Int):=by
   split <;> omega
  have hsl:∀ h,slV h none (.str s) (some (.int .i64 ((s.length - 9 * j - 9:Nat):Int))) (some (.int .i64 ((s.length:Int) - 9 * j))) none=some (.str ((s.take (s.length - 9 * j)).drop (s.length - 9 * j - 9)),h):=fun h=>by
   rw[e0]
   exact v9t (by omega) (by omega)
  generalize hcc:(s.take (s.length - 9 * j)).drop (s.length - 9 * j - 9)=c at hsl
  have hcl:c.length=s.length - 9 * j - (s.length - 9 * j - 9):=by rw[←hcc];simp
  have hcd:∀ x∈c,48≤x∧x≤57:=fun x hx=>by
   rw[←hcc] at hx
   exact hd x (d6 (List.mem_of_mem_drop hx))
  have hcw:=z4k hcd
  have hcw9:10 ^ c.length≤10 ^ 9:=b9 (by omega) (by omega)
  have hsuf:s.drop (s.length - 9 * j - 9)=c++s.drop (s.length - 9 * j):=by
   rw[←hcc,←List.drop_append_of_le_length (by simp),List.take_append_drop]
  have htb:∀ s':List Nat,(s'.map fun (b:Nat)=>AV.int .u8 (Int.ofNat b))=bytes s':=fun _=>rfl
  have hbl:(bytes c).length=c.length:=by simp[bytes]
  simp only[go_sem,h0,h3,h4,j3w,e1,e2,e3,hsl,htb,hbl]
  refine k7x (v0:= .str s) (v3:= .sl (acc.map z3s) t) (v4:= .int .i64 ((s.length:Int) - 9 * j)) hcd (by omega) (by simp[z0b,h0]) (by simp[z0b,h3]) (by simp[z0b,h4]) (by simp[z0b]) (by simp[z0b]) (by simp[z0b]) (by simp[z0b]) fun ts' clk' q0 q3 q4 q5=> ?_
  simp only[go_sem,q0,q3,q4,q5]
  rw[show [AV.int .u32 (z1g c:Int)]=[z1g c].map z3s from rfl,z1c hB rfl ht x0e x0e (by simp only[z6,List.length_singleton];omega)]
  simp only[go_sem,q0,q3,q4,q5,e2,←List.map_append]
  refine hn (s.length + 9 - 9 * (j + 1)) _ (by omega) ⟨j + 1,acc++[z1g c],_,_,_,rfl,by omega,by simp[hal], ?_, ?_,by simp[z0b,q0],by simp[z0b], ?_,rfl, .inr (.inr ⟨_,rfl,rfl⟩)⟩
  ·intro x hx
   rw[x4] at hx
   rcases hx with hx | hx
   ·exact hab x hx
   ·simp at hx;omega
  ·rw[show s.length - 9 * (j + 1)=s.length - 9 * j - 9 by omega,hsuf,x8u,q4b,hv,hal]
   have:(s.drop (s.length - 9 * j)).length=9 * j:=by simp;omega
   rw[this,Nat.pow_mul]
   simp only[z7i,Nat.mul_zero,Nat.add_zero]
   rw[u1 (z1g c)]
   have:(10 ^ 9:Nat)=1000000000:=by decide
   rw[this]
   omega
  ·simp only[z0b,z0,cond_true,cond_false]
   congr 1
   omega
 ·have e1:decide ((0:Int) < (s.length:Int) - 9 * j)=false:=by rw[n9];omega
  rw[show s.length - 9 * j=0 by omega,u9] at hv
  have hp:=j1e (l:=acc) (t:=t) hab (by omega)
  rw[hv] at hp
  simp only[go_sem,h0,h3,h4,j3w,e1]
  refine he _ _ ?_
  simp only[go_sem,h3,z0a hp]
  rw[x5e]
  exact hT _
theorem x8v {h:List AObj}:z8b h .neq .iface .nilif .nilif=some (.bool false,h):=(rfl)
theorem y1u {h:List AObj}:z8b h .shl (.one .int) (.int .u64 1) (.int .u64 64)=some (.int .u64 0,h):=by
 have:IntKind.u64.wrap (2 ^ min 64 IntKind.u64.bits)=0:=by decide
 simp[z8b,z4v,q7o,this]
theorem y1v {h:List AObj}:z8b h .shl (.one .int) (.int .u64 1) (.int .u64 63)=some (.int .u64 9223372036854775808,h):=by
 have:IntKind.u64.wrap (2 ^ min 63 IntKind.u64.bits)=9223372036854775808:=by decide
 simp[z8b,z4v,q7o,this]
theorem v9v {n:Nat} (hn:n < 1000000000):Pure Gam 335 [.str (dec n), .int .i64 10, .int .i64 64] (.tup [.int .u64 (n:Int), .nilif]):=by
 refine Pure.of rfl y8m rfl rfl rfl rfl rfl fun D B clk T hB hT=> ?_
 have hd:=z1d n
 have hl:(dec n).length≤9:=z6q (by omega) hn
 have e1:decide (dec n=[])=false:=by simp[z7d n]
 have w1:IntKind.u64.wrap 64=64:=by decide
 have w2:IntKind.u64.wrap (0 - 1)=18446744073709551615:=by decide
 have htb:((dec n).map fun (b:Nat)=>AV.int .u8 (Int.ofNat b))=bytes (dec n):=rfl
 simp only[go_sem,y0g,e1,z7,Int.reduceLE,Int.reduceLT,decide_true,decide_false,w1,y1u,w2,htb,q5e]
 refine z1f (fun m q=>∃ j:Nat,j≤(dec n).length∧m=(dec n).length - j∧q.ts 1= .int .i64 10∧q.ts 8= .bool false∧q.ts 10= .int .u64 1844674407370955162∧q.ts 11= .int .u64 18446744073709551615∧q.ts 12= .bool false∧q.ts 13= .int .u64 (z1g ((dec n).take j):Int)∧q.ts 99= .sl (bytes (dec n)) .no∧q.ts 100= .int .i64 ((dec n).length:Int)∧q.ts 101= .int .i64 (j:Int)∧q.h=D++[]) (dec n).length ⟨0,by omega,rfl,rfl,rfl,rfl,rfl,rfl,rfl,rfl,rfl,rfl,rfl⟩ ?_
 rintro m ⟨ts,h,clk⟩ P ⟨j,hj,rfl,h1,h8,h10,h11,h12,h13,h99,h100,h101,rfl⟩ hn' he hr
 dsimp only at h1 h8 h10 h11 h12 h13 h99 h100 h101
 by_cases hlt:j < (dec n).length
 ·have f1:decide ((j:Int) < ((dec n).length:Int))=true:=by rw[r8];omega
  have hc:=hd _ (x8 hlt)
  have hw:=z9z hlt
  have hb:=z4k (s:=(dec n).take (j + 1)) fun x hx=>hd x (d6 hx)
  have hb2:10 ^ ((dec n).take (j + 1)).length≤10 ^ 9:=b9 (by omega) (by rw[u7];omega)
  generalize hcc:(dec n)[j]=c at hc hw
  have hidx:∀ h,z1v h 1 (.sl (bytes (dec n)) .no) (.int .i64 (j:Int))=some (.iptr [.int .u8 (c:Int)] 0,h):=fun h=>by rw[x0c hlt,hcc]
  have f2:decide ((c:Int)=95)=false:=by rw[n9];omega
  have f3:decide ((48:Int)≤(c:Int))=true:=by rw[r8];omega
  have f4:decide ((c:Int)≤57)=true:=by rw[r8];omega
  have f5:IntKind.u8.wrap ((c:Int) - 48)=((c - 48:Nat):Int):=q2r hc
  have f6:IntKind.u8.wrap 10=10:=by decide
  have f7:decide ((10:Int)≤((c - 48:Nat):Int))=false:=by rw[n9];omega
  have f8:decide ((1844674407370955162:Int)≤(z1g ((dec n).take j):Int))=false:=by rw[n9];omega
  have f9:IntKind.u64.wrap 10=10:=by decide
  have f10:IntKind.u64.wrap ((z1g ((dec n).take j):Int) * 10)=((z1g ((dec n).take j) * 10:Nat):Int):=by rw[u64_in (by omega) (by omega)];omega
  have f11:IntKind.u64.wrap ((c - 48:Nat):Int)=((c - 48:Nat):Int):=u64_in (by omega) (by omega)
  have f12:IntKind.u64.wrap (((z1g ((dec n).take j) * 10:Nat):Int) + ((c - 48:Nat):Int))=(z1g ((dec n).take (j + 1)):Int):=by rw[u64_in (by omega) (by omega),hw];omega
  have f13:decide ((z1g ((dec n).take (j + 1)):Int) < ((z1g ((dec n).take j) * 10:Nat):Int))=false:=by rw[n9];omega
  have f14:decide ((18446744073709551615:Int) < (z1g ((dec n).take (j + 1)):Int))=false:=by rw[n9];omega
  have f15:IntKind.i64.wrap ((j:Int) + 1)=((j + 1:Nat):Int):=z0c (by omega) (by omega)
  simp only[go_sem,h1,h8,h10,h11,h12,h13,h99,h100,h101,j3u,f1,hidx,f2,f3,f4,f5,f6,f7,f8,f9,f10,f11,f12,f13,f14,f15]
  exact hn' ((dec n).length - (j + 1)) _ (by omega) ⟨j + 1,hlt,rfl,h1,h8,h10,h11,h12,rfl,h99,h100,rfl,rfl⟩
 ·have f1:decide ((j:Int) < ((dec n).length:Int))=false:=by rw[n9];omega
  have hjc:j=(dec n).length:=by omega
  rw[hjc,b7,z1h] at h13
  simp only[go_sem,h1,h8,h10,h11,h12,h13,h99,h100,h101,j3u,f1]
  refine he _ _ ?_
  simp only[go_sem,h12,h13]
  rw[z0h rfl rfl]
  exact hT _
theorem v9w {n:Nat} (hn:n < 1000000000):Pure Gam 330 [.str (dec n), .int .i64 10, .int .i64 64] (.tup [.int .i64 (n:Int), .nilif]):=by
 refine Pure.of rfl y8l rfl rfl rfl rfl rfl fun D B clk T hB hT=> ?_
 obtain⟨c,t,hct⟩:=m9 (z7d n)
 have hc:=z1d n c (by rw[hct];exact j7)
 have e1:decide (dec n=[])=false:=by simp[z7d n]
 have e2:∀ h k,q3t h (.str (dec n)) (.int k 0)=some (.int .u8 (c:Int),h):=fun h k=>by rw[hct];exact z5s
 have e3:decide ((c:Int)=43)=false:=by rw[n9];omega
 have e4:decide ((c:Int)=45)=false:=by rw[n9];omega
 have e5:IntKind.i64.wrap (64 - 1)=63:=by decide
 have e6:IntKind.u64.wrap 63=63:=by decide
 have e7:decide ((9223372036854775808:Int)≤(n:Int))=false:=by rw[n9];omega
 have e8:IntKind.i64.wrap (n:Int)=(n:Int):=z0c (by omega) (by omega)
 simp only[go_sem,y0f,e1,e2,e3,e4,z0a (v9v hn),x8v,z7,decide_false,e5,e6,y1v,x6,e7,e8]
 rw[z0h rfl rfl]
 exact hT _
theorem x5f {n:Nat} (hn:n < 1000000000):Pure Gam 323 [.str (dec n), .int .i64 10, .int .i64 64] (.tup [.int .i64 (n:Int), .nilif]):=by
 refine Pure.of rfl y8k rfl rfl rfl rfl rfl fun D B clk T hB hT=> ?_
 simp only[go_sem,y0e,z0a (v9w hn),x8v]
 rw[z0h rfl rfl]
 exact hT _
theorem v9x {a b:Nat} (hb:b < 2 ^ 62):Pure Gam 324 [.int .i64 (a:Int), .int .i64 (b:Int)] (.int .i64 (j8 a b:Int)):=by
 refine Pure.of rfl y8n rfl rfl rfl rfl rfl fun D B clk T hB hT=> ?_
 simp only[go_sem,y0h]
 refine z1f (fun m q=>∃ x:Nat,m < 2 ^ 62∧j8 x m=j8 a b∧q.ts 0= .int .i64 (x:Int)∧q.ts 1= .int .i64 (m:Int)∧q.h=D++[]) b ⟨a,hb,rfl,rfl,rfl,rfl⟩ ?_
 rintro m ⟨ts,h,clk⟩ P ⟨x,hm,hg,h0,h1,rfl⟩ hn he hr
 dsimp only at h0 h1
 rcases d7 m with rfl | hpos
 ·simp only[go_sem,h0,h1,j3v,decide_true,z8]
  refine he _ _ ?_
  simp only[go_sem,h0]
  rw[z2c]
  rw[Nat.gcd_zero_right] at hg
  rw[hg]
  exact hT _
 ·have e1:decide ((m:Int)=0)=false:=by rw[n9];omega
  have e2:((x:Int)).tmod (m:Int)=((x % m:Nat):Int):=IntWalk.up_tmod rfl rfl
  simp only[go_sem,h0,h1,j3v,e1,x6,q1d (b:=(m:Int)) (by omega),e2]
  have hlt:=Nat.mod_lt x hpos
  refine hn (x % m) _ hlt ⟨m,by omega, ?_,rfl,rfl,rfl⟩
  rw[←hg,Nat.gcd_comm x m,Nat.gcd_rec m x,Nat.gcd_comm]
def x8w (n:Nat):Option Nat→List Nat
 | none=>dec n
 | some d=>dec n++47::dec d
def x5g (neg:Bool) (n:Nat) (d:Option Nat):List Nat:=if neg then 45::x8w n d else x8w n d
structure NumT (neg:Bool) (n:Nat) (d:Option Nat):Prop where
 pos:neg=true→n≠0
 len:n < 10 ^ 40
 den:∀ k,d=some k→2≤k∧k≤4∧j8 n k=1
theorem RatS.text {a:List Nat} (h:RatS a):∃ neg n d,a=x5g neg n d∧NumT neg n d:=by
 rcases h with ⟨z,rfl,h⟩ | ⟨z,d,rfl,h,h2,h4,hg⟩
 ·refine⟨decide (z < 0),z.natAbs,none, ?_,⟨fun hz=> ?_,h,by simp⟩⟩
  ·unfold z0f x5g x8w
   by_cases hz:z < 0 <;> simp[hz]
  ·simp at hz;omega
 ·refine⟨decide (z < 0),z.natAbs,some d, ?_,⟨fun hz=> ?_,h,fun k hk=>by injection hk with hk;subst hk;exact⟨h2,h4,hg⟩⟩⟩
  ·unfold z0f x5g x8w
   by_cases hz:z < 0 <;> simp[hz]
  ·simp at hz;omega
def v9y:Option Nat→List Nat
 | none=>[]
 | some d=>dec d
theorem y1w {n:Nat}:∀ c∈dec n,c≠47:=fun c hc=>by have:=z1d n c hc;omega
theorem x5h {neg:Bool} {n:Nat} {d:Option Nat}:Pure Gam 291 [.str (x5g neg n d), .str [45]] (.tup [.str (x8w n d), .bool neg]):=by
 cases neg
 ·obtain⟨c,t,hct⟩:=m9 (z7d n)
  have hc:=z1d n c (by rw[hct];exact j7)
  have hb:∃ t',x8w n d=c::t':=by cases d <;> simp[x8w,hct]
  obtain⟨t',ht⟩:=hb
  simp only[x5g,j9,if_false,ht]
  exact x0b (by omega)
 ·exact x0a
theorem x5i {n:Nat} {d:Option Nat} (hl:(dec n).length≤1000):Pure Gam 322 [.str (x8w n d), .str [47]] (.tup [.str (dec n), .str (v9y d), .bool d.isSome]):=by
 cases d
 ·exact x8r (z7d n) y1w
 ·exact j7q (z7d n) y1w hl
theorem x0g {d:Nat} (h:d≤4):(dec d).length≤1:=by rw[z6p (by omega)];simp
theorem j1f {neg:Bool} {n:Nat} {d:Option Nat} (hl:(dec n).length≤1000) (h9:9 < (dec n).length):Pure Gam 314 [.str (x5g neg n d)] (.tup [.agg [.int .i64 0, .int .i64 0], .bool false]):=by
 refine Pure.of rfl w9y rfl rfl rfl rfl rfl fun D B clk T hB hT=> ?_
 have e1:decide ((9:Int) < ((dec n).length:Int))=true:=by rw[r8];omega
 simp only[go_sem,v8t,hB,z0a x5h,z0a (x5i hl),e1,z0t,z0s,z0g]
 rw[z0h rfl rfl]
 exact hT _
theorem x5j {neg:Bool} {n:Nat} {d:Option Nat} (ht:NumT neg n d) (h9:(dec n).length≤9) (hn:n < 1000000000):∃ p q:Int,Pure Gam 314 [.str (x5g neg n d)] (.tup [.agg [.int .i64 p, .int .i64 q], .bool true]):=by
 refine⟨if neg then IntKind.i64.wrap (0 - (n:Int)) else n,(d.getD 1:Nat), ?_⟩
 refine Pure.of rfl w9y rfl rfl rfl rfl rfl fun D B clk T hB hT=> ?_
 have e1:decide ((9:Int) < ((dec n).length:Int))=false:=by rw[n9];omega
 have hden:(v9y d).length≤1:=by
  cases d with
  | none=>simp[v9y]
  | some k=>exact x0g (ht.den k rfl).2.1
 have e2:decide ((9:Int) < ((v9y d).length:Int))=false:=by rw[n9];omega
 have hp1:=q6i (n:=n) (by omega)
 have e3:decide (dec n=[48])=decide (n=0):=z1o
 simp only[go_sem,v8t,hB,z0a x5h,z0a (x5i (n:=n) (d:=d) (by omega)),e1,e2,z0a hp1,z8,e3]
 have hfin:∀ (r:Int),r=(if neg then IntKind.i64.wrap (0 - (n:Int)) else n)→∀ h',T (.tup [.agg [.int .i64 r, .int .i64 (d.getD 1:Nat)], .bool true]) h':=fun r hr h'=>hr ▸ hT h'
 rcases d7 n with rfl | hpos
 ·have hneg:neg=false:=by cases neg with
   | false=>rfl
   | true=>exact absurd rfl (ht.pos rfl)
  have hd0:d=none:=by cases d with
   | none=>rfl
   | some k=>have:=ht.den k rfl;rw[Nat.gcd_zero_left] at this;omega
  subst hneg;subst hd0
  simp only[go_sem,decide_true,Option.isSome_none,z0a (x5f (n:=0) (by omega)),hB,z0t,z0s,z0g]
  rw[z0h rfl rfl]
  exact hfin _ rfl _
 ·have e4:decide (n=0)=false:=by rw[n9];omega
  simp only[go_sem,e4,z0a (x5f hn)]
  cases d with
  | none=>
    cases neg
    ·simp only[go_sem,Option.isSome_none,hB,z0t,z0s,z0g]
     rw[z0h rfl rfl]
     exact hfin _ rfl _
    ·simp only[go_sem,Option.isSome_none,hB,z0t,z0s,z0g]
     rw[z0h rfl rfl]
     exact hfin _ rfl _
  | some k=>
    obtain⟨hk2,hk4,hg⟩:=ht.den k rfl
    have hp2:=q6i (n:=k) (by have:=x0g hk4;omega)
    have e5:decide ((k:Int) < 2)=false:=by rw[n9];omega
    have hp3:=v9x (a:=n) (b:=k) (by omega)
    rw[hg] at hp3
    cases neg
    ·simp only[go_sem,Option.isSome_some,v9y,z0a hp2,z8,z0a (x5f (n:=k) (by omega)),e5,z0a hp3,decide_true,hB,z0t,z0s,z0g]
     rw[z0h rfl rfl]
     exact hfin _ rfl _
    ·simp only[go_sem,Option.isSome_some,v9y,z0a hp2,z8,z0a (x5f (n:=k) (by omega)),e5,z0a hp3,decide_true,hB,z0t,z0s,z0g]
     rw[z0h rfl rfl]
     exact hfin _ rfl _
theorem y1x {n:Nat} (hn:n < 10 ^ 40):(nl n).length≤5:=y1t (k:=5) (by
 have:(1000000000:Nat) ^ 5=10 ^ 45:=by decide
 rw[this]
 have:(10:Nat) ^ 40≤10 ^ 45:=b9 (by omega) (by omega)
 omega)
theorem j4k {n:Nat} (hl:(dec n).length≤1000):Pure Gam 325 [.str (dec n)] (.sl ((nl n).map z3s) .no):=by
 have:=v9u (s:=dec n) (z1d n) hl
 rwa [z1h] at this
theorem v9z {neg:Bool} {n:Nat} {d:Option Nat} (ht:NumT neg n d):∃ v:AV,v.ids=[]∧v.obs=[]∧(∃ a b c,v= .agg [.bool a, .sl b .no, .sl c .no])∧Pure Gam 315 [.str (x5g neg n d)] (.tup [v, .bool true]):=by
 have hlen:(dec n).length≤40:=z6q (by omega) ht.len
 have hp1:=q6i (n:=n) (by omega)
 have hpn:=j4k (n:=n) (by omega)
 have e3:decide (dec n=[48])=decide (n=0):=z1o
 have e13:decide (dec n=[48])=true→neg=false∧d=none:=by
  rw[e3,r8]
  rintro rfl
  refine⟨?_, ?_⟩
  ·cases neg with
   | false=>rfl
   | true=>exact absurd rfl (ht.pos rfl)
  ·cases d with
   | none=>rfl
   | some k=>have:=ht.den k rfl;rw[Nat.gcd_zero_left] at this;omega
 have w1:(AV.sl [.int .u32 1] .full).cv= .sl ([1].map z3s) .no:=rfl
 cases d with
 | none=>
   refine⟨.agg [.bool neg, .sl ((nl n).map z3s) .no, .sl ([1].map z3s) .no],by simp[AV.ids,z0i,z3d,z3s],rfl,⟨_,_,_,rfl⟩, ?_⟩
   refine Pure.of rfl w9z rfl rfl rfl rfl rfl fun D B clk T hB hT=> ?_
   simp only[go_sem,v8u,hB,z0a x5h,z0a (x5i (n:=n) (d:=none) (by omega)),z0a hp1,z8,Option.isSome_none]
   have key:∀ x:Bool,decide (dec n=[48])=x→T (.tup [.agg [.bool neg, .sl ((nl n).map z3s) .no, .sl [.int .u32 1] .no], .bool true])=T (.tup [.agg [.bool neg, .sl ((nl n).map z3s) .no, .sl ([1].map z3s) .no], .bool true]):=fun _ _=>rfl
   cases hz:decide (dec n=[48]) with
   | true=>
     obtain⟨rfl,_⟩:=e13 hz
     simp only[go_sem,z0a hpn,hB,x6,z0t,z0s,z0g]
     rw[z0h rfl (by simp[z1k,AV.cv,cvL,AV.ids,z0i,z3d,z3s])]
     exact hT _
   | false=>
     simp only[go_sem,z0a hpn,hB,x6,z0t,z0s,z0g]
     rw[z0h rfl (by simp[z1k,AV.cv,cvL,AV.ids,z0i,z3d,z3s])]
     exact hT _
 | some k=>
   obtain⟨hk2,hk4,hg⟩:=ht.den k rfl
   have hnz:decide (dec n=[48])=false:=by
    cases hz:decide (dec n=[48]) with
    | false=>rfl
    | true=>exact absurd (e13 hz).2 (by simp)
   have hkl:=x0g hk4
   have hp2:=q6i (n:=k) (by omega)
   have hpk:=j4k (n:=k) (by omega)
   have e5:decide (dec k=[48])=false:=by rw[z1o,n9];omega
   have e6:decide (dec k=[49])=false:=by rw[q2s,n9];omega
   have hpg:=v9s (x:=n) (y:=k) (by have:=y1x ht.len;omega) (by omega)
   rw[hg,show nl 1=[1] from x5d (by omega) (by omega)] at hpg
   have hpo:=v9p (l:=[1])
   have e7:decide (([1]:List Nat)=[1])=true:=rfl
   rw[e7,j4,k8] at hpo
   refine⟨.agg [.bool neg, .sl ((nl n).map z3s) .no, .sl ((nl k).map z3s) .no],by simp[AV.ids,z0i,z3d,z3s],rfl,⟨_,_,_,rfl⟩, ?_⟩
   refine Pure.of rfl w9z rfl rfl rfl rfl rfl fun D B clk T hB hT=> ?_
   simp only[go_sem,v8u,hB,z1p,z0a x5h,z0a (x5i (n:=n) (d:=some k) (by omega)),z0a hp1,z8,Option.isSome_some,hnz,z0a hpn,v9y,z0a hp2,e5,e6,z0a hpk,z0a hpg,z0a hpo,z0t,z0s,z0g]
   refine⟨by simp[z1r,apart,z0q,z1n,z1t,AOp.isCall,hB], ?_⟩
   rw[z0h rfl (by simp[z1k,AV.cv,cvL,AV.ids,z0i,z3d,z3s])]
   exact hT _
theorem k2h {neg:Bool} {n:Nat} {d:Option Nat} (ht:NumT neg n d):Pure Gam 290 [.str (x5g neg n d)] (.bool true):=by
 have hlen:(dec n).length≤40:=z6q (by omega) ht.len
 by_cases h9:9 < (dec n).length
 ·have hp1:=j1f (neg:=neg) (n:=n) (d:=d) (by omega) h9
  obtain⟨v,hv1,hv2,⟨a,b,c,rfl⟩,hp2⟩:=v9z ht
  refine Pure.of rfl w9t rfl rfl rfl rfl rfl fun D B clk T hB hT=> ?_
  simp only[go_sem,v8p,hB,z0a hp1,z0a hp2]
  rw[z0e]
  exact hT _
 ·have hn:n < 1000000000:=by
   have h1:=z4k (z1d n)
   rw[z1h] at h1
   have h2:10 ^ (dec n).length≤10 ^ 9:=b9 (by omega) (by omega)
   omega
  obtain⟨p,q,hp⟩:=x5j ht (by omega) hn
  refine Pure.of rfl w9t rfl rfl rfl rfl rfl fun D B clk T hB hT=> ?_
  simp only[go_sem,v8p,hB,z0a hp]
  rw[z0e]
  exact hT _
theorem w0a {k:Nat} (h1:1≤k) (h5:k≤5):Pure Gam 248 [.str (dec k)] (.int .i64 1):=by
 have hv:Pure Gam 290 [.str (dec k)] (.bool true):=k2h (neg:=false) (n:=k) (d:=none) ⟨by simp,by omega,by simp⟩
 have e1:decide (dec k=[48])=false:=by rw[z1o,n9];omega
 have e2:∀ h q,q3t h (.str (dec k)) (.int q 0)=some (.int .u8 ((48 + k:Nat):Int),h):=fun h q=>by rw[z6p (by omega)];exact z5s
 have e3:decide (((48 + k:Nat):Int)=45)=false:=by rw[n9];omega
 refine Pure.of rfl y9w rfl rfl rfl rfl rfl fun D B clk T hB hT=> ?_
 simp only[go_sem,y1n,z0a hv,z8,e1,e2,e3]
 rw[z2c]
 exact hT _
theorem j1g {a:List Nat} (h:IntS a):Pure Gam 245 [.int .i64 2, .str a] (.bool true):=by
 obtain⟨z,rfl,hz⟩:=h
 have hlen:(dec z.natAbs).length≤40:=z6q (by omega) hz
 have hp:=k2d (z:=z) (by omega)
 refine Pure.of rfl y1l rfl rfl rfl rfl rfl fun D B clk T hB hT=> ?_
 simp only[go_sem,v9g,z7,decide_true,z0a hp]
 rw[z0e]
 exact hT _
theorem x8x {a:List Nat} (h:RatS a):Pure Gam 245 [.int .i64 3, .str a] (.bool true):=by
 obtain⟨neg,n,d,rfl,ht⟩:=h.text
 refine Pure.of rfl y1l rfl rfl rfl rfl rfl fun D B clk T hB hT=> ?_
 simp only[go_sem,v9g,z7,decide_true,decide_false,z0a (k2h ht)]
 rw[z0e]
 exact hT _
def Has (S:List (Nat×AObj)) (h:List AObj):Prop:=∀ p∈S,h[p.1]? =some p.2
theorem Has.lt {S:List (Nat×AObj)} {h:List AObj} (hS:Has S h):∀ p∈S,p.1 < h.length:=fun p hp=>by
 have:=hS p hp
 rw[List.getElem?_eq_some_iff] at this
 exact this.1
theorem Has.app {S:List (Nat×AObj)} {D L:List AObj} (hS:Has S D):Has S (D++L):=fun p hp=>by
 rw[List.getElem?_append_left (hS.lt p hp)]
 exact hS p hp
theorem Has.nil {h:List AObj}:Has [] h:=fun p hp=>by simp at hp
theorem Has.cons {p:Nat×AObj} {S:List (Nat×AObj)} {h:List AObj} (h1:h[p.1]? =some p.2) (h2:Has S h):Has (p::S) h:=fun q hq=>by
 rw[j6] at hq
 rcases hq with rfl | hq
 ·exact h1
 ·exact h2 q hq
theorem z5t {h:List AObj}:∀ {n:Nat} {seen z8w:List Nat} {s:Nat},s∈seen∨s∈z8w→s∈reach h n seen z8w
 | 0,seen,z8w,s,hs=>by
   simp only[reach,x4]
   exact hs
 | n + 1,seen,[],s,hs=>by
   simp only[reach]
   simpa using hs
 | n + 1,seen,t::z8w,s,hs=>by
   simp only[reach]
   split
   ·rename_i hc
    refine z5t ?_
    rcases hs with hs | hs
    ·exact .inl hs
    ·rw[j6] at hs
     rcases hs with rfl | hs
     ·exact .inl (by simpa using hc)
     ·exact .inr hs
   ·refine z5t ?_
    rcases hs with hs | hs
    ·exact .inl (v7 _ hs)
    ·rw[j6] at hs
     rcases hs with rfl | hs
     ·exact .inl j7
     ·exact .inr (List.mem_append_right _ hs)
theorem z8r {h:List AObj} {n s:Nat} {seen z8w:List Nat} {o:AObj} (hns:s∉seen) (ho:h[s]? =some o):reach h (n + 1) seen (s::z8w)=reach h n (s::seen) (o.ids++z8w):=by
 simp[reach,hns,ho]
theorem q1x {h:List AObj} {S:List (Nat×AObj)} (hS:Has S h) (hc:∀ p∈S,∀ i∈p.2.ids,i∈S.map (·.1)):∀ {n:Nat} {seen z8w:List Nat},(∀ i∈seen,i∈S.map (·.1))→(∀ i∈z8w,i∈S.map (·.1))→∀ i∈reach h n seen z8w,i∈S.map (·.1)
 | 0,seen,z8w,h1,h2,i,hi=>by
   simp only[reach,x4] at hi
   exact hi.elim (h1 i) (h2 i)
 | n + 1,seen,[],h1,h2,i,hi=>by
   simp only[reach] at hi
   exact h1 i hi
 | n + 1,seen,t::z8w,h1,h2,i,hi=>by
   simp only[reach] at hi
   split at hi
   ·exact q1x hS hc h1 (fun j hj=>h2 j (v7 _ hj)) i hi
   ·have ht:=h2 t j7
    obtain⟨p,hp,rfl⟩:=w0.1 ht
    rw[hS p hp] at hi
    refine q1x hS hc (fun j hj=> ?_) (fun j hj=> ?_) i hi
    ·rw[j6] at hj
     rcases hj with rfl | hj
     ·exact ht
     ·exact h1 j hj
    ·simp only[j5,d4,x4] at hj
     rcases hj with hj | hj
     ·exact hc p hp j hj
     ·exact h2 j (v7 _ hj)
structure Cov (S:List (Nat×AObj)) (ids:List Nat):Prop where
 root:∀ i∈ids,i∈S.map (·.1)
 closed:∀ p∈S,∀ i∈p.2.ids,i∈S.map (·.1)
 cover:∀ h,Has S h→∀ p∈S,p.1∈reach h (h.length + 1) [] ids
theorem Cov.one {s:Nat} {o:AObj} (ho:o.ids=[]):Cov [(s,o)] [s]:=by
 refine⟨by simp,by simp[ho],fun h hS p hp=> ?_⟩
 simp at hp
 subst hp
 exact z5t (.inr j7)
theorem Cov.two {s t:Nat} {o q:AObj} (ho:o.ids=[t]) (hq:q.ids=[]):Cov [(s,o),(t,q)] [s]:=by
 refine⟨by simp,by simp[ho,hq],fun h hS p hp=> ?_⟩
 have h1:h[s]? =some o:=hS (s,o) (by simp)
 have hr:reach h (h.length + 1) [] [s]=reach h h.length [s] [t]:=by rw[z8r (by simp) h1,ho];rfl
 rw[hr]
 simp at hp
 rcases hp with rfl | rfl
 ·exact z5t (.inl j7)
 ·exact z5t (.inr j7)
def Reads (S:List (Nat×AObj)) (f:Nat) (args:List AV) (v:AV):Prop:=
 ∀ h clk,Has S h→(∃ k,z5w Gam k f args h clk=some (v,h,clk))∧∀ x∈z0z Gam f args h,x∈S.map (·.1)
theorem q6j {T:List Nat}:∀ {h h':List AObj} {k:Nat},(∀ i,i < h.length→T.contains (k + i)=true→h'[i]? =h[i]?)→z0n T k h h'=h
 | [],[],_,_=>rfl
 | [],_::_,_,_=>rfl
 | o::h,[],_,_=>rfl
 | o::h,o'::h',k,hh=>by
   have h0:T.contains k=true→o'=o:=fun hc=>by simpa using hh 0 (by simp) hc
   have h1:=q6j (T:=T) (h:=h) (h':=h') (k:=k + 1) fun i hi hc=>by
    have:=hh (i + 1) (by simpa using hi) (by rw[show k + (i + 1)=k + 1 + i by omega];exact hc)
    simpa using this
   simp only[z0n,h1]
   split
   ·rename_i hc
    rw[h0 hc]
   ·rfl
theorem Reads.of {S:List (Nat×AObj)} {f:Nat} {args az:List AV} {v:AV} {af:AFun} (hext:Gam.ext f=none) (hfn:Gam.fn f=some af) (hb:af.byref=[]) (ho:af.owned=false) (hobs:z4u args=[]) (has:cvL args=az) (hC:Cov S (z0i az))
  (hw:∀ (D:List AObj) (B clk:Nat) (R:AV→List AObj→Prop),D.length=B→Has S D→(∀ p∈S,p.1 < B)→(∀ h',Has S h'→R v h')→K Gam B af.body [] ⟨q0f az,D++x3 af.nslots .dead,clk⟩ (j9v (S.map (·.1)) af.results R)):Reads S f args v:=by
 intro h clk hS
 have hp:z1q h af.byref 0 args=some az:=by rw[hb,z2g hobs,has]
 have hl:z0p af.byref 0 args=[]:=by rw[hb];exact z6o hobs
 have hTS:∀ i∈reach h (h.length + 1) [] (z0i az),i∈S.map (·.1):=q1x hS hC.closed (by simp) hC.root
 refine⟨?_, ?_⟩
 ·have hmask:Has S (maskFrom (reach h (h.length + 1) [] (z0i az)) 0 h):=fun p hp'=>by
   rw[q1m (by rw[k6,List.contains_eq_mem];exact decide_eq_true (hC.cover h hS p hp'))]
   exact hS p hp'
  obtain⟨k,e,s1,he,hend⟩:=hw (maskFrom (reach h (h.length + 1) [] (z0i az)) 0 h) _ clk (fun v' h'=>v'=v∧Has S h') rfl hmask (fun p hp'=>by rw[z4h];exact hS.lt p hp') (fun h' hh=>⟨rfl,hh⟩)
  obtain⟨hne,vs,v',hr,hc,hv,hno,rfl,hS'⟩:=x4i hend
  rw[z4h] at he
  refine⟨k, ?_⟩
  have hfz:∀ p∈S,(freezeAll s1.h (z1k vs).obs)[p.1]? =some p.2:=fun p hp'=>by
   rw[q5z]
   ·exact hS' p hp'
   ·rw[y9]
    intro q hq
    have:=hno
    simp only[j3c,y9] at this
    have hq':=this q hq
    simp only[d9,List.contains_eq_mem,n9,w0] at hq'
    simp only[d9,List.contains_eq_mem,n9,List.mem_singleton]
    exact fun hqp=>hq' ⟨p,hp',hqp.symm⟩
  have hm:z0n (reach h (h.length + 1) [] (z0i az)) 0 h (freezeAll s1.h (z1k vs).obs)=h:=by
   refine q6j fun i hi hc'=> ?_
   rw[k6,List.contains_eq_mem,r8] at hc'
   obtain⟨p,hp',rfl⟩:=w0.1 (hTS i hc')
   rw[hfz p hp',hS p hp']
  have hall:((v'.ids++(List.map (fun i=>(Option.map AObj.ids (freezeAll s1.h (z1k vs).obs)[i]?).getD []) (reach h (h.length + 1) [] (z0i az))).flatten).all fun x=>decide (x < h.length))=true:=by
   rw[hv,y8,y9]
   intro x hx
   rw[List.mem_flatten] at hx
   obtain⟨l,hl',hxl⟩:=hx
   obtain⟨i,hi,rfl⟩:=w0.1 hl'
   obtain⟨p,hp',rfl⟩:=w0.1 (hTS i hi)
   rw[hfz p hp'] at hxl
   simp only[j5,d4] at hxl
   obtain⟨q,hq,rfl⟩:=w0.1 (hC.closed p hp' x hxl)
   exact decide_eq_true (hS.lt q hq)
  unfold z5w z0k
  simp only[hext,hfn,hp,hl,freezeAll,he,ho,j9,if_false,hr,hc,ite_self,hm]
  cases e with
  | exit i=>exact absurd rfl (hne i)
  | norm=>simp only[hall,if_true]
  | ret=>simp only[hall,if_true]
 ·intro x hx
  unfold z0z at hx
  simp only[hext,hfn,hp,hobs,k8,y8] at hx
  exact hTS x hx
theorem z0u {f base gg clk:Nat} {args:List AV} {S:List (Nat×AObj)} {h:List AObj} {v:AV} {dst:Option Nat} {os:List AOper} {ts:Tmps} {ks:List Kf} {Q:Post} (hr:Reads S f args v) (hh:Has S h):
  CK Gam base f args h clk .plain dst gg os ts ks Q=O Gam base .plain (gg + 1) os ⟨z8g ts dst v,h,clk⟩ ks Q:=by
 obtain⟨⟨k,hk⟩,_⟩:=hr h clk hh
 unfold CK
 apply propext
 constructor
 ·rintro ⟨k',v',h',c,hc,hq⟩
  have:=q9g hk hc
  simp only[Prod.mk.injEq] at this
  obtain⟨rfl,rfl,rfl⟩:=this
  exact hq
 ·intro hq
  exact⟨k,_,_,_,hk,hq⟩
theorem Pure.reads {S:List (Nat×AObj)} {f:Nat} {args:List AV} {v:AV} (hp:Pure Gam f args v):Reads S f args v:=fun h clk _=>⟨(hp h clk).1,by rw[(hp h clk).2];simp⟩
end
end Go.Proofs.YtkollgjffkdliaaGreatDoor.Am
