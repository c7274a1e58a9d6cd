/- Walking: digits are read as limbs Walking: short digits are read as a number Walking: canonical numbers are valid Walking: canonical numbers are valid Walking: calls that look at objects and change no -/
import Derived.Test.YtdfepmffiampgaaGreatDoorM30
open Nat renaming reduceBEq → z0,reduceAdd → z1,reduceLeDiff → z2,reduceSub → z3
set_option linter.all false
namespace Go.Proofs.YtdfepmffiampgaaGreatDoor.Am
open Go
set_option maxRecDepth 100000
theorem x9k {a b:List Nat}:z1v (a++b)=z1v a * 10 ^ b.length + z1v b:=by
 induction a with
 | nil=>simp[z1v]
 | cons c a ih=>rw[List.cons_append,z5i,z5i,ih,List.length_append,Nat.pow_add,Nat.add_mul,Nat.mul_assoc];omega
theorem k8w {B clk:Nat} {H:List AObj} {c:List Nat} {v0 v3 v4:AV} {ts:Tmps} {ks:List Kf} {Q:Post} (hd:∀ x∈c,48≤x∧x≤57) (hl:c.length≤9) (h0:ts 0=v0) (h3:ts 3=v3) (h4:ts 4=v4) (h5:ts 5= .int .u32 0) (h20:ts 20= .sl (bytes c) .no) (h21:ts 21= .int .i64 (c.length:Int)) (h22:ts 22= .int .i64 0)
  (hQ:∀ (ts':Tmps) (clk':Nat),ts' 0=v0→ts' 3=v3→ts' 4=v4→ts' 5= .int .u32 (z1v c:Int)→K Gam B (.exit 2) ks ⟨ts',H,clk'⟩ Q):K Gam B (.loop x3j) ks ⟨ts,H,clk⟩ Q:=by
 refine z1q (fun m q=>∃ j:Nat,j≤c.length∧m=c.length - j∧q.ts 0=v0∧q.ts 3=v3∧q.ts 4=v4∧q.ts 5= .int .u32 (z1v (c.take j):Int)∧q.ts 20= .sl (bytes c) .no∧q.ts 21= .int .i64 (c.length:Int)∧q.ts 22= .int .i64 (j:Int)∧q.h=H) c.length ⟨0,by omega,rfl,h0,h3,h4,h5,h20,h21,h22,rfl⟩ ?_
 clear h0 h3 h4 h5 h20 h21 h22
 rintro m ⟨ts,h,clk⟩ P ⟨j,hj,rfl,h0,h3,h4,h5,h20,h21,h22,rfl⟩ hn he hr
 dsimp only at h0 h3 h4 h5 h20 h21 h22
 by_cases hlt:j < c.length
 ·have e1:decide ((j:Int) < (c.length:Int))=true:=by rw[decide_eq_true_iff];omega
  have hc:=hd c[j] (List.getElem_mem hlt)
  have hw:=q0j hlt
  have hb:=z6l (s:=c.take (j + 1)) fun x hx=>hd x (List.mem_of_mem_take hx)
  have hb2:10 ^ (c.take (j + 1)).length≤10 ^ 9:=Nat.pow_le_pow_right (by omega) (by rw[List.length_take];omega)
  have e2:IntKind.u8.wrap ((c[j]:Int) - 48)=((c[j] - 48:Nat):Int):=q3e hc
  have e3:IntKind.u32.wrap ((c[j] - 48:Nat):Int)=((c[j] - 48:Nat):Int):=u32_in (by omega) (by omega)
  have e4:IntKind.u32.wrap ((z1v (c.take j):Int) * 10)=((z1v (c.take j) * 10:Nat):Int):=by rw[u32_in (by omega) (by omega)];omega
  have e5:IntKind.u32.wrap (((z1v (c.take j) * 10:Nat):Int) + ((c[j] - 48:Nat):Int))=(z1v (c.take (j + 1)):Int):=by rw[u32_in (by omega) (by omega),hw];omega
  have e6:IntKind.i64.wrap ((j:Int) + 1)=((j + 1:Nat):Int):=z0f (by omega) (by omega)
  simp only[go_sem,h0,h3,h4,h5,h20,h21,h22,x3j,e1,x0m hlt,e2,e3,e4,e5,e6]
  exact hn (c.length - (j + 1)) _ (by omega) ⟨j + 1,hlt,rfl,h0,h3,h4,rfl,h20,h21,rfl,rfl⟩
 ·have e1:decide ((j:Int) < (c.length:Int))=false:=by rw[decide_eq_false_iff_not];omega
  have hjc:j=c.length:=by omega
  rw[hjc,List.take_length] at h5
  simp only[go_sem,h0,h3,h4,h5,h20,h21,h22,x3j,e1]
  refine he _ _ ?_
  exact hQ _ _ (by simp[z0c,h0]) (by simp[z0c,h3]) (by simp[z0c,h4]) (by simp[z0c,h5])
theorem w1w {h:List AObj} {s:List Nat} {i j:Nat} {k k':IntKind} (hij:i≤j) (hj:j≤s.length):slV h none (.str s) (some (.int k (i:Int))) (some (.int k' (j:Int))) none=some (.str ((s.take j).drop i),h):=by
 simp[slV,z3c,z5l,hij,hj]
theorem w1x {s:List Nat} (hd:∀ x∈s,48≤x∧x≤57) (hl:s.length≤1000):Pure Gam 277 [.str s] (.sl ((nl (z1v s)).map z4m) .no):=by
 refine Pure.of rfl u3v rfl rfl rfl rfl rfl fun D B clk T hB hT=> ?_
 simp only[go_sem,y2o,hB]
 refine z1q (fun m q=>∃ (j:Nat) (acc:List Nat) (t:Tip) (a o:AObj),m=(s.length + 9) - 9 * j∧9 * j≤s.length + 8∧acc.length=j∧(∀ x∈acc,x < 1000000000)∧z7v acc=z1v (s.drop (s.length - 9 * j))∧q.ts 0= .str s∧q.ts 3= .sl (acc.map z4m) t∧q.ts 4= .int .i64 ((s.length:Int) - 9 * j)∧q.h=D++[a,o]∧z7x B 1 o t 1) (s.length + 9) ⟨0,[], .nil,_,_,rfl,by omega,rfl,by simp,by simp[z7v,z1v],rfl,rfl,by simp[z0c],rfl, .inl rfl⟩ ?_
 rintro m ⟨ts,h,clk⟩ P ⟨j,acc,t,a,o,rfl,hj,hal,hab,hv,h0,h3,h4,rfl,ht⟩ hn he hr
 dsimp only at h0 h3 h4
 by_cases hlt:9 * j < s.length
 ·have e1:decide ((0:Int) < (s.length:Int) - 9 * j)=true:=by rw[decide_eq_true_iff];omega
  have e0:(s.length:Int) - 9 * j=((s.length - 9 * j:Nat):Int):=by omega
  have e2:IntKind.i64.wrap ((s.length:Int) - 9 * j - 9)=(s.length:Int) - 9 * j - 9:=z0f (by omega) (by omega)
  have e3:(if (0:Int) > (s.length:Int) - 9 * j - 9 then (0:Int) else (s.length:Int) - 9 * j - 9)=((s.length - 9 * j - 9:Nat):Int):=by
   split <;> omega
  have hsl:∀ h,slV h none (.str s) (some (.int .i64 ((s.length - 9 * j - 9:Nat):Int))) (some (.int .i64 ((s.length:Int) - 9 * j))) none=some (.str ((s.take (s.length - 9 * j)).drop (s.length - 9 * j - 9)),h):=fun h=>by
   rw[e0]
   exact w1w (by omega) (by omega)
  generalize hcc:(s.take (s.length - 9 * j)).drop (s.length - 9 * j - 9)=c at hsl
  have hcl:c.length=s.length - 9 * j - (s.length - 9 * j - 9):=by rw[←hcc];simp
  have hcd:∀ x∈c,48≤x∧x≤57:=fun x hx=>by
   rw[←hcc] at hx
   exact hd x (List.mem_of_mem_take (List.mem_of_mem_drop hx))
  have hcw:=z6l hcd
  have hcw9:10 ^ c.length≤10 ^ 9:=Nat.pow_le_pow_right (by omega) (by omega)
  have hsuf:s.drop (s.length - 9 * j - 9)=c++s.drop (s.length - 9 * j):=by
   rw[←hcc,←List.drop_append_of_le_length (by simp),List.take_append_drop]
  have htb:∀ s':List Nat,(s'.map fun (b:Nat)=>AV.int .u8 (Int.ofNat b))=bytes s':=fun _=>rfl
  have hbl:(bytes c).length=c.length:=by simp[bytes]
  simp only[go_sem,h0,h3,h4,j4w,e1,e2,e3,hsl,htb,hbl]
  refine k8w (v0:= .str s) (v3:= .sl (acc.map z4m) t) (v4:= .int .i64 ((s.length:Int) - 9 * j)) hcd (by omega) (by simp[z0c,h0]) (by simp[z0c,h3]) (by simp[z0c,h4]) (by simp[z0c]) (by simp[z0c]) (by simp[z0c]) (by simp[z0c]) fun ts' clk' q0 q3 q4 q5=> ?_
  simp only[go_sem,q0,q3,q4,q5]
  rw[show [AV.int .u32 (z1v c:Int)]=[z1v c].map z4m from rfl,z0k hB rfl ht x0o x0o (by simp only[List.length_map,List.length_singleton];omega)]
  simp only[go_sem,q0,q3,q4,q5,e2,←List.map_append]
  refine hn (s.length + 9 - 9 * (j + 1)) _ (by omega) ⟨j + 1,acc++[z1v c],_,_,_,rfl,by omega,by simp[hal], ?_, ?_,by simp[z0c,q0],by simp[z0c], ?_,rfl, .inr (.inr ⟨_,rfl,rfl⟩)⟩
  ·intro x hx
   rw[List.mem_append] at hx
   rcases hx with hx | hx
   ·exact hab x hx
   ·simp at hx;omega
  ·rw[show s.length - 9 * (j + 1)=s.length - 9 * j - 9 by omega,hsuf,x9k,q4i,hv,hal]
   have:(s.drop (s.length - 9 * j)).length=9 * j:=by simp;omega
   rw[this,Nat.pow_mul]
   simp only[z7v,Nat.mul_zero,Nat.add_zero]
   rw[Nat.mul_comm (z1v c)]
   have:(10 ^ 9:Nat)=1000000000:=by decide
   rw[this]
   omega
  ·simp only[z0c,z0,cond_true,cond_false]
   congr 1
   omega
 ·have e1:decide ((0:Int) < (s.length:Int) - 9 * j)=false:=by rw[decide_eq_false_iff_not];omega
  rw[show s.length - 9 * j=0 by omega,List.drop_zero] at hv
  have hp:=j2d (l:=acc) (t:=t) hab (by omega)
  rw[hv] at hp
  simp only[go_sem,h0,h3,h4,j4w,e1]
  refine he _ _ ?_
  simp only[go_sem,h3,z0a hp]
  rw[x5l]
  exact hT _
theorem x9l {h:List AObj}:z6w h .neq .iface .nilif .nilif=some (.bool false,h):=(rfl)
theorem y3m {h:List AObj}:z6w h .shl (.one .int) (.int .u64 1) (.int .u64 64)=some (.int .u64 0,h):=by
 have:IntKind.u64.wrap (2 ^ min 64 IntKind.u64.bits)=0:=by decide
 simp[z6w,z4k,q8a,this]
theorem y3n {h:List AObj}:z6w h .shl (.one .int) (.int .u64 1) (.int .u64 63)=some (.int .u64 9223372036854775808,h):=by
 have:IntKind.u64.wrap (2 ^ min 63 IntKind.u64.bits)=9223372036854775808:=by decide
 simp[z6w,z4k,q8a,this]
theorem w1y {n:Nat} (hn:n < 1000000000):Pure Gam 289 [.str (dec n), .int .i64 10, .int .i64 64] (.tup [.int .u64 (n:Int), .nilif]):=by
 refine Pure.of rfl u3s rfl rfl rfl rfl rfl fun D B clk T hB hT=> ?_
 have hd:=z1u n
 have hl:(dec n).length≤9:=z8z (by omega) hn
 have e1:decide (dec n=[])=false:=by simp[z8y n]
 have w1:IntKind.u64.wrap 64=64:=by decide
 have w2:IntKind.u64.wrap (0 - 1)=18446744073709551615:=by decide
 have htb:((dec n).map fun (b:Nat)=>AV.int .u8 (Int.ofNat b))=bytes (dec n):=rfl
 simp only[go_sem,y2m,e1,Int.reduceEq,Int.reduceLE,Int.reduceLT,decide_true,decide_false,w1,y3m,w2,htb,q5m]
 refine z1q (fun m q=>∃ j:Nat,j≤(dec n).length∧m=(dec n).length - j∧q.ts 1= .int .i64 10∧q.ts 8= .bool false∧q.ts 10= .int .u64 1844674407370955162∧q.ts 11= .int .u64 18446744073709551615∧q.ts 12= .bool false∧q.ts 13= .int .u64 (z1v ((dec n).take j):Int)∧q.ts 99= .sl (bytes (dec n)) .no∧q.ts 100= .int .i64 ((dec n).length:Int)∧q.ts 101= .int .i64 (j:Int)∧q.h=D++[]) (dec n).length ⟨0,by omega,rfl,rfl,rfl,rfl,rfl,rfl,rfl,rfl,rfl,rfl,rfl⟩ ?_
 rintro m ⟨ts,h,clk⟩ P ⟨j,hj,rfl,h1,h8,h10,h11,h12,h13,h99,h100,h101,rfl⟩ hn' he hr
 dsimp only at h1 h8 h10 h11 h12 h13 h99 h100 h101
 by_cases hlt:j < (dec n).length
 ·have f1:decide ((j:Int) < ((dec n).length:Int))=true:=by rw[decide_eq_true_iff];omega
  have hc:=hd _ (List.getElem_mem hlt)
  have hw:=q0j hlt
  have hb:=z6l (s:=(dec n).take (j + 1)) fun x hx=>hd x (List.mem_of_mem_take hx)
  have hb2:10 ^ ((dec n).take (j + 1)).length≤10 ^ 9:=Nat.pow_le_pow_right (by omega) (by rw[List.length_take];omega)
  generalize hcc:(dec n)[j]=c at hc hw
  have hidx:∀ h,z1n h 1 (.sl (bytes (dec n)) .no) (.int .i64 (j:Int))=some (.iptr [.int .u8 (c:Int)] 0,h):=fun h=>by rw[x0m hlt,hcc]
  have f2:decide ((c:Int)=95)=false:=by rw[decide_eq_false_iff_not];omega
  have f3:decide ((48:Int)≤(c:Int))=true:=by rw[decide_eq_true_iff];omega
  have f4:decide ((c:Int)≤57)=true:=by rw[decide_eq_true_iff];omega
  have f5:IntKind.u8.wrap ((c:Int) - 48)=((c - 48:Nat):Int):=q3e hc
  have f6:IntKind.u8.wrap 10=10:=by decide
  have f7:decide ((10:Int)≤((c - 48:Nat):Int))=false:=by rw[decide_eq_false_iff_not];omega
  have f8:decide ((1844674407370955162:Int)≤(z1v ((dec n).take j):Int))=false:=by rw[decide_eq_false_iff_not];omega
  have f9:IntKind.u64.wrap 10=10:=by decide
  have f10:IntKind.u64.wrap ((z1v ((dec n).take j):Int) * 10)=((z1v ((dec n).take j) * 10:Nat):Int):=by rw[u64_in (by omega) (by omega)];omega
  have f11:IntKind.u64.wrap ((c - 48:Nat):Int)=((c - 48:Nat):Int):=u64_in (by omega) (by omega)
  have f12:IntKind.u64.wrap (((z1v ((dec n).take j) * 10:Nat):Int) + ((c - 48:Nat):Int))=(z1v ((dec n).take (j + 1)):Int):=by rw[u64_in (by omega) (by omega),hw];omega
  have f13:decide ((z1v ((dec n).take (j + 1)):Int) < ((z1v ((dec n).take j) * 10:Nat):Int))=false:=by rw[decide_eq_false_iff_not];omega
  have f14:decide ((18446744073709551615:Int) < (z1v ((dec n).take (j + 1)):Int))=false:=by rw[decide_eq_false_iff_not];omega
  have f15:IntKind.i64.wrap ((j:Int) + 1)=((j + 1:Nat):Int):=z0f (by omega) (by omega)
  simp only[go_sem,h1,h8,h10,h11,h12,h13,h99,h100,h101,j4u,f1,hidx,f2,f3,f4,f5,f6,f7,f8,f9,f10,f11,f12,f13,f14,f15]
  exact hn' ((dec n).length - (j + 1)) _ (by omega) ⟨j + 1,hlt,rfl,h1,h8,h10,h11,h12,rfl,h99,h100,rfl,rfl⟩
 ·have f1:decide ((j:Int) < ((dec n).length:Int))=false:=by rw[decide_eq_false_iff_not];omega
  have hjc:j=(dec n).length:=by omega
  rw[hjc,List.take_length,z2l] at h13
  simp only[go_sem,h1,h8,h10,h11,h12,h13,h99,h100,h101,j4u,f1]
  refine he _ _ ?_
  simp only[go_sem,h12,h13]
  rw[z0j rfl rfl]
  exact hT _
theorem w1z {n:Nat} (hn:n < 1000000000):Pure Gam 284 [.str (dec n), .int .i64 10, .int .i64 64] (.tup [.int .i64 (n:Int), .nilif]):=by
 refine Pure.of rfl u3r rfl rfl rfl rfl rfl fun D B clk T hB hT=> ?_
 obtain⟨c,t,hct⟩:=List.exists_cons_of_ne_nil (z8y n)
 have hc:=z1u n c (by rw[hct];exact List.mem_cons_self)
 have e1:decide (dec n=[])=false:=by simp[z8y n]
 have e2:∀ h k,q5i h (.str (dec n)) (.int k 0)=some (.int .u8 (c:Int),h):=fun h k=>by rw[hct];exact z6h
 have e3:decide ((c:Int)=43)=false:=by rw[decide_eq_false_iff_not];omega
 have e4:decide ((c:Int)=45)=false:=by rw[decide_eq_false_iff_not];omega
 have e5:IntKind.i64.wrap (64 - 1)=63:=by decide
 have e6:IntKind.u64.wrap 63=63:=by decide
 have e7:decide ((9223372036854775808:Int)≤(n:Int))=false:=by rw[decide_eq_false_iff_not];omega
 have e8:IntKind.i64.wrap (n:Int)=(n:Int):=z0f (by omega) (by omega)
 simp only[go_sem,y2l,e1,e2,e3,e4,z0a (w1y hn),x9l,Int.reduceEq,decide_false,e5,e6,y3n,Bool.not_false,e7,e8]
 rw[z0j rfl rfl]
 exact hT _
theorem x5m {n:Nat} (hn:n < 1000000000):Pure Gam 275 [.str (dec n), .int .i64 10, .int .i64 64] (.tup [.int .i64 (n:Int), .nilif]):=by
 refine Pure.of rfl u3q rfl rfl rfl rfl rfl fun D B clk T hB hT=> ?_
 simp only[go_sem,y2k,z0a (w1z hn),x9l]
 rw[z0j rfl rfl]
 exact hT _
theorem w2a {a b:Nat} (hb:b < 2 ^ 62):Pure Gam 276 [.int .i64 (a:Int), .int .i64 (b:Int)] (.int .i64 (Nat.gcd a b:Int)):=by
 refine Pure.of rfl u3t rfl rfl rfl rfl rfl fun D B clk T hB hT=> ?_
 simp only[go_sem,y2n]
 refine z1q (fun m q=>∃ x:Nat,m < 2 ^ 62∧Nat.gcd x m=Nat.gcd a b∧q.ts 0= .int .i64 (x:Int)∧q.ts 1= .int .i64 (m:Int)∧q.h=D++[]) b ⟨a,hb,rfl,rfl,rfl,rfl⟩ ?_
 rintro m ⟨ts,h,clk⟩ P ⟨x,hm,hg,h0,h1,rfl⟩ hn he hr
 dsimp only at h0 h1
 rcases Nat.eq_zero_or_pos m with rfl | hpos
 ·simp only[go_sem,h0,h1,j4v,decide_true,Bool.not_true]
  refine he _ _ ?_
  simp only[go_sem,h0]
  rw[z2r]
  rw[Nat.gcd_zero_right] at hg
  rw[hg]
  exact hT _
 ·have e1:decide ((m:Int)=0)=false:=by rw[decide_eq_false_iff_not];omega
  have e2:((x:Int)).tmod (m:Int)=((x % m:Nat):Int):=IntWalk.up_tmod rfl rfl
  simp only[go_sem,h0,h1,j4v,e1,Bool.not_false,q7m (b:=(m:Int)) (by omega),e2]
  have hlt:=Nat.mod_lt x hpos
  refine hn (x % m) _ hlt ⟨m,by omega, ?_,rfl,rfl,rfl⟩
  rw[←hg,Nat.gcd_comm x m,Nat.gcd_rec m x,Nat.gcd_comm]
def x9m (n:Nat):Option Nat→List Nat
 | none=>dec n
 | some d=>dec n++47::dec d
def x5n (neg:Bool) (n:Nat) (d:Option Nat):List Nat:=if neg then 45::x9m n d else x9m n d
structure NumT (neg:Bool) (n:Nat) (d:Option Nat):Prop where
 pos:neg=true→n≠0
 len:n < 10 ^ 40
 den:∀ k,d=some k→2≤k∧k≤4∧Nat.gcd n k=1
theorem RatS.text {a:List Nat} (h:RatS a):∃ neg n d,a=x5n neg n d∧NumT neg n d:=by
 rcases h with ⟨z,rfl,h⟩ | ⟨z,d,rfl,h,h2,h4,hg⟩
 ·refine⟨decide (z < 0),z.natAbs,none, ?_,⟨fun hz=> ?_,h,by simp⟩⟩
  ·unfold z3k x5n x9m
   by_cases hz:z < 0 <;> simp[hz]
  ·simp at hz;omega
 ·refine⟨decide (z < 0),z.natAbs,some d, ?_,⟨fun hz=> ?_,h,fun k hk=>by injection hk with hk;subst hk;exact⟨h2,h4,hg⟩⟩⟩
  ·unfold z3k x5n x9m
   by_cases hz:z < 0 <;> simp[hz]
  ·simp at hz;omega
def w2b:Option Nat→List Nat
 | none=>[]
 | some d=>dec d
theorem y3o {n:Nat}:∀ c∈dec n,c≠47:=fun c hc=>by have:=z1u n c hc;omega
theorem x5o {neg:Bool} {n:Nat} {d:Option Nat}:Pure Gam 232 [.str (x5n neg n d), .str [45]] (.tup [.str (x9m n d), .bool neg]):=by
 cases neg
 ·obtain⟨c,t,hct⟩:=List.exists_cons_of_ne_nil (z8y n)
  have hc:=z1u n c (by rw[hct];exact List.mem_cons_self)
  have hb:∃ t',x9m n d=c::t':=by cases d <;> simp[x9m,hct]
  obtain⟨t',ht⟩:=hb
  simp only[x5n,Bool.false_eq_true,if_false,ht]
  exact x0l (by omega)
 ·exact x0k
theorem x5p {n:Nat} {d:Option Nat} (hl:(dec n).length≤1000):Pure Gam 274 [.str (x9m n d), .str [47]] (.tup [.str (dec n), .str (w2b d), .bool d.isSome]):=by
 cases d
 ·exact x9h (z8y n) y3o
 ·exact j8l (z8y n) y3o hl
theorem x0q {d:Nat} (h:d≤4):(dec d).length≤1:=by rw[z9r (by omega)];simp
theorem j2e {neg:Bool} {n:Nat} {d:Option Nat} (hl:(dec n).length≤1000) (h9:9 < (dec n).length):Pure Gam 262 [.str (x5n neg n d)] (.tup [.agg [.int .i64 0, .int .i64 0], .bool false]):=by
 refine Pure.of rfl y2e rfl rfl rfl rfl rfl fun D B clk T hB hT=> ?_
 have e1:decide ((9:Int) < ((dec n).length:Int))=true:=by rw[decide_eq_true_iff];omega
 simp only[go_sem,w0x,hB,z0a x5o,z0a (x5p hl),e1,z0m,z0l,z0g]
 rw[z0j rfl rfl]
 exact hT _
theorem x5q {neg:Bool} {n:Nat} {d:Option Nat} (ht:NumT neg n d) (h9:(dec n).length≤9) (hn:n < 1000000000):∃ p q:Int,Pure Gam 262 [.str (x5n neg n d)] (.tup [.agg [.int .i64 p, .int .i64 q], .bool true]):=by
 refine⟨if neg then IntKind.i64.wrap (0 - (n:Int)) else n,(d.getD 1:Nat), ?_⟩
 refine Pure.of rfl y2e rfl rfl rfl rfl rfl fun D B clk T hB hT=> ?_
 have e1:decide ((9:Int) < ((dec n).length:Int))=false:=by rw[decide_eq_false_iff_not];omega
 have hden:(w2b d).length≤1:=by
  cases d with
  | none=>simp[w2b]
  | some k=>exact x0q (ht.den k rfl).2.1
 have e2:decide ((9:Int) < ((w2b d).length:Int))=false:=by rw[decide_eq_false_iff_not];omega
 have hp1:=q6n (n:=n) (by omega)
 have e3:decide (dec n=[48])=decide (n=0):=z4d
 simp only[go_sem,w0x,hB,z0a x5o,z0a (x5p (n:=n) (d:=d) (by omega)),e1,e2,z0a hp1,Bool.not_true,e3]
 have hfin:∀ (r:Int),r=(if neg then IntKind.i64.wrap (0 - (n:Int)) else n)→∀ h',T (.tup [.agg [.int .i64 r, .int .i64 (d.getD 1:Nat)], .bool true]) h':=fun r hr h'=>hr ▸ hT h'
 rcases Nat.eq_zero_or_pos n with rfl | hpos
 ·have hneg:neg=false:=by cases neg with
   | false=>rfl
   | true=>exact absurd rfl (ht.pos rfl)
  have hd0:d=none:=by cases d with
   | none=>rfl
   | some k=>have:=ht.den k rfl;rw[Nat.gcd_zero_left] at this;omega
  subst hneg;subst hd0
  simp only[go_sem,decide_true,Option.isSome_none,z0a (x5m (n:=0) (by omega)),hB,z0m,z0l,z0g]
  rw[z0j rfl rfl]
  exact hfin _ rfl _
 ·have e4:decide (n=0)=false:=by rw[decide_eq_false_iff_not];omega
  simp only[go_sem,e4,z0a (x5m hn)]
  cases d with
  | none=>
    cases neg
    ·simp only[go_sem,Option.isSome_none,hB,z0m,z0l,z0g]
     rw[z0j rfl rfl]
     exact hfin _ rfl _
    ·simp only[go_sem,Option.isSome_none,hB,z0m,z0l,z0g]
     rw[z0j rfl rfl]
     exact hfin _ rfl _
  | some k=>
    obtain⟨hk2,hk4,hg⟩:=ht.den k rfl
    have hp2:=q6n (n:=k) (by have:=x0q hk4;omega)
    have e5:decide ((k:Int) < 2)=false:=by rw[decide_eq_false_iff_not];omega
    have hp3:=w2a (a:=n) (b:=k) (by omega)
    rw[hg] at hp3
    cases neg
    ·simp only[go_sem,Option.isSome_some,w2b,z0a hp2,Bool.not_true,z0a (x5m (n:=k) (by omega)),e5,z0a hp3,decide_true,hB,z0m,z0l,z0g]
     rw[z0j rfl rfl]
     exact hfin _ rfl _
    ·simp only[go_sem,Option.isSome_some,w2b,z0a hp2,Bool.not_true,z0a (x5m (n:=k) (by omega)),e5,z0a hp3,decide_true,hB,z0m,z0l,z0g]
     rw[z0j rfl rfl]
     exact hfin _ rfl _
theorem y3p {n:Nat} (hn:n < 10 ^ 40):(nl n).length≤5:=y3l (k:=5) (by
 have:(1000000000:Nat) ^ 5=10 ^ 45:=by decide
 rw[this]
 have:(10:Nat) ^ 40≤10 ^ 45:=Nat.pow_le_pow_right (by omega) (by omega)
 omega)
theorem j5c {n:Nat} (hl:(dec n).length≤1000):Pure Gam 277 [.str (dec n)] (.sl ((nl n).map z4m) .no):=by
 have:=w1x (s:=dec n) (z1u n) hl
 rwa [z2l] at this
theorem w2c {neg:Bool} {n:Nat} {d:Option Nat} (ht:NumT neg n d):∃ v:AV,v.ids=[]∧v.obs=[]∧(∃ a b c,v= .agg [.bool a, .sl b .no, .sl c .no])∧Pure Gam 263 [.str (x5n neg n d)] (.tup [v, .bool true]):=by
 have hlen:(dec n).length≤40:=z8z (by omega) ht.len
 have hp1:=q6n (n:=n) (by omega)
 have hpn:=j5c (n:=n) (by omega)
 have e3:decide (dec n=[48])=decide (n=0):=z4d
 have e13:decide (dec n=[48])=true→neg=false∧d=none:=by
  rw[e3,decide_eq_true_iff]
  rintro rfl
  refine⟨?_, ?_⟩
  ·cases neg with
   | false=>rfl
   | true=>exact absurd rfl (ht.pos rfl)
  ·cases d with
   | none=>rfl
   | some k=>have:=ht.den k rfl;rw[Nat.gcd_zero_left] at this;omega
 have w1:(AV.sl [.int .u32 1] .full).cv= .sl ([1].map z4m) .no:=rfl
 cases d with
 | none=>
   refine⟨.agg [.bool neg, .sl ((nl n).map z4m) .no, .sl ([1].map z4m) .no],by simp[AV.ids,idsL,z3s,z4m],rfl,⟨_,_,_,rfl⟩, ?_⟩
   refine Pure.of rfl y2f rfl rfl rfl rfl rfl fun D B clk T hB hT=> ?_
   simp only[go_sem,w0y,hB,z0a x5o,z0a (x5p (n:=n) (d:=none) (by omega)),z0a hp1,Bool.not_true,Option.isSome_none]
   have key:∀ x:Bool,decide (dec n=[48])=x→T (.tup [.agg [.bool neg, .sl ((nl n).map z4m) .no, .sl [.int .u32 1] .no], .bool true])=T (.tup [.agg [.bool neg, .sl ((nl n).map z4m) .no, .sl ([1].map z4m) .no], .bool true]):=fun _ _=>rfl
   cases hz:decide (dec n=[48]) with
   | true=>
     obtain⟨rfl,_⟩:=e13 hz
     simp only[go_sem,z0a hpn,hB,Bool.not_false,z0m,z0l,z0g]
     rw[z0j rfl (by simp[z1l,AV.cv,cvL,AV.ids,idsL,z3s,z4m])]
     exact hT _
   | false=>
     simp only[go_sem,z0a hpn,hB,Bool.not_false,z0m,z0l,z0g]
     rw[z0j rfl (by simp[z1l,AV.cv,cvL,AV.ids,idsL,z3s,z4m])]
     exact hT _
 | some k=>
   obtain⟨hk2,hk4,hg⟩:=ht.den k rfl
   have hnz:decide (dec n=[48])=false:=by
    cases hz:decide (dec n=[48]) with
    | false=>rfl
    | true=>exact absurd (e13 hz).2 (by simp)
   have hkl:=x0q hk4
   have hp2:=q6n (n:=k) (by omega)
   have hpk:=j5c (n:=k) (by omega)
   have e5:decide (dec k=[48])=false:=by rw[z4d,decide_eq_false_iff_not];omega
   have e6:decide (dec k=[49])=false:=by rw[q6m,decide_eq_false_iff_not];omega
   have hpg:=w1v (x:=n) (y:=k) (by have:=y3p ht.len;omega) (by omega)
   rw[hg,show nl 1=[1] from x5k (by omega) (by omega)] at hpg
   have hpo:=w1s (l:=[1])
   have e7:decide (([1]:List Nat)=[1])=true:=rfl
   rw[e7,List.map_cons,List.map_nil] at hpo
   refine⟨.agg [.bool neg, .sl ((nl n).map z4m) .no, .sl ((nl k).map z4m) .no],by simp[AV.ids,idsL,z3s,z4m],rfl,⟨_,_,_,rfl⟩, ?_⟩
   refine Pure.of rfl y2f rfl rfl rfl rfl rfl fun D B clk T hB hT=> ?_
   simp only[go_sem,w0y,hB,z0y,z0a x5o,z0a (x5p (n:=n) (d:=some k) (by omega)),z0a hp1,Bool.not_true,Option.isSome_some,hnz,z0a hpn,w2b,z0a hp2,e5,e6,z0a hpk,z0a hpg,z0a hpo,z0m,z0l,z0g]
   refine⟨by simp[z0v,apart,z0h,z0s,z0w,AOp.isCall,hB], ?_⟩
   rw[z0j rfl (by simp[z1l,AV.cv,cvL,AV.ids,idsL,z3s,z4m])]
   exact hT _
theorem k3i {neg:Bool} {n:Nat} {d:Option Nat} (ht:NumT neg n d):Pure Gam 231 [.str (x5n neg n d)] (.bool true):=by
 have hlen:(dec n).length≤40:=z8z (by omega) ht.len
 by_cases h9:9 < (dec n).length
 ·have hp1:=j2e (neg:=neg) (n:=n) (d:=d) (by omega) h9
  obtain⟨v,hv1,hv2,⟨a,b,c,rfl⟩,hp2⟩:=w2c ht
  refine Pure.of rfl y1z rfl rfl rfl rfl rfl fun D B clk T hB hT=> ?_
  simp only[go_sem,w0t,hB,z0a hp1,z0a hp2]
  rw[z0d]
  exact hT _
 ·have hn:n < 1000000000:=by
   have h1:=z6l (z1u n)
   rw[z2l] at h1
   have h2:10 ^ (dec n).length≤10 ^ 9:=Nat.pow_le_pow_right (by omega) (by omega)
   omega
  obtain⟨p,q,hp⟩:=x5q ht (by omega) hn
  refine Pure.of rfl y1z rfl rfl rfl rfl rfl fun D B clk T hB hT=> ?_
  simp only[go_sem,w0t,hB,z0a hp]
  rw[z0d]
  exact hT _
theorem w2d {k:Nat} (h1:1≤k) (h5:k≤5):Pure Gam 188 [.str (dec k)] (.int .i64 1):=by
 have hv:Pure Gam 231 [.str (dec k)] (.bool true):=k3i (neg:=false) (n:=k) (d:=none) ⟨by simp,by omega,by simp⟩
 have e1:decide (dec k=[48])=false:=by rw[z4d,decide_eq_false_iff_not];omega
 have e2:∀ h q,q5i h (.str (dec k)) (.int q 0)=some (.int .u8 ((48 + k:Nat):Int),h):=fun h q=>by rw[z9r (by omega)];exact z6h
 have e3:decide (((48 + k:Nat):Int)=45)=false:=by rw[decide_eq_false_iff_not];omega
 refine Pure.of rfl u4m rfl rfl rfl rfl rfl fun D B clk T hB hT=> ?_
 simp only[go_sem,y3f,z0a hv,Bool.not_true,e1,e2,e3]
 rw[z2r]
 exact hT _
theorem j2f {a:List Nat} (h:IntS a):Pure Gam 185 [.int .i64 2, .str a] (.bool true):=by
 obtain⟨z,rfl,hz⟩:=h
 have hlen:(dec z.natAbs).length≤40:=z8z (by omega) hz
 have hp:=k3e (z:=z) (by omega)
 refine Pure.of rfl y3d rfl rfl rfl rfl rfl fun D B clk T hB hT=> ?_
 simp only[go_sem,w1j,Int.reduceEq,decide_true,z0a hp]
 rw[z0d]
 exact hT _
theorem x9n {a:List Nat} (h:RatS a):Pure Gam 185 [.int .i64 3, .str a] (.bool true):=by
 obtain⟨neg,n,d,rfl,ht⟩:=h.text
 refine Pure.of rfl y3d rfl rfl rfl rfl rfl fun D B clk T hB hT=> ?_
 simp only[go_sem,w1j,Int.reduceEq,decide_true,decide_false,z0a (k3i ht)]
 rw[z0d]
 exact hT _
def Has (S:List (Nat×AObj)) (h:List AObj):Prop:=∀ p∈S,h[p.1]? =some p.2
theorem Has.lt {S:List (Nat×AObj)} {h:List AObj} (hS:Has S h):∀ p∈S,p.1 < h.length:=fun p hp=>by
 have:=hS p hp
 rw[List.getElem?_eq_some_iff] at this
 exact this.1
theorem Has.app {S:List (Nat×AObj)} {D L:List AObj} (hS:Has S D):Has S (D++L):=fun p hp=>by
 rw[List.getElem?_append_left (hS.lt p hp)]
 exact hS p hp
theorem Has.nil {h:List AObj}:Has [] h:=fun p hp=>by simp at hp
theorem Has.cons {p:Nat×AObj} {S:List (Nat×AObj)} {h:List AObj} (h1:h[p.1]? =some p.2) (h2:Has S h):Has (p::S) h:=fun q hq=>by
 rw[List.mem_cons] at hq
 rcases hq with rfl | hq
 ·exact h1
 ·exact h2 q hq
theorem z4n {h:List AObj}:∀ {n:Nat} {seen z7k:List Nat} {s:Nat},s∈seen∨s∈z7k→s∈reach h n seen z7k
 | 0,seen,z7k,s,hs=>by
   simp only[reach,List.mem_append]
   exact hs
 | n + 1,seen,[],s,hs=>by
   simp only[reach]
   simpa using hs
 | n + 1,seen,t::z7k,s,hs=>by
   simp only[reach]
   split
   ·rename_i hc
    refine z4n ?_
    rcases hs with hs | hs
    ·exact .inl hs
    ·rw[List.mem_cons] at hs
     rcases hs with rfl | hs
     ·exact .inl (by simpa using hc)
     ·exact .inr hs
   ·refine z4n ?_
    rcases hs with hs | hs
    ·exact .inl (List.mem_cons_of_mem _ hs)
    ·rw[List.mem_cons] at hs
     rcases hs with rfl | hs
     ·exact .inl List.mem_cons_self
     ·exact .inr (List.mem_append_right _ hs)
theorem z9c {h:List AObj} {n s:Nat} {seen z7k:List Nat} {o:AObj} (hns:s∉seen) (ho:h[s]? =some o):reach h (n + 1) seen (s::z7k)=reach h n (s::seen) (o.ids++z7k):=by
 simp[reach,hns,ho]
theorem q5q {h:List AObj} {S:List (Nat×AObj)} (hS:Has S h) (hc:∀ p∈S,∀ i∈p.2.ids,i∈S.map (·.1)):∀ {n:Nat} {seen z7k:List Nat},(∀ i∈seen,i∈S.map (·.1))→(∀ i∈z7k,i∈S.map (·.1))→∀ i∈reach h n seen z7k,i∈S.map (·.1)
 | 0,seen,z7k,h1,h2,i,hi=>by
   simp only[reach,List.mem_append] at hi
   exact hi.elim (h1 i) (h2 i)
 | n + 1,seen,[],h1,h2,i,hi=>by
   simp only[reach] at hi
   exact h1 i hi
 | n + 1,seen,t::z7k,h1,h2,i,hi=>by
   simp only[reach] at hi
   split at hi
   ·exact q5q hS hc h1 (fun j hj=>h2 j (List.mem_cons_of_mem _ hj)) i hi
   ·have ht:=h2 t List.mem_cons_self
    obtain⟨p,hp,rfl⟩:=List.mem_map.1 ht
    rw[hS p hp] at hi
    refine q5q hS hc (fun j hj=> ?_) (fun j hj=> ?_) i hi
    ·rw[List.mem_cons] at hj
     rcases hj with rfl | hj
     ·exact ht
     ·exact h1 j hj
    ·simp only[Option.map_some,Option.getD_some,List.mem_append] at hj
     rcases hj with hj | hj
     ·exact hc p hp j hj
     ·exact h2 j (List.mem_cons_of_mem _ hj)
structure Cov (S:List (Nat×AObj)) (ids:List Nat):Prop where
 root:∀ i∈ids,i∈S.map (·.1)
 closed:∀ p∈S,∀ i∈p.2.ids,i∈S.map (·.1)
 cover:∀ h,Has S h→∀ p∈S,p.1∈reach h (h.length + 1) [] ids
theorem Cov.one {s:Nat} {o:AObj} (ho:o.ids=[]):Cov [(s,o)] [s]:=by
 refine⟨by simp,by simp[ho],fun h hS p hp=> ?_⟩
 simp at hp
 subst hp
 exact z4n (.inr List.mem_cons_self)
theorem Cov.two {s t:Nat} {o q:AObj} (ho:o.ids=[t]) (hq:q.ids=[]):Cov [(s,o),(t,q)] [s]:=by
 refine⟨by simp,by simp[ho,hq],fun h hS p hp=> ?_⟩
 have h1:h[s]? =some o:=hS (s,o) (by simp)
 have hr:reach h (h.length + 1) [] [s]=reach h h.length [s] [t]:=by rw[z9c (by simp) h1,ho];rfl
 rw[hr]
 simp at hp
 rcases hp with rfl | rfl
 ·exact z4n (.inl List.mem_cons_self)
 ·exact z4n (.inr List.mem_cons_self)
def Reads (S:List (Nat×AObj)) (f:Nat) (args:List AV) (v:AV):Prop:=
 ∀ h clk,Has S h→(∃ k,z5f Gam k f args h clk=some (v,h,clk))∧∀ x∈z0z Gam f args h,x∈S.map (·.1)
theorem x3q {T:List Nat}:∀ {h h':List AObj} {k:Nat},(∀ i,i < h.length→T.contains (k + i)=true→h'[i]? =h[i]?)→z0r T k h h'=h
 | [],[],_,_=>rfl
 | [],_::_,_,_=>rfl
 | o::h,[],_,_=>rfl
 | o::h,o'::h',k,hh=>by
   have h0:T.contains k=true→o'=o:=fun hc=>by simpa using hh 0 (by simp) hc
   have h1:=x3q (T:=T) (h:=h) (h':=h') (k:=k + 1) fun i hi hc=>by
    have:=hh (i + 1) (by simpa using hi) (by rw[show k + (i + 1)=k + 1 + i by omega];exact hc)
    simpa using this
   simp only[z0r,h1]
   split
   ·rename_i hc
    rw[h0 hc]
   ·rfl
theorem Reads.of {S:List (Nat×AObj)} {f:Nat} {args az:List AV} {v:AV} {af:AFun} (hext:Gam.ext f=none) (hfn:Gam.fn f=some af) (hb:af.byref=[]) (ho:af.owned=false) (hobs:z3y args=[]) (has:cvL args=az) (hC:Cov S (idsL az))
  (hw:∀ (D:List AObj) (B clk:Nat) (R:AV→List AObj→Prop),D.length=B→Has S D→(∀ p∈S,p.1 < B)→(∀ h',Has S h'→R v h')→K Gam B af.body [] ⟨z9z az,D++List.replicate af.nslots .dead,clk⟩ (j9c (S.map (·.1)) af.results R)):Reads S f args v:=by
 intro h clk hS
 have hp:z1d h af.byref 0 args=some az:=by rw[hb,z1o hobs,has]
 have hl:z0p af.byref 0 args=[]:=by rw[hb];exact z5a hobs
 have hTS:∀ i∈reach h (h.length + 1) [] (idsL az),i∈S.map (·.1):=q5q hS hC.closed (by simp) hC.root
 refine⟨?_, ?_⟩
 ·have hmask:Has S (maskFrom (reach h (h.length + 1) [] (idsL az)) 0 h):=fun p hp'=>by
   rw[q9u (by rw[Nat.zero_add,List.contains_eq_mem];exact decide_eq_true (hC.cover h hS p hp'))]
   exact hS p hp'
  obtain⟨k,e,s1,he,hend⟩:=hw (maskFrom (reach h (h.length + 1) [] (idsL az)) 0 h) _ clk (fun v' h'=>v'=v∧Has S h') rfl hmask (fun p hp'=>by rw[z5b];exact hS.lt p hp') (fun h' hh=>⟨rfl,hh⟩)
  obtain⟨hne,vs,v',hr,hc,hv,hno,rfl,hS'⟩:=q8f hend
  rw[z5b] at he
  refine⟨k, ?_⟩
  have hfz:∀ p∈S,(freezeAll s1.h (z1l vs).obs)[p.1]? =some p.2:=fun p hp'=>by
   rw[q3d]
   ·exact hS' p hp'
   ·rw[List.all_eq_true]
    intro q hq
    have:=hno
    simp only[x3c,List.all_eq_true] at this
    have hq':=this q hq
    simp only[Bool.not_eq_true',List.contains_eq_mem,decide_eq_false_iff_not,List.mem_map] at hq'
    simp only[Bool.not_eq_true',List.contains_eq_mem,decide_eq_false_iff_not,List.mem_singleton]
    exact fun hqp=>hq' ⟨p,hp',hqp.symm⟩
  have hm:z0r (reach h (h.length + 1) [] (idsL az)) 0 h (freezeAll s1.h (z1l vs).obs)=h:=by
   refine x3q fun i hi hc'=> ?_
   rw[Nat.zero_add,List.contains_eq_mem,decide_eq_true_iff] at hc'
   obtain⟨p,hp',rfl⟩:=List.mem_map.1 (hTS i hc')
   rw[hfz p hp',hS p hp']
  have hall:((v'.ids++(List.map (fun i=>(Option.map AObj.ids (freezeAll s1.h (z1l vs).obs)[i]?).getD []) (reach h (h.length + 1) [] (idsL az))).flatten).all fun x=>decide (x < h.length))=true:=by
   rw[hv,List.nil_append,List.all_eq_true]
   intro x hx
   rw[List.mem_flatten] at hx
   obtain⟨l,hl',hxl⟩:=hx
   obtain⟨i,hi,rfl⟩:=List.mem_map.1 hl'
   obtain⟨p,hp',rfl⟩:=List.mem_map.1 (hTS i hi)
   rw[hfz p hp'] at hxl
   simp only[Option.map_some,Option.getD_some] at hxl
   obtain⟨q,hq,rfl⟩:=List.mem_map.1 (hC.closed p hp' x hxl)
   exact decide_eq_true (hS.lt q hq)
  unfold z5f z0q
  simp only[hext,hfn,hp,hl,freezeAll,he,ho,Bool.false_eq_true,if_false,hr,hc,ite_self,hm]
  cases e with
  | exit i=>exact absurd rfl (hne i)
  | norm=>simp only[hall,if_true]
  | ret=>simp only[hall,if_true]
 ·intro x hx
  unfold z0z at hx
  simp only[hext,hfn,hp,hobs,List.map_nil,List.nil_append] at hx
  exact hTS x hx
theorem z1m {f base gg clk:Nat} {args:List AV} {S:List (Nat×AObj)} {h:List AObj} {v:AV} {dst:Option Nat} {os:List AOper} {ts:Tmps} {ks:List Kf} {Q:Post} (hr:Reads S f args v) (hh:Has S h):
  CK Gam base f args h clk .plain dst gg os ts ks Q=O Gam base .plain (gg + 1) os ⟨z8c ts dst v,h,clk⟩ ks Q:=by
 obtain⟨⟨k,hk⟩,_⟩:=hr h clk hh
 unfold CK
 apply propext
 constructor
 ·rintro ⟨k',v',h',c,hc,hq⟩
  have:=q9r hk hc
  simp only[Prod.mk.injEq] at this
  obtain⟨rfl,rfl,rfl⟩:=this
  exact hq
 ·intro hq
  exact⟨k,_,_,_,hk,hq⟩
theorem Pure.reads {S:List (Nat×AObj)} {f:Nat} {args:List AV} {v:AV} (hp:Pure Gam f args v):Reads S f args v:=fun h clk _=>⟨(hp h clk).1,by rw[(hp h clk).2];simp⟩
section
open Sh
set_option maxHeartbeats 0
noncomputable def u8t:AFun:=(fun (a:AFun) (_:Gam.fn 227=some a)=>a) _ (by conv=>lhs;reduce;simp only[Int.reduceOfNat,Int.reduceNegSucc])
theorem g3f:Gam.fn 227=some u8t:=by kernel_rfl
noncomputable def u8u:AFun:=(fun (a:AFun) (_:Gam.fn 260=some a)=>a) _ (by conv=>lhs;reduce;simp only[Int.reduceOfNat,Int.reduceNegSucc])
noncomputable def x3r:ACode:=(fun (a:ACode) (_:fl [] (lp u8u 0)=a)=>a) _ (by conv=>lhs;reduce;simp only[Int.reduceOfNat,Int.reduceNegSucc])
attribute [local irreducible] x3r
noncomputable def y3q:AFun:=(fun (a:AFun) (_:flF [x3r] u8u=a)=>a) _ (by conv=>lhs;reduce;simp only[Int.reduceOfNat,Int.reduceNegSucc])
theorem u4t:Gam.fn 260=some y3q:=by kernel_rfl
noncomputable def q75:AFun:=(fun (a:AFun) (_:Gam.fn 30=some a)=>a) _ (by conv=>lhs;reduce;simp only[Int.reduceOfNat,Int.reduceNegSucc])
noncomputable def k8x:ACode:=(fun (a:ACode) (_:fl [] (lp q75 0)=a)=>a) _ (by conv=>lhs;reduce;simp only[Int.reduceOfNat,Int.reduceNegSucc])
attribute [local irreducible] k8x
noncomputable def u8v:AFun:=(fun (a:AFun) (_:flF [k8x] q75=a)=>a) _ (by conv=>lhs;reduce;simp only[Int.reduceOfNat,Int.reduceNegSucc])
theorem g3g:Gam.fn 30=some u8v:=by kernel_rfl
def k8y:ACode:=(.seq (.region 1 [N 9 (.binOp .lss (.one .int) (.tmp 8) (.tmp 7))] []) (.seq (.cond (.tmp 9) .skip (.exit 0)) (.seq (.block 1 (.seq (.region 2 [M 10 8,M 5 10] []) (.seq (.region 6 [M 11 1,M 12 0,M 13 5,N 14 (.indexAddr none 1 (.tmp 12) (.tmp 13)),L 15 14,N 16 (.binOp .eql (.one .str) (.tmp 11) (.tmp 15))] []) (.cond (.tmp 16) (.seq (.region 2 [M 17 5,M 4 17] []) .ret) .skip)))) (.region 2 [N 18 (.binOp .add (.one .int) (.tmp 8) (I 1)),M 8 18] []))))
def u8w:AFun:=
 {ntmps:=19,nslots:=0,results:=[.tmp 4],byref:=[],owned:=false,
  body:=(.seq (.region 1 [N 4 (.move (I 0))] []) (.seq (.seq (.region 3 [M 6 0,N 7 (.len .sl (.tmp 6)),N 8 (.move (I 0))] []) (.block 0 (.loop k8y))) (.seq (.region 1 [N 4 (.move (I (-1)))] []) .ret)))}
theorem g3h:Gam.fn 29=some u8w:=by kernel_rfl
noncomputable def w2e:AFun:=(fun (a:AFun) (_:Gam.fn 101=some a)=>a) _ (by conv=>lhs;reduce;simp only[Int.reduceOfNat,Int.reduceNegSucc])
theorem g3i:Gam.fn 101=some w2e:=by kernel_rfl
noncomputable def q38:AFun:=(fun (a:AFun) (_:Gam.fn 60=some a)=>a) _ (by conv=>lhs;reduce;simp only[Int.reduceOfNat,Int.reduceNegSucc])
noncomputable def k8z:ACode:=(fun (a:ACode) (_:fl [] (lp q38 0)=a)=>a) _ (by conv=>lhs;reduce;simp only[Int.reduceOfNat,Int.reduceNegSucc])
attribute [local irreducible] k8z
noncomputable def u8x:AFun:=(fun (a:AFun) (_:flF [k8z] q38=a)=>a) _ (by conv=>lhs;reduce;simp only[Int.reduceOfNat,Int.reduceNegSucc])
theorem g3j:Gam.fn 60=some u8x:=by kernel_rfl
noncomputable def q39:AFun:=(fun (a:AFun) (_:Gam.fn 61=some a)=>a) _ (by conv=>lhs;reduce;simp only[Int.reduceOfNat,Int.reduceNegSucc])
noncomputable def k9a:ACode:=(fun (a:ACode) (_:fl [] (lp q39 0)=a)=>a) _ (by conv=>lhs;reduce;simp only[Int.reduceOfNat,Int.reduceNegSucc])
attribute [local irreducible] k9a
noncomputable def u8y:AFun:=(fun (a:AFun) (_:flF [k9a] q39=a)=>a) _ (by conv=>lhs;reduce;simp only[Int.reduceOfNat,Int.reduceNegSucc])
theorem g3k:Gam.fn 61=some u8y:=by kernel_rfl
noncomputable def u8z:AFun:=(fun (a:AFun) (_:Gam.fn 103=some a)=>a) _ (by conv=>lhs;reduce;simp only[Int.reduceOfNat,Int.reduceNegSucc])
theorem g3l:Gam.fn 103=some u8z:=by kernel_rfl
noncomputable def u9a:AFun:=(fun (a:AFun) (_:Gam.fn 166=some a)=>a) _ (by conv=>lhs;reduce;simp only[Int.reduceOfNat,Int.reduceNegSucc])
noncomputable def j5d:ACode:=(fun (a:ACode) (_:fl [] (lp u9a 0)=a)=>a) _ (by conv=>lhs;reduce;simp only[Int.reduceOfNat,Int.reduceNegSucc])
attribute [local irreducible] j5d
noncomputable def y3r:AFun:=(fun (a:AFun) (_:flF [j5d] u9a=a)=>a) _ (by conv=>lhs;reduce;simp only[Int.reduceOfNat,Int.reduceNegSucc])
theorem u4u:Gam.fn 166=some y3r:=by kernel_rfl
noncomputable def u9b:AFun:=(fun (a:AFun) (_:Gam.fn 63=some a)=>a) _ (by conv=>lhs;reduce;simp only[Int.reduceOfNat,Int.reduceNegSucc])
theorem g3m:Gam.fn 63=some u9b:=by kernel_rfl
noncomputable def q61:AFun:=(fun (a:AFun) (_:Gam.fn 104=some a)=>a) _ (by conv=>lhs;reduce;simp only[Int.reduceOfNat,Int.reduceNegSucc])
noncomputable def k9b:ACode:=(fun (a:ACode) (_:fl [] (lp q61 0)=a)=>a) _ (by conv=>lhs;reduce;simp only[Int.reduceOfNat,Int.reduceNegSucc])
attribute [local irreducible] k9b
noncomputable def u9c:AFun:=(fun (a:AFun) (_:flF [k9b] q61=a)=>a) _ (by conv=>lhs;reduce;simp only[Int.reduceOfNat,Int.reduceNegSucc])
theorem g3n:Gam.fn 104=some u9c:=by kernel_rfl
noncomputable def u9d:AFun:=(fun (a:AFun) (_:Gam.fn 167=some a)=>a) _ (by conv=>lhs;reduce;simp only[Int.reduceOfNat,Int.reduceNegSucc])
noncomputable def j5e:ACode:=(fun (a:ACode) (_:fl [] (lp u9d 0)=a)=>a) _ (by conv=>lhs;reduce;simp only[Int.reduceOfNat,Int.reduceNegSucc])
attribute [local irreducible] j5e
noncomputable def y3s:AFun:=(fun (a:AFun) (_:flF [j5e] u9d=a)=>a) _ (by conv=>lhs;reduce;simp only[Int.reduceOfNat,Int.reduceNegSucc])
theorem y3t:Gam.fn 167=some y3s:=by kernel_rfl
noncomputable def y3u:AFun:=(fun (a:AFun) (_:Gam.fn 168=some a)=>a) _ (by conv=>lhs;reduce;simp only[Int.reduceOfNat,Int.reduceNegSucc])
theorem u4v:Gam.fn 168=some y3u:=by kernel_rfl
noncomputable def u9e:AFun:=(fun (a:AFun) (_:Gam.fn 182=some a)=>a) _ (by conv=>lhs;reduce;simp only[Int.reduceOfNat,Int.reduceNegSucc])
noncomputable def x3s:ACode:=(fun (a:ACode) (_:fl [] (lp u9e 0)=a)=>a) _ (by conv=>lhs;reduce;simp only[Int.reduceOfNat,Int.reduceNegSucc])
attribute [local irreducible] x3s
noncomputable def y3v:AFun:=(fun (a:AFun) (_:flF [x3s] u9e=a)=>a) _ (by conv=>lhs;reduce;simp only[Int.reduceOfNat,Int.reduceNegSucc])
theorem u4w:Gam.fn 182=some y3v:=by kernel_rfl
noncomputable def y3w:AFun:=(fun (a:AFun) (_:Gam.fn 171=some a)=>a) _ (by conv=>lhs;reduce;simp only[Int.reduceOfNat,Int.reduceNegSucc])
theorem u4x:Gam.fn 171=some y3w:=by kernel_rfl
noncomputable def y3x:AFun:=(fun (a:AFun) (_:Gam.fn 172=some a)=>a) _ (by conv=>lhs;reduce;simp only[Int.reduceOfNat,Int.reduceNegSucc])
theorem u4y:Gam.fn 172=some y3x:=by kernel_rfl
def k3j:ACode:=(.seq (.region 1 [N 10 (.binOp .lss (.one .int) (.tmp 9) (.tmp 8))] []) (.seq (.cond (.tmp 10) .skip (.exit 0)) (.seq (.block 1 (.seq (.region 4 [N 11 (.indexAddr none 2 (.tmp 7) (.tmp 9)),N 12 (.load (some 2) (.tmp 11)),N 5 (.alloc 1 (.agg [(.str []),(.int .i64 0)])),S 2 5 12] []) (.region 3 [M 13 3,N 14 (.load (some 2) (.tmp 5)),⟨none, .mapUpdate (.agg [.str, .int]) (.tmp 13) (.tmp 14) (.const (.bool true)),none⟩] []))) (.region 2 [N 15 (.binOp .add (.one .int) (.tmp 9) (I 1)),M 9 15] []))))
def y3y:AFun:=
 {ntmps:=17,nslots:=2,results:=[.tmp 2],byref:=[],owned:=false,
  body:=(.seq (.region 1 [N 2 (.move (.const .nilmap))] []) (.seq (.region 2 [N 6 (.makeMap 0),M 3 6] []) (.seq (.seq (.region 3 [M 7 0,N 8 (.len .sl (.tmp 7)),N 9 (.move (I 0))] []) (.block 0 (.loop k3j))) (.seq (.region 2 [M 16 3,M 2 16] []) .ret))))}
theorem u4z:Gam.fn 225=some y3y:=by kernel_rfl
noncomputable def u9f:AFun:=(fun (a:AFun) (_:Gam.fn 226=some a)=>a) _ (by conv=>lhs;reduce;simp only[Int.reduceOfNat,Int.reduceNegSucc])
noncomputable def j5f:ACode:=(fun (a:ACode) (_:fl [] (lp u9f 0)=a)=>a) _ (by conv=>lhs;reduce;simp only[Int.reduceOfNat,Int.reduceNegSucc])
attribute [local irreducible] j5f
noncomputable def y3z:AFun:=(fun (a:AFun) (_:flF [j5f] u9f=a)=>a) _ (by conv=>lhs;reduce;simp only[Int.reduceOfNat,Int.reduceNegSucc])
theorem u5a:Gam.fn 226=some y3z:=by kernel_rfl
noncomputable def y4a:AFun:=(fun (a:AFun) (_:Gam.fn 228=some a)=>a) _ (by conv=>lhs;reduce;simp only[Int.reduceOfNat,Int.reduceNegSucc])
theorem u5b:Gam.fn 228=some y4a:=by kernel_rfl
noncomputable def u9g:AFun:=(fun (a:AFun) (_:Gam.fn 229=some a)=>a) _ (by conv=>lhs;reduce;simp only[Int.reduceOfNat,Int.reduceNegSucc])
noncomputable def j5g:ACode:=(fun (a:ACode) (_:fl [] (lp u9g 0)=a)=>a) _ (by conv=>lhs;reduce;simp only[Int.reduceOfNat,Int.reduceNegSucc])
attribute [local irreducible] j5g
noncomputable def y4b:AFun:=(fun (a:AFun) (_:flF [j5g] u9g=a)=>a) _ (by conv=>lhs;reduce;simp only[Int.reduceOfNat,Int.reduceNegSucc])
theorem u5c:Gam.fn 229=some y4b:=by kernel_rfl
noncomputable def y4c:AFun:=(fun (a:AFun) (_:Gam.fn 230=some a)=>a) _ (by conv=>lhs;reduce;simp only[Int.reduceOfNat,Int.reduceNegSucc])
theorem u5d:Gam.fn 230=some y4c:=by kernel_rfl
noncomputable def y4d:AFun:=(fun (a:AFun) (_:Gam.fn 108=some a)=>a) _ (by conv=>lhs;reduce;simp only[Int.reduceOfNat,Int.reduceNegSucc])
theorem u5e:Gam.fn 108=some y4d:=by kernel_rfl
noncomputable def u9h:AFun:=(fun (a:AFun) (_:Gam.fn 175=some a)=>a) _ (by conv=>lhs;reduce;simp only[Int.reduceOfNat,Int.reduceNegSucc])
noncomputable def x3t:ACode:=(fun (a:ACode) (_:fl [] (lp u9h 0)=a)=>a) _ (by conv=>lhs;reduce;simp only[Int.reduceOfNat,Int.reduceNegSucc])
attribute [local irreducible] x3t
noncomputable def y4e:AFun:=(fun (a:AFun) (_:flF [x3t] u9h=a)=>a) _ (by conv=>lhs;reduce;simp only[Int.reduceOfNat,Int.reduceNegSucc])
theorem u5f:Gam.fn 175=some y4e:=by kernel_rfl
def w2f:AFun:=
 {ntmps:=8,nslots:=1,results:=[.tmp 3],byref:=[],owned:=false,
  body:=(.seq (.region 2 [N 2 (.box 0 (.tmp 0)),N 3 (.move (.const (.bool false)))] []) (.seq (.region 5 [L 4 1,N 5 (.load (some 2) (.tmp 2)),N 6 (.lookup (.agg [.str, .int]) (.bool false) (.tmp 4) (.tmp 5) false),N 7 (.unOp .not (.tmp 6)),M 3 7] []) .ret))}
theorem u5g:Gam.fn 261=some w2f:=by kernel_rfl
noncomputable def y4f:AFun:=(fun (a:AFun) (_:Gam.fn 224=some a)=>a) _ (by conv=>lhs;reduce;simp only[Int.reduceOfNat,Int.reduceNegSucc])
theorem u5h:Gam.fn 224=some y4f:=by kernel_rfl
end
theorem k9c {α:Type} {enc:α→AV} {xs:List α} {S:List (Nat×AObj)} {c:Nat} {cap:List AV} {P:α→Bool} {t:Tip} (hE:∀ x,(enc x).cells.length=1) (hld:∀ x h,z8j h none (.iptr (enc x).cells 0)=some (enc x,h)) (hid:∀ x,(enc x).ids=[]) (hl:xs.length≤2 ^ 20) (hC:Cov S (idsL cap)) (hP:∀ x∈xs,Reads S c (enc x::cap) (.bool (P x))):
  ∃ r:Int,decide (0≤r)=xs.any P∧Reads S 259 [.sl (xs.map enc) t, .fn c cap] (.int .i64 r):=by
 have hC':Cov S (idsL [.sl (xs.map enc) .no, .fn c cap]):=by
  have:idsL [.sl (xs.map enc) .no, .fn c cap]=idsL cap:=by simp[idsL,AV.ids,z0b hid]
  rw[this];exact hC
 have key:∀ n,n≤xs.length→∃ r:Int,decide (0≤r)=(xs.drop (xs.length - n)).any P∧∀ (D L:List AObj) (B clk:Nat) (ks:List Kf) (ts:Tmps) (Q:Post),Has S D→ts 0= .sl (xs.map enc) .no→ts 1= .fn c cap→ts 7= .int .i64 (xs.length:Int)→ts 8= .int .i64 ((xs.length - n:Nat):Int)→
   (∀ ts' clk',ts' 4= .int .i64 r→K Gam B .ret ks ⟨ts',D++L,clk'⟩ Q)→(r= -1→∀ ts' clk',K Gam B (.exit 0) ks ⟨ts',D++L,clk'⟩ Q)→K Gam B (.loop x3o) ks ⟨ts,D++L,clk⟩ Q:=by
  intro n
  induction n with
  | zero=>
    intro _
    refine⟨-1,by simp,fun D L B clk ks ts Q hS h0 h1 h7 h8 _ hx=> ?_⟩
    have e1:decide (((xs.length - 0:Nat):Int) < (xs.length:Int))=false:=by rw[decide_eq_false_iff_not];omega
    refine z2e ?_
    simp only[go_sem,h0,h1,h7,h8,x3o,e1]
    exact hx rfl _ _
  | succ n ih=>
    intro hn
    have hk:xs.length - (n + 1) < xs.length:=by omega
    have hdr:xs.drop (xs.length - (n + 1))=xs[xs.length - (n + 1)]::xs.drop (xs.length - n):=by
     rw[List.drop_eq_getElem_cons hk]
     congr 2
     omega
    have e1:decide (((xs.length - (n + 1):Nat):Int) < (xs.length:Int))=true:=by rw[decide_eq_true_iff];omega
    have hpx:=hP _ (List.getElem_mem hk)
    generalize hxx:xs[xs.length - (n + 1)]=x at hdr hpx
    have hidx:∀ h,z1n h 1 (.sl (xs.map enc) .no) (.int .i64 ((xs.length - (n + 1):Nat):Int))=some (.iptr (enc x).cells 0,h):=fun h=>by
     rw[←hxx]
     exact z5p (by simp[hk]) (hE _)
    have hcx:∀ h,z8j h none (.iptr (enc x).cells 0)=some (enc x,h):=hld x
    cases hpb:P x with
    | true=>
      refine⟨((xs.length - (n + 1):Nat):Int), ?_,fun D L B clk ks ts Q hS h0 h1 h7 h8 hr _=> ?_⟩
      ·rw[hdr,List.any_cons,hpb,Bool.true_or,decide_eq_true_iff];omega
      ·refine z2e ?_
       rw[hpb] at hpx
       simp only[go_sem,z0,z1,z2,z3,reduceCtorEq,↓reduceIte,h0,h1,h7,h8,x3o,e1,hidx,hcx,z1m hpx hS.app]
       exact hr _ _ (by simp[z0c])
    | false=>
      obtain⟨r,h1',h2'⟩:=ih (by omega)
      refine⟨r,by rw[h1',hdr,List.any_cons,hpb,Bool.false_or],fun D L B clk ks ts Q hS h0 h1 h7 h8 hr hx=> ?_⟩
      have e2:IntKind.i64.wrap (((xs.length - (n + 1):Nat):Int) + 1)=((xs.length - n:Nat):Int):=by rw[z0f (by omega) (by omega)];omega
      refine z2e ?_
      rw[hpb] at hpx
      simp only[go_sem,z0,z1,z2,z3,reduceCtorEq,↓reduceIte,h0,h1,h7,h8,x3o,e1,hidx,hcx,z1m hpx hS.app,e2]
      exact h2' D L B _ ks _ Q hS (by simp[z0c,h0]) (by simp[z0c,h1]) (by simp[z0c,h7]) (by simp[z0c]) hr hx
 obtain⟨r,h1,h2⟩:=key xs.length (Nat.le_refl _)
 rw[Nat.sub_self,List.drop_zero] at h1
 refine⟨r,h1,Reads.of rfl u4r rfl rfl rfl rfl (by simpa [cvL,AV.cv] using hC') fun D B clk T hB hS hlt hT=> ?_⟩
 simp only[go_sem,y3k,List.length_map]
 refine h2 D _ B _ _ _ _ hS (by simp[z0c,z3l]) (by simp[z0c,z7l,z3l]) (by simp[z0c]) (by simp[z0c]) (fun ts' clk' q4=> ?_) (fun hr0 ts' clk'=> ?_)
 ·simp only[go_sem,q4]
  rw[z2r]
  exact hT _ hS.app
 ·simp only[go_sem,]
  rw[z2r,←hr0]
  exact hT _ hS.app
theorem k9d {α:Type} {enc:α→AV} {xs:List α} {S:List (Nat×AObj)} {c:Nat} {cap:List AV} {P:α→Bool} {t:Tip} (hE:∀ x,(enc x).cells.length=1) (hld:∀ x h,z8j h none (.iptr (enc x).cells 0)=some (enc x,h)) (hid:∀ x,(enc x).ids=[]) (hl:xs.length≤2 ^ 20) (hC:Cov S (idsL cap)) (hP:∀ x∈xs,Reads S c (enc x::cap) (.bool (P x))):
  Reads S 222 [.sl (xs.map enc) t, .fn c cap] (.bool (xs.any P)):=by
 obtain⟨r,h1,h2⟩:=k9c (t:= .no) hE hld hid hl hC hP
 have hC':Cov S (idsL [.sl (xs.map enc) .no, .fn c cap]):=by
  have:idsL [.sl (xs.map enc) .no, .fn c cap]=idsL cap:=by simp[idsL,AV.ids,z0b hid]
  rw[this];exact hC
 refine Reads.of rfl u4q rfl rfl rfl rfl (by simpa [cvL,AV.cv] using hC') fun D B clk T hB hS hlt hT=> ?_
 simp only[go_sem,y3j,z1m h2 hS.app,h1]
 rw[z0d]
 exact hT _ hS.app
theorem k9e {α:Type} {enc:α→AV} {xs:List α} {S:List (Nat×AObj)} {c:Nat} {cap:List AV} {P:α→Bool} {t:Tip} (hE:∀ x,(enc x).cells.length=2) (hld:∀ x h,z8j h (some 2) (.iptr (enc x).cells 0)=some (enc x,h)) (hid:∀ x,(enc x).ids=[]) (hl:xs.length≤2 ^ 20) (hC:Cov S (idsL cap)) (hP:∀ x∈xs,Reads S c (enc x::cap) (.bool (P x))):
  ∃ r:Int,decide (0≤r)=xs.any P∧Reads S 260 [.sl (xs.map enc) t, .fn c cap] (.int .i64 r):=by
 have hC':Cov S (idsL [.sl (xs.map enc) .no, .fn c cap]):=by
  have:idsL [.sl (xs.map enc) .no, .fn c cap]=idsL cap:=by simp[idsL,AV.ids,z0b hid]
  rw[this];exact hC
 have key:∀ n,n≤xs.length→∃ r:Int,decide (0≤r)=(xs.drop (xs.length - n)).any P∧∀ (D L:List AObj) (B clk:Nat) (ks:List Kf) (ts:Tmps) (Q:Post),Has S D→ts 0= .sl (xs.map enc) .no→ts 1= .fn c cap→ts 7= .int .i64 (xs.length:Int)→ts 8= .int .i64 ((xs.length - n:Nat):Int)→
   (∀ ts' clk',ts' 4= .int .i64 r→K Gam B .ret ks ⟨ts',D++L,clk'⟩ Q)→(r= -1→∀ ts' clk',K Gam B (.exit 0) ks ⟨ts',D++L,clk'⟩ Q)→K Gam B (.loop x3r) ks ⟨ts,D++L,clk⟩ Q:=by
  intro n
  induction n with
  | zero=>
    intro _
    refine⟨-1,by simp,fun D L B clk ks ts Q hS h0 h1 h7 h8 _ hx=> ?_⟩
    have e1:decide (((xs.length - 0:Nat):Int) < (xs.length:Int))=false:=by rw[decide_eq_false_iff_not];omega
    refine z2e ?_
    simp only[go_sem,h0,h1,h7,h8,x3r,e1]
    exact hx rfl _ _
  | succ n ih=>
    intro hn
    have hk:xs.length - (n + 1) < xs.length:=by omega
    have hdr:xs.drop (xs.length - (n + 1))=xs[xs.length - (n + 1)]::xs.drop (xs.length - n):=by
     rw[List.drop_eq_getElem_cons hk]
     congr 2
     omega
    have e1:decide (((xs.length - (n + 1):Nat):Int) < (xs.length:Int))=true:=by rw[decide_eq_true_iff];omega
    have hpx:=hP _ (List.getElem_mem hk)
    generalize hxx:xs[xs.length - (n + 1)]=x at hdr hpx
    have hidx:∀ h,z1n h 2 (.sl (xs.map enc) .no) (.int .i64 ((xs.length - (n + 1):Nat):Int))=some (.iptr (enc x).cells 0,h):=fun h=>by
     rw[←hxx]
     exact z5p (by simp[hk]) (hE _)
    have hcx:∀ h,z8j h (some 2) (.iptr (enc x).cells 0)=some (enc x,h):=hld x
    cases hpb:P x with
    | true=>
      refine⟨((xs.length - (n + 1):Nat):Int), ?_,fun D L B clk ks ts Q hS h0 h1 h7 h8 hr _=> ?_⟩
      ·rw[hdr,List.any_cons,hpb,Bool.true_or,decide_eq_true_iff];omega
      ·refine z2e ?_
       rw[hpb] at hpx
       simp only[go_sem,z0,z1,z2,z3,reduceCtorEq,↓reduceIte,h0,h1,h7,h8,x3r,e1,hidx,hcx,z1m hpx hS.app]
       exact hr _ _ (by simp[z0c])
    | false=>
      obtain⟨r,h1',h2'⟩:=ih (by omega)
      refine⟨r,by rw[h1',hdr,List.any_cons,hpb,Bool.false_or],fun D L B clk ks ts Q hS h0 h1 h7 h8 hr hx=> ?_⟩
      have e2:IntKind.i64.wrap (((xs.length - (n + 1):Nat):Int) + 1)=((xs.length - n:Nat):Int):=by rw[z0f (by omega) (by omega)];omega
      refine z2e ?_
      rw[hpb] at hpx
      simp only[go_sem,z0,z1,z2,z3,reduceCtorEq,↓reduceIte,h0,h1,h7,h8,x3r,e1,hidx,hcx,z1m hpx hS.app,e2]
      exact h2' D L B _ ks _ Q hS (by simp[z0c,h0]) (by simp[z0c,h1]) (by simp[z0c,h7]) (by simp[z0c]) hr hx
 obtain⟨r,h1,h2⟩:=key xs.length (Nat.le_refl _)
 rw[Nat.sub_self,List.drop_zero] at h1
 refine⟨r,h1,Reads.of rfl u4t rfl rfl rfl rfl (by simpa [cvL,AV.cv] using hC') fun D B clk T hB hS hlt hT=> ?_⟩
 simp only[go_sem,y3q,List.length_map]
 refine h2 D _ B _ _ _ _ hS (by simp[z0c,z3l]) (by simp[z0c,z7l,z3l]) (by simp[z0c]) (by simp[z0c]) (fun ts' clk' q4=> ?_) (fun hr0 ts' clk'=> ?_)
 ·simp only[go_sem,q4]
  rw[z2r]
  exact hT _ hS.app
 ·simp only[go_sem,]
  rw[z2r,←hr0]
  exact hT _ hS.app
theorem w2g {α:Type} {enc:α→AV} {xs:List α} {S:List (Nat×AObj)} {c:Nat} {cap:List AV} {P:α→Bool} {t:Tip} (hE:∀ x,(enc x).cells.length=2) (hld:∀ x h,z8j h (some 2) (.iptr (enc x).cells 0)=some (enc x,h)) (hid:∀ x,(enc x).ids=[]) (hl:xs.length≤2 ^ 20) (hC:Cov S (idsL cap)) (hP:∀ x∈xs,Reads S c (enc x::cap) (.bool (P x))):
  Reads S 227 [.sl (xs.map enc) t, .fn c cap] (.bool (xs.any P)):=by
 obtain⟨r,h1,h2⟩:=k9e (t:= .no) hE hld hid hl hC hP
 have hC':Cov S (idsL [.sl (xs.map enc) .no, .fn c cap]):=by
  have:idsL [.sl (xs.map enc) .no, .fn c cap]=idsL cap:=by simp[idsL,AV.ids,z0b hid]
  rw[this];exact hC
 refine Reads.of rfl g3f rfl rfl rfl rfl (by simpa [cvL,AV.cv] using hC') fun D B clk T hB hS hlt hT=> ?_
 simp only[go_sem,u8t,z1m h2 hS.app,h1]
 rw[z0d]
 exact hT _ hS.app
theorem k9f {α:Type} {enc:α→AV} {xs:List α} {S:List (Nat×AObj)} {c:Nat} {cap:List AV} {P:α→Bool} {t:Tip} (hE:∀ x,(enc x).cells.length=3) (hld:∀ x h,z8j h (some 3) (.iptr (enc x).cells 0)=some (enc x,h)) (hid:∀ x,(enc x).ids=[]) (hl:xs.length≤2 ^ 20) (hC:Cov S (idsL cap)) (hP:∀ x∈xs,Reads S c (enc x::cap) (.bool (P x))):
  ∃ r:Int,decide (0≤r)=xs.any P∧Reads S 182 [.sl (xs.map enc) t, .fn c cap] (.int .i64 r):=by
 have hC':Cov S (idsL [.sl (xs.map enc) .no, .fn c cap]):=by
  have:idsL [.sl (xs.map enc) .no, .fn c cap]=idsL cap:=by simp[idsL,AV.ids,z0b hid]
  rw[this];exact hC
 have key:∀ n,n≤xs.length→∃ r:Int,decide (0≤r)=(xs.drop (xs.length - n)).any P∧∀ (D L:List AObj) (B clk:Nat) (ks:List Kf) (ts:Tmps) (Q:Post),Has S D→ts 0= .sl (xs.map enc) .no→ts 1= .fn c cap→ts 7= .int .i64 (xs.length:Int)→ts 8= .int .i64 ((xs.length - n:Nat):Int)→
   (∀ ts' clk',ts' 4= .int .i64 r→K Gam B .ret ks ⟨ts',D++L,clk'⟩ Q)→(r= -1→∀ ts' clk',K Gam B (.exit 0) ks ⟨ts',D++L,clk'⟩ Q)→K Gam B (.loop x3s) ks ⟨ts,D++L,clk⟩ Q:=by
  intro n
  induction n with
  | zero=>
    intro _
    refine⟨-1,by simp,fun D L B clk ks ts Q hS h0 h1 h7 h8 _ hx=> ?_⟩
    have e1:decide (((xs.length - 0:Nat):Int) < (xs.length:Int))=false:=by rw[decide_eq_false_iff_not];omega
    refine z2e ?_
    simp only[go_sem,h0,h1,h7,h8,x3s,e1]
    exact hx rfl _ _
  | succ n ih=>
    intro hn
    have hk:xs.length - (n + 1) < xs.length:=by omega
    have hdr:xs.drop (xs.length - (n + 1))=xs[xs.length - (n + 1)]::xs.drop (xs.length - n):=by
     rw[List.drop_eq_getElem_cons hk]
     congr 2
     omega
    have e1:decide (((xs.length - (n + 1):Nat):Int) < (xs.length:Int))=true:=by rw[decide_eq_true_iff];omega
    have hpx:=hP _ (List.getElem_mem hk)
    generalize hxx:xs[xs.length - (n + 1)]=x at hdr hpx
    have hidx:∀ h,z1n h 3 (.sl (xs.map enc) .no) (.int .i64 ((xs.length - (n + 1):Nat):Int))=some (.iptr (enc x).cells 0,h):=fun h=>by
     rw[←hxx]
     exact z5p (by simp[hk]) (hE _)
    have hcx:∀ h,z8j h (some 3) (.iptr (enc x).cells 0)=some (enc x,h):=hld x
    cases hpb:P x with
    | true=>
      refine⟨((xs.length - (n + 1):Nat):Int), ?_,fun D L B clk ks ts Q hS h0 h1 h7 h8 hr _=> ?_⟩
      ·rw[hdr,List.any_cons,hpb,Bool.true_or,decide_eq_true_iff];omega
      ·refine z2e ?_
       rw[hpb] at hpx
       simp only[go_sem,z0,z1,z2,z3,reduceCtorEq,↓reduceIte,h0,h1,h7,h8,x3s,e1,hidx,hcx,z1m hpx hS.app]
       exact hr _ _ (by simp[z0c])
    | false=>
      obtain⟨r,h1',h2'⟩:=ih (by omega)
      refine⟨r,by rw[h1',hdr,List.any_cons,hpb,Bool.false_or],fun D L B clk ks ts Q hS h0 h1 h7 h8 hr hx=> ?_⟩
      have e2:IntKind.i64.wrap (((xs.length - (n + 1):Nat):Int) + 1)=((xs.length - n:Nat):Int):=by rw[z0f (by omega) (by omega)];omega
      refine z2e ?_
      rw[hpb] at hpx
      simp only[go_sem,z0,z1,z2,z3,reduceCtorEq,↓reduceIte,h0,h1,h7,h8,x3s,e1,hidx,hcx,z1m hpx hS.app,e2]
      exact h2' D L B _ ks _ Q hS (by simp[z0c,h0]) (by simp[z0c,h1]) (by simp[z0c,h7]) (by simp[z0c]) hr hx
 obtain⟨r,h1,h2⟩:=key xs.length (Nat.le_refl _)
 rw[Nat.sub_self,List.drop_zero] at h1
 refine⟨r,h1,Reads.of rfl u4w rfl rfl rfl rfl (by simpa [cvL,AV.cv] using hC') fun D B clk T hB hS hlt hT=> ?_⟩
 simp only[go_sem,y3v,List.length_map]
 refine h2 D _ B _ _ _ _ hS (by simp[z0c,z3l]) (by simp[z0c,z7l,z3l]) (by simp[z0c]) (by simp[z0c]) (fun ts' clk' q4=> ?_) (fun hr0 ts' clk'=> ?_)
 ·simp only[go_sem,q4]
  rw[z2r]
  exact hT _ hS.app
 ·simp only[go_sem,]
  rw[z2r,←hr0]
  exact hT _ hS.app
theorem k9g {α:Type} {enc:α→AV} {xs:List α} {S:List (Nat×AObj)} {c:Nat} {cap:List AV} {P:α→Bool} {t:Tip} (hE:∀ x,(enc x).cells.length=3) (hld:∀ x h,z8j h (some 3) (.iptr (enc x).cells 0)=some (enc x,h)) (hid:∀ x,(enc x).ids=[]) (hl:xs.length≤2 ^ 20) (hC:Cov S (idsL cap)) (hP:∀ x∈xs,Reads S c (enc x::cap) (.bool (P x))):
  Reads S 168 [.sl (xs.map enc) t, .fn c cap] (.bool (xs.any P)):=by
 obtain⟨r,h1,h2⟩:=k9f (t:= .no) hE hld hid hl hC hP
 have hC':Cov S (idsL [.sl (xs.map enc) .no, .fn c cap]):=by
  have:idsL [.sl (xs.map enc) .no, .fn c cap]=idsL cap:=by simp[idsL,AV.ids,z0b hid]
  rw[this];exact hC
 refine Reads.of rfl u4v rfl rfl rfl rfl (by simpa [cvL,AV.cv] using hC') fun D B clk T hB hS hlt hT=> ?_
 simp only[go_sem,y3u,z1m h2 hS.app,h1]
 rw[z0d]
 exact hT _ hS.app
theorem k9h {α:Type} {enc:α→AV} {xs:List α} {S:List (Nat×AObj)} {c:Nat} {cap:List AV} {P:α→Bool} {t:Tip} (hE:∀ x,(enc x).cells.length=2) (hld:∀ x h,z8j h (some 2) (.iptr (enc x).cells 0)=some (enc x,h)) (hid:∀ x,(enc x).ids=[]) (hl:xs.length≤2 ^ 20) (hC:Cov S (idsL cap)) (hP:∀ x∈xs,Reads S c (enc x::cap) (.bool (P x))):
  ∃ r:Int,decide (0≤r)=xs.any P∧Reads S 175 [.sl (xs.map enc) t, .fn c cap] (.int .i64 r):=by
 have hC':Cov S (idsL [.sl (xs.map enc) .no, .fn c cap]):=by
  have:idsL [.sl (xs.map enc) .no, .fn c cap]=idsL cap:=by simp[idsL,AV.ids,z0b hid]
  rw[this];exact hC
 have key:∀ n,n≤xs.length→∃ r:Int,decide (0≤r)=(xs.drop (xs.length - n)).any P∧∀ (D L:List AObj) (B clk:Nat) (ks:List Kf) (ts:Tmps) (Q:Post),Has S D→ts 0= .sl (xs.map enc) .no→ts 1= .fn c cap→ts 7= .int .i64 (xs.length:Int)→ts 8= .int .i64 ((xs.length - n:Nat):Int)→
   (∀ ts' clk',ts' 4= .int .i64 r→K Gam B .ret ks ⟨ts',D++L,clk'⟩ Q)→(r= -1→∀ ts' clk',K Gam B (.exit 0) ks ⟨ts',D++L,clk'⟩ Q)→K Gam B (.loop x3t) ks ⟨ts,D++L,clk⟩ Q:=by
  intro n
  induction n with
  | zero=>
    intro _
    refine⟨-1,by simp,fun D L B clk ks ts Q hS h0 h1 h7 h8 _ hx=> ?_⟩
    have e1:decide (((xs.length - 0:Nat):Int) < (xs.length:Int))=false:=by rw[decide_eq_false_iff_not];omega
    refine z2e ?_
    simp only[go_sem,h0,h1,h7,h8,x3t,e1]
    exact hx rfl _ _
  | succ n ih=>
    intro hn
    have hk:xs.length - (n + 1) < xs.length:=by omega
    have hdr:xs.drop (xs.length - (n + 1))=xs[xs.length - (n + 1)]::xs.drop (xs.length - n):=by
     rw[List.drop_eq_getElem_cons hk]
     congr 2
     omega
    have e1:decide (((xs.length - (n + 1):Nat):Int) < (xs.length:Int))=true:=by rw[decide_eq_true_iff];omega
    have hpx:=hP _ (List.getElem_mem hk)
    generalize hxx:xs[xs.length - (n + 1)]=x at hdr hpx
    have hidx:∀ h,z1n h 2 (.sl (xs.map enc) .no) (.int .i64 ((xs.length - (n + 1):Nat):Int))=some (.iptr (enc x).cells 0,h):=fun h=>by
     rw[←hxx]
     exact z5p (by simp[hk]) (hE _)
    have hcx:∀ h,z8j h (some 2) (.iptr (enc x).cells 0)=some (enc x,h):=hld x
    cases hpb:P x with
    | true=>
      refine⟨((xs.length - (n + 1):Nat):Int), ?_,fun D L B clk ks ts Q hS h0 h1 h7 h8 hr _=> ?_⟩
      ·rw[hdr,List.any_cons,hpb,Bool.true_or,decide_eq_true_iff];omega
      ·refine z2e ?_
       rw[hpb] at hpx
       simp only[go_sem,z0,z1,z2,z3,reduceCtorEq,↓reduceIte,h0,h1,h7,h8,x3t,e1,hidx,hcx,z1m hpx hS.app]
       exact hr _ _ (by simp[z0c])
    | false=>
      obtain⟨r,h1',h2'⟩:=ih (by omega)
      refine⟨r,by rw[h1',hdr,List.any_cons,hpb,Bool.false_or],fun D L B clk ks ts Q hS h0 h1 h7 h8 hr hx=> ?_⟩
      have e2:IntKind.i64.wrap (((xs.length - (n + 1):Nat):Int) + 1)=((xs.length - n:Nat):Int):=by rw[z0f (by omega) (by omega)];omega
      refine z2e ?_
      rw[hpb] at hpx
      simp only[go_sem,z0,z1,z2,z3,reduceCtorEq,↓reduceIte,h0,h1,h7,h8,x3t,e1,hidx,hcx,z1m hpx hS.app,e2]
      exact h2' D L B _ ks _ Q hS (by simp[z0c,h0]) (by simp[z0c,h1]) (by simp[z0c,h7]) (by simp[z0c]) hr hx
 obtain⟨r,h1,h2⟩:=key xs.length (Nat.le_refl _)
 rw[Nat.sub_self,List.drop_zero] at h1
 refine⟨r,h1,Reads.of rfl u5f rfl rfl rfl rfl (by simpa [cvL,AV.cv] using hC') fun D B clk T hB hS hlt hT=> ?_⟩
 simp only[go_sem,y4e,List.length_map]
 refine h2 D _ B _ _ _ _ hS (by simp[z0c,z3l]) (by simp[z0c,z7l,z3l]) (by simp[z0c]) (by simp[z0c]) (fun ts' clk' q4=> ?_) (fun hr0 ts' clk'=> ?_)
 ·simp only[go_sem,q4]
  rw[z2r]
  exact hT _ hS.app
 ·simp only[go_sem,]
  rw[z2r,←hr0]
  exact hT _ hS.app
theorem j5h {α:Type} {enc:α→AV} {xs:List α} {S:List (Nat×AObj)} {c:Nat} {cap:List AV} {P:α→Bool} {t:Tip} (hE:∀ x,(enc x).cells.length=2) (hld:∀ x h,z8j h (some 2) (.iptr (enc x).cells 0)=some (enc x,h)) (hid:∀ x,(enc x).ids=[]) (hl:xs.length≤2 ^ 20) (hC:Cov S (idsL cap)) (hP:∀ x∈xs,Reads S c (enc x::cap) (.bool (P x))):
  Reads S 108 [.sl (xs.map enc) t, .fn c cap] (.bool (xs.any P)):=by
 obtain⟨r,h1,h2⟩:=k9h (t:= .no) hE hld hid hl hC hP
 have hC':Cov S (idsL [.sl (xs.map enc) .no, .fn c cap]):=by
  have:idsL [.sl (xs.map enc) .no, .fn c cap]=idsL cap:=by simp[idsL,AV.ids,z0b hid]
  rw[this];exact hC
 refine Reads.of rfl u5e rfl rfl rfl rfl (by simpa [cvL,AV.cv] using hC') fun D B clk T hB hS hlt hT=> ?_
 simp only[go_sem,y4d,z1m h2 hS.app,h1]
 rw[z0d]
 exact hT _ hS.app
end Go.Proofs.YtdfepmffiampgaaGreatDoor.Am
