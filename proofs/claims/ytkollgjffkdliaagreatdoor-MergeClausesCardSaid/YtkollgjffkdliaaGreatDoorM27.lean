/- Walking: canonical integers are read Walking: integers are multiplied Walking: integers are divided Walking: numbers are generated Walking: numbers are generated Walking: the program's numbers Functio -/
import Derived.Test.YtkollgjffkdliaaGreatDoorM26
open Bool renaming and_eq_true → b8,false_eq_true → y6,not_eq_true' → p7,not_false → j5,not_true → z7
open Int renaming cast_ofNat_Int → z9,natAbs_natCast → m8,reduceEq → z8,reduceNegSucc → z5,reduceOfNat → z4
open List renaming append_nil → u5,cons_append → d4,drop_eq_getElem_cons → p9,drop_zero → d7,exists_cons_of_ne_nil → t5,getElem_mem → j9,length_cons → u6,length_map → z6,length_take → b6,map_cons → k8,map_nil → w7,mem_cons → y3,mem_cons_of_mem → u0,mem_cons_self → v9,mem_of_mem_take → m9,replicate → j1,take_length → u4,take_succ_eq_append_getElem → w8
open Nat renaming eq_zero_or_pos → n6,gcd → y7,le_refl → j8,le_trans → w9,mul_comm → m6,pow_le_pow_right → n7,pow_succ → p8,zero_add → y4
open Option renaming map_some → k6
open Nat renaming reduceBEq → z0,reduceAdd → z1,reduceLeDiff → z2,reduceSub → z3
set_option linter.all false
namespace Go.Proofs.YtkollgjffkdliaaGreatDoor.Am
open Go
noncomputable section
set_option maxRecDepth 100000
theorem j0c {B clk:Nat} {D L:List AObj} {s:List Nat} {g4:Nat} {v0:AV} {ts:Tmps} {ks:List Kf} {Q:Post} (hd:∀ c∈s,48≤c∧c≤57) (hl:s.length≤100000000) (h0:ts 0=v0) (h4:ts 4= .ptr (B + 1) g4 0 0) (h5:ts 5= .str s) (h6:ts 6= .int .i64 0) {g2:Nat} (h2:ts 2= .ptr (B + 0) g2 0 0)
  (hQ:∀ (ts':Tmps) (clk':Nat),ts' 0=v0→ts' 2= .ptr (B + 0) g2 0 0→ts' 4= .ptr (B + 1) g4 0 0→ts' 5= .str s→K Gam B (.exit 0) ks ⟨ts',D++L,clk'⟩ Q):K Gam B (.loop q8a) ks ⟨ts,D++L,clk⟩ Q:=by
 refine z1t (fun m q=>∃ j:Nat,j≤s.length∧m=s.length - j∧q.ts 0=v0∧q.ts 2= .ptr (B + 0) g2 0 0∧q.ts 4= .ptr (B + 1) g4 0 0∧q.ts 5= .str s∧q.ts 6= .int .i64 (j:Int)∧q.h=D++L) s.length ⟨0,by omega,rfl,h0,h2,h4,h5,h6,rfl⟩ ?_
 clear h0 h2 h4 h5 h6
 rintro m ⟨ts,h,clk⟩ P ⟨j,hj,rfl,h0,h2,h4,h5,h6,rfl⟩ hn he hr
 dsimp only at h0 h2 h4 h5 h6
 by_cases hlt:j < s.length
 ·have e1:decide ((j:Int) < (s.length:Int))=true:=by rw[z04];omega
  have hc:=hd s[j] (j9 hlt)
  have e2:decide ((s[j]:Int)=47)=false:=by rw[z03];omega
  have e4:IntKind.i64.wrap ((j:Int) + 1)=((j + 1:Nat):Int):=z0e (by omega) (by omega)
  simp only[go_sem,h0,h2,h4,h5,h6,q8a,e1,q1f hlt,e2,e4]
  exact hn (s.length - (j + 1)) _ (by omega) ⟨j + 1,hlt,rfl,h0,h2,h4,h5,rfl,rfl⟩
 ·have e1:decide ((j:Int) < (s.length:Int))=false:=by rw[z03];omega
  simp only[go_sem,h0,h2,h4,h5,h6,q8a,e1]
  refine he _ _ ?_
  exact hQ _ _ (by simp[z0b,h0]) (by simp[z0b,h2]) (by simp[z0b,h4]) (by simp[z0b,h5])
theorem z2h:dec 1=[49]:=z7c (by omega)
theorem j5y (z:Int):z0i z=z3o (decide (z < 0)) z.natAbs 1:=by
 unfold z0i z3o
 by_cases h:z < 0 <;> simp[h]
theorem q2j {z:Int} (hl:(dec z.natAbs).length≤50000000):Pure Gam 165 [.str (z0i z)] (.tup [q0a (decide (z < 0)) z.natAbs 1, .bool true]):=by
 have hdn:=z1l z.natAbs
 have hdne:=z7x z.natAbs
 have hdig:q8b (dec z.natAbs):=⟨hdne,hdn⟩
 have hp1:Pure Gam 207 [.str [49]] (.bool true):=q6x ⟨by simp,by simp⟩ (by simp)
 have hp2:Pure Gam 208 [.str [49]] (.str [49]):=by have:=q1g (s:=[49]) ⟨by simp,by simp⟩;rwa [show z1n [49]=1 from rfl,z2h] at this
 have hp3:Pure Gam 208 [.str (dec z.natAbs)] (.str (dec z.natAbs)):=by have:=q1g hdig;rwa [z1s] at this
 have hp4:∀ neg:Bool,(neg=true→z.natAbs≠0)→Pure Gam 230 [.bool neg, .str (dec z.natAbs), .str [49]] (q0a neg z.natAbs 1):=fun neg hneg=>by
  have:=x1f (neg:=neg) (a:=z.natAbs) (b:=1) (by omega) hl (by rw[z2h];simp)
  rw[z2h,Nat.gcd_one_right,Nat.div_one,Nat.div_one] at this
  cases neg
  ·exact this
  ·have h0:=hneg rfl
   simpa [h0] using this
 have hp5:∀ neg:Bool,Pure Gam 231 [q0a neg z.natAbs 1] (.str (z3o neg z.natAbs 1)):=fun neg=>q6z hl (by rw[z2h];simp)
 refine Pure.of rfl y4o rfl rfl rfl rfl rfl fun D B clk T hB hT=> ?_
 by_cases hz:z < 0
 ·have he:z0i z=45::dec z.natAbs:=by rw[z0i,if_pos hz]
  have hdz:decide (z < 0)=true:=by simp[hz]
  rw[he]
  simp only[go_sem,k4f,hB,z1a,j5,z6k,z9,x1b,decide_true,decide_false,z8]
  refine⟨by simp[z1b,apart,z0j,z0z,z1d,AOp.isCall,hB], ?_⟩
  refine j0c (v0:= .str (45::dec z.natAbs)) hdn (by omega) rfl rfl rfl rfl rfl ?_
  intro ts2 clk2 q0 q2 q4 q5
  have e1:decide (([49]:List Nat)=[48])=false:=rfl
  have e2:decide (dec z.natAbs=dec z.natAbs)=true:=by simp
  have e3:decide (z3o true z.natAbs 1=45::dec z.natAbs)=true:=by simp[z3o]
  simp only[go_sem,q0,q2,q4,q5,hB,z1a,z0a (q6x hdig (by omega)),z0a hp1,z0a hp2,z0a hp3,z0a (hp4 true (by omega)),z0a (hp5 true),e1,e2,e3,z7,j5,decide_true,decide_false]
  refine⟨by simp[z1b,apart,z0j,z0z,z1d,AOp.isCall,hB], ?_⟩
  rw[z0h rfl rfl]
  rw[hdz] at hT
  have:=hT
  rw[q0a,z2h] at this
  exact this _
 ·have he:z0i z=dec z.natAbs:=by rw[z0i,if_neg hz]
  have hdz:decide (z < 0)=false:=by simp[hz]
  rw[he]
  obtain⟨c,t,hct⟩:=t5 hdne
  have hc:=hdn c (by rw[hct];exact v9)
  have e0:decide (dec z.natAbs=[])=false:=by simp[hdne]
  have e00:∀ h k,q4k h (.str (dec z.natAbs)) (.int k 0)=some (.int .u8 (c:Int),h):=fun h k=>by rw[hct];exact z6k
  have ec:decide ((c:Int)=45)=false:=by rw[z03];omega
  simp only[go_sem,k4f,hB,z1a,j5,e0,e00,ec,z9,decide_true,decide_false,z8]
  refine j0c (v0:= .str (dec z.natAbs)) hdn (by omega) rfl rfl rfl rfl rfl ?_
  intro ts2 clk2 q0 q2 q4 q5
  have e1:decide (([49]:List Nat)=[48])=false:=rfl
  have e2:decide (dec z.natAbs=dec z.natAbs)=true:=by simp
  have e3:decide (z3o false z.natAbs 1=dec z.natAbs)=true:=by simp[z3o]
  simp only[go_sem,q0,q2,q4,q5,hB,z1a,z0a (q6x hdig (by omega)),z0a hp1,z0a hp2,z0a hp3,z0a (hp4 false (by simp)),z0a (hp5 false),e1,e2,e3,z7,j5,decide_true,decide_false]
  refine⟨by simp[z1b,apart,z0j,z0z,z1d,AOp.isCall,hB], ?_⟩
  rw[z0h rfl rfl]
  rw[hdz] at hT
  have:=hT
  rw[q0a,z2h] at this
  exact this _
theorem v0e {x y:Int}:z3o ((!(decide (x < 0)==decide (y < 0))) && !decide (x.natAbs * y.natAbs=0)) (x.natAbs * y.natAbs) 1=z0i (x * y):=by
 rw[j5y,Int.natAbs_mul]
 congr 1
 rw[Bool.eq_iff_iff]
 simp only[b8,p7,z03,z04,beq_eq_false_iff_ne,ne_eq,decide_eq_decide]
 rcases Int.lt_trichotomy x 0 with hx | hx | hx <;> rcases Int.lt_trichotomy y 0 with hy | hy | hy
 ·have:=Int.mul_pos_of_neg_of_neg hx hy
  simp[hx,hy];omega
 ·subst hy;simp
 ·have:=Int.mul_neg_of_neg_of_pos hx hy
  have h2:¬ y < 0:=by omega
  simp[hx,h2,this];exact Nat.ne_of_gt (Nat.mul_pos (by omega) (by omega))
 ·subst hx;simp
 ·subst hx;simp
 ·subst hx;simp
 ·have:=Int.mul_neg_of_pos_of_neg hx hy
  have h2:¬ x < 0:=by omega
  simp[hy,h2,this];exact Nat.ne_of_gt (Nat.mul_pos (by omega) (by omega))
 ·subst hy;simp
 ·have:=Int.mul_pos hx hy
  have h2:¬ x < 0:=by omega
  have h3:¬ y < 0:=by omega
  simp[h2,h3];omega
theorem w3t {x y:Int} (hx:(dec x.natAbs).length≤20000000) (hy:(dec y.natAbs).length≤20000000) (hxy:(dec (x.natAbs * y.natAbs)).length≤50000000):Pure Gam 285 [.str (z0i x), .str (z0i y)] (.str (z0i (x * y))):=by
 refine Pure.of rfl y4m rfl rfl rfl rfl rfl fun D B clk T hB hT=> ?_
 have hp1:Pure Gam 279 [.str [49], .str [49]] (.str [49]):=by
  have:=z9g (a:=1) (b:=1) (by rw[z2h];simp) (by rw[z2h];simp)
  rwa [z2h] at this
 have hp2:∀ neg:Bool,Pure Gam 230 [.bool neg, .str (dec (x.natAbs * y.natAbs)), .str [49]] (q0a (neg && !decide (x.natAbs * y.natAbs=0)) (x.natAbs * y.natAbs) 1):=fun neg=>by
  have:=x1f (neg:=neg) (a:=x.natAbs * y.natAbs) (b:=1) (by omega) hxy (by rw[z2h];simp)
  rwa [z2h,Nat.gcd_one_right,Nat.div_one,Nat.div_one] at this
 have hp3:∀ neg:Bool,Pure Gam 231 [q0a neg (x.natAbs * y.natAbs) 1] (.str (z3o neg (x.natAbs * y.natAbs) 1)):=fun neg=>q6z hxy (by rw[z2h];simp)
 simp only[go_sem,w3b,hB]
 rw[z0a (q2j (by omega))]
 simp only[go_sem,hB,q0a,z2h]
 rw[z0a (q2j (by omega))]
 simp only[go_sem,hB,q0a,z2h,z7,j5,z1a,z0a (z9g (a:=x.natAbs) (b:=y.natAbs) (by omega) (by omega)),z0a hp1]
 rw[z0a (hp2 _)]
 simp only[go_sem,]
 rw[z0a (hp3 _)]
 simp only[go_sem,]
 refine⟨by simp[z1b,apart,z0j,z0z,z1d,AOp.isCall,hB], ?_⟩
 rw[z3h,v0e]
 exact hT _
theorem w3u {x:Int} {d:Nat} (hx:(dec x.natAbs).length≤20000000) (hd:1≤d) (hd4:d≤4):Pure Gam 301 [.str (z0i x), .str (z0i (d:Int))] (.str (z3o (decide (x < 0) && !decide (x.natAbs / y7 x.natAbs d=0)) (x.natAbs / y7 x.natAbs d) (d / y7 x.natAbs d))):=by
 refine Pure.of rfl y4n rfl rfl rfl rfl rfl fun D B clk T hB hT=> ?_
 have hdl:(dec d).length≤1:=z7d (by omega) (by omega)
 have hp1:Pure Gam 279 [.str (dec x.natAbs), .str [49]] (.str (dec x.natAbs)):=by
  have:=z9g (a:=x.natAbs) (b:=1) (by omega) (by rw[z2h];simp)
  rwa [z2h,Nat.mul_one] at this
 have hp2:Pure Gam 279 [.str [49], .str (dec d)] (.str (dec d)):=by
  have:=z9g (a:=1) (b:=d) (by rw[z2h];simp) (by omega)
  rwa [z2h,Nat.one_mul] at this
 have hdn:((d:Int)).natAbs=d:=m8 d
 have hdz:decide ((d:Int) < 0)=false:=by rw[z03];omega
 have hd0:decide (dec d=[48])=false:=by rw[z1r,z03];omega
 have hr:=q2j (z:=(d:Int)) (by rw[hdn];omega)
 rw[hdn,hdz] at hr
 have hle1:(dec (x.natAbs / y7 x.natAbs d)).length≤50000000:=w9 (z5a (Nat.div_le_self _ _)) (by omega)
 have hle2:(dec (d / y7 x.natAbs d)).length≤50000000:=w9 (z5a (Nat.div_le_self _ _)) (by omega)
 simp only[go_sem,w3c,hB]
 rw[z0a (q2j (by omega))]
 simp only[go_sem,hB,q0a,z2h]
 rw[z0a hr]
 simp only[go_sem,hB,q0a,z2h,z7,j5,hd0,z1a,z0a hp1,z0a hp2]
 rw[z0a (x1f (by omega) (by omega) (by omega))]
 simp only[go_sem,]
 rw[z0a (q6z hle1 hle2)]
 simp only[go_sem,]
 refine⟨by simp[z1b,apart,z0j,z0z,z1d,AOp.isCall,hB], ?_⟩
 rw[z3h]
 have:=hT
 rw[Bool.not_not]
 exact this _
section
variable {l:List Int}
def g4x (v:AV):Prop:=∃ z:Int,v= .str (z0i z)∧z.natAbs < 10 ^ 26
theorem v6z (hl:q4y l):GenOk l 305 [] g4x:=by
 refine GenOk.of rfl u4r rfl rfl rfl rfl rfl fun D B p g i clk T hB hs hD hi hR=> ?_
 simp only[go_sem,y3t,hB]
 refine z0s (z3u hl (by decide) (by decide)) hB hs hD hi ?_
 clear hB hD hi
 rintro v D i ⟨r,rfl,hr1,hr2⟩ hB hD hi
 obtain h6 | h7 | h8:r=6∨r=7∨(r≠6∧r≠7):=by omega
 ·subst h6
  simp only[go_sem,z8,decide_true,decide_false]
  refine z0s (z3u hl (by decide) (by decide)) hB hs hD hi ?_
  clear hB hD hi
  rintro v D i ⟨r,rfl,hr3,hr4⟩ hB hD hi
  simp only[go_sem,z0e (n:=r - 1000) (by omega) (by omega)]
  rw[z0a (z8i (by omega) (by omega))]
  simp only[go_sem,]
  rw[z3h]
  exact hR _ _ i (by rw[z0w hB hs];exact hD) hi ⟨_,rfl,by omega⟩
 ·subst h7
  simp only[go_sem,z8,decide_true,decide_false]
  refine z0s (z3u hl (by decide) (by decide)) hB hs hD hi ?_
  clear hB hD hi
  rintro v D i ⟨x,rfl,hr3,hr4⟩ hB hD hi
  simp only[go_sem,z0e (n:=x - 549755813888) (by omega) (by omega)]
  rw[z0a (z8i (by omega) (by omega))]
  simp only[go_sem,]
  refine z0s (z3u hl (by decide) (by decide)) hB hs hD hi ?_
  clear hB hD hi
  rintro v D i ⟨y,rfl,hr5,hr6⟩ hB hD hi
  simp only[go_sem,]
  rw[z0a (z8i (by omega) (by omega))]
  have hx:(x - 549755813888).natAbs < 10 ^ 13:=by omega
  have hy:y.natAbs < 10 ^ 13:=by omega
  have hxy:(x - 549755813888).natAbs * y.natAbs < 10 ^ 26:=Nat.lt_of_le_of_lt (Nat.mul_le_mul (Nat.le_sub_one_of_lt hx) (Nat.le_sub_one_of_lt hy)) (by decide)
  simp only[go_sem,]
  rw[z0a (w3t (w9 (z7d (k:=13) (by omega) hx) (by omega)) (w9 (z7d (k:=13) (by omega) hy) (by omega)) (w9 (z7d (k:=26) (by omega) hxy) (by omega)))]
  simp only[go_sem,]
  rw[z3h]
  exact hR _ _ i (by rw[z0w hB hs];exact hD) hi ⟨_,rfl,by rw[Int.natAbs_mul];exact hxy⟩
 ·have e6:decide (r=6)=false:=by simp[h8.1]
  have e7:decide (r=7)=false:=by simp[h8.2]
  simp only[go_sem,e6,e7]
  refine z0s (z3u hl (by decide) (by decide)) hB hs hD hi ?_
  clear hB hD hi
  rintro v D i ⟨r,rfl,hr3,hr4⟩ hB hD hi
  simp only[go_sem,z0e (n:=r - 4) (by omega) (by omega)]
  rw[z0a (z8i (by omega) (by omega))]
  simp only[go_sem,]
  rw[z3h]
  exact hR _ _ i (by rw[z0w hB hs];exact hD) hi ⟨_,rfl,by omega⟩
end
section
variable {l:List Int}
theorem v0f {z:Int} {d:Nat} (hz:z.natAbs < 10 ^ 26) (hd:1≤d) (hd4:d≤4):RatS (z3o (decide (z < 0) && !decide (z.natAbs / y7 z.natAbs d=0)) (z.natAbs / y7 z.natAbs d) (d / y7 z.natAbs d)):=by
 have hg:0 < y7 z.natAbs d:=Nat.gcd_pos_of_pos_right _ hd
 have hcop:y7 (z.natAbs / y7 z.natAbs d) (d / y7 z.natAbs d)=1:=Nat.gcd_div_gcd_div_gcd_of_pos_right hd
 have h1:z.natAbs / y7 z.natAbs d≤z.natAbs:=Nat.div_le_self _ _
 have h2:d / y7 z.natAbs d≤d:=Nat.div_le_self _ _
 have h3:0 < d / y7 z.natAbs d:=Nat.div_pos (Nat.le_of_dvd hd (Nat.gcd_dvd_right _ _)) hg
 generalize z.natAbs / y7 z.natAbs d=n at *
 generalize d / y7 z.natAbs d=e at *
 obtain⟨w,hw,hwn⟩:∃ w:Int,z0i w=(if (decide (z < 0) && !decide (n=0))=true then [45] else [])++dec n∧w.natAbs=n:=by
  by_cases hneg:(decide (z < 0) && !decide (n=0))=true
  ·simp only[b8,z04,p7,z03] at hneg
   refine⟨-(n:Int), ?_,by omega⟩
   rw[z0i,if_pos (by omega),show (-(n:Int)).natAbs=n by omega]
   simp[hneg.1,hneg.2]
  ·refine⟨(n:Int), ?_,by omega⟩
   rw[if_neg hneg,z0i,if_neg (by omega),m8]
   rfl
 unfold z3o
 rw[←hw]
 by_cases he:e=1
 ·rw[if_pos he,u5]
  exact .inl (q6v (by omega))
 ·rw[if_neg he]
  exact .inr ⟨w,e,rfl,by omega,by omega,by omega,by rw[hwn];exact hcop⟩
theorem y6f (hl:q4y l):GenOk l 306 [] fun v=>∃ a,v= .str a∧RatS a:=by
 refine GenOk.of rfl u4s rfl rfl rfl rfl rfl fun D B p g i clk T hB hs hD hi hR=> ?_
 simp only[go_sem,y3u,hB]
 refine z0s (v6z hl) hB hs hD hi ?_
 clear hB hD hi
 rintro v D i ⟨z,rfl,hz⟩ hB hD hi
 simp only[go_sem,]
 refine z0s (z3u hl (by decide) (by decide)) hB hs hD hi ?_
 clear hB hD hi
 rintro v D i ⟨r,rfl,hr3,hr4⟩ hB hD hi
 obtain⟨k,rfl⟩:∃ k:Nat,r=k:=⟨r.toNat,by omega⟩
 have e1:IntKind.i64.wrap (1 + (k:Int))=((1 + k:Nat):Int):=by rw[z0e (by omega) (by omega)];omega
 simp only[go_sem,e1]
 rw[z0a (z8i (by omega) (by omega))]
 simp only[go_sem,]
 rw[z0a (w3u (w9 (z7d (k:=26) (by omega) hz) (by omega)) (by omega) (by omega))]
 simp only[go_sem,]
 rw[z3h]
 exact hR _ _ i (by rw[z0w hB hs];exact hD) hi ⟨_,rfl,v0f hz (by omega) (by omega)⟩
theorem v7a (hl:q4y l):x2q l:=by
 intro s hs23
 refine GenOk.of rfl u4q rfl rfl rfl rfl rfl fun D B p g i clk T hB hs hD hi hR=> ?_
 rcases hs23 with rfl | rfl
 ·simp only[go_sem,w2f,hB,nat,z8,decide_true,decide_false]
  refine z0s (v6z hl) hB hs hD hi ?_
  clear hB hD hi
  rintro v D i ⟨z,rfl,hz⟩ hB hD hi
  simp only[go_sem,]
  rw[z3h]
  exact hR _ _ i (by rw[z0w hB hs];exact hD) hi ⟨_,rfl, .inl ⟨rfl,q6v (by omega)⟩⟩
 ·simp only[go_sem,w2f,hB,nat,z8,decide_true,decide_false]
  refine z0s (y6f hl) hB hs hD hi ?_
  clear hB hD hi
  rintro v D i ⟨a,rfl,ha⟩ hB hD hi
  simp only[go_sem,]
  rw[z3h]
  exact hR _ _ i (by rw[z0w hB hs];exact hD) hi ⟨_,rfl, .inr ⟨rfl,ha⟩⟩
end
theorem j5z {h:List AObj} {c:Nat} {s:List Nat} {k:IntKind}:slV h none (.str (c::s)) none (some (.int k 1)) none=some (.str [c],h):=by
 simp[slV,z2y,z5b]
theorem j2q {t:List Nat}:Pure Gam 328 [.str (45::t), .str [45]] (.bool true):=by
 refine Pure.of rfl y4z rfl rfl rfl rfl rfl fun D B clk T hB hT=> ?_
 have e1:decide ((1:Int)≤((t.length + 1:Nat):Int))=true:=by rw[z04];omega
 simp only[go_sem,w3h,y4,z9,e1,j5z,decide_true]
 rw[z0d]
 exact hT _
theorem j2r {c:Nat} {t:List Nat} (hc:c≠45):Pure Gam 328 [.str (c::t), .str [45]] (.bool false):=by
 refine Pure.of rfl y4z rfl rfl rfl rfl rfl fun D B clk T hB hT=> ?_
 have e1:decide ((1:Int)≤((t.length + 1:Nat):Int))=true:=by rw[z04];omega
 have e2:decide ([c]=[45])=false:=by simp[hc]
 simp only[go_sem,w3h,y4,z9,e1,j5z,e2]
 rw[z0d]
 exact hT _
theorem x1g {t:List Nat}:Pure Gam 291 [.str (45::t), .str [45]] (.tup [.str t, .bool true]):=by
 have hp:Pure Gam 316 [.str (45::t), .str [45]] (.tup [.str t, .bool true]):=by
  refine Pure.of rfl y4y rfl rfl rfl rfl rfl fun D B clk T hB hT=> ?_
  simp only[go_sem,w3g]
  rw[z0a j2q]
  simp only[go_sem,z7,y4,z9,x1b]
  rw[z0h rfl rfl]
  exact hT _
 refine Pure.of rfl y4x rfl rfl rfl rfl rfl fun D B clk T hB hT=> ?_
 simp only[go_sem,w3f]
 rw[z0a hp]
 simp only[go_sem,]
 rw[z0h rfl rfl]
 exact hT _
theorem x1h {c:Nat} {t:List Nat} (hc:c≠45):Pure Gam 291 [.str (c::t), .str [45]] (.tup [.str (c::t), .bool false]):=by
 have hp:Pure Gam 316 [.str (c::t), .str [45]] (.tup [.str (c::t), .bool false]):=by
  refine Pure.of rfl y4y rfl rfl rfl rfl rfl fun D B clk T hB hT=> ?_
  simp only[go_sem,w3g]
  rw[z0a (j2r hc)]
  simp only[go_sem,j5]
  rw[z0h rfl rfl]
  exact hT _
 refine Pure.of rfl y4x rfl rfl rfl rfl rfl fun D B clk T hB hT=> ?_
 simp only[go_sem,w3f]
 rw[z0a hp]
 simp only[go_sem,]
 rw[z0h rfl rfl]
 exact hT _
section
open Sh
set_option maxHeartbeats 0
def y6g:AFun:=(fun (a:AFun) (_:Gam.fn 157=some a)=>a) _ (by conv=>lhs;reduce;simp only[z4,z5])
theorem u6r:Gam.fn 157=some y6g:=by kernel_rfl
def y6h:AFun:=(fun (a:AFun) (_:Gam.fn 158=some a)=>a) _ (by conv=>lhs;reduce;simp only[z4,z5])
theorem u6s:Gam.fn 158=some y6h:=by kernel_rfl
def y6i:AFun:=(fun (a:AFun) (_:Gam.fn 160=some a)=>a) _ (by conv=>lhs;reduce;simp only[z4,z5])
theorem u6t:Gam.fn 160=some y6i:=by kernel_rfl
def y6j:AFun:=(fun (a:AFun) (_:Gam.fn 226=some a)=>a) _ (by conv=>lhs;reduce;simp only[z4,z5])
theorem u6u:Gam.fn 226=some y6j:=by kernel_rfl
def g0y:AFun:=(fun (a:AFun) (_:Gam.fn 193=some a)=>a) _ (by conv=>lhs;reduce;simp only[z4,z5])
def x4e:ACode:=(fun (a:ACode) (_:fl [] (lp g0y 0)=a)=>a) _ (by conv=>lhs;reduce;simp only[z4,z5])
attribute [local irreducible] x4e
def y6k:AFun:=(fun (a:AFun) (_:flF [x4e] g0y=a)=>a) _ (by conv=>lhs;reduce;simp only[z4,z5])
theorem u6v:Gam.fn 193=some y6k:=by kernel_rfl
def g0z:AFun:=(fun (a:AFun) (_:Gam.fn 192=some a)=>a) _ (by conv=>lhs;reduce;simp only[z4,z5])
def q5y:ACode:=(fun (a:ACode) (_:fl [] (lp g0z 0)=a)=>a) _ (by conv=>lhs;reduce;simp only[z4,z5])
attribute [local irreducible] q5y
def y6l:AFun:=(fun (a:AFun) (_:flF [q5y] g0z=a)=>a) _ (by conv=>lhs;reduce;simp only[z4,z5])
theorem u6w:Gam.fn 192=some y6l:=by kernel_rfl
def y6m:AFun:=(fun (a:AFun) (_:Gam.fn 194=some a)=>a) _ (by conv=>lhs;reduce;simp only[z4,z5])
theorem u6x:Gam.fn 194=some y6m:=by kernel_rfl
def j2s:AFun:=(fun (a:AFun) (_:Gam.fn 189=some a)=>a) _ (by conv=>lhs;reduce;simp only[z4,z5])
theorem k4o:Gam.fn 189=some j2s:=by kernel_rfl
def x2r:AFun:=(fun (a:AFun) (_:Gam.fn 190=some a)=>a) _ (by conv=>lhs;reduce;simp only[z4,z5])
theorem u6y:Gam.fn 190=some x2r:=by kernel_rfl
def q2k:AFun:=(fun (a:AFun) (_:Gam.fn 191=some a)=>a) _ (by conv=>lhs;reduce;simp only[z4,z5])
theorem u6z:Gam.fn 191=some q2k:=by kernel_rfl
def w3v:AFun:=(fun (a:AFun) (_:Gam.fn 245=some a)=>a) _ (by conv=>lhs;reduce;simp only[z4,z5])
theorem y6n:Gam.fn 245=some w3v:=by kernel_rfl
def y6o:AFun:=(fun (a:AFun) (_:Gam.fn 246=some a)=>a) _ (by conv=>lhs;reduce;simp only[z4,z5])
theorem u7a:Gam.fn 246=some y6o:=by kernel_rfl
def w3w:AFun:=(fun (a:AFun) (_:Gam.fn 247=some a)=>a) _ (by conv=>lhs;reduce;simp only[z4,z5])
theorem u7b:Gam.fn 247=some w3w:=by kernel_rfl
def y6p:AFun:=(fun (a:AFun) (_:Gam.fn 248=some a)=>a) _ (by conv=>lhs;reduce;simp only[z4,z5])
theorem u7c:Gam.fn 248=some y6p:=by kernel_rfl
def y6q:AFun:=(fun (a:AFun) (_:Gam.fn 249=some a)=>a) _ (by conv=>lhs;reduce;simp only[z4,z5])
theorem u7d:Gam.fn 249=some y6q:=by kernel_rfl
def y6r:AFun:=(fun (a:AFun) (_:Gam.fn 250=some a)=>a) _ (by conv=>lhs;reduce;simp only[z4,z5])
theorem u7e:Gam.fn 250=some y6r:=by kernel_rfl
def y6s:AFun:=(fun (a:AFun) (_:Gam.fn 293=some a)=>a) _ (by conv=>lhs;reduce;simp only[z4,z5])
theorem u7f:Gam.fn 293=some y6s:=by kernel_rfl
def y6t:AFun:=(fun (a:AFun) (_:Gam.fn 197=some a)=>a) _ (by conv=>lhs;reduce;simp only[z4,z5])
theorem u7g:Gam.fn 197=some y6t:=by kernel_rfl
def g1a:AFun:=(fun (a:AFun) (_:Gam.fn 255=some a)=>a) _ (by conv=>lhs;reduce;simp only[z4,z5])
def x4f:ACode:=(fun (a:ACode) (_:fl [] (lp g1a 0)=a)=>a) _ (by conv=>lhs;reduce;simp only[z4,z5])
attribute [local irreducible] x4f
def y6u:AFun:=(fun (a:AFun) (_:flF [x4f] g1a=a)=>a) _ (by conv=>lhs;reduce;simp only[z4,z5])
theorem u7h:Gam.fn 255=some y6u:=by kernel_rfl
def w3x:AFun:=(fun (a:AFun) (_:Gam.fn 251=some a)=>a) _ (by conv=>lhs;reduce;simp only[z4,z5])
theorem u7i:Gam.fn 251=some w3x:=by kernel_rfl
end
theorem x1i {s:List Nat} {i:Nat} {h:List AObj} {t:Tip} {k:IntKind} (hi:i < s.length):z1m h 1 (.sl (bytes s) t) (.int k (i:Int))=some (.iptr [.int .u8 (s[i]:Int)] 0,h):=z4a (e:= .int .u8 (s[i]:Int)) (by simp[bytes,hi]) rfl
theorem q7a {n:Nat} (hl:(dec n).length≤1000):Pure Gam 292 [.str (dec n)] (.bool true):=by
 refine Pure.of rfl u5n rfl rfl rfl rfl rfl fun D B clk T hB hT=> ?_
 have hd:=z1l n
 have hb:(dec n).map (fun (b:Nat)=>AV.int .u8 (Int.ofNat b))=bytes (dec n):=rfl
 simp only[go_sem,y5a,hb,q5v]
 refine z1t (fun m q=>∃ j:Nat,j≤(dec n).length∧m=(dec n).length - j∧q.ts 0= .str (dec n)∧q.ts 6= .sl (bytes (dec n)) .no∧q.ts 7= .int .i64 ((dec n).length:Int)∧q.ts 8= .int .i64 (j:Int)∧q.h=D++[]) (dec n).length ⟨0,by omega,rfl,rfl,rfl,rfl,rfl,rfl⟩ ?_
 rintro m ⟨ts,h,clk⟩ P ⟨j,hj,rfl,h0,h6,h7,h8,rfl⟩ hn he hr
 dsimp only at h0 h6 h7 h8
 by_cases hlt:j < (dec n).length
 ·have e1:decide ((j:Int) < ((dec n).length:Int))=true:=by rw[z04];omega
  have hc:=hd _ (j9 hlt)
  have e2:decide (((dec n)[j]:Int) < 48)=false:=by rw[z03];omega
  have e3:decide ((57:Int) < ((dec n)[j]:Int))=false:=by rw[z03];omega
  have e4:IntKind.i64.wrap ((j:Int) + 1)=((j + 1:Nat):Int):=z0e (by omega) (by omega)
  simp only[go_sem,h0,h6,h7,h8,j5j,e1,x1i hlt,e2,e3,e4]
  exact hn ((dec n).length - (j + 1)) _ (by omega) ⟨j + 1,hlt,rfl,h0,h6,h7,rfl,rfl⟩
 ·have e1:decide ((j:Int) < ((dec n).length:Int))=false:=by rw[z03];omega
  simp only[go_sem,h0,h6,h7,h8,j5j,e1]
  refine he _ _ ?_
  rcases n6 n with rfl | hpos
  ·have e2:decide (dec 0=[48])=true:=by rw[z1r];rfl
   simp only[go_sem,h0,e2,z7]
   rw[z0d]
   exact hT _
  ·obtain⟨c,t,hct,hc1,hc2⟩:=j5c hpos
   have e2:decide (dec n=[48])=false:=by rw[z1r,z03];omega
   have e3:decide (dec n=[])=false:=by simp[z7x n]
   have e4:∀ h k,q4k h (.str (dec n)) (.int k 0)=some (.int .u8 (c:Int),h):=fun h k=>by rw[hct];exact z6k
   have e5:decide ((c:Int)=48)=false:=by rw[z03];omega
   simp only[go_sem,h0,e2,e3,e4,e5,j5,z7]
   rw[z0d]
   exact hT _
theorem k4p {z:Int} (hl:(dec z.natAbs).length≤1000):Pure Gam 247 [.str (z0i z)] (.bool true):=by
 refine Pure.of rfl u7b rfl rfl rfl rfl rfl fun D B clk T hB hT=> ?_
 by_cases hz:z < 0
 ·have e1:decide (dec z.natAbs=[48])=false:=by rw[z1r,z03];omega
  rw[z0i,if_pos hz]
  simp only[go_sem,w3w]
  rw[z0a x1g]
  simp only[go_sem,]
  rw[z0a (q7a hl)]
  simp only[go_sem,e1,j5]
  rw[z0d]
  exact hT _
 ·obtain⟨c,t,hct⟩:=t5 (z7x z.natAbs)
  have hc:=z1l z.natAbs c (by rw[hct];exact v9)
  have hp:Pure Gam 291 [.str (dec z.natAbs), .str [45]] (.tup [.str (dec z.natAbs), .bool false]):=by rw[hct];exact x1h (by omega)
  rw[z0i,if_neg hz]
  simp only[go_sem,w3w]
  rw[z0a hp]
  simp only[go_sem,]
  rw[z0a (q7a hl)]
  simp only[go_sem,j5]
  rw[z0d]
  exact hT _
theorem Pure.ext {f:Nat} {args:List AV} {sem:List AV→Option AV} {v:AV} (hext:Gam.ext f=some sem) (hobs:z3x args=[]) (hv:sem (cvL args)=some v):Pure Gam f args v:=by
 intro h clk
 constructor
 ·refine⟨0, ?_⟩
  unfold z5c z0o
  simp only[hext,z1p hobs,z4s hobs,List.isEmpty_nil,if_true,hv,k6]
 ·unfold z0y
  simp only[hext,hobs,w7,u5]
def q2l (s:List Nat):Int:=match s.findIdx? (fun (b:Nat)=>decide ((b:Int)=47)) with
 | some i=>(i:Int)
 | none=> -1
theorem w3y {s:List Nat}:Pure Gam 354 [.str s, .int .u8 47] (.int .i64 (q2l s)):=Pure.ext (sem:=x3a) rfl rfl (by simp[cvL,AV.cv,x3a,q2l];rfl)
theorem k4q {c:Nat} {t:List Nat} (hc:c≠47):Pure Gam 334 [.str (c::t), .str [47]] (.int .i64 (q2l (c::t))):=by
 have h292:Pure Gam 344 [.str (c::t), .int .u8 47] (.int .i64 (q2l (c::t))):=by
  refine Pure.of rfl u5p rfl rfl rfl rfl rfl fun D B clk T hB hT=> ?_
  simp only[go_sem,y5g]
  rw[z0a w3y]
  simp only[go_sem,]
  rw[z2o]
  exact hT _
 refine Pure.of rfl u5o rfl rfl rfl rfl rfl fun D B clk T hB hT=> ?_
 have e2:decide ([47]=c::t)=false:=by rw[z03];intro h;injection h with h1 _;exact hc h1.symm
 simp only[go_sem,y5f,y4,z9,z8,decide_true,decide_false,j5,e2,z6k]
 rw[z0a h292]
 simp only[go_sem,]
 rw[z2o]
 exact hT _
theorem j9s {s:List Nat} (hd:∀ c∈s,c≠47):q2l s= -1:=by
 unfold q2l
 rw[List.findIdx?_eq_none_iff.2 fun c hc=>by have:=hd c hc;simp;omega]
theorem v0g {s r:List Nat} (hd:∀ c∈s,c≠47):q2l (s++47::r)=(s.length:Int):=by
 have h:(s++47::r).findIdx? (fun (b:Nat)=>decide ((b:Int)=47))=some s.length:=by
  induction s with
  | nil=>simp[List.findIdx?_cons]
  | cons c s ih=>
    have hc:=hd c v9
    have:=ih fun d hd'=>hd d (u0 _ hd')
    rw[d4,List.findIdx?_cons,this]
    have:decide ((c:Int)=47)=false:=by rw[z03];omega
    simp[this]
 unfold q2l
 rw[h]
theorem j0d {s:List Nat} (hne:s≠[]) (hd:∀ c∈s,c≠47):Pure Gam 322 [.str s, .str [47]] (.tup [.str s, .str [], .bool false]):=by
 obtain⟨c,t,rfl⟩:=t5 hne
 have hp:Pure Gam 329 [.str (c::t), .str [47]] (.tup [.str (c::t), .str [], .bool false]):=by
  refine Pure.of rfl y5e rfl rfl rfl rfl rfl fun D B clk T hB hT=> ?_
  simp only[go_sem,w3l]
  rw[z0a (k4q (hd c v9)),j9s hd]
  simp only[go_sem,Int.reduceLE,decide_false]
  rw[z0h rfl rfl]
  exact hT _
 refine Pure.of rfl y5d rfl rfl rfl rfl rfl fun D B clk T hB hT=> ?_
 simp only[go_sem,w3k]
 rw[z0a hp]
 simp only[go_sem,]
 rw[z0h rfl rfl]
 exact hT _
theorem j9t {s r:List Nat} (hne:s≠[]) (hd:∀ c∈s,c≠47) (hl:s.length≤1000):Pure Gam 322 [.str (s++47::r), .str [47]] (.tup [.str s, .str r, .bool true]):=by
 obtain⟨c,t,hs⟩:=t5 hne
 have hi:Pure Gam 334 [.str (s++47::r), .str [47]] (.int .i64 (s.length:Int)):=by
  rw[←v0g (r:=r) hd,hs]
  exact k4q (hd c (by rw[hs];exact v9))
 have hp:Pure Gam 329 [.str (s++47::r), .str [47]] (.tup [.str s, .str r, .bool true]):=by
  refine Pure.of rfl y5e rfl rfl rfl rfl rfl fun D B clk T hB hT=> ?_
  have e1:decide (0≤(s.length:Int))=true:=by rw[z04];omega
  have e2:IntKind.i64.wrap ((s.length:Int) + 1)=((s.length + 1:Nat):Int):=z0e (by omega) (by omega)
  have e3:(s++47::r).take s.length=s:=List.take_left
  have e4:(s++47::r).drop (s.length + 1)=r:=by rw[List.drop_append,Nat.add_sub_cancel_left,List.drop_of_length_le (by omega)];rfl
  have h1:∀ h,slV h none (.str (s++47::r)) none (some (.int .i64 (s.length:Int))) none=some (.str s,h):=fun h=>by rw[y5r (by simp),e3]
  have h2:∀ h,slV h none (.str (s++47::r)) (some (.int .i64 ((s.length + 1:Nat):Int))) none none=some (.str r,h):=fun h=>by rw[k9t (by simp),e4]
  simp only[go_sem,w3l]
  rw[z0a hi]
  simp only[go_sem,e1,y4,z9,e2,h1,h2]
  rw[z0h rfl rfl]
  exact hT _
 refine Pure.of rfl y5d rfl rfl rfl rfl rfl fun D B clk T hB hT=> ?_
 simp only[go_sem,w3k]
 rw[z0a hp]
 simp only[go_sem,]
 rw[z0h rfl rfl]
 exact hT _
def nl (n:Nat):List Nat:=if n=0 then [] else n % 1000000000::nl (n / 1000000000)
termination_by n
decreasing_by omega
theorem z9h:nl 0=[]:=by rw[nl,if_pos rfl]
theorem x1j {n:Nat} (h:0 < n):nl n=n % 1000000000::nl (n / 1000000000):=by rw[nl,if_neg (by omega)]
theorem x6k {n:Nat} (h:0 < n) (h2:n < 1000000000):nl n=[n]:=by
 rw[x1j h,Nat.mod_eq_of_lt h2,Nat.div_eq_of_lt h2,z9h]
def z7z:List Nat→Nat
 | []=>0
 | x::l=>x + 1000000000 * z7z l
theorem q4r (n:Nat):z7z (nl n)=n:=by
 induction n using Nat.strongRecOn with
 | ind n ih=>
   rcases n6 n with rfl | h
   ·rw[z9h];rfl
   ·rw[x1j h,z7z,ih _ (by omega)]
    omega
theorem w3z (n:Nat):∀ x∈nl n,x < 1000000000:=by
 induction n using Nat.strongRecOn with
 | ind n ih=>
   rcases n6 n with rfl | h
   ·rw[z9h];simp
   ·rw[x1j h]
    intro x hx
    rw[y3] at hx
    rcases hx with rfl | hx
    ·omega
    ·exact ih _ (by omega) x hx
theorem q4s {a b:List Nat}:z7z (a++b)=z7z a + 1000000000 ^ a.length * z7z b:=by
 induction a with
 | nil=>simp[z7z]
 | cons x a ih=>
   simp only[d4,z7z,ih,u6,p8]
   rw[Nat.mul_add,←Nat.mul_assoc,m6 (1000000000 ^ a.length) 1000000000]
   omega
theorem w4a {l:List Nat} (h:∀ x∈l,x < 1000000000):z7z l < 1000000000 ^ l.length:=by
 induction l with
 | nil=>simp[z7z]
 | cons x l ih=>
   have h1:=ih fun y hy=>h y (u0 _ hy)
   have h2:=h x v9
   simp only[z7z,u6,p8]
   omega
theorem w4b {l:List Nat} (h:∀ x∈l,x < 1000000000) (hc:∀ l',l≠l'++[0]):nl (z7z l)=l:=by
 induction l with
 | nil=>exact z9h
 | cons x l ih=>
   have hx:=h x v9
   have hl:nl (z7z l)=l:=ih (fun y hy=>h y (u0 _ hy)) fun l' e=>hc (x::l') (by rw[e];rfl)
   have hpos:0 < x + 1000000000 * z7z l:=by
    rcases n6 (z7z l) with h0 | h0
    ·rw[h0,z9h] at hl
     have:x≠0:=fun e=>hc [] (by rw[e,←hl];rfl)
     omega
    ·omega
   rw[z7z,x1j hpos]
   congr 1
   ·omega
   ·rw[show (x + 1000000000 * z7z l) / 1000000000=z7z l by omega,hl]
theorem y6v {n k:Nat} (h:n < 1000000000 ^ k):(nl n).length≤k:=by
 induction k generalizing n with
 | zero=>
   have:n=0:=by simpa using h
   rw[this,z9h];simp
 | succ k ih=>
   rcases n6 n with rfl | hp
   ·rw[z9h];simp
   ·rw[x1j hp,u6]
    have:=ih (n:=n / 1000000000) (by rw[p8] at h;omega)
    omega
theorem q7b:∀ {os:List (Nat×Nat)} {h:List AObj},(freezeAll h os).length=h.length
 | [],_=>rfl
 | o::os,h=>by
   simp only[freezeAll]
   rw[q7b]
   split
   ·rw[List.length_set]
   ·rfl
theorem j9u {f:Nat} {args az:List AV} {h:List AObj} {clk:Nat} {v:AV} {af:AFun} (hp:Pure Gam f az v) (hext:Gam.ext f=none) (hfn:Gam.fn f=some af) (hb:af.byref=[]) (ho:af.owned=false) (hpa:z1i h [] 0 args=some az) (hcv:cvL az=az) (hobs:z3x az=[]) (hids:idsL az=[]) (hv:v.ids=[]):
  ∃ k,z5c Gam k f args h clk=some (v,if v.flat then h else freezeAll h (z0p [] 0 args),clk):=by
 obtain⟨⟨k,hk⟩,_⟩:=hp (freezeAll h (z0p [] 0 args)) clk
 refine⟨k, ?_⟩
 have hpa2:z1i (freezeAll h (z0p [] 0 args)) [] 0 az=some az:=by rw[z1p hobs,hcv]
 have hl2:z0p [] 0 az=[]:=z4s hobs
 unfold z5c z0o at hk⊢
 simp only[hext,hfn,hb,hpa,hpa2,hl2,hids,reach,freezeAll,q7b,z5f,ho,y6,if_false] at hk⊢
 generalize z3z Gam k h.length af.body _=E at hk⊢
 match E,hk with
 | none,hk=>cases hk
 | some (.exit i,s),hk=>cases hk
 | some (.norm,s),hk=>
   simp only at hk⊢
   generalize z1y s.h s.ts af.results=R at hk⊢
   cases R with
   | none=>cases hk
   | some vs=>
     simp only at hk⊢
     generalize conv s.h (z1j vs)=W at hk⊢
     cases W with
     | none=>cases hk
     | some w=>
       simp only at hk⊢
       have hw:w=v:=by
        revert hk
        generalize List.all _ _=b
        cases b
        ·intro hk
         simp only[y6,if_false,Option.some.injEq,Prod.mk.injEq] at hk
         exact hk.1
        ·intro hk
         simp only[if_true,Option.some.injEq,Prod.mk.injEq] at hk
         exact hk.1
       subst hw
       simp only[hv,List.isEmpty_nil,Bool.and_true,w7,List.flatten_nil,u5,List.all_nil,if_true,z7w]
 | some (.ret,s),hk=>
   simp only at hk⊢
   generalize z1y s.h s.ts af.results=R at hk⊢
   cases R with
   | none=>cases hk
   | some vs=>
     simp only at hk⊢
     generalize conv s.h (z1j vs)=W at hk⊢
     cases W with
     | none=>cases hk
     | some w=>
       simp only at hk⊢
       have hw:w=v:=by
        revert hk
        generalize List.all _ _=b
        cases b
        ·intro hk
         simp only[y6,if_false,Option.some.injEq,Prod.mk.injEq] at hk
         exact hk.1
        ·intro hk
         simp only[if_true,Option.some.injEq,Prod.mk.injEq] at hk
         exact hk.1
       subst hw
       simp only[hv,List.isEmpty_nil,Bool.and_true,w7,List.flatten_nil,u5,List.all_nil,if_true,z7w]
theorem w4c {f base gg clk:Nat} {args az:List AV} {h:List AObj} {v:AV} {af:AFun} {dst:Option Nat} {os:List AOper} {ts:Tmps} {ks:List Kf} {Q:Post} (hp:Pure Gam f az v) (hext:Gam.ext f=none) (hfn:Gam.fn f=some af) (hb:af.byref=[]) (ho:af.owned=false) (hpa:z1i h [] 0 args=some az) (hcv:cvL az=az) (hobs:z3x az=[]) (hids:idsL az=[]) (hv:v.ids=[]):
  CK Gam base f args h clk .plain dst gg os ts ks Q=O Gam base .plain (gg + 1) os ⟨z8t ts dst v,if v.flat then h else freezeAll h (z0p [] 0 args),clk⟩ ks Q:=by
 obtain⟨k,hk⟩:=j9u (clk:=clk) hp hext hfn hb ho hpa hcv hobs hids hv
 unfold CK
 apply propext
 constructor
 ·rintro ⟨k',v',h',c,hc,hq⟩
  have:=x0h hk hc
  simp only[Prod.mk.injEq] at this
  obtain⟨rfl,rfl,rfl⟩:=this
  exact hq
 ·intro hq
  exact⟨k,_,_,_,hk,hq⟩
def z4c (x:Nat):AV:= .int .u32 (x:Int)
theorem z3l {l:List Nat}:idsL (l.map z4c)=[]:=z0c fun _=>rfl
theorem x1k {l:List Nat}:z0n 1 (l.map z4c)=true:=z2m fun _=>⟨rfl,rfl,rfl⟩
theorem x6l {T:List Nat} {l:List Nat} {t:Tip} {R:AV→List AObj→Prop} {h:List AObj}:RV T (some [.sl (l.map z4c) t]) R h=R (.sl (l.map z4c) .no) h:=z2n rfl (by simp[AV.cv,AV.ids,z3l])
theorem x1l {T:List Nat} {l l':List Nat} {t t':Tip} {R:AV→List AObj→Prop} {h:List AObj}:RV T (some [.sl (l.map z4c) t, .sl (l'.map z4c) t']) R h=R (.tup [.sl (l.map z4c) .no, .sl (l'.map z4c) .no]) h:=z0h rfl (by simp[z1j,AV.cv,cvL,AV.ids,idsL,z3l])
theorem q1j {l:List Nat} {i:Nat} {h:List AObj} {t:Tip} {k:IntKind} (hi:i < l.length):z1m h 1 (.sl (l.map z4c) t) (.int k (i:Int))=some (.iptr [.int .u32 (l[i]:Int)] 0,h):=z4a (e:= .int .u32 (l[i]:Int)) (by simp[z4c,hi]) rfl
theorem w4d {l:List Nat} {n:Nat} {h:List AObj} (hn:n≤l.length):slV h (some 1) (.sl (l.map z4c) .no) none (some (.int .i64 (n:Int))) none=some (.sl ((l.take n).map z4c) .no,h):=by
 have hh:z4q 1 (l.map z4c)=true:=by cases l <;> rfl
 have hn':n≤(l.map z4c).length:=by rw[z6];exact hn
 simp[slV,z2y,z5b,hh,hn]
theorem x2s {l:List Nat} {n:Nat} (hn:n < l.length) (h0:l[n]=0):z7z (l.take (n + 1))=z7z (l.take n):=by
 rw[w8 hn,q4s,h0]
 simp[z7z]
theorem j2t {l:List Nat} {t:Tip} (hb:∀ x∈l,x < 1000000000) (hl:l.length≤1000):Pure Gam 332 [.sl (l.map z4c) t] (.sl ((nl (z7z l)).map z4c) .no):=by
 refine Pure.of rfl y5o rfl rfl rfl (az:=[.sl (l.map z4c) .no]) rfl (by simp[idsL,AV.ids,AV.cv,z3l]) fun D B clk T hB hT=> ?_
 simp only[go_sem,y5n,z6]
 refine z1t (fun m q=>m≤l.length∧z7z (l.take m)=z7z l∧q.ts 0= .sl (l.map z4c) .no∧q.ts 3= .int .i64 (m:Int)∧q.h=D++[]) l.length ⟨j8 _,by rw[u4],rfl,rfl,rfl⟩ ?_
 rintro m ⟨ts,h,clk⟩ P ⟨hm,hv,h0,h3,rfl⟩ hn he hr
 dsimp only at h0 h3
 have fin:nl (z7z l)=l.take m→∀ (ts':Tmps) (clk':Nat),ts' 0= .sl (l.map z4c) .no→ts' 3= .int .i64 (m:Int)→P (.exit 0) ⟨ts',D++[],clk'⟩:=by
  intro hc ts' clk' q0 q3
  refine he _ _ ?_
  simp only[go_sem,q0,q3,w4d hm]
  rw[x6l,←hc]
  exact hT _
 rcases n6 m with rfl | hpos
 ·have e1:decide ((0:Int) < 0)=false:=rfl
  simp only[go_sem,h0,h3,x9y,e1]
  exact fin (by rw[←hv,List.take_zero];exact z9h) _ _ h0 h3
 ·have e1:decide ((0:Int) < (m:Int))=true:=by rw[z04];omega
  have e2:IntKind.i64.wrap ((m:Int) - 1)=((m - 1:Nat):Int):=by rw[z0e (by omega) (by omega)];omega
  have hlt:m - 1 < l.length:=by omega
  by_cases hz:l[m - 1]=0
  ·have e3:decide (((l[m - 1]:Nat):Int)=0)=true:=by rw[z04];omega
   simp only[go_sem,h0,h3,x9y,e1,e2,q1j hlt,e3]
   refine hn (m - 1) _ (by omega) ⟨by omega, ?_,h0,rfl,rfl⟩
   rw[←hv,←x2s hlt hz,show m - 1 + 1=m by omega]
  ·have e3:decide (((l[m - 1]:Nat):Int)=0)=false:=by rw[z03];omega
   simp only[go_sem,h0,h3,x9y,e1,e2,q1j hlt,e3]
   refine fin ?_ _ _ h0 h3
   rw[←hv]
   refine w4b (fun x hx=>hb x (m9 hx)) fun l' e=>hz ?_
   have h1:l.take m=l.take (m - 1)++[l[m - 1]]:=by
    have:=w8 hlt
    rwa [show m - 1 + 1=m by omega] at this
   rw[h1] at e
   have:=List.append_inj' e rfl
   simpa using this.2
theorem u64_in {n:Int} (h1:0≤n) (h2:n≤18446744073709551615):IntKind.u64.wrap n=n:=IntWalk.u64_in _ ⟨h1,h2⟩
theorem u32_in {n:Int} (h1:0≤n) (h2:n≤4294967295):IntKind.u32.wrap n=n:=IntWalk.u32_in _ ⟨h1,h2⟩
theorem x4g (l:List Nat) (k:Nat):z7z l=z7z (l.take k) + 1000000000 ^ (l.take k).length * z7z (l.drop k):=by
 rw[←q4s,List.take_append_drop]
theorem j0e {a b:List Nat} {k:Nat} (ha:∀ x∈a,x < 1000000000) (hl:a.length=b.length) (hka:k < a.length) (hkb:k < b.length) (hd:a.drop (k + 1)=b.drop (k + 1)) (h:a[k] < b[k]):z7z a < z7z b:=by
 rw[x4g a k,x4g b k,p9 hka,p9 hkb,hd]
 have h1:(a.take k).length=k:=by simp;omega
 have h2:(b.take k).length=k:=by simp;omega
 have h3:=w4a (l:=a.take k) fun x hx=>ha x (m9 hx)
 rw[h1] at h3
 rw[h1,h2]
 have h4:1000000000 ^ k * (1 + z7z (a[k]::b.drop (k + 1)))≤1000000000 ^ k * z7z (b[k]::b.drop (k + 1)):=Nat.mul_le_mul_left _ (by simp only[z7z];omega)
 rw[Nat.mul_add] at h4
 omega
theorem j0f {x y:Nat} (h:x≤y):(nl x).length≤(nl y).length:=by
 induction y using Nat.strongRecOn generalizing x with
 | ind y ih=>
   rcases n6 x with rfl | hx
   ·rw[z9h];simp
   ·rw[x1j hx,x1j (n:=y) (by omega),u6,u6]
    have:=ih (y / 1000000000) (by omega) (x:=x / 1000000000) (Nat.div_le_div_right h)
    omega
theorem z2r {base:Nat} {b:ACode} {ks:List Kf} {s:St} {Q:Post} (h:K Gam base b (.seq (.loop b)::ks) s Q):K Gam base (.loop b) ks s Q:=by
 rw[←v9u] at h
 have:∀ Q,W Gam base (.seq b (.loop b)) s Q=W Gam base (.loop b) s Q:=fun Q=>by
  apply propext
  constructor
  ·rintro ⟨k,e,s',h,hq⟩
   cases k with
   | zero=>cases h
   | succ k=>exact⟨k + 1,e,s',h,hq⟩
  ·rintro ⟨k,e,s',h,hq⟩
   cases k with
   | zero=>cases h
   | succ k=>exact⟨k + 1,e,s',h,hq⟩
 rw[w7n this] at h
 exact h
theorem z2p {h:List AObj} {K k:IntKind} {n:Int} {xs:List AV} {t:Tip}:z1m h 1 (.sl (.int K n::xs) t) (.int k 0)=some (.iptr [.int K n] 0,h):=z4a (i:=0) (e:= .int K n) rfl rfl
theorem w4e {x y:Nat} (hx:(nl x).length≤1000) (hy:(nl y).length≤1000):∃ r:Int,(r < 0↔x < y)∧(r=0↔x=y)∧Pure Gam 340 [.sl ((nl x).map z4c) .no, .sl ((nl y).map z4c) .no] (.int .i64 r):=by
 have hbx:=w3z x
 have hby:=w3z y
 by_cases hl:(nl x).length=(nl y).length
 ·
  have e1:decide (((nl x).length:Int)=((nl y).length:Int))=true:=by rw[z04];omega
  have key:∀ m,m≤(nl x).length→(nl x).drop m=(nl y).drop m→∃ r:Int,(r < 0↔x < y)∧(r=0↔x=y)∧∀ (D:List AObj) (B clk:Nat) (T:AV→List AObj→Prop) (ks:List Kf) (ts:Tmps) (Q:Post),ts 0= .sl ((nl x).map z4c) .no→ts 1= .sl ((nl y).map z4c) .no→ts 5= .int .i64 ((m:Int) - 1)→
    (∀ ts' clk',ts' 4= .int .i64 r→K Gam B .ret ks ⟨ts',D++[],clk'⟩ Q)→(r=0→∀ ts' clk',K Gam B (.exit 0) ks ⟨ts',D++[],clk'⟩ Q)→K Gam B (.loop x4c) ks ⟨ts,D++[],clk⟩ Q:=by
   intro m
   induction m with
   | zero=>
     intro _ hd
     have hxy:x=y:=by
      rw[d7,d7] at hd
      rw[←q4r x,←q4r y,hd]
     refine⟨0,by omega,by simp[hxy],fun D B clk T ks ts Q h0 h1 h5 _ hx=> ?_⟩
     refine z1t (fun _ q=>q.ts 5= .int .i64 (-1)∧q.h=D++[]) 0 ⟨by simpa using h5,rfl⟩ ?_
     rintro m ⟨ts,h,clk⟩ P ⟨h5,rfl⟩ hn he hr
     dsimp only at h5
     simp only[go_sem,h5,x4c,Int.reduceLE,Int.reduceNeg,decide_false]
     exact he _ _ (hx rfl _ _)
   | succ m ih=>
     intro hm hd
     have hkx:m < (nl x).length:=by omega
     have hky:m < (nl y).length:=by omega
     have e2:decide ((0:Int)≤((m + 1:Nat):Int) - 1)=true:=by rw[z04];omega
     have e3:((m + 1:Nat):Int) - 1=(m:Int):=by omega
     have e4:decide ((0:Int)≤(m:Int))=true:=by rw[z04];omega
     have hxm:=hbx _ (j9 hkx)
     have hym:=hby _ (j9 hky)
     have w1:∀ z:Nat,z < 1000000000→IntKind.i64.wrap (z:Int)=(z:Int):=fun z hz=>z0e (by omega) (by omega)
     have w2:=w1 _ hxm
     have w3:=w1 _ hym
     by_cases hne:(nl x)[m]=(nl y)[m]
     ·obtain⟨r,h1,h2,h3⟩:=ih (by omega) (by rw[p9 hkx,p9 hky,hd,hne])
      refine⟨r,h1,h2,fun D B clk T ks ts Q q0 q1 q5 hr hx=> ?_⟩
      rw[e3] at q5
      have e5:decide (((nl x)[m]:Int)=((nl y)[m]:Int))=true:=by rw[z04];omega
      have e6:IntKind.i64.wrap ((m:Int) - 1)=(m:Int) - 1:=z0e (by omega) (by omega)
      refine z2r ?_
      simp only[go_sem,q0,q1,q5,x4c,e4,q1j hkx,q1j hky,e5,z7,e6]
      exact h3 D B _ T ks _ Q (by simp[z0b,q0]) (by simp[z0b,q1]) (by simp[z0b]) hr hx
     ·refine⟨((nl x)[m]:Int) - ((nl y)[m]:Int), ?_, ?_,fun D B clk T ks ts Q q0 q1 q5 hr hx=> ?_⟩
      ·constructor
       ·intro h
        have:=j0e hbx hl hkx hky hd (by omega)
        rwa [q4r,q4r] at this
       ·intro h
        refine Classical.byContradiction fun hc=> ?_
        have:=j0e hby hl.symm hky hkx hd.symm (by omega)
        rw[q4r,q4r] at this
        omega
      ·constructor
       ·intro h;omega
       ·intro h;subst h;omega
      ·rw[e3] at q5
       have e5:decide (((nl x)[m]:Int)=((nl y)[m]:Int))=false:=by rw[z03];omega
       have e6:IntKind.i64.wrap (((nl x)[m]:Int) - ((nl y)[m]:Int))=((nl x)[m]:Int) - ((nl y)[m]:Int):=z0e (by omega) (by omega)
       refine z2r ?_
       simp only[go_sem,q0,q1,q5,x4c,e4,q1j hkx,q1j hky,e5,j5,w2,w3,e6]
       exact hr _ _ (by simp[z0b])
  obtain⟨r,h1,h2,h3⟩:=key (nl x).length (j8 _) (by rw[List.drop_length,hl,List.drop_length])
  refine⟨r,h1,h2,Pure.of rfl y5p rfl rfl rfl (az:=[.sl ((nl x).map z4c) .no, .sl ((nl y).map z4c) .no]) rfl (by simp[idsL,AV.ids,AV.cv,z3l]) fun D B clk T hB hT=> ?_⟩
  have e2:IntKind.i64.wrap (((nl x).length:Int) - 1)=((nl x).length:Int) - 1:=z0e (by omega) (by omega)
  have e3:IntKind.i64.wrap (((nl y).length:Int) - 1)=((nl x).length:Int) - 1:=by rw[z0e (by omega) (by omega)];omega
  simp only[go_sem,w3n,z6,e1,z7,e2]
  refine h3 D B _ T _ _ _ (by simp[z0b,z3f]) (by simp[z0b,z7m,z3f]) (by simp[z0b]) (fun ts' clk' q4=> ?_) (fun hr0 ts' clk'=> ?_)
  ·simp only[go_sem,q4]
   rw[z2o]
   exact hT _
  ·simp only[go_sem,]
   rw[z2o,←hr0]
   exact hT _
 ·have e1:decide (((nl x).length:Int)=((nl y).length:Int))=false:=by rw[z03];omega
  have e2:IntKind.i64.wrap (((nl x).length:Int) - ((nl y).length:Int))=((nl x).length:Int) - ((nl y).length:Int):=z0e (by omega) (by omega)
  refine⟨((nl x).length:Int) - ((nl y).length:Int), ?_, ?_,Pure.of rfl y5p rfl rfl rfl (az:=[.sl ((nl x).map z4c) .no, .sl ((nl y).map z4c) .no]) rfl (by simp[idsL,AV.ids,AV.cv,z3l]) fun D B clk T hB hT=> ?_⟩
  ·constructor
   ·intro h
    refine Classical.byContradiction fun hc=> ?_
    have:=j0f (x:=y) (y:=x) (by omega)
    omega
   ·intro h
    have:=j0f (x:=x) (y:=y) (by omega)
    omega
  ·constructor
   ·intro h;omega
   ·intro h;subst h;omega
  ·simp only[go_sem,w3n,z6,e1,j5,e2]
   rw[z2o]
   exact hT _
theorem w4f {l:List Nat}:Pure Gam 327 [.sl (l.map z4c) .no] (.bool (decide (l=[1]))):=by
 refine Pure.of rfl u5x rfl rfl rfl (az:=[.sl (l.map z4c) .no]) rfl (by simp[idsL,AV.ids,AV.cv,z3l]) fun D B clk T hB hT=> ?_
 match l with
 | []=>
   simp only[go_sem,k9s,w7,z9,z8,decide_false]
   rw[z0d]
   exact hT _
 | [x]=>
   have e:decide ((x:Int)=1)=decide ([x]=[1]):=by rw[decide_eq_decide];simp;omega
   simp only[go_sem,k9s,z4c,k8,w7,y4,z9,decide_true,z2p,e]
   rw[z0d]
   exact hT _
 | x::y::l=>
   have e:decide (((l.length + 1 + 1:Nat):Int)=1)=false:=by rw[z03];omega
   have e2:decide (x::y::l=[1])=false:=by simp
   rw[e2] at hT
   simp only[go_sem,k9s,z6,k8,e]
   rw[z0d]
   exact hT _
theorem k4r {l:List Nat} {k:Nat} (h:k < l.length):z7z (l.drop k)=l[k] + 1000000000 * z7z (l.drop (k + 1)):=by
 rw[p9 h,z7z]
theorem j9v {D L:List AObj} {B k g n:Nat} {es:List AV} {w:Bool} (hB:D.length=B) (hL:L[k]? =some (.blk g es true w 0)):freezeAll (D++L) [(B + k,n)]=D++L.set k (.blk g es true w n):=by
 have hg:(D++L)[B + k]? =some (.blk g es true w 0):=by rw[z2u hB];exact hL
 simp only[freezeAll,hg,z2a hB,Nat.zero_max]
theorem w4g {la:List Nat} {b:Nat} (ha:∀ x∈la,x < 1000000000) (hl:la.length≤1000) (hb0:0 < b) (hb:b < 1000000000):Pure Gam 341 [.sl (la.map z4c) .no, .int .u32 (b:Int)] (.tup [.sl ((nl (z7z la / b)).map z4c) .no, .sl ((nl (z7z la % b)).map z4c) .no]):=by
 refine Pure.of rfl u6a rfl rfl rfl (az:=[.sl (la.map z4c) .no, .int .u32 (b:Int)]) rfl (by simp[idsL,AV.ids,AV.cv,z3l]) fun D B clk T hB hT=> ?_
 have e0:IntKind.i64.wrap ((la.length:Int) - 1)=(la.length:Int) - 1:=z0e (by omega) (by omega)
 have hms:∀ h s g,msV h s g (.int .u32 0) 4 (.int .i64 (la.length:Int)) (.int .i64 (la.length:Int))=some (.ob s g 0 la.length,h.set s (.blk g (j1 la.length (.int .u32 0)) true false 0)):=fun h s g=>q8c rfl (by omega)
 simp only[go_sem,y5q,z6,hB,hms,e0]
 generalize hgr:clk + 2 + 2=gr
 refine z1t (fun m q=>∃ (i r:Nat) (qs:List Nat),i≤la.length∧m=la.length - i∧qs.length=i∧(∀ x∈qs,x < 1000000000)∧r < b∧z7z (la.drop (la.length - i))=b * z7z qs + r∧q.ts 0= .sl (la.map z4c) .no∧q.ts 1= .int .u32 (b:Int)∧q.ts 6= .ob (B + 0) gr 0 la.length∧q.ts 7= .int .u64 (r:Int)∧q.ts 8= .int .i64 ((la.length:Int) - i - 1)∧
  q.h=D++[.blk gr (j1 (la.length - i) (.int .u32 0)++qs.map z4c) true false 0, .dead]) la.length ?_ ?_
 ·refine⟨0,0,[],by omega,rfl,rfl,by simp,hb0,by simp[z7z],rfl,rfl, ?_,rfl,by simp[z0b],by simp⟩
  subst hgr;rfl
 rintro m ⟨ts,h,clk⟩ P ⟨i,r,qs,hi,rfl,hql,hqb,hr,hw,h0,h1,h6,h7,h8,rfl⟩ hn he hrt
 dsimp only at h0 h1 h6 h7 h8
 by_cases hlt:i < la.length
 ·have hk:la.length - 1 - i < la.length:=by omega
  have e1:(la.length:Int) - i - 1=((la.length - 1 - i:Nat):Int):=by omega
  rw[e1] at h8
  have e2:decide ((0:Int)≤((la.length - 1 - i:Nat):Int))=true:=by rw[z04];omega
  have hx:=ha _ (j9 hk)
  have hdr:=k4r hk
  generalize hxx:la[la.length - 1 - i]=x at hx hdr
  rw[show la.length - 1 - i + 1=la.length - i by omega,hw] at hdr
  have hv:r * 1000000000 + x < b * 1000000000:=by
   have:(r + 1) * 1000000000≤b * 1000000000:=Nat.mul_le_mul_right _ hr
   omega
  have hv2:b * 1000000000 < 1000000000 * 1000000000:=Nat.mul_lt_mul_of_pos_right hb (by omega)
  have hquo:(r * 1000000000 + x) / b < 1000000000:=(Nat.div_lt_iff_lt_mul hb0).2 (by rw[m6 1000000000 b];exact hv)
  have hrem:(r * 1000000000 + x) % b < b:=Nat.mod_lt _ hb0
  have hdm:=Nat.div_add_mod (r * 1000000000 + x) b
  generalize hq:(r * 1000000000 + x) / b=y at hquo hdm
  generalize hz:(r * 1000000000 + x) % b=z at hrem hdm
  have hidx0:∀ h,z1m h 1 (.sl (la.map z4c) .no) (.int .i64 ((la.length - 1 - i:Nat):Int))=some (.iptr [.int .u32 (x:Int)] 0,h):=fun h=>by rw[q1j hk,hxx]
  have w1:IntKind.u64.wrap ((r:Int) * 1000000000)=((r * 1000000000:Nat):Int):=by rw[u64_in (by omega) (by omega)];omega
  have w2:IntKind.u64.wrap (x:Int)=(x:Int):=u64_in (by omega) (by omega)
  have w3:IntKind.u64.wrap (((r * 1000000000:Nat):Int) + (x:Int))=((r * 1000000000 + x:Nat):Int):=by rw[u64_in (by omega) (by omega)];omega
  have w4:IntKind.u64.wrap (b:Int)=(b:Int):=u64_in (by omega) (by omega)
  have w5:IntKind.u32.wrap (IntKind.u64.wrap ((((r * 1000000000 + x:Nat):Int)).tdiv (b:Int)))=(y:Int):=by
   rw[IntWalk.up_tdiv rfl rfl,hq,u64_in (by omega) (by omega),u32_in (by omega) (by omega)]
  have w6:(((r * 1000000000 + x:Nat):Int)).tmod (b:Int)=(z:Int):=by rw[IntWalk.up_tmod rfl rfl,hz]
  have hbn:(b:Int)≠0:=by omega
  have hidx:z1m (D++[.blk gr (j1 (la.length - i) (.int .u32 0)++qs.map z4c) true false 0, .dead]) 1 (.ob (B + 0) gr 0 la.length) (.int .i64 ((la.length - 1 - i:Nat):Int))=some (.ptr (B + 0) gr (la.length - 1 - i) 0,D++[.blk gr (j1 (la.length - i) (.int .u32 0)++qs.map z4c) true false 0, .dead]):=
   q1i (L:=[.blk gr (j1 (la.length - i) (.int .u32 0)++qs.map z4c) true false 0, .dead]) (k:=0) hB rfl (q2g hlt) rfl (by omega)
  have hstore:z5q (D++[.blk gr (j1 (la.length - i) (.int .u32 0)++qs.map z4c) true false 0, .dead]) 1 (.int .u32 (y:Int)) (.ptr (B + 0) gr (la.length - 1 - i) 0)=some (.undef,D++[.blk gr (j1 (la.length - (i + 1)) (.int .u32 0)++(y::qs).map z4c) true false 0, .dead]):=by
   have h:=q0j (K:= .u32) (n:=y) (K':= .u32) (m:=0) (D:=D) (B:=B) (g:=gr) (i:=la.length - 1 - i) (es:=j1 (la.length - i) (AV.int .u32 0)++qs.map z4c) (L:=[AObj.blk gr (j1 (la.length - i) (AV.int .u32 0)++qs.map z4c) true false 0, .dead]) (k:=0) (w:=false) hB rfl (q2g hlt)
   rw[x6h hlt] at h
   exact h
  have e6:IntKind.i64.wrap (((la.length - 1 - i:Nat):Int) - 1)=(la.length:Int) - ((i + 1:Nat):Int) - 1:=by rw[z0e (by omega) (by omega)];omega
  simp only[go_sem,h0,h1,h6,h7,h8,hB,j5o,e2,hidx0,w1,w2,w3,w4,q3q hbn,q1v hbn,w5,w6,hidx,hstore,e6]
  refine hn (la.length - (i + 1)) _ (by omega) ⟨i + 1,z,y::qs,hlt,rfl,by simp[hql], ?_,hrem, ?_,by simp[z0b,h0],by simp[z0b,h1],by simp[z0b,h6],by simp[z0b],by simp[z0b],rfl⟩
  ·intro c hc
   rw[y3] at hc
   rcases hc with rfl | hc
   ·exact hquo
   ·exact hqb c hc
  ·rw[show la.length - (i + 1)=la.length - 1 - i by omega,hdr,z7z]
   have:b * (y + 1000000000 * z7z qs)=b * y + 1000000000 * (b * z7z qs):=by rw[Nat.mul_add,Nat.mul_left_comm]
   rw[this]
   omega
 ·have hin:i=la.length:=by omega
  have e1:decide ((0:Int)≤(la.length:Int) - i - 1)=false:=by rw[z03];omega
  rw[hin,Nat.sub_self,d7] at hw
  have hh:j1 (la.length - i) (AV.int .u32 0)++qs.map z4c=qs.map z4c:=by rw[show la.length - i=0 by omega];rfl
  have hq1:z7z la / b=z7z qs:=by
   rw[hw,Nat.add_comm,Nat.add_mul_div_left _ _ hb0,Nat.div_eq_of_lt hr,y4]
  have hq2:z7z la % b=r:=by
   rw[hw,Nat.add_comm,Nat.add_mul_mod_self_left,Nat.mod_eq_of_lt hr]
  have hp1:=j2t (t:= .no) hqb (by omega)
  have hp2:Pure Gam 332 [.sl [.int .u32 (r:Int)] .full] (.sl ((nl r).map z4c) .no):=by
   have:=j2t (l:=[r]) (t:= .full) (by intro x hx;simp at hx;omega) (by simp)
   simpa [z7z,z4c] using this
  have w1:IntKind.u32.wrap (r:Int)=(r:Int):=u32_in (by omega) (by omega)
  have hpa:z1i (D++[.blk gr (qs.map z4c) true false 0, .dead]) [] 0 [.ob (B + 0) gr 0 la.length]=some [.sl (qs.map z4c) .no]:=by
   have:=q4q (L:=[.blk gr (qs.map z4c) true false 0, .dead]) (k:=0) (g:=gr) (w:=false) (len:=la.length) hB rfl (by simp;omega)
   simp only[z4o] at this
   simp only[z1i,List.contains_nil,y6,if_false,conv,this,k6]
  have hfr:freezeAll (D++[.blk gr (qs.map z4c) true false 0, .dead]) (z0p [] 0 [.ob (B + 0) gr 0 la.length])=D++[.blk gr (qs.map z4c) true false la.length, .dead]:=by
   have:=j9v (L:=[.blk gr (qs.map z4c) true false 0, .dead]) (k:=0) (g:=gr) (w:=false) (n:=0 + la.length) hB rfl
   rw[y4] at this
   simpa [z0p,AV.obs] using this
  have hck:∀ {base gg clk dst os ts ks Q},CK Gam base 332 [.ob (B + 0) gr 0 la.length] (D++[.blk gr (qs.map z4c) true false 0, .dead]) clk .plain dst gg os ts ks Q=O Gam base .plain (gg + 1) os ⟨z8t ts dst (.sl ((nl (z7z qs)).map z4c) .no),D++[.blk gr (qs.map z4c) true false la.length, .dead],clk⟩ ks Q:=by
   intro base gg clk dst os ts ks Q
   rw[w4c hp1 rfl y5o rfl rfl hpa (by simp[cvL,AV.cv]) rfl (by simp[idsL,AV.ids,z3l]) (by simp[AV.ids,z3l])]
   rw[hfr]
   rfl
  rw[hh]
  simp only[go_sem,h0,h1,h6,h7,h8,hB,j5o,e1]
  refine he _ _ ?_
  simp only[go_sem,h0,h1,h6,h7,h8,hB,hck,w1,z0a hp2]
  rw[x1l,←hq1,←hq2]
  exact hT _
theorem k4s {l:List Nat} {x:Nat} {h:List AObj} {t:Tip} {k:IntKind} (hl:l=[x]):z1m h 1 (.sl (l.map z4c) t) (.int k 0)=some (.iptr [.int .u32 (x:Int)] 0,h):=by
 subst hl
 exact z2p
theorem w4h {x y:Nat} (hx:(nl x).length≤1000) (hy0:0 < y) (hy:y < 1000000000):Pure Gam 333 [.sl ((nl x).map z4c) .no, .sl ((nl y).map z4c) .no] (.tup [.sl ((nl (x / y)).map z4c) .no, .sl ((nl (x % y)).map z4c) .no]):=by
 have hny:=x6k hy0 hy
 obtain⟨r,hr1,hr2,hp⟩:=w4e (x:=x) (y:=y) hx (by rw[hny];simp)
 have hq:=w4g (la:=nl x) (b:=y) (w3z x) hx hy0 hy
 rw[q4r] at hq
 refine Pure.of rfl u5z rfl rfl rfl (az:=[.sl ((nl x).map z4c) .no, .sl ((nl y).map z4c) .no]) rfl (by simp[idsL,AV.ids,AV.cv,z3l]) fun D B clk T hB hT=> ?_
 by_cases hlt:x < y
 ·have e1:decide (r < 0)=true:=by rw[z04];omega
  rw[Nat.div_eq_of_lt hlt,Nat.mod_eq_of_lt hlt,z9h] at hT
  simp only[go_sem,w3m,z0a hp,e1]
  have:= @x1l [] [] (nl x) .nil .no T (D++[.dead, .dead, .dead, .dead])
  simp only[w7] at this
  rw[this]
  exact hT _
 ·have e1:decide (r < 0)=false:=by rw[z03];omega
  have e2:decide (((nl y).length:Int)=1)=true:=by rw[hny];rfl
  simp only[go_sem,w3m,z0a hp,e1,z6,e2,k4s hny,z0a hq]
  rw[x1l]
  exact hT _
theorem w4i {x y:Nat} (hx:(nl x).length≤1000) (hy:y < 1000000000):Pure Gam 326 [.sl ((nl x).map z4c) .no, .sl ((nl y).map z4c) .no] (.sl ((nl (y7 x y)).map z4c) .no):=by
 refine Pure.of rfl u5w rfl rfl rfl (az:=[.sl ((nl x).map z4c) .no, .sl ((nl y).map z4c) .no]) rfl (by simp[idsL,AV.ids,AV.cv,z3l]) fun D B clk T hB hT=> ?_
 simp only[go_sem,y5m]
 refine z1t (fun m q=>∃ x':Nat,m < 1000000000∧(nl x').length≤1000∧y7 x' m=y7 x y∧q.ts 0= .sl ((nl x').map z4c) .no∧q.ts 1= .sl ((nl m).map z4c) .no∧q.h=D++[]) y ⟨x,hy,hx,rfl,rfl,rfl,rfl⟩ ?_
 rintro m ⟨ts,h,clk⟩ P ⟨x',hm,hx',hg,h0,h1,rfl⟩ hn he hr
 dsimp only at h0 h1
 rcases n6 m with rfl | hpos
 ·have e1:decide ((0:Int) < ((nl 0).length:Int))=false:=by rw[z9h];rfl
  simp only[go_sem,h0,h1,j5n,z6,e1]
  refine he _ _ ?_
  simp only[go_sem,h0]
  rw[x6l]
  rw[Nat.gcd_zero_right] at hg
  rw[hg]
  exact hT _
 ·have hnm:=x6k hpos hm
  have e1:decide ((0:Int) < ((nl m).length:Int))=true:=by rw[hnm];rfl
  simp only[go_sem,h0,h1,j5n,z6,e1,z0a (w4h hx' hpos hm)]
  refine hn (x' % m) _ (Nat.mod_lt _ hpos) ⟨m,Nat.lt_trans (Nat.mod_lt _ hpos) hm,by rw[hnm];simp, ?_,rfl,rfl,rfl⟩
  rw[←hg,Nat.gcd_comm x' m,Nat.gcd_rec m x',Nat.gcd_comm]
theorem j0g {a b:List Nat}:z1n (a++b)=z1n a * 10 ^ b.length + z1n b:=by
 induction a with
 | nil=>simp[z1n]
 | cons c a ih=>rw[d4,z4l,z4l,ih,List.length_append,Nat.pow_add,Nat.add_mul,Nat.mul_assoc];omega
theorem v0h {B clk:Nat} {H:List AObj} {c:List Nat} {v0 v3 v4:AV} {ts:Tmps} {ks:List Kf} {Q:Post} (hd:∀ x∈c,48≤x∧x≤57) (hl:c.length≤9) (h0:ts 0=v0) (h3:ts 3=v3) (h4:ts 4=v4) (h5:ts 5= .int .u32 0) (h20:ts 20= .sl (bytes c) .no) (h21:ts 21= .int .i64 (c.length:Int)) (h22:ts 22= .int .i64 0)
  (hQ:∀ (ts':Tmps) (clk':Nat),ts' 0=v0→ts' 3=v3→ts' 4=v4→ts' 5= .int .u32 (z1n c:Int)→K Gam B (.exit 2) ks ⟨ts',H,clk'⟩ Q):K Gam B (.loop x4b) ks ⟨ts,H,clk⟩ Q:=by
 refine z1t (fun m q=>∃ j:Nat,j≤c.length∧m=c.length - j∧q.ts 0=v0∧q.ts 3=v3∧q.ts 4=v4∧q.ts 5= .int .u32 (z1n (c.take j):Int)∧q.ts 20= .sl (bytes c) .no∧q.ts 21= .int .i64 (c.length:Int)∧q.ts 22= .int .i64 (j:Int)∧q.h=H) c.length ⟨0,by omega,rfl,h0,h3,h4,h5,h20,h21,h22,rfl⟩ ?_
 clear h0 h3 h4 h5 h20 h21 h22
 rintro m ⟨ts,h,clk⟩ P ⟨j,hj,rfl,h0,h3,h4,h5,h20,h21,h22,rfl⟩ hn he hr
 dsimp only at h0 h3 h4 h5 h20 h21 h22
 by_cases hlt:j < c.length
 ·have e1:decide ((j:Int) < (c.length:Int))=true:=by rw[z04];omega
  have hc:=hd c[j] (j9 hlt)
  have hw:=q0k hlt
  have hb:=z4v (s:=c.take (j + 1)) fun x hx=>hd x (m9 hx)
  have hb2:10 ^ (c.take (j + 1)).length≤10 ^ 9:=n7 (by omega) (by rw[b6];omega)
  have e2:IntKind.u8.wrap ((c[j]:Int) - 48)=((c[j] - 48:Nat):Int):=q3f hc
  have e3:IntKind.u32.wrap ((c[j] - 48:Nat):Int)=((c[j] - 48:Nat):Int):=u32_in (by omega) (by omega)
  have e4:IntKind.u32.wrap ((z1n (c.take j):Int) * 10)=((z1n (c.take j) * 10:Nat):Int):=by rw[u32_in (by omega) (by omega)];omega
  have e5:IntKind.u32.wrap (((z1n (c.take j) * 10:Nat):Int) + ((c[j] - 48:Nat):Int))=(z1n (c.take (j + 1)):Int):=by rw[u32_in (by omega) (by omega),hw];omega
  have e6:IntKind.i64.wrap ((j:Int) + 1)=((j + 1:Nat):Int):=z0e (by omega) (by omega)
  simp only[go_sem,h0,h3,h4,h5,h20,h21,h22,x4b,e1,x1i hlt,e2,e3,e4,e5,e6]
  exact hn (c.length - (j + 1)) _ (by omega) ⟨j + 1,hlt,rfl,h0,h3,h4,rfl,h20,h21,rfl,rfl⟩
 ·have e1:decide ((j:Int) < (c.length:Int))=false:=by rw[z03];omega
  have hjc:j=c.length:=by omega
  rw[hjc,u4] at h5
  simp only[go_sem,h0,h3,h4,h5,h20,h21,h22,x4b,e1]
  refine he _ _ ?_
  exact hQ _ _ (by simp[z0b,h0]) (by simp[z0b,h3]) (by simp[z0b,h4]) (by simp[z0b,h5])
theorem w4j {h:List AObj} {s:List Nat} {i j:Nat} {k k':IntKind} (hij:i≤j) (hj:j≤s.length):slV h none (.str s) (some (.int k (i:Int))) (some (.int k' (j:Int))) none=some (.str ((s.take j).drop i),h):=by
 simp[slV,z2y,z5b,hij,hj]
theorem w4k {s:List Nat} (hd:∀ x∈s,48≤x∧x≤57) (hl:s.length≤1000):Pure Gam 325 [.str s] (.sl ((nl (z1n s)).map z4c) .no):=by
 refine Pure.of rfl u5v rfl rfl rfl rfl rfl fun D B clk T hB hT=> ?_
 simp only[go_sem,y5l,hB]
 refine z1t (fun m q=>∃ (j:Nat) (acc:List Nat) (t:Tip) (a o:AObj),m=(s.length + 9) - 9 * j∧9 * j≤s.length + 8∧acc.length=j∧(∀ x∈acc,x < 1000000000)∧z7z acc=z1n (s.drop (s.length - 9 * j))∧q.ts 0= .str s∧q.ts 3= .sl (acc.map z4c) t∧q.ts 4= .int .i64 ((s.length:Int) - 9 * j)∧q.h=D++[a,o]∧z8x B 1 o t 1) (s.length + 9) ⟨0,[], .nil,_,_,rfl,by omega,rfl,by simp,by simp[z7z,z1n],rfl,rfl,by simp[z0b],rfl, .inl rfl⟩ ?_
 rintro m ⟨ts,h,clk⟩ P ⟨j,acc,t,a,o,rfl,hj,hal,hab,hv,h0,h3,h4,rfl,ht⟩ hn he hr
 dsimp only at h0 h3 h4
 by_cases hlt:9 * j < s.length
 ·have e1:decide ((0:Int) < (s.length:Int) - 9 * j)=true:=by rw[z04];omega
  have e0:(s.length:Int) - 9 * j=((s.length - 9 * j:Nat):Int):=by omega
  have e2:IntKind.i64.wrap ((s.length:Int) - 9 * j - 9)=(s.length:Int) - 9 * j - 9:=z0e (by omega) (by omega)
  have e3:(if (0:Int) > (s.length:Int) - 9 * j - 9 then (0:Int) else (s.length:Int) - 9 * j - 9)=((s.length - 9 * j - 9:Nat):Int):=by
   split <;> omega
  have hsl:∀ h,slV h none (.str s) (some (.int .i64 ((s.length - 9 * j - 9:Nat):Int))) (some (.int .i64 ((s.length:Int) - 9 * j))) none=some (.str ((s.take (s.length - 9 * j)).drop (s.length - 9 * j - 9)),h):=fun h=>by
   rw[e0]
   exact w4j (by omega) (by omega)
  generalize hcc:(s.take (s.length - 9 * j)).drop (s.length - 9 * j - 9)=c at hsl
  have hcl:c.length=s.length - 9 * j - (s.length - 9 * j - 9):=by rw[←hcc];simp
  have hcd:∀ x∈c,48≤x∧x≤57:=fun x hx=>by
   rw[←hcc] at hx
   exact hd x (m9 (List.mem_of_mem_drop hx))
  have hcw:=z4v hcd
  have hcw9:10 ^ c.length≤10 ^ 9:=n7 (by omega) (by omega)
  have hsuf:s.drop (s.length - 9 * j - 9)=c++s.drop (s.length - 9 * j):=by
   rw[←hcc,←List.drop_append_of_le_length (by simp),List.take_append_drop]
  have htb:∀ s':List Nat,(s'.map fun (b:Nat)=>AV.int .u8 (Int.ofNat b))=bytes s':=fun _=>rfl
  have hbl:(bytes c).length=c.length:=by simp[bytes]
  simp only[go_sem,h0,h3,h4,j5m,e1,e2,e3,hsl,htb,hbl]
  refine v0h (v0:= .str s) (v3:= .sl (acc.map z4c) t) (v4:= .int .i64 ((s.length:Int) - 9 * j)) hcd (by omega) (by simp[z0b,h0]) (by simp[z0b,h3]) (by simp[z0b,h4]) (by simp[z0b]) (by simp[z0b]) (by simp[z0b]) (by simp[z0b]) fun ts' clk' q0 q3 q4 q5=> ?_
  simp only[go_sem,q0,q3,q4,q5]
  rw[show [AV.int .u32 (z1n c:Int)]=[z1n c].map z4c from rfl,z0q hB rfl ht x1k x1k (by simp only[z6,List.length_singleton];omega)]
  simp only[go_sem,q0,q3,q4,q5,e2,←List.map_append]
  refine hn (s.length + 9 - 9 * (j + 1)) _ (by omega) ⟨j + 1,acc++[z1n c],_,_,_,rfl,by omega,by simp[hal], ?_, ?_,by simp[z0b,q0],by simp[z0b], ?_,rfl, .inr (.inr ⟨_,rfl,rfl⟩)⟩
  ·intro x hx
   rw[List.mem_append] at hx
   rcases hx with hx | hx
   ·exact hab x hx
   ·simp at hx;omega
  ·rw[show s.length - 9 * (j + 1)=s.length - 9 * j - 9 by omega,hsuf,j0g,q4s,hv,hal]
   have:(s.drop (s.length - 9 * j)).length=9 * j:=by simp;omega
   rw[this,Nat.pow_mul]
   simp only[z7z,Nat.mul_zero,Nat.add_zero]
   rw[m6 (z1n c)]
   have:(10 ^ 9:Nat)=1000000000:=by decide
   rw[this]
   omega
  ·simp only[z0b,z0,cond_true,cond_false]
   congr 1
   omega
 ·have e1:decide ((0:Int) < (s.length:Int) - 9 * j)=false:=by rw[z03];omega
  rw[show s.length - 9 * j=0 by omega,d7] at hv
  have hp:=j2t (l:=acc) (t:=t) hab (by omega)
  rw[hv] at hp
  simp only[go_sem,h0,h3,h4,j5m,e1]
  refine he _ _ ?_
  simp only[go_sem,h3,z0a hp]
  rw[x6l]
  exact hT _
theorem j0h {h:List AObj}:z7i h .neq .iface .nilif .nilif=some (.bool false,h):=(rfl)
theorem y6w {h:List AObj}:z7i h .shl (.one .int) (.int .u64 1) (.int .u64 64)=some (.int .u64 0,h):=by
 have:IntKind.u64.wrap (2 ^ min 64 IntKind.u64.bits)=0:=by decide
 simp[z7i,z4p,q8o,this]
theorem y6x {h:List AObj}:z7i h .shl (.one .int) (.int .u64 1) (.int .u64 63)=some (.int .u64 9223372036854775808,h):=by
 have:IntKind.u64.wrap (2 ^ min 63 IntKind.u64.bits)=9223372036854775808:=by decide
 simp[z7i,z4p,q8o,this]
theorem w4l {n:Nat} (hn:n < 1000000000):Pure Gam 335 [.str (dec n), .int .i64 10, .int .i64 64] (.tup [.int .u64 (n:Int), .nilif]):=by
 refine Pure.of rfl u5s rfl rfl rfl rfl rfl fun D B clk T hB hT=> ?_
 have hd:=z1l n
 have hl:(dec n).length≤9:=z7d (by omega) hn
 have e1:decide (dec n=[])=false:=by simp[z7x n]
 have w1:IntKind.u64.wrap 64=64:=by decide
 have w2:IntKind.u64.wrap (0 - 1)=18446744073709551615:=by decide
 have htb:((dec n).map fun (b:Nat)=>AV.int .u8 (Int.ofNat b))=bytes (dec n):=rfl
 simp only[go_sem,y5j,e1,z8,Int.reduceLE,Int.reduceLT,decide_true,decide_false,w1,y6w,w2,htb,q5v]
 refine z1t (fun m q=>∃ j:Nat,j≤(dec n).length∧m=(dec n).length - j∧q.ts 1= .int .i64 10∧q.ts 8= .bool false∧q.ts 10= .int .u64 1844674407370955162∧q.ts 11= .int .u64 18446744073709551615∧q.ts 12= .bool false∧q.ts 13= .int .u64 (z1n ((dec n).take j):Int)∧q.ts 99= .sl (bytes (dec n)) .no∧q.ts 100= .int .i64 ((dec n).length:Int)∧q.ts 101= .int .i64 (j:Int)∧q.h=D++[]) (dec n).length ⟨0,by omega,rfl,rfl,rfl,rfl,rfl,rfl,rfl,rfl,rfl,rfl,rfl⟩ ?_
 rintro m ⟨ts,h,clk⟩ P ⟨j,hj,rfl,h1,h8,h10,h11,h12,h13,h99,h100,h101,rfl⟩ hn' he hr
 dsimp only at h1 h8 h10 h11 h12 h13 h99 h100 h101
 by_cases hlt:j < (dec n).length
 ·have f1:decide ((j:Int) < ((dec n).length:Int))=true:=by rw[z04];omega
  have hc:=hd _ (j9 hlt)
  have hw:=q0k hlt
  have hb:=z4v (s:=(dec n).take (j + 1)) fun x hx=>hd x (m9 hx)
  have hb2:10 ^ ((dec n).take (j + 1)).length≤10 ^ 9:=n7 (by omega) (by rw[b6];omega)
  generalize hcc:(dec n)[j]=c at hc hw
  have hidx:∀ h,z1m h 1 (.sl (bytes (dec n)) .no) (.int .i64 (j:Int))=some (.iptr [.int .u8 (c:Int)] 0,h):=fun h=>by rw[x1i hlt,hcc]
  have f2:decide ((c:Int)=95)=false:=by rw[z03];omega
  have f3:decide ((48:Int)≤(c:Int))=true:=by rw[z04];omega
  have f4:decide ((c:Int)≤57)=true:=by rw[z04];omega
  have f5:IntKind.u8.wrap ((c:Int) - 48)=((c - 48:Nat):Int):=q3f hc
  have f6:IntKind.u8.wrap 10=10:=by decide
  have f7:decide ((10:Int)≤((c - 48:Nat):Int))=false:=by rw[z03];omega
  have f8:decide ((1844674407370955162:Int)≤(z1n ((dec n).take j):Int))=false:=by rw[z03];omega
  have f9:IntKind.u64.wrap 10=10:=by decide
  have f10:IntKind.u64.wrap ((z1n ((dec n).take j):Int) * 10)=((z1n ((dec n).take j) * 10:Nat):Int):=by rw[u64_in (by omega) (by omega)];omega
  have f11:IntKind.u64.wrap ((c - 48:Nat):Int)=((c - 48:Nat):Int):=u64_in (by omega) (by omega)
  have f12:IntKind.u64.wrap (((z1n ((dec n).take j) * 10:Nat):Int) + ((c - 48:Nat):Int))=(z1n ((dec n).take (j + 1)):Int):=by rw[u64_in (by omega) (by omega),hw];omega
  have f13:decide ((z1n ((dec n).take (j + 1)):Int) < ((z1n ((dec n).take j) * 10:Nat):Int))=false:=by rw[z03];omega
  have f14:decide ((18446744073709551615:Int) < (z1n ((dec n).take (j + 1)):Int))=false:=by rw[z03];omega
  have f15:IntKind.i64.wrap ((j:Int) + 1)=((j + 1:Nat):Int):=z0e (by omega) (by omega)
  simp only[go_sem,h1,h8,h10,h11,h12,h13,h99,h100,h101,j5k,f1,hidx,f2,f3,f4,f5,f6,f7,f8,f9,f10,f11,f12,f13,f14,f15]
  exact hn' ((dec n).length - (j + 1)) _ (by omega) ⟨j + 1,hlt,rfl,h1,h8,h10,h11,h12,rfl,h99,h100,rfl,rfl⟩
 ·have f1:decide ((j:Int) < ((dec n).length:Int))=false:=by rw[z03];omega
  have hjc:j=(dec n).length:=by omega
  rw[hjc,u4,z1s] at h13
  simp only[go_sem,h1,h8,h10,h11,h12,h13,h99,h100,h101,j5k,f1]
  refine he _ _ ?_
  simp only[go_sem,h12,h13]
  rw[z0h rfl rfl]
  exact hT _
theorem w4m {n:Nat} (hn:n < 1000000000):Pure Gam 330 [.str (dec n), .int .i64 10, .int .i64 64] (.tup [.int .i64 (n:Int), .nilif]):=by
 refine Pure.of rfl u5r rfl rfl rfl rfl rfl fun D B clk T hB hT=> ?_
 obtain⟨c,t,hct⟩:=t5 (z7x n)
 have hc:=z1l n c (by rw[hct];exact v9)
 have e1:decide (dec n=[])=false:=by simp[z7x n]
 have e2:∀ h k,q4k h (.str (dec n)) (.int k 0)=some (.int .u8 (c:Int),h):=fun h k=>by rw[hct];exact z6k
 have e3:decide ((c:Int)=43)=false:=by rw[z03];omega
 have e4:decide ((c:Int)=45)=false:=by rw[z03];omega
 have e5:IntKind.i64.wrap (64 - 1)=63:=by decide
 have e6:IntKind.u64.wrap 63=63:=by decide
 have e7:decide ((9223372036854775808:Int)≤(n:Int))=false:=by rw[z03];omega
 have e8:IntKind.i64.wrap (n:Int)=(n:Int):=z0e (by omega) (by omega)
 simp only[go_sem,y5i,e1,e2,e3,e4,z0a (w4l hn),j0h,z8,decide_false,e5,e6,y6x,j5,e7,e8]
 rw[z0h rfl rfl]
 exact hT _
theorem x6m {n:Nat} (hn:n < 1000000000):Pure Gam 323 [.str (dec n), .int .i64 10, .int .i64 64] (.tup [.int .i64 (n:Int), .nilif]):=by
 refine Pure.of rfl u5q rfl rfl rfl rfl rfl fun D B clk T hB hT=> ?_
 simp only[go_sem,y5h,z0a (w4m hn),j0h]
 rw[z0h rfl rfl]
 exact hT _
theorem w4n {a b:Nat} (hb:b < 2 ^ 62):Pure Gam 324 [.int .i64 (a:Int), .int .i64 (b:Int)] (.int .i64 (y7 a b:Int)):=by
 refine Pure.of rfl u5t rfl rfl rfl rfl rfl fun D B clk T hB hT=> ?_
 simp only[go_sem,y5k]
 refine z1t (fun m q=>∃ x:Nat,m < 2 ^ 62∧y7 x m=y7 a b∧q.ts 0= .int .i64 (x:Int)∧q.ts 1= .int .i64 (m:Int)∧q.h=D++[]) b ⟨a,hb,rfl,rfl,rfl,rfl⟩ ?_
 rintro m ⟨ts,h,clk⟩ P ⟨x,hm,hg,h0,h1,rfl⟩ hn he hr
 dsimp only at h0 h1
 rcases n6 m with rfl | hpos
 ·simp only[go_sem,h0,h1,j5l,decide_true,z7]
  refine he _ _ ?_
  simp only[go_sem,h0]
  rw[z2o]
  rw[Nat.gcd_zero_right] at hg
  rw[hg]
  exact hT _
 ·have e1:decide ((m:Int)=0)=false:=by rw[z03];omega
  have e2:((x:Int)).tmod (m:Int)=((x % m:Nat):Int):=IntWalk.up_tmod rfl rfl
  simp only[go_sem,h0,h1,j5l,e1,j5,q1v (b:=(m:Int)) (by omega),e2]
  have hlt:=Nat.mod_lt x hpos
  refine hn (x % m) _ hlt ⟨m,by omega, ?_,rfl,rfl,rfl⟩
  rw[←hg,Nat.gcd_comm x m,Nat.gcd_rec m x,Nat.gcd_comm]
def j0i (n:Nat):Option Nat→List Nat
 | none=>dec n
 | some d=>dec n++47::dec d
def x6n (neg:Bool) (n:Nat) (d:Option Nat):List Nat:=if neg then 45::j0i n d else j0i n d
structure NumT (neg:Bool) (n:Nat) (d:Option Nat):Prop where
 pos:neg=true→n≠0
 len:n < 10 ^ 40
 den:∀ k,d=some k→2≤k∧k≤4∧y7 n k=1
theorem RatS.text {a:List Nat} (h:RatS a):∃ neg n d,a=x6n neg n d∧NumT neg n d:=by
 rcases h with ⟨z,rfl,h⟩ | ⟨z,d,rfl,h,h2,h4,hg⟩
 ·refine⟨decide (z < 0),z.natAbs,none, ?_,⟨fun hz=> ?_,h,by simp⟩⟩
  ·unfold z0i x6n j0i
   by_cases hz:z < 0 <;> simp[hz]
  ·simp at hz;omega
 ·refine⟨decide (z < 0),z.natAbs,some d, ?_,⟨fun hz=> ?_,h,fun k hk=>by injection hk with hk;subst hk;exact⟨h2,h4,hg⟩⟩⟩
  ·unfold z0i x6n j0i
   by_cases hz:z < 0 <;> simp[hz]
  ·simp at hz;omega
def w4o:Option Nat→List Nat
 | none=>[]
 | some d=>dec d
theorem y6y {n:Nat}:∀ c∈dec n,c≠47:=fun c hc=>by have:=z1l n c hc;omega
theorem x6o {neg:Bool} {n:Nat} {d:Option Nat}:Pure Gam 291 [.str (x6n neg n d), .str [45]] (.tup [.str (j0i n d), .bool neg]):=by
 cases neg
 ·obtain⟨c,t,hct⟩:=t5 (z7x n)
  have hc:=z1l n c (by rw[hct];exact v9)
  have hb:∃ t',j0i n d=c::t':=by cases d <;> simp[j0i,hct]
  obtain⟨t',ht⟩:=hb
  simp only[x6n,y6,if_false,ht]
  exact x1h (by omega)
 ·exact x1g
theorem x6p {n:Nat} {d:Option Nat} (hl:(dec n).length≤1000):Pure Gam 322 [.str (j0i n d), .str [47]] (.tup [.str (dec n), .str (w4o d), .bool d.isSome]):=by
 cases d
 ·exact j0d (z7x n) y6y
 ·exact j9t (z7x n) y6y hl
theorem x1m {d:Nat} (h:d≤4):(dec d).length≤1:=by rw[z7c (by omega)];simp
theorem j2u {neg:Bool} {n:Nat} {d:Option Nat} (hl:(dec n).length≤1000) (h9:9 < (dec n).length):Pure Gam 314 [.str (x6n neg n d)] (.tup [.agg [.int .i64 0, .int .i64 0], .bool false]):=by
 refine Pure.of rfl y5b rfl rfl rfl rfl rfl fun D B clk T hB hT=> ?_
 have e1:decide ((9:Int) < ((dec n).length:Int))=true:=by rw[z04];omega
 simp only[go_sem,w3i,hB,z0a x6o,z0a (x6p hl),e1,z0m,z0l,z0f]
 rw[z0h rfl rfl]
 exact hT _
theorem x6q {neg:Bool} {n:Nat} {d:Option Nat} (ht:NumT neg n d) (h9:(dec n).length≤9) (hn:n < 1000000000):∃ p q:Int,Pure Gam 314 [.str (x6n neg n d)] (.tup [.agg [.int .i64 p, .int .i64 q], .bool true]):=by
 refine⟨if neg then IntKind.i64.wrap (0 - (n:Int)) else n,(d.getD 1:Nat), ?_⟩
 refine Pure.of rfl y5b rfl rfl rfl rfl rfl fun D B clk T hB hT=> ?_
 have e1:decide ((9:Int) < ((dec n).length:Int))=false:=by rw[z03];omega
 have hden:(w4o d).length≤1:=by
  cases d with
  | none=>simp[w4o]
  | some k=>exact x1m (ht.den k rfl).2.1
 have e2:decide ((9:Int) < ((w4o d).length:Int))=false:=by rw[z03];omega
 have hp1:=q7a (n:=n) (by omega)
 have e3:decide (dec n=[48])=decide (n=0):=z1r
 simp only[go_sem,w3i,hB,z0a x6o,z0a (x6p (n:=n) (d:=d) (by omega)),e1,e2,z0a hp1,z7,e3]
 have hfin:∀ (r:Int),r=(if neg then IntKind.i64.wrap (0 - (n:Int)) else n)→∀ h',T (.tup [.agg [.int .i64 r, .int .i64 (d.getD 1:Nat)], .bool true]) h':=fun r hr h'=>hr ▸ hT h'
 rcases n6 n with rfl | hpos
 ·have hneg:neg=false:=by cases neg with
   | false=>rfl
   | true=>exact absurd rfl (ht.pos rfl)
  have hd0:d=none:=by cases d with
   | none=>rfl
   | some k=>have:=ht.den k rfl;rw[Nat.gcd_zero_left] at this;omega
  subst hneg;subst hd0
  simp only[go_sem,decide_true,Option.isSome_none,z0a (x6m (n:=0) (by omega)),hB,z0m,z0l,z0f]
  rw[z0h rfl rfl]
  exact hfin _ rfl _
 ·have e4:decide (n=0)=false:=by rw[z03];omega
  simp only[go_sem,e4,z0a (x6m hn)]
  cases d with
  | none=>
    cases neg
    ·simp only[go_sem,Option.isSome_none,hB,z0m,z0l,z0f]
     rw[z0h rfl rfl]
     exact hfin _ rfl _
    ·simp only[go_sem,Option.isSome_none,hB,z0m,z0l,z0f]
     rw[z0h rfl rfl]
     exact hfin _ rfl _
  | some k=>
    obtain⟨hk2,hk4,hg⟩:=ht.den k rfl
    have hp2:=q7a (n:=k) (by have:=x1m hk4;omega)
    have e5:decide ((k:Int) < 2)=false:=by rw[z03];omega
    have hp3:=w4n (a:=n) (b:=k) (by omega)
    rw[hg] at hp3
    cases neg
    ·simp only[go_sem,Option.isSome_some,w4o,z0a hp2,z7,z0a (x6m (n:=k) (by omega)),e5,z0a hp3,decide_true,hB,z0m,z0l,z0f]
     rw[z0h rfl rfl]
     exact hfin _ rfl _
    ·simp only[go_sem,Option.isSome_some,w4o,z0a hp2,z7,z0a (x6m (n:=k) (by omega)),e5,z0a hp3,decide_true,hB,z0m,z0l,z0f]
     rw[z0h rfl rfl]
     exact hfin _ rfl _
theorem y6z {n:Nat} (hn:n < 10 ^ 40):(nl n).length≤5:=y6v (k:=5) (by
 have:(1000000000:Nat) ^ 5=10 ^ 45:=by decide
 rw[this]
 have:(10:Nat) ^ 40≤10 ^ 45:=n7 (by omega) (by omega)
 omega)
theorem j6a {n:Nat} (hl:(dec n).length≤1000):Pure Gam 325 [.str (dec n)] (.sl ((nl n).map z4c) .no):=by
 have:=w4k (s:=dec n) (z1l n) hl
 rwa [z1s] at this
theorem w4p {neg:Bool} {n:Nat} {d:Option Nat} (ht:NumT neg n d):∃ v:AV,v.ids=[]∧v.obs=[]∧(∃ a b c,v= .agg [.bool a, .sl b .no, .sl c .no])∧Pure Gam 315 [.str (x6n neg n d)] (.tup [v, .bool true]):=by
 have hlen:(dec n).length≤40:=z7d (by omega) ht.len
 have hp1:=q7a (n:=n) (by omega)
 have hpn:=j6a (n:=n) (by omega)
 have e3:decide (dec n=[48])=decide (n=0):=z1r
 have e13:decide (dec n=[48])=true→neg=false∧d=none:=by
  rw[e3,z04]
  rintro rfl
  refine⟨?_, ?_⟩
  ·cases neg with
   | false=>rfl
   | true=>exact absurd rfl (ht.pos rfl)
  ·cases d with
   | none=>rfl
   | some k=>have:=ht.den k rfl;rw[Nat.gcd_zero_left] at this;omega
 have w1:(AV.sl [.int .u32 1] .full).cv= .sl ([1].map z4c) .no:=rfl
 cases d with
 | none=>
   refine⟨.agg [.bool neg, .sl ((nl n).map z4c) .no, .sl ([1].map z4c) .no],by simp[AV.ids,idsL,z3l,z4c],rfl,⟨_,_,_,rfl⟩, ?_⟩
   refine Pure.of rfl y5c rfl rfl rfl rfl rfl fun D B clk T hB hT=> ?_
   simp only[go_sem,w3j,hB,z0a x6o,z0a (x6p (n:=n) (d:=none) (by omega)),z0a hp1,z7,Option.isSome_none]
   have key:∀ x:Bool,decide (dec n=[48])=x→T (.tup [.agg [.bool neg, .sl ((nl n).map z4c) .no, .sl [.int .u32 1] .no], .bool true])=T (.tup [.agg [.bool neg, .sl ((nl n).map z4c) .no, .sl ([1].map z4c) .no], .bool true]):=fun _ _=>rfl
   cases hz:decide (dec n=[48]) with
   | true=>
     obtain⟨rfl,_⟩:=e13 hz
     simp only[go_sem,z0a hpn,hB,j5,z0m,z0l,z0f]
     rw[z0h rfl (by simp[z1j,AV.cv,cvL,AV.ids,idsL,z3l,z4c])]
     exact hT _
   | false=>
     simp only[go_sem,z0a hpn,hB,j5,z0m,z0l,z0f]
     rw[z0h rfl (by simp[z1j,AV.cv,cvL,AV.ids,idsL,z3l,z4c])]
     exact hT _
 | some k=>
   obtain⟨hk2,hk4,hg⟩:=ht.den k rfl
   have hnz:decide (dec n=[48])=false:=by
    cases hz:decide (dec n=[48]) with
    | false=>rfl
    | true=>exact absurd (e13 hz).2 (by simp)
   have hkl:=x1m hk4
   have hp2:=q7a (n:=k) (by omega)
   have hpk:=j6a (n:=k) (by omega)
   have e5:decide (dec k=[48])=false:=by rw[z1r,z03];omega
   have e6:decide (dec k=[49])=false:=by rw[q3g,z03];omega
   have hpg:=w4i (x:=n) (y:=k) (by have:=y6z ht.len;omega) (by omega)
   rw[hg,show nl 1=[1] from x6k (by omega) (by omega)] at hpg
   have hpo:=w4f (l:=[1])
   have e7:decide (([1]:List Nat)=[1])=true:=rfl
   rw[e7,k8,w7] at hpo
   refine⟨.agg [.bool neg, .sl ((nl n).map z4c) .no, .sl ((nl k).map z4c) .no],by simp[AV.ids,idsL,z3l,z4c],rfl,⟨_,_,_,rfl⟩, ?_⟩
   refine Pure.of rfl y5c rfl rfl rfl rfl rfl fun D B clk T hB hT=> ?_
   simp only[go_sem,w3j,hB,z1a,z0a x6o,z0a (x6p (n:=n) (d:=some k) (by omega)),z0a hp1,z7,Option.isSome_some,hnz,z0a hpn,w4o,z0a hp2,e5,e6,z0a hpk,z0a hpg,z0a hpo,z0m,z0l,z0f]
   refine⟨by simp[z1b,apart,z0j,z0z,z1d,AOp.isCall,hB], ?_⟩
   rw[z0h rfl (by simp[z1j,AV.cv,cvL,AV.ids,idsL,z3l,z4c])]
   exact hT _
theorem k4t {neg:Bool} {n:Nat} {d:Option Nat} (ht:NumT neg n d):Pure Gam 290 [.str (x6n neg n d)] (.bool true):=by
 have hlen:(dec n).length≤40:=z7d (by omega) ht.len
 by_cases h9:9 < (dec n).length
 ·have hp1:=j2u (neg:=neg) (n:=n) (d:=d) (by omega) h9
  obtain⟨v,hv1,hv2,⟨a,b,c,rfl⟩,hp2⟩:=w4p ht
  refine Pure.of rfl y4w rfl rfl rfl rfl rfl fun D B clk T hB hT=> ?_
  simp only[go_sem,w3e,hB,z0a hp1,z0a hp2]
  rw[z0d]
  exact hT _
 ·have hn:n < 1000000000:=by
   have h1:=z4v (z1l n)
   rw[z1s] at h1
   have h2:10 ^ (dec n).length≤10 ^ 9:=n7 (by omega) (by omega)
   omega
  obtain⟨p,q,hp⟩:=x6q ht (by omega) hn
  refine Pure.of rfl y4w rfl rfl rfl rfl rfl fun D B clk T hB hT=> ?_
  simp only[go_sem,w3e,hB,z0a hp]
  rw[z0d]
  exact hT _
theorem w4q {k:Nat} (h1:1≤k) (h5:k≤5):Pure Gam 248 [.str (dec k)] (.int .i64 1):=by
 have hv:Pure Gam 290 [.str (dec k)] (.bool true):=k4t (neg:=false) (n:=k) (d:=none) ⟨by simp,by omega,by simp⟩
 have e1:decide (dec k=[48])=false:=by rw[z1r,z03];omega
 have e2:∀ h q,q4k h (.str (dec k)) (.int q 0)=some (.int .u8 ((48 + k:Nat):Int),h):=fun h q=>by rw[z7c (by omega)];exact z6k
 have e3:decide (((48 + k:Nat):Int)=45)=false:=by rw[z03];omega
 refine Pure.of rfl u7c rfl rfl rfl rfl rfl fun D B clk T hB hT=> ?_
 simp only[go_sem,y6p,z0a hv,z7,e1,e2,e3]
 rw[z2o]
 exact hT _
theorem j2v {a:List Nat} (h:IntS a):Pure Gam 245 [.int .i64 2, .str a] (.bool true):=by
 obtain⟨z,rfl,hz⟩:=h
 have hlen:(dec z.natAbs).length≤40:=z7d (by omega) hz
 have hp:=k4p (z:=z) (by omega)
 refine Pure.of rfl y6n rfl rfl rfl rfl rfl fun D B clk T hB hT=> ?_
 simp only[go_sem,w3v,z8,decide_true,z0a hp]
 rw[z0d]
 exact hT _
theorem j0j {a:List Nat} (h:RatS a):Pure Gam 245 [.int .i64 3, .str a] (.bool true):=by
 obtain⟨neg,n,d,rfl,ht⟩:=h.text
 refine Pure.of rfl y6n rfl rfl rfl rfl rfl fun D B clk T hB hT=> ?_
 simp only[go_sem,w3v,z8,decide_true,decide_false,z0a (k4t ht)]
 rw[z0d]
 exact hT _
end
end Go.Proofs.YtkollgjffkdliaaGreatDoor.Am
