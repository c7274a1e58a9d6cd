/- The value of a term that is well sorted: plain facts Walking: the reference's tests of numbers and of the fields of nodes Walking: the reference's arithmetic on canonical texts Functions of the abstra -/
import Derived.Test.YtkollgjffkdliaaGreatDoorM32
set_option linter.all false
namespace Go.Proofs.YtkollgjffkdliaaGreatDoor.Am
open Go
set_option maxRecDepth 100000
theorem VsOk.rep {k s M:Nat} {vs:List Val} (h:VsOk (List.replicate k s) M vs):∀ v∈vs,∃ m,VOk m s v∧m≤M:=by
 generalize hs:List.replicate k s=ss at h
 induction h generalizing k with
 | nil=>simp
 | @cons m M2 s' ss v vs h hr ih=>
   cases k with
   | zero=>simp at hs
   | succ k=>
     rw[List.replicate_succ,List.cons.injEq] at hs
     obtain⟨rfl,hs⟩:=hs
     intro w hw
     rcases List.mem_cons.1 hw with rfl | hw
     ·exact⟨m,h,by omega⟩
     ·obtain⟨m',h1,h2⟩:=ih hs w hw
      exact⟨m',h1,by omega⟩
theorem VsOk.one {s M:Nat} {vs:List Val} (h:VsOk [s] M vs):∃ v,vs=[v]∧VOk M s v:=by
 cases h with
 | @cons m M2 s ss v vs h hr=>
   cases hr
   exact⟨v,rfl,h.up (by omega)⟩
theorem VsOk.two {s t M:Nat} {vs:List Val} (h:VsOk [s,t] M vs):∃ v w m m',vs=[v,w]∧VOk m s v∧VOk m' t w∧m + m'=M:=by
 cases h with
 | @cons m M2 s ss v vs h hr=>
   obtain⟨w,rfl,hw⟩:=hr.one
   exact⟨v,w,m,M2,rfl,h,hw,rfl⟩
theorem VsOk.three {s t u M:Nat} {vs:List Val} (h:VsOk [s,t,u] M vs):∃ v w x m m' m'',vs=[v,w,x]∧VOk m s v∧VOk m' t w∧VOk m'' u x∧m + (m' + m'')=M:=by
 cases h with
 | @cons m M2 s ss v vs h hr=>
   obtain⟨w,x,m',m'',rfl,hw,hx,e⟩:=hr.two
   exact⟨v,w,x,m,m',m'',rfl,h,hw,hx,by omega⟩
def j4a (vs:List Val) (q:Qn):Qn:=vs.foldl (fun q v=>j7f q v.q) q
theorem k5z {s:Nat} (hs:s=2∨s=3):∀ {k M:Nat} {vs:List Val} {q:Qn} {P:Nat},VsOk (List.replicate k s) M vs→q.C→q.L (45 * P + 2) (P + 1)→(s=2→q.d=1)→(j4a vs q).C∧(j4a vs q).L (45 * (P + M) + 2) (P + M + 1)∧(s=2→(j4a vs q).d=1):=by
 intro k
 induction k with
 | zero=>
   intro M vs q P h h1 h2 h3
   cases h
   exact⟨h1,h2.up (by omega) (by omega),h3⟩
 | succ k ih=>
   intro M vs q P h h1 h2 h3
   rw[List.replicate_succ] at h
   cases h with
   | @cons m M2 s ss v vs h hr=>
     obtain⟨r,rfl,r1,r2,r3⟩:=h.numb hs
     have hm:1≤m:=by have:=r2.d;have:=x7d r.d;omega
     have:=ih (q:=j7f q r) (P:=P + m) hr (v7l h1 r1) ((v7m (M:=45 * (P + m) + 1) h2 r2 (by omega) (by omega)).up (by omega) (by omega)) (fun h=>by
      rw[Qn.int h1 (h3 h),Qn.int r1 (r3 h),j7h]
      rfl)
     rw[show P + (m + M2)=P + m + M2 by omega]
     exact this
theorem q4f {z:Int}:(z4f z).z=z:=by
 unfold Qn.z z4f
 by_cases h:z < 0 <;> simp[h] <;> omega
theorem v2i {l:List (Int×Int)} {z i:Int}:atA z l i=z∨∃ p∈l,atA z l i=p.2:=by
 unfold atA
 cases h:l.find? (fun p=>decide (p.1=i)) with
 | none=>exact .inl rfl
 | some p=>exact .inr ⟨p,List.mem_of_find?_eq_some h,rfl⟩
theorem y7j {z i w:Int} {l:List (Int×Int)} {A:Nat} (hl:l.Pairwise (fun p q=>p.1 < q.1)) (hp:∀ p∈l,p.2≠z∧(dec p.1.natAbs).length≤A∧(dec p.2.natAbs).length≤A) (hi:(dec i.natAbs).length≤A) (hw:(dec w.natAbs).length≤A):
  (v2g z l i w).Pairwise (fun p q=>p.1 < q.1)∧(∀ p∈v2g z l i w,p.2≠z∧(dec p.1.natAbs).length≤A∧(dec p.2.natAbs).length≤A)∧(v2g z l i w).length≤l.length + 1:=by
 unfold v2g
 refine⟨?_, ?_, ?_⟩
 ·rw[List.pairwise_append]
  refine⟨hl.sublist List.filter_sublist, ?_, ?_⟩
  ·rw[List.pairwise_append]
   refine⟨by split <;> simp,hl.sublist List.filter_sublist, ?_⟩
   intro a ha b hb
   have h2:=of_decide_eq_true (List.mem_filter.1 hb).2
   split at ha
   ·simp at ha
   ·rw[List.mem_singleton] at ha
    rw[ha];exact h2
  ·intro a ha b hb
   have h1:=of_decide_eq_true (List.mem_filter.1 ha).2
   rcases List.mem_append.1 hb with hb | hb
   ·split at hb
    ·simp at hb
    ·rw[List.mem_singleton] at hb
     rw[hb];exact h1
   ·have h2:=of_decide_eq_true (List.mem_filter.1 hb).2
    omega
 ·intro p h
  rcases List.mem_append.1 h with h | h
  ·exact hp p (List.mem_filter.1 h).1
  ·rcases List.mem_append.1 h with h | h
   ·split at h
    ·simp at h
    ·rename_i hne
     rw[List.mem_singleton] at h
     rw[h];exact⟨hne,hi,hw⟩
   ·exact hp p (List.mem_filter.1 h).1
 ·have key:∀ l:List (Int×Int),(l.filter fun p=>decide (p.1 < i)).length + (l.filter fun p=>decide (i < p.1)).length≤l.length:=by
   intro l
   induction l with
   | nil=>simp
   | cons a l ih=>
     simp only[List.filter_cons]
     by_cases h1:a.1 < i
     ·have h2:¬ i < a.1:=by omega
      simp[h1,h2];omega
     ·by_cases h2:i < a.1 <;> simp[h1,h2] <;> omega
  have:=key l
  simp only[List.length_append]
  split <;> simp <;> omega
def q8u (K:Nat) (V:List Var) (env:List (List Nat×Val)):Prop:=1≤K∧∀ v∈V,∃ w,env.find? (fun p=>decide (p.1=v.name))=some (v.name,w)∧VOk K v.sort w
theorem j4b {s:Nat} {a:List Nat} (h:IntS a):∃ q:Qn,q.C∧q.text=a∧q.L 45 1∧(s=2→q.d=1):=by
 obtain⟨z,rfl,hz⟩:=h
 exact⟨z4f z,x4y,z2b,⟨Nat.le_trans (z7e (k:=40) (by omega) hz) (by omega),by show (dec 1).length≤1;rw[z2f];simp⟩,fun _=>rfl⟩
theorem j7i {a:List Nat} (h:RatS a):∃ q:Qn,q.C∧q.text=a∧q.L 45 1∧(3=2→q.d=1):=by
 rcases h with h | ⟨z,d,rfl,hz,h2,h4,hg⟩
 ·obtain⟨q,h1,h2,h3,_⟩:=j4b (s:=3) h
  exact⟨q,h1,h2,h3,fun h=>by omega⟩
 ·have hz0:z.natAbs≠0:=fun h=>by rw[h,Nat.gcd_zero_left] at hg;omega
  refine⟨⟨decide (z < 0),z.natAbs,d⟩,⟨fun _=>hz0,by show 0 < d;omega,hg⟩, ?_,⟨Nat.le_trans (z7e (k:=40) (by omega) hz) (by omega),by show (dec d).length≤1;rw[z7d (by omega)];simp⟩,fun h=>by omega⟩
  have hd:d≠1:=by omega
  simp only[Qn.text,z3o,if_neg hd,z0i]
  by_cases h:z < 0 <;> simp[h]
theorem v2j {K:Nat} {V:List Var} {env:List (List Nat×Val)} {n:Node} {ss:List Nat} {s M:Nat} {ks:Term} {vs:List Val} (he:q8u K V env) (hn:NodeOk V n ss s ks) (hv:VsOk ss M vs):VOk (M + K) s (nodeF env n vs):=by
 obtain⟨hK,he⟩:=he
 have l45:∀ {a:List Nat} {s:Nat},(∃ q:Qn,q.C∧q.text=a∧q.L 45 1∧(s=2→q.d=1))→s=2∨s=3→VOk (M + K) s (.num s (v2f s a)):=fun h hs=>by
  obtain⟨h1,_,h3,h4⟩:=j3z h
  exact⟨rfl,hs,h1,h3.up (by omega) (by omega),h4⟩
 cases hn with
 | bool h=>rcases h with rfl | rfl <;> simp[nodeF,bare,VOk]
 | int h=>simpa [nodeF] using l45 (j4b h) (.inl rfl)
 | real h=>simpa [nodeF] using l45 (j7i h) (.inr rfl)
 | @var v ks h=>
   obtain⟨w,hw,hok⟩:=he v h
   have:nodeF env ⟨4,v.sort,v.name,[],0⟩ vs=w:=by simp[nodeF,w4t,hw]
   rw[this]
   exact hok.up (by omega)
 | not=>simp[nodeF,bare,VOk]
 | andor h=>rcases h with rfl | rfl <;> simp[nodeF,bare,VOk]
 | imp=>simp[nodeF,bare,VOk]
 | ite h1 h2=>
   obtain⟨v,w,x,m,m',m'',rfl,hu,hw,hx,e⟩:=hv.three
   by_cases hb:v.b=true
   ·simpa [nodeF,bare,at0,hb] using hw.up (by omega)
   ·simpa [nodeF,bare,at0,hb] using hx.up (by omega)
 | eq h1 h2=>simp[nodeF,bare,VOk]
 | cmp h hs=>rcases h with rfl | rfl <;> simp[nodeF,bare,VOk]
 | @add k s ks h hs=>
   obtain⟨a1,a2,a3⟩:=k5z hs (q:=z4f 0) (P:=0) hv x4y ⟨by show (dec 0).length≤_;rw[q0a];simp,by show (dec 1).length≤_;rw[z2f];simp⟩ fun _=>rfl
   have h0:(at0 vs 0).s=s:=by
    have hl:=hv.len
    cases vs with
    | nil=>simp at hl;omega
    | cons v vs=>
      obtain⟨m,h1,_⟩:=hv.rep v List.mem_cons_self
      exact h1.s
   have:nodeF env (bare 14 k) vs= .num s (j4a vs (z4f 0)):=by simp[nodeF,bare,h0,j4a]
   rw[this]
   exact⟨rfl,hs,a1,a2.up (by omega) (by omega),a3⟩
 | @mul s n ks hs hn=>
   obtain⟨v,w,m,m',rfl,hu,hw,e⟩:=hv.two
   obtain⟨q,rfl,q1,q2,q3⟩:=hu.numb hs
   obtain⟨r,rfl,r1,r2,r3⟩:=hw.numb hs
   have:nodeF env (bare 15 2) [.num s q, .num s r]= .num s (v2d q r):=by simp[nodeF,bare,at0,Val.s,Val.q]
   rw[this]
   refine⟨rfl,hs,y7g q1 r1,(y7h q2 r2).up (by omega) (by omega),fun h=> ?_⟩
   rw[Qn.int q1 (q3 h),Qn.int r1 (r3 h),j7g]
   rfl
 | @div o k ks h h1 h2=>
   obtain⟨v,rfl,hu⟩:=hv.one
   obtain⟨z,rfl,hz⟩:=hu.int
   rcases h with rfl | rfl
   ·have:nodeF env ⟨16,0,[],dec k,1⟩ [.num 2 (z4f z)]= .num 2 (z4f (z / (k:Int))):=by simp[nodeF,at0,Val.q,q4f,z1u]
    rw[this]
    refine VOk.of_int (by omega) (Nat.le_trans (z4z (Int.natAbs_ediv_le_natAbs z k)) (by omega))
   ·have:nodeF env ⟨17,0,[],dec k,1⟩ [.num 2 (z4f z)]= .num 2 (z4f (z % (k:Int))):=by simp[nodeF,at0,Val.q,q4f,z1u]
    rw[this]
    have hk:(z % (k:Int)).natAbs < 10:=by
     have:=Int.emod_nonneg z (show (k:Int)≠0 by omega)
     have:=Int.emod_lt_of_pos z (show (0:Int) < k by omega)
     omega
    refine VOk.of_int (by omega) ?_
    rw[z7d hk]
    simp;omega
 | select=>
   obtain⟨v,w,m,m',rfl,hu,hw,e⟩:=hv.two
   obtain⟨z,l,rfl⟩:=hu.array
   obtain⟨i,rfl,hi⟩:=hw.int
   have:nodeF env (bare 18 2) [.arr z l, .num 2 (z4f i)]= .num 2 (z4f (atA z l i)):=by simp[nodeF,bare,at0,Val.q,Val.l,q4f]
   rw[this]
   refine VOk.of_int (by omega) ?_
   rcases v2i (z:=z) (l:=l) (i:=i) with e' | ⟨p,hp,e'⟩ <;> rw[e']
   ·have:=hu.2.1;omega
   ·have:=(hu.2.2.2.1 p hp).2.2;omega
 | store=>
   obtain⟨v,w,x,m,m',m'',rfl,hu,hw,hx,e⟩:=hv.three
   obtain⟨z,l,rfl⟩:=hu.array
   obtain⟨i,rfl,hi⟩:=hw.int
   obtain⟨j,rfl,hj⟩:=hx.int
   have:nodeF env (bare 19 3) [.arr z l, .num 2 (z4f i), .num 2 (z4f j)]= .arr z (v2g z l i j):=by simp[nodeF,bare,at0,Val.q,Val.l,q4f]
   rw[this]
   obtain⟨p1,p2,p3⟩:=y7j (A:=45 * (M + K)) hu.2.2.1 (fun p hp=>⟨(hu.2.2.2.1 p hp).1,by have:=(hu.2.2.2.1 p hp).2.1;omega,by have:=(hu.2.2.2.1 p hp).2.2;omega⟩) (show (dec i.natAbs).length≤_ by omega) (show (dec j.natAbs).length≤_ by omega)
   exact⟨rfl,by have:=hu.2.1;omega,p1,p2,by have:=hu.2.2.2.2;omega⟩
 | const=>
   obtain⟨v,rfl,hu⟩:=hv.one
   obtain⟨z,rfl,hz⟩:=hu.int
   have:nodeF env (bare 20 1) [.num 2 (z4f z)]= .arr z []:=by simp[nodeF,bare,at0,Val.q,q4f]
   rw[this]
   exact⟨rfl,by omega, .nil,by simp,by simp⟩
inductive Ev (env:List (List Nat×Val)):Term→List Val→Prop
 | nil:Ev env [] []
 | cons {n:Node} {ks rest:Term} {vs ws:List Val}:Ev env ks vs→n.kids=vs.length→Ev env rest ws→Ev env (n::(ks++rest)) (nodeF env n vs::ws)
section
variable {U:List Var} [UOk U]
theorem q1x {z:Int} (h:z.natAbs < 10 ^ 40):(dec z.natAbs).length≤10000000:=by
 have:=z4z (a:=z.natAbs) (b:=10 ^ 40) (by omega)
 have h2:(dec (10 ^ 40)).length=41:=by kernel_rfl
 omega
theorem k6a {a:List Nat} (h:IntS a):Pure Gam 102 [.str a] (.bool true):=by
 obtain⟨z,rfl,hz⟩:=h
 have hp:=q2w (q1x hz)
 rw[q0i,z2f] at hp
 refine Pure.of rfl y5b rfl rfl rfl rfl rfl fun D B clk T hB hT=> ?_
 simp only[go_sem,w3a,hB,z0a hp,decide_true]
 rw[z0e]
 exact hT _
theorem w4u {a:List Nat} (h:RatS a):Pure Gam 164 [.str a] (.bool true):=by
 rcases h with ⟨z,rfl,hz⟩ | ⟨z,d,rfl,hz,h2,h4,hg⟩
 ·have hp:=q2w (q1x hz)
  rw[q0i] at hp
  refine Pure.of rfl w2z rfl rfl rfl rfl rfl fun D B clk T hB hT=> ?_
  simp only[go_sem,v0s,hB,z0a hp]
  rw[z0e]
  exact hT _
 ·have hp:=j7c (q1x hz) h2 (by rw[z7d (by omega)];simp) hg
  rw[q0i] at hp
  refine Pure.of rfl w2z rfl rfl rfl rfl rfl fun D B clk T hB hT=> ?_
  simp only[go_sem,v0s,hB,z0a hp]
  rw[z0e]
  exact hT _
theorem w4v {k:Nat} (h1:1≤k) (h5:k≤5):Pure Gam 166 [.str (dec k)] (.int .i64 1):=by
 have e:z0i (k:Int)=dec k:=by rw[z0i,if_neg (by omega),Int.natAbs_natCast]
 have hp:=q2w (z:=(k:Int)) (q1x (by simp;omega))
 rw[q0i,z2f,e,Int.natAbs_natCast,show decide ((k:Int) < 0)=false by simp] at hp
 have e1:decide (dec k=[48])=false:=by rw[decide_eq_false_iff_not,q4v];omega
 refine Pure.of rfl y4x rfl rfl rfl rfl rfl fun D B clk T hB hT=> ?_
 simp only[go_sem,k4n,hB,z0a hp,e1,Bool.not_true]
 rw[z0g rfl rfl]
 exact hT _
theorem k6b {v:Var} (hv:v∈U):Pure Gam 168 [.str v.name] (.bool true):=Pure.tab (tab:=q2k) rfl rfl (UOk.name2 v hv)
theorem w4w {V:List Var} {n:Node} {ss:List Nat} {s:Nat} {ks:Term} (hV:∀ v∈V,v∈U) (hn:NodeOk V n ss s ks):Pure Gam 266 [eNode n] (.bool true):=by
 refine Pure.of rfl u3y rfl rfl rfl rfl rfl fun D B clk T hB hT=> ?_
 cases hn with
 | bool h=>rcases h with rfl | rfl <;> (simp only[go_sem,x6l,hB,eNode,nat,bare,Int.cast_ofNat_Int,Int.reduceEq,Int.reduceLE,decide_true,decide_false];rw[z0e];exact hT _)
 | int h=>simp only[go_sem,x6l,hB,eNode,nat,Int.cast_ofNat_Int,Int.reduceEq,decide_true,decide_false,z0a (k6a h)];rw[z0e];exact hT _
 | real h=>simp only[go_sem,x6l,hB,eNode,nat,Int.cast_ofNat_Int,Int.reduceEq,decide_true,decide_false,z0a (w4u h)];rw[z0e];exact hT _
 | @var v ks h=>
   have hs:=q6c (hV _ h)
   have p:=j3x hs.1 hs.2
   rw[nat] at p
   simp only[go_sem,x6l,hB,eNode,nat,Int.cast_ofNat_Int,Int.reduceEq,decide_true,decide_false,z0a (k6b (hV _ h)),z0a p];rw[z0e];exact hT _
 | andor h=>rcases h with rfl | rfl <;> (simp only[go_sem,x6l,hB,eNode,nat,bare,Int.cast_ofNat_Int,Int.reduceEq,Int.reduceLE,decide_true,decide_false];rw[z0e];exact hT _)
 | cmp h hs=>rcases h with rfl | rfl <;> (simp only[go_sem,x6l,hB,eNode,nat,bare,Int.cast_ofNat_Int,Int.reduceEq,Int.reduceLE,decide_true,decide_false];rw[z0e];exact hT _)
 | @div o k ks h h1 h5=>
   have e:IntS (dec k):=⟨k,by rw[z0i,if_neg (by omega),Int.natAbs_natCast],by simp;omega⟩
   rcases h with rfl | rfl <;> (simp only[go_sem,x6l,hB,eNode,nat,Int.cast_ofNat_Int,Int.reduceEq,Int.reduceLT,decide_true,decide_false,z0a (k6a e),z0a (w4v h1 h5)];rw[z0e];exact hT _)
 | _=>simp only[go_sem,x6l,hB,eNode,nat,bare,Int.cast_ofNat_Int,Int.reduceEq,Int.reduceLE,decide_true,decide_false];rw[z0e];exact hT _
end
theorem Qn.z_neg {q:Qn} (hc:q.C):decide (q.z < 0)=q.neg:=by
 have:=hc.neg
 unfold Qn.z
 cases h:q.neg
 ·simp
 ·simp[h] at this⊢
  omega
theorem Qn.frac {q:Qn} (hc:q.C) (h1:q.d≠1):q.text=z0i q.z++47::dec q.d:=by
 have hz:=Qn.z_neg hc
 have hl:=Qn.z_len (q:=q)
 unfold Qn.text z3o z0i
 rw[if_neg h1,hl]
 cases h:q.neg <;> rw[h] at hz <;> simp only[decide_eq_true_eq,decide_eq_false_iff_not] at hz <;> simp[hz]
structure Qn.R (q:Qn):Prop where
 c:q.C
 n:(dec q.n).length≤4000000
 d:(dec q.d).length≤4000000
theorem v2k {q:Qn} (hc:q.C) (hn:(dec q.n).length≤10000000) (hd:(dec q.d).length≤10000000):Pure Gam 165 [.str q.text] (.tup [q0i q.neg q.n q.d, .bool true]):=by
 by_cases h1:q.d=1
 ·have h:=q2w (z:=q.z) (by rw[Qn.z_len];exact hn)
  rw[←z2b] at h
  have e:=Qn.int hc h1
  have e2:q0i q.neg q.n q.d=q0i (decide (q.z < 0)) q.z.natAbs 1:=by rw[Qn.z_neg hc,Qn.z_len,h1]
  have e3:q.text=(z4f q.z).text:=congrArg Qn.text e
  rw[e2,e3]
  exact h
 ·have h2:2≤q.d:=by have:=hc.pos;omega
  have h:=j7c (z:=q.z) (d:=q.d) (by rw[Qn.z_len];exact hn) h2 hd (by rw[Qn.z_len];exact hc.red)
  rw[←Qn.frac hc h1,Qn.z_len,Qn.z_neg hc] at h
  exact h
theorem z7h {q:Qn} (h:q.R):Pure Gam 165 [.str q.text] (.tup [q0i q.neg q.n q.d, .bool true]):=v2k h.c (by have:=h.n;omega) (by have:=h.d;omega)
theorem x7g {neg:Bool} {a b:Nat} (hb:0 < b) (hlen:(dec a).length≤10000000) (hlenb:(dec b).length≤10000000):Pure Gam 230 [.bool neg, .str (dec a), .str (dec b)] (q0i (q3y neg a b).neg (q3y neg a b).n (q3y neg a b).d):=x1d hb hlen hlenb
theorem q9d {q:Qn} (hn:(dec q.n).length≤10000000) (hd:(dec q.d).length≤10000000):Pure Gam 231 [q0i q.neg q.n q.d] (.str q.text):=q7d hn hd
theorem q9e {q:Qn} (h:q.R):Pure Gam 164 [.str q.text] (.bool true):=by
 have hp:=z7h h
 rw[q0i] at hp
 refine Pure.of rfl w2z rfl rfl rfl rfl rfl fun D B clk T hB hT=> ?_
 simp only[go_sem,v0s,hB,z0a hp]
 rw[z0e]
 exact hT _
theorem x7h {q:Qn} (h:q.R):Pure Gam 102 [.str q.text] (.bool (decide (q.d=1))):=by
 have hp:=z7h h
 rw[q0i] at hp
 refine Pure.of rfl y5b rfl rfl rfl rfl rfl fun D B clk T hB hT=> ?_
 simp only[go_sem,w3a,hB,z0a hp,q3u]
 rw[z0e]
 exact hT _
def q7k (q:Qn):Int:=if q.n=0 then 0 else if q.neg=true then -1 else 1
theorem x7i {q:Qn} (h:q.R):Pure Gam 166 [.str q.text] (.int .i64 (q7k q)):=by
 have hp:=z7h h
 rw[q0i] at hp
 refine Pure.of rfl y4x rfl rfl rfl rfl rfl fun D B clk T hB hT=> ?_
 unfold q7k at hT
 by_cases h0:q.n=0
 ·have e1:decide (dec q.n=[48])=true:=by rw[z1t];simp[h0]
  rw[if_pos h0] at hT
  simp only[go_sem,k4n,hB,z0a hp,e1,Bool.not_true]
  rw[z0g rfl rfl]
  exact hT _
 ·have e1:decide (dec q.n=[48])=false:=by rw[z1t];simp[h0]
  rw[if_neg h0] at hT
  cases hg:q.neg <;> rw[hg] at hT hp
  ·rw[if_neg (by simp)] at hT
   simp only[go_sem,k4n,hB,z0a hp,e1,Bool.not_true]
   rw[z0g rfl rfl]
   exact hT _
  ·rw[if_pos rfl] at hT
   simp only[go_sem,k4n,hB,z0a hp,e1,Bool.not_true]
   rw[z0g rfl rfl]
   exact hT _
theorem v2l {q:Qn} (h:q.R):Pure Gam 233 [.str q.text] (.str (k0p q).text):=by
 have hp:=z7h h
 have p2:=q9d (q:=k0p q) (by have:=h.n;show (dec q.n).length≤_;omega) (by have:=h.d;show (dec q.d).length≤_;omega)
 rw[q0i] at hp p2
 have e0:(k0p q).n=q.n:=rfl
 have e1:(k0p q).d=q.d:=rfl
 rw[e0,e1] at p2
 have e2:(k0p q).neg=(!q.neg && !decide (q.n=0)):=rfl
 rw[e2] at p2
 have hz:decide (dec q.n=[48])=decide (q.n=0):=z1t
 refine Pure.of rfl u1v rfl rfl rfl rfl rfl fun D B clk T hB hT=> ?_
 cases hg:q.neg <;> rw[hg] at hp p2
 ·cases h0:decide (q.n=0) <;> rw[h0] at p2 hz
  ·simp only[Bool.not_false,Bool.and_self] at p2
   simp only[go_sem,k9o,hB,z0a hp,Bool.not_true,Bool.not_false,hz,z0a p2]
   rw[z3f]
   exact hT _
  ·simp only[Bool.not_false,Bool.not_true,Bool.and_false] at p2
   simp only[go_sem,k9o,hB,z0a hp,Bool.not_true,Bool.not_false,hz,z0a p2]
   rw[z3f]
   exact hT _
 ·simp only[Bool.not_true,Bool.false_and] at p2
  simp only[go_sem,k9o,hB,z0a hp,Bool.not_true,Bool.not_false,hz,z0a p2]
  rw[z3f]
  exact hT _
theorem j7j {x y:Qn} (hx:x.R) (hy:y.R):Pure Gam 232 [.str x.text, .str y.text] (.str (j7f x y).text):=by
 have p1:=z7h hx
 have p2:=z7h hy
 have m1:=z9h (a:=x.n) (b:=y.d) hx.n hy.d
 have m2:=z9h (a:=y.n) (b:=x.d) hy.n hx.d
 have m3:=z9h (a:=x.d) (b:=y.d) hx.d hy.d
 have l1:=z6p hx.n hy.d
 have l2:=z6p hy.n hx.d
 have l3:=z6p hx.d hy.d
 have hpos:=Nat.mul_pos hx.c.pos hy.c.pos
 unfold j7f
 generalize x.n * y.d=p at *
 generalize y.n * x.d=q at *
 generalize x.d * y.d=d at *
 refine Pure.of rfl u1u rfl rfl rfl rfl rfl fun D B clk T hB hT=> ?_
 simp only[go_sem,y2e,hB]
 rw[z0a p1]
 simp only[go_sem,hB,q0i]
 rw[z0a p2]
 simp only[go_sem,hB,q0i,Bool.not_true,Bool.not_false,z1b,z0a m1,z0a m2,z0a m3]
 refine⟨by simp[z1e,apart,z0l,z0z,z1i,AOp.isCall,hB], ?_⟩
 have la:=x7e (a:=p) (b:=q) (A:=8000000) (by omega) (by omega)
 have ls1:=x7f (a:=p) (b:=q) l1
 have ls2:=x7f (a:=q) (b:=p) l2
 have fin:∀ (neg:Bool) (a:Nat),(dec a).length≤8000001→Pure Gam 230 [.bool neg, .str (dec a), .str (dec d)] (q0i (q3y neg a d).neg (q3y neg a d).n (q3y neg a d).d)∧Pure Gam 231 [q0i (q3y neg a d).neg (q3y neg a d).n (q3y neg a d).d] (.str (q3y neg a d).text):=fun neg a ha=>by
  have hl:=q8k (neg:=neg) ha l3
  exact⟨x7g hpos (by omega) (by omega),q9d (by have:=hl.n;omega) (by have:=hl.d;omega)⟩
 by_cases hn:x.neg=y.neg
 ·have e1:decide (x.neg=y.neg)=true:=decide_eq_true hn
  have e2:(x.neg==y.neg)=true:=by simp[hn]
  rw[if_pos hn] at hT
  obtain⟨f1,f2⟩:=fin x.neg (p + q) la
  simp only[go_sem,hB,e1,e2,z1b,z0a (k4l (a:=p) (b:=q) (by omega) (by omega)),z0a f1,z0a f2]
  refine⟨by simp[z1e,apart,z0l,z0z,z1i,AOp.isCall,hB], ?_⟩
  rw[z3f]
  exact hT _
 ·have e1:decide (x.neg=y.neg)=false:=decide_eq_false hn
  have e2:(x.neg==y.neg)=false:=by simp[hn]
  rw[if_neg hn] at hT
  have hcmp:=k4k (a:=p) (b:=q)
  by_cases hle:q≤p
  ·rw[if_pos hle] at hT
   obtain⟨n,hn1,hn2⟩:∃ n:Int,(if p < q then -1 else if p=q then 0 else 1)=n∧decide (0≤n)=true:=by
    rw[if_neg (by omega)]
    split
    ·exact⟨0,rfl,rfl⟩
    ·exact⟨1,rfl,rfl⟩
   rw[hn1] at hcmp
   obtain⟨f1,f2⟩:=fin x.neg (p - q) (by omega)
   simp only[go_sem,hB,e1,e2,z1b,z0a hcmp,hn2,z0a (j3h (a:=p) (b:=q) hle (by omega) (by omega)),z0a f1,z0a f2]
   refine⟨by simp[z1e,apart,z0l,z0z,z1i,AOp.isCall,hB], ?_⟩
   rw[z3f]
   exact hT _
  ·rw[if_neg hle] at hT
   rw[if_pos (by omega)] at hcmp
   have hn2:decide ((0:Int)≤ -1)=false:=by decide
   obtain⟨f1,f2⟩:=fin y.neg (q - p) (by omega)
   simp only[go_sem,hB,e1,e2,z1b,z0a hcmp,hn2,z0a (j3h (a:=q) (b:=p) (by omega) (by omega) (by omega)),z0a f1,z0a f2]
   refine⟨by simp[z1e,apart,z0l,z0z,z1i,AOp.isCall,hB], ?_⟩
   rw[z3f]
   exact hT _
theorem y7k {x:Qn} (h:x.R):(k0p x).R:=⟨v7k h.c,h.n,h.d⟩
theorem j7k {x y:Qn} (hx:x.R) (hy:y.R):Pure Gam 167 [.str x.text, .str y.text] (.str (k7p x y).text):=by
 refine Pure.of rfl u1t rfl rfl rfl rfl rfl fun D B clk T hB hT=> ?_
 simp only[go_sem,y2d,hB,z0a (v2l hy),z0a (j7j hx (y7k hy))]
 rw[z3f]
 exact hT _
theorem j7l {x y:Qn} (hx:x.R) (hy:y.R) (hs:(k7p x y).R):Pure Gam 103 [.str x.text, .str y.text] (.int .i64 (q7k (k7p x y))):=by
 refine Pure.of rfl u1s rfl rfl rfl rfl rfl fun D B clk T hB hT=> ?_
 simp only[go_sem,y2c,hB,z0a (q9e hx),z0a (q9e hy),Bool.not_true,z0a (j7k hx hy),z0a (x7i hs)]
 rw[z0g rfl rfl]
 exact hT _
theorem j7m {x y:Qn} (hx:x.R) (hy:y.R):Pure Gam 285 [.str x.text, .str y.text] (.str (v2d x y).text):=by
 have p1:=z7h hx
 have p2:=z7h hy
 have m1:=z9h (a:=x.n) (b:=y.n) hx.n hy.n
 have m2:=z9h (a:=x.d) (b:=y.d) hx.d hy.d
 have l1:=z6p hx.n hy.n
 have l2:=z6p hx.d hy.d
 have hpos:=Nat.mul_pos hx.c.pos hy.c.pos
 have hl:=q8k (neg:= !(x.neg==y.neg)) l1 l2
 have f1:=x7g (neg:= !(x.neg==y.neg)) hpos (by omega) (by omega:(dec (x.d * y.d)).length≤_) (a:=x.n * y.n)
 have f2:=q9d (q:=q3y (!(x.neg==y.neg)) (x.n * y.n) (x.d * y.d)) (by have:=hl.n;omega) (by have:=hl.d;omega)
 unfold v2d
 refine Pure.of rfl y3k rfl rfl rfl rfl rfl fun D B clk T hB hT=> ?_
 simp only[go_sem,w2l,hB]
 rw[z0a p1]
 simp only[go_sem,hB,q0i]
 rw[z0a p2]
 simp only[go_sem,hB,q0i,Bool.not_true,Bool.not_false,z1b,z0a m1,z0a m2]
 rw[z0a f1]
 simp only[go_sem,]
 rw[z0a f2]
 simp only[go_sem,]
 refine⟨by simp[z1e,apart,z0l,z0z,z1i,AOp.isCall,hB], ?_⟩
 rw[z3f]
 exact hT _
section
open Sh
set_option maxHeartbeats 0
noncomputable def q22:AFun:=(fun (a:AFun) (_:Gam.fn 36=some a)=>a) _ (by conv=>lhs;reduce;simp only[Int.reduceOfNat,Int.reduceNegSucc])
noncomputable def k0k:ACode:=(fun (a:ACode) (_:fl [] (lp q22 0)=a)=>a) _ (by conv=>lhs;reduce;simp only[Int.reduceOfNat,Int.reduceNegSucc])
attribute [local irreducible] k0k
noncomputable def u9q:AFun:=(fun (a:AFun) (_:flF [k0k] q22=a)=>a) _ (by conv=>lhs;reduce;simp only[Int.reduceOfNat,Int.reduceNegSucc])
theorem g2w:Gam.fn 36=some u9q:=by kernel_rfl
noncomputable def u9r:AFun:=(fun (a:AFun) (_:Gam.fn 11=some a)=>a) _ (by conv=>lhs;reduce;simp only[Int.reduceOfNat,Int.reduceNegSucc])
theorem g2x:Gam.fn 11=some u9r:=by kernel_rfl
noncomputable def q46:AFun:=(fun (a:AFun) (_:Gam.fn 83=some a)=>a) _ (by conv=>lhs;reduce;simp only[Int.reduceOfNat,Int.reduceNegSucc])
noncomputable def j0r:ACode:=(fun (a:ACode) (_:fl [] (lp q46 1)=a)=>a) _ (by conv=>lhs;reduce;simp only[Int.reduceOfNat,Int.reduceNegSucc])
attribute [local irreducible] j0r
noncomputable def v2m:ACode:=(fun (a:ACode) (_:fl [j0r] (lp q46 0)=a)=>a) _ (by conv=>lhs;reduce;simp only[Int.reduceOfNat,Int.reduceNegSucc])
attribute [local irreducible] v2m
noncomputable def u9s:AFun:=(fun (a:AFun) (_:flF [v2m,j0r] q46=a)=>a) _ (by conv=>lhs;reduce;simp only[Int.reduceOfNat,Int.reduceNegSucc])
theorem g2y:Gam.fn 83=some u9s:=by kernel_rfl
noncomputable def q47:AFun:=(fun (a:AFun) (_:Gam.fn 84=some a)=>a) _ (by conv=>lhs;reduce;simp only[Int.reduceOfNat,Int.reduceNegSucc])
noncomputable def j0s:ACode:=(fun (a:ACode) (_:fl [] (lp q47 2)=a)=>a) _ (by conv=>lhs;reduce;simp only[Int.reduceOfNat,Int.reduceNegSucc])
attribute [local irreducible] j0s
noncomputable def x3b:ACode:=(fun (a:ACode) (_:fl [j0s] (lp q47 1)=a)=>a) _ (by conv=>lhs;reduce;simp only[Int.reduceOfNat,Int.reduceNegSucc])
attribute [local irreducible] x3b
noncomputable def v2n:ACode:=(fun (a:ACode) (_:fl [x3b,j0s] (lp q47 0)=a)=>a) _ (by conv=>lhs;reduce;simp only[Int.reduceOfNat,Int.reduceNegSucc])
attribute [local irreducible] v2n
noncomputable def u9t:AFun:=(fun (a:AFun) (_:flF [v2n,x3b,j0s] q47=a)=>a) _ (by conv=>lhs;reduce;simp only[Int.reduceOfNat,Int.reduceNegSucc])
theorem g2z:Gam.fn 84=some u9t:=by kernel_rfl
noncomputable def q88:AFun:=(fun (a:AFun) (_:Gam.fn 150=some a)=>a) _ (by conv=>lhs;reduce;simp only[Int.reduceOfNat,Int.reduceNegSucc])
noncomputable def k6c:ACode:=(fun (a:ACode) (_:fl [] (lp q88 0)=a)=>a) _ (by conv=>lhs;reduce;simp only[Int.reduceOfNat,Int.reduceNegSucc])
attribute [local irreducible] k6c
noncomputable def u9u:AFun:=(fun (a:AFun) (_:flF [k6c] q88=a)=>a) _ (by conv=>lhs;reduce;simp only[Int.reduceOfNat,Int.reduceNegSucc])
theorem u9v:Gam.fn 150=some u9u:=by kernel_rfl
noncomputable def q43:AFun:=(fun (a:AFun) (_:Gam.fn 18=some a)=>a) _ (by conv=>lhs;reduce;simp only[Int.reduceOfNat,Int.reduceNegSucc])
noncomputable def k6d:ACode:=(fun (a:ACode) (_:fl [] (lp q43 0)=a)=>a) _ (by conv=>lhs;reduce;simp only[Int.reduceOfNat,Int.reduceNegSucc])
attribute [local irreducible] k6d
noncomputable def w6k:AFun:=(fun (a:AFun) (_:flF [k6d] q43=a)=>a) _ (by conv=>lhs;reduce;simp only[Int.reduceOfNat,Int.reduceNegSucc])
theorem g3a:Gam.fn 18=some w6k:=by kernel_rfl
def v2o:ACode:=(.seq (.seq (.region 4 [M 11 5,M 12 0,N 13 (.len .sl (.tmp 12)),N 14 (.binOp .lss (.one .int) (.tmp 11) (.tmp 13))] []) (.cond (.tmp 14) .skip (.exit 0))) (.seq (.block 1 (.seq (.region 9 [M 17 0,M 18 5,N 19 (.indexAddr none 2 (.tmp 17) (.tmp 18)),N 20 (.load (some 2) (.tmp 19)),M 21 1,M 22 5,N 23 (.indexAddr none 2 (.tmp 21) (.tmp 22)),N 24 (.load (some 2) (.tmp 23)),N 25 (.binOp .neq (.agg [.str, .int]) (.tmp 20) (.tmp 24))] []) (.cond (.tmp 25) (.seq (.region 1 [N 4 (.move (.const (.bool false)))] []) .ret) .skip))) (.region 3 [M 15 5,N 16 (.binOp .add (.one .int) (.tmp 15) (I 1)),M 5 16] [])))
def u5z:AFun:=
 {ntmps:=26,nslots:=0,results:=[.tmp 4],byref:=[],owned:=false,
  body:=(.seq (.region 1 [N 4 (.move (.const (.bool false)))] []) (.seq (.seq (.region 5 [M 6 0,N 7 (.len .sl (.tmp 6)),M 8 1,N 9 (.len .sl (.tmp 8)),N 10 (.binOp .neq (.one .int) (.tmp 7) (.tmp 9))] []) (.cond (.tmp 10) (.seq (.region 1 [N 4 (.move (.const (.bool false)))] []) .ret) .skip)) (.seq (.seq (.region 1 [N 5 (.move (I 0))] []) (.block 0 (.loop v2o))) (.seq (.region 1 [N 4 (.move (.const (.bool true)))] []) .ret))))}
theorem g3b:Gam.fn 56=some u5z:=by kernel_rfl
noncomputable def u6a:AFun:=(fun (a:AFun) (_:Gam.fn 58=some a)=>a) _ (by conv=>lhs;reduce;simp only[Int.reduceOfNat,Int.reduceNegSucc])
theorem g3c:Gam.fn 58=some u6a:=by kernel_rfl
noncomputable def u9w:AFun:=(fun (a:AFun) (_:Gam.fn 109=some a)=>a) _ (by conv=>lhs;reduce;simp only[Int.reduceOfNat,Int.reduceNegSucc])
noncomputable def j0t:ACode:=(fun (a:ACode) (_:fl [] (lp u9w 0)=a)=>a) _ (by conv=>lhs;reduce;simp only[Int.reduceOfNat,Int.reduceNegSucc])
attribute [local irreducible] j0t
noncomputable def w4x:AFun:=(fun (a:AFun) (_:flF [j0t] u9w=a)=>a) _ (by conv=>lhs;reduce;simp only[Int.reduceOfNat,Int.reduceNegSucc])
theorem u6b:Gam.fn 109=some w4x:=by kernel_rfl
noncomputable def u9x:AFun:=(fun (a:AFun) (_:Gam.fn 57=some a)=>a) _ (by conv=>lhs;reduce;simp only[Int.reduceOfNat,Int.reduceNegSucc])
theorem g3d:Gam.fn 57=some u9x:=by kernel_rfl
noncomputable def u6c:AFun:=(fun (a:AFun) (_:Gam.fn 108=some a)=>a) _ (by conv=>lhs;reduce;simp only[Int.reduceOfNat,Int.reduceNegSucc])
noncomputable def q0b:ACode:=(fun (a:ACode) (_:fl [] (lp u6c 1)=a)=>a) _ (by conv=>lhs;reduce;simp only[Int.reduceOfNat,Int.reduceNegSucc])
attribute [local irreducible] q0b
noncomputable def j0u:ACode:=(fun (a:ACode) (_:fl [q0b] (lp u6c 0)=a)=>a) _ (by conv=>lhs;reduce;simp only[Int.reduceOfNat,Int.reduceNegSucc])
attribute [local irreducible] j0u
noncomputable def y7l:AFun:=(fun (a:AFun) (_:flF [j0u,q0b] u6c=a)=>a) _ (by conv=>lhs;reduce;simp only[Int.reduceOfNat,Int.reduceNegSucc])
theorem u6d:Gam.fn 108=some y7l:=by kernel_rfl
noncomputable def v2p:AFun:=(fun (a:AFun) (_:Gam.fn 175=some a)=>a) _ (by conv=>lhs;reduce;simp only[Int.reduceOfNat,Int.reduceNegSucc])
theorem u6e:Gam.fn 175=some v2p:=by kernel_rfl
noncomputable def v2q:AFun:=(fun (a:AFun) (_:Gam.fn 176=some a)=>a) _ (by conv=>lhs;reduce;simp only[Int.reduceOfNat,Int.reduceNegSucc])
theorem u6f:Gam.fn 176=some v2q:=by kernel_rfl
end
section
variable {U:List Var} [UOk U]
theorem WF.len {V:List Var} {ss:List Nat} {d:Nat} {f:Term} (h:WF V ss d f):ss.length≤f.length:=by
 induction h with
 | nil=>simp
 | cons h1 h2 h3 h4 ih1 ih2=>simp at *;omega
theorem NodeOk.mul_ne {V:List Var} {n:Node} {ss:List Nat} {s:Nat} {ks:Term} (hn:NodeOk V n ss s ks) (h:n.op=15):ss≠[]:=by
 cases hn with
 | mul=>simp
 | bool ho=>simp only[bare] at h;omega
 | andor ho=>simp only[bare] at h;omega
 | cmp ho=>simp only[bare] at h;omega
 | div ho=>dsimp only at h;omega
 | _=>simp[bare] at h
inductive Trees (t:Term) (dep:Nat):Nat→List Nat→Nat→Prop
 | nil {i:Nat}:Trees t dep i [] i
 | cons {i m j s:Nat} {ss:List Nat} (h:Pure Gam 213 [.sl (t.map eNode) .no,nat i,nat dep] (.tup [nat m,nat s])) (hs:1≤s) (hm:m≤t.length) (hr:Trees t dep m ss j):Trees t dep i (s::ss) j
theorem z7z {t:Term}:(AV.sl (t.map eNode) .no).ids=[]:=by simp[AV.ids,z0d z2i]
theorem k6e {V:List Var} {t:Term} {i dep m s:Nat} {n:Node} {ss:List Nat} {ks:Term} (hV:∀ v∈V,v∈U) (htl:t.length≤20000) (hd:dep≤256) (hi:t[i]? =some n) (hn:NodeOk V n ss s ks) (hk:n.kids=ss.length) (hsl:ss.length < t.length) (hm:m≤t.length) (hT:Trees t (dep + 1) (i + 1) ss m)
  (hf:ss≠[]→∃ c,t[i + 1]? =some c∧(n.op=15→c.op=3)):Pure Gam 213 [.sl (t.map eNode) .no,nat i,nat dep] (.tup [nat m,nat s]):=by
 have hit:i < t.length:=(List.getElem?_eq_some_iff.1 hi).1
 refine Pure.of rfl u3w rfl rfl rfl (az:=[.sl (t.map eNode) .no,nat i,nat dep]) rfl (by simp[idsL,z7z,z3h]) fun D B clk T hB hR=> ?_
 have p1:=w4w hV hn
 have p2:=w4r hn hk
 simp only[eNode,nat] at p1 p2
 have e1:decide ((t.length:Int)≤(i:Int))=false:=by rw[decide_eq_false_iff_not];omega
 have e2:decide ((256:Int) < (dep:Int))=false:=by rw[decide_eq_false_iff_not];omega
 have e3:decide ((t.length:Int) < (n.kids:Int))=false:=by rw[decide_eq_false_iff_not];omega
 have e4:IntKind.i64.wrap ((i:Int) + 1)=((i + 1:Nat):Int):=z0c (by omega) (by omega)
 simp only[go_sem,y4v,nat,hB,List.length_map,e1,e2,e3,e4,z2q hi,z0a p1,z0a p2,Bool.not_true]
 refine z1f (fun r q=>∃ (done left:List Nat) (t8:Tip) (e g0:Nat) (o0 o1:AObj),ss=done++left∧r=left.length∧Trees t (dep + 1) e left m∧e≤t.length∧(∀ x∈done,1≤x)∧q.ts 0= .sl (t.map eNode) .no∧q.ts 1= .int .i64 (i:Int)∧q.ts 2= .int .i64 (dep:Int)∧q.ts 8= .sl (done.map nat) t8∧q.ts 9= .int .i64 (e:Int)∧q.ts 10= .bool true∧q.ts 11= .int .i64 (done.length:Int)∧q.h=D++[o0,o1]∧z9p B 1 o1 t8 1) ss.length ⟨[],ss, .nil,i + 1,0,_,_,rfl,rfl,hT,hit,by simp,rfl,rfl,rfl,rfl,rfl,rfl,rfl,rfl, .inl rfl⟩ ?_
 rintro r ⟨ts,h,clk⟩ P ⟨done,left,t8,e,g0,o0,o1,hss,rfl,hT,he',hdone,q0,q1,q2,q8,q9,q10,q11,rfl,htip⟩ hnx he hr
 dsimp only at q0 q1 q2 q8 q9 q10 q11
 cases hT with
 | nil=>
   obtain rfl:done=ss:=by simpa using hss.symm
   have f1:decide ((done.length:Int) < (n.kids:Int))=false:=by rw[decide_eq_false_iff_not];omega
   simp only[go_sem,j6i,q0,q1,q2,q8,q9,q10,q11,f1,z2q hi]
   refine he _ _ ?_
   have p3:∀ fi:Nat,(n.op=15→fi=3)→Pure Gam 268 [eNode n,nat fi, .sl (done.map nat) t8] (nat s):=fun fi h=>w4s hn (by omega) h
   cases hd0:done with
   | nil=>
     have p4:Pure Gam 268 [eNode n, .int .i64 0, .sl (done.map nat) t8] (nat s):=p3 0 fun h15=>absurd hd0 (hn.mul_ne h15)
     rw[hd0] at p4 q8
     simp only[eNode,nat,List.map_nil] at p4 q8
     simp only[go_sem,q0,q1,q2,q8,q9,q10,Bool.not_true,z2q hi,z0a p4,decide_false,Int.reduceLT]
     rw[z0g rfl rfl]
     exact hR _
   | cons x0 d0=>
     obtain⟨c,hc,hc3⟩:=hf (by rw[hd0];simp)
     have p4:=p3 c.op hc3
     have g1:decide ((0:Int) < (done.length:Int))=true:=by rw[decide_eq_true_iff,hd0];simp
     simp only[eNode,nat] at p4
     simp only[go_sem,q0,q1,q2,q8,q9,q10,Bool.not_true,List.length_map,g1,e4,z2q hi,z2q hc,z0a p4]
     rw[z0g rfl rfl]
     exact hR _
 | cons hp hs hm' hr'=>
   rename_i m' x left
   have f1:decide ((done.length:Int) < (n.kids:Int))=true:=by rw[decide_eq_true_iff,hk,hss];simp;omega
   have f2:IntKind.i64.wrap ((dep:Int) + 1)=((dep + 1:Nat):Int):=z0c (by omega) (by omega)
   have f3:decide ((m':Int) < 0)=false:=by rw[decide_eq_false_iff_not];omega
   have f4:decide ((0:Int) < (x:Int))=true:=by rw[decide_eq_true_iff];omega
   have f5:IntKind.i64.wrap ((done.length:Int) + 1)=((done.length + 1:Nat):Int):=z0c (by omega) (by rw[hss] at hsl;simp at hsl;omega)
   simp only[nat] at hp
   simp only[go_sem,j6i,q0,q1,q2,q8,q9,q10,q11,f1,f2,f3,f4,f5,z2q hi,z0a hp]
   have happ:done.map nat++[nat x]=(done++[x]).map nat:=by simp
   rw[show [AV.int .i64 (x:Int)]=[x].map nat from rfl,z0s hB rfl htip z4l z4l (by rw[hss] at hsl;simp at hsl⊢;omega)]
   simp only[go_sem,q0,q1,q2,q8,q9,q10,q11,f5,happ]
   refine hnx left.length _ (by simp) ⟨done++[x],left,_,m',0,_,_,by simp[hss],rfl,hr',hm',fun y hy=> ?_,q0,q1,q2,rfl,rfl,rfl,by rw[List.length_append];rfl,rfl, .inr (.inr ⟨_,rfl,rfl⟩)⟩
   rcases List.mem_append.1 hy with hy | hy
   ·exact hdone y hy
   ·rw[List.mem_singleton.1 hy];exact hs
theorem w4y {V:List Var} {t:Term} (hV:∀ v∈V,v∈U) (htl:t.length≤20000) {ss:List Nat} {d:Nat} {f:Term} (h:WF V ss d f):∀ {pre post:Term} {dep:Nat},t=pre++f++post→dep + d≤256→Trees t dep pre.length ss (pre.length + f.length):=by
 induction h with
 | nil=>intro pre post dep ht hd;exact .nil
 | @cons n ss ks s d ss' rest h1 h2 h3 h4 ih1 ih2=>
   intro pre post dep ht hd
   have hl:pre.length + (1 + ks.length + rest.length)≤t.length:=by rw[ht];simp;omega
   have i1:=ih1 (pre:=pre++[n]) (post:=rest++post) (dep:=dep + 1) (by rw[ht];simp) (by omega)
   have i2:=ih2 (pre:=pre++(n::ks)) (post:=post) (dep:=dep) (by rw[ht];simp) (by omega)
   simp only[List.length_append,List.length_cons,List.length_nil,Nat.zero_add] at i1 i2
   have hw:=h1.len
   have hit:t[pre.length]? =some n:=by rw[ht];simp
   refine .cons (m:=pre.length + (ks.length + 1)) (k6e (ks:=ks) hV htl (by omega) hit h2 h3 (by omega) (by omega) (by rw[show pre.length + (ks.length + 1)=pre.length + 1 + ks.length by omega];exact i1) fun hne=> ?_) (h2.pos hV).1 (by omega) ?_
   ·cases ks with
    | nil=>simp at hw;exact absurd hw hne
    | cons c r=>
      refine⟨c,by rw[ht];simp,fun h15=> ?_⟩
      obtain⟨m,r',he,hm⟩:=h2.mul_num h15
      injection he with he1 he2
      rw[he1]
      exact hm
   ·simp only[List.length_cons,List.length_append]
    rw[show pre.length + (ks.length + rest.length + 1)=pre.length + (ks.length + 1) + rest.length by omega]
    exact i2
theorem w4z {V:List Var} {t:Term} {s d:Nat} (hV:∀ v∈V,v∈U) (htl:t.length≤20000) (hd:d≤256) (h:WF V [s] d t):Pure Gam 213 [.sl (t.map eNode) .no, .int .i64 0, .int .i64 0] (.tup [nat t.length,nat s]):=by
 have:=w4y hV htl h (pre:=[]) (post:=[]) (dep:=0) (by simp) (by omega)
 cases this with
 | cons hp hs hm hr=>
   cases hr with
   | nil=>
     rw[List.length_nil,Nat.zero_add] at hp
     exact hp
end
section
variable {U:List Var} [UOk U]
theorem u6g:∀ v∈U,∀ w∈U,v.name=w.name→v=w:=UOk.inj
theorem u6h {B clk i:Nat} {H:List AObj} {t:Term} {n:Node} {acc:List Var} {t3:Tip} {ts:Tmps} {ks:List Kf} {Q:Post} (hi:t[i]? =some n) (hl:acc.length≤20000) (hs:∀ v∈acc,v.name=n.name→v.sort=n.sort)
  (h0:ts 0= .sl (t.map eNode) .no) (h3:ts 3= .sl (acc.map z1h) t3) (h4:ts 4= .sl [] .nil) (h5:ts 5= .int .i64 (i:Int)) (h6:ts 6= .bool false) (h7:ts 7= .int .i64 0)
  (hQ:∀ (ts':Tmps) (clk':Nat),ts' 0= .sl (t.map eNode) .no→ts' 3= .sl (acc.map z1h) t3→ts' 4= .sl [] .nil→ts' 5= .int .i64 (i:Int)→ts' 6= .bool (acc.any fun v=>decide (v.name=n.name))→K Gam B (.exit 3) ks ⟨ts',H,clk'⟩ Q):K Gam B (.loop x1c) ks ⟨ts,H,clk⟩ Q:=by
 refine z1f (fun m q=>∃ j:Nat,j≤acc.length∧m=acc.length - j∧q.ts 0= .sl (t.map eNode) .no∧q.ts 3= .sl (acc.map z1h) t3∧q.ts 4= .sl [] .nil∧q.ts 5= .int .i64 (i:Int)∧q.ts 6= .bool ((acc.take j).any fun v=>decide (v.name=n.name))∧q.ts 7= .int .i64 (j:Int)∧q.h=H) acc.length ⟨0,by omega,rfl,h0,h3,h4,h5,h6,h7,rfl⟩ ?_
 clear h0 h3 h4 h5 h6 h7
 rintro m ⟨ts,h,clk⟩ P ⟨j,hj,rfl,h0,h3,h4,h5,h6,h7,rfl⟩ hnx he hr
 dsimp only at h0 h3 h4 h5 h6 h7
 by_cases hlt:j < acc.length
 ·have e1:decide ((j:Int) < (acc.length:Int))=true:=by rw[decide_eq_true_iff];omega
  have e4:IntKind.i64.wrap ((j:Int) + 1)=((j + 1:Nat):Int):=z0c (by omega) (by omega)
  have ht:acc.take (j + 1)=acc.take j++[acc[j]]:=List.take_succ_eq_append_getElem hlt
  have hsj:=hs acc[j] (List.getElem_mem hlt)
  by_cases hnm:acc[j].name=n.name
  ·have e2:decide (acc[j].name=n.name)=true:=by simp[hnm]
   have e3:decide (((acc[j].sort:Nat):Int)=((n.sort:Nat):Int))=true:=by rw[decide_eq_true_iff,hsj hnm]
   simp only[go_sem,h0,h3,h4,h5,h6,h7,x1c,nat,List.length_map,e1,e2,e3,z5n hlt,z2q hi,e4,Bool.not_true]
   exact hnx (acc.length - (j + 1)) _ (by omega) ⟨j + 1,hlt,rfl,h0,h3,h4,h5,by rw[ht,List.any_append];simp[z0b,hnm],rfl,rfl⟩
  ·have e2:decide (acc[j].name=n.name)=false:=by simp[hnm]
   simp only[go_sem,h0,h3,h4,h5,h6,h7,x1c,nat,List.length_map,e1,e2,z5n hlt,z2q hi,e4]
   exact hnx (acc.length - (j + 1)) _ (by omega) ⟨j + 1,hlt,rfl,h0,h3,h4,h5,by rw[ht,List.any_append];simp[z0b,hnm,h6],rfl,rfl⟩
 ·have e1:decide ((j:Int) < (acc.length:Int))=false:=by rw[decide_eq_false_iff_not];omega
  rw[List.take_of_length_le (by omega)] at h6
  simp only[go_sem,h0,h3,h4,h5,h6,h7,x1c,List.length_map,e1]
  refine he _ _ ?_
  exact hQ _ _ (by simp[z0b,h0]) (by simp[z0b,h3]) (by simp[z0b,h4]) (by simp[z0b,h5]) (by simp[z0b,h6])
theorem w5a {V:List Var} {t:Term} (hV:∀ v∈V,v∈U) (htl:t.length≤20000) (hN:x1q V t):Pure Gam 214 [.sl (t.map eNode) .no] (.bool true):=by
 refine Pure.of rfl u3x rfl rfl rfl (az:=[.sl (t.map eNode) .no]) rfl (by simp[idsL,z7z]) fun D B clk T hB hT=> ?_
 simp only[go_sem,y4w,hB]
 refine z1f (fun m q=>∃ (i:Nat) (acc:List Var) (t3:Tip) (o0 o1 o2 o3 o4:AObj),i≤t.length∧m=t.length - i∧acc.length≤i∧(∀ v∈acc,v∈U)∧q.ts 0= .sl (t.map eNode) .no∧q.ts 3= .sl (acc.map z1h) t3∧q.ts 4= .sl [] .nil∧q.ts 5= .int .i64 (i:Int)∧q.h=D++[o0,o1,o2,o3,o4]∧z9p B 1 o1 t3 2) t.length ⟨0,[], .nil,_,_,_,_,_,by omega,rfl,by simp,by simp,rfl,rfl,rfl,rfl,rfl, .inl rfl⟩ ?_
 rintro m ⟨ts,h,clk⟩ P ⟨i,acc,t3,o0,o1,o2,o3,o4,hi,rfl,hal,hacc,h0,h3,h4,h5,rfl,htip⟩ hnx he hr
 dsimp only at h0 h3 h4 h5
 by_cases hlt:i < t.length
 ·have f1:decide ((i:Int) < (t.length:Int))=true:=by rw[decide_eq_true_iff];omega
  have f2:IntKind.i64.wrap ((i:Int) + 1)=((i + 1:Nat):Int):=z0c (by omega) (by omega)
  have hti:t[i]? =some t[i]:=List.getElem?_eq_getElem hlt
  have hno:=hN t[i] (List.getElem_mem hlt)
  generalize t[i]=n at hti hno
  have f5:decide ((n.op:Int)=5)=false:=by rw[decide_eq_false_iff_not];have:=hno.1;omega
  by_cases h44:n.op=4
  ·obtain⟨v,hv,hvn,hvs⟩:=hno.2 h44
   have f4:decide ((n.op:Int)=4)=true:=by rw[decide_eq_true_iff];omega
   simp only[go_sem,j0c,h0,h3,h4,h5,List.length_map,f1,f4,z2q hti]
   refine u6h hti (by omega) (fun w hw hwn=> ?_) h0 h3 h4 h5 rfl rfl ?_
   ·rw[u6g w (hacc w hw) v (hV v hv) (by rw[hwn,hvn]),hvs]
   clear h0 h3 h4 h5
   intro ts clk h0 h3 h4 h5 h6
   cases hk:acc.any fun v=>decide (v.name=n.name) with
   | true=>
     rw[hk] at h6
     simp only[go_sem,h0,h3,h4,h5,h6,Bool.not_true,f2]
     exact hnx (t.length - (i + 1)) _ (by omega) ⟨i + 1,acc,_,_,_,_,_,_,hlt,rfl,by omega,hacc,h0,h3,h4,rfl,rfl,htip⟩
   | false=>
     rw[hk] at h6
     have e1:(AV.agg [.str n.name, .int .i64 (n.sort:Int)])=z1h v:=by rw[hvn,hvs];rfl
     simp only[go_sem,h0,h3,h4,h5,h6,Bool.not_false,f2,z2q hti]
     rw[e1,show [z1h v]=[v].map z1h from rfl,z0s hB rfl htip z3e z3e (by simp only[List.length_map,List.length_singleton];omega)]
     have happ:acc.map z1h++[z1h v]=(acc++[v]).map z1h:=by simp
     simp only[go_sem,h0,h3,h4,h5,h6,f2,happ]
     exact hnx (t.length - (i + 1)) _ (by omega) ⟨i + 1,acc++[v],_,_,_,_,_,_,hlt,rfl,by simp;omega,fun w hw=>by
      rcases List.mem_append.1 hw with hw | hw
      ·exact hacc w hw
      ·rw[List.mem_singleton.1 hw];exact hV v hv,h0,rfl,h4,rfl,rfl, .inr (.inr ⟨_,rfl,rfl⟩)⟩
  ·have f4:decide ((n.op:Int)=4)=false:=by rw[decide_eq_false_iff_not];omega
   simp only[go_sem,j0c,h0,h3,h4,h5,List.length_map,f1,f2,f4,f5,z2q hti]
   exact hnx (t.length - (i + 1)) _ (by omega) ⟨i + 1,acc,_,_,_,_,_,_,hlt,rfl,by omega,hacc,h0,h3,h4,rfl,rfl,htip⟩
 ·have f1:decide ((i:Int) < (t.length:Int))=false:=by rw[decide_eq_false_iff_not];omega
  simp only[go_sem,j0c,h0,h3,h4,h5,List.length_map,f1]
  refine he _ _ ?_
  simp only[go_sem,h0,h3,h4,h5]
  clear h5 hnx he hr
  refine z1f (fun m q=>∃ j:Nat,j≤acc.length∧m=acc.length - j∧q.ts 3= .sl (acc.map z1h) t3∧q.ts 4= .sl [] .nil∧q.ts 11= .int .i64 (j:Int)∧q.h=D++[o0,o1,o2,o3,o4]) acc.length ⟨0,by omega,rfl,h3,h4,rfl,rfl⟩ ?_
  clear h0 h3 h4
  rintro m ⟨ts,h,clk⟩ P ⟨j,hj,rfl,h3,h4,h11,rfl⟩ hnx he hr
  dsimp only at h3 h4 h11
  by_cases hlt:j < acc.length
  ·have f1:decide ((j:Int) < (acc.length:Int))=true:=by rw[decide_eq_true_iff];omega
   have f2:IntKind.i64.wrap ((j:Int) + 1)=((j + 1:Nat):Int):=z0c (by omega) (by omega)
   simp only[go_sem,x1b,h3,h4,h11,List.length_map,f1]
   refine z2h ?_
   simp only[go_sem,x1a,h3,h4,h11,decide_false,Int.lt_irrefl,f2]
   exact hnx (acc.length - (j + 1)) _ (by omega) ⟨j + 1,hlt,rfl,h3,h4,rfl,rfl⟩
  ·have f1:decide ((j:Int) < (acc.length:Int))=false:=by rw[decide_eq_false_iff_not];omega
   simp only[go_sem,x1b,h3,h4,h11,List.length_map,f1]
   refine he _ _ ?_
   simp only[go_sem,]
   rw[z0e]
   exact hT _
end
section
variable {U:List Var} [UOk U]
theorem k6f {V:List Var} {t:Term} {s d:Nat} (hV:∀ v∈V,v∈U) (htl:t.length≤20000) (hd:d≤256) (h:WF V [s] d t) (hs:1≤s):Pure Gam 144 [z0n t] (nat s):=by
 have p1:=w4z hV htl hd h
 have p2:=w5a hV htl h.names
 refine Pure.of rfl u3v rfl rfl rfl (az:=[.sl (t.map eNode) .no]) rfl (by simp[idsL,z7z]) fun D B clk T hB hT=> ?_
 have e1:decide ((20000:Int) < (t.length:Int))=false:=by rw[decide_eq_false_iff_not];omega
 have e2:decide ((s:Int)=0)=false:=by rw[decide_eq_false_iff_not];omega
 simp only[nat] at p1
 simp only[go_sem,y4u,hB,List.length_map,e1,e2,z0a p1,z0a p2,decide_true,Bool.not_true]
 rw[z0g rfl rfl]
 exact hT _
theorem w5b {B clk i s0:Nat} {H:List AObj} {t:Term} {n:Node} {V:List Var} {ts:Tmps} {ks:List Kf} {Q:Post} (hi:t[i]? =some n) (hl:V.length≤20000)
  (h0:ts 0= .sl (t.map eNode) .no) (h1:ts 1= .int .i64 (s0:Int)) (h2:ts 2= .sl (V.map z1h) .no) (h7:ts 7= .int .i64 (i:Int)) (h8:ts 8= .bool false) (h9:ts 9= .int .i64 0)
  (hQ:∀ (ts':Tmps) (clk':Nat),ts' 0= .sl (t.map eNode) .no→ts' 1= .int .i64 (s0:Int)→ts' 2= .sl (V.map z1h) .no→ts' 7= .int .i64 (i:Int)→ts' 8= .bool (V.any fun v=>decide (v.name=n.name) && decide (v.sort=n.sort))→K Gam B (.exit 2) ks ⟨ts',H,clk'⟩ Q):K Gam B (.loop q8i) ks ⟨ts,H,clk⟩ Q:=by
 refine z1f (fun m q=>∃ j:Nat,j≤V.length∧m=V.length - j∧q.ts 0= .sl (t.map eNode) .no∧q.ts 1= .int .i64 (s0:Int)∧q.ts 2= .sl (V.map z1h) .no∧q.ts 7= .int .i64 (i:Int)∧q.ts 8= .bool ((V.take j).any fun v=>decide (v.name=n.name) && decide (v.sort=n.sort))∧q.ts 9= .int .i64 (j:Int)∧q.h=H) V.length ⟨0,by omega,rfl,h0,h1,h2,h7,h8,h9,rfl⟩ ?_
 clear h0 h1 h2 h7 h8 h9
 rintro m ⟨ts,h,clk⟩ P ⟨j,hj,rfl,h0,h1,h2,h7,h8,h9,rfl⟩ hnx he hr
 dsimp only at h0 h1 h2 h7 h8 h9
 by_cases hlt:j < V.length
 ·have e1:decide ((j:Int) < (V.length:Int))=true:=by rw[decide_eq_true_iff];omega
  have e4:IntKind.i64.wrap ((j:Int) + 1)=((j + 1:Nat):Int):=z0c (by omega) (by omega)
  have ht:V.take (j + 1)=V.take j++[V[j]]:=List.take_succ_eq_append_getElem hlt
  have ha:∀ b,((V.take j).any fun v=>decide (v.name=n.name) && decide (v.sort=n.sort))=b→(b || (decide (V[j].name=n.name) && decide (V[j].sort=n.sort)))=((V.take (j + 1)).any fun v=>decide (v.name=n.name) && decide (v.sort=n.sort)):=fun b hb=>by
   rw[ht,List.any_append,hb]
   simp
  cases hb:(V.take j).any fun v=>decide (v.name=n.name) && decide (v.sort=n.sort) with
  | true=>
    have ha:=ha _ hb
    rw[hb] at h8
    simp only[go_sem,h0,h1,h2,h7,h8,h9,q8i,nat,List.length_map,e1,e4]
    exact hnx (V.length - (j + 1)) _ (by omega) ⟨j + 1,hlt,rfl,h0,h1,h2,h7,by rw[←ha];rfl,rfl,rfl⟩
  | false=>
    have ha:=ha _ hb
    rw[hb] at h8
    by_cases hnm:V[j].name=n.name
    ·have e2:decide (V[j].name=n.name)=true:=by simp[hnm]
     have e3:decide ((V[j].sort:Int)=(n.sort:Int))=decide (V[j].sort=n.sort):=by rw[decide_eq_decide];omega
     simp only[go_sem,h0,h1,h2,h7,h8,h9,q8i,nat,List.length_map,e1,e2,e3,z5n hlt,z2q hi,e4]
     exact hnx (V.length - (j + 1)) _ (by omega) ⟨j + 1,hlt,rfl,h0,h1,h2,h7,by rw[←ha,e2];simp[z0b],rfl,rfl⟩
    ·have e2:decide (V[j].name=n.name)=false:=by simp[hnm]
     simp only[go_sem,h0,h1,h2,h7,h8,h9,q8i,nat,List.length_map,e1,e2,z5n hlt,z2q hi,e4]
     exact hnx (V.length - (j + 1)) _ (by omega) ⟨j + 1,hlt,rfl,h0,h1,h2,h7,by rw[←ha,e2];simp[z0b],rfl,rfl⟩
 ·have e1:decide ((j:Int) < (V.length:Int))=false:=by rw[decide_eq_false_iff_not];omega
  rw[List.take_of_length_le (by omega)] at h8
  simp only[go_sem,h0,h1,h2,h7,h8,h9,q8i,List.length_map,e1]
  refine he _ _ ?_
  exact hQ _ _ (by simp[z0b,h0]) (by simp[z0b,h1]) (by simp[z0b,h2]) (by simp[z0b,h7]) (by simp[z0b,h8])
theorem j4c {V:List Var} {t:Term} {s d:Nat} (hV:∀ v∈V,v∈U) (hVl:V.length≤1000) (htl:t.length≤20000) (hd:d≤256) (h:WF V [s] d t) (hs:1≤s):Pure Gam 149 [z0n t,nat s, .sl (V.map z1h) .no] (.bool true):=by
 have p1:=k6f hV htl hd h hs
 have hN:=h.names
 refine Pure.of rfl u3u rfl rfl rfl (az:=[.sl (t.map eNode) .no,nat s, .sl (V.map z1h) .no]) rfl (by simp[idsL,z7z,z3h,z5v]) fun D B clk T hB hT=> ?_
 have e1:decide ((s:Int)=0)=false:=by rw[decide_eq_false_iff_not];omega
 simp only[nat,z0n] at p1
 simp only[go_sem,y4t,hB,nat,e1,z0a p1,decide_true,Bool.not_true]
 refine z1f (fun m q=>∃ i:Nat,i≤t.length∧m=t.length - i∧q.ts 0= .sl (t.map eNode) .no∧q.ts 1= .int .i64 (s:Int)∧q.ts 2= .sl (V.map z1h) .no∧q.ts 7= .int .i64 (i:Int)∧q.h=D) t.length ⟨0,by omega,rfl,rfl,rfl,rfl,rfl,by simp⟩ ?_
 rintro m ⟨ts,h',clk⟩ P ⟨i,hi,rfl,h0,h1,h2,h7,rfl⟩ hnx he hr
 dsimp only at h0 h1 h2 h7
 by_cases hlt:i < t.length
 ·have f1:decide ((i:Int) < (t.length:Int))=true:=by rw[decide_eq_true_iff];omega
  have f2:IntKind.i64.wrap ((i:Int) + 1)=((i + 1:Nat):Int):=z0c (by omega) (by omega)
  have hti:t[i]? =some t[i]:=List.getElem?_eq_getElem hlt
  have hno:=hN t[i] (List.getElem_mem hlt)
  generalize t[i]=n at hti hno
  have f5:decide ((n.op:Int)=5)=false:=by rw[decide_eq_false_iff_not];have:=hno.1;omega
  by_cases h44:n.op=4
  ·obtain⟨v,hv,hvn,hvs⟩:=hno.2 h44
   have f4:decide ((n.op:Int)=4)=true:=by rw[decide_eq_true_iff];omega
   simp only[go_sem,j0b,h0,h1,h2,h7,List.length_map,f1,f4,f5,z2q hti,Bool.not_true]
   refine w5b hti (by omega) h0 h1 h2 h7 rfl rfl ?_
   clear h0 h1 h2 h7
   intro ts clk h0 h1 h2 h7 h8
   have hk:(V.any fun v=>decide (v.name=n.name) && decide (v.sort=n.sort))=true:=List.any_eq_true.2 ⟨v,hv,by simp[hvn,hvs]⟩
   rw[hk] at h8
   simp only[go_sem,h0,h1,h2,h7,h8,Bool.not_true,f2]
   exact hnx (t.length - (i + 1)) _ (by omega) ⟨i + 1,hlt,rfl,h0,h1,h2,rfl,rfl⟩
  ·have f4:decide ((n.op:Int)=4)=false:=by rw[decide_eq_false_iff_not];omega
   simp only[go_sem,j0b,h0,h1,h2,h7,List.length_map,f1,f2,f4,f5,z2q hti,Bool.not_false]
   exact hnx (t.length - (i + 1)) _ (by omega) ⟨i + 1,hlt,rfl,h0,h1,h2,rfl,rfl⟩
 ·have f1:decide ((i:Int) < (t.length:Int))=false:=by rw[decide_eq_false_iff_not];omega
  simp only[go_sem,j0b,h0,h1,h2,h7,List.length_map,f1]
  refine he _ _ ?_
  simp only[go_sem,]
  rw[z0e]
  exact hT _
end
def q4g (ps:List Func) (nm:List Nat):Int:=match ps.findIdx? (fun p=>decide (p.name=nm)) with
 | some i=>(i:Int)
 | none=> -1
theorem q5b {ps:List Func} {nm:List Nat} {i:Nat} (hi:i < ps.length) (h:ps[i].name=nm) (hn:∀ p∈ps.take i,p.name≠nm):q4g ps nm=(i:Int):=by
 have:ps.findIdx? (fun p=>decide (p.name=nm))=some i:=by
  rw[List.findIdx?_eq_some_iff_getElem]
  refine⟨hi,by simp[h],fun j hj=> ?_⟩
  have:=hn ps[j] (List.mem_take_iff_getElem.2 ⟨j,by omega,rfl⟩)
  simp[this]
 rw[q4g,this]
theorem q1y {ps:List Func} {nm:List Nat} (hn:∀ p∈ps,p.name≠nm):q4g ps nm= -1:=by
 have:ps.findIdx? (fun p=>decide (p.name=nm))=none:=by
  rw[List.findIdx?_eq_none_iff]
  intro p hp
  simp[hn p hp]
 rw[q4g,this]
theorem q8l {s:Sys} {nm:List Nat} (hl:s.preds.length≤1000):Pure Gam 106 [z2a s, .str nm] (.int .i64 (q4g s.preds nm)):=by
 refine Pure.of rfl g2i rfl rfl rfl (az:=[z2a s, .str nm]) rfl (by simp[idsL,z2v,AV.ids]) fun D B clk T hB hT=> ?_
 simp only[go_sem,u8q,hB,z2a]
 refine z1f (fun m q=>∃ (i g:Nat),i≤s.preds.length∧m=s.preds.length - i∧(∀ p∈s.preds.take i,p.name≠nm)∧q.ts 1= .str nm∧q.ts 2= .ptr (B + 0) g 0 0∧q.ts 5= .int .i64 (i:Int)∧q.h=D++[.blk g [.agg [.sl (s.preds.map z0y) .no, .sl (s.clauses.map z0h) .no]] false false 0]) s.preds.length ⟨0,_,by omega,rfl,by simp,rfl,rfl,rfl,rfl⟩ ?_
 rintro m ⟨ts,h',clk⟩ P ⟨i,g,hi,rfl,hno,h1,h2,h5,rfl⟩ hnx he hr
 dsimp only at h1 h2 h5
 by_cases hlt:i < s.preds.length
 ·have f1:decide ((i:Int) < (s.preds.length:Int))=true:=by rw[decide_eq_true_iff];omega
  have f2:IntKind.i64.wrap ((i:Int) + 1)=((i + 1:Nat):Int):=z0c (by omega) (by omega)
  have ht:s.preds.take (i + 1)=s.preds.take i++[s.preds[i]]:=List.take_succ_eq_append_getElem hlt
  by_cases hnm:s.preds[i].name=nm
  ·have e2:decide (s.preds[i].name=nm)=true:=by simp[hnm]
   simp only[go_sem,k4o,h1,h2,h5,hB,List.length_map,f1,e2,z8o hlt]
   refine hr _ ?_
   rw[q5b hlt hnm hno] at hT
   simp only[go_sem,]
   rw[z0g rfl rfl]
   exact hT _
  ·have e2:decide (s.preds[i].name=nm)=false:=by simp[hnm]
   simp only[go_sem,k4o,h1,h2,h5,hB,List.length_map,f1,f2,e2,z8o hlt]
   refine hnx (s.preds.length - (i + 1)) _ (by omega) ⟨i + 1,g,hlt,rfl,fun p hp=> ?_,h1,h2,rfl,rfl⟩
   rw[ht] at hp
   rcases List.mem_append.1 hp with hp | hp
   ·exact hno p hp
   ·rw[List.mem_singleton.1 hp];exact hnm
 ·have f1:decide ((i:Int) < (s.preds.length:Int))=false:=by rw[decide_eq_false_iff_not];omega
  rw[List.take_of_length_le (by omega)] at hno
  simp only[go_sem,k4o,h1,h2,h5,hB,List.length_map,f1]
  refine he _ _ ?_
  rw[q1y hno] at hT
  simp only[go_sem,]
  rw[z0g rfl rfl]
  exact hT _
theorem k6g {V:List Var} {nm:List Nat} {u:Tip} (hl:V.length≤1000) (hno:∀ v∈V,v.name≠nm):Pure Gam 170 [.sl (V.map z1h) u, .str nm] (.bool false):=by
 refine Pure.of rfl u4e rfl rfl rfl (az:=[.sl (V.map z1h) .no, .str nm]) rfl (by simp[idsL,z5v,AV.ids,z0d z2z]) fun D B clk T hB hT=> ?_
 simp only[go_sem,y5a,hB]
 refine z1f (fun m q=>∃ (i:Nat),i≤V.length∧m=V.length - i∧q.ts 0= .sl (V.map z1h) .no∧q.ts 1= .str nm∧q.ts 5= .int .i64 (i:Int)∧q.h=D) V.length ⟨0,by omega,rfl,rfl,rfl,rfl,by simp⟩ ?_
 rintro m ⟨ts,h',clk⟩ P ⟨i,hi,rfl,h0,h1,h5,rfl⟩ hnx he hr
 dsimp only at h0 h1 h5
 by_cases hlt:i < V.length
 ·have f1:decide ((i:Int) < (V.length:Int))=true:=by rw[decide_eq_true_iff];omega
  have f2:IntKind.i64.wrap ((i:Int) + 1)=((i + 1:Nat):Int):=z0c (by omega) (by omega)
  have e2:decide (V[i].name=nm)=false:=by simp[hno _ (List.getElem_mem hlt)]
  simp only[go_sem,j6l,h0,h1,h5,hB,List.length_map,f1,f2,e2,z5n hlt]
  exact hnx (V.length - (i + 1)) _ (by omega) ⟨i + 1,hlt,rfl,h0,h1,rfl,rfl⟩
 ·have f1:decide ((i:Int) < (V.length:Int))=false:=by rw[decide_eq_false_iff_not];omega
  simp only[go_sem,j6l,h0,h1,h5,hB,List.length_map,f1]
  refine he _ _ ?_
  simp only[go_sem,]
  rw[z0e]
  exact hT _
theorem q1f {ps:List Func} {f:Func} (hp:PrOk ps) (hf:f∈ps):∃ k,∃ h:k < ps.length,ps[k]=f∧q4g ps f.name=(k:Int):=by
 obtain⟨k,hk,rfl⟩:=List.mem_iff_getElem.1 hf
 refine⟨k,hk,rfl,q5b hk rfl fun p hpm e=> ?_⟩
 have h3:=hp.nodup
 have h4:((ps.take (k + 1)).map (·.name)).Nodup:=h3.sublist ((List.take_sublist _ _).map _)
 rw[List.take_succ_eq_append_getElem hk,List.map_append,List.nodup_append] at h4
 exact h4.2.2 _ (List.mem_map.2 ⟨p,hpm,rfl⟩) _ (by simp) e
theorem w5c {s:Sys} {c:Clause} {a:App} (hs:SysV s) (hV:∀ v∈c.vars,v∈z1z) (hVl:c.vars.length≤1000) (ha:AppOk s.preds c.vars a):Pure Gam 148 [z2a s,z0h c,z3u a] (.bool true):=by
 obtain⟨f,hf,hpn,hal,hz⟩:=ha
 obtain⟨k,hk,hkf,hpa⟩:=q1f hs.pr hf
 have hfl:=(hs.pr.args f hf).1
 have hpl:s.preds.length≤1000:=by have:=hs.preds.length_le;simp[allPreds] at this;omega
 have p1:=q8l (s:=s) (nm:=a.pred) hpl
 rw[hpn,hpa] at p1
 simp only[z2a] at p1
 refine Pure.of rfl u3s rfl rfl rfl (az:=[z2a s,z0h c,z3u a]) rfl (by simp[idsL,z2v,z4k,z6d]) fun D B clk T hB hT=> ?_
 have e1:decide ((k:Int) < 0)=false:=by rw[decide_eq_false_iff_not];omega
 simp only[go_sem,y4s,hB,z2a,z0h,z3u,hpn,List.length_map,z0a p1,e1,hal,z8o hk,hkf,decide_true,Bool.not_true]
 refine z1f (fun m q=>∃ (i g0 g1 g2:Nat),i≤f.args.length∧m=f.args.length - i∧q.ts 3= .ptr (B + 0) g0 0 0∧q.ts 4= .ptr (B + 1) g1 0 0∧q.ts 5= .ptr (B + 2) g2 0 0∧q.ts 7= .int .i64 (k:Int)∧q.ts 8= .int .i64 (i:Int)∧q.h=D++[.blk g0 [.agg [.sl (s.preds.map z0y) .no, .sl (s.clauses.map z0h) .no]] false false 0, .blk g1 [.agg [.sl (c.vars.map z1h) .no, .sl (c.body.map z3u) .no,z0n c.guard, .str c.head.pred, .sl (c.head.args.map z0n) .no]] false false 0, .blk g2 [.agg [.str f.name, .sl (a.args.map z0n) .no]] false false 0]) f.args.length ⟨0,_,_,_,by omega,rfl,rfl,rfl,rfl,rfl,rfl,rfl⟩ ?_
 rintro m ⟨ts,h',clk⟩ P ⟨i,g0,g1,g2,hi,rfl,h3,h4,h5,h7,h8,rfl⟩ hnx he hr
 dsimp only at h3 h4 h5 h7 h8
 by_cases hlt:i < f.args.length
 ·have f1:decide ((i:Int) < (f.args.length:Int))=true:=by rw[decide_eq_true_iff];omega
  have f2:IntKind.i64.wrap ((i:Int) + 1)=((i + 1:Nat):Int):=z0c (by omega) (by omega)
  have hlt2:i < a.args.length:=by omega
  have hg:=hz (f.args[i],a.args[i]) (by
   rw[List.mem_iff_getElem]
   exact⟨i,by simp;omega,by simp⟩)
  have p2:=j4c hV hVl (by have:=hg.2.1;omega) (by decide) hg.1 hg.2.2.1
  simp only[nat] at p2
  simp only[go_sem,j6h,h3,h4,h5,h7,h8,hB,List.length_map,hal,f1,f2,q1s hlt2,z8o hk,hkf,x0w hlt,nat,z0a p2,Bool.not_true]
  exact hnx (f.args.length - (i + 1)) _ (by omega) ⟨i + 1,g0,g1,g2,hlt,rfl,h3,h4,h5,h7,rfl,rfl⟩
 ·have f1:decide ((i:Int) < (f.args.length:Int))=false:=by rw[decide_eq_false_iff_not];omega
  simp only[go_sem,j6h,h3,h4,h5,h7,h8,hB,List.length_map,hal,f1]
  refine he _ _ ?_
  simp only[go_sem,]
  rw[z0e]
  exact hT _
theorem x1z {V:List Var} (h:List.Sublist V z1z):V.length≤8:=by have:=h.length_le;simpa [z1z] using this
theorem w5d {s:Sys} {V:List Var} (hs:SysV s) (hV:List.Sublist V z1z):Pure Gam 147 [z2a s, .sl (V.map z1h) .no] (.bool true):=by
 have hVl:=x1z hV
 have hnd:(V.map (·.name)).Nodup:=(hV.map _).nodup (by decide)
 have hpl:s.preds.length≤1000:=by have:=hs.preds.length_le;simp[allPreds] at this;omega
 refine Pure.of rfl u3r rfl rfl rfl (az:=[z2a s, .sl (V.map z1h) .no]) rfl (by simp[idsL,z2v,z5v]) fun D B clk T hB hT=> ?_
 simp only[go_sem,y4r,hB,z2a]
 refine z1f (fun m q=>∃ (i g0:Nat),i≤V.length∧m=V.length - i∧q.ts 1= .sl (V.map z1h) .no∧q.ts 2= .ptr (B + 0) g0 0 0∧q.ts 5= .int .i64 (i:Int)∧q.h=D++[.blk g0 [.agg [.sl (s.preds.map z0y) .no, .sl (s.clauses.map z0h) .no]] false false 0]) V.length ⟨0,_,by omega,rfl,rfl,rfl,rfl,rfl⟩ ?_
 rintro m ⟨ts,h',clk⟩ P ⟨i,g0,hi,rfl,h1,h2,h5,rfl⟩ hnx he hr
 dsimp only at h1 h2 h5
 by_cases hlt:i < V.length
 ·have f1:decide ((i:Int) < (V.length:Int))=true:=by rw[decide_eq_true_iff];omega
  have f2:IntKind.i64.wrap ((i:Int) + 1)=((i + 1:Nat):Int):=z0c (by omega) (by omega)
  have hv:V[i]∈z1z:=hV.mem (List.getElem_mem hlt)
  have hnew:∀ v∈V.take i,v.name≠V[i].name:=fun v hv e=>by
   have h4:((V.take (i + 1)).map (·.name)).Nodup:=hnd.sublist ((List.take_sublist _ _).map _)
   rw[List.take_succ_eq_append_getElem hlt,List.map_append,List.nodup_append] at h4
   exact h4.2.2 _ (List.mem_map.2 ⟨v,hv,rfl⟩) _ (by simp) e
  have hso:=q6c hv
  have p1:=k6b hv
  have p2:=j3x hso.1 hso.2
  have p3:=k6g (u:= .no) (V:=V.take i) (nm:=V[i].name) (by simp;omega) hnew
  have p4:=q8l (s:=s) (nm:=V[i].name) hpl
  rw[q1y fun p hp=>hs.apart p hp _ hv] at p4
  simp only[nat,z2a] at p2 p4
  have e3:∀ h,slV h (some 2) (.sl (V.map z1h) .no) none (some (.int .i64 (i:Int))) none=some (.sl ((V.take i).map z1h) .no,h):=fun h=>by
   have hh:z4s 2 (V.map z1h)=true:=by cases V <;> rfl
   rw[q9b (by simp;omega) hh,List.map_take];simp
  simp only[go_sem,j6g,h1,h2,h5,hB,List.length_map,f1,f2,z5n hlt,nat,z0a p1,z0a p2,e3,z0a p3,z0a p4,Bool.not_true,Bool.not_false,Int.reduceLE,decide_false]
  exact hnx (V.length - (i + 1)) _ (by omega) ⟨i + 1,g0,hlt,rfl,h1,h2,rfl,rfl⟩
 ·have f1:decide ((i:Int) < (V.length:Int))=false:=by rw[decide_eq_false_iff_not];omega
  simp only[go_sem,j6g,h1,h2,h5,hB,List.length_map,f1]
  refine he _ _ ?_
  simp only[go_sem,]
  rw[z0e]
  exact hT _
end Go.Proofs.YtkollgjffkdliaaGreatDoor.Am
