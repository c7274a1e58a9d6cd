/- Rational numbers and their canonical texts: plain facts Values of terms: plain facts The value of a term that is well sorted: plain facts Walking: the reference's tests of numbers and of the fields of -/
import Derived.Test.YtkollgjffkdliaaGreatDoorM29
open Bool renaming not_false → j5,not_true → z7
open Int renaming cast_ofNat_Int → z9,natAbs_natCast → m8,reduceEq → z8,reduceLT → d9
open List renaming cons_append → d4,getElem?_eq_getElem → u9,getElem_mem → j9,length_append → y5,length_cons → u6,length_map → z6,length_nil → d5,length_singleton → w0,map_append → v5,map_nil → w7,mem_append → j6,mem_cons → y3,mem_filter → l4,mem_iff_getElem → t4,mem_map → y8,mem_singleton → u7,replicate → j1,take_of_length_le → b7,take_sublist → s6,take_succ_eq_append_getElem → w8
open Nat renaming gcd → y7,le_trans → w9,zero_add → y4
set_option linter.all false
namespace Go.Proofs.YtkollgjffkdliaaGreatDoor.Am
open Go
set_option maxRecDepth 100000
structure Qn where
 neg:Bool
 n:Nat
 d:Nat
def Qn.text (q:Qn):List Nat:=z3o q.neg q.n q.d
structure Qn.C (q:Qn):Prop where
 neg:q.neg=true→q.n≠0
 pos:0 < q.d
 red:y7 q.n q.d=1
def q3l (neg:Bool) (a b:Nat):Qn:=⟨neg && !decide (a / y7 a b=0),a / y7 a b,b / y7 a b⟩
theorem j6n {neg:Bool} {a b:Nat} (hb:0 < b):(q3l neg a b).C:=by
 have hg:0 < y7 a b:=Nat.gcd_pos_of_pos_right _ hb
 refine⟨fun h=> ?_,Nat.div_pos (Nat.gcd_le_right a hb) hg,by simp only[q3l];rw[Nat.gcd_div (Nat.gcd_dvd_left a b) (Nat.gcd_dvd_right a b),Nat.div_self hg]⟩
 simp only[q3l,Bool.and_eq_true,Bool.not_eq_true',z03] at h
 exact h.2
theorem j6o {neg:Bool} {a:Nat}:q3l neg a 1=⟨neg && !decide (a=0),a,1⟩:=by simp[q3l]
def z4g (z:Int):Qn:=⟨decide (z < 0),z.natAbs,1⟩
theorem x4p {z:Int}:(z4g z).C:=⟨by simp[z4g];omega,by simp[z4g],by simp[z4g]⟩
theorem z1z {z:Int}:(z4g z).text=z0i z:=(j5y z).symm
def k0p (x:Qn):Qn:=⟨!x.neg && !decide (x.n=0),x.n,x.d⟩
theorem v7g {x:Qn} (h:x.C):(k0p x).C:=⟨by simp[k0p],h.pos,h.red⟩
def v1e (x y:Qn):Qn:=q3l (!(x.neg==y.neg)) (x.n * y.n) (x.d * y.d)
def j6p (x y:Qn):Qn:=if x.neg=y.neg then q3l x.neg (x.n * y.d + y.n * x.d) (x.d * y.d) else if y.n * x.d≤x.n * y.d then q3l x.neg (x.n * y.d - y.n * x.d) (x.d * y.d) else q3l y.neg (y.n * x.d - x.n * y.d) (x.d * y.d)
def k7b (x y:Qn):Qn:=j6p x (k0p y)
theorem y7y {x y:Qn} (hx:x.C) (hy:y.C):(v1e x y).C:=j6n (Nat.mul_pos hx.pos hy.pos)
theorem v7h {x y:Qn} (hx:x.C) (hy:y.C):(j6p x y).C:=by
 have h:=Nat.mul_pos hx.pos hy.pos
 unfold j6p
 split
 ·exact j6n h
 ·split <;> exact j6n h
theorem j6q {a b:Int}:v1e (z4g a) (z4g b)=z4g (a * b):=by
 simp only[v1e,z4g,Nat.mul_one,j6o,Int.natAbs_mul,Qn.mk.injEq,and_true]
 rcases Int.lt_trichotomy a 0 with ha | ha | ha <;> rcases Int.lt_trichotomy b 0 with hb | hb | hb
 ·have:=Int.mul_pos_of_neg_of_neg ha hb
  have h1:¬ a * b < 0:=by omega
  simp[ha,hb,h1]
 ·subst hb;simp
 ·have:=Int.mul_neg_of_neg_of_pos ha hb
  have h1:¬ b < 0:=by omega
  have h2:a≠0:=by omega
  have h3:b≠0:=by omega
  have h4:¬ a.natAbs * b.natAbs=0:=Nat.mul_ne_zero (by omega) (by omega)
  simp[ha,this,h1,h4]
 ·subst ha;simp
 ·subst ha;simp
 ·subst ha;simp
 ·have:=Int.mul_neg_of_pos_of_neg ha hb
  have h1:¬ a < 0:=by omega
  have h2:a≠0:=by omega
  have h3:b≠0:=by omega
  have h4:¬ a.natAbs * b.natAbs=0:=Nat.mul_ne_zero (by omega) (by omega)
  simp[hb,this,h1,h4]
 ·subst hb;simp
 ·have:=Int.mul_pos ha hb
  have h1:¬ a * b < 0:=by omega
  have h2:¬ a < 0:=by omega
  have h3:¬ b < 0:=by omega
  simp[h1,h2,h3]
theorem v1f {a:Int}:k0p (z4g a)=z4g (-a):=by
 simp only[k0p,z4g,Int.natAbs_neg,Qn.mk.injEq,and_true]
 by_cases h:a < 0
 ·have:¬ -a < 0:=by omega
  simp[h]
  omega
 ·by_cases h0:a=0
  ·subst h0;simp
  ·have: -a < 0:=by omega
   simp[h,h0]
   omega
theorem j6r {a b:Int}:j6p (z4g a) (z4g b)=z4g (a + b):=by
 simp only[j6p,z4g,Nat.mul_one,j6o]
 by_cases ha:a < 0 <;> by_cases hb:b < 0 <;> simp only[ha,hb,decide_true,decide_false,reduceCtorEq,if_true,if_false]
 ·have h1:a + b < 0:=by omega
  have h2:a.natAbs + b.natAbs=(a + b).natAbs:=by omega
  have h3:(a + b).natAbs≠0:=by omega
  simp[h1,h2,h3]
 ·split
  ·have h2:a.natAbs - b.natAbs=(a + b).natAbs:=by omega
   rw[h2]
   by_cases h1:a + b < 0 <;> simp[h1] <;> omega
  ·have h2:b.natAbs - a.natAbs=(a + b).natAbs:=by omega
   rw[h2]
   have h1:¬ a + b < 0:=by omega
   simp[h1]
 ·split
  ·have h2:a.natAbs - b.natAbs=(a + b).natAbs:=by omega
   rw[h2]
   have h1:¬ a + b < 0:=by omega
   simp[h1]
  ·have h2:b.natAbs - a.natAbs=(a + b).natAbs:=by omega
   rw[h2]
   have h1:a + b < 0:=by omega
   simp[h1];omega
 ·have h1:¬ a + b < 0:=by omega
  have h2:a.natAbs + b.natAbs=(a + b).natAbs:=by omega
  simp[h1,h2]
structure Qn.L (q:Qn) (N D:Nat):Prop where
 n:(dec q.n).length≤N
 d:(dec q.d).length≤D
theorem q7e {n k:Nat} (hk:0 < k):(dec n).length≤k↔n < 10 ^ k:=by
 refine⟨fun h=> ?_,z7d hk⟩
 have h1:=z4v (s:=dec n) (z1l n)
 rw[z1s] at h1
 exact Nat.lt_of_lt_of_le h1 (Nat.pow_le_pow_right (by omega) h)
theorem x6y (n:Nat):0 < (dec n).length:=List.length_pos_iff.2 (z7x n)
theorem z6s {a b A B:Nat} (ha:(dec a).length≤A) (hb:(dec b).length≤B):(dec (a * b)).length≤A + B:=by
 have h1:=x6y a
 have h2:=x6y b
 have ha':=(q7e (by omega)).1 ha
 have hb':=(q7e (by omega)).1 hb
 refine (q7e (by omega)).2 ?_
 rw[Nat.pow_add]
 exact Nat.mul_lt_mul'' ha' hb'
theorem x6z {a b A:Nat} (ha:(dec a).length≤A) (hb:(dec b).length≤A):(dec (a + b)).length≤A + 1:=by
 have h1:=x6y a
 have ha':=(q7e (by omega)).1 ha
 have hb':=(q7e (by omega)).1 hb
 refine (q7e (by omega)).2 ?_
 rw[Nat.pow_succ]
 omega
theorem j3e {a b A:Nat} (ha:(dec a).length≤A):(dec (a / b)).length≤A:=w9 (z5a (Nat.div_le_self a b)) ha
theorem x7a {a b A:Nat} (ha:(dec a).length≤A):(dec (a - b)).length≤A:=w9 (z5a (Nat.sub_le a b)) ha
theorem q8f {neg:Bool} {a b N D:Nat} (ha:(dec a).length≤N) (hb:(dec b).length≤D):(q3l neg a b).L N D:=⟨j3e ha,j3e hb⟩
theorem y7z {x y:Qn} {N D N' D':Nat} (hx:x.L N D) (hy:y.L N' D'):(v1e x y).L (N + N') (D + D'):=q8f (z6s hx.n hy.n) (z6s hx.d hy.d)
theorem v7i {x y:Qn} {N D N' D' M:Nat} (hx:x.L N D) (hy:y.L N' D') (h1:N + D'≤M) (h2:N' + D≤M):(j6p x y).L (M + 1) (D + D'):=by
 have a1:=w9 (z6s hx.n hy.d) h1
 have a2:=w9 (z6s hy.n hx.d) h2
 have a3:=z6s hx.d hy.d
 unfold j6p
 split
 ·exact q8f (x6z a1 a2) a3
 ·split
  ·exact q8f (x7a (Nat.le_succ_of_le a1)) a3
  ·exact q8f (x7a (Nat.le_succ_of_le a2)) a3
theorem y8a {x:Qn} {N D:Nat} (h:x.L N D):(k0p x).L N D:=⟨h.n,h.d⟩
section
inductive Val where
 | bool (b:Bool)
 | num (s:Nat) (q:Qn)
 | arr (z:Int) (l:List (Int×Int))
def Val.b:Val→Bool
 | .bool b=>b
 | _=>false
def Val.s:Val→Nat
 | .bool _=>1
 | .num s _=>s
 | .arr _ _=>4
def Val.q:Val→Qn
 | .num _ q=>q
 | .arr z _=>z4g z
 | .bool _=>z4g 0
def Val.t:Val→List Nat
 | .num _ q=>q.text
 | .arr z _=>z0i z
 | .bool _=>[]
def Val.l:Val→List (Int×Int)
 | .arr _ l=>l
 | _=>[]
def eV (v:Val):AV:=value v.s v.b v.t (z2s (v.l.map fun p=>z0i p.1)) (z2s (v.l.map fun p=>z0i p.2))
def Qn.z (q:Qn):Int:=if q.neg then -(q.n:Int) else q.n
theorem Qn.int {q:Qn} (h:q.C) (hd:q.d=1):q=z4g q.z:=by
 obtain⟨neg,n,d⟩:=q
 dsimp only at hd
 subst hd
 have:=h.neg
 cases neg
 ·simp[z4g,Qn.z]
 ·simp[z4g,Qn.z] at *;omega
theorem Qn.z_len {q:Qn}:q.z.natAbs=q.n:=by
 unfold Qn.z
 split <;> omega
def VOk (m s:Nat):Val→Prop
 | .bool _=>s=1
 | .num t q=>s=t∧(t=2∨t=3)∧q.C∧q.L (50 * m) (4 * m)∧(t=2→q.d=1)
 | .arr z l=>s=4∧(dec z.natAbs).length≤50 * m∧l.Pairwise (fun p q=>p.1 < q.1)∧(∀ p∈l,p.2≠z∧(dec p.1.natAbs).length≤50 * m∧(dec p.2.natAbs).length≤50 * m)∧l.length≤m
theorem Qn.L.up {q:Qn} {N D N' D':Nat} (h:q.L N D) (h1:N≤N') (h2:D≤D'):q.L N' D':=⟨w9 h.n h1,w9 h.d h2⟩
theorem VOk.up {m m' s:Nat} {v:Val} (h:VOk m s v) (hm:m≤m'):VOk m' s v:=by
 cases v with
 | bool b=>exact h
 | num t q=>exact⟨h.1,h.2.1,h.2.2.1,h.2.2.2.1.up (by omega) (by omega),h.2.2.2.2⟩
 | arr z l=>exact⟨h.1,by have:=h.2.1;omega,h.2.2.1,fun p hp=>⟨(h.2.2.2.1 p hp).1,by have:=(h.2.2.2.1 p hp).2.1;omega,by have:=(h.2.2.2.1 p hp).2.2;omega⟩,by have:=h.2.2.2.2;omega⟩
theorem VOk.s {m s:Nat} {v:Val} (h:VOk m s v):v.s=s:=by
 cases v with
 | bool b=>exact h.symm
 | num t q=>exact h.1.symm
 | arr z l=>exact h.1.symm
theorem VOk.bool {m:Nat} {v:Val} (h:VOk m 1 v):∃ b,v= .bool b:=by
 cases v with
 | bool b=>exact⟨b,rfl⟩
 | num t q=>have h1:=h.1;have h2:=h.2.1;omega
 | arr z l=>have h1:=h.1;omega
theorem VOk.numb {m s:Nat} {v:Val} (h:VOk m s v) (hs:s=2∨s=3):∃ q,v= .num s q∧q.C∧q.L (50 * m) (4 * m)∧(s=2→q.d=1):=by
 cases v with
 | bool b=>have h1:s=1:=h;omega
 | num t q=>
   obtain⟨rfl,_,h1,h2,h3⟩:=h
   exact⟨q,rfl,h1,h2,h3⟩
 | arr z l=>have h1:=h.1;omega
theorem VOk.int {m:Nat} {v:Val} (h:VOk m 2 v):∃ z:Int,v= .num 2 (z4g z)∧(dec z.natAbs).length≤50 * m:=by
 obtain⟨q,rfl,h1,h2,h3⟩:=h.numb (.inl rfl)
 refine⟨q.z,by rw[←Qn.int h1 (h3 rfl)],by rw[Qn.z_len];exact h2.n⟩
theorem VOk.of_int {m:Nat} {z:Int} (hm:1≤m) (h:(dec z.natAbs).length≤50 * m):VOk m 2 (.num 2 (z4g z)):=⟨rfl, .inl rfl,x4p,⟨h,by show (dec 1).length≤4 * m;rw[z2h];simp;omega⟩,fun _=>rfl⟩
theorem VOk.array {m:Nat} {v:Val} (h:VOk m 4 v):∃ z l,v= .arr z l:=by
 cases v with
 | bool b=>have h1:4=1:=h;omega
 | num t q=>have h1:=h.1;have h2:=h.2.1;omega
 | arr z l=>exact⟨z,l,rfl⟩
inductive VsOk:List Nat→Nat→List Val→Prop
 | nil {M:Nat}:VsOk [] M []
 | cons {m M s:Nat} {ss:List Nat} {v:Val} {vs:List Val} (h:VOk m s v) (hr:VsOk ss M vs):VsOk (s::ss) (m + M) (v::vs)
theorem VsOk.len {ss:List Nat} {M:Nat} {vs:List Val} (h:VsOk ss M vs):vs.length=ss.length:=by
 induction h with
 | nil=>rfl
 | cons h hr ih=>simp[ih]
noncomputable section
open Classical
def v1g (s:Nat) (a:List Nat):Qn:=if h:∃ q:Qn,q.C∧q.text=a∧q.L 45 1∧(s=2→q.d=1) then h.choose else z4g 0
theorem j3f {s:Nat} {a:List Nat} (h:∃ q:Qn,q.C∧q.text=a∧q.L 45 1∧(s=2→q.d=1)):(v1g s a).C∧(v1g s a).text=a∧(v1g s a).L 45 1∧(s=2→(v1g s a).d=1):=by
 unfold v1g
 rw[dif_pos h]
 exact h.choose_spec
def atA (z:Int) (l:List (Int×Int)) (i:Int):Int:=((l.find? fun p=>decide (p.1=i)).map (·.2)).getD z
def v1h (z:Int) (l:List (Int×Int)) (i w:Int):List (Int×Int):=(l.filter fun p=>decide (p.1 < i))++((if w=z then [] else [(i,w)])++l.filter fun p=>decide (i < p.1))
def ltQ (x y:Qn):Bool:=(k7b x y).neg
def leQ (x y:Qn):Bool:=(k7b x y).neg || decide ((k7b x y).n=0)
def at0 (vs:List Val) (i:Nat):Val:=vs.getD i (.bool false)
def w5c (env:List (List Nat×Val)) (n:List Nat):Val:=((env.find? fun p=>decide (p.1=n)).map (·.2)).getD (.bool false)
def v1i (a b:Val):Bool:=decide (a.s=b.s) && (decide (a.b=b.b) && (decide (a.t=b.t) && (decide ((a.l.map fun p=>z0i p.1)=b.l.map fun p=>z0i p.1) && decide ((a.l.map fun p=>z0i p.2)=b.l.map fun p=>z0i p.2))))
def nodeF (env:List (List Nat×Val)) (n:Node) (vs:List Val):Val:=
 if n.op=1∨n.op=2 then .bool (decide (n.op=1))
 else if n.op=3 then .num n.sort (v1g n.sort n.num)
 else if n.op=4 then w5c env n.name
 else if n.op=6 then .bool (!(at0 vs 0).b)
 else if n.op=7 then .bool (vs.all Val.b)
 else if n.op=8 then .bool (vs.any Val.b)
 else if n.op=9 then .bool (!(at0 vs 0).b || (at0 vs 1).b)
 else if n.op=10 then (if (at0 vs 0).b=true then at0 vs 1 else at0 vs 2)
 else if n.op=11 then .bool (v1i (at0 vs 0) (at0 vs 1))
 else if n.op=12 then .bool (leQ (at0 vs 0).q (at0 vs 1).q)
 else if n.op=13 then .bool (ltQ (at0 vs 0).q (at0 vs 1).q)
 else if n.op=14 then .num (at0 vs 0).s (vs.foldl (fun q v=>j6p q v.q) (z4g 0))
 else if n.op=15 then .num (at0 vs 0).s (v1e (at0 vs 0).q (at0 vs 1).q)
 else if n.op=16 then .num 2 (z4g ((at0 vs 0).q.z / (z1n n.num:Int)))
 else if n.op=17 then .num 2 (z4g ((at0 vs 0).q.z % (z1n n.num:Int)))
 else if n.op=18 then .num 2 (z4g (atA (at0 vs 0).q.z (at0 vs 0).l (at0 vs 1).q.z))
 else if n.op=19 then .arr (at0 vs 0).q.z (v1h (at0 vs 0).q.z (at0 vs 0).l (at0 vs 1).q.z (at0 vs 2).q.z)
 else .arr (at0 vs 0).q.z []
end
end
theorem VsOk.rep {k s M:Nat} {vs:List Val} (h:VsOk (j1 k s) M vs):∀ v∈vs,∃ m,VOk m s v∧m≤M:=by
 generalize hs:j1 k s=ss at h
 induction h generalizing k with
 | nil=>simp
 | @cons m M2 s' ss v vs h hr ih=>
   cases k with
   | zero=>simp at hs
   | succ k=>
     rw[List.replicate_succ,List.cons.injEq] at hs
     obtain⟨rfl,hs⟩:=hs
     intro w hw
     rcases y3.1 hw with rfl | hw
     ·exact⟨m,h,by omega⟩
     ·obtain⟨m',h1,h2⟩:=ih hs w hw
      exact⟨m',h1,by omega⟩
theorem VsOk.one {s M:Nat} {vs:List Val} (h:VsOk [s] M vs):∃ v,vs=[v]∧VOk M s v:=by
 cases h with
 | @cons m M2 s ss v vs h hr=>
   cases hr
   exact⟨v,rfl,h.up (by omega)⟩
theorem VsOk.two {s t M:Nat} {vs:List Val} (h:VsOk [s,t] M vs):∃ v w m m',vs=[v,w]∧VOk m s v∧VOk m' t w∧m + m'=M:=by
 cases h with
 | @cons m M2 s ss v vs h hr=>
   obtain⟨w,rfl,hw⟩:=hr.one
   exact⟨v,w,m,M2,rfl,h,hw,rfl⟩
theorem VsOk.three {s t u M:Nat} {vs:List Val} (h:VsOk [s,t,u] M vs):∃ v w x m m' m'',vs=[v,w,x]∧VOk m s v∧VOk m' t w∧VOk m'' u x∧m + (m' + m'')=M:=by
 cases h with
 | @cons m M2 s ss v vs h hr=>
   obtain⟨w,x,m',m'',rfl,hw,hx,e⟩:=hr.two
   exact⟨v,w,x,m,m',m'',rfl,h,hw,hx,by omega⟩
def j3g (vs:List Val) (q:Qn):Qn:=vs.foldl (fun q v=>j6p q v.q) q
theorem k5k {s:Nat} (hs:s=2∨s=3):∀ {k M:Nat} {vs:List Val} {q:Qn} {P:Nat},VsOk (j1 k s) M vs→q.C→q.L (50 * P + 2) (4 * P + 1)→(s=2→q.d=1)→(j3g vs q).C∧(j3g vs q).L (50 * (P + M) + 2) (4 * (P + M) + 1)∧(s=2→(j3g vs q).d=1):=by
 intro k
 induction k with
 | zero=>
   intro M vs q P h h1 h2 h3
   cases h
   exact⟨h1,h2.up (by omega) (by omega),h3⟩
 | succ k ih=>
   intro M vs q P h h1 h2 h3
   rw[List.replicate_succ] at h
   cases h with
   | @cons m M2 s ss v vs h hr=>
     obtain⟨r,rfl,r1,r2,r3⟩:=h.numb hs
     have hm:1≤m:=by have:=r2.d;have:=x6y r.d;omega
     have:=ih (q:=j6p q r) (P:=P + m) hr (v7h h1 r1) ((v7i (M:=50 * (P + m) + 1) h2 r2 (by omega) (by omega)).up (by omega) (by omega)) (fun h=>by
      rw[Qn.int h1 (h3 h),Qn.int r1 (r3 h),j6r]
      rfl)
     rw[show P + (m + M2)=P + m + M2 by omega]
     exact this
theorem q3s {z:Int}:(z4g z).z=z:=by
 unfold Qn.z z4g
 by_cases h:z < 0 <;> simp[h] <;> omega
theorem v1j {l:List (Int×Int)} {z i:Int}:atA z l i=z∨∃ p∈l,atA z l i=p.2:=by
 unfold atA
 cases h:l.find? (fun p=>decide (p.1=i)) with
 | none=>exact .inl rfl
 | some p=>exact .inr ⟨p,List.mem_of_find?_eq_some h,rfl⟩
theorem y8b {z i w:Int} {l:List (Int×Int)} {A:Nat} (hl:l.Pairwise (fun p q=>p.1 < q.1)) (hp:∀ p∈l,p.2≠z∧(dec p.1.natAbs).length≤A∧(dec p.2.natAbs).length≤A) (hi:(dec i.natAbs).length≤A) (hw:(dec w.natAbs).length≤A):
  (v1h z l i w).Pairwise (fun p q=>p.1 < q.1)∧(∀ p∈v1h z l i w,p.2≠z∧(dec p.1.natAbs).length≤A∧(dec p.2.natAbs).length≤A)∧(v1h z l i w).length≤l.length + 1:=by
 unfold v1h
 refine⟨?_, ?_, ?_⟩
 ·rw[List.pairwise_append]
  refine⟨hl.sublist List.filter_sublist, ?_, ?_⟩
  ·rw[List.pairwise_append]
   refine⟨by split <;> simp,hl.sublist List.filter_sublist, ?_⟩
   intro a ha b hb
   have h2:=of_decide_eq_true (l4.1 hb).2
   split at ha
   ·simp at ha
   ·rw[u7] at ha
    rw[ha];exact h2
  ·intro a ha b hb
   have h1:=of_decide_eq_true (l4.1 ha).2
   rcases j6.1 hb with hb | hb
   ·split at hb
    ·simp at hb
    ·rw[u7] at hb
     rw[hb];exact h1
   ·have h2:=of_decide_eq_true (l4.1 hb).2
    omega
 ·intro p h
  rcases j6.1 h with h | h
  ·exact hp p (l4.1 h).1
  ·rcases j6.1 h with h | h
   ·split at h
    ·simp at h
    ·rename_i hne
     rw[u7] at h
     rw[h];exact⟨hne,hi,hw⟩
   ·exact hp p (l4.1 h).1
 ·have key:∀ l:List (Int×Int),(l.filter fun p=>decide (p.1 < i)).length + (l.filter fun p=>decide (i < p.1)).length≤l.length:=by
   intro l
   induction l with
   | nil=>simp
   | cons a l ih=>
     simp only[List.filter_cons]
     by_cases h1:a.1 < i
     ·have h2:¬ i < a.1:=by omega
      simp[h1,h2];omega
     ·by_cases h2:i < a.1 <;> simp[h1,h2] <;> omega
  have:=key l
  simp only[y5]
  split <;> simp <;> omega
def q7f (K:Nat) (V:List Var) (env:List (List Nat×Val)):Prop:=1≤K∧∀ v∈V,∃ w,env.find? (fun p=>decide (p.1=v.name))=some (v.name,w)∧VOk K v.sort w
theorem j3h {s:Nat} {a:List Nat} (h:IntS a):∃ q:Qn,q.C∧q.text=a∧q.L 45 1∧(s=2→q.d=1):=by
 obtain⟨z,rfl,hz⟩:=h
 exact⟨z4g z,x4p,z1z,⟨w9 (z7d (k:=40) (by omega) hz) (by omega),by show (dec 1).length≤1;rw[z2h];simp⟩,fun _=>rfl⟩
theorem j6s {a:List Nat} (h:RatS a):∃ q:Qn,q.C∧q.text=a∧q.L 45 1∧(3=2→q.d=1):=by
 rcases h with h | ⟨z,d,rfl,hz,h2,h4,hg⟩
 ·obtain⟨q,h1,h2,h3,_⟩:=j3h (s:=3) h
  exact⟨q,h1,h2,h3,fun h=>by omega⟩
 ·have hz0:z.natAbs≠0:=fun h=>by rw[h,Nat.gcd_zero_left] at hg;omega
  refine⟨⟨decide (z < 0),z.natAbs,d⟩,⟨fun _=>hz0,by show 0 < d;omega,hg⟩, ?_,⟨w9 (z7d (k:=40) (by omega) hz) (by omega),by show (dec d).length≤1;rw[z7c (by omega)];simp⟩,fun h=>by omega⟩
  have hd:d≠1:=by omega
  simp only[Qn.text,z3o,if_neg hd,z0i]
  by_cases h:z < 0 <;> simp[h]
theorem v1k {K:Nat} {V:List Var} {env:List (List Nat×Val)} {n:Node} {ss:List Nat} {s M:Nat} {ks:Term} {vs:List Val} (he:q7f K V env) (hn:NodeOk V n ss s ks) (hv:VsOk ss M vs):VOk (M + K) s (nodeF env n vs):=by
 obtain⟨hK,he⟩:=he
 have l45:∀ {a:List Nat} {s:Nat},(∃ q:Qn,q.C∧q.text=a∧q.L 45 1∧(s=2→q.d=1))→s=2∨s=3→VOk (M + K) s (.num s (v1g s a)):=fun h hs=>by
  obtain⟨h1,_,h3,h4⟩:=j3f h
  exact⟨rfl,hs,h1,h3.up (by omega) (by omega),h4⟩
 cases hn with
 | bool h=>rcases h with rfl | rfl <;> simp[nodeF,bare,VOk]
 | int h=>simpa [nodeF] using l45 (j3h h) (.inl rfl)
 | real h=>simpa [nodeF] using l45 (j6s h) (.inr rfl)
 | @var v ks h=>
   obtain⟨w,hw,hok⟩:=he v h
   have:nodeF env ⟨4,v.sort,v.name,[],0⟩ vs=w:=by simp[nodeF,w5c,hw]
   rw[this]
   exact hok.up (by omega)
 | not=>simp[nodeF,bare,VOk]
 | andor h=>rcases h with rfl | rfl <;> simp[nodeF,bare,VOk]
 | imp=>simp[nodeF,bare,VOk]
 | ite h1 h2=>
   obtain⟨v,w,x,m,m',m'',rfl,hu,hw,hx,e⟩:=hv.three
   by_cases hb:v.b=true
   ·simpa [nodeF,bare,at0,hb] using hw.up (by omega)
   ·simpa [nodeF,bare,at0,hb] using hx.up (by omega)
 | eq h1 h2=>simp[nodeF,bare,VOk]
 | cmp h hs=>rcases h with rfl | rfl <;> simp[nodeF,bare,VOk]
 | @add k s ks h hs=>
   obtain⟨a1,a2,a3⟩:=k5k hs (q:=z4g 0) (P:=0) hv x4p ⟨by show (dec 0).length≤_;rw[z9u];simp,by show (dec 1).length≤_;rw[z2h];simp⟩ fun _=>rfl
   have h0:(at0 vs 0).s=s:=by
    have hl:=hv.len
    cases vs with
    | nil=>simp at hl;omega
    | cons v vs=>
      obtain⟨m,h1,_⟩:=hv.rep v List.mem_cons_self
      exact h1.s
   have:nodeF env (bare 14 k) vs= .num s (j3g vs (z4g 0)):=by simp[nodeF,bare,h0,j3g]
   rw[this]
   exact⟨rfl,hs,a1,a2.up (by omega) (by omega),a3⟩
 | @mul s n ks hs hn=>
   obtain⟨v,w,m,m',rfl,hu,hw,e⟩:=hv.two
   obtain⟨q,rfl,q1,q2,q3⟩:=hu.numb hs
   obtain⟨r,rfl,r1,r2,r3⟩:=hw.numb hs
   have:nodeF env (bare 15 2) [.num s q, .num s r]= .num s (v1e q r):=by simp[nodeF,bare,at0,Val.s,Val.q]
   rw[this]
   refine⟨rfl,hs,y7y q1 r1,(y7z q2 r2).up (by omega) (by omega),fun h=> ?_⟩
   rw[Qn.int q1 (q3 h),Qn.int r1 (r3 h),j6q]
   rfl
 | @div o k ks h h1 h2=>
   obtain⟨v,rfl,hu⟩:=hv.one
   obtain⟨z,rfl,hz⟩:=hu.int
   rcases h with rfl | rfl
   ·have:nodeF env ⟨16,0,[],dec k,1⟩ [.num 2 (z4g z)]= .num 2 (z4g (z / (k:Int))):=by simp[nodeF,at0,Val.q,q3s,z1s]
    rw[this]
    refine VOk.of_int (by omega) (w9 (z5a (Int.natAbs_ediv_le_natAbs z k)) (by omega))
   ·have:nodeF env ⟨17,0,[],dec k,1⟩ [.num 2 (z4g z)]= .num 2 (z4g (z % (k:Int))):=by simp[nodeF,at0,Val.q,q3s,z1s]
    rw[this]
    have hk:(z % (k:Int)).natAbs < 10:=by
     have:=Int.emod_nonneg z (show (k:Int)≠0 by omega)
     have:=Int.emod_lt_of_pos z (show (0:Int) < k by omega)
     omega
    refine VOk.of_int (by omega) ?_
    rw[z7c hk]
    simp;omega
 | select=>
   obtain⟨v,w,m,m',rfl,hu,hw,e⟩:=hv.two
   obtain⟨z,l,rfl⟩:=hu.array
   obtain⟨i,rfl,hi⟩:=hw.int
   have:nodeF env (bare 18 2) [.arr z l, .num 2 (z4g i)]= .num 2 (z4g (atA z l i)):=by simp[nodeF,bare,at0,Val.q,Val.l,q3s]
   rw[this]
   refine VOk.of_int (by omega) ?_
   rcases v1j (z:=z) (l:=l) (i:=i) with e' | ⟨p,hp,e'⟩ <;> rw[e']
   ·have:=hu.2.1;omega
   ·have:=(hu.2.2.2.1 p hp).2.2;omega
 | store=>
   obtain⟨v,w,x,m,m',m'',rfl,hu,hw,hx,e⟩:=hv.three
   obtain⟨z,l,rfl⟩:=hu.array
   obtain⟨i,rfl,hi⟩:=hw.int
   obtain⟨j,rfl,hj⟩:=hx.int
   have:nodeF env (bare 19 3) [.arr z l, .num 2 (z4g i), .num 2 (z4g j)]= .arr z (v1h z l i j):=by simp[nodeF,bare,at0,Val.q,Val.l,q3s]
   rw[this]
   obtain⟨p1,p2,p3⟩:=y8b (A:=50 * (M + K)) hu.2.2.1 (fun p hp=>⟨(hu.2.2.2.1 p hp).1,by have:=(hu.2.2.2.1 p hp).2.1;omega,by have:=(hu.2.2.2.1 p hp).2.2;omega⟩) (show (dec i.natAbs).length≤_ by omega) (show (dec j.natAbs).length≤_ by omega)
   exact⟨rfl,by have:=hu.2.1;omega,p1,p2,by have:=hu.2.2.2.2;omega⟩
 | const=>
   obtain⟨v,rfl,hu⟩:=hv.one
   obtain⟨z,rfl,hz⟩:=hu.int
   have:nodeF env (bare 20 1) [.num 2 (z4g z)]= .arr z []:=by simp[nodeF,bare,at0,Val.q,q3s]
   rw[this]
   exact⟨rfl,by omega, .nil,by simp,by simp⟩
inductive Ev (env:List (List Nat×Val)):Term→List Val→Prop
 | nil:Ev env [] []
 | cons {n:Node} {ks rest:Term} {vs ws:List Val}:Ev env ks vs→n.kids=vs.length→Ev env rest ws→Ev env (n::(ks++rest)) (nodeF env n vs::ws)
theorem Ev.append {env:List (List Nat×Val)} {t t':Term} {vs vs':List Val} (h:Ev env t vs) (h':Ev env t' vs'):Ev env (t++t') (vs++vs'):=by
 induction h with
 | nil=>exact h'
 | cons h1 h2 h3 ih1 ih2=>
   rw[d4,d4,List.append_assoc]
   exact .cons h1 h2 ih2
section
variable {U:List Var} [UOk U]
theorem q1l {z:Int} (h:z.natAbs < 10 ^ 40):(dec z.natAbs).length≤50000000:=by
 have:=z5a (a:=z.natAbs) (b:=10 ^ 40) (by omega)
 have h2:(dec (10 ^ 40)).length=41:=by kernel_rfl
 omega
theorem k5l {a:List Nat} (h:IntS a):Pure Gam 102 [.str a] (.bool true):=by
 obtain⟨z,rfl,hz⟩:=h
 have hp:=q2j (q1l hz)
 rw[q0a,z2h] at hp
 refine Pure.of rfl y6d rfl rfl rfl rfl rfl fun D B clk T hB hT=> ?_
 simp only[go_sem,w3q,hB,z0a hp,decide_true]
 rw[z0d]
 exact hT _
theorem w5d {a:List Nat} (h:RatS a):Pure Gam 164 [.str a] (.bool true):=by
 rcases h with ⟨z,rfl,hz⟩ | ⟨z,d,rfl,hz,h2,h4,hg⟩
 ·have hp:=q2j (q1l hz)
  rw[q0a] at hp
  refine Pure.of rfl w3p rfl rfl rfl rfl rfl fun D B clk T hB hT=> ?_
  simp only[go_sem,k9z,hB,z0a hp]
  rw[z0d]
  exact hT _
 ·have hp:=j6m (q1l hz) h2 (by rw[z7c (by omega)];simp) hg
  rw[q0a] at hp
  refine Pure.of rfl w3p rfl rfl rfl rfl rfl fun D B clk T hB hT=> ?_
  simp only[go_sem,k9z,hB,z0a hp]
  rw[z0d]
  exact hT _
theorem w5e {k:Nat} (h1:1≤k) (h5:k≤5):Pure Gam 166 [.str (dec k)] (.int .i64 1):=by
 have e:z0i (k:Int)=dec k:=by rw[z0i,if_neg (by omega),m8]
 have hp:=q2j (z:=(k:Int)) (q1l (by simp;omega))
 rw[q0a,z2h,e,m8,show decide ((k:Int) < 0)=false by simp] at hp
 have e1:decide (dec k=[48])=false:=by rw[z03,q4n];omega
 refine Pure.of rfl y5z rfl rfl rfl rfl rfl fun D B clk T hB hT=> ?_
 simp only[go_sem,k4k,hB,z0a hp,e1,z7]
 rw[z0h rfl rfl]
 exact hT _
theorem k5m {v:Var} (hv:v∈U):Pure Gam 168 [.str v.name] (.bool true):=Pure.tab (tab:=q3m) rfl rfl (UOk.name2 v hv)
theorem w5f {V:List Var} {n:Node} {ss:List Nat} {s:Nat} {ks:Term} (hV:∀ v∈V,v∈U) (hn:NodeOk V n ss s ks):Pure Gam 266 [eNode n] (.bool true):=by
 refine Pure.of rfl u6j rfl rfl rfl rfl rfl fun D B clk T hB hT=> ?_
 cases hn with
 | bool h=>rcases h with rfl | rfl <;> (simp only[go_sem,x6j,hB,eNode,nat,bare,z9,z8,Int.reduceLE,decide_true,decide_false];rw[z0d];exact hT _)
 | int h=>simp only[go_sem,x6j,hB,eNode,nat,z9,z8,decide_true,decide_false,z0a (k5l h)];rw[z0d];exact hT _
 | real h=>simp only[go_sem,x6j,hB,eNode,nat,z9,z8,decide_true,decide_false,z0a (w5d h)];rw[z0d];exact hT _
 | @var v ks h=>
   have hs:=q6a (hV _ h)
   have p:=j3d hs.1 hs.2
   rw[nat] at p
   simp only[go_sem,x6j,hB,eNode,nat,z9,z8,decide_true,decide_false,z0a (k5m (hV _ h)),z0a p];rw[z0d];exact hT _
 | andor h=>rcases h with rfl | rfl <;> (simp only[go_sem,x6j,hB,eNode,nat,bare,z9,z8,Int.reduceLE,decide_true,decide_false];rw[z0d];exact hT _)
 | cmp h hs=>rcases h with rfl | rfl <;> (simp only[go_sem,x6j,hB,eNode,nat,bare,z9,z8,Int.reduceLE,decide_true,decide_false];rw[z0d];exact hT _)
 | @div o k ks h h1 h5=>
   have e:IntS (dec k):=⟨k,by rw[z0i,if_neg (by omega),m8],by simp;omega⟩
   rcases h with rfl | rfl <;> (simp only[go_sem,x6j,hB,eNode,nat,z9,z8,d9,decide_true,decide_false,z0a (k5l e),z0a (w5e h1 h5)];rw[z0d];exact hT _)
 | _=>simp only[go_sem,x6j,hB,eNode,nat,bare,z9,z8,Int.reduceLE,decide_true,decide_false];rw[z0d];exact hT _
end
theorem Qn.z_neg {q:Qn} (hc:q.C):decide (q.z < 0)=q.neg:=by
 have:=hc.neg
 unfold Qn.z
 cases h:q.neg
 ·simp
 ·simp[h] at this⊢
  omega
theorem Qn.frac {q:Qn} (hc:q.C) (h1:q.d≠1):q.text=z0i q.z++47::dec q.d:=by
 have hz:=Qn.z_neg hc
 have hl:=Qn.z_len (q:=q)
 unfold Qn.text z3o z0i
 rw[if_neg h1,hl]
 cases h:q.neg <;> rw[h] at hz <;> simp only[decide_eq_true_eq,z03] at hz <;> simp[hz]
structure Qn.R (q:Qn):Prop where
 c:q.C
 n:(dec q.n).length≤20000000
 d:(dec q.d).length≤20000000
theorem v1l {q:Qn} (hc:q.C) (hn:(dec q.n).length≤50000000) (hd:(dec q.d).length≤50000000):Pure Gam 165 [.str q.text] (.tup [q0a q.neg q.n q.d, .bool true]):=by
 by_cases h1:q.d=1
 ·have h:=q2j (z:=q.z) (by rw[Qn.z_len];exact hn)
  rw[←z1z] at h
  have e:=Qn.int hc h1
  have e2:q0a q.neg q.n q.d=q0a (decide (q.z < 0)) q.z.natAbs 1:=by rw[Qn.z_neg hc,Qn.z_len,h1]
  have e3:q.text=(z4g q.z).text:=congrArg Qn.text e
  rw[e2,e3]
  exact h
 ·have h2:2≤q.d:=by have:=hc.pos;omega
  have h:=j6m (z:=q.z) (d:=q.d) (by rw[Qn.z_len];exact hn) h2 hd (by rw[Qn.z_len];exact hc.red)
  rw[←Qn.frac hc h1,Qn.z_len,Qn.z_neg hc] at h
  exact h
theorem z7g {q:Qn} (h:q.R):Pure Gam 165 [.str q.text] (.tup [q0a q.neg q.n q.d, .bool true]):=v1l h.c (by have:=h.n;omega) (by have:=h.d;omega)
theorem x7b {neg:Bool} {a b:Nat} (hb:0 < b) (hlen:(dec a).length≤50000000) (hlenb:(dec b).length≤50000000):Pure Gam 230 [.bool neg, .str (dec a), .str (dec b)] (q0a (q3l neg a b).neg (q3l neg a b).n (q3l neg a b).d):=x1f hb hlen hlenb
theorem q8x {q:Qn} (hn:(dec q.n).length≤50000000) (hd:(dec q.d).length≤50000000):Pure Gam 231 [q0a q.neg q.n q.d] (.str q.text):=q6z hn hd
theorem q8y {q:Qn} (h:q.R):Pure Gam 164 [.str q.text] (.bool true):=by
 have hp:=z7g h
 rw[q0a] at hp
 refine Pure.of rfl w3p rfl rfl rfl rfl rfl fun D B clk T hB hT=> ?_
 simp only[go_sem,k9z,hB,z0a hp]
 rw[z0d]
 exact hT _
theorem x7c {q:Qn} (h:q.R):Pure Gam 102 [.str q.text] (.bool (decide (q.d=1))):=by
 have hp:=z7g h
 rw[q0a] at hp
 refine Pure.of rfl y6d rfl rfl rfl rfl rfl fun D B clk T hB hT=> ?_
 simp only[go_sem,w3q,hB,z0a hp,q3g]
 rw[z0d]
 exact hT _
def q7g (q:Qn):Int:=if q.n=0 then 0 else if q.neg=true then -1 else 1
theorem x7d {q:Qn} (h:q.R):Pure Gam 166 [.str q.text] (.int .i64 (q7g q)):=by
 have hp:=z7g h
 rw[q0a] at hp
 refine Pure.of rfl y5z rfl rfl rfl rfl rfl fun D B clk T hB hT=> ?_
 unfold q7g at hT
 by_cases h0:q.n=0
 ·have e1:decide (dec q.n=[48])=true:=by rw[z1r];simp[h0]
  rw[if_pos h0] at hT
  simp only[go_sem,k4k,hB,z0a hp,e1,z7]
  rw[z0h rfl rfl]
  exact hT _
 ·have e1:decide (dec q.n=[48])=false:=by rw[z1r];simp[h0]
  rw[if_neg h0] at hT
  cases hg:q.neg <;> rw[hg] at hT hp
  ·rw[if_neg (by simp)] at hT
   simp only[go_sem,k4k,hB,z0a hp,e1,z7]
   rw[z0h rfl rfl]
   exact hT _
  ·rw[if_pos rfl] at hT
   simp only[go_sem,k4k,hB,z0a hp,e1,z7]
   rw[z0h rfl rfl]
   exact hT _
theorem v1m {q:Qn} (h:q.R):Pure Gam 233 [.str q.text] (.str (k0p q).text):=by
 have hp:=z7g h
 have p2:=q8x (q:=k0p q) (by have:=h.n;show (dec q.n).length≤_;omega) (by have:=h.d;show (dec q.d).length≤_;omega)
 rw[q0a] at hp p2
 have e0:(k0p q).n=q.n:=rfl
 have e1:(k0p q).d=q.d:=rfl
 rw[e0,e1] at p2
 have e2:(k0p q).neg=(!q.neg && !decide (q.n=0)):=rfl
 rw[e2] at p2
 have hz:decide (dec q.n=[48])=decide (q.n=0):=z1r
 refine Pure.of rfl u4f rfl rfl rfl rfl rfl fun D B clk T hB hT=> ?_
 cases hg:q.neg <;> rw[hg] at hp p2
 ·cases h0:decide (q.n=0) <;> rw[h0] at p2 hz
  ·simp only[j5,Bool.and_self] at p2
   simp only[go_sem,k8y,hB,z0a hp,z7,j5,hz,z0a p2]
   rw[z3h]
   exact hT _
  ·simp only[j5,z7,Bool.and_false] at p2
   simp only[go_sem,k8y,hB,z0a hp,z7,j5,hz,z0a p2]
   rw[z3h]
   exact hT _
 ·simp only[z7,Bool.false_and] at p2
  simp only[go_sem,k8y,hB,z0a hp,z7,j5,hz,z0a p2]
  rw[z3h]
  exact hT _
theorem j6t {x y:Qn} (hx:x.R) (hy:y.R):Pure Gam 232 [.str x.text, .str y.text] (.str (j6p x y).text):=by
 have p1:=z7g hx
 have p2:=z7g hy
 have m1:=z9g (a:=x.n) (b:=y.d) hx.n hy.d
 have m2:=z9g (a:=y.n) (b:=x.d) hy.n hx.d
 have m3:=z9g (a:=x.d) (b:=y.d) hx.d hy.d
 have l1:=z6s hx.n hy.d
 have l2:=z6s hy.n hx.d
 have l3:=z6s hx.d hy.d
 have hpos:=Nat.mul_pos hx.c.pos hy.c.pos
 unfold j6p
 generalize x.n * y.d=p at *
 generalize y.n * x.d=q at *
 generalize x.d * y.d=d at *
 refine Pure.of rfl u4e rfl rfl rfl rfl rfl fun D B clk T hB hT=> ?_
 simp only[go_sem,y3h,hB]
 rw[z0a p1]
 simp only[go_sem,hB,q0a]
 rw[z0a p2]
 simp only[go_sem,hB,q0a,z7,j5,z1a,z0a m1,z0a m2,z0a m3]
 refine⟨by simp[z1b,apart,z0j,z0z,z1d,AOp.isCall,hB], ?_⟩
 have la:=x6z (a:=p) (b:=q) (A:=40000000) (by omega) (by omega)
 have ls1:=x7a (a:=p) (b:=q) l1
 have ls2:=x7a (a:=q) (b:=p) l2
 have fin:∀ (neg:Bool) (a:Nat),(dec a).length≤40000001→Pure Gam 230 [.bool neg, .str (dec a), .str (dec d)] (q0a (q3l neg a d).neg (q3l neg a d).n (q3l neg a d).d)∧Pure Gam 231 [q0a (q3l neg a d).neg (q3l neg a d).n (q3l neg a d).d] (.str (q3l neg a d).text):=fun neg a ha=>by
  have hl:=q8f (neg:=neg) ha l3
  exact⟨x7b hpos (by omega) (by omega),q8x (by have:=hl.n;omega) (by have:=hl.d;omega)⟩
 by_cases hn:x.neg=y.neg
 ·have e1:decide (x.neg=y.neg)=true:=decide_eq_true hn
  have e2:(x.neg==y.neg)=true:=by simp[hn]
  rw[if_pos hn] at hT
  obtain⟨f1,f2⟩:=fin x.neg (p + q) la
  simp only[go_sem,hB,e1,e2,z1a,z0a (k4i (a:=p) (b:=q) (by omega) (by omega)),z0a f1,z0a f2]
  refine⟨by simp[z1b,apart,z0j,z0z,z1d,AOp.isCall,hB], ?_⟩
  rw[z3h]
  exact hT _
 ·have e1:decide (x.neg=y.neg)=false:=decide_eq_false hn
  have e2:(x.neg==y.neg)=false:=by simp[hn]
  rw[if_neg hn] at hT
  have hcmp:=k4h (a:=p) (b:=q)
  by_cases hle:q≤p
  ·rw[if_pos hle] at hT
   obtain⟨n,hn1,hn2⟩:∃ n:Int,(if p < q then -1 else if p=q then 0 else 1)=n∧decide (0≤n)=true:=by
    rw[if_neg (by omega)]
    split
    ·exact⟨0,rfl,rfl⟩
    ·exact⟨1,rfl,rfl⟩
   rw[hn1] at hcmp
   obtain⟨f1,f2⟩:=fin x.neg (p - q) (by omega)
   simp only[go_sem,hB,e1,e2,z1a,z0a hcmp,hn2,z0a (j2p (a:=p) (b:=q) hle (by omega) (by omega)),z0a f1,z0a f2]
   refine⟨by simp[z1b,apart,z0j,z0z,z1d,AOp.isCall,hB], ?_⟩
   rw[z3h]
   exact hT _
  ·rw[if_neg hle] at hT
   rw[if_pos (by omega)] at hcmp
   have hn2:decide ((0:Int)≤ -1)=false:=by decide
   obtain⟨f1,f2⟩:=fin y.neg (q - p) (by omega)
   simp only[go_sem,hB,e1,e2,z1a,z0a hcmp,hn2,z0a (j2p (a:=q) (b:=p) (by omega) (by omega) (by omega)),z0a f1,z0a f2]
   refine⟨by simp[z1b,apart,z0j,z0z,z1d,AOp.isCall,hB], ?_⟩
   rw[z3h]
   exact hT _
theorem y8c {x:Qn} (h:x.R):(k0p x).R:=⟨v7g h.c,h.n,h.d⟩
theorem j6u {x y:Qn} (hx:x.R) (hy:y.R):Pure Gam 167 [.str x.text, .str y.text] (.str (k7b x y).text):=by
 refine Pure.of rfl u4d rfl rfl rfl rfl rfl fun D B clk T hB hT=> ?_
 simp only[go_sem,y3g,hB,z0a (v1m hy),z0a (j6t hx (y8c hy))]
 rw[z3h]
 exact hT _
theorem j6v {x y:Qn} (hx:x.R) (hy:y.R) (hs:(k7b x y).R):Pure Gam 103 [.str x.text, .str y.text] (.int .i64 (q7g (k7b x y))):=by
 refine Pure.of rfl u4c rfl rfl rfl rfl rfl fun D B clk T hB hT=> ?_
 simp only[go_sem,y3f,hB,z0a (q8y hx),z0a (q8y hy),z7,z0a (j6u hx hy),z0a (x7d hs)]
 rw[z0h rfl rfl]
 exact hT _
theorem j6w {x y:Qn} (hx:x.R) (hy:y.R):Pure Gam 285 [.str x.text, .str y.text] (.str (v1e x y).text):=by
 have p1:=z7g hx
 have p2:=z7g hy
 have m1:=z9g (a:=x.n) (b:=y.n) hx.n hy.n
 have m2:=z9g (a:=x.d) (b:=y.d) hx.d hy.d
 have l1:=z6s hx.n hy.n
 have l2:=z6s hx.d hy.d
 have hpos:=Nat.mul_pos hx.c.pos hy.c.pos
 have hl:=q8f (neg:= !(x.neg==y.neg)) l1 l2
 have f1:=x7b (neg:= !(x.neg==y.neg)) hpos (by omega) (by omega:(dec (x.d * y.d)).length≤_) (a:=x.n * y.n)
 have f2:=q8x (q:=q3l (!(x.neg==y.neg)) (x.n * y.n) (x.d * y.d)) (by have:=hl.n;omega) (by have:=hl.d;omega)
 unfold v1e
 refine Pure.of rfl y4m rfl rfl rfl rfl rfl fun D B clk T hB hT=> ?_
 simp only[go_sem,w3b,hB]
 rw[z0a p1]
 simp only[go_sem,hB,q0a]
 rw[z0a p2]
 simp only[go_sem,hB,q0a,z7,j5,z1a,z0a m1,z0a m2]
 rw[z0a f1]
 simp only[go_sem,]
 rw[z0a f2]
 simp only[go_sem,]
 refine⟨by simp[z1b,apart,z0j,z0z,z1d,AOp.isCall,hB], ?_⟩
 rw[z3h]
 exact hT _
section
open Sh
set_option maxHeartbeats 0
end
section
variable {U:List Var} [UOk U]
theorem WF.len {V:List Var} {ss:List Nat} {d:Nat} {f:Term} (h:WF V ss d f):ss.length≤f.length:=by
 induction h with
 | nil=>simp
 | cons h1 h2 h3 h4 ih1 ih2=>simp at *;omega
theorem NodeOk.mul_ne {V:List Var} {n:Node} {ss:List Nat} {s:Nat} {ks:Term} (hn:NodeOk V n ss s ks) (h:n.op=15):ss≠[]:=by
 cases hn with
 | mul=>simp
 | bool ho=>simp only[bare] at h;omega
 | andor ho=>simp only[bare] at h;omega
 | cmp ho=>simp only[bare] at h;omega
 | div ho=>dsimp only at h;omega
 | _=>simp[bare] at h
inductive Trees (t:Term) (dep:Nat):Nat→List Nat→Nat→Prop
 | nil {i:Nat}:Trees t dep i [] i
 | cons {i m j s:Nat} {ss:List Nat} (h:Pure Gam 213 [.sl (t.map eNode) .no,nat i,nat dep] (.tup [nat m,nat s])) (hs:1≤s) (hm:m≤t.length) (hr:Trees t dep m ss j):Trees t dep i (s::ss) j
theorem q6f {t:Term}:(AV.sl (t.map eNode) .no).ids=[]:=by simp[AV.ids,z0c z1v]
theorem k5n {V:List Var} {t:Term} {i dep m s:Nat} {n:Node} {ss:List Nat} {ks:Term} (hV:∀ v∈V,v∈U) (htl:t.length≤20000) (hd:dep≤256) (hi:t[i]? =some n) (hn:NodeOk V n ss s ks) (hk:n.kids=ss.length) (hsl:ss.length < t.length) (hm:m≤t.length) (hT:Trees t (dep + 1) (i + 1) ss m)
  (hf:ss≠[]→∃ c,t[i + 1]? =some c∧(n.op=15→c.op=3)):Pure Gam 213 [.sl (t.map eNode) .no,nat i,nat dep] (.tup [nat m,nat s]):=by
 have hit:i < t.length:=(List.getElem?_eq_some_iff.1 hi).1
 refine Pure.of rfl u6h rfl rfl rfl (az:=[.sl (t.map eNode) .no,nat i,nat dep]) rfl (by simp[idsL,q6f,z3j]) fun D B clk T hB hR=> ?_
 have p1:=w5f hV hn
 have p2:=w5a hn hk
 simp only[eNode,nat] at p1 p2
 have e1:decide ((t.length:Int)≤(i:Int))=false:=by rw[z03];omega
 have e2:decide ((256:Int) < (dep:Int))=false:=by rw[z03];omega
 have e3:decide ((t.length:Int) < (n.kids:Int))=false:=by rw[z03];omega
 have e4:IntKind.i64.wrap ((i:Int) + 1)=((i + 1:Nat):Int):=z0e (by omega) (by omega)
 simp only[go_sem,y5x,nat,hB,z6,e1,e2,e3,e4,z2z hi,z0a p1,z0a p2,z7]
 refine z1t (fun r q=>∃ (done left:List Nat) (t8:Tip) (e g0:Nat) (o0 o1:AObj),ss=done++left∧r=left.length∧Trees t (dep + 1) e left m∧e≤t.length∧(∀ x∈done,1≤x)∧q.ts 0= .sl (t.map eNode) .no∧q.ts 1= .int .i64 (i:Int)∧q.ts 2= .int .i64 (dep:Int)∧q.ts 8= .sl (done.map nat) t8∧q.ts 9= .int .i64 (e:Int)∧q.ts 10= .bool true∧q.ts 11= .int .i64 (done.length:Int)∧q.h=D++[o0,o1]∧z8x B 1 o1 t8 1) ss.length ⟨[],ss, .nil,i + 1,0,_,_,rfl,rfl,hT,hit,by simp,rfl,rfl,rfl,rfl,rfl,rfl,rfl,rfl, .inl rfl⟩ ?_
 rintro r ⟨ts,h,clk⟩ P ⟨done,left,t8,e,g0,o0,o1,hss,rfl,hT,he',hdone,q0,q1,q2,q8,q9,q10,q11,rfl,htip⟩ hnx he hr
 dsimp only at q0 q1 q2 q8 q9 q10 q11
 cases hT with
 | nil=>
   obtain rfl:done=ss:=by simpa using hss.symm
   have f1:decide ((done.length:Int) < (n.kids:Int))=false:=by rw[z03];omega
   simp only[go_sem,j5t,q0,q1,q2,q8,q9,q10,q11,f1,z2z hi]
   refine he _ _ ?_
   have p3:∀ fi:Nat,(n.op=15→fi=3)→Pure Gam 268 [eNode n,nat fi, .sl (done.map nat) t8] (nat s):=fun fi h=>w5b hn (by omega) h
   cases hd0:done with
   | nil=>
     have p4:Pure Gam 268 [eNode n, .int .i64 0, .sl (done.map nat) t8] (nat s):=p3 0 fun h15=>absurd hd0 (hn.mul_ne h15)
     rw[hd0] at p4 q8
     simp only[eNode,nat,w7] at p4 q8
     simp only[go_sem,q0,q1,q2,q8,q9,q10,z7,z2z hi,z0a p4,decide_false,d9]
     rw[z0h rfl rfl]
     exact hR _
   | cons x0 d0=>
     obtain⟨c,hc,hc3⟩:=hf (by rw[hd0];simp)
     have p4:=p3 c.op hc3
     have g1:decide ((0:Int) < (done.length:Int))=true:=by rw[z04,hd0];simp
     simp only[eNode,nat] at p4
     simp only[go_sem,q0,q1,q2,q8,q9,q10,z7,z6,g1,e4,z2z hi,z2z hc,z0a p4]
     rw[z0h rfl rfl]
     exact hR _
 | cons hp hs hm' hr'=>
   rename_i m' x left
   have f1:decide ((done.length:Int) < (n.kids:Int))=true:=by rw[z04,hk,hss];simp;omega
   have f2:IntKind.i64.wrap ((dep:Int) + 1)=((dep + 1:Nat):Int):=z0e (by omega) (by omega)
   have f3:decide ((m':Int) < 0)=false:=by rw[z03];omega
   have f4:decide ((0:Int) < (x:Int))=true:=by rw[z04];omega
   have f5:IntKind.i64.wrap ((done.length:Int) + 1)=((done.length + 1:Nat):Int):=z0e (by omega) (by rw[hss] at hsl;simp at hsl;omega)
   simp only[nat] at hp
   simp only[go_sem,j5t,q0,q1,q2,q8,q9,q10,q11,f1,f2,f3,f4,f5,z2z hi,z0a hp]
   have happ:done.map nat++[nat x]=(done++[x]).map nat:=by simp
   rw[show [AV.int .i64 (x:Int)]=[x].map nat from rfl,z0q hB rfl htip z4k z4k (by rw[hss] at hsl;simp at hsl⊢;omega)]
   simp only[go_sem,q0,q1,q2,q8,q9,q10,q11,f5,happ]
   refine hnx left.length _ (by simp) ⟨done++[x],left,_,m',0,_,_,by simp[hss],rfl,hr',hm',fun y hy=> ?_,q0,q1,q2,rfl,rfl,rfl,by rw[y5];rfl,rfl, .inr (.inr ⟨_,rfl,rfl⟩)⟩
   rcases j6.1 hy with hy | hy
   ·exact hdone y hy
   ·rw[u7.1 hy];exact hs
theorem w5g {V:List Var} {t:Term} (hV:∀ v∈V,v∈U) (htl:t.length≤20000) {ss:List Nat} {d:Nat} {f:Term} (h:WF V ss d f):∀ {pre post:Term} {dep:Nat},t=pre++f++post→dep + d≤256→Trees t dep pre.length ss (pre.length + f.length):=by
 induction h with
 | nil=>intro pre post dep ht hd;exact .nil
 | @cons n ss ks s d ss' rest h1 h2 h3 h4 ih1 ih2=>
   intro pre post dep ht hd
   have hl:pre.length + (1 + ks.length + rest.length)≤t.length:=by rw[ht];simp;omega
   have i1:=ih1 (pre:=pre++[n]) (post:=rest++post) (dep:=dep + 1) (by rw[ht];simp) (by omega)
   have i2:=ih2 (pre:=pre++(n::ks)) (post:=post) (dep:=dep) (by rw[ht];simp) (by omega)
   simp only[y5,u6,d5,y4] at i1 i2
   have hw:=h1.len
   have hit:t[pre.length]? =some n:=by rw[ht];simp
   refine .cons (m:=pre.length + (ks.length + 1)) (k5n (ks:=ks) hV htl (by omega) hit h2 h3 (by omega) (by omega) (by rw[show pre.length + (ks.length + 1)=pre.length + 1 + ks.length by omega];exact i1) fun hne=> ?_) (h2.pos hV).1 (by omega) ?_
   ·cases ks with
    | nil=>simp at hw;exact absurd hw hne
    | cons c r=>
      refine⟨c,by rw[ht];simp,fun h15=> ?_⟩
      obtain⟨m,r',he,hm⟩:=h2.mul_num h15
      injection he with he1 he2
      rw[he1]
      exact hm
   ·simp only[u6,y5]
    rw[show pre.length + (ks.length + rest.length + 1)=pre.length + (ks.length + 1) + rest.length by omega]
    exact i2
theorem w5h {V:List Var} {t:Term} {s d:Nat} (hV:∀ v∈V,v∈U) (htl:t.length≤20000) (hd:d≤256) (h:WF V [s] d t):Pure Gam 213 [.sl (t.map eNode) .no, .int .i64 0, .int .i64 0] (.tup [nat t.length,nat s]):=by
 have:=w5g hV htl h (pre:=[]) (post:=[]) (dep:=0) (by simp) (by omega)
 cases this with
 | cons hp hs hm hr=>
   cases hr with
   | nil=>
     rw[d5,y4] at hp
     exact hp
end
section
variable {U:List Var} [UOk U]
theorem u8c:∀ v∈U,∀ w∈U,v.name=w.name→v=w:=UOk.inj
theorem u8d {B clk i:Nat} {H:List AObj} {t:Term} {n:Node} {acc:List Var} {t3:Tip} {ts:Tmps} {ks:List Kf} {Q:Post} (hi:t[i]? =some n) (hl:acc.length≤20000) (hs:∀ v∈acc,v.name=n.name→v.sort=n.sort)
  (h0:ts 0= .sl (t.map eNode) .no) (h3:ts 3= .sl (acc.map z1k) t3) (h4:ts 4= .sl [] .nil) (h5:ts 5= .int .i64 (i:Int)) (h6:ts 6= .bool false) (h7:ts 7= .int .i64 0)
  (hQ:∀ (ts':Tmps) (clk':Nat),ts' 0= .sl (t.map eNode) .no→ts' 3= .sl (acc.map z1k) t3→ts' 4= .sl [] .nil→ts' 5= .int .i64 (i:Int)→ts' 6= .bool (acc.any fun v=>decide (v.name=n.name))→K Gam B (.exit 3) ks ⟨ts',H,clk'⟩ Q):K Gam B (.loop x1e) ks ⟨ts,H,clk⟩ Q:=by
 refine z1t (fun m q=>∃ j:Nat,j≤acc.length∧m=acc.length - j∧q.ts 0= .sl (t.map eNode) .no∧q.ts 3= .sl (acc.map z1k) t3∧q.ts 4= .sl [] .nil∧q.ts 5= .int .i64 (i:Int)∧q.ts 6= .bool ((acc.take j).any fun v=>decide (v.name=n.name))∧q.ts 7= .int .i64 (j:Int)∧q.h=H) acc.length ⟨0,by omega,rfl,h0,h3,h4,h5,h6,h7,rfl⟩ ?_
 clear h0 h3 h4 h5 h6 h7
 rintro m ⟨ts,h,clk⟩ P ⟨j,hj,rfl,h0,h3,h4,h5,h6,h7,rfl⟩ hnx he hr
 dsimp only at h0 h3 h4 h5 h6 h7
 by_cases hlt:j < acc.length
 ·have e1:decide ((j:Int) < (acc.length:Int))=true:=by rw[z04];omega
  have e4:IntKind.i64.wrap ((j:Int) + 1)=((j + 1:Nat):Int):=z0e (by omega) (by omega)
  have ht:acc.take (j + 1)=acc.take j++[acc[j]]:=w8 hlt
  have hsj:=hs acc[j] (j9 hlt)
  by_cases hnm:acc[j].name=n.name
  ·have e2:decide (acc[j].name=n.name)=true:=by simp[hnm]
   have e3:decide (((acc[j].sort:Nat):Int)=((n.sort:Nat):Int))=true:=by rw[z04,hsj hnm]
   simp only[go_sem,h0,h3,h4,h5,h6,h7,x1e,nat,z6,e1,e2,e3,z7o hlt,z2z hi,e4,z7]
   exact hnx (acc.length - (j + 1)) _ (by omega) ⟨j + 1,hlt,rfl,h0,h3,h4,h5,by rw[ht,List.any_append];simp[z0b,hnm],rfl,rfl⟩
  ·have e2:decide (acc[j].name=n.name)=false:=by simp[hnm]
   simp only[go_sem,h0,h3,h4,h5,h6,h7,x1e,nat,z6,e1,e2,z7o hlt,z2z hi,e4]
   exact hnx (acc.length - (j + 1)) _ (by omega) ⟨j + 1,hlt,rfl,h0,h3,h4,h5,by rw[ht,List.any_append];simp[z0b,hnm,h6],rfl,rfl⟩
 ·have e1:decide ((j:Int) < (acc.length:Int))=false:=by rw[z03];omega
  rw[b7 (by omega)] at h6
  simp only[go_sem,h0,h3,h4,h5,h6,h7,x1e,z6,e1]
  refine he _ _ ?_
  exact hQ _ _ (by simp[z0b,h0]) (by simp[z0b,h3]) (by simp[z0b,h4]) (by simp[z0b,h5]) (by simp[z0b,h6])
theorem w5i {V:List Var} {t:Term} (hV:∀ v∈V,v∈U) (htl:t.length≤20000) (hN:q4t V t):Pure Gam 214 [.sl (t.map eNode) .no] (.bool true):=by
 refine Pure.of rfl u6i rfl rfl rfl (az:=[.sl (t.map eNode) .no]) rfl (by simp[idsL,q6f]) fun D B clk T hB hT=> ?_
 simp only[go_sem,y5y,hB]
 refine z1t (fun m q=>∃ (i:Nat) (acc:List Var) (t3:Tip) (o0 o1 o2 o3 o4:AObj),i≤t.length∧m=t.length - i∧acc.length≤i∧(∀ v∈acc,v∈U)∧q.ts 0= .sl (t.map eNode) .no∧q.ts 3= .sl (acc.map z1k) t3∧q.ts 4= .sl [] .nil∧q.ts 5= .int .i64 (i:Int)∧q.h=D++[o0,o1,o2,o3,o4]∧z8x B 1 o1 t3 2) t.length ⟨0,[], .nil,_,_,_,_,_,by omega,rfl,by simp,by simp,rfl,rfl,rfl,rfl,rfl, .inl rfl⟩ ?_
 rintro m ⟨ts,h,clk⟩ P ⟨i,acc,t3,o0,o1,o2,o3,o4,hi,rfl,hal,hacc,h0,h3,h4,h5,rfl,htip⟩ hnx he hr
 dsimp only at h0 h3 h4 h5
 by_cases hlt:i < t.length
 ·have f1:decide ((i:Int) < (t.length:Int))=true:=by rw[z04];omega
  have f2:IntKind.i64.wrap ((i:Int) + 1)=((i + 1:Nat):Int):=z0e (by omega) (by omega)
  have hti:t[i]? =some t[i]:=u9 hlt
  have hno:=hN t[i] (j9 hlt)
  generalize t[i]=n at hti hno
  have f5:decide ((n.op:Int)=5)=false:=by rw[z03];have:=hno.1;omega
  by_cases h44:n.op=4
  ·obtain⟨v,hv,hvn,hvs⟩:=hno.2 h44
   have f4:decide ((n.op:Int)=4)=true:=by rw[z04];omega
   simp only[go_sem,j0a,h0,h3,h4,h5,z6,f1,f4,z2z hti]
   refine u8d hti (by omega) (fun w hw hwn=> ?_) h0 h3 h4 h5 rfl rfl ?_
   ·rw[u8c w (hacc w hw) v (hV v hv) (by rw[hwn,hvn]),hvs]
   clear h0 h3 h4 h5
   intro ts clk h0 h3 h4 h5 h6
   cases hk:acc.any fun v=>decide (v.name=n.name) with
   | true=>
     rw[hk] at h6
     simp only[go_sem,h0,h3,h4,h5,h6,z7,f2]
     exact hnx (t.length - (i + 1)) _ (by omega) ⟨i + 1,acc,_,_,_,_,_,_,hlt,rfl,by omega,hacc,h0,h3,h4,rfl,rfl,htip⟩
   | false=>
     rw[hk] at h6
     have e1:(AV.agg [.str n.name, .int .i64 (n.sort:Int)])=z1k v:=by rw[hvn,hvs];rfl
     simp only[go_sem,h0,h3,h4,h5,h6,j5,f2,z2z hti]
     rw[e1,show [z1k v]=[v].map z1k from rfl,z0q hB rfl htip z3w z3w (by simp only[z6,w0];omega)]
     have happ:acc.map z1k++[z1k v]=(acc++[v]).map z1k:=by simp
     simp only[go_sem,h0,h3,h4,h5,h6,f2,happ]
     exact hnx (t.length - (i + 1)) _ (by omega) ⟨i + 1,acc++[v],_,_,_,_,_,_,hlt,rfl,by simp;omega,fun w hw=>by
      rcases j6.1 hw with hw | hw
      ·exact hacc w hw
      ·rw[u7.1 hw];exact hV v hv,h0,rfl,h4,rfl,rfl, .inr (.inr ⟨_,rfl,rfl⟩)⟩
  ·have f4:decide ((n.op:Int)=4)=false:=by rw[z03];omega
   simp only[go_sem,j0a,h0,h3,h4,h5,z6,f1,f2,f4,f5,z2z hti]
   exact hnx (t.length - (i + 1)) _ (by omega) ⟨i + 1,acc,_,_,_,_,_,_,hlt,rfl,by omega,hacc,h0,h3,h4,rfl,rfl,htip⟩
 ·have f1:decide ((i:Int) < (t.length:Int))=false:=by rw[z03];omega
  simp only[go_sem,j0a,h0,h3,h4,h5,z6,f1]
  refine he _ _ ?_
  simp only[go_sem,h0,h3,h4,h5]
  clear h5 hnx he hr
  refine z1t (fun m q=>∃ j:Nat,j≤acc.length∧m=acc.length - j∧q.ts 3= .sl (acc.map z1k) t3∧q.ts 4= .sl [] .nil∧q.ts 11= .int .i64 (j:Int)∧q.h=D++[o0,o1,o2,o3,o4]) acc.length ⟨0,by omega,rfl,h3,h4,rfl,rfl⟩ ?_
  clear h0 h3 h4
  rintro m ⟨ts,h,clk⟩ P ⟨j,hj,rfl,h3,h4,h11,rfl⟩ hnx he hr
  dsimp only at h3 h4 h11
  by_cases hlt:j < acc.length
  ·have f1:decide ((j:Int) < (acc.length:Int))=true:=by rw[z04];omega
   have f2:IntKind.i64.wrap ((j:Int) + 1)=((j + 1:Nat):Int):=z0e (by omega) (by omega)
   simp only[go_sem,x1d,h3,h4,h11,z6,f1]
   refine z2r ?_
   simp only[go_sem,x1c,h3,h4,h11,decide_false,Int.lt_irrefl,f2]
   exact hnx (acc.length - (j + 1)) _ (by omega) ⟨j + 1,hlt,rfl,h3,h4,rfl,rfl⟩
  ·have f1:decide ((j:Int) < (acc.length:Int))=false:=by rw[z03];omega
   simp only[go_sem,x1d,h3,h4,h11,z6,f1]
   refine he _ _ ?_
   simp only[go_sem,]
   rw[z0d]
   exact hT _
end
section
variable {U:List Var} [UOk U]
theorem k5o {V:List Var} {t:Term} {s d:Nat} (hV:∀ v∈V,v∈U) (htl:t.length≤20000) (hd:d≤256) (h:WF V [s] d t) (hs:1≤s):Pure Gam 144 [z0k t] (nat s):=by
 have p1:=w5h hV htl hd h
 have p2:=w5i hV htl h.names
 refine Pure.of rfl u6g rfl rfl rfl (az:=[.sl (t.map eNode) .no]) rfl (by simp[idsL,q6f]) fun D B clk T hB hT=> ?_
 have e1:decide ((20000:Int) < (t.length:Int))=false:=by rw[z03];omega
 have e2:decide ((s:Int)=0)=false:=by rw[z03];omega
 simp only[nat] at p1
 simp only[go_sem,y5w,hB,z6,e1,e2,z0a p1,z0a p2,decide_true,z7]
 rw[z0h rfl rfl]
 exact hT _
theorem w5j {B clk i s0:Nat} {H:List AObj} {t:Term} {n:Node} {V:List Var} {ts:Tmps} {ks:List Kf} {Q:Post} (hi:t[i]? =some n) (hl:V.length≤20000)
  (h0:ts 0= .sl (t.map eNode) .no) (h1:ts 1= .int .i64 (s0:Int)) (h2:ts 2= .sl (V.map z1k) .no) (h7:ts 7= .int .i64 (i:Int)) (h8:ts 8= .bool false) (h9:ts 9= .int .i64 0)
  (hQ:∀ (ts':Tmps) (clk':Nat),ts' 0= .sl (t.map eNode) .no→ts' 1= .int .i64 (s0:Int)→ts' 2= .sl (V.map z1k) .no→ts' 7= .int .i64 (i:Int)→ts' 8= .bool (V.any fun v=>decide (v.name=n.name) && decide (v.sort=n.sort))→K Gam B (.exit 2) ks ⟨ts',H,clk'⟩ Q):K Gam B (.loop q8d) ks ⟨ts,H,clk⟩ Q:=by
 refine z1t (fun m q=>∃ j:Nat,j≤V.length∧m=V.length - j∧q.ts 0= .sl (t.map eNode) .no∧q.ts 1= .int .i64 (s0:Int)∧q.ts 2= .sl (V.map z1k) .no∧q.ts 7= .int .i64 (i:Int)∧q.ts 8= .bool ((V.take j).any fun v=>decide (v.name=n.name) && decide (v.sort=n.sort))∧q.ts 9= .int .i64 (j:Int)∧q.h=H) V.length ⟨0,by omega,rfl,h0,h1,h2,h7,h8,h9,rfl⟩ ?_
 clear h0 h1 h2 h7 h8 h9
 rintro m ⟨ts,h,clk⟩ P ⟨j,hj,rfl,h0,h1,h2,h7,h8,h9,rfl⟩ hnx he hr
 dsimp only at h0 h1 h2 h7 h8 h9
 by_cases hlt:j < V.length
 ·have e1:decide ((j:Int) < (V.length:Int))=true:=by rw[z04];omega
  have e4:IntKind.i64.wrap ((j:Int) + 1)=((j + 1:Nat):Int):=z0e (by omega) (by omega)
  have ht:V.take (j + 1)=V.take j++[V[j]]:=w8 hlt
  have ha:∀ b,((V.take j).any fun v=>decide (v.name=n.name) && decide (v.sort=n.sort))=b→(b || (decide (V[j].name=n.name) && decide (V[j].sort=n.sort)))=((V.take (j + 1)).any fun v=>decide (v.name=n.name) && decide (v.sort=n.sort)):=fun b hb=>by
   rw[ht,List.any_append,hb]
   simp
  cases hb:(V.take j).any fun v=>decide (v.name=n.name) && decide (v.sort=n.sort) with
  | true=>
    have ha:=ha _ hb
    rw[hb] at h8
    simp only[go_sem,h0,h1,h2,h7,h8,h9,q8d,nat,z6,e1,e4]
    exact hnx (V.length - (j + 1)) _ (by omega) ⟨j + 1,hlt,rfl,h0,h1,h2,h7,by rw[←ha];rfl,rfl,rfl⟩
  | false=>
    have ha:=ha _ hb
    rw[hb] at h8
    by_cases hnm:V[j].name=n.name
    ·have e2:decide (V[j].name=n.name)=true:=by simp[hnm]
     have e3:decide ((V[j].sort:Int)=(n.sort:Int))=decide (V[j].sort=n.sort):=by rw[decide_eq_decide];omega
     simp only[go_sem,h0,h1,h2,h7,h8,h9,q8d,nat,z6,e1,e2,e3,z7o hlt,z2z hi,e4]
     exact hnx (V.length - (j + 1)) _ (by omega) ⟨j + 1,hlt,rfl,h0,h1,h2,h7,by rw[←ha,e2];simp[z0b],rfl,rfl⟩
    ·have e2:decide (V[j].name=n.name)=false:=by simp[hnm]
     simp only[go_sem,h0,h1,h2,h7,h8,h9,q8d,nat,z6,e1,e2,z7o hlt,z2z hi,e4]
     exact hnx (V.length - (j + 1)) _ (by omega) ⟨j + 1,hlt,rfl,h0,h1,h2,h7,by rw[←ha,e2];simp[z0b],rfl,rfl⟩
 ·have e1:decide ((j:Int) < (V.length:Int))=false:=by rw[z03];omega
  rw[b7 (by omega)] at h8
  simp only[go_sem,h0,h1,h2,h7,h8,h9,q8d,z6,e1]
  refine he _ _ ?_
  exact hQ _ _ (by simp[z0b,h0]) (by simp[z0b,h1]) (by simp[z0b,h2]) (by simp[z0b,h7]) (by simp[z0b,h8])
theorem j3i {V:List Var} {t:Term} {s d:Nat} (hV:∀ v∈V,v∈U) (hVl:V.length≤1000) (htl:t.length≤20000) (hd:d≤256) (h:WF V [s] d t) (hs:1≤s):Pure Gam 149 [z0k t,nat s, .sl (V.map z1k) .no] (.bool true):=by
 have p1:=k5o hV htl hd h hs
 have hN:=h.names
 refine Pure.of rfl u6f rfl rfl rfl (az:=[.sl (t.map eNode) .no,nat s, .sl (V.map z1k) .no]) rfl (by simp[idsL,q6f,z3j,z5x]) fun D B clk T hB hT=> ?_
 have e1:decide ((s:Int)=0)=false:=by rw[z03];omega
 simp only[nat,z0k] at p1
 simp only[go_sem,y5v,hB,nat,e1,z0a p1,decide_true,z7]
 refine z1t (fun m q=>∃ i:Nat,i≤t.length∧m=t.length - i∧q.ts 0= .sl (t.map eNode) .no∧q.ts 1= .int .i64 (s:Int)∧q.ts 2= .sl (V.map z1k) .no∧q.ts 7= .int .i64 (i:Int)∧q.h=D) t.length ⟨0,by omega,rfl,rfl,rfl,rfl,rfl,by simp⟩ ?_
 rintro m ⟨ts,h',clk⟩ P ⟨i,hi,rfl,h0,h1,h2,h7,rfl⟩ hnx he hr
 dsimp only at h0 h1 h2 h7
 by_cases hlt:i < t.length
 ·have f1:decide ((i:Int) < (t.length:Int))=true:=by rw[z04];omega
  have f2:IntKind.i64.wrap ((i:Int) + 1)=((i + 1:Nat):Int):=z0e (by omega) (by omega)
  have hti:t[i]? =some t[i]:=u9 hlt
  have hno:=hN t[i] (j9 hlt)
  generalize t[i]=n at hti hno
  have f5:decide ((n.op:Int)=5)=false:=by rw[z03];have:=hno.1;omega
  by_cases h44:n.op=4
  ·obtain⟨v,hv,hvn,hvs⟩:=hno.2 h44
   have f4:decide ((n.op:Int)=4)=true:=by rw[z04];omega
   simp only[go_sem,x9z,h0,h1,h2,h7,z6,f1,f4,f5,z2z hti,z7]
   refine w5j hti (by omega) h0 h1 h2 h7 rfl rfl ?_
   clear h0 h1 h2 h7
   intro ts clk h0 h1 h2 h7 h8
   have hk:(V.any fun v=>decide (v.name=n.name) && decide (v.sort=n.sort))=true:=List.any_eq_true.2 ⟨v,hv,by simp[hvn,hvs]⟩
   rw[hk] at h8
   simp only[go_sem,h0,h1,h2,h7,h8,z7,f2]
   exact hnx (t.length - (i + 1)) _ (by omega) ⟨i + 1,hlt,rfl,h0,h1,h2,rfl,rfl⟩
  ·have f4:decide ((n.op:Int)=4)=false:=by rw[z03];omega
   simp only[go_sem,x9z,h0,h1,h2,h7,z6,f1,f2,f4,f5,z2z hti,j5]
   exact hnx (t.length - (i + 1)) _ (by omega) ⟨i + 1,hlt,rfl,h0,h1,h2,rfl,rfl⟩
 ·have f1:decide ((i:Int) < (t.length:Int))=false:=by rw[z03];omega
  simp only[go_sem,x9z,h0,h1,h2,h7,z6,f1]
  refine he _ _ ?_
  simp only[go_sem,]
  rw[z0d]
  exact hT _
end
def z9k (ps:List Func) (nm:List Nat):Int:=match ps.findIdx? (fun p=>decide (p.name=nm)) with
 | some i=>(i:Int)
 | none=> -1
theorem q1m {ps:List Func} {nm:List Nat} {i:Nat} (hi:i < ps.length) (h:ps[i].name=nm) (hn:∀ p∈ps.take i,p.name≠nm):z9k ps nm=(i:Int):=by
 have:ps.findIdx? (fun p=>decide (p.name=nm))=some i:=by
  rw[List.findIdx?_eq_some_iff_getElem]
  refine⟨hi,by simp[h],fun j hj=> ?_⟩
  have:=hn ps[j] (List.mem_take_iff_getElem.2 ⟨j,by omega,rfl⟩)
  simp[this]
 rw[z9k,this]
theorem q1n {ps:List Func} {nm:List Nat} (hn:∀ p∈ps,p.name≠nm):z9k ps nm= -1:=by
 have:ps.findIdx? (fun p=>decide (p.name=nm))=none:=by
  rw[List.findIdx?_eq_none_iff]
  intro p hp
  simp[hn p hp]
 rw[z9k,this]
theorem j6x {s:Sys} {nm:List Nat} (hl:s.preds.length≤1000):Pure Gam 106 [z2i s, .str nm] (.int .i64 (z9k s.preds nm)):=by
 refine Pure.of rfl g4w rfl rfl rfl (az:=[z2i s, .str nm]) rfl (by simp[idsL,z3n,AV.ids]) fun D B clk T hB hT=> ?_
 simp only[go_sem,g0x,hB,z2i]
 refine z1t (fun m q=>∃ (i g:Nat),i≤s.preds.length∧m=s.preds.length - i∧(∀ p∈s.preds.take i,p.name≠nm)∧q.ts 1= .str nm∧q.ts 2= .ptr (B + 0) g 0 0∧q.ts 5= .int .i64 (i:Int)∧q.h=D++[.blk g [.agg [.sl (s.preds.map z1f) .no, .sl (s.clauses.map z0g) .no]] false false 0]) s.preds.length ⟨0,_,by omega,rfl,by simp,rfl,rfl,rfl,rfl⟩ ?_
 rintro m ⟨ts,h',clk⟩ P ⟨i,g,hi,rfl,hno,h1,h2,h5,rfl⟩ hnx he hr
 dsimp only at h1 h2 h5
 by_cases hlt:i < s.preds.length
 ·have f1:decide ((i:Int) < (s.preds.length:Int))=true:=by rw[z04];omega
  have f2:IntKind.i64.wrap ((i:Int) + 1)=((i + 1:Nat):Int):=z0e (by omega) (by omega)
  have ht:s.preds.take (i + 1)=s.preds.take i++[s.preds[i]]:=w8 hlt
  by_cases hnm:s.preds[i].name=nm
  ·have e2:decide (s.preds[i].name=nm)=true:=by simp[hnm]
   simp only[go_sem,k4l,h1,h2,h5,hB,z6,f1,e2,z8q hlt]
   refine hr _ ?_
   rw[q1m hlt hnm hno] at hT
   simp only[go_sem,]
   rw[z0h rfl rfl]
   exact hT _
  ·have e2:decide (s.preds[i].name=nm)=false:=by simp[hnm]
   simp only[go_sem,k4l,h1,h2,h5,hB,z6,f1,f2,e2,z8q hlt]
   refine hnx (s.preds.length - (i + 1)) _ (by omega) ⟨i + 1,g,hlt,rfl,fun p hp=> ?_,h1,h2,rfl,rfl⟩
   rw[ht] at hp
   rcases j6.1 hp with hp | hp
   ·exact hno p hp
   ·rw[u7.1 hp];exact hnm
 ·have f1:decide ((i:Int) < (s.preds.length:Int))=false:=by rw[z03];omega
  rw[b7 (by omega)] at hno
  simp only[go_sem,k4l,h1,h2,h5,hB,z6,f1]
  refine he _ _ ?_
  rw[q1n hno] at hT
  simp only[go_sem,]
  rw[z0h rfl rfl]
  exact hT _
theorem k5p {V:List Var} {nm:List Nat} {u:Tip} (hl:V.length≤1000) (hno:∀ v∈V,v.name≠nm):Pure Gam 170 [.sl (V.map z1k) u, .str nm] (.bool false):=by
 refine Pure.of rfl u6p rfl rfl rfl (az:=[.sl (V.map z1k) .no, .str nm]) rfl (by simp[idsL,z5x,AV.ids,z0c z2l]) fun D B clk T hB hT=> ?_
 simp only[go_sem,y6c,hB]
 refine z1t (fun m q=>∃ (i:Nat),i≤V.length∧m=V.length - i∧q.ts 0= .sl (V.map z1k) .no∧q.ts 1= .str nm∧q.ts 5= .int .i64 (i:Int)∧q.h=D) V.length ⟨0,by omega,rfl,rfl,rfl,rfl,by simp⟩ ?_
 rintro m ⟨ts,h',clk⟩ P ⟨i,hi,rfl,h0,h1,h5,rfl⟩ hnx he hr
 dsimp only at h0 h1 h5
 by_cases hlt:i < V.length
 ·have f1:decide ((i:Int) < (V.length:Int))=true:=by rw[z04];omega
  have f2:IntKind.i64.wrap ((i:Int) + 1)=((i + 1:Nat):Int):=z0e (by omega) (by omega)
  have e2:decide (V[i].name=nm)=false:=by simp[hno _ (j9 hlt)]
  simp only[go_sem,j5w,h0,h1,h5,hB,z6,f1,f2,e2,z7o hlt]
  exact hnx (V.length - (i + 1)) _ (by omega) ⟨i + 1,hlt,rfl,h0,h1,rfl,rfl⟩
 ·have f1:decide ((i:Int) < (V.length:Int))=false:=by rw[z03];omega
  simp only[go_sem,j5w,h0,h1,h5,hB,z6,f1]
  refine he _ _ ?_
  simp only[go_sem,]
  rw[z0d]
  exact hT _
theorem k0a {ps:List Func} {f:Func} (hp:PrOk ps) (hf:f∈ps):∃ k,∃ h:k < ps.length,ps[k]=f∧z9k ps f.name=(k:Int):=by
 obtain⟨k,hk,rfl⟩:=t4.1 hf
 refine⟨k,hk,rfl,q1m hk rfl fun p hpm e=> ?_⟩
 have h3:=hp.nodup
 have h4:((ps.take (k + 1)).map (·.name)).Nodup:=h3.sublist ((s6 _ _).map _)
 rw[w8 hk,v5,List.nodup_append] at h4
 exact h4.2.2 _ (y8.2 ⟨p,hpm,rfl⟩) _ (by simp) e
theorem w5k {s:Sys} {c:Clause} {a:App} (hs:SysV s) (hV:∀ v∈c.vars,v∈z1w) (hVl:c.vars.length≤1000) (ha:AppOk s.preds c.vars a):Pure Gam 148 [z2i s,z0g c,z2b a] (.bool true):=by
 obtain⟨f,hf,hpn,hal,hz⟩:=ha
 obtain⟨k,hk,hkf,hpa⟩:=k0a hs.pr hf
 have hfl:=(hs.pr.args f hf).1
 have hpl:s.preds.length≤1000:=by have:=hs.preds.length_le;simp[allPreds] at this;omega
 have p1:=j6x (s:=s) (nm:=a.pred) hpl
 rw[hpn,hpa] at p1
 simp only[z2i] at p1
 refine Pure.of rfl u6d rfl rfl rfl (az:=[z2i s,z0g c,z2b a]) rfl (by simp[idsL,z3n,z5w,z8b]) fun D B clk T hB hT=> ?_
 have e1:decide ((k:Int) < 0)=false:=by rw[z03];omega
 simp only[go_sem,y5u,hB,z2i,z0g,z2b,hpn,z6,z0a p1,e1,hal,z8q hk,hkf,decide_true,z7]
 refine z1t (fun m q=>∃ (i g0 g1 g2:Nat),i≤f.args.length∧m=f.args.length - i∧q.ts 3= .ptr (B + 0) g0 0 0∧q.ts 4= .ptr (B + 1) g1 0 0∧q.ts 5= .ptr (B + 2) g2 0 0∧q.ts 7= .int .i64 (k:Int)∧q.ts 8= .int .i64 (i:Int)∧q.h=D++[.blk g0 [.agg [.sl (s.preds.map z1f) .no, .sl (s.clauses.map z0g) .no]] false false 0, .blk g1 [.agg [.sl (c.vars.map z1k) .no, .sl (c.body.map z2b) .no,z0k c.guard, .str c.head.pred, .sl (c.head.args.map z0k) .no]] false false 0, .blk g2 [.agg [.str f.name, .sl (a.args.map z0k) .no]] false false 0]) f.args.length ⟨0,_,_,_,by omega,rfl,rfl,rfl,rfl,rfl,rfl,rfl⟩ ?_
 rintro m ⟨ts,h',clk⟩ P ⟨i,g0,g1,g2,hi,rfl,h3,h4,h5,h7,h8,rfl⟩ hnx he hr
 dsimp only at h3 h4 h5 h7 h8
 by_cases hlt:i < f.args.length
 ·have f1:decide ((i:Int) < (f.args.length:Int))=true:=by rw[z04];omega
  have f2:IntKind.i64.wrap ((i:Int) + 1)=((i + 1:Nat):Int):=z0e (by omega) (by omega)
  have hlt2:i < a.args.length:=by omega
  have hg:=hz (f.args[i],a.args[i]) (by
   rw[t4]
   exact⟨i,by simp;omega,by simp⟩)
  have p2:=j3i hV hVl (by have:=hg.2.1;omega) (by decide) hg.1 hg.2.2.1
  simp only[nat] at p2
  simp only[go_sem,j5s,h3,h4,h5,h7,h8,hB,z6,hal,f1,f2,q5t hlt2,z8q hk,hkf,q6w hlt,nat,z0a p2,z7]
  exact hnx (f.args.length - (i + 1)) _ (by omega) ⟨i + 1,g0,g1,g2,hlt,rfl,h3,h4,h5,h7,rfl,rfl⟩
 ·have f1:decide ((i:Int) < (f.args.length:Int))=false:=by rw[z03];omega
  simp only[go_sem,j5s,h3,h4,h5,h7,h8,hB,z6,hal,f1]
  refine he _ _ ?_
  simp only[go_sem,]
  rw[z0d]
  exact hT _
theorem x1u {V:List Var} (h:List.Sublist V z1w):V.length≤8:=by have:=h.length_le;simpa [z1w] using this
theorem w5l {s:Sys} {V:List Var} (hs:SysV s) (hV:List.Sublist V z1w):Pure Gam 147 [z2i s, .sl (V.map z1k) .no] (.bool true):=by
 have hVl:=x1u hV
 have hnd:(V.map (·.name)).Nodup:=(hV.map _).nodup (by decide)
 have hpl:s.preds.length≤1000:=by have:=hs.preds.length_le;simp[allPreds] at this;omega
 refine Pure.of rfl u6c rfl rfl rfl (az:=[z2i s, .sl (V.map z1k) .no]) rfl (by simp[idsL,z3n,z5x]) fun D B clk T hB hT=> ?_
 simp only[go_sem,y5t,hB,z2i]
 refine z1t (fun m q=>∃ (i g0:Nat),i≤V.length∧m=V.length - i∧q.ts 1= .sl (V.map z1k) .no∧q.ts 2= .ptr (B + 0) g0 0 0∧q.ts 5= .int .i64 (i:Int)∧q.h=D++[.blk g0 [.agg [.sl (s.preds.map z1f) .no, .sl (s.clauses.map z0g) .no]] false false 0]) V.length ⟨0,_,by omega,rfl,rfl,rfl,rfl,rfl⟩ ?_
 rintro m ⟨ts,h',clk⟩ P ⟨i,g0,hi,rfl,h1,h2,h5,rfl⟩ hnx he hr
 dsimp only at h1 h2 h5
 by_cases hlt:i < V.length
 ·have f1:decide ((i:Int) < (V.length:Int))=true:=by rw[z04];omega
  have f2:IntKind.i64.wrap ((i:Int) + 1)=((i + 1:Nat):Int):=z0e (by omega) (by omega)
  have hv:V[i]∈z1w:=hV.mem (j9 hlt)
  have hnew:∀ v∈V.take i,v.name≠V[i].name:=fun v hv e=>by
   have h4:((V.take (i + 1)).map (·.name)).Nodup:=hnd.sublist ((s6 _ _).map _)
   rw[w8 hlt,v5,List.nodup_append] at h4
   exact h4.2.2 _ (y8.2 ⟨v,hv,rfl⟩) _ (by simp) e
  have hso:=q6a hv
  have p1:=k5m hv
  have p2:=j3d hso.1 hso.2
  have p3:=k5p (u:= .no) (V:=V.take i) (nm:=V[i].name) (by simp;omega) hnew
  have p4:=j6x (s:=s) (nm:=V[i].name) hpl
  rw[q1n fun p hp=>hs.apart p hp _ hv] at p4
  simp only[nat,z2i] at p2 p4
  have e3:∀ h,slV h (some 2) (.sl (V.map z1k) .no) none (some (.int .i64 (i:Int))) none=some (.sl ((V.take i).map z1k) .no,h):=fun h=>by
   have hh:z4q 2 (V.map z1k)=true:=by cases V <;> rfl
   rw[x6g (by simp;omega) hh,List.map_take];simp
  simp only[go_sem,j5r,h1,h2,h5,hB,z6,f1,f2,z7o hlt,nat,z0a p1,z0a p2,e3,z0a p3,z0a p4,z7,j5,Int.reduceLE,decide_false]
  exact hnx (V.length - (i + 1)) _ (by omega) ⟨i + 1,g0,hlt,rfl,h1,h2,rfl,rfl⟩
 ·have f1:decide ((i:Int) < (V.length:Int))=false:=by rw[z03];omega
  simp only[go_sem,j5r,h1,h2,h5,hB,z6,f1]
  refine he _ _ ?_
  simp only[go_sem,]
  rw[z0d]
  exact hT _
def x7e (h:List AObj) (n esz:Nat) (x ix:AV):Option (AV×List AObj):=match ix with
 | .int _ i=>if 0≤i then match x with
   | .ptr s g k o=>if i.toNat < n then some (.ptr s g k (o + i.toNat * esz),h) else none
   | .iptr cs o=>if i.toNat < n then some (.iptr cs (o + i.toNat * esz),h) else none
   | _=>none
   else none
 | _=>none
theorem w5m {h:List AObj} {base g n esz:Nat} {ts:Tmps} {x ix:AOpd}:prim h base g ts (.indexAddr (some n) esz x ix)=x7e h n esz (x.ev ts) (ix.ev ts):=by
 simp only[prim,x7e]
 cases ix.ev ts <;> try rfl
 cases x.ev ts <;> rfl
theorem w5n {B n esz g clk:Nat} {ts:Tmps} {h:List AObj} {x ix:AOpd} {dst:Option Nat} {os:List AOper} {ks:List Kf} {Q:Post}:O Gam B .plain g (⟨dst,(.indexAddr (some n) esz x ix),none⟩::os) ⟨ts,h,clk⟩ ks Q=PP Gam B (x7e h n esz (x.ev ts) (ix.ev ts)) dst g os ts clk ks Q:=by rw[q4m rfl,w5m]
attribute [go_sem] w5n
theorem w5o {f:Func} (hf:f∈allPreds):Pure Gam 222 [z1f f] (.bool true):=by
 refine Pure.tab (tab:=k0u) rfl rfl ?_
 simp only[allPreds,y3,List.not_mem_nil,or_false] at hf
 rcases hf with rfl | rfl | rfl | rfl | rfl | rfl <;> rfl
theorem SysV.pl {s:Sys} (hs:SysV s):s.preds.length≤6:=by have:=hs.preds.length_le;simpa [allPreds] using this
theorem w5p {s:Sys} (hs:SysV s):Pure Gam 146 [z2i s] (.bool true):=by
 have hpl:=hs.pl
 refine Pure.of rfl u6b rfl rfl rfl (az:=[z2i s]) rfl (by simp[idsL,z3n]) fun D B clk T hB hT=> ?_
 simp only[go_sem,y5s,hB,z2i]
 refine z1t (fun m q=>∃ (i g0:Nat),i≤s.preds.length∧m=s.preds.length - i∧q.ts 1= .ptr (B + 0) g0 0 0∧q.ts 3= .int .i64 (i:Int)∧q.h=D++[.blk g0 [.agg [.sl (s.preds.map z1f) .no, .sl (s.clauses.map z0g) .no]] false false 0]) s.preds.length ⟨0,_,by omega,rfl,rfl,rfl,rfl⟩ ?_
 rintro m ⟨ts,h',clk⟩ P ⟨i,g0,hi,rfl,h1,h3,rfl⟩ hnx he hr
 dsimp only at h1 h3
 by_cases hlt:i < s.preds.length
 ·have f1:decide ((i:Int) < (s.preds.length:Int))=true:=by rw[z04];omega
  have f2:IntKind.i64.wrap ((i:Int) + 1)=((i + 1:Nat):Int):=z0e (by omega) (by omega)
  have hm:=j9 hlt
  have p1:=w5o (hs.preds.mem hm)
  have hres:∀ f∈allPreds,f.result=1:=by decide
  have e1:=hres _ (hs.preds.mem hm)
  have p2:=j6x (s:=s) (nm:=s.preds[i].name) (by omega)
  rw[q1m hlt rfl fun p hpm e=>by
   have h3:=hs.pr.nodup
   have h4:((s.preds.take (i + 1)).map (·.name)).Nodup:=h3.sublist ((s6 _ _).map _)
   rw[w8 hlt,v5,List.nodup_append] at h4
   exact h4.2.2 _ (y8.2 ⟨p,hpm,rfl⟩) _ (by simp) e] at p2
  simp only[z1f,z2i,nat] at p1 p2
  rw[e1] at p1
  simp only[z9] at p1
  simp only[go_sem,j5q,h1,h3,hB,z6,f1,f2,z8q hlt,e1,nat,z0a p1,z0a p2,z9,decide_true,z7]
  exact hnx (s.preds.length - (i + 1)) _ (by omega) ⟨i + 1,g0,hlt,rfl,h1,rfl,rfl⟩
 ·have f1:decide ((i:Int) < (s.preds.length:Int))=false:=by rw[z03];omega
  simp only[go_sem,j5q,h1,h3,hB,z6,f1]
  refine he _ _ ?_
  simp only[go_sem,]
  rw[z0d]
  exact hT _
theorem y8d {s:Sys} (hs:SysV s):Pure Gam 82 [z2i s] (.sl [] .no):=by
 have hpl:=hs.pl
 have hcl:=hs.len
 have p0:=w5p hs
 simp only[z2i] at p0
 refine Pure.of rfl g4v rfl rfl rfl (az:=[z2i s]) rfl (by simp[idsL,z3n]) fun D B clk T hB hT=> ?_
 have ea1:∀ (h:List AObj) (g:Nat),x7e h 7 1 (.ptr (B + 6) g 0 0) (.int .i64 1)=some (.ptr (B + 6) g 0 1,h):=fun _ _=>rfl
 have ea2:∀ (h:List AObj) (g:Nat),x7e h 7 1 (.ptr (B + 6) g 0 0) (.int .i64 2)=some (.ptr (B + 6) g 0 2,h):=fun _ _=>rfl
 have ea3:∀ (h:List AObj) (g:Nat),x7e h 7 1 (.ptr (B + 6) g 0 0) (.int .i64 3)=some (.ptr (B + 6) g 0 3,h):=fun _ _=>rfl
 have ea4:∀ (h:List AObj) (g:Nat),x7e h 7 1 (.ptr (B + 6) g 0 0) (.int .i64 4)=some (.ptr (B + 6) g 0 4,h):=fun _ _=>rfl
 have ea5:∀ (h:List AObj) (g:Nat),x7e h 7 1 (.ptr (B + 6) g 0 0) (.int .i64 5)=some (.ptr (B + 6) g 0 5,h):=fun _ _=>rfl
 have ea6:∀ (h:List AObj) (g:Nat),x7e h 7 1 (.ptr (B + 6) g 0 0) (.int .i64 6)=some (.ptr (B + 6) g 0 6,h):=fun _ _=>rfl
 have f0:decide ((512:Int) < (s.preds.length:Int))=false:=by rw[z03];omega
 have f00:decide ((2048:Int) < (s.clauses.length:Int))=false:=by rw[z03];omega
 simp only[go_sem,g0q,hB,z2i,z0a p0,z7,z6,f0,f00]
 refine z1t (fun m q=>∃ (i g0:Nat) (o1 o2 o3 o4 o5 o6 o7 o8:AObj),i≤s.clauses.length∧m=s.clauses.length - i∧q.ts 1= .ptr (B + 0) g0 0 0∧q.ts 3= .sl [] .nil∧q.ts 4= .int .i64 (i:Int)∧q.h=D++[.blk g0 [.agg [.sl (s.preds.map z1f) .no, .sl (s.clauses.map z0g) .no]] false false 0,o1,o2,o3,o4,o5,o6,o7,o8]) s.clauses.length ⟨0,_,_,_,_,_,_,_,_,_,by omega,rfl,rfl,rfl,rfl,rfl⟩ ?_
 rintro m ⟨ts,h',clk⟩ P ⟨i,g0,o1,o2,o3,o4,o5,o6,o7,o8,hi,rfl,h1,h3,h4,rfl⟩ hnx he hr
 dsimp only at h1 h3 h4
 by_cases hlt:i < s.clauses.length
 ·have f1:decide ((i:Int) < (s.clauses.length:Int))=true:=by rw[z04];omega
  have f2:IntKind.i64.wrap ((i:Int) + 1)=((i + 1:Nat):Int):=z0e (by omega) (by omega)
  have hc:=hs.clauses _ (j9 hlt)
  have hix:∀ h,z1m h 5 (.sl (s.clauses.map z0g) .no) (.int .i64 (i:Int))=some (.iptr [.sl (s.clauses[i].vars.map z1k) .no, .sl (s.clauses[i].body.map z2b) .no,z0k s.clauses[i].guard, .str s.clauses[i].head.pred, .sl (s.clauses[i].head.args.map z0k) .no] 0,h):=fun h=>z3a hlt rfl rfl
  generalize s.clauses[i]=c at hc hix
  obtain⟨hv,hb,hbo,hg,hh⟩:=hc
  have hvl:=x1u hv
  have hvm:∀ v∈c.vars,v∈z1w:=fun v h=>hv.mem h
  have p1:=w5l hs hv
  have p2:=j3i hvm (by omega) (by have:=hg.2.1;omega) (by decide) hg.1 (by decide)
  simp only[z2i,nat,z0k,z9] at p1 p2
  have p3:∀ a,AppOk s.preds c.vars a→Pure Gam 148 [.agg [.sl (s.preds.map z1f) .no, .sl (s.clauses.map z0g) .no], .agg [.sl (c.vars.map z1k) .no, .sl (c.body.map z2b) .no, .sl (c.guard.map eNode) .no, .str c.head.pred, .sl (c.head.args.map z0k) .no], .agg [.str a.pred, .sl (a.args.map z0k) .no]] (.bool true):=fun a ha=>w5k hs hvm (by omega) ha
  simp only[go_sem,k9y,h1,h3,h4,hB,z6,f1,hix,z0k,z0a p1,z7,ea2]
  refine z1t (fun m q=>∃ (j g5 g6:Nat),j≤c.body.length∧m=c.body.length - j∧q.ts 1= .ptr (B + 0) g0 0 0∧q.ts 3= .sl [] .nil∧q.ts 4= .int .i64 (i:Int)∧q.ts 5= .ptr (B + 5) g5 0 0∧q.ts 6= .ptr (B + 6) g6 0 0∧q.ts 7= .int .i64 (j:Int)∧q.h=D++[.blk g0 [.agg [.sl (s.preds.map z1f) .no, .sl (s.clauses.map z0g) .no]] false false 0,o1,o2,o3,o4, .blk g5 [.agg [.sl (c.vars.map z1k) .no, .sl (c.body.map z2b) .no, .sl (c.guard.map eNode) .no, .str c.head.pred, .sl (c.head.args.map z0k) .no]] false false 0, .blk g6 [.agg [.bool false, .bool false, .bool false, .bool false, .bool false, .bool false, .bool false]] false false 0,o7,o8]) c.body.length ⟨0,_,_,by omega,rfl,h1,h3,h4,rfl,rfl,rfl,rfl⟩ ?_
  clear h1 h3 h4
  rintro m ⟨ts,h',clk⟩ P2 ⟨j,g5,g6,hj,rfl,h1,h3,h4,h5,h6,h7,rfl⟩ hnx2 he2 hr2
  dsimp only at h1 h3 h4 h5 h6 h7
  by_cases hltj:j < c.body.length
  ·have e1:decide ((j:Int) < (c.body.length:Int))=true:=by rw[z04];omega
   have e2:IntKind.i64.wrap ((j:Int) + 1)=((j + 1:Nat):Int):=z0e (by omega) (by omega)
   have hja:∀ h,z1m h 2 (.sl (c.body.map z2b) .no) (.int .i64 (j:Int))=some (.iptr [.str c.body[j].pred, .sl (c.body[j].args.map z0k) .no] 0,h):=fun h=>z3a hltj rfl rfl
   have p4:=p3 _ (hbo _ (j9 hltj))
   simp only[go_sem,k4j,h1,h3,h4,h5,h6,h7,hB,z6,e1,ea3,hja,z0a p4,z7,e2]
   exact hnx2 (c.body.length - (j + 1)) _ (by omega) ⟨j + 1,g5,g6,hltj,rfl,h1,h3,h4,h5,h6,rfl,rfl⟩
  ·have e1:decide ((j:Int) < (c.body.length:Int))=false:=by rw[z03];omega
   simp only[go_sem,k4j,h1,h3,h4,h5,h6,h7,hB,z6,e1]
   refine he2 _ _ ?_
   have g1:decide ((400:Int) < (c.vars.length:Int))=false:=by rw[z03];omega
   have g2:decide ((8:Int) < (c.body.length:Int))=false:=by rw[z03];omega
   have last:∀ (ts:Tmps) (clk:Nat),ts 1= .ptr (B + 0) g0 0 0→ts 3= .sl [] .nil→ts 4= .int .i64 (i:Int)→ts 6= .ptr (B + 6) g6 0 0→ts 8= .int .i64 1→K Gam B (.loop q8m) [.block 4, .block 1, .seq (.region 3 [⟨some 35, .move (.tmp 4),none⟩,⟨some 36, .binOp .add (.one .int) (.tmp 35) (.const (.int .i64 1)),none⟩,⟨some 4, .move (.tmp 36),none⟩] [])] ⟨ts,D++[.blk g0 [.agg [.sl (s.preds.map z1f) .no, .sl (s.clauses.map z0g) .no]] false false 0,o1,o2,o3,o4, .blk g5 [.agg [.sl (c.vars.map z1k) .no, .sl (c.body.map z2b) .no, .sl (c.guard.map eNode) .no, .str c.head.pred, .sl (c.head.args.map z0k) .no]] false false 0, .blk g6 [.agg [.bool false, .bool false, .bool false, .bool false, .bool false, .bool false, .bool false]] false false 0,o7,o8],clk⟩ P:=by
    clear h1 h3 h4 h5 h6
    intro ts clk h1 h3 h4 h6 h8
    refine z1t (fun m q=>∃ k:Nat,1≤k∧k≤7∧m=7 - k∧q.ts 1= .ptr (B + 0) g0 0 0∧q.ts 3= .sl [] .nil∧q.ts 4= .int .i64 (i:Int)∧q.ts 6= .ptr (B + 6) g6 0 0∧q.ts 8= .int .i64 (k:Int)∧q.h=D++[.blk g0 [.agg [.sl (s.preds.map z1f) .no, .sl (s.clauses.map z0g) .no]] false false 0,o1,o2,o3,o4, .blk g5 [.agg [.sl (c.vars.map z1k) .no, .sl (c.body.map z2b) .no, .sl (c.guard.map eNode) .no, .str c.head.pred, .sl (c.head.args.map z0k) .no]] false false 0, .blk g6 [.agg [.bool false, .bool false, .bool false, .bool false, .bool false, .bool false, .bool false]] false false 0,o7,o8]) 6 ⟨1,by omega,by omega,rfl,h1,h3,h4,h6,h8,rfl⟩ ?_
    clear h1 h3 h4 h6 h8
    rintro m ⟨ts,h',clk⟩ P3 ⟨k,hk1,hk7,rfl,h1,h3,h4,h6,h8,rfl⟩ hnx3 he3 hr3
    dsimp only at h1 h3 h4 h6 h8
    have step:∀ k:Nat,IntKind.i64.wrap ((k:Int) + 1)=((k + 1:Nat):Int)∨7 < k:=fun k=>by
     by_cases hk:k≤7
     ·exact .inl (z0e (by omega) (by omega))
     ·exact .inr (by omega)
    have hw:=(step k).resolve_right (by omega)
    by_cases hk:k < 7
    ·have e1:decide ((k:Int) < 7)=true:=by rw[z04];omega
     have hcase:k=1∨k=2∨k=3∨k=4∨k=5∨k=6:=by omega
     rcases hcase with rfl | rfl | rfl | rfl | rfl | rfl
     ·simp only[z9] at h8 hw e1
      simp only[go_sem,q8m,h1,h3,h4,h6,h8,hB,e1,ea1,hw]
      exact hnx3 (7 - 2) _ (by omega) ⟨2,by omega,by omega,rfl,h1,h3,h4,h6,rfl,rfl⟩
     ·simp only[z9] at h8 hw e1
      simp only[go_sem,q8m,h1,h3,h4,h6,h8,hB,e1,ea2,hw]
      exact hnx3 (7 - 3) _ (by omega) ⟨3,by omega,by omega,rfl,h1,h3,h4,h6,rfl,rfl⟩
     ·simp only[z9] at h8 hw e1
      simp only[go_sem,q8m,h1,h3,h4,h6,h8,hB,e1,ea3,hw]
      exact hnx3 (7 - 4) _ (by omega) ⟨4,by omega,by omega,rfl,h1,h3,h4,h6,rfl,rfl⟩
     ·simp only[z9] at h8 hw e1
      simp only[go_sem,q8m,h1,h3,h4,h6,h8,hB,e1,ea4,hw]
      exact hnx3 (7 - 5) _ (by omega) ⟨5,by omega,by omega,rfl,h1,h3,h4,h6,rfl,rfl⟩
     ·simp only[z9] at h8 hw e1
      simp only[go_sem,q8m,h1,h3,h4,h6,h8,hB,e1,ea5,hw]
      exact hnx3 (7 - 6) _ (by omega) ⟨6,by omega,by omega,rfl,h1,h3,h4,h6,rfl,rfl⟩
     ·simp only[z9] at h8 hw e1
      simp only[go_sem,q8m,h1,h3,h4,h6,h8,hB,e1,ea6,hw]
      exact hnx3 (7 - 7) _ (by omega) ⟨7,by omega,by omega,rfl,h1,h3,h4,h6,rfl,rfl⟩
    ·have e1:decide ((k:Int) < 7)=false:=by rw[z03];omega
     simp only[go_sem,q8m,h1,h3,h4,h6,h8,hB,e1]
     refine he3 _ _ ?_
     simp only[go_sem,h1,h3,h4,f2]
     exact hnx (s.clauses.length - (i + 1)) _ (by omega) ⟨i + 1,g0,_,_,_,_,_,_,_,_,hlt,rfl,h1,h3,rfl,rfl⟩
   rcases hh with ⟨hp,hargs⟩ | ha
   ·have g3:decide (c.head.pred=[])=true:=by simp[hp]
    simp only[hargs,w7] at last
    simp only[go_sem,h1,h3,h4,h5,h6,hB,z0a p2,z7,j5,ea4,ea5,ea6,g1,g2,g3,hargs,w7,decide_false,Int.lt_irrefl,z6]
    exact last _ _ h1 h3 h4 h6 rfl
   ·obtain⟨f,hf,hpn,hfr⟩:=id ha
    have g3:decide (c.head.pred=[])=false:=by simp[hpn,hs.pr.name f hf]
    have p5:=p3 _ ha
    simp only[go_sem,h1,h3,h4,h5,h6,hB,z0a p2,z7,j5,ea4,ea5,ea6,g3,g1,g2,z0a p5,z6]
    exact last _ _ h1 h3 h4 h6 rfl
 ·have f1:decide ((i:Int) < (s.clauses.length:Int))=false:=by rw[z03];omega
  simp only[go_sem,k9y,h1,h3,h4,hB,z6,f1]
  refine he _ _ ?_
  simp only[go_sem,h3]
  rw[z0h rfl rfl]
  exact hT _
theorem y8e {s:Sys} (hs:SysV s):Pure Gam 35 [z2i s] (.bool true):=by
 have p0:=y8d hs
 simp only[z2i] at p0
 refine Pure.of rfl g4u rfl rfl rfl (az:=[z2i s]) rfl (by simp[idsL,z3n]) fun D B clk T hB hT=> ?_
 simp only[go_sem,g0p,hB,z2i,z0a p0,decide_true]
 rw[z0d]
 exact hT _
theorem z7s {l:List (List Nat)} {i:Nat} {h:List AObj} {t:Tip} {k:IntKind} (hi:i < l.length):z1m h 1 (.sl (z2s l) t) (.int k (i:Int))=some (.iptr [.str l[i]] 0,h):=z3a hi rfl rfl
theorem k0b {D L:List AObj} {B k g i:Nat} {es:List AV} {w:Bool} {b b':Bool} (hB:D.length=B) (hL:L[k]? =some (.blk g es true w 0)) (hi:es[i]? =some (.bool b')):z5q (D++L) 1 (.bool b) (.ptr (B + k) g i 0)=some (.undef,D++L.set k (.blk g (es.set i (.bool b)) true w 0)):=by
 have hb:z1u (D++L) (B + k) g=some (es,true,w,0):=by rw[z2k hB];exact z2g hL
 rw[z6w,hb]
 have hp:pub (D++L) (.bool b)=some (.bool b,D++L):=rfl
 simp only[hi,if_true,hp,j4p,x3x,w0,List.all_cons,List.all_nil,j4q,Bool.and_self,true_and,Nat.zero_le,j5b,w7,List.contains_nil,j5,and_self,implies_true,z8f,y4,Nat.le_refl,List.take_zero,List.nil_append,List.drop_succ_cons,List.drop_nil,List.append_nil,Option.map_some,x0p,x0n,z2a hB]
structure CmpC (c:Clause):Prop where
 vars:c.vars.length≤20000
 body:c.body.length≤20000
 guard:c.guard.length≤20000
 head:c.head.args.length≤20000∧∀ t∈c.head.args,t.length≤20000
 atoms:∀ a∈c.body,a.args.length≤20000∧∀ t∈a.args,t.length≤20000
theorem z3t {base:Nat} {b:ACode} {ks:List Kf} {s:St} {Q:Post} (n:Nat) (hn:n≤2 ^ 62) (J:Nat→St→Prop) (h0:J 0 s)
  (hstep:∀ i,i < n→decide ((i:Int) < (n:Int))=true→IntKind.i64.wrap ((i:Int) + 1)=((i + 1:Nat):Int)→∀ ts h clk (P:Post),J i ⟨ts,h,clk⟩→(∀ s',J (i + 1) s'→P .norm s')→(∀ k s',K Gam base (.exit k) ks s' Q→P (.exit k) s')→(∀ s',K Gam base .ret ks s' Q→P .ret s')→K Gam base b [] ⟨ts,h,clk⟩ P)
  (hend:decide ((n:Int) < (n:Int))=false→∀ ts h clk (P:Post),J n ⟨ts,h,clk⟩→(∀ k s',K Gam base (.exit k) ks s' Q→P (.exit k) s')→(∀ s',K Gam base .ret ks s' Q→P .ret s')→K Gam base b [] ⟨ts,h,clk⟩ P):K Gam base (.loop b) ks s Q:=by
 refine z1t (fun m q=>∃ i:Nat,i≤n∧m=n - i∧J i q) n ⟨0,by omega,rfl,h0⟩ ?_
 rintro m ⟨ts,h,clk⟩ P ⟨i,hi,rfl,hj⟩ hnx he hr
 by_cases hlt:i < n
 ·exact hstep i hlt (by rw[z04];omega) (z0e (by omega) (by omega)) ts h clk P hj (fun s' h=>hnx (n - (i + 1)) s' (by omega) ⟨i + 1,hlt,rfl,h⟩) he hr
 ·obtain rfl:i=n:=by omega
  exact hend (by rw[z03];omega) ts h clk P hj he hr
end Go.Proofs.YtkollgjffkdliaaGreatDoor.Am
